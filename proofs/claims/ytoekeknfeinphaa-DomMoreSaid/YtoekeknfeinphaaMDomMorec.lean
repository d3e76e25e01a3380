/- Texts of this session, joined by wip/tools/merge.py. Conditions: each theorem's own. -/
import Derived.Test.YtoekeknfeinphaaGx0
import Derived.Test.YtoekeknfeinphaaGx19
import Derived.Test.YtoekeknfeinphaaGx6
import Derived.Test.YtoekeknfeinphaaGx15
import Derived.Test.YtoekeknfeinphaaGx20
import Derived.Test.YtoekeknfeinphaaGx21
import Derived.Test.YtoekeknfeinphaaGx9
namespace Go.Proofs.Ytoekeknfeinphaa.G
open Go.Proofs.YtoekeknfeinphaaH
open Go.RowKit Go.Proofs.YtoekeknfeinphaaW.PrintWords Go.Proofs.YtoekeknfeinphaaW.PrintLast Go.Proofs.YtoekeknfeinphaaW.PrintMore
attribute [local go_sem] max2_int min2_int max_two min_two max_three min_three max_four min_four   -- for this text's walks alone
set_option linter.unusedVariables false
set_option linter.unusedSimpArgs false

/-! ### lockstepref02_Ints: function 25 -/
def lockstepref02_Ints.l0 : Nat → List Int → List Int → Int → Option (Bool)
 | 0, _, _, _ => none
 | k + 1, x0, x1, x5 => if x5 < (x0.length : Int) then (if 0 ≤ x5 then (if x5 < (x1.length : Int) then (if (rd x0 x5) = (rd x1 x5) then (lockstepref02_Ints.l0 k x0 x1 (wrap64 (x5 + 1))) else (some false)) else (none)) else (none)) else (some true)
def lockstepref02_Ints.f (k : Nat) (l0 : List Int) (l1 : List Int) : Option (Bool) := if (l0.length : Int) = (l1.length : Int) then (lockstepref02_Ints.l0 k l0 l1 0) else (some false)
theorem lockstepref02_Ints.mono_l : ∀ k, (∀ y0 y1 y2, LeO (lockstepref02_Ints.l0 k y0 y1 y2) (lockstepref02_Ints.l0 (k + 1) y0 y1 y2))
 | 0 => fun _ _ _ r h => by simp [lockstepref02_Ints.l0] at h
 | k + 1 => by
  have ih0 := lockstepref02_Ints.mono_l k
  ·intro y0 y1 y2
   unfold lockstepref02_Ints.l0
   repeat' first
   | (with_reducible exact ih0 _ _ _)
   | (with_reducible exact LeO.refl _)
   | (with_reducible exact LeO.none _)
   | (with_reducible refine LeO.ite ?_ ?_)
   | (with_reducible refine LeO.bind ?_ (fun _ => ?_))
   | exact ih0 _ _ _
   | exact LeO.none _
   | refine LeO.ite ?_ ?_
   | refine LeO.bind ?_ (fun _ => ?_)
theorem lockstepref02_Ints.mono : ∀ a0 a1 k, LeO (lockstepref02_Ints.f k a0 a1) (lockstepref02_Ints.f (k + 1) a0 a1) := by
 intro a0 a1 k
 have ih0 := lockstepref02_Ints.mono_l k
 unfold lockstepref02_Ints.f
 repeat' first
  | (with_reducible exact ih0 _ _ _)
  | (with_reducible exact LeO.refl _)
  | (with_reducible exact LeO.none _)
  | (with_reducible refine LeO.ite ?_ ?_)
  | (with_reducible refine LeO.bind ?_ (fun _ => ?_))
  | exact ih0 _ _ _
  | exact LeO.none _
  | refine LeO.ite ?_ ?_
  | refine LeO.bind ?_ (fun _ => ?_)
set_option maxHeartbeats 8000000 in
set_option maxRecDepth 100000 in
theorem lockstepref02_Ints.calls (k : Nat) (A0 : Option Addr) (c0 : Nat) (l0 : List Int) (A1 : Option Addr) (c1 : Nat) (l1 : List Int) (r : Bool) (w : World) (hr0 : Kd.C (Kd.int .i64) w A0 l0.length l0) (hc0 : l0.length ≤ c0) (hr1 : Kd.C (Kd.int .i64) w A1 l1.length l1) (hc1 : l1.length ≤ c1) (h : lockstepref02_Ints.f k l0 l1 = some r) :
 Calls Try.prog 25 #[.slice A0 l0.length c0, .slice A1 l1.length c1] w fun e w' => e = .returned (.bool r) ∧ Drawn0 w w' := by
 have HR0 := Aside0.mk hr0
 have HC0 := Aside0.mk hc0
 clear hr0 hc0
 have HR1 := Aside0.mk hr1
 have HC1 := Aside0.mk hc1
 clear hr1 hc1
 have H : (if (l0.length : Int) = (l1.length : Int) then (lockstepref02_Ints.l0 k l0 l1 0) else (some false)) = some r := h
 clear h
 by_cases c3 : (l0.length : Int) = (l1.length : Int)
 ·rw [if_pos c3] at H
  have c3b0 : ((l0.length : Int) == (l1.length : Int)) = true := beq_iff_eq.mpr c3
  have c3b1 : ((l0.length : Int) != (l1.length : Int)) = false := bne_eq_false_iff_eq.mpr c3
  have c3b2 : (l0.length == l1.length) = true := by first | simpa using c3 | (simp at c3 ⊢; omega)
  clear c3
  have H' := Aside0.mk H
  clear H
  go_enter Try.func25, Try.ntmps25
  go_wp2
  repeat (go_quiet (fail); try go_wp2)
  go_loopg [5] k (fun kq v5 w' => ∃ (x5_1 : Int), v5 = .int .i64 x5_1 ∧ Aside0 (lockstepref02_Ints.l0 kq l0 l1 x5_1 = some r) ∧ Aside0 (kq ≤ k) ∧ Drawn0 w w')
  case atStart => exact ⟨(0), (by first | rfl | (simp; done) | (simp [*]; done)), H', ⟨Nat.le_refl _⟩, by repeat (first | exact Drawn0.refl _ | apply Drawn0.step)⟩
  case round =>
   clear H'
   try clear c1
   try clear c3b0
   try clear c3b1
   try clear c3b2
   obtain ⟨x5_1, rfl, HA, HK1, ⟨m1, rfl⟩⟩ := hrel
   cases gk with
   | zero => exact absurd HA.out (by simp [lockstepref02_Ints.l0])
   | succ k1 =>
    have H := HA.out
    clear HA
    simp only [lockstepref02_Ints.l0] at H
    by_cases c4 : x5_1 < (l0.length : Int)
    ·rw [if_pos c4] at H
     have c4b0 : decide (x5_1 < (l0.length : Int)) = true := decide_eq_true c4
     clear c4
     by_cases c5 : 0 ≤ x5_1
     ·rw [if_pos c5] at H
      have c5b0 : decide (0 ≤ x5_1) = true := decide_eq_true c5
      clear c5
      by_cases c6 : x5_1 < (l1.length : Int)
      ·rw [if_pos c6] at H
       have c6b0 : decide (x5_1 < (l1.length : Int)) = true := decide_eq_true c6
       clear c6
       by_cases c7 : (rd l0 x5_1) = (rd l1 x5_1)
       ·rw [if_pos c7] at H
        have c7b0 : ((rd l0 x5_1) == (rd l1 x5_1)) = true := beq_iff_eq.mpr c7
        have c7b1 : ((rd l0 x5_1) != (rd l1 x5_1)) = false := bne_eq_false_iff_eq.mpr c7
        clear c7
        have H' := Aside0.mk H
        clear H
        have p341 : 0 ≤ (x5_1 : Int) := D_
        have q341 : x5_1 < (l0.length : Int) := D_
        obtain ⟨ad341, e341, hx341_0⟩ := Kd.at_int HR0.out x5_1 p341 q341
        cases e341
        replace p341 := eq_true p341
        replace q341 := eq_true q341
        have p342 : 0 ≤ (x5_1 : Int) := D_
        have q342 : x5_1 < (l1.length : Int) := D_
        obtain ⟨ad342, e342, hx342_0⟩ := Kd.at_int HR1.out x5_1 p342 q342
        cases e342
        replace p342 := eq_true p342
        replace q342 := eq_true q342
        go_wp2
        repeat (go_quiet (fail); try go_wp2)
        go_roundg k1
        case measure => have := HK1.out; omega
        case rel => exact ⟨(wrap64 (x5_1 + 1)), (by first | rfl | (simp; done) | (simp [*]; done)), H', ⟨by have := HK1.out; omega⟩, by repeat (first | exact Drawn0.refl _ | apply Drawn0.step)⟩
       rw [if_neg c7] at H
       have c7b0 : ((rd l0 x5_1) == (rd l1 x5_1)) = false := beq_eq_false_iff_ne.mpr c7
       have c7b1 : ((rd l0 x5_1) != (rd l1 x5_1)) = true := bne_iff_ne.mpr c7
       obtain rfl := Option.some.inj H
       have p341 : 0 ≤ (x5_1 : Int) := D_
       have q341 : x5_1 < (l0.length : Int) := D_
       obtain ⟨ad341, e341, hx341_0⟩ := Kd.at_int HR0.out x5_1 p341 q341
       cases e341
       replace p341 := eq_true p341
       replace q341 := eq_true q341
       have p342 : 0 ≤ (x5_1 : Int) := D_
       have q342 : x5_1 < (l1.length : Int) := D_
       obtain ⟨ad342, e342, hx342_0⟩ := Kd.at_int HR1.out x5_1 p342 q342
       cases e342
       replace p342 := eq_true p342
       replace q342 := eq_true q342
       go_wp2
       repeat (go_quiet (fail); try go_wp2)
       go_ret
       exact ⟨by first | rfl | (simp; done) | (simp [*]; done), by repeat (first | exact Drawn0.refl _ | apply Drawn0.step)⟩
      rw [if_neg c6] at H
      exact absurd H (by simp)
     rw [if_neg c5] at H
     exact absurd H (by simp)
    rw [if_neg c4] at H
    have c4b0 : decide (x5_1 < (l0.length : Int)) = false := decide_eq_false c4
    clear c4
    obtain rfl := Option.some.inj H
    go_wp2
    repeat (go_quiet (fail); try go_wp2)
    go_ret
    exact ⟨by first | rfl | (simp; done) | (simp [*]; done), by repeat (first | exact Drawn0.refl _ | apply Drawn0.step)⟩
 rw [if_neg c3] at H
 have c3b0 : ((l0.length : Int) == (l1.length : Int)) = false := beq_eq_false_iff_ne.mpr c3
 have c3b1 : ((l0.length : Int) != (l1.length : Int)) = true := bne_iff_ne.mpr c3
 have c3b2 : (l0.length == l1.length) = false := by first | simpa using c3 | (simp at c3 ⊢; omega)
 obtain rfl := Option.some.inj H
 go_enter Try.func25, Try.ntmps25
 go_wp2
 repeat (go_quiet (fail); try go_wp2)
 go_ret
 exact ⟨by first | rfl | (simp; done) | (simp [*]; done), by repeat (first | exact Drawn0.refl _ | apply Drawn0.step)⟩


/-! ### dom_Kids: function 27 -/
def dom_Kids.l0 : Nat → List Int → Int → List Int → List Int → Int → Int → Option (List Int)
 | 0, _, _, _, _, _, _ => none
 | k + 1, x0, x1, x5, x8, x9, x10 => if x10 < x9 then (if 0 ≤ x10 then (if x10 < (x8.length : Int) then (if (rd x8 x10) = x1 then ((dom_in.f k x0 (([x1] : List Int))).bind fun t697 => (if t697 = true then (if x5.length < 17592186044416 then (dom_Kids.l0 k x0 x1 (x5 ++ [x10]) x8 x9 (wrap64 (x10 + 1))) else (none)) else (dom_Kids.l0 k x0 x1 x5 x8 x9 (wrap64 (x10 + 1))))) else (dom_Kids.l0 k x0 x1 x5 x8 x9 (wrap64 (x10 + 1)))) else (none)) else (none)) else (some x5)
def dom_Kids.f (k : Nat) (l0 : List Int) (a1 : Int) : Option (List Int) := dom_Kids.l0 k l0 a1 ([] : List Int) l0 (l0.length : Int) 0
theorem dom_Kids.mono_l : ∀ k, (∀ y0 y1 y2 y3 y4 y5, LeO (dom_Kids.l0 k y0 y1 y2 y3 y4 y5) (dom_Kids.l0 (k + 1) y0 y1 y2 y3 y4 y5))
 | 0 => fun _ _ _ _ _ _ r h => by simp [dom_Kids.l0] at h
 | k + 1 => by
  have ih0 := dom_Kids.mono_l k
  ·intro y0 y1 y2 y3 y4 y5
   unfold dom_Kids.l0
   repeat' first
   | (with_reducible exact ih0 _ _ _ _ _ _)
   | (with_reducible exact dom_in.mono _ _ _)
   | (with_reducible exact LeO.refl _)
   | (with_reducible exact LeO.none _)
   | (with_reducible refine LeO.ite ?_ ?_)
   | (with_reducible refine LeO.bind ?_ (fun _ => ?_))
   | exact ih0 _ _ _ _ _ _
   | exact dom_in.mono _ _ _
   | exact LeO.none _
   | refine LeO.ite ?_ ?_
   | refine LeO.bind ?_ (fun _ => ?_)
theorem dom_Kids.mono : ∀ a0 a1 k, LeO (dom_Kids.f k a0 a1) (dom_Kids.f (k + 1) a0 a1) := by
 intro a0 a1 k
 have ih0 := dom_Kids.mono_l k
 unfold dom_Kids.f
 repeat' first
  | (with_reducible exact ih0 _ _ _ _ _ _)
  | (with_reducible exact dom_in.mono _ _ _)
  | (with_reducible exact LeO.refl _)
  | (with_reducible exact LeO.none _)
  | (with_reducible refine LeO.ite ?_ ?_)
  | (with_reducible refine LeO.bind ?_ (fun _ => ?_))
  | exact ih0 _ _ _ _ _ _
  | exact dom_in.mono _ _ _
  | exact LeO.none _
  | refine LeO.ite ?_ ?_
  | refine LeO.bind ?_ (fun _ => ?_)
set_option maxHeartbeats 8000000 in
set_option maxRecDepth 100000 in
theorem dom_Kids.calls (k : Nat) (A0 : Option Addr) (c0 : Nat) (l0 : List Int) (a1 : Int) (r : List Int) (w : World) (hr0 : Kd.C (Kd.int .i64) w A0 l0.length l0) (hc0 : l0.length ≤ c0) (h : dom_Kids.f k l0 a1 = some r) :
 Calls Try.prog 27 #[.slice A0 l0.length c0, .int .i64 a1] w fun e w' => ∃ v0_ : Value, e = .returned (v0_) ∧ Kd.R (Kd.int .i64) 3 w' w.heap.size (fun _ => True) v0_ r ∧ Below w.heap.size w w' := by
 have HR0 := Aside0.mk hr0
 have HC0 := Aside0.mk hc0
 clear hr0 hc0
 have HB := Aside0.mk (Below.refl w.heap.size w)
 have H : (dom_Kids.l0 k l0 a1 ([] : List Int) l0 (l0.length : Int) 0) = some r := h
 clear h
 have H' := Aside0.mk H
 clear H
 go_enter Try.func27, Try.ntmps27
 go_wp2
 go_loopg [5, 10] k (fun kq v5 v10 w' => ∃ (x5_1 : List Int) (x10_1 : Int), v10 = .int .i64 x10_1 ∧ Aside0 (dom_Kids.l0 kq l0 a1 x5_1 l0 (l0.length : Int) x10_1 = some r) ∧ Aside0 (kq ≤ k) ∧ Aside0 (Kd.R (Kd.int .i64) 3 w' w.heap.size (fun _ => True) v5 x5_1) ∧ Aside0 (Below w.heap.size w w'))
 case atStart => exact ⟨(([] : List Int)), (0), (by first | rfl | (simp; done) | (simp [*]; done)), H', ⟨Nat.le_refl _⟩, ⟨by first | exact Kd.R_nil _ _ _ _ _ | exact Kd.N_nil _ _ _ _ _ | exact Kd.V_nil _ _ _ _ _ | exact Kd.Q_nil _ _ _ _ _ | exact Kd.S_nil _ _ _ _ _⟩, ⟨B_⟩⟩
 case round =>
  clear H'
  obtain ⟨x5_1, x10_1, rfl, HA, HK1, HO_5, HB⟩ := hrel
  cases gk with
  | zero => exact absurd HA.out (by simp [dom_Kids.l0])
  | succ k1 =>
   have H := HA.out
   clear HA
   simp only [dom_Kids.l0] at H
   by_cases c3 : x10_1 < (l0.length : Int)
   ·rw [if_pos c3] at H
    have c3b0 : decide (x10_1 < (l0.length : Int)) = true := decide_eq_true c3
    clear c3
    by_cases c4 : 0 ≤ x10_1
    ·rw [if_pos c4] at H
     have c4b0 : decide (0 ≤ x10_1) = true := decide_eq_true c4
     clear c4
     by_cases c5 : x10_1 < (l0.length : Int)
     ·rw [if_pos c5] at H
      have c5b0 : decide (x10_1 < (l0.length : Int)) = true := decide_eq_true c5
      clear c5
      by_cases c6 : (rd l0 x10_1) = a1
      ·rw [if_pos c6] at H
       have c6b0 : ((rd l0 x10_1) == a1) = true := beq_iff_eq.mpr c6
       have c6b1 : ((rd l0 x10_1) != a1) = false := bne_eq_false_iff_eq.mpr c6
       clear c6
       obtain ⟨y694, hy694⟩ : ∃ y_ : List Int, y_ = (([a1] : List Int)) := ⟨_, rfl⟩
       replace H : ((dom_in.f k1 l0 y694).bind fun t697 => (if t697 = true then (if x5_1.length < 17592186044416 then (dom_Kids.l0 k1 l0 a1 (x5_1 ++ [x10_1]) l0 (l0.length : Int) (wrap64 (x10_1 + 1))) else (none)) else (dom_Kids.l0 k1 l0 a1 x5_1 l0 (l0.length : Int) (wrap64 (x10_1 + 1))))) = some r := by first | (rw [hy694]; with_reducible exact H) | (have H2_ := (Option.bind_some _ _).symm.trans H; rw [hy694]; with_reducible exact H2_) | (have H2_ := (Option.bind_some _ _).symm.trans H; with_reducible exact H2_) | with_reducible exact H | (rw [hy694]; exact H) | exact H
       have Ny694 := Aside0.mk hy694
       clear hy694
       replace H := Option.bind_eq_some_iff.mp H
       obtain ⟨t697, A70, H⟩ := H
       replace H : (if t697 = true then (if x5_1.length < 17592186044416 then (dom_Kids.l0 k1 l0 a1 (x5_1 ++ [x10_1]) l0 (l0.length : Int) (wrap64 (x10_1 + 1))) else (none)) else (dom_Kids.l0 k1 l0 a1 x5_1 l0 (l0.length : Int) (wrap64 (x10_1 + 1)))) = some r := H
       have A7 := Aside0.mk A70
       clear A70
       by_cases c8 : t697 = true
       ·subst c8
        have H1 : (if x5_1.length < 17592186044416 then (dom_Kids.l0 k1 l0 a1 (x5_1 ++ [x10_1]) l0 (l0.length : Int) (wrap64 (x10_1 + 1))) else (none)) = some r := by rw [if_pos rfl] at H; exact H
        clear H
        have H := H1
        clear H1
        by_cases c9 : x5_1.length < 17592186044416
        ·rw [if_pos c9] at H
         have LMc9 := Aside0.mk c9
         clear c9
         obtain ⟨y698, hy698⟩ : ∃ y_ : List Int, y_ = (x5_1 ++ [x10_1]) := ⟨_, rfl⟩
         replace H : (dom_Kids.l0 k1 l0 a1 y698 l0 (l0.length : Int) (wrap64 (x10_1 + 1))) = some r := by first | (rw [hy698]; with_reducible exact H) | (have H2_ := (Option.bind_some _ _).symm.trans H; rw [hy698]; with_reducible exact H2_) | (have H2_ := (Option.bind_some _ _).symm.trans H; with_reducible exact H2_) | with_reducible exact H | (rw [hy698]; exact H) | exact H
         have Ny698 := Aside0.mk hy698
         clear hy698
         have H' := Aside0.mk H
         clear H
         have p693 : 0 ≤ (x10_1 : Int) := D_
         have q693 : x10_1 < (l0.length : Int) := D_
         obtain ⟨ad693, e693, hx693_0⟩ := Kd.at_int HR0.out x10_1 p693 q693
         cases e693
         replace hx693_0 := (HB.out.cell (World.block_lt_of_cell? w _ hx693_0)).trans hx693_0
         replace p693 := eq_true p693
         replace q693 := eq_true q693
         go_wp2_with (first | ((with_reducible refine gate_dst (N := 21) rfl ?_); (try (refine gate_guard (by rfl) ?_; dsimp only)); refine Kd.R_lit (Kd.int .i64) _ 3 ?hg (N := 21) ?hd (xs := ([a1] : List Int)) (inner := [.int .i64 a1]) (ok := fun _ => True) (okp := fun _ => True) ?hr ?hp (fun _ hk => hk) trivial (Below.refl _ _) (Nat.le_refl _) (by simp) ?_; (case hd => rfl); (case hg => rfl); (case hr => first | (go_simp; done) | (go_simp; rfl)); (case hp => exact (Reps.one (show Kd.M (Kd.int .i64) _ _ _ a1 [.int .i64 a1] from rfl) (Reps.none _ _))); intro v695 w10 ho11 hb hg_ hnew_; clear hg_ hnew_; (first | rw [← Ny694.out] at ho11 | (simp only [Int.reduceToNat] at ho11; rw [← Ny694.out] at ho11)); have n0_ := Aside0.mk (Kd.R_elder' (by exact RX_ HO_5.out) (Kd.R_base ho11) hb); have n1_ := Aside0.mk (Kd.R_lower (Kd.R_new' ho11 (Kd.R_lt (by exact RX_ HO_5.out))) (below_size (B_))); have n2_ := Aside0.mk (below_step (B_) hb); clear HO_5; clear HB; have HO_5 := n0_; have HO696 := n1_; have HB := n2_; clear n0_ n1_ n2_; clear hb ho11; obtain ⟨Ao12, co12, eo12⟩ := Kd.R_slice HO696.out; subst eo12) | (go_at_call 35; (with_reducible refine (dom_in.calls k1 _ _ l0 _ _ y694 true _ ?side1 ?side2 ?side3 ?side4 A7.out).mono ?_); (case side1 => exact CX_ (Kd.C_below HR0.out HB.out)); (case side2 => exact HC0.out); (case side3 => repeat (first | exact (Kd.R_reads' HO696.out).2.2 | (with_reducible refine Kd.C_alloc ?_ _) | (with_reducible refine Kd.C_drewN ?_ _) | (with_reducible refine Kd.C_drew ?_))); (case side4 => exact (Kd.R_reads' HO696.out).2.1); rintro e w13 ⟨rfl, hb⟩; have n0_ := Aside0.mk (Kd.R_below (by exact RX_ HO_5.out) hb); have n1_ := Aside0.mk (Kd.R_below (by exact RX_ HO696.out) hb); have n2_ := Aside0.mk (below_step (B_) hb); clear HO_5; clear HO696; clear HB; have HO_5 := n0_; have HO696 := n1_; have HB := n2_; clear n0_ n1_ n2_; (try clear hb); (try clear hb2); (try clear hk); (try clear hi)) | ((with_reducible refine gate_builtin (b := .append) (xs := #[.tmp 24, .tmp 26]) rfl ?_); (try (refine gate_guard (by rfl) ?_; dsimp only)); at_builtin; refine Kd.R_append (Kd.int .i64) (w0 := w) w.heap.size rfl (.tmp 24) (.tmp 26) 31 3 (.int .i64 0) 8 rfl Try.underlying31 info3 rfl (by decide) (by omega) u5 x5_1 x10_1 [.int .i64 x10_1] (fun k_ => some k_ ≠ (.slice Ao12 y694.length co12 : Value).ownBlock) (fun _ => False) rfl rfl ?aP (fun _ hk => hk.elim) ?aF ?aO ?aB ?aS ?aL ?_; (case aP => exact rfl); (case aB => exact (B_)); (case aF => exact (fun k_ hk => Kd.fresh' (Kd.R_lt (by exact RX_ HO696.out)) k_ hk)); (case aO => exact (by (with_reducible repeat (first | apply Kd.R_alloc | apply Kd.R_drewN | apply Kd.R_drew)); exact Kd.R_mono HO_5.out (fun _ hk => by first | exact hk.2 | exact hk | exact ⟨hk.1, hk.2⟩ | simp_all))); (case aS => exact (below_size (B_))); (case aL => have := LMc9.out; omega); intro v699 w14 ho hb hg hat; rw [← Ny698.out] at ho; have n0_ := Aside0.mk (Kd.R_after (ok := (fun _ => True)) (by exact RX_ HO696.out) hg hat); have n1_ := Aside0.mk (hb); have n2_ := Aside0.mk (ho); clear HO696; clear HB; clear HO_5; have HO696 := n0_; have HB := n1_; have HO700 := n2_; clear n0_ n1_ n2_; clear ho hb hg hat))
         go_roundg k1
         case measure => have := HK1.out; omega
         case rel => exact ⟨(y698), (wrap64 (x10_1 + 1)), (by first | rfl | (simp; done) | (simp [*]; done)), H', ⟨by have := HK1.out; omega⟩, ⟨by (with_reducible repeat (first | apply Kd.R_alloc | apply Kd.R_drewN | apply Kd.R_drew)); exact Kd.R_mono HO700.out (fun _ hk => trivial)⟩, ⟨B_⟩⟩
        rw [if_neg c9] at H
        exact absurd H (by simp)
       replace c8 := Bool.eq_false_iff.mpr c8
       subst c8
       have H1 : (dom_Kids.l0 k1 l0 a1 x5_1 l0 (l0.length : Int) (wrap64 (x10_1 + 1))) = some r := by rw [if_neg (show ¬ (false = true) by decide)] at H; exact H
       clear H
       have H := H1
       clear H1
       have H' := Aside0.mk H
       clear H
       have p693 : 0 ≤ (x10_1 : Int) := D_
       have q693 : x10_1 < (l0.length : Int) := D_
       obtain ⟨ad693, e693, hx693_0⟩ := Kd.at_int HR0.out x10_1 p693 q693
       cases e693
       replace hx693_0 := (HB.out.cell (World.block_lt_of_cell? w _ hx693_0)).trans hx693_0
       replace p693 := eq_true p693
       replace q693 := eq_true q693
       go_wp2_with (first | ((with_reducible refine gate_dst (N := 21) rfl ?_); (try (refine gate_guard (by rfl) ?_; dsimp only)); refine Kd.R_lit (Kd.int .i64) _ 3 ?hg (N := 21) ?hd (xs := ([a1] : List Int)) (inner := [.int .i64 a1]) (ok := fun _ => True) (okp := fun _ => True) ?hr ?hp (fun _ hk => hk) trivial (Below.refl _ _) (Nat.le_refl _) (by simp) ?_; (case hd => rfl); (case hg => rfl); (case hr => first | (go_simp; done) | (go_simp; rfl)); (case hp => exact (Reps.one (show Kd.M (Kd.int .i64) _ _ _ a1 [.int .i64 a1] from rfl) (Reps.none _ _))); intro v695 w15 ho16 hb hg_ hnew_; clear hg_ hnew_; (first | rw [← Ny694.out] at ho16 | (simp only [Int.reduceToNat] at ho16; rw [← Ny694.out] at ho16)); have n0_ := Aside0.mk (Kd.R_elder' (by exact RX_ HO_5.out) (Kd.R_base ho16) hb); have n1_ := Aside0.mk (Kd.R_lower (Kd.R_new' ho16 (Kd.R_lt (by exact RX_ HO_5.out))) (below_size (B_))); have n2_ := Aside0.mk (below_step (B_) hb); clear HO_5; clear HB; have HO_5 := n0_; have HO696 := n1_; have HB := n2_; clear n0_ n1_ n2_; clear hb ho16; obtain ⟨Ao17, co17, eo17⟩ := Kd.R_slice HO696.out; subst eo17) | (go_at_call 35; (with_reducible refine (dom_in.calls k1 _ _ l0 _ _ y694 false _ ?side1 ?side2 ?side3 ?side4 A7.out).mono ?_); (case side1 => exact CX_ (Kd.C_below HR0.out HB.out)); (case side2 => exact HC0.out); (case side3 => repeat (first | exact (Kd.R_reads' HO696.out).2.2 | (with_reducible refine Kd.C_alloc ?_ _) | (with_reducible refine Kd.C_drewN ?_ _) | (with_reducible refine Kd.C_drew ?_))); (case side4 => exact (Kd.R_reads' HO696.out).2.1); rintro e w18 ⟨rfl, hb⟩; have n0_ := Aside0.mk (Kd.R_below (by exact RX_ HO_5.out) hb); have n1_ := Aside0.mk (Kd.R_below (by exact RX_ HO696.out) hb); have n2_ := Aside0.mk (below_step (B_) hb); clear HO_5; clear HO696; clear HB; have HO_5 := n0_; have HO696 := n1_; have HB := n2_; clear n0_ n1_ n2_; (try clear hb); (try clear hb2); (try clear hk); (try clear hi)))
       go_roundg k1
       case measure => have := HK1.out; omega
       case rel => exact ⟨(x5_1), (wrap64 (x10_1 + 1)), (by first | rfl | (simp; done) | (simp [*]; done)), H', ⟨by have := HK1.out; omega⟩, ⟨by (with_reducible repeat (first | apply Kd.R_alloc | apply Kd.R_drewN | apply Kd.R_drew)); exact Kd.R_mono HO_5.out (fun _ hk => trivial)⟩, ⟨B_⟩⟩
      rw [if_neg c6] at H
      have c6b0 : ((rd l0 x10_1) == a1) = false := beq_eq_false_iff_ne.mpr c6
      have c6b1 : ((rd l0 x10_1) != a1) = true := bne_iff_ne.mpr c6
      have H' := Aside0.mk H
      clear H
      have p693 : 0 ≤ (x10_1 : Int) := D_
      have q693 : x10_1 < (l0.length : Int) := D_
      obtain ⟨ad693, e693, hx693_0⟩ := Kd.at_int HR0.out x10_1 p693 q693
      cases e693
      replace hx693_0 := (HB.out.cell (World.block_lt_of_cell? w _ hx693_0)).trans hx693_0
      replace p693 := eq_true p693
      replace q693 := eq_true q693
      go_wp2
      go_roundg k1
      case measure => have := HK1.out; omega
      case rel => exact ⟨(x5_1), (wrap64 (x10_1 + 1)), (by first | rfl | (simp; done) | (simp [*]; done)), H', ⟨by have := HK1.out; omega⟩, ⟨by exact RM_ HO_5.out⟩, ⟨B_⟩⟩
     rw [if_neg c5] at H
     exact absurd H (by simp)
    rw [if_neg c4] at H
    exact absurd H (by simp)
   rw [if_neg c3] at H
   have c3b0 : decide (x10_1 < (l0.length : Int)) = false := decide_eq_false c3
   clear c3
   obtain rfl := Option.some.inj H
   go_wp2
   go_ret
   exact ⟨_, by first | rfl | (simp [errW_none, errW_some] <;> rfl) | (simp [*, errW_none, errW_some] <;> rfl), by exact RX_ HO_5.out, B_⟩


/-! ### locksteplaw07_awake: function 9 -/
def locksteplaw07_awake.f (k : Nat)  : Option (Bool) := (graph_Make.f k (([(([1, 2] : List Int)), (([3] : List Int)), (([3] : List Int)), [], (([3] : List Int))] : List (List Int)))).bind fun bt716 => ((dom_Tree.f k bt716.1 bt716.2.1 0).bind fun t724 => (if bt716.2.2 = 0 then ((lockstepref02_Ints.f k t724 (([(-1), 0, 0, 0, (-2)] : List Int))).bind fun t730 => (if t730 = true then ((dom_Over.f k t724 0 3).bind fun t731 => (if t731 = true then ((dom_Over.f k t724 1 3).bind fun t732 => (if t732 = true then (some false) else ((dom_Meet.f k t724 1 2).bind fun t733 => (if t733 = 0 then ((dom_Kids.f k t724 0).bind fun t734 => (if (t734.length : Int) = 3 then ((dom_Meet.f k t724 1 4).bind fun t737 => (some (t737 == (-2)))) else (some false))) else (some false))))) else (some false))) else (some false))) else (some false)))
theorem locksteplaw07_awake.mono : ∀ k, LeO (locksteplaw07_awake.f k ) (locksteplaw07_awake.f (k + 1) ) := by
 intro  k
 unfold locksteplaw07_awake.f
 repeat' first
  | (with_reducible exact dom_Kids.mono _ _ _)
  | (with_reducible exact dom_Meet.mono _ _ _ _)
  | (with_reducible exact dom_Over.mono _ _ _ _)
  | (with_reducible exact dom_Tree.mono _ _ _ _)
  | (with_reducible exact graph_Make.mono _ _)
  | (with_reducible exact lockstepref02_Ints.mono _ _ _)
  | (with_reducible exact LeO.refl _)
  | (with_reducible exact LeO.none _)
  | (with_reducible refine LeO.ite ?_ ?_)
  | (with_reducible refine LeO.bind ?_ (fun _ => ?_))
  | exact dom_Kids.mono _ _ _
  | exact dom_Meet.mono _ _ _ _
  | exact dom_Over.mono _ _ _ _
  | exact dom_Tree.mono _ _ _ _
  | exact graph_Make.mono _ _
  | exact lockstepref02_Ints.mono _ _ _
  | exact LeO.none _
  | refine LeO.ite ?_ ?_
  | refine LeO.bind ?_ (fun _ => ?_)
set_option maxHeartbeats 8000000 in
set_option maxRecDepth 100000 in
theorem locksteplaw07_awake.calls (k : Nat)  (w : World) (h : locksteplaw07_awake.f k  = some true) :
 Calls Try.prog 9 #[] w fun e w' => e = .returned (.bool true) ∧ Below w.heap.size w w' := by
 have hu26 := Try.underlying26
 have HB := Aside0.mk (Below.refl w.heap.size w)
 have H : ((graph_Make.f k (([(([1, 2] : List Int)), (([3] : List Int)), (([3] : List Int)), [], (([3] : List Int))] : List (List Int)))).bind fun bt716 => ((dom_Tree.f k bt716.1 bt716.2.1 0).bind fun t724 => (if bt716.2.2 = 0 then ((lockstepref02_Ints.f k t724 (([(-1), 0, 0, 0, (-2)] : List Int))).bind fun t730 => (if t730 = true then ((dom_Over.f k t724 0 3).bind fun t731 => (if t731 = true then ((dom_Over.f k t724 1 3).bind fun t732 => (if t732 = true then (some false) else ((dom_Meet.f k t724 1 2).bind fun t733 => (if t733 = 0 then ((dom_Kids.f k t724 0).bind fun t734 => (if (t734.length : Int) = 3 then ((dom_Meet.f k t724 1 4).bind fun t737 => (some (t737 == (-2)))) else (some false))) else (some false))))) else (some false))) else (some false))) else (some false)))) = some true := h
 clear h
 obtain ⟨y701, hy701⟩ : ∃ y_ : List Int, y_ = (([1, 2] : List Int)) := ⟨_, rfl⟩
 replace H : ((graph_Make.f k (([y701, (([3] : List Int)), (([3] : List Int)), [], (([3] : List Int))] : List (List Int)))).bind fun bt716 => ((dom_Tree.f k bt716.1 bt716.2.1 0).bind fun t724 => (if bt716.2.2 = 0 then ((lockstepref02_Ints.f k t724 (([(-1), 0, 0, 0, (-2)] : List Int))).bind fun t730 => (if t730 = true then ((dom_Over.f k t724 0 3).bind fun t731 => (if t731 = true then ((dom_Over.f k t724 1 3).bind fun t732 => (if t732 = true then (some false) else ((dom_Meet.f k t724 1 2).bind fun t733 => (if t733 = 0 then ((dom_Kids.f k t724 0).bind fun t734 => (if (t734.length : Int) = 3 then ((dom_Meet.f k t724 1 4).bind fun t737 => (some (t737 == (-2)))) else (some false))) else (some false))))) else (some false))) else (some false))) else (some false)))) = some true := by first | (rw [hy701]; with_reducible exact H) | (have H2_ := (Option.bind_some _ _).symm.trans H; rw [hy701]; with_reducible exact H2_) | (have H2_ := (Option.bind_some _ _).symm.trans H; with_reducible exact H2_) | with_reducible exact H | (rw [hy701]; exact H) | exact H
 have Ny701 := Aside0.mk hy701
 clear hy701
 obtain ⟨y704, hy704⟩ : ∃ y_ : List Int, y_ = (([3] : List Int)) := ⟨_, rfl⟩
 replace H : ((graph_Make.f k (([y701, y704, (([3] : List Int)), [], (([3] : List Int))] : List (List Int)))).bind fun bt716 => ((dom_Tree.f k bt716.1 bt716.2.1 0).bind fun t724 => (if bt716.2.2 = 0 then ((lockstepref02_Ints.f k t724 (([(-1), 0, 0, 0, (-2)] : List Int))).bind fun t730 => (if t730 = true then ((dom_Over.f k t724 0 3).bind fun t731 => (if t731 = true then ((dom_Over.f k t724 1 3).bind fun t732 => (if t732 = true then (some false) else ((dom_Meet.f k t724 1 2).bind fun t733 => (if t733 = 0 then ((dom_Kids.f k t724 0).bind fun t734 => (if (t734.length : Int) = 3 then ((dom_Meet.f k t724 1 4).bind fun t737 => (some (t737 == (-2)))) else (some false))) else (some false))))) else (some false))) else (some false))) else (some false)))) = some true := by first | (rw [hy704]; with_reducible exact H) | (have H2_ := (Option.bind_some _ _).symm.trans H; rw [hy704]; with_reducible exact H2_) | (have H2_ := (Option.bind_some _ _).symm.trans H; with_reducible exact H2_) | with_reducible exact H | (rw [hy704]; exact H) | exact H
 have Ny704 := Aside0.mk hy704
 clear hy704
 obtain ⟨y707, hy707⟩ : ∃ y_ : List Int, y_ = (([3] : List Int)) := ⟨_, rfl⟩
 replace H : ((graph_Make.f k (([y701, y704, y707, [], (([3] : List Int))] : List (List Int)))).bind fun bt716 => ((dom_Tree.f k bt716.1 bt716.2.1 0).bind fun t724 => (if bt716.2.2 = 0 then ((lockstepref02_Ints.f k t724 (([(-1), 0, 0, 0, (-2)] : List Int))).bind fun t730 => (if t730 = true then ((dom_Over.f k t724 0 3).bind fun t731 => (if t731 = true then ((dom_Over.f k t724 1 3).bind fun t732 => (if t732 = true then (some false) else ((dom_Meet.f k t724 1 2).bind fun t733 => (if t733 = 0 then ((dom_Kids.f k t724 0).bind fun t734 => (if (t734.length : Int) = 3 then ((dom_Meet.f k t724 1 4).bind fun t737 => (some (t737 == (-2)))) else (some false))) else (some false))))) else (some false))) else (some false))) else (some false)))) = some true := by first | (rw [hy707]; with_reducible exact H) | (have H2_ := (Option.bind_some _ _).symm.trans H; rw [hy707]; with_reducible exact H2_) | (have H2_ := (Option.bind_some _ _).symm.trans H; with_reducible exact H2_) | with_reducible exact H | (rw [hy707]; exact H) | exact H
 have Ny707 := Aside0.mk hy707
 clear hy707
 obtain ⟨y710, hy710⟩ : ∃ y_ : List Int, y_ = (([3] : List Int)) := ⟨_, rfl⟩
 replace H : ((graph_Make.f k (([y701, y704, y707, [], y710] : List (List Int)))).bind fun bt716 => ((dom_Tree.f k bt716.1 bt716.2.1 0).bind fun t724 => (if bt716.2.2 = 0 then ((lockstepref02_Ints.f k t724 (([(-1), 0, 0, 0, (-2)] : List Int))).bind fun t730 => (if t730 = true then ((dom_Over.f k t724 0 3).bind fun t731 => (if t731 = true then ((dom_Over.f k t724 1 3).bind fun t732 => (if t732 = true then (some false) else ((dom_Meet.f k t724 1 2).bind fun t733 => (if t733 = 0 then ((dom_Kids.f k t724 0).bind fun t734 => (if (t734.length : Int) = 3 then ((dom_Meet.f k t724 1 4).bind fun t737 => (some (t737 == (-2)))) else (some false))) else (some false))))) else (some false))) else (some false))) else (some false)))) = some true := by first | (rw [hy710]; with_reducible exact H) | (have H2_ := (Option.bind_some _ _).symm.trans H; rw [hy710]; with_reducible exact H2_) | (have H2_ := (Option.bind_some _ _).symm.trans H; with_reducible exact H2_) | with_reducible exact H | (rw [hy710]; exact H) | exact H
 have Ny710 := Aside0.mk hy710
 clear hy710
 obtain ⟨y713, hy713⟩ : ∃ y_ : List (List Int), y_ = (([y701, y704, y707, [], y710] : List (List Int))) := ⟨_, rfl⟩
 replace H : ((graph_Make.f k y713).bind fun bt716 => ((dom_Tree.f k bt716.1 bt716.2.1 0).bind fun t724 => (if bt716.2.2 = 0 then ((lockstepref02_Ints.f k t724 (([(-1), 0, 0, 0, (-2)] : List Int))).bind fun t730 => (if t730 = true then ((dom_Over.f k t724 0 3).bind fun t731 => (if t731 = true then ((dom_Over.f k t724 1 3).bind fun t732 => (if t732 = true then (some false) else ((dom_Meet.f k t724 1 2).bind fun t733 => (if t733 = 0 then ((dom_Kids.f k t724 0).bind fun t734 => (if (t734.length : Int) = 3 then ((dom_Meet.f k t724 1 4).bind fun t737 => (some (t737 == (-2)))) else (some false))) else (some false))))) else (some false))) else (some false))) else (some false)))) = some true := by first | (rw [hy713]; with_reducible exact H) | (have H2_ := (Option.bind_some _ _).symm.trans H; rw [hy713]; with_reducible exact H2_) | (have H2_ := (Option.bind_some _ _).symm.trans H; with_reducible exact H2_) | with_reducible exact H | (rw [hy713]; exact H) | exact H
 have Ny713 := Aside0.mk hy713
 clear hy713
 replace H := Option.bind_eq_some_iff.mp H
 obtain ⟨⟨t716, t719, t722⟩, A10, H⟩ := H
 replace H : ((dom_Tree.f k t716 t719 0).bind fun t724 => (if t722 = 0 then ((lockstepref02_Ints.f k t724 (([(-1), 0, 0, 0, (-2)] : List Int))).bind fun t730 => (if t730 = true then ((dom_Over.f k t724 0 3).bind fun t731 => (if t731 = true then ((dom_Over.f k t724 1 3).bind fun t732 => (if t732 = true then (some false) else ((dom_Meet.f k t724 1 2).bind fun t733 => (if t733 = 0 then ((dom_Kids.f k t724 0).bind fun t734 => (if (t734.length : Int) = 3 then ((dom_Meet.f k t724 1 4).bind fun t737 => (some (t737 == (-2)))) else (some false))) else (some false))))) else (some false))) else (some false))) else (some false))) = some true := H
 have A1 := Aside0.mk A10
 clear A10
 replace H := Option.bind_eq_some_iff.mp H
 obtain ⟨t724, A20, H⟩ := H
 replace H : (if t722 = 0 then ((lockstepref02_Ints.f k t724 (([(-1), 0, 0, 0, (-2)] : List Int))).bind fun t730 => (if t730 = true then ((dom_Over.f k t724 0 3).bind fun t731 => (if t731 = true then ((dom_Over.f k t724 1 3).bind fun t732 => (if t732 = true then (some false) else ((dom_Meet.f k t724 1 2).bind fun t733 => (if t733 = 0 then ((dom_Kids.f k t724 0).bind fun t734 => (if (t734.length : Int) = 3 then ((dom_Meet.f k t724 1 4).bind fun t737 => (some (t737 == (-2)))) else (some false))) else (some false))))) else (some false))) else (some false))) else (some false)) = some true := H
 have A2 := Aside0.mk A20
 clear A20
 by_cases c3 : t722 = 0
 ·rw [if_pos c3] at H
  have c3b0 : (t722 == 0) = true := beq_iff_eq.mpr c3
  have c3b1 : (t722 != 0) = false := bne_eq_false_iff_eq.mpr c3
  clear c3
  obtain ⟨y727, hy727⟩ : ∃ y_ : List Int, y_ = (([(-1), 0, 0, 0, (-2)] : List Int)) := ⟨_, rfl⟩
  replace H : ((lockstepref02_Ints.f k t724 y727).bind fun t730 => (if t730 = true then ((dom_Over.f k t724 0 3).bind fun t731 => (if t731 = true then ((dom_Over.f k t724 1 3).bind fun t732 => (if t732 = true then (some false) else ((dom_Meet.f k t724 1 2).bind fun t733 => (if t733 = 0 then ((dom_Kids.f k t724 0).bind fun t734 => (if (t734.length : Int) = 3 then ((dom_Meet.f k t724 1 4).bind fun t737 => (some (t737 == (-2)))) else (some false))) else (some false))))) else (some false))) else (some false))) = some true := by first | (rw [hy727]; with_reducible exact H) | (have H2_ := (Option.bind_some _ _).symm.trans H; rw [hy727]; with_reducible exact H2_) | (have H2_ := (Option.bind_some _ _).symm.trans H; with_reducible exact H2_) | with_reducible exact H | (rw [hy727]; exact H) | exact H
  have Ny727 := Aside0.mk hy727
  clear hy727
  replace H := Option.bind_eq_some_iff.mp H
  obtain ⟨t730, A40, H⟩ := H
  replace H : (if t730 = true then ((dom_Over.f k t724 0 3).bind fun t731 => (if t731 = true then ((dom_Over.f k t724 1 3).bind fun t732 => (if t732 = true then (some false) else ((dom_Meet.f k t724 1 2).bind fun t733 => (if t733 = 0 then ((dom_Kids.f k t724 0).bind fun t734 => (if (t734.length : Int) = 3 then ((dom_Meet.f k t724 1 4).bind fun t737 => (some (t737 == (-2)))) else (some false))) else (some false))))) else (some false))) else (some false)) = some true := H
  have A4 := Aside0.mk A40
  clear A40
  by_cases c5 : t730 = true
  ·subst c5
   have H1 : ((dom_Over.f k t724 0 3).bind fun t731 => (if t731 = true then ((dom_Over.f k t724 1 3).bind fun t732 => (if t732 = true then (some false) else ((dom_Meet.f k t724 1 2).bind fun t733 => (if t733 = 0 then ((dom_Kids.f k t724 0).bind fun t734 => (if (t734.length : Int) = 3 then ((dom_Meet.f k t724 1 4).bind fun t737 => (some (t737 == (-2)))) else (some false))) else (some false))))) else (some false))) = some true := by rw [if_pos rfl] at H; exact H
   clear H
   have H := H1
   clear H1
   replace H := Option.bind_eq_some_iff.mp H
   obtain ⟨t731, A60, H⟩ := H
   replace H : (if t731 = true then ((dom_Over.f k t724 1 3).bind fun t732 => (if t732 = true then (some false) else ((dom_Meet.f k t724 1 2).bind fun t733 => (if t733 = 0 then ((dom_Kids.f k t724 0).bind fun t734 => (if (t734.length : Int) = 3 then ((dom_Meet.f k t724 1 4).bind fun t737 => (some (t737 == (-2)))) else (some false))) else (some false))))) else (some false)) = some true := H
   have A6 := Aside0.mk A60
   clear A60
   by_cases c7 : t731 = true
   ·subst c7
    have H1 : ((dom_Over.f k t724 1 3).bind fun t732 => (if t732 = true then (some false) else ((dom_Meet.f k t724 1 2).bind fun t733 => (if t733 = 0 then ((dom_Kids.f k t724 0).bind fun t734 => (if (t734.length : Int) = 3 then ((dom_Meet.f k t724 1 4).bind fun t737 => (some (t737 == (-2)))) else (some false))) else (some false))))) = some true := by rw [if_pos rfl] at H; exact H
    clear H
    have H := H1
    clear H1
    replace H := Option.bind_eq_some_iff.mp H
    obtain ⟨t732, A80, H⟩ := H
    replace H : (if t732 = true then (some false) else ((dom_Meet.f k t724 1 2).bind fun t733 => (if t733 = 0 then ((dom_Kids.f k t724 0).bind fun t734 => (if (t734.length : Int) = 3 then ((dom_Meet.f k t724 1 4).bind fun t737 => (some (t737 == (-2)))) else (some false))) else (some false)))) = some true := H
    have A8 := Aside0.mk A80
    clear A80
    by_cases c9 : t732 = true
    ·subst c9
     have H1 : (some false) = some true := by rw [if_pos rfl] at H; exact H
     clear H
     have H := H1
     clear H1
     exact absurd H (by simp)
    replace c9 := Bool.eq_false_iff.mpr c9
    subst c9
    have H1 : ((dom_Meet.f k t724 1 2).bind fun t733 => (if t733 = 0 then ((dom_Kids.f k t724 0).bind fun t734 => (if (t734.length : Int) = 3 then ((dom_Meet.f k t724 1 4).bind fun t737 => (some (t737 == (-2)))) else (some false))) else (some false))) = some true := by rw [if_neg (show ¬ (false = true) by decide)] at H; exact H
    clear H
    have H := H1
    clear H1
    replace H := Option.bind_eq_some_iff.mp H
    obtain ⟨t733, A100, H⟩ := H
    replace H : (if t733 = 0 then ((dom_Kids.f k t724 0).bind fun t734 => (if (t734.length : Int) = 3 then ((dom_Meet.f k t724 1 4).bind fun t737 => (some (t737 == (-2)))) else (some false))) else (some false)) = some true := H
    have A10 := Aside0.mk A100
    clear A100
    by_cases c11 : t733 = 0
    ·rw [if_pos c11] at H
     have c11b0 : (t733 == 0) = true := beq_iff_eq.mpr c11
     have c11b1 : (t733 != 0) = false := bne_eq_false_iff_eq.mpr c11
     clear c11
     replace H := Option.bind_eq_some_iff.mp H
     obtain ⟨t734, A120, H⟩ := H
     replace H : (if (t734.length : Int) = 3 then ((dom_Meet.f k t724 1 4).bind fun t737 => (some (t737 == (-2)))) else (some false)) = some true := H
     have A12 := Aside0.mk A120
     clear A120
     by_cases c13 : (t734.length : Int) = 3
     ·rw [if_pos c13] at H
      have c13b0 : ((t734.length : Int) == 3) = true := beq_iff_eq.mpr c13
      have c13b1 : ((t734.length : Int) != 3) = false := bne_eq_false_iff_eq.mpr c13
      clear c13
      replace H := Option.bind_eq_some_iff.mp H
      obtain ⟨t737, A140, H⟩ := H
      replace H : (some (t737 == (-2))) = some true := H
      have A14 := Aside0.mk A140
      clear A140
      have HR_ := Aside0.mk (Option.some.inj H)
      clear H
      go_enter Try.func9, Try.ntmps9
      go_wp2_with (first | ((with_reducible refine gate_dst (N := 5) rfl ?_); (try (refine gate_guard (by rfl) ?_; dsimp only)); refine Kd.R_lit (Kd.int .i64) _ 3 ?hg (N := 5) ?hd (xs := ([1, 2] : List Int)) (inner := [.int .i64 1, .int .i64 2]) (ok := fun _ => True) (okp := fun _ => True) ?hr ?hp (fun _ hk => hk) trivial (Below.refl _ _) (Nat.le_refl _) (by simp) ?_; (case hd => rfl); (case hg => rfl); (case hr => first | (go_simp; done) | (go_simp; rfl)); (case hp => exact (Reps.one (show Kd.M (Kd.int .i64) _ _ _ 1 [.int .i64 1] from rfl) (Reps.one (show Kd.M (Kd.int .i64) _ _ _ 2 [.int .i64 2] from rfl) (Reps.none _ _)))); intro v702 w15 ho16 hb hg_ hnew_; clear hg_ hnew_; (first | rw [← Ny701.out] at ho16 | (simp only [Int.reduceToNat] at ho16; rw [← Ny701.out] at ho16)); have n0_ := Aside0.mk (Kd.R_lower ho16 (below_size (B_))); have n1_ := Aside0.mk (below_step (B_) hb); clear HB; have HO703 := n0_; have HB := n1_; clear n0_ n1_; clear hb ho16) | ((with_reducible refine gate_dst (N := 6) rfl ?_); (try (refine gate_guard (by rfl) ?_; dsimp only)); refine Kd.R_lit (Kd.int .i64) _ 3 ?hg (N := 6) ?hd (xs := ([3] : List Int)) (inner := [.int .i64 3]) (ok := fun _ => True) (okp := fun _ => True) ?hr ?hp (fun _ hk => hk) trivial (Below.refl _ _) (Nat.le_refl _) (by simp) ?_; (case hd => rfl); (case hg => rfl); (case hr => first | (go_simp; done) | (go_simp; rfl)); (case hp => exact (Reps.one (show Kd.M (Kd.int .i64) _ _ _ 3 [.int .i64 3] from rfl) (Reps.none _ _))); intro v705 w17 ho18 hb hg_ hnew_; clear hg_ hnew_; (first | rw [← Ny704.out] at ho18 | (simp only [Int.reduceToNat] at ho18; rw [← Ny704.out] at ho18)); have n0_ := Aside0.mk (Kd.R_elder' (by exact RX_ HO703.out) (Kd.R_base ho18) hb); have n1_ := Aside0.mk (Kd.R_lower (Kd.R_new' ho18 (Kd.R_lt (by exact RX_ HO703.out))) (below_size (B_))); have n2_ := Aside0.mk (below_step (B_) hb); clear HO703; clear HB; have HO703 := n0_; have HO706 := n1_; have HB := n2_; clear n0_ n1_ n2_; clear hb ho18) | ((with_reducible refine gate_dst (N := 7) rfl ?_); (try (refine gate_guard (by rfl) ?_; dsimp only)); refine Kd.R_lit (Kd.int .i64) _ 3 ?hg (N := 7) ?hd (xs := ([3] : List Int)) (inner := [.int .i64 3]) (ok := fun _ => True) (okp := fun _ => True) ?hr ?hp (fun _ hk => hk) trivial (Below.refl _ _) (Nat.le_refl _) (by simp) ?_; (case hd => rfl); (case hg => rfl); (case hr => first | (go_simp; done) | (go_simp; rfl)); (case hp => exact (Reps.one (show Kd.M (Kd.int .i64) _ _ _ 3 [.int .i64 3] from rfl) (Reps.none _ _))); intro v708 w19 ho20 hb hg_ hnew_; clear hg_ hnew_; (first | rw [← Ny707.out] at ho20 | (simp only [Int.reduceToNat] at ho20; rw [← Ny707.out] at ho20)); have n0_ := Aside0.mk (Kd.R_elder' (by exact RX_ HO703.out) (Kd.R_base ho20) hb); have n1_ := Aside0.mk (Kd.R_elder' (by exact RX_ HO706.out) (Kd.R_base ho20) hb); have n2_ := Aside0.mk (Kd.R_lower (Kd.R_new' (Kd.R_new' ho20 (Kd.R_lt (by exact RX_ HO703.out))) (Kd.R_lt (by exact RX_ HO706.out))) (below_size (B_))); have n3_ := Aside0.mk (below_step (B_) hb); clear HO703; clear HO706; clear HB; have HO703 := n0_; have HO706 := n1_; have HO709 := n2_; have HB := n3_; clear n0_ n1_ n2_ n3_; clear hb ho20) | ((with_reducible refine gate_dst (N := 8) rfl ?_); (try (refine gate_guard (by rfl) ?_; dsimp only)); refine Kd.R_lit (Kd.int .i64) _ 3 ?hg (N := 8) ?hd (xs := ([3] : List Int)) (inner := [.int .i64 3]) (ok := fun _ => True) (okp := fun _ => True) ?hr ?hp (fun _ hk => hk) trivial (Below.refl _ _) (Nat.le_refl _) (by simp) ?_; (case hd => rfl); (case hg => rfl); (case hr => first | (go_simp; done) | (go_simp; rfl)); (case hp => exact (Reps.one (show Kd.M (Kd.int .i64) _ _ _ 3 [.int .i64 3] from rfl) (Reps.none _ _))); intro v711 w21 ho22 hb hg_ hnew_; clear hg_ hnew_; (first | rw [← Ny710.out] at ho22 | (simp only [Int.reduceToNat] at ho22; rw [← Ny710.out] at ho22)); have n0_ := Aside0.mk (Kd.R_elder' (by exact RX_ HO703.out) (Kd.R_base ho22) hb); have n1_ := Aside0.mk (Kd.R_elder' (by exact RX_ HO706.out) (Kd.R_base ho22) hb); have n2_ := Aside0.mk (Kd.R_elder' (by exact RX_ HO709.out) (Kd.R_base ho22) hb); have n3_ := Aside0.mk (Kd.R_lower (Kd.R_new' (Kd.R_new' (Kd.R_new' ho22 (Kd.R_lt (by exact RX_ HO703.out))) (Kd.R_lt (by exact RX_ HO706.out))) (Kd.R_lt (by exact RX_ HO709.out))) (below_size (B_))); have n4_ := Aside0.mk (below_step (B_) hb); clear HO703; clear HO706; clear HO709; clear HB; have HO703 := n0_; have HO706 := n1_; have HO709 := n2_; have HO712 := n3_; have HB := n4_; clear n0_ n1_ n2_ n3_ n4_; clear hb ho22; obtain ⟨Ao23, co23, eo23⟩ := Kd.R_slice HO703.out; subst eo23; obtain ⟨Ao24, co24, eo24⟩ := Kd.R_slice HO706.out; subst eo24; obtain ⟨Ao25, co25, eo25⟩ := Kd.R_slice HO709.out; subst eo25; obtain ⟨Ao26, co26, eo26⟩ := Kd.R_slice HO712.out; subst eo26) | ((with_reducible refine gate_dst (N := 9) rfl ?_); (try (refine gate_guard (by rfl) ?_; dsimp only)); refine Kd.N_lit (Kd.slice 3 (Kd.int .i64)) _ 31 ?hg (N' := 9) ?hd (xs := ([y701, y704, y707, [], y710] : List (List Int))) (inner := [.slice Ao23 y701.length co23, .slice Ao24 y704.length co24, .slice Ao25 y707.length co25, .slice none 0 0, .slice Ao26 y710.length co26]) (ok := (fun _ => True)) (okp := (fun _ => True)) ?hr ?hp (fun _ hk => hk) ((show ∀ k_, w21.heap.size ≤ k_ → (fun _ => True) k_ from fun k_ hk => trivial) _ (Nat.le_refl _)) (Below.refl _ _) (Nat.le_refl _) (by simp) ?_; (case hd => rfl); (case hg => rfl); (case hr => first | (go_simp; done) | (go_simp; rfl)); (case hp => exact (Reps.one (show Kd.FK (Kd.slice 3 (Kd.int .i64)) _ _ y701 [.slice Ao23 y701.length co23] from (Kd.FK_slice_mk (Kd.R_reads' (Kd.R_mono (ok' := (fun _ => True)) (HO703.out) (fun k_ hk => trivial))).2.1 (Kd.R_F (Kd.R_mono (ok' := (fun _ => True)) (HO703.out) (fun k_ hk => trivial))))) (Reps.one (show Kd.FK (Kd.slice 3 (Kd.int .i64)) _ _ y704 [.slice Ao24 y704.length co24] from (Kd.FK_slice_mk (Kd.R_reads' (Kd.R_mono (ok' := (fun _ => True)) (HO706.out) (fun k_ hk => trivial))).2.1 (Kd.R_F (Kd.R_mono (ok' := (fun _ => True)) (HO706.out) (fun k_ hk => trivial))))) (Reps.one (show Kd.FK (Kd.slice 3 (Kd.int .i64)) _ _ y707 [.slice Ao25 y707.length co25] from (Kd.FK_slice_mk (Kd.R_reads' (Kd.R_mono (ok' := (fun _ => True)) (HO709.out) (fun k_ hk => trivial))).2.1 (Kd.R_F (Kd.R_mono (ok' := (fun _ => True)) (HO709.out) (fun k_ hk => trivial))))) (Reps.one (show Kd.FK (Kd.slice 3 (Kd.int .i64)) _ _ [] [.slice none 0 0] from (Kd.FK_slice_mk (Nat.le_refl _) (Kd.F_nil _ _ _))) (Reps.one (show Kd.FK (Kd.slice 3 (Kd.int .i64)) _ _ y710 [.slice Ao26 y710.length co26] from (Kd.FK_slice_mk (Kd.R_reads' (Kd.R_mono (ok' := (fun _ => True)) (HO712.out) (fun k_ hk => trivial))).2.1 (Kd.R_F (Kd.R_mono (ok' := (fun _ => True)) (HO712.out) (fun k_ hk => trivial))))) (Reps.none _ _))))))); intro v714 w27 ho28 hb hg_ hnew_; clear hg_ hnew_; (first | rw [← Ny713.out] at ho28 | (simp only [Int.reduceToNat] at ho28; rw [← Ny713.out] at ho28)); have n0_ := Aside0.mk (Kd.N_lower ho28 (below_size (B_))); have n1_ := Aside0.mk (below_step (B_) hb); clear HB; clear HO703; clear HO706; clear HO709; clear HO712; have HO715 := n0_; have HB := n1_; clear n0_ n1_; clear hb ho28; obtain ⟨Ao29, co29, eo29⟩ := Kd.N_slice HO715.out; subst eo29) | ((with_reducible refine gate_callee (f := 11) rfl ?_); refine goesL_ (some 10) rfl rfl Try.func11 (by kernel_rfl) rfl #[.slice Ao29 y713.length co29] rfl (by (try simp only [List.map_toArray, List.map_cons, List.map_nil]); first | done | rfl | (simp only [List.length_drop, List.length_take]; rfl)) ?_; (with_reducible refine (graph_Make.calls k _ _ y713 t716 t719 t722 _ ?side1 ?side2 A1.out).mono ?_); (case side1 => repeat (first | exact (Kd.N_reads' HO715.out).2.2 | (with_reducible refine Kd.C_alloc ?_ _) | (with_reducible refine Kd.C_drewN ?_ _) | (with_reducible refine Kd.C_drew ?_))); (case side2 => exact (Kd.N_reads' HO715.out).2.1); rintro e w30 ⟨v717, v720, rfl, ho0, ho1, hb⟩; refine ⟨_, rfl, ?_⟩; have n0_ := Aside0.mk (Kd.N_mono (Kd.N_told (Kd.N_told (Kd.N_old (by (with_reducible repeat (first | apply Kd.N_alloc | apply Kd.N_drewN | apply Kd.N_drew)); exact HO715.out) hb) (Kd.N_base (Kd.S_N ho0))) (Kd.N_base (Kd.S_N ho1))) (fun _ h_ => h_.1)); have n1_ := Aside0.mk (Kd.N_lower (Kd.N_mono (ok' := fun k_ => some k_ ≠ (v720 : Value).ownBlock ∧ some k_ ≠ (.slice Ao29 y713.length co29 : Value).ownBlock) (Kd.S_N (Kd.S_bound ho0)) (fun k_ hk_ => ⟨hk_.1, (Kd.fresh' (Kd.N_lt (by (with_reducible repeat (first | apply Kd.N_alloc | apply Kd.N_drewN | apply Kd.N_drew)); exact HO715.out)) k_ hk_.2.1)⟩)) (below_size (B_))); have n2_ := Aside0.mk (Kd.N_lower (Kd.N_mono (ok' := fun k_ => some k_ ≠ (v717 : Value).ownBlock ∧ some k_ ≠ (.slice Ao29 y713.length co29 : Value).ownBlock) (Kd.S_N (Kd.S_bound ho1)) (fun k_ hk_ => ⟨hk_.1, (Kd.fresh' (Kd.N_lt (by (with_reducible repeat (first | apply Kd.N_alloc | apply Kd.N_drewN | apply Kd.N_drew)); exact HO715.out)) k_ hk_.2.1)⟩)) (below_size (B_))); have n3_ := Aside0.mk (below_step (B_) hb); clear HO715; clear HB; have HO715 := n0_; have HO718 := n1_; have HO721 := n2_; have HB := n3_; clear n0_ n1_ n2_ n3_; (try clear hb); (try clear hb2); (try clear hk); (try clear hi); (try clear ho0); (try clear ho1)) | ((with_reducible refine gate_dst (N := 1) rfl ?_); (try (refine gate_guard (by rfl) ?_; dsimp only)); refine box_event ?hg (N := 1) ?hd (cs := #[.slice none 0 0, .slice none 0 0]) (t := 26) ?hr ?_; (case hd => rfl); (case hg => rfl); (case hr => first | (go_simp; done) | (go_simp; rfl)); intro gb723 hg w31 hbox hb; have n0_ := Aside0.mk (Kd.N_below (Kd.N_elderB (by (with_reducible repeat (first | apply Kd.N_alloc | apply Kd.N_drewN | apply Kd.N_drew)); exact HO715.out) gb723 (Nat.le_of_eq hg.symm)) hb); have n1_ := Aside0.mk (Kd.N_below (Kd.N_elderB (by (with_reducible repeat (first | apply Kd.N_alloc | apply Kd.N_drewN | apply Kd.N_drew)); exact HO718.out) gb723 (Nat.le_of_eq hg.symm)) hb); have n2_ := Aside0.mk (Kd.N_below (Kd.N_elderB (by (with_reducible repeat (first | apply Kd.N_alloc | apply Kd.N_drewN | apply Kd.N_drew)); exact HO721.out) gb723 (Nat.le_of_eq hg.symm)) hb); have n3_ := Aside0.mk (below_step (B_) hb); have n4_ := Aside0.mk (hbox); have n5_ := Aside0.mk ((by rw [hg]; exact (below_size (B_)) : w.heap.size ≤ gb723)); have n6_ := Aside0.mk ((by rw [hg]; exact (below_size (B_)) : w.heap.size ≤ gb723)); clear HO715; clear HO718; clear HO721; clear HB; have HO715 := n0_; have HO718 := n1_; have HO721 := n2_; have HB := n3_; have BK723 := n4_; have GW723 := n5_; have GE723 := n6_; clear n0_ n1_ n2_ n3_ n4_ n5_ n6_; clear hb hbox hg; obtain ⟨Ao32, co32, eo32⟩ := Kd.N_slice HO718.out; subst eo32; have hcz33_0 : w31.cell? ⟨gb723, 0, none⟩ = some (.slice none 0 0) := (blk_cell BK723.out 0).trans rfl; have hcz33_1 : w31.cell? ⟨gb723, 1, none⟩ = some (.slice none 0 0) := (blk_cell BK723.out 1).trans rfl; have hfz33_0 := blk_frozen BK723.out 0; have hfz33_1 := blk_frozen BK723.out 1; obtain ⟨Ao34, co34, eo34⟩ := Kd.N_slice HO721.out; subst eo34) | ((with_reducible refine gate_callee (f := 13) rfl ?_); refine goesL_ (some 14) rfl rfl Try.func13 (by kernel_rfl) rfl #[.agg #[.slice Ao32 t716.length co32, .slice Ao34 t719.length co34], .int .i64 0] rfl (by (try simp only [List.map_toArray, List.map_cons, List.map_nil]); first | done | rfl | (simp only [List.length_drop, List.length_take]; rfl)) ?_; (with_reducible refine (dom_Tree.calls k _ _ t716 _ _ t719 0 t724 _ ?side1 ?side2 ?side3 ?side4 A2.out).mono ?_); (case side1 => refine (Kd.N_reads' (e := 31) (base := w.heap.size) (ok := fun k_ => ((some k_ ≠ (.slice Ao34 t719.length co34 : Value).ownBlock ∧ some k_ ≠ (.slice Ao29 y713.length co29 : Value).ownBlock) ∧ k_ ≠ gb723)) (n := t716.length) (c := co32) ?_).2.2; exact (by (with_reducible repeat (first | apply Kd.N_alloc | apply Kd.N_drewN | apply Kd.N_drew)); exact (Kd.N_mono (Kd.N_far (p := ⟨gb723, 1, none⟩) (Kd.N_far (p := ⟨gb723, 0, none⟩) (Kd.N_mono HO718.out (fun k_ hk => (⟨hk, hk.2⟩ : _ ∧ k_ ≠ gb723))) (fun _ hk => hk.2) (.slice Ao32 t716.length co32)) (fun _ hk => hk.2) (.slice Ao34 t719.length co34)) (fun _ h_ => h_.1)))); (case side2 => exact (Kd.N_reads' HO718.out).2.1); (case side3 => refine (Kd.N_reads' (e := 31) (base := w.heap.size) (ok := fun k_ => ((some k_ ≠ (.slice Ao32 t716.length co32 : Value).ownBlock ∧ some k_ ≠ (.slice Ao29 y713.length co29 : Value).ownBlock) ∧ k_ ≠ gb723)) (n := t719.length) (c := co34) ?_).2.2; exact (by (with_reducible repeat (first | apply Kd.N_alloc | apply Kd.N_drewN | apply Kd.N_drew)); exact (Kd.N_mono (Kd.N_far (p := ⟨gb723, 1, none⟩) (Kd.N_far (p := ⟨gb723, 0, none⟩) (Kd.N_mono HO721.out (fun k_ hk => (⟨hk, hk.2⟩ : _ ∧ k_ ≠ gb723))) (fun _ hk => hk.2) (.slice Ao32 t716.length co32)) (fun _ hk => hk.2) (.slice Ao34 t719.length co34)) (fun _ h_ => h_.1)))); (case side4 => exact (Kd.N_reads' HO721.out).2.1); rintro e w35 ⟨v725, rfl, ho0, hb⟩; refine ⟨_, rfl, ?_⟩; have n0_ := Aside0.mk (Kd.N_elder' (by (with_reducible repeat (first | apply Kd.N_alloc | apply Kd.N_drewN | apply Kd.N_drew)); exact (Kd.N_mono (Kd.N_far (p := ⟨gb723, 1, none⟩) (Kd.N_far (p := ⟨gb723, 0, none⟩) (Kd.N_mono HO715.out (fun k_ hk => (⟨hk, hk.2⟩ : _ ∧ k_ ≠ gb723))) (fun _ hk => hk.2) (.slice Ao32 t716.length co32)) (fun _ hk => hk.2) (.slice Ao34 t719.length co34)) (fun _ h_ => h_.1))) (Kd.R_base ho0) hb); have n1_ := Aside0.mk (Kd.N_elder' (by (with_reducible repeat (first | apply Kd.N_alloc | apply Kd.N_drewN | apply Kd.N_drew)); exact (Kd.N_mono (Kd.N_far (p := ⟨gb723, 1, none⟩) (Kd.N_far (p := ⟨gb723, 0, none⟩) (Kd.N_mono HO718.out (fun k_ hk => (⟨hk, hk.2⟩ : _ ∧ k_ ≠ gb723))) (fun _ hk => hk.2) (.slice Ao32 t716.length co32)) (fun _ hk => hk.2) (.slice Ao34 t719.length co34)) (fun _ h_ => h_.1))) (Kd.R_base ho0) hb); have n2_ := Aside0.mk (Kd.N_elder' (by (with_reducible repeat (first | apply Kd.N_alloc | apply Kd.N_drewN | apply Kd.N_drew)); exact (Kd.N_mono (Kd.N_far (p := ⟨gb723, 1, none⟩) (Kd.N_far (p := ⟨gb723, 0, none⟩) (Kd.N_mono HO721.out (fun k_ hk => (⟨hk, hk.2⟩ : _ ∧ k_ ≠ gb723))) (fun _ hk => hk.2) (.slice Ao32 t716.length co32)) (fun _ hk => hk.2) (.slice Ao34 t719.length co34)) (fun _ h_ => h_.1))) (Kd.R_base ho0) hb); have n3_ := Aside0.mk (Kd.R_lower ho0 (below_size (B1_))); have n4_ := Aside0.mk (blk_below (g := gb723) (o := .cells #[.slice Ao32 t716.length co32, .slice Ao34 t719.length co34] 26 (0, 0)) (by (with_reducible repeat (first | refine blk_drewN ?_ _ | refine blk_drew ?_ | refine blk_alloc ?_ _)); refine blk_put (cs := #[.slice Ao32 t716.length co32, .slice none 0 0]) ?_ 1 _ rfl; (with_reducible repeat (first | refine blk_drewN ?_ _ | refine blk_drew ?_ | refine blk_alloc ?_ _)); refine blk_put (cs := #[.slice none 0 0, .slice none 0 0]) ?_ 0 _ rfl; exact KX_ BK723.out) hb); have n5_ := Aside0.mk (below_step (B1_) hb); clear HO715; clear HO718; clear HO721; clear BK723; clear HB; have HO715 := n0_; have HO718 := n1_; have HO721 := n2_; have HO726 := n3_; have BK723 := n4_; have HB := n5_; clear n0_ n1_ n2_ n3_ n4_ n5_; (try clear hb); (try clear hb2); (try clear hk); (try clear hi); (try clear ho0)) | ((with_reducible refine gate_dst (N := 19) rfl ?_); (try (refine gate_guard (by rfl) ?_; dsimp only)); refine Kd.R_lit (Kd.int .i64) _ 3 ?hg (N := 19) ?hd (xs := ([(-1), 0, 0, 0, (-2)] : List Int)) (inner := [.int .i64 (-1), .int .i64 0, .int .i64 0, .int .i64 0, .int .i64 (-2)]) (ok := fun _ => True) (okp := fun _ => True) ?hr ?hp (fun _ hk => hk) trivial (Below.refl _ _) (Nat.le_refl _) (by simp) ?_; (case hd => rfl); (case hg => rfl); (case hr => first | (go_simp; done) | (go_simp; rfl)); (case hp => exact (Reps.one (show Kd.M (Kd.int .i64) _ _ _ (-1) [.int .i64 (-1)] from rfl) (Reps.one (show Kd.M (Kd.int .i64) _ _ _ 0 [.int .i64 0] from rfl) (Reps.one (show Kd.M (Kd.int .i64) _ _ _ 0 [.int .i64 0] from rfl) (Reps.one (show Kd.M (Kd.int .i64) _ _ _ 0 [.int .i64 0] from rfl) (Reps.one (show Kd.M (Kd.int .i64) _ _ _ (-2) [.int .i64 (-2)] from rfl) (Reps.none _ _))))))); intro v728 w36 ho37 hb hg_ hnew_; clear hg_ hnew_; (first | rw [← Ny727.out] at ho37 | (simp only [Int.reduceToNat] at ho37; rw [← Ny727.out] at ho37)); have n0_ := Aside0.mk (Kd.N_elder' (by (with_reducible repeat (first | apply Kd.N_alloc | apply Kd.N_drewN | apply Kd.N_drew)); exact HO715.out) (Kd.R_base ho37) hb); have n1_ := Aside0.mk (Kd.N_elder' (by (with_reducible repeat (first | apply Kd.N_alloc | apply Kd.N_drewN | apply Kd.N_drew)); exact HO718.out) (Kd.R_base ho37) hb); have n2_ := Aside0.mk (Kd.N_elder' (by (with_reducible repeat (first | apply Kd.N_alloc | apply Kd.N_drewN | apply Kd.N_drew)); exact HO721.out) (Kd.R_base ho37) hb); have n3_ := Aside0.mk (Kd.R_elder' (by exact RX_ HO726.out) (Kd.R_base ho37) hb); have n4_ := Aside0.mk (Kd.R_lower (Kd.R_new' ho37 (Kd.R_lt (by exact RX_ HO726.out))) (below_size (B1_))); have n5_ := Aside0.mk (blk_below (g := gb723) (o := .cells #[.slice Ao32 t716.length co32, .slice Ao34 t719.length co34] 26 (0, 0)) (by exact KX_ BK723.out) hb); have n6_ := Aside0.mk (below_step (B1_) hb); clear HO715; clear HO718; clear HO721; clear HO726; clear BK723; clear HB; have HO715 := n0_; have HO718 := n1_; have HO721 := n2_; have HO726 := n3_; have HO729 := n4_; have BK723 := n5_; have HB := n6_; clear n0_ n1_ n2_ n3_ n4_ n5_ n6_; clear hb ho37; obtain ⟨Ao38, co38, eo38⟩ := Kd.R_slice HO726.out; subst eo38; obtain ⟨Ao39, co39, eo39⟩ := Kd.R_slice HO729.out; subst eo39) | (go_at_call 25; (with_reducible refine (lockstepref02_Ints.calls k _ _ t724 _ _ y727 true _ ?side1 ?side2 ?side3 ?side4 A4.out).mono ?_); (case side1 => repeat (first | exact (Kd.R_reads' HO726.out).2.2 | (with_reducible refine Kd.C_alloc ?_ _) | (with_reducible refine Kd.C_drewN ?_ _) | (with_reducible refine Kd.C_drew ?_))); (case side2 => exact (Kd.R_reads' HO726.out).2.1); (case side3 => repeat (first | exact (Kd.R_reads' HO729.out).2.2 | (with_reducible refine Kd.C_alloc ?_ _) | (with_reducible refine Kd.C_drewN ?_ _) | (with_reducible refine Kd.C_drew ?_))); (case side4 => exact (Kd.R_reads' HO729.out).2.1); rintro e w' ⟨rfl, ⟨nd, rfl⟩⟩) | (go_at_call 15; (with_reducible refine (dom_Over.calls k _ _ t724 0 3 true _ ?side1 ?side2 A6.out).mono ?_); (case side1 => repeat (first | exact (Kd.R_reads' HO726.out).2.2 | (with_reducible refine Kd.C_alloc ?_ _) | (with_reducible refine Kd.C_drewN ?_ _) | (with_reducible refine Kd.C_drew ?_))); (case side2 => exact (Kd.R_reads' HO726.out).2.1); rintro e w40 ⟨rfl, hb⟩; have n0_ := Aside0.mk (Kd.N_below (by (with_reducible repeat (first | apply Kd.N_alloc | apply Kd.N_drewN | apply Kd.N_drew)); exact HO715.out) hb); have n1_ := Aside0.mk (Kd.N_below (by (with_reducible repeat (first | apply Kd.N_alloc | apply Kd.N_drewN | apply Kd.N_drew)); exact HO718.out) hb); have n2_ := Aside0.mk (Kd.N_below (by (with_reducible repeat (first | apply Kd.N_alloc | apply Kd.N_drewN | apply Kd.N_drew)); exact HO721.out) hb); have n3_ := Aside0.mk (Kd.R_below (by exact RX_ HO726.out) hb); have n4_ := Aside0.mk (Kd.R_below (by exact RX_ HO729.out) hb); have n5_ := Aside0.mk (blk_below (g := gb723) (o := .cells #[.slice Ao32 t716.length co32, .slice Ao34 t719.length co34] 26 (0, 0)) (by exact KX_ BK723.out) hb); have n6_ := Aside0.mk (below_step (B1_) hb); clear HO715; clear HO718; clear HO721; clear HO726; clear HO729; clear BK723; clear HB; have HO715 := n0_; have HO718 := n1_; have HO721 := n2_; have HO726 := n3_; have HO729 := n4_; have BK723 := n5_; have HB := n6_; clear n0_ n1_ n2_ n3_ n4_ n5_ n6_; (try clear hb); (try clear hb2); (try clear hk); (try clear hi)) | (go_at_call 15; (with_reducible refine (dom_Over.calls k _ _ t724 1 3 false _ ?side1 ?side2 A8.out).mono ?_); (case side1 => repeat (first | exact (Kd.R_reads' HO726.out).2.2 | (with_reducible refine Kd.C_alloc ?_ _) | (with_reducible refine Kd.C_drewN ?_ _) | (with_reducible refine Kd.C_drew ?_))); (case side2 => exact (Kd.R_reads' HO726.out).2.1); rintro e w41 ⟨rfl, hb⟩; have n0_ := Aside0.mk (Kd.N_below (by (with_reducible repeat (first | apply Kd.N_alloc | apply Kd.N_drewN | apply Kd.N_drew)); exact HO715.out) hb); have n1_ := Aside0.mk (Kd.N_below (by (with_reducible repeat (first | apply Kd.N_alloc | apply Kd.N_drewN | apply Kd.N_drew)); exact HO718.out) hb); have n2_ := Aside0.mk (Kd.N_below (by (with_reducible repeat (first | apply Kd.N_alloc | apply Kd.N_drewN | apply Kd.N_drew)); exact HO721.out) hb); have n3_ := Aside0.mk (Kd.R_below (by exact RX_ HO726.out) hb); have n4_ := Aside0.mk (Kd.R_below (by exact RX_ HO729.out) hb); have n5_ := Aside0.mk (blk_below (g := gb723) (o := .cells #[.slice Ao32 t716.length co32, .slice Ao34 t719.length co34] 26 (0, 0)) (by exact KX_ BK723.out) hb); have n6_ := Aside0.mk (below_step (B1_) hb); clear HO715; clear HO718; clear HO721; clear HO726; clear HO729; clear BK723; clear HB; have HO715 := n0_; have HO718 := n1_; have HO721 := n2_; have HO726 := n3_; have HO729 := n4_; have BK723 := n5_; have HB := n6_; clear n0_ n1_ n2_ n3_ n4_ n5_ n6_; (try clear hb); (try clear hb2); (try clear hk); (try clear hi)) | (go_at_call 26; (with_reducible refine (dom_Meet.calls k _ _ t724 1 2 t733 _ ?side1 ?side2 A10.out).mono ?_); (case side1 => repeat (first | exact (Kd.R_reads' HO726.out).2.2 | (with_reducible refine Kd.C_alloc ?_ _) | (with_reducible refine Kd.C_drewN ?_ _) | (with_reducible refine Kd.C_drew ?_))); (case side2 => exact (Kd.R_reads' HO726.out).2.1); rintro e w42 ⟨rfl, hb⟩; have n0_ := Aside0.mk (Kd.N_below (by (with_reducible repeat (first | apply Kd.N_alloc | apply Kd.N_drewN | apply Kd.N_drew)); exact HO715.out) hb); have n1_ := Aside0.mk (Kd.N_below (by (with_reducible repeat (first | apply Kd.N_alloc | apply Kd.N_drewN | apply Kd.N_drew)); exact HO718.out) hb); have n2_ := Aside0.mk (Kd.N_below (by (with_reducible repeat (first | apply Kd.N_alloc | apply Kd.N_drewN | apply Kd.N_drew)); exact HO721.out) hb); have n3_ := Aside0.mk (Kd.R_below (by exact RX_ HO726.out) hb); have n4_ := Aside0.mk (Kd.R_below (by exact RX_ HO729.out) hb); have n5_ := Aside0.mk (blk_below (g := gb723) (o := .cells #[.slice Ao32 t716.length co32, .slice Ao34 t719.length co34] 26 (0, 0)) (by exact KX_ BK723.out) hb); have n6_ := Aside0.mk (below_step (B1_) hb); clear HO715; clear HO718; clear HO721; clear HO726; clear HO729; clear BK723; clear HB; have HO715 := n0_; have HO718 := n1_; have HO721 := n2_; have HO726 := n3_; have HO729 := n4_; have BK723 := n5_; have HB := n6_; clear n0_ n1_ n2_ n3_ n4_ n5_ n6_; (try clear hb); (try clear hb2); (try clear hk); (try clear hi)) | (go_at_call 27; (with_reducible refine (dom_Kids.calls k _ _ t724 0 t734 _ ?side1 ?side2 A12.out).mono ?_); (case side1 => repeat (first | exact (Kd.R_reads' HO726.out).2.2 | (with_reducible refine Kd.C_alloc ?_ _) | (with_reducible refine Kd.C_drewN ?_ _) | (with_reducible refine Kd.C_drew ?_))); (case side2 => exact (Kd.R_reads' HO726.out).2.1); rintro e w43 ⟨v735, rfl, ho0, hb⟩; have n0_ := Aside0.mk (Kd.N_elder' (by (with_reducible repeat (first | apply Kd.N_alloc | apply Kd.N_drewN | apply Kd.N_drew)); exact HO715.out) (Kd.R_base ho0) hb); have n1_ := Aside0.mk (Kd.N_elder' (by (with_reducible repeat (first | apply Kd.N_alloc | apply Kd.N_drewN | apply Kd.N_drew)); exact HO718.out) (Kd.R_base ho0) hb); have n2_ := Aside0.mk (Kd.N_elder' (by (with_reducible repeat (first | apply Kd.N_alloc | apply Kd.N_drewN | apply Kd.N_drew)); exact HO721.out) (Kd.R_base ho0) hb); have n3_ := Aside0.mk (Kd.R_elder' (by exact RX_ HO726.out) (Kd.R_base ho0) hb); have n4_ := Aside0.mk (Kd.R_elder' (by exact RX_ HO729.out) (Kd.R_base ho0) hb); have n5_ := Aside0.mk (Kd.R_lower (Kd.R_new' (Kd.R_new' ho0 (Kd.R_lt (by exact RX_ HO726.out))) (Kd.R_lt (by exact RX_ HO729.out))) (below_size (B1_))); have n6_ := Aside0.mk (blk_below (g := gb723) (o := .cells #[.slice Ao32 t716.length co32, .slice Ao34 t719.length co34] 26 (0, 0)) (by exact KX_ BK723.out) hb); have n7_ := Aside0.mk (below_step (B1_) hb); clear HO715; clear HO718; clear HO721; clear HO726; clear HO729; clear BK723; clear HB; have HO715 := n0_; have HO718 := n1_; have HO721 := n2_; have HO726 := n3_; have HO729 := n4_; have HO736 := n5_; have BK723 := n6_; have HB := n7_; clear n0_ n1_ n2_ n3_ n4_ n5_ n6_ n7_; (try clear hb); (try clear hb2); (try clear hk); (try clear hi); (try clear ho0); obtain ⟨Ao44, co44, eo44⟩ := Kd.R_slice HO736.out; subst eo44) | (go_at_call 26; (with_reducible refine (dom_Meet.calls k _ _ t724 1 4 t737 _ ?side1 ?side2 A14.out).mono ?_); (case side1 => repeat (first | exact (Kd.R_reads' HO726.out).2.2 | (with_reducible refine Kd.C_alloc ?_ _) | (with_reducible refine Kd.C_drewN ?_ _) | (with_reducible refine Kd.C_drew ?_))); (case side2 => exact (Kd.R_reads' HO726.out).2.1); rintro e w45 ⟨rfl, hb⟩; have n0_ := Aside0.mk (Kd.N_below (by (with_reducible repeat (first | apply Kd.N_alloc | apply Kd.N_drewN | apply Kd.N_drew)); exact HO715.out) hb); have n1_ := Aside0.mk (Kd.N_below (by (with_reducible repeat (first | apply Kd.N_alloc | apply Kd.N_drewN | apply Kd.N_drew)); exact HO718.out) hb); have n2_ := Aside0.mk (Kd.N_below (by (with_reducible repeat (first | apply Kd.N_alloc | apply Kd.N_drewN | apply Kd.N_drew)); exact HO721.out) hb); have n3_ := Aside0.mk (Kd.R_below (by exact RX_ HO726.out) hb); have n4_ := Aside0.mk (Kd.R_below (by exact RX_ HO729.out) hb); have n5_ := Aside0.mk (Kd.R_below (by exact RX_ HO736.out) hb); have n6_ := Aside0.mk (blk_below (g := gb723) (o := .cells #[.slice Ao32 t716.length co32, .slice Ao34 t719.length co34] 26 (0, 0)) (by exact KX_ BK723.out) hb); have n7_ := Aside0.mk (below_step (B1_) hb); clear HO715; clear HO718; clear HO721; clear HO726; clear HO729; clear HO736; clear BK723; clear HB; have HO715 := n0_; have HO718 := n1_; have HO721 := n2_; have HO726 := n3_; have HO729 := n4_; have HO736 := n5_; have BK723 := n6_; have HB := n7_; clear n0_ n1_ n2_ n3_ n4_ n5_ n6_ n7_; (try clear hb); (try clear hb2); (try clear hk); (try clear hi)))
      go_ret
      exact ⟨by first | rfl | exact congrArg (fun b => Ending.returned (Value.bool b)) HR_.out | (simp [errW_none, errW_some] <;> rfl) | (simp [*, errW_none, errW_some] <;> rfl), B1_⟩
     rw [if_neg c13] at H
     have c13b0 : ((t734.length : Int) == 3) = false := beq_eq_false_iff_ne.mpr c13
     have c13b1 : ((t734.length : Int) != 3) = true := bne_iff_ne.mpr c13
     exact absurd H (by simp)
    rw [if_neg c11] at H
    have c11b0 : (t733 == 0) = false := beq_eq_false_iff_ne.mpr c11
    have c11b1 : (t733 != 0) = true := bne_iff_ne.mpr c11
    exact absurd H (by simp)
   replace c7 := Bool.eq_false_iff.mpr c7
   subst c7
   have H1 : (some false) = some true := by rw [if_neg (show ¬ (false = true) by decide)] at H; exact H
   clear H
   have H := H1
   clear H1
   exact absurd H (by simp)
  replace c5 := Bool.eq_false_iff.mpr c5
  subst c5
  have H1 : (some false) = some true := by rw [if_neg (show ¬ (false = true) by decide)] at H; exact H
  clear H
  have H := H1
  clear H1
  exact absurd H (by simp)
 rw [if_neg c3] at H
 have c3b0 : (t722 == 0) = false := beq_eq_false_iff_ne.mpr c3
 have c3b1 : (t722 != 0) = true := bne_iff_ne.mpr c3
 exact absurd H (by simp)

-- NOT PRINTED: function 3 (locksteplaw07_DomMore)


/-! ### lockstepref06_Small: function 10 -/
def lockstepref06_Small.l0 : Nat → List (List Int) → Int → Option (Bool)
 | 0, _, _ => none
 | k + 1, x0, x3 => if x3 < (x0.length : Int) then (if 0 ≤ x3 then (if ((rd_L1 x0 x3).length : Int) > 100 then (some false) else (if x3 > 100 then (some false) else (lockstepref06_Small.l0 k x0 (wrap64 (x3 + 1))))) else (none)) else (some true)
def lockstepref06_Small.f (k : Nat) (l0 : List (List Int)) : Option (Bool) := lockstepref06_Small.l0 k l0 0
theorem lockstepref06_Small.mono_l : ∀ k, (∀ y0 y1, LeO (lockstepref06_Small.l0 k y0 y1) (lockstepref06_Small.l0 (k + 1) y0 y1))
 | 0 => fun _ _ r h => by simp [lockstepref06_Small.l0] at h
 | k + 1 => by
  have ih0 := lockstepref06_Small.mono_l k
  ·intro y0 y1
   unfold lockstepref06_Small.l0
   repeat' first
   | (with_reducible exact ih0 _ _)
   | (with_reducible exact LeO.refl _)
   | (with_reducible exact LeO.none _)
   | (with_reducible refine LeO.ite ?_ ?_)
   | (with_reducible refine LeO.bind ?_ (fun _ => ?_))
   | exact ih0 _ _
   | exact LeO.none _
   | refine LeO.ite ?_ ?_
   | refine LeO.bind ?_ (fun _ => ?_)
theorem lockstepref06_Small.mono : ∀ a0 k, LeO (lockstepref06_Small.f k a0) (lockstepref06_Small.f (k + 1) a0) := by
 intro a0 k
 have ih0 := lockstepref06_Small.mono_l k
 unfold lockstepref06_Small.f
 repeat' first
  | (with_reducible exact ih0 _ _)
  | (with_reducible exact LeO.refl _)
  | (with_reducible exact LeO.none _)
  | (with_reducible refine LeO.ite ?_ ?_)
  | (with_reducible refine LeO.bind ?_ (fun _ => ?_))
  | exact ih0 _ _
  | exact LeO.none _
  | refine LeO.ite ?_ ?_
  | refine LeO.bind ?_ (fun _ => ?_)
set_option maxHeartbeats 8000000 in
set_option maxRecDepth 100000 in
theorem lockstepref06_Small.calls (k : Nat) (A0 : Option Addr) (c0 : Nat) (l0 : List (List Int)) (r : Bool) (w : World) (hr0 : Kd.C (Kd.slice 3 (Kd.int .i64)) w A0 l0.length l0) (hc0 : l0.length ≤ c0) (h : lockstepref06_Small.f k l0 = some r) :
 Calls Try.prog 10 #[.slice A0 l0.length c0] w fun e w' => e = .returned (.bool r) ∧ Drawn0 w w' := by
 have HR0 := Aside0.mk hr0
 have HC0 := Aside0.mk hc0
 clear hr0 hc0
 have H : (lockstepref06_Small.l0 k l0 0) = some r := h
 clear h
 have H' := Aside0.mk H
 clear H
 go_enter Try.func10, Try.ntmps10
 go_wp2
 go_loopg [3] k (fun kq v3 w' => ∃ (x3_1 : Int), v3 = .int .i64 x3_1 ∧ Aside0 (lockstepref06_Small.l0 kq l0 x3_1 = some r) ∧ Aside0 (kq ≤ k) ∧ Drawn0 w w')
 case atStart => exact ⟨(0), (by first | rfl | (simp; done) | (simp [*]; done)), H', ⟨Nat.le_refl _⟩, by repeat (first | exact Drawn0.refl _ | apply Drawn0.step)⟩
 case round =>
  clear H'
  obtain ⟨x3_1, rfl, HA, HK1, ⟨m1, rfl⟩⟩ := hrel
  cases gk with
  | zero => exact absurd HA.out (by simp [lockstepref06_Small.l0])
  | succ k1 =>
   have H := HA.out
   clear HA
   simp only [lockstepref06_Small.l0] at H
   by_cases c2 : x3_1 < (l0.length : Int)
   ·rw [if_pos c2] at H
    have c2b0 : decide (x3_1 < (l0.length : Int)) = true := decide_eq_true c2
    clear c2
    by_cases c3 : 0 ≤ x3_1
    ·rw [if_pos c3] at H
     have c3b0 : decide (0 ≤ x3_1) = true := decide_eq_true c3
     clear c3
     by_cases c4 : ((rd_L1 l0 x3_1).length : Int) > 100
     ·rw [if_pos c4] at H
      have c4b0 : decide (100 < ((rd_L1 l0 x3_1).length : Int)) = true := decide_eq_true c4
      have c4b1 : decide (100 < (rd_L1 l0 x3_1).length) = true := decide_eq_true (by omega)
      clear c4
      obtain rfl := Option.some.inj H
      have p101 : 0 ≤ (x3_1 : Int) := D_
      have q101 : x3_1 < (l0.length : Int) := D_
      obtain ⟨ad101, A101_0, c101_0, e101, hx101_0, hl101_0, hi101_0⟩ := at_L1 HR0.out x3_1 p101 q101
      cases e101
      have HR101_0 := Aside0.mk hi101_0
      have HC101_0 := Aside0.mk hl101_0
      clear hi101_0 hl101_0
      replace p101 := eq_true p101
      replace q101 := eq_true q101
      go_wp2
      go_ret
      exact ⟨by first | rfl | (simp; done) | (simp [*]; done), by repeat (first | exact Drawn0.refl _ | apply Drawn0.step)⟩
     rw [if_neg c4] at H
     have c4b0 : decide (100 < ((rd_L1 l0 x3_1).length : Int)) = false := decide_eq_false c4
     have c4b1 : decide (100 < (rd_L1 l0 x3_1).length) = false := decide_eq_false (by omega)
     clear c4
     by_cases c5 : x3_1 > 100
     ·rw [if_pos c5] at H
      have c5b0 : decide (100 < x3_1) = true := decide_eq_true c5
      clear c5
      obtain rfl := Option.some.inj H
      have p101 : 0 ≤ (x3_1 : Int) := D_
      have q101 : x3_1 < (l0.length : Int) := D_
      obtain ⟨ad101, A101_0, c101_0, e101, hx101_0, hl101_0, hi101_0⟩ := at_L1 HR0.out x3_1 p101 q101
      cases e101
      have HR101_0 := Aside0.mk hi101_0
      have HC101_0 := Aside0.mk hl101_0
      clear hi101_0 hl101_0
      replace p101 := eq_true p101
      replace q101 := eq_true q101
      go_wp2
      go_ret
      exact ⟨by first | rfl | (simp; done) | (simp [*]; done), by repeat (first | exact Drawn0.refl _ | apply Drawn0.step)⟩
     rw [if_neg c5] at H
     have c5b0 : decide (100 < x3_1) = false := decide_eq_false c5
     clear c5
     have H' := Aside0.mk H
     clear H
     have p101 : 0 ≤ (x3_1 : Int) := D_
     have q101 : x3_1 < (l0.length : Int) := D_
     obtain ⟨ad101, A101_0, c101_0, e101, hx101_0, hl101_0, hi101_0⟩ := at_L1 HR0.out x3_1 p101 q101
     cases e101
     have HR101_0 := Aside0.mk hi101_0
     have HC101_0 := Aside0.mk hl101_0
     clear hi101_0 hl101_0
     replace p101 := eq_true p101
     replace q101 := eq_true q101
     go_wp2
     go_roundg k1
     case measure => have := HK1.out; omega
     case rel => exact ⟨(wrap64 (x3_1 + 1)), (by first | rfl | (simp; done) | (simp [*]; done)), H', ⟨by have := HK1.out; omega⟩, by repeat (first | exact Drawn0.refl _ | apply Drawn0.step)⟩
    rw [if_neg c3] at H
    exact absurd H (by simp)
   rw [if_neg c2] at H
   have c2b0 : decide (x3_1 < (l0.length : Int)) = false := decide_eq_false c2
   clear c2
   obtain rfl := Option.some.inj H
   go_wp2
   go_ret
   exact ⟨by first | rfl | (simp; done) | (simp [*]; done), by repeat (first | exact Drawn0.refl _ | apply Drawn0.step)⟩

-- NOT PRINTED: function 48 (slices_IndexFunc_int_int_48)

-- NOT PRINTED: function 28 (slices_ContainsFunc_int_int_28)


/-! ### lockstepref06_Has: function 12 -/
def lockstepref06_Has.l0 : Nat → List Int → Int → Int → Option (Bool)
 | 0, _, _, _ => none
 | k + 1, x0, x1, x5 => if x5 < (x0.length : Int) then (if 0 ≤ x5 then (if (rd x0 x5) = x1 then (some true) else (lockstepref06_Has.l0 k x0 x1 (wrap64 (x5 + 1)))) else (none)) else (some false)
def lockstepref06_Has.f (k : Nat) (l0 : List Int) (a1 : Int) : Option (Bool) := lockstepref06_Has.l0 k l0 a1 0
theorem lockstepref06_Has.mono_l : ∀ k, (∀ y0 y1 y2, LeO (lockstepref06_Has.l0 k y0 y1 y2) (lockstepref06_Has.l0 (k + 1) y0 y1 y2))
 | 0 => fun _ _ _ r h => by simp [lockstepref06_Has.l0] at h
 | k + 1 => by
  have ih0 := lockstepref06_Has.mono_l k
  ·intro y0 y1 y2
   unfold lockstepref06_Has.l0
   repeat' first
   | (with_reducible exact ih0 _ _ _)
   | (with_reducible exact LeO.refl _)
   | (with_reducible exact LeO.none _)
   | (with_reducible refine LeO.ite ?_ ?_)
   | (with_reducible refine LeO.bind ?_ (fun _ => ?_))
   | exact ih0 _ _ _
   | exact LeO.none _
   | refine LeO.ite ?_ ?_
   | refine LeO.bind ?_ (fun _ => ?_)
theorem lockstepref06_Has.mono : ∀ a0 a1 k, LeO (lockstepref06_Has.f k a0 a1) (lockstepref06_Has.f (k + 1) a0 a1) := by
 intro a0 a1 k
 have ih0 := lockstepref06_Has.mono_l k
 unfold lockstepref06_Has.f
 repeat' first
  | (with_reducible exact ih0 _ _ _)
  | (with_reducible exact LeO.refl _)
  | (with_reducible exact LeO.none _)
  | (with_reducible refine LeO.ite ?_ ?_)
  | (with_reducible refine LeO.bind ?_ (fun _ => ?_))
  | exact ih0 _ _ _
  | exact LeO.none _
  | refine LeO.ite ?_ ?_
  | refine LeO.bind ?_ (fun _ => ?_)
set_option maxHeartbeats 8000000 in
set_option maxRecDepth 100000 in
theorem lockstepref06_Has.calls (k : Nat) (A0 : Option Addr) (c0 : Nat) (l0 : List Int) (a1 : Int) (r : Bool) (w : World) (hr0 : Kd.C (Kd.int .i64) w A0 l0.length l0) (hc0 : l0.length ≤ c0) (h : lockstepref06_Has.f k l0 a1 = some r) :
 Calls Try.prog 12 #[.slice A0 l0.length c0, .int .i64 a1] w fun e w' => e = .returned (.bool r) ∧ Drawn0 w w' := by
 have HR0 := Aside0.mk hr0
 have HC0 := Aside0.mk hc0
 clear hr0 hc0
 have H : (lockstepref06_Has.l0 k l0 a1 0) = some r := h
 clear h
 have H' := Aside0.mk H
 clear H
 go_enter Try.func12, Try.ntmps12
 go_wp2
 go_loopg [5] k (fun kq v5 w' => ∃ (x5_1 : Int), v5 = .int .i64 x5_1 ∧ Aside0 (lockstepref06_Has.l0 kq l0 a1 x5_1 = some r) ∧ Aside0 (kq ≤ k) ∧ Drawn0 w w')
 case atStart => exact ⟨(0), (by first | rfl | (simp; done) | (simp [*]; done)), H', ⟨Nat.le_refl _⟩, by repeat (first | exact Drawn0.refl _ | apply Drawn0.step)⟩
 case round =>
  clear H'
  obtain ⟨x5_1, rfl, HA, HK1, ⟨m1, rfl⟩⟩ := hrel
  cases gk with
  | zero => exact absurd HA.out (by simp [lockstepref06_Has.l0])
  | succ k1 =>
   have H := HA.out
   clear HA
   simp only [lockstepref06_Has.l0] at H
   by_cases c3 : x5_1 < (l0.length : Int)
   ·rw [if_pos c3] at H
    have c3b0 : decide (x5_1 < (l0.length : Int)) = true := decide_eq_true c3
    clear c3
    by_cases c4 : 0 ≤ x5_1
    ·rw [if_pos c4] at H
     have c4b0 : decide (0 ≤ x5_1) = true := decide_eq_true c4
     clear c4
     by_cases c5 : (rd l0 x5_1) = a1
     ·rw [if_pos c5] at H
      have c5b0 : ((rd l0 x5_1) == a1) = true := beq_iff_eq.mpr c5
      have c5b1 : ((rd l0 x5_1) != a1) = false := bne_eq_false_iff_eq.mpr c5
      clear c5
      obtain rfl := Option.some.inj H
      have p380 : 0 ≤ (x5_1 : Int) := D_
      have q380 : x5_1 < (l0.length : Int) := D_
      obtain ⟨ad380, e380, hx380_0⟩ := Kd.at_int HR0.out x5_1 p380 q380
      cases e380
      replace p380 := eq_true p380
      replace q380 := eq_true q380
      go_wp2
      go_ret
      exact ⟨by first | rfl | (simp; done) | (simp [*]; done), by repeat (first | exact Drawn0.refl _ | apply Drawn0.step)⟩
     rw [if_neg c5] at H
     have c5b0 : ((rd l0 x5_1) == a1) = false := beq_eq_false_iff_ne.mpr c5
     have c5b1 : ((rd l0 x5_1) != a1) = true := bne_iff_ne.mpr c5
     have H' := Aside0.mk H
     clear H
     have p380 : 0 ≤ (x5_1 : Int) := D_
     have q380 : x5_1 < (l0.length : Int) := D_
     obtain ⟨ad380, e380, hx380_0⟩ := Kd.at_int HR0.out x5_1 p380 q380
     cases e380
     replace p380 := eq_true p380
     replace q380 := eq_true q380
     go_wp2
     go_roundg k1
     case measure => have := HK1.out; omega
     case rel => exact ⟨(wrap64 (x5_1 + 1)), (by first | rfl | (simp; done) | (simp [*]; done)), H', ⟨by have := HK1.out; omega⟩, by repeat (first | exact Drawn0.refl _ | apply Drawn0.step)⟩
    rw [if_neg c4] at H
    exact absurd H (by simp)
   rw [if_neg c3] at H
   have c3b0 : decide (x5_1 < (l0.length : Int)) = false := decide_eq_false c3
   clear c3
   obtain rfl := Option.some.inj H
   go_wp2
   go_ret
   exact ⟨by first | rfl | (simp; done) | (simp [*]; done), by repeat (first | exact Drawn0.refl _ | apply Drawn0.step)⟩


/-! ### lockstepref06_Reach: function 14 -/
mutual
def lockstepref06_Reach.l0 : Nat → Int → List Bool → Int → List (List Int) → List (List Int) → Option (List Bool)
 | 0, _, _, _, _, _ => none
 | k + 1, x2, x7, x8, x421000, x421001 => if x8 < (x7.length : Int) then (lockstepref06_Reach.l1 k x2 x7 x8 0 x421000 x421001) else (some x7)
def lockstepref06_Reach.l1 : Nat → Int → List Bool → Int → Int → List (List Int) → List (List Int) → Option (List Bool)
 | 0, _, _, _, _, _, _ => none
 | k + 1, x2, x7, x8, x9, x421000, x421001 => if x9 < (x7.length : Int) then (lockstepref06_Reach.l2 k x2 x7 x8 x9 0 x421000 x421001) else (lockstepref06_Reach.l0 k x2 x7 (wrap64 (x8 + 1)) x421000 x421001)
def lockstepref06_Reach.l2 : Nat → Int → List Bool → Int → Int → Int → List (List Int) → List (List Int) → Option (List Bool)
 | 0, _, _, _, _, _, _, _ => none
 | k + 1, x2, x7, x8, x9, x10, x421000, x421001 => if 0 ≤ x9 then (if x9 < (x7.length : Int) then (if rdOf false x7 x9 = true then (if x9 < (x421000.length : Int) then (lockstepref06_Reach.j3 k x2 x7 x8 x9 x10 (decide (x10 < ((rd_L1 x421000 x9).length : Int))) x421000 x421001) else (none)) else (lockstepref06_Reach.j3 k x2 x7 x8 x9 x10 false x421000 x421001)) else (none)) else (none)
def lockstepref06_Reach.j3 : Nat → Int → List Bool → Int → Int → Int → Bool → List (List Int) → List (List Int) → Option (List Bool)
 | 0, _, _, _, _, _, _, _, _ => none
 | k + 1, x2, x7, x8, x9, x10, x47, x421000, x421001 => if x47 = true then (if 0 ≤ x9 then (if x9 < (x421000.length : Int) then (if 0 ≤ x10 then (if x10 < ((rd_L1 x421000 x9).length : Int) then (if (rd (rd_L1 x421000 x9) x10) = x2 then (lockstepref06_Reach.l2 k x2 x7 x8 x9 (wrap64 (x10 + 1)) x421000 x421001) else (if 0 ≤ (rd (rd_L1 x421000 x9) x10) then (if (rd (rd_L1 x421000 x9) x10) < (x7.length : Int) then (lockstepref06_Reach.l2 k x2 (x7.set ((rd (rd_L1 x421000 x9) x10) : Int).toNat true) x8 x9 (wrap64 (x10 + 1)) x421000 x421001) else (none)) else (none))) else (none)) else (none)) else (none)) else (none)) else (lockstepref06_Reach.l1 k x2 x7 x8 (wrap64 (x9 + 1)) x421000 x421001)
end
def lockstepref06_Reach.f (k : Nat) (l0_0 : List (List Int)) (l0_1 : List (List Int)) (a1 : Int) (a2 : Int) : Option (List Bool) := if 0 ≤ (l0_0.length : Int) then (if ((l0_0.length : Int) : Int).toNat ≤ 281474976710656 then ((some (List.replicate ((l0_0.length : Int) : Int).toNat false : List Bool)).bind fun y421 => (if a1 = a2 then (some y421) else (if 0 ≤ a1 then (if a1 < (y421.length : Int) then (lockstepref06_Reach.l0 k a2 (y421.set (a1 : Int).toNat true) 0 l0_0 l0_1) else (none)) else (none)))) else (none)) else (none)
theorem lockstepref06_Reach.mono_l : ∀ k, (∀ y0 y1 y2 y3 y4, LeO (lockstepref06_Reach.l0 k y0 y1 y2 y3 y4) (lockstepref06_Reach.l0 (k + 1) y0 y1 y2 y3 y4)) ∧ (∀ y0 y1 y2 y3 y4 y5, LeO (lockstepref06_Reach.l1 k y0 y1 y2 y3 y4 y5) (lockstepref06_Reach.l1 (k + 1) y0 y1 y2 y3 y4 y5)) ∧ (∀ y0 y1 y2 y3 y4 y5 y6, LeO (lockstepref06_Reach.l2 k y0 y1 y2 y3 y4 y5 y6) (lockstepref06_Reach.l2 (k + 1) y0 y1 y2 y3 y4 y5 y6)) ∧ (∀ y0 y1 y2 y3 y4 y5 y6 y7, LeO (lockstepref06_Reach.j3 k y0 y1 y2 y3 y4 y5 y6 y7) (lockstepref06_Reach.j3 (k + 1) y0 y1 y2 y3 y4 y5 y6 y7))
 | 0 => ⟨fun _ _ _ _ _ r h => by simp [lockstepref06_Reach.l0] at h, fun _ _ _ _ _ _ r h => by simp [lockstepref06_Reach.l1] at h, fun _ _ _ _ _ _ _ r h => by simp [lockstepref06_Reach.l2] at h, fun _ _ _ _ _ _ _ _ r h => by simp [lockstepref06_Reach.j3] at h⟩
 | k + 1 => by
  obtain ⟨ih0, ih1, ih2, ih3⟩ := lockstepref06_Reach.mono_l k
  refine ⟨?_, ?_, ?_, ?_⟩
  ·intro y0 y1 y2 y3 y4
   unfold lockstepref06_Reach.l0
   repeat' first
   | (with_reducible exact ih0 _ _ _ _ _)
   | (with_reducible exact ih1 _ _ _ _ _ _)
   | (with_reducible exact ih2 _ _ _ _ _ _ _)
   | (with_reducible exact ih3 _ _ _ _ _ _ _ _)
   | (with_reducible exact LeO.refl _)
   | (with_reducible exact LeO.none _)
   | (with_reducible refine LeO.ite ?_ ?_)
   | (with_reducible refine LeO.bind ?_ (fun _ => ?_))
   | exact ih0 _ _ _ _ _
   | exact ih1 _ _ _ _ _ _
   | exact ih2 _ _ _ _ _ _ _
   | exact ih3 _ _ _ _ _ _ _ _
   | exact LeO.none _
   | refine LeO.ite ?_ ?_
   | refine LeO.bind ?_ (fun _ => ?_)
  ·intro y0 y1 y2 y3 y4 y5
   unfold lockstepref06_Reach.l1
   repeat' first
   | (with_reducible exact ih0 _ _ _ _ _)
   | (with_reducible exact ih1 _ _ _ _ _ _)
   | (with_reducible exact ih2 _ _ _ _ _ _ _)
   | (with_reducible exact ih3 _ _ _ _ _ _ _ _)
   | (with_reducible exact LeO.refl _)
   | (with_reducible exact LeO.none _)
   | (with_reducible refine LeO.ite ?_ ?_)
   | (with_reducible refine LeO.bind ?_ (fun _ => ?_))
   | exact ih0 _ _ _ _ _
   | exact ih1 _ _ _ _ _ _
   | exact ih2 _ _ _ _ _ _ _
   | exact ih3 _ _ _ _ _ _ _ _
   | exact LeO.none _
   | refine LeO.ite ?_ ?_
   | refine LeO.bind ?_ (fun _ => ?_)
  ·intro y0 y1 y2 y3 y4 y5 y6
   unfold lockstepref06_Reach.l2
   repeat' first
   | (with_reducible exact ih0 _ _ _ _ _)
   | (with_reducible exact ih1 _ _ _ _ _ _)
   | (with_reducible exact ih2 _ _ _ _ _ _ _)
   | (with_reducible exact ih3 _ _ _ _ _ _ _ _)
   | (with_reducible exact LeO.refl _)
   | (with_reducible exact LeO.none _)
   | (with_reducible refine LeO.ite ?_ ?_)
   | (with_reducible refine LeO.bind ?_ (fun _ => ?_))
   | exact ih0 _ _ _ _ _
   | exact ih1 _ _ _ _ _ _
   | exact ih2 _ _ _ _ _ _ _
   | exact ih3 _ _ _ _ _ _ _ _
   | exact LeO.none _
   | refine LeO.ite ?_ ?_
   | refine LeO.bind ?_ (fun _ => ?_)
  ·intro y0 y1 y2 y3 y4 y5 y6 y7
   unfold lockstepref06_Reach.j3
   repeat' first
   | (with_reducible exact ih0 _ _ _ _ _)
   | (with_reducible exact ih1 _ _ _ _ _ _)
   | (with_reducible exact ih2 _ _ _ _ _ _ _)
   | (with_reducible exact ih3 _ _ _ _ _ _ _ _)
   | (with_reducible exact LeO.refl _)
   | (with_reducible exact LeO.none _)
   | (with_reducible refine LeO.ite ?_ ?_)
   | (with_reducible refine LeO.bind ?_ (fun _ => ?_))
   | exact ih0 _ _ _ _ _
   | exact ih1 _ _ _ _ _ _
   | exact ih2 _ _ _ _ _ _ _
   | exact ih3 _ _ _ _ _ _ _ _
   | exact LeO.none _
   | refine LeO.ite ?_ ?_
   | refine LeO.bind ?_ (fun _ => ?_)
theorem lockstepref06_Reach.mono : ∀ a0 a1 a2 a3 k, LeO (lockstepref06_Reach.f k a0 a1 a2 a3) (lockstepref06_Reach.f (k + 1) a0 a1 a2 a3) := by
 intro a0 a1 a2 a3 k
 obtain ⟨ih0, ih1, ih2, ih3⟩ := lockstepref06_Reach.mono_l k
 unfold lockstepref06_Reach.f
 repeat' first
  | (with_reducible exact ih0 _ _ _ _ _)
  | (with_reducible exact ih1 _ _ _ _ _ _)
  | (with_reducible exact ih2 _ _ _ _ _ _ _)
  | (with_reducible exact ih3 _ _ _ _ _ _ _ _)
  | (with_reducible exact LeO.refl _)
  | (with_reducible exact LeO.none _)
  | (with_reducible refine LeO.ite ?_ ?_)
  | (with_reducible refine LeO.bind ?_ (fun _ => ?_))
  | exact ih0 _ _ _ _ _
  | exact ih1 _ _ _ _ _ _
  | exact ih2 _ _ _ _ _ _ _
  | exact ih3 _ _ _ _ _ _ _ _
  | exact LeO.none _
  | refine LeO.ite ?_ ?_
  | refine LeO.bind ?_ (fun _ => ?_)
set_option maxHeartbeats 8000000 in
set_option maxRecDepth 100000 in
theorem lockstepref06_Reach.calls (k : Nat) (A0_0 : Option Addr) (c0_0 : Nat) (l0_0 : List (List Int)) (A0_1 : Option Addr) (c0_1 : Nat) (l0_1 : List (List Int)) (a1 : Int) (a2 : Int) (r : List Bool) (w : World) (hr0_0 : Kd.C (Kd.slice 3 (Kd.int .i64)) w A0_0 l0_0.length l0_0) (hc0_0 : l0_0.length ≤ c0_0) (hr0_1 : Kd.C (Kd.slice 3 (Kd.int .i64)) w A0_1 l0_1.length l0_1) (hc0_1 : l0_1.length ≤ c0_1) (h : lockstepref06_Reach.f k l0_0 l0_1 a1 a2 = some r) :
 Calls Try.prog 14 #[.agg #[.slice A0_0 l0_0.length c0_0, .slice A0_1 l0_1.length c0_1], .int .i64 a1, .int .i64 a2] w fun e w' => ∃ v0_ : Value, e = .returned (v0_) ∧ Kd.R Kd.bool 4 w' w.heap.size (fun _ => True) v0_ r ∧ Below w.heap.size w w' := by
 have hu26 := Try.underlying26
 have HR0_0 := Aside0.mk hr0_0
 have HC0_0 := Aside0.mk hc0_0
 clear hr0_0 hc0_0
 have HR0_1 := Aside0.mk hr0_1
 have HC0_1 := Aside0.mk hc0_1
 clear hr0_1 hc0_1
 have HB := Aside0.mk (Below.refl w.heap.size w)
 have H : (if 0 ≤ (l0_0.length : Int) then (if ((l0_0.length : Int) : Int).toNat ≤ 281474976710656 then ((some (List.replicate ((l0_0.length : Int) : Int).toNat false : List Bool)).bind fun y421 => (if a1 = a2 then (some y421) else (if 0 ≤ a1 then (if a1 < (y421.length : Int) then (lockstepref06_Reach.l0 k a2 (y421.set (a1 : Int).toNat true) 0 l0_0 l0_1) else (none)) else (none)))) else (none)) else (none)) = some r := h
 clear h
 by_cases c4 : 0 ≤ (l0_0.length : Int)
 ·rw [if_pos c4] at H
  have c4b0 := eq_true c4
  have c4b1 : decide (0 ≤ (l0_0.length : Int)) = true := decide_eq_true c4
  clear c4
  by_cases c5 : ((l0_0.length : Int) : Int).toNat ≤ 281474976710656
  ·rw [if_pos c5] at H
   have c5b0 := eq_true c5
   have c5b1 : decide (((l0_0.length : Int) : Int).toNat ≤ 281474976710656) = true := decide_eq_true c5
   clear c5
   obtain ⟨y421, hy421⟩ : ∃ y_ : List Bool, y_ = (List.replicate ((l0_0.length : Int) : Int).toNat false) := ⟨_, rfl⟩
   replace H : (if a1 = a2 then (some y421) else (if 0 ≤ a1 then (if a1 < (y421.length : Int) then (lockstepref06_Reach.l0 k a2 (y421.set (a1 : Int).toNat true) 0 l0_0 l0_1) else (none)) else (none))) = some r := by first | (rw [hy421]; with_reducible exact H) | (have H2_ := (Option.bind_some _ _).symm.trans H; rw [hy421]; with_reducible exact H2_) | (have H2_ := (Option.bind_some _ _).symm.trans H; with_reducible exact H2_) | with_reducible exact H | (rw [hy421]; exact H) | exact H
   have Ny421 := Aside0.mk hy421
   clear hy421
   by_cases c6 : a1 = a2
   ·rw [if_pos c6] at H
    have c6b0 : (a1 == a2) = true := beq_iff_eq.mpr c6
    have c6b1 : (a1 != a2) = false := bne_eq_false_iff_eq.mpr c6
    clear c6
    obtain rfl := Option.some.inj H
    go_enter Try.func14, Try.ntmps14
    go_wp2_with (first | ((with_reducible refine gate_dst (N := 3) rfl ?_); (try (refine gate_guard (by rfl) ?_; dsimp only)); refine box_event ?hg (N := 3) ?hd (cs := #[.slice A0_0 l0_0.length c0_0, .slice A0_1 l0_1.length c0_1]) (t := 26) ?hr ?_; (case hd => rfl); (case hg => rfl); (case hr => first | (go_simp; done) | (go_simp; rfl)); intro gb420 hg w7 hbox hb; have n0_ := Aside0.mk (below_step (B_) hb); have n1_ := Aside0.mk (hbox); have n2_ := Aside0.mk ((by rw [hg]; exact (below_size (B_)) : w.heap.size ≤ gb420)); have n3_ := Aside0.mk ((by rw [hg]; exact (below_size (B_)) : w.heap.size ≤ gb420)); clear HB; have HB := n0_; have BK420 := n1_; have GW420 := n2_; have GE420 := n3_; clear n0_ n1_ n2_ n3_; clear hb hbox hg; have hcz8_0 : w7.cell? ⟨gb420, 0, none⟩ = some (.slice A0_0 l0_0.length c0_0) := (blk_cell BK420.out 0).trans rfl; have hcz8_1 : w7.cell? ⟨gb420, 1, none⟩ = some (.slice A0_1 l0_1.length c0_1) := (blk_cell BK420.out 1).trans rfl; have hfz8_0 := blk_frozen BK420.out 0; have hfz8_1 := blk_frozen BK420.out 1) | ((with_reducible refine gate_dst (N := 14) rfl ?_); (try (refine gate_guard (by rfl) ?_; dsimp only)); refine Kd.R_make Kd.bool _ 4 rfl (N := 14) rfl 33 _ _ rfl (l0_0.length : Int) rfl rfl Try.underlying33 (.bool false) 1 info4 rfl (by decide) (by omega) false (ok := fun _ => True) (okp := fun _ => True) rfl (fun _ hk => hk) trivial (D_) (Nat.le_trans (Nat.mul_le_mul_right _ (D_ : (l0_0.length : Int).toNat ≤ 281474976710656)) (by omega)) (Below.refl _ _) (Nat.le_refl _) ?_; intro v422 w9 ho10 hb hg_ hnew_; clear hg_ hnew_; (first | rw [← Ny421.out] at ho10 | (simp only [Int.reduceToNat] at ho10; rw [← Ny421.out] at ho10)); have n0_ := Aside0.mk (Kd.R_lower ho10 (below_size (B1_))); have n1_ := Aside0.mk (blk_below (g := gb420) (o := .cells #[.slice A0_0 l0_0.length c0_0, .slice A0_1 l0_1.length c0_1] 26 (0, 0)) (by exact KX_ BK420.out) hb); have n2_ := Aside0.mk (below_step (B1_) hb); clear BK420; clear HB; have HO423 := n0_; have BK420 := n1_; have HB := n2_; clear n0_ n1_ n2_; clear hb ho10))
    go_ret
    exact ⟨_, by first | rfl | (simp [errW_none, errW_some] <;> rfl) | (simp [*, errW_none, errW_some] <;> rfl), by exact RX_ HO423.out, B1_⟩
   rw [if_neg c6] at H
   have c6b0 : (a1 == a2) = false := beq_eq_false_iff_ne.mpr c6
   have c6b1 : (a1 != a2) = true := bne_iff_ne.mpr c6
   by_cases c11 : 0 ≤ a1
   ·rw [if_pos c11] at H
    have c11b0 : decide (0 ≤ a1) = true := decide_eq_true c11
    clear c11
    by_cases c12 : a1 < (y421.length : Int)
    ·rw [if_pos c12] at H
     have c12b0 : decide (a1 < (y421.length : Int)) = true := decide_eq_true c12
     clear c12
     obtain ⟨y424, hy424⟩ : ∃ y_ : List Bool, y_ = (y421.set (a1 : Int).toNat true) := ⟨_, rfl⟩
     replace H : (lockstepref06_Reach.l0 k a2 y424 0 l0_0 l0_1) = some r := by first | (rw [hy424]; with_reducible exact H) | (have H2_ := (Option.bind_some _ _).symm.trans H; rw [hy424]; with_reducible exact H2_) | (have H2_ := (Option.bind_some _ _).symm.trans H; with_reducible exact H2_) | with_reducible exact H | (rw [hy424]; exact H) | exact H
     have Ny424 := Aside0.mk hy424
     clear hy424
     have H' := Aside0.mk H
     clear H
     go_enter Try.func14, Try.ntmps14
     go_wp2_with (first | ((with_reducible refine gate_dst (N := 3) rfl ?_); (try (refine gate_guard (by rfl) ?_; dsimp only)); refine box_event ?hg (N := 3) ?hd (cs := #[.slice A0_0 l0_0.length c0_0, .slice A0_1 l0_1.length c0_1]) (t := 26) ?hr ?_; (case hd => rfl); (case hg => rfl); (case hr => first | (go_simp; done) | (go_simp; rfl)); intro gb420 hg w14 hbox hb; have n0_ := Aside0.mk (below_step (B_) hb); have n1_ := Aside0.mk (hbox); have n2_ := Aside0.mk ((by rw [hg]; exact (below_size (B_)) : w.heap.size ≤ gb420)); have n3_ := Aside0.mk ((by rw [hg]; exact (below_size (B_)) : w.heap.size ≤ gb420)); clear HB; have HB := n0_; have BK420 := n1_; have GW420 := n2_; have GE420 := n3_; clear n0_ n1_ n2_ n3_; clear hb hbox hg; have hcz15_0 : w14.cell? ⟨gb420, 0, none⟩ = some (.slice A0_0 l0_0.length c0_0) := (blk_cell BK420.out 0).trans rfl; have hcz15_1 : w14.cell? ⟨gb420, 1, none⟩ = some (.slice A0_1 l0_1.length c0_1) := (blk_cell BK420.out 1).trans rfl; have hfz15_0 := blk_frozen BK420.out 0; have hfz15_1 := blk_frozen BK420.out 1) | ((with_reducible refine gate_dst (N := 14) rfl ?_); (try (refine gate_guard (by rfl) ?_; dsimp only)); refine Kd.R_make Kd.bool _ 4 rfl (N := 14) rfl 33 _ _ rfl (l0_0.length : Int) rfl rfl Try.underlying33 (.bool false) 1 info4 rfl (by decide) (by omega) false (ok := fun _ => True) (okp := fun _ => True) rfl (fun _ hk => hk) trivial (D_) (Nat.le_trans (Nat.mul_le_mul_right _ (D_ : (l0_0.length : Int).toNat ≤ 281474976710656)) (by omega)) (Below.refl _ _) (Nat.le_refl _) ?_; intro v422 w16 ho17 hb hg_ hnew_; clear hg_ hnew_; (first | rw [← Ny421.out] at ho17 | (simp only [Int.reduceToNat] at ho17; rw [← Ny421.out] at ho17)); have n0_ := Aside0.mk (Kd.R_lower ho17 (below_size (B1_))); have n1_ := Aside0.mk (blk_below (g := gb420) (o := .cells #[.slice A0_0 l0_0.length c0_0, .slice A0_1 l0_1.length c0_1] 26 (0, 0)) (by exact KX_ BK420.out) hb); have n2_ := Aside0.mk (below_step (B1_) hb); clear BK420; clear HB; have HO423 := n0_; have BK420 := n1_; have HB := n2_; clear n0_ n1_ n2_; clear hb ho17; have p13 : 0 ≤ (a1 : Int) := D_; have q13 : (a1 : Int) < ((y421.length : Int) : Int) := D_; obtain ⟨go13, co13, eo13, gb13, gl13, cl13, HG13⟩ := Kd.R_form HO423.out (by omega); (first | cases eo13 | (injection eo13 with ea_ en_ ec_; (first | subst ea_ | (injection ea_ with ea_; subst ea_)); subst ec_; clear en_)); have GB13 := Aside0.mk gb13; have GG13 := Aside0.mk HG13; clear gb13 gl13 HG13; obtain ⟨hx13_0, hf13_0⟩ := Kd.R_celln false HO423.out (a1 : Int) p13 q13; replace p13 := eq_true p13; replace q13 := eq_true q13; obtain ⟨hy18_, hz18_⟩ := Kd.R_celln false HO423.out (a1 : Int) (D_) (D_); have HP18 := Kd.R_putg HO423.out (a1 : Int) true) | ((with_reducible refine gate_store (t := 4) (p := 21) rfl ?_); refine store_event (t := 4) (p := 21) (v := ?vo_w19) (w1 := (w16.setCell ⟨go13, (a1 : Int).toNat, none⟩ (.bool true))) ?hg ?ho ?hn ?hr ?_; (case ho => rfl); (case hg => rfl); (case hn => rfl); (case hr => first | (go_simp; done) | (go_simp; rfl)); intro w19 hw; have hg : w16.grownBy w19 (some go13) := (by rw [hw]; exact HP18.2); have hp_ : Kd.R Kd.bool 4 w19 w.heap.size (fun _ => True) (.slice (some ⟨go13, 0, none⟩) y421.length co13) y424 := (by rw [hw, Ny424.out]; exact HP18.1); clear HP18; have n0_ := Aside0.mk (blk_grown (g := gb420) (o := .cells #[.slice A0_0 l0_0.length c0_0, .slice A0_1 l0_1.length c0_1] 26 (0, 0)) (by exact KX_ BK420.out) hg (Kd.R_ne HO423.out BK420.out (by decide))); have n1_ := Aside0.mk (hp_); have n2_ := Aside0.mk ((by rw [hw]; exact below_set (HB.out) GB13.out : Below w.heap.size w w19)); clear BK420; clear HO423; clear HB; have BK420 := n0_; have HO423 := n1_; have HB := n2_; clear n0_ n1_ n2_; clear hg hw hp_))
     go_loopg [8] k (fun kq v8 w' => ∃ (x7_1 : List Bool) (x8_1 : Int), v8 = .int .i64 x8_1 ∧ Aside0 (lockstepref06_Reach.l0 kq a2 x7_1 x8_1 l0_0 l0_1 = some r) ∧ Aside0 (kq ≤ k) ∧ Aside0 (Kd.R Kd.bool 4 w' w.heap.size (fun _ => True) (.slice (some ⟨go13, 0, none⟩) y421.length co13) x7_1) ∧ Aside0 (w'.heap[gb420]? = some (.cells #[(.slice A0_0 l0_0.length c0_0), (.slice A0_1 l0_1.length c0_1)] 26 (0, 0))) ∧ Aside0 (Below w.heap.size w w'))
     case atStart => exact ⟨(y424), (0), (by first | rfl | (simp; done) | (simp [*]; done)), H', ⟨Nat.le_refl _⟩, ⟨by exact RM_ HO423.out⟩, ⟨by exact KX_ BK420.out⟩, ⟨B1_⟩⟩
     case round =>
      clear H'
      try clear c4b0
      try clear c4b1
      try clear c5b0
      try clear c5b1
      try clear c6
      try clear c6b0
      try clear c6b1
      try clear c11b0
      try clear c12b0
      try clear p13
      try clear q13
      try clear hcz15_0
      try clear hcz15_1
      try clear hfz15_0
      try clear hfz15_1
      try clear hx13_0
      try clear p13
      try clear q13
      obtain ⟨x7_1, x8_1, rfl, HA, HK1, HO_7, BK420, HB⟩ := hrel
      have hl7_1 := (Kd.R_reads' HO_7.out).1
      rw [hl7_1] at HO_7
      (try simp only [hl7_1])
      (try simp only [hl7_1] at BK420)
      cases gk with
      | zero => exact absurd HA.out (by simp [lockstepref06_Reach.l0])
      | succ k1 =>
       have H := HA.out
       clear HA
       simp only [lockstepref06_Reach.l0] at H
       by_cases c20 : x8_1 < (x7_1.length : Int)
       ·rw [if_pos c20] at H
        have c20b0 : decide (x8_1 < (x7_1.length : Int)) = true := decide_eq_true c20
        clear c20
        have H' := Aside0.mk H
        clear H
        go_wp2
        go_loopg [9] k1 (fun kq v9 w' => ∃ (x7_2 : List Bool) (x9_2 : Int), v9 = .int .i64 x9_2 ∧ Aside0 (lockstepref06_Reach.l1 kq a2 x7_2 x8_1 x9_2 l0_0 l0_1 = some r) ∧ Aside0 (kq ≤ k1) ∧ Aside0 (Kd.R Kd.bool 4 w' w.heap.size (fun _ => True) (.slice (some ⟨go13, 0, none⟩) x7_1.length co13) x7_2) ∧ Aside0 (w'.heap[gb420]? = some (.cells #[(.slice A0_0 l0_0.length c0_0), (.slice A0_1 l0_1.length c0_1)] 26 (0, 0))) ∧ Aside0 (Below w.heap.size w w'))
        case atStart => exact ⟨(x7_1), (0), (by first | rfl | (simp; done) | (simp [*]; done)), H', ⟨Nat.le_refl _⟩, ⟨by (try simp only [hl7_1]); exact RM_ HO_7.out⟩, ⟨by (try simp only [hl7_1]); exact KX_ BK420.out⟩, ⟨B1_⟩⟩
        case round =>
         clear H'
         try clear c20b0
         obtain ⟨x7_2, x9_2, rfl, HA, HK2, HO_7, BK420, HB⟩ := hrel
         have hl7_2 := (Kd.R_reads' HO_7.out).1
         rw [hl7_2] at HO_7
         (try simp only [hl7_2])
         (try simp only [hl7_2] at BK420)
         cases gk with
         | zero => exact absurd HA.out (by simp [lockstepref06_Reach.l1])
         | succ k2 =>
          have H := HA.out
          clear HA
          simp only [lockstepref06_Reach.l1] at H
          by_cases c21 : x9_2 < (x7_2.length : Int)
          ·rw [if_pos c21] at H
           have c21b0 : decide (x9_2 < (x7_2.length : Int)) = true := decide_eq_true c21
           clear c21
           have H' := Aside0.mk H
           clear H
           go_wp2
           go_loopg [10] k2 (fun kq v10 w' => ∃ (x7_3 : List Bool) (x10_3 : Int), v10 = .int .i64 x10_3 ∧ Aside0 (lockstepref06_Reach.l2 kq a2 x7_3 x8_1 x9_2 x10_3 l0_0 l0_1 = some r) ∧ Aside0 (kq ≤ k2) ∧ Aside0 (Kd.R Kd.bool 4 w' w.heap.size (fun _ => True) (.slice (some ⟨go13, 0, none⟩) x7_2.length co13) x7_3) ∧ Aside0 (w'.heap[gb420]? = some (.cells #[(.slice A0_0 l0_0.length c0_0), (.slice A0_1 l0_1.length c0_1)] 26 (0, 0))) ∧ Aside0 (Below w.heap.size w w'))
           case atStart => exact ⟨(x7_2), (0), (by first | rfl | (simp; done) | (simp [*]; done)), H', ⟨Nat.le_refl _⟩, ⟨by (try simp only [hl7_1]); (try simp only [hl7_2]); exact RM_ HO_7.out⟩, ⟨by (try simp only [hl7_1]); (try simp only [hl7_2]); exact KX_ BK420.out⟩, ⟨B1_⟩⟩
           case round =>
            clear H'
            try clear c21b0
            obtain ⟨x7_3, x10_3, rfl, HA, HK3, HO_7, BK420, HB⟩ := hrel
            have hl7_3 := (Kd.R_reads' HO_7.out).1
            rw [hl7_3] at HO_7
            (try simp only [hl7_3])
            (try simp only [hl7_3] at BK420)
            cases gk with
            | zero => exact absurd HA.out (by simp [lockstepref06_Reach.l2])
            | succ k3 =>
             have H := HA.out
             clear HA
             simp only [lockstepref06_Reach.l2] at H
             have HC22 := Aside0.mk H
             clear H
             go_upto_region 12 with (fail)
             go_cut [47] (fun v47 wc => ∃ (kq : Nat) (x47_21 : Bool), v47 = .bool x47_21 ∧ Aside0 (lockstepref06_Reach.j3 kq a2 x7_3 x8_1 x9_2 x10_3 x47_21 l0_0 l0_1 = some r) ∧ Aside0 (kq ≤ k3) ∧ Aside0 (Kd.R Kd.bool 4 wc w.heap.size (fun _ => True) (.slice (some ⟨go13, 0, none⟩) x7_3.length co13) x7_3) ∧ Aside0 (wc.heap[gb420]? = some (.cells #[(.slice A0_0 l0_0.length c0_0), (.slice A0_1 l0_1.length c0_1)] 26 (0, 0))) ∧ Aside0 (Below w.heap.size w wc))
             case first =>
              have H := HC22.out
              clear HC22
              by_cases c23 : 0 ≤ x9_2
              ·rw [if_pos c23] at H
               have c23b0 : decide (0 ≤ x9_2) = true := decide_eq_true c23
               clear c23
               (first | rw [c23b0] | (simp only [i64_w, i32_w]; rw [c23b0]) | skip)
               by_cases c24 : x9_2 < (x7_3.length : Int)
               ·rw [if_pos c24] at H
                have c24b0 : decide (x9_2 < (x7_3.length : Int)) = true := decide_eq_true c24
                clear c24
                obtain ⟨bq25, hbq25⟩ : ∃ b_ : Bool, b_ = (rdOf false x7_3 x9_2) := ⟨_, rfl⟩
                replace H : (if bq25 = true then (if x9_2 < (l0_0.length : Int) then (lockstepref06_Reach.j3 k3 a2 x7_3 x8_1 x9_2 x10_3 (decide (x10_3 < ((rd_L1 l0_0 x9_2).length : Int))) l0_0 l0_1) else (none)) else (lockstepref06_Reach.j3 k3 a2 x7_3 x8_1 x9_2 x10_3 false l0_0 l0_1)) = some r := by rw [← hbq25] at H; exact H
                have Nbq25 := Aside0.mk hbq25
                clear hbq25
                by_cases c26 : bq25 = true
                ·subst c26
                 have H1 : (if x9_2 < (l0_0.length : Int) then (lockstepref06_Reach.j3 k3 a2 x7_3 x8_1 x9_2 x10_3 (decide (x10_3 < ((rd_L1 l0_0 x9_2).length : Int))) l0_0 l0_1) else (none)) = some r := by rw [if_pos rfl] at H; exact H
                 clear H
                 have H := H1
                 clear H1
                 by_cases c27 : x9_2 < (l0_0.length : Int)
                 ·rw [if_pos c27] at H
                  have c27b0 : decide (x9_2 < (l0_0.length : Int)) = true := decide_eq_true c27
                  clear c27
                  have H' := Aside0.mk H
                  clear H
                  have p425 : 0 ≤ (x9_2 : Int) := D_
                  have q425 : x9_2 < (x7_3.length : Int) := D_
                  obtain ⟨ad425, e425, hx425_0⟩ := Kd.at_bool (Kd.R_reads' HO_7.out).2.2 x9_2 p425 q425
                  (try rw [← Nbq25.out] at hx425_0)
                  obtain rfl : (⟨go13, 0, none⟩ : Addr) = ad425 := (by injection e425)
                  (first | simp only [add_plain] at hx425_0 | simp only [add_at] at hx425_0 | simp only [Addr.add, Nat.zero_add] at hx425_0 | skip)
                  replace p425 := eq_true p425
                  replace q425 := eq_true q425
                  have hcz28_0 : wr.cell? ⟨gb420, 0, none⟩ = some (.slice A0_0 l0_0.length c0_0) := (blk_cell BK420.out 0).trans rfl
                  have hcz28_1 : wr.cell? ⟨gb420, 1, none⟩ = some (.slice A0_1 l0_1.length c0_1) := (blk_cell BK420.out 1).trans rfl
                  have hfz28_0 := blk_frozen BK420.out 0
                  have hfz28_1 := blk_frozen BK420.out 1
                  have p426 : 0 ≤ (x9_2 : Int) := D_
                  have q426 : x9_2 < (l0_0.length : Int) := D_
                  obtain ⟨ad426, A426_0, c426_0, e426, hx426_0, hl426_0, hi426_0⟩ := at_L1 HR0_0.out x9_2 p426 q426
                  cases e426
                  replace hx426_0 := (HB.out.cell (World.block_lt_of_cell? w _ hx426_0)).trans hx426_0
                  have HR426_0 := Aside0.mk hi426_0
                  have HC426_0 := Aside0.mk hl426_0
                  clear hi426_0 hl426_0
                  replace p426 := eq_true p426
                  replace q426 := eq_true q426
                  go_wp2
                  go_meet
                  case rel => exact ⟨_, (decide (x10_3 < ((rd_L1 l0_0 x9_2).length : Int))), (by first | rfl | (simp; done) | (simp [*]; done)), H', ⟨by have := HK1.out; have := HK2.out; have := HK3.out; first | omega | exact Nat.le_refl _⟩, ⟨by (try simp only [hl7_1]); (try simp only [hl7_2]); (try simp only [hl7_3]); exact RM_ HO_7.out⟩, ⟨by (try simp only [hl7_1]); (try simp only [hl7_2]); (try simp only [hl7_3]); exact KX_ BK420.out⟩, ⟨B1_⟩⟩
                 rw [if_neg c27] at H
                 exact absurd H (by simp)
                replace c26 := Bool.eq_false_iff.mpr c26
                subst c26
                have H1 : (lockstepref06_Reach.j3 k3 a2 x7_3 x8_1 x9_2 x10_3 false l0_0 l0_1) = some r := by rw [if_neg (show ¬ (false = true) by decide)] at H; exact H
                clear H
                have H := H1
                clear H1
                have H' := Aside0.mk H
                clear H
                have p425 : 0 ≤ (x9_2 : Int) := D_
                have q425 : x9_2 < (x7_3.length : Int) := D_
                obtain ⟨ad425, e425, hx425_0⟩ := Kd.at_bool (Kd.R_reads' HO_7.out).2.2 x9_2 p425 q425
                (try rw [← Nbq25.out] at hx425_0)
                obtain rfl : (⟨go13, 0, none⟩ : Addr) = ad425 := (by injection e425)
                (first | simp only [add_plain] at hx425_0 | simp only [add_at] at hx425_0 | simp only [Addr.add, Nat.zero_add] at hx425_0 | skip)
                replace p425 := eq_true p425
                replace q425 := eq_true q425
                go_wp2
                go_meet
                case rel => exact ⟨_, (false), (by first | rfl | (simp; done) | (simp [*]; done)), H', ⟨by have := HK1.out; have := HK2.out; have := HK3.out; first | omega | exact Nat.le_refl _⟩, ⟨by (try simp only [hl7_1]); (try simp only [hl7_2]); (try simp only [hl7_3]); exact RM_ HO_7.out⟩, ⟨by (try simp only [hl7_1]); (try simp only [hl7_2]); (try simp only [hl7_3]); exact KX_ BK420.out⟩, ⟨B1_⟩⟩
               rw [if_neg c24] at H
               exact absurd H (by simp)
              rw [if_neg c23] at H
              exact absurd H (by simp)
             case rest =>
              clear HC22
              obtain ⟨kq, x47_21, rfl, HA, HJ21, HO_7, BK420, HB⟩ := hcut
              cases kq with
              | zero => exact absurd HA.out (by simp [lockstepref06_Reach.j3])
              | succ kj21 =>
               have H := HA.out
               clear HA
               simp only [lockstepref06_Reach.j3] at H
               by_cases c29 : x47_21 = true
               ·subst c29
                have H1 : (if 0 ≤ x9_2 then (if x9_2 < (l0_0.length : Int) then (if 0 ≤ x10_3 then (if x10_3 < ((rd_L1 l0_0 x9_2).length : Int) then (if (rd (rd_L1 l0_0 x9_2) x10_3) = a2 then (lockstepref06_Reach.l2 kj21 a2 x7_3 x8_1 x9_2 (wrap64 (x10_3 + 1)) l0_0 l0_1) else (if 0 ≤ (rd (rd_L1 l0_0 x9_2) x10_3) then (if (rd (rd_L1 l0_0 x9_2) x10_3) < (x7_3.length : Int) then (lockstepref06_Reach.l2 kj21 a2 (x7_3.set ((rd (rd_L1 l0_0 x9_2) x10_3) : Int).toNat true) x8_1 x9_2 (wrap64 (x10_3 + 1)) l0_0 l0_1) else (none)) else (none))) else (none)) else (none)) else (none)) else (none)) = some r := by rw [if_pos rfl] at H; exact H
                clear H
                have H := H1
                clear H1
                by_cases c30 : 0 ≤ x9_2
                ·rw [if_pos c30] at H
                 have c30b0 : decide (0 ≤ x9_2) = true := decide_eq_true c30
                 clear c30
                 by_cases c31 : x9_2 < (l0_0.length : Int)
                 ·rw [if_pos c31] at H
                  have c31b0 : decide (x9_2 < (l0_0.length : Int)) = true := decide_eq_true c31
                  clear c31
                  by_cases c32 : 0 ≤ x10_3
                  ·rw [if_pos c32] at H
                   have c32b0 : decide (0 ≤ x10_3) = true := decide_eq_true c32
                   clear c32
                   by_cases c33 : x10_3 < ((rd_L1 l0_0 x9_2).length : Int)
                   ·rw [if_pos c33] at H
                    have c33b0 : decide (x10_3 < ((rd_L1 l0_0 x9_2).length : Int)) = true := decide_eq_true c33
                    clear c33
                    by_cases c34 : (rd (rd_L1 l0_0 x9_2) x10_3) = a2
                    ·rw [if_pos c34] at H
                     have c34b0 : ((rd (rd_L1 l0_0 x9_2) x10_3) == a2) = true := beq_iff_eq.mpr c34
                     have c34b1 : ((rd (rd_L1 l0_0 x9_2) x10_3) != a2) = false := bne_eq_false_iff_eq.mpr c34
                     clear c34
                     have H' := Aside0.mk H
                     clear H
                     have hcz35_0 : wc.cell? ⟨gb420, 0, none⟩ = some (.slice A0_0 l0_0.length c0_0) := (blk_cell BK420.out 0).trans rfl
                     have hcz35_1 : wc.cell? ⟨gb420, 1, none⟩ = some (.slice A0_1 l0_1.length c0_1) := (blk_cell BK420.out 1).trans rfl
                     have hfz35_0 := blk_frozen BK420.out 0
                     have hfz35_1 := blk_frozen BK420.out 1
                     have p427 : 0 ≤ (x9_2 : Int) := D_
                     have q427 : x9_2 < (l0_0.length : Int) := D_
                     obtain ⟨ad427, A427_0, c427_0, e427, hx427_0, hl427_0, hi427_0⟩ := at_L1 HR0_0.out x9_2 p427 q427
                     cases e427
                     replace hx427_0 := (HB.out.cell (World.block_lt_of_cell? w _ hx427_0)).trans hx427_0
                     have HR427_0 := Aside0.mk hi427_0
                     have HC427_0 := Aside0.mk hl427_0
                     clear hi427_0 hl427_0
                     replace p427 := eq_true p427
                     replace q427 := eq_true q427
                     have p428 : 0 ≤ (x10_3 : Int) := D_
                     have q428 : x10_3 < ((rd_L1 l0_0 x9_2).length : Int) := D_
                     obtain ⟨ad428, e428, hx428_0⟩ := Kd.at_int HR427_0.out x10_3 p428 q428
                     cases e428
                     replace hx428_0 := (HB.out.cell (World.block_lt_of_cell? w _ hx428_0)).trans hx428_0
                     replace p428 := eq_true p428
                     replace q428 := eq_true q428
                     go_wp2
                     (try simp only [← hl7_3])
                     go_roundg kj21
                     case measure => have := HK1.out; have := HK2.out; have := HK3.out; have := HJ21.out; omega
                     case rel => exact ⟨(x7_3), (wrap64 (x10_3 + 1)), (by first | rfl | (simp; done) | (simp [*]; done)), H', ⟨by have := HK1.out; have := HK2.out; have := HK3.out; have := HJ21.out; omega⟩, ⟨by (try simp only [hl7_1]); (try simp only [hl7_2]); (try simp only [hl7_3]); exact RM_ HO_7.out⟩, ⟨by (try simp only [hl7_1]); (try simp only [hl7_2]); (try simp only [hl7_3]); exact KX_ BK420.out⟩, ⟨B1_⟩⟩
                    rw [if_neg c34] at H
                    have c34b0 : ((rd (rd_L1 l0_0 x9_2) x10_3) == a2) = false := beq_eq_false_iff_ne.mpr c34
                    have c34b1 : ((rd (rd_L1 l0_0 x9_2) x10_3) != a2) = true := bne_iff_ne.mpr c34
                    by_cases c36 : 0 ≤ (rd (rd_L1 l0_0 x9_2) x10_3)
                    ·rw [if_pos c36] at H
                     have c36b0 : decide (0 ≤ (rd (rd_L1 l0_0 x9_2) x10_3)) = true := decide_eq_true c36
                     clear c36
                     by_cases c37 : (rd (rd_L1 l0_0 x9_2) x10_3) < (x7_3.length : Int)
                     ·rw [if_pos c37] at H
                      have c37b0 : decide ((rd (rd_L1 l0_0 x9_2) x10_3) < (x7_3.length : Int)) = true := decide_eq_true c37
                      clear c37
                      obtain ⟨y431, hy431⟩ : ∃ y_ : List Bool, y_ = (x7_3.set ((rd (rd_L1 l0_0 x9_2) x10_3) : Int).toNat true) := ⟨_, rfl⟩
                      replace H : (lockstepref06_Reach.l2 kj21 a2 y431 x8_1 x9_2 (wrap64 (x10_3 + 1)) l0_0 l0_1) = some r := by first | (rw [hy431]; with_reducible exact H) | (have H2_ := (Option.bind_some _ _).symm.trans H; rw [hy431]; with_reducible exact H2_) | (have H2_ := (Option.bind_some _ _).symm.trans H; with_reducible exact H2_) | with_reducible exact H | (rw [hy431]; exact H) | exact H
                      have Ny431 := Aside0.mk hy431
                      clear hy431
                      have H' := Aside0.mk H
                      clear H
                      have hcz39_0 : wc.cell? ⟨gb420, 0, none⟩ = some (.slice A0_0 l0_0.length c0_0) := (blk_cell BK420.out 0).trans rfl
                      have hcz39_1 : wc.cell? ⟨gb420, 1, none⟩ = some (.slice A0_1 l0_1.length c0_1) := (blk_cell BK420.out 1).trans rfl
                      have hfz39_0 := blk_frozen BK420.out 0
                      have hfz39_1 := blk_frozen BK420.out 1
                      have p427 : 0 ≤ (x9_2 : Int) := D_
                      have q427 : x9_2 < (l0_0.length : Int) := D_
                      obtain ⟨ad427, A427_0, c427_0, e427, hx427_0, hl427_0, hi427_0⟩ := at_L1 HR0_0.out x9_2 p427 q427
                      cases e427
                      replace hx427_0 := (HB.out.cell (World.block_lt_of_cell? w _ hx427_0)).trans hx427_0
                      have HR427_0 := Aside0.mk hi427_0
                      have HC427_0 := Aside0.mk hl427_0
                      clear hi427_0 hl427_0
                      replace p427 := eq_true p427
                      replace q427 := eq_true q427
                      have p428 : 0 ≤ (x10_3 : Int) := D_
                      have q428 : x10_3 < ((rd_L1 l0_0 x9_2).length : Int) := D_
                      obtain ⟨ad428, e428, hx428_0⟩ := Kd.at_int HR427_0.out x10_3 p428 q428
                      cases e428
                      replace hx428_0 := (HB.out.cell (World.block_lt_of_cell? w _ hx428_0)).trans hx428_0
                      replace p428 := eq_true p428
                      replace q428 := eq_true q428
                      have p429 : 0 ≤ (x9_2 : Int) := D_
                      have q429 : x9_2 < (l0_0.length : Int) := D_
                      obtain ⟨ad429, A429_0, c429_0, e429, hx429_0, hl429_0, hi429_0⟩ := at_L1 HR0_0.out x9_2 p429 q429
                      obtain rfl : ad427 = ad429 := (by injection e429)
                      replace hx429_0 := (HB.out.cell (World.block_lt_of_cell? w _ hx429_0)).trans hx429_0
                      have HR429_0 := Aside0.mk hi429_0
                      have HC429_0 := Aside0.mk hl429_0
                      clear hi429_0 hl429_0
                      replace p429 := eq_true p429
                      replace q429 := eq_true q429
                      have ea_ := Option.some.inj (hx427_0.symm.trans hx429_0)
                      injection ea_ with ea_ en_ ec_
                      subst ea_
                      subst ec_
                      clear en_
                      have p430 : 0 ≤ (x10_3 : Int) := D_
                      have q430 : x10_3 < ((rd_L1 l0_0 x9_2).length : Int) := D_
                      obtain ⟨ad430, e430, hx430_0⟩ := Kd.at_int HR429_0.out x10_3 p430 q430
                      cases e430
                      replace hx430_0 := (HB.out.cell (World.block_lt_of_cell? w _ hx430_0)).trans hx430_0
                      replace p430 := eq_true p430
                      replace q430 := eq_true q430
                      have p38 : 0 ≤ ((rd (rd_L1 l0_0 x9_2) x10_3) : Int) := D_
                      have q38 : ((rd (rd_L1 l0_0 x9_2) x10_3) : Int) < ((x7_3.length : Int) : Int) := D_
                      obtain ⟨hx38_0, hf38_0⟩ := Kd.R_celln false HO_7.out ((rd (rd_L1 l0_0 x9_2) x10_3) : Int) p38 q38
                      replace p38 := eq_true p38
                      replace q38 := eq_true q38
                      have HP40 := Kd.R_putg HO_7.out ((rd (rd_L1 l0_0 x9_2) x10_3) : Int) true
                      go_wp2_with (first | ((with_reducible refine gate_store (t := 4) (p := 69) rfl ?_); refine store_event (t := 4) (p := 69) (v := ?vo_w41) (w1 := (wc.setCell ⟨go13, ((rd (rd_L1 l0_0 x9_2) x10_3) : Int).toNat, none⟩ (.bool true))) ?hg ?ho ?hn ?hr ?_; (case ho => rfl); (case hg => rfl); (case hn => rfl); (case hr => first | (go_simp; done) | (go_simp; rfl)); intro w41 hw; have hg : wc.grownBy w41 (some go13) := (by rw [hw]; exact HP40.2); have hp_ : Kd.R Kd.bool 4 w41 w.heap.size (fun _ => True) (.slice (some ⟨go13, 0, none⟩) x7_3.length co13) y431 := (by rw [hw, Ny431.out]; exact HP40.1); clear HP40; have n0_ := Aside0.mk (hp_); have n1_ := Aside0.mk (blk_grown (g := gb420) (o := .cells #[.slice (some ad427) l0_0.length c0_0, .slice A0_1 l0_1.length c0_1] 26 (0, 0)) (by exact KX_ BK420.out) hg (Kd.R_ne HO_7.out BK420.out (by decide))); have n2_ := Aside0.mk ((by rw [hw]; exact below_set (HB.out) GB13.out : Below w.heap.size w w41)); clear HO_7; clear BK420; clear HB; have HO_7 := n0_; have BK420 := n1_; have HB := n2_; clear n0_ n1_ n2_; clear hg hw hp_))
                      (try simp only [← hl7_3])
                      go_roundg kj21
                      case measure => have := HK1.out; have := HK2.out; have := HK3.out; have := HJ21.out; omega
                      case rel => exact ⟨(y431), (wrap64 (x10_3 + 1)), (by first | rfl | (simp; done) | (simp [*]; done)), H', ⟨by have := HK1.out; have := HK2.out; have := HK3.out; have := HJ21.out; omega⟩, ⟨by (try simp only [hl7_1]); (try simp only [hl7_2]); (try simp only [hl7_3]); exact RM_ HO_7.out⟩, ⟨by (try simp only [hl7_1]); (try simp only [hl7_2]); (try simp only [hl7_3]); exact KX_ BK420.out⟩, ⟨B1_⟩⟩
                     rw [if_neg c37] at H
                     exact absurd H (by simp)
                    rw [if_neg c36] at H
                    exact absurd H (by simp)
                   rw [if_neg c33] at H
                   exact absurd H (by simp)
                  rw [if_neg c32] at H
                  exact absurd H (by simp)
                 rw [if_neg c31] at H
                 exact absurd H (by simp)
                rw [if_neg c30] at H
                exact absurd H (by simp)
               replace c29 := Bool.eq_false_iff.mpr c29
               subst c29
               have H1 : (lockstepref06_Reach.l1 kj21 a2 x7_3 x8_1 (wrap64 (x9_2 + 1)) l0_0 l0_1) = some r := by rw [if_neg (show ¬ (false = true) by decide)] at H; exact H
               clear H
               have H := H1
               clear H1
               have H' := Aside0.mk H
               clear H
               go_wp2
               (try simp only [← hl7_2, ← hl7_3])
               go_roundg kj21
               case measure => have := HK1.out; have := HK2.out; have := HK3.out; have := HJ21.out; omega
               case rel => exact ⟨(x7_3), (wrap64 (x9_2 + 1)), (by first | rfl | (simp; done) | (simp [*]; done)), H', ⟨by have := HK1.out; have := HK2.out; have := HK3.out; have := HJ21.out; omega⟩, ⟨by (try simp only [hl7_1]); (try simp only [hl7_2]); (try simp only [hl7_3]); exact RM_ HO_7.out⟩, ⟨by (try simp only [hl7_1]); (try simp only [hl7_2]); (try simp only [hl7_3]); exact KX_ BK420.out⟩, ⟨B1_⟩⟩
          rw [if_neg c21] at H
          have c21b0 : decide (x9_2 < (x7_2.length : Int)) = false := decide_eq_false c21
          clear c21
          have H' := Aside0.mk H
          clear H
          go_wp2
          (try simp only [← hl7_1, ← hl7_2])
          go_roundg k2
          case measure => have := HK1.out; have := HK2.out; omega
          case rel => exact ⟨(x7_2), (wrap64 (x8_1 + 1)), (by first | rfl | (simp; done) | (simp [*]; done)), H', ⟨by have := HK1.out; have := HK2.out; omega⟩, ⟨by (try simp only [hl7_1]); (try simp only [hl7_2]); exact RM_ HO_7.out⟩, ⟨by (try simp only [hl7_1]); (try simp only [hl7_2]); exact KX_ BK420.out⟩, ⟨B1_⟩⟩
       rw [if_neg c20] at H
       have c20b0 : decide (x8_1 < (x7_1.length : Int)) = false := decide_eq_false c20
       clear c20
       obtain rfl := Option.some.inj H
       go_wp2
       go_ret
       exact ⟨_, by first | rfl | (simp [errW_none, errW_some] <;> rfl) | (simp [*, errW_none, errW_some] <;> rfl), by exact RX_ HO_7.out, B1_⟩
    rw [if_neg c12] at H
    exact absurd H (by simp)
   rw [if_neg c11] at H
   exact absurd H (by simp)
  rw [if_neg c5] at H
  exact absurd H (by simp)
 rw [if_neg c4] at H
 exact absurd H (by simp)


/-! ### locksteplaw07_DomMore: function 3 -/
mutual
def locksteplaw07_DomMore.l0 : Nat → List (List Int) → Int → Int → List (List Int) → Int → List (List Int) → List (List Int) → Option (Bool)
 | 0, _, _, _, _, _, _, _ => none
 | k + 1, x0, x9, x10, x11, x12, x320000, x320001 => if x12 < (x0.length : Int) then (locksteplaw07_DomMore.l1 k x0 x9 x10 x11 x12 0 x320000 x320001) else ((graph_Make.f k x11).bind fun bt335 => ((dom_Tree.f k x320000 x320001 0).bind fun t343 => ((dom_Tree.f k bt335.1 bt335.2.1 0).bind fun t346 => ((lockstepref06_Reach.f k x320000 x320001 0 (-1)).bind fun t349 => (locksteplaw07_DomMore.l2 k x0 bt335.2.2 t343 t346 t349 0)))))
def locksteplaw07_DomMore.l1 : Nat → List (List Int) → Int → Int → List (List Int) → Int → Int → List (List Int) → List (List Int) → Option (Bool)
 | 0, _, _, _, _, _, _, _, _ => none
 | k + 1, x0, x9, x10, x11, x12, x13, x320000, x320001 => if x13 < (x0.length : Int) then (if 0 ≤ x12 then (if x12 < (x0.length : Int) then ((lockstepref06_Has.f k (rd_L1 x0 x12) x13).bind fun t324 => (if t324 = true then (if x12 < (x11.length : Int) then (if (rd_L1 x11 x12).length < 17592186044416 then (locksteplaw07_DomMore.l1 k x0 x9 x10 (x11.set (x12 : Int).toNat ((rd_L1 x11 x12) ++ [x13])) x12 (wrap64 (x13 + 1)) x320000 x320001) else (none)) else (none)) else (if x12 = x9 then (if x13 = x10 then (if x12 < (x11.length : Int) then (if (rd_L1 x11 x12).length < 17592186044416 then (locksteplaw07_DomMore.l1 k x0 x9 x10 (x11.set (x12 : Int).toNat ((rd_L1 x11 x12) ++ [x13])) x12 (wrap64 (x13 + 1)) x320000 x320001) else (none)) else (none)) else (locksteplaw07_DomMore.l1 k x0 x9 x10 x11 x12 (wrap64 (x13 + 1)) x320000 x320001)) else (locksteplaw07_DomMore.l1 k x0 x9 x10 x11 x12 (wrap64 (x13 + 1)) x320000 x320001)))) else (none)) else (none)) else (locksteplaw07_DomMore.l0 k x0 x9 x10 x11 (wrap64 (x12 + 1)) x320000 x320001)
def locksteplaw07_DomMore.l2 : Nat → List (List Int) → Int → List Int → List Int → List Bool → Int → Option (Bool)
 | 0, _, _, _, _, _, _ => none
 | k + 1, x0, x15, x16, x17, x18, x19 => if x19 < (x0.length : Int) then (locksteplaw07_DomMore.l3 k x0 x15 x16 x17 x18 x19 0) else (some (x15 == 0))
def locksteplaw07_DomMore.l3 : Nat → List (List Int) → Int → List Int → List Int → List Bool → Int → Int → Option (Bool)
 | 0, _, _, _, _, _, _, _ => none
 | k + 1, x0, x15, x16, x17, x18, x19, x20 => if x20 < (x0.length : Int) then (if 0 ≤ x20 then (if x20 < (x18.length : Int) then (if rdOf false x18 x20 = true then ((dom_Over.f k x17 x19 x20).bind fun t353 => (if t353 = true then ((dom_Over.f k x16 x19 x20).bind fun t354 => (if t354 = true then (locksteplaw07_DomMore.l3 k x0 x15 x16 x17 x18 x19 (wrap64 (x20 + 1))) else (some false))) else (locksteplaw07_DomMore.l3 k x0 x15 x16 x17 x18 x19 (wrap64 (x20 + 1))))) else (locksteplaw07_DomMore.l3 k x0 x15 x16 x17 x18 x19 (wrap64 (x20 + 1)))) else (none)) else (none)) else (locksteplaw07_DomMore.l2 k x0 x15 x16 x17 x18 (wrap64 (x19 + 1)))
end
def locksteplaw07_DomMore.j0 : Nat → List (List Int) → Int → Int → Bool → Option (Bool)
 | 0, _, _, _, _ => none
 | k + 1, x0, a1, a2, x35 => if x35 = true then (some true) else ((graph_Make.f k x0).bind fun bt321 => (if bt321.2.2 = 0 then (if (x0.length : Int) = 0 then (none) else (if 0 ≤ (x0.length : Int) then (if ((x0.length : Int) : Int).toNat ≤ 11728124029610 then (locksteplaw07_DomMore.l0 k x0 (Int.tmod (wrap64 (a1)) (x0.length : Int)) (Int.tmod (wrap64 (a2)) (x0.length : Int)) (List.replicate ((x0.length : Int) : Int).toNat []) 0 bt321.1 bt321.2.1) else (none)) else (none))) else (some true)))
def locksteplaw07_DomMore.f (k : Nat) (l0 : List (List Int)) (a1 : Int) (a2 : Int) : Option (Bool) := (locksteplaw07_awake.f k).bind fun t319 => (if t319 = true then (if (l0.length : Int) > 12 then (locksteplaw07_DomMore.j0 k l0 a1 a2 true) else (if (l0.length : Int) = 0 then (locksteplaw07_DomMore.j0 k l0 a1 a2 true) else ((lockstepref06_Small.f k l0).bind fun t320 => (locksteplaw07_DomMore.j0 k l0 a1 a2 (!t320))))) else (some false))
theorem locksteplaw07_DomMore.mono_l : ∀ k, (∀ y0 y1 y2 y3 y4 y5 y6, LeO (locksteplaw07_DomMore.l0 k y0 y1 y2 y3 y4 y5 y6) (locksteplaw07_DomMore.l0 (k + 1) y0 y1 y2 y3 y4 y5 y6)) ∧ (∀ y0 y1 y2 y3 y4 y5 y6 y7, LeO (locksteplaw07_DomMore.l1 k y0 y1 y2 y3 y4 y5 y6 y7) (locksteplaw07_DomMore.l1 (k + 1) y0 y1 y2 y3 y4 y5 y6 y7)) ∧ (∀ y0 y1 y2 y3 y4 y5, LeO (locksteplaw07_DomMore.l2 k y0 y1 y2 y3 y4 y5) (locksteplaw07_DomMore.l2 (k + 1) y0 y1 y2 y3 y4 y5)) ∧ (∀ y0 y1 y2 y3 y4 y5 y6, LeO (locksteplaw07_DomMore.l3 k y0 y1 y2 y3 y4 y5 y6) (locksteplaw07_DomMore.l3 (k + 1) y0 y1 y2 y3 y4 y5 y6))
 | 0 => ⟨fun _ _ _ _ _ _ _ r h => by simp [locksteplaw07_DomMore.l0] at h, fun _ _ _ _ _ _ _ _ r h => by simp [locksteplaw07_DomMore.l1] at h, fun _ _ _ _ _ _ r h => by simp [locksteplaw07_DomMore.l2] at h, fun _ _ _ _ _ _ _ r h => by simp [locksteplaw07_DomMore.l3] at h⟩
 | k + 1 => by
  obtain ⟨ih0, ih1, ih2, ih3⟩ := locksteplaw07_DomMore.mono_l k
  refine ⟨?_, ?_, ?_, ?_⟩
  ·intro y0 y1 y2 y3 y4 y5 y6
   unfold locksteplaw07_DomMore.l0
   repeat' first
   | (with_reducible exact ih0 _ _ _ _ _ _ _)
   | (with_reducible exact ih1 _ _ _ _ _ _ _ _)
   | (with_reducible exact ih2 _ _ _ _ _ _)
   | (with_reducible exact ih3 _ _ _ _ _ _ _)
   | (with_reducible exact dom_Over.mono _ _ _ _)
   | (with_reducible exact dom_Tree.mono _ _ _ _)
   | (with_reducible exact graph_Make.mono _ _)
   | (with_reducible exact lockstepref06_Has.mono _ _ _)
   | (with_reducible exact lockstepref06_Reach.mono _ _ _ _ _)
   | (with_reducible exact LeO.refl _)
   | (with_reducible exact LeO.none _)
   | (with_reducible refine LeO.ite ?_ ?_)
   | (with_reducible refine LeO.bind ?_ (fun _ => ?_))
   | exact ih0 _ _ _ _ _ _ _
   | exact ih1 _ _ _ _ _ _ _ _
   | exact ih2 _ _ _ _ _ _
   | exact ih3 _ _ _ _ _ _ _
   | exact dom_Over.mono _ _ _ _
   | exact dom_Tree.mono _ _ _ _
   | exact graph_Make.mono _ _
   | exact lockstepref06_Has.mono _ _ _
   | exact lockstepref06_Reach.mono _ _ _ _ _
   | exact LeO.none _
   | refine LeO.ite ?_ ?_
   | refine LeO.bind ?_ (fun _ => ?_)
  ·intro y0 y1 y2 y3 y4 y5 y6 y7
   unfold locksteplaw07_DomMore.l1
   repeat' first
   | (with_reducible exact ih0 _ _ _ _ _ _ _)
   | (with_reducible exact ih1 _ _ _ _ _ _ _ _)
   | (with_reducible exact ih2 _ _ _ _ _ _)
   | (with_reducible exact ih3 _ _ _ _ _ _ _)
   | (with_reducible exact dom_Over.mono _ _ _ _)
   | (with_reducible exact dom_Tree.mono _ _ _ _)
   | (with_reducible exact graph_Make.mono _ _)
   | (with_reducible exact lockstepref06_Has.mono _ _ _)
   | (with_reducible exact lockstepref06_Reach.mono _ _ _ _ _)
   | (with_reducible exact LeO.refl _)
   | (with_reducible exact LeO.none _)
   | (with_reducible refine LeO.ite ?_ ?_)
   | (with_reducible refine LeO.bind ?_ (fun _ => ?_))
   | exact ih0 _ _ _ _ _ _ _
   | exact ih1 _ _ _ _ _ _ _ _
   | exact ih2 _ _ _ _ _ _
   | exact ih3 _ _ _ _ _ _ _
   | exact dom_Over.mono _ _ _ _
   | exact dom_Tree.mono _ _ _ _
   | exact graph_Make.mono _ _
   | exact lockstepref06_Has.mono _ _ _
   | exact lockstepref06_Reach.mono _ _ _ _ _
   | exact LeO.none _
   | refine LeO.ite ?_ ?_
   | refine LeO.bind ?_ (fun _ => ?_)
  ·intro y0 y1 y2 y3 y4 y5
   unfold locksteplaw07_DomMore.l2
   repeat' first
   | (with_reducible exact ih0 _ _ _ _ _ _ _)
   | (with_reducible exact ih1 _ _ _ _ _ _ _ _)
   | (with_reducible exact ih2 _ _ _ _ _ _)
   | (with_reducible exact ih3 _ _ _ _ _ _ _)
   | (with_reducible exact dom_Over.mono _ _ _ _)
   | (with_reducible exact dom_Tree.mono _ _ _ _)
   | (with_reducible exact graph_Make.mono _ _)
   | (with_reducible exact lockstepref06_Has.mono _ _ _)
   | (with_reducible exact lockstepref06_Reach.mono _ _ _ _ _)
   | (with_reducible exact LeO.refl _)
   | (with_reducible exact LeO.none _)
   | (with_reducible refine LeO.ite ?_ ?_)
   | (with_reducible refine LeO.bind ?_ (fun _ => ?_))
   | exact ih0 _ _ _ _ _ _ _
   | exact ih1 _ _ _ _ _ _ _ _
   | exact ih2 _ _ _ _ _ _
   | exact ih3 _ _ _ _ _ _ _
   | exact dom_Over.mono _ _ _ _
   | exact dom_Tree.mono _ _ _ _
   | exact graph_Make.mono _ _
   | exact lockstepref06_Has.mono _ _ _
   | exact lockstepref06_Reach.mono _ _ _ _ _
   | exact LeO.none _
   | refine LeO.ite ?_ ?_
   | refine LeO.bind ?_ (fun _ => ?_)
  ·intro y0 y1 y2 y3 y4 y5 y6
   unfold locksteplaw07_DomMore.l3
   repeat' first
   | (with_reducible exact ih0 _ _ _ _ _ _ _)
   | (with_reducible exact ih1 _ _ _ _ _ _ _ _)
   | (with_reducible exact ih2 _ _ _ _ _ _)
   | (with_reducible exact ih3 _ _ _ _ _ _ _)
   | (with_reducible exact dom_Over.mono _ _ _ _)
   | (with_reducible exact dom_Tree.mono _ _ _ _)
   | (with_reducible exact graph_Make.mono _ _)
   | (with_reducible exact lockstepref06_Has.mono _ _ _)
   | (with_reducible exact lockstepref06_Reach.mono _ _ _ _ _)
   | (with_reducible exact LeO.refl _)
   | (with_reducible exact LeO.none _)
   | (with_reducible refine LeO.ite ?_ ?_)
   | (with_reducible refine LeO.bind ?_ (fun _ => ?_))
   | exact ih0 _ _ _ _ _ _ _
   | exact ih1 _ _ _ _ _ _ _ _
   | exact ih2 _ _ _ _ _ _
   | exact ih3 _ _ _ _ _ _ _
   | exact dom_Over.mono _ _ _ _
   | exact dom_Tree.mono _ _ _ _
   | exact graph_Make.mono _ _
   | exact lockstepref06_Has.mono _ _ _
   | exact lockstepref06_Reach.mono _ _ _ _ _
   | exact LeO.none _
   | refine LeO.ite ?_ ?_
   | refine LeO.bind ?_ (fun _ => ?_)
theorem locksteplaw07_DomMore.mono_j : ∀ k, (∀ y0 y1 y2 y3, LeO (locksteplaw07_DomMore.j0 k y0 y1 y2 y3) (locksteplaw07_DomMore.j0 (k + 1) y0 y1 y2 y3))
 | 0 => fun _ _ _ _ r h => by simp [locksteplaw07_DomMore.j0] at h
 | k + 1 => by
   obtain ⟨m0, m1, m2, m3⟩ := locksteplaw07_DomMore.mono_l k
   intro y0 y1 y2 y3
   unfold locksteplaw07_DomMore.j0
   repeat' first
   | (with_reducible exact m0 _ _ _ _ _ _ _)
   | (with_reducible exact m1 _ _ _ _ _ _ _ _)
   | (with_reducible exact m2 _ _ _ _ _ _)
   | (with_reducible exact m3 _ _ _ _ _ _ _)
   | (with_reducible exact graph_Make.mono _ _)
   | (with_reducible exact LeO.refl _)
   | (with_reducible exact LeO.none _)
   | (with_reducible refine LeO.ite ?_ ?_)
   | (with_reducible refine LeO.bind ?_ (fun _ => ?_))
theorem locksteplaw07_DomMore.mono : ∀ a0 a1 a2 k, LeO (locksteplaw07_DomMore.f k a0 a1 a2) (locksteplaw07_DomMore.f (k + 1) a0 a1 a2) := by
 intro a0 a1 a2 k
 have ih0 := locksteplaw07_DomMore.mono_j k
 unfold locksteplaw07_DomMore.f
 repeat' first
  | (with_reducible exact ih0 _ _ _ _)
  | (with_reducible exact graph_Make.mono _ _)
  | (with_reducible exact locksteplaw07_awake.mono _)
  | (with_reducible exact lockstepref06_Small.mono _ _)
  | (with_reducible exact LeO.refl _)
  | (with_reducible exact LeO.none _)
  | (with_reducible refine LeO.ite ?_ ?_)
  | (with_reducible refine LeO.bind ?_ (fun _ => ?_))
  | exact ih0 _ _ _ _
  | exact graph_Make.mono _ _
  | exact locksteplaw07_awake.mono _
  | exact lockstepref06_Small.mono _ _
  | exact LeO.none _
  | refine LeO.ite ?_ ?_
  | refine LeO.bind ?_ (fun _ => ?_)
set_option maxHeartbeats 8000000 in
set_option maxRecDepth 100000 in
theorem locksteplaw07_DomMore.calls (k : Nat) (A0 : Option Addr) (c0 : Nat) (l0 : List (List Int)) (a1 : Int) (a2 : Int) (wa : World) (hr0 : Kd.C (Kd.slice 3 (Kd.int .i64)) wa A0 l0.length l0) (hc0 : l0.length ≤ c0) (h : locksteplaw07_DomMore.f k l0 a1 a2 = some true) :
 Calls Try.prog 3 #[.slice A0 l0.length c0, .int .u8 a1, .int .u8 a2] wa fun e w' => e = .returned (.bool true) ∧ Below wa.heap.size wa w' := by
 have hu26 := Try.underlying26
 have HR0 := Aside0.mk hr0
 have HC0 := Aside0.mk hc0
 clear hr0 hc0
 have HB := Aside0.mk (Below.refl wa.heap.size wa)
 have H : ((locksteplaw07_awake.f k).bind fun t319 => (if t319 = true then (if (l0.length : Int) > 12 then (locksteplaw07_DomMore.j0 k l0 a1 a2 true) else (if (l0.length : Int) = 0 then (locksteplaw07_DomMore.j0 k l0 a1 a2 true) else ((lockstepref06_Small.f k l0).bind fun t320 => (locksteplaw07_DomMore.j0 k l0 a1 a2 (!t320))))) else (some false))) = some true := h
 clear h
 replace H := Option.bind_eq_some_iff.mp H
 obtain ⟨t319, A40, H⟩ := H
 replace H : (if t319 = true then (if (l0.length : Int) > 12 then (locksteplaw07_DomMore.j0 k l0 a1 a2 true) else (if (l0.length : Int) = 0 then (locksteplaw07_DomMore.j0 k l0 a1 a2 true) else ((lockstepref06_Small.f k l0).bind fun t320 => (locksteplaw07_DomMore.j0 k l0 a1 a2 (!t320))))) else (some false)) = some true := H
 have A4 := Aside0.mk A40
 clear A40
 by_cases c5 : t319 = true
 ·subst c5
  have H1 : (if (l0.length : Int) > 12 then (locksteplaw07_DomMore.j0 k l0 a1 a2 true) else (if (l0.length : Int) = 0 then (locksteplaw07_DomMore.j0 k l0 a1 a2 true) else ((lockstepref06_Small.f k l0).bind fun t320 => (locksteplaw07_DomMore.j0 k l0 a1 a2 (!t320))))) = some true := by rw [if_pos rfl] at H; exact H
  clear H
  have H := H1
  clear H1
  have HC6 := Aside0.mk H
  clear H
  go_enter Try.func3, Try.ntmps3
  go_upto_region 3 with (first | ((with_reducible refine gate_callee (f := 9) rfl ?_); refine goesL_ (some 21) rfl rfl Try.func9 (by kernel_rfl) rfl #[] rfl (by (try simp only [List.map_toArray, List.map_cons, List.map_nil]); first | done | rfl | (simp only [List.length_drop, List.length_take]; rfl)) ?_; (with_reducible refine (locksteplaw07_awake.calls k   _ A4.out).mono ?_); rintro e w7 ⟨rfl, hb⟩; refine ⟨_, rfl, ?_⟩; have n0_ := Aside0.mk (below_step (B_) hb); clear HB; have HB := n0_; clear n0_; (try clear hb); (try clear hb2); (try clear hk); (try clear hi)))
  (try simp only [Act.put, List.setIfInBounds_toArray, List.set_cons_zero, List.set_cons_succ])
  go_cut [35] (fun v35 wc => ∃ (kq : Nat) (x35_5 : Bool), v35 = .bool x35_5 ∧ Aside0 (locksteplaw07_DomMore.j0 kq l0 a1 a2 x35_5 = some true) ∧ Aside0 (kq ≤ k) ∧ Aside0 (Below wa.heap.size wa wc))
  case first =>
   have H := HC6.out
   clear HC6
   by_cases c8 : (l0.length : Int) > 12
   ·rw [if_pos c8] at H
    have c8b0 : decide (12 < (l0.length : Int)) = true := decide_eq_true c8
    have c8b1 : decide (12 < l0.length) = true := decide_eq_true (by omega)
    clear c8
    (first | rw [c8b0] | (simp only [i64_w, i32_w]; rw [c8b0]) | skip)
    have H' := Aside0.mk H
    clear H
    go_wp2
    go_meet
    case rel => exact ⟨_, (true), (by first | rfl | exact congrArg (fun b => Ending.returned (Value.bool b)) HR_.out | (simp; done) | (simp [*]; done)), H', ⟨by first | omega | exact Nat.le_refl _⟩, ⟨B_⟩⟩
   rw [if_neg c8] at H
   have c8b0 : decide (12 < (l0.length : Int)) = false := decide_eq_false c8
   have c8b1 : decide (12 < l0.length) = false := decide_eq_false (by omega)
   clear c8
   (first | rw [c8b0] | (simp only [i64_w, i32_w]; rw [c8b0]) | skip)
   by_cases c9 : (l0.length : Int) = 0
   ·rw [if_pos c9] at H
    have c9b0 : ((l0.length : Int) == 0) = true := beq_iff_eq.mpr c9
    have c9b1 : ((l0.length : Int) != 0) = false := bne_eq_false_iff_eq.mpr c9
    clear c9
    have H' := Aside0.mk H
    clear H
    go_wp2
    go_meet
    case rel => exact ⟨_, (true), (by first | rfl | exact congrArg (fun b => Ending.returned (Value.bool b)) HR_.out | (simp; done) | (simp [*]; done)), H', ⟨by first | omega | exact Nat.le_refl _⟩, ⟨B_⟩⟩
   rw [if_neg c9] at H
   have c9b0 : ((l0.length : Int) == 0) = false := beq_eq_false_iff_ne.mpr c9
   have c9b1 : ((l0.length : Int) != 0) = true := bne_iff_ne.mpr c9
   have c9b2 : ¬ (l0 = []) := fun h_ => c9 (by rw [h_]; rfl)
   replace H := Option.bind_eq_some_iff.mp H
   obtain ⟨t320, A100, H⟩ := H
   replace H : (locksteplaw07_DomMore.j0 k l0 a1 a2 (!t320)) = some true := H
   have A10 := Aside0.mk A100
   clear A100
   have H' := Aside0.mk H
   clear H
   go_wp2_with (first | (go_at_call 10; (with_reducible refine (lockstepref06_Small.calls k _ _ l0 t320 _ ?side1 ?side2 A10.out).mono ?_); (case side1 => exact CX_ (Kd.C_below HR0.out HB.out)); (case side2 => exact HC0.out); rintro e w' ⟨rfl, ⟨nd, rfl⟩⟩))
   go_meet
   case rel => exact ⟨_, (!t320), (by first | rfl | exact congrArg (fun b => Ending.returned (Value.bool b)) HR_.out | (simp; done) | (simp [*]; done)), H', ⟨by first | omega | exact Nat.le_refl _⟩, ⟨B_⟩⟩
  case rest =>
   clear HC6
   try clear c5
   obtain ⟨kq, x35_5, rfl, HA, HJ5, HB⟩ := hcut
   cases kq with
   | zero => exact absurd HA.out (by simp [locksteplaw07_DomMore.j0])
   | succ kj5 =>
    have H := HA.out
    clear HA
    simp only [locksteplaw07_DomMore.j0] at H
    by_cases c11 : x35_5 = true
    ·subst c11
     have H1 : (some true) = some true := rfl
     clear H
     have H := H1
     clear H1
     clear H
     go_wp2
     go_ret
     exact ⟨by first | rfl | exact congrArg (fun b => Ending.returned (Value.bool b)) HR_.out | (simp [errW_none, errW_some] <;> rfl) | (simp [*, errW_none, errW_some] <;> rfl), B_⟩
    replace c11 := Bool.eq_false_iff.mpr c11
    subst c11
    have H1 : ((graph_Make.f kj5 l0).bind fun bt321 => (if bt321.2.2 = 0 then (if (l0.length : Int) = 0 then (none) else (if 0 ≤ (l0.length : Int) then (if ((l0.length : Int) : Int).toNat ≤ 11728124029610 then (locksteplaw07_DomMore.l0 kj5 l0 (Int.tmod (wrap64 (a1)) (l0.length : Int)) (Int.tmod (wrap64 (a2)) (l0.length : Int)) (List.replicate ((l0.length : Int) : Int).toNat []) 0 bt321.1 bt321.2.1) else (none)) else (none))) else (some true))) = some true := by rw [if_neg (show ¬ (false = true) by decide)] at H; exact H
    clear H
    have H := H1
    clear H1
    replace H := Option.bind_eq_some_iff.mp H
    obtain ⟨⟨g3_0, g3_1, g3_2⟩, A120, H⟩ := H
    replace H : (if g3_2 = 0 then (if (l0.length : Int) = 0 then (none) else (if 0 ≤ (l0.length : Int) then (if ((l0.length : Int) : Int).toNat ≤ 11728124029610 then (locksteplaw07_DomMore.l0 kj5 l0 (Int.tmod (wrap64 (a1)) (l0.length : Int)) (Int.tmod (wrap64 (a2)) (l0.length : Int)) (List.replicate ((l0.length : Int) : Int).toNat []) 0 g3_0 g3_1) else (none)) else (none))) else (some true)) = some true := H
    have A12 := Aside0.mk A120
    clear A120
    by_cases c13 : g3_2 = 0
    ·rw [if_pos c13] at H
     have c13b0 : (g3_2 == 0) = true := beq_iff_eq.mpr c13
     have c13b1 : (g3_2 != 0) = false := bne_eq_false_iff_eq.mpr c13
     clear c13
     by_cases c7 : (l0.length : Int) = 0
     ·rw [if_pos c7] at H
      exact absurd H (by simp)
     rw [if_neg c7] at H
     have c7b0 : ((l0.length : Int) == 0) = false := beq_eq_false_iff_ne.mpr c7
     have c7b1 : ((l0.length : Int) != 0) = true := bne_iff_ne.mpr c7
     have c7b2 : ¬ (l0 = []) := fun h_ => c7 (by rw [h_]; rfl)
     by_cases c8 : 0 ≤ (l0.length : Int)
     ·rw [if_pos c8] at H
      have c8b0 := eq_true c8
      have c8b1 : decide (0 ≤ (l0.length : Int)) = true := decide_eq_true c8
      clear c8
      by_cases c9 : ((l0.length : Int) : Int).toNat ≤ 11728124029610
      ·rw [if_pos c9] at H
       have c9b0 := eq_true c9
       have c9b1 : decide (((l0.length : Int) : Int).toNat ≤ 11728124029610) = true := decide_eq_true c9
       clear c9
       obtain ⟨y320, hy320⟩ : ∃ y_ : List (List Int), y_ = (List.replicate ((l0.length : Int) : Int).toNat []) := ⟨_, rfl⟩
       replace H : (locksteplaw07_DomMore.l0 kj5 l0 (Int.tmod (wrap64 (a1)) (l0.length : Int)) (Int.tmod (wrap64 (a2)) (l0.length : Int)) y320 0 g3_0 g3_1) = some true := by first | (rw [hy320]; with_reducible exact H) | (have H2_ := (Option.bind_some _ _).symm.trans H; rw [hy320]; with_reducible exact H2_) | (have H2_ := (Option.bind_some _ _).symm.trans H; with_reducible exact H2_) | with_reducible exact H | (rw [hy320]; exact H) | exact H
       have Ny320 := Aside0.mk hy320
       clear hy320
       have H' := Aside0.mk H
       clear H
       go_wp2_with (first | ((with_reducible refine gate_callee (f := 11) rfl ?_); refine goesL_ (some 38) rfl rfl Try.func11 (by kernel_rfl) rfl #[.slice A0 l0.length c0] rfl (by (try simp only [List.map_toArray, List.map_cons, List.map_nil]); first | done | rfl | (simp only [List.length_drop, List.length_take]; rfl)) ?_; (with_reducible refine (graph_Make.calls kj5 _ _ l0 g3_0 g3_1 g3_2 _ ?side1 ?side2 A12.out).mono ?_); (case side1 => exact CX_ (Kd.C_below HR0.out HB.out)); (case side2 => exact HC0.out); rintro e w ⟨v322, v325, rfl, ho0, ho1, hb⟩; refine ⟨_, rfl, ?_⟩; have HB0 := Aside0.mk (below_step (B_) hb); have HR0n := Aside0.mk (Kd.C_below HR0.out HB0.out); clear HR0; have HR0 := HR0n; clear HR0n; clear HB; have HB := Aside0.mk (Below.refl w.heap.size w); obtain ⟨A3_0, c3_0, e3_0⟩ := Kd.S_slice ho0; subst e3_0; obtain ⟨A3_1, c3_1, e3_1⟩ := Kd.S_slice ho1; subst e3_1; have HR3_0 := Aside0.mk (Kd.S_reads' ho0).2.2; have HC3_0 := Aside0.mk (Kd.S_reads' ho0).2.1; have HR3_1 := Aside0.mk (Kd.S_reads' ho1).2.2; have HC3_1 := Aside0.mk (Kd.S_reads' ho1).2.1; clear ho0 ho1 hb) | ((with_reducible refine gate_dst (N := 7) rfl ?_); refine box_event ?hg (N := 7) ?hd (cs := #[.slice none 0 0, .slice none 0 0]) (t := 26) ?hr ?_; (case hd => rfl); (case hg => rfl); (case hr => first | (go_simp; done) | (go_simp; rfl)); intro gb319 hg w10 hbox hb; have n0_ := Aside0.mk (below_step (B_) hb); have n1_ := Aside0.mk (hbox); have n2_ := Aside0.mk ((by rw [hg]; exact (below_size (B_)) : w.heap.size ≤ gb319)); have n3_ := Aside0.mk ((by rw [hg]; exact (below_size (B_)) : w.heap.size ≤ gb319)); clear HB; have HB := n0_; have BK319 := n1_; have GW319 := n2_; have GE319 := n3_; clear n0_ n1_ n2_ n3_; clear hb hbox hg; have hcz11_0 : w10.cell? ⟨gb319, 0, none⟩ = some (.slice none 0 0) := (blk_cell BK319.out 0).trans rfl; have hcz11_1 : w10.cell? ⟨gb319, 1, none⟩ = some (.slice none 0 0) := (blk_cell BK319.out 1).trans rfl; have hfz11_0 := blk_frozen BK319.out 0; have hfz11_1 := blk_frozen BK319.out 1) | ((with_reducible refine gate_dst (N := 55) rfl ?_); refine Kd.S_make (Kd.slice 3 (Kd.int .i64)) _ 31 rfl (N := 55) rfl 22 _ _ rfl (l0.length : Int) rfl rfl Try.underlying22 (.slice none 0 0) 24 info31 rfl (by decide) (by omega) [] (ok := fun _ => True) (okp := fun _ => True) ⟨_, rfl, Kd.R_nil _ _ _ _ _⟩ (fun _ hk => hk) trivial (D_) (Nat.le_trans (Nat.mul_le_mul_right _ (D_ : (l0.length : Int).toNat ≤ 11728124029610)) (by omega)) (Below.refl _ _) (Nat.le_refl _) ?_; intro v321 w12 ho13 hb hg_ hnew_; clear hg_ hnew_; (first | rw [← Ny320.out] at ho13 | (simp only [Int.reduceToNat] at ho13; rw [← Ny320.out] at ho13)); have n0_ := Aside0.mk (Kd.S_lower ho13 (below_size (B1_))); have n1_ := Aside0.mk (blk_below (g := gb319) (o := .cells #[.slice A3_0 g3_0.length c3_0, .slice A3_1 g3_1.length c3_1] 26 (0, 0)) (by (with_reducible repeat (first | refine blk_drewN ?_ _ | refine blk_drew ?_ | refine blk_alloc ?_ _)); refine blk_put (cs := #[.slice A3_0 g3_0.length c3_0, .slice none 0 0]) ?_ 1 _ rfl; (with_reducible repeat (first | refine blk_drewN ?_ _ | refine blk_drew ?_ | refine blk_alloc ?_ _)); refine blk_put (cs := #[.slice none 0 0, .slice none 0 0]) ?_ 0 _ rfl; exact KX_ BK319.out) hb); have n2_ := Aside0.mk (below_step (B1_) hb); clear BK319; clear HB; have HO322 := n0_; have BK319 := n1_; have HB := n2_; clear n0_ n1_ n2_; clear hb ho13))
       go_loopg [12] kj5 (fun kq v12 w' => ∃ (x11_1 : List (List Int)) (x12_1 : Int), v12 = .int .i64 x12_1 ∧ Aside0 (locksteplaw07_DomMore.l0 kq l0 (Int.tmod (wrap64 (a1)) (l0.length : Int)) (Int.tmod (wrap64 (a2)) (l0.length : Int)) x11_1 x12_1 g3_0 g3_1 = some true) ∧ Aside0 (kq ≤ kj5) ∧ Aside0 (Kd.S (Kd.slice 3 (Kd.int .i64)) 31 w' w.heap.size (fun _ => True) v321 x11_1) ∧ Aside0 (w'.heap[gb319]? = some (.cells #[(.slice A3_0 g3_0.length c3_0), (.slice A3_1 g3_1.length c3_1)] 26 (0, 0))) ∧ Aside0 (Below w.heap.size w w'))
       case atStart => exact ⟨(y320), (0), (by first | rfl | exact congrArg (fun b => Ending.returned (Value.bool b)) HR_.out | (simp; done) | (simp [*]; done)), H', ⟨Nat.le_refl _⟩, ⟨by exact SM_ HO322.out⟩, ⟨by exact KX_ BK319.out⟩, ⟨B1_⟩⟩
       case round =>
        clear H'
        try clear c13b0
        try clear c13b1
        try clear c7
        try clear c7b0
        try clear c7b1
        try clear c7b2
        try clear c8b0
        try clear c8b1
        try clear c9b0
        try clear c9b1
        try clear hcz11_0
        try clear hcz11_1
        try clear hfz11_0
        try clear hfz11_1
        obtain ⟨x11_1, x12_1, rfl, HA, HK1, HO_11, BK319, HB⟩ := hrel
        cases gk with
        | zero => exact absurd HA.out (by simp [locksteplaw07_DomMore.l0])
        | succ k1 =>
         have H := HA.out
         clear HA
         simp only [locksteplaw07_DomMore.l0] at H
         by_cases c14 : x12_1 < (l0.length : Int)
         ·rw [if_pos c14] at H
          have c14b0 : decide (x12_1 < (l0.length : Int)) = true := decide_eq_true c14
          clear c14
          have H' := Aside0.mk H
          clear H
          go_wp2
          go_loopg [13] k1 (fun kq v13 w' => ∃ (x11_2 : List (List Int)) (x13_2 : Int), v13 = .int .i64 x13_2 ∧ Aside0 (locksteplaw07_DomMore.l1 kq l0 (Int.tmod (wrap64 (a1)) (l0.length : Int)) (Int.tmod (wrap64 (a2)) (l0.length : Int)) x11_2 x12_1 x13_2 g3_0 g3_1 = some true) ∧ Aside0 (kq ≤ k1) ∧ Aside0 (Kd.S (Kd.slice 3 (Kd.int .i64)) 31 w' w.heap.size (fun _ => True) v321 x11_2) ∧ Aside0 (w'.heap[gb319]? = some (.cells #[(.slice A3_0 g3_0.length c3_0), (.slice A3_1 g3_1.length c3_1)] 26 (0, 0))) ∧ Aside0 (Below w.heap.size w w'))
          case atStart => exact ⟨(x11_1), (0), (by first | rfl | exact congrArg (fun b => Ending.returned (Value.bool b)) HR_.out | (simp; done) | (simp [*]; done)), H', ⟨Nat.le_refl _⟩, ⟨by exact SM_ HO_11.out⟩, ⟨by exact KX_ BK319.out⟩, ⟨B1_⟩⟩
          case round =>
           clear H'
           try clear c14b0
           obtain ⟨x11_2, x13_2, rfl, HA, HK2, HO_11, BK319, HB⟩ := hrel
           cases gk with
           | zero => exact absurd HA.out (by simp [locksteplaw07_DomMore.l1])
           | succ k2 =>
            have H := HA.out
            clear HA
            simp only [locksteplaw07_DomMore.l1] at H
            by_cases c15 : x13_2 < (l0.length : Int)
            ·rw [if_pos c15] at H
             have c15b0 : decide (x13_2 < (l0.length : Int)) = true := decide_eq_true c15
             clear c15
             by_cases c16 : 0 ≤ x12_1
             ·rw [if_pos c16] at H
              have c16b0 : decide (0 ≤ x12_1) = true := decide_eq_true c16
              clear c16
              by_cases c17 : x12_1 < (l0.length : Int)
              ·rw [if_pos c17] at H
               have c17b0 : decide (x12_1 < (l0.length : Int)) = true := decide_eq_true c17
               clear c17
               replace H := Option.bind_eq_some_iff.mp H
               obtain ⟨t324, A180, H⟩ := H
               replace H : (if t324 = true then (if x12_1 < (x11_2.length : Int) then (if (rd_L1 x11_2 x12_1).length < 17592186044416 then (locksteplaw07_DomMore.l1 k2 l0 (Int.tmod (wrap64 (a1)) (l0.length : Int)) (Int.tmod (wrap64 (a2)) (l0.length : Int)) (x11_2.set (x12_1 : Int).toNat ((rd_L1 x11_2 x12_1) ++ [x13_2])) x12_1 (wrap64 (x13_2 + 1)) g3_0 g3_1) else (none)) else (none)) else (if x12_1 = (Int.tmod (wrap64 (a1)) (l0.length : Int)) then (if x13_2 = (Int.tmod (wrap64 (a2)) (l0.length : Int)) then (if x12_1 < (x11_2.length : Int) then (if (rd_L1 x11_2 x12_1).length < 17592186044416 then (locksteplaw07_DomMore.l1 k2 l0 (Int.tmod (wrap64 (a1)) (l0.length : Int)) (Int.tmod (wrap64 (a2)) (l0.length : Int)) (x11_2.set (x12_1 : Int).toNat ((rd_L1 x11_2 x12_1) ++ [x13_2])) x12_1 (wrap64 (x13_2 + 1)) g3_0 g3_1) else (none)) else (none)) else (locksteplaw07_DomMore.l1 k2 l0 (Int.tmod (wrap64 (a1)) (l0.length : Int)) (Int.tmod (wrap64 (a2)) (l0.length : Int)) x11_2 x12_1 (wrap64 (x13_2 + 1)) g3_0 g3_1)) else (locksteplaw07_DomMore.l1 k2 l0 (Int.tmod (wrap64 (a1)) (l0.length : Int)) (Int.tmod (wrap64 (a2)) (l0.length : Int)) x11_2 x12_1 (wrap64 (x13_2 + 1)) g3_0 g3_1))) = some true := H
               have A18 := Aside0.mk A180
               clear A180
               by_cases c19 : t324 = true
               ·subst c19
                have H1 : (if x12_1 < (x11_2.length : Int) then (if (rd_L1 x11_2 x12_1).length < 17592186044416 then (locksteplaw07_DomMore.l1 k2 l0 (Int.tmod (wrap64 (a1)) (l0.length : Int)) (Int.tmod (wrap64 (a2)) (l0.length : Int)) (x11_2.set (x12_1 : Int).toNat ((rd_L1 x11_2 x12_1) ++ [x13_2])) x12_1 (wrap64 (x13_2 + 1)) g3_0 g3_1) else (none)) else (none)) = some true := by rw [if_pos rfl] at H; exact H
                clear H
                have H := H1
                clear H1
                by_cases c20 : x12_1 < (x11_2.length : Int)
                ·rw [if_pos c20] at H
                 have c20b0 : decide (x12_1 < (x11_2.length : Int)) = true := decide_eq_true c20
                 clear c20
                 by_cases c21 : (rd_L1 x11_2 x12_1).length < 17592186044416
                 ·rw [if_pos c21] at H
                  have LMc21 := Aside0.mk c21
                  clear c21
                  obtain ⟨y326, hy326⟩ : ∃ y_ : List Int, y_ = ((rd_L1 x11_2 x12_1) ++ [x13_2]) := ⟨_, rfl⟩
                  replace H : (locksteplaw07_DomMore.l1 k2 l0 (Int.tmod (wrap64 (a1)) (l0.length : Int)) (Int.tmod (wrap64 (a2)) (l0.length : Int)) (x11_2.set (x12_1 : Int).toNat y326) x12_1 (wrap64 (x13_2 + 1)) g3_0 g3_1) = some true := by first | (rw [hy326]; with_reducible exact H) | (have H2_ := (Option.bind_some _ _).symm.trans H; rw [hy326]; with_reducible exact H2_) | (have H2_ := (Option.bind_some _ _).symm.trans H; with_reducible exact H2_) | with_reducible exact H | (rw [hy326]; exact H) | exact H
                  have Ny326 := Aside0.mk hy326
                  clear hy326
                  obtain ⟨y329, hy329⟩ : ∃ y_ : List (List Int), y_ = (x11_2.set (x12_1 : Int).toNat y326) := ⟨_, rfl⟩
                  replace H : (locksteplaw07_DomMore.l1 k2 l0 (Int.tmod (wrap64 (a1)) (l0.length : Int)) (Int.tmod (wrap64 (a2)) (l0.length : Int)) y329 x12_1 (wrap64 (x13_2 + 1)) g3_0 g3_1) = some true := by first | (rw [hy329]; with_reducible exact H) | (have H2_ := (Option.bind_some _ _).symm.trans H; rw [hy329]; with_reducible exact H2_) | (have H2_ := (Option.bind_some _ _).symm.trans H; with_reducible exact H2_) | with_reducible exact H | (rw [hy329]; exact H) | exact H
                  have Ny329 := Aside0.mk hy329
                  clear hy329
                  have H' := Aside0.mk H
                  clear H
                  have p323 : 0 ≤ (x12_1 : Int) := D_
                  have q323 : x12_1 < (l0.length : Int) := D_
                  obtain ⟨ad323, A323_0, c323_0, e323, hx323_0, hl323_0, hi323_0⟩ := at_L1 HR0.out x12_1 p323 q323
                  cases e323
                  replace hx323_0 := (HB.out.cell (World.block_lt_of_cell? w _ hx323_0)).trans hx323_0
                  have HR323_0 := Aside0.mk hi323_0
                  have HC323_0 := Aside0.mk hl323_0
                  clear hi323_0 hl323_0
                  replace p323 := eq_true p323
                  replace q323 := eq_true q323
                  go_wp2_with (first | ((with_reducible refine gate_callee (f := 12) rfl ?_); refine goesL_ (some 73) rfl rfl Try.func12 (by kernel_rfl) rfl #[.slice A323_0 (rd_L1 l0 x12_1).length c323_0, .int .i64 x13_2] rfl (by (try simp only [List.map_toArray, List.map_cons, List.map_nil]); first | done | rfl | (simp only [List.length_drop, List.length_take]; rfl)) ?_; (with_reducible refine (lockstepref06_Has.calls k2 _ _ (rd_L1 l0 x12_1) x13_2 true _ ?side1 ?side2 A18.out).mono ?_); (case side1 => exact CX_ (Kd.C_below HR323_0.out HB.out)); (case side2 => exact HC323_0.out); rintro e w' ⟨rfl, ⟨nd, rfl⟩⟩; refine ⟨_, rfl, ?_⟩; (try (rw [drewN_self wr]; generalize hq_ : World.drewN wr _ = wr; have n0_ : Aside0 (Kd.S (Kd.slice 3 (Kd.int .i64)) 31 wr w.heap.size (fun _ => True) v321 x11_2) := ⟨by rw [← hq_]; exact (by exact SX_ HO_11.out)⟩; have n1_ : Aside0 (wr.heap[gb319]? = some (.cells #[.slice A3_0 g3_0.length c3_0, .slice A3_1 g3_1.length c3_1] 26 (0, 0))) := ⟨by rw [← hq_]; exact (by exact KX_ BK319.out)⟩; have n2_ : Aside0 (Below w.heap.size w wr) := ⟨by rw [← hq_]; exact (B1_)⟩; clear HO_11 BK319 HB hq_; have HO_11 := n0_; have BK319 := n1_; have HB := n2_; clear n0_ n1_ n2_)); obtain ⟨Ao23, co23, eo23⟩ := Kd.S_slice HO_11.out; subst eo23; have p325 : 0 ≤ (x12_1 : Int) := D_; have q325 : x12_1 < (x11_2.length : Int) := D_; obtain ⟨ad325, A325_0, c325_0, e325, hx325_0, hl325_0, hi325_0⟩ := at_L1 (Kd.S_reads' HO_11.out).2.2 x12_1 p325 q325; cases e325; obtain ⟨ce325, hce325, hMe325, hcc325⟩ := Kd.S_get HO_11.out [] x12_1 p325 (by first | exact q325 | exact D_ | (have e_ := (Kd.S_reads' HO_11.out).1; omega)); obtain ⟨ve325_0, rfl, ge325_0⟩ := hMe325; have hv325_0 := hcc325 0 _ rfl; rw [Nat.add_zero, show ((Kd.slice 3 (Kd.int .i64))).sz = 1 from rfl, Nat.mul_one] at hv325_0; replace hv325_0 := Option.some.inj (hv325_0.symm.trans hx325_0); rw [hv325_0] at ge325_0; have HL325_0 := Aside0.mk (show Kd.R (Kd.int .i64) 3 _ _ _ _ (rd_L1 x11_2 x12_1) from ge325_0); clear hv325_0 ge325_0; have HX325_0 := Aside0.mk hx325_0; clear hcc325 hce325; have HR325_0 := Aside0.mk hi325_0; have HC325_0 := Aside0.mk hl325_0; clear hi325_0 hl325_0; replace p325 := eq_true p325; replace q325 := eq_true q325; obtain ⟨go24, co24, eo24, gb24, gl24, cl24, HG24⟩ := Kd.S_form HO_11.out (by have h_ : (x12_1 : Int) < ((x11_2.length : Int) : Int) := D_; have h2_ : 0 ≤ (x12_1 : Int) := (D_); omega); (first | cases eo24 | (injection eo24 with ea_ en_ ec_; (first | subst ea_ | (injection ea_ with ea_; subst ea_)); subst ec_; clear en_)); have GB24 := Aside0.mk gb24; have GG24 := Aside0.mk HG24; clear gb24 gl24 HG24; (first | simp only [add_plain] at hx325_0 | skip); obtain ⟨oki24, ce24, hcl24, hM24, hcc24, _, _, hH24⟩ := Kd.S_elem HO_11.out [] (x12_1 : Int) (D_) (by have h_ : (x12_1 : Int) < ((x11_2.length : Int) : Int) := D_; first | exact h_ | (have e_ := (Kd.S_reads' HO_11.out).1; omega) | simpa using h_); obtain ⟨ve24_0, rfl, ge24_0⟩ := hM24; have hv24 := hcc24 0 _ rfl; have hX24 := HX325_0.out; (try simp only [add_plain] at hX24); (try simp only [Nat.add_zero] at hv24); (try rw [show ((Kd.slice 3 (Kd.int .i64))).sz = 1 from rfl, Nat.mul_one] at hv24); replace hv24 := Option.some.inj (hv24.symm.trans hX24); subst hv24; clear hX24 hcc24 hcl24; have UU24 := Aside0.mk (show Kd.R (Kd.int .i64) 3 _ w.heap.size oki24 (.slice A325_0 (rd_L1 x11_2 x12_1).length c325_0) (rd_L1 x11_2 x12_1) from ge24_0); have HH24 := Aside0.mk hH24; have HN24 := Aside0.mk (Kd.S_reads' HO_11.out).1; clear hH24 ge24_0) | ((with_reducible refine gate_builtin (b := .append) (xs := #[.tmp 89, .tmp 91]) rfl ?_); at_builtin; refine Kd.R_append (Kd.int .i64) (w0 := w) w.heap.size rfl (.tmp 89) (.tmp 91) 31 3 (.int .i64 0) 8 rfl Try.underlying31 info3 rfl (by decide) (by omega) (.slice A325_0 (rd_L1 x11_2 x12_1).length c325_0) (rd_L1 x11_2 x12_1) x13_2 [.int .i64 x13_2] (fun k_ => oki24 k_ ∨ ((fun _ => True)) k_ ∧ wr.heap.size ≤ k_) (fun _ => False) rfl rfl ?aP (fun _ hk => hk.elim) ?aF ?aO ?aB ?aS ?aL ?_; (case aP => exact rfl); (case aB => exact (B1_)); (case aF => exact (fun k_ hk => .inr ⟨trivial, hk⟩)); (case aO => exact (by (with_reducible repeat (first | apply Kd.R_alloc | apply Kd.R_drewN | apply Kd.R_drew)); exact Kd.R_mono UU24.out (fun _ hk => .inl hk))); (case aS => exact (below_size (B1_))); (case aL => have := LMc21.out; omega); intro v327 w25 ho hb hg hat; rw [← Ny326.out] at ho; have n0_ := Aside0.mk (blk_grown (g := gb319) (o := .cells #[.slice A3_0 g3_0.length c3_0, .slice A3_1 g3_1.length c3_1] 26 (0, 0)) (by exact KX_ BK319.out) hg (Kd.R_ne HL325_0.out BK319.out (by decide))); have n1_ := Aside0.mk (hb); have n2_ := Aside0.mk (Kd.H_grown (Kd.H_widen (by repeat (first | exact HH24.out | refine Kd.H_alloc ?_ _ | refine Kd.H_drewN ?_ _ | refine Kd.H_drew ?_))) hg (fun k_ e_ => .inl (UU24.out.1 k_ e_))); have n3_ := Aside0.mk (ho); clear BK319; clear HB; clear HH24; clear HO_11; clear UU24; clear HL325_0; have BK319 := n0_; have HB := n1_; have HH24 := n2_; have HO328 := n3_; clear n0_ n1_ n2_ n3_; clear ho hb hg hat; have p22 : 0 ≤ (x12_1 : Int) := D_; have q22 : (x12_1 : Int) < ((x11_2.length : Int) : Int) := D_; replace p22 := eq_true p22; replace q22 := eq_true q22; obtain ⟨Ao28, co28, eo28⟩ := Kd.R_slice HO328.out; subst eo28; obtain ⟨_, _, hraw26, _, _, hcc26, _⟩ := Kd.H_raw HH24.out (D_) (by have h_ : (x12_1 : Int) < ((x11_2.length : Int) : Int) := D_; first | exact h_ | (have e_ := (HN24.out); omega) | simpa using h_); obtain ⟨_, hfr26⟩ := Kd.H_at HH24.out (D_) (by have h_ : (x12_1 : Int) < ((x11_2.length : Int) : Int) := D_; first | exact h_ | (have e_ := (HN24.out); omega) | simpa using h_); have hx26_0 := hcc26 0 _ rfl; have hf26_0 := hfr26 0; (try simp only [Nat.add_zero] at hx26_0 hf26_0); (try rw [show ((Kd.slice 3 (Kd.int .i64))).sz = 1 from rfl, Nat.mul_one] at hx26_0); (try rw [show ((Kd.slice 3 (Kd.int .i64))).sz = 1 from rfl, Nat.mul_one] at hf26_0); have HP26 := Kd.S_seg0 HH24.out (D_) (by have h_ : (x12_1 : Int) < ((x11_2.length : Int) : Int) := D_; first | exact h_ | (have e_ := (HN24.out); omega) | simpa using h_) (seg := [.slice Ao28 y326.length co28]) (j := 0) (show 1 ≤ 1 from by decide) (x' := y326) (Kd.M_row HO328.out) (fun _ hk => hk); (try simp only [show ((Kd.slice 3 (Kd.int .i64))).sz = 1 from rfl, Nat.mul_one, Nat.add_zero] at HP26); clear hcc26 hfr26) | ((with_reducible refine gate_store (t := 31) (p := 93) rfl ?_); refine store_event (t := 31) (p := 93) (v := ?vo_w27) (w1 := (w25.setCell ⟨go24, (x12_1 : Int).toNat, none⟩ (.slice Ao28 y326.length co28))) ?hg ?ho ?hn ?hr ?_; (case ho => rfl); (case hg => rfl); (case hn => rfl); (case hr => first | (go_simp; done) | (go_simp; rfl)); intro w27 hw; have hg : w25.grownBy w27 (some go24) := (by rw [hw]; exact HP26.2); have hp_ : Kd.S (Kd.slice 3 (Kd.int .i64)) 31 w27 w.heap.size (fun _ => True) (.slice (some ⟨go24, 0, none⟩) x11_2.length co23) y329 := (by rw [hw, Ny329.out]; exact HP26.1); clear HP26; have n0_ := Aside0.mk (blk_grown (g := gb319) (o := .cells #[.slice A3_0 g3_0.length c3_0, .slice A3_1 g3_1.length c3_1] 26 (0, 0)) (by exact KX_ BK319.out) hg (Kd.R_ne hraw26 BK319.out (by decide))); have n1_ := Aside0.mk ((by rw [hw]; exact below_set HB.out GB24.out : Below w.heap.size w w27)); have n2_ := Aside0.mk (hp_); clear BK319; clear HB; clear HO328; clear HH24; have BK319 := n0_; have HB := n1_; have HO_11 := n2_; clear n0_ n1_ n2_; clear hg hw hp_ hraw26))
                  go_roundg k2
                  case measure => have := HK1.out; have := HK2.out; omega
                  case rel => exact ⟨(y329), (wrap64 (x13_2 + 1)), (by first | rfl | exact congrArg (fun b => Ending.returned (Value.bool b)) HR_.out | (simp; done) | (simp [*]; done)), H', ⟨by have := HK1.out; have := HK2.out; omega⟩, ⟨by exact SM_ HO_11.out⟩, ⟨by exact KX_ BK319.out⟩, ⟨B1_⟩⟩
                 rw [if_neg c21] at H
                 exact absurd H (by simp)
                rw [if_neg c20] at H
                exact absurd H (by simp)
               replace c19 := Bool.eq_false_iff.mpr c19
               subst c19
               have H1 : (if x12_1 = (Int.tmod (wrap64 (a1)) (l0.length : Int)) then (if x13_2 = (Int.tmod (wrap64 (a2)) (l0.length : Int)) then (if x12_1 < (x11_2.length : Int) then (if (rd_L1 x11_2 x12_1).length < 17592186044416 then (locksteplaw07_DomMore.l1 k2 l0 (Int.tmod (wrap64 (a1)) (l0.length : Int)) (Int.tmod (wrap64 (a2)) (l0.length : Int)) (x11_2.set (x12_1 : Int).toNat ((rd_L1 x11_2 x12_1) ++ [x13_2])) x12_1 (wrap64 (x13_2 + 1)) g3_0 g3_1) else (none)) else (none)) else (locksteplaw07_DomMore.l1 k2 l0 (Int.tmod (wrap64 (a1)) (l0.length : Int)) (Int.tmod (wrap64 (a2)) (l0.length : Int)) x11_2 x12_1 (wrap64 (x13_2 + 1)) g3_0 g3_1)) else (locksteplaw07_DomMore.l1 k2 l0 (Int.tmod (wrap64 (a1)) (l0.length : Int)) (Int.tmod (wrap64 (a2)) (l0.length : Int)) x11_2 x12_1 (wrap64 (x13_2 + 1)) g3_0 g3_1)) = some true := by rw [if_neg (show ¬ (false = true) by decide)] at H; exact H
               clear H
               have H := H1
               clear H1
               by_cases c29 : x12_1 = (Int.tmod (wrap64 (a1)) (l0.length : Int))
               ·rw [if_pos c29] at H
                have c29b0 : (x12_1 == (Int.tmod (wrap64 (a1)) (l0.length : Int))) = true := beq_iff_eq.mpr c29
                have c29b1 : (x12_1 != (Int.tmod (wrap64 (a1)) (l0.length : Int))) = false := bne_eq_false_iff_eq.mpr c29
                clear c29
                by_cases c30 : x13_2 = (Int.tmod (wrap64 (a2)) (l0.length : Int))
                ·rw [if_pos c30] at H
                 have c30b0 : (x13_2 == (Int.tmod (wrap64 (a2)) (l0.length : Int))) = true := beq_iff_eq.mpr c30
                 have c30b1 : (x13_2 != (Int.tmod (wrap64 (a2)) (l0.length : Int))) = false := bne_eq_false_iff_eq.mpr c30
                 clear c30
                 by_cases c31 : x12_1 < (x11_2.length : Int)
                 ·rw [if_pos c31] at H
                  have c31b0 : decide (x12_1 < (x11_2.length : Int)) = true := decide_eq_true c31
                  clear c31
                  by_cases c32 : (rd_L1 x11_2 x12_1).length < 17592186044416
                  ·rw [if_pos c32] at H
                   have LMc32 := Aside0.mk c32
                   clear c32
                   obtain ⟨y331, hy331⟩ : ∃ y_ : List Int, y_ = ((rd_L1 x11_2 x12_1) ++ [x13_2]) := ⟨_, rfl⟩
                   replace H : (locksteplaw07_DomMore.l1 k2 l0 (Int.tmod (wrap64 (a1)) (l0.length : Int)) (Int.tmod (wrap64 (a2)) (l0.length : Int)) (x11_2.set (x12_1 : Int).toNat y331) x12_1 (wrap64 (x13_2 + 1)) g3_0 g3_1) = some true := by first | (rw [hy331]; with_reducible exact H) | (have H2_ := (Option.bind_some _ _).symm.trans H; rw [hy331]; with_reducible exact H2_) | (have H2_ := (Option.bind_some _ _).symm.trans H; with_reducible exact H2_) | with_reducible exact H | (rw [hy331]; exact H) | exact H
                   have Ny331 := Aside0.mk hy331
                   clear hy331
                   obtain ⟨y334, hy334⟩ : ∃ y_ : List (List Int), y_ = (x11_2.set (x12_1 : Int).toNat y331) := ⟨_, rfl⟩
                   replace H : (locksteplaw07_DomMore.l1 k2 l0 (Int.tmod (wrap64 (a1)) (l0.length : Int)) (Int.tmod (wrap64 (a2)) (l0.length : Int)) y334 x12_1 (wrap64 (x13_2 + 1)) g3_0 g3_1) = some true := by first | (rw [hy334]; with_reducible exact H) | (have H2_ := (Option.bind_some _ _).symm.trans H; rw [hy334]; with_reducible exact H2_) | (have H2_ := (Option.bind_some _ _).symm.trans H; with_reducible exact H2_) | with_reducible exact H | (rw [hy334]; exact H) | exact H
                   have Ny334 := Aside0.mk hy334
                   clear hy334
                   have H' := Aside0.mk H
                   clear H
                   have p323 : 0 ≤ (x12_1 : Int) := D_
                   have q323 : x12_1 < (l0.length : Int) := D_
                   obtain ⟨ad323, A323_0, c323_0, e323, hx323_0, hl323_0, hi323_0⟩ := at_L1 HR0.out x12_1 p323 q323
                   cases e323
                   replace hx323_0 := (HB.out.cell (World.block_lt_of_cell? w _ hx323_0)).trans hx323_0
                   have HR323_0 := Aside0.mk hi323_0
                   have HC323_0 := Aside0.mk hl323_0
                   clear hi323_0 hl323_0
                   replace p323 := eq_true p323
                   replace q323 := eq_true q323
                   go_wp2_with (first | ((with_reducible refine gate_callee (f := 12) rfl ?_); refine goesL_ (some 73) rfl rfl Try.func12 (by kernel_rfl) rfl #[.slice A323_0 (rd_L1 l0 x12_1).length c323_0, .int .i64 x13_2] rfl (by (try simp only [List.map_toArray, List.map_cons, List.map_nil]); first | done | rfl | (simp only [List.length_drop, List.length_take]; rfl)) ?_; (with_reducible refine (lockstepref06_Has.calls k2 _ _ (rd_L1 l0 x12_1) x13_2 false _ ?side1 ?side2 A18.out).mono ?_); (case side1 => exact CX_ (Kd.C_below HR323_0.out HB.out)); (case side2 => exact HC323_0.out); rintro e w' ⟨rfl, ⟨nd, rfl⟩⟩; refine ⟨_, rfl, ?_⟩; (try (rw [drewN_self wr]; generalize hq_ : World.drewN wr _ = wr; have n0_ : Aside0 (Kd.S (Kd.slice 3 (Kd.int .i64)) 31 wr w.heap.size (fun _ => True) v321 x11_2) := ⟨by rw [← hq_]; exact (by exact SX_ HO_11.out)⟩; have n1_ : Aside0 (wr.heap[gb319]? = some (.cells #[.slice A3_0 g3_0.length c3_0, .slice A3_1 g3_1.length c3_1] 26 (0, 0))) := ⟨by rw [← hq_]; exact (by exact KX_ BK319.out)⟩; have n2_ : Aside0 (Below w.heap.size w wr) := ⟨by rw [← hq_]; exact (B1_)⟩; clear HO_11 BK319 HB hq_; have HO_11 := n0_; have BK319 := n1_; have HB := n2_; clear n0_ n1_ n2_)); obtain ⟨Ao34, co34, eo34⟩ := Kd.S_slice HO_11.out; subst eo34; have p330 : 0 ≤ (x12_1 : Int) := D_; have q330 : x12_1 < (x11_2.length : Int) := D_; obtain ⟨ad330, A330_0, c330_0, e330, hx330_0, hl330_0, hi330_0⟩ := at_L1 (Kd.S_reads' HO_11.out).2.2 x12_1 p330 q330; cases e330; obtain ⟨ce330, hce330, hMe330, hcc330⟩ := Kd.S_get HO_11.out [] x12_1 p330 (by first | exact q330 | exact D_ | (have e_ := (Kd.S_reads' HO_11.out).1; omega)); obtain ⟨ve330_0, rfl, ge330_0⟩ := hMe330; have hv330_0 := hcc330 0 _ rfl; rw [Nat.add_zero, show ((Kd.slice 3 (Kd.int .i64))).sz = 1 from rfl, Nat.mul_one] at hv330_0; replace hv330_0 := Option.some.inj (hv330_0.symm.trans hx330_0); rw [hv330_0] at ge330_0; have HL330_0 := Aside0.mk (show Kd.R (Kd.int .i64) 3 _ _ _ _ (rd_L1 x11_2 x12_1) from ge330_0); clear hv330_0 ge330_0; have HX330_0 := Aside0.mk hx330_0; clear hcc330 hce330; have HR330_0 := Aside0.mk hi330_0; have HC330_0 := Aside0.mk hl330_0; clear hi330_0 hl330_0; replace p330 := eq_true p330; replace q330 := eq_true q330; obtain ⟨go35, co35, eo35, gb35, gl35, cl35, HG35⟩ := Kd.S_form HO_11.out (by have h_ : (x12_1 : Int) < ((x11_2.length : Int) : Int) := D_; have h2_ : 0 ≤ (x12_1 : Int) := (D_); omega); (first | cases eo35 | (injection eo35 with ea_ en_ ec_; (first | subst ea_ | (injection ea_ with ea_; subst ea_)); subst ec_; clear en_)); have GB35 := Aside0.mk gb35; have GG35 := Aside0.mk HG35; clear gb35 gl35 HG35; (first | simp only [add_plain] at hx330_0 | skip); obtain ⟨oki35, ce35, hcl35, hM35, hcc35, _, _, hH35⟩ := Kd.S_elem HO_11.out [] (x12_1 : Int) (D_) (by have h_ : (x12_1 : Int) < ((x11_2.length : Int) : Int) := D_; first | exact h_ | (have e_ := (Kd.S_reads' HO_11.out).1; omega) | simpa using h_); obtain ⟨ve35_0, rfl, ge35_0⟩ := hM35; have hv35 := hcc35 0 _ rfl; have hX35 := HX330_0.out; (try simp only [add_plain] at hX35); (try simp only [Nat.add_zero] at hv35); (try rw [show ((Kd.slice 3 (Kd.int .i64))).sz = 1 from rfl, Nat.mul_one] at hv35); replace hv35 := Option.some.inj (hv35.symm.trans hX35); subst hv35; clear hX35 hcc35 hcl35; have UU35 := Aside0.mk (show Kd.R (Kd.int .i64) 3 _ w.heap.size oki35 (.slice A330_0 (rd_L1 x11_2 x12_1).length c330_0) (rd_L1 x11_2 x12_1) from ge35_0); have HH35 := Aside0.mk hH35; have HN35 := Aside0.mk (Kd.S_reads' HO_11.out).1; clear hH35 ge35_0) | ((with_reducible refine gate_builtin (b := .append) (xs := #[.tmp 89, .tmp 91]) rfl ?_); at_builtin; refine Kd.R_append (Kd.int .i64) (w0 := w) w.heap.size rfl (.tmp 89) (.tmp 91) 31 3 (.int .i64 0) 8 rfl Try.underlying31 info3 rfl (by decide) (by omega) (.slice A330_0 (rd_L1 x11_2 x12_1).length c330_0) (rd_L1 x11_2 x12_1) x13_2 [.int .i64 x13_2] (fun k_ => oki35 k_ ∨ ((fun _ => True)) k_ ∧ wr.heap.size ≤ k_) (fun _ => False) rfl rfl ?aP (fun _ hk => hk.elim) ?aF ?aO ?aB ?aS ?aL ?_; (case aP => exact rfl); (case aB => exact (B1_)); (case aF => exact (fun k_ hk => .inr ⟨trivial, hk⟩)); (case aO => exact (by (with_reducible repeat (first | apply Kd.R_alloc | apply Kd.R_drewN | apply Kd.R_drew)); exact Kd.R_mono UU35.out (fun _ hk => .inl hk))); (case aS => exact (below_size (B1_))); (case aL => have := LMc32.out; omega); intro v332 w36 ho hb hg hat; rw [← Ny331.out] at ho; have n0_ := Aside0.mk (blk_grown (g := gb319) (o := .cells #[.slice A3_0 g3_0.length c3_0, .slice A3_1 g3_1.length c3_1] 26 (0, 0)) (by exact KX_ BK319.out) hg (Kd.R_ne HL330_0.out BK319.out (by decide))); have n1_ := Aside0.mk (hb); have n2_ := Aside0.mk (Kd.H_grown (Kd.H_widen (by repeat (first | exact HH35.out | refine Kd.H_alloc ?_ _ | refine Kd.H_drewN ?_ _ | refine Kd.H_drew ?_))) hg (fun k_ e_ => .inl (UU35.out.1 k_ e_))); have n3_ := Aside0.mk (ho); clear BK319; clear HB; clear HH35; clear HO_11; clear UU35; clear HL330_0; have BK319 := n0_; have HB := n1_; have HH35 := n2_; have HO333 := n3_; clear n0_ n1_ n2_ n3_; clear ho hb hg hat; have p33 : 0 ≤ (x12_1 : Int) := D_; have q33 : (x12_1 : Int) < ((x11_2.length : Int) : Int) := D_; replace p33 := eq_true p33; replace q33 := eq_true q33; obtain ⟨Ao39, co39, eo39⟩ := Kd.R_slice HO333.out; subst eo39; obtain ⟨_, _, hraw37, _, _, hcc37, _⟩ := Kd.H_raw HH35.out (D_) (by have h_ : (x12_1 : Int) < ((x11_2.length : Int) : Int) := D_; first | exact h_ | (have e_ := (HN35.out); omega) | simpa using h_); obtain ⟨_, hfr37⟩ := Kd.H_at HH35.out (D_) (by have h_ : (x12_1 : Int) < ((x11_2.length : Int) : Int) := D_; first | exact h_ | (have e_ := (HN35.out); omega) | simpa using h_); have hx37_0 := hcc37 0 _ rfl; have hf37_0 := hfr37 0; (try simp only [Nat.add_zero] at hx37_0 hf37_0); (try rw [show ((Kd.slice 3 (Kd.int .i64))).sz = 1 from rfl, Nat.mul_one] at hx37_0); (try rw [show ((Kd.slice 3 (Kd.int .i64))).sz = 1 from rfl, Nat.mul_one] at hf37_0); have HP37 := Kd.S_seg0 HH35.out (D_) (by have h_ : (x12_1 : Int) < ((x11_2.length : Int) : Int) := D_; first | exact h_ | (have e_ := (HN35.out); omega) | simpa using h_) (seg := [.slice Ao39 y331.length co39]) (j := 0) (show 1 ≤ 1 from by decide) (x' := y331) (Kd.M_row HO333.out) (fun _ hk => hk); (try simp only [show ((Kd.slice 3 (Kd.int .i64))).sz = 1 from rfl, Nat.mul_one, Nat.add_zero] at HP37); clear hcc37 hfr37) | ((with_reducible refine gate_store (t := 31) (p := 93) rfl ?_); refine store_event (t := 31) (p := 93) (v := ?vo_w38) (w1 := (w36.setCell ⟨go35, (x12_1 : Int).toNat, none⟩ (.slice Ao39 y331.length co39))) ?hg ?ho ?hn ?hr ?_; (case ho => rfl); (case hg => rfl); (case hn => rfl); (case hr => first | (go_simp; done) | (go_simp; rfl)); intro w38 hw; have hg : w36.grownBy w38 (some go35) := (by rw [hw]; exact HP37.2); have hp_ : Kd.S (Kd.slice 3 (Kd.int .i64)) 31 w38 w.heap.size (fun _ => True) (.slice (some ⟨go35, 0, none⟩) x11_2.length co34) y334 := (by rw [hw, Ny334.out]; exact HP37.1); clear HP37; have n0_ := Aside0.mk (blk_grown (g := gb319) (o := .cells #[.slice A3_0 g3_0.length c3_0, .slice A3_1 g3_1.length c3_1] 26 (0, 0)) (by exact KX_ BK319.out) hg (Kd.R_ne hraw37 BK319.out (by decide))); have n1_ := Aside0.mk ((by rw [hw]; exact below_set HB.out GB35.out : Below w.heap.size w w38)); have n2_ := Aside0.mk (hp_); clear BK319; clear HB; clear HO333; clear HH35; have BK319 := n0_; have HB := n1_; have HO_11 := n2_; clear n0_ n1_ n2_; clear hg hw hp_ hraw37))
                   go_roundg k2
                   case measure => have := HK1.out; have := HK2.out; omega
                   case rel => exact ⟨(y334), (wrap64 (x13_2 + 1)), (by first | rfl | exact congrArg (fun b => Ending.returned (Value.bool b)) HR_.out | (simp; done) | (simp [*]; done)), H', ⟨by have := HK1.out; have := HK2.out; omega⟩, ⟨by exact SM_ HO_11.out⟩, ⟨by exact KX_ BK319.out⟩, ⟨B1_⟩⟩
                  rw [if_neg c32] at H
                  exact absurd H (by simp)
                 rw [if_neg c31] at H
                 exact absurd H (by simp)
                rw [if_neg c30] at H
                have c30b0 : (x13_2 == (Int.tmod (wrap64 (a2)) (l0.length : Int))) = false := beq_eq_false_iff_ne.mpr c30
                have c30b1 : (x13_2 != (Int.tmod (wrap64 (a2)) (l0.length : Int))) = true := bne_iff_ne.mpr c30
                have H' := Aside0.mk H
                clear H
                have p323 : 0 ≤ (x12_1 : Int) := D_
                have q323 : x12_1 < (l0.length : Int) := D_
                obtain ⟨ad323, A323_0, c323_0, e323, hx323_0, hl323_0, hi323_0⟩ := at_L1 HR0.out x12_1 p323 q323
                cases e323
                replace hx323_0 := (HB.out.cell (World.block_lt_of_cell? w _ hx323_0)).trans hx323_0
                have HR323_0 := Aside0.mk hi323_0
                have HC323_0 := Aside0.mk hl323_0
                clear hi323_0 hl323_0
                replace p323 := eq_true p323
                replace q323 := eq_true q323
                go_wp2_with (first | ((with_reducible refine gate_callee (f := 12) rfl ?_); refine goesL_ (some 73) rfl rfl Try.func12 (by kernel_rfl) rfl #[.slice A323_0 (rd_L1 l0 x12_1).length c323_0, .int .i64 x13_2] rfl (by (try simp only [List.map_toArray, List.map_cons, List.map_nil]); first | done | rfl | (simp only [List.length_drop, List.length_take]; rfl)) ?_; (with_reducible refine (lockstepref06_Has.calls k2 _ _ (rd_L1 l0 x12_1) x13_2 false _ ?side1 ?side2 A18.out).mono ?_); (case side1 => exact CX_ (Kd.C_below HR323_0.out HB.out)); (case side2 => exact HC323_0.out); rintro e w' ⟨rfl, ⟨nd, rfl⟩⟩; refine ⟨_, rfl, ?_⟩))
                go_roundg k2
                case measure => have := HK1.out; have := HK2.out; omega
                case rel => exact ⟨(x11_2), (wrap64 (x13_2 + 1)), (by first | rfl | exact congrArg (fun b => Ending.returned (Value.bool b)) HR_.out | (simp; done) | (simp [*]; done)), H', ⟨by have := HK1.out; have := HK2.out; omega⟩, ⟨by exact SM_ HO_11.out⟩, ⟨by exact KX_ BK319.out⟩, ⟨B1_⟩⟩
               rw [if_neg c29] at H
               have c29b0 : (x12_1 == (Int.tmod (wrap64 (a1)) (l0.length : Int))) = false := beq_eq_false_iff_ne.mpr c29
               have c29b1 : (x12_1 != (Int.tmod (wrap64 (a1)) (l0.length : Int))) = true := bne_iff_ne.mpr c29
               have H' := Aside0.mk H
               clear H
               have p323 : 0 ≤ (x12_1 : Int) := D_
               have q323 : x12_1 < (l0.length : Int) := D_
               obtain ⟨ad323, A323_0, c323_0, e323, hx323_0, hl323_0, hi323_0⟩ := at_L1 HR0.out x12_1 p323 q323
               cases e323
               replace hx323_0 := (HB.out.cell (World.block_lt_of_cell? w _ hx323_0)).trans hx323_0
               have HR323_0 := Aside0.mk hi323_0
               have HC323_0 := Aside0.mk hl323_0
               clear hi323_0 hl323_0
               replace p323 := eq_true p323
               replace q323 := eq_true q323
               go_wp2_with (first | ((with_reducible refine gate_callee (f := 12) rfl ?_); refine goesL_ (some 73) rfl rfl Try.func12 (by kernel_rfl) rfl #[.slice A323_0 (rd_L1 l0 x12_1).length c323_0, .int .i64 x13_2] rfl (by (try simp only [List.map_toArray, List.map_cons, List.map_nil]); first | done | rfl | (simp only [List.length_drop, List.length_take]; rfl)) ?_; (with_reducible refine (lockstepref06_Has.calls k2 _ _ (rd_L1 l0 x12_1) x13_2 false _ ?side1 ?side2 A18.out).mono ?_); (case side1 => exact CX_ (Kd.C_below HR323_0.out HB.out)); (case side2 => exact HC323_0.out); rintro e w' ⟨rfl, ⟨nd, rfl⟩⟩; refine ⟨_, rfl, ?_⟩))
               go_roundg k2
               case measure => have := HK1.out; have := HK2.out; omega
               case rel => exact ⟨(x11_2), (wrap64 (x13_2 + 1)), (by first | rfl | exact congrArg (fun b => Ending.returned (Value.bool b)) HR_.out | (simp; done) | (simp [*]; done)), H', ⟨by have := HK1.out; have := HK2.out; omega⟩, ⟨by exact SM_ HO_11.out⟩, ⟨by exact KX_ BK319.out⟩, ⟨B1_⟩⟩
              rw [if_neg c17] at H
              exact absurd H (by simp)
             rw [if_neg c16] at H
             exact absurd H (by simp)
            rw [if_neg c15] at H
            have c15b0 : decide (x13_2 < (l0.length : Int)) = false := decide_eq_false c15
            clear c15
            have H' := Aside0.mk H
            clear H
            go_wp2
            go_roundg k2
            case measure => have := HK1.out; have := HK2.out; omega
            case rel => exact ⟨(x11_2), (wrap64 (x12_1 + 1)), (by first | rfl | exact congrArg (fun b => Ending.returned (Value.bool b)) HR_.out | (simp; done) | (simp [*]; done)), H', ⟨by have := HK1.out; have := HK2.out; omega⟩, ⟨by exact SM_ HO_11.out⟩, ⟨by exact KX_ BK319.out⟩, ⟨B1_⟩⟩
         rw [if_neg c14] at H
         have c14b0 : decide (x12_1 < (l0.length : Int)) = false := decide_eq_false c14
         clear c14
         replace H := Option.bind_eq_some_iff.mp H
         obtain ⟨⟨t335, t338, t341⟩, A400, H⟩ := H
         replace H : ((dom_Tree.f k1 g3_0 g3_1 0).bind fun t343 => ((dom_Tree.f k1 t335 t338 0).bind fun t346 => ((lockstepref06_Reach.f k1 g3_0 g3_1 0 (-1)).bind fun t349 => (locksteplaw07_DomMore.l2 k1 l0 t341 t343 t346 t349 0)))) = some true := H
         have A40 := Aside0.mk A400
         clear A400
         replace H := Option.bind_eq_some_iff.mp H
         obtain ⟨t343, A410, H⟩ := H
         replace H : ((dom_Tree.f k1 t335 t338 0).bind fun t346 => ((lockstepref06_Reach.f k1 g3_0 g3_1 0 (-1)).bind fun t349 => (locksteplaw07_DomMore.l2 k1 l0 t341 t343 t346 t349 0))) = some true := H
         have A41 := Aside0.mk A410
         clear A410
         replace H := Option.bind_eq_some_iff.mp H
         obtain ⟨t346, A420, H⟩ := H
         replace H : ((lockstepref06_Reach.f k1 g3_0 g3_1 0 (-1)).bind fun t349 => (locksteplaw07_DomMore.l2 k1 l0 t341 t343 t346 t349 0)) = some true := H
         have A42 := Aside0.mk A420
         clear A420
         replace H := Option.bind_eq_some_iff.mp H
         obtain ⟨t349, A430, H⟩ := H
         replace H : (locksteplaw07_DomMore.l2 k1 l0 t341 t343 t346 t349 0) = some true := H
         have A43 := Aside0.mk A430
         clear A430
         have H' := Aside0.mk H
         clear H
         obtain ⟨Ao44, co44, eo44⟩ := Kd.S_slice HO_11.out
         subst eo44
         go_wp2_with (first | ((with_reducible refine gate_callee (f := 11) rfl ?_); refine goesL_ (some 96) rfl rfl Try.func11 (by kernel_rfl) rfl #[.slice Ao44 x11_1.length co44] rfl (by (try simp only [List.map_toArray, List.map_cons, List.map_nil]); first | done | rfl | (simp only [List.length_drop, List.length_take]; rfl)) ?_; (with_reducible refine (graph_Make.calls k1 _ _ x11_1 t335 t338 t341 _ ?side1 ?side2 A40.out).mono ?_); (case side1 => repeat (first | exact (Kd.S_reads' HO_11.out).2.2 | (with_reducible refine Kd.C_alloc ?_ _) | (with_reducible refine Kd.C_drewN ?_ _) | (with_reducible refine Kd.C_drew ?_))); (case side2 => exact (Kd.S_reads' HO_11.out).2.1); rintro e w45 ⟨v336, v339, rfl, ho0, ho1, hb⟩; refine ⟨_, rfl, ?_⟩; have n0_ := Aside0.mk (Kd.S_mono (Kd.S_told (Kd.S_told (Kd.S_old (by exact SX_ HO_11.out) hb) (Kd.S_base ho0)) (Kd.S_base ho1)) (fun _ h_ => h_.1)); have n1_ := Aside0.mk (Kd.S_lower (Kd.S_new' ho0 (Kd.S_lt (by exact SX_ HO_11.out))) (below_size (B1_))); have n2_ := Aside0.mk (Kd.S_lower (Kd.S_new' ho1 (Kd.S_lt (by exact SX_ HO_11.out))) (below_size (B1_))); have n3_ := Aside0.mk (blk_below (g := gb319) (o := .cells #[.slice A3_0 g3_0.length c3_0, .slice A3_1 g3_1.length c3_1] 26 (0, 0)) (by exact KX_ BK319.out) hb); have n4_ := Aside0.mk (below_step (B1_) hb); clear HO_11; clear BK319; clear HB; have HO_11 := n0_; have HO337 := n1_; have HO340 := n2_; have BK319 := n3_; have HB := n4_; clear n0_ n1_ n2_ n3_ n4_; (try clear hb); (try clear hb2); (try clear hk); (try clear hi); (try clear ho0); (try clear ho1)) | ((with_reducible refine gate_dst (N := 14) rfl ?_); refine box_event ?hg (N := 14) ?hd (cs := #[.slice none 0 0, .slice none 0 0]) (t := 26) ?hr ?_; (case hd => rfl); (case hg => rfl); (case hr => first | (go_simp; done) | (go_simp; rfl)); intro gb342 hg w46 hbox hb; have n0_ := Aside0.mk (Kd.S_below (by exact SX_ HO_11.out) hb); have n1_ := Aside0.mk (Kd.S_below (by exact SX_ HO337.out) hb); have n2_ := Aside0.mk (Kd.S_below (by exact SX_ HO340.out) hb); have n3_ := Aside0.mk (blk_below (g := gb319) (o := .cells #[.slice A3_0 g3_0.length c3_0, .slice A3_1 g3_1.length c3_1] 26 (0, 0)) (by exact KX_ BK319.out) hb); have n4_ := Aside0.mk (below_step (B1_) hb); have n5_ := Aside0.mk (hbox); have n6_ := Aside0.mk ((by rw [hg]; exact (below_size (B1_)) : w.heap.size ≤ gb342)); have n7_ := Aside0.mk ((by rw [hg]; exact (below_size (B1_)) : w.heap.size ≤ gb342)); have n8_ := Aside0.mk ((by rw [hg]; exact Nat.ne_of_lt (blk_lt (g := gb319) (o := .cells #[.slice A3_0 g3_0.length c3_0, .slice A3_1 g3_1.length c3_1] 26 (0, 0)) (by exact KX_ BK319.out)) : gb319 ≠ gb342)); have n9_ := Aside0.mk ((by rw [hg]; exact Nat.ne_of_gt (blk_lt (g := gb319) (o := .cells #[.slice A3_0 g3_0.length c3_0, .slice A3_1 g3_1.length c3_1] 26 (0, 0)) (by exact KX_ BK319.out)) : gb342 ≠ gb319)); clear HO_11; clear HO337; clear HO340; clear BK319; clear HB; have HO_11 := n0_; have HO337 := n1_; have HO340 := n2_; have BK319 := n3_; have HB := n4_; have BK342 := n5_; have GW342 := n6_; have GE342 := n7_; have NB319_342 := n8_; have NB342_319 := n9_; clear n0_ n1_ n2_ n3_ n4_ n5_ n6_ n7_ n8_ n9_; clear hb hbox hg; obtain ⟨Ao47, co47, eo47⟩ := Kd.S_slice HO337.out; subst eo47; have hnb48 := NB342_319.out; have hnc48 := NB319_342.out; have hcz49_0 : w46.cell? ⟨gb342, 0, none⟩ = some (.slice none 0 0) := (blk_cell BK342.out 0).trans rfl; have hcz49_1 : w46.cell? ⟨gb342, 1, none⟩ = some (.slice none 0 0) := (blk_cell BK342.out 1).trans rfl; have hfz49_0 := blk_frozen BK342.out 0; have hfz49_1 := blk_frozen BK342.out 1; obtain ⟨Ao50, co50, eo50⟩ := Kd.S_slice HO340.out; subst eo50; have hcz51_0 : w46.cell? ⟨gb319, 0, none⟩ = some (.slice A3_0 g3_0.length c3_0) := (blk_cell BK319.out 0).trans rfl; have hcz51_1 : w46.cell? ⟨gb319, 1, none⟩ = some (.slice A3_1 g3_1.length c3_1) := (blk_cell BK319.out 1).trans rfl; have hfz51_0 := blk_frozen BK319.out 0; have hfz51_1 := blk_frozen BK319.out 1) | ((with_reducible refine gate_callee (f := 13) rfl ?_); refine goesL_ (some 100) rfl rfl Try.func13 (by kernel_rfl) rfl #[.agg #[.slice A3_0 g3_0.length c3_0, .slice A3_1 g3_1.length c3_1], .int .i64 0] rfl (by (try simp only [List.map_toArray, List.map_cons, List.map_nil]); first | done | rfl | (simp only [List.length_drop, List.length_take]; rfl)) ?_; (with_reducible refine (dom_Tree.calls k1 _ _ g3_0 _ _ g3_1 0 t343 _ ?side1 ?side2 ?side3 ?side4 A41.out).mono ?_); (case side1 => exact Kd.C_below HR3_0.out (B1_)); (case side2 => exact HC3_0.out); (case side3 => exact Kd.C_below HR3_1.out (B1_)); (case side4 => exact HC3_1.out); rintro e w52 ⟨v344, rfl, ho0, hb⟩; refine ⟨_, rfl, ?_⟩; have n0_ := Aside0.mk (Kd.S_elder' (by (with_reducible repeat (first | apply Kd.S_alloc | apply Kd.S_drewN | apply Kd.S_drew)); exact (Kd.S_mono (Kd.S_far (p := ⟨gb342, 1, none⟩) (Kd.S_far (p := ⟨gb342, 0, none⟩) (Kd.S_types HO_11.out BK342.out (by decide)) (fun _ hk => hk.2) (.slice Ao47 t335.length co47)) (fun _ hk => hk.2) (.slice Ao50 t338.length co50)) (fun _ h_ => h_.1))) (Kd.R_base ho0) hb); have n1_ := Aside0.mk (Kd.S_elder' (by (with_reducible repeat (first | apply Kd.S_alloc | apply Kd.S_drewN | apply Kd.S_drew)); exact (Kd.S_mono (Kd.S_far (p := ⟨gb342, 1, none⟩) (Kd.S_far (p := ⟨gb342, 0, none⟩) (Kd.S_types HO337.out BK342.out (by decide)) (fun _ hk => hk.2) (.slice Ao47 t335.length co47)) (fun _ hk => hk.2) (.slice Ao50 t338.length co50)) (fun _ h_ => h_.1))) (Kd.R_base ho0) hb); have n2_ := Aside0.mk (Kd.S_elder' (by (with_reducible repeat (first | apply Kd.S_alloc | apply Kd.S_drewN | apply Kd.S_drew)); exact (Kd.S_mono (Kd.S_far (p := ⟨gb342, 1, none⟩) (Kd.S_far (p := ⟨gb342, 0, none⟩) (Kd.S_types HO340.out BK342.out (by decide)) (fun _ hk => hk.2) (.slice Ao47 t335.length co47)) (fun _ hk => hk.2) (.slice Ao50 t338.length co50)) (fun _ h_ => h_.1))) (Kd.R_base ho0) hb); have n3_ := Aside0.mk (Kd.R_lower ho0 (below_size (B1_))); have n4_ := Aside0.mk (blk_below (g := gb319) (o := .cells #[.slice A3_0 g3_0.length c3_0, .slice A3_1 g3_1.length c3_1] 26 (0, 0)) (by (with_reducible repeat (first | refine blk_drewN ?_ _ | refine blk_drew ?_ | refine blk_alloc ?_ _)); refine blk_far ?_ NB319_342.out _; (with_reducible repeat (first | refine blk_drewN ?_ _ | refine blk_drew ?_ | refine blk_alloc ?_ _)); refine blk_far ?_ NB319_342.out _; exact KX_ BK319.out) hb); have n5_ := Aside0.mk (blk_below (g := gb342) (o := .cells #[.slice Ao47 t335.length co47, .slice Ao50 t338.length co50] 26 (0, 0)) (by (with_reducible repeat (first | refine blk_drewN ?_ _ | refine blk_drew ?_ | refine blk_alloc ?_ _)); refine blk_put (cs := #[.slice Ao47 t335.length co47, .slice none 0 0]) ?_ 1 _ rfl; (with_reducible repeat (first | refine blk_drewN ?_ _ | refine blk_drew ?_ | refine blk_alloc ?_ _)); refine blk_put (cs := #[.slice none 0 0, .slice none 0 0]) ?_ 0 _ rfl; exact KX_ BK342.out) hb); have n6_ := Aside0.mk (below_step (B1_) hb); clear HO_11; clear HO337; clear HO340; clear BK319; clear BK342; clear HB; have HO_11 := n0_; have HO337 := n1_; have HO340 := n2_; have HO345 := n3_; have BK319 := n4_; have BK342 := n5_; have HB := n6_; clear n0_ n1_ n2_ n3_ n4_ n5_ n6_; (try clear hb); (try clear hb2); (try clear hk); (try clear hi); (try clear ho0); have hcz53_0 : w52.cell? ⟨gb342, 0, none⟩ = some (.slice Ao47 t335.length co47) := (blk_cell BK342.out 0).trans rfl; have hcz53_1 : w52.cell? ⟨gb342, 1, none⟩ = some (.slice Ao50 t338.length co50) := (blk_cell BK342.out 1).trans rfl; have hfz53_0 := blk_frozen BK342.out 0; have hfz53_1 := blk_frozen BK342.out 1) | ((with_reducible refine gate_callee (f := 13) rfl ?_); refine goesL_ (some 102) rfl rfl Try.func13 (by kernel_rfl) rfl #[.agg #[.slice Ao47 t335.length co47, .slice Ao50 t338.length co50], .int .i64 0] rfl (by (try simp only [List.map_toArray, List.map_cons, List.map_nil]); first | done | rfl | (simp only [List.length_drop, List.length_take]; rfl)) ?_; (with_reducible refine (dom_Tree.calls k1 _ _ t335 _ _ t338 0 t346 _ ?side1 ?side2 ?side3 ?side4 A42.out).mono ?_); (case side1 => repeat (first | exact (Kd.S_reads' HO337.out).2.2 | (with_reducible refine Kd.C_alloc ?_ _) | (with_reducible refine Kd.C_drewN ?_ _) | (with_reducible refine Kd.C_drew ?_))); (case side2 => exact (Kd.S_reads' HO337.out).2.1); (case side3 => repeat (first | exact (Kd.S_reads' HO340.out).2.2 | (with_reducible refine Kd.C_alloc ?_ _) | (with_reducible refine Kd.C_drewN ?_ _) | (with_reducible refine Kd.C_drew ?_))); (case side4 => exact (Kd.S_reads' HO340.out).2.1); rintro e w54 ⟨v347, rfl, ho0, hb⟩; refine ⟨_, rfl, ?_⟩; have n0_ := Aside0.mk (Kd.S_elder' (by exact SX_ HO_11.out) (Kd.R_base ho0) hb); have n1_ := Aside0.mk (Kd.S_elder' (by exact SX_ HO337.out) (Kd.R_base ho0) hb); have n2_ := Aside0.mk (Kd.S_elder' (by exact SX_ HO340.out) (Kd.R_base ho0) hb); have n3_ := Aside0.mk (Kd.R_elder' (by exact RX_ HO345.out) (Kd.R_base ho0) hb); have n4_ := Aside0.mk (Kd.R_lower (Kd.R_new' ho0 (Kd.R_lt (by exact RX_ HO345.out))) (below_size (B1_))); have n5_ := Aside0.mk (blk_below (g := gb319) (o := .cells #[.slice A3_0 g3_0.length c3_0, .slice A3_1 g3_1.length c3_1] 26 (0, 0)) (by exact KX_ BK319.out) hb); have n6_ := Aside0.mk (blk_below (g := gb342) (o := .cells #[.slice Ao47 t335.length co47, .slice Ao50 t338.length co50] 26 (0, 0)) (by exact KX_ BK342.out) hb); have n7_ := Aside0.mk (below_step (B1_) hb); clear HO_11; clear HO337; clear HO340; clear HO345; clear BK319; clear BK342; clear HB; have HO_11 := n0_; have HO337 := n1_; have HO340 := n2_; have HO345 := n3_; have HO348 := n4_; have BK319 := n5_; have BK342 := n6_; have HB := n7_; clear n0_ n1_ n2_ n3_ n4_ n5_ n6_ n7_; (try clear hb); (try clear hb2); (try clear hk); (try clear hi); (try clear ho0); have hcz55_0 : w54.cell? ⟨gb319, 0, none⟩ = some (.slice A3_0 g3_0.length c3_0) := (blk_cell BK319.out 0).trans rfl; have hcz55_1 : w54.cell? ⟨gb319, 1, none⟩ = some (.slice A3_1 g3_1.length c3_1) := (blk_cell BK319.out 1).trans rfl; have hfz55_0 := blk_frozen BK319.out 0; have hfz55_1 := blk_frozen BK319.out 1) | ((with_reducible refine gate_callee (f := 14) rfl ?_); refine goesL_ (some 104) rfl rfl Try.func14 (by kernel_rfl) rfl #[.agg #[.slice A3_0 g3_0.length c3_0, .slice A3_1 g3_1.length c3_1], .int .i64 0, .int .i64 (-1)] rfl (by (try simp only [List.map_toArray, List.map_cons, List.map_nil]); first | done | rfl | (simp only [List.length_drop, List.length_take]; rfl)) ?_; (with_reducible refine (lockstepref06_Reach.calls k1 _ _ g3_0 _ _ g3_1 0 (-1) t349 _ ?side1 ?side2 ?side3 ?side4 A43.out).mono ?_); (case side1 => exact CX_ (Kd.C_below HR3_0.out HB.out)); (case side2 => exact HC3_0.out); (case side3 => exact CX_ (Kd.C_below HR3_1.out HB.out)); (case side4 => exact HC3_1.out); rintro e w56 ⟨v350, rfl, ho0, hb⟩; refine ⟨_, rfl, ?_⟩; have n0_ := Aside0.mk (Kd.S_below (by exact SX_ HO_11.out) hb); have n1_ := Aside0.mk (Kd.S_below (by exact SX_ HO337.out) hb); have n2_ := Aside0.mk (Kd.S_below (by exact SX_ HO340.out) hb); have n3_ := Aside0.mk (Kd.R_below (by exact RX_ HO345.out) hb); have n4_ := Aside0.mk (Kd.R_below (by exact RX_ HO348.out) hb); have n5_ := Aside0.mk (Kd.R_lower ho0 (below_size (B1_))); have n6_ := Aside0.mk (blk_below (g := gb319) (o := .cells #[.slice A3_0 g3_0.length c3_0, .slice A3_1 g3_1.length c3_1] 26 (0, 0)) (by exact KX_ BK319.out) hb); have n7_ := Aside0.mk (blk_below (g := gb342) (o := .cells #[.slice Ao47 t335.length co47, .slice Ao50 t338.length co50] 26 (0, 0)) (by exact KX_ BK342.out) hb); have n8_ := Aside0.mk (below_step (B1_) hb); clear HO_11; clear HO337; clear HO340; clear HO345; clear HO348; clear BK319; clear BK342; clear HB; have HO_11 := n0_; have HO337 := n1_; have HO340 := n2_; have HO345 := n3_; have HO348 := n4_; have HO351 := n5_; have BK319 := n6_; have BK342 := n7_; have HB := n8_; clear n0_ n1_ n2_ n3_ n4_ n5_ n6_ n7_ n8_; (try clear hb); (try clear hb2); (try clear hk); (try clear hi); (try clear ho0)))
         go_loopg [19] k1 (fun kq v19 w' => ∃ (x19_2 : Int), v19 = .int .i64 x19_2 ∧ Aside0 (locksteplaw07_DomMore.l2 kq l0 t341 t343 t346 t349 x19_2 = some true) ∧ Aside0 (kq ≤ k1) ∧ Aside0 (Kd.R (Kd.int .i64) 3 w' w.heap.size (fun k_ => some k_ ≠ (v347 : Value).ownBlock) v344 t343) ∧ Aside0 (Kd.R (Kd.int .i64) 3 w' w.heap.size (fun k_ => some k_ ≠ (v344 : Value).ownBlock) v347 t346) ∧ Aside0 (Kd.R Kd.bool 4 w' w.heap.size (fun _ => True) v350 t349) ∧ Aside0 (Kd.S (Kd.slice 3 (Kd.int .i64)) 31 w' w.heap.size (fun k_ => some k_ ≠ (v344 : Value).ownBlock ∧ some k_ ≠ (v347 : Value).ownBlock ∧ some k_ ≠ ((.slice Ao50 t338.length co50) : Value).ownBlock) (.slice Ao47 t335.length co47) t335) ∧ Aside0 (Kd.S (Kd.slice 3 (Kd.int .i64)) 31 w' w.heap.size (fun k_ => some k_ ≠ (v344 : Value).ownBlock ∧ some k_ ≠ (v347 : Value).ownBlock ∧ some k_ ≠ ((.slice Ao47 t335.length co47) : Value).ownBlock) (.slice Ao50 t338.length co50) t338) ∧ Aside0 (w'.heap[gb319]? = some (.cells #[(.slice A3_0 g3_0.length c3_0), (.slice A3_1 g3_1.length c3_1)] 26 (0, 0))) ∧ Aside0 (w'.heap[gb342]? = some (.cells #[(.slice Ao47 t335.length co47), (.slice Ao50 t338.length co50)] 26 (0, 0))) ∧ Aside0 (Below w.heap.size w w'))
         case atStart => exact ⟨(0), (by first | rfl | exact congrArg (fun b => Ending.returned (Value.bool b)) HR_.out | (simp; done) | (simp [*]; done)), H', ⟨Nat.le_refl _⟩, ⟨by (with_reducible repeat (first | apply Kd.R_alloc | apply Kd.R_drewN | apply Kd.R_drew)); exact Kd.R_mono HO345.out (fun _ hk => by first | exact hk.2 | exact hk | exact ⟨hk.1, hk.2⟩ | simp_all)⟩, ⟨by (with_reducible repeat (first | apply Kd.R_alloc | apply Kd.R_drewN | apply Kd.R_drew)); exact Kd.R_mono HO348.out (fun _ hk => by first | exact hk.2 | exact hk | exact ⟨hk.1, hk.2⟩ | simp_all)⟩, ⟨by exact RM_ HO351.out⟩, ⟨by (with_reducible repeat (first | apply Kd.S_alloc | apply Kd.S_drewN | apply Kd.S_drew)); exact Kd.S_mono HO337.out (fun _ hk => ⟨hk.1.2, ⟨hk.2, hk.1.1.1⟩⟩)⟩, ⟨by (with_reducible repeat (first | apply Kd.S_alloc | apply Kd.S_drewN | apply Kd.S_drew)); exact Kd.S_mono HO340.out (fun _ hk => ⟨hk.1.2, ⟨hk.2, hk.1.1.1⟩⟩)⟩, ⟨by exact KX_ BK319.out⟩, ⟨by exact KX_ BK342.out⟩, ⟨B1_⟩⟩
         case round =>
          clear H'
          try clear c14b0
          try clear hcz49_0
          try clear hcz49_1
          try clear hcz51_0
          try clear hcz51_1
          try clear hcz53_0
          try clear hcz53_1
          try clear hcz55_0
          try clear hcz55_1
          try clear hfz49_0
          try clear hfz49_1
          try clear hfz51_0
          try clear hfz51_1
          try clear hfz53_0
          try clear hfz53_1
          try clear hfz55_0
          try clear hfz55_1
          obtain ⟨x19_2, rfl, HA, HK2, HO_16, HO_17, HO_18, HO_343000, HO_343001, BK319, BK342, HB⟩ := hrel
          cases gk with
          | zero => exact absurd HA.out (by simp [locksteplaw07_DomMore.l2])
          | succ k2 =>
           have H := HA.out
           clear HA
           simp only [locksteplaw07_DomMore.l2] at H
           by_cases c57 : x19_2 < (l0.length : Int)
           ·rw [if_pos c57] at H
            have c57b0 : decide (x19_2 < (l0.length : Int)) = true := decide_eq_true c57
            clear c57
            have H' := Aside0.mk H
            clear H
            go_wp2
            go_loopg [20] k2 (fun kq v20 w' => ∃ (x20_3 : Int), v20 = .int .i64 x20_3 ∧ Aside0 (locksteplaw07_DomMore.l3 kq l0 t341 t343 t346 t349 x19_2 x20_3 = some true) ∧ Aside0 (kq ≤ k2) ∧ Aside0 (Kd.R (Kd.int .i64) 3 w' w.heap.size (fun k_ => some k_ ≠ (v347 : Value).ownBlock) v344 t343) ∧ Aside0 (Kd.R (Kd.int .i64) 3 w' w.heap.size (fun k_ => some k_ ≠ (v344 : Value).ownBlock) v347 t346) ∧ Aside0 (Kd.R Kd.bool 4 w' w.heap.size (fun _ => True) v350 t349) ∧ Aside0 (Kd.S (Kd.slice 3 (Kd.int .i64)) 31 w' w.heap.size (fun k_ => some k_ ≠ (v344 : Value).ownBlock ∧ some k_ ≠ (v347 : Value).ownBlock ∧ some k_ ≠ ((.slice Ao50 t338.length co50) : Value).ownBlock) (.slice Ao47 t335.length co47) t335) ∧ Aside0 (Kd.S (Kd.slice 3 (Kd.int .i64)) 31 w' w.heap.size (fun k_ => some k_ ≠ (v344 : Value).ownBlock ∧ some k_ ≠ (v347 : Value).ownBlock ∧ some k_ ≠ ((.slice Ao47 t335.length co47) : Value).ownBlock) (.slice Ao50 t338.length co50) t338) ∧ Aside0 (w'.heap[gb319]? = some (.cells #[(.slice A3_0 g3_0.length c3_0), (.slice A3_1 g3_1.length c3_1)] 26 (0, 0))) ∧ Aside0 (w'.heap[gb342]? = some (.cells #[(.slice Ao47 t335.length co47), (.slice Ao50 t338.length co50)] 26 (0, 0))) ∧ Aside0 (Below w.heap.size w w'))
            case atStart => exact ⟨(0), (by first | rfl | exact congrArg (fun b => Ending.returned (Value.bool b)) HR_.out | (simp; done) | (simp [*]; done)), H', ⟨Nat.le_refl _⟩, ⟨by exact RM_ HO_16.out⟩, ⟨by exact RM_ HO_17.out⟩, ⟨by exact RM_ HO_18.out⟩, ⟨by exact SM_ HO_343000.out⟩, ⟨by exact SM_ HO_343001.out⟩, ⟨by exact KX_ BK319.out⟩, ⟨by exact KX_ BK342.out⟩, ⟨B1_⟩⟩
            case round =>
             clear H'
             try clear c57b0
             obtain ⟨x20_3, rfl, HA, HK3, HO_16, HO_17, HO_18, HO_343000, HO_343001, BK319, BK342, HB⟩ := hrel
             cases gk with
             | zero => exact absurd HA.out (by simp [locksteplaw07_DomMore.l3])
             | succ k3 =>
              have H := HA.out
              clear HA
              simp only [locksteplaw07_DomMore.l3] at H
              by_cases c58 : x20_3 < (l0.length : Int)
              ·rw [if_pos c58] at H
               have c58b0 : decide (x20_3 < (l0.length : Int)) = true := decide_eq_true c58
               clear c58
               by_cases c59 : 0 ≤ x20_3
               ·rw [if_pos c59] at H
                have c59b0 : decide (0 ≤ x20_3) = true := decide_eq_true c59
                clear c59
                by_cases c60 : x20_3 < (t349.length : Int)
                ·rw [if_pos c60] at H
                 have c60b0 : decide (x20_3 < (t349.length : Int)) = true := decide_eq_true c60
                 clear c60
                 obtain ⟨bq61, hbq61⟩ : ∃ b_ : Bool, b_ = (rdOf false t349 x20_3) := ⟨_, rfl⟩
                 replace H : (if bq61 = true then ((dom_Over.f k3 t346 x19_2 x20_3).bind fun t353 => (if t353 = true then ((dom_Over.f k3 t343 x19_2 x20_3).bind fun t354 => (if t354 = true then (locksteplaw07_DomMore.l3 k3 l0 t341 t343 t346 t349 x19_2 (wrap64 (x20_3 + 1))) else (some false))) else (locksteplaw07_DomMore.l3 k3 l0 t341 t343 t346 t349 x19_2 (wrap64 (x20_3 + 1))))) else (locksteplaw07_DomMore.l3 k3 l0 t341 t343 t346 t349 x19_2 (wrap64 (x20_3 + 1)))) = some true := by rw [← hbq61] at H; exact H
                 have Nbq61 := Aside0.mk hbq61
                 clear hbq61
                 by_cases c62 : bq61 = true
                 ·subst c62
                  have H1 : ((dom_Over.f k3 t346 x19_2 x20_3).bind fun t353 => (if t353 = true then ((dom_Over.f k3 t343 x19_2 x20_3).bind fun t354 => (if t354 = true then (locksteplaw07_DomMore.l3 k3 l0 t341 t343 t346 t349 x19_2 (wrap64 (x20_3 + 1))) else (some false))) else (locksteplaw07_DomMore.l3 k3 l0 t341 t343 t346 t349 x19_2 (wrap64 (x20_3 + 1))))) = some true := by rw [if_pos rfl] at H; exact H
                  clear H
                  have H := H1
                  clear H1
                  replace H := Option.bind_eq_some_iff.mp H
                  obtain ⟨t353, A630, H⟩ := H
                  replace H : (if t353 = true then ((dom_Over.f k3 t343 x19_2 x20_3).bind fun t354 => (if t354 = true then (locksteplaw07_DomMore.l3 k3 l0 t341 t343 t346 t349 x19_2 (wrap64 (x20_3 + 1))) else (some false))) else (locksteplaw07_DomMore.l3 k3 l0 t341 t343 t346 t349 x19_2 (wrap64 (x20_3 + 1)))) = some true := H
                  have A63 := Aside0.mk A630
                  clear A630
                  by_cases c64 : t353 = true
                  ·subst c64
                   have H1 : ((dom_Over.f k3 t343 x19_2 x20_3).bind fun t354 => (if t354 = true then (locksteplaw07_DomMore.l3 k3 l0 t341 t343 t346 t349 x19_2 (wrap64 (x20_3 + 1))) else (some false))) = some true := by rw [if_pos rfl] at H; exact H
                   clear H
                   have H := H1
                   clear H1
                   replace H := Option.bind_eq_some_iff.mp H
                   obtain ⟨t354, A650, H⟩ := H
                   replace H : (if t354 = true then (locksteplaw07_DomMore.l3 k3 l0 t341 t343 t346 t349 x19_2 (wrap64 (x20_3 + 1))) else (some false)) = some true := H
                   have A65 := Aside0.mk A650
                   clear A650
                   by_cases c66 : t354 = true
                   ·subst c66
                    have H1 : (locksteplaw07_DomMore.l3 k3 l0 t341 t343 t346 t349 x19_2 (wrap64 (x20_3 + 1))) = some true := by rw [if_pos rfl] at H; exact H
                    clear H
                    have H := H1
                    clear H1
                    have H' := Aside0.mk H
                    clear H
                    obtain ⟨Ao67, co67, eo67⟩ := Kd.R_slice HO_18.out
                    subst eo67
                    have p352 : 0 ≤ (x20_3 : Int) := D_
                    have q352 : x20_3 < (t349.length : Int) := D_
                    obtain ⟨ad352, e352, hx352_0⟩ := Kd.at_bool (Kd.R_reads' HO_18.out).2.2 x20_3 p352 q352
                    (try rw [← Nbq61.out] at hx352_0)
                    cases e352
                    replace p352 := eq_true p352
                    replace q352 := eq_true q352
                    obtain ⟨Ao68, co68, eo68⟩ := Kd.R_slice HO_17.out
                    subst eo68
                    go_wp2_with (first | (go_at_call 15; (with_reducible refine (dom_Over.calls k3 _ _ t346 x19_2 x20_3 true _ ?side1 ?side2 A63.out).mono ?_); (case side1 => repeat (first | exact (Kd.R_reads' HO_17.out).2.2 | (with_reducible refine Kd.C_alloc ?_ _) | (with_reducible refine Kd.C_drewN ?_ _) | (with_reducible refine Kd.C_drew ?_))); (case side2 => exact (Kd.R_reads' HO_17.out).2.1); rintro e w69 ⟨rfl, hb⟩; have n0_ := Aside0.mk (Kd.R_below (by exact RX_ HO_16.out) hb); have n1_ := Aside0.mk (Kd.R_below (by exact RX_ HO_17.out) hb); have n2_ := Aside0.mk (Kd.R_below (by exact RX_ HO_18.out) hb); have n3_ := Aside0.mk (Kd.S_below (by exact SX_ HO_343000.out) hb); have n4_ := Aside0.mk (Kd.S_below (by exact SX_ HO_343001.out) hb); have n5_ := Aside0.mk (blk_below (g := gb319) (o := .cells #[.slice A3_0 g3_0.length c3_0, .slice A3_1 g3_1.length c3_1] 26 (0, 0)) (by exact KX_ BK319.out) hb); have n6_ := Aside0.mk (blk_below (g := gb342) (o := .cells #[.slice Ao47 t335.length co47, .slice Ao50 t338.length co50] 26 (0, 0)) (by exact KX_ BK342.out) hb); have n7_ := Aside0.mk (below_step (B1_) hb); clear HO_16; clear HO_17; clear HO_18; clear HO_343000; clear HO_343001; clear BK319; clear BK342; clear HB; have HO_16 := n0_; have HO_17 := n1_; have HO_18 := n2_; have HO_343000 := n3_; have HO_343001 := n4_; have BK319 := n5_; have BK342 := n6_; have HB := n7_; clear n0_ n1_ n2_ n3_ n4_ n5_ n6_ n7_; (try clear hb); (try clear hb2); (try clear hk); (try clear hi); obtain ⟨Ao70, co70, eo70⟩ := Kd.R_slice HO_16.out; subst eo70) | (go_at_call 15; (with_reducible refine (dom_Over.calls k3 _ _ t343 x19_2 x20_3 true _ ?side1 ?side2 A65.out).mono ?_); (case side1 => repeat (first | exact (Kd.R_reads' HO_16.out).2.2 | (with_reducible refine Kd.C_alloc ?_ _) | (with_reducible refine Kd.C_drewN ?_ _) | (with_reducible refine Kd.C_drew ?_))); (case side2 => exact (Kd.R_reads' HO_16.out).2.1); rintro e w71 ⟨rfl, hb⟩; have n0_ := Aside0.mk (Kd.R_below (by exact RX_ HO_16.out) hb); have n1_ := Aside0.mk (Kd.R_below (by exact RX_ HO_17.out) hb); have n2_ := Aside0.mk (Kd.R_below (by exact RX_ HO_18.out) hb); have n3_ := Aside0.mk (Kd.S_below (by exact SX_ HO_343000.out) hb); have n4_ := Aside0.mk (Kd.S_below (by exact SX_ HO_343001.out) hb); have n5_ := Aside0.mk (blk_below (g := gb319) (o := .cells #[.slice A3_0 g3_0.length c3_0, .slice A3_1 g3_1.length c3_1] 26 (0, 0)) (by exact KX_ BK319.out) hb); have n6_ := Aside0.mk (blk_below (g := gb342) (o := .cells #[.slice Ao47 t335.length co47, .slice Ao50 t338.length co50] 26 (0, 0)) (by exact KX_ BK342.out) hb); have n7_ := Aside0.mk (below_step (B1_) hb); clear HO_16; clear HO_17; clear HO_18; clear HO_343000; clear HO_343001; clear BK319; clear BK342; clear HB; have HO_16 := n0_; have HO_17 := n1_; have HO_18 := n2_; have HO_343000 := n3_; have HO_343001 := n4_; have BK319 := n5_; have BK342 := n6_; have HB := n7_; clear n0_ n1_ n2_ n3_ n4_ n5_ n6_ n7_; (try clear hb); (try clear hb2); (try clear hk); (try clear hi)))
                    go_roundg k3
                    case measure => have := HK1.out; have := HK2.out; have := HK3.out; omega
                    case rel => exact ⟨(wrap64 (x20_3 + 1)), (by first | rfl | exact congrArg (fun b => Ending.returned (Value.bool b)) HR_.out | (simp; done) | (simp [*]; done)), H', ⟨by have := HK1.out; have := HK2.out; have := HK3.out; omega⟩, ⟨by exact RM_ HO_16.out⟩, ⟨by exact RM_ HO_17.out⟩, ⟨by exact RM_ HO_18.out⟩, ⟨by exact SM_ HO_343000.out⟩, ⟨by exact SM_ HO_343001.out⟩, ⟨by exact KX_ BK319.out⟩, ⟨by exact KX_ BK342.out⟩, ⟨B1_⟩⟩
                   replace c66 := Bool.eq_false_iff.mpr c66
                   subst c66
                   have H1 : (some false) = some true := by rw [if_neg (show ¬ (false = true) by decide)] at H; exact H
                   clear H
                   have H := H1
                   clear H1
                   exact absurd H (by simp)
                  replace c64 := Bool.eq_false_iff.mpr c64
                  subst c64
                  have H1 : (locksteplaw07_DomMore.l3 k3 l0 t341 t343 t346 t349 x19_2 (wrap64 (x20_3 + 1))) = some true := by rw [if_neg (show ¬ (false = true) by decide)] at H; exact H
                  clear H
                  have H := H1
                  clear H1
                  have H' := Aside0.mk H
                  clear H
                  obtain ⟨Ao72, co72, eo72⟩ := Kd.R_slice HO_18.out
                  subst eo72
                  have p352 : 0 ≤ (x20_3 : Int) := D_
                  have q352 : x20_3 < (t349.length : Int) := D_
                  obtain ⟨ad352, e352, hx352_0⟩ := Kd.at_bool (Kd.R_reads' HO_18.out).2.2 x20_3 p352 q352
                  (try rw [← Nbq61.out] at hx352_0)
                  cases e352
                  replace p352 := eq_true p352
                  replace q352 := eq_true q352
                  obtain ⟨Ao73, co73, eo73⟩ := Kd.R_slice HO_17.out
                  subst eo73
                  go_wp2_with (first | (go_at_call 15; (with_reducible refine (dom_Over.calls k3 _ _ t346 x19_2 x20_3 false _ ?side1 ?side2 A63.out).mono ?_); (case side1 => repeat (first | exact (Kd.R_reads' HO_17.out).2.2 | (with_reducible refine Kd.C_alloc ?_ _) | (with_reducible refine Kd.C_drewN ?_ _) | (with_reducible refine Kd.C_drew ?_))); (case side2 => exact (Kd.R_reads' HO_17.out).2.1); rintro e w74 ⟨rfl, hb⟩; have n0_ := Aside0.mk (Kd.R_below (by exact RX_ HO_16.out) hb); have n1_ := Aside0.mk (Kd.R_below (by exact RX_ HO_17.out) hb); have n2_ := Aside0.mk (Kd.R_below (by exact RX_ HO_18.out) hb); have n3_ := Aside0.mk (Kd.S_below (by exact SX_ HO_343000.out) hb); have n4_ := Aside0.mk (Kd.S_below (by exact SX_ HO_343001.out) hb); have n5_ := Aside0.mk (blk_below (g := gb319) (o := .cells #[.slice A3_0 g3_0.length c3_0, .slice A3_1 g3_1.length c3_1] 26 (0, 0)) (by exact KX_ BK319.out) hb); have n6_ := Aside0.mk (blk_below (g := gb342) (o := .cells #[.slice Ao47 t335.length co47, .slice Ao50 t338.length co50] 26 (0, 0)) (by exact KX_ BK342.out) hb); have n7_ := Aside0.mk (below_step (B1_) hb); clear HO_16; clear HO_17; clear HO_18; clear HO_343000; clear HO_343001; clear BK319; clear BK342; clear HB; have HO_16 := n0_; have HO_17 := n1_; have HO_18 := n2_; have HO_343000 := n3_; have HO_343001 := n4_; have BK319 := n5_; have BK342 := n6_; have HB := n7_; clear n0_ n1_ n2_ n3_ n4_ n5_ n6_ n7_; (try clear hb); (try clear hb2); (try clear hk); (try clear hi)))
                  go_roundg k3
                  case measure => have := HK1.out; have := HK2.out; have := HK3.out; omega
                  case rel => exact ⟨(wrap64 (x20_3 + 1)), (by first | rfl | exact congrArg (fun b => Ending.returned (Value.bool b)) HR_.out | (simp; done) | (simp [*]; done)), H', ⟨by have := HK1.out; have := HK2.out; have := HK3.out; omega⟩, ⟨by exact RM_ HO_16.out⟩, ⟨by exact RM_ HO_17.out⟩, ⟨by exact RM_ HO_18.out⟩, ⟨by exact SM_ HO_343000.out⟩, ⟨by exact SM_ HO_343001.out⟩, ⟨by exact KX_ BK319.out⟩, ⟨by exact KX_ BK342.out⟩, ⟨B1_⟩⟩
                 replace c62 := Bool.eq_false_iff.mpr c62
                 subst c62
                 have H1 : (locksteplaw07_DomMore.l3 k3 l0 t341 t343 t346 t349 x19_2 (wrap64 (x20_3 + 1))) = some true := by rw [if_neg (show ¬ (false = true) by decide)] at H; exact H
                 clear H
                 have H := H1
                 clear H1
                 have H' := Aside0.mk H
                 clear H
                 obtain ⟨Ao75, co75, eo75⟩ := Kd.R_slice HO_18.out
                 subst eo75
                 have p352 : 0 ≤ (x20_3 : Int) := D_
                 have q352 : x20_3 < (t349.length : Int) := D_
                 obtain ⟨ad352, e352, hx352_0⟩ := Kd.at_bool (Kd.R_reads' HO_18.out).2.2 x20_3 p352 q352
                 (try rw [← Nbq61.out] at hx352_0)
                 cases e352
                 replace p352 := eq_true p352
                 replace q352 := eq_true q352
                 go_wp2
                 go_roundg k3
                 case measure => have := HK1.out; have := HK2.out; have := HK3.out; omega
                 case rel => exact ⟨(wrap64 (x20_3 + 1)), (by first | rfl | exact congrArg (fun b => Ending.returned (Value.bool b)) HR_.out | (simp; done) | (simp [*]; done)), H', ⟨by have := HK1.out; have := HK2.out; have := HK3.out; omega⟩, ⟨by exact RM_ HO_16.out⟩, ⟨by exact RM_ HO_17.out⟩, ⟨by exact RM_ HO_18.out⟩, ⟨by exact SM_ HO_343000.out⟩, ⟨by exact SM_ HO_343001.out⟩, ⟨by exact KX_ BK319.out⟩, ⟨by exact KX_ BK342.out⟩, ⟨B1_⟩⟩
                rw [if_neg c60] at H
                exact absurd H (by simp)
               rw [if_neg c59] at H
               exact absurd H (by simp)
              rw [if_neg c58] at H
              have c58b0 : decide (x20_3 < (l0.length : Int)) = false := decide_eq_false c58
              clear c58
              have H' := Aside0.mk H
              clear H
              go_wp2
              go_roundg k3
              case measure => have := HK1.out; have := HK2.out; have := HK3.out; omega
              case rel => exact ⟨(wrap64 (x19_2 + 1)), (by first | rfl | exact congrArg (fun b => Ending.returned (Value.bool b)) HR_.out | (simp; done) | (simp [*]; done)), H', ⟨by have := HK1.out; have := HK2.out; have := HK3.out; omega⟩, ⟨by exact RM_ HO_16.out⟩, ⟨by exact RM_ HO_17.out⟩, ⟨by exact RM_ HO_18.out⟩, ⟨by exact SM_ HO_343000.out⟩, ⟨by exact SM_ HO_343001.out⟩, ⟨by exact KX_ BK319.out⟩, ⟨by exact KX_ BK342.out⟩, ⟨B1_⟩⟩
           rw [if_neg c57] at H
           have c57b0 : decide (x19_2 < (l0.length : Int)) = false := decide_eq_false c57
           clear c57
           have HR_ := Aside0.mk (Option.some.inj H)
           clear H
           go_wp2
           go_ret
           exact ⟨by first | rfl | exact congrArg (fun b => Ending.returned (Value.bool b)) HR_.out | (simp [errW_none, errW_some] <;> rfl) | (simp [*, errW_none, errW_some] <;> rfl), below_step HB0.out (B1_)⟩
      rw [if_neg c9] at H
      exact absurd H (by simp)
     rw [if_neg c8] at H
     exact absurd H (by simp)
    rw [if_neg c13] at H
    have c13b0 : (g3_2 == 0) = false := beq_eq_false_iff_ne.mpr c13
    have c13b1 : (g3_2 != 0) = true := bne_iff_ne.mpr c13
    clear H
    go_wp2_with (first | ((with_reducible refine gate_callee (f := 11) rfl ?_); refine goesL_ (some 38) rfl rfl Try.func11 (by kernel_rfl) rfl #[.slice A0 l0.length c0] rfl (by (try simp only [List.map_toArray, List.map_cons, List.map_nil]); first | done | rfl | (simp only [List.length_drop, List.length_take]; rfl)) ?_; (with_reducible refine (graph_Make.calls kj5 _ _ l0 g3_0 g3_1 g3_2 _ ?side1 ?side2 A12.out).mono ?_); (case side1 => exact CX_ (Kd.C_below HR0.out HB.out)); (case side2 => exact HC0.out); rintro e w19 ⟨v322, v325, rfl, ho0, ho1, hb⟩; refine ⟨_, rfl, ?_⟩; have n0_ := Aside0.mk (Kd.S_lower ho0 (below_size (B_))); have n1_ := Aside0.mk (Kd.S_lower ho1 (below_size (B_))); have n2_ := Aside0.mk (below_step (B_) hb); clear HB; have HO323 := n0_; have HO326 := n1_; have HB := n2_; clear n0_ n1_ n2_; (try clear hb); (try clear hb2); (try clear hk); (try clear hi); (try clear ho0); (try clear ho1)) | ((with_reducible refine gate_dst (N := 7) rfl ?_); (try (refine gate_guard (by rfl) ?_; dsimp only)); refine box_event ?hg (N := 7) ?hd (cs := #[.slice none 0 0, .slice none 0 0]) (t := 26) ?hr ?_; (case hd => rfl); (case hg => rfl); (case hr => first | (go_simp; done) | (go_simp; rfl)); intro gb328 hg w20 hbox hb; have n0_ := Aside0.mk (Kd.S_below (by exact SX_ HO323.out) hb); have n1_ := Aside0.mk (Kd.S_below (by exact SX_ HO326.out) hb); have n2_ := Aside0.mk (below_step (B_) hb); have n3_ := Aside0.mk (hbox); have n4_ := Aside0.mk ((by rw [hg]; exact (below_size (B_)) : wa.heap.size ≤ gb328)); have n5_ := Aside0.mk ((by rw [hg]; exact (below_size (B_)) : wa.heap.size ≤ gb328)); clear HO323; clear HO326; clear HB; have HO323 := n0_; have HO326 := n1_; have HB := n2_; have BK328 := n3_; have GW328 := n4_; have GE328 := n5_; clear n0_ n1_ n2_ n3_ n4_ n5_; clear hb hbox hg; obtain ⟨Ao21, co21, eo21⟩ := Kd.S_slice HO323.out; subst eo21; have hcz22_0 : w20.cell? ⟨gb328, 0, none⟩ = some (.slice none 0 0) := (blk_cell BK328.out 0).trans rfl; have hcz22_1 : w20.cell? ⟨gb328, 1, none⟩ = some (.slice none 0 0) := (blk_cell BK328.out 1).trans rfl; have hfz22_0 := blk_frozen BK328.out 0; have hfz22_1 := blk_frozen BK328.out 1; obtain ⟨Ao23, co23, eo23⟩ := Kd.S_slice HO326.out; subst eo23))
    go_ret
    exact ⟨by first | rfl | exact congrArg (fun b => Ending.returned (Value.bool b)) HR_.out | (simp [errW_none, errW_some] <;> rfl) | (simp [*, errW_none, errW_some] <;> rfl), B1_⟩
 replace c5 := Bool.eq_false_iff.mpr c5
 subst c5
 have H1 : (some false) = some true := by rw [if_neg (show ¬ (false = true) by decide)] at H; exact H
 clear H
 have H := H1
 clear H1
 exact absurd H (by simp)

/-- THE ONE PURE STATEMENT of locksteplaw07_DomMore: yours. -/
def locksteplaw07_DomMore.Pure : Prop := ∀ (l0 : List (List Int)) (a1 : Int) (a2 : Int), RowsOk .i64 l0 → (Lit.int .u8 a1).wf = true → (Lit.int .u8 a2).wf = true → ∃ k, locksteplaw07_DomMore.f k l0 a1 a2 = some true
theorem locksteplaw07_DomMore.walk (P : locksteplaw07_DomMore.Pure) (a0 : Option Addr) (cap0 : Nat) (l0 : List (List Int)) (a1 : Int) (a2 : Int) (w : World) (w0 : Kd.C (Kd.slice 3 (Kd.int .i64)) w a0 l0.length l0) (y0 : l0.length ≤ cap0) (m0 : RowsOk .i64 l0) (w1 : (Lit.int .u8 a1).wf = true) (w2 : (Lit.int .u8 a2).wf = true) :
 Calls Try.prog 3 #[.slice a0 l0.length cap0, .int .u8 a1, .int .u8 a2] w fun e w' => e = .returned (.bool true) ∧ Below w.heap.size w w' := by
 obtain ⟨k, h⟩ := P l0 a1 a2 m0 w1 w2
 refine (locksteplaw07_DomMore.calls k _ _ l0 a1 a2 w w0 y0 h).mono ?_
 rintro e w' ⟨rfl, hd⟩
 exact ⟨rfl, hd⟩

end Go.Proofs.Ytoekeknfeinphaa.G
namespace Go.Proofs.Ytoekeknfeinphaa.GP
open Go.RowKit Go.Proofs.Ytoekeknfeinphaa.G Go.Proofs.YtoekeknfeinphaaW.PrintWords

/-- With enough rounds the answer is v. -/
def Ev {α : Type} (f : Nat → Option α) (v : α) : Prop := ∃ K, ∀ k, K ≤ k → f k = some v
theorem Ev.succ {α : Type} {f : Nat → Option α} {v : α} (h : Ev (fun k => f (k + 1)) v) : Ev f v := by
  obtain ⟨K, h⟩ := h
  refine ⟨K + 1, fun k hk => ?_⟩
  obtain ⟨m, rfl⟩ : ∃ m, k = m + 1 := ⟨k - 1, by omega⟩
  exact h m (by omega)
theorem Ev.bind {α β : Type} {g : Nat → Option α} {h : Nat → α → Option β} {a : α} {r : β} (h1 : Ev g a) (h2 : Ev (fun k => h k a) r) : Ev (fun k => (g k).bind (fun t => h k t)) r := by
  obtain ⟨K1, h1⟩ := h1
  obtain ⟨K2, h2⟩ := h2
  refine ⟨K1 + K2, fun k hk => ?_⟩
  simp only [h1 k (by omega), Option.bind_some]
  exact h2 k (by omega)
theorem Ev.pure {α : Type} {v : α} : Ev (fun _ => some v) v := ⟨0, fun _ _ => rfl⟩
theorem Ev.ifp {α : Type} {c : Prop} [Decidable c] {a b : Nat → Option α} {v : α} (h : c) (H : Ev a v) : Ev (fun k => if c then a k else b k) v := by
  simp only [if_pos h]; exact H
theorem Ev.ifn {α : Type} {c : Prop} [Decidable c] {a b : Nat → Option α} {v : α} (h : ¬ c) (H : Ev b v) : Ev (fun k => if c then a k else b k) v := by
  simp only [if_neg h]; exact H
theorem Ev.at {α : Type} {f : Nat → Option α} {v : α} (h : Ev f v) : ∃ k, f k = some v := by
  obtain ⟨K, h⟩ := h; exact ⟨K, h K (Nat.le_refl _)⟩
theorem Ev.of_eq {α : Type} {f : Nat → Option α} {v w : α} (h : Ev f v) (e : v = w) : Ev f w := e ▸ h
theorem Ev.of_at {α : Type} {f : Nat → Option α} {v : α} (m : ∀ k, LeO (f k) (f (k + 1))) {K : Nat} (h : f K = some v) : Ev f v := by
  refine ⟨K, fun k hk => ?_⟩
  obtain ⟨d, rfl⟩ : ∃ d, k = K + d := ⟨k - K, by omega⟩
  clear hk
  induction d with
  | zero => exact h
  | succ d ih => exact m _ _ ih

theorem wrap_nat {i : Nat} (h : i < 9223372036854775807) : wrap64 ((i : Int) + 1) = ((i + 1 : Nat) : Int) := by unfold wrap64; omega
theorem wrap_id {x : Int} (h : -9223372036854775808 ≤ x) (h' : x ≤ 9223372036854775807) : wrap64 x = x := by unfold wrap64; omega

/-- Numbers as blocks' numbers. -/
def up (l : List Nat) : List Int := l.map (fun n : Nat => (n : Int))
def up2 (S : List (List Nat)) : List (List Int) := S.map up
@[simp] theorem up_length (l : List Nat) : (up l).length = l.length := by simp [up]
@[simp] theorem up2_length (S : List (List Nat)) : (up2 S).length = S.length := by simp [up2]
@[simp] theorem up_nil : up [] = [] := rfl
@[simp] theorem up2_nil : up2 [] = [] := rfl
theorem up_append (a b : List Nat) : up (a ++ b) = up a ++ up b := by simp [up]
theorem up_inj {a b : List Nat} (h : up a = up b) : a = b := by
  induction a generalizing b with
  | nil => cases b with
    | nil => rfl
    | cons y b => simp [up] at h
  | cons x a ih => cases b with
    | nil => simp [up] at h
    | cons y b =>
      simp only [up, List.map_cons, List.cons.injEq] at h
      rw [show x = y by omega, ih h.2]
theorem up2_inj {a b : List (List Nat)} (h : up2 a = up2 b) : a = b := by
  induction a generalizing b with
  | nil => cases b with
    | nil => rfl
    | cons y b => simp [up2] at h
  | cons x a ih => cases b with
    | nil => simp [up2] at h
    | cons y b =>
      simp only [up2, List.map_cons, List.cons.injEq] at h
      rw [up_inj h.1, ih h.2]
theorem rd_up (l : List Nat) (i : Nat) : rd (up l) (i : Int) = ((l.getD i 0 : Nat) : Int) := by
  simp only [rd, up, Int.toNat_natCast, List.getD_eq_getElem?_getD, List.getElem?_map]
  cases l[i]? <;> rfl
theorem rdL_up (S : List (List Nat)) (i : Nat) : rd_L1 (up2 S) (i : Int) = up (S.getD i []) := by
  simp only [rd_L1, up2, Int.toNat_natCast, List.getD_eq_getElem?_getD, List.getElem?_map]
  cases S[i]? <;> rfl
theorem getD_mem {α : Type} {l : List α} {i : Nat} {d : α} (h : i < l.length) : l.getD i d ∈ l := by
  rw [List.getD_eq_getElem?_getD, List.getElem?_eq_getElem h]; exact List.getElem_mem h
theorem drop_getD {α : Type} (l : List α) (i : Nat) (d : α) (h : i < l.length) : l.drop i = l.getD i d :: l.drop (i + 1) := by
  rw [List.drop_eq_getElem_cons h, List.getD_eq_getElem?_getD, List.getElem?_eq_getElem h]; rfl
theorem take_getD {α : Type} (l : List α) (i : Nat) (d : α) (h : i < l.length) : l.take (i + 1) = l.take i ++ [l.getD i d] := by
  rw [List.take_succ_eq_append_getElem h, List.getD_eq_getElem?_getD, List.getElem?_eq_getElem h]; rfl
theorem getD_map_range {α : Type} (n : Nat) (f : Nat → α) (i : Nat) (d : α) (h : i < n) : ((List.range n).map f).getD i d = f i := by
  rw [List.getD_eq_getElem?_getD, List.getElem?_map, List.getElem?_range h]; rfl
theorem set_map_range {α : Type} (n : Nat) (f g : Nat → α) (i : Nat) (v : α) (hv : g i = v) (he : ∀ j, j ≠ i → g j = f j) : ((List.range n).map f).set i v = (List.range n).map g := by
  apply List.ext_getElem
  · simp
  · intro j h1 h2
    simp only [List.getElem_set, List.getElem_map, List.getElem_range]
    split
    · next e => rw [← e, hv]
    · next e => rw [he j (fun h => e h.symm)]
theorem self_map_range {α : Type} (l : List α) (d : α) : l = (List.range l.length).map (fun i => l.getD i d) := by
  apply List.ext_getElem
  · simp
  · intro j h1 h2
    simp only [List.getElem_map, List.getElem_range, List.getD_eq_getElem?_getD, List.getElem?_eq_getElem h1]; rfl
theorem ext_getD {α : Type} {a b : List α} (d : α) (hl : a.length = b.length) (h : ∀ i, i < a.length → a.getD i d = b.getD i d) : a = b := by
  rw [self_map_range a d, self_map_range b d, hl]
  exact List.map_congr_left (fun i hi => h i (by have := List.mem_range.mp hi; omega))

/-- Each number greater than the one ahead, and below n. -/
def rsg (n : Int) : Int → List Int → Bool
  | _, [] => true
  | last, x :: xs => if x ≤ last then false else if x ≥ n then false else rsg n x xs

def big : Nat := 9223372036854775807

theorem rising_l0 (d : Nat) : ∀ (i : Nat) (n last : Int) (l : List Int), l.length ≤ big → i ≤ l.length → l.length - i = d → Ev (fun k => graph_rising.l0 k n last l (l.length : Int) (i : Int)) (rsg n last (l.drop i)) := by
  induction d with
  | zero =>
    intro i n last l hb hi hd
    refine Ev.succ ?_; simp only [graph_rising.l0]
    rw [List.drop_of_length_le (by omega)]
    exact Ev.ifn (by omega) Ev.pure
  | succ d ih =>
    intro i n last l hb hi hd
    have h1 : i < l.length := by omega
    have hbb : big = 9223372036854775807 := rfl
    refine Ev.succ ?_; simp only [graph_rising.l0]
    refine Ev.ifp (by omega) (Ev.ifp (by omega) (Ev.ifp (by omega) ?_))
    rw [drop_getD l i 0 h1, show rd l (i : Int) = l.getD i 0 by simp [rd]]
    simp only [rsg]
    split
    · exact Ev.pure
    · split
      · exact Ev.pure
      · rw [wrap_nat (by omega)]
        exact ih (i + 1) _ _ l hb (by omega) (by omega)
theorem make1_ok (l : List Int) (n : Int) (h : l.length ≤ big) : Ev (fun k => graph_Make_1.f k l n) (!rsg n (-1) l) := by
  unfold graph_Make_1.f graph_rising.f
  exact Ev.bind (a := rsg n (-1) l) (by simpa using rising_l0 l.length 0 n (-1) l h (by omega) (by omega)) Ev.pure
theorem index_l0 (d : Nat) : ∀ (i : Nat) (n : Int) (s : List (List Int)), s.length ≤ big → (∀ l ∈ s, l.length ≤ big) → i ≤ s.length → s.length - i = d →
    ∃ v, Ev (fun k => slices_IndexFunc_int_int_graph_Make_1.l0 k s (s.length : Int) (i : Int) n) v ∧ decide (v ≥ 0) = (s.drop i).any (fun l => !rsg n (-1) l) := by
  induction d with
  | zero =>
    intro i n s hb hr hi hd
    refine ⟨-1, Ev.succ ?_, by rw [List.drop_of_length_le (by omega)]; rfl⟩
    simp only [slices_IndexFunc_int_int_graph_Make_1.l0]
    exact Ev.ifn (by omega) Ev.pure
  | succ d ih =>
    intro i n s hb hr hi hd
    have h1 : i < s.length := by omega
    have hbb : big = 9223372036854775807 := rfl
    have hrd : rd_L1 s (i : Int) = s.getD i [] := by simp [rd_L1]
    rw [drop_getD s i [] h1, List.any_cons]
    cases hv : rsg n (-1) (s.getD i []) with
    | false =>
      refine ⟨(i : Int), Ev.succ ?_, by simp⟩
      simp only [slices_IndexFunc_int_int_graph_Make_1.l0]
      refine Ev.ifp (by omega) (Ev.ifp (by omega) (Ev.ifp (by omega) ?_))
      refine Ev.bind (make1_ok _ n (by rw [hrd]; exact hr _ (getD_mem h1))) ?_
      rw [hrd, hv]
      exact Ev.ifp rfl Ev.pure
    | true =>
      obtain ⟨v, he, hd'⟩ := ih (i + 1) n s hb hr (by omega) (by omega)
      refine ⟨v, Ev.succ ?_, by simpa using hd'⟩
      simp only [slices_IndexFunc_int_int_graph_Make_1.l0]
      refine Ev.ifp (by omega) (Ev.ifp (by omega) (Ev.ifp (by omega) ?_))
      refine Ev.bind (make1_ok _ n (by rw [hrd]; exact hr _ (getD_mem h1))) ?_
      rw [hrd, hv]
      refine Ev.ifn (by decide) ?_
      rw [wrap_nat (by omega)]; exact he
theorem contains_ok (s : List (List Int)) (n : Int) (hb : s.length ≤ big) (hr : ∀ l ∈ s, l.length ≤ big) : Ev (fun k => slices_ContainsFunc_int_int_graph_Make_1.f k s n) (s.any (fun l => !rsg n (-1) l)) := by
  obtain ⟨v, he, hd⟩ := index_l0 s.length 0 n s hb hr (by omega) (by omega)
  unfold slices_ContainsFunc_int_int_graph_Make_1.f slices_IndexFunc_int_int_graph_Make_1.f
  have hd' : decide (v ≥ 0) = s.any (fun l => !rsg n (-1) l) := by simpa using hd
  exact (Ev.bind (h := fun _ t => some (decide (t ≥ 0))) (by simpa using he) Ev.pure).of_eq hd'

/-- May these lists be a graph's ways on? -/
def goodb (s : List (List Int)) : Bool := decide (1 ≤ s.length) && (decide (s.length ≤ 64) && s.all (rsg (s.length : Int) (-1)))
/-- A graph's ways on. -/
structure Gr (S : List (List Nat)) : Prop where
  pos : 0 < S.length
  le : S.length ≤ 64
  row : ∀ i, i < S.length → (S.getD i []).Pairwise (· < ·) ∧ ∀ y ∈ S.getD i [], y < S.length
/-- Where blocks come from. -/
def pr (S : List (List Nat)) : List (List Nat) := (List.range S.length).map fun j => (List.range S.length).filter fun i => decide (j ∈ S.getD i [])

theorem rsg_spec : ∀ (l : List Int) (n last : Int), rsg n last l = true → l.Pairwise (· < ·) ∧ (∀ x ∈ l, last < x ∧ x < n) := by
  intro l
  induction l with
  | nil => intro n last _; simp
  | cons x l ih =>
    intro n last h
    simp only [rsg] at h
    split at h
    · cases h
    · split at h
      · cases h
      · obtain ⟨h1, h2⟩ := ih n x h
        refine ⟨List.pairwise_cons.mpr ⟨fun y hy => (h2 y hy).1, h1⟩, fun y hy => ?_⟩
        rcases List.mem_cons.mp hy with rfl | hy
        · omega
        · have := h2 y hy; omega
theorem rsg_of : ∀ (l : List Int) (n last : Int), l.Pairwise (· < ·) → (∀ x ∈ l, last < x ∧ x < n) → rsg n last l = true := by
  intro l
  induction l with
  | nil => intro n last _ _; rfl
  | cons x l ih =>
    intro n last h h2
    have h3 := h2 x (List.mem_cons_self ..)
    simp only [rsg]
    rw [if_neg (by omega), if_neg (by omega)]
    obtain ⟨h4, h5⟩ := List.pairwise_cons.mp h
    exact ih n x h5 (fun y hy => ⟨h4 y hy, (h2 y (List.mem_cons_of_mem _ hy)).2⟩)
theorem good_gr {s : List (List Int)} (h : goodb s = true) : ∃ S, Gr S ∧ s = up2 S := by
  simp only [goodb, Bool.and_eq_true, decide_eq_true_eq, List.all_eq_true] at h
  obtain ⟨h1, h2, h3⟩ := h
  have hr : ∀ l ∈ s, up (l.map Int.toNat) = l := by
    intro l hl
    have := rsg_spec l _ _ (h3 l hl)
    simp only [up, List.map_map]
    conv => rhs; rw [← List.map_id l]
    exact List.map_congr_left (fun x hx => by have := (this.2 x hx).1; simp; omega)
  have hs : up2 (s.map (fun l => l.map Int.toNat)) = s := by
    simp only [up2, List.map_map]
    conv => rhs; rw [← List.map_id s]
    exact List.map_congr_left (fun l hl => hr l hl)
  refine ⟨s.map (fun l => l.map Int.toNat), ⟨by simp; omega, by simpa using h2, fun i hi => ?_⟩, hs.symm⟩
  have hi' : i < s.length := by simpa using hi
  have hl := getD_mem (d := []) hi'
  have hq : (s.map (fun l => l.map Int.toNat)).getD i [] = (s.getD i []).map Int.toNat := by
    simp only [List.getD_eq_getElem?_getD, List.getElem?_map, List.getElem?_eq_getElem hi']; rfl
  have h4 := rsg_spec _ _ _ (h3 _ hl)
  rw [hq]
  refine ⟨List.pairwise_map.mpr (h4.1.imp_of_mem (fun ha hb hab => by have := h4.2 _ ha; have := h4.2 _ hb; omega)), fun y hy => ?_⟩
  obtain ⟨x, hx, rfl⟩ := List.mem_map.mp hy
  have := h4.2 x hx
  simp; omega
theorem gr_good {S : List (List Nat)} (h : Gr S) : goodb (up2 S) = true := by
  simp only [goodb, Bool.and_eq_true, decide_eq_true_eq, List.all_eq_true, up2_length]
  refine ⟨h.pos, h.le, fun l hl => ?_⟩
  obtain ⟨r, hr, rfl⟩ := List.mem_map.mp hl
  obtain ⟨i, hi, hri⟩ := List.getElem_of_mem hr
  have h2 := h.row i hi
  rw [List.getD_eq_getElem?_getD, List.getElem?_eq_getElem hi, hri] at h2
  simp only [Option.getD_some] at h2
  refine rsg_of _ _ _ (List.pairwise_map.mpr (h2.1.imp (fun h => by omega))) (fun x hx => ?_)
  obtain ⟨y, hy, rfl⟩ := List.mem_map.mp hx
  have := h2.2 y hy; omega

theorem pw_len (n : Nat) : ∀ (l : List Nat) (lo : Nat), l.Pairwise (· < ·) → (∀ x ∈ l, lo ≤ x ∧ x < n) → lo ≤ n → l.length + lo ≤ n := by
  intro l
  induction l with
  | nil => intro lo _ _ h; simpa using h
  | cons x l ih =>
    intro lo h h2 hlo
    obtain ⟨h4, h5⟩ := List.pairwise_cons.mp h
    have h3 := h2 x (List.mem_cons_self ..)
    have := ih (x + 1) h5 (fun y hy => ⟨h4 y hy, (h2 y (List.mem_cons_of_mem _ hy)).2⟩) (by omega)
    simp only [List.length_cons]; omega
theorem gr_len {S : List (List Nat)} (h : Gr S) {i : Nat} (hi : i < S.length) : (S.getD i []).length ≤ 64 := by
  have := pw_len S.length _ 0 (h.row i hi).1 (fun x hx => ⟨Nat.zero_le _, (h.row i hi).2 x hx⟩) (Nat.zero_le _)
  have := h.le; omega
/-! #### the ways back -/
theorem gr_nodup {S : List (List Nat)} (h : Gr S) {i : Nat} (hi : i < S.length) : (S.getD i []).Nodup := (h.row i hi).1.imp (fun h => Nat.ne_of_lt h)
/-- The ways back when i rows are gone through, and m of row i. -/
def prAt (S : List (List Nat)) (i m j : Nat) : List Nat := (List.range i).filter (fun i => decide (j ∈ S.getD i [])) ++ if j ∈ (S.getD i []).take m then [i] else []
def prI (S : List (List Nat)) (i m : Nat) : List (List Int) := (List.range S.length).map fun j => up (prAt S i m j)
theorem prI_succ (S : List (List Nat)) (i : Nat) : prI S i (S.getD i []).length = prI S (i + 1) 0 := by
  unfold prI
  refine List.map_congr_left (fun j _ => ?_)
  simp only [prAt, List.take_length, List.take_zero, List.range_succ, List.filter_append, List.not_mem_nil, if_false, List.append_nil]
  congr 2
  by_cases hj : j ∈ S.getD i []
  · rw [if_pos hj, List.filter_cons_of_pos (by simpa using hj)]; rfl
  · rw [if_neg hj, List.filter_cons_of_neg (by simpa using hj)]; rfl
theorem preds_end {S : List (List Nat)} : prI S S.length 0 = up2 (pr S) := by
  simp only [prI, pr, up2, List.map_map]
  refine List.map_congr_left (fun j _ => ?_)
  simp [prAt]
theorem preds_l1 {S : List (List Nat)} (h : Gr S) (i : Nat) (hi : i < S.length) (v : List (List Int)) (H : Ev (fun k => graph_preds.l0 k (prI S (i + 1) 0) (up2 S) (S.length : Int) ((i + 1 : Nat) : Int)) v) (d : Nat) :
    ∀ m, m ≤ (S.getD i []).length → (S.getD i []).length - m = d → Ev (fun k => graph_preds.l1 k (prI S i m) (i : Int) (up2 S) (S.length : Int) (i : Int) (up (S.getD i [])) ((S.getD i []).length : Int) (m : Int)) v := by
  have hle := h.le
  have hlen := gr_len h hi
  induction d with
  | zero =>
    intro m hm hd
    refine Ev.succ ?_; simp only [graph_preds.l1]
    refine Ev.ifn (by omega) ?_
    rw [wrap_nat (by omega), show m = (S.getD i []).length by omega, prI_succ]
    exact H
  | succ d ih =>
    intro m hm hd
    have h1 : m < (S.getD i []).length := by omega
    refine Ev.succ ?_; simp only [graph_preds.l1]
    rw [rd_up]
    have hy := (h.row i hi).2 _ (getD_mem (d := 0) h1)
    have hyn : (S.getD i []).getD m 0 ∉ (S.getD i []).take m := by
      intro hc
      have h3 : (S.getD i []).Nodup := gr_nodup h hi
      have h2 := take_getD _ m 0 h1
      have h4 : ((S.getD i []).take (m + 1)).Nodup := h3.sublist (List.take_sublist _ _)
      rw [h2, List.nodup_append] at h4
      exact h4.2.2 _ hc _ (List.mem_singleton.mpr rfl) rfl
    generalize hyv : (S.getD i []).getD m 0 = y at hy hyn
    have hrow : rd_L1 (prI S i m) (y : Int) = up (prAt S i m y) := by
      simp only [rd_L1, Int.toNat_natCast, prI]
      exact getD_map_range _ _ _ _ hy
    have hpl : (prAt S i m y).length ≤ 65 := by
      simp only [prAt, List.length_append]
      have := List.length_filter_le (fun i => decide (y ∈ S.getD i [])) (List.range i)
      simp only [List.length_range] at this
      split
      · rw [List.length_singleton]; omega
      · rw [List.length_nil]; omega
    refine Ev.ifp (by omega) (Ev.ifp (by omega) (Ev.ifp (by rw [up_length]; omega) (Ev.ifp (by omega) (Ev.ifp (by simp [prI]; omega) ?_))))
    rw [hrow]
    refine Ev.ifp (by rw [up_length]; omega) ?_
    have hset : (prI S i m).set y (up (prAt S i m y) ++ [(i : Int)]) = prI S i (m + 1) := by
      refine set_map_range _ _ _ _ _ ?_ (fun j hj => ?_)
      · simp only [prAt]
        rw [take_getD _ m 0 h1, hyv, if_neg hyn, if_pos (by simp)]
        simp [up]
      · simp only [prAt]
        rw [take_getD _ m 0 h1, hyv]
        congr 2
        simp [hj]
    rw [Int.toNat_natCast, hset, wrap_nat (by omega)]
    exact ih (m + 1) (by omega) (by omega)
theorem preds_l0 {S : List (List Nat)} (h : Gr S) (d : Nat) : ∀ i, i ≤ S.length → S.length - i = d → Ev (fun k => graph_preds.l0 k (prI S i 0) (up2 S) (S.length : Int) (i : Int)) (up2 (pr S)) := by
  have hle := h.le
  induction d with
  | zero =>
    intro i hi hd
    refine Ev.succ ?_; simp only [graph_preds.l0]
    refine Ev.ifn (by omega) ?_
    rw [show i = S.length by omega, preds_end]
    exact Ev.pure
  | succ d ih =>
    intro i hi hd
    refine Ev.succ ?_; simp only [graph_preds.l0]
    refine Ev.ifp (by omega) (Ev.ifp (by omega) (Ev.ifp (by simp; omega) ?_))
    rw [rdL_up, up_length]
    exact preds_l1 h i (by omega) _ (ih (i + 1) (by omega) (by omega)) _ 0 (by omega) rfl
theorem preds_ok {S : List (List Nat)} (h : Gr S) : Ev (fun k => graph_preds.f k (up2 S)) (up2 (pr S)) := by
  have hle := h.le
  unfold graph_preds.f
  refine Ev.ifp (by omega) (Ev.ifp (by simp; omega) ?_)
  have h0 := preds_l0 h S.length 0 (by omega) (by omega)
  have e : List.replicate (((up2 S).length : Int)).toNat ([] : List Int) = prI S 0 0 := by
    simp only [up2_length, Int.toNat_natCast, prI]
    apply List.ext_getElem
    · simp
    · intro j h1 h2; simp [prAt]
  rw [e, up2_length]
  exact h0

/-! #### graph.Make -/
theorem clone_ok (l : List Int) (h : l.length < 17592186044416) : slices_Clone_int_int.f l = some l := by
  simp [slices_Clone_int_int.f, h]
theorem make_l0 {S : List (List Nat)} (h : Gr S) (d : Nat) : ∀ i, i ≤ S.length → S.length - i = d → Ev (fun k => graph_Make.l0 k (up2 (S.take i)) (up2 S) (S.length : Int) (i : Int)) (up2 S, up2 (pr S), 0) := by
  have hle := h.le
  induction d with
  | zero =>
    intro i hi hd
    refine Ev.succ ?_; simp only [graph_Make.l0]
    refine Ev.ifn (by omega) ?_
    rw [List.take_of_length_le (by omega)]
    exact Ev.bind (preds_ok h) Ev.pure
  | succ d ih =>
    intro i hi hd
    have h1 : i < S.length := by omega
    have hlen := gr_len h h1
    refine Ev.succ ?_; simp only [graph_Make.l0]
    refine Ev.ifp (by omega) (Ev.ifp (by omega) (Ev.ifp (by simp; omega) ?_))
    rw [rdL_up, clone_ok _ (by rw [up_length]; omega)]
    simp only [Option.bind_some]
    refine Ev.ifp (by simp; omega) ?_
    have e : up2 (S.take i) ++ [up (S.getD i [])] = up2 (S.take (i + 1)) := by rw [take_getD S i [] h1]; simp [up2]
    rw [e, wrap_nat (by omega)]
    exact ih (i + 1) (by omega) (by omega)
theorem make_ok {S : List (List Nat)} (h : Gr S) : Ev (fun k => graph_Make.f k (up2 S)) (up2 S, up2 (pr S), 0) := by
  have hle := h.le; have hpos := h.pos
  have hg := gr_good h
  simp only [goodb, Bool.and_eq_true, decide_eq_true_eq, List.all_eq_true] at hg
  unfold graph_Make.f
  refine Ev.ifn (by simp; omega) (Ev.ifn (by simp; omega) ?_)
  have hrow : ∀ l ∈ up2 S, l.length ≤ big := by
    intro l hl
    obtain ⟨r, hr, rfl⟩ := List.mem_map.mp hl
    obtain ⟨i, hi, hri⟩ := List.getElem_of_mem hr
    have hsub := gr_len h hi
    rw [List.getD_eq_getElem?_getD, List.getElem?_eq_getElem hi, hri, Option.getD_some] at hsub
    rw [up_length]; simp only [big]; omega
  refine Ev.bind (contains_ok (up2 S) _ (by simp [big]; omega) hrow) ?_
  have e : (up2 S).any (fun l => !rsg ((up2 S).length : Int) (-1) l) = false := by
    rw [List.any_eq_false]
    intro l hl; rw [hg.2.2 l hl]; decide
  rw [e]
  refine Ev.succ ?_; simp only [graph_Make.j0]
  refine Ev.ifn (by decide) (Ev.ifp (by omega) (Ev.ifp (by simp; omega) ?_))
  simpa using make_l0 h S.length 0 (by omega) (by omega)
theorem make_bad {s : List (List Int)} (hb : s.length ≤ big) (hr : ∀ l ∈ s, l.length ≤ big) (h : goodb s = false) : Ev (fun k => graph_Make.f k s) ([], [], 5) := by
  unfold graph_Make.f
  have hj : ∀ n, Ev (fun k => graph_Make.j0 k s true n) (([] : List (List Int)), ([] : List (List Int)), (5 : Int)) := by
    intro n; refine Ev.succ ?_; simp only [graph_Make.j0]; exact Ev.ifp trivial Ev.pure
  by_cases h1 : (s.length : Int) < 1
  · exact Ev.ifp h1 (hj _)
  · refine Ev.ifn h1 ?_
    by_cases h2 : (s.length : Int) > 64
    · exact Ev.ifp h2 (hj _)
    · refine Ev.ifn h2 (Ev.bind (contains_ok s _ hb hr) ?_)
      have e : s.any (fun l => !rsg (s.length : Int) (-1) l) = true := by
        simp only [goodb] at h
        rw [decide_eq_true (by omega), decide_eq_true (by omega), Bool.true_and, Bool.true_and] at h
        rw [← Bool.not_eq_false, List.any_eq_false]
        intro hc
        have : s.all (rsg (s.length : Int) (-1)) = true := List.all_eq_true.mpr (fun l hl => by have := hc l hl; simpa using this)
        rw [h] at this; cases this
      rw [e]; exact hj _

theorem equal_l0 (d : Nat) : ∀ (i : Nat) (a b : List Int), a.length = b.length → a.length ≤ big → i ≤ a.length → a.length - i = d → Ev (fun k => slices_Equal_int_int.l0 k a b (a.length : Int) (i : Int)) (decide (a.drop i = b.drop i)) := by
  induction d with
  | zero =>
    intro i a b hl hb hi hd
    refine Ev.succ ?_; simp only [slices_Equal_int_int.l0]
    refine Ev.ifn (by omega) ?_
    rw [List.drop_of_length_le (by omega), List.drop_of_length_le (by omega)]
    exact Ev.pure.of_eq (by simp)
  | succ d ih =>
    intro i a b hl hb hi hd
    have hbb : big = 9223372036854775807 := rfl
    refine Ev.succ ?_; simp only [slices_Equal_int_int.l0]
    refine Ev.ifp (by omega) (Ev.ifp (by omega) (Ev.ifp (by omega) (Ev.ifp (by omega) ?_)))
    rw [show rd a (i : Int) = a.getD i 0 by simp [rd], show rd b (i : Int) = b.getD i 0 by simp [rd]]
    rw [drop_getD a i 0 (by omega), drop_getD b i 0 (by omega)]
    by_cases h : a.getD i 0 = b.getD i 0
    · refine Ev.ifp h ?_
      rw [wrap_nat (by omega)]
      exact (ih (i + 1) a b hl hb (by omega) (by omega)).of_eq (by rw [h]; simp)
    · refine Ev.ifn h (Ev.pure.of_eq ?_)
      rw [decide_eq_false]
      intro he; injection he with h1 _; exact h h1
theorem equal_ok (a b : List Int) (hb : a.length ≤ big) : Ev (fun k => slices_Equal_int_int.f k a b) (decide (a = b)) := by
  unfold slices_Equal_int_int.f
  by_cases h : a.length = b.length
  · refine Ev.ifp (by omega) ?_
    simpa using equal_l0 a.length 0 a b h hb (by omega) (by omega)
  · refine Ev.ifn (by omega) (Ev.pure.of_eq ?_)
    rw [decide_eq_false]
    intro he; exact h (by rw [he])
theorem eqf_l0 (d : Nat) : ∀ (i : Nat) (a b : List (List Int)), a.length = b.length → a.length ≤ big → (∀ l ∈ a, l.length ≤ big) → i ≤ a.length → a.length - i = d → Ev (fun k => slices_EqualFunc_int_int_int_int_slices_Equal_int_int.l0 k b a (a.length : Int) (i : Int)) (decide (a.drop i = b.drop i)) := by
  induction d with
  | zero =>
    intro i a b hl hb hr hi hd
    refine Ev.succ ?_; simp only [slices_EqualFunc_int_int_int_int_slices_Equal_int_int.l0]
    refine Ev.ifn (by omega) ?_
    rw [List.drop_of_length_le (by omega), List.drop_of_length_le (by omega)]
    exact Ev.pure.of_eq (by simp)
  | succ d ih =>
    intro i a b hl hb hr hi hd
    have hbb : big = 9223372036854775807 := rfl
    refine Ev.succ ?_; simp only [slices_EqualFunc_int_int_int_int_slices_Equal_int_int.l0]
    refine Ev.ifp (by omega) (Ev.ifp (by omega) (Ev.ifp (by omega) (Ev.ifp (by omega) ?_)))
    rw [show rd_L1 a (i : Int) = a.getD i [] by simp [rd_L1], show rd_L1 b (i : Int) = b.getD i [] by simp [rd_L1]]
    refine Ev.bind (equal_ok _ _ (hr _ (getD_mem (by omega)))) ?_
    rw [drop_getD a i [] (by omega), drop_getD b i [] (by omega)]
    by_cases h : a.getD i [] = b.getD i []
    · refine Ev.ifp (by rw [decide_eq_true h]) ?_
      rw [wrap_nat (by omega)]
      exact (ih (i + 1) a b hl hb hr (by omega) (by omega)).of_eq (by rw [h]; simp)
    · refine Ev.ifn (by rw [decide_eq_false h]; decide) (Ev.pure.of_eq ?_)
      rw [decide_eq_false]
      intro he; injection he with h1 _; exact h h1
theorem eqf_ok (a b : List (List Int)) (hb : a.length ≤ big) (hr : ∀ l ∈ a, l.length ≤ big) : Ev (fun k => slices_EqualFunc_int_int_int_int_slices_Equal_int_int.f k a b) (decide (a = b)) := by
  unfold slices_EqualFunc_int_int_int_int_slices_Equal_int_int.f
  by_cases h : a.length = b.length
  · refine Ev.ifp (by omega) ?_
    simpa using eqf_l0 a.length 0 a b h hb hr (by omega) (by omega)
  · refine Ev.ifn (by omega) (Ev.pure.of_eq ?_)
    rw [decide_eq_false]
    intro he; exact h (by rw [he])

theorem pr_length (S : List (List Nat)) : (pr S).length = S.length := by simp [pr]
theorem pr_getD {S : List (List Nat)} {j : Nat} (hj : j < S.length) : (pr S).getD j [] = (List.range S.length).filter fun i => decide (j ∈ S.getD i []) := getD_map_range _ _ _ _ hj
theorem mem_pr {S : List (List Nat)} {i j : Nat} (hj : j < S.length) : i ∈ (pr S).getD j [] ↔ i < S.length ∧ j ∈ S.getD i [] := by
  rw [pr_getD hj]; simp
theorem gr_pr {S : List (List Nat)} (h : Gr S) : Gr (pr S) := by
  refine ⟨by rw [pr_length]; exact h.pos, by rw [pr_length]; exact h.le, fun i hi => ?_⟩
  rw [pr_length] at hi ⊢
  refine ⟨?_, fun y hy => ((mem_pr hi).mp hy).1⟩
  rw [pr_getD hi]
  exact List.pairwise_lt_range.filter _
theorem sorted_ext : ∀ (a b : List Nat), a.Pairwise (· < ·) → b.Pairwise (· < ·) → (∀ x, x ∈ a ↔ x ∈ b) → a = b := by
  intro a
  induction a with
  | nil =>
    intro b _ _ h
    cases b with
    | nil => rfl
    | cons y b => exact absurd ((h y).mpr (List.mem_cons_self ..)) (by simp)
  | cons x a ih =>
    intro b ha hb h
    cases b with
    | nil => exact absurd ((h x).mp (List.mem_cons_self ..)) (by simp)
    | cons y b =>
      obtain ⟨ha1, ha2⟩ := List.pairwise_cons.mp ha
      obtain ⟨hb1, hb2⟩ := List.pairwise_cons.mp hb
      have e : x = y := by
        rcases List.mem_cons.mp ((h x).mp (List.mem_cons_self ..)) with e | e
        · exact e
        · rcases List.mem_cons.mp ((h y).mpr (List.mem_cons_self ..)) with e' | e'
          · exact e'.symm
          · have := hb1 x e; have := ha1 y e'; omega
      subst e
      rw [ih b ha2 hb2 (fun z => ⟨fun hz => ?_, fun hz => ?_⟩)]
      · rcases List.mem_cons.mp ((h z).mp (List.mem_cons_of_mem _ hz)) with e | e
        · have := ha1 z hz; omega
        · exact e
      · rcases List.mem_cons.mp ((h z).mpr (List.mem_cons_of_mem _ hz)) with e | e
        · have := hb1 z hz; omega
        · exact e
theorem pr_pr {S : List (List Nat)} (h : Gr S) : pr (pr S) = S := by
  have h1 := gr_pr h; have h2 := gr_pr h1
  refine ext_getD [] (by rw [pr_length, pr_length]) (fun i hi => ?_)
  rw [pr_length, pr_length] at hi
  refine sorted_ext _ _ (h2.row i (by rw [pr_length, pr_length]; exact hi)).1 (h.row i hi).1 (fun x => ?_)
  rw [mem_pr (by rw [pr_length]; exact hi), pr_length]
  constructor
  · rintro ⟨hx, hm⟩; exact ((mem_pr hx).mp hm).2
  · intro hm
    have hx := (h.row i hi).2 x hm
    exact ⟨hx, (mem_pr hx).mpr ⟨hi, hm⟩⟩
theorem gr_rows {S : List (List Nat)} (h : Gr S) : ∀ l ∈ up2 S, l.length ≤ 64 := by
  intro l hl
  obtain ⟨r, hr, rfl⟩ := List.mem_map.mp hl
  obtain ⟨i, hi, hri⟩ := List.getElem_of_mem hr
  have hsub := gr_len h hi
  rw [List.getD_eq_getElem?_getD, List.getElem?_eq_getElem hi, hri, Option.getD_some] at hsub
  rw [up_length]; exact hsub

theorem may_ok {S : List (List Nat)} (h : Gr S) (p : List (List Int)) : Ev (fun k => graph_May.f k (up2 S) p) (decide (up2 (pr S) = p)) := by
  unfold graph_May.f
  refine Ev.bind (make_ok h) ?_
  refine Ev.ifp rfl ?_
  have hle := (gr_pr h).le
  exact Ev.bind (eqf_ok _ _ (by rw [up2_length]; simp only [big]; omega) (fun l hl => by have := gr_rows (gr_pr h) l hl; simp only [big]; omega)) Ev.pure
theorem may_bad {s : List (List Int)} (hb : s.length ≤ big) (hr : ∀ l ∈ s, l.length ≤ big) (h : goodb s = false) (p : List (List Int)) : Ev (fun k => graph_May.f k s p) false := by
  unfold graph_May.f
  refine Ev.bind (make_bad hb hr h) ?_
  exact Ev.ifn (by decide) Ev.pure
end Go.Proofs.Ytoekeknfeinphaa.GP
namespace Go.Proofs.Ytoekeknfeinphaa.GP

abbrev Sn := Nat → Bool
def upd (s : Sn) (x : Nat) : Sn := fun z => if z = x then true else s z
theorem upd_self (s : Sn) (x : Nat) : upd s x x = true := by simp [upd]
theorem upd_true {s : Sn} {x z : Nat} : upd s x z = true ↔ z = x ∨ s z = true := by unfold upd; split <;> simp_all
/-- How many of the first n are not seen. -/
def cnt (n : Nat) (s : Sn) : Nat := ((List.range n).filter (fun z => !s z)).length
theorem filter_le {α : Type} (l : List α) (p q : α → Bool) (h : ∀ x ∈ l, p x = true → q x = true) : (l.filter p).length ≤ (l.filter q).length := by
  induction l with
  | nil => simp
  | cons x l ih =>
    have h1 := ih (fun y hy => h y (List.mem_cons_of_mem _ hy))
    have h2 := h x (List.mem_cons_self ..)
    cases hp : p x with
    | false => rw [List.filter_cons_of_neg (by simp [hp])]; by_cases hq : q x = true
               · rw [List.filter_cons_of_pos hq, List.length_cons]; omega
               · rw [List.filter_cons_of_neg hq]; exact h1
    | true => rw [List.filter_cons_of_pos hp, List.filter_cons_of_pos (h2 hp), List.length_cons, List.length_cons]; omega
theorem filter_lt {α : Type} (l : List α) (p q : α → Bool) (h : ∀ x ∈ l, p x = true → q x = true) (y : α) (hy : y ∈ l) (h1 : p y = false) (h2 : q y = true) : (l.filter p).length < (l.filter q).length := by
  induction l with
  | nil => simp at hy
  | cons x l ih =>
    have hl := filter_le l p q (fun y hy => h y (List.mem_cons_of_mem _ hy))
    by_cases hx : p x = true
    · have hne : y ≠ x := by rintro rfl; rw [hx] at h1; cases h1
      have hyl : y ∈ l := by rcases List.mem_cons.mp hy with e | e; exact absurd e hne; exact e
      have := ih (fun y hy => h y (List.mem_cons_of_mem _ hy)) hyl
      rw [List.filter_cons_of_pos hx, List.filter_cons_of_pos (h x (List.mem_cons_self ..) hx), List.length_cons, List.length_cons]; omega
    · rw [List.filter_cons_of_neg hx]
      rcases List.mem_cons.mp hy with e | e
      · subst e; rw [List.filter_cons_of_pos h2, List.length_cons]; omega
      · have := ih (fun y hy => h y (List.mem_cons_of_mem _ hy)) e
        by_cases hq : q x = true
        · rw [List.filter_cons_of_pos hq, List.length_cons]; omega
        · rw [List.filter_cons_of_neg hq]; exact this
theorem cnt_le {n : Nat} {s t : Sn} (h : ∀ z, s z = true → t z = true) : cnt n t ≤ cnt n s :=
  filter_le _ _ _ (fun x _ hx => by cases hs : s x; rfl; rw [h x hs] at hx; cases hx)
theorem cnt_lt {n : Nat} {s t : Sn} (h : ∀ z, s z = true → t z = true) {y : Nat} (hy : y < n) (h1 : s y = false) (h2 : t y = true) : cnt n t < cnt n s :=
  filter_lt _ _ _ (fun x _ hx => by cases hs : s x; rfl; rw [h x hs] at hx; cases hx) y (List.mem_range.mpr hy) (by rw [h2]; rfl) (by rw [h1]; rfl)
theorem filter_upd (l : List Nat) (hn : l.Nodup) (s : Sn) (x : Nat) (hx : x ∈ l) (hs : s x = false) : (l.filter (fun z => !upd s x z)).length + 1 = (l.filter (fun z => !s z)).length := by
  induction l with
  | nil => simp at hx
  | cons y l ih =>
    obtain ⟨hy, hl⟩ := List.nodup_cons.mp hn
    by_cases e : y = x
    · subst e
      have e2 : l.filter (fun z => !upd s y z) = l.filter (fun z => !s z) := List.filter_congr (fun z hz => by unfold upd; rw [if_neg (by rintro rfl; exact hy hz)])
      rw [List.filter_cons_of_neg (by simp [upd]), List.filter_cons_of_pos (by simp [hs]), e2]; rfl
    · have hx' : x ∈ l := by rcases List.mem_cons.mp hx with e' | e'; exact absurd e'.symm e; exact e'
      have e3 : upd s x y = s y := by unfold upd; rw [if_neg e]
      have := ih hl hx'
      cases hsy : s y with
      | true => rw [List.filter_cons_of_neg (by simp [e3, hsy]), List.filter_cons_of_neg (by simp [hsy])]; exact this
      | false => rw [List.filter_cons_of_pos (by simp [e3, hsy]), List.filter_cons_of_pos (by simp [hsy]), List.length_cons, List.length_cons]; omega
theorem cnt_upd {n : Nat} {s : Sn} {x : Nat} (hx : x < n) (hs : s x = false) : cnt n (upd s x) + 1 = cnt n s :=
  filter_upd _ List.nodup_range s x (List.mem_range.mpr hx) hs
theorem cnt_pos {n : Nat} {s : Sn} {x : Nat} (hx : x < n) (hs : s x = false) : 0 < cnt n s := by have := cnt_upd hx hs; omega

/-- On from a block: what is seen, and what was left, the first one first. -/
def visit (S : List (List Nat)) : Nat → Nat → Sn × List Nat → Sn × List Nat
  | 0, _, st => st
  | f + 1, x, st =>
    let r := (S.getD x []).foldl (fun st y => if st.1 y = true then st else visit S f y st) (upd st.1 x, st.2)
    (r.1, r.2 ++ [x])
def steps (S : List (List Nat)) (f : Nat) (l : List Nat) (st : Sn × List Nat) : Sn × List Nat := l.foldl (fun st y => if st.1 y = true then st else visit S f y st) st
theorem visit_succ (S : List (List Nat)) (f x : Nat) (st : Sn × List Nat) : visit S (f + 1) x st = ((steps S f (S.getD x []) (upd st.1 x, st.2)).1, (steps S f (S.getD x []) (upd st.1 x, st.2)).2 ++ [x]) := rfl
theorem steps_cons (S : List (List Nat)) (f y : Nat) (l : List Nat) (st : Sn × List Nat) : steps S f (y :: l) st = steps S f l (if st.1 y = true then st else visit S f y st) := rfl

/-- What can be reached. -/
inductive Rch (S : List (List Nat)) (w : Int) (r : Nat) : Nat → Prop
  | base : (r : Int) ≠ w → Rch S w r r
  | step {a y : Nat} : Rch S w r a → y ∈ S.getD a [] → (y : Int) ≠ w → Rch S w r y
theorem Rch.lt {S : List (List Nat)} (h : Gr S) {w : Int} {r : Nat} (hr : r < S.length) {x : Nat} (hx : Rch S w r x) : x < S.length := by
  induction hx with
  | base _ => exact hr
  | @step a y _ hy _ ih => exact (h.row a ih).2 y hy
theorem Rch.trans {S : List (List Nat)} {w : Int} {r a b : Nat} (h1 : Rch S w r a) (h2 : Rch S w a b) : Rch S w r b := by
  induction h2 with
  | base _ => exact h1
  | step _ hy hw ih => exact .step ih hy hw

/-- What a way through comes to. -/
structure Vis (S : List (List Nat)) (n : Nat) (st r : Sn × List Nat) : Prop where
  new : ∃ l, r.2 = st.2 ++ l ∧ (∀ z, r.1 z = true ↔ st.1 z = true ∨ z ∈ l) ∧ l.Nodup ∧ (∀ z ∈ l, st.1 z = false ∧ z < n) ∧ l.length + cnt n r.1 = cnt n st.1
theorem Vis.mono {S : List (List Nat)} {n : Nat} {st r : Sn × List Nat} (h : Vis S n st r) {z : Nat} (hz : st.1 z = true) : r.1 z = true := by
  obtain ⟨l, _, h2, _⟩ := h.new; exact (h2 z).mpr (.inl hz)
theorem Vis.refl (S : List (List Nat)) (n : Nat) (st : Sn × List Nat) : Vis S n st st := ⟨⟨[], by simp, by simp, by simp, by simp, by simp⟩⟩
theorem Vis.trans {S : List (List Nat)} {n : Nat} {a b c : Sn × List Nat} (h1 : Vis S n a b) (h2 : Vis S n b c) : Vis S n a c := by
  obtain ⟨l1, e1, s1, n1, u1, c1⟩ := h1.new
  obtain ⟨l2, e2, s2, n2, u2, c2⟩ := h2.new
  refine ⟨⟨l1 ++ l2, by rw [e2, e1, List.append_assoc], fun z => ?_, ?_, fun z hz => ?_, by rw [List.length_append]; omega⟩⟩
  · rw [s2, s1, List.mem_append, or_assoc]
  · rw [List.nodup_append]
    refine ⟨n1, n2, fun x hx y hy e => ?_⟩
    subst e
    have := (u2 _ hy).1
    rw [(s1 x).mpr (.inr hx)] at this; cases this
  · rcases List.mem_append.mp hz with hz | hz
    · exact u1 z hz
    · refine ⟨?_, (u2 z hz).2⟩
      cases ha : a.1 z with
      | false => rfl
      | true => have := (u2 z hz).1; rw [(s1 z).mpr (.inl ha)] at this; cases this

mutual
theorem visit_vis {S : List (List Nat)} (h : Gr S) : ∀ (f x : Nat) (st : Sn × List Nat), x < S.length → st.1 x = false → cnt S.length st.1 ≤ f → Vis S S.length st (visit S f x st) ∧ (visit S f x st).1 x = true
  | 0, x, st, hx, hs, hc => by have := cnt_pos hx hs; omega
  | f + 1, x, st, hx, hs, hc => by
    have hu := cnt_upd hx hs
    have h1 := steps_vis h f (S.getD x []) (upd st.1 x, st.2) (h.row x hx).2 (by show cnt _ (upd st.1 x) ≤ f; omega)
    rw [visit_succ]
    obtain ⟨l, e, s, nd, u, c⟩ := h1.new
    have hxl : x ∉ l := fun hm => by have := (u x hm).1; simp [upd] at this
    refine ⟨⟨⟨l ++ [x], by (show (steps S f (S.getD x []) (upd st.1 x, st.2)).2 ++ [x] = _); rw [e, List.append_assoc], fun z => ?_, ?_, fun z hz => ?_, ?_⟩⟩, (s x).mpr (.inl (upd_self _ _))⟩
    · show _ = true ↔ _
      rw [s]
      show upd st.1 x z = true ∨ _ ↔ _
      rw [upd_true, List.mem_append, List.mem_singleton]
      constructor
      · rintro ((e | e) | e)
        · exact .inr (.inr e)
        · exact .inl e
        · exact .inr (.inl e)
      · rintro (e | e | e)
        · exact .inl (.inr e)
        · exact .inr e
        · exact .inl (.inl e)
    · rw [List.nodup_append]
      refine ⟨nd, by simp, fun a ha b hb e' => ?_⟩
      rw [List.mem_singleton] at hb; rw [e', hb] at ha; exact hxl ha
    · rcases List.mem_append.mp hz with hz | hz
      · refine ⟨?_, (u z hz).2⟩
        have h2 := (u z hz).1
        cases ha : st.1 z with
        | false => rfl
        | true => have : upd st.1 x z = true := upd_true.mpr (.inr ha)
                  have h3 : upd st.1 x z = false := h2
                  rw [this] at h3; cases h3
      · rw [List.mem_singleton] at hz; subst hz; exact ⟨hs, hx⟩
    · rw [List.length_append, List.length_singleton]
      have c' : l.length + cnt S.length (steps S f (S.getD x []) (upd st.1 x, st.2)).1 = cnt S.length (upd st.1 x) := c
      show _ + cnt S.length (steps S f (S.getD x []) (upd st.1 x, st.2)).1 = _
      omega
theorem steps_vis {S : List (List Nat)} (h : Gr S) : ∀ (f : Nat) (l : List Nat) (st : Sn × List Nat), (∀ y ∈ l, y < S.length) → cnt S.length st.1 ≤ f → Vis S S.length st (steps S f l st)
  | _, [], st, _, _ => Vis.refl _ _ _
  | f, y :: l, st, hl, hc => by
    rw [steps_cons]
    by_cases hy : st.1 y = true
    · rw [if_pos hy]; exact steps_vis h f l st (fun z hz => hl z (List.mem_cons_of_mem _ hz)) hc
    · rw [if_neg hy]
      have h1 := (visit_vis h f y st (hl y (List.mem_cons_self ..)) (by simpa using hy) hc).1
      have h2 := steps_vis h f l (visit S f y st) (fun z hz => hl z (List.mem_cons_of_mem _ hz)) (Nat.le_trans (cnt_le (fun z hz => h1.mono hz)) hc)
      exact h1.trans h2
end
theorem steps_seen {S : List (List Nat)} (h : Gr S) (f : Nat) : ∀ (l : List Nat) (st : Sn × List Nat), (∀ y ∈ l, y < S.length) → cnt S.length st.1 ≤ f → ∀ y ∈ l, (steps S f l st).1 y = true := by
  intro l
  induction l with
  | nil => intro st _ _ y hy; simp at hy
  | cons x l ih =>
    intro st hl hc y hy
    rw [steps_cons]
    have hl' : ∀ z ∈ l, z < S.length := fun z hz => hl z (List.mem_cons_of_mem _ hz)
    by_cases hx : st.1 x = true
    · rw [if_pos hx]
      rcases List.mem_cons.mp hy with e | e
      · subst e; exact (steps_vis h f l st hl' hc).mono hx
      · exact ih st hl' hc y e
    · rw [if_neg hx]
      obtain ⟨h1, h2⟩ := visit_vis h f x st (hl x (List.mem_cons_self ..)) (by simpa using hx) hc
      have hc' : cnt S.length (visit S f x st).1 ≤ f := Nat.le_trans (cnt_le (fun z hz => h1.mono hz)) hc
      rcases List.mem_cons.mp hy with e | e
      · subst e; exact (steps_vis h f l _ hl' hc').mono h2
      · exact ih _ hl' hc' y e


/-! #### what is reached -/
mutual
theorem visit_rch {S : List (List Nat)} (r : Nat) : ∀ (f x : Nat) (st : Sn × List Nat), Rch S (-1) r x → ∀ z, (visit S f x st).1 z = true → st.1 z = true ∨ Rch S (-1) r z
  | 0, _, _, _, z, hz => .inl hz
  | f + 1, x, st, hx, z, hz => by
    rw [visit_succ] at hz
    rcases steps_rch r f (S.getD x []) (upd st.1 x, st.2) (fun y hy => .step hx hy (by omega)) z hz with e | e
    · rcases upd_true.mp e with e | e
      · subst e; exact .inr hx
      · exact .inl e
    · exact .inr e
theorem steps_rch {S : List (List Nat)} (r : Nat) : ∀ (f : Nat) (l : List Nat) (st : Sn × List Nat), (∀ y ∈ l, Rch S (-1) r y) → ∀ z, (steps S f l st).1 z = true → st.1 z = true ∨ Rch S (-1) r z
  | _, [], _, _, z, hz => .inl hz
  | f, y :: l, st, hl, z, hz => by
    rw [steps_cons] at hz
    have hl' : ∀ y ∈ l, Rch S (-1) r y := fun z hz => hl z (List.mem_cons_of_mem _ hz)
    by_cases hy : st.1 y = true
    · rw [if_pos hy] at hz; exact steps_rch r f l st hl' z hz
    · rw [if_neg hy] at hz
      rcases steps_rch r f l _ hl' z hz with e | e
      · exact visit_rch r f y st (hl y (List.mem_cons_self ..)) z e
      · exact .inr e
end
mutual
theorem visit_closed {S : List (List Nat)} (h : Gr S) : ∀ (f x : Nat) (st : Sn × List Nat), x < S.length → st.1 x = false → cnt S.length st.1 ≤ f → ∀ z, (visit S f x st).1 z = true → st.1 z = true ∨ ∀ y ∈ S.getD z [], (visit S f x st).1 y = true
  | 0, x, st, hx, hs, hc, _, _ => by have := cnt_pos hx hs; omega
  | f + 1, x, st, hx, hs, hc, z, hz => by
    have hu := cnt_upd hx hs
    have hcu : cnt S.length (upd st.1 x) ≤ f := by omega
    rw [visit_succ] at hz ⊢
    rcases steps_closed h f (S.getD x []) (upd st.1 x, st.2) (h.row x hx).2 hcu z hz with e | e
    · rcases upd_true.mp e with e | e
      · subst e; exact .inr (steps_seen h f _ _ (h.row z hx).2 hcu)
      · exact .inl e
    · exact .inr e
theorem steps_closed {S : List (List Nat)} (h : Gr S) : ∀ (f : Nat) (l : List Nat) (st : Sn × List Nat), (∀ y ∈ l, y < S.length) → cnt S.length st.1 ≤ f → ∀ z, (steps S f l st).1 z = true → st.1 z = true ∨ ∀ y ∈ S.getD z [], (steps S f l st).1 y = true
  | _, [], _, _, _, z, hz => .inl hz
  | f, y :: l, st, hl, hc, z, hz => by
    rw [steps_cons] at hz ⊢
    have hl' : ∀ y ∈ l, y < S.length := fun z hz => hl z (List.mem_cons_of_mem _ hz)
    by_cases hy : st.1 y = true
    · rw [if_pos hy] at hz ⊢; exact steps_closed h f l st hl' hc z hz
    · rw [if_neg hy] at hz ⊢
      have hy' : st.1 y = false := by simpa using hy
      have h1 := (visit_vis h f y st (hl y (List.mem_cons_self ..)) hy' hc).1
      have hc' : cnt S.length (visit S f y st).1 ≤ f := Nat.le_trans (cnt_le (fun z hz => h1.mono hz)) hc
      rcases steps_closed h f l _ hl' hc' z hz with e | e
      · rcases visit_closed h f y st (hl y (List.mem_cons_self ..)) hy' hc z e with e | e
        · exact .inl e
        · exact .inr (fun w hw => (steps_vis h f l _ hl' hc').mono (e w hw))
      · exact .inr e
end

/-! #### where all ways go up -/
/-- Each block ahead of which all those at which it goes on are left. -/
def Ord (S : List (List Nat)) (o : List Nat) : Prop := ∀ l a t, o = l ++ a :: t → ∀ y ∈ S.getD a [], y ∈ l
theorem ord_snoc {S : List (List Nat)} {o : List Nat} {x : Nat} (h : Ord S o) (hx : ∀ y ∈ S.getD x [], y ∈ o) : Ord S (o ++ [x]) := by
  intro l a t e y hy
  rcases List.append_eq_append_iff.mp e with ⟨m, hm1, hm2⟩ | ⟨m, hm1, hm2⟩
  · cases m with
    | nil =>
      have e2 : x :: [] = a :: t := by simpa using hm2
      injection e2 with e3 e4
      subst e3
      rw [List.append_nil] at hm1; subst hm1
      exact hx y hy
    | cons b m =>
      have e2 : [x] = (b :: m) ++ a :: t := hm2
      have := congrArg List.length e2
      simp only [List.length_append, List.length_cons, List.length_nil] at this; omega
  · cases m with
    | nil =>
      have e2 : a :: t = [x] := by simpa using hm2
      injection e2 with e3 e4
      subst e3
      rw [List.append_nil] at hm1; subst hm1
      exact hx y hy
    | cons b m =>
      have e2 : a :: t = (b :: m) ++ [x] := hm2
      injection e2 with e3 e4
      subst e3
      exact h l a m hm1 y hy
mutual
theorem visit_ord {S : List (List Nat)} (h : Gr S) (up : ∀ i, ∀ y ∈ S.getD i [], i < y) : ∀ (f x : Nat) (st : Sn × List Nat), x < S.length → st.1 x = false → cnt S.length st.1 ≤ f → Ord S st.2 → (∀ z, st.1 z = true → z ∈ st.2 ∨ z < x) → Ord S (visit S f x st).2
  | 0, x, st, hx, hs, hc, _, _ => by have := cnt_pos hx hs; omega
  | f + 1, x, st, hx, hs, hc, ho, hlt => by
    have hu := cnt_upd hx hs
    have hcu : cnt S.length (upd st.1 x) ≤ f := by omega
    rw [visit_succ]
    have hy := up x
    obtain ⟨h1, h2⟩ := steps_ord h up f x (S.getD x []) (upd st.1 x, st.2) (fun y hm => ⟨(h.row x hx).2 y hm, hy y hm⟩) hcu ho (fun z hz => by
      rcases upd_true.mp hz with e | e
      · exact .inr (Nat.le_of_eq e)
      · rcases hlt z e with e | e
        · exact .inl e
        · exact .inr (Nat.le_of_lt e))
    refine ord_snoc h1 (fun y hm => ?_)
    rcases h2 y (steps_seen h f _ _ (h.row x hx).2 hcu y hm) with e | e
    · exact e
    · have := hy y hm; omega
theorem steps_ord {S : List (List Nat)} (h : Gr S) (up : ∀ i, ∀ y ∈ S.getD i [], i < y) : ∀ (f x : Nat) (l : List Nat) (st : Sn × List Nat), (∀ y ∈ l, y < S.length ∧ x < y) → cnt S.length st.1 ≤ f → Ord S st.2 → (∀ z, st.1 z = true → z ∈ st.2 ∨ z ≤ x) → Ord S (steps S f l st).2 ∧ ∀ z, (steps S f l st).1 z = true → z ∈ (steps S f l st).2 ∨ z ≤ x
  | _, _, [], _, _, _, ho, hlt => ⟨ho, hlt⟩
  | f, x, y :: l, st, hl, hc, ho, hlt => by
    rw [steps_cons]
    have hl' : ∀ y ∈ l, y < S.length ∧ x < y := fun z hz => hl z (List.mem_cons_of_mem _ hz)
    by_cases hy : st.1 y = true
    · rw [if_pos hy]; exact steps_ord h up f x l st hl' hc ho hlt
    · rw [if_neg hy]
      have hy' : st.1 y = false := by simpa using hy
      obtain ⟨hyn, hyx⟩ := hl y (List.mem_cons_self ..)
      have h1 := (visit_vis h f y st hyn hy' hc).1
      have hc' : cnt S.length (visit S f y st).1 ≤ f := Nat.le_trans (cnt_le (fun z hz => h1.mono hz)) hc
      refine steps_ord h up f x l _ hl' hc' (visit_ord h up f y st hyn hy' hc ho (fun z hz => ?_)) (fun z hz => ?_)
      · rcases hlt z hz with e | e
        · exact .inl e
        · exact .inr (by omega)
      · obtain ⟨n, e1, e2, _⟩ := h1.new
        rw [e1]
        rcases (e2 z).mp hz with e | e
        · rcases hlt z e with e | e
          · exact .inl (List.mem_append.mpr (.inl e))
          · exact .inr e
        · exact .inl (List.mem_append.mpr (.inr e))
end

/-! #### the order from a root -/
def none' : Sn := fun _ => false
theorem cnt_none (n : Nat) : cnt n none' = n := by
  show ((List.range n).filter (fun z => !none' z)).length = n
  rw [show (List.range n).filter (fun z => !none' z) = List.range n from List.filter_eq_self.mpr (fun _ _ => rfl), List.length_range]
def dfs (S : List (List Nat)) (r : Nat) : List Nat := (visit S S.length r (none', [])).2.reverse
theorem dfs_vis {S : List (List Nat)} (h : Gr S) {r : Nat} (hr : r < S.length) : Vis S S.length (none', []) (visit S S.length r (none', [])) ∧ (visit S S.length r (none', [])).1 r = true :=
  visit_vis h S.length r (none', []) hr rfl (Nat.le_of_eq (cnt_none _))
theorem dfs_seen {S : List (List Nat)} (h : Gr S) {r : Nat} (hr : r < S.length) (z : Nat) : z ∈ dfs S r ↔ (visit S S.length r (none', [])).1 z = true := by
  obtain ⟨l, e1, e2, _⟩ := (dfs_vis h hr).1.new
  rw [dfs, List.mem_reverse, e1, e2, List.nil_append]
  constructor
  · exact .inr
  · rintro (e | e)
    · cases e
    · exact e
theorem dfs_mem {S : List (List Nat)} (h : Gr S) {r : Nat} (hr : r < S.length) (z : Nat) : z ∈ dfs S r ↔ Rch S (-1) r z := by
  rw [dfs_seen h hr]
  constructor
  · intro hz
    rcases visit_rch r S.length r (none', []) (.base (by omega)) z hz with e | e
    · cases e
    · exact e
  · intro hz
    induction hz with
    | base _ => exact (dfs_vis h hr).2
    | @step a y _ hy _ ih =>
      rcases visit_closed h S.length r (none', []) hr rfl (Nat.le_of_eq (cnt_none _)) a ih with e | e
      · cases e
      · exact e y hy
theorem dfs_nodup {S : List (List Nat)} (h : Gr S) {r : Nat} (hr : r < S.length) : (dfs S r).Nodup := by
  obtain ⟨l, e1, _, e3, _⟩ := (dfs_vis h hr).1.new
  rw [dfs, e1, List.nil_append]
  exact (List.reverse_perm l).nodup_iff.mpr e3
theorem dfs_lt {S : List (List Nat)} (h : Gr S) {r : Nat} (hr : r < S.length) : ∀ z ∈ dfs S r, z < S.length := by
  intro z hz
  exact ((dfs_mem h hr z).mp hz).lt h hr
theorem dfs_head {S : List (List Nat)} (h : Gr S) (r : Nat) : ∃ l, dfs S r = r :: l := by
  obtain ⟨f, hf⟩ : ∃ f, S.length = f + 1 := ⟨S.length - 1, by have := h.pos; omega⟩
  refine ⟨(steps S f (S.getD r []) (upd none' r, [])).2.reverse, ?_⟩
  rw [dfs, hf, visit_succ]
  simp
theorem dfs_len {S : List (List Nat)} (h : Gr S) {r : Nat} (hr : r < S.length) : (dfs S r).length ≤ S.length := by
  obtain ⟨l, e1, _, _, _, e5⟩ := (dfs_vis h hr).1.new
  have : cnt S.length none' = S.length := cnt_none _
  have e6 : l.length + cnt S.length (visit S S.length r (none', [])).1 = cnt S.length none' := e5
  rw [dfs, e1, List.length_reverse, List.nil_append]; omega
theorem dfs_ord {S : List (List Nat)} (h : Gr S) (hup : ∀ i, ∀ y ∈ S.getD i [], i < y) {r : Nat} (hr : r < S.length) : ∀ l a t, dfs S r = t ++ a :: l → ∀ y ∈ S.getD a [], y ∈ l := by
  intro l a t e y hy
  have h1 := visit_ord h hup S.length r (none', []) hr rfl (Nat.le_of_eq (cnt_none _)) (fun l a t e => by simp at e) (fun z hz => by cases hz)
  have e2 : (visit S S.length r (none', [])).2 = l.reverse ++ a :: t.reverse := by
    have := congrArg List.reverse e
    rw [dfs, List.reverse_reverse] at this
    rw [this]; simp
  exact List.mem_reverse.mp (h1 _ _ _ e2 y hy)
end Go.Proofs.Ytoekeknfeinphaa.GP
