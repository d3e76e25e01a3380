/- Texts of this session, joined by wip/tools/merge.py. Conditions: each theorem's own. -/
import Derived.Test.YthahaajmgnoebaaGx0
namespace Go.Proofs.Ythahaajmgnoebaa.G
open Go.Proofs.YthahaajmgnoebaaH
open Go.RowKit Go.Proofs.YthahaajmgnoebaaW.PrintWords Go.Proofs.YthahaajmgnoebaaW.PrintLast Go.Proofs.YthahaajmgnoebaaW.PrintMore
attribute [local go_sem] max2_int min2_int max_two min_two max_three min_three max_four min_four   -- for this text's walks alone
set_option linter.unusedVariables false
set_option linter.unusedSimpArgs false

/-! ### lockstepref06_Small: function 10 -/
def lockstepref06_Small.l0 : Nat → List (List Int) → Int → Option (Bool)
 | 0, _, _ => none
 | k + 1, x0, x3 => if x3 < (x0.length : Int) then (if 0 ≤ x3 then (if ((rd_L1 x0 x3).length : Int) > 100 then (some false) else (if x3 > 100 then (some false) else (lockstepref06_Small.l0 k x0 (wrap64 (x3 + 1))))) else (none)) else (some true)
def lockstepref06_Small.f (k : Nat) (l0 : List (List Int)) : Option (Bool) := lockstepref06_Small.l0 k l0 0
theorem lockstepref06_Small.mono_l : ∀ k, (∀ y0 y1, LeO (lockstepref06_Small.l0 k y0 y1) (lockstepref06_Small.l0 (k + 1) y0 y1))
 | 0 => fun _ _ r h => by simp [lockstepref06_Small.l0] at h
 | k + 1 => by
  have ih0 := lockstepref06_Small.mono_l k
  ·intro y0 y1
   unfold lockstepref06_Small.l0
   repeat' first
   | (with_reducible exact ih0 _ _)
   | (with_reducible exact LeO.refl _)
   | (with_reducible exact LeO.none _)
   | (with_reducible refine LeO.ite ?_ ?_)
   | (with_reducible refine LeO.bind ?_ (fun _ => ?_))
   | exact ih0 _ _
   | exact LeO.none _
   | refine LeO.ite ?_ ?_
   | refine LeO.bind ?_ (fun _ => ?_)
theorem lockstepref06_Small.mono : ∀ a0 k, LeO (lockstepref06_Small.f k a0) (lockstepref06_Small.f (k + 1) a0) := by
 intro a0 k
 have ih0 := lockstepref06_Small.mono_l k
 unfold lockstepref06_Small.f
 repeat' first
  | (with_reducible exact ih0 _ _)
  | (with_reducible exact LeO.refl _)
  | (with_reducible exact LeO.none _)
  | (with_reducible refine LeO.ite ?_ ?_)
  | (with_reducible refine LeO.bind ?_ (fun _ => ?_))
  | exact ih0 _ _
  | exact LeO.none _
  | refine LeO.ite ?_ ?_
  | refine LeO.bind ?_ (fun _ => ?_)
set_option maxHeartbeats 8000000 in
set_option maxRecDepth 100000 in
theorem lockstepref06_Small.calls (k : Nat) (A0 : Option Addr) (c0 : Nat) (l0 : List (List Int)) (r : Bool) (w : World) (hr0 : Kd.C (Kd.slice 3 (Kd.int .i64)) w A0 l0.length l0) (hc0 : l0.length ≤ c0) (h : lockstepref06_Small.f k l0 = some r) :
 Calls Try.prog 10 #[.slice A0 l0.length c0] w fun e w' => e = .returned (.bool r) ∧ Drawn0 w w' := by
 have HR0 := Aside0.mk hr0
 have HC0 := Aside0.mk hc0
 clear hr0 hc0
 have H : (lockstepref06_Small.l0 k l0 0) = some r := h
 clear h
 have H' := Aside0.mk H
 clear H
 go_enter Try.func10, Try.ntmps10
 go_wp2
 go_loopg [3] k (fun kq v3 w' => ∃ (x3_1 : Int), v3 = .int .i64 x3_1 ∧ Aside0 (lockstepref06_Small.l0 kq l0 x3_1 = some r) ∧ Aside0 (kq ≤ k) ∧ Drawn0 w w')
 case atStart => exact ⟨(0), (by first | rfl | (simp; done) | (simp [*]; done)), H', ⟨Nat.le_refl _⟩, by repeat (first | exact Drawn0.refl _ | apply Drawn0.step)⟩
 case round =>
  clear H'
  obtain ⟨x3_1, rfl, HA, HK1, ⟨m1, rfl⟩⟩ := hrel
  cases gk with
  | zero => exact absurd HA.out (by simp [lockstepref06_Small.l0])
  | succ k1 =>
   have H := HA.out
   clear HA
   simp only [lockstepref06_Small.l0] at H
   by_cases c2 : x3_1 < (l0.length : Int)
   ·rw [if_pos c2] at H
    have c2b0 : decide (x3_1 < (l0.length : Int)) = true := decide_eq_true c2
    clear c2
    by_cases c3 : 0 ≤ x3_1
    ·rw [if_pos c3] at H
     have c3b0 : decide (0 ≤ x3_1) = true := decide_eq_true c3
     clear c3
     by_cases c4 : ((rd_L1 l0 x3_1).length : Int) > 100
     ·rw [if_pos c4] at H
      have c4b0 : decide (100 < ((rd_L1 l0 x3_1).length : Int)) = true := decide_eq_true c4
      have c4b1 : decide (100 < (rd_L1 l0 x3_1).length) = true := decide_eq_true (by omega)
      clear c4
      obtain rfl := Option.some.inj H
      have p305 : 0 ≤ (x3_1 : Int) := D_
      have q305 : x3_1 < (l0.length : Int) := D_
      obtain ⟨ad305, A305_0, c305_0, e305, hx305_0, hl305_0, hi305_0⟩ := at_L1 HR0.out x3_1 p305 q305
      cases e305
      have HR305_0 := Aside0.mk hi305_0
      have HC305_0 := Aside0.mk hl305_0
      clear hi305_0 hl305_0
      replace p305 := eq_true p305
      replace q305 := eq_true q305
      go_wp2
      go_ret
      exact ⟨by first | rfl | (simp; done) | (simp [*]; done), by repeat (first | exact Drawn0.refl _ | apply Drawn0.step)⟩
     rw [if_neg c4] at H
     have c4b0 : decide (100 < ((rd_L1 l0 x3_1).length : Int)) = false := decide_eq_false c4
     have c4b1 : decide (100 < (rd_L1 l0 x3_1).length) = false := decide_eq_false (by omega)
     clear c4
     by_cases c5 : x3_1 > 100
     ·rw [if_pos c5] at H
      have c5b0 : decide (100 < x3_1) = true := decide_eq_true c5
      clear c5
      obtain rfl := Option.some.inj H
      have p305 : 0 ≤ (x3_1 : Int) := D_
      have q305 : x3_1 < (l0.length : Int) := D_
      obtain ⟨ad305, A305_0, c305_0, e305, hx305_0, hl305_0, hi305_0⟩ := at_L1 HR0.out x3_1 p305 q305
      cases e305
      have HR305_0 := Aside0.mk hi305_0
      have HC305_0 := Aside0.mk hl305_0
      clear hi305_0 hl305_0
      replace p305 := eq_true p305
      replace q305 := eq_true q305
      go_wp2
      go_ret
      exact ⟨by first | rfl | (simp; done) | (simp [*]; done), by repeat (first | exact Drawn0.refl _ | apply Drawn0.step)⟩
     rw [if_neg c5] at H
     have c5b0 : decide (100 < x3_1) = false := decide_eq_false c5
     clear c5
     have H' := Aside0.mk H
     clear H
     have p305 : 0 ≤ (x3_1 : Int) := D_
     have q305 : x3_1 < (l0.length : Int) := D_
     obtain ⟨ad305, A305_0, c305_0, e305, hx305_0, hl305_0, hi305_0⟩ := at_L1 HR0.out x3_1 p305 q305
     cases e305
     have HR305_0 := Aside0.mk hi305_0
     have HC305_0 := Aside0.mk hl305_0
     clear hi305_0 hl305_0
     replace p305 := eq_true p305
     replace q305 := eq_true q305
     go_wp2
     go_roundg k1
     case measure => have := HK1.out; omega
     case rel => exact ⟨(wrap64 (x3_1 + 1)), (by first | rfl | (simp; done) | (simp [*]; done)), H', ⟨by have := HK1.out; omega⟩, by repeat (first | exact Drawn0.refl _ | apply Drawn0.step)⟩
    rw [if_neg c3] at H
    exact absurd H (by simp)
   rw [if_neg c2] at H
   have c2b0 : decide (x3_1 < (l0.length : Int)) = false := decide_eq_false c2
   clear c2
   obtain rfl := Option.some.inj H
   go_wp2
   go_ret
   exact ⟨by first | rfl | (simp; done) | (simp [*]; done), by repeat (first | exact Drawn0.refl _ | apply Drawn0.step)⟩


/-! ### lockstepref06_Reach: function 22 -/
mutual
def lockstepref06_Reach.l0 : Nat → Int → List Bool → Int → List (List Int) → List (List Int) → Option (List Bool)
 | 0, _, _, _, _, _ => none
 | k + 1, x2, x7, x8, x307000, x307001 => if x8 < (x7.length : Int) then (lockstepref06_Reach.l1 k x2 x7 x8 0 x307000 x307001) else (some x7)
def lockstepref06_Reach.l1 : Nat → Int → List Bool → Int → Int → List (List Int) → List (List Int) → Option (List Bool)
 | 0, _, _, _, _, _, _ => none
 | k + 1, x2, x7, x8, x9, x307000, x307001 => if x9 < (x7.length : Int) then (lockstepref06_Reach.l2 k x2 x7 x8 x9 0 x307000 x307001) else (lockstepref06_Reach.l0 k x2 x7 (wrap64 (x8 + 1)) x307000 x307001)
def lockstepref06_Reach.l2 : Nat → Int → List Bool → Int → Int → Int → List (List Int) → List (List Int) → Option (List Bool)
 | 0, _, _, _, _, _, _, _ => none
 | k + 1, x2, x7, x8, x9, x10, x307000, x307001 => if 0 ≤ x9 then (if x9 < (x7.length : Int) then (if rdOf false x7 x9 = true then (if x9 < (x307000.length : Int) then (lockstepref06_Reach.j3 k x2 x7 x8 x9 x10 (decide (x10 < ((rd_L1 x307000 x9).length : Int))) x307000 x307001) else (none)) else (lockstepref06_Reach.j3 k x2 x7 x8 x9 x10 false x307000 x307001)) else (none)) else (none)
def lockstepref06_Reach.j3 : Nat → Int → List Bool → Int → Int → Int → Bool → List (List Int) → List (List Int) → Option (List Bool)
 | 0, _, _, _, _, _, _, _, _ => none
 | k + 1, x2, x7, x8, x9, x10, x47, x307000, x307001 => if x47 = true then (if 0 ≤ x9 then (if x9 < (x307000.length : Int) then (if 0 ≤ x10 then (if x10 < ((rd_L1 x307000 x9).length : Int) then (if (rd (rd_L1 x307000 x9) x10) = x2 then (lockstepref06_Reach.l2 k x2 x7 x8 x9 (wrap64 (x10 + 1)) x307000 x307001) else (if 0 ≤ (rd (rd_L1 x307000 x9) x10) then (if (rd (rd_L1 x307000 x9) x10) < (x7.length : Int) then (lockstepref06_Reach.l2 k x2 (x7.set ((rd (rd_L1 x307000 x9) x10) : Int).toNat true) x8 x9 (wrap64 (x10 + 1)) x307000 x307001) else (none)) else (none))) else (none)) else (none)) else (none)) else (none)) else (lockstepref06_Reach.l1 k x2 x7 x8 (wrap64 (x9 + 1)) x307000 x307001)
end
def lockstepref06_Reach.f (k : Nat) (l0_0 : List (List Int)) (l0_1 : List (List Int)) (a1 : Int) (a2 : Int) : Option (List Bool) := if 0 ≤ (l0_0.length : Int) then (if ((l0_0.length : Int) : Int).toNat ≤ 281474976710656 then ((some (List.replicate ((l0_0.length : Int) : Int).toNat false : List Bool)).bind fun y307 => (if a1 = a2 then (some y307) else (if 0 ≤ a1 then (if a1 < (y307.length : Int) then (lockstepref06_Reach.l0 k a2 (y307.set (a1 : Int).toNat true) 0 l0_0 l0_1) else (none)) else (none)))) else (none)) else (none)
theorem lockstepref06_Reach.mono_l : ∀ k, (∀ y0 y1 y2 y3 y4, LeO (lockstepref06_Reach.l0 k y0 y1 y2 y3 y4) (lockstepref06_Reach.l0 (k + 1) y0 y1 y2 y3 y4)) ∧ (∀ y0 y1 y2 y3 y4 y5, LeO (lockstepref06_Reach.l1 k y0 y1 y2 y3 y4 y5) (lockstepref06_Reach.l1 (k + 1) y0 y1 y2 y3 y4 y5)) ∧ (∀ y0 y1 y2 y3 y4 y5 y6, LeO (lockstepref06_Reach.l2 k y0 y1 y2 y3 y4 y5 y6) (lockstepref06_Reach.l2 (k + 1) y0 y1 y2 y3 y4 y5 y6)) ∧ (∀ y0 y1 y2 y3 y4 y5 y6 y7, LeO (lockstepref06_Reach.j3 k y0 y1 y2 y3 y4 y5 y6 y7) (lockstepref06_Reach.j3 (k + 1) y0 y1 y2 y3 y4 y5 y6 y7))
 | 0 => ⟨fun _ _ _ _ _ r h => by simp [lockstepref06_Reach.l0] at h, fun _ _ _ _ _ _ r h => by simp [lockstepref06_Reach.l1] at h, fun _ _ _ _ _ _ _ r h => by simp [lockstepref06_Reach.l2] at h, fun _ _ _ _ _ _ _ _ r h => by simp [lockstepref06_Reach.j3] at h⟩
 | k + 1 => by
  obtain ⟨ih0, ih1, ih2, ih3⟩ := lockstepref06_Reach.mono_l k
  refine ⟨?_, ?_, ?_, ?_⟩
  ·intro y0 y1 y2 y3 y4
   unfold lockstepref06_Reach.l0
   repeat' first
   | (with_reducible exact ih0 _ _ _ _ _)
   | (with_reducible exact ih1 _ _ _ _ _ _)
   | (with_reducible exact ih2 _ _ _ _ _ _ _)
   | (with_reducible exact ih3 _ _ _ _ _ _ _ _)
   | (with_reducible exact LeO.refl _)
   | (with_reducible exact LeO.none _)
   | (with_reducible refine LeO.ite ?_ ?_)
   | (with_reducible refine LeO.bind ?_ (fun _ => ?_))
   | exact ih0 _ _ _ _ _
   | exact ih1 _ _ _ _ _ _
   | exact ih2 _ _ _ _ _ _ _
   | exact ih3 _ _ _ _ _ _ _ _
   | exact LeO.none _
   | refine LeO.ite ?_ ?_
   | refine LeO.bind ?_ (fun _ => ?_)
  ·intro y0 y1 y2 y3 y4 y5
   unfold lockstepref06_Reach.l1
   repeat' first
   | (with_reducible exact ih0 _ _ _ _ _)
   | (with_reducible exact ih1 _ _ _ _ _ _)
   | (with_reducible exact ih2 _ _ _ _ _ _ _)
   | (with_reducible exact ih3 _ _ _ _ _ _ _ _)
   | (with_reducible exact LeO.refl _)
   | (with_reducible exact LeO.none _)
   | (with_reducible refine LeO.ite ?_ ?_)
   | (with_reducible refine LeO.bind ?_ (fun _ => ?_))
   | exact ih0 _ _ _ _ _
   | exact ih1 _ _ _ _ _ _
   | exact ih2 _ _ _ _ _ _ _
   | exact ih3 _ _ _ _ _ _ _ _
   | exact LeO.none _
   | refine LeO.ite ?_ ?_
   | refine LeO.bind ?_ (fun _ => ?_)
  ·intro y0 y1 y2 y3 y4 y5 y6
   unfold lockstepref06_Reach.l2
   repeat' first
   | (with_reducible exact ih0 _ _ _ _ _)
   | (with_reducible exact ih1 _ _ _ _ _ _)
   | (with_reducible exact ih2 _ _ _ _ _ _ _)
   | (with_reducible exact ih3 _ _ _ _ _ _ _ _)
   | (with_reducible exact LeO.refl _)
   | (with_reducible exact LeO.none _)
   | (with_reducible refine LeO.ite ?_ ?_)
   | (with_reducible refine LeO.bind ?_ (fun _ => ?_))
   | exact ih0 _ _ _ _ _
   | exact ih1 _ _ _ _ _ _
   | exact ih2 _ _ _ _ _ _ _
   | exact ih3 _ _ _ _ _ _ _ _
   | exact LeO.none _
   | refine LeO.ite ?_ ?_
   | refine LeO.bind ?_ (fun _ => ?_)
  ·intro y0 y1 y2 y3 y4 y5 y6 y7
   unfold lockstepref06_Reach.j3
   repeat' first
   | (with_reducible exact ih0 _ _ _ _ _)
   | (with_reducible exact ih1 _ _ _ _ _ _)
   | (with_reducible exact ih2 _ _ _ _ _ _ _)
   | (with_reducible exact ih3 _ _ _ _ _ _ _ _)
   | (with_reducible exact LeO.refl _)
   | (with_reducible exact LeO.none _)
   | (with_reducible refine LeO.ite ?_ ?_)
   | (with_reducible refine LeO.bind ?_ (fun _ => ?_))
   | exact ih0 _ _ _ _ _
   | exact ih1 _ _ _ _ _ _
   | exact ih2 _ _ _ _ _ _ _
   | exact ih3 _ _ _ _ _ _ _ _
   | exact LeO.none _
   | refine LeO.ite ?_ ?_
   | refine LeO.bind ?_ (fun _ => ?_)
theorem lockstepref06_Reach.mono : ∀ a0 a1 a2 a3 k, LeO (lockstepref06_Reach.f k a0 a1 a2 a3) (lockstepref06_Reach.f (k + 1) a0 a1 a2 a3) := by
 intro a0 a1 a2 a3 k
 obtain ⟨ih0, ih1, ih2, ih3⟩ := lockstepref06_Reach.mono_l k
 unfold lockstepref06_Reach.f
 repeat' first
  | (with_reducible exact ih0 _ _ _ _ _)
  | (with_reducible exact ih1 _ _ _ _ _ _)
  | (with_reducible exact ih2 _ _ _ _ _ _ _)
  | (with_reducible exact ih3 _ _ _ _ _ _ _ _)
  | (with_reducible exact LeO.refl _)
  | (with_reducible exact LeO.none _)
  | (with_reducible refine LeO.ite ?_ ?_)
  | (with_reducible refine LeO.bind ?_ (fun _ => ?_))
  | exact ih0 _ _ _ _ _
  | exact ih1 _ _ _ _ _ _
  | exact ih2 _ _ _ _ _ _ _
  | exact ih3 _ _ _ _ _ _ _ _
  | exact LeO.none _
  | refine LeO.ite ?_ ?_
  | refine LeO.bind ?_ (fun _ => ?_)
set_option maxHeartbeats 8000000 in
set_option maxRecDepth 100000 in
theorem lockstepref06_Reach.calls (k : Nat) (A0_0 : Option Addr) (c0_0 : Nat) (l0_0 : List (List Int)) (A0_1 : Option Addr) (c0_1 : Nat) (l0_1 : List (List Int)) (a1 : Int) (a2 : Int) (r : List Bool) (w : World) (hr0_0 : Kd.C (Kd.slice 3 (Kd.int .i64)) w A0_0 l0_0.length l0_0) (hc0_0 : l0_0.length ≤ c0_0) (hr0_1 : Kd.C (Kd.slice 3 (Kd.int .i64)) w A0_1 l0_1.length l0_1) (hc0_1 : l0_1.length ≤ c0_1) (h : lockstepref06_Reach.f k l0_0 l0_1 a1 a2 = some r) :
 Calls Try.prog 22 #[.agg #[.slice A0_0 l0_0.length c0_0, .slice A0_1 l0_1.length c0_1], .int .i64 a1, .int .i64 a2] w fun e w' => ∃ v0_ : Value, e = .returned (v0_) ∧ Kd.R Kd.bool 4 w' w.heap.size (fun _ => True) v0_ r ∧ Below w.heap.size w w' := by
 have hu26 := Try.underlying26
 have HR0_0 := Aside0.mk hr0_0
 have HC0_0 := Aside0.mk hc0_0
 clear hr0_0 hc0_0
 have HR0_1 := Aside0.mk hr0_1
 have HC0_1 := Aside0.mk hc0_1
 clear hr0_1 hc0_1
 have HB := Aside0.mk (Below.refl w.heap.size w)
 have H : (if 0 ≤ (l0_0.length : Int) then (if ((l0_0.length : Int) : Int).toNat ≤ 281474976710656 then ((some (List.replicate ((l0_0.length : Int) : Int).toNat false : List Bool)).bind fun y307 => (if a1 = a2 then (some y307) else (if 0 ≤ a1 then (if a1 < (y307.length : Int) then (lockstepref06_Reach.l0 k a2 (y307.set (a1 : Int).toNat true) 0 l0_0 l0_1) else (none)) else (none)))) else (none)) else (none)) = some r := h
 clear h
 by_cases c4 : 0 ≤ (l0_0.length : Int)
 ·rw [if_pos c4] at H
  have c4b0 := eq_true c4
  have c4b1 : decide (0 ≤ (l0_0.length : Int)) = true := decide_eq_true c4
  clear c4
  by_cases c5 : ((l0_0.length : Int) : Int).toNat ≤ 281474976710656
  ·rw [if_pos c5] at H
   have c5b0 := eq_true c5
   have c5b1 : decide (((l0_0.length : Int) : Int).toNat ≤ 281474976710656) = true := decide_eq_true c5
   clear c5
   obtain ⟨y307, hy307⟩ : ∃ y_ : List Bool, y_ = (List.replicate ((l0_0.length : Int) : Int).toNat false) := ⟨_, rfl⟩
   replace H : (if a1 = a2 then (some y307) else (if 0 ≤ a1 then (if a1 < (y307.length : Int) then (lockstepref06_Reach.l0 k a2 (y307.set (a1 : Int).toNat true) 0 l0_0 l0_1) else (none)) else (none))) = some r := by first | (rw [hy307]; with_reducible exact H) | (have H2_ := (Option.bind_some _ _).symm.trans H; rw [hy307]; with_reducible exact H2_) | (have H2_ := (Option.bind_some _ _).symm.trans H; with_reducible exact H2_) | with_reducible exact H | (rw [hy307]; exact H) | exact H
   have Ny307 := Aside0.mk hy307
   clear hy307
   by_cases c6 : a1 = a2
   ·rw [if_pos c6] at H
    have c6b0 : (a1 == a2) = true := beq_iff_eq.mpr c6
    have c6b1 : (a1 != a2) = false := bne_eq_false_iff_eq.mpr c6
    clear c6
    obtain rfl := Option.some.inj H
    go_enter Try.func22, Try.ntmps22
    go_wp2_with (first | ((with_reducible refine gate_dst (N := 3) rfl ?_); (try (refine gate_guard (by rfl) ?_; dsimp only)); refine box_event ?hg (N := 3) ?hd (cs := #[.slice A0_0 l0_0.length c0_0, .slice A0_1 l0_1.length c0_1]) (t := 26) ?hr ?_; (case hd => rfl); (case hg => rfl); (case hr => first | (go_simp; done) | (go_simp; rfl)); intro gb306 hg w7 hbox hb; have n0_ := Aside0.mk (below_step (B_) hb); have n1_ := Aside0.mk (hbox); have n2_ := Aside0.mk ((by rw [hg]; exact (below_size (B_)) : w.heap.size ≤ gb306)); have n3_ := Aside0.mk ((by rw [hg]; exact (below_size (B_)) : w.heap.size ≤ gb306)); clear HB; have HB := n0_; have BK306 := n1_; have GW306 := n2_; have GE306 := n3_; clear n0_ n1_ n2_ n3_; clear hb hbox hg; have hcz8_0 : w7.cell? ⟨gb306, 0, none⟩ = some (.slice A0_0 l0_0.length c0_0) := (blk_cell BK306.out 0).trans rfl; have hcz8_1 : w7.cell? ⟨gb306, 1, none⟩ = some (.slice A0_1 l0_1.length c0_1) := (blk_cell BK306.out 1).trans rfl; have hfz8_0 := blk_frozen BK306.out 0; have hfz8_1 := blk_frozen BK306.out 1) | ((with_reducible refine gate_dst (N := 14) rfl ?_); (try (refine gate_guard (by rfl) ?_; dsimp only)); refine Kd.R_make Kd.bool _ 4 rfl (N := 14) rfl 39 _ _ rfl (l0_0.length : Int) rfl rfl Try.underlying39 (.bool false) 1 info4 rfl (by decide) (by omega) false (ok := fun _ => True) (okp := fun _ => True) rfl (fun _ hk => hk) trivial (D_) (Nat.le_trans (Nat.mul_le_mul_right _ (D_ : (l0_0.length : Int).toNat ≤ 281474976710656)) (by omega)) (Below.refl _ _) (Nat.le_refl _) ?_; intro v308 w9 ho10 hb hg_ hnew_; clear hg_ hnew_; (first | rw [← Ny307.out] at ho10 | (simp only [Int.reduceToNat] at ho10; rw [← Ny307.out] at ho10)); have n0_ := Aside0.mk (Kd.R_lower ho10 (below_size (B1_))); have n1_ := Aside0.mk (blk_below (g := gb306) (o := .cells #[.slice A0_0 l0_0.length c0_0, .slice A0_1 l0_1.length c0_1] 26 (0, 0)) (by exact KX_ BK306.out) hb); have n2_ := Aside0.mk (below_step (B1_) hb); clear BK306; clear HB; have HO309 := n0_; have BK306 := n1_; have HB := n2_; clear n0_ n1_ n2_; clear hb ho10))
    go_ret
    exact ⟨_, by first | rfl | (simp [errW_none, errW_some] <;> rfl) | (simp [*, errW_none, errW_some] <;> rfl), by exact RX_ HO309.out, B1_⟩
   rw [if_neg c6] at H
   have c6b0 : (a1 == a2) = false := beq_eq_false_iff_ne.mpr c6
   have c6b1 : (a1 != a2) = true := bne_iff_ne.mpr c6
   by_cases c11 : 0 ≤ a1
   ·rw [if_pos c11] at H
    have c11b0 : decide (0 ≤ a1) = true := decide_eq_true c11
    clear c11
    by_cases c12 : a1 < (y307.length : Int)
    ·rw [if_pos c12] at H
     have c12b0 : decide (a1 < (y307.length : Int)) = true := decide_eq_true c12
     clear c12
     obtain ⟨y310, hy310⟩ : ∃ y_ : List Bool, y_ = (y307.set (a1 : Int).toNat true) := ⟨_, rfl⟩
     replace H : (lockstepref06_Reach.l0 k a2 y310 0 l0_0 l0_1) = some r := by first | (rw [hy310]; with_reducible exact H) | (have H2_ := (Option.bind_some _ _).symm.trans H; rw [hy310]; with_reducible exact H2_) | (have H2_ := (Option.bind_some _ _).symm.trans H; with_reducible exact H2_) | with_reducible exact H | (rw [hy310]; exact H) | exact H
     have Ny310 := Aside0.mk hy310
     clear hy310
     have H' := Aside0.mk H
     clear H
     go_enter Try.func22, Try.ntmps22
     go_wp2_with (first | ((with_reducible refine gate_dst (N := 3) rfl ?_); (try (refine gate_guard (by rfl) ?_; dsimp only)); refine box_event ?hg (N := 3) ?hd (cs := #[.slice A0_0 l0_0.length c0_0, .slice A0_1 l0_1.length c0_1]) (t := 26) ?hr ?_; (case hd => rfl); (case hg => rfl); (case hr => first | (go_simp; done) | (go_simp; rfl)); intro gb306 hg w14 hbox hb; have n0_ := Aside0.mk (below_step (B_) hb); have n1_ := Aside0.mk (hbox); have n2_ := Aside0.mk ((by rw [hg]; exact (below_size (B_)) : w.heap.size ≤ gb306)); have n3_ := Aside0.mk ((by rw [hg]; exact (below_size (B_)) : w.heap.size ≤ gb306)); clear HB; have HB := n0_; have BK306 := n1_; have GW306 := n2_; have GE306 := n3_; clear n0_ n1_ n2_ n3_; clear hb hbox hg; have hcz15_0 : w14.cell? ⟨gb306, 0, none⟩ = some (.slice A0_0 l0_0.length c0_0) := (blk_cell BK306.out 0).trans rfl; have hcz15_1 : w14.cell? ⟨gb306, 1, none⟩ = some (.slice A0_1 l0_1.length c0_1) := (blk_cell BK306.out 1).trans rfl; have hfz15_0 := blk_frozen BK306.out 0; have hfz15_1 := blk_frozen BK306.out 1) | ((with_reducible refine gate_dst (N := 14) rfl ?_); (try (refine gate_guard (by rfl) ?_; dsimp only)); refine Kd.R_make Kd.bool _ 4 rfl (N := 14) rfl 39 _ _ rfl (l0_0.length : Int) rfl rfl Try.underlying39 (.bool false) 1 info4 rfl (by decide) (by omega) false (ok := fun _ => True) (okp := fun _ => True) rfl (fun _ hk => hk) trivial (D_) (Nat.le_trans (Nat.mul_le_mul_right _ (D_ : (l0_0.length : Int).toNat ≤ 281474976710656)) (by omega)) (Below.refl _ _) (Nat.le_refl _) ?_; intro v308 w16 ho17 hb hg_ hnew_; clear hg_ hnew_; (first | rw [← Ny307.out] at ho17 | (simp only [Int.reduceToNat] at ho17; rw [← Ny307.out] at ho17)); have n0_ := Aside0.mk (Kd.R_lower ho17 (below_size (B1_))); have n1_ := Aside0.mk (blk_below (g := gb306) (o := .cells #[.slice A0_0 l0_0.length c0_0, .slice A0_1 l0_1.length c0_1] 26 (0, 0)) (by exact KX_ BK306.out) hb); have n2_ := Aside0.mk (below_step (B1_) hb); clear BK306; clear HB; have HO309 := n0_; have BK306 := n1_; have HB := n2_; clear n0_ n1_ n2_; clear hb ho17; have p13 : 0 ≤ (a1 : Int) := D_; have q13 : (a1 : Int) < ((y307.length : Int) : Int) := D_; obtain ⟨go13, co13, eo13, gb13, gl13, cl13, HG13⟩ := Kd.R_form HO309.out (by omega); (first | cases eo13 | (injection eo13 with ea_ en_ ec_; (first | subst ea_ | (injection ea_ with ea_; subst ea_)); subst ec_; clear en_)); have GB13 := Aside0.mk gb13; have GG13 := Aside0.mk HG13; clear gb13 gl13 HG13; obtain ⟨hx13_0, hf13_0⟩ := Kd.R_celln false HO309.out (a1 : Int) p13 q13; replace p13 := eq_true p13; replace q13 := eq_true q13; obtain ⟨hy18_, hz18_⟩ := Kd.R_celln false HO309.out (a1 : Int) (D_) (D_); have HP18 := Kd.R_putg HO309.out (a1 : Int) true) | ((with_reducible refine gate_store (t := 4) (p := 21) rfl ?_); refine store_event (t := 4) (p := 21) (v := ?vo_w19) (w1 := (w16.setCell ⟨go13, (a1 : Int).toNat, none⟩ (.bool true))) ?hg ?ho ?hn ?hr ?_; (case ho => rfl); (case hg => rfl); (case hn => rfl); (case hr => first | (go_simp; done) | (go_simp; rfl)); intro w19 hw; have hg : w16.grownBy w19 (some go13) := (by rw [hw]; exact HP18.2); have hp_ : Kd.R Kd.bool 4 w19 w.heap.size (fun _ => True) (.slice (some ⟨go13, 0, none⟩) y307.length co13) y310 := (by rw [hw, Ny310.out]; exact HP18.1); clear HP18; have n0_ := Aside0.mk (blk_grown (g := gb306) (o := .cells #[.slice A0_0 l0_0.length c0_0, .slice A0_1 l0_1.length c0_1] 26 (0, 0)) (by exact KX_ BK306.out) hg (Kd.R_ne HO309.out BK306.out (by decide))); have n1_ := Aside0.mk (hp_); have n2_ := Aside0.mk ((by rw [hw]; exact below_set (HB.out) GB13.out : Below w.heap.size w w19)); clear BK306; clear HO309; clear HB; have BK306 := n0_; have HO309 := n1_; have HB := n2_; clear n0_ n1_ n2_; clear hg hw hp_))
     go_loopg [8] k (fun kq v8 w' => ∃ (x7_1 : List Bool) (x8_1 : Int), v8 = .int .i64 x8_1 ∧ Aside0 (lockstepref06_Reach.l0 kq a2 x7_1 x8_1 l0_0 l0_1 = some r) ∧ Aside0 (kq ≤ k) ∧ Aside0 (Kd.R Kd.bool 4 w' w.heap.size (fun _ => True) (.slice (some ⟨go13, 0, none⟩) y307.length co13) x7_1) ∧ Aside0 (w'.heap[gb306]? = some (.cells #[(.slice A0_0 l0_0.length c0_0), (.slice A0_1 l0_1.length c0_1)] 26 (0, 0))) ∧ Aside0 (Below w.heap.size w w'))
     case atStart => exact ⟨(y310), (0), (by first | rfl | (simp; done) | (simp [*]; done)), H', ⟨Nat.le_refl _⟩, ⟨by exact RM_ HO309.out⟩, ⟨by exact KX_ BK306.out⟩, ⟨B1_⟩⟩
     case round =>
      clear H'
      try clear c4b0
      try clear c4b1
      try clear c5b0
      try clear c5b1
      try clear c6
      try clear c6b0
      try clear c6b1
      try clear c11b0
      try clear c12b0
      try clear p13
      try clear q13
      try clear hcz15_0
      try clear hcz15_1
      try clear hfz15_0
      try clear hfz15_1
      try clear hx13_0
      try clear p13
      try clear q13
      obtain ⟨x7_1, x8_1, rfl, HA, HK1, HO_7, BK306, HB⟩ := hrel
      have hl7_1 := (Kd.R_reads' HO_7.out).1
      rw [hl7_1] at HO_7
      (try simp only [hl7_1])
      (try simp only [hl7_1] at BK306)
      cases gk with
      | zero => exact absurd HA.out (by simp [lockstepref06_Reach.l0])
      | succ k1 =>
       have H := HA.out
       clear HA
       simp only [lockstepref06_Reach.l0] at H
       by_cases c20 : x8_1 < (x7_1.length : Int)
       ·rw [if_pos c20] at H
        have c20b0 : decide (x8_1 < (x7_1.length : Int)) = true := decide_eq_true c20
        clear c20
        have H' := Aside0.mk H
        clear H
        go_wp2
        go_loopg [9] k1 (fun kq v9 w' => ∃ (x7_2 : List Bool) (x9_2 : Int), v9 = .int .i64 x9_2 ∧ Aside0 (lockstepref06_Reach.l1 kq a2 x7_2 x8_1 x9_2 l0_0 l0_1 = some r) ∧ Aside0 (kq ≤ k1) ∧ Aside0 (Kd.R Kd.bool 4 w' w.heap.size (fun _ => True) (.slice (some ⟨go13, 0, none⟩) x7_1.length co13) x7_2) ∧ Aside0 (w'.heap[gb306]? = some (.cells #[(.slice A0_0 l0_0.length c0_0), (.slice A0_1 l0_1.length c0_1)] 26 (0, 0))) ∧ Aside0 (Below w.heap.size w w'))
        case atStart => exact ⟨(x7_1), (0), (by first | rfl | (simp; done) | (simp [*]; done)), H', ⟨Nat.le_refl _⟩, ⟨by (try simp only [hl7_1]); exact RM_ HO_7.out⟩, ⟨by (try simp only [hl7_1]); exact KX_ BK306.out⟩, ⟨B1_⟩⟩
        case round =>
         clear H'
         try clear c20b0
         obtain ⟨x7_2, x9_2, rfl, HA, HK2, HO_7, BK306, HB⟩ := hrel
         have hl7_2 := (Kd.R_reads' HO_7.out).1
         rw [hl7_2] at HO_7
         (try simp only [hl7_2])
         (try simp only [hl7_2] at BK306)
         cases gk with
         | zero => exact absurd HA.out (by simp [lockstepref06_Reach.l1])
         | succ k2 =>
          have H := HA.out
          clear HA
          simp only [lockstepref06_Reach.l1] at H
          by_cases c21 : x9_2 < (x7_2.length : Int)
          ·rw [if_pos c21] at H
           have c21b0 : decide (x9_2 < (x7_2.length : Int)) = true := decide_eq_true c21
           clear c21
           have H' := Aside0.mk H
           clear H
           go_wp2
           go_loopg [10] k2 (fun kq v10 w' => ∃ (x7_3 : List Bool) (x10_3 : Int), v10 = .int .i64 x10_3 ∧ Aside0 (lockstepref06_Reach.l2 kq a2 x7_3 x8_1 x9_2 x10_3 l0_0 l0_1 = some r) ∧ Aside0 (kq ≤ k2) ∧ Aside0 (Kd.R Kd.bool 4 w' w.heap.size (fun _ => True) (.slice (some ⟨go13, 0, none⟩) x7_2.length co13) x7_3) ∧ Aside0 (w'.heap[gb306]? = some (.cells #[(.slice A0_0 l0_0.length c0_0), (.slice A0_1 l0_1.length c0_1)] 26 (0, 0))) ∧ Aside0 (Below w.heap.size w w'))
           case atStart => exact ⟨(x7_2), (0), (by first | rfl | (simp; done) | (simp [*]; done)), H', ⟨Nat.le_refl _⟩, ⟨by (try simp only [hl7_1]); (try simp only [hl7_2]); exact RM_ HO_7.out⟩, ⟨by (try simp only [hl7_1]); (try simp only [hl7_2]); exact KX_ BK306.out⟩, ⟨B1_⟩⟩
           case round =>
            clear H'
            try clear c21b0
            obtain ⟨x7_3, x10_3, rfl, HA, HK3, HO_7, BK306, HB⟩ := hrel
            have hl7_3 := (Kd.R_reads' HO_7.out).1
            rw [hl7_3] at HO_7
            (try simp only [hl7_3])
            (try simp only [hl7_3] at BK306)
            cases gk with
            | zero => exact absurd HA.out (by simp [lockstepref06_Reach.l2])
            | succ k3 =>
             have H := HA.out
             clear HA
             simp only [lockstepref06_Reach.l2] at H
             have HC22 := Aside0.mk H
             clear H
             go_upto_region 12 with (fail)
             go_cut [47] (fun v47 wc => ∃ (kq : Nat) (x47_21 : Bool), v47 = .bool x47_21 ∧ Aside0 (lockstepref06_Reach.j3 kq a2 x7_3 x8_1 x9_2 x10_3 x47_21 l0_0 l0_1 = some r) ∧ Aside0 (kq ≤ k3) ∧ Aside0 (Kd.R Kd.bool 4 wc w.heap.size (fun _ => True) (.slice (some ⟨go13, 0, none⟩) x7_3.length co13) x7_3) ∧ Aside0 (wc.heap[gb306]? = some (.cells #[(.slice A0_0 l0_0.length c0_0), (.slice A0_1 l0_1.length c0_1)] 26 (0, 0))) ∧ Aside0 (Below w.heap.size w wc))
             case first =>
              have H := HC22.out
              clear HC22
              by_cases c23 : 0 ≤ x9_2
              ·rw [if_pos c23] at H
               have c23b0 : decide (0 ≤ x9_2) = true := decide_eq_true c23
               clear c23
               (first | rw [c23b0] | (simp only [i64_w, i32_w]; rw [c23b0]) | skip)
               by_cases c24 : x9_2 < (x7_3.length : Int)
               ·rw [if_pos c24] at H
                have c24b0 : decide (x9_2 < (x7_3.length : Int)) = true := decide_eq_true c24
                clear c24
                obtain ⟨bq25, hbq25⟩ : ∃ b_ : Bool, b_ = (rdOf false x7_3 x9_2) := ⟨_, rfl⟩
                replace H : (if bq25 = true then (if x9_2 < (l0_0.length : Int) then (lockstepref06_Reach.j3 k3 a2 x7_3 x8_1 x9_2 x10_3 (decide (x10_3 < ((rd_L1 l0_0 x9_2).length : Int))) l0_0 l0_1) else (none)) else (lockstepref06_Reach.j3 k3 a2 x7_3 x8_1 x9_2 x10_3 false l0_0 l0_1)) = some r := by rw [← hbq25] at H; exact H
                have Nbq25 := Aside0.mk hbq25
                clear hbq25
                by_cases c26 : bq25 = true
                ·subst c26
                 have H1 : (if x9_2 < (l0_0.length : Int) then (lockstepref06_Reach.j3 k3 a2 x7_3 x8_1 x9_2 x10_3 (decide (x10_3 < ((rd_L1 l0_0 x9_2).length : Int))) l0_0 l0_1) else (none)) = some r := by rw [if_pos rfl] at H; exact H
                 clear H
                 have H := H1
                 clear H1
                 by_cases c27 : x9_2 < (l0_0.length : Int)
                 ·rw [if_pos c27] at H
                  have c27b0 : decide (x9_2 < (l0_0.length : Int)) = true := decide_eq_true c27
                  clear c27
                  have H' := Aside0.mk H
                  clear H
                  have p311 : 0 ≤ (x9_2 : Int) := D_
                  have q311 : x9_2 < (x7_3.length : Int) := D_
                  obtain ⟨ad311, e311, hx311_0⟩ := Kd.at_bool (Kd.R_reads' HO_7.out).2.2 x9_2 p311 q311
                  (try rw [← Nbq25.out] at hx311_0)
                  obtain rfl : (⟨go13, 0, none⟩ : Addr) = ad311 := (by injection e311)
                  (first | simp only [add_plain] at hx311_0 | simp only [add_at] at hx311_0 | simp only [Addr.add, Nat.zero_add] at hx311_0 | skip)
                  replace p311 := eq_true p311
                  replace q311 := eq_true q311
                  have hcz28_0 : wr.cell? ⟨gb306, 0, none⟩ = some (.slice A0_0 l0_0.length c0_0) := (blk_cell BK306.out 0).trans rfl
                  have hcz28_1 : wr.cell? ⟨gb306, 1, none⟩ = some (.slice A0_1 l0_1.length c0_1) := (blk_cell BK306.out 1).trans rfl
                  have hfz28_0 := blk_frozen BK306.out 0
                  have hfz28_1 := blk_frozen BK306.out 1
                  have p312 : 0 ≤ (x9_2 : Int) := D_
                  have q312 : x9_2 < (l0_0.length : Int) := D_
                  obtain ⟨ad312, A312_0, c312_0, e312, hx312_0, hl312_0, hi312_0⟩ := at_L1 HR0_0.out x9_2 p312 q312
                  cases e312
                  replace hx312_0 := (HB.out.cell (World.block_lt_of_cell? w _ hx312_0)).trans hx312_0
                  have HR312_0 := Aside0.mk hi312_0
                  have HC312_0 := Aside0.mk hl312_0
                  clear hi312_0 hl312_0
                  replace p312 := eq_true p312
                  replace q312 := eq_true q312
                  go_wp2
                  go_meet
                  case rel => exact ⟨_, (decide (x10_3 < ((rd_L1 l0_0 x9_2).length : Int))), (by first | rfl | (simp; done) | (simp [*]; done)), H', ⟨by have := HK1.out; have := HK2.out; have := HK3.out; first | omega | exact Nat.le_refl _⟩, ⟨by (try simp only [hl7_1]); (try simp only [hl7_2]); (try simp only [hl7_3]); exact RM_ HO_7.out⟩, ⟨by (try simp only [hl7_1]); (try simp only [hl7_2]); (try simp only [hl7_3]); exact KX_ BK306.out⟩, ⟨B1_⟩⟩
                 rw [if_neg c27] at H
                 exact absurd H (by simp)
                replace c26 := Bool.eq_false_iff.mpr c26
                subst c26
                have H1 : (lockstepref06_Reach.j3 k3 a2 x7_3 x8_1 x9_2 x10_3 false l0_0 l0_1) = some r := by rw [if_neg (show ¬ (false = true) by decide)] at H; exact H
                clear H
                have H := H1
                clear H1
                have H' := Aside0.mk H
                clear H
                have p311 : 0 ≤ (x9_2 : Int) := D_
                have q311 : x9_2 < (x7_3.length : Int) := D_
                obtain ⟨ad311, e311, hx311_0⟩ := Kd.at_bool (Kd.R_reads' HO_7.out).2.2 x9_2 p311 q311
                (try rw [← Nbq25.out] at hx311_0)
                obtain rfl : (⟨go13, 0, none⟩ : Addr) = ad311 := (by injection e311)
                (first | simp only [add_plain] at hx311_0 | simp only [add_at] at hx311_0 | simp only [Addr.add, Nat.zero_add] at hx311_0 | skip)
                replace p311 := eq_true p311
                replace q311 := eq_true q311
                go_wp2
                go_meet
                case rel => exact ⟨_, (false), (by first | rfl | (simp; done) | (simp [*]; done)), H', ⟨by have := HK1.out; have := HK2.out; have := HK3.out; first | omega | exact Nat.le_refl _⟩, ⟨by (try simp only [hl7_1]); (try simp only [hl7_2]); (try simp only [hl7_3]); exact RM_ HO_7.out⟩, ⟨by (try simp only [hl7_1]); (try simp only [hl7_2]); (try simp only [hl7_3]); exact KX_ BK306.out⟩, ⟨B1_⟩⟩
               rw [if_neg c24] at H
               exact absurd H (by simp)
              rw [if_neg c23] at H
              exact absurd H (by simp)
             case rest =>
              clear HC22
              obtain ⟨kq, x47_21, rfl, HA, HJ21, HO_7, BK306, HB⟩ := hcut
              cases kq with
              | zero => exact absurd HA.out (by simp [lockstepref06_Reach.j3])
              | succ kj21 =>
               have H := HA.out
               clear HA
               simp only [lockstepref06_Reach.j3] at H
               by_cases c29 : x47_21 = true
               ·subst c29
                have H1 : (if 0 ≤ x9_2 then (if x9_2 < (l0_0.length : Int) then (if 0 ≤ x10_3 then (if x10_3 < ((rd_L1 l0_0 x9_2).length : Int) then (if (rd (rd_L1 l0_0 x9_2) x10_3) = a2 then (lockstepref06_Reach.l2 kj21 a2 x7_3 x8_1 x9_2 (wrap64 (x10_3 + 1)) l0_0 l0_1) else (if 0 ≤ (rd (rd_L1 l0_0 x9_2) x10_3) then (if (rd (rd_L1 l0_0 x9_2) x10_3) < (x7_3.length : Int) then (lockstepref06_Reach.l2 kj21 a2 (x7_3.set ((rd (rd_L1 l0_0 x9_2) x10_3) : Int).toNat true) x8_1 x9_2 (wrap64 (x10_3 + 1)) l0_0 l0_1) else (none)) else (none))) else (none)) else (none)) else (none)) else (none)) = some r := by rw [if_pos rfl] at H; exact H
                clear H
                have H := H1
                clear H1
                by_cases c30 : 0 ≤ x9_2
                ·rw [if_pos c30] at H
                 have c30b0 : decide (0 ≤ x9_2) = true := decide_eq_true c30
                 clear c30
                 by_cases c31 : x9_2 < (l0_0.length : Int)
                 ·rw [if_pos c31] at H
                  have c31b0 : decide (x9_2 < (l0_0.length : Int)) = true := decide_eq_true c31
                  clear c31
                  by_cases c32 : 0 ≤ x10_3
                  ·rw [if_pos c32] at H
                   have c32b0 : decide (0 ≤ x10_3) = true := decide_eq_true c32
                   clear c32
                   by_cases c33 : x10_3 < ((rd_L1 l0_0 x9_2).length : Int)
                   ·rw [if_pos c33] at H
                    have c33b0 : decide (x10_3 < ((rd_L1 l0_0 x9_2).length : Int)) = true := decide_eq_true c33
                    clear c33
                    by_cases c34 : (rd (rd_L1 l0_0 x9_2) x10_3) = a2
                    ·rw [if_pos c34] at H
                     have c34b0 : ((rd (rd_L1 l0_0 x9_2) x10_3) == a2) = true := beq_iff_eq.mpr c34
                     have c34b1 : ((rd (rd_L1 l0_0 x9_2) x10_3) != a2) = false := bne_eq_false_iff_eq.mpr c34
                     clear c34
                     have H' := Aside0.mk H
                     clear H
                     have hcz35_0 : wc.cell? ⟨gb306, 0, none⟩ = some (.slice A0_0 l0_0.length c0_0) := (blk_cell BK306.out 0).trans rfl
                     have hcz35_1 : wc.cell? ⟨gb306, 1, none⟩ = some (.slice A0_1 l0_1.length c0_1) := (blk_cell BK306.out 1).trans rfl
                     have hfz35_0 := blk_frozen BK306.out 0
                     have hfz35_1 := blk_frozen BK306.out 1
                     have p313 : 0 ≤ (x9_2 : Int) := D_
                     have q313 : x9_2 < (l0_0.length : Int) := D_
                     obtain ⟨ad313, A313_0, c313_0, e313, hx313_0, hl313_0, hi313_0⟩ := at_L1 HR0_0.out x9_2 p313 q313
                     cases e313
                     replace hx313_0 := (HB.out.cell (World.block_lt_of_cell? w _ hx313_0)).trans hx313_0
                     have HR313_0 := Aside0.mk hi313_0
                     have HC313_0 := Aside0.mk hl313_0
                     clear hi313_0 hl313_0
                     replace p313 := eq_true p313
                     replace q313 := eq_true q313
                     have p314 : 0 ≤ (x10_3 : Int) := D_
                     have q314 : x10_3 < ((rd_L1 l0_0 x9_2).length : Int) := D_
                     obtain ⟨ad314, e314, hx314_0⟩ := Kd.at_int HR313_0.out x10_3 p314 q314
                     cases e314
                     replace hx314_0 := (HB.out.cell (World.block_lt_of_cell? w _ hx314_0)).trans hx314_0
                     replace p314 := eq_true p314
                     replace q314 := eq_true q314
                     go_wp2
                     (try simp only [← hl7_3])
                     go_roundg kj21
                     case measure => have := HK1.out; have := HK2.out; have := HK3.out; have := HJ21.out; omega
                     case rel => exact ⟨(x7_3), (wrap64 (x10_3 + 1)), (by first | rfl | (simp; done) | (simp [*]; done)), H', ⟨by have := HK1.out; have := HK2.out; have := HK3.out; have := HJ21.out; omega⟩, ⟨by (try simp only [hl7_1]); (try simp only [hl7_2]); (try simp only [hl7_3]); exact RM_ HO_7.out⟩, ⟨by (try simp only [hl7_1]); (try simp only [hl7_2]); (try simp only [hl7_3]); exact KX_ BK306.out⟩, ⟨B1_⟩⟩
                    rw [if_neg c34] at H
                    have c34b0 : ((rd (rd_L1 l0_0 x9_2) x10_3) == a2) = false := beq_eq_false_iff_ne.mpr c34
                    have c34b1 : ((rd (rd_L1 l0_0 x9_2) x10_3) != a2) = true := bne_iff_ne.mpr c34
                    by_cases c36 : 0 ≤ (rd (rd_L1 l0_0 x9_2) x10_3)
                    ·rw [if_pos c36] at H
                     have c36b0 : decide (0 ≤ (rd (rd_L1 l0_0 x9_2) x10_3)) = true := decide_eq_true c36
                     clear c36
                     by_cases c37 : (rd (rd_L1 l0_0 x9_2) x10_3) < (x7_3.length : Int)
                     ·rw [if_pos c37] at H
                      have c37b0 : decide ((rd (rd_L1 l0_0 x9_2) x10_3) < (x7_3.length : Int)) = true := decide_eq_true c37
                      clear c37
                      obtain ⟨y317, hy317⟩ : ∃ y_ : List Bool, y_ = (x7_3.set ((rd (rd_L1 l0_0 x9_2) x10_3) : Int).toNat true) := ⟨_, rfl⟩
                      replace H : (lockstepref06_Reach.l2 kj21 a2 y317 x8_1 x9_2 (wrap64 (x10_3 + 1)) l0_0 l0_1) = some r := by first | (rw [hy317]; with_reducible exact H) | (have H2_ := (Option.bind_some _ _).symm.trans H; rw [hy317]; with_reducible exact H2_) | (have H2_ := (Option.bind_some _ _).symm.trans H; with_reducible exact H2_) | with_reducible exact H | (rw [hy317]; exact H) | exact H
                      have Ny317 := Aside0.mk hy317
                      clear hy317
                      have H' := Aside0.mk H
                      clear H
                      have hcz39_0 : wc.cell? ⟨gb306, 0, none⟩ = some (.slice A0_0 l0_0.length c0_0) := (blk_cell BK306.out 0).trans rfl
                      have hcz39_1 : wc.cell? ⟨gb306, 1, none⟩ = some (.slice A0_1 l0_1.length c0_1) := (blk_cell BK306.out 1).trans rfl
                      have hfz39_0 := blk_frozen BK306.out 0
                      have hfz39_1 := blk_frozen BK306.out 1
                      have p313 : 0 ≤ (x9_2 : Int) := D_
                      have q313 : x9_2 < (l0_0.length : Int) := D_
                      obtain ⟨ad313, A313_0, c313_0, e313, hx313_0, hl313_0, hi313_0⟩ := at_L1 HR0_0.out x9_2 p313 q313
                      cases e313
                      replace hx313_0 := (HB.out.cell (World.block_lt_of_cell? w _ hx313_0)).trans hx313_0
                      have HR313_0 := Aside0.mk hi313_0
                      have HC313_0 := Aside0.mk hl313_0
                      clear hi313_0 hl313_0
                      replace p313 := eq_true p313
                      replace q313 := eq_true q313
                      have p314 : 0 ≤ (x10_3 : Int) := D_
                      have q314 : x10_3 < ((rd_L1 l0_0 x9_2).length : Int) := D_
                      obtain ⟨ad314, e314, hx314_0⟩ := Kd.at_int HR313_0.out x10_3 p314 q314
                      cases e314
                      replace hx314_0 := (HB.out.cell (World.block_lt_of_cell? w _ hx314_0)).trans hx314_0
                      replace p314 := eq_true p314
                      replace q314 := eq_true q314
                      have p315 : 0 ≤ (x9_2 : Int) := D_
                      have q315 : x9_2 < (l0_0.length : Int) := D_
                      obtain ⟨ad315, A315_0, c315_0, e315, hx315_0, hl315_0, hi315_0⟩ := at_L1 HR0_0.out x9_2 p315 q315
                      obtain rfl : ad313 = ad315 := (by injection e315)
                      replace hx315_0 := (HB.out.cell (World.block_lt_of_cell? w _ hx315_0)).trans hx315_0
                      have HR315_0 := Aside0.mk hi315_0
                      have HC315_0 := Aside0.mk hl315_0
                      clear hi315_0 hl315_0
                      replace p315 := eq_true p315
                      replace q315 := eq_true q315
                      have ea_ := Option.some.inj (hx313_0.symm.trans hx315_0)
                      injection ea_ with ea_ en_ ec_
                      subst ea_
                      subst ec_
                      clear en_
                      have p316 : 0 ≤ (x10_3 : Int) := D_
                      have q316 : x10_3 < ((rd_L1 l0_0 x9_2).length : Int) := D_
                      obtain ⟨ad316, e316, hx316_0⟩ := Kd.at_int HR315_0.out x10_3 p316 q316
                      cases e316
                      replace hx316_0 := (HB.out.cell (World.block_lt_of_cell? w _ hx316_0)).trans hx316_0
                      replace p316 := eq_true p316
                      replace q316 := eq_true q316
                      have p38 : 0 ≤ ((rd (rd_L1 l0_0 x9_2) x10_3) : Int) := D_
                      have q38 : ((rd (rd_L1 l0_0 x9_2) x10_3) : Int) < ((x7_3.length : Int) : Int) := D_
                      obtain ⟨hx38_0, hf38_0⟩ := Kd.R_celln false HO_7.out ((rd (rd_L1 l0_0 x9_2) x10_3) : Int) p38 q38
                      replace p38 := eq_true p38
                      replace q38 := eq_true q38
                      have HP40 := Kd.R_putg HO_7.out ((rd (rd_L1 l0_0 x9_2) x10_3) : Int) true
                      go_wp2_with (first | ((with_reducible refine gate_store (t := 4) (p := 69) rfl ?_); refine store_event (t := 4) (p := 69) (v := ?vo_w41) (w1 := (wc.setCell ⟨go13, ((rd (rd_L1 l0_0 x9_2) x10_3) : Int).toNat, none⟩ (.bool true))) ?hg ?ho ?hn ?hr ?_; (case ho => rfl); (case hg => rfl); (case hn => rfl); (case hr => first | (go_simp; done) | (go_simp; rfl)); intro w41 hw; have hg : wc.grownBy w41 (some go13) := (by rw [hw]; exact HP40.2); have hp_ : Kd.R Kd.bool 4 w41 w.heap.size (fun _ => True) (.slice (some ⟨go13, 0, none⟩) x7_3.length co13) y317 := (by rw [hw, Ny317.out]; exact HP40.1); clear HP40; have n0_ := Aside0.mk (hp_); have n1_ := Aside0.mk (blk_grown (g := gb306) (o := .cells #[.slice (some ad313) l0_0.length c0_0, .slice A0_1 l0_1.length c0_1] 26 (0, 0)) (by exact KX_ BK306.out) hg (Kd.R_ne HO_7.out BK306.out (by decide))); have n2_ := Aside0.mk ((by rw [hw]; exact below_set (HB.out) GB13.out : Below w.heap.size w w41)); clear HO_7; clear BK306; clear HB; have HO_7 := n0_; have BK306 := n1_; have HB := n2_; clear n0_ n1_ n2_; clear hg hw hp_))
                      (try simp only [← hl7_3])
                      go_roundg kj21
                      case measure => have := HK1.out; have := HK2.out; have := HK3.out; have := HJ21.out; omega
                      case rel => exact ⟨(y317), (wrap64 (x10_3 + 1)), (by first | rfl | (simp; done) | (simp [*]; done)), H', ⟨by have := HK1.out; have := HK2.out; have := HK3.out; have := HJ21.out; omega⟩, ⟨by (try simp only [hl7_1]); (try simp only [hl7_2]); (try simp only [hl7_3]); exact RM_ HO_7.out⟩, ⟨by (try simp only [hl7_1]); (try simp only [hl7_2]); (try simp only [hl7_3]); exact KX_ BK306.out⟩, ⟨B1_⟩⟩
                     rw [if_neg c37] at H
                     exact absurd H (by simp)
                    rw [if_neg c36] at H
                    exact absurd H (by simp)
                   rw [if_neg c33] at H
                   exact absurd H (by simp)
                  rw [if_neg c32] at H
                  exact absurd H (by simp)
                 rw [if_neg c31] at H
                 exact absurd H (by simp)
                rw [if_neg c30] at H
                exact absurd H (by simp)
               replace c29 := Bool.eq_false_iff.mpr c29
               subst c29
               have H1 : (lockstepref06_Reach.l1 kj21 a2 x7_3 x8_1 (wrap64 (x9_2 + 1)) l0_0 l0_1) = some r := by rw [if_neg (show ¬ (false = true) by decide)] at H; exact H
               clear H
               have H := H1
               clear H1
               have H' := Aside0.mk H
               clear H
               go_wp2
               (try simp only [← hl7_2, ← hl7_3])
               go_roundg kj21
               case measure => have := HK1.out; have := HK2.out; have := HK3.out; have := HJ21.out; omega
               case rel => exact ⟨(x7_3), (wrap64 (x9_2 + 1)), (by first | rfl | (simp; done) | (simp [*]; done)), H', ⟨by have := HK1.out; have := HK2.out; have := HK3.out; have := HJ21.out; omega⟩, ⟨by (try simp only [hl7_1]); (try simp only [hl7_2]); (try simp only [hl7_3]); exact RM_ HO_7.out⟩, ⟨by (try simp only [hl7_1]); (try simp only [hl7_2]); (try simp only [hl7_3]); exact KX_ BK306.out⟩, ⟨B1_⟩⟩
          rw [if_neg c21] at H
          have c21b0 : decide (x9_2 < (x7_2.length : Int)) = false := decide_eq_false c21
          clear c21
          have H' := Aside0.mk H
          clear H
          go_wp2
          (try simp only [← hl7_1, ← hl7_2])
          go_roundg k2
          case measure => have := HK1.out; have := HK2.out; omega
          case rel => exact ⟨(x7_2), (wrap64 (x8_1 + 1)), (by first | rfl | (simp; done) | (simp [*]; done)), H', ⟨by have := HK1.out; have := HK2.out; omega⟩, ⟨by (try simp only [hl7_1]); (try simp only [hl7_2]); exact RM_ HO_7.out⟩, ⟨by (try simp only [hl7_1]); (try simp only [hl7_2]); exact KX_ BK306.out⟩, ⟨B1_⟩⟩
       rw [if_neg c20] at H
       have c20b0 : decide (x8_1 < (x7_1.length : Int)) = false := decide_eq_false c20
       clear c20
       obtain rfl := Option.some.inj H
       go_wp2
       go_ret
       exact ⟨_, by first | rfl | (simp [errW_none, errW_some] <;> rfl) | (simp [*, errW_none, errW_some] <;> rfl), by exact RX_ HO_7.out, B1_⟩
    rw [if_neg c12] at H
    exact absurd H (by simp)
   rw [if_neg c11] at H
   exact absurd H (by simp)
  rw [if_neg c5] at H
  exact absurd H (by simp)
 rw [if_neg c4] at H
 exact absurd H (by simp)


/-! ### lockstepref06_Has: function 23 -/
def lockstepref06_Has.l0 : Nat → List Int → Int → Int → Option (Bool)
 | 0, _, _, _ => none
 | k + 1, x0, x1, x5 => if x5 < (x0.length : Int) then (if 0 ≤ x5 then (if (rd x0 x5) = x1 then (some true) else (lockstepref06_Has.l0 k x0 x1 (wrap64 (x5 + 1)))) else (none)) else (some false)
def lockstepref06_Has.f (k : Nat) (l0 : List Int) (a1 : Int) : Option (Bool) := lockstepref06_Has.l0 k l0 a1 0
theorem lockstepref06_Has.mono_l : ∀ k, (∀ y0 y1 y2, LeO (lockstepref06_Has.l0 k y0 y1 y2) (lockstepref06_Has.l0 (k + 1) y0 y1 y2))
 | 0 => fun _ _ _ r h => by simp [lockstepref06_Has.l0] at h
 | k + 1 => by
  have ih0 := lockstepref06_Has.mono_l k
  ·intro y0 y1 y2
   unfold lockstepref06_Has.l0
   repeat' first
   | (with_reducible exact ih0 _ _ _)
   | (with_reducible exact LeO.refl _)
   | (with_reducible exact LeO.none _)
   | (with_reducible refine LeO.ite ?_ ?_)
   | (with_reducible refine LeO.bind ?_ (fun _ => ?_))
   | exact ih0 _ _ _
   | exact LeO.none _
   | refine LeO.ite ?_ ?_
   | refine LeO.bind ?_ (fun _ => ?_)
theorem lockstepref06_Has.mono : ∀ a0 a1 k, LeO (lockstepref06_Has.f k a0 a1) (lockstepref06_Has.f (k + 1) a0 a1) := by
 intro a0 a1 k
 have ih0 := lockstepref06_Has.mono_l k
 unfold lockstepref06_Has.f
 repeat' first
  | (with_reducible exact ih0 _ _ _)
  | (with_reducible exact LeO.refl _)
  | (with_reducible exact LeO.none _)
  | (with_reducible refine LeO.ite ?_ ?_)
  | (with_reducible refine LeO.bind ?_ (fun _ => ?_))
  | exact ih0 _ _ _
  | exact LeO.none _
  | refine LeO.ite ?_ ?_
  | refine LeO.bind ?_ (fun _ => ?_)
set_option maxHeartbeats 8000000 in
set_option maxRecDepth 100000 in
theorem lockstepref06_Has.calls (k : Nat) (A0 : Option Addr) (c0 : Nat) (l0 : List Int) (a1 : Int) (r : Bool) (w : World) (hr0 : Kd.C (Kd.int .i64) w A0 l0.length l0) (hc0 : l0.length ≤ c0) (h : lockstepref06_Has.f k l0 a1 = some r) :
 Calls Try.prog 23 #[.slice A0 l0.length c0, .int .i64 a1] w fun e w' => e = .returned (.bool r) ∧ Drawn0 w w' := by
 have HR0 := Aside0.mk hr0
 have HC0 := Aside0.mk hc0
 clear hr0 hc0
 have H : (lockstepref06_Has.l0 k l0 a1 0) = some r := h
 clear h
 have H' := Aside0.mk H
 clear H
 go_enter Try.func23, Try.ntmps23
 go_wp2
 go_loopg [5] k (fun kq v5 w' => ∃ (x5_1 : Int), v5 = .int .i64 x5_1 ∧ Aside0 (lockstepref06_Has.l0 kq l0 a1 x5_1 = some r) ∧ Aside0 (kq ≤ k) ∧ Drawn0 w w')
 case atStart => exact ⟨(0), (by first | rfl | (simp; done) | (simp [*]; done)), H', ⟨Nat.le_refl _⟩, by repeat (first | exact Drawn0.refl _ | apply Drawn0.step)⟩
 case round =>
  clear H'
  obtain ⟨x5_1, rfl, HA, HK1, ⟨m1, rfl⟩⟩ := hrel
  cases gk with
  | zero => exact absurd HA.out (by simp [lockstepref06_Has.l0])
  | succ k1 =>
   have H := HA.out
   clear HA
   simp only [lockstepref06_Has.l0] at H
   by_cases c3 : x5_1 < (l0.length : Int)
   ·rw [if_pos c3] at H
    have c3b0 : decide (x5_1 < (l0.length : Int)) = true := decide_eq_true c3
    clear c3
    by_cases c4 : 0 ≤ x5_1
    ·rw [if_pos c4] at H
     have c4b0 : decide (0 ≤ x5_1) = true := decide_eq_true c4
     clear c4
     by_cases c5 : (rd l0 x5_1) = a1
     ·rw [if_pos c5] at H
      have c5b0 : ((rd l0 x5_1) == a1) = true := beq_iff_eq.mpr c5
      have c5b1 : ((rd l0 x5_1) != a1) = false := bne_eq_false_iff_eq.mpr c5
      clear c5
      obtain rfl := Option.some.inj H
      have p318 : 0 ≤ (x5_1 : Int) := D_
      have q318 : x5_1 < (l0.length : Int) := D_
      obtain ⟨ad318, e318, hx318_0⟩ := Kd.at_int HR0.out x5_1 p318 q318
      cases e318
      replace p318 := eq_true p318
      replace q318 := eq_true q318
      go_wp2
      go_ret
      exact ⟨by first | rfl | (simp; done) | (simp [*]; done), by repeat (first | exact Drawn0.refl _ | apply Drawn0.step)⟩
     rw [if_neg c5] at H
     have c5b0 : ((rd l0 x5_1) == a1) = false := beq_eq_false_iff_ne.mpr c5
     have c5b1 : ((rd l0 x5_1) != a1) = true := bne_iff_ne.mpr c5
     have H' := Aside0.mk H
     clear H
     have p318 : 0 ≤ (x5_1 : Int) := D_
     have q318 : x5_1 < (l0.length : Int) := D_
     obtain ⟨ad318, e318, hx318_0⟩ := Kd.at_int HR0.out x5_1 p318 q318
     cases e318
     replace p318 := eq_true p318
     replace q318 := eq_true q318
     go_wp2
     go_roundg k1
     case measure => have := HK1.out; omega
     case rel => exact ⟨(wrap64 (x5_1 + 1)), (by first | rfl | (simp; done) | (simp [*]; done)), H', ⟨by have := HK1.out; omega⟩, by repeat (first | exact Drawn0.refl _ | apply Drawn0.step)⟩
    rw [if_neg c4] at H
    exact absurd H (by simp)
   rw [if_neg c3] at H
   have c3b0 : decide (x5_1 < (l0.length : Int)) = false := decide_eq_false c3
   clear c3
   obtain rfl := Option.some.inj H
   go_wp2
   go_ret
   exact ⟨by first | rfl | (simp; done) | (simp [*]; done), by repeat (first | exact Drawn0.refl _ | apply Drawn0.step)⟩


/-! ### lockstepref06_Make: function 40 -/
mutual
def lockstepref06_Make.j0 : Nat → List (List Int) → Int → Bool → Option ((List (List Int)) × (List (List Int)) × Int)
 | 0, _, _, _ => none
 | k + 1, x0, x4, x17 => if x17 = true then (some (([] : List (List Int)), ([] : List (List Int)), 5)) else (lockstepref06_Make.l0 k x0 x4 0)
def lockstepref06_Make.l0 : Nat → List (List Int) → Int → Int → Option ((List (List Int)) × (List (List Int)) × Int)
 | 0, _, _, _ => none
 | k + 1, x0, x4, x5 => if x5 < x4 then (lockstepref06_Make.l1 k x0 x4 x5 0) else (if 0 ≤ x4 then (if (x4 : Int).toNat ≤ 11728124029610 then (lockstepref06_Make.l2 k x0 x4 0 x0 (List.replicate (x4 : Int).toNat [])) else (none)) else (none))
def lockstepref06_Make.l1 : Nat → List (List Int) → Int → Int → Int → Option ((List (List Int)) × (List (List Int)) × Int)
 | 0, _, _, _, _ => none
 | k + 1, x0, x4, x5, x6 => if 0 ≤ x5 then (if x5 < (x0.length : Int) then (if x6 < ((rd_L1 x0 x5).length : Int) then (if 0 ≤ x6 then (if (rd (rd_L1 x0 x5) x6) < 0 then (some (([] : List (List Int)), ([] : List (List Int)), 5)) else (if (rd (rd_L1 x0 x5) x6) ≥ x4 then (some (([] : List (List Int)), ([] : List (List Int)), 5)) else (if x6 > 0 then (if 0 ≤ (wrap64 (x6 - 1)) then (if (wrap64 (x6 - 1)) < ((rd_L1 x0 x5).length : Int) then (if (rd (rd_L1 x0 x5) x6) ≤ (rd (rd_L1 x0 x5) (wrap64 (x6 - 1))) then (some (([] : List (List Int)), ([] : List (List Int)), 5)) else (lockstepref06_Make.l1 k x0 x4 x5 (wrap64 (x6 + 1)))) else (none)) else (none)) else (lockstepref06_Make.l1 k x0 x4 x5 (wrap64 (x6 + 1)))))) else (none)) else (lockstepref06_Make.l0 k x0 x4 (wrap64 (x5 + 1)))) else (none)) else (none)
def lockstepref06_Make.l2 : Nat → List (List Int) → Int → Int → List (List Int) → List (List Int) → Option ((List (List Int)) × (List (List Int)) × Int)
 | 0, _, _, _, _, _ => none
 | k + 1, x0, x4, x8, x333000, x333001 => if x8 < x4 then (lockstepref06_Make.l3 k x0 x4 x8 0 x333000 x333001) else (some (x333000, x333001, 0))
def lockstepref06_Make.l3 : Nat → List (List Int) → Int → Int → Int → List (List Int) → List (List Int) → Option ((List (List Int)) × (List (List Int)) × Int)
 | 0, _, _, _, _, _, _ => none
 | k + 1, x0, x4, x8, x9, x333000, x333001 => if x9 < x4 then (if 0 ≤ x9 then (if x9 < (x0.length : Int) then ((lockstepref06_Has.f k (rd_L1 x0 x9) x8).bind fun t334 => (if t334 = true then (if 0 ≤ x8 then (if x8 < (x333001.length : Int) then (if (rd_L1 x333001 x8).length < 17592186044416 then (lockstepref06_Make.l3 k x0 x4 x8 (wrap64 (x9 + 1)) x333000 (x333001.set (x8 : Int).toNat ((rd_L1 x333001 x8) ++ [x9]))) else (none)) else (none)) else (none)) else (lockstepref06_Make.l3 k x0 x4 x8 (wrap64 (x9 + 1)) x333000 x333001))) else (none)) else (none)) else (lockstepref06_Make.l2 k x0 x4 (wrap64 (x8 + 1)) x333000 x333001)
end
def lockstepref06_Make.f (k : Nat) (l0 : List (List Int)) : Option ((List (List Int)) × (List (List Int)) × Int) := if (l0.length : Int) = 0 then (lockstepref06_Make.j0 k l0 (l0.length : Int) true) else (lockstepref06_Make.j0 k l0 (l0.length : Int) (decide ((l0.length : Int) > 64)))
theorem lockstepref06_Make.mono_l : ∀ k, (∀ y0 y1 y2, LeO (lockstepref06_Make.j0 k y0 y1 y2) (lockstepref06_Make.j0 (k + 1) y0 y1 y2)) ∧ (∀ y0 y1 y2, LeO (lockstepref06_Make.l0 k y0 y1 y2) (lockstepref06_Make.l0 (k + 1) y0 y1 y2)) ∧ (∀ y0 y1 y2 y3, LeO (lockstepref06_Make.l1 k y0 y1 y2 y3) (lockstepref06_Make.l1 (k + 1) y0 y1 y2 y3)) ∧ (∀ y0 y1 y2 y3 y4, LeO (lockstepref06_Make.l2 k y0 y1 y2 y3 y4) (lockstepref06_Make.l2 (k + 1) y0 y1 y2 y3 y4)) ∧ (∀ y0 y1 y2 y3 y4 y5, LeO (lockstepref06_Make.l3 k y0 y1 y2 y3 y4 y5) (lockstepref06_Make.l3 (k + 1) y0 y1 y2 y3 y4 y5))
 | 0 => ⟨fun _ _ _ r h => by simp [lockstepref06_Make.j0] at h, fun _ _ _ r h => by simp [lockstepref06_Make.l0] at h, fun _ _ _ _ r h => by simp [lockstepref06_Make.l1] at h, fun _ _ _ _ _ r h => by simp [lockstepref06_Make.l2] at h, fun _ _ _ _ _ _ r h => by simp [lockstepref06_Make.l3] at h⟩
 | k + 1 => by
  obtain ⟨ih0, ih1, ih2, ih3, ih4⟩ := lockstepref06_Make.mono_l k
  refine ⟨?_, ?_, ?_, ?_, ?_⟩
  ·intro y0 y1 y2
   unfold lockstepref06_Make.j0
   repeat' first
   | (with_reducible exact ih0 _ _ _)
   | (with_reducible exact ih1 _ _ _)
   | (with_reducible exact ih2 _ _ _ _)
   | (with_reducible exact ih3 _ _ _ _ _)
   | (with_reducible exact ih4 _ _ _ _ _ _)
   | (with_reducible exact lockstepref06_Has.mono _ _ _)
   | (with_reducible exact LeO.refl _)
   | (with_reducible exact LeO.none _)
   | (with_reducible refine LeO.ite ?_ ?_)
   | (with_reducible refine LeO.bind ?_ (fun _ => ?_))
   | exact ih0 _ _ _
   | exact ih1 _ _ _
   | exact ih2 _ _ _ _
   | exact ih3 _ _ _ _ _
   | exact ih4 _ _ _ _ _ _
   | exact lockstepref06_Has.mono _ _ _
   | exact LeO.none _
   | refine LeO.ite ?_ ?_
   | refine LeO.bind ?_ (fun _ => ?_)
  ·intro y0 y1 y2
   unfold lockstepref06_Make.l0
   repeat' first
   | (with_reducible exact ih0 _ _ _)
   | (with_reducible exact ih1 _ _ _)
   | (with_reducible exact ih2 _ _ _ _)
   | (with_reducible exact ih3 _ _ _ _ _)
   | (with_reducible exact ih4 _ _ _ _ _ _)
   | (with_reducible exact lockstepref06_Has.mono _ _ _)
   | (with_reducible exact LeO.refl _)
   | (with_reducible exact LeO.none _)
   | (with_reducible refine LeO.ite ?_ ?_)
   | (with_reducible refine LeO.bind ?_ (fun _ => ?_))
   | exact ih0 _ _ _
   | exact ih1 _ _ _
   | exact ih2 _ _ _ _
   | exact ih3 _ _ _ _ _
   | exact ih4 _ _ _ _ _ _
   | exact lockstepref06_Has.mono _ _ _
   | exact LeO.none _
   | refine LeO.ite ?_ ?_
   | refine LeO.bind ?_ (fun _ => ?_)
  ·intro y0 y1 y2 y3
   unfold lockstepref06_Make.l1
   repeat' first
   | (with_reducible exact ih0 _ _ _)
   | (with_reducible exact ih1 _ _ _)
   | (with_reducible exact ih2 _ _ _ _)
   | (with_reducible exact ih3 _ _ _ _ _)
   | (with_reducible exact ih4 _ _ _ _ _ _)
   | (with_reducible exact lockstepref06_Has.mono _ _ _)
   | (with_reducible exact LeO.refl _)
   | (with_reducible exact LeO.none _)
   | (with_reducible refine LeO.ite ?_ ?_)
   | (with_reducible refine LeO.bind ?_ (fun _ => ?_))
   | exact ih0 _ _ _
   | exact ih1 _ _ _
   | exact ih2 _ _ _ _
   | exact ih3 _ _ _ _ _
   | exact ih4 _ _ _ _ _ _
   | exact lockstepref06_Has.mono _ _ _
   | exact LeO.none _
   | refine LeO.ite ?_ ?_
   | refine LeO.bind ?_ (fun _ => ?_)
  ·intro y0 y1 y2 y3 y4
   unfold lockstepref06_Make.l2
   repeat' first
   | (with_reducible exact ih0 _ _ _)
   | (with_reducible exact ih1 _ _ _)
   | (with_reducible exact ih2 _ _ _ _)
   | (with_reducible exact ih3 _ _ _ _ _)
   | (with_reducible exact ih4 _ _ _ _ _ _)
   | (with_reducible exact lockstepref06_Has.mono _ _ _)
   | (with_reducible exact LeO.refl _)
   | (with_reducible exact LeO.none _)
   | (with_reducible refine LeO.ite ?_ ?_)
   | (with_reducible refine LeO.bind ?_ (fun _ => ?_))
   | exact ih0 _ _ _
   | exact ih1 _ _ _
   | exact ih2 _ _ _ _
   | exact ih3 _ _ _ _ _
   | exact ih4 _ _ _ _ _ _
   | exact lockstepref06_Has.mono _ _ _
   | exact LeO.none _
   | refine LeO.ite ?_ ?_
   | refine LeO.bind ?_ (fun _ => ?_)
  ·intro y0 y1 y2 y3 y4 y5
   unfold lockstepref06_Make.l3
   repeat' first
   | (with_reducible exact ih0 _ _ _)
   | (with_reducible exact ih1 _ _ _)
   | (with_reducible exact ih2 _ _ _ _)
   | (with_reducible exact ih3 _ _ _ _ _)
   | (with_reducible exact ih4 _ _ _ _ _ _)
   | (with_reducible exact lockstepref06_Has.mono _ _ _)
   | (with_reducible exact LeO.refl _)
   | (with_reducible exact LeO.none _)
   | (with_reducible refine LeO.ite ?_ ?_)
   | (with_reducible refine LeO.bind ?_ (fun _ => ?_))
   | exact ih0 _ _ _
   | exact ih1 _ _ _
   | exact ih2 _ _ _ _
   | exact ih3 _ _ _ _ _
   | exact ih4 _ _ _ _ _ _
   | exact lockstepref06_Has.mono _ _ _
   | exact LeO.none _
   | refine LeO.ite ?_ ?_
   | refine LeO.bind ?_ (fun _ => ?_)
theorem lockstepref06_Make.mono : ∀ a0 k, LeO (lockstepref06_Make.f k a0) (lockstepref06_Make.f (k + 1) a0) := by
 intro a0 k
 obtain ⟨ih0, ih1, ih2, ih3, ih4⟩ := lockstepref06_Make.mono_l k
 unfold lockstepref06_Make.f
 repeat' first
  | (with_reducible exact ih0 _ _ _)
  | (with_reducible exact ih1 _ _ _)
  | (with_reducible exact ih2 _ _ _ _)
  | (with_reducible exact ih3 _ _ _ _ _)
  | (with_reducible exact ih4 _ _ _ _ _ _)
  | (with_reducible exact lockstepref06_Has.mono _ _ _)
  | (with_reducible exact LeO.refl _)
  | (with_reducible exact LeO.none _)
  | (with_reducible refine LeO.ite ?_ ?_)
  | (with_reducible refine LeO.bind ?_ (fun _ => ?_))
  | exact ih0 _ _ _
  | exact ih1 _ _ _
  | exact ih2 _ _ _ _
  | exact ih3 _ _ _ _ _
  | exact ih4 _ _ _ _ _ _
  | exact lockstepref06_Has.mono _ _ _
  | exact LeO.none _
  | refine LeO.ite ?_ ?_
  | refine LeO.bind ?_ (fun _ => ?_)
def lockstepref06_Make.T10 : Bool × List (List Nat × List Nat) := (true, [([], []), ([], []), ([0, 1], [0, 1]), ([2], [2]), ([], []), ([3, 4], [3, 4]), ([5], [5]), ([6], [6]), ([7], [7]), ([8], [8]), ([8], [8]), ([9, 10, 8], [8, 9, 10]), ([11, 8], [8, 11]), ([8], [8]), ([12, 13, 8], [8, 12, 13]), ([14, 8], [8, 14]), ([8], [8]), ([15, 16, 8], [8, 15, 16]), ([8, 17], [8, 17]), ([18, 8], [18]), ([19], [19]), ([20, 19], [19, 20]), ([21, 19, 19], [19, 21]), ([22], [22]), ([22], [22]), ([23, 24, 22], [22, 23, 24]), ([25, 22], [22, 25]), ([22], [22]), ([26, 27, 22], [22, 26, 27]), ([28, 22], [22, 28]), ([22], [22]), ([22], [22]), ([30, 31, 22], [22, 30, 31]), ([32, 22], [22, 32]), ([22], [22]), ([34, 22], [22, 34]), ([33, 35, 22], [22, 33, 35]), ([36, 22], [22, 36]), ([29, 37, 22], [22, 29, 37]), ([22, 38, 19], [19, 22, 38]), ([19, 39], [19, 39])])
def lockstepref06_Make.B10 : List Nat := [0, 0, 3, 7, 0, 31, 63, 127, 255, 511, 511, 2047, 4095, 511, 16383, 32767, 511, 131071, 262143, 524287, 1048575, 2097151, 4194303, 8388607, 8388607, 33554431, 67108863, 8388607, 268435455, 536870911, 8388607, 8388607, 3229614079, 7524581375, 8388607, 17188257791, 67654123519, 136373600255, 274877906943, 549755813887, 1099511627775]
theorem lockstepref06_Make.tab10 : rtab .any (opsOf Try.f40 10) = lockstepref06_Make.T10 := by kernel_rfl
theorem lockstepref06_Make.bits10 : waitsOk lockstepref06_Make.T10.2 lockstepref06_Make.B10 = true := by kernel_rfl
def lockstepref06_Make.T20 : Bool × List (List Nat × List Nat) := (true, [([], []), ([0], [0]), ([], []), ([], []), ([3], [3]), ([], []), ([4, 5], [4, 5]), ([6], [6]), ([], []), ([8], [8]), ([7, 9], [7, 9]), ([1, 2, 0, 1, 2, 3, 4, 5, 6, 7, 8, 9, 10], [1, 2]), ([11, 10, 10, 0, 1, 2, 3, 4, 5, 6, 7, 8, 9, 10], [10, 11])])
def lockstepref06_Make.B20 : List Nat := [0, 1, 0, 0, 8, 0, 56, 120, 0, 256, 1016, 2047, 4095]
theorem lockstepref06_Make.tab20 : rtab .any (opsOf Try.f40 20) = lockstepref06_Make.T20 := by kernel_rfl
theorem lockstepref06_Make.bits20 : waitsOk lockstepref06_Make.T20.2 lockstepref06_Make.B20 = true := by kernel_rfl
set_option maxHeartbeats 8000000 in
set_option maxRecDepth 100000 in
theorem lockstepref06_Make.calls (k : Nat) (P0_ : Nat → Prop) (A0 : Option Addr) (c0 : Nat) (l0 : List (List Int)) (r1 : List (List Int)) (r2 : List (List Int)) (r3 : Int) (w : World) (hs0 : Kd.V (Kd.slice 3 (Kd.int .i64)) 31 w w.heap.size (fun k_ => P0_ k_) (.slice A0 l0.length c0) l0) (h : lockstepref06_Make.f k l0 = some (r1, r2, r3)) :
 Calls Try.prog 40 #[.slice A0 l0.length c0] w fun e w' => ∃ v0_ v1_ : Value, e = .returned (.tuple #[.agg #[v0_, v1_], .int .i64 r3]) ∧ Kd.V (Kd.slice 3 (Kd.int .i64)) 31 w' w.heap.size (fun k_ => (P0_ k_ ∨ w.heap.size ≤ k_) ∧ some k_ ≠ (v1_ : Value).ownBlock) v0_ r1 ∧ Kd.S (Kd.slice 3 (Kd.int .i64)) 31 w' w.heap.size (fun k_ => (w.heap.size ≤ k_)) v1_ r2 ∧ Below w.heap.size w w' := by
 have hu26 := Try.underlying26
 have HO0 := Aside0.mk (show Kd.V (Kd.slice 3 (Kd.int .i64)) 31 w w.heap.size (fun k_ => (P0_ k_ ∧ k_ < w.heap.size)) (.slice A0 l0.length c0) l0 from Kd.V_bound hs0)
 have HB := Aside0.mk (Below.refl w.heap.size w)
 have H : (if (l0.length : Int) = 0 then (lockstepref06_Make.j0 k l0 (l0.length : Int) true) else (lockstepref06_Make.j0 k l0 (l0.length : Int) (decide ((l0.length : Int) > 64)))) = some (r1, r2, r3) := h
 clear h
 have HC2 := Aside0.mk H
 clear H
 go_enter Try.func40, Try.ntmps40
 go_upto_region 2 with (first | ((with_reducible refine gate_dst (N := 2) rfl ?_); refine box_event ?hg (N := 2) ?hd (cs := #[.slice none 0 0, .slice none 0 0]) (t := 26) ?hr ?_; (case hd => rfl); (case hg => rfl); (case hr => first | (go_simp; done) | (go_simp; rfl)); intro gb319 hg w3 hbox hb; have n0_ := Aside0.mk (Kd.V_below (Kd.V_elderB (by (with_reducible repeat (first | apply Kd.V_alloc | apply Kd.V_drewN | apply Kd.V_drew)); exact HO0.out) gb319 (Nat.le_of_eq hg.symm)) hb); have n1_ := Aside0.mk (below_step (B_) hb); have n2_ := Aside0.mk (hbox); have n3_ := Aside0.mk ((by rw [hg]; exact (below_size (B_)) : w.heap.size ≤ gb319)); have n4_ := Aside0.mk ((by rw [hg]; exact (below_size (B_)) : w.heap.size ≤ gb319)); clear HO0; clear HB; have HO0 := n0_; have HB := n1_; have BK319 := n2_; have GW319 := n3_; have GE319 := n4_; clear n0_ n1_ n2_ n3_ n4_; clear hb hbox hg))
 (try simp only [Act.put, List.setIfInBounds_toArray, List.set_cons_zero, List.set_cons_succ])
 go_cut [17] (fun v17 wc => ∃ (kq : Nat) (x17_1 : Bool), v17 = .bool x17_1 ∧ Aside0 (lockstepref06_Make.j0 kq l0 (l0.length : Int) x17_1 = some (r1, r2, r3)) ∧ Aside0 (kq ≤ k) ∧ Aside0 (Kd.V (Kd.slice 3 (Kd.int .i64)) 31 wc w.heap.size (fun k_ => (P0_ k_ ∧ k_ < w.heap.size) ∧ k_ ≠ gb319) (.slice A0 l0.length c0) l0) ∧ Aside0 (wc.heap[gb319]? = some (.cells #[(.slice none 0 0), (.slice none 0 0)] 26 (0, 0))) ∧ Aside0 (Below w.heap.size w wc))
 case first =>
  have H := HC2.out
  clear HC2
  by_cases c4 : (l0.length : Int) = 0
  ·rw [if_pos c4] at H
   have c4b0 : ((l0.length : Int) == 0) = true := beq_iff_eq.mpr c4
   have c4b1 : ((l0.length : Int) != 0) = false := bne_eq_false_iff_eq.mpr c4
   clear c4
   (first | rw [c4b0] | (simp only [i64_w, i32_w]; rw [c4b0]) | skip)
   have H' := Aside0.mk H
   clear H
   go_wp2
   go_meet
   case rel => exact ⟨_, (true), (by first | rfl | (simp; done) | (simp [*]; done)), H', ⟨by first | omega | exact Nat.le_refl _⟩, ⟨by (with_reducible repeat (first | apply Kd.V_alloc | apply Kd.V_drewN | apply Kd.V_drew)); first | exact HO0.out | exact Kd.R_mono HO0.out (fun _ hk e_ => hk (e_.trans own_len))⟩, ⟨by exact KX_ BK319.out⟩, ⟨B1_⟩⟩
  rw [if_neg c4] at H
  have c4b0 : ((l0.length : Int) == 0) = false := beq_eq_false_iff_ne.mpr c4
  have c4b1 : ((l0.length : Int) != 0) = true := bne_iff_ne.mpr c4
  have c4b2 : ¬ (l0 = []) := fun h_ => c4 (by rw [h_]; rfl)
  (first | rw [c4b0] | (simp only [i64_w, i32_w]; rw [c4b0]) | skip)
  have H' := Aside0.mk H
  clear H
  go_wp2
  go_meet
  case rel => exact ⟨_, (decide ((l0.length : Int) > 64)), (by first | rfl | (simp; done) | (simp [*]; done)), H', ⟨by first | omega | exact Nat.le_refl _⟩, ⟨by (with_reducible repeat (first | apply Kd.V_alloc | apply Kd.V_drewN | apply Kd.V_drew)); first | exact HO0.out | exact Kd.R_mono HO0.out (fun _ hk e_ => hk (e_.trans own_len))⟩, ⟨by exact KX_ BK319.out⟩, ⟨B1_⟩⟩
 case rest =>
  clear HC2
  obtain ⟨kq, x17_1, rfl, HA, HJ1, HO_0, BK319, HB⟩ := hcut
  cases kq with
  | zero => exact absurd HA.out (by simp [lockstepref06_Make.j0])
  | succ kj1 =>
   have H := HA.out
   clear HA
   simp only [lockstepref06_Make.j0] at H
   by_cases c5 : x17_1 = true
   ·subst c5
    have H1 : (some (([] : List (List Int)), ([] : List (List Int)), 5)) = some (r1, r2, r3) := by rw [if_pos rfl] at H; exact H
    clear H
    have H := H1
    clear H1
    simp only [Option.some.injEq, Prod.mk.injEq] at H
    obtain ⟨rfl, rfl, rfl⟩ := H
    have hcz6_0 : wc.cell? ⟨gb319, 0, none⟩ = some (.slice none 0 0) := (blk_cell BK319.out 0).trans rfl
    have hcz6_1 : wc.cell? ⟨gb319, 1, none⟩ = some (.slice none 0 0) := (blk_cell BK319.out 1).trans rfl
    have hfz6_0 := blk_frozen BK319.out 0
    have hfz6_1 := blk_frozen BK319.out 1
    go_wp2
    refine bodyPost_ret (results_ct rfl _ _ gb319 26 #[.slice none 0 0, .slice none 0 0] (0, 0) _ rfl (by (with_reducible repeat (first | refine blk_drewN ?_ _ | refine blk_drew ?_ | refine blk_alloc ?_ _)); refine blk_put (cs := #[.slice none 0 0, .slice none 0 0]) ?_ 1 _ rfl; (with_reducible repeat (first | refine blk_drewN ?_ _ | refine blk_drew ?_ | refine blk_alloc ?_ _)); refine blk_put (cs := #[.slice none 0 0, .slice none 0 0]) ?_ 0 _ rfl; exact KX_ BK319.out) Try.underlying26 rfl (by kernel_rfl)) rfl ?_
    exact ⟨_, _, by first | rfl | (simp [errW_none, errW_some] <;> rfl) | (simp [*, errW_none, errW_some] <;> rfl), Kd.V_nil _ _ _ _ _, by first | exact Kd.S_nil _ _ _ _ _ | exact Kd.N_nil _ _ _ _ _ | exact Kd.V_nil _ _ _ _ _ | exact Kd.Q_nil _ _ _ _ _ | exact Kd.R_nil _ _ _ _ _, B1_⟩
   replace c5 := Bool.eq_false_iff.mpr c5
   subst c5
   have H1 : (lockstepref06_Make.l0 kj1 l0 (l0.length : Int) 0) = some (r1, r2, r3) := by rw [if_neg (show ¬ (false = true) by decide)] at H; exact H
   clear H
   have H := H1
   clear H1
   have H' := Aside0.mk H
   clear H
   go_wp2
   go_loopg [5] kj1 (fun kq v5 w' => ∃ (x5_2 : Int), v5 = .int .i64 x5_2 ∧ Aside0 (lockstepref06_Make.l0 kq l0 (l0.length : Int) x5_2 = some (r1, r2, r3)) ∧ Aside0 (kq ≤ kj1) ∧ Aside0 (Kd.V (Kd.slice 3 (Kd.int .i64)) 31 w' w.heap.size (fun k_ => (P0_ k_ ∧ k_ < w.heap.size) ∧ k_ ≠ gb319) (.slice A0 l0.length c0) l0) ∧ Aside0 (w'.heap[gb319]? = some (.cells #[(.slice none 0 0), (.slice none 0 0)] 26 (0, 0))) ∧ Aside0 (Below w.heap.size w w'))
   case atStart => exact ⟨(0), (by first | rfl | (simp; done) | (simp [*]; done)), H', ⟨Nat.le_refl _⟩, ⟨by (with_reducible repeat (first | apply Kd.V_alloc | apply Kd.V_drewN | apply Kd.V_drew)); first | exact HO_0.out | exact Kd.R_mono HO_0.out (fun _ hk e_ => hk (e_.trans own_len))⟩, ⟨by exact KX_ BK319.out⟩, ⟨B1_⟩⟩
   case round =>
    clear H'
    try clear c5
    obtain ⟨x5_2, rfl, HA, HK2, HO_0, BK319, HB⟩ := hrel
    cases gk with
    | zero => exact absurd HA.out (by simp [lockstepref06_Make.l0])
    | succ k2 =>
     have H := HA.out
     clear HA
     simp only [lockstepref06_Make.l0] at H
     by_cases c7 : x5_2 < (l0.length : Int)
     ·rw [if_pos c7] at H
      have c7b0 : decide (x5_2 < (l0.length : Int)) = true := decide_eq_true c7
      clear c7
      have H' := Aside0.mk H
      clear H
      go_wp2
      go_loopg [6] k2 (fun kq v6 w' => ∃ (x6_3 : Int), v6 = .int .i64 x6_3 ∧ Aside0 (lockstepref06_Make.l1 kq l0 (l0.length : Int) x5_2 x6_3 = some (r1, r2, r3)) ∧ Aside0 (kq ≤ k2) ∧ Aside0 (Kd.V (Kd.slice 3 (Kd.int .i64)) 31 w' w.heap.size (fun k_ => (P0_ k_ ∧ k_ < w.heap.size) ∧ k_ ≠ gb319) (.slice A0 l0.length c0) l0) ∧ Aside0 (w'.heap[gb319]? = some (.cells #[(.slice none 0 0), (.slice none 0 0)] 26 (0, 0))) ∧ Aside0 (Below w.heap.size w w'))
      case atStart => exact ⟨(0), (by first | rfl | (simp; done) | (simp [*]; done)), H', ⟨Nat.le_refl _⟩, ⟨by (with_reducible repeat (first | apply Kd.V_alloc | apply Kd.V_drewN | apply Kd.V_drew)); first | exact HO_0.out | exact Kd.R_mono HO_0.out (fun _ hk e_ => hk (e_.trans own_len))⟩, ⟨by exact KX_ BK319.out⟩, ⟨B1_⟩⟩
      case round =>
       clear H'
       try clear c7b0
       obtain ⟨x6_3, rfl, HA, HK3, HO_0, BK319, HB⟩ := hrel
       cases gk with
       | zero => exact absurd HA.out (by simp [lockstepref06_Make.l1])
       | succ k3 =>
        have H := HA.out
        clear HA
        simp only [lockstepref06_Make.l1] at H
        by_cases c8 : 0 ≤ x5_2
        ·rw [if_pos c8] at H
         have c8b0 : decide (0 ≤ x5_2) = true := decide_eq_true c8
         clear c8
         by_cases c9 : x5_2 < (l0.length : Int)
         ·rw [if_pos c9] at H
          have c9b0 : decide (x5_2 < (l0.length : Int)) = true := decide_eq_true c9
          clear c9
          by_cases c10 : x6_3 < ((rd_L1 l0 x5_2).length : Int)
          ·rw [if_pos c10] at H
           have c10b0 : decide (x6_3 < ((rd_L1 l0 x5_2).length : Int)) = true := decide_eq_true c10
           clear c10
           by_cases c11 : 0 ≤ x6_3
           ·rw [if_pos c11] at H
            have c11b0 : decide (0 ≤ x6_3) = true := decide_eq_true c11
            clear c11
            by_cases c12 : (rd (rd_L1 l0 x5_2) x6_3) < 0
            ·rw [if_pos c12] at H
             have c12b0 : decide ((rd (rd_L1 l0 x5_2) x6_3) < 0) = true := decide_eq_true c12
             clear c12
             simp only [Option.some.injEq, Prod.mk.injEq] at H
             obtain ⟨rfl, rfl, rfl⟩ := H
             have p320 : 0 ≤ (x5_2 : Int) := D_
             have q320 : x5_2 < (l0.length : Int) := D_
             obtain ⟨ad320, A320_0, c320_0, e320, hx320_0, hl320_0, hi320_0⟩ := at_L1 (Kd.V_reads' HO_0.out).2.2 x5_2 p320 q320
             cases e320
             obtain ⟨ce320, hce320, hMe320, hcc320⟩ := Kd.V_get HO_0.out [] x5_2 p320 (by first | exact q320 | exact D_ | (have e_ := (Kd.V_reads' HO_0.out).1; omega))
             obtain ⟨ua320_0, uc320_0, rfl, ul320_0, ge320_0⟩ := Kd.FK_slice_open hMe320
             have hv320_0 := hcc320 0 _ rfl
             rw [Nat.add_zero, show ((Kd.slice 3 (Kd.int .i64))).sz = 1 from rfl, Nat.mul_one] at hv320_0
             replace hv320_0 := Option.some.inj (hv320_0.symm.trans hx320_0)
             injection hv320_0 with hva_ hvn_ hvc_
             rw [hva_] at ge320_0
             rw [hvc_] at ul320_0
             have HL320_0 := Aside0.mk (show Kd.V (Kd.int .i64) 3 _ w.heap.size _ _ (rd_L1 l0 x5_2) from Kd.V_mk ul320_0 ge320_0)
             clear hva_ hvn_ hvc_ ge320_0 ul320_0
             clear hcc320 hce320
             have HR320_0 := Aside0.mk hi320_0
             have HC320_0 := Aside0.mk hl320_0
             clear hi320_0 hl320_0
             replace p320 := eq_true p320
             replace q320 := eq_true q320
             try go_wp2
             have n0_ := Aside0.mk (Kd.V_drew HO_0.out)
             have n1_ := Aside0.mk (Kd.V_drew HL320_0.out)
             have n2_ := Aside0.mk (blk_drew BK319.out)
             have n3_ := Aside0.mk (Kd.C_drew HR320_0.out)
             have n4_ := Aside0.mk (below_drew1 HB.out)
             clear HO_0
             clear HL320_0
             clear BK319
             clear HR320_0
             clear HB
             have HO_0 := n0_
             have HL320_0 := n1_
             have BK319 := n2_
             have HR320_0 := n3_
             have HB := n4_
             clear n0_ n1_ n2_ n3_ n4_
             have p321 : 0 ≤ (x5_2 : Int) := D_
             have q321 : x5_2 < (l0.length : Int) := D_
             obtain ⟨ad321, A321_0, c321_0, e321, hx321_0, hl321_0, hi321_0⟩ := at_L1 (Kd.V_reads' HO_0.out).2.2 x5_2 p321 q321
             obtain rfl : ad320 = ad321 := (by injection e321)
             obtain ⟨ce321, hce321, hMe321, hcc321⟩ := Kd.V_get HO_0.out [] x5_2 p321 (by first | exact q321 | exact D_ | (have e_ := (Kd.V_reads' HO_0.out).1; omega))
             obtain ⟨ua321_0, uc321_0, rfl, ul321_0, ge321_0⟩ := Kd.FK_slice_open hMe321
             have hv321_0 := hcc321 0 _ rfl
             rw [Nat.add_zero, show ((Kd.slice 3 (Kd.int .i64))).sz = 1 from rfl, Nat.mul_one] at hv321_0
             replace hv321_0 := Option.some.inj (hv321_0.symm.trans hx321_0)
             injection hv321_0 with hva_ hvn_ hvc_
             rw [hva_] at ge321_0
             rw [hvc_] at ul321_0
             have HL321_0 := Aside0.mk (show Kd.V (Kd.int .i64) 3 _ w.heap.size _ _ (rd_L1 l0 x5_2) from Kd.V_mk ul321_0 ge321_0)
             clear hva_ hvn_ hvc_ ge321_0 ul321_0
             clear hcc321 hce321
             have HR321_0 := Aside0.mk hi321_0
             have HC321_0 := Aside0.mk hl321_0
             clear hi321_0 hl321_0
             replace p321 := eq_true p321
             replace q321 := eq_true q321
             have p322 : 0 ≤ (x6_3 : Int) := D_
             have q322 : x6_3 < ((rd_L1 l0 x5_2).length : Int) := D_
             obtain ⟨ad322, e322, hx322_0⟩ := Kd.at_int (by repeat (first | (with_reducible exact HR321_0.out) | (with_reducible refine Kd.C_alloc ?_ _) | (with_reducible refine Kd.C_drewN ?_ _) | (with_reducible refine Kd.C_drew ?_) | exact HR321_0.out)) x6_3 p322 q322
             cases e322
             replace p322 := eq_true p322
             replace q322 := eq_true q322
             refine start_ (n := 41) (S := fun w' => w'.cell? (ad320.add (x5_2).toNat) = some (.slice (some ad322) (rd_L1 l0 x5_2).length c321_0) ∧ w'.cell? (ad322.add (x6_3).toNat) = some (.int .i64 (rd (rd_L1 l0 x5_2) x6_3))) (ds := []) #[F_,F_,F_,F_,F_,F_,F_,F_,F_,F_,F_,F_,F_,F_,F_,F_,F_,F_,F_,F_,F_,F_,F_,F_,F_,F_,F_,F_,F_,F_,F_,F_,F_,F_,F_,F_,F_,F_,F_,F_,F_] (by kernel_rfl) rfl rfl ⟨hx321_0, hx322_0⟩ (fun hHeld => ?_); refine with_tabW lockstepref06_Make.tab10 lockstepref06_Make.bits10 (fun HT_ HW_ => ?_)
             generalize wr.drew = w13 at HO_0 HL320_0 BK319 HR320_0 HB HL321_0 HR321_0 hx321_0 hx322_0 hHeld ⊢
             refine pure_ (i := 0) (N := some 33) (v := ?_) (a' := ?_) #[T_,F_,F_,F_,F_,F_,F_,F_,F_,F_,F_,F_,F_,F_,F_,F_,F_,F_,F_,F_,F_,F_,F_,F_,F_,F_,F_,F_,F_,F_,F_,F_,F_,F_,F_,F_,F_,F_,F_,F_,F_] rfl rfl (any_of HT_.out (by kernel_rfl)) (fun _ _ _ h => h) (Or.inl ⟨by rfl, ?_⟩) ?_ ?_
             rotate_left
             ·intro w'
              go_simp
              with_reducible rfl
             rotate_left
             ·exact P_
             refine pure_ (i := 1) (N := some 34) (v := ?_) (a' := ?_) #[T_,T_,F_,F_,F_,F_,F_,F_,F_,F_,F_,F_,F_,F_,F_,F_,F_,F_,F_,F_,F_,F_,F_,F_,F_,F_,F_,F_,F_,F_,F_,F_,F_,F_,F_,F_,F_,F_,F_,F_,F_] rfl rfl (any_of HT_.out (by kernel_rfl)) (fun _ _ _ h => h) (Or.inl ⟨by rfl, ?_⟩) ?_ ?_
             rotate_left
             ·intro w'
              go_simp
              with_reducible rfl
             rotate_left
             ·exact P_
             refine pure_ (i := 2) (N := some 35) (v := ?_) (a' := ?_) #[T_,T_,T_,F_,F_,F_,F_,F_,F_,F_,F_,F_,F_,F_,F_,F_,F_,F_,F_,F_,F_,F_,F_,F_,F_,F_,F_,F_,F_,F_,F_,F_,F_,F_,F_,F_,F_,F_,F_,F_,F_] rfl rfl (any_of HT_.out (by kernel_rfl)) (fun _ _ _ h => h) (Or.inl ⟨by rfl, ?_⟩) ?_ ?_
             rotate_left
             ·intro w'
              go_simp
              with_reducible rfl
             rotate_left
             ·exact P_
             refine pure_ (i := 4) (N := some 37) (v := ?_) (a' := ?_) #[T_,T_,T_,F_,T_,F_,F_,F_,F_,F_,F_,F_,F_,F_,F_,F_,F_,F_,F_,F_,F_,F_,F_,F_,F_,F_,F_,F_,F_,F_,F_,F_,F_,F_,F_,F_,F_,F_,F_,F_,F_] rfl rfl (any_of HT_.out (by kernel_rfl)) (fun _ _ _ h => h) (Or.inl ⟨by rfl, ?_⟩) ?_ ?_
             rotate_left
             ·intro w'
              go_simp
              with_reducible rfl
             rotate_left
             ·exact P_
             refine take_ (i := 3) (N := some 36) (v := ?_) (a' := ?_) #[T_,T_,T_,T_,T_,F_,F_,F_,F_,F_,F_,F_,F_,F_,F_,F_,F_,F_,F_,F_,F_,F_,F_,F_,F_,F_,F_,F_,F_,F_,F_,F_,F_,F_,F_,F_,F_,F_,F_,F_,F_] rfl rfl (take_ofW HT_.out HW_.out (by kernel_rfl)) (fun _ _ _ h => h) (Or.inl ⟨by rfl, ?_⟩) hHeld ?_ ?_
             rotate_left
             ·rintro w' ⟨s0, s1⟩
              go_simp
              with_reducible rfl
             rotate_left
             ·exact P_
             refine pure_ (i := 5) (N := some 38) (v := ?_) (a' := ?_) #[T_,T_,T_,T_,T_,T_,F_,F_,F_,F_,F_,F_,F_,F_,F_,F_,F_,F_,F_,F_,F_,F_,F_,F_,F_,F_,F_,F_,F_,F_,F_,F_,F_,F_,F_,F_,F_,F_,F_,F_,F_] rfl rfl (any_of HT_.out (by kernel_rfl)) (fun _ _ _ h => h) (Or.inl ⟨by rfl, ?_⟩) ?_ ?_
             rotate_left
             ·intro w'
              go_simp
              with_reducible rfl
             rotate_left
             ·exact P_
             refine take_ (i := 6) (N := some 39) (v := ?_) (a' := ?_) #[T_,T_,T_,T_,T_,T_,T_,F_,F_,F_,F_,F_,F_,F_,F_,F_,F_,F_,F_,F_,F_,F_,F_,F_,F_,F_,F_,F_,F_,F_,F_,F_,F_,F_,F_,F_,F_,F_,F_,F_,F_] rfl rfl (take_ofW HT_.out HW_.out (by kernel_rfl)) (fun _ _ _ h => h) (Or.inl ⟨by rfl, ?_⟩) hHeld ?_ ?_
             rotate_left
             ·rintro w' ⟨s0, s1⟩
              go_simp
              with_reducible rfl
             rotate_left
             ·exact P_
             refine pure_ (i := 7) (N := some 40) (v := ?_) (a' := ?_) #[T_,T_,T_,T_,T_,T_,T_,T_,F_,F_,F_,F_,F_,F_,F_,F_,F_,F_,F_,F_,F_,F_,F_,F_,F_,F_,F_,F_,F_,F_,F_,F_,F_,F_,F_,F_,F_,F_,F_,F_,F_] rfl rfl (any_of HT_.out (by kernel_rfl)) (fun _ _ _ h => h) (Or.inl ⟨by rfl, ?_⟩) ?_ ?_
             rotate_left
             ·intro w'
              go_simp
              with_reducible rfl
             rotate_left
             ·exact P_
             refine pure_ (i := 8) (N := some 41) (v := ?_) (a' := ?_) #[T_,T_,T_,T_,T_,T_,T_,T_,T_,F_,F_,F_,F_,F_,F_,F_,F_,F_,F_,F_,F_,F_,F_,F_,F_,F_,F_,F_,F_,F_,F_,F_,F_,F_,F_,F_,F_,F_,F_,F_,F_] rfl rfl (any_of HT_.out (by kernel_rfl)) (fun _ _ _ h => h) (Or.inl ⟨by rfl, ?_⟩) ?_ ?_
             rotate_left
             ·intro w'
              go_simp
              with_reducible rfl
             rotate_left
             ·exact P_
             refine pure_ (i := 9) (N := some 42) (v := undef) (a' := ?_) #[T_,T_,T_,T_,T_,T_,T_,T_,T_,T_,F_,F_,F_,F_,F_,F_,F_,F_,F_,F_,F_,F_,F_,F_,F_,F_,F_,F_,F_,F_,F_,F_,F_,F_,F_,F_,F_,F_,F_,F_,F_] rfl rfl (any_of HT_.out (by kernel_rfl)) (fun _ _ _ h => h) (Or.inr ⟨by rfl, rfl⟩) ?_ ?_
             rotate_left
             ·exact P_
             refine pure_ (i := 10) (N := some 43) (v := undef) (a' := ?_) #[T_,T_,T_,T_,T_,T_,T_,T_,T_,T_,T_,F_,F_,F_,F_,F_,F_,F_,F_,F_,F_,F_,F_,F_,F_,F_,F_,F_,F_,F_,F_,F_,F_,F_,F_,F_,F_,F_,F_,F_,F_] rfl rfl (any_of HT_.out (by kernel_rfl)) (fun _ _ _ h => h) (Or.inr ⟨by rfl, rfl⟩) ?_ ?_
             rotate_left
             ·exact P_
             refine pure_ (i := 11) (N := some 44) (v := undef) (a' := ?_) #[T_,T_,T_,T_,T_,T_,T_,T_,T_,T_,T_,T_,F_,F_,F_,F_,F_,F_,F_,F_,F_,F_,F_,F_,F_,F_,F_,F_,F_,F_,F_,F_,F_,F_,F_,F_,F_,F_,F_,F_,F_] rfl rfl (any_of HT_.out (by kernel_rfl)) (fun _ _ _ h => h) (Or.inr ⟨by rfl, rfl⟩) ?_ ?_
             rotate_left
             ·exact P_
             refine pure_ (i := 12) (N := some 45) (v := undef) (a' := ?_) #[T_,T_,T_,T_,T_,T_,T_,T_,T_,T_,T_,T_,T_,F_,F_,F_,F_,F_,F_,F_,F_,F_,F_,F_,F_,F_,F_,F_,F_,F_,F_,F_,F_,F_,F_,F_,F_,F_,F_,F_,F_] rfl rfl (any_of HT_.out (by kernel_rfl)) (fun _ _ _ h => h) (Or.inr ⟨by rfl, rfl⟩) ?_ ?_
             rotate_left
             ·exact P_
             refine pure_ (i := 13) (N := some 46) (v := undef) (a' := ?_) #[T_,T_,T_,T_,T_,T_,T_,T_,T_,T_,T_,T_,T_,T_,F_,F_,F_,F_,F_,F_,F_,F_,F_,F_,F_,F_,F_,F_,F_,F_,F_,F_,F_,F_,F_,F_,F_,F_,F_,F_,F_] rfl rfl (any_of HT_.out (by kernel_rfl)) (fun _ _ _ h => h) (Or.inr ⟨by rfl, rfl⟩) ?_ ?_
             rotate_left
             ·exact P_
             refine pure_ (i := 14) (N := some 47) (v := undef) (a' := ?_) #[T_,T_,T_,T_,T_,T_,T_,T_,T_,T_,T_,T_,T_,T_,T_,F_,F_,F_,F_,F_,F_,F_,F_,F_,F_,F_,F_,F_,F_,F_,F_,F_,F_,F_,F_,F_,F_,F_,F_,F_,F_] rfl rfl (any_of HT_.out (by kernel_rfl)) (fun _ _ _ h => h) (Or.inr ⟨by rfl, rfl⟩) ?_ ?_
             rotate_left
             ·exact P_
             refine pure_ (i := 15) (N := some 48) (v := undef) (a' := ?_) #[T_,T_,T_,T_,T_,T_,T_,T_,T_,T_,T_,T_,T_,T_,T_,T_,F_,F_,F_,F_,F_,F_,F_,F_,F_,F_,F_,F_,F_,F_,F_,F_,F_,F_,F_,F_,F_,F_,F_,F_,F_] rfl rfl (any_of HT_.out (by kernel_rfl)) (fun _ _ _ h => h) (Or.inr ⟨by rfl, rfl⟩) ?_ ?_
             rotate_left
             ·exact P_
             refine pure_ (i := 16) (N := some 49) (v := undef) (a' := ?_) #[T_,T_,T_,T_,T_,T_,T_,T_,T_,T_,T_,T_,T_,T_,T_,T_,T_,F_,F_,F_,F_,F_,F_,F_,F_,F_,F_,F_,F_,F_,F_,F_,F_,F_,F_,F_,F_,F_,F_,F_,F_] rfl rfl (any_of HT_.out (by kernel_rfl)) (fun _ _ _ h => h) (Or.inr ⟨by rfl, rfl⟩) ?_ ?_
             rotate_left
             ·exact P_
             refine pure_ (i := 17) (N := some 50) (v := undef) (a' := ?_) #[T_,T_,T_,T_,T_,T_,T_,T_,T_,T_,T_,T_,T_,T_,T_,T_,T_,T_,F_,F_,F_,F_,F_,F_,F_,F_,F_,F_,F_,F_,F_,F_,F_,F_,F_,F_,F_,F_,F_,F_,F_] rfl rfl (any_of HT_.out (by kernel_rfl)) (fun _ _ _ h => h) (Or.inr ⟨by rfl, rfl⟩) ?_ ?_
             rotate_left
             ·exact P_
             refine pure_ (i := 18) (N := some 51) (v := ?_) (a' := ?_) #[T_,T_,T_,T_,T_,T_,T_,T_,T_,T_,T_,T_,T_,T_,T_,T_,T_,T_,T_,F_,F_,F_,F_,F_,F_,F_,F_,F_,F_,F_,F_,F_,F_,F_,F_,F_,F_,F_,F_,F_,F_] rfl rfl (any_of HT_.out (by kernel_rfl)) (fun _ _ _ h => h) (Or.inl ⟨by rfl, ?_⟩) ?_ ?_
             rotate_left
             ·intro w'
              go_simp
              with_reducible rfl
             rotate_left
             ·exact P_
             refine pure_ (i := 19) (N := some 52) (v := ?_) (a' := ?_) #[T_,T_,T_,T_,T_,T_,T_,T_,T_,T_,T_,T_,T_,T_,T_,T_,T_,T_,T_,T_,F_,F_,F_,F_,F_,F_,F_,F_,F_,F_,F_,F_,F_,F_,F_,F_,F_,F_,F_,F_,F_] rfl rfl (any_of HT_.out (by kernel_rfl)) (fun _ _ _ h => h) (Or.inl ⟨by rfl, ?_⟩) ?_ ?_
             rotate_left
             ·intro w'
              go_simp
              with_reducible rfl
             rotate_left
             ·exact P_
             refine pure_ (i := 20) (N := some 53) (v := undef) (a' := ?_) #[T_,T_,T_,T_,T_,T_,T_,T_,T_,T_,T_,T_,T_,T_,T_,T_,T_,T_,T_,T_,T_,F_,F_,F_,F_,F_,F_,F_,F_,F_,F_,F_,F_,F_,F_,F_,F_,F_,F_,F_,F_] rfl rfl (any_of HT_.out (by kernel_rfl)) (fun _ _ _ h => h) (Or.inr ⟨by rfl, rfl⟩) ?_ ?_
             rotate_left
             ·exact P_
             refine pure_ (i := 21) (N := some 54) (v := undef) (a' := ?_) #[T_,T_,T_,T_,T_,T_,T_,T_,T_,T_,T_,T_,T_,T_,T_,T_,T_,T_,T_,T_,T_,T_,F_,F_,F_,F_,F_,F_,F_,F_,F_,F_,F_,F_,F_,F_,F_,F_,F_,F_,F_] rfl rfl (any_of HT_.out (by kernel_rfl)) (fun _ _ _ h => h) (Or.inr ⟨by rfl, rfl⟩) ?_ ?_
             rotate_left
             ·exact P_
             refine pure_ (i := 22) (N := some 55) (v := undef) (a' := ?_) #[T_,T_,T_,T_,T_,T_,T_,T_,T_,T_,T_,T_,T_,T_,T_,T_,T_,T_,T_,T_,T_,T_,T_,F_,F_,F_,F_,F_,F_,F_,F_,F_,F_,F_,F_,F_,F_,F_,F_,F_,F_] rfl rfl (any_of HT_.out (by kernel_rfl)) (fun _ _ _ h => h) (Or.inr ⟨by rfl, rfl⟩) ?_ ?_
             rotate_left
             ·exact P_
             refine pure_ (i := 23) (N := some 56) (v := undef) (a' := ?_) #[T_,T_,T_,T_,T_,T_,T_,T_,T_,T_,T_,T_,T_,T_,T_,T_,T_,T_,T_,T_,T_,T_,T_,T_,F_,F_,F_,F_,F_,F_,F_,F_,F_,F_,F_,F_,F_,F_,F_,F_,F_] rfl rfl (any_of HT_.out (by kernel_rfl)) (fun _ _ _ h => h) (Or.inr ⟨by rfl, rfl⟩) ?_ ?_
             rotate_left
             ·exact P_
             refine pure_ (i := 24) (N := some 57) (v := undef) (a' := ?_) #[T_,T_,T_,T_,T_,T_,T_,T_,T_,T_,T_,T_,T_,T_,T_,T_,T_,T_,T_,T_,T_,T_,T_,T_,T_,F_,F_,F_,F_,F_,F_,F_,F_,F_,F_,F_,F_,F_,F_,F_,F_] rfl rfl (any_of HT_.out (by kernel_rfl)) (fun _ _ _ h => h) (Or.inr ⟨by rfl, rfl⟩) ?_ ?_
             rotate_left
             ·exact P_
             refine pure_ (i := 25) (N := some 58) (v := undef) (a' := ?_) #[T_,T_,T_,T_,T_,T_,T_,T_,T_,T_,T_,T_,T_,T_,T_,T_,T_,T_,T_,T_,T_,T_,T_,T_,T_,T_,F_,F_,F_,F_,F_,F_,F_,F_,F_,F_,F_,F_,F_,F_,F_] rfl rfl (any_of HT_.out (by kernel_rfl)) (fun _ _ _ h => h) (Or.inr ⟨by rfl, rfl⟩) ?_ ?_
             rotate_left
             ·exact P_
             refine pure_ (i := 26) (N := some 59) (v := undef) (a' := ?_) #[T_,T_,T_,T_,T_,T_,T_,T_,T_,T_,T_,T_,T_,T_,T_,T_,T_,T_,T_,T_,T_,T_,T_,T_,T_,T_,T_,F_,F_,F_,F_,F_,F_,F_,F_,F_,F_,F_,F_,F_,F_] rfl rfl (any_of HT_.out (by kernel_rfl)) (fun _ _ _ h => h) (Or.inr ⟨by rfl, rfl⟩) ?_ ?_
             rotate_left
             ·exact P_
             refine pure_ (i := 27) (N := some 60) (v := undef) (a' := ?_) #[T_,T_,T_,T_,T_,T_,T_,T_,T_,T_,T_,T_,T_,T_,T_,T_,T_,T_,T_,T_,T_,T_,T_,T_,T_,T_,T_,T_,F_,F_,F_,F_,F_,F_,F_,F_,F_,F_,F_,F_,F_] rfl rfl (any_of HT_.out (by kernel_rfl)) (fun _ _ _ h => h) (Or.inr ⟨by rfl, rfl⟩) ?_ ?_
             rotate_left
             ·exact P_
             refine pure_ (i := 28) (N := some 61) (v := undef) (a' := ?_) #[T_,T_,T_,T_,T_,T_,T_,T_,T_,T_,T_,T_,T_,T_,T_,T_,T_,T_,T_,T_,T_,T_,T_,T_,T_,T_,T_,T_,T_,F_,F_,F_,F_,F_,F_,F_,F_,F_,F_,F_,F_] rfl rfl (any_of HT_.out (by kernel_rfl)) (fun _ _ _ h => h) (Or.inr ⟨by rfl, rfl⟩) ?_ ?_
             rotate_left
             ·exact P_
             refine pure_ (i := 29) (N := some 62) (v := undef) (a' := ?_) #[T_,T_,T_,T_,T_,T_,T_,T_,T_,T_,T_,T_,T_,T_,T_,T_,T_,T_,T_,T_,T_,T_,T_,T_,T_,T_,T_,T_,T_,T_,F_,F_,F_,F_,F_,F_,F_,F_,F_,F_,F_] rfl rfl (any_of HT_.out (by kernel_rfl)) (fun _ _ _ h => h) (Or.inr ⟨by rfl, rfl⟩) ?_ ?_
             rotate_left
             ·exact P_
             refine pure_ (i := 30) (N := some 63) (v := undef) (a' := ?_) #[T_,T_,T_,T_,T_,T_,T_,T_,T_,T_,T_,T_,T_,T_,T_,T_,T_,T_,T_,T_,T_,T_,T_,T_,T_,T_,T_,T_,T_,T_,T_,F_,F_,F_,F_,F_,F_,F_,F_,F_,F_] rfl rfl (any_of HT_.out (by kernel_rfl)) (fun _ _ _ h => h) (Or.inr ⟨by rfl, rfl⟩) ?_ ?_
             rotate_left
             ·exact P_
             refine pure_ (i := 31) (N := some 64) (v := undef) (a' := ?_) #[T_,T_,T_,T_,T_,T_,T_,T_,T_,T_,T_,T_,T_,T_,T_,T_,T_,T_,T_,T_,T_,T_,T_,T_,T_,T_,T_,T_,T_,T_,T_,T_,F_,F_,F_,F_,F_,F_,F_,F_,F_] rfl rfl (any_of HT_.out (by kernel_rfl)) (fun _ _ _ h => h) (Or.inr ⟨by rfl, rfl⟩) ?_ ?_
             rotate_left
             ·exact P_
             refine pure_ (i := 32) (N := some 65) (v := undef) (a' := ?_) #[T_,T_,T_,T_,T_,T_,T_,T_,T_,T_,T_,T_,T_,T_,T_,T_,T_,T_,T_,T_,T_,T_,T_,T_,T_,T_,T_,T_,T_,T_,T_,T_,T_,F_,F_,F_,F_,F_,F_,F_,F_] rfl rfl (any_of HT_.out (by kernel_rfl)) (fun _ _ _ h => h) (Or.inr ⟨by rfl, rfl⟩) ?_ ?_
             rotate_left
             ·exact P_
             refine pure_ (i := 33) (N := some 66) (v := undef) (a' := ?_) #[T_,T_,T_,T_,T_,T_,T_,T_,T_,T_,T_,T_,T_,T_,T_,T_,T_,T_,T_,T_,T_,T_,T_,T_,T_,T_,T_,T_,T_,T_,T_,T_,T_,T_,F_,F_,F_,F_,F_,F_,F_] rfl rfl (any_of HT_.out (by kernel_rfl)) (fun _ _ _ h => h) (Or.inr ⟨by rfl, rfl⟩) ?_ ?_
             rotate_left
             ·exact P_
             refine pure_ (i := 34) (N := some 67) (v := undef) (a' := ?_) #[T_,T_,T_,T_,T_,T_,T_,T_,T_,T_,T_,T_,T_,T_,T_,T_,T_,T_,T_,T_,T_,T_,T_,T_,T_,T_,T_,T_,T_,T_,T_,T_,T_,T_,T_,F_,F_,F_,F_,F_,F_] rfl rfl (any_of HT_.out (by kernel_rfl)) (fun _ _ _ h => h) (Or.inr ⟨by rfl, rfl⟩) ?_ ?_
             rotate_left
             ·exact P_
             refine pure_ (i := 35) (N := some 68) (v := undef) (a' := ?_) #[T_,T_,T_,T_,T_,T_,T_,T_,T_,T_,T_,T_,T_,T_,T_,T_,T_,T_,T_,T_,T_,T_,T_,T_,T_,T_,T_,T_,T_,T_,T_,T_,T_,T_,T_,T_,F_,F_,F_,F_,F_] rfl rfl (any_of HT_.out (by kernel_rfl)) (fun _ _ _ h => h) (Or.inr ⟨by rfl, rfl⟩) ?_ ?_
             rotate_left
             ·exact P_
             refine pure_ (i := 36) (N := some 69) (v := undef) (a' := ?_) #[T_,T_,T_,T_,T_,T_,T_,T_,T_,T_,T_,T_,T_,T_,T_,T_,T_,T_,T_,T_,T_,T_,T_,T_,T_,T_,T_,T_,T_,T_,T_,T_,T_,T_,T_,T_,T_,F_,F_,F_,F_] rfl rfl (any_of HT_.out (by kernel_rfl)) (fun _ _ _ h => h) (Or.inr ⟨by rfl, rfl⟩) ?_ ?_
             rotate_left
             ·exact P_
             refine pure_ (i := 37) (N := some 70) (v := undef) (a' := ?_) #[T_,T_,T_,T_,T_,T_,T_,T_,T_,T_,T_,T_,T_,T_,T_,T_,T_,T_,T_,T_,T_,T_,T_,T_,T_,T_,T_,T_,T_,T_,T_,T_,T_,T_,T_,T_,T_,T_,F_,F_,F_] rfl rfl (any_of HT_.out (by kernel_rfl)) (fun _ _ _ h => h) (Or.inr ⟨by rfl, rfl⟩) ?_ ?_
             rotate_left
             ·exact P_
             refine pure_ (i := 38) (N := some 71) (v := undef) (a' := ?_) #[T_,T_,T_,T_,T_,T_,T_,T_,T_,T_,T_,T_,T_,T_,T_,T_,T_,T_,T_,T_,T_,T_,T_,T_,T_,T_,T_,T_,T_,T_,T_,T_,T_,T_,T_,T_,T_,T_,T_,F_,F_] rfl rfl (any_of HT_.out (by kernel_rfl)) (fun _ _ _ h => h) (Or.inr ⟨by rfl, rfl⟩) ?_ ?_
             rotate_left
             ·exact P_
             refine pure_ (i := 39) (N := some 72) (v := undef) (a' := ?_) #[T_,T_,T_,T_,T_,T_,T_,T_,T_,T_,T_,T_,T_,T_,T_,T_,T_,T_,T_,T_,T_,T_,T_,T_,T_,T_,T_,T_,T_,T_,T_,T_,T_,T_,T_,T_,T_,T_,T_,T_,F_] rfl rfl (any_of HT_.out (by kernel_rfl)) (fun _ _ _ h => h) (Or.inr ⟨by rfl, rfl⟩) ?_ ?_
             rotate_left
             ·exact P_
             refine pure_ (i := 40) (N := some 73) (v := ?_) (a' := ?_) #[T_,T_,T_,T_,T_,T_,T_,T_,T_,T_,T_,T_,T_,T_,T_,T_,T_,T_,T_,T_,T_,T_,T_,T_,T_,T_,T_,T_,T_,T_,T_,T_,T_,T_,T_,T_,T_,T_,T_,T_,T_] rfl rfl (any_of HT_.out (by kernel_rfl)) (fun _ _ _ h => h) (Or.inl ⟨by rfl, ?_⟩) ?_ ?_
             rotate_left
             ·intro w'
              go_simp
              with_reducible rfl
             rotate_left
             ·exact P_
             refine done_ (done_of HT_.out (by kernel_rfl)) ?_
             have hcz14_0 : w13.cell? ⟨gb319, 0, none⟩ = some (.slice none 0 0) := (blk_cell BK319.out 0).trans rfl
             have hcz14_1 : w13.cell? ⟨gb319, 1, none⟩ = some (.slice none 0 0) := (blk_cell BK319.out 1).trans rfl
             have hfz14_0 := blk_frozen BK319.out 0
             have hfz14_1 := blk_frozen BK319.out 1
             try go_wp2
             refine bodyPost_ret (results_ct rfl _ _ gb319 26 #[.slice none 0 0, .slice none 0 0] (0, 0) _ rfl (by (with_reducible repeat (first | refine blk_drewN ?_ _ | refine blk_drew ?_ | refine blk_alloc ?_ _)); refine blk_put (cs := #[.slice none 0 0, .slice none 0 0]) ?_ 1 _ rfl; (with_reducible repeat (first | refine blk_drewN ?_ _ | refine blk_drew ?_ | refine blk_alloc ?_ _)); refine blk_put (cs := #[.slice none 0 0, .slice none 0 0]) ?_ 0 _ rfl; exact KX_ BK319.out) Try.underlying26 rfl (by kernel_rfl)) rfl ?_
             exact ⟨_, _, by first | rfl | (simp [errW_none, errW_some] <;> rfl) | (simp [*, errW_none, errW_some] <;> rfl), Kd.V_nil _ _ _ _ _, by first | exact Kd.S_nil _ _ _ _ _ | exact Kd.N_nil _ _ _ _ _ | exact Kd.V_nil _ _ _ _ _ | exact Kd.Q_nil _ _ _ _ _ | exact Kd.R_nil _ _ _ _ _, B1_⟩
            rw [if_neg c12] at H
            have c12b0 : decide ((rd (rd_L1 l0 x5_2) x6_3) < 0) = false := decide_eq_false c12
            clear c12
            by_cases c15 : (rd (rd_L1 l0 x5_2) x6_3) ≥ (l0.length : Int)
            ·rw [if_pos c15] at H
             have c15b0 : decide ((l0.length : Int) ≤ (rd (rd_L1 l0 x5_2) x6_3)) = true := decide_eq_true c15
             clear c15
             simp only [Option.some.injEq, Prod.mk.injEq] at H
             obtain ⟨rfl, rfl, rfl⟩ := H
             have p320 : 0 ≤ (x5_2 : Int) := D_
             have q320 : x5_2 < (l0.length : Int) := D_
             obtain ⟨ad320, A320_0, c320_0, e320, hx320_0, hl320_0, hi320_0⟩ := at_L1 (Kd.V_reads' HO_0.out).2.2 x5_2 p320 q320
             cases e320
             obtain ⟨ce320, hce320, hMe320, hcc320⟩ := Kd.V_get HO_0.out [] x5_2 p320 (by first | exact q320 | exact D_ | (have e_ := (Kd.V_reads' HO_0.out).1; omega))
             obtain ⟨ua320_0, uc320_0, rfl, ul320_0, ge320_0⟩ := Kd.FK_slice_open hMe320
             have hv320_0 := hcc320 0 _ rfl
             rw [Nat.add_zero, show ((Kd.slice 3 (Kd.int .i64))).sz = 1 from rfl, Nat.mul_one] at hv320_0
             replace hv320_0 := Option.some.inj (hv320_0.symm.trans hx320_0)
             injection hv320_0 with hva_ hvn_ hvc_
             rw [hva_] at ge320_0
             rw [hvc_] at ul320_0
             have HL320_0 := Aside0.mk (show Kd.V (Kd.int .i64) 3 _ w.heap.size _ _ (rd_L1 l0 x5_2) from Kd.V_mk ul320_0 ge320_0)
             clear hva_ hvn_ hvc_ ge320_0 ul320_0
             clear hcc320 hce320
             have HR320_0 := Aside0.mk hi320_0
             have HC320_0 := Aside0.mk hl320_0
             clear hi320_0 hl320_0
             replace p320 := eq_true p320
             replace q320 := eq_true q320
             try go_wp2
             have n0_ := Aside0.mk (Kd.V_drew HO_0.out)
             have n1_ := Aside0.mk (Kd.V_drew HL320_0.out)
             have n2_ := Aside0.mk (blk_drew BK319.out)
             have n3_ := Aside0.mk (Kd.C_drew HR320_0.out)
             have n4_ := Aside0.mk (below_drew1 HB.out)
             clear HO_0
             clear HL320_0
             clear BK319
             clear HR320_0
             clear HB
             have HO_0 := n0_
             have HL320_0 := n1_
             have BK319 := n2_
             have HR320_0 := n3_
             have HB := n4_
             clear n0_ n1_ n2_ n3_ n4_
             have p321 : 0 ≤ (x5_2 : Int) := D_
             have q321 : x5_2 < (l0.length : Int) := D_
             obtain ⟨ad321, A321_0, c321_0, e321, hx321_0, hl321_0, hi321_0⟩ := at_L1 (Kd.V_reads' HO_0.out).2.2 x5_2 p321 q321
             obtain rfl : ad320 = ad321 := (by injection e321)
             obtain ⟨ce321, hce321, hMe321, hcc321⟩ := Kd.V_get HO_0.out [] x5_2 p321 (by first | exact q321 | exact D_ | (have e_ := (Kd.V_reads' HO_0.out).1; omega))
             obtain ⟨ua321_0, uc321_0, rfl, ul321_0, ge321_0⟩ := Kd.FK_slice_open hMe321
             have hv321_0 := hcc321 0 _ rfl
             rw [Nat.add_zero, show ((Kd.slice 3 (Kd.int .i64))).sz = 1 from rfl, Nat.mul_one] at hv321_0
             replace hv321_0 := Option.some.inj (hv321_0.symm.trans hx321_0)
             injection hv321_0 with hva_ hvn_ hvc_
             rw [hva_] at ge321_0
             rw [hvc_] at ul321_0
             have HL321_0 := Aside0.mk (show Kd.V (Kd.int .i64) 3 _ w.heap.size _ _ (rd_L1 l0 x5_2) from Kd.V_mk ul321_0 ge321_0)
             clear hva_ hvn_ hvc_ ge321_0 ul321_0
             clear hcc321 hce321
             have HR321_0 := Aside0.mk hi321_0
             have HC321_0 := Aside0.mk hl321_0
             clear hi321_0 hl321_0
             replace p321 := eq_true p321
             replace q321 := eq_true q321
             have p322 : 0 ≤ (x6_3 : Int) := D_
             have q322 : x6_3 < ((rd_L1 l0 x5_2).length : Int) := D_
             obtain ⟨ad322, e322, hx322_0⟩ := Kd.at_int (by repeat (first | (with_reducible exact HR321_0.out) | (with_reducible refine Kd.C_alloc ?_ _) | (with_reducible refine Kd.C_drewN ?_ _) | (with_reducible refine Kd.C_drew ?_) | exact HR321_0.out)) x6_3 p322 q322
             cases e322
             replace p322 := eq_true p322
             replace q322 := eq_true q322
             have p323 : 0 ≤ (x5_2 : Int) := D_
             have q323 : x5_2 < (l0.length : Int) := D_
             obtain ⟨ad323, A323_0, c323_0, e323, hx323_0, hl323_0, hi323_0⟩ := at_L1 (Kd.V_reads' HO_0.out).2.2 x5_2 p323 q323
             obtain rfl : ad320 = ad323 := (by injection e323)
             obtain ⟨ce323, hce323, hMe323, hcc323⟩ := Kd.V_get HO_0.out [] x5_2 p323 (by first | exact q323 | exact D_ | (have e_ := (Kd.V_reads' HO_0.out).1; omega))
             obtain ⟨ua323_0, uc323_0, rfl, ul323_0, ge323_0⟩ := Kd.FK_slice_open hMe323
             have hv323_0 := hcc323 0 _ rfl
             rw [Nat.add_zero, show ((Kd.slice 3 (Kd.int .i64))).sz = 1 from rfl, Nat.mul_one] at hv323_0
             replace hv323_0 := Option.some.inj (hv323_0.symm.trans hx323_0)
             injection hv323_0 with hva_ hvn_ hvc_
             rw [hva_] at ge323_0
             rw [hvc_] at ul323_0
             have HL323_0 := Aside0.mk (show Kd.V (Kd.int .i64) 3 _ w.heap.size _ _ (rd_L1 l0 x5_2) from Kd.V_mk ul323_0 ge323_0)
             clear hva_ hvn_ hvc_ ge323_0 ul323_0
             clear hcc323 hce323
             have HR323_0 := Aside0.mk hi323_0
             have HC323_0 := Aside0.mk hl323_0
             clear hi323_0 hl323_0
             replace p323 := eq_true p323
             replace q323 := eq_true q323
             have ea_ := Option.some.inj (hx321_0.symm.trans hx323_0)
             injection ea_ with ea_ en_ ec_
             subst ea_
             subst ec_
             clear en_
             have p324 : 0 ≤ (x6_3 : Int) := D_
             have q324 : x6_3 < ((rd_L1 l0 x5_2).length : Int) := D_
             obtain ⟨ad324, e324, hx324_0⟩ := Kd.at_int (by repeat (first | (with_reducible exact HR323_0.out) | (with_reducible refine Kd.C_alloc ?_ _) | (with_reducible refine Kd.C_drewN ?_ _) | (with_reducible refine Kd.C_drew ?_) | exact HR323_0.out)) x6_3 p324 q324
             cases e324
             replace p324 := eq_true p324
             replace q324 := eq_true q324
             refine start_ (n := 41) (S := fun w' => w'.cell? (ad320.add (x5_2).toNat) = some (.slice (some ad322) (rd_L1 l0 x5_2).length c321_0) ∧ w'.cell? (ad322.add (x6_3).toNat) = some (.int .i64 (rd (rd_L1 l0 x5_2) x6_3)) ∧ w'.cell? (ad320.add (x5_2).toNat) = some (.slice (some ad322) (rd_L1 l0 x5_2).length c321_0) ∧ w'.cell? (ad322.add (x6_3).toNat) = some (.int .i64 (rd (rd_L1 l0 x5_2) x6_3))) (ds := []) #[F_,F_,F_,F_,F_,F_,F_,F_,F_,F_,F_,F_,F_,F_,F_,F_,F_,F_,F_,F_,F_,F_,F_,F_,F_,F_,F_,F_,F_,F_,F_,F_,F_,F_,F_,F_,F_,F_,F_,F_,F_] (by kernel_rfl) rfl rfl ⟨hx321_0, hx322_0, hx323_0, hx324_0⟩ (fun hHeld => ?_); refine with_tabW lockstepref06_Make.tab10 lockstepref06_Make.bits10 (fun HT_ HW_ => ?_)
             generalize wr.drew = w16 at HO_0 HL320_0 BK319 HR320_0 HB HL321_0 HL323_0 HR321_0 HR323_0 hx321_0 hx322_0 hx323_0 hx324_0 hHeld ⊢
             refine pure_ (i := 0) (N := some 33) (v := ?_) (a' := ?_) #[T_,F_,F_,F_,F_,F_,F_,F_,F_,F_,F_,F_,F_,F_,F_,F_,F_,F_,F_,F_,F_,F_,F_,F_,F_,F_,F_,F_,F_,F_,F_,F_,F_,F_,F_,F_,F_,F_,F_,F_,F_] rfl rfl (any_of HT_.out (by kernel_rfl)) (fun _ _ _ h => h) (Or.inl ⟨by rfl, ?_⟩) ?_ ?_
             rotate_left
             ·intro w'
              go_simp
              with_reducible rfl
             rotate_left
             ·exact P_
             refine pure_ (i := 1) (N := some 34) (v := ?_) (a' := ?_) #[T_,T_,F_,F_,F_,F_,F_,F_,F_,F_,F_,F_,F_,F_,F_,F_,F_,F_,F_,F_,F_,F_,F_,F_,F_,F_,F_,F_,F_,F_,F_,F_,F_,F_,F_,F_,F_,F_,F_,F_,F_] rfl rfl (any_of HT_.out (by kernel_rfl)) (fun _ _ _ h => h) (Or.inl ⟨by rfl, ?_⟩) ?_ ?_
             rotate_left
             ·intro w'
              go_simp
              with_reducible rfl
             rotate_left
             ·exact P_
             refine pure_ (i := 2) (N := some 35) (v := ?_) (a' := ?_) #[T_,T_,T_,F_,F_,F_,F_,F_,F_,F_,F_,F_,F_,F_,F_,F_,F_,F_,F_,F_,F_,F_,F_,F_,F_,F_,F_,F_,F_,F_,F_,F_,F_,F_,F_,F_,F_,F_,F_,F_,F_] rfl rfl (any_of HT_.out (by kernel_rfl)) (fun _ _ _ h => h) (Or.inl ⟨by rfl, ?_⟩) ?_ ?_
             rotate_left
             ·intro w'
              go_simp
              with_reducible rfl
             rotate_left
             ·exact P_
             refine pure_ (i := 4) (N := some 37) (v := ?_) (a' := ?_) #[T_,T_,T_,F_,T_,F_,F_,F_,F_,F_,F_,F_,F_,F_,F_,F_,F_,F_,F_,F_,F_,F_,F_,F_,F_,F_,F_,F_,F_,F_,F_,F_,F_,F_,F_,F_,F_,F_,F_,F_,F_] rfl rfl (any_of HT_.out (by kernel_rfl)) (fun _ _ _ h => h) (Or.inl ⟨by rfl, ?_⟩) ?_ ?_
             rotate_left
             ·intro w'
              go_simp
              with_reducible rfl
             rotate_left
             ·exact P_
             refine take_ (i := 3) (N := some 36) (v := ?_) (a' := ?_) #[T_,T_,T_,T_,T_,F_,F_,F_,F_,F_,F_,F_,F_,F_,F_,F_,F_,F_,F_,F_,F_,F_,F_,F_,F_,F_,F_,F_,F_,F_,F_,F_,F_,F_,F_,F_,F_,F_,F_,F_,F_] rfl rfl (take_ofW HT_.out HW_.out (by kernel_rfl)) (fun _ _ _ h => h) (Or.inl ⟨by rfl, ?_⟩) hHeld ?_ ?_
             rotate_left
             ·rintro w' ⟨s0, s1, s2, s3⟩
              go_simp
              with_reducible rfl
             rotate_left
             ·exact P_
             refine pure_ (i := 5) (N := some 38) (v := ?_) (a' := ?_) #[T_,T_,T_,T_,T_,T_,F_,F_,F_,F_,F_,F_,F_,F_,F_,F_,F_,F_,F_,F_,F_,F_,F_,F_,F_,F_,F_,F_,F_,F_,F_,F_,F_,F_,F_,F_,F_,F_,F_,F_,F_] rfl rfl (any_of HT_.out (by kernel_rfl)) (fun _ _ _ h => h) (Or.inl ⟨by rfl, ?_⟩) ?_ ?_
             rotate_left
             ·intro w'
              go_simp
              with_reducible rfl
             rotate_left
             ·exact P_
             refine take_ (i := 6) (N := some 39) (v := ?_) (a' := ?_) #[T_,T_,T_,T_,T_,T_,T_,F_,F_,F_,F_,F_,F_,F_,F_,F_,F_,F_,F_,F_,F_,F_,F_,F_,F_,F_,F_,F_,F_,F_,F_,F_,F_,F_,F_,F_,F_,F_,F_,F_,F_] rfl rfl (take_ofW HT_.out HW_.out (by kernel_rfl)) (fun _ _ _ h => h) (Or.inl ⟨by rfl, ?_⟩) hHeld ?_ ?_
             rotate_left
             ·rintro w' ⟨s0, s1, s2, s3⟩
              go_simp
              with_reducible rfl
             rotate_left
             ·exact P_
             refine pure_ (i := 7) (N := some 40) (v := ?_) (a' := ?_) #[T_,T_,T_,T_,T_,T_,T_,T_,F_,F_,F_,F_,F_,F_,F_,F_,F_,F_,F_,F_,F_,F_,F_,F_,F_,F_,F_,F_,F_,F_,F_,F_,F_,F_,F_,F_,F_,F_,F_,F_,F_] rfl rfl (any_of HT_.out (by kernel_rfl)) (fun _ _ _ h => h) (Or.inl ⟨by rfl, ?_⟩) ?_ ?_
             rotate_left
             ·intro w'
              go_simp
              with_reducible rfl
             rotate_left
             ·exact P_
             refine pure_ (i := 8) (N := some 41) (v := ?_) (a' := ?_) #[T_,T_,T_,T_,T_,T_,T_,T_,T_,F_,F_,F_,F_,F_,F_,F_,F_,F_,F_,F_,F_,F_,F_,F_,F_,F_,F_,F_,F_,F_,F_,F_,F_,F_,F_,F_,F_,F_,F_,F_,F_] rfl rfl (any_of HT_.out (by kernel_rfl)) (fun _ _ _ h => h) (Or.inl ⟨by rfl, ?_⟩) ?_ ?_
             rotate_left
             ·intro w'
              go_simp
              with_reducible rfl
             rotate_left
             ·exact P_
             refine pure_ (i := 9) (N := some 42) (v := ?_) (a' := ?_) #[T_,T_,T_,T_,T_,T_,T_,T_,T_,T_,F_,F_,F_,F_,F_,F_,F_,F_,F_,F_,F_,F_,F_,F_,F_,F_,F_,F_,F_,F_,F_,F_,F_,F_,F_,F_,F_,F_,F_,F_,F_] rfl rfl (any_of HT_.out (by kernel_rfl)) (fun _ _ _ h => h) (Or.inl ⟨by rfl, ?_⟩) ?_ ?_
             rotate_left
             ·intro w'
              go_simp
              with_reducible rfl
             rotate_left
             ·exact P_
             refine pure_ (i := 10) (N := some 43) (v := ?_) (a' := ?_) #[T_,T_,T_,T_,T_,T_,T_,T_,T_,T_,T_,F_,F_,F_,F_,F_,F_,F_,F_,F_,F_,F_,F_,F_,F_,F_,F_,F_,F_,F_,F_,F_,F_,F_,F_,F_,F_,F_,F_,F_,F_] rfl rfl (any_of HT_.out (by kernel_rfl)) (fun _ _ _ h => h) (Or.inl ⟨by rfl, ?_⟩) ?_ ?_
             rotate_left
             ·intro w'
              go_simp
              with_reducible rfl
             rotate_left
             ·exact P_
             refine pure_ (i := 11) (N := some 44) (v := ?_) (a' := ?_) #[T_,T_,T_,T_,T_,T_,T_,T_,T_,T_,T_,T_,F_,F_,F_,F_,F_,F_,F_,F_,F_,F_,F_,F_,F_,F_,F_,F_,F_,F_,F_,F_,F_,F_,F_,F_,F_,F_,F_,F_,F_] rfl rfl (any_of HT_.out (by kernel_rfl)) (fun _ _ _ h => h) (Or.inl ⟨by rfl, ?_⟩) ?_ ?_
             rotate_left
             ·intro w'
              go_simp
              with_reducible rfl
             rotate_left
             ·exact P_
             refine pure_ (i := 13) (N := some 46) (v := ?_) (a' := ?_) #[T_,T_,T_,T_,T_,T_,T_,T_,T_,T_,T_,T_,F_,T_,F_,F_,F_,F_,F_,F_,F_,F_,F_,F_,F_,F_,F_,F_,F_,F_,F_,F_,F_,F_,F_,F_,F_,F_,F_,F_,F_] rfl rfl (any_of HT_.out (by kernel_rfl)) (fun _ _ _ h => h) (Or.inl ⟨by rfl, ?_⟩) ?_ ?_
             rotate_left
             ·intro w'
              go_simp
              with_reducible rfl
             rotate_left
             ·exact P_
             refine pure_ (i := 16) (N := some 49) (v := ?_) (a' := ?_) #[T_,T_,T_,T_,T_,T_,T_,T_,T_,T_,T_,T_,F_,T_,F_,F_,T_,F_,F_,F_,F_,F_,F_,F_,F_,F_,F_,F_,F_,F_,F_,F_,F_,F_,F_,F_,F_,F_,F_,F_,F_] rfl rfl (any_of HT_.out (by kernel_rfl)) (fun _ _ _ h => h) (Or.inl ⟨by rfl, ?_⟩) ?_ ?_
             rotate_left
             ·intro w'
              go_simp
              with_reducible rfl
             rotate_left
             ·exact P_
             refine take_ (i := 12) (N := some 45) (v := ?_) (a' := ?_) #[T_,T_,T_,T_,T_,T_,T_,T_,T_,T_,T_,T_,T_,T_,F_,F_,T_,F_,F_,F_,F_,F_,F_,F_,F_,F_,F_,F_,F_,F_,F_,F_,F_,F_,F_,F_,F_,F_,F_,F_,F_] rfl rfl (take_ofW HT_.out HW_.out (by kernel_rfl)) (fun _ _ _ h => h) (Or.inl ⟨by rfl, ?_⟩) hHeld ?_ ?_
             rotate_left
             ·rintro w' ⟨s0, s1, s2, s3⟩
              go_simp
              with_reducible rfl
             rotate_left
             ·exact P_
             refine pure_ (i := 14) (N := some 47) (v := ?_) (a' := ?_) #[T_,T_,T_,T_,T_,T_,T_,T_,T_,T_,T_,T_,T_,T_,T_,F_,T_,F_,F_,F_,F_,F_,F_,F_,F_,F_,F_,F_,F_,F_,F_,F_,F_,F_,F_,F_,F_,F_,F_,F_,F_] rfl rfl (any_of HT_.out (by kernel_rfl)) (fun _ _ _ h => h) (Or.inl ⟨by rfl, ?_⟩) ?_ ?_
             rotate_left
             ·intro w'
              go_simp
              with_reducible rfl
             rotate_left
             ·exact P_
             refine take_ (i := 15) (N := some 48) (v := ?_) (a' := ?_) #[T_,T_,T_,T_,T_,T_,T_,T_,T_,T_,T_,T_,T_,T_,T_,T_,T_,F_,F_,F_,F_,F_,F_,F_,F_,F_,F_,F_,F_,F_,F_,F_,F_,F_,F_,F_,F_,F_,F_,F_,F_] rfl rfl (take_ofW HT_.out HW_.out (by kernel_rfl)) (fun _ _ _ h => h) (Or.inl ⟨by rfl, ?_⟩) hHeld ?_ ?_
             rotate_left
             ·rintro w' ⟨s0, s1, s2, s3⟩
              go_simp
              with_reducible rfl
             rotate_left
             ·exact P_
             refine pure_ (i := 17) (N := some 50) (v := ?_) (a' := ?_) #[T_,T_,T_,T_,T_,T_,T_,T_,T_,T_,T_,T_,T_,T_,T_,T_,T_,T_,F_,F_,F_,F_,F_,F_,F_,F_,F_,F_,F_,F_,F_,F_,F_,F_,F_,F_,F_,F_,F_,F_,F_] rfl rfl (any_of HT_.out (by kernel_rfl)) (fun _ _ _ h => h) (Or.inl ⟨by rfl, ?_⟩) ?_ ?_
             rotate_left
             ·intro w'
              go_simp
              with_reducible rfl
             rotate_left
             ·exact P_
             refine pure_ (i := 18) (N := some 51) (v := ?_) (a' := ?_) #[T_,T_,T_,T_,T_,T_,T_,T_,T_,T_,T_,T_,T_,T_,T_,T_,T_,T_,T_,F_,F_,F_,F_,F_,F_,F_,F_,F_,F_,F_,F_,F_,F_,F_,F_,F_,F_,F_,F_,F_,F_] rfl rfl (any_of HT_.out (by kernel_rfl)) (fun _ _ _ h => h) (Or.inl ⟨by rfl, ?_⟩) ?_ ?_
             rotate_left
             ·intro w'
              go_simp
              with_reducible rfl
             rotate_left
             ·exact P_
             refine pure_ (i := 19) (N := some 52) (v := ?_) (a' := ?_) #[T_,T_,T_,T_,T_,T_,T_,T_,T_,T_,T_,T_,T_,T_,T_,T_,T_,T_,T_,T_,F_,F_,F_,F_,F_,F_,F_,F_,F_,F_,F_,F_,F_,F_,F_,F_,F_,F_,F_,F_,F_] rfl rfl (any_of HT_.out (by kernel_rfl)) (fun _ _ _ h => h) (Or.inl ⟨by rfl, ?_⟩) ?_ ?_
             rotate_left
             ·intro w'
              go_simp
              with_reducible rfl
             rotate_left
             ·exact P_
             refine pure_ (i := 20) (N := some 53) (v := undef) (a' := ?_) #[T_,T_,T_,T_,T_,T_,T_,T_,T_,T_,T_,T_,T_,T_,T_,T_,T_,T_,T_,T_,T_,F_,F_,F_,F_,F_,F_,F_,F_,F_,F_,F_,F_,F_,F_,F_,F_,F_,F_,F_,F_] rfl rfl (any_of HT_.out (by kernel_rfl)) (fun _ _ _ h => h) (Or.inr ⟨by rfl, rfl⟩) ?_ ?_
             rotate_left
             ·exact P_
             refine pure_ (i := 21) (N := some 54) (v := undef) (a' := ?_) #[T_,T_,T_,T_,T_,T_,T_,T_,T_,T_,T_,T_,T_,T_,T_,T_,T_,T_,T_,T_,T_,T_,F_,F_,F_,F_,F_,F_,F_,F_,F_,F_,F_,F_,F_,F_,F_,F_,F_,F_,F_] rfl rfl (any_of HT_.out (by kernel_rfl)) (fun _ _ _ h => h) (Or.inr ⟨by rfl, rfl⟩) ?_ ?_
             rotate_left
             ·exact P_
             refine pure_ (i := 22) (N := some 55) (v := undef) (a' := ?_) #[T_,T_,T_,T_,T_,T_,T_,T_,T_,T_,T_,T_,T_,T_,T_,T_,T_,T_,T_,T_,T_,T_,T_,F_,F_,F_,F_,F_,F_,F_,F_,F_,F_,F_,F_,F_,F_,F_,F_,F_,F_] rfl rfl (any_of HT_.out (by kernel_rfl)) (fun _ _ _ h => h) (Or.inr ⟨by rfl, rfl⟩) ?_ ?_
             rotate_left
             ·exact P_
             refine pure_ (i := 23) (N := some 56) (v := undef) (a' := ?_) #[T_,T_,T_,T_,T_,T_,T_,T_,T_,T_,T_,T_,T_,T_,T_,T_,T_,T_,T_,T_,T_,T_,T_,T_,F_,F_,F_,F_,F_,F_,F_,F_,F_,F_,F_,F_,F_,F_,F_,F_,F_] rfl rfl (any_of HT_.out (by kernel_rfl)) (fun _ _ _ h => h) (Or.inr ⟨by rfl, rfl⟩) ?_ ?_
             rotate_left
             ·exact P_
             refine pure_ (i := 24) (N := some 57) (v := undef) (a' := ?_) #[T_,T_,T_,T_,T_,T_,T_,T_,T_,T_,T_,T_,T_,T_,T_,T_,T_,T_,T_,T_,T_,T_,T_,T_,T_,F_,F_,F_,F_,F_,F_,F_,F_,F_,F_,F_,F_,F_,F_,F_,F_] rfl rfl (any_of HT_.out (by kernel_rfl)) (fun _ _ _ h => h) (Or.inr ⟨by rfl, rfl⟩) ?_ ?_
             rotate_left
             ·exact P_
             refine pure_ (i := 25) (N := some 58) (v := undef) (a' := ?_) #[T_,T_,T_,T_,T_,T_,T_,T_,T_,T_,T_,T_,T_,T_,T_,T_,T_,T_,T_,T_,T_,T_,T_,T_,T_,T_,F_,F_,F_,F_,F_,F_,F_,F_,F_,F_,F_,F_,F_,F_,F_] rfl rfl (any_of HT_.out (by kernel_rfl)) (fun _ _ _ h => h) (Or.inr ⟨by rfl, rfl⟩) ?_ ?_
             rotate_left
             ·exact P_
             refine pure_ (i := 26) (N := some 59) (v := undef) (a' := ?_) #[T_,T_,T_,T_,T_,T_,T_,T_,T_,T_,T_,T_,T_,T_,T_,T_,T_,T_,T_,T_,T_,T_,T_,T_,T_,T_,T_,F_,F_,F_,F_,F_,F_,F_,F_,F_,F_,F_,F_,F_,F_] rfl rfl (any_of HT_.out (by kernel_rfl)) (fun _ _ _ h => h) (Or.inr ⟨by rfl, rfl⟩) ?_ ?_
             rotate_left
             ·exact P_
             refine pure_ (i := 27) (N := some 60) (v := undef) (a' := ?_) #[T_,T_,T_,T_,T_,T_,T_,T_,T_,T_,T_,T_,T_,T_,T_,T_,T_,T_,T_,T_,T_,T_,T_,T_,T_,T_,T_,T_,F_,F_,F_,F_,F_,F_,F_,F_,F_,F_,F_,F_,F_] rfl rfl (any_of HT_.out (by kernel_rfl)) (fun _ _ _ h => h) (Or.inr ⟨by rfl, rfl⟩) ?_ ?_
             rotate_left
             ·exact P_
             refine pure_ (i := 28) (N := some 61) (v := undef) (a' := ?_) #[T_,T_,T_,T_,T_,T_,T_,T_,T_,T_,T_,T_,T_,T_,T_,T_,T_,T_,T_,T_,T_,T_,T_,T_,T_,T_,T_,T_,T_,F_,F_,F_,F_,F_,F_,F_,F_,F_,F_,F_,F_] rfl rfl (any_of HT_.out (by kernel_rfl)) (fun _ _ _ h => h) (Or.inr ⟨by rfl, rfl⟩) ?_ ?_
             rotate_left
             ·exact P_
             refine pure_ (i := 29) (N := some 62) (v := undef) (a' := ?_) #[T_,T_,T_,T_,T_,T_,T_,T_,T_,T_,T_,T_,T_,T_,T_,T_,T_,T_,T_,T_,T_,T_,T_,T_,T_,T_,T_,T_,T_,T_,F_,F_,F_,F_,F_,F_,F_,F_,F_,F_,F_] rfl rfl (any_of HT_.out (by kernel_rfl)) (fun _ _ _ h => h) (Or.inr ⟨by rfl, rfl⟩) ?_ ?_
             rotate_left
             ·exact P_
             refine pure_ (i := 30) (N := some 63) (v := undef) (a' := ?_) #[T_,T_,T_,T_,T_,T_,T_,T_,T_,T_,T_,T_,T_,T_,T_,T_,T_,T_,T_,T_,T_,T_,T_,T_,T_,T_,T_,T_,T_,T_,T_,F_,F_,F_,F_,F_,F_,F_,F_,F_,F_] rfl rfl (any_of HT_.out (by kernel_rfl)) (fun _ _ _ h => h) (Or.inr ⟨by rfl, rfl⟩) ?_ ?_
             rotate_left
             ·exact P_
             refine pure_ (i := 31) (N := some 64) (v := undef) (a' := ?_) #[T_,T_,T_,T_,T_,T_,T_,T_,T_,T_,T_,T_,T_,T_,T_,T_,T_,T_,T_,T_,T_,T_,T_,T_,T_,T_,T_,T_,T_,T_,T_,T_,F_,F_,F_,F_,F_,F_,F_,F_,F_] rfl rfl (any_of HT_.out (by kernel_rfl)) (fun _ _ _ h => h) (Or.inr ⟨by rfl, rfl⟩) ?_ ?_
             rotate_left
             ·exact P_
             refine pure_ (i := 32) (N := some 65) (v := undef) (a' := ?_) #[T_,T_,T_,T_,T_,T_,T_,T_,T_,T_,T_,T_,T_,T_,T_,T_,T_,T_,T_,T_,T_,T_,T_,T_,T_,T_,T_,T_,T_,T_,T_,T_,T_,F_,F_,F_,F_,F_,F_,F_,F_] rfl rfl (any_of HT_.out (by kernel_rfl)) (fun _ _ _ h => h) (Or.inr ⟨by rfl, rfl⟩) ?_ ?_
             rotate_left
             ·exact P_
             refine pure_ (i := 33) (N := some 66) (v := undef) (a' := ?_) #[T_,T_,T_,T_,T_,T_,T_,T_,T_,T_,T_,T_,T_,T_,T_,T_,T_,T_,T_,T_,T_,T_,T_,T_,T_,T_,T_,T_,T_,T_,T_,T_,T_,T_,F_,F_,F_,F_,F_,F_,F_] rfl rfl (any_of HT_.out (by kernel_rfl)) (fun _ _ _ h => h) (Or.inr ⟨by rfl, rfl⟩) ?_ ?_
             rotate_left
             ·exact P_
             refine pure_ (i := 34) (N := some 67) (v := undef) (a' := ?_) #[T_,T_,T_,T_,T_,T_,T_,T_,T_,T_,T_,T_,T_,T_,T_,T_,T_,T_,T_,T_,T_,T_,T_,T_,T_,T_,T_,T_,T_,T_,T_,T_,T_,T_,T_,F_,F_,F_,F_,F_,F_] rfl rfl (any_of HT_.out (by kernel_rfl)) (fun _ _ _ h => h) (Or.inr ⟨by rfl, rfl⟩) ?_ ?_
             rotate_left
             ·exact P_
             refine pure_ (i := 35) (N := some 68) (v := undef) (a' := ?_) #[T_,T_,T_,T_,T_,T_,T_,T_,T_,T_,T_,T_,T_,T_,T_,T_,T_,T_,T_,T_,T_,T_,T_,T_,T_,T_,T_,T_,T_,T_,T_,T_,T_,T_,T_,T_,F_,F_,F_,F_,F_] rfl rfl (any_of HT_.out (by kernel_rfl)) (fun _ _ _ h => h) (Or.inr ⟨by rfl, rfl⟩) ?_ ?_
             rotate_left
             ·exact P_
             refine pure_ (i := 36) (N := some 69) (v := undef) (a' := ?_) #[T_,T_,T_,T_,T_,T_,T_,T_,T_,T_,T_,T_,T_,T_,T_,T_,T_,T_,T_,T_,T_,T_,T_,T_,T_,T_,T_,T_,T_,T_,T_,T_,T_,T_,T_,T_,T_,F_,F_,F_,F_] rfl rfl (any_of HT_.out (by kernel_rfl)) (fun _ _ _ h => h) (Or.inr ⟨by rfl, rfl⟩) ?_ ?_
             rotate_left
             ·exact P_
             refine pure_ (i := 37) (N := some 70) (v := undef) (a' := ?_) #[T_,T_,T_,T_,T_,T_,T_,T_,T_,T_,T_,T_,T_,T_,T_,T_,T_,T_,T_,T_,T_,T_,T_,T_,T_,T_,T_,T_,T_,T_,T_,T_,T_,T_,T_,T_,T_,T_,F_,F_,F_] rfl rfl (any_of HT_.out (by kernel_rfl)) (fun _ _ _ h => h) (Or.inr ⟨by rfl, rfl⟩) ?_ ?_
             rotate_left
             ·exact P_
             refine pure_ (i := 38) (N := some 71) (v := undef) (a' := ?_) #[T_,T_,T_,T_,T_,T_,T_,T_,T_,T_,T_,T_,T_,T_,T_,T_,T_,T_,T_,T_,T_,T_,T_,T_,T_,T_,T_,T_,T_,T_,T_,T_,T_,T_,T_,T_,T_,T_,T_,F_,F_] rfl rfl (any_of HT_.out (by kernel_rfl)) (fun _ _ _ h => h) (Or.inr ⟨by rfl, rfl⟩) ?_ ?_
             rotate_left
             ·exact P_
             refine pure_ (i := 39) (N := some 72) (v := undef) (a' := ?_) #[T_,T_,T_,T_,T_,T_,T_,T_,T_,T_,T_,T_,T_,T_,T_,T_,T_,T_,T_,T_,T_,T_,T_,T_,T_,T_,T_,T_,T_,T_,T_,T_,T_,T_,T_,T_,T_,T_,T_,T_,F_] rfl rfl (any_of HT_.out (by kernel_rfl)) (fun _ _ _ h => h) (Or.inr ⟨by rfl, rfl⟩) ?_ ?_
             rotate_left
             ·exact P_
             refine pure_ (i := 40) (N := some 73) (v := ?_) (a' := ?_) #[T_,T_,T_,T_,T_,T_,T_,T_,T_,T_,T_,T_,T_,T_,T_,T_,T_,T_,T_,T_,T_,T_,T_,T_,T_,T_,T_,T_,T_,T_,T_,T_,T_,T_,T_,T_,T_,T_,T_,T_,T_] rfl rfl (any_of HT_.out (by kernel_rfl)) (fun _ _ _ h => h) (Or.inl ⟨by rfl, ?_⟩) ?_ ?_
             rotate_left
             ·intro w'
              go_simp
              with_reducible rfl
             rotate_left
             ·exact P_
             refine done_ (done_of HT_.out (by kernel_rfl)) ?_
             have hcz17_0 : w16.cell? ⟨gb319, 0, none⟩ = some (.slice none 0 0) := (blk_cell BK319.out 0).trans rfl
             have hcz17_1 : w16.cell? ⟨gb319, 1, none⟩ = some (.slice none 0 0) := (blk_cell BK319.out 1).trans rfl
             have hfz17_0 := blk_frozen BK319.out 0
             have hfz17_1 := blk_frozen BK319.out 1
             try go_wp2
             refine bodyPost_ret (results_ct rfl _ _ gb319 26 #[.slice none 0 0, .slice none 0 0] (0, 0) _ rfl (by (with_reducible repeat (first | refine blk_drewN ?_ _ | refine blk_drew ?_ | refine blk_alloc ?_ _)); refine blk_put (cs := #[.slice none 0 0, .slice none 0 0]) ?_ 1 _ rfl; (with_reducible repeat (first | refine blk_drewN ?_ _ | refine blk_drew ?_ | refine blk_alloc ?_ _)); refine blk_put (cs := #[.slice none 0 0, .slice none 0 0]) ?_ 0 _ rfl; exact KX_ BK319.out) Try.underlying26 rfl (by kernel_rfl)) rfl ?_
             exact ⟨_, _, by first | rfl | (simp [errW_none, errW_some] <;> rfl) | (simp [*, errW_none, errW_some] <;> rfl), Kd.V_nil _ _ _ _ _, by first | exact Kd.S_nil _ _ _ _ _ | exact Kd.N_nil _ _ _ _ _ | exact Kd.V_nil _ _ _ _ _ | exact Kd.Q_nil _ _ _ _ _ | exact Kd.R_nil _ _ _ _ _, B1_⟩
            rw [if_neg c15] at H
            have c15b0 : decide ((l0.length : Int) ≤ (rd (rd_L1 l0 x5_2) x6_3)) = false := decide_eq_false c15
            clear c15
            by_cases c18 : x6_3 > 0
            ·rw [if_pos c18] at H
             have c18b0 : decide (0 < x6_3) = true := decide_eq_true c18
             clear c18
             obtain ⟨ji19, hji19⟩ : ∃ j_ : Int, (wrap64 (x6_3 - 1)) = j_ := ⟨_, rfl⟩
             replace H : (if 0 ≤ (ji19) then (if (ji19) < ((rd_L1 l0 x5_2).length : Int) then (if (rd (rd_L1 l0 x5_2) x6_3) ≤ (rd (rd_L1 l0 x5_2) (ji19)) then (some (([] : List (List Int)), ([] : List (List Int)), 5)) else (lockstepref06_Make.l1 k3 l0 (l0.length : Int) x5_2 (wrap64 (x6_3 + 1)))) else (none)) else (none)) = some (r1, r2, r3) := by first | (rw [hji19] at H; exact H) | (simp only [hji19] at H ⊢; exact H)
             have hji19w : (IntKind.i64.wrap (x6_3 - 1)) = ji19 := (i64_w _).trans hji19
             by_cases c20 : 0 ≤ (ji19)
             ·rw [if_pos c20] at H
              have c20b0 : decide (0 ≤ (ji19)) = true := decide_eq_true c20
              clear c20
              by_cases c21 : (ji19) < ((rd_L1 l0 x5_2).length : Int)
              ·rw [if_pos c21] at H
               have c21b0 : decide ((ji19) < ((rd_L1 l0 x5_2).length : Int)) = true := decide_eq_true c21
               clear c21
               by_cases c22 : (rd (rd_L1 l0 x5_2) x6_3) ≤ (rd (rd_L1 l0 x5_2) (ji19))
               ·rw [if_pos c22] at H
                have c22b0 : decide ((rd (rd_L1 l0 x5_2) x6_3) ≤ (rd (rd_L1 l0 x5_2) (ji19))) = true := decide_eq_true c22
                clear c22
                simp only [Option.some.injEq, Prod.mk.injEq] at H
                obtain ⟨rfl, rfl, rfl⟩ := H
                have p320 : 0 ≤ (x5_2 : Int) := D_
                have q320 : x5_2 < (l0.length : Int) := D_
                obtain ⟨ad320, A320_0, c320_0, e320, hx320_0, hl320_0, hi320_0⟩ := at_L1 (Kd.V_reads' HO_0.out).2.2 x5_2 p320 q320
                cases e320
                obtain ⟨ce320, hce320, hMe320, hcc320⟩ := Kd.V_get HO_0.out [] x5_2 p320 (by first | exact q320 | exact D_ | (have e_ := (Kd.V_reads' HO_0.out).1; omega))
                obtain ⟨ua320_0, uc320_0, rfl, ul320_0, ge320_0⟩ := Kd.FK_slice_open hMe320
                have hv320_0 := hcc320 0 _ rfl
                rw [Nat.add_zero, show ((Kd.slice 3 (Kd.int .i64))).sz = 1 from rfl, Nat.mul_one] at hv320_0
                replace hv320_0 := Option.some.inj (hv320_0.symm.trans hx320_0)
                injection hv320_0 with hva_ hvn_ hvc_
                rw [hva_] at ge320_0
                rw [hvc_] at ul320_0
                have HL320_0 := Aside0.mk (show Kd.V (Kd.int .i64) 3 _ w.heap.size _ _ (rd_L1 l0 x5_2) from Kd.V_mk ul320_0 ge320_0)
                clear hva_ hvn_ hvc_ ge320_0 ul320_0
                clear hcc320 hce320
                have HR320_0 := Aside0.mk hi320_0
                have HC320_0 := Aside0.mk hl320_0
                clear hi320_0 hl320_0
                replace p320 := eq_true p320
                replace q320 := eq_true q320
                try go_wp2
                have n0_ := Aside0.mk (Kd.V_drew HO_0.out)
                have n1_ := Aside0.mk (Kd.V_drew HL320_0.out)
                have n2_ := Aside0.mk (blk_drew BK319.out)
                have n3_ := Aside0.mk (Kd.C_drew HR320_0.out)
                have n4_ := Aside0.mk (below_drew1 HB.out)
                clear HO_0
                clear HL320_0
                clear BK319
                clear HR320_0
                clear HB
                have HO_0 := n0_
                have HL320_0 := n1_
                have BK319 := n2_
                have HR320_0 := n3_
                have HB := n4_
                clear n0_ n1_ n2_ n3_ n4_
                have p321 : 0 ≤ (x5_2 : Int) := D_
                have q321 : x5_2 < (l0.length : Int) := D_
                obtain ⟨ad321, A321_0, c321_0, e321, hx321_0, hl321_0, hi321_0⟩ := at_L1 (Kd.V_reads' HO_0.out).2.2 x5_2 p321 q321
                obtain rfl : ad320 = ad321 := (by injection e321)
                obtain ⟨ce321, hce321, hMe321, hcc321⟩ := Kd.V_get HO_0.out [] x5_2 p321 (by first | exact q321 | exact D_ | (have e_ := (Kd.V_reads' HO_0.out).1; omega))
                obtain ⟨ua321_0, uc321_0, rfl, ul321_0, ge321_0⟩ := Kd.FK_slice_open hMe321
                have hv321_0 := hcc321 0 _ rfl
                rw [Nat.add_zero, show ((Kd.slice 3 (Kd.int .i64))).sz = 1 from rfl, Nat.mul_one] at hv321_0
                replace hv321_0 := Option.some.inj (hv321_0.symm.trans hx321_0)
                injection hv321_0 with hva_ hvn_ hvc_
                rw [hva_] at ge321_0
                rw [hvc_] at ul321_0
                have HL321_0 := Aside0.mk (show Kd.V (Kd.int .i64) 3 _ w.heap.size _ _ (rd_L1 l0 x5_2) from Kd.V_mk ul321_0 ge321_0)
                clear hva_ hvn_ hvc_ ge321_0 ul321_0
                clear hcc321 hce321
                have HR321_0 := Aside0.mk hi321_0
                have HC321_0 := Aside0.mk hl321_0
                clear hi321_0 hl321_0
                replace p321 := eq_true p321
                replace q321 := eq_true q321
                have p322 : 0 ≤ (x6_3 : Int) := D_
                have q322 : x6_3 < ((rd_L1 l0 x5_2).length : Int) := D_
                obtain ⟨ad322, e322, hx322_0⟩ := Kd.at_int (by repeat (first | (with_reducible exact HR321_0.out) | (with_reducible refine Kd.C_alloc ?_ _) | (with_reducible refine Kd.C_drewN ?_ _) | (with_reducible refine Kd.C_drew ?_) | exact HR321_0.out)) x6_3 p322 q322
                cases e322
                replace p322 := eq_true p322
                replace q322 := eq_true q322
                have p323 : 0 ≤ (x5_2 : Int) := D_
                have q323 : x5_2 < (l0.length : Int) := D_
                obtain ⟨ad323, A323_0, c323_0, e323, hx323_0, hl323_0, hi323_0⟩ := at_L1 (Kd.V_reads' HO_0.out).2.2 x5_2 p323 q323
                obtain rfl : ad320 = ad323 := (by injection e323)
                obtain ⟨ce323, hce323, hMe323, hcc323⟩ := Kd.V_get HO_0.out [] x5_2 p323 (by first | exact q323 | exact D_ | (have e_ := (Kd.V_reads' HO_0.out).1; omega))
                obtain ⟨ua323_0, uc323_0, rfl, ul323_0, ge323_0⟩ := Kd.FK_slice_open hMe323
                have hv323_0 := hcc323 0 _ rfl
                rw [Nat.add_zero, show ((Kd.slice 3 (Kd.int .i64))).sz = 1 from rfl, Nat.mul_one] at hv323_0
                replace hv323_0 := Option.some.inj (hv323_0.symm.trans hx323_0)
                injection hv323_0 with hva_ hvn_ hvc_
                rw [hva_] at ge323_0
                rw [hvc_] at ul323_0
                have HL323_0 := Aside0.mk (show Kd.V (Kd.int .i64) 3 _ w.heap.size _ _ (rd_L1 l0 x5_2) from Kd.V_mk ul323_0 ge323_0)
                clear hva_ hvn_ hvc_ ge323_0 ul323_0
                clear hcc323 hce323
                have HR323_0 := Aside0.mk hi323_0
                have HC323_0 := Aside0.mk hl323_0
                clear hi323_0 hl323_0
                replace p323 := eq_true p323
                replace q323 := eq_true q323
                have ea_ := Option.some.inj (hx321_0.symm.trans hx323_0)
                injection ea_ with ea_ en_ ec_
                subst ea_
                subst ec_
                clear en_
                have p324 : 0 ≤ (x6_3 : Int) := D_
                have q324 : x6_3 < ((rd_L1 l0 x5_2).length : Int) := D_
                obtain ⟨ad324, e324, hx324_0⟩ := Kd.at_int (by repeat (first | (with_reducible exact HR323_0.out) | (with_reducible refine Kd.C_alloc ?_ _) | (with_reducible refine Kd.C_drewN ?_ _) | (with_reducible refine Kd.C_drew ?_) | exact HR323_0.out)) x6_3 p324 q324
                cases e324
                replace p324 := eq_true p324
                replace q324 := eq_true q324
                have p325 : 0 ≤ (x5_2 : Int) := D_
                have q325 : x5_2 < (l0.length : Int) := D_
                obtain ⟨ad325, A325_0, c325_0, e325, hx325_0, hl325_0, hi325_0⟩ := at_L1 (Kd.V_reads' HO_0.out).2.2 x5_2 p325 q325
                obtain rfl : ad320 = ad325 := (by injection e325)
                obtain ⟨ce325, hce325, hMe325, hcc325⟩ := Kd.V_get HO_0.out [] x5_2 p325 (by first | exact q325 | exact D_ | (have e_ := (Kd.V_reads' HO_0.out).1; omega))
                obtain ⟨ua325_0, uc325_0, rfl, ul325_0, ge325_0⟩ := Kd.FK_slice_open hMe325
                have hv325_0 := hcc325 0 _ rfl
                rw [Nat.add_zero, show ((Kd.slice 3 (Kd.int .i64))).sz = 1 from rfl, Nat.mul_one] at hv325_0
                replace hv325_0 := Option.some.inj (hv325_0.symm.trans hx325_0)
                injection hv325_0 with hva_ hvn_ hvc_
                rw [hva_] at ge325_0
                rw [hvc_] at ul325_0
                have HL325_0 := Aside0.mk (show Kd.V (Kd.int .i64) 3 _ w.heap.size _ _ (rd_L1 l0 x5_2) from Kd.V_mk ul325_0 ge325_0)
                clear hva_ hvn_ hvc_ ge325_0 ul325_0
                clear hcc325 hce325
                have HR325_0 := Aside0.mk hi325_0
                have HC325_0 := Aside0.mk hl325_0
                clear hi325_0 hl325_0
                replace p325 := eq_true p325
                replace q325 := eq_true q325
                have ea_ := Option.some.inj (hx321_0.symm.trans hx325_0)
                injection ea_ with ea_ en_ ec_
                subst ea_
                subst ec_
                clear en_
                have p326 : 0 ≤ (x6_3 : Int) := D_
                have q326 : x6_3 < ((rd_L1 l0 x5_2).length : Int) := D_
                obtain ⟨ad326, e326, hx326_0⟩ := Kd.at_int (by repeat (first | (with_reducible exact HR325_0.out) | (with_reducible refine Kd.C_alloc ?_ _) | (with_reducible refine Kd.C_drewN ?_ _) | (with_reducible refine Kd.C_drew ?_) | exact HR325_0.out)) x6_3 p326 q326
                cases e326
                replace p326 := eq_true p326
                replace q326 := eq_true q326
                have p327 : 0 ≤ (x5_2 : Int) := D_
                have q327 : x5_2 < (l0.length : Int) := D_
                obtain ⟨ad327, A327_0, c327_0, e327, hx327_0, hl327_0, hi327_0⟩ := at_L1 (Kd.V_reads' HO_0.out).2.2 x5_2 p327 q327
                obtain rfl : ad320 = ad327 := (by injection e327)
                obtain ⟨ce327, hce327, hMe327, hcc327⟩ := Kd.V_get HO_0.out [] x5_2 p327 (by first | exact q327 | exact D_ | (have e_ := (Kd.V_reads' HO_0.out).1; omega))
                obtain ⟨ua327_0, uc327_0, rfl, ul327_0, ge327_0⟩ := Kd.FK_slice_open hMe327
                have hv327_0 := hcc327 0 _ rfl
                rw [Nat.add_zero, show ((Kd.slice 3 (Kd.int .i64))).sz = 1 from rfl, Nat.mul_one] at hv327_0
                replace hv327_0 := Option.some.inj (hv327_0.symm.trans hx327_0)
                injection hv327_0 with hva_ hvn_ hvc_
                rw [hva_] at ge327_0
                rw [hvc_] at ul327_0
                have HL327_0 := Aside0.mk (show Kd.V (Kd.int .i64) 3 _ w.heap.size _ _ (rd_L1 l0 x5_2) from Kd.V_mk ul327_0 ge327_0)
                clear hva_ hvn_ hvc_ ge327_0 ul327_0
                clear hcc327 hce327
                have HR327_0 := Aside0.mk hi327_0
                have HC327_0 := Aside0.mk hl327_0
                clear hi327_0 hl327_0
                replace p327 := eq_true p327
                replace q327 := eq_true q327
                have ea_ := Option.some.inj (hx321_0.symm.trans hx327_0)
                injection ea_ with ea_ en_ ec_
                subst ea_
                subst ec_
                clear en_
                have p328 : 0 ≤ ((ji19) : Int) := D_
                have q328 : (ji19) < ((rd_L1 l0 x5_2).length : Int) := D_
                obtain ⟨ad328, e328, hx328_0⟩ := Kd.at_int (by repeat (first | (with_reducible exact HR327_0.out) | (with_reducible refine Kd.C_alloc ?_ _) | (with_reducible refine Kd.C_drewN ?_ _) | (with_reducible refine Kd.C_drew ?_) | exact HR327_0.out)) (ji19) p328 q328
                cases e328
                replace p328 := eq_true p328
                replace q328 := eq_true q328
                refine start_ (n := 41) (S := fun w' => w'.cell? (ad320.add (x5_2).toNat) = some (.slice (some ad322) (rd_L1 l0 x5_2).length c321_0) ∧ w'.cell? (ad322.add (x6_3).toNat) = some (.int .i64 (rd (rd_L1 l0 x5_2) x6_3)) ∧ w'.cell? (ad320.add (x5_2).toNat) = some (.slice (some ad322) (rd_L1 l0 x5_2).length c321_0) ∧ w'.cell? (ad322.add (x6_3).toNat) = some (.int .i64 (rd (rd_L1 l0 x5_2) x6_3)) ∧ w'.cell? (ad320.add (x5_2).toNat) = some (.slice (some ad322) (rd_L1 l0 x5_2).length c321_0) ∧ w'.cell? (ad322.add (x6_3).toNat) = some (.int .i64 (rd (rd_L1 l0 x5_2) x6_3)) ∧ w'.cell? (ad320.add (x5_2).toNat) = some (.slice (some ad322) (rd_L1 l0 x5_2).length c321_0) ∧ w'.cell? (ad322.add ((ji19)).toNat) = some (.int .i64 (rd (rd_L1 l0 x5_2) (ji19)))) (ds := []) #[F_,F_,F_,F_,F_,F_,F_,F_,F_,F_,F_,F_,F_,F_,F_,F_,F_,F_,F_,F_,F_,F_,F_,F_,F_,F_,F_,F_,F_,F_,F_,F_,F_,F_,F_,F_,F_,F_,F_,F_,F_] (by kernel_rfl) rfl rfl ⟨hx321_0, hx322_0, hx323_0, hx324_0, hx325_0, hx326_0, hx327_0, hx328_0⟩ (fun hHeld => ?_); refine with_tabW lockstepref06_Make.tab10 lockstepref06_Make.bits10 (fun HT_ HW_ => ?_)
                generalize wr.drew = w23 at HO_0 HL320_0 BK319 HR320_0 HB HL321_0 HL323_0 HL325_0 HL327_0 HR321_0 HR323_0 HR325_0 HR327_0 hx321_0 hx322_0 hx323_0 hx324_0 hx325_0 hx326_0 hx327_0 hx328_0 hHeld ⊢
                refine pure_ (i := 0) (N := some 33) (v := ?_) (a' := ?_) #[T_,F_,F_,F_,F_,F_,F_,F_,F_,F_,F_,F_,F_,F_,F_,F_,F_,F_,F_,F_,F_,F_,F_,F_,F_,F_,F_,F_,F_,F_,F_,F_,F_,F_,F_,F_,F_,F_,F_,F_,F_] rfl rfl (any_of HT_.out (by kernel_rfl)) (fun _ _ _ h => h) (Or.inl ⟨by rfl, ?_⟩) ?_ ?_
                rotate_left
                ·intro w'
                 go_simp
                 with_reducible rfl
                rotate_left
                ·exact P_
                refine pure_ (i := 1) (N := some 34) (v := ?_) (a' := ?_) #[T_,T_,F_,F_,F_,F_,F_,F_,F_,F_,F_,F_,F_,F_,F_,F_,F_,F_,F_,F_,F_,F_,F_,F_,F_,F_,F_,F_,F_,F_,F_,F_,F_,F_,F_,F_,F_,F_,F_,F_,F_] rfl rfl (any_of HT_.out (by kernel_rfl)) (fun _ _ _ h => h) (Or.inl ⟨by rfl, ?_⟩) ?_ ?_
                rotate_left
                ·intro w'
                 go_simp
                 with_reducible rfl
                rotate_left
                ·exact P_
                refine pure_ (i := 2) (N := some 35) (v := ?_) (a' := ?_) #[T_,T_,T_,F_,F_,F_,F_,F_,F_,F_,F_,F_,F_,F_,F_,F_,F_,F_,F_,F_,F_,F_,F_,F_,F_,F_,F_,F_,F_,F_,F_,F_,F_,F_,F_,F_,F_,F_,F_,F_,F_] rfl rfl (any_of HT_.out (by kernel_rfl)) (fun _ _ _ h => h) (Or.inl ⟨by rfl, ?_⟩) ?_ ?_
                rotate_left
                ·intro w'
                 go_simp
                 with_reducible rfl
                rotate_left
                ·exact P_
                refine pure_ (i := 4) (N := some 37) (v := ?_) (a' := ?_) #[T_,T_,T_,F_,T_,F_,F_,F_,F_,F_,F_,F_,F_,F_,F_,F_,F_,F_,F_,F_,F_,F_,F_,F_,F_,F_,F_,F_,F_,F_,F_,F_,F_,F_,F_,F_,F_,F_,F_,F_,F_] rfl rfl (any_of HT_.out (by kernel_rfl)) (fun _ _ _ h => h) (Or.inl ⟨by rfl, ?_⟩) ?_ ?_
                rotate_left
                ·intro w'
                 go_simp
                 with_reducible rfl
                rotate_left
                ·exact P_
                refine take_ (i := 3) (N := some 36) (v := ?_) (a' := ?_) #[T_,T_,T_,T_,T_,F_,F_,F_,F_,F_,F_,F_,F_,F_,F_,F_,F_,F_,F_,F_,F_,F_,F_,F_,F_,F_,F_,F_,F_,F_,F_,F_,F_,F_,F_,F_,F_,F_,F_,F_,F_] rfl rfl (take_ofW HT_.out HW_.out (by kernel_rfl)) (fun _ _ _ h => h) (Or.inl ⟨by rfl, ?_⟩) hHeld ?_ ?_
                rotate_left
                ·rintro w' ⟨s0, s1, s2, s3, s4, s5, s6, s7⟩
                 go_simp
                 with_reducible rfl
                rotate_left
                ·exact P_
                refine pure_ (i := 5) (N := some 38) (v := ?_) (a' := ?_) #[T_,T_,T_,T_,T_,T_,F_,F_,F_,F_,F_,F_,F_,F_,F_,F_,F_,F_,F_,F_,F_,F_,F_,F_,F_,F_,F_,F_,F_,F_,F_,F_,F_,F_,F_,F_,F_,F_,F_,F_,F_] rfl rfl (any_of HT_.out (by kernel_rfl)) (fun _ _ _ h => h) (Or.inl ⟨by rfl, ?_⟩) ?_ ?_
                rotate_left
                ·intro w'
                 go_simp
                 with_reducible rfl
                rotate_left
                ·exact P_
                refine take_ (i := 6) (N := some 39) (v := ?_) (a' := ?_) #[T_,T_,T_,T_,T_,T_,T_,F_,F_,F_,F_,F_,F_,F_,F_,F_,F_,F_,F_,F_,F_,F_,F_,F_,F_,F_,F_,F_,F_,F_,F_,F_,F_,F_,F_,F_,F_,F_,F_,F_,F_] rfl rfl (take_ofW HT_.out HW_.out (by kernel_rfl)) (fun _ _ _ h => h) (Or.inl ⟨by rfl, ?_⟩) hHeld ?_ ?_
                rotate_left
                ·rintro w' ⟨s0, s1, s2, s3, s4, s5, s6, s7⟩
                 go_simp
                 with_reducible rfl
                rotate_left
                ·exact P_
                refine pure_ (i := 7) (N := some 40) (v := ?_) (a' := ?_) #[T_,T_,T_,T_,T_,T_,T_,T_,F_,F_,F_,F_,F_,F_,F_,F_,F_,F_,F_,F_,F_,F_,F_,F_,F_,F_,F_,F_,F_,F_,F_,F_,F_,F_,F_,F_,F_,F_,F_,F_,F_] rfl rfl (any_of HT_.out (by kernel_rfl)) (fun _ _ _ h => h) (Or.inl ⟨by rfl, ?_⟩) ?_ ?_
                rotate_left
                ·intro w'
                 go_simp
                 with_reducible rfl
                rotate_left
                ·exact P_
                refine pure_ (i := 8) (N := some 41) (v := ?_) (a' := ?_) #[T_,T_,T_,T_,T_,T_,T_,T_,T_,F_,F_,F_,F_,F_,F_,F_,F_,F_,F_,F_,F_,F_,F_,F_,F_,F_,F_,F_,F_,F_,F_,F_,F_,F_,F_,F_,F_,F_,F_,F_,F_] rfl rfl (any_of HT_.out (by kernel_rfl)) (fun _ _ _ h => h) (Or.inl ⟨by rfl, ?_⟩) ?_ ?_
                rotate_left
                ·intro w'
                 go_simp
                 with_reducible rfl
                rotate_left
                ·exact P_
                refine pure_ (i := 9) (N := some 42) (v := ?_) (a' := ?_) #[T_,T_,T_,T_,T_,T_,T_,T_,T_,T_,F_,F_,F_,F_,F_,F_,F_,F_,F_,F_,F_,F_,F_,F_,F_,F_,F_,F_,F_,F_,F_,F_,F_,F_,F_,F_,F_,F_,F_,F_,F_] rfl rfl (any_of HT_.out (by kernel_rfl)) (fun _ _ _ h => h) (Or.inl ⟨by rfl, ?_⟩) ?_ ?_
                rotate_left
                ·intro w'
                 go_simp
                 with_reducible rfl
                rotate_left
                ·exact P_
                refine pure_ (i := 10) (N := some 43) (v := ?_) (a' := ?_) #[T_,T_,T_,T_,T_,T_,T_,T_,T_,T_,T_,F_,F_,F_,F_,F_,F_,F_,F_,F_,F_,F_,F_,F_,F_,F_,F_,F_,F_,F_,F_,F_,F_,F_,F_,F_,F_,F_,F_,F_,F_] rfl rfl (any_of HT_.out (by kernel_rfl)) (fun _ _ _ h => h) (Or.inl ⟨by rfl, ?_⟩) ?_ ?_
                rotate_left
                ·intro w'
                 go_simp
                 with_reducible rfl
                rotate_left
                ·exact P_
                refine pure_ (i := 11) (N := some 44) (v := ?_) (a' := ?_) #[T_,T_,T_,T_,T_,T_,T_,T_,T_,T_,T_,T_,F_,F_,F_,F_,F_,F_,F_,F_,F_,F_,F_,F_,F_,F_,F_,F_,F_,F_,F_,F_,F_,F_,F_,F_,F_,F_,F_,F_,F_] rfl rfl (any_of HT_.out (by kernel_rfl)) (fun _ _ _ h => h) (Or.inl ⟨by rfl, ?_⟩) ?_ ?_
                rotate_left
                ·intro w'
                 go_simp
                 with_reducible rfl
                rotate_left
                ·exact P_
                refine pure_ (i := 13) (N := some 46) (v := ?_) (a' := ?_) #[T_,T_,T_,T_,T_,T_,T_,T_,T_,T_,T_,T_,F_,T_,F_,F_,F_,F_,F_,F_,F_,F_,F_,F_,F_,F_,F_,F_,F_,F_,F_,F_,F_,F_,F_,F_,F_,F_,F_,F_,F_] rfl rfl (any_of HT_.out (by kernel_rfl)) (fun _ _ _ h => h) (Or.inl ⟨by rfl, ?_⟩) ?_ ?_
                rotate_left
                ·intro w'
                 go_simp
                 with_reducible rfl
                rotate_left
                ·exact P_
                refine pure_ (i := 16) (N := some 49) (v := ?_) (a' := ?_) #[T_,T_,T_,T_,T_,T_,T_,T_,T_,T_,T_,T_,F_,T_,F_,F_,T_,F_,F_,F_,F_,F_,F_,F_,F_,F_,F_,F_,F_,F_,F_,F_,F_,F_,F_,F_,F_,F_,F_,F_,F_] rfl rfl (any_of HT_.out (by kernel_rfl)) (fun _ _ _ h => h) (Or.inl ⟨by rfl, ?_⟩) ?_ ?_
                rotate_left
                ·intro w'
                 go_simp
                 with_reducible rfl
                rotate_left
                ·exact P_
                refine take_ (i := 12) (N := some 45) (v := ?_) (a' := ?_) #[T_,T_,T_,T_,T_,T_,T_,T_,T_,T_,T_,T_,T_,T_,F_,F_,T_,F_,F_,F_,F_,F_,F_,F_,F_,F_,F_,F_,F_,F_,F_,F_,F_,F_,F_,F_,F_,F_,F_,F_,F_] rfl rfl (take_ofW HT_.out HW_.out (by kernel_rfl)) (fun _ _ _ h => h) (Or.inl ⟨by rfl, ?_⟩) hHeld ?_ ?_
                rotate_left
                ·rintro w' ⟨s0, s1, s2, s3, s4, s5, s6, s7⟩
                 go_simp
                 with_reducible rfl
                rotate_left
                ·exact P_
                refine pure_ (i := 14) (N := some 47) (v := ?_) (a' := ?_) #[T_,T_,T_,T_,T_,T_,T_,T_,T_,T_,T_,T_,T_,T_,T_,F_,T_,F_,F_,F_,F_,F_,F_,F_,F_,F_,F_,F_,F_,F_,F_,F_,F_,F_,F_,F_,F_,F_,F_,F_,F_] rfl rfl (any_of HT_.out (by kernel_rfl)) (fun _ _ _ h => h) (Or.inl ⟨by rfl, ?_⟩) ?_ ?_
                rotate_left
                ·intro w'
                 go_simp
                 with_reducible rfl
                rotate_left
                ·exact P_
                refine take_ (i := 15) (N := some 48) (v := ?_) (a' := ?_) #[T_,T_,T_,T_,T_,T_,T_,T_,T_,T_,T_,T_,T_,T_,T_,T_,T_,F_,F_,F_,F_,F_,F_,F_,F_,F_,F_,F_,F_,F_,F_,F_,F_,F_,F_,F_,F_,F_,F_,F_,F_] rfl rfl (take_ofW HT_.out HW_.out (by kernel_rfl)) (fun _ _ _ h => h) (Or.inl ⟨by rfl, ?_⟩) hHeld ?_ ?_
                rotate_left
                ·rintro w' ⟨s0, s1, s2, s3, s4, s5, s6, s7⟩
                 go_simp
                 with_reducible rfl
                rotate_left
                ·exact P_
                refine pure_ (i := 17) (N := some 50) (v := ?_) (a' := ?_) #[T_,T_,T_,T_,T_,T_,T_,T_,T_,T_,T_,T_,T_,T_,T_,T_,T_,T_,F_,F_,F_,F_,F_,F_,F_,F_,F_,F_,F_,F_,F_,F_,F_,F_,F_,F_,F_,F_,F_,F_,F_] rfl rfl (any_of HT_.out (by kernel_rfl)) (fun _ _ _ h => h) (Or.inl ⟨by rfl, ?_⟩) ?_ ?_
                rotate_left
                ·intro w'
                 go_simp
                 with_reducible rfl
                rotate_left
                ·exact P_
                refine pure_ (i := 18) (N := some 51) (v := ?_) (a' := ?_) #[T_,T_,T_,T_,T_,T_,T_,T_,T_,T_,T_,T_,T_,T_,T_,T_,T_,T_,T_,F_,F_,F_,F_,F_,F_,F_,F_,F_,F_,F_,F_,F_,F_,F_,F_,F_,F_,F_,F_,F_,F_] rfl rfl (any_of HT_.out (by kernel_rfl)) (fun _ _ _ h => h) (Or.inl ⟨by rfl, ?_⟩) ?_ ?_
                rotate_left
                ·intro w'
                 go_simp
                 with_reducible rfl
                rotate_left
                ·exact P_
                refine pure_ (i := 19) (N := some 52) (v := ?_) (a' := ?_) #[T_,T_,T_,T_,T_,T_,T_,T_,T_,T_,T_,T_,T_,T_,T_,T_,T_,T_,T_,T_,F_,F_,F_,F_,F_,F_,F_,F_,F_,F_,F_,F_,F_,F_,F_,F_,F_,F_,F_,F_,F_] rfl rfl (any_of HT_.out (by kernel_rfl)) (fun _ _ _ h => h) (Or.inl ⟨by rfl, ?_⟩) ?_ ?_
                rotate_left
                ·intro w'
                 go_simp
                 with_reducible rfl
                rotate_left
                ·exact P_
                refine pure_ (i := 20) (N := some 53) (v := ?_) (a' := ?_) #[T_,T_,T_,T_,T_,T_,T_,T_,T_,T_,T_,T_,T_,T_,T_,T_,T_,T_,T_,T_,T_,F_,F_,F_,F_,F_,F_,F_,F_,F_,F_,F_,F_,F_,F_,F_,F_,F_,F_,F_,F_] rfl rfl (any_of HT_.out (by kernel_rfl)) (fun _ _ _ h => h) (Or.inl ⟨by rfl, ?_⟩) ?_ ?_
                rotate_left
                ·intro w'
                 go_simp
                 with_reducible rfl
                rotate_left
                ·exact P_
                refine pure_ (i := 21) (N := some 54) (v := ?_) (a' := ?_) #[T_,T_,T_,T_,T_,T_,T_,T_,T_,T_,T_,T_,T_,T_,T_,T_,T_,T_,T_,T_,T_,T_,F_,F_,F_,F_,F_,F_,F_,F_,F_,F_,F_,F_,F_,F_,F_,F_,F_,F_,F_] rfl rfl (any_of HT_.out (by kernel_rfl)) (fun _ _ _ h => h) (Or.inl ⟨by rfl, ?_⟩) ?_ ?_
                rotate_left
                ·intro w'
                 go_simp
                 with_reducible rfl
                rotate_left
                ·exact P_
                refine pure_ (i := 22) (N := some 55) (v := ?_) (a' := ?_) #[T_,T_,T_,T_,T_,T_,T_,T_,T_,T_,T_,T_,T_,T_,T_,T_,T_,T_,T_,T_,T_,T_,T_,F_,F_,F_,F_,F_,F_,F_,F_,F_,F_,F_,F_,F_,F_,F_,F_,F_,F_] rfl rfl (any_of HT_.out (by kernel_rfl)) (fun _ _ _ h => h) (Or.inl ⟨by rfl, ?_⟩) ?_ ?_
                rotate_left
                ·intro w'
                 go_simp
                 with_reducible rfl
                rotate_left
                ·exact P_
                refine pure_ (i := 23) (N := some 56) (v := ?_) (a' := ?_) #[T_,T_,T_,T_,T_,T_,T_,T_,T_,T_,T_,T_,T_,T_,T_,T_,T_,T_,T_,T_,T_,T_,T_,T_,F_,F_,F_,F_,F_,F_,F_,F_,F_,F_,F_,F_,F_,F_,F_,F_,F_] rfl rfl (any_of HT_.out (by kernel_rfl)) (fun _ _ _ h => h) (Or.inl ⟨by rfl, ?_⟩) ?_ ?_
                rotate_left
                ·intro w'
                 go_simp
                 with_reducible rfl
                rotate_left
                ·exact P_
                refine pure_ (i := 24) (N := some 57) (v := ?_) (a' := ?_) #[T_,T_,T_,T_,T_,T_,T_,T_,T_,T_,T_,T_,T_,T_,T_,T_,T_,T_,T_,T_,T_,T_,T_,T_,T_,F_,F_,F_,F_,F_,F_,F_,F_,F_,F_,F_,F_,F_,F_,F_,F_] rfl rfl (any_of HT_.out (by kernel_rfl)) (fun _ _ _ h => h) (Or.inl ⟨by rfl, ?_⟩) ?_ ?_
                rotate_left
                ·intro w'
                 go_simp
                 with_reducible rfl
                rotate_left
                ·exact P_
                refine pure_ (i := 25) (N := some 58) (v := ?_) (a' := ?_) #[T_,T_,T_,T_,T_,T_,T_,T_,T_,T_,T_,T_,T_,T_,T_,T_,T_,T_,T_,T_,T_,T_,T_,T_,T_,T_,F_,F_,F_,F_,F_,F_,F_,F_,F_,F_,F_,F_,F_,F_,F_] rfl rfl (any_of HT_.out (by kernel_rfl)) (fun _ _ _ h => h) (Or.inl ⟨by rfl, ?_⟩) ?_ ?_
                rotate_left
                ·intro w'
                 go_simp
                 with_reducible rfl
                rotate_left
                ·exact P_
                refine pure_ (i := 27) (N := some 60) (v := ?_) (a' := ?_) #[T_,T_,T_,T_,T_,T_,T_,T_,T_,T_,T_,T_,T_,T_,T_,T_,T_,T_,T_,T_,T_,T_,T_,T_,T_,T_,F_,T_,F_,F_,F_,F_,F_,F_,F_,F_,F_,F_,F_,F_,F_] rfl rfl (any_of HT_.out (by kernel_rfl)) (fun _ _ _ h => h) (Or.inl ⟨by rfl, ?_⟩) ?_ ?_
                rotate_left
                ·intro w'
                 go_simp
                 with_reducible rfl
                rotate_left
                ·exact P_
                refine pure_ (i := 30) (N := some 63) (v := ?_) (a' := ?_) #[T_,T_,T_,T_,T_,T_,T_,T_,T_,T_,T_,T_,T_,T_,T_,T_,T_,T_,T_,T_,T_,T_,T_,T_,T_,T_,F_,T_,F_,F_,T_,F_,F_,F_,F_,F_,F_,F_,F_,F_,F_] rfl rfl (any_of HT_.out (by kernel_rfl)) (fun _ _ _ h => h) (Or.inl ⟨by rfl, ?_⟩) ?_ ?_
                rotate_left
                ·intro w'
                 go_simp
                 with_reducible rfl
                rotate_left
                ·exact P_
                refine pure_ (i := 31) (N := some 64) (v := ?_) (a' := ?_) #[T_,T_,T_,T_,T_,T_,T_,T_,T_,T_,T_,T_,T_,T_,T_,T_,T_,T_,T_,T_,T_,T_,T_,T_,T_,T_,F_,T_,F_,F_,T_,T_,F_,F_,F_,F_,F_,F_,F_,F_,F_] rfl rfl (any_of HT_.out (by kernel_rfl)) (fun _ _ _ h => h) (Or.inl ⟨by rfl, ?_⟩) ?_ ?_
                rotate_left
                ·intro w'
                 go_simp
                 with_reducible rfl
                rotate_left
                ·exact P_
                refine pure_ (i := 32) (N := some 65) (v := ?_) (a' := ?_) #[T_,T_,T_,T_,T_,T_,T_,T_,T_,T_,T_,T_,T_,T_,T_,T_,T_,T_,T_,T_,T_,T_,T_,T_,T_,T_,F_,T_,F_,F_,T_,T_,T_,F_,F_,F_,F_,F_,F_,F_,F_] rfl rfl (any_of HT_.out (by kernel_rfl)) (fun _ _ _ h => h) (Or.inl ⟨by rfl, ?_⟩) ?_ ?_
                rotate_left
                ·intro w'
                 go_simp
                 with_reducible rfl
                rotate_left
                ·exact P_
                refine pure_ (i := 34) (N := some 67) (v := ?_) (a' := ?_) #[T_,T_,T_,T_,T_,T_,T_,T_,T_,T_,T_,T_,T_,T_,T_,T_,T_,T_,T_,T_,T_,T_,T_,T_,T_,T_,F_,T_,F_,F_,T_,T_,T_,F_,T_,F_,F_,F_,F_,F_,F_] rfl rfl (any_of HT_.out (by kernel_rfl)) (fun _ _ _ h => h) (Or.inl ⟨by rfl, ?_⟩) ?_ ?_
                rotate_left
                ·intro w'
                 go_simp
                 with_reducible rfl
                rotate_left
                ·exact P_
                refine pure_ (i := 35) (N := some 68) (v := ?_) (a' := ?_) #[T_,T_,T_,T_,T_,T_,T_,T_,T_,T_,T_,T_,T_,T_,T_,T_,T_,T_,T_,T_,T_,T_,T_,T_,T_,T_,F_,T_,F_,F_,T_,T_,T_,F_,T_,T_,F_,F_,F_,F_,F_] rfl rfl (any_of HT_.out (by kernel_rfl)) (fun _ _ _ h => h) (Or.inl ⟨by rfl, ?_⟩) ?_ ?_
                rotate_left
                ·intro w'
                 go_simp
                 with_reducible rfl
                rotate_left
                ·exact P_
                refine take_ (i := 26) (N := some 59) (v := ?_) (a' := ?_) #[T_,T_,T_,T_,T_,T_,T_,T_,T_,T_,T_,T_,T_,T_,T_,T_,T_,T_,T_,T_,T_,T_,T_,T_,T_,T_,T_,T_,F_,F_,T_,T_,T_,F_,T_,T_,F_,F_,F_,F_,F_] rfl rfl (take_ofW HT_.out HW_.out (by kernel_rfl)) (fun _ _ _ h => h) (Or.inl ⟨by rfl, ?_⟩) hHeld ?_ ?_
                rotate_left
                ·rintro w' ⟨s0, s1, s2, s3, s4, s5, s6, s7⟩
                 go_simp
                 with_reducible rfl
                rotate_left
                ·exact P_
                refine pure_ (i := 28) (N := some 61) (v := ?_) (a' := ?_) #[T_,T_,T_,T_,T_,T_,T_,T_,T_,T_,T_,T_,T_,T_,T_,T_,T_,T_,T_,T_,T_,T_,T_,T_,T_,T_,T_,T_,T_,F_,T_,T_,T_,F_,T_,T_,F_,F_,F_,F_,F_] rfl rfl (any_of HT_.out (by kernel_rfl)) (fun _ _ _ h => h) (Or.inl ⟨by rfl, ?_⟩) ?_ ?_
                rotate_left
                ·intro w'
                 go_simp
                 with_reducible rfl
                rotate_left
                ·exact P_
                refine take_ (i := 29) (N := some 62) (v := ?_) (a' := ?_) #[T_,T_,T_,T_,T_,T_,T_,T_,T_,T_,T_,T_,T_,T_,T_,T_,T_,T_,T_,T_,T_,T_,T_,T_,T_,T_,T_,T_,T_,T_,T_,T_,T_,F_,T_,T_,F_,F_,F_,F_,F_] rfl rfl (take_ofW HT_.out HW_.out (by kernel_rfl)) (fun _ _ _ h => h) (Or.inl ⟨by rfl, ?_⟩) hHeld ?_ ?_
                rotate_left
                ·rintro w' ⟨s0, s1, s2, s3, s4, s5, s6, s7⟩
                 go_simp
                 with_reducible rfl
                rotate_left
                ·exact P_
                refine take_ (i := 33) (N := some 66) (v := ?_) (a' := ?_) #[T_,T_,T_,T_,T_,T_,T_,T_,T_,T_,T_,T_,T_,T_,T_,T_,T_,T_,T_,T_,T_,T_,T_,T_,T_,T_,T_,T_,T_,T_,T_,T_,T_,T_,T_,T_,F_,F_,F_,F_,F_] rfl rfl (take_ofW HT_.out HW_.out (by kernel_rfl)) (fun _ _ _ h => h) (Or.inl ⟨by rfl, ?_⟩) hHeld ?_ ?_
                rotate_left
                ·rintro w' ⟨s0, s1, s2, s3, s4, s5, s6, s7⟩
                 go_simp
                 with_reducible rfl
                rotate_left
                ·exact P_
                refine pure_ (i := 36) (N := some 69) (v := ?_) (a' := ?_) #[T_,T_,T_,T_,T_,T_,T_,T_,T_,T_,T_,T_,T_,T_,T_,T_,T_,T_,T_,T_,T_,T_,T_,T_,T_,T_,T_,T_,T_,T_,T_,T_,T_,T_,T_,T_,T_,F_,F_,F_,F_] rfl rfl (any_of HT_.out (by kernel_rfl)) (fun _ _ _ h => h) (Or.inl ⟨by rfl, ?_⟩) ?_ ?_
                rotate_left
                ·intro w'
                 go_simp
                 with_reducible rfl
                rotate_left
                ·exact P_
                refine take_ (i := 37) (N := some 70) (v := ?_) (a' := ?_) #[T_,T_,T_,T_,T_,T_,T_,T_,T_,T_,T_,T_,T_,T_,T_,T_,T_,T_,T_,T_,T_,T_,T_,T_,T_,T_,T_,T_,T_,T_,T_,T_,T_,T_,T_,T_,T_,T_,F_,F_,F_] rfl rfl (take_ofW HT_.out HW_.out (by kernel_rfl)) (fun _ _ _ h => h) (Or.inl ⟨by rfl, ?_⟩) hHeld ?_ ?_
                rotate_left
                ·rintro w' ⟨s0, s1, s2, s3, s4, s5, s6, s7⟩
                 go_simp
                 with_reducible rfl
                rotate_left
                ·exact P_
                refine pure_ (i := 38) (N := some 71) (v := ?_) (a' := ?_) #[T_,T_,T_,T_,T_,T_,T_,T_,T_,T_,T_,T_,T_,T_,T_,T_,T_,T_,T_,T_,T_,T_,T_,T_,T_,T_,T_,T_,T_,T_,T_,T_,T_,T_,T_,T_,T_,T_,T_,F_,F_] rfl rfl (any_of HT_.out (by kernel_rfl)) (fun _ _ _ h => h) (Or.inl ⟨by rfl, ?_⟩) ?_ ?_
                rotate_left
                ·intro w'
                 go_simp
                 with_reducible rfl
                rotate_left
                ·exact P_
                refine pure_ (i := 39) (N := some 72) (v := ?_) (a' := ?_) #[T_,T_,T_,T_,T_,T_,T_,T_,T_,T_,T_,T_,T_,T_,T_,T_,T_,T_,T_,T_,T_,T_,T_,T_,T_,T_,T_,T_,T_,T_,T_,T_,T_,T_,T_,T_,T_,T_,T_,T_,F_] rfl rfl (any_of HT_.out (by kernel_rfl)) (fun _ _ _ h => h) (Or.inl ⟨by rfl, ?_⟩) ?_ ?_
                rotate_left
                ·intro w'
                 go_simp
                 with_reducible rfl
                rotate_left
                ·exact P_
                refine pure_ (i := 40) (N := some 73) (v := ?_) (a' := ?_) #[T_,T_,T_,T_,T_,T_,T_,T_,T_,T_,T_,T_,T_,T_,T_,T_,T_,T_,T_,T_,T_,T_,T_,T_,T_,T_,T_,T_,T_,T_,T_,T_,T_,T_,T_,T_,T_,T_,T_,T_,T_] rfl rfl (any_of HT_.out (by kernel_rfl)) (fun _ _ _ h => h) (Or.inl ⟨by rfl, ?_⟩) ?_ ?_
                rotate_left
                ·intro w'
                 go_simp
                 with_reducible rfl
                rotate_left
                ·exact P_
                refine done_ (done_of HT_.out (by kernel_rfl)) ?_
                have hcz24_0 : w23.cell? ⟨gb319, 0, none⟩ = some (.slice none 0 0) := (blk_cell BK319.out 0).trans rfl
                have hcz24_1 : w23.cell? ⟨gb319, 1, none⟩ = some (.slice none 0 0) := (blk_cell BK319.out 1).trans rfl
                have hfz24_0 := blk_frozen BK319.out 0
                have hfz24_1 := blk_frozen BK319.out 1
                try go_wp2
                refine bodyPost_ret (results_ct rfl _ _ gb319 26 #[.slice none 0 0, .slice none 0 0] (0, 0) _ rfl (by (with_reducible repeat (first | refine blk_drewN ?_ _ | refine blk_drew ?_ | refine blk_alloc ?_ _)); refine blk_put (cs := #[.slice none 0 0, .slice none 0 0]) ?_ 1 _ rfl; (with_reducible repeat (first | refine blk_drewN ?_ _ | refine blk_drew ?_ | refine blk_alloc ?_ _)); refine blk_put (cs := #[.slice none 0 0, .slice none 0 0]) ?_ 0 _ rfl; exact KX_ BK319.out) Try.underlying26 rfl (by kernel_rfl)) rfl ?_
                exact ⟨_, _, by first | rfl | (simp [errW_none, errW_some] <;> rfl) | (simp only [← hji19]; first | rfl | (simp [errW_none, errW_some] <;> rfl)) | (simp [*, errW_none, errW_some] <;> rfl), Kd.V_nil _ _ _ _ _, by first | exact Kd.S_nil _ _ _ _ _ | exact Kd.N_nil _ _ _ _ _ | exact Kd.V_nil _ _ _ _ _ | exact Kd.Q_nil _ _ _ _ _ | exact Kd.R_nil _ _ _ _ _, B1_⟩
               rw [if_neg c22] at H
               have c22b0 : decide ((rd (rd_L1 l0 x5_2) x6_3) ≤ (rd (rd_L1 l0 x5_2) (ji19))) = false := decide_eq_false c22
               clear c22
               have H' := Aside0.mk H
               clear H
               have p320 : 0 ≤ (x5_2 : Int) := D_
               have q320 : x5_2 < (l0.length : Int) := D_
               obtain ⟨ad320, A320_0, c320_0, e320, hx320_0, hl320_0, hi320_0⟩ := at_L1 (Kd.V_reads' HO_0.out).2.2 x5_2 p320 q320
               cases e320
               obtain ⟨ce320, hce320, hMe320, hcc320⟩ := Kd.V_get HO_0.out [] x5_2 p320 (by first | exact q320 | exact D_ | (have e_ := (Kd.V_reads' HO_0.out).1; omega))
               obtain ⟨ua320_0, uc320_0, rfl, ul320_0, ge320_0⟩ := Kd.FK_slice_open hMe320
               have hv320_0 := hcc320 0 _ rfl
               rw [Nat.add_zero, show ((Kd.slice 3 (Kd.int .i64))).sz = 1 from rfl, Nat.mul_one] at hv320_0
               replace hv320_0 := Option.some.inj (hv320_0.symm.trans hx320_0)
               injection hv320_0 with hva_ hvn_ hvc_
               rw [hva_] at ge320_0
               rw [hvc_] at ul320_0
               have HL320_0 := Aside0.mk (show Kd.V (Kd.int .i64) 3 _ w.heap.size _ _ (rd_L1 l0 x5_2) from Kd.V_mk ul320_0 ge320_0)
               clear hva_ hvn_ hvc_ ge320_0 ul320_0
               clear hcc320 hce320
               have HR320_0 := Aside0.mk hi320_0
               have HC320_0 := Aside0.mk hl320_0
               clear hi320_0 hl320_0
               replace p320 := eq_true p320
               replace q320 := eq_true q320
               try go_wp2
               have n0_ := Aside0.mk (Kd.V_drew HO_0.out)
               have n1_ := Aside0.mk (Kd.V_drew HL320_0.out)
               have n2_ := Aside0.mk (blk_drew BK319.out)
               have n3_ := Aside0.mk (Kd.C_drew HR320_0.out)
               have n4_ := Aside0.mk (below_drew1 HB.out)
               clear HO_0
               clear HL320_0
               clear BK319
               clear HR320_0
               clear HB
               have HO_0 := n0_
               have HL320_0 := n1_
               have BK319 := n2_
               have HR320_0 := n3_
               have HB := n4_
               clear n0_ n1_ n2_ n3_ n4_
               have p321 : 0 ≤ (x5_2 : Int) := D_
               have q321 : x5_2 < (l0.length : Int) := D_
               obtain ⟨ad321, A321_0, c321_0, e321, hx321_0, hl321_0, hi321_0⟩ := at_L1 (Kd.V_reads' HO_0.out).2.2 x5_2 p321 q321
               obtain rfl : ad320 = ad321 := (by injection e321)
               obtain ⟨ce321, hce321, hMe321, hcc321⟩ := Kd.V_get HO_0.out [] x5_2 p321 (by first | exact q321 | exact D_ | (have e_ := (Kd.V_reads' HO_0.out).1; omega))
               obtain ⟨ua321_0, uc321_0, rfl, ul321_0, ge321_0⟩ := Kd.FK_slice_open hMe321
               have hv321_0 := hcc321 0 _ rfl
               rw [Nat.add_zero, show ((Kd.slice 3 (Kd.int .i64))).sz = 1 from rfl, Nat.mul_one] at hv321_0
               replace hv321_0 := Option.some.inj (hv321_0.symm.trans hx321_0)
               injection hv321_0 with hva_ hvn_ hvc_
               rw [hva_] at ge321_0
               rw [hvc_] at ul321_0
               have HL321_0 := Aside0.mk (show Kd.V (Kd.int .i64) 3 _ w.heap.size _ _ (rd_L1 l0 x5_2) from Kd.V_mk ul321_0 ge321_0)
               clear hva_ hvn_ hvc_ ge321_0 ul321_0
               clear hcc321 hce321
               have HR321_0 := Aside0.mk hi321_0
               have HC321_0 := Aside0.mk hl321_0
               clear hi321_0 hl321_0
               replace p321 := eq_true p321
               replace q321 := eq_true q321
               have p322 : 0 ≤ (x6_3 : Int) := D_
               have q322 : x6_3 < ((rd_L1 l0 x5_2).length : Int) := D_
               obtain ⟨ad322, e322, hx322_0⟩ := Kd.at_int (by repeat (first | (with_reducible exact HR321_0.out) | (with_reducible refine Kd.C_alloc ?_ _) | (with_reducible refine Kd.C_drewN ?_ _) | (with_reducible refine Kd.C_drew ?_) | exact HR321_0.out)) x6_3 p322 q322
               cases e322
               replace p322 := eq_true p322
               replace q322 := eq_true q322
               have p323 : 0 ≤ (x5_2 : Int) := D_
               have q323 : x5_2 < (l0.length : Int) := D_
               obtain ⟨ad323, A323_0, c323_0, e323, hx323_0, hl323_0, hi323_0⟩ := at_L1 (Kd.V_reads' HO_0.out).2.2 x5_2 p323 q323
               obtain rfl : ad320 = ad323 := (by injection e323)
               obtain ⟨ce323, hce323, hMe323, hcc323⟩ := Kd.V_get HO_0.out [] x5_2 p323 (by first | exact q323 | exact D_ | (have e_ := (Kd.V_reads' HO_0.out).1; omega))
               obtain ⟨ua323_0, uc323_0, rfl, ul323_0, ge323_0⟩ := Kd.FK_slice_open hMe323
               have hv323_0 := hcc323 0 _ rfl
               rw [Nat.add_zero, show ((Kd.slice 3 (Kd.int .i64))).sz = 1 from rfl, Nat.mul_one] at hv323_0
               replace hv323_0 := Option.some.inj (hv323_0.symm.trans hx323_0)
               injection hv323_0 with hva_ hvn_ hvc_
               rw [hva_] at ge323_0
               rw [hvc_] at ul323_0
               have HL323_0 := Aside0.mk (show Kd.V (Kd.int .i64) 3 _ w.heap.size _ _ (rd_L1 l0 x5_2) from Kd.V_mk ul323_0 ge323_0)
               clear hva_ hvn_ hvc_ ge323_0 ul323_0
               clear hcc323 hce323
               have HR323_0 := Aside0.mk hi323_0
               have HC323_0 := Aside0.mk hl323_0
               clear hi323_0 hl323_0
               replace p323 := eq_true p323
               replace q323 := eq_true q323
               have ea_ := Option.some.inj (hx321_0.symm.trans hx323_0)
               injection ea_ with ea_ en_ ec_
               subst ea_
               subst ec_
               clear en_
               have p324 : 0 ≤ (x6_3 : Int) := D_
               have q324 : x6_3 < ((rd_L1 l0 x5_2).length : Int) := D_
               obtain ⟨ad324, e324, hx324_0⟩ := Kd.at_int (by repeat (first | (with_reducible exact HR323_0.out) | (with_reducible refine Kd.C_alloc ?_ _) | (with_reducible refine Kd.C_drewN ?_ _) | (with_reducible refine Kd.C_drew ?_) | exact HR323_0.out)) x6_3 p324 q324
               cases e324
               replace p324 := eq_true p324
               replace q324 := eq_true q324
               have p325 : 0 ≤ (x5_2 : Int) := D_
               have q325 : x5_2 < (l0.length : Int) := D_
               obtain ⟨ad325, A325_0, c325_0, e325, hx325_0, hl325_0, hi325_0⟩ := at_L1 (Kd.V_reads' HO_0.out).2.2 x5_2 p325 q325
               obtain rfl : ad320 = ad325 := (by injection e325)
               obtain ⟨ce325, hce325, hMe325, hcc325⟩ := Kd.V_get HO_0.out [] x5_2 p325 (by first | exact q325 | exact D_ | (have e_ := (Kd.V_reads' HO_0.out).1; omega))
               obtain ⟨ua325_0, uc325_0, rfl, ul325_0, ge325_0⟩ := Kd.FK_slice_open hMe325
               have hv325_0 := hcc325 0 _ rfl
               rw [Nat.add_zero, show ((Kd.slice 3 (Kd.int .i64))).sz = 1 from rfl, Nat.mul_one] at hv325_0
               replace hv325_0 := Option.some.inj (hv325_0.symm.trans hx325_0)
               injection hv325_0 with hva_ hvn_ hvc_
               rw [hva_] at ge325_0
               rw [hvc_] at ul325_0
               have HL325_0 := Aside0.mk (show Kd.V (Kd.int .i64) 3 _ w.heap.size _ _ (rd_L1 l0 x5_2) from Kd.V_mk ul325_0 ge325_0)
               clear hva_ hvn_ hvc_ ge325_0 ul325_0
               clear hcc325 hce325
               have HR325_0 := Aside0.mk hi325_0
               have HC325_0 := Aside0.mk hl325_0
               clear hi325_0 hl325_0
               replace p325 := eq_true p325
               replace q325 := eq_true q325
               have ea_ := Option.some.inj (hx321_0.symm.trans hx325_0)
               injection ea_ with ea_ en_ ec_
               subst ea_
               subst ec_
               clear en_
               have p326 : 0 ≤ (x6_3 : Int) := D_
               have q326 : x6_3 < ((rd_L1 l0 x5_2).length : Int) := D_
               obtain ⟨ad326, e326, hx326_0⟩ := Kd.at_int (by repeat (first | (with_reducible exact HR325_0.out) | (with_reducible refine Kd.C_alloc ?_ _) | (with_reducible refine Kd.C_drewN ?_ _) | (with_reducible refine Kd.C_drew ?_) | exact HR325_0.out)) x6_3 p326 q326
               cases e326
               replace p326 := eq_true p326
               replace q326 := eq_true q326
               have p327 : 0 ≤ (x5_2 : Int) := D_
               have q327 : x5_2 < (l0.length : Int) := D_
               obtain ⟨ad327, A327_0, c327_0, e327, hx327_0, hl327_0, hi327_0⟩ := at_L1 (Kd.V_reads' HO_0.out).2.2 x5_2 p327 q327
               obtain rfl : ad320 = ad327 := (by injection e327)
               obtain ⟨ce327, hce327, hMe327, hcc327⟩ := Kd.V_get HO_0.out [] x5_2 p327 (by first | exact q327 | exact D_ | (have e_ := (Kd.V_reads' HO_0.out).1; omega))
               obtain ⟨ua327_0, uc327_0, rfl, ul327_0, ge327_0⟩ := Kd.FK_slice_open hMe327
               have hv327_0 := hcc327 0 _ rfl
               rw [Nat.add_zero, show ((Kd.slice 3 (Kd.int .i64))).sz = 1 from rfl, Nat.mul_one] at hv327_0
               replace hv327_0 := Option.some.inj (hv327_0.symm.trans hx327_0)
               injection hv327_0 with hva_ hvn_ hvc_
               rw [hva_] at ge327_0
               rw [hvc_] at ul327_0
               have HL327_0 := Aside0.mk (show Kd.V (Kd.int .i64) 3 _ w.heap.size _ _ (rd_L1 l0 x5_2) from Kd.V_mk ul327_0 ge327_0)
               clear hva_ hvn_ hvc_ ge327_0 ul327_0
               clear hcc327 hce327
               have HR327_0 := Aside0.mk hi327_0
               have HC327_0 := Aside0.mk hl327_0
               clear hi327_0 hl327_0
               replace p327 := eq_true p327
               replace q327 := eq_true q327
               have ea_ := Option.some.inj (hx321_0.symm.trans hx327_0)
               injection ea_ with ea_ en_ ec_
               subst ea_
               subst ec_
               clear en_
               have p328 : 0 ≤ ((ji19) : Int) := D_
               have q328 : (ji19) < ((rd_L1 l0 x5_2).length : Int) := D_
               obtain ⟨ad328, e328, hx328_0⟩ := Kd.at_int (by repeat (first | (with_reducible exact HR327_0.out) | (with_reducible refine Kd.C_alloc ?_ _) | (with_reducible refine Kd.C_drewN ?_ _) | (with_reducible refine Kd.C_drew ?_) | exact HR327_0.out)) (ji19) p328 q328
               cases e328
               replace p328 := eq_true p328
               replace q328 := eq_true q328
               refine start_ (n := 41) (S := fun w' => w'.cell? (ad320.add (x5_2).toNat) = some (.slice (some ad322) (rd_L1 l0 x5_2).length c321_0) ∧ w'.cell? (ad322.add (x6_3).toNat) = some (.int .i64 (rd (rd_L1 l0 x5_2) x6_3)) ∧ w'.cell? (ad320.add (x5_2).toNat) = some (.slice (some ad322) (rd_L1 l0 x5_2).length c321_0) ∧ w'.cell? (ad322.add (x6_3).toNat) = some (.int .i64 (rd (rd_L1 l0 x5_2) x6_3)) ∧ w'.cell? (ad320.add (x5_2).toNat) = some (.slice (some ad322) (rd_L1 l0 x5_2).length c321_0) ∧ w'.cell? (ad322.add (x6_3).toNat) = some (.int .i64 (rd (rd_L1 l0 x5_2) x6_3)) ∧ w'.cell? (ad320.add (x5_2).toNat) = some (.slice (some ad322) (rd_L1 l0 x5_2).length c321_0) ∧ w'.cell? (ad322.add ((ji19)).toNat) = some (.int .i64 (rd (rd_L1 l0 x5_2) (ji19)))) (ds := []) #[F_,F_,F_,F_,F_,F_,F_,F_,F_,F_,F_,F_,F_,F_,F_,F_,F_,F_,F_,F_,F_,F_,F_,F_,F_,F_,F_,F_,F_,F_,F_,F_,F_,F_,F_,F_,F_,F_,F_,F_,F_] (by kernel_rfl) rfl rfl ⟨hx321_0, hx322_0, hx323_0, hx324_0, hx325_0, hx326_0, hx327_0, hx328_0⟩ (fun hHeld => ?_); refine with_tabW lockstepref06_Make.tab10 lockstepref06_Make.bits10 (fun HT_ HW_ => ?_)
               generalize wr.drew = w25 at HO_0 HL320_0 BK319 HR320_0 HB HL321_0 HL323_0 HL325_0 HL327_0 HR321_0 HR323_0 HR325_0 HR327_0 hx321_0 hx322_0 hx323_0 hx324_0 hx325_0 hx326_0 hx327_0 hx328_0 hHeld ⊢
               refine pure_ (i := 0) (N := some 33) (v := ?_) (a' := ?_) #[T_,F_,F_,F_,F_,F_,F_,F_,F_,F_,F_,F_,F_,F_,F_,F_,F_,F_,F_,F_,F_,F_,F_,F_,F_,F_,F_,F_,F_,F_,F_,F_,F_,F_,F_,F_,F_,F_,F_,F_,F_] rfl rfl (any_of HT_.out (by kernel_rfl)) (fun _ _ _ h => h) (Or.inl ⟨by rfl, ?_⟩) ?_ ?_
               rotate_left
               ·intro w'
                go_simp
                with_reducible rfl
               rotate_left
               ·exact P_
               refine pure_ (i := 1) (N := some 34) (v := ?_) (a' := ?_) #[T_,T_,F_,F_,F_,F_,F_,F_,F_,F_,F_,F_,F_,F_,F_,F_,F_,F_,F_,F_,F_,F_,F_,F_,F_,F_,F_,F_,F_,F_,F_,F_,F_,F_,F_,F_,F_,F_,F_,F_,F_] rfl rfl (any_of HT_.out (by kernel_rfl)) (fun _ _ _ h => h) (Or.inl ⟨by rfl, ?_⟩) ?_ ?_
               rotate_left
               ·intro w'
                go_simp
                with_reducible rfl
               rotate_left
               ·exact P_
               refine pure_ (i := 2) (N := some 35) (v := ?_) (a' := ?_) #[T_,T_,T_,F_,F_,F_,F_,F_,F_,F_,F_,F_,F_,F_,F_,F_,F_,F_,F_,F_,F_,F_,F_,F_,F_,F_,F_,F_,F_,F_,F_,F_,F_,F_,F_,F_,F_,F_,F_,F_,F_] rfl rfl (any_of HT_.out (by kernel_rfl)) (fun _ _ _ h => h) (Or.inl ⟨by rfl, ?_⟩) ?_ ?_
               rotate_left
               ·intro w'
                go_simp
                with_reducible rfl
               rotate_left
               ·exact P_
               refine pure_ (i := 4) (N := some 37) (v := ?_) (a' := ?_) #[T_,T_,T_,F_,T_,F_,F_,F_,F_,F_,F_,F_,F_,F_,F_,F_,F_,F_,F_,F_,F_,F_,F_,F_,F_,F_,F_,F_,F_,F_,F_,F_,F_,F_,F_,F_,F_,F_,F_,F_,F_] rfl rfl (any_of HT_.out (by kernel_rfl)) (fun _ _ _ h => h) (Or.inl ⟨by rfl, ?_⟩) ?_ ?_
               rotate_left
               ·intro w'
                go_simp
                with_reducible rfl
               rotate_left
               ·exact P_
               refine take_ (i := 3) (N := some 36) (v := ?_) (a' := ?_) #[T_,T_,T_,T_,T_,F_,F_,F_,F_,F_,F_,F_,F_,F_,F_,F_,F_,F_,F_,F_,F_,F_,F_,F_,F_,F_,F_,F_,F_,F_,F_,F_,F_,F_,F_,F_,F_,F_,F_,F_,F_] rfl rfl (take_ofW HT_.out HW_.out (by kernel_rfl)) (fun _ _ _ h => h) (Or.inl ⟨by rfl, ?_⟩) hHeld ?_ ?_
               rotate_left
               ·rintro w' ⟨s0, s1, s2, s3, s4, s5, s6, s7⟩
                go_simp
                with_reducible rfl
               rotate_left
               ·exact P_
               refine pure_ (i := 5) (N := some 38) (v := ?_) (a' := ?_) #[T_,T_,T_,T_,T_,T_,F_,F_,F_,F_,F_,F_,F_,F_,F_,F_,F_,F_,F_,F_,F_,F_,F_,F_,F_,F_,F_,F_,F_,F_,F_,F_,F_,F_,F_,F_,F_,F_,F_,F_,F_] rfl rfl (any_of HT_.out (by kernel_rfl)) (fun _ _ _ h => h) (Or.inl ⟨by rfl, ?_⟩) ?_ ?_
               rotate_left
               ·intro w'
                go_simp
                with_reducible rfl
               rotate_left
               ·exact P_
               refine take_ (i := 6) (N := some 39) (v := ?_) (a' := ?_) #[T_,T_,T_,T_,T_,T_,T_,F_,F_,F_,F_,F_,F_,F_,F_,F_,F_,F_,F_,F_,F_,F_,F_,F_,F_,F_,F_,F_,F_,F_,F_,F_,F_,F_,F_,F_,F_,F_,F_,F_,F_] rfl rfl (take_ofW HT_.out HW_.out (by kernel_rfl)) (fun _ _ _ h => h) (Or.inl ⟨by rfl, ?_⟩) hHeld ?_ ?_
               rotate_left
               ·rintro w' ⟨s0, s1, s2, s3, s4, s5, s6, s7⟩
                go_simp
                with_reducible rfl
               rotate_left
               ·exact P_
               refine pure_ (i := 7) (N := some 40) (v := ?_) (a' := ?_) #[T_,T_,T_,T_,T_,T_,T_,T_,F_,F_,F_,F_,F_,F_,F_,F_,F_,F_,F_,F_,F_,F_,F_,F_,F_,F_,F_,F_,F_,F_,F_,F_,F_,F_,F_,F_,F_,F_,F_,F_,F_] rfl rfl (any_of HT_.out (by kernel_rfl)) (fun _ _ _ h => h) (Or.inl ⟨by rfl, ?_⟩) ?_ ?_
               rotate_left
               ·intro w'
                go_simp
                with_reducible rfl
               rotate_left
               ·exact P_
               refine pure_ (i := 8) (N := some 41) (v := ?_) (a' := ?_) #[T_,T_,T_,T_,T_,T_,T_,T_,T_,F_,F_,F_,F_,F_,F_,F_,F_,F_,F_,F_,F_,F_,F_,F_,F_,F_,F_,F_,F_,F_,F_,F_,F_,F_,F_,F_,F_,F_,F_,F_,F_] rfl rfl (any_of HT_.out (by kernel_rfl)) (fun _ _ _ h => h) (Or.inl ⟨by rfl, ?_⟩) ?_ ?_
               rotate_left
               ·intro w'
                go_simp
                with_reducible rfl
               rotate_left
               ·exact P_
               refine pure_ (i := 9) (N := some 42) (v := ?_) (a' := ?_) #[T_,T_,T_,T_,T_,T_,T_,T_,T_,T_,F_,F_,F_,F_,F_,F_,F_,F_,F_,F_,F_,F_,F_,F_,F_,F_,F_,F_,F_,F_,F_,F_,F_,F_,F_,F_,F_,F_,F_,F_,F_] rfl rfl (any_of HT_.out (by kernel_rfl)) (fun _ _ _ h => h) (Or.inl ⟨by rfl, ?_⟩) ?_ ?_
               rotate_left
               ·intro w'
                go_simp
                with_reducible rfl
               rotate_left
               ·exact P_
               refine pure_ (i := 10) (N := some 43) (v := ?_) (a' := ?_) #[T_,T_,T_,T_,T_,T_,T_,T_,T_,T_,T_,F_,F_,F_,F_,F_,F_,F_,F_,F_,F_,F_,F_,F_,F_,F_,F_,F_,F_,F_,F_,F_,F_,F_,F_,F_,F_,F_,F_,F_,F_] rfl rfl (any_of HT_.out (by kernel_rfl)) (fun _ _ _ h => h) (Or.inl ⟨by rfl, ?_⟩) ?_ ?_
               rotate_left
               ·intro w'
                go_simp
                with_reducible rfl
               rotate_left
               ·exact P_
               refine pure_ (i := 11) (N := some 44) (v := ?_) (a' := ?_) #[T_,T_,T_,T_,T_,T_,T_,T_,T_,T_,T_,T_,F_,F_,F_,F_,F_,F_,F_,F_,F_,F_,F_,F_,F_,F_,F_,F_,F_,F_,F_,F_,F_,F_,F_,F_,F_,F_,F_,F_,F_] rfl rfl (any_of HT_.out (by kernel_rfl)) (fun _ _ _ h => h) (Or.inl ⟨by rfl, ?_⟩) ?_ ?_
               rotate_left
               ·intro w'
                go_simp
                with_reducible rfl
               rotate_left
               ·exact P_
               refine pure_ (i := 13) (N := some 46) (v := ?_) (a' := ?_) #[T_,T_,T_,T_,T_,T_,T_,T_,T_,T_,T_,T_,F_,T_,F_,F_,F_,F_,F_,F_,F_,F_,F_,F_,F_,F_,F_,F_,F_,F_,F_,F_,F_,F_,F_,F_,F_,F_,F_,F_,F_] rfl rfl (any_of HT_.out (by kernel_rfl)) (fun _ _ _ h => h) (Or.inl ⟨by rfl, ?_⟩) ?_ ?_
               rotate_left
               ·intro w'
                go_simp
                with_reducible rfl
               rotate_left
               ·exact P_
               refine pure_ (i := 16) (N := some 49) (v := ?_) (a' := ?_) #[T_,T_,T_,T_,T_,T_,T_,T_,T_,T_,T_,T_,F_,T_,F_,F_,T_,F_,F_,F_,F_,F_,F_,F_,F_,F_,F_,F_,F_,F_,F_,F_,F_,F_,F_,F_,F_,F_,F_,F_,F_] rfl rfl (any_of HT_.out (by kernel_rfl)) (fun _ _ _ h => h) (Or.inl ⟨by rfl, ?_⟩) ?_ ?_
               rotate_left
               ·intro w'
                go_simp
                with_reducible rfl
               rotate_left
               ·exact P_
               refine take_ (i := 12) (N := some 45) (v := ?_) (a' := ?_) #[T_,T_,T_,T_,T_,T_,T_,T_,T_,T_,T_,T_,T_,T_,F_,F_,T_,F_,F_,F_,F_,F_,F_,F_,F_,F_,F_,F_,F_,F_,F_,F_,F_,F_,F_,F_,F_,F_,F_,F_,F_] rfl rfl (take_ofW HT_.out HW_.out (by kernel_rfl)) (fun _ _ _ h => h) (Or.inl ⟨by rfl, ?_⟩) hHeld ?_ ?_
               rotate_left
               ·rintro w' ⟨s0, s1, s2, s3, s4, s5, s6, s7⟩
                go_simp
                with_reducible rfl
               rotate_left
               ·exact P_
               refine pure_ (i := 14) (N := some 47) (v := ?_) (a' := ?_) #[T_,T_,T_,T_,T_,T_,T_,T_,T_,T_,T_,T_,T_,T_,T_,F_,T_,F_,F_,F_,F_,F_,F_,F_,F_,F_,F_,F_,F_,F_,F_,F_,F_,F_,F_,F_,F_,F_,F_,F_,F_] rfl rfl (any_of HT_.out (by kernel_rfl)) (fun _ _ _ h => h) (Or.inl ⟨by rfl, ?_⟩) ?_ ?_
               rotate_left
               ·intro w'
                go_simp
                with_reducible rfl
               rotate_left
               ·exact P_
               refine take_ (i := 15) (N := some 48) (v := ?_) (a' := ?_) #[T_,T_,T_,T_,T_,T_,T_,T_,T_,T_,T_,T_,T_,T_,T_,T_,T_,F_,F_,F_,F_,F_,F_,F_,F_,F_,F_,F_,F_,F_,F_,F_,F_,F_,F_,F_,F_,F_,F_,F_,F_] rfl rfl (take_ofW HT_.out HW_.out (by kernel_rfl)) (fun _ _ _ h => h) (Or.inl ⟨by rfl, ?_⟩) hHeld ?_ ?_
               rotate_left
               ·rintro w' ⟨s0, s1, s2, s3, s4, s5, s6, s7⟩
                go_simp
                with_reducible rfl
               rotate_left
               ·exact P_
               refine pure_ (i := 17) (N := some 50) (v := ?_) (a' := ?_) #[T_,T_,T_,T_,T_,T_,T_,T_,T_,T_,T_,T_,T_,T_,T_,T_,T_,T_,F_,F_,F_,F_,F_,F_,F_,F_,F_,F_,F_,F_,F_,F_,F_,F_,F_,F_,F_,F_,F_,F_,F_] rfl rfl (any_of HT_.out (by kernel_rfl)) (fun _ _ _ h => h) (Or.inl ⟨by rfl, ?_⟩) ?_ ?_
               rotate_left
               ·intro w'
                go_simp
                with_reducible rfl
               rotate_left
               ·exact P_
               refine pure_ (i := 18) (N := some 51) (v := ?_) (a' := ?_) #[T_,T_,T_,T_,T_,T_,T_,T_,T_,T_,T_,T_,T_,T_,T_,T_,T_,T_,T_,F_,F_,F_,F_,F_,F_,F_,F_,F_,F_,F_,F_,F_,F_,F_,F_,F_,F_,F_,F_,F_,F_] rfl rfl (any_of HT_.out (by kernel_rfl)) (fun _ _ _ h => h) (Or.inl ⟨by rfl, ?_⟩) ?_ ?_
               rotate_left
               ·intro w'
                go_simp
                with_reducible rfl
               rotate_left
               ·exact P_
               refine pure_ (i := 19) (N := some 52) (v := ?_) (a' := ?_) #[T_,T_,T_,T_,T_,T_,T_,T_,T_,T_,T_,T_,T_,T_,T_,T_,T_,T_,T_,T_,F_,F_,F_,F_,F_,F_,F_,F_,F_,F_,F_,F_,F_,F_,F_,F_,F_,F_,F_,F_,F_] rfl rfl (any_of HT_.out (by kernel_rfl)) (fun _ _ _ h => h) (Or.inl ⟨by rfl, ?_⟩) ?_ ?_
               rotate_left
               ·intro w'
                go_simp
                with_reducible rfl
               rotate_left
               ·exact P_
               refine pure_ (i := 20) (N := some 53) (v := ?_) (a' := ?_) #[T_,T_,T_,T_,T_,T_,T_,T_,T_,T_,T_,T_,T_,T_,T_,T_,T_,T_,T_,T_,T_,F_,F_,F_,F_,F_,F_,F_,F_,F_,F_,F_,F_,F_,F_,F_,F_,F_,F_,F_,F_] rfl rfl (any_of HT_.out (by kernel_rfl)) (fun _ _ _ h => h) (Or.inl ⟨by rfl, ?_⟩) ?_ ?_
               rotate_left
               ·intro w'
                go_simp
                with_reducible rfl
               rotate_left
               ·exact P_
               refine pure_ (i := 21) (N := some 54) (v := ?_) (a' := ?_) #[T_,T_,T_,T_,T_,T_,T_,T_,T_,T_,T_,T_,T_,T_,T_,T_,T_,T_,T_,T_,T_,T_,F_,F_,F_,F_,F_,F_,F_,F_,F_,F_,F_,F_,F_,F_,F_,F_,F_,F_,F_] rfl rfl (any_of HT_.out (by kernel_rfl)) (fun _ _ _ h => h) (Or.inl ⟨by rfl, ?_⟩) ?_ ?_
               rotate_left
               ·intro w'
                go_simp
                with_reducible rfl
               rotate_left
               ·exact P_
               refine pure_ (i := 22) (N := some 55) (v := ?_) (a' := ?_) #[T_,T_,T_,T_,T_,T_,T_,T_,T_,T_,T_,T_,T_,T_,T_,T_,T_,T_,T_,T_,T_,T_,T_,F_,F_,F_,F_,F_,F_,F_,F_,F_,F_,F_,F_,F_,F_,F_,F_,F_,F_] rfl rfl (any_of HT_.out (by kernel_rfl)) (fun _ _ _ h => h) (Or.inl ⟨by rfl, ?_⟩) ?_ ?_
               rotate_left
               ·intro w'
                go_simp
                with_reducible rfl
               rotate_left
               ·exact P_
               refine pure_ (i := 23) (N := some 56) (v := ?_) (a' := ?_) #[T_,T_,T_,T_,T_,T_,T_,T_,T_,T_,T_,T_,T_,T_,T_,T_,T_,T_,T_,T_,T_,T_,T_,T_,F_,F_,F_,F_,F_,F_,F_,F_,F_,F_,F_,F_,F_,F_,F_,F_,F_] rfl rfl (any_of HT_.out (by kernel_rfl)) (fun _ _ _ h => h) (Or.inl ⟨by rfl, ?_⟩) ?_ ?_
               rotate_left
               ·intro w'
                go_simp
                with_reducible rfl
               rotate_left
               ·exact P_
               refine pure_ (i := 24) (N := some 57) (v := ?_) (a' := ?_) #[T_,T_,T_,T_,T_,T_,T_,T_,T_,T_,T_,T_,T_,T_,T_,T_,T_,T_,T_,T_,T_,T_,T_,T_,T_,F_,F_,F_,F_,F_,F_,F_,F_,F_,F_,F_,F_,F_,F_,F_,F_] rfl rfl (any_of HT_.out (by kernel_rfl)) (fun _ _ _ h => h) (Or.inl ⟨by rfl, ?_⟩) ?_ ?_
               rotate_left
               ·intro w'
                go_simp
                with_reducible rfl
               rotate_left
               ·exact P_
               refine pure_ (i := 25) (N := some 58) (v := ?_) (a' := ?_) #[T_,T_,T_,T_,T_,T_,T_,T_,T_,T_,T_,T_,T_,T_,T_,T_,T_,T_,T_,T_,T_,T_,T_,T_,T_,T_,F_,F_,F_,F_,F_,F_,F_,F_,F_,F_,F_,F_,F_,F_,F_] rfl rfl (any_of HT_.out (by kernel_rfl)) (fun _ _ _ h => h) (Or.inl ⟨by rfl, ?_⟩) ?_ ?_
               rotate_left
               ·intro w'
                go_simp
                with_reducible rfl
               rotate_left
               ·exact P_
               refine pure_ (i := 27) (N := some 60) (v := ?_) (a' := ?_) #[T_,T_,T_,T_,T_,T_,T_,T_,T_,T_,T_,T_,T_,T_,T_,T_,T_,T_,T_,T_,T_,T_,T_,T_,T_,T_,F_,T_,F_,F_,F_,F_,F_,F_,F_,F_,F_,F_,F_,F_,F_] rfl rfl (any_of HT_.out (by kernel_rfl)) (fun _ _ _ h => h) (Or.inl ⟨by rfl, ?_⟩) ?_ ?_
               rotate_left
               ·intro w'
                go_simp
                with_reducible rfl
               rotate_left
               ·exact P_
               refine pure_ (i := 30) (N := some 63) (v := ?_) (a' := ?_) #[T_,T_,T_,T_,T_,T_,T_,T_,T_,T_,T_,T_,T_,T_,T_,T_,T_,T_,T_,T_,T_,T_,T_,T_,T_,T_,F_,T_,F_,F_,T_,F_,F_,F_,F_,F_,F_,F_,F_,F_,F_] rfl rfl (any_of HT_.out (by kernel_rfl)) (fun _ _ _ h => h) (Or.inl ⟨by rfl, ?_⟩) ?_ ?_
               rotate_left
               ·intro w'
                go_simp
                with_reducible rfl
               rotate_left
               ·exact P_
               refine pure_ (i := 31) (N := some 64) (v := ?_) (a' := ?_) #[T_,T_,T_,T_,T_,T_,T_,T_,T_,T_,T_,T_,T_,T_,T_,T_,T_,T_,T_,T_,T_,T_,T_,T_,T_,T_,F_,T_,F_,F_,T_,T_,F_,F_,F_,F_,F_,F_,F_,F_,F_] rfl rfl (any_of HT_.out (by kernel_rfl)) (fun _ _ _ h => h) (Or.inl ⟨by rfl, ?_⟩) ?_ ?_
               rotate_left
               ·intro w'
                go_simp
                with_reducible rfl
               rotate_left
               ·exact P_
               refine pure_ (i := 32) (N := some 65) (v := ?_) (a' := ?_) #[T_,T_,T_,T_,T_,T_,T_,T_,T_,T_,T_,T_,T_,T_,T_,T_,T_,T_,T_,T_,T_,T_,T_,T_,T_,T_,F_,T_,F_,F_,T_,T_,T_,F_,F_,F_,F_,F_,F_,F_,F_] rfl rfl (any_of HT_.out (by kernel_rfl)) (fun _ _ _ h => h) (Or.inl ⟨by rfl, ?_⟩) ?_ ?_
               rotate_left
               ·intro w'
                go_simp
                with_reducible rfl
               rotate_left
               ·exact P_
               refine pure_ (i := 34) (N := some 67) (v := ?_) (a' := ?_) #[T_,T_,T_,T_,T_,T_,T_,T_,T_,T_,T_,T_,T_,T_,T_,T_,T_,T_,T_,T_,T_,T_,T_,T_,T_,T_,F_,T_,F_,F_,T_,T_,T_,F_,T_,F_,F_,F_,F_,F_,F_] rfl rfl (any_of HT_.out (by kernel_rfl)) (fun _ _ _ h => h) (Or.inl ⟨by rfl, ?_⟩) ?_ ?_
               rotate_left
               ·intro w'
                go_simp
                with_reducible rfl
               rotate_left
               ·exact P_
               refine pure_ (i := 35) (N := some 68) (v := ?_) (a' := ?_) #[T_,T_,T_,T_,T_,T_,T_,T_,T_,T_,T_,T_,T_,T_,T_,T_,T_,T_,T_,T_,T_,T_,T_,T_,T_,T_,F_,T_,F_,F_,T_,T_,T_,F_,T_,T_,F_,F_,F_,F_,F_] rfl rfl (any_of HT_.out (by kernel_rfl)) (fun _ _ _ h => h) (Or.inl ⟨by rfl, ?_⟩) ?_ ?_
               rotate_left
               ·intro w'
                go_simp
                with_reducible rfl
               rotate_left
               ·exact P_
               refine take_ (i := 26) (N := some 59) (v := ?_) (a' := ?_) #[T_,T_,T_,T_,T_,T_,T_,T_,T_,T_,T_,T_,T_,T_,T_,T_,T_,T_,T_,T_,T_,T_,T_,T_,T_,T_,T_,T_,F_,F_,T_,T_,T_,F_,T_,T_,F_,F_,F_,F_,F_] rfl rfl (take_ofW HT_.out HW_.out (by kernel_rfl)) (fun _ _ _ h => h) (Or.inl ⟨by rfl, ?_⟩) hHeld ?_ ?_
               rotate_left
               ·rintro w' ⟨s0, s1, s2, s3, s4, s5, s6, s7⟩
                go_simp
                with_reducible rfl
               rotate_left
               ·exact P_
               refine pure_ (i := 28) (N := some 61) (v := ?_) (a' := ?_) #[T_,T_,T_,T_,T_,T_,T_,T_,T_,T_,T_,T_,T_,T_,T_,T_,T_,T_,T_,T_,T_,T_,T_,T_,T_,T_,T_,T_,T_,F_,T_,T_,T_,F_,T_,T_,F_,F_,F_,F_,F_] rfl rfl (any_of HT_.out (by kernel_rfl)) (fun _ _ _ h => h) (Or.inl ⟨by rfl, ?_⟩) ?_ ?_
               rotate_left
               ·intro w'
                go_simp
                with_reducible rfl
               rotate_left
               ·exact P_
               refine take_ (i := 29) (N := some 62) (v := ?_) (a' := ?_) #[T_,T_,T_,T_,T_,T_,T_,T_,T_,T_,T_,T_,T_,T_,T_,T_,T_,T_,T_,T_,T_,T_,T_,T_,T_,T_,T_,T_,T_,T_,T_,T_,T_,F_,T_,T_,F_,F_,F_,F_,F_] rfl rfl (take_ofW HT_.out HW_.out (by kernel_rfl)) (fun _ _ _ h => h) (Or.inl ⟨by rfl, ?_⟩) hHeld ?_ ?_
               rotate_left
               ·rintro w' ⟨s0, s1, s2, s3, s4, s5, s6, s7⟩
                go_simp
                with_reducible rfl
               rotate_left
               ·exact P_
               refine take_ (i := 33) (N := some 66) (v := ?_) (a' := ?_) #[T_,T_,T_,T_,T_,T_,T_,T_,T_,T_,T_,T_,T_,T_,T_,T_,T_,T_,T_,T_,T_,T_,T_,T_,T_,T_,T_,T_,T_,T_,T_,T_,T_,T_,T_,T_,F_,F_,F_,F_,F_] rfl rfl (take_ofW HT_.out HW_.out (by kernel_rfl)) (fun _ _ _ h => h) (Or.inl ⟨by rfl, ?_⟩) hHeld ?_ ?_
               rotate_left
               ·rintro w' ⟨s0, s1, s2, s3, s4, s5, s6, s7⟩
                go_simp
                with_reducible rfl
               rotate_left
               ·exact P_
               refine pure_ (i := 36) (N := some 69) (v := ?_) (a' := ?_) #[T_,T_,T_,T_,T_,T_,T_,T_,T_,T_,T_,T_,T_,T_,T_,T_,T_,T_,T_,T_,T_,T_,T_,T_,T_,T_,T_,T_,T_,T_,T_,T_,T_,T_,T_,T_,T_,F_,F_,F_,F_] rfl rfl (any_of HT_.out (by kernel_rfl)) (fun _ _ _ h => h) (Or.inl ⟨by rfl, ?_⟩) ?_ ?_
               rotate_left
               ·intro w'
                go_simp
                with_reducible rfl
               rotate_left
               ·exact P_
               refine take_ (i := 37) (N := some 70) (v := ?_) (a' := ?_) #[T_,T_,T_,T_,T_,T_,T_,T_,T_,T_,T_,T_,T_,T_,T_,T_,T_,T_,T_,T_,T_,T_,T_,T_,T_,T_,T_,T_,T_,T_,T_,T_,T_,T_,T_,T_,T_,T_,F_,F_,F_] rfl rfl (take_ofW HT_.out HW_.out (by kernel_rfl)) (fun _ _ _ h => h) (Or.inl ⟨by rfl, ?_⟩) hHeld ?_ ?_
               rotate_left
               ·rintro w' ⟨s0, s1, s2, s3, s4, s5, s6, s7⟩
                go_simp
                with_reducible rfl
               rotate_left
               ·exact P_
               refine pure_ (i := 38) (N := some 71) (v := ?_) (a' := ?_) #[T_,T_,T_,T_,T_,T_,T_,T_,T_,T_,T_,T_,T_,T_,T_,T_,T_,T_,T_,T_,T_,T_,T_,T_,T_,T_,T_,T_,T_,T_,T_,T_,T_,T_,T_,T_,T_,T_,T_,F_,F_] rfl rfl (any_of HT_.out (by kernel_rfl)) (fun _ _ _ h => h) (Or.inl ⟨by rfl, ?_⟩) ?_ ?_
               rotate_left
               ·intro w'
                go_simp
                with_reducible rfl
               rotate_left
               ·exact P_
               refine pure_ (i := 39) (N := some 72) (v := ?_) (a' := ?_) #[T_,T_,T_,T_,T_,T_,T_,T_,T_,T_,T_,T_,T_,T_,T_,T_,T_,T_,T_,T_,T_,T_,T_,T_,T_,T_,T_,T_,T_,T_,T_,T_,T_,T_,T_,T_,T_,T_,T_,T_,F_] rfl rfl (any_of HT_.out (by kernel_rfl)) (fun _ _ _ h => h) (Or.inl ⟨by rfl, ?_⟩) ?_ ?_
               rotate_left
               ·intro w'
                go_simp
                with_reducible rfl
               rotate_left
               ·exact P_
               refine pure_ (i := 40) (N := some 73) (v := ?_) (a' := ?_) #[T_,T_,T_,T_,T_,T_,T_,T_,T_,T_,T_,T_,T_,T_,T_,T_,T_,T_,T_,T_,T_,T_,T_,T_,T_,T_,T_,T_,T_,T_,T_,T_,T_,T_,T_,T_,T_,T_,T_,T_,T_] rfl rfl (any_of HT_.out (by kernel_rfl)) (fun _ _ _ h => h) (Or.inl ⟨by rfl, ?_⟩) ?_ ?_
               rotate_left
               ·intro w'
                go_simp
                with_reducible rfl
               rotate_left
               ·exact P_
               refine done_ (done_of HT_.out (by kernel_rfl)) ?_
               try go_wp2
               go_roundg k3
               case measure => have := HJ1.out; have := HK2.out; have := HK3.out; omega
               case rel => exact ⟨(wrap64 (x6_3 + 1)), (by first | rfl | (simp; done) | (simp [*]; done)), H', ⟨by have := HJ1.out; have := HK2.out; have := HK3.out; omega⟩, ⟨by (with_reducible repeat (first | apply Kd.V_alloc | apply Kd.V_drewN | apply Kd.V_drew)); first | exact HO_0.out | exact Kd.R_mono HO_0.out (fun _ hk e_ => hk (e_.trans own_len))⟩, ⟨by exact KX_ BK319.out⟩, ⟨B1_⟩⟩
              rw [if_neg c21] at H
              exact absurd H (by simp)
             rw [if_neg c20] at H
             exact absurd H (by simp)
            rw [if_neg c18] at H
            have c18b0 : decide (0 < x6_3) = false := decide_eq_false c18
            clear c18
            have H' := Aside0.mk H
            clear H
            have p320 : 0 ≤ (x5_2 : Int) := D_
            have q320 : x5_2 < (l0.length : Int) := D_
            obtain ⟨ad320, A320_0, c320_0, e320, hx320_0, hl320_0, hi320_0⟩ := at_L1 (Kd.V_reads' HO_0.out).2.2 x5_2 p320 q320
            cases e320
            obtain ⟨ce320, hce320, hMe320, hcc320⟩ := Kd.V_get HO_0.out [] x5_2 p320 (by first | exact q320 | exact D_ | (have e_ := (Kd.V_reads' HO_0.out).1; omega))
            obtain ⟨ua320_0, uc320_0, rfl, ul320_0, ge320_0⟩ := Kd.FK_slice_open hMe320
            have hv320_0 := hcc320 0 _ rfl
            rw [Nat.add_zero, show ((Kd.slice 3 (Kd.int .i64))).sz = 1 from rfl, Nat.mul_one] at hv320_0
            replace hv320_0 := Option.some.inj (hv320_0.symm.trans hx320_0)
            injection hv320_0 with hva_ hvn_ hvc_
            rw [hva_] at ge320_0
            rw [hvc_] at ul320_0
            have HL320_0 := Aside0.mk (show Kd.V (Kd.int .i64) 3 _ w.heap.size _ _ (rd_L1 l0 x5_2) from Kd.V_mk ul320_0 ge320_0)
            clear hva_ hvn_ hvc_ ge320_0 ul320_0
            clear hcc320 hce320
            have HR320_0 := Aside0.mk hi320_0
            have HC320_0 := Aside0.mk hl320_0
            clear hi320_0 hl320_0
            replace p320 := eq_true p320
            replace q320 := eq_true q320
            try go_wp2
            have n0_ := Aside0.mk (Kd.V_drew HO_0.out)
            have n1_ := Aside0.mk (Kd.V_drew HL320_0.out)
            have n2_ := Aside0.mk (blk_drew BK319.out)
            have n3_ := Aside0.mk (Kd.C_drew HR320_0.out)
            have n4_ := Aside0.mk (below_drew1 HB.out)
            clear HO_0
            clear HL320_0
            clear BK319
            clear HR320_0
            clear HB
            have HO_0 := n0_
            have HL320_0 := n1_
            have BK319 := n2_
            have HR320_0 := n3_
            have HB := n4_
            clear n0_ n1_ n2_ n3_ n4_
            have p321 : 0 ≤ (x5_2 : Int) := D_
            have q321 : x5_2 < (l0.length : Int) := D_
            obtain ⟨ad321, A321_0, c321_0, e321, hx321_0, hl321_0, hi321_0⟩ := at_L1 (Kd.V_reads' HO_0.out).2.2 x5_2 p321 q321
            obtain rfl : ad320 = ad321 := (by injection e321)
            obtain ⟨ce321, hce321, hMe321, hcc321⟩ := Kd.V_get HO_0.out [] x5_2 p321 (by first | exact q321 | exact D_ | (have e_ := (Kd.V_reads' HO_0.out).1; omega))
            obtain ⟨ua321_0, uc321_0, rfl, ul321_0, ge321_0⟩ := Kd.FK_slice_open hMe321
            have hv321_0 := hcc321 0 _ rfl
            rw [Nat.add_zero, show ((Kd.slice 3 (Kd.int .i64))).sz = 1 from rfl, Nat.mul_one] at hv321_0
            replace hv321_0 := Option.some.inj (hv321_0.symm.trans hx321_0)
            injection hv321_0 with hva_ hvn_ hvc_
            rw [hva_] at ge321_0
            rw [hvc_] at ul321_0
            have HL321_0 := Aside0.mk (show Kd.V (Kd.int .i64) 3 _ w.heap.size _ _ (rd_L1 l0 x5_2) from Kd.V_mk ul321_0 ge321_0)
            clear hva_ hvn_ hvc_ ge321_0 ul321_0
            clear hcc321 hce321
            have HR321_0 := Aside0.mk hi321_0
            have HC321_0 := Aside0.mk hl321_0
            clear hi321_0 hl321_0
            replace p321 := eq_true p321
            replace q321 := eq_true q321
            have p322 : 0 ≤ (x6_3 : Int) := D_
            have q322 : x6_3 < ((rd_L1 l0 x5_2).length : Int) := D_
            obtain ⟨ad322, e322, hx322_0⟩ := Kd.at_int (by repeat (first | (with_reducible exact HR321_0.out) | (with_reducible refine Kd.C_alloc ?_ _) | (with_reducible refine Kd.C_drewN ?_ _) | (with_reducible refine Kd.C_drew ?_) | exact HR321_0.out)) x6_3 p322 q322
            cases e322
            replace p322 := eq_true p322
            replace q322 := eq_true q322
            have p323 : 0 ≤ (x5_2 : Int) := D_
            have q323 : x5_2 < (l0.length : Int) := D_
            obtain ⟨ad323, A323_0, c323_0, e323, hx323_0, hl323_0, hi323_0⟩ := at_L1 (Kd.V_reads' HO_0.out).2.2 x5_2 p323 q323
            obtain rfl : ad320 = ad323 := (by injection e323)
            obtain ⟨ce323, hce323, hMe323, hcc323⟩ := Kd.V_get HO_0.out [] x5_2 p323 (by first | exact q323 | exact D_ | (have e_ := (Kd.V_reads' HO_0.out).1; omega))
            obtain ⟨ua323_0, uc323_0, rfl, ul323_0, ge323_0⟩ := Kd.FK_slice_open hMe323
            have hv323_0 := hcc323 0 _ rfl
            rw [Nat.add_zero, show ((Kd.slice 3 (Kd.int .i64))).sz = 1 from rfl, Nat.mul_one] at hv323_0
            replace hv323_0 := Option.some.inj (hv323_0.symm.trans hx323_0)
            injection hv323_0 with hva_ hvn_ hvc_
            rw [hva_] at ge323_0
            rw [hvc_] at ul323_0
            have HL323_0 := Aside0.mk (show Kd.V (Kd.int .i64) 3 _ w.heap.size _ _ (rd_L1 l0 x5_2) from Kd.V_mk ul323_0 ge323_0)
            clear hva_ hvn_ hvc_ ge323_0 ul323_0
            clear hcc323 hce323
            have HR323_0 := Aside0.mk hi323_0
            have HC323_0 := Aside0.mk hl323_0
            clear hi323_0 hl323_0
            replace p323 := eq_true p323
            replace q323 := eq_true q323
            have ea_ := Option.some.inj (hx321_0.symm.trans hx323_0)
            injection ea_ with ea_ en_ ec_
            subst ea_
            subst ec_
            clear en_
            have p324 : 0 ≤ (x6_3 : Int) := D_
            have q324 : x6_3 < ((rd_L1 l0 x5_2).length : Int) := D_
            obtain ⟨ad324, e324, hx324_0⟩ := Kd.at_int (by repeat (first | (with_reducible exact HR323_0.out) | (with_reducible refine Kd.C_alloc ?_ _) | (with_reducible refine Kd.C_drewN ?_ _) | (with_reducible refine Kd.C_drew ?_) | exact HR323_0.out)) x6_3 p324 q324
            cases e324
            replace p324 := eq_true p324
            replace q324 := eq_true q324
            refine start_ (n := 41) (S := fun w' => w'.cell? (ad320.add (x5_2).toNat) = some (.slice (some ad322) (rd_L1 l0 x5_2).length c321_0) ∧ w'.cell? (ad322.add (x6_3).toNat) = some (.int .i64 (rd (rd_L1 l0 x5_2) x6_3)) ∧ w'.cell? (ad320.add (x5_2).toNat) = some (.slice (some ad322) (rd_L1 l0 x5_2).length c321_0) ∧ w'.cell? (ad322.add (x6_3).toNat) = some (.int .i64 (rd (rd_L1 l0 x5_2) x6_3))) (ds := []) #[F_,F_,F_,F_,F_,F_,F_,F_,F_,F_,F_,F_,F_,F_,F_,F_,F_,F_,F_,F_,F_,F_,F_,F_,F_,F_,F_,F_,F_,F_,F_,F_,F_,F_,F_,F_,F_,F_,F_,F_,F_] (by kernel_rfl) rfl rfl ⟨hx321_0, hx322_0, hx323_0, hx324_0⟩ (fun hHeld => ?_); refine with_tabW lockstepref06_Make.tab10 lockstepref06_Make.bits10 (fun HT_ HW_ => ?_)
            generalize wr.drew = w26 at HO_0 HL320_0 BK319 HR320_0 HB HL321_0 HL323_0 HR321_0 HR323_0 hx321_0 hx322_0 hx323_0 hx324_0 hHeld ⊢
            refine pure_ (i := 0) (N := some 33) (v := ?_) (a' := ?_) #[T_,F_,F_,F_,F_,F_,F_,F_,F_,F_,F_,F_,F_,F_,F_,F_,F_,F_,F_,F_,F_,F_,F_,F_,F_,F_,F_,F_,F_,F_,F_,F_,F_,F_,F_,F_,F_,F_,F_,F_,F_] rfl rfl (any_of HT_.out (by kernel_rfl)) (fun _ _ _ h => h) (Or.inl ⟨by rfl, ?_⟩) ?_ ?_
            rotate_left
            ·intro w'
             go_simp
             with_reducible rfl
            rotate_left
            ·exact P_
            refine pure_ (i := 1) (N := some 34) (v := ?_) (a' := ?_) #[T_,T_,F_,F_,F_,F_,F_,F_,F_,F_,F_,F_,F_,F_,F_,F_,F_,F_,F_,F_,F_,F_,F_,F_,F_,F_,F_,F_,F_,F_,F_,F_,F_,F_,F_,F_,F_,F_,F_,F_,F_] rfl rfl (any_of HT_.out (by kernel_rfl)) (fun _ _ _ h => h) (Or.inl ⟨by rfl, ?_⟩) ?_ ?_
            rotate_left
            ·intro w'
             go_simp
             with_reducible rfl
            rotate_left
            ·exact P_
            refine pure_ (i := 2) (N := some 35) (v := ?_) (a' := ?_) #[T_,T_,T_,F_,F_,F_,F_,F_,F_,F_,F_,F_,F_,F_,F_,F_,F_,F_,F_,F_,F_,F_,F_,F_,F_,F_,F_,F_,F_,F_,F_,F_,F_,F_,F_,F_,F_,F_,F_,F_,F_] rfl rfl (any_of HT_.out (by kernel_rfl)) (fun _ _ _ h => h) (Or.inl ⟨by rfl, ?_⟩) ?_ ?_
            rotate_left
            ·intro w'
             go_simp
             with_reducible rfl
            rotate_left
            ·exact P_
            refine pure_ (i := 4) (N := some 37) (v := ?_) (a' := ?_) #[T_,T_,T_,F_,T_,F_,F_,F_,F_,F_,F_,F_,F_,F_,F_,F_,F_,F_,F_,F_,F_,F_,F_,F_,F_,F_,F_,F_,F_,F_,F_,F_,F_,F_,F_,F_,F_,F_,F_,F_,F_] rfl rfl (any_of HT_.out (by kernel_rfl)) (fun _ _ _ h => h) (Or.inl ⟨by rfl, ?_⟩) ?_ ?_
            rotate_left
            ·intro w'
             go_simp
             with_reducible rfl
            rotate_left
            ·exact P_
            refine take_ (i := 3) (N := some 36) (v := ?_) (a' := ?_) #[T_,T_,T_,T_,T_,F_,F_,F_,F_,F_,F_,F_,F_,F_,F_,F_,F_,F_,F_,F_,F_,F_,F_,F_,F_,F_,F_,F_,F_,F_,F_,F_,F_,F_,F_,F_,F_,F_,F_,F_,F_] rfl rfl (take_ofW HT_.out HW_.out (by kernel_rfl)) (fun _ _ _ h => h) (Or.inl ⟨by rfl, ?_⟩) hHeld ?_ ?_
            rotate_left
            ·rintro w' ⟨s0, s1, s2, s3⟩
             go_simp
             with_reducible rfl
            rotate_left
            ·exact P_
            refine pure_ (i := 5) (N := some 38) (v := ?_) (a' := ?_) #[T_,T_,T_,T_,T_,T_,F_,F_,F_,F_,F_,F_,F_,F_,F_,F_,F_,F_,F_,F_,F_,F_,F_,F_,F_,F_,F_,F_,F_,F_,F_,F_,F_,F_,F_,F_,F_,F_,F_,F_,F_] rfl rfl (any_of HT_.out (by kernel_rfl)) (fun _ _ _ h => h) (Or.inl ⟨by rfl, ?_⟩) ?_ ?_
            rotate_left
            ·intro w'
             go_simp
             with_reducible rfl
            rotate_left
            ·exact P_
            refine take_ (i := 6) (N := some 39) (v := ?_) (a' := ?_) #[T_,T_,T_,T_,T_,T_,T_,F_,F_,F_,F_,F_,F_,F_,F_,F_,F_,F_,F_,F_,F_,F_,F_,F_,F_,F_,F_,F_,F_,F_,F_,F_,F_,F_,F_,F_,F_,F_,F_,F_,F_] rfl rfl (take_ofW HT_.out HW_.out (by kernel_rfl)) (fun _ _ _ h => h) (Or.inl ⟨by rfl, ?_⟩) hHeld ?_ ?_
            rotate_left
            ·rintro w' ⟨s0, s1, s2, s3⟩
             go_simp
             with_reducible rfl
            rotate_left
            ·exact P_
            refine pure_ (i := 7) (N := some 40) (v := ?_) (a' := ?_) #[T_,T_,T_,T_,T_,T_,T_,T_,F_,F_,F_,F_,F_,F_,F_,F_,F_,F_,F_,F_,F_,F_,F_,F_,F_,F_,F_,F_,F_,F_,F_,F_,F_,F_,F_,F_,F_,F_,F_,F_,F_] rfl rfl (any_of HT_.out (by kernel_rfl)) (fun _ _ _ h => h) (Or.inl ⟨by rfl, ?_⟩) ?_ ?_
            rotate_left
            ·intro w'
             go_simp
             with_reducible rfl
            rotate_left
            ·exact P_
            refine pure_ (i := 8) (N := some 41) (v := ?_) (a' := ?_) #[T_,T_,T_,T_,T_,T_,T_,T_,T_,F_,F_,F_,F_,F_,F_,F_,F_,F_,F_,F_,F_,F_,F_,F_,F_,F_,F_,F_,F_,F_,F_,F_,F_,F_,F_,F_,F_,F_,F_,F_,F_] rfl rfl (any_of HT_.out (by kernel_rfl)) (fun _ _ _ h => h) (Or.inl ⟨by rfl, ?_⟩) ?_ ?_
            rotate_left
            ·intro w'
             go_simp
             with_reducible rfl
            rotate_left
            ·exact P_
            refine pure_ (i := 9) (N := some 42) (v := ?_) (a' := ?_) #[T_,T_,T_,T_,T_,T_,T_,T_,T_,T_,F_,F_,F_,F_,F_,F_,F_,F_,F_,F_,F_,F_,F_,F_,F_,F_,F_,F_,F_,F_,F_,F_,F_,F_,F_,F_,F_,F_,F_,F_,F_] rfl rfl (any_of HT_.out (by kernel_rfl)) (fun _ _ _ h => h) (Or.inl ⟨by rfl, ?_⟩) ?_ ?_
            rotate_left
            ·intro w'
             go_simp
             with_reducible rfl
            rotate_left
            ·exact P_
            refine pure_ (i := 10) (N := some 43) (v := ?_) (a' := ?_) #[T_,T_,T_,T_,T_,T_,T_,T_,T_,T_,T_,F_,F_,F_,F_,F_,F_,F_,F_,F_,F_,F_,F_,F_,F_,F_,F_,F_,F_,F_,F_,F_,F_,F_,F_,F_,F_,F_,F_,F_,F_] rfl rfl (any_of HT_.out (by kernel_rfl)) (fun _ _ _ h => h) (Or.inl ⟨by rfl, ?_⟩) ?_ ?_
            rotate_left
            ·intro w'
             go_simp
             with_reducible rfl
            rotate_left
            ·exact P_
            refine pure_ (i := 11) (N := some 44) (v := ?_) (a' := ?_) #[T_,T_,T_,T_,T_,T_,T_,T_,T_,T_,T_,T_,F_,F_,F_,F_,F_,F_,F_,F_,F_,F_,F_,F_,F_,F_,F_,F_,F_,F_,F_,F_,F_,F_,F_,F_,F_,F_,F_,F_,F_] rfl rfl (any_of HT_.out (by kernel_rfl)) (fun _ _ _ h => h) (Or.inl ⟨by rfl, ?_⟩) ?_ ?_
            rotate_left
            ·intro w'
             go_simp
             with_reducible rfl
            rotate_left
            ·exact P_
            refine pure_ (i := 13) (N := some 46) (v := ?_) (a' := ?_) #[T_,T_,T_,T_,T_,T_,T_,T_,T_,T_,T_,T_,F_,T_,F_,F_,F_,F_,F_,F_,F_,F_,F_,F_,F_,F_,F_,F_,F_,F_,F_,F_,F_,F_,F_,F_,F_,F_,F_,F_,F_] rfl rfl (any_of HT_.out (by kernel_rfl)) (fun _ _ _ h => h) (Or.inl ⟨by rfl, ?_⟩) ?_ ?_
            rotate_left
            ·intro w'
             go_simp
             with_reducible rfl
            rotate_left
            ·exact P_
            refine pure_ (i := 16) (N := some 49) (v := ?_) (a' := ?_) #[T_,T_,T_,T_,T_,T_,T_,T_,T_,T_,T_,T_,F_,T_,F_,F_,T_,F_,F_,F_,F_,F_,F_,F_,F_,F_,F_,F_,F_,F_,F_,F_,F_,F_,F_,F_,F_,F_,F_,F_,F_] rfl rfl (any_of HT_.out (by kernel_rfl)) (fun _ _ _ h => h) (Or.inl ⟨by rfl, ?_⟩) ?_ ?_
            rotate_left
            ·intro w'
             go_simp
             with_reducible rfl
            rotate_left
            ·exact P_
            refine take_ (i := 12) (N := some 45) (v := ?_) (a' := ?_) #[T_,T_,T_,T_,T_,T_,T_,T_,T_,T_,T_,T_,T_,T_,F_,F_,T_,F_,F_,F_,F_,F_,F_,F_,F_,F_,F_,F_,F_,F_,F_,F_,F_,F_,F_,F_,F_,F_,F_,F_,F_] rfl rfl (take_ofW HT_.out HW_.out (by kernel_rfl)) (fun _ _ _ h => h) (Or.inl ⟨by rfl, ?_⟩) hHeld ?_ ?_
            rotate_left
            ·rintro w' ⟨s0, s1, s2, s3⟩
             go_simp
             with_reducible rfl
            rotate_left
            ·exact P_
            refine pure_ (i := 14) (N := some 47) (v := ?_) (a' := ?_) #[T_,T_,T_,T_,T_,T_,T_,T_,T_,T_,T_,T_,T_,T_,T_,F_,T_,F_,F_,F_,F_,F_,F_,F_,F_,F_,F_,F_,F_,F_,F_,F_,F_,F_,F_,F_,F_,F_,F_,F_,F_] rfl rfl (any_of HT_.out (by kernel_rfl)) (fun _ _ _ h => h) (Or.inl ⟨by rfl, ?_⟩) ?_ ?_
            rotate_left
            ·intro w'
             go_simp
             with_reducible rfl
            rotate_left
            ·exact P_
            refine take_ (i := 15) (N := some 48) (v := ?_) (a' := ?_) #[T_,T_,T_,T_,T_,T_,T_,T_,T_,T_,T_,T_,T_,T_,T_,T_,T_,F_,F_,F_,F_,F_,F_,F_,F_,F_,F_,F_,F_,F_,F_,F_,F_,F_,F_,F_,F_,F_,F_,F_,F_] rfl rfl (take_ofW HT_.out HW_.out (by kernel_rfl)) (fun _ _ _ h => h) (Or.inl ⟨by rfl, ?_⟩) hHeld ?_ ?_
            rotate_left
            ·rintro w' ⟨s0, s1, s2, s3⟩
             go_simp
             with_reducible rfl
            rotate_left
            ·exact P_
            refine pure_ (i := 17) (N := some 50) (v := ?_) (a' := ?_) #[T_,T_,T_,T_,T_,T_,T_,T_,T_,T_,T_,T_,T_,T_,T_,T_,T_,T_,F_,F_,F_,F_,F_,F_,F_,F_,F_,F_,F_,F_,F_,F_,F_,F_,F_,F_,F_,F_,F_,F_,F_] rfl rfl (any_of HT_.out (by kernel_rfl)) (fun _ _ _ h => h) (Or.inl ⟨by rfl, ?_⟩) ?_ ?_
            rotate_left
            ·intro w'
             go_simp
             with_reducible rfl
            rotate_left
            ·exact P_
            refine pure_ (i := 18) (N := some 51) (v := ?_) (a' := ?_) #[T_,T_,T_,T_,T_,T_,T_,T_,T_,T_,T_,T_,T_,T_,T_,T_,T_,T_,T_,F_,F_,F_,F_,F_,F_,F_,F_,F_,F_,F_,F_,F_,F_,F_,F_,F_,F_,F_,F_,F_,F_] rfl rfl (any_of HT_.out (by kernel_rfl)) (fun _ _ _ h => h) (Or.inl ⟨by rfl, ?_⟩) ?_ ?_
            rotate_left
            ·intro w'
             go_simp
             with_reducible rfl
            rotate_left
            ·exact P_
            refine pure_ (i := 19) (N := some 52) (v := ?_) (a' := ?_) #[T_,T_,T_,T_,T_,T_,T_,T_,T_,T_,T_,T_,T_,T_,T_,T_,T_,T_,T_,T_,F_,F_,F_,F_,F_,F_,F_,F_,F_,F_,F_,F_,F_,F_,F_,F_,F_,F_,F_,F_,F_] rfl rfl (any_of HT_.out (by kernel_rfl)) (fun _ _ _ h => h) (Or.inl ⟨by rfl, ?_⟩) ?_ ?_
            rotate_left
            ·intro w'
             go_simp
             with_reducible rfl
            rotate_left
            ·exact P_
            refine pure_ (i := 20) (N := some 53) (v := ?_) (a' := ?_) #[T_,T_,T_,T_,T_,T_,T_,T_,T_,T_,T_,T_,T_,T_,T_,T_,T_,T_,T_,T_,T_,F_,F_,F_,F_,F_,F_,F_,F_,F_,F_,F_,F_,F_,F_,F_,F_,F_,F_,F_,F_] rfl rfl (any_of HT_.out (by kernel_rfl)) (fun _ _ _ h => h) (Or.inl ⟨by rfl, ?_⟩) ?_ ?_
            rotate_left
            ·intro w'
             go_simp
             with_reducible rfl
            rotate_left
            ·exact P_
            refine pure_ (i := 21) (N := some 54) (v := ?_) (a' := ?_) #[T_,T_,T_,T_,T_,T_,T_,T_,T_,T_,T_,T_,T_,T_,T_,T_,T_,T_,T_,T_,T_,T_,F_,F_,F_,F_,F_,F_,F_,F_,F_,F_,F_,F_,F_,F_,F_,F_,F_,F_,F_] rfl rfl (any_of HT_.out (by kernel_rfl)) (fun _ _ _ h => h) (Or.inl ⟨by rfl, ?_⟩) ?_ ?_
            rotate_left
            ·intro w'
             go_simp
             with_reducible rfl
            rotate_left
            ·exact P_
            refine pure_ (i := 22) (N := some 55) (v := ?_) (a' := ?_) #[T_,T_,T_,T_,T_,T_,T_,T_,T_,T_,T_,T_,T_,T_,T_,T_,T_,T_,T_,T_,T_,T_,T_,F_,F_,F_,F_,F_,F_,F_,F_,F_,F_,F_,F_,F_,F_,F_,F_,F_,F_] rfl rfl (any_of HT_.out (by kernel_rfl)) (fun _ _ _ h => h) (Or.inl ⟨by rfl, ?_⟩) ?_ ?_
            rotate_left
            ·intro w'
             go_simp
             with_reducible rfl
            rotate_left
            ·exact P_
            refine pure_ (i := 23) (N := some 56) (v := undef) (a' := ?_) #[T_,T_,T_,T_,T_,T_,T_,T_,T_,T_,T_,T_,T_,T_,T_,T_,T_,T_,T_,T_,T_,T_,T_,T_,F_,F_,F_,F_,F_,F_,F_,F_,F_,F_,F_,F_,F_,F_,F_,F_,F_] rfl rfl (any_of HT_.out (by kernel_rfl)) (fun _ _ _ h => h) (Or.inr ⟨by rfl, rfl⟩) ?_ ?_
            rotate_left
            ·exact P_
            refine pure_ (i := 24) (N := some 57) (v := undef) (a' := ?_) #[T_,T_,T_,T_,T_,T_,T_,T_,T_,T_,T_,T_,T_,T_,T_,T_,T_,T_,T_,T_,T_,T_,T_,T_,T_,F_,F_,F_,F_,F_,F_,F_,F_,F_,F_,F_,F_,F_,F_,F_,F_] rfl rfl (any_of HT_.out (by kernel_rfl)) (fun _ _ _ h => h) (Or.inr ⟨by rfl, rfl⟩) ?_ ?_
            rotate_left
            ·exact P_
            refine pure_ (i := 25) (N := some 58) (v := undef) (a' := ?_) #[T_,T_,T_,T_,T_,T_,T_,T_,T_,T_,T_,T_,T_,T_,T_,T_,T_,T_,T_,T_,T_,T_,T_,T_,T_,T_,F_,F_,F_,F_,F_,F_,F_,F_,F_,F_,F_,F_,F_,F_,F_] rfl rfl (any_of HT_.out (by kernel_rfl)) (fun _ _ _ h => h) (Or.inr ⟨by rfl, rfl⟩) ?_ ?_
            rotate_left
            ·exact P_
            refine pure_ (i := 26) (N := some 59) (v := undef) (a' := ?_) #[T_,T_,T_,T_,T_,T_,T_,T_,T_,T_,T_,T_,T_,T_,T_,T_,T_,T_,T_,T_,T_,T_,T_,T_,T_,T_,T_,F_,F_,F_,F_,F_,F_,F_,F_,F_,F_,F_,F_,F_,F_] rfl rfl (any_of HT_.out (by kernel_rfl)) (fun _ _ _ h => h) (Or.inr ⟨by rfl, rfl⟩) ?_ ?_
            rotate_left
            ·exact P_
            refine pure_ (i := 27) (N := some 60) (v := undef) (a' := ?_) #[T_,T_,T_,T_,T_,T_,T_,T_,T_,T_,T_,T_,T_,T_,T_,T_,T_,T_,T_,T_,T_,T_,T_,T_,T_,T_,T_,T_,F_,F_,F_,F_,F_,F_,F_,F_,F_,F_,F_,F_,F_] rfl rfl (any_of HT_.out (by kernel_rfl)) (fun _ _ _ h => h) (Or.inr ⟨by rfl, rfl⟩) ?_ ?_
            rotate_left
            ·exact P_
            refine pure_ (i := 28) (N := some 61) (v := undef) (a' := ?_) #[T_,T_,T_,T_,T_,T_,T_,T_,T_,T_,T_,T_,T_,T_,T_,T_,T_,T_,T_,T_,T_,T_,T_,T_,T_,T_,T_,T_,T_,F_,F_,F_,F_,F_,F_,F_,F_,F_,F_,F_,F_] rfl rfl (any_of HT_.out (by kernel_rfl)) (fun _ _ _ h => h) (Or.inr ⟨by rfl, rfl⟩) ?_ ?_
            rotate_left
            ·exact P_
            refine pure_ (i := 29) (N := some 62) (v := undef) (a' := ?_) #[T_,T_,T_,T_,T_,T_,T_,T_,T_,T_,T_,T_,T_,T_,T_,T_,T_,T_,T_,T_,T_,T_,T_,T_,T_,T_,T_,T_,T_,T_,F_,F_,F_,F_,F_,F_,F_,F_,F_,F_,F_] rfl rfl (any_of HT_.out (by kernel_rfl)) (fun _ _ _ h => h) (Or.inr ⟨by rfl, rfl⟩) ?_ ?_
            rotate_left
            ·exact P_
            refine pure_ (i := 30) (N := some 63) (v := undef) (a' := ?_) #[T_,T_,T_,T_,T_,T_,T_,T_,T_,T_,T_,T_,T_,T_,T_,T_,T_,T_,T_,T_,T_,T_,T_,T_,T_,T_,T_,T_,T_,T_,T_,F_,F_,F_,F_,F_,F_,F_,F_,F_,F_] rfl rfl (any_of HT_.out (by kernel_rfl)) (fun _ _ _ h => h) (Or.inr ⟨by rfl, rfl⟩) ?_ ?_
            rotate_left
            ·exact P_
            refine pure_ (i := 31) (N := some 64) (v := undef) (a' := ?_) #[T_,T_,T_,T_,T_,T_,T_,T_,T_,T_,T_,T_,T_,T_,T_,T_,T_,T_,T_,T_,T_,T_,T_,T_,T_,T_,T_,T_,T_,T_,T_,T_,F_,F_,F_,F_,F_,F_,F_,F_,F_] rfl rfl (any_of HT_.out (by kernel_rfl)) (fun _ _ _ h => h) (Or.inr ⟨by rfl, rfl⟩) ?_ ?_
            rotate_left
            ·exact P_
            refine pure_ (i := 32) (N := some 65) (v := undef) (a' := ?_) #[T_,T_,T_,T_,T_,T_,T_,T_,T_,T_,T_,T_,T_,T_,T_,T_,T_,T_,T_,T_,T_,T_,T_,T_,T_,T_,T_,T_,T_,T_,T_,T_,T_,F_,F_,F_,F_,F_,F_,F_,F_] rfl rfl (any_of HT_.out (by kernel_rfl)) (fun _ _ _ h => h) (Or.inr ⟨by rfl, rfl⟩) ?_ ?_
            rotate_left
            ·exact P_
            refine pure_ (i := 33) (N := some 66) (v := undef) (a' := ?_) #[T_,T_,T_,T_,T_,T_,T_,T_,T_,T_,T_,T_,T_,T_,T_,T_,T_,T_,T_,T_,T_,T_,T_,T_,T_,T_,T_,T_,T_,T_,T_,T_,T_,T_,F_,F_,F_,F_,F_,F_,F_] rfl rfl (any_of HT_.out (by kernel_rfl)) (fun _ _ _ h => h) (Or.inr ⟨by rfl, rfl⟩) ?_ ?_
            rotate_left
            ·exact P_
            refine pure_ (i := 34) (N := some 67) (v := undef) (a' := ?_) #[T_,T_,T_,T_,T_,T_,T_,T_,T_,T_,T_,T_,T_,T_,T_,T_,T_,T_,T_,T_,T_,T_,T_,T_,T_,T_,T_,T_,T_,T_,T_,T_,T_,T_,T_,F_,F_,F_,F_,F_,F_] rfl rfl (any_of HT_.out (by kernel_rfl)) (fun _ _ _ h => h) (Or.inr ⟨by rfl, rfl⟩) ?_ ?_
            rotate_left
            ·exact P_
            refine pure_ (i := 35) (N := some 68) (v := undef) (a' := ?_) #[T_,T_,T_,T_,T_,T_,T_,T_,T_,T_,T_,T_,T_,T_,T_,T_,T_,T_,T_,T_,T_,T_,T_,T_,T_,T_,T_,T_,T_,T_,T_,T_,T_,T_,T_,T_,F_,F_,F_,F_,F_] rfl rfl (any_of HT_.out (by kernel_rfl)) (fun _ _ _ h => h) (Or.inr ⟨by rfl, rfl⟩) ?_ ?_
            rotate_left
            ·exact P_
            refine pure_ (i := 36) (N := some 69) (v := undef) (a' := ?_) #[T_,T_,T_,T_,T_,T_,T_,T_,T_,T_,T_,T_,T_,T_,T_,T_,T_,T_,T_,T_,T_,T_,T_,T_,T_,T_,T_,T_,T_,T_,T_,T_,T_,T_,T_,T_,T_,F_,F_,F_,F_] rfl rfl (any_of HT_.out (by kernel_rfl)) (fun _ _ _ h => h) (Or.inr ⟨by rfl, rfl⟩) ?_ ?_
            rotate_left
            ·exact P_
            refine pure_ (i := 37) (N := some 70) (v := undef) (a' := ?_) #[T_,T_,T_,T_,T_,T_,T_,T_,T_,T_,T_,T_,T_,T_,T_,T_,T_,T_,T_,T_,T_,T_,T_,T_,T_,T_,T_,T_,T_,T_,T_,T_,T_,T_,T_,T_,T_,T_,F_,F_,F_] rfl rfl (any_of HT_.out (by kernel_rfl)) (fun _ _ _ h => h) (Or.inr ⟨by rfl, rfl⟩) ?_ ?_
            rotate_left
            ·exact P_
            refine pure_ (i := 38) (N := some 71) (v := undef) (a' := ?_) #[T_,T_,T_,T_,T_,T_,T_,T_,T_,T_,T_,T_,T_,T_,T_,T_,T_,T_,T_,T_,T_,T_,T_,T_,T_,T_,T_,T_,T_,T_,T_,T_,T_,T_,T_,T_,T_,T_,T_,F_,F_] rfl rfl (any_of HT_.out (by kernel_rfl)) (fun _ _ _ h => h) (Or.inr ⟨by rfl, rfl⟩) ?_ ?_
            rotate_left
            ·exact P_
            refine pure_ (i := 39) (N := some 72) (v := ?_) (a' := ?_) #[T_,T_,T_,T_,T_,T_,T_,T_,T_,T_,T_,T_,T_,T_,T_,T_,T_,T_,T_,T_,T_,T_,T_,T_,T_,T_,T_,T_,T_,T_,T_,T_,T_,T_,T_,T_,T_,T_,T_,T_,F_] rfl rfl (any_of HT_.out (by kernel_rfl)) (fun _ _ _ h => h) (Or.inl ⟨by rfl, ?_⟩) ?_ ?_
            rotate_left
            ·intro w'
             go_simp
             with_reducible rfl
            rotate_left
            ·exact P_
            refine pure_ (i := 40) (N := some 73) (v := ?_) (a' := ?_) #[T_,T_,T_,T_,T_,T_,T_,T_,T_,T_,T_,T_,T_,T_,T_,T_,T_,T_,T_,T_,T_,T_,T_,T_,T_,T_,T_,T_,T_,T_,T_,T_,T_,T_,T_,T_,T_,T_,T_,T_,T_] rfl rfl (any_of HT_.out (by kernel_rfl)) (fun _ _ _ h => h) (Or.inl ⟨by rfl, ?_⟩) ?_ ?_
            rotate_left
            ·intro w'
             go_simp
             with_reducible rfl
            rotate_left
            ·exact P_
            refine done_ (done_of HT_.out (by kernel_rfl)) ?_
            try go_wp2
            go_roundg k3
            case measure => have := HJ1.out; have := HK2.out; have := HK3.out; omega
            case rel => exact ⟨(wrap64 (x6_3 + 1)), (by first | rfl | (simp; done) | (simp [*]; done)), H', ⟨by have := HJ1.out; have := HK2.out; have := HK3.out; omega⟩, ⟨by (with_reducible repeat (first | apply Kd.V_alloc | apply Kd.V_drewN | apply Kd.V_drew)); first | exact HO_0.out | exact Kd.R_mono HO_0.out (fun _ hk e_ => hk (e_.trans own_len))⟩, ⟨by exact KX_ BK319.out⟩, ⟨B1_⟩⟩
           rw [if_neg c11] at H
           exact absurd H (by simp)
          rw [if_neg c10] at H
          have c10b0 : decide (x6_3 < ((rd_L1 l0 x5_2).length : Int)) = false := decide_eq_false c10
          clear c10
          have H' := Aside0.mk H
          clear H
          have p320 : 0 ≤ (x5_2 : Int) := D_
          have q320 : x5_2 < (l0.length : Int) := D_
          obtain ⟨ad320, A320_0, c320_0, e320, hx320_0, hl320_0, hi320_0⟩ := at_L1 (Kd.V_reads' HO_0.out).2.2 x5_2 p320 q320
          cases e320
          obtain ⟨ce320, hce320, hMe320, hcc320⟩ := Kd.V_get HO_0.out [] x5_2 p320 (by first | exact q320 | exact D_ | (have e_ := (Kd.V_reads' HO_0.out).1; omega))
          obtain ⟨ua320_0, uc320_0, rfl, ul320_0, ge320_0⟩ := Kd.FK_slice_open hMe320
          have hv320_0 := hcc320 0 _ rfl
          rw [Nat.add_zero, show ((Kd.slice 3 (Kd.int .i64))).sz = 1 from rfl, Nat.mul_one] at hv320_0
          replace hv320_0 := Option.some.inj (hv320_0.symm.trans hx320_0)
          injection hv320_0 with hva_ hvn_ hvc_
          rw [hva_] at ge320_0
          rw [hvc_] at ul320_0
          have HL320_0 := Aside0.mk (show Kd.V (Kd.int .i64) 3 _ w.heap.size _ _ (rd_L1 l0 x5_2) from Kd.V_mk ul320_0 ge320_0)
          clear hva_ hvn_ hvc_ ge320_0 ul320_0
          clear hcc320 hce320
          have HR320_0 := Aside0.mk hi320_0
          have HC320_0 := Aside0.mk hl320_0
          clear hi320_0 hl320_0
          replace p320 := eq_true p320
          replace q320 := eq_true q320
          go_wp2
          go_roundg k3
          case measure => have := HJ1.out; have := HK2.out; have := HK3.out; omega
          case rel => exact ⟨(wrap64 (x5_2 + 1)), (by first | rfl | (simp; done) | (simp [*]; done)), H', ⟨by have := HJ1.out; have := HK2.out; have := HK3.out; omega⟩, ⟨by (with_reducible repeat (first | apply Kd.V_alloc | apply Kd.V_drewN | apply Kd.V_drew)); first | exact HO_0.out | exact Kd.R_mono HO_0.out (fun _ hk e_ => hk (e_.trans own_len))⟩, ⟨by exact KX_ BK319.out⟩, ⟨B1_⟩⟩
         rw [if_neg c9] at H
         exact absurd H (by simp)
        rw [if_neg c8] at H
        exact absurd H (by simp)
     rw [if_neg c7] at H
     have c7b0 : decide (x5_2 < (l0.length : Int)) = false := decide_eq_false c7
     clear c7
     by_cases c27 : 0 ≤ (l0.length : Int)
     ·rw [if_pos c27] at H
      have c27b0 := eq_true c27
      have c27b1 : decide (0 ≤ (l0.length : Int)) = true := decide_eq_true c27
      clear c27
      by_cases c28 : ((l0.length : Int) : Int).toNat ≤ 11728124029610
      ·rw [if_pos c28] at H
       have c28b0 := eq_true c28
       have c28b1 : decide (((l0.length : Int) : Int).toNat ≤ 11728124029610) = true := decide_eq_true c28
       clear c28
       obtain ⟨y329, hy329⟩ : ∃ y_ : List (List Int), y_ = (List.replicate ((l0.length : Int) : Int).toNat []) := ⟨_, rfl⟩
       replace H : (lockstepref06_Make.l2 k2 l0 (l0.length : Int) 0 l0 y329) = some (r1, r2, r3) := by first | (rw [hy329]; with_reducible exact H) | (have H2_ := (Option.bind_some _ _).symm.trans H; rw [hy329]; with_reducible exact H2_) | (have H2_ := (Option.bind_some _ _).symm.trans H; with_reducible exact H2_) | with_reducible exact H | (rw [hy329]; exact H) | exact H
       have Ny329 := Aside0.mk hy329
       clear hy329
       have H' := Aside0.mk H
       clear H
       go_wp2_with (first | ((with_reducible refine gate_dst (N := 77) rfl ?_); refine Kd.S_make (Kd.slice 3 (Kd.int .i64)) _ 31 rfl (N := 77) rfl 22 _ _ rfl (l0.length : Int) rfl rfl Try.underlying22 (.slice none 0 0) 24 info31 rfl (by decide) (by omega) [] (ok := fun _ => True) (okp := fun _ => True) ⟨_, rfl, Kd.R_nil _ _ _ _ _⟩ (fun _ hk => hk) trivial (D_) (Nat.le_trans (Nat.mul_le_mul_right _ (D_ : (l0.length : Int).toNat ≤ 11728124029610)) (by omega)) (Below.refl _ _) (Nat.le_refl _) ?_; intro v330 w29 ho30 hb hg_ hnew_; clear hg_ hnew_; (first | rw [← Ny329.out] at ho30 | (simp only [Int.reduceToNat] at ho30; rw [← Ny329.out] at ho30)); have n0_ := Aside0.mk (Kd.V_elder' (by (with_reducible repeat (first | apply Kd.V_alloc | apply Kd.V_drewN | apply Kd.V_drew)); exact HO_0.out) (Kd.S_base ho30) hb); have n1_ := Aside0.mk (Kd.S_lower (Kd.S_newM (M := fun k_ => (w.heap.size ≤ k_)) ho30 (below_size (B1_)) (fun k_ h_ => h_)) (below_size (B1_))); have n2_ := Aside0.mk (blk_below (g := gb319) (o := .cells #[.slice none 0 0, .slice none 0 0] 26 (0, 0)) (by exact KX_ BK319.out) hb); have n3_ := Aside0.mk (below_step (B1_) hb); clear HO_0; clear BK319; clear HB; have HO_0 := n0_; have HO331 := n1_; have BK319 := n2_; have HB := n3_; clear n0_ n1_ n2_ n3_; clear hb ho30; obtain ⟨Ao31, co31, eo31⟩ := Kd.S_slice HO331.out; subst eo31) | ((with_reducible refine gate_dst (N := 7) rfl ?_); refine box_event ?hg (N := 7) ?hd (cs := #[.slice none 0 0, .slice none 0 0]) (t := 26) ?hr ?_; (case hd => rfl); (case hg => rfl); (case hr => first | (go_simp; done) | (go_simp; rfl)); intro gb332 hg w32 hbox hb; have n0_ := Aside0.mk (Kd.V_below (Kd.V_elderB (by (with_reducible repeat (first | apply Kd.V_alloc | apply Kd.V_drewN | apply Kd.V_drew)); exact HO_0.out) gb332 (Nat.le_of_eq hg.symm)) hb); have n1_ := Aside0.mk (Kd.S_below (by exact SX_ HO331.out) hb); have n2_ := Aside0.mk (blk_below (g := gb319) (o := .cells #[.slice none 0 0, .slice none 0 0] 26 (0, 0)) (by exact KX_ BK319.out) hb); have n3_ := Aside0.mk (below_step (B1_) hb); have n4_ := Aside0.mk (hbox); have n5_ := Aside0.mk ((by rw [hg]; exact (below_size (B1_)) : w.heap.size ≤ gb332)); have n6_ := Aside0.mk ((by rw [hg]; exact (below_size (B1_)) : w.heap.size ≤ gb332)); have n7_ := Aside0.mk ((by rw [hg]; exact Nat.ne_of_lt (blk_lt (g := gb319) (o := .cells #[.slice none 0 0, .slice none 0 0] 26 (0, 0)) (by exact KX_ BK319.out)) : gb319 ≠ gb332)); have n8_ := Aside0.mk ((by rw [hg]; exact Nat.ne_of_gt (blk_lt (g := gb319) (o := .cells #[.slice none 0 0, .slice none 0 0] 26 (0, 0)) (by exact KX_ BK319.out)) : gb332 ≠ gb319)); clear HO_0; clear HO331; clear BK319; clear HB; have HO_0 := n0_; have HO331 := n1_; have BK319 := n2_; have HB := n3_; have BK332 := n4_; have GW332 := n5_; have GE332 := n6_; have NB319_332 := n7_; have NB332_319 := n8_; clear n0_ n1_ n2_ n3_ n4_ n5_ n6_ n7_ n8_; clear hb hbox hg; have hnb33 := NB332_319.out; have hnc33 := NB319_332.out; have hcz34_0 : w32.cell? ⟨gb332, 0, none⟩ = some (.slice none 0 0) := (blk_cell BK332.out 0).trans rfl; have hcz34_1 : w32.cell? ⟨gb332, 1, none⟩ = some (.slice none 0 0) := (blk_cell BK332.out 1).trans rfl; have hfz34_0 := blk_frozen BK332.out 0; have hfz34_1 := blk_frozen BK332.out 1))
       go_loopg [8] k2 (fun kq v8 w' => ∃ (x8_3 : Int) (x333001_3 : List (List Int)) (u333001 : Value), v8 = .int .i64 x8_3 ∧ Aside0 (lockstepref06_Make.l2 kq l0 (l0.length : Int) x8_3 l0 x333001_3 = some (r1, r2, r3)) ∧ Aside0 (kq ≤ k2) ∧ Aside0 (Kd.V (Kd.slice 3 (Kd.int .i64)) 31 w' w.heap.size (fun k_ => (P0_ k_ ∧ k_ < w.heap.size) ∧ some k_ ≠ (u333001 : Value).ownBlock ∧ k_ ≠ gb319 ∧ k_ ≠ gb332) (.slice A0 l0.length c0) l0) ∧ Aside0 (Kd.V (Kd.slice 3 (Kd.int .i64)) 31 w' w.heap.size (fun k_ => (P0_ k_ ∧ k_ < w.heap.size) ∧ some k_ ≠ (u333001 : Value).ownBlock ∧ k_ ≠ gb319 ∧ k_ ≠ gb332) (.slice A0 l0.length c0) l0) ∧ Aside0 (Kd.S (Kd.slice 3 (Kd.int .i64)) 31 w' w.heap.size (fun k_ => (w.heap.size ≤ k_)) u333001 x333001_3) ∧ Aside0 (w'.heap[gb319]? = some (.cells #[(.slice none 0 0), (.slice none 0 0)] 26 (0, 0))) ∧ Aside0 (w'.heap[gb332]? = some (.cells #[(.slice A0 l0.length c0), u333001] 26 (0, 0))) ∧ Aside0 (Below w.heap.size w w'))
       case atStart => exact ⟨(0), (y329), (.slice Ao31 y329.length co31), (by first | rfl | (simp; done) | (simp [*]; done)), H', ⟨Nat.le_refl _⟩, ⟨by (with_reducible repeat (first | apply Kd.V_alloc | apply Kd.V_drewN | apply Kd.V_drew)); exact Kd.V_mono (Kd.V_far (p := ⟨gb332, 1, none⟩) (Kd.V_far (p := ⟨gb332, 0, none⟩) (Kd.V_mono HO_0.out (fun k_ hk => (⟨hk, hk.2⟩ : _ ∧ k_ ≠ gb332))) (fun _ hk => hk.2) (.slice A0 l0.length c0)) (fun _ hk => hk.2) (.slice Ao31 y329.length co31)) (fun _ hk => ⟨hk.1.1.1.1, ⟨hk.1.1.2, ⟨hk.1.1.1.2, hk.1.2⟩⟩⟩)⟩, ⟨by (with_reducible repeat (first | apply Kd.V_alloc | apply Kd.V_drewN | apply Kd.V_drew)); exact Kd.V_mono (Kd.V_far (p := ⟨gb332, 1, none⟩) (Kd.V_far (p := ⟨gb332, 0, none⟩) (Kd.V_mono HO_0.out (fun k_ hk => (⟨hk, hk.2⟩ : _ ∧ k_ ≠ gb332))) (fun _ hk => hk.2) (.slice A0 l0.length c0)) (fun _ hk => hk.2) (.slice Ao31 y329.length co31)) (fun _ hk => ⟨hk.1.1.1.1, ⟨hk.1.1.2, ⟨hk.1.1.1.2, hk.1.2⟩⟩⟩)⟩, ⟨by (with_reducible repeat (first | apply Kd.S_alloc | apply Kd.S_drewN | apply Kd.S_drew)); exact Kd.S_mono (Kd.S_far (p := ⟨gb332, 1, none⟩) (Kd.S_far (p := ⟨gb332, 0, none⟩) (Kd.S_types HO331.out BK332.out (by decide)) (fun _ hk => hk.2) (.slice A0 l0.length c0)) (fun _ hk => hk.2) (.slice Ao31 y329.length co31)) (fun _ hk => hk.1.1)⟩, ⟨by (with_reducible repeat (first | refine blk_drewN ?_ _ | refine blk_drew ?_ | refine blk_alloc ?_ _)); refine blk_far ?_ NB319_332.out _; (with_reducible repeat (first | refine blk_drewN ?_ _ | refine blk_drew ?_ | refine blk_alloc ?_ _)); refine blk_far ?_ NB319_332.out _; exact KX_ BK319.out⟩, ⟨by (with_reducible repeat (first | refine blk_drewN ?_ _ | refine blk_drew ?_ | refine blk_alloc ?_ _)); refine blk_put (cs := #[.slice A0 l0.length c0, .slice none 0 0]) ?_ 1 _ rfl; (with_reducible repeat (first | refine blk_drewN ?_ _ | refine blk_drew ?_ | refine blk_alloc ?_ _)); refine blk_put (cs := #[.slice none 0 0, .slice none 0 0]) ?_ 0 _ rfl; exact KX_ BK332.out⟩, ⟨B1_⟩⟩
       case round =>
        clear H'
        try clear c7b0
        try clear c27b0
        try clear c27b1
        try clear c28b0
        try clear c28b1
        try clear hcz34_0
        try clear hcz34_1
        try clear hfz34_0
        try clear hfz34_1
        obtain ⟨x8_3, x333001_3, u333001, rfl, HA, HK3, HO_0, HO_333000, HO_333001, BK319, BK332, HB⟩ := hrel
        cases gk with
        | zero => exact absurd HA.out (by simp [lockstepref06_Make.l2])
        | succ k3 =>
         have H := HA.out
         clear HA
         simp only [lockstepref06_Make.l2] at H
         by_cases c35 : x8_3 < (l0.length : Int)
         ·rw [if_pos c35] at H
          have c35b0 : decide (x8_3 < (l0.length : Int)) = true := decide_eq_true c35
          clear c35
          have H' := Aside0.mk H
          clear H
          go_wp2
          go_loopg [9] k3 (fun kq v9 w' => ∃ (x9_4 : Int) (x333001_4 : List (List Int)) (u333001 : Value), v9 = .int .i64 x9_4 ∧ Aside0 (lockstepref06_Make.l3 kq l0 (l0.length : Int) x8_3 x9_4 l0 x333001_4 = some (r1, r2, r3)) ∧ Aside0 (kq ≤ k3) ∧ Aside0 (Kd.V (Kd.slice 3 (Kd.int .i64)) 31 w' w.heap.size (fun k_ => (P0_ k_ ∧ k_ < w.heap.size) ∧ some k_ ≠ (u333001 : Value).ownBlock ∧ k_ ≠ gb319 ∧ k_ ≠ gb332) (.slice A0 l0.length c0) l0) ∧ Aside0 (Kd.V (Kd.slice 3 (Kd.int .i64)) 31 w' w.heap.size (fun k_ => (P0_ k_ ∧ k_ < w.heap.size) ∧ some k_ ≠ (u333001 : Value).ownBlock ∧ k_ ≠ gb319 ∧ k_ ≠ gb332) (.slice A0 l0.length c0) l0) ∧ Aside0 (Kd.S (Kd.slice 3 (Kd.int .i64)) 31 w' w.heap.size (fun k_ => (w.heap.size ≤ k_)) u333001 x333001_4) ∧ Aside0 (w'.heap[gb319]? = some (.cells #[(.slice none 0 0), (.slice none 0 0)] 26 (0, 0))) ∧ Aside0 (w'.heap[gb332]? = some (.cells #[(.slice A0 l0.length c0), u333001] 26 (0, 0))) ∧ Aside0 (Below w.heap.size w w'))
          case atStart => exact ⟨(0), (x333001_3), (u333001), (by first | rfl | (simp; done) | (simp [*]; done)), H', ⟨Nat.le_refl _⟩, ⟨by (with_reducible repeat (first | apply Kd.V_alloc | apply Kd.V_drewN | apply Kd.V_drew)); first | exact HO_0.out | exact Kd.R_mono HO_0.out (fun _ hk e_ => hk (e_.trans own_len))⟩, ⟨by (with_reducible repeat (first | apply Kd.V_alloc | apply Kd.V_drewN | apply Kd.V_drew)); first | exact HO_333000.out | exact Kd.R_mono HO_333000.out (fun _ hk e_ => hk (e_.trans own_len))⟩, ⟨by exact SM_ HO_333001.out⟩, ⟨by exact KX_ BK319.out⟩, ⟨by exact KX_ BK332.out⟩, ⟨B1_⟩⟩
          case round =>
           clear H'
           try clear c35b0
           obtain ⟨x9_4, x333001_4, u333001, rfl, HA, HK4, HO_0, HO_333000, HO_333001, BK319, BK332, HB⟩ := hrel
           cases gk with
           | zero => exact absurd HA.out (by simp [lockstepref06_Make.l3])
           | succ k4 =>
            have H := HA.out
            clear HA
            simp only [lockstepref06_Make.l3] at H
            by_cases c36 : x9_4 < (l0.length : Int)
            ·rw [if_pos c36] at H
             have c36b0 : decide (x9_4 < (l0.length : Int)) = true := decide_eq_true c36
             clear c36
             by_cases c37 : 0 ≤ x9_4
             ·rw [if_pos c37] at H
              have c37b0 : decide (0 ≤ x9_4) = true := decide_eq_true c37
              clear c37
              by_cases c38 : x9_4 < (l0.length : Int)
              ·rw [if_pos c38] at H
               have c38b0 : decide (x9_4 < (l0.length : Int)) = true := decide_eq_true c38
               clear c38
               replace H := Option.bind_eq_some_iff.mp H
               obtain ⟨t334, A390, H⟩ := H
               replace H : (if t334 = true then (if 0 ≤ x8_3 then (if x8_3 < (x333001_4.length : Int) then (if (rd_L1 x333001_4 x8_3).length < 17592186044416 then (lockstepref06_Make.l3 k4 l0 (l0.length : Int) x8_3 (wrap64 (x9_4 + 1)) l0 (x333001_4.set (x8_3 : Int).toNat ((rd_L1 x333001_4 x8_3) ++ [x9_4]))) else (none)) else (none)) else (none)) else (lockstepref06_Make.l3 k4 l0 (l0.length : Int) x8_3 (wrap64 (x9_4 + 1)) l0 x333001_4)) = some (r1, r2, r3) := H
               have A39 := Aside0.mk A390
               clear A390
               by_cases c40 : t334 = true
               ·subst c40
                have H1 : (if 0 ≤ x8_3 then (if x8_3 < (x333001_4.length : Int) then (if (rd_L1 x333001_4 x8_3).length < 17592186044416 then (lockstepref06_Make.l3 k4 l0 (l0.length : Int) x8_3 (wrap64 (x9_4 + 1)) l0 (x333001_4.set (x8_3 : Int).toNat ((rd_L1 x333001_4 x8_3) ++ [x9_4]))) else (none)) else (none)) else (none)) = some (r1, r2, r3) := by rw [if_pos rfl] at H; exact H
                clear H
                have H := H1
                clear H1
                by_cases c41 : 0 ≤ x8_3
                ·rw [if_pos c41] at H
                 have c41b0 : decide (0 ≤ x8_3) = true := decide_eq_true c41
                 clear c41
                 by_cases c42 : x8_3 < (x333001_4.length : Int)
                 ·rw [if_pos c42] at H
                  have c42b0 : decide (x8_3 < (x333001_4.length : Int)) = true := decide_eq_true c42
                  clear c42
                  by_cases c43 : (rd_L1 x333001_4 x8_3).length < 17592186044416
                  ·rw [if_pos c43] at H
                   have LMc43 := Aside0.mk c43
                   clear c43
                   obtain ⟨y336, hy336⟩ : ∃ y_ : List Int, y_ = ((rd_L1 x333001_4 x8_3) ++ [x9_4]) := ⟨_, rfl⟩
                   replace H : (lockstepref06_Make.l3 k4 l0 (l0.length : Int) x8_3 (wrap64 (x9_4 + 1)) l0 (x333001_4.set (x8_3 : Int).toNat y336)) = some (r1, r2, r3) := by first | (rw [hy336]; with_reducible exact H) | (have H2_ := (Option.bind_some _ _).symm.trans H; rw [hy336]; with_reducible exact H2_) | (have H2_ := (Option.bind_some _ _).symm.trans H; with_reducible exact H2_) | with_reducible exact H | (rw [hy336]; exact H) | exact H
                   have Ny336 := Aside0.mk hy336
                   clear hy336
                   obtain ⟨y339, hy339⟩ : ∃ y_ : List (List Int), y_ = (x333001_4.set (x8_3 : Int).toNat y336) := ⟨_, rfl⟩
                   replace H : (lockstepref06_Make.l3 k4 l0 (l0.length : Int) x8_3 (wrap64 (x9_4 + 1)) l0 y339) = some (r1, r2, r3) := by first | (rw [hy339]; with_reducible exact H) | (have H2_ := (Option.bind_some _ _).symm.trans H; rw [hy339]; with_reducible exact H2_) | (have H2_ := (Option.bind_some _ _).symm.trans H; with_reducible exact H2_) | with_reducible exact H | (rw [hy339]; exact H) | exact H
                   have Ny339 := Aside0.mk hy339
                   clear hy339
                   have H' := Aside0.mk H
                   clear H
                   have p333 : 0 ≤ (x9_4 : Int) := D_
                   have q333 : x9_4 < (l0.length : Int) := D_
                   obtain ⟨ad333, A333_0, c333_0, e333, hx333_0, hl333_0, hi333_0⟩ := at_L1 (Kd.V_reads' HO_0.out).2.2 x9_4 p333 q333
                   cases e333
                   obtain ⟨ce333, hce333, hMe333, hcc333⟩ := Kd.V_get HO_0.out [] x9_4 p333 (by first | exact q333 | exact D_ | (have e_ := (Kd.V_reads' HO_0.out).1; omega))
                   obtain ⟨ua333_0, uc333_0, rfl, ul333_0, ge333_0⟩ := Kd.FK_slice_open hMe333
                   have hv333_0 := hcc333 0 _ rfl
                   rw [Nat.add_zero, show ((Kd.slice 3 (Kd.int .i64))).sz = 1 from rfl, Nat.mul_one] at hv333_0
                   replace hv333_0 := Option.some.inj (hv333_0.symm.trans hx333_0)
                   injection hv333_0 with hva_ hvn_ hvc_
                   rw [hva_] at ge333_0
                   rw [hvc_] at ul333_0
                   have HL333_0 := Aside0.mk (show Kd.V (Kd.int .i64) 3 _ w.heap.size _ _ (rd_L1 l0 x9_4) from Kd.V_mk ul333_0 ge333_0)
                   clear hva_ hvn_ hvc_ ge333_0 ul333_0
                   clear hcc333 hce333
                   have HR333_0 := Aside0.mk hi333_0
                   have HC333_0 := Aside0.mk hl333_0
                   clear hi333_0 hl333_0
                   replace p333 := eq_true p333
                   replace q333 := eq_true q333
                   try go_wp2_with (first | ((with_reducible refine gate_callee (f := 23) rfl ?_); refine goesL_ (some 94) rfl rfl Try.func23 (by kernel_rfl) rfl #[.slice A333_0 (rd_L1 l0 x9_4).length c333_0, .int .i64 x8_3] rfl (by (try simp only [List.map_toArray, List.map_cons, List.map_nil]); first | done | rfl | (simp only [List.length_drop, List.length_take]; rfl)) ?_; (with_reducible refine (lockstepref06_Has.calls k4 _ _ (rd_L1 l0 x9_4) x8_3 true _ ?side1 ?side2 A39.out).mono ?_); (case side1 => repeat (first | exact (by repeat (first | (with_reducible exact HR333_0.out) | (with_reducible refine Kd.C_alloc ?_ _) | (with_reducible refine Kd.C_drewN ?_ _) | (with_reducible refine Kd.C_drew ?_) | exact HR333_0.out)) | (with_reducible refine Kd.C_alloc ?_ _) | (with_reducible refine Kd.C_drewN ?_ _) | (with_reducible refine Kd.C_drew ?_))); (case side2 => exact HC333_0.out); rintro e w' ⟨rfl, ⟨nd, rfl⟩⟩; refine ⟨_, rfl, ?_⟩; (try (rw [drewN_self wr]; generalize hq_ : World.drewN wr _ = wr; have n0_ : Aside0 (Kd.V (Kd.int .i64) 3 wr w.heap.size (fun k_ => (P0_ k_ ∧ k_ < w.heap.size) ∧ some k_ ≠ (u333001 : Value).ownBlock ∧ k_ ≠ gb319 ∧ k_ ≠ gb332) (.slice A333_0 (rd_L1 l0 x9_4).length c333_0) (rd_L1 l0 x9_4)) := ⟨by rw [← hq_]; exact (by (with_reducible repeat (first | apply Kd.V_alloc | apply Kd.V_drewN | apply Kd.V_drew)); exact HL333_0.out)⟩; have n1_ : Aside0 (Kd.V (Kd.slice 3 (Kd.int .i64)) 31 wr w.heap.size (fun k_ => (P0_ k_ ∧ k_ < w.heap.size) ∧ some k_ ≠ (u333001 : Value).ownBlock ∧ k_ ≠ gb319 ∧ k_ ≠ gb332) (.slice (some ad333) l0.length c0) l0) := ⟨by rw [← hq_]; exact (by (with_reducible repeat (first | apply Kd.V_alloc | apply Kd.V_drewN | apply Kd.V_drew)); exact HO_0.out)⟩; have n2_ : Aside0 (Kd.V (Kd.slice 3 (Kd.int .i64)) 31 wr w.heap.size (fun k_ => (P0_ k_ ∧ k_ < w.heap.size) ∧ some k_ ≠ (u333001 : Value).ownBlock ∧ k_ ≠ gb319 ∧ k_ ≠ gb332) (.slice (some ad333) l0.length c0) l0) := ⟨by rw [← hq_]; exact (by (with_reducible repeat (first | apply Kd.V_alloc | apply Kd.V_drewN | apply Kd.V_drew)); exact HO_333000.out)⟩; have n3_ : Aside0 (Kd.S (Kd.slice 3 (Kd.int .i64)) 31 wr w.heap.size (fun k_ => (w.heap.size ≤ k_)) u333001 x333001_4) := ⟨by rw [← hq_]; exact (by exact SX_ HO_333001.out)⟩; have n4_ : Aside0 (wr.heap[gb319]? = some (.cells #[.slice none 0 0, .slice none 0 0] 26 (0, 0))) := ⟨by rw [← hq_]; exact (by exact KX_ BK319.out)⟩; have n5_ : Aside0 (wr.heap[gb332]? = some (.cells #[.slice (some ad333) l0.length c0, u333001] 26 (0, 0))) := ⟨by rw [← hq_]; exact (by exact KX_ BK332.out)⟩; have n6_ : Aside0 (Below w.heap.size w wr) := ⟨by rw [← hq_]; exact (B1_)⟩; have n7_ : Aside0 (Kd.C (Kd.int .i64) wr A333_0 (rd_L1 l0 x9_4).length (rd_L1 l0 x9_4)) := ⟨by rw [← hq_]; exact (by repeat (first | (with_reducible exact HR333_0.out) | (with_reducible refine Kd.C_alloc ?_ _) | (with_reducible refine Kd.C_drewN ?_ _) | (with_reducible refine Kd.C_drew ?_) | exact HR333_0.out))⟩; clear HL333_0 HO_0 HO_333000 HO_333001 BK319 BK332 HB HR333_0 hq_; have HL333_0 := n0_; have HO_0 := n1_; have HO_333000 := n2_; have HO_333001 := n3_; have BK319 := n4_; have BK332 := n5_; have HB := n6_; have HR333_0 := n7_; clear n0_ n1_ n2_ n3_ n4_ n5_ n6_ n7_))))
                   have n0_ := Aside0.mk (Kd.V_drew HO_0.out)
                   have n1_ := Aside0.mk (Kd.V_drew HO_333000.out)
                   have n2_ := Aside0.mk (Kd.S_drew HO_333001.out)
                   have n3_ := Aside0.mk (Kd.V_drew HL333_0.out)
                   have n4_ := Aside0.mk (blk_drew BK319.out)
                   have n5_ := Aside0.mk (blk_drew BK332.out)
                   have n6_ := Aside0.mk (Kd.C_drew HR333_0.out)
                   have n7_ := Aside0.mk (below_drew1 HB.out)
                   clear HO_0
                   clear HO_333000
                   clear HO_333001
                   clear HL333_0
                   clear BK319
                   clear BK332
                   clear HR333_0
                   clear HB
                   have HO_0 := n0_
                   have HO_333000 := n1_
                   have HO_333001 := n2_
                   have HL333_0 := n3_
                   have BK319 := n4_
                   have BK332 := n5_
                   have HR333_0 := n6_
                   have HB := n7_
                   clear n0_ n1_ n2_ n3_ n4_ n5_ n6_ n7_
                   obtain ⟨Ao46, co46, eo46⟩ := Kd.S_slice HO_333001.out
                   (first | subst eo46 | (injection eo46 with f1_ f2_ f3_; have f4_ := f1_.symm; have f5_ := f3_.symm; clear f1_ f2_ f3_; subst f4_; subst f5_))
                   have p335 : 0 ≤ (x8_3 : Int) := D_
                   have q335 : x8_3 < (x333001_4.length : Int) := D_
                   obtain ⟨ad335, A335_0, c335_0, e335, hx335_0, hl335_0, hi335_0⟩ := at_L1 (Kd.S_reads' HO_333001.out).2.2 x8_3 p335 q335
                   cases e335
                   obtain ⟨ce335, hce335, hMe335, hcc335⟩ := Kd.S_get HO_333001.out [] x8_3 p335 (by first | exact q335 | exact D_ | (have e_ := (Kd.S_reads' HO_333001.out).1; omega))
                   obtain ⟨ve335_0, rfl, ge335_0⟩ := hMe335
                   have hv335_0 := hcc335 0 _ rfl
                   rw [Nat.add_zero, show ((Kd.slice 3 (Kd.int .i64))).sz = 1 from rfl, Nat.mul_one] at hv335_0
                   replace hv335_0 := Option.some.inj (hv335_0.symm.trans hx335_0)
                   rw [hv335_0] at ge335_0
                   have HL335_0 := Aside0.mk (show Kd.R (Kd.int .i64) 3 _ _ _ _ (rd_L1 x333001_4 x8_3) from ge335_0)
                   clear hv335_0 ge335_0
                   have HX335_0 := Aside0.mk hx335_0
                   clear hcc335 hce335
                   have HR335_0 := Aside0.mk hi335_0
                   have HC335_0 := Aside0.mk hl335_0
                   clear hi335_0 hl335_0
                   replace p335 := eq_true p335
                   replace q335 := eq_true q335
                   obtain ⟨go47, co47, eo47, gb47, gl47, cl47, HG47⟩ := Kd.S_form HO_333001.out (by have h_ : (x8_3 : Int) < ((x333001_4.length : Int) : Int) := D_; have h2_ : 0 ≤ (x8_3 : Int) := (D_); omega)
                   (first | cases eo47 | (injection eo47 with ea_ en_ ec_; (first | subst ea_ | (injection ea_ with ea_; subst ea_)); subst ec_; clear en_))
                   have GB47 := Aside0.mk gb47
                   have GG47 := Aside0.mk HG47
                   clear gb47 gl47 HG47
                   (first | simp only [add_plain] at hx335_0 | skip)
                   obtain ⟨oki47, ce47, hcl47, hM47, hcc47, _, _, hH47⟩ := Kd.S_elem HO_333001.out [] (x8_3 : Int) (D_) (by have h_ : (x8_3 : Int) < ((x333001_4.length : Int) : Int) := D_; first | exact h_ | (have e_ := (Kd.S_reads' HO_333001.out).1; omega) | simpa using h_)
                   obtain ⟨ve47_0, rfl, ge47_0⟩ := hM47
                   have hv47 := hcc47 0 _ rfl
                   have hX47 := HX335_0.out
                   (try simp only [add_plain] at hX47)
                   (try simp only [Nat.add_zero] at hv47)
                   (try rw [show ((Kd.slice 3 (Kd.int .i64))).sz = 1 from rfl, Nat.mul_one] at hv47)
                   replace hv47 := Option.some.inj (hv47.symm.trans hX47)
                   subst hv47
                   clear hX47 hcc47 hcl47
                   have UU47 := Aside0.mk (show Kd.R (Kd.int .i64) 3 _ w.heap.size oki47 (.slice A335_0 (rd_L1 x333001_4 x8_3).length c335_0) (rd_L1 x333001_4 x8_3) from ge47_0)
                   have HH47 := Aside0.mk hH47
                   have HN47 := Aside0.mk (Kd.S_reads' HO_333001.out).1
                   clear hH47 ge47_0
                   refine start_ (n := 13) (S := fun w' => w'.cell? ⟨gb332, 0, none⟩ = some (.slice (some ad333) l0.length c0) ∧ w'.cell? ⟨gb332, 1, none⟩ = some (.slice (some ⟨go47, 0, none⟩) x333001_4.length co46) ∧ w'.cell? ⟨go47, (x8_3).toNat, none⟩ = some (.slice A335_0 (rd_L1 x333001_4 x8_3).length c335_0)) (ds := [12]) #[F_,F_,F_,F_,F_,F_,F_,F_,F_,F_,F_,F_,F_] (by kernel_rfl) rfl rfl ⟨(blk_cell BK332.out 0).trans rfl, (blk_cell BK332.out 1).trans rfl, hx335_0⟩ (fun hHeld => ?_); refine with_tabW lockstepref06_Make.tab20 lockstepref06_Make.bits20 (fun HT_ HW_ => ?_)
                   generalize wr.drew = w45 at HO_0 HO_333000 HO_333001 HL333_0 BK319 BK332 HR333_0 HB GG47 HH47 HL335_0 HR335_0 HX335_0 UU47 hx335_0 hHeld ⊢
                   refine pure_ (i := 0) (N := some 95) (v := ?_) (a' := ?_) #[T_,F_,F_,F_,F_,F_,F_,F_,F_,F_,F_,F_,F_] rfl rfl (any_of HT_.out (by kernel_rfl)) (fun _ _ _ h => h) (Or.inl ⟨by rfl, ?_⟩) ?_ ?_
                   rotate_left
                   ·intro w'
                    go_simp
                    with_reducible rfl
                   rotate_left
                   ·exact P_
                   refine pure_ (i := 2) (N := some 97) (v := ?_) (a' := ?_) #[T_,F_,T_,F_,F_,F_,F_,F_,F_,F_,F_,F_,F_] rfl rfl (any_of HT_.out (by kernel_rfl)) (fun _ _ _ h => h) (Or.inl ⟨by rfl, ?_⟩) ?_ ?_
                   rotate_left
                   ·intro w'
                    go_simp
                    with_reducible rfl
                   rotate_left
                   ·exact P_
                   refine pure_ (i := 3) (N := some 98) (v := ?_) (a' := ?_) #[T_,F_,T_,T_,F_,F_,F_,F_,F_,F_,F_,F_,F_] rfl rfl (any_of HT_.out (by kernel_rfl)) (fun _ _ _ h => h) (Or.inl ⟨by rfl, ?_⟩) ?_ ?_
                   rotate_left
                   ·intro w'
                    go_simp
                    with_reducible rfl
                   rotate_left
                   ·exact P_
                   refine pure_ (i := 5) (N := some 100) (v := ?_) (a' := ?_) #[T_,F_,T_,T_,F_,T_,F_,F_,F_,F_,F_,F_,F_] rfl rfl (any_of HT_.out (by kernel_rfl)) (fun _ _ _ h => h) (Or.inl ⟨by rfl, ?_⟩) ?_ ?_
                   rotate_left
                   ·intro w'
                    go_simp
                    with_reducible rfl
                   rotate_left
                   ·exact P_
                   refine pure_ (i := 8) (N := some 103) (v := ?_) (a' := ?_) #[T_,F_,T_,T_,F_,T_,F_,F_,T_,F_,F_,F_,F_] rfl rfl (any_of HT_.out (by kernel_rfl)) (fun _ _ _ h => h) (Or.inl ⟨by rfl, ?_⟩) ?_ ?_
                   rotate_left
                   ·intro w'
                    go_simp
                    with_reducible rfl
                   rotate_left
                   ·exact P_
                   refine take_ (i := 1) (N := some 96) (v := ?_) (a' := ?_) #[T_,T_,T_,T_,F_,T_,F_,F_,T_,F_,F_,F_,F_] rfl rfl (take_ofW HT_.out HW_.out (by kernel_rfl)) (fun _ _ _ h => h) (Or.inl ⟨by rfl, ?_⟩) hHeld ?_ ?_
                   rotate_left
                   ·rintro w' ⟨s0, s1, s2⟩
                    go_simp
                    with_reducible rfl
                   rotate_left
                   ·exact P_
                   refine take_ (i := 4) (N := some 99) (v := ?_) (a' := ?_) #[T_,T_,T_,T_,T_,T_,F_,F_,T_,F_,F_,F_,F_] rfl rfl (take_ofW HT_.out HW_.out (by kernel_rfl)) (fun _ _ _ h => h) (Or.inl ⟨by rfl, ?_⟩) hHeld ?_ ?_
                   rotate_left
                   ·rintro w' ⟨s0, s1, s2⟩
                    go_simp
                    with_reducible rfl
                   rotate_left
                   ·exact P_
                   refine pure_ (i := 6) (N := some 101) (v := ?_) (a' := ?_) #[T_,T_,T_,T_,T_,T_,T_,F_,T_,F_,F_,F_,F_] rfl rfl (any_of HT_.out (by kernel_rfl)) (fun _ _ _ h => h) (Or.inl ⟨by rfl, ?_⟩) ?_ ?_
                   rotate_left
                   ·intro w'
                    go_simp
                    with_reducible rfl
                   rotate_left
                   ·exact P_
                   refine take_ (i := 7) (N := some 102) (v := ?_) (a' := ?_) #[T_,T_,T_,T_,T_,T_,T_,T_,T_,F_,F_,F_,F_] rfl rfl (take_ofW HT_.out HW_.out (by kernel_rfl)) (fun _ _ _ h => h) (Or.inl ⟨by rfl, ?_⟩) hHeld ?_ ?_
                   rotate_left
                   ·rintro w' ⟨s0, s1, s2⟩
                    go_simp
                    with_reducible rfl
                   rotate_left
                   ·exact P_
                   refine one_ (i := 9) (N := some 104) #[T_,T_,T_,T_,T_,T_,T_,T_,T_,T_,F_,F_,F_] rfl rfl (one_of HT_.out (by kernel_rfl)) (by decide) (fun K hK => ?_)
                   refine value_ (w1 := ?_) (v := ?_) (by rfl) rfl ?_ ?_
                   rotate_left 2
                   ·go_simp
                    constructor
                    ·rfl
                    ·rfl
                   refine hK.out _ _ ⟨(blk_cell (blk_alloc BK332.out _) 0).trans rfl, (blk_cell (blk_alloc BK332.out _) 1).trans rfl, (World.cell?_alloc_lt _ _ _ (World.block_lt_of_cell? _ _ (hHeld.2.2))).trans (hHeld.2.2)⟩ (fun hHeld => ?_)
                   clear hK K
                   refine norm_ (a' := ?_) ?_ ?_
                   rotate_left
                   ·show Act.put _ (some 104) _ = _
                    simp only [Act.put, List.setIfInBounds_toArray, List.set_cons_zero, List.set_cons_succ, i64_w, i32_w]
                    rfl
                   refine one_ (i := 10) (N := some 105) #[T_,T_,T_,T_,T_,T_,T_,T_,T_,T_,T_,F_,F_] rfl rfl (one_of HT_.out (by kernel_rfl)) (by decide) (fun K hK => ?_)
                   refine Kd.R_append_step (Kd.int .i64) (w0 := w) w.heap.size (by rfl) (.tmp 102) (.tmp 104) 31 3 (.int .i64 0) 8 rfl Try.underlying31 info3 rfl (by decide) (by omega) (.slice A335_0 (rd_L1 x333001_4 x8_3).length c335_0) (rd_L1 x333001_4 x8_3) x9_4 [.int .i64 x9_4] (fun k_ => oki47 k_ ∨ ((fun k_ => (w.heap.size ≤ k_))) k_ ∧ w45.heap.size ≤ k_) (fun _ => False) rfl rfl ?aP (fun _ hk => hk.elim) ?aF ?aO ?aB ?aS ?aL ?_
                   (case aP => exact rfl)
                   (case aB => exact (B1_))
                   (case aF => exact (fun k_ hk => .inr ⟨by first | exact trivial | exact Nat.le_trans (below_size (B1_)) hk, hk⟩))
                   (case aO => exact (by (with_reducible repeat (first | apply Kd.R_alloc | apply Kd.R_drewN | apply Kd.R_drew)); exact Kd.R_mono UU47.out (fun _ hk => .inl hk)))
                   (case aS => exact (below_size (B1_)))
                   (case aL => have := LMc43.out; omega)
                   intro v337 w48 ho hb hg hat
                   (first | have HS2_ := cell_grown hg (hHeld.2.2) (by first | (rw [add_block]; exact (fun e_ => ((HL335_0.out.1 _ e_.symm).2) rfl)) | (show some (Addr.add _ _).block ≠ _; rw [add_block]; exact (fun e_ => ((HL335_0.out.1 _ e_.symm).2) rfl)) | exact (fun e_ => ((HL335_0.out.1 _ e_.symm).2) rfl)) | have HS2_ := cell_grown hg (cell_unalloc (hHeld.2.2) (by first | (rw [add_block]; exact Kd.S_lt HO_333001.out _ rfl) | (show (Addr.add _ _).block < _; rw [add_block]; exact Kd.S_lt HO_333001.out _ rfl) | exact Kd.S_lt HO_333001.out _ rfl)) (by first | (rw [add_block]; exact (fun e_ => ((HL335_0.out.1 _ e_.symm).2) rfl)) | (show some (Addr.add _ _).block ≠ _; rw [add_block]; exact (fun e_ => ((HL335_0.out.1 _ e_.symm).2) rfl)) | exact (fun e_ => ((HL335_0.out.1 _ e_.symm).2) rfl)))
                   rw [← Ny336.out] at ho
                   have n0_ := Aside0.mk (Kd.V_grown (by (with_reducible repeat (first | apply Kd.V_alloc | apply Kd.V_drewN | apply Kd.V_drew)); exact HO_0.out) hg (fun k_ hk_ => by exact fun e_ => Nat.not_le.2 (hk_.1).2 (Kd.R_base UU47.out k_ e_.symm)))
                   have n1_ := Aside0.mk (Kd.V_grown (by (with_reducible repeat (first | apply Kd.V_alloc | apply Kd.V_drewN | apply Kd.V_drew)); exact HO_333000.out) hg (fun k_ hk_ => by exact fun e_ => Nat.not_le.2 (hk_.1).2 (Kd.R_base UU47.out k_ e_.symm)))
                   have n2_ := Aside0.mk (blk_grown (g := gb319) (o := .cells #[.slice none 0 0, .slice none 0 0] 26 (0, 0)) (by exact KX_ BK319.out) hg (Kd.R_ne HL335_0.out BK319.out (by decide)))
                   have n3_ := Aside0.mk (blk_grown (g := gb332) (o := .cells #[.slice (some ad333) l0.length c0, .slice (some ⟨go47, 0, none⟩) x333001_4.length co46] 26 (0, 0)) (by exact KX_ BK332.out) hg (Kd.R_ne HL335_0.out BK332.out (by decide)))
                   have n4_ := Aside0.mk (hb)
                   have n5_ := Aside0.mk (Kd.H_grown (Kd.H_widen (by repeat (first | exact HH47.out | refine Kd.H_alloc ?_ _ | refine Kd.H_drewN ?_ _ | refine Kd.H_drew ?_))) hg (fun k_ e_ => .inl (UU47.out.1 k_ e_)))
                   have n6_ := Aside0.mk (ho)
                   clear HO_0
                   clear HO_333000
                   clear BK319
                   clear BK332
                   clear HB
                   clear HH47
                   clear HO_333001
                   clear UU47
                   clear HL333_0
                   clear HL335_0
                   have HO_0 := n0_
                   have HO_333000 := n1_
                   have BK319 := n2_
                   have BK332 := n3_
                   have HB := n4_
                   have HH47 := n5_
                   have HO338 := n6_
                   clear n0_ n1_ n2_ n3_ n4_ n5_ n6_
                   clear ho hb hg hat
                   have p44 : 0 ≤ (x8_3 : Int) := D_
                   have q44 : (x8_3 : Int) < ((x333001_4.length : Int) : Int) := D_
                   replace p44 := eq_true p44
                   replace q44 := eq_true q44
                   obtain ⟨Ao51, co51, eo51⟩ := Kd.R_slice HO338.out
                   (first | subst eo51 | (injection eo51 with f1_ f2_ f3_; have f4_ := f1_.symm; have f5_ := f3_.symm; clear f1_ f2_ f3_; subst f4_; subst f5_))
                   obtain ⟨_, _, hraw49, _, _, hcc49, _⟩ := Kd.H_raw HH47.out (D_) (by have h_ : (x8_3 : Int) < ((x333001_4.length : Int) : Int) := D_; first | exact h_ | (have e_ := (HN47.out); omega) | simpa using h_)
                   obtain ⟨_, hfr49⟩ := Kd.H_at HH47.out (D_) (by have h_ : (x8_3 : Int) < ((x333001_4.length : Int) : Int) := D_; first | exact h_ | (have e_ := (HN47.out); omega) | simpa using h_)
                   have hx49_0 := hcc49 0 _ rfl
                   have hf49_0 := hfr49 0
                   (try simp only [Nat.add_zero] at hx49_0 hf49_0)
                   (try rw [show ((Kd.slice 3 (Kd.int .i64))).sz = 1 from rfl, Nat.mul_one] at hx49_0)
                   (try rw [show ((Kd.slice 3 (Kd.int .i64))).sz = 1 from rfl, Nat.mul_one] at hf49_0)
                   have HP49 := Kd.S_seg0 HH47.out (D_) (by have h_ : (x8_3 : Int) < ((x333001_4.length : Int) : Int) := D_; first | exact h_ | (have e_ := (HN47.out); omega) | simpa using h_) (seg := [.slice Ao51 y336.length co51]) (j := 0) (show 1 ≤ 1 from by decide) (x' := y336) (Kd.M_row HO338.out) (fun _ hk => hk)
                   (try simp only [show ((Kd.slice 3 (Kd.int .i64))).sz = 1 from rfl, Nat.mul_one, Nat.add_zero] at HP49)
                   clear hcc49 hfr49
                   have HNB319_go47 := Aside0.mk (show gb319 ≠ go47 from by have h_ := Kd.R_ne hraw49 BK319.out (by decide); intro e_; exact h_ (by rw [e_]; rfl))
                   have HNB332_go47 := Aside0.mk (show gb332 ≠ go47 from by have h_ := Kd.R_ne hraw49 BK332.out (by decide); intro e_; exact h_ (by rw [e_]; rfl))
                   have HS49 := HP49.1
                   rw [← Ny339.out] at HS49
                   have HQ49 := Aside0.mk HS49
                   obtain ⟨_, hgg49⟩ := Kd.R_typed hraw49 go47 rfl
                   have GG49_ := Aside0.mk hgg49
                   clear HP49 HS49 hgg49
                   refine hK.out _ _ ⟨(blk_cell BK332.out 0).trans rfl, (blk_cell BK332.out 1).trans rfl, HS2_⟩ (fun hHeld => ?_)
                   clear hK K
                   refine norm_ (a' := ?_) ?_ ?_
                   rotate_left
                   ·show Act.put _ (some 105) _ = _
                    simp only [Act.put, List.setIfInBounds_toArray, List.set_cons_zero, List.set_cons_succ, i64_w, i32_w]
                    rfl
                   refine pure_ (i := 11) (N := some 106) (v := ?_) (a' := ?_) #[T_,T_,T_,T_,T_,T_,T_,T_,T_,T_,T_,T_,F_] rfl rfl (any_of HT_.out (by kernel_rfl)) (fun _ _ _ h => h) (Or.inl ⟨by rfl, ?_⟩) ?_ ?_
                   rotate_left
                   ·intro w'
                    go_simp
                    with_reducible rfl
                   rotate_left
                   ·exact P_
                   refine last_ (i := 12) (N := none) #[T_,T_,T_,T_,T_,T_,T_,T_,T_,T_,T_,T_,T_] rfl rfl (one_of HT_.out (by kernel_rfl)) (by decide) (fun K hK => ?_)
                   refine skip_ (w1 := ?_) (by rfl) rfl ?_ ?_
                   rotate_left
                   ·go_simp
                    rfl
                   refine hK.out _ _ ?_
                   clear hK K
                   refine done_ (done_of HT_.out (by kernel_rfl)) ?_
                   try go_wp2
                   go_roundg k4
                   case measure => have := HJ1.out; have := HK2.out; have := HK3.out; have := HK4.out; omega
                   case rel => exact ⟨(wrap64 (x9_4 + 1)), (y339), (.slice (some ⟨go47, 0, none⟩) x333001_4.length co46), (by first | rfl | (simp; done) | (simp [*]; done)), H', ⟨by have := HJ1.out; have := HK2.out; have := HK3.out; have := HK4.out; omega⟩, ⟨by (with_reducible repeat (first | apply Kd.V_alloc | apply Kd.V_drewN | apply Kd.V_drew)); exact Kd.V_mono (Kd.V_far (p := ⟨go47, (x8_3 : Int).toNat, none⟩) (Kd.V_mono HO_0.out (fun k_ hk => (⟨hk, fun e_ => hk.2.1 (by rw [e_]; rfl)⟩ : _ ∧ k_ ≠ go47))) (fun _ hk => hk.2) (.slice Ao51 y336.length co51)) (fun _ hk => ⟨hk.1.1, ⟨hk.1.2.1, ⟨hk.1.2.2.1, hk.1.2.2.2⟩⟩⟩)⟩, ⟨by (with_reducible repeat (first | apply Kd.V_alloc | apply Kd.V_drewN | apply Kd.V_drew)); exact Kd.V_mono (Kd.V_far (p := ⟨go47, (x8_3 : Int).toNat, none⟩) (Kd.V_mono HO_333000.out (fun k_ hk => (⟨hk, fun e_ => hk.2.1 (by rw [e_]; rfl)⟩ : _ ∧ k_ ≠ go47))) (fun _ hk => hk.2) (.slice Ao51 y336.length co51)) (fun _ hk => ⟨hk.1.1, ⟨hk.1.2.1, ⟨hk.1.2.2.1, hk.1.2.2.2⟩⟩⟩)⟩, ⟨by exact SX_ HQ49.out⟩, ⟨by (with_reducible repeat (first | refine blk_drewN ?_ _ | refine blk_drew ?_ | refine blk_alloc ?_ _)); refine blk_far ?_ HNB319_go47.out _; exact KX_ BK319.out⟩, ⟨by (with_reducible repeat (first | refine blk_drewN ?_ _ | refine blk_drew ?_ | refine blk_alloc ?_ _)); refine blk_far ?_ HNB332_go47.out _; exact KX_ BK332.out⟩, ⟨B1_⟩⟩
                  rw [if_neg c43] at H
                  exact absurd H (by simp)
                 rw [if_neg c42] at H
                 exact absurd H (by simp)
                rw [if_neg c41] at H
                exact absurd H (by simp)
               replace c40 := Bool.eq_false_iff.mpr c40
               subst c40
               have H1 : (lockstepref06_Make.l3 k4 l0 (l0.length : Int) x8_3 (wrap64 (x9_4 + 1)) l0 x333001_4) = some (r1, r2, r3) := by rw [if_neg (show ¬ (false = true) by decide)] at H; exact H
               clear H
               have H := H1
               clear H1
               have H' := Aside0.mk H
               clear H
               have p333 : 0 ≤ (x9_4 : Int) := D_
               have q333 : x9_4 < (l0.length : Int) := D_
               obtain ⟨ad333, A333_0, c333_0, e333, hx333_0, hl333_0, hi333_0⟩ := at_L1 (Kd.V_reads' HO_0.out).2.2 x9_4 p333 q333
               cases e333
               obtain ⟨ce333, hce333, hMe333, hcc333⟩ := Kd.V_get HO_0.out [] x9_4 p333 (by first | exact q333 | exact D_ | (have e_ := (Kd.V_reads' HO_0.out).1; omega))
               obtain ⟨ua333_0, uc333_0, rfl, ul333_0, ge333_0⟩ := Kd.FK_slice_open hMe333
               have hv333_0 := hcc333 0 _ rfl
               rw [Nat.add_zero, show ((Kd.slice 3 (Kd.int .i64))).sz = 1 from rfl, Nat.mul_one] at hv333_0
               replace hv333_0 := Option.some.inj (hv333_0.symm.trans hx333_0)
               injection hv333_0 with hva_ hvn_ hvc_
               rw [hva_] at ge333_0
               rw [hvc_] at ul333_0
               have HL333_0 := Aside0.mk (show Kd.V (Kd.int .i64) 3 _ w.heap.size _ _ (rd_L1 l0 x9_4) from Kd.V_mk ul333_0 ge333_0)
               clear hva_ hvn_ hvc_ ge333_0 ul333_0
               clear hcc333 hce333
               have HR333_0 := Aside0.mk hi333_0
               have HC333_0 := Aside0.mk hl333_0
               clear hi333_0 hl333_0
               replace p333 := eq_true p333
               replace q333 := eq_true q333
               go_wp2_with (first | ((with_reducible refine gate_callee (f := 23) rfl ?_); refine goesL_ (some 94) rfl rfl Try.func23 (by kernel_rfl) rfl #[.slice A333_0 (rd_L1 l0 x9_4).length c333_0, .int .i64 x8_3] rfl (by (try simp only [List.map_toArray, List.map_cons, List.map_nil]); first | done | rfl | (simp only [List.length_drop, List.length_take]; rfl)) ?_; (with_reducible refine (lockstepref06_Has.calls k4 _ _ (rd_L1 l0 x9_4) x8_3 false _ ?side1 ?side2 A39.out).mono ?_); (case side1 => repeat (first | exact (by repeat (first | (with_reducible exact HR333_0.out) | (with_reducible refine Kd.C_alloc ?_ _) | (with_reducible refine Kd.C_drewN ?_ _) | (with_reducible refine Kd.C_drew ?_) | exact HR333_0.out)) | (with_reducible refine Kd.C_alloc ?_ _) | (with_reducible refine Kd.C_drewN ?_ _) | (with_reducible refine Kd.C_drew ?_))); (case side2 => exact HC333_0.out); rintro e w' ⟨rfl, ⟨nd, rfl⟩⟩; refine ⟨_, rfl, ?_⟩))
               go_roundg k4
               case measure => have := HJ1.out; have := HK2.out; have := HK3.out; have := HK4.out; omega
               case rel => exact ⟨(wrap64 (x9_4 + 1)), (x333001_4), (u333001), (by first | rfl | (simp; done) | (simp [*]; done)), H', ⟨by have := HJ1.out; have := HK2.out; have := HK3.out; have := HK4.out; omega⟩, ⟨by (with_reducible repeat (first | apply Kd.V_alloc | apply Kd.V_drewN | apply Kd.V_drew)); first | exact HO_0.out | exact Kd.R_mono HO_0.out (fun _ hk e_ => hk (e_.trans own_len))⟩, ⟨by (with_reducible repeat (first | apply Kd.V_alloc | apply Kd.V_drewN | apply Kd.V_drew)); first | exact HO_333000.out | exact Kd.R_mono HO_333000.out (fun _ hk e_ => hk (e_.trans own_len))⟩, ⟨by exact SM_ HO_333001.out⟩, ⟨by exact KX_ BK319.out⟩, ⟨by exact KX_ BK332.out⟩, ⟨B1_⟩⟩
              rw [if_neg c38] at H
              exact absurd H (by simp)
             rw [if_neg c37] at H
             exact absurd H (by simp)
            rw [if_neg c36] at H
            have c36b0 : decide (x9_4 < (l0.length : Int)) = false := decide_eq_false c36
            clear c36
            have H' := Aside0.mk H
            clear H
            go_wp2
            go_roundg k4
            case measure => have := HJ1.out; have := HK2.out; have := HK3.out; have := HK4.out; omega
            case rel => exact ⟨(wrap64 (x8_3 + 1)), (x333001_4), (u333001), (by first | rfl | (simp; done) | (simp [*]; done)), H', ⟨by have := HJ1.out; have := HK2.out; have := HK3.out; have := HK4.out; omega⟩, ⟨by (with_reducible repeat (first | apply Kd.V_alloc | apply Kd.V_drewN | apply Kd.V_drew)); first | exact HO_0.out | exact Kd.R_mono HO_0.out (fun _ hk e_ => hk (e_.trans own_len))⟩, ⟨by (with_reducible repeat (first | apply Kd.V_alloc | apply Kd.V_drewN | apply Kd.V_drew)); first | exact HO_333000.out | exact Kd.R_mono HO_333000.out (fun _ hk e_ => hk (e_.trans own_len))⟩, ⟨by exact SM_ HO_333001.out⟩, ⟨by exact KX_ BK319.out⟩, ⟨by exact KX_ BK332.out⟩, ⟨B1_⟩⟩
         rw [if_neg c35] at H
         have c35b0 : decide (x8_3 < (l0.length : Int)) = false := decide_eq_false c35
         clear c35
         simp only [Option.some.injEq, Prod.mk.injEq] at H
         obtain ⟨rfl, rfl, rfl⟩ := H
         have hnb52 := NB332_319.out
         have hnc52 := NB319_332.out
         have hcz53_0 : wr.cell? ⟨gb332, 0, none⟩ = some (.slice A0 l0.length c0) := (blk_cell BK332.out 0).trans rfl
         have hcz53_1 : wr.cell? ⟨gb332, 1, none⟩ = some (u333001) := (blk_cell BK332.out 1).trans rfl
         have hfz53_0 := blk_frozen BK332.out 0
         have hfz53_1 := blk_frozen BK332.out 1
         have hcz54_0 : wr.cell? ⟨gb319, 0, none⟩ = some (.slice none 0 0) := (blk_cell BK319.out 0).trans rfl
         have hcz54_1 : wr.cell? ⟨gb319, 1, none⟩ = some (.slice none 0 0) := (blk_cell BK319.out 1).trans rfl
         have hfz54_0 := blk_frozen BK319.out 0
         have hfz54_1 := blk_frozen BK319.out 1
         obtain ⟨Ao55, co55, eo55⟩ := Kd.S_slice HO_333001.out
         subst eo55
         go_wp2
         refine bodyPost_ret (results_ct rfl _ _ gb319 26 #[.slice A0 l0.length c0, .slice Ao55 x333001_3.length co55] (0, 0) _ rfl (by (with_reducible repeat (first | refine blk_drewN ?_ _ | refine blk_drew ?_ | refine blk_alloc ?_ _)); refine blk_put (cs := #[.slice A0 l0.length c0, .slice none 0 0]) ?_ 1 _ rfl; (with_reducible repeat (first | refine blk_drewN ?_ _ | refine blk_drew ?_ | refine blk_alloc ?_ _)); refine blk_put (cs := #[.slice none 0 0, .slice none 0 0]) ?_ 0 _ rfl; exact KX_ BK319.out) Try.underlying26 rfl (by kernel_rfl)) rfl ?_
         exact ⟨_, _, by first | rfl | (simp [errW_none, errW_some] <;> rfl) | (simp [*, errW_none, errW_some] <;> rfl), by (with_reducible repeat (first | apply Kd.V_alloc | apply Kd.V_drewN | apply Kd.V_drew)); exact Kd.V_mono (Kd.V_far (p := ⟨gb319, 1, none⟩) (Kd.V_far (p := ⟨gb319, 0, none⟩) (Kd.V_mono (Kd.V_mono HO_333000.out (fun k_ h_ => And.intro (Or.inl h_.1.1 : P0_ k_ ∨ w.heap.size ≤ k_) h_.2)) (fun k_ hk => (⟨hk, hk.2.2.1⟩ : _ ∧ k_ ≠ gb319))) (fun _ hk => hk.2) (.slice A0 l0.length c0)) (fun _ hk => hk.2) (.slice Ao55 x333001_3.length co55)) (fun _ hk => ⟨hk.1.1, hk.1.2.1⟩), by (with_reducible repeat (first | apply Kd.S_alloc | apply Kd.S_drewN | apply Kd.S_drew)); exact Kd.S_mono (Kd.S_far (p := ⟨gb319, 1, none⟩) (Kd.S_far (p := ⟨gb319, 0, none⟩) (Kd.S_types HO_333001.out BK319.out (by decide)) (fun _ hk => hk.2) (.slice A0 l0.length c0)) (fun _ hk => hk.2) (.slice Ao55 x333001_3.length co55)) (fun _ hk => hk.1), B1_⟩
      rw [if_neg c28] at H
      exact absurd H (by simp)
     rw [if_neg c27] at H
     exact absurd H (by simp)

end Go.Proofs.Ythahaajmgnoebaa.G
