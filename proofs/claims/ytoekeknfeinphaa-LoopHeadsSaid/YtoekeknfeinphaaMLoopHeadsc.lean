/- Texts of this session, joined by wip/tools/merge.py. Conditions: each theorem's own. -/
import Derived.Test.YtoekeknfeinphaaGx0
import Derived.ChangeKeysEq
import Derived.Test.YtoekeknfeinphaaGx11
import Derived.Test.YtoekeknfeinphaaGx6
import Derived.Test.YtoekeknfeinphaaGx9
import Derived.Test.YtoekeknfeinphaaGx22
import Derived.Test.YtoekeknfeinphaaGx24
namespace Go.Proofs.Ytoekeknfeinphaa.G
open Go.Proofs.YtoekeknfeinphaaH
open Go.RowKit Go.Proofs.YtoekeknfeinphaaW.PrintWords Go.Proofs.YtoekeknfeinphaaW.PrintLast Go.Proofs.YtoekeknfeinphaaW.PrintMore
attribute [local go_sem] max2_int min2_int max_two min_two max_three min_three max_four min_four   -- for this text's walks alone
set_option linter.unusedVariables false
set_option linter.unusedSimpArgs false

/-! ### lockstepref06_Small: function 10 -/
def lockstepref06_Small.l0 : Nat → List (List Int) → Int → Option (Bool)
 | 0, _, _ => none
 | k + 1, x0, x3 => if x3 < (x0.length : Int) then (if 0 ≤ x3 then (if ((rd_L1 x0 x3).length : Int) > 100 then (some false) else (if x3 > 100 then (some false) else (lockstepref06_Small.l0 k x0 (wrap64 (x3 + 1))))) else (none)) else (some true)
def lockstepref06_Small.f (k : Nat) (l0 : List (List Int)) : Option (Bool) := lockstepref06_Small.l0 k l0 0
theorem lockstepref06_Small.mono_l : ∀ k, (∀ y0 y1, LeO (lockstepref06_Small.l0 k y0 y1) (lockstepref06_Small.l0 (k + 1) y0 y1))
 | 0 => fun _ _ r h => by simp [lockstepref06_Small.l0] at h
 | k + 1 => by
  have ih0 := lockstepref06_Small.mono_l k
  ·intro y0 y1
   unfold lockstepref06_Small.l0
   repeat' first
   | (with_reducible exact ih0 _ _)
   | (with_reducible exact LeO.refl _)
   | (with_reducible exact LeO.none _)
   | (with_reducible refine LeO.ite ?_ ?_)
   | (with_reducible refine LeO.bind ?_ (fun _ => ?_))
   | exact ih0 _ _
   | exact LeO.none _
   | refine LeO.ite ?_ ?_
   | refine LeO.bind ?_ (fun _ => ?_)
theorem lockstepref06_Small.mono : ∀ a0 k, LeO (lockstepref06_Small.f k a0) (lockstepref06_Small.f (k + 1) a0) := by
 intro a0 k
 have ih0 := lockstepref06_Small.mono_l k
 unfold lockstepref06_Small.f
 repeat' first
  | (with_reducible exact ih0 _ _)
  | (with_reducible exact LeO.refl _)
  | (with_reducible exact LeO.none _)
  | (with_reducible refine LeO.ite ?_ ?_)
  | (with_reducible refine LeO.bind ?_ (fun _ => ?_))
  | exact ih0 _ _
  | exact LeO.none _
  | refine LeO.ite ?_ ?_
  | refine LeO.bind ?_ (fun _ => ?_)
set_option maxHeartbeats 8000000 in
set_option maxRecDepth 100000 in
theorem lockstepref06_Small.calls (k : Nat) (A0 : Option Addr) (c0 : Nat) (l0 : List (List Int)) (r : Bool) (w : World) (hr0 : Kd.C (Kd.slice 3 (Kd.int .i64)) w A0 l0.length l0) (hc0 : l0.length ≤ c0) (h : lockstepref06_Small.f k l0 = some r) :
 Calls Try.prog 10 #[.slice A0 l0.length c0] w fun e w' => e = .returned (.bool r) ∧ Drawn0 w w' := by
 have HR0 := Aside0.mk hr0
 have HC0 := Aside0.mk hc0
 clear hr0 hc0
 have H : (lockstepref06_Small.l0 k l0 0) = some r := h
 clear h
 have H' := Aside0.mk H
 clear H
 go_enter Try.func10, Try.ntmps10
 go_wp2
 go_loopg [3] k (fun kq v3 w' => ∃ (x3_1 : Int), v3 = .int .i64 x3_1 ∧ Aside0 (lockstepref06_Small.l0 kq l0 x3_1 = some r) ∧ Aside0 (kq ≤ k) ∧ Drawn0 w w')
 case atStart => exact ⟨(0), (by first | rfl | (simp; done) | (simp [*]; done)), H', ⟨Nat.le_refl _⟩, by repeat (first | exact Drawn0.refl _ | apply Drawn0.step)⟩
 case round =>
  clear H'
  obtain ⟨x3_1, rfl, HA, HK1, ⟨m1, rfl⟩⟩ := hrel
  cases gk with
  | zero => exact absurd HA.out (by simp [lockstepref06_Small.l0])
  | succ k1 =>
   have H := HA.out
   clear HA
   simp only [lockstepref06_Small.l0] at H
   by_cases c2 : x3_1 < (l0.length : Int)
   ·rw [if_pos c2] at H
    have c2b0 : decide (x3_1 < (l0.length : Int)) = true := decide_eq_true c2
    clear c2
    by_cases c3 : 0 ≤ x3_1
    ·rw [if_pos c3] at H
     have c3b0 : decide (0 ≤ x3_1) = true := decide_eq_true c3
     clear c3
     by_cases c4 : ((rd_L1 l0 x3_1).length : Int) > 100
     ·rw [if_pos c4] at H
      have c4b0 : decide (100 < ((rd_L1 l0 x3_1).length : Int)) = true := decide_eq_true c4
      have c4b1 : decide (100 < (rd_L1 l0 x3_1).length) = true := decide_eq_true (by omega)
      clear c4
      obtain rfl := Option.some.inj H
      have p101 : 0 ≤ (x3_1 : Int) := D_
      have q101 : x3_1 < (l0.length : Int) := D_
      obtain ⟨ad101, A101_0, c101_0, e101, hx101_0, hl101_0, hi101_0⟩ := at_L1 HR0.out x3_1 p101 q101
      cases e101
      have HR101_0 := Aside0.mk hi101_0
      have HC101_0 := Aside0.mk hl101_0
      clear hi101_0 hl101_0
      replace p101 := eq_true p101
      replace q101 := eq_true q101
      go_wp2
      go_ret
      exact ⟨by first | rfl | (simp; done) | (simp [*]; done), by repeat (first | exact Drawn0.refl _ | apply Drawn0.step)⟩
     rw [if_neg c4] at H
     have c4b0 : decide (100 < ((rd_L1 l0 x3_1).length : Int)) = false := decide_eq_false c4
     have c4b1 : decide (100 < (rd_L1 l0 x3_1).length) = false := decide_eq_false (by omega)
     clear c4
     by_cases c5 : x3_1 > 100
     ·rw [if_pos c5] at H
      have c5b0 : decide (100 < x3_1) = true := decide_eq_true c5
      clear c5
      obtain rfl := Option.some.inj H
      have p101 : 0 ≤ (x3_1 : Int) := D_
      have q101 : x3_1 < (l0.length : Int) := D_
      obtain ⟨ad101, A101_0, c101_0, e101, hx101_0, hl101_0, hi101_0⟩ := at_L1 HR0.out x3_1 p101 q101
      cases e101
      have HR101_0 := Aside0.mk hi101_0
      have HC101_0 := Aside0.mk hl101_0
      clear hi101_0 hl101_0
      replace p101 := eq_true p101
      replace q101 := eq_true q101
      go_wp2
      go_ret
      exact ⟨by first | rfl | (simp; done) | (simp [*]; done), by repeat (first | exact Drawn0.refl _ | apply Drawn0.step)⟩
     rw [if_neg c5] at H
     have c5b0 : decide (100 < x3_1) = false := decide_eq_false c5
     clear c5
     have H' := Aside0.mk H
     clear H
     have p101 : 0 ≤ (x3_1 : Int) := D_
     have q101 : x3_1 < (l0.length : Int) := D_
     obtain ⟨ad101, A101_0, c101_0, e101, hx101_0, hl101_0, hi101_0⟩ := at_L1 HR0.out x3_1 p101 q101
     cases e101
     have HR101_0 := Aside0.mk hi101_0
     have HC101_0 := Aside0.mk hl101_0
     clear hi101_0 hl101_0
     replace p101 := eq_true p101
     replace q101 := eq_true q101
     go_wp2
     go_roundg k1
     case measure => have := HK1.out; omega
     case rel => exact ⟨(wrap64 (x3_1 + 1)), (by first | rfl | (simp; done) | (simp [*]; done)), H', ⟨by have := HK1.out; omega⟩, by repeat (first | exact Drawn0.refl _ | apply Drawn0.step)⟩
    rw [if_neg c3] at H
    exact absurd H (by simp)
   rw [if_neg c2] at H
   have c2b0 : decide (x3_1 < (l0.length : Int)) = false := decide_eq_false c2
   clear c2
   obtain rfl := Option.some.inj H
   go_wp2
   go_ret
   exact ⟨by first | rfl | (simp; done) | (simp [*]; done), by repeat (first | exact Drawn0.refl _ | apply Drawn0.step)⟩

-- NOT PRINTED: function 48 (slices_IndexFunc_int_int_48)

-- NOT PRINTED: function 28 (slices_ContainsFunc_int_int_28)


theorem eqA48 (d : Nat) (w : World) (x0 y0 : Int) (x1 y1 : Int) :
    (Op.equalIn (d + 2) 48 (.agg #[.int .i64 x0, .int .i64 x1]) (.agg #[.int .i64 y0, .int .i64 y1])).run Try.prog w = .ok (x0 == y0 && (x1 == y1)) w := by
  obtain ⟨i0, hi0, h2⟩ : ∃ i, Try.prog.info? 3 = some i ∧ i.size = 1 := ⟨_, rfl, rfl⟩
  have hu3 := Try.underlying3
  have hp0 : ∀ x y : Int, (part 3 #[.int .i64 x, .int .i64 y] 0).run Try.prog w = .ok (.int .i64 x) w := fun x y => by go_simp
  have hp1 : ∀ x y : Int, (part 3 #[.int .i64 x, .int .i64 y] 1).run Try.prog w = .ok (.int .i64 y) w := fun x y => by go_simp
  have he : ∀ x y : Int, (Op.equalIn (d + 1) 3 (.int .i64 x) (.int .i64 y)).run Try.prog w = .ok (x == y) w := fun x y => by simp [Op.equalIn, run_underlying hu3]
  rw [run_equalIn_array w (d + 1) _ _ Try.underlying48 hi0, show List.range 2 = [0, 1] from rfl, show Try.prog.cellsOf 3 = 1 by kernel_rfl]
  simp only [Op.eqItems, Sem.run_bind, Nat.zero_mul, Nat.one_mul, hp0, hp1, he, Result.andThen_ok]
  cases hx : (x0 == y0) <;> cases hy : (x1 == y1) <;> simp [hp1, he, hy]

attribute [local go_sem high] eqA48
/-! ### slices_Index_2_int_2_int: function 58 -/
def slices_Index_2_int_2_int.l0 : Nat → List (S48) → Int → Int → Int → Int → Option (Int)
 | 0, _, _, _, _, _ => none
 | k + 1, x0, x7, x8, x294000, x294001 => if x8 < x7 then (if 0 ≤ x8 then (if x8 < (x0.length : Int) then (if (x294000 == ((rd_T48 x0 x8).f0) && (x294001 == ((rd_T48 x0 x8).f1))) = true then (some x8) else (slices_Index_2_int_2_int.l0 k x0 x7 (wrap64 (x8 + 1)) x294000 x294001)) else (none)) else (none)) else (some (-1))
def slices_Index_2_int_2_int.f (k : Nat) (l0 : List (S48)) (a1_0 : Int) (a1_1 : Int) : Option (Int) := slices_Index_2_int_2_int.l0 k l0 (l0.length : Int) 0 a1_0 a1_1
theorem slices_Index_2_int_2_int.mono_l : ∀ k, (∀ y0 y1 y2 y3 y4, LeO (slices_Index_2_int_2_int.l0 k y0 y1 y2 y3 y4) (slices_Index_2_int_2_int.l0 (k + 1) y0 y1 y2 y3 y4))
 | 0 => fun _ _ _ _ _ r h => by simp [slices_Index_2_int_2_int.l0] at h
 | k + 1 => by
  have ih0 := slices_Index_2_int_2_int.mono_l k
  ·intro y0 y1 y2 y3 y4
   unfold slices_Index_2_int_2_int.l0
   repeat' first
   | (with_reducible exact ih0 _ _ _ _ _)
   | (with_reducible exact LeO.refl _)
   | (with_reducible exact LeO.none _)
   | (with_reducible refine LeO.ite ?_ ?_)
   | (with_reducible refine LeO.bind ?_ (fun _ => ?_))
   | exact ih0 _ _ _ _ _
   | exact LeO.none _
   | refine LeO.ite ?_ ?_
   | refine LeO.bind ?_ (fun _ => ?_)
theorem slices_Index_2_int_2_int.mono : ∀ a0 a1 a2 k, LeO (slices_Index_2_int_2_int.f k a0 a1 a2) (slices_Index_2_int_2_int.f (k + 1) a0 a1 a2) := by
 intro a0 a1 a2 k
 have ih0 := slices_Index_2_int_2_int.mono_l k
 unfold slices_Index_2_int_2_int.f
 repeat' first
  | (with_reducible exact ih0 _ _ _ _ _)
  | (with_reducible exact LeO.refl _)
  | (with_reducible exact LeO.none _)
  | (with_reducible refine LeO.ite ?_ ?_)
  | (with_reducible refine LeO.bind ?_ (fun _ => ?_))
  | exact ih0 _ _ _ _ _
  | exact LeO.none _
  | refine LeO.ite ?_ ?_
  | refine LeO.bind ?_ (fun _ => ?_)
set_option maxHeartbeats 8000000 in
set_option maxRecDepth 100000 in
theorem slices_Index_2_int_2_int.calls (k : Nat) (A0 : Option Addr) (c0 : Nat) (l0 : List (S48)) (a1_0 : Int) (a1_1 : Int) (r : Int) (w : World) (hr0 : Kd.C k48 w A0 l0.length l0) (hc0 : l0.length ≤ c0) (h : slices_Index_2_int_2_int.f k l0 a1_0 a1_1 = some r) :
 Calls Try.prog 58 #[.slice A0 l0.length c0, .agg #[.int .i64 a1_0, .int .i64 a1_1]] w fun e w' => e = .returned (.int .i64 r) ∧ Below w.heap.size w w' := by
 have hu48 := Try.underlying48
 have HR0 := Aside0.mk hr0
 have HC0 := Aside0.mk hc0
 clear hr0 hc0
 have HB := Aside0.mk (Below.refl w.heap.size w)
 have H : (slices_Index_2_int_2_int.l0 k l0 (l0.length : Int) 0 a1_0 a1_1) = some r := h
 clear h
 have H' := Aside0.mk H
 clear H
 go_enter Try.func58, Try.ntmps58
 go_wp2_with (first | ((with_reducible refine gate_dst (N := 3) rfl ?_); refine box_event ?hg (N := 3) ?hd (cs := #[.int .i64 a1_0, .int .i64 a1_1]) (t := 48) ?hr ?_; (case hd => rfl); (case hg => rfl); (case hr => first | (go_simp; done) | (go_simp; rfl)); intro gb293 hg w3 hbox hb; have n0_ := Aside0.mk (below_step (B_) hb); have n1_ := Aside0.mk (hbox); have n2_ := Aside0.mk ((by rw [hg]; exact (below_size (B_)) : w.heap.size ≤ gb293)); have n3_ := Aside0.mk ((by rw [hg]; exact (below_size (B_)) : w.heap.size ≤ gb293)); clear HB; have HB := n0_; have BK293 := n1_; have GW293 := n2_; have GE293 := n3_; clear n0_ n1_ n2_ n3_; clear hb hbox hg))
 repeat (go_quiet (first | ((with_reducible refine gate_dst (N := 3) rfl ?_); refine box_event ?hg (N := 3) ?hd (cs := #[.int .i64 a1_0, .int .i64 a1_1]) (t := 48) ?hr ?_; (case hd => rfl); (case hg => rfl); (case hr => first | (go_simp; done) | (go_simp; rfl)); intro gb293 hg w3 hbox hb; have n0_ := Aside0.mk (below_step (B_) hb); have n1_ := Aside0.mk (hbox); have n2_ := Aside0.mk ((by rw [hg]; exact (below_size (B_)) : w.heap.size ≤ gb293)); have n3_ := Aside0.mk ((by rw [hg]; exact (below_size (B_)) : w.heap.size ≤ gb293)); clear HB; have HB := n0_; have BK293 := n1_; have GW293 := n2_; have GE293 := n3_; clear n0_ n1_ n2_ n3_; clear hb hbox hg)); try go_wp2_with (first | ((with_reducible refine gate_dst (N := 3) rfl ?_); refine box_event ?hg (N := 3) ?hd (cs := #[.int .i64 a1_0, .int .i64 a1_1]) (t := 48) ?hr ?_; (case hd => rfl); (case hg => rfl); (case hr => first | (go_simp; done) | (go_simp; rfl)); intro gb293 hg w3 hbox hb; have n0_ := Aside0.mk (below_step (B_) hb); have n1_ := Aside0.mk (hbox); have n2_ := Aside0.mk ((by rw [hg]; exact (below_size (B_)) : w.heap.size ≤ gb293)); have n3_ := Aside0.mk ((by rw [hg]; exact (below_size (B_)) : w.heap.size ≤ gb293)); clear HB; have HB := n0_; have BK293 := n1_; have GW293 := n2_; have GE293 := n3_; clear n0_ n1_ n2_ n3_; clear hb hbox hg)))
 go_loopg [8] k (fun kq v8 w' => ∃ (x8_1 : Int), v8 = .int .i64 x8_1 ∧ Aside0 (slices_Index_2_int_2_int.l0 kq l0 (l0.length : Int) x8_1 a1_0 a1_1 = some r) ∧ Aside0 (kq ≤ k) ∧ Aside0 (w'.heap[gb293]? = some (.cells #[.int .i64 a1_0, .int .i64 a1_1] 48 (0, 0))) ∧ Aside0 (Below w.heap.size w w'))
 case atStart => exact ⟨(0), (by first | rfl | (simp; done) | (simp [*]; done)), H', ⟨Nat.le_refl _⟩, ⟨by exact KX_ BK293.out⟩, ⟨B1_⟩⟩
 case round =>
  clear H'
  obtain ⟨x8_1, rfl, HA, HK1, BK293, HB⟩ := hrel
  cases gk with
  | zero => exact absurd HA.out (by simp [slices_Index_2_int_2_int.l0])
  | succ k1 =>
   have H := HA.out
   clear HA
   simp only [slices_Index_2_int_2_int.l0] at H
   by_cases c4 : x8_1 < (l0.length : Int)
   ·rw [if_pos c4] at H
    have c4b0 : decide (x8_1 < (l0.length : Int)) = true := decide_eq_true c4
    clear c4
    by_cases c5 : 0 ≤ x8_1
    ·rw [if_pos c5] at H
     have c5b0 : decide (0 ≤ x8_1) = true := decide_eq_true c5
     clear c5
     by_cases c6 : x8_1 < (l0.length : Int)
     ·rw [if_pos c6] at H
      have c6b0 : decide (x8_1 < (l0.length : Int)) = true := decide_eq_true c6
      clear c6
      by_cases c7 : (a1_0 == ((rd_T48 l0 x8_1).f0) && (a1_1 == ((rd_T48 l0 x8_1).f1))) = true
      ·rw [if_pos c7] at H
       have c7b0 : (a1_0 == ((rd_T48 l0 x8_1).f0) && (a1_1 == ((rd_T48 l0 x8_1).f1))) = true := c7
       (try (have c7b1 : decide (a1_0 = ((rd_T48 l0 x8_1).f0) && (a1_1 == ((rd_T48 l0 x8_1).f1))) = true := by simpa using c7))
       (try (have c7b2 : (a1_0 == ((rd_T48 l0 x8_1).f0) && (a1_1 == ((rd_T48 l0 x8_1).f1))) = true := by simpa using c7))
       clear c7
       obtain rfl := Option.some.inj H
       have hcz8_0 : wr.cell? ⟨gb293, 0, none⟩ = some (.int .i64 a1_0) := (blk_cell BK293.out 0).trans rfl
       have hcz8_1 : wr.cell? ⟨gb293, 1, none⟩ = some (.int .i64 a1_1) := (blk_cell BK293.out 1).trans rfl
       have hfz8_0 := blk_frozen BK293.out 0
       have hfz8_1 := blk_frozen BK293.out 1
       have p294 : 0 ≤ (x8_1 : Int) := D_
       have q294 : x8_1 < (l0.length : Int) := D_
       obtain ⟨ad294, e294, hx294_0, hx294_1⟩ := at_T48 HR0.out x8_1 p294 q294
       cases e294
       replace hx294_0 := (HB.out.cell (World.block_lt_of_cell? w _ hx294_0)).trans hx294_0
       replace hx294_1 := (HB.out.cell (World.block_lt_of_cell? w _ hx294_1)).trans hx294_1
       replace p294 := eq_true p294
       replace q294 := eq_true q294
       go_wp2
       repeat (go_quiet (fail); try go_wp2)
       go_ret
       exact ⟨by first | rfl | (simp [errW_none, errW_some] <;> rfl) | (simp [*, errW_none, errW_some] <;> rfl), B1_⟩
      rw [if_neg c7] at H
      have c7b0 : (a1_0 == ((rd_T48 l0 x8_1).f0) && (a1_1 == ((rd_T48 l0 x8_1).f1))) = false := by simpa using c7
      (try (have c7b1 : decide (a1_0 = ((rd_T48 l0 x8_1).f0) && (a1_1 == ((rd_T48 l0 x8_1).f1))) = false := by simpa using c7))
      (try (have c7b2 : (a1_0 == ((rd_T48 l0 x8_1).f0) && (a1_1 == ((rd_T48 l0 x8_1).f1))) = false := by simpa using c7))
      (try (have c7b3 : ¬ (a1_0 = ((rd_T48 l0 x8_1).f0) && (a1_1 == ((rd_T48 l0 x8_1).f1))) := by simpa using c7))
      clear c7
      have H' := Aside0.mk H
      clear H
      have hcz9_0 : wr.cell? ⟨gb293, 0, none⟩ = some (.int .i64 a1_0) := (blk_cell BK293.out 0).trans rfl
      have hcz9_1 : wr.cell? ⟨gb293, 1, none⟩ = some (.int .i64 a1_1) := (blk_cell BK293.out 1).trans rfl
      have hfz9_0 := blk_frozen BK293.out 0
      have hfz9_1 := blk_frozen BK293.out 1
      have p294 : 0 ≤ (x8_1 : Int) := D_
      have q294 : x8_1 < (l0.length : Int) := D_
      obtain ⟨ad294, e294, hx294_0, hx294_1⟩ := at_T48 HR0.out x8_1 p294 q294
      cases e294
      replace hx294_0 := (HB.out.cell (World.block_lt_of_cell? w _ hx294_0)).trans hx294_0
      replace hx294_1 := (HB.out.cell (World.block_lt_of_cell? w _ hx294_1)).trans hx294_1
      replace p294 := eq_true p294
      replace q294 := eq_true q294
      go_wp2
      repeat (go_quiet (fail); try go_wp2)
      go_roundg k1
      case measure => have := HK1.out; omega
      case rel => exact ⟨(wrap64 (x8_1 + 1)), (by first | rfl | (simp; done) | (simp [*]; done)), H', ⟨by have := HK1.out; omega⟩, ⟨by exact KX_ BK293.out⟩, ⟨B1_⟩⟩
     rw [if_neg c6] at H
     exact absurd H (by simp)
    rw [if_neg c5] at H
    exact absurd H (by simp)
   rw [if_neg c4] at H
   have c4b0 : decide (x8_1 < (l0.length : Int)) = false := decide_eq_false c4
   clear c4
   obtain rfl := Option.some.inj H
   go_wp2
   repeat (go_quiet (fail); try go_wp2)
   go_ret
   exact ⟨by first | rfl | (simp [errW_none, errW_some] <;> rfl) | (simp [*, errW_none, errW_some] <;> rfl), B1_⟩

/-! ### slices_Contains_2_int_2_int: function 43 -/
def slices_Contains_2_int_2_int.f (k : Nat) (l0 : List (S48)) (a1_0 : Int) (a1_1 : Int) : Option (Bool) := (slices_Index_2_int_2_int.f k l0 a1_0 a1_1).bind fun t296 => (some (decide (t296 ≥ 0)))
theorem slices_Contains_2_int_2_int.mono : ∀ a0 a1 a2 k, LeO (slices_Contains_2_int_2_int.f k a0 a1 a2) (slices_Contains_2_int_2_int.f (k + 1) a0 a1 a2) := by
 intro a0 a1 a2 k
 unfold slices_Contains_2_int_2_int.f
 repeat' first
  | (with_reducible exact slices_Index_2_int_2_int.mono _ _ _ _)
  | (with_reducible exact LeO.refl _)
  | (with_reducible exact LeO.none _)
  | (with_reducible refine LeO.ite ?_ ?_)
  | (with_reducible refine LeO.bind ?_ (fun _ => ?_))
  | exact slices_Index_2_int_2_int.mono _ _ _ _
  | exact LeO.none _
  | refine LeO.ite ?_ ?_
  | refine LeO.bind ?_ (fun _ => ?_)
set_option maxHeartbeats 8000000 in
set_option maxRecDepth 100000 in
theorem slices_Contains_2_int_2_int.calls (k : Nat) (A0 : Option Addr) (c0 : Nat) (l0 : List (S48)) (a1_0 : Int) (a1_1 : Int) (r : Bool) (w : World) (hr0 : Kd.C k48 w A0 l0.length l0) (hc0 : l0.length ≤ c0) (h : slices_Contains_2_int_2_int.f k l0 a1_0 a1_1 = some r) :
 Calls Try.prog 43 #[.slice A0 l0.length c0, .agg #[.int .i64 a1_0, .int .i64 a1_1]] w fun e w' => e = .returned (.bool r) ∧ Below w.heap.size w w' := by
 have hu48 := Try.underlying48
 have HR0 := Aside0.mk hr0
 have HC0 := Aside0.mk hc0
 clear hr0 hc0
 have HB := Aside0.mk (Below.refl w.heap.size w)
 have H : ((slices_Index_2_int_2_int.f k l0 a1_0 a1_1).bind fun t296 => (some (decide (t296 ≥ 0)))) = some r := h
 clear h
 replace H := Option.bind_eq_some_iff.mp H
 obtain ⟨t296, A30, H⟩ := H
 replace H : (some (decide (t296 ≥ 0))) = some r := H
 have A3 := Aside0.mk A30
 clear A30
 obtain rfl := Option.some.inj H
 go_enter Try.func43, Try.ntmps43
 go_wp2_with (first | ((with_reducible refine gate_dst (N := 3) rfl ?_); refine box_event ?hg (N := 3) ?hd (cs := #[.int .i64 a1_0, .int .i64 a1_1]) (t := 48) ?hr ?_; (case hd => rfl); (case hg => rfl); (case hr => first | (go_simp; done) | (go_simp; rfl)); intro gb295 hg w4 hbox hb; have n0_ := Aside0.mk (below_step (B_) hb); have n1_ := Aside0.mk (hbox); have n2_ := Aside0.mk ((by rw [hg]; exact (below_size (B_)) : w.heap.size ≤ gb295)); have n3_ := Aside0.mk ((by rw [hg]; exact (below_size (B_)) : w.heap.size ≤ gb295)); clear HB; have HB := n0_; have BK295 := n1_; have GW295 := n2_; have GE295 := n3_; clear n0_ n1_ n2_ n3_; clear hb hbox hg; have hcz5_0 : w4.cell? ⟨gb295, 0, none⟩ = some (.int .i64 a1_0) := (blk_cell BK295.out 0).trans rfl; have hcz5_1 : w4.cell? ⟨gb295, 1, none⟩ = some (.int .i64 a1_1) := (blk_cell BK295.out 1).trans rfl; have hfz5_0 := blk_frozen BK295.out 0; have hfz5_1 := blk_frozen BK295.out 1) | ((with_reducible refine gate_callee (f := 58) rfl ?_); refine goesL_ (some 7) rfl rfl Try.func58 (by kernel_rfl) rfl #[.slice A0 l0.length c0, .agg #[.int .i64 a1_0, .int .i64 a1_1]] rfl (by (try simp only [List.map_toArray, List.map_cons, List.map_nil]); first | done | rfl | (simp only [List.length_drop, List.length_take]; rfl)) ?_; (with_reducible refine (slices_Index_2_int_2_int.calls k _ _ l0 a1_0 a1_1 t296 _ ?side1 ?side2 A3.out).mono ?_); (case side1 => exact CX_ (Kd.C_below HR0.out HB.out)); (case side2 => exact HC0.out); rintro e w6 ⟨rfl, hb⟩; refine ⟨_, rfl, ?_⟩; have n0_ := Aside0.mk (blk_below (g := gb295) (o := .cells #[.int .i64 a1_0, .int .i64 a1_1] 48 (0, 0)) (by exact KX_ BK295.out) hb); have n1_ := Aside0.mk (below_step (B1_) hb); clear BK295; clear HB; have BK295 := n0_; have HB := n1_; clear n0_ n1_; (try clear hb); (try clear hb2); (try clear hk); (try clear hi)))
 go_ret
 exact ⟨by first | rfl | (simp [errW_none, errW_some] <;> rfl) | (simp [*, errW_none, errW_some] <;> rfl), B1_⟩


/-! ### slices_Index_int_int: function 59 -/
def slices_Index_int_int.l0 : Nat → List Int → Int → Int → Int → Option (Int)
 | 0, _, _, _, _ => none
 | k + 1, x0, x1, x7, x8 => if x8 < x7 then (if 0 ≤ x8 then (if x8 < (x0.length : Int) then (if x1 = (rd x0 x8) then (some x8) else (slices_Index_int_int.l0 k x0 x1 x7 (wrap64 (x8 + 1)))) else (none)) else (none)) else (some (-1))
def slices_Index_int_int.f (k : Nat) (l0 : List Int) (a1 : Int) : Option (Int) := slices_Index_int_int.l0 k l0 a1 (l0.length : Int) 0
theorem slices_Index_int_int.mono_l : ∀ k, (∀ y0 y1 y2 y3, LeO (slices_Index_int_int.l0 k y0 y1 y2 y3) (slices_Index_int_int.l0 (k + 1) y0 y1 y2 y3))
 | 0 => fun _ _ _ _ r h => by simp [slices_Index_int_int.l0] at h
 | k + 1 => by
  have ih0 := slices_Index_int_int.mono_l k
  ·intro y0 y1 y2 y3
   unfold slices_Index_int_int.l0
   repeat' first
   | (with_reducible exact ih0 _ _ _ _)
   | (with_reducible exact LeO.refl _)
   | (with_reducible exact LeO.none _)
   | (with_reducible refine LeO.ite ?_ ?_)
   | (with_reducible refine LeO.bind ?_ (fun _ => ?_))
   | exact ih0 _ _ _ _
   | exact LeO.none _
   | refine LeO.ite ?_ ?_
   | refine LeO.bind ?_ (fun _ => ?_)
theorem slices_Index_int_int.mono : ∀ a0 a1 k, LeO (slices_Index_int_int.f k a0 a1) (slices_Index_int_int.f (k + 1) a0 a1) := by
 intro a0 a1 k
 have ih0 := slices_Index_int_int.mono_l k
 unfold slices_Index_int_int.f
 repeat' first
  | (with_reducible exact ih0 _ _ _ _)
  | (with_reducible exact LeO.refl _)
  | (with_reducible exact LeO.none _)
  | (with_reducible refine LeO.ite ?_ ?_)
  | (with_reducible refine LeO.bind ?_ (fun _ => ?_))
  | exact ih0 _ _ _ _
  | exact LeO.none _
  | refine LeO.ite ?_ ?_
  | refine LeO.bind ?_ (fun _ => ?_)
set_option maxHeartbeats 8000000 in
set_option maxRecDepth 100000 in
theorem slices_Index_int_int.calls (k : Nat) (A0 : Option Addr) (c0 : Nat) (l0 : List Int) (a1 : Int) (r : Int) (w : World) (hr0 : Kd.C (Kd.int .i64) w A0 l0.length l0) (hc0 : l0.length ≤ c0) (h : slices_Index_int_int.f k l0 a1 = some r) :
 Calls Try.prog 59 #[.slice A0 l0.length c0, .int .i64 a1] w fun e w' => e = .returned (.int .i64 r) ∧ Drawn0 w w' := by
 have HR0 := Aside0.mk hr0
 have HC0 := Aside0.mk hc0
 clear hr0 hc0
 have H : (slices_Index_int_int.l0 k l0 a1 (l0.length : Int) 0) = some r := h
 clear h
 have H' := Aside0.mk H
 clear H
 go_enter Try.func59, Try.ntmps59
 go_wp2
 go_loopg [8] k (fun kq v8 w' => ∃ (x8_1 : Int), v8 = .int .i64 x8_1 ∧ Aside0 (slices_Index_int_int.l0 kq l0 a1 (l0.length : Int) x8_1 = some r) ∧ Aside0 (kq ≤ k) ∧ Drawn0 w w')
 case atStart => exact ⟨(0), (by first | rfl | (simp; done) | (simp [*]; done)), H', ⟨Nat.le_refl _⟩, by repeat (first | exact Drawn0.refl _ | apply Drawn0.step)⟩
 case round =>
  clear H'
  obtain ⟨x8_1, rfl, HA, HK1, ⟨m1, rfl⟩⟩ := hrel
  cases gk with
  | zero => exact absurd HA.out (by simp [slices_Index_int_int.l0])
  | succ k1 =>
   have H := HA.out
   clear HA
   simp only [slices_Index_int_int.l0] at H
   by_cases c3 : x8_1 < (l0.length : Int)
   ·rw [if_pos c3] at H
    have c3b0 : decide (x8_1 < (l0.length : Int)) = true := decide_eq_true c3
    clear c3
    by_cases c4 : 0 ≤ x8_1
    ·rw [if_pos c4] at H
     have c4b0 : decide (0 ≤ x8_1) = true := decide_eq_true c4
     clear c4
     by_cases c5 : x8_1 < (l0.length : Int)
     ·rw [if_pos c5] at H
      have c5b0 : decide (x8_1 < (l0.length : Int)) = true := decide_eq_true c5
      clear c5
      by_cases c6 : a1 = (rd l0 x8_1)
      ·rw [if_pos c6] at H
       have c6b0 : (a1 == (rd l0 x8_1)) = true := beq_iff_eq.mpr c6
       have c6b1 : (a1 != (rd l0 x8_1)) = false := bne_eq_false_iff_eq.mpr c6
       clear c6
       obtain rfl := Option.some.inj H
       have p297 : 0 ≤ (x8_1 : Int) := D_
       have q297 : x8_1 < (l0.length : Int) := D_
       obtain ⟨ad297, e297, hx297_0⟩ := Kd.at_int HR0.out x8_1 p297 q297
       cases e297
       replace p297 := eq_true p297
       replace q297 := eq_true q297
       go_wp2
       go_ret
       exact ⟨by first | rfl | (simp; done) | (simp [*]; done), by repeat (first | exact Drawn0.refl _ | apply Drawn0.step)⟩
      rw [if_neg c6] at H
      have c6b0 : (a1 == (rd l0 x8_1)) = false := beq_eq_false_iff_ne.mpr c6
      have c6b1 : (a1 != (rd l0 x8_1)) = true := bne_iff_ne.mpr c6
      have H' := Aside0.mk H
      clear H
      have p297 : 0 ≤ (x8_1 : Int) := D_
      have q297 : x8_1 < (l0.length : Int) := D_
      obtain ⟨ad297, e297, hx297_0⟩ := Kd.at_int HR0.out x8_1 p297 q297
      cases e297
      replace p297 := eq_true p297
      replace q297 := eq_true q297
      go_wp2
      go_roundg k1
      case measure => have := HK1.out; omega
      case rel => exact ⟨(wrap64 (x8_1 + 1)), (by first | rfl | (simp; done) | (simp [*]; done)), H', ⟨by have := HK1.out; omega⟩, by repeat (first | exact Drawn0.refl _ | apply Drawn0.step)⟩
     rw [if_neg c5] at H
     exact absurd H (by simp)
    rw [if_neg c4] at H
    exact absurd H (by simp)
   rw [if_neg c3] at H
   have c3b0 : decide (x8_1 < (l0.length : Int)) = false := decide_eq_false c3
   clear c3
   obtain rfl := Option.some.inj H
   go_wp2
   go_ret
   exact ⟨by first | rfl | (simp; done) | (simp [*]; done), by repeat (first | exact Drawn0.refl _ | apply Drawn0.step)⟩


/-! ### loop_forward: function 44 -/
mutual
def loop_forward.l0 : Nat → List Int → List Int → Int → Int → List (List Int) → List (List Int) → Option (Bool)
 | 0, _, _, _, _, _, _ => none
 | k + 1, x3, x10, x11, x12, x299000, x299001 => if x12 < x11 then (if 0 ≤ x12 then (if x12 < (x10.length : Int) then (if 0 ≤ (rd x10 x12) then (if (rd x10 x12) < (x299000.length : Int) then (loop_forward.l1 k x3 x12 x10 x11 x12 (rd_L1 x299000 (rd x10 x12)) ((rd_L1 x299000 (rd x10 x12)).length : Int) 0 x299000 x299001) else (none)) else (none)) else (none)) else (none)) else (some (decide ((x3.length : Int) > 0)))
def loop_forward.l1 : Nat → List Int → Int → List Int → Int → Int → List Int → Int → Int → List (List Int) → List (List Int) → Option (Bool)
 | 0, _, _, _, _, _, _, _, _, _, _ => none
 | k + 1, x3, x4, x10, x11, x12, x21, x22, x23, x299000, x299001 => if x23 < x22 then (if 0 ≤ x23 then (if x23 < (x21.length : Int) then ((slices_Index_int_int.f k x3 (rd x21 x23)).bind fun t305 => (if t305 ≤ x4 then (some false) else (loop_forward.l1 k x3 x4 x10 x11 x12 x21 x22 (wrap64 (x23 + 1)) x299000 x299001))) else (none)) else (none)) else (loop_forward.l0 k x3 x10 x11 (wrap64 (x12 + 1)) x299000 x299001)
end
def loop_forward.f (k : Nat) (l0_0 : List (List Int)) (l0_1 : List (List Int)) : Option (Bool) := (graph_Order.f k l0_0 l0_1 0).bind fun t299 => (loop_forward.l0 k t299 t299 (t299.length : Int) 0 l0_0 l0_1)
theorem loop_forward.mono_l : ∀ k, (∀ y0 y1 y2 y3 y4 y5, LeO (loop_forward.l0 k y0 y1 y2 y3 y4 y5) (loop_forward.l0 (k + 1) y0 y1 y2 y3 y4 y5)) ∧ (∀ y0 y1 y2 y3 y4 y5 y6 y7 y8 y9, LeO (loop_forward.l1 k y0 y1 y2 y3 y4 y5 y6 y7 y8 y9) (loop_forward.l1 (k + 1) y0 y1 y2 y3 y4 y5 y6 y7 y8 y9))
 | 0 => ⟨fun _ _ _ _ _ _ r h => by simp [loop_forward.l0] at h, fun _ _ _ _ _ _ _ _ _ _ r h => by simp [loop_forward.l1] at h⟩
 | k + 1 => by
  obtain ⟨ih0, ih1⟩ := loop_forward.mono_l k
  refine ⟨?_, ?_⟩
  ·intro y0 y1 y2 y3 y4 y5
   unfold loop_forward.l0
   repeat' first
   | (with_reducible exact ih0 _ _ _ _ _ _)
   | (with_reducible exact ih1 _ _ _ _ _ _ _ _ _ _)
   | (with_reducible exact graph_Order.mono _ _ _ _)
   | (with_reducible exact slices_Index_int_int.mono _ _ _)
   | (with_reducible exact LeO.refl _)
   | (with_reducible exact LeO.none _)
   | (with_reducible refine LeO.ite ?_ ?_)
   | (with_reducible refine LeO.bind ?_ (fun _ => ?_))
   | exact ih0 _ _ _ _ _ _
   | exact ih1 _ _ _ _ _ _ _ _ _ _
   | exact graph_Order.mono _ _ _ _
   | exact slices_Index_int_int.mono _ _ _
   | exact LeO.none _
   | refine LeO.ite ?_ ?_
   | refine LeO.bind ?_ (fun _ => ?_)
  ·intro y0 y1 y2 y3 y4 y5 y6 y7 y8 y9
   unfold loop_forward.l1
   repeat' first
   | (with_reducible exact ih0 _ _ _ _ _ _)
   | (with_reducible exact ih1 _ _ _ _ _ _ _ _ _ _)
   | (with_reducible exact graph_Order.mono _ _ _ _)
   | (with_reducible exact slices_Index_int_int.mono _ _ _)
   | (with_reducible exact LeO.refl _)
   | (with_reducible exact LeO.none _)
   | (with_reducible refine LeO.ite ?_ ?_)
   | (with_reducible refine LeO.bind ?_ (fun _ => ?_))
   | exact ih0 _ _ _ _ _ _
   | exact ih1 _ _ _ _ _ _ _ _ _ _
   | exact graph_Order.mono _ _ _ _
   | exact slices_Index_int_int.mono _ _ _
   | exact LeO.none _
   | refine LeO.ite ?_ ?_
   | refine LeO.bind ?_ (fun _ => ?_)
theorem loop_forward.mono : ∀ a0 a1 k, LeO (loop_forward.f k a0 a1) (loop_forward.f (k + 1) a0 a1) := by
 intro a0 a1 k
 obtain ⟨ih0, ih1⟩ := loop_forward.mono_l k
 unfold loop_forward.f
 repeat' first
  | (with_reducible exact ih0 _ _ _ _ _ _)
  | (with_reducible exact ih1 _ _ _ _ _ _ _ _ _ _)
  | (with_reducible exact graph_Order.mono _ _ _ _)
  | (with_reducible exact slices_Index_int_int.mono _ _ _)
  | (with_reducible exact LeO.refl _)
  | (with_reducible exact LeO.none _)
  | (with_reducible refine LeO.ite ?_ ?_)
  | (with_reducible refine LeO.bind ?_ (fun _ => ?_))
  | exact ih0 _ _ _ _ _ _
  | exact ih1 _ _ _ _ _ _ _ _ _ _
  | exact graph_Order.mono _ _ _ _
  | exact slices_Index_int_int.mono _ _ _
  | exact LeO.none _
  | refine LeO.ite ?_ ?_
  | refine LeO.bind ?_ (fun _ => ?_)
set_option maxHeartbeats 8000000 in
set_option maxRecDepth 100000 in
theorem loop_forward.calls (k : Nat) (A0_0 : Option Addr) (c0_0 : Nat) (l0_0 : List (List Int)) (A0_1 : Option Addr) (c0_1 : Nat) (l0_1 : List (List Int)) (r : Bool) (w : World) (hr0_0 : Kd.C (Kd.slice 3 (Kd.int .i64)) w A0_0 l0_0.length l0_0) (hc0_0 : l0_0.length ≤ c0_0) (hr0_1 : Kd.C (Kd.slice 3 (Kd.int .i64)) w A0_1 l0_1.length l0_1) (hc0_1 : l0_1.length ≤ c0_1) (h : loop_forward.f k l0_0 l0_1 = some r) :
 Calls Try.prog 44 #[.agg #[.slice A0_0 l0_0.length c0_0, .slice A0_1 l0_1.length c0_1]] w fun e w' => e = .returned (.bool r) ∧ Below w.heap.size w w' := by
 have hu26 := Try.underlying26
 have HR0_0 := Aside0.mk hr0_0
 have HC0_0 := Aside0.mk hc0_0
 clear hr0_0 hc0_0
 have HR0_1 := Aside0.mk hr0_1
 have HC0_1 := Aside0.mk hc0_1
 clear hr0_1 hc0_1
 have HB := Aside0.mk (Below.refl w.heap.size w)
 have H : ((graph_Order.f k l0_0 l0_1 0).bind fun t299 => (loop_forward.l0 k t299 t299 (t299.length : Int) 0 l0_0 l0_1)) = some r := h
 clear h
 replace H := Option.bind_eq_some_iff.mp H
 obtain ⟨t299, A20, H⟩ := H
 replace H : (loop_forward.l0 k t299 t299 (t299.length : Int) 0 l0_0 l0_1) = some r := H
 have A2 := Aside0.mk A20
 clear A20
 have H' := Aside0.mk H
 clear H
 go_enter Try.func44, Try.ntmps44
 go_wp2_with (first | ((with_reducible refine gate_dst (N := 1) rfl ?_); refine box_event ?hg (N := 1) ?hd (cs := #[.slice A0_0 l0_0.length c0_0, .slice A0_1 l0_1.length c0_1]) (t := 26) ?hr ?_; (case hd => rfl); (case hg => rfl); (case hr => first | (go_simp; done) | (go_simp; rfl)); intro gb298 hg w3 hbox hb; have n0_ := Aside0.mk (below_step (B_) hb); have n1_ := Aside0.mk (hbox); have n2_ := Aside0.mk ((by rw [hg]; exact (below_size (B_)) : w.heap.size ≤ gb298)); have n3_ := Aside0.mk ((by rw [hg]; exact (below_size (B_)) : w.heap.size ≤ gb298)); clear HB; have HB := n0_; have BK298 := n1_; have GW298 := n2_; have GE298 := n3_; clear n0_ n1_ n2_ n3_; clear hb hbox hg; have hcz4_0 : w3.cell? ⟨gb298, 0, none⟩ = some (.slice A0_0 l0_0.length c0_0) := (blk_cell BK298.out 0).trans rfl; have hcz4_1 : w3.cell? ⟨gb298, 1, none⟩ = some (.slice A0_1 l0_1.length c0_1) := (blk_cell BK298.out 1).trans rfl; have hfz4_0 := blk_frozen BK298.out 0; have hfz4_1 := blk_frozen BK298.out 1) | ((with_reducible refine gate_callee (f := 24) rfl ?_); refine goesL_ (some 9) rfl rfl Try.func24 (by kernel_rfl) rfl #[.agg #[.slice A0_0 l0_0.length c0_0, .slice A0_1 l0_1.length c0_1], .int .i64 0] rfl (by (try simp only [List.map_toArray, List.map_cons, List.map_nil]); first | done | rfl | (simp only [List.length_drop, List.length_take]; rfl)) ?_; (with_reducible refine (graph_Order.calls k _ _ l0_0 _ _ l0_1 0 t299 _ ?side1 ?side2 ?side3 ?side4 A2.out).mono ?_); (case side1 => exact CX_ (Kd.C_below HR0_0.out HB.out)); (case side2 => exact HC0_0.out); (case side3 => exact CX_ (Kd.C_below HR0_1.out HB.out)); (case side4 => exact HC0_1.out); rintro e w5 ⟨v300, rfl, ho0, hb⟩; refine ⟨_, rfl, ?_⟩; have n0_ := Aside0.mk (Kd.R_lower ho0 (below_size (B1_))); have n1_ := Aside0.mk (blk_below (g := gb298) (o := .cells #[.slice A0_0 l0_0.length c0_0, .slice A0_1 l0_1.length c0_1] 26 (0, 0)) (by exact KX_ BK298.out) hb); have n2_ := Aside0.mk (below_step (B1_) hb); clear BK298; clear HB; have HO301 := n0_; have BK298 := n1_; have HB := n2_; clear n0_ n1_ n2_; (try clear hb); (try clear hb2); (try clear hk); (try clear hi); (try clear ho0); obtain ⟨Ao6, co6, eo6⟩ := Kd.R_slice HO301.out; subst eo6))
 go_loopg [12] k (fun kq v12 w' => ∃ (x12_1 : Int), v12 = .int .i64 x12_1 ∧ Aside0 (loop_forward.l0 kq t299 t299 (t299.length : Int) x12_1 l0_0 l0_1 = some r) ∧ Aside0 (kq ≤ k) ∧ Aside0 (Kd.R (Kd.int .i64) 3 w' w.heap.size (fun _ => True) (.slice Ao6 t299.length co6) t299) ∧ Aside0 (Kd.R (Kd.int .i64) 3 w' w.heap.size (fun _ => True) (.slice Ao6 t299.length co6) t299) ∧ Aside0 (w'.heap[gb298]? = some (.cells #[(.slice A0_0 l0_0.length c0_0), (.slice A0_1 l0_1.length c0_1)] 26 (0, 0))) ∧ Aside0 (Below w.heap.size w w'))
 case atStart => exact ⟨(0), (by first | rfl | (simp; done) | (simp [*]; done)), H', ⟨Nat.le_refl _⟩, ⟨by exact RM_ HO301.out⟩, ⟨by exact RM_ HO301.out⟩, ⟨by exact KX_ BK298.out⟩, ⟨B1_⟩⟩
 case round =>
  clear H'
  try clear hcz4_0
  try clear hcz4_1
  try clear hfz4_0
  try clear hfz4_1
  obtain ⟨x12_1, rfl, HA, HK1, HO_3, HO_10, BK298, HB⟩ := hrel
  cases gk with
  | zero => exact absurd HA.out (by simp [loop_forward.l0])
  | succ k1 =>
   have H := HA.out
   clear HA
   simp only [loop_forward.l0] at H
   by_cases c7 : x12_1 < (t299.length : Int)
   ·rw [if_pos c7] at H
    have c7b0 : decide (x12_1 < (t299.length : Int)) = true := decide_eq_true c7
    clear c7
    by_cases c8 : 0 ≤ x12_1
    ·rw [if_pos c8] at H
     have c8b0 : decide (0 ≤ x12_1) = true := decide_eq_true c8
     clear c8
     by_cases c9 : x12_1 < (t299.length : Int)
     ·rw [if_pos c9] at H
      have c9b0 : decide (x12_1 < (t299.length : Int)) = true := decide_eq_true c9
      clear c9
      by_cases c10 : 0 ≤ (rd t299 x12_1)
      ·rw [if_pos c10] at H
       have c10b0 : decide (0 ≤ (rd t299 x12_1)) = true := decide_eq_true c10
       clear c10
       by_cases c11 : (rd t299 x12_1) < (l0_0.length : Int)
       ·rw [if_pos c11] at H
        have c11b0 : decide ((rd t299 x12_1) < (l0_0.length : Int)) = true := decide_eq_true c11
        clear c11
        have H' := Aside0.mk H
        clear H
        have p302 : 0 ≤ (x12_1 : Int) := D_
        have q302 : x12_1 < (t299.length : Int) := D_
        obtain ⟨ad302, e302, hx302_0⟩ := Kd.at_int (Kd.R_reads' HO_10.out).2.2 x12_1 p302 q302
        cases e302
        replace p302 := eq_true p302
        replace q302 := eq_true q302
        have hcz12_0 : wr.cell? ⟨gb298, 0, none⟩ = some (.slice A0_0 l0_0.length c0_0) := (blk_cell BK298.out 0).trans rfl
        have hcz12_1 : wr.cell? ⟨gb298, 1, none⟩ = some (.slice A0_1 l0_1.length c0_1) := (blk_cell BK298.out 1).trans rfl
        have hfz12_0 := blk_frozen BK298.out 0
        have hfz12_1 := blk_frozen BK298.out 1
        have p303 : 0 ≤ ((rd t299 x12_1) : Int) := D_
        have q303 : (rd t299 x12_1) < (l0_0.length : Int) := D_
        obtain ⟨ad303, A303_0, c303_0, e303, hx303_0, hl303_0, hi303_0⟩ := at_L1 HR0_0.out (rd t299 x12_1) p303 q303
        cases e303
        replace hx303_0 := (HB.out.cell (World.block_lt_of_cell? w _ hx303_0)).trans hx303_0
        have HR303_0 := Aside0.mk hi303_0
        have HC303_0 := Aside0.mk hl303_0
        clear hi303_0 hl303_0
        replace p303 := eq_true p303
        replace q303 := eq_true q303
        go_wp2
        go_loopg [23] k1 (fun kq v23 w' => ∃ (x23_2 : Int), v23 = .int .i64 x23_2 ∧ Aside0 (loop_forward.l1 kq t299 x12_1 t299 (t299.length : Int) x12_1 (rd_L1 l0_0 (rd t299 x12_1)) ((rd_L1 l0_0 (rd t299 x12_1)).length : Int) x23_2 l0_0 l0_1 = some r) ∧ Aside0 (kq ≤ k1) ∧ Aside0 (Kd.R (Kd.int .i64) 3 w' w.heap.size (fun _ => True) (.slice (some ad302) t299.length co6) t299) ∧ Aside0 (Kd.R (Kd.int .i64) 3 w' w.heap.size (fun _ => True) (.slice (some ad302) t299.length co6) t299) ∧ Aside0 (w'.heap[gb298]? = some (.cells #[(.slice (some ad303) l0_0.length c0_0), (.slice A0_1 l0_1.length c0_1)] 26 (0, 0))) ∧ Aside0 (Below w.heap.size w w'))
        case atStart => exact ⟨(0), (by first | rfl | (simp; done) | (simp [*]; done)), H', ⟨Nat.le_refl _⟩, ⟨by exact RM_ HO_3.out⟩, ⟨by exact RM_ HO_10.out⟩, ⟨by exact KX_ BK298.out⟩, ⟨B1_⟩⟩
        case round =>
         clear H'
         try clear c7b0
         try clear c8b0
         try clear c9b0
         try clear c10b0
         try clear c11b0
         try clear hcz12_0
         try clear hcz12_1
         try clear hfz12_0
         try clear hfz12_1
         try clear hx302_0
         try clear hx303_0
         try clear p302
         try clear p303
         try clear q302
         try clear q303
         obtain ⟨x23_2, rfl, HA, HK2, HO_3, HO_10, BK298, HB⟩ := hrel
         cases gk with
         | zero => exact absurd HA.out (by simp [loop_forward.l1])
         | succ k2 =>
          have H := HA.out
          clear HA
          simp only [loop_forward.l1] at H
          by_cases c13 : x23_2 < ((rd_L1 l0_0 (rd t299 x12_1)).length : Int)
          ·rw [if_pos c13] at H
           have c13b0 : decide (x23_2 < ((rd_L1 l0_0 (rd t299 x12_1)).length : Int)) = true := decide_eq_true c13
           clear c13
           by_cases c14 : 0 ≤ x23_2
           ·rw [if_pos c14] at H
            have c14b0 : decide (0 ≤ x23_2) = true := decide_eq_true c14
            clear c14
            by_cases c15 : x23_2 < ((rd_L1 l0_0 (rd t299 x12_1)).length : Int)
            ·rw [if_pos c15] at H
             have c15b0 : decide (x23_2 < ((rd_L1 l0_0 (rd t299 x12_1)).length : Int)) = true := decide_eq_true c15
             clear c15
             replace H := Option.bind_eq_some_iff.mp H
             obtain ⟨t305, A160, H⟩ := H
             replace H : (if t305 ≤ x12_1 then (some false) else (loop_forward.l1 k2 t299 x12_1 t299 (t299.length : Int) x12_1 (rd_L1 l0_0 (rd t299 x12_1)) ((rd_L1 l0_0 (rd t299 x12_1)).length : Int) (wrap64 (x23_2 + 1)) l0_0 l0_1)) = some r := H
             have A16 := Aside0.mk A160
             clear A160
             by_cases c17 : t305 ≤ x12_1
             ·rw [if_pos c17] at H
              have c17b0 : decide (t305 ≤ x12_1) = true := decide_eq_true c17
              clear c17
              obtain rfl := Option.some.inj H
              have p304 : 0 ≤ (x23_2 : Int) := D_
              have q304 : x23_2 < ((rd_L1 l0_0 (rd t299 x12_1)).length : Int) := D_
              obtain ⟨ad304, e304, hx304_0⟩ := Kd.at_int HR303_0.out x23_2 p304 q304
              cases e304
              replace hx304_0 := (HB.out.cell (World.block_lt_of_cell? w _ hx304_0)).trans hx304_0
              replace p304 := eq_true p304
              replace q304 := eq_true q304
              go_wp2_with (first | ((with_reducible refine gate_callee (f := 59) rfl ?_); refine goesL_ (some 29) rfl rfl Try.func59 (by kernel_rfl) rfl #[.slice (some ad302) t299.length co6, .int .i64 (rd (rd_L1 l0_0 (rd t299 x12_1)) x23_2)] rfl (by (try simp only [List.map_toArray, List.map_cons, List.map_nil]); first | done | rfl | (simp only [List.length_drop, List.length_take]; rfl)) ?_; (with_reducible refine (slices_Index_int_int.calls k2 _ _ t299 (rd (rd_L1 l0_0 (rd t299 x12_1)) x23_2) t305 _ ?side1 ?side2 A16.out).mono ?_); (case side1 => repeat (first | exact (Kd.R_reads' HO_3.out).2.2 | (with_reducible refine Kd.C_alloc ?_ _) | (with_reducible refine Kd.C_drewN ?_ _) | (with_reducible refine Kd.C_drew ?_))); (case side2 => exact (Kd.R_reads' HO_3.out).2.1); rintro e w' ⟨rfl, ⟨nd, rfl⟩⟩; refine ⟨_, rfl, ?_⟩))
              go_ret
              exact ⟨by first | rfl | (simp [errW_none, errW_some] <;> rfl) | (simp [*, errW_none, errW_some] <;> rfl), B1_⟩
             rw [if_neg c17] at H
             have c17b0 : decide (t305 ≤ x12_1) = false := decide_eq_false c17
             clear c17
             have H' := Aside0.mk H
             clear H
             have p304 : 0 ≤ (x23_2 : Int) := D_
             have q304 : x23_2 < ((rd_L1 l0_0 (rd t299 x12_1)).length : Int) := D_
             obtain ⟨ad304, e304, hx304_0⟩ := Kd.at_int HR303_0.out x23_2 p304 q304
             cases e304
             replace hx304_0 := (HB.out.cell (World.block_lt_of_cell? w _ hx304_0)).trans hx304_0
             replace p304 := eq_true p304
             replace q304 := eq_true q304
             go_wp2_with (first | ((with_reducible refine gate_callee (f := 59) rfl ?_); refine goesL_ (some 29) rfl rfl Try.func59 (by kernel_rfl) rfl #[.slice (some ad302) t299.length co6, .int .i64 (rd (rd_L1 l0_0 (rd t299 x12_1)) x23_2)] rfl (by (try simp only [List.map_toArray, List.map_cons, List.map_nil]); first | done | rfl | (simp only [List.length_drop, List.length_take]; rfl)) ?_; (with_reducible refine (slices_Index_int_int.calls k2 _ _ t299 (rd (rd_L1 l0_0 (rd t299 x12_1)) x23_2) t305 _ ?side1 ?side2 A16.out).mono ?_); (case side1 => repeat (first | exact (Kd.R_reads' HO_3.out).2.2 | (with_reducible refine Kd.C_alloc ?_ _) | (with_reducible refine Kd.C_drewN ?_ _) | (with_reducible refine Kd.C_drew ?_))); (case side2 => exact (Kd.R_reads' HO_3.out).2.1); rintro e w' ⟨rfl, ⟨nd, rfl⟩⟩; refine ⟨_, rfl, ?_⟩))
             go_roundg k2
             case measure => have := HK1.out; have := HK2.out; omega
             case rel => exact ⟨(wrap64 (x23_2 + 1)), (by first | rfl | (simp; done) | (simp [*]; done)), H', ⟨by have := HK1.out; have := HK2.out; omega⟩, ⟨by exact RM_ HO_3.out⟩, ⟨by exact RM_ HO_10.out⟩, ⟨by exact KX_ BK298.out⟩, ⟨B1_⟩⟩
            rw [if_neg c15] at H
            exact absurd H (by simp)
           rw [if_neg c14] at H
           exact absurd H (by simp)
          rw [if_neg c13] at H
          have c13b0 : decide (x23_2 < ((rd_L1 l0_0 (rd t299 x12_1)).length : Int)) = false := decide_eq_false c13
          clear c13
          have H' := Aside0.mk H
          clear H
          go_wp2
          go_roundg k2
          case measure => have := HK1.out; have := HK2.out; omega
          case rel => exact ⟨(wrap64 (x12_1 + 1)), (by first | rfl | (simp; done) | (simp [*]; done)), H', ⟨by have := HK1.out; have := HK2.out; omega⟩, ⟨by exact RM_ HO_3.out⟩, ⟨by exact RM_ HO_10.out⟩, ⟨by exact KX_ BK298.out⟩, ⟨B1_⟩⟩
       rw [if_neg c11] at H
       exact absurd H (by simp)
      rw [if_neg c10] at H
      exact absurd H (by simp)
     rw [if_neg c9] at H
     exact absurd H (by simp)
    rw [if_neg c8] at H
    exact absurd H (by simp)
   rw [if_neg c7] at H
   have c7b0 : decide (x12_1 < (t299.length : Int)) = false := decide_eq_false c7
   clear c7
   obtain rfl := Option.some.inj H
   go_wp2
   go_ret
   exact ⟨by first | rfl | (simp [errW_none, errW_some] <;> rfl) | (simp [*, errW_none, errW_some] <;> rfl), B1_⟩


/-! ### loop_Reducible: function 19 -/
mutual
def loop_Reducible.l0 : Nat → List (S48) → List (List Int) → List (List Int) → Int → Int → Option (Bool)
 | 0, _, _, _, _, _ => none
 | k + 1, x3, x4, x21, x22, x23 => if x23 < x22 then (if 0 ≤ x23 then (if x23 < (x21.length : Int) then (loop_Reducible.l1 k x3 x4 x23 x21 x22 x23 (rd_L1 x21 x23) ((rd_L1 x21 x23).length : Int) 0) else (none)) else (none)) else ((graph_Make.f k x4).bind fun bt314 => ((loop_forward.f k bt314.1 bt314.2.1).bind fun t322 => (some t322)))
def loop_Reducible.l1 : Nat → List (S48) → List (List Int) → Int → List (List Int) → Int → Int → List Int → Int → Int → Option (Bool)
 | 0, _, _, _, _, _, _, _, _, _ => none
 | k + 1, x3, x4, x5, x21, x22, x23, x28, x29, x30 => if x30 < x29 then (if 0 ≤ x30 then (if x30 < (x28.length : Int) then ((slices_Contains_2_int_2_int.f k x3 x5 (rd x28 x30)).bind fun t325 => (if t325 = true then (loop_Reducible.l1 k x3 x4 x5 x21 x22 x23 x28 x29 (wrap64 (x30 + 1))) else (if 0 ≤ x5 then (if x5 < (x4.length : Int) then (if (rd_L1 x4 x5).length < 17592186044416 then (loop_Reducible.l1 k x3 (x4.set (x5 : Int).toNat ((rd_L1 x4 x5) ++ [rd x28 x30])) x5 x21 x22 x23 x28 x29 (wrap64 (x30 + 1))) else (none)) else (none)) else (none)))) else (none)) else (none)) else (loop_Reducible.l0 k x3 x4 x21 x22 (wrap64 (x23 + 1)))
end
def loop_Reducible.f (k : Nat) (l0_0 : List (List Int)) (l0_1 : List (List Int)) : Option (Bool) := (graph_May.f k l0_0 l0_1).bind fun t307 => (if t307 = true then ((loop_Backs.f k l0_0 l0_1).bind fun t308 => (if 0 ≤ (l0_0.length : Int) then (if ((l0_0.length : Int) : Int).toNat ≤ 11728124029610 then (loop_Reducible.l0 k t308 (List.replicate ((l0_0.length : Int) : Int).toNat []) l0_0 (l0_0.length : Int) 0) else (none)) else (none))) else (some false))
theorem loop_Reducible.mono_l : ∀ k, (∀ y0 y1 y2 y3 y4, LeO (loop_Reducible.l0 k y0 y1 y2 y3 y4) (loop_Reducible.l0 (k + 1) y0 y1 y2 y3 y4)) ∧ (∀ y0 y1 y2 y3 y4 y5 y6 y7 y8, LeO (loop_Reducible.l1 k y0 y1 y2 y3 y4 y5 y6 y7 y8) (loop_Reducible.l1 (k + 1) y0 y1 y2 y3 y4 y5 y6 y7 y8))
 | 0 => ⟨fun _ _ _ _ _ r h => by simp [loop_Reducible.l0] at h, fun _ _ _ _ _ _ _ _ _ r h => by simp [loop_Reducible.l1] at h⟩
 | k + 1 => by
  obtain ⟨ih0, ih1⟩ := loop_Reducible.mono_l k
  refine ⟨?_, ?_⟩
  ·intro y0 y1 y2 y3 y4
   unfold loop_Reducible.l0
   repeat' first
   | (with_reducible exact ih0 _ _ _ _ _)
   | (with_reducible exact ih1 _ _ _ _ _ _ _ _ _)
   | (with_reducible exact graph_Make.mono _ _)
   | (with_reducible exact graph_May.mono _ _ _)
   | (with_reducible exact loop_Backs.mono _ _ _)
   | (with_reducible exact loop_forward.mono _ _ _)
   | (with_reducible exact slices_Contains_2_int_2_int.mono _ _ _ _)
   | (with_reducible exact LeO.refl _)
   | (with_reducible exact LeO.none _)
   | (with_reducible refine LeO.ite ?_ ?_)
   | (with_reducible refine LeO.bind ?_ (fun _ => ?_))
   | exact ih0 _ _ _ _ _
   | exact ih1 _ _ _ _ _ _ _ _ _
   | exact graph_Make.mono _ _
   | exact graph_May.mono _ _ _
   | exact loop_Backs.mono _ _ _
   | exact loop_forward.mono _ _ _
   | exact slices_Contains_2_int_2_int.mono _ _ _ _
   | exact LeO.none _
   | refine LeO.ite ?_ ?_
   | refine LeO.bind ?_ (fun _ => ?_)
  ·intro y0 y1 y2 y3 y4 y5 y6 y7 y8
   unfold loop_Reducible.l1
   repeat' first
   | (with_reducible exact ih0 _ _ _ _ _)
   | (with_reducible exact ih1 _ _ _ _ _ _ _ _ _)
   | (with_reducible exact graph_Make.mono _ _)
   | (with_reducible exact graph_May.mono _ _ _)
   | (with_reducible exact loop_Backs.mono _ _ _)
   | (with_reducible exact loop_forward.mono _ _ _)
   | (with_reducible exact slices_Contains_2_int_2_int.mono _ _ _ _)
   | (with_reducible exact LeO.refl _)
   | (with_reducible exact LeO.none _)
   | (with_reducible refine LeO.ite ?_ ?_)
   | (with_reducible refine LeO.bind ?_ (fun _ => ?_))
   | exact ih0 _ _ _ _ _
   | exact ih1 _ _ _ _ _ _ _ _ _
   | exact graph_Make.mono _ _
   | exact graph_May.mono _ _ _
   | exact loop_Backs.mono _ _ _
   | exact loop_forward.mono _ _ _
   | exact slices_Contains_2_int_2_int.mono _ _ _ _
   | exact LeO.none _
   | refine LeO.ite ?_ ?_
   | refine LeO.bind ?_ (fun _ => ?_)
theorem loop_Reducible.mono : ∀ a0 a1 k, LeO (loop_Reducible.f k a0 a1) (loop_Reducible.f (k + 1) a0 a1) := by
 intro a0 a1 k
 obtain ⟨ih0, ih1⟩ := loop_Reducible.mono_l k
 unfold loop_Reducible.f
 repeat' first
  | (with_reducible exact ih0 _ _ _ _ _)
  | (with_reducible exact ih1 _ _ _ _ _ _ _ _ _)
  | (with_reducible exact graph_Make.mono _ _)
  | (with_reducible exact graph_May.mono _ _ _)
  | (with_reducible exact loop_Backs.mono _ _ _)
  | (with_reducible exact loop_forward.mono _ _ _)
  | (with_reducible exact slices_Contains_2_int_2_int.mono _ _ _ _)
  | (with_reducible exact LeO.refl _)
  | (with_reducible exact LeO.none _)
  | (with_reducible refine LeO.ite ?_ ?_)
  | (with_reducible refine LeO.bind ?_ (fun _ => ?_))
  | exact ih0 _ _ _ _ _
  | exact ih1 _ _ _ _ _ _ _ _ _
  | exact graph_Make.mono _ _
  | exact graph_May.mono _ _ _
  | exact loop_Backs.mono _ _ _
  | exact loop_forward.mono _ _ _
  | exact slices_Contains_2_int_2_int.mono _ _ _ _
  | exact LeO.none _
  | refine LeO.ite ?_ ?_
  | refine LeO.bind ?_ (fun _ => ?_)
set_option maxHeartbeats 8000000 in
set_option maxRecDepth 100000 in
theorem loop_Reducible.calls (k : Nat) (A0_0 : Option Addr) (c0_0 : Nat) (l0_0 : List (List Int)) (A0_1 : Option Addr) (c0_1 : Nat) (l0_1 : List (List Int)) (r : Bool) (w : World) (hr0_0 : Kd.C (Kd.slice 3 (Kd.int .i64)) w A0_0 l0_0.length l0_0) (hc0_0 : l0_0.length ≤ c0_0) (hr0_1 : Kd.C (Kd.slice 3 (Kd.int .i64)) w A0_1 l0_1.length l0_1) (hc0_1 : l0_1.length ≤ c0_1) (h : loop_Reducible.f k l0_0 l0_1 = some r) :
 Calls Try.prog 19 #[.agg #[.slice A0_0 l0_0.length c0_0, .slice A0_1 l0_1.length c0_1]] w fun e w' => e = .returned (.bool r) ∧ Below w.heap.size w w' := by
 have hu26 := Try.underlying26
 have hu48 := Try.underlying48
 have HR0_0 := Aside0.mk hr0_0
 have HC0_0 := Aside0.mk hc0_0
 clear hr0_0 hc0_0
 have HR0_1 := Aside0.mk hr0_1
 have HC0_1 := Aside0.mk hc0_1
 clear hr0_1 hc0_1
 have HB := Aside0.mk (Below.refl w.heap.size w)
 have H : ((graph_May.f k l0_0 l0_1).bind fun t307 => (if t307 = true then ((loop_Backs.f k l0_0 l0_1).bind fun t308 => (if 0 ≤ (l0_0.length : Int) then (if ((l0_0.length : Int) : Int).toNat ≤ 11728124029610 then (loop_Reducible.l0 k t308 (List.replicate ((l0_0.length : Int) : Int).toNat []) l0_0 (l0_0.length : Int) 0) else (none)) else (none))) else (some false))) = some r := h
 clear h
 replace H := Option.bind_eq_some_iff.mp H
 obtain ⟨t307, A20, H⟩ := H
 replace H : (if t307 = true then ((loop_Backs.f k l0_0 l0_1).bind fun t308 => (if 0 ≤ (l0_0.length : Int) then (if ((l0_0.length : Int) : Int).toNat ≤ 11728124029610 then (loop_Reducible.l0 k t308 (List.replicate ((l0_0.length : Int) : Int).toNat []) l0_0 (l0_0.length : Int) 0) else (none)) else (none))) else (some false)) = some r := H
 have A2 := Aside0.mk A20
 clear A20
 by_cases c3 : t307 = true
 ·subst c3
  have H1 : ((loop_Backs.f k l0_0 l0_1).bind fun t308 => (if 0 ≤ (l0_0.length : Int) then (if ((l0_0.length : Int) : Int).toNat ≤ 11728124029610 then (loop_Reducible.l0 k t308 (List.replicate ((l0_0.length : Int) : Int).toNat []) l0_0 (l0_0.length : Int) 0) else (none)) else (none))) = some r := by rw [if_pos rfl] at H; exact H
  clear H
  have H := H1
  clear H1
  replace H := Option.bind_eq_some_iff.mp H
  obtain ⟨t308, A40, H⟩ := H
  replace H : (if 0 ≤ (l0_0.length : Int) then (if ((l0_0.length : Int) : Int).toNat ≤ 11728124029610 then (loop_Reducible.l0 k t308 (List.replicate ((l0_0.length : Int) : Int).toNat []) l0_0 (l0_0.length : Int) 0) else (none)) else (none)) = some r := H
  have A4 := Aside0.mk A40
  clear A40
  by_cases c5 : 0 ≤ (l0_0.length : Int)
  ·rw [if_pos c5] at H
   have c5b0 := eq_true c5
   have c5b1 : decide (0 ≤ (l0_0.length : Int)) = true := decide_eq_true c5
   clear c5
   by_cases c6 : ((l0_0.length : Int) : Int).toNat ≤ 11728124029610
   ·rw [if_pos c6] at H
    have c6b0 := eq_true c6
    have c6b1 : decide (((l0_0.length : Int) : Int).toNat ≤ 11728124029610) = true := decide_eq_true c6
    clear c6
    obtain ⟨y311, hy311⟩ : ∃ y_ : List (List Int), y_ = (List.replicate ((l0_0.length : Int) : Int).toNat []) := ⟨_, rfl⟩
    replace H : (loop_Reducible.l0 k t308 y311 l0_0 (l0_0.length : Int) 0) = some r := by first | (rw [hy311]; with_reducible exact H) | (have H2_ := (Option.bind_some _ _).symm.trans H; rw [hy311]; with_reducible exact H2_) | (have H2_ := (Option.bind_some _ _).symm.trans H; with_reducible exact H2_) | with_reducible exact H | (rw [hy311]; exact H) | exact H
    have Ny311 := Aside0.mk hy311
    clear hy311
    have H' := Aside0.mk H
    clear H
    go_enter Try.func19, Try.ntmps19
    go_wp2_with (first | ((with_reducible refine gate_dst (N := 1) rfl ?_); refine box_event ?hg (N := 1) ?hd (cs := #[.slice A0_0 l0_0.length c0_0, .slice A0_1 l0_1.length c0_1]) (t := 26) ?hr ?_; (case hd => rfl); (case hg => rfl); (case hr => first | (go_simp; done) | (go_simp; rfl)); intro gb306 hg w7 hbox hb; have n0_ := Aside0.mk (below_step (B_) hb); have n1_ := Aside0.mk (hbox); have n2_ := Aside0.mk ((by rw [hg]; exact (below_size (B_)) : w.heap.size ≤ gb306)); have n3_ := Aside0.mk ((by rw [hg]; exact (below_size (B_)) : w.heap.size ≤ gb306)); clear HB; have HB := n0_; have BK306 := n1_; have GW306 := n2_; have GE306 := n3_; clear n0_ n1_ n2_ n3_; clear hb hbox hg; have hcz8_0 : w7.cell? ⟨gb306, 0, none⟩ = some (.slice A0_0 l0_0.length c0_0) := (blk_cell BK306.out 0).trans rfl; have hcz8_1 : w7.cell? ⟨gb306, 1, none⟩ = some (.slice A0_1 l0_1.length c0_1) := (blk_cell BK306.out 1).trans rfl; have hfz8_0 := blk_frozen BK306.out 0; have hfz8_1 := blk_frozen BK306.out 1) | ((with_reducible refine gate_callee (f := 42) rfl ?_); refine goesL_ (some 12) rfl rfl Try.func42 (by kernel_rfl) rfl #[.agg #[.slice A0_0 l0_0.length c0_0, .slice A0_1 l0_1.length c0_1]] rfl (by (try simp only [List.map_toArray, List.map_cons, List.map_nil]); first | done | rfl | (simp only [List.length_drop, List.length_take]; rfl)) ?_; (with_reducible refine (graph_May.calls k _ _ l0_0 _ _ l0_1 true _ ?side1 ?side2 ?side3 ?side4 A2.out).mono ?_); (case side1 => exact CX_ (Kd.C_below HR0_0.out HB.out)); (case side2 => exact HC0_0.out); (case side3 => exact CX_ (Kd.C_below HR0_1.out HB.out)); (case side4 => exact HC0_1.out); rintro e w9 ⟨rfl, hb⟩; refine ⟨_, rfl, ?_⟩; have n0_ := Aside0.mk (blk_below (g := gb306) (o := .cells #[.slice A0_0 l0_0.length c0_0, .slice A0_1 l0_1.length c0_1] 26 (0, 0)) (by exact KX_ BK306.out) hb); have n1_ := Aside0.mk (below_step (B1_) hb); clear BK306; clear HB; have BK306 := n0_; have HB := n1_; clear n0_ n1_; (try clear hb); (try clear hb2); (try clear hk); (try clear hi); have hcz10_0 : w9.cell? ⟨gb306, 0, none⟩ = some (.slice A0_0 l0_0.length c0_0) := (blk_cell BK306.out 0).trans rfl; have hcz10_1 : w9.cell? ⟨gb306, 1, none⟩ = some (.slice A0_1 l0_1.length c0_1) := (blk_cell BK306.out 1).trans rfl; have hfz10_0 := blk_frozen BK306.out 0; have hfz10_1 := blk_frozen BK306.out 1) | ((with_reducible refine gate_callee (f := 22) rfl ?_); refine goesL_ (some 15) rfl rfl Try.func22 (by kernel_rfl) rfl #[.agg #[.slice A0_0 l0_0.length c0_0, .slice A0_1 l0_1.length c0_1]] rfl (by (try simp only [List.map_toArray, List.map_cons, List.map_nil]); first | done | rfl | (simp only [List.length_drop, List.length_take]; rfl)) ?_; (with_reducible refine (loop_Backs.calls k _ _ l0_0 _ _ l0_1 t308 _ ?side1 ?side2 ?side3 ?side4 A4.out).mono ?_); (case side1 => exact CX_ (Kd.C_below HR0_0.out HB.out)); (case side2 => exact HC0_0.out); (case side3 => exact CX_ (Kd.C_below HR0_1.out HB.out)); (case side4 => exact HC0_1.out); rintro e w11 ⟨v309, rfl, ho0, hb⟩; refine ⟨_, rfl, ?_⟩; have n0_ := Aside0.mk (Kd.R_lower ho0 (below_size (B1_))); have n1_ := Aside0.mk (blk_below (g := gb306) (o := .cells #[.slice A0_0 l0_0.length c0_0, .slice A0_1 l0_1.length c0_1] 26 (0, 0)) (by exact KX_ BK306.out) hb); have n2_ := Aside0.mk (below_step (B1_) hb); clear BK306; clear HB; have HO310 := n0_; have BK306 := n1_; have HB := n2_; clear n0_ n1_ n2_; (try clear hb); (try clear hb2); (try clear hk); (try clear hi); (try clear ho0); have hcz12_0 : w11.cell? ⟨gb306, 0, none⟩ = some (.slice A0_0 l0_0.length c0_0) := (blk_cell BK306.out 0).trans rfl; have hcz12_1 : w11.cell? ⟨gb306, 1, none⟩ = some (.slice A0_1 l0_1.length c0_1) := (blk_cell BK306.out 1).trans rfl; have hfz12_0 := blk_frozen BK306.out 0; have hfz12_1 := blk_frozen BK306.out 1) | ((with_reducible refine gate_dst (N := 19) rfl ?_); refine Kd.S_make (Kd.slice 3 (Kd.int .i64)) _ 31 rfl (N := 19) rfl 22 _ _ rfl (l0_0.length : Int) rfl rfl Try.underlying22 (.slice none 0 0) 24 info31 rfl (by decide) (by omega) [] (ok := fun _ => True) (okp := fun _ => True) ⟨_, rfl, Kd.R_nil _ _ _ _ _⟩ (fun _ hk => hk) trivial (D_) (Nat.le_trans (Nat.mul_le_mul_right _ (D_ : (l0_0.length : Int).toNat ≤ 11728124029610)) (by omega)) (Below.refl _ _) (Nat.le_refl _) ?_; intro v312 w13 ho14 hb hg_ hnew_; clear hg_ hnew_; (first | rw [← Ny311.out] at ho14 | (simp only [Int.reduceToNat] at ho14; rw [← Ny311.out] at ho14)); have n0_ := Aside0.mk (Kd.R_below (by exact RX_ HO310.out) hb); have n1_ := Aside0.mk (Kd.S_lower ho14 (below_size (B1_))); have n2_ := Aside0.mk (blk_below (g := gb306) (o := .cells #[.slice A0_0 l0_0.length c0_0, .slice A0_1 l0_1.length c0_1] 26 (0, 0)) (by exact KX_ BK306.out) hb); have n3_ := Aside0.mk (below_step (B1_) hb); clear HO310; clear BK306; clear HB; have HO310 := n0_; have HO313 := n1_; have BK306 := n2_; have HB := n3_; clear n0_ n1_ n2_ n3_; clear hb ho14; have hcz15_0 : w13.cell? ⟨gb306, 0, none⟩ = some (.slice A0_0 l0_0.length c0_0) := (blk_cell BK306.out 0).trans rfl; have hcz15_1 : w13.cell? ⟨gb306, 1, none⟩ = some (.slice A0_1 l0_1.length c0_1) := (blk_cell BK306.out 1).trans rfl; have hfz15_0 := blk_frozen BK306.out 0; have hfz15_1 := blk_frozen BK306.out 1))
    go_loopg [23] k (fun kq v23 w' => ∃ (x4_1 : List (List Int)) (x23_1 : Int), v23 = .int .i64 x23_1 ∧ Aside0 (loop_Reducible.l0 kq t308 x4_1 l0_0 (l0_0.length : Int) x23_1 = some r) ∧ Aside0 (kq ≤ k) ∧ Aside0 (Kd.R k48 48 w' w.heap.size (fun _ => True) v309 t308) ∧ Aside0 (Kd.S (Kd.slice 3 (Kd.int .i64)) 31 w' w.heap.size (fun _ => True) v312 x4_1) ∧ Aside0 (w'.heap[gb306]? = some (.cells #[(.slice A0_0 l0_0.length c0_0), (.slice A0_1 l0_1.length c0_1)] 26 (0, 0))) ∧ Aside0 (Below w.heap.size w w'))
    case atStart => exact ⟨(y311), (0), (by first | rfl | (simp; done) | (simp [*]; done)), H', ⟨Nat.le_refl _⟩, ⟨by exact RM_ HO310.out⟩, ⟨by exact SM_ HO313.out⟩, ⟨by exact KX_ BK306.out⟩, ⟨B1_⟩⟩
    case round =>
     clear H'
     try clear c3
     try clear c5b0
     try clear c5b1
     try clear c6b0
     try clear c6b1
     try clear hcz10_0
     try clear hcz10_1
     try clear hcz12_0
     try clear hcz12_1
     try clear hcz15_0
     try clear hcz15_1
     try clear hcz8_0
     try clear hcz8_1
     try clear hfz10_0
     try clear hfz10_1
     try clear hfz12_0
     try clear hfz12_1
     try clear hfz15_0
     try clear hfz15_1
     try clear hfz8_0
     try clear hfz8_1
     obtain ⟨x4_1, x23_1, rfl, HA, HK1, HO_3, HO_4, BK306, HB⟩ := hrel
     cases gk with
     | zero => exact absurd HA.out (by simp [loop_Reducible.l0])
     | succ k1 =>
      have H := HA.out
      clear HA
      simp only [loop_Reducible.l0] at H
      by_cases c16 : x23_1 < (l0_0.length : Int)
      ·rw [if_pos c16] at H
       have c16b0 : decide (x23_1 < (l0_0.length : Int)) = true := decide_eq_true c16
       clear c16
       by_cases c17 : 0 ≤ x23_1
       ·rw [if_pos c17] at H
        have c17b0 : decide (0 ≤ x23_1) = true := decide_eq_true c17
        clear c17
        by_cases c18 : x23_1 < (l0_0.length : Int)
        ·rw [if_pos c18] at H
         have c18b0 : decide (x23_1 < (l0_0.length : Int)) = true := decide_eq_true c18
         clear c18
         have H' := Aside0.mk H
         clear H
         have p323 : 0 ≤ (x23_1 : Int) := D_
         have q323 : x23_1 < (l0_0.length : Int) := D_
         obtain ⟨ad323, A323_0, c323_0, e323, hx323_0, hl323_0, hi323_0⟩ := at_L1 HR0_0.out x23_1 p323 q323
         cases e323
         replace hx323_0 := (HB.out.cell (World.block_lt_of_cell? w _ hx323_0)).trans hx323_0
         have HR323_0 := Aside0.mk hi323_0
         have HC323_0 := Aside0.mk hl323_0
         clear hi323_0 hl323_0
         replace p323 := eq_true p323
         replace q323 := eq_true q323
         go_wp2
         go_loopg [30] k1 (fun kq v30 w' => ∃ (x4_2 : List (List Int)) (x30_2 : Int), v30 = .int .i64 x30_2 ∧ Aside0 (loop_Reducible.l1 kq t308 x4_2 x23_1 l0_0 (l0_0.length : Int) x23_1 (rd_L1 l0_0 x23_1) ((rd_L1 l0_0 x23_1).length : Int) x30_2 = some r) ∧ Aside0 (kq ≤ k1) ∧ Aside0 (Kd.R k48 48 w' w.heap.size (fun _ => True) v309 t308) ∧ Aside0 (Kd.S (Kd.slice 3 (Kd.int .i64)) 31 w' w.heap.size (fun _ => True) v312 x4_2) ∧ Aside0 (w'.heap[gb306]? = some (.cells #[(.slice (some ad323) l0_0.length c0_0), (.slice A0_1 l0_1.length c0_1)] 26 (0, 0))) ∧ Aside0 (Below w.heap.size w w'))
         case atStart => exact ⟨(x4_1), (0), (by first | rfl | (simp; done) | (simp [*]; done)), H', ⟨Nat.le_refl _⟩, ⟨by exact RM_ HO_3.out⟩, ⟨by exact SM_ HO_4.out⟩, ⟨by exact KX_ BK306.out⟩, ⟨B1_⟩⟩
         case round =>
          clear H'
          try clear c16b0
          try clear c17b0
          try clear c18b0
          try clear hx323_0
          try clear p323
          try clear q323
          obtain ⟨x4_2, x30_2, rfl, HA, HK2, HO_3, HO_4, BK306, HB⟩ := hrel
          cases gk with
          | zero => exact absurd HA.out (by simp [loop_Reducible.l1])
          | succ k2 =>
           have H := HA.out
           clear HA
           simp only [loop_Reducible.l1] at H
           by_cases c19 : x30_2 < ((rd_L1 l0_0 x23_1).length : Int)
           ·rw [if_pos c19] at H
            have c19b0 : decide (x30_2 < ((rd_L1 l0_0 x23_1).length : Int)) = true := decide_eq_true c19
            clear c19
            by_cases c20 : 0 ≤ x30_2
            ·rw [if_pos c20] at H
             have c20b0 : decide (0 ≤ x30_2) = true := decide_eq_true c20
             clear c20
             by_cases c21 : x30_2 < ((rd_L1 l0_0 x23_1).length : Int)
             ·rw [if_pos c21] at H
              have c21b0 : decide (x30_2 < ((rd_L1 l0_0 x23_1).length : Int)) = true := decide_eq_true c21
              clear c21
              replace H := Option.bind_eq_some_iff.mp H
              obtain ⟨t325, A220, H⟩ := H
              replace H : (if t325 = true then (loop_Reducible.l1 k2 t308 x4_2 x23_1 l0_0 (l0_0.length : Int) x23_1 (rd_L1 l0_0 x23_1) ((rd_L1 l0_0 x23_1).length : Int) (wrap64 (x30_2 + 1))) else (if 0 ≤ x23_1 then (if x23_1 < (x4_2.length : Int) then (if (rd_L1 x4_2 x23_1).length < 17592186044416 then (loop_Reducible.l1 k2 t308 (x4_2.set (x23_1 : Int).toNat ((rd_L1 x4_2 x23_1) ++ [rd (rd_L1 l0_0 x23_1) x30_2])) x23_1 l0_0 (l0_0.length : Int) x23_1 (rd_L1 l0_0 x23_1) ((rd_L1 l0_0 x23_1).length : Int) (wrap64 (x30_2 + 1))) else (none)) else (none)) else (none))) = some r := H
              have A22 := Aside0.mk A220
              clear A220
              by_cases c23 : t325 = true
              ·subst c23
               have H1 : (loop_Reducible.l1 k2 t308 x4_2 x23_1 l0_0 (l0_0.length : Int) x23_1 (rd_L1 l0_0 x23_1) ((rd_L1 l0_0 x23_1).length : Int) (wrap64 (x30_2 + 1))) = some r := by rw [if_pos rfl] at H; exact H
               clear H
               have H := H1
               clear H1
               have H' := Aside0.mk H
               clear H
               have p324 : 0 ≤ (x30_2 : Int) := D_
               have q324 : x30_2 < ((rd_L1 l0_0 x23_1).length : Int) := D_
               obtain ⟨ad324, e324, hx324_0⟩ := Kd.at_int HR323_0.out x30_2 p324 q324
               cases e324
               replace hx324_0 := (HB.out.cell (World.block_lt_of_cell? w _ hx324_0)).trans hx324_0
               replace p324 := eq_true p324
               replace q324 := eq_true q324
               obtain ⟨Ao24, co24, eo24⟩ := Kd.R_slice HO_3.out
               subst eo24
               go_wp2_with (first | ((with_reducible refine gate_callee (f := 43) rfl ?_); refine goesL_ (some 38) rfl rfl Try.func43 (by kernel_rfl) rfl #[.slice Ao24 t308.length co24, .agg #[.int .i64 x23_1, .int .i64 (rd (rd_L1 l0_0 x23_1) x30_2)]] rfl (by (try simp only [List.map_toArray, List.map_cons, List.map_nil]); first | done | rfl | (simp only [List.length_drop, List.length_take]; rfl)) ?_; (with_reducible refine (slices_Contains_2_int_2_int.calls k2 _ _ t308 x23_1 (rd (rd_L1 l0_0 x23_1) x30_2) true _ ?side1 ?side2 A22.out).mono ?_); (case side1 => repeat (first | exact (Kd.R_reads' HO_3.out).2.2 | (with_reducible refine Kd.C_alloc ?_ _) | (with_reducible refine Kd.C_drewN ?_ _) | (with_reducible refine Kd.C_drew ?_))); (case side2 => exact (Kd.R_reads' HO_3.out).2.1); rintro e w25 ⟨rfl, hb⟩; refine ⟨_, rfl, ?_⟩; have n0_ := Aside0.mk (Kd.R_below (by exact RX_ HO_3.out) hb); have n1_ := Aside0.mk (Kd.S_below (by exact SX_ HO_4.out) hb); have n2_ := Aside0.mk (blk_below (g := gb306) (o := .cells #[.slice (some ad323) l0_0.length c0_0, .slice A0_1 l0_1.length c0_1] 26 (0, 0)) (by exact KX_ BK306.out) hb); have n3_ := Aside0.mk (below_step (B1_) hb); clear HO_3; clear HO_4; clear BK306; clear HB; have HO_3 := n0_; have HO_4 := n1_; have BK306 := n2_; have HB := n3_; clear n0_ n1_ n2_ n3_; (try clear hb); (try clear hb2); (try clear hk); (try clear hi)))
               go_roundg k2
               case measure => have := HK1.out; have := HK2.out; omega
               case rel => exact ⟨(x4_2), (wrap64 (x30_2 + 1)), (by first | rfl | (simp; done) | (simp [*]; done)), H', ⟨by have := HK1.out; have := HK2.out; omega⟩, ⟨by exact RM_ HO_3.out⟩, ⟨by exact SM_ HO_4.out⟩, ⟨by exact KX_ BK306.out⟩, ⟨B1_⟩⟩
              replace c23 := Bool.eq_false_iff.mpr c23
              subst c23
              have H1 : (if 0 ≤ x23_1 then (if x23_1 < (x4_2.length : Int) then (if (rd_L1 x4_2 x23_1).length < 17592186044416 then (loop_Reducible.l1 k2 t308 (x4_2.set (x23_1 : Int).toNat ((rd_L1 x4_2 x23_1) ++ [rd (rd_L1 l0_0 x23_1) x30_2])) x23_1 l0_0 (l0_0.length : Int) x23_1 (rd_L1 l0_0 x23_1) ((rd_L1 l0_0 x23_1).length : Int) (wrap64 (x30_2 + 1))) else (none)) else (none)) else (none)) = some r := by rw [if_neg (show ¬ (false = true) by decide)] at H; exact H
              clear H
              have H := H1
              clear H1
              by_cases c26 : 0 ≤ x23_1
              ·rw [if_pos c26] at H
               have c26b0 : decide (0 ≤ x23_1) = true := decide_eq_true c26
               clear c26
               by_cases c27 : x23_1 < (x4_2.length : Int)
               ·rw [if_pos c27] at H
                have c27b0 : decide (x23_1 < (x4_2.length : Int)) = true := decide_eq_true c27
                clear c27
                by_cases c28 : (rd_L1 x4_2 x23_1).length < 17592186044416
                ·rw [if_pos c28] at H
                 have LMc28 := Aside0.mk c28
                 clear c28
                 obtain ⟨y327, hy327⟩ : ∃ y_ : List Int, y_ = ((rd_L1 x4_2 x23_1) ++ [rd (rd_L1 l0_0 x23_1) x30_2]) := ⟨_, rfl⟩
                 replace H : (loop_Reducible.l1 k2 t308 (x4_2.set (x23_1 : Int).toNat y327) x23_1 l0_0 (l0_0.length : Int) x23_1 (rd_L1 l0_0 x23_1) ((rd_L1 l0_0 x23_1).length : Int) (wrap64 (x30_2 + 1))) = some r := by first | (rw [hy327]; with_reducible exact H) | (have H2_ := (Option.bind_some _ _).symm.trans H; rw [hy327]; with_reducible exact H2_) | (have H2_ := (Option.bind_some _ _).symm.trans H; with_reducible exact H2_) | with_reducible exact H | (rw [hy327]; exact H) | exact H
                 have Ny327 := Aside0.mk hy327
                 clear hy327
                 obtain ⟨y330, hy330⟩ : ∃ y_ : List (List Int), y_ = (x4_2.set (x23_1 : Int).toNat y327) := ⟨_, rfl⟩
                 replace H : (loop_Reducible.l1 k2 t308 y330 x23_1 l0_0 (l0_0.length : Int) x23_1 (rd_L1 l0_0 x23_1) ((rd_L1 l0_0 x23_1).length : Int) (wrap64 (x30_2 + 1))) = some r := by first | (rw [hy330]; with_reducible exact H) | (have H2_ := (Option.bind_some _ _).symm.trans H; rw [hy330]; with_reducible exact H2_) | (have H2_ := (Option.bind_some _ _).symm.trans H; with_reducible exact H2_) | with_reducible exact H | (rw [hy330]; exact H) | exact H
                 have Ny330 := Aside0.mk hy330
                 clear hy330
                 have H' := Aside0.mk H
                 clear H
                 have p324 : 0 ≤ (x30_2 : Int) := D_
                 have q324 : x30_2 < ((rd_L1 l0_0 x23_1).length : Int) := D_
                 obtain ⟨ad324, e324, hx324_0⟩ := Kd.at_int HR323_0.out x30_2 p324 q324
                 cases e324
                 replace hx324_0 := (HB.out.cell (World.block_lt_of_cell? w _ hx324_0)).trans hx324_0
                 replace p324 := eq_true p324
                 replace q324 := eq_true q324
                 obtain ⟨Ao30, co30, eo30⟩ := Kd.R_slice HO_3.out
                 subst eo30
                 go_wp2_with (first | ((with_reducible refine gate_callee (f := 43) rfl ?_); refine goesL_ (some 38) rfl rfl Try.func43 (by kernel_rfl) rfl #[.slice Ao30 t308.length co30, .agg #[.int .i64 x23_1, .int .i64 (rd (rd_L1 l0_0 x23_1) x30_2)]] rfl (by (try simp only [List.map_toArray, List.map_cons, List.map_nil]); first | done | rfl | (simp only [List.length_drop, List.length_take]; rfl)) ?_; (with_reducible refine (slices_Contains_2_int_2_int.calls k2 _ _ t308 x23_1 (rd (rd_L1 l0_0 x23_1) x30_2) false _ ?side1 ?side2 A22.out).mono ?_); (case side1 => repeat (first | exact (Kd.R_reads' HO_3.out).2.2 | (with_reducible refine Kd.C_alloc ?_ _) | (with_reducible refine Kd.C_drewN ?_ _) | (with_reducible refine Kd.C_drew ?_))); (case side2 => exact (Kd.R_reads' HO_3.out).2.1); rintro e w31 ⟨rfl, hb⟩; refine ⟨_, rfl, ?_⟩; have n0_ := Aside0.mk (Kd.R_below (by exact RX_ HO_3.out) hb); have n1_ := Aside0.mk (Kd.S_below (by exact SX_ HO_4.out) hb); have n2_ := Aside0.mk (blk_below (g := gb306) (o := .cells #[.slice (some ad323) l0_0.length c0_0, .slice A0_1 l0_1.length c0_1] 26 (0, 0)) (by exact KX_ BK306.out) hb); have n3_ := Aside0.mk (below_step (B1_) hb); clear HO_3; clear HO_4; clear BK306; clear HB; have HO_3 := n0_; have HO_4 := n1_; have BK306 := n2_; have HB := n3_; clear n0_ n1_ n2_ n3_; (try clear hb); (try clear hb2); (try clear hk); (try clear hi); obtain ⟨Ao32, co32, eo32⟩ := Kd.S_slice HO_4.out; subst eo32; have p326 : 0 ≤ (x23_1 : Int) := D_; have q326 : x23_1 < (x4_2.length : Int) := D_; obtain ⟨ad326, A326_0, c326_0, e326, hx326_0, hl326_0, hi326_0⟩ := at_L1 (Kd.S_reads' HO_4.out).2.2 x23_1 p326 q326; cases e326; obtain ⟨ce326, hce326, hMe326, hcc326⟩ := Kd.S_get HO_4.out [] x23_1 p326 (by first | exact q326 | exact D_ | (have e_ := (Kd.S_reads' HO_4.out).1; omega)); obtain ⟨ve326_0, rfl, ge326_0⟩ := hMe326; have hv326_0 := hcc326 0 _ rfl; rw [Nat.add_zero, show ((Kd.slice 3 (Kd.int .i64))).sz = 1 from rfl, Nat.mul_one] at hv326_0; replace hv326_0 := Option.some.inj (hv326_0.symm.trans hx326_0); rw [hv326_0] at ge326_0; have HL326_0 := Aside0.mk (show Kd.R (Kd.int .i64) 3 _ _ _ _ (rd_L1 x4_2 x23_1) from ge326_0); clear hv326_0 ge326_0; have HX326_0 := Aside0.mk hx326_0; clear hcc326 hce326; have HR326_0 := Aside0.mk hi326_0; have HC326_0 := Aside0.mk hl326_0; clear hi326_0 hl326_0; replace p326 := eq_true p326; replace q326 := eq_true q326; obtain ⟨go33, co33, eo33, gb33, gl33, cl33, HG33⟩ := Kd.S_form HO_4.out (by have h_ : (x23_1 : Int) < ((x4_2.length : Int) : Int) := D_; have h2_ : 0 ≤ (x23_1 : Int) := (D_); omega); (first | cases eo33 | (injection eo33 with ea_ en_ ec_; (first | subst ea_ | (injection ea_ with ea_; subst ea_)); subst ec_; clear en_)); have GB33 := Aside0.mk gb33; have GG33 := Aside0.mk HG33; clear gb33 gl33 HG33; (first | simp only [add_plain] at hx326_0 | skip); obtain ⟨oki33, ce33, hcl33, hM33, hcc33, _, _, hH33⟩ := Kd.S_elem HO_4.out [] (x23_1 : Int) (D_) (by have h_ : (x23_1 : Int) < ((x4_2.length : Int) : Int) := D_; first | exact h_ | (have e_ := (Kd.S_reads' HO_4.out).1; omega) | simpa using h_); obtain ⟨ve33_0, rfl, ge33_0⟩ := hM33; have hv33 := hcc33 0 _ rfl; have hX33 := HX326_0.out; (try simp only [add_plain] at hX33); (try simp only [Nat.add_zero] at hv33); (try rw [show ((Kd.slice 3 (Kd.int .i64))).sz = 1 from rfl, Nat.mul_one] at hv33); replace hv33 := Option.some.inj (hv33.symm.trans hX33); subst hv33; clear hX33 hcc33 hcl33; have UU33 := Aside0.mk (show Kd.R (Kd.int .i64) 3 _ w.heap.size oki33 (.slice A326_0 (rd_L1 x4_2 x23_1).length c326_0) (rd_L1 x4_2 x23_1) from ge33_0); have HH33 := Aside0.mk hH33; have HN33 := Aside0.mk (Kd.S_reads' HO_4.out).1; clear hH33 ge33_0) | ((with_reducible refine gate_builtin (b := .append) (xs := #[.tmp 45, .tmp 47]) rfl ?_); at_builtin; refine Kd.R_append (Kd.int .i64) (w0 := w) w.heap.size rfl (.tmp 45) (.tmp 47) 31 3 (.int .i64 0) 8 rfl Try.underlying31 info3 rfl (by decide) (by omega) (.slice A326_0 (rd_L1 x4_2 x23_1).length c326_0) (rd_L1 x4_2 x23_1) (rd (rd_L1 l0_0 x23_1) x30_2) [.int .i64 (rd (rd_L1 l0_0 x23_1) x30_2)] (fun k_ => oki33 k_ ∨ ((fun _ => True)) k_ ∧ w31.heap.size ≤ k_) (fun _ => False) rfl rfl ?aP (fun _ hk => hk.elim) ?aF ?aO ?aB ?aS ?aL ?_; (case aP => exact rfl); (case aB => exact (B1_)); (case aF => exact (fun k_ hk => .inr ⟨trivial, hk⟩)); (case aO => exact (by (with_reducible repeat (first | apply Kd.R_alloc | apply Kd.R_drewN | apply Kd.R_drew)); exact Kd.R_mono UU33.out (fun _ hk => .inl hk))); (case aS => exact (below_size (B1_))); (case aL => have := LMc28.out; omega); intro v328 w34 ho hb hg hat; rw [← Ny327.out] at ho; have n0_ := Aside0.mk (Kd.R_over' (v := (.slice A326_0 (rd_L1 x4_2 x23_1).length c326_0)) (by exact RX_ HO_3.out) (Kd.R_typed HL326_0.out) (by decide) hg); have n1_ := Aside0.mk (blk_grown (g := gb306) (o := .cells #[.slice (some ad323) l0_0.length c0_0, .slice A0_1 l0_1.length c0_1] 26 (0, 0)) (by exact KX_ BK306.out) hg (Kd.R_ne HL326_0.out BK306.out (by decide))); have n2_ := Aside0.mk (hb); have n3_ := Aside0.mk (Kd.H_grown (Kd.H_widen (by repeat (first | exact HH33.out | refine Kd.H_alloc ?_ _ | refine Kd.H_drewN ?_ _ | refine Kd.H_drew ?_))) hg (fun k_ e_ => .inl (UU33.out.1 k_ e_))); have n4_ := Aside0.mk (ho); clear HO_3; clear BK306; clear HB; clear HH33; clear HO_4; clear UU33; clear HL326_0; have HO_3 := n0_; have BK306 := n1_; have HB := n2_; have HH33 := n3_; have HO329 := n4_; clear n0_ n1_ n2_ n3_ n4_; clear ho hb hg hat; have p29 : 0 ≤ (x23_1 : Int) := D_; have q29 : (x23_1 : Int) < ((x4_2.length : Int) : Int) := D_; replace p29 := eq_true p29; replace q29 := eq_true q29; obtain ⟨Ao37, co37, eo37⟩ := Kd.R_slice HO329.out; subst eo37; obtain ⟨_, _, hraw35, _, _, hcc35, _⟩ := Kd.H_raw HH33.out (D_) (by have h_ : (x23_1 : Int) < ((x4_2.length : Int) : Int) := D_; first | exact h_ | (have e_ := (HN33.out); omega) | simpa using h_); obtain ⟨_, hfr35⟩ := Kd.H_at HH33.out (D_) (by have h_ : (x23_1 : Int) < ((x4_2.length : Int) : Int) := D_; first | exact h_ | (have e_ := (HN33.out); omega) | simpa using h_); have hx35_0 := hcc35 0 _ rfl; have hf35_0 := hfr35 0; (try simp only [Nat.add_zero] at hx35_0 hf35_0); (try rw [show ((Kd.slice 3 (Kd.int .i64))).sz = 1 from rfl, Nat.mul_one] at hx35_0); (try rw [show ((Kd.slice 3 (Kd.int .i64))).sz = 1 from rfl, Nat.mul_one] at hf35_0); have HP35 := Kd.S_seg0 HH33.out (D_) (by have h_ : (x23_1 : Int) < ((x4_2.length : Int) : Int) := D_; first | exact h_ | (have e_ := (HN33.out); omega) | simpa using h_) (seg := [.slice Ao37 y327.length co37]) (j := 0) (show 1 ≤ 1 from by decide) (x' := y327) (Kd.M_row HO329.out) (fun _ hk => hk); (try simp only [show ((Kd.slice 3 (Kd.int .i64))).sz = 1 from rfl, Nat.mul_one, Nat.add_zero] at HP35); clear hcc35 hfr35) | ((with_reducible refine gate_store (t := 31) (p := 49) rfl ?_); refine store_event (t := 31) (p := 49) (v := ?vo_w36) (w1 := (w34.setCell ⟨go33, (x23_1 : Int).toNat, none⟩ (.slice Ao37 y327.length co37))) ?hg ?ho ?hn ?hr ?_; (case ho => rfl); (case hg => rfl); (case hn => rfl); (case hr => first | (go_simp; done) | (go_simp; rfl)); intro w36 hw; have hg : w34.grownBy w36 (some go33) := (by rw [hw]; exact HP35.2); have hp_ : Kd.S (Kd.slice 3 (Kd.int .i64)) 31 w36 w.heap.size (fun _ => True) (.slice (some ⟨go33, 0, none⟩) x4_2.length co32) y330 := (by rw [hw, Ny330.out]; exact HP35.1); clear HP35; have n0_ := Aside0.mk (Kd.R_over' (v := (.slice (some ⟨go33, 0, none⟩) x4_2.length co32)) (by exact RX_ HO_3.out) (Kd.R_typed hraw35) (by decide) hg); have n1_ := Aside0.mk (blk_grown (g := gb306) (o := .cells #[.slice (some ad323) l0_0.length c0_0, .slice A0_1 l0_1.length c0_1] 26 (0, 0)) (by exact KX_ BK306.out) hg (Kd.R_ne hraw35 BK306.out (by decide))); have n2_ := Aside0.mk ((by rw [hw]; exact below_set HB.out GB33.out : Below w.heap.size w w36)); have n3_ := Aside0.mk (hp_); clear HO_3; clear BK306; clear HB; clear HO329; clear HH33; have HO_3 := n0_; have BK306 := n1_; have HB := n2_; have HO_4 := n3_; clear n0_ n1_ n2_ n3_; clear hg hw hp_ hraw35))
                 go_roundg k2
                 case measure => have := HK1.out; have := HK2.out; omega
                 case rel => exact ⟨(y330), (wrap64 (x30_2 + 1)), (by first | rfl | (simp; done) | (simp [*]; done)), H', ⟨by have := HK1.out; have := HK2.out; omega⟩, ⟨by exact RM_ HO_3.out⟩, ⟨by exact SM_ HO_4.out⟩, ⟨by exact KX_ BK306.out⟩, ⟨B1_⟩⟩
                rw [if_neg c28] at H
                exact absurd H (by simp)
               rw [if_neg c27] at H
               exact absurd H (by simp)
              rw [if_neg c26] at H
              exact absurd H (by simp)
             rw [if_neg c21] at H
             exact absurd H (by simp)
            rw [if_neg c20] at H
            exact absurd H (by simp)
           rw [if_neg c19] at H
           have c19b0 : decide (x30_2 < ((rd_L1 l0_0 x23_1).length : Int)) = false := decide_eq_false c19
           clear c19
           have H' := Aside0.mk H
           clear H
           go_wp2
           go_roundg k2
           case measure => have := HK1.out; have := HK2.out; omega
           case rel => exact ⟨(x4_2), (wrap64 (x23_1 + 1)), (by first | rfl | (simp; done) | (simp [*]; done)), H', ⟨by have := HK1.out; have := HK2.out; omega⟩, ⟨by exact RM_ HO_3.out⟩, ⟨by exact SM_ HO_4.out⟩, ⟨by exact KX_ BK306.out⟩, ⟨B1_⟩⟩
        rw [if_neg c18] at H
        exact absurd H (by simp)
       rw [if_neg c17] at H
       exact absurd H (by simp)
      rw [if_neg c16] at H
      have c16b0 : decide (x23_1 < (l0_0.length : Int)) = false := decide_eq_false c16
      clear c16
      replace H := Option.bind_eq_some_iff.mp H
      obtain ⟨⟨t314, t317, t320⟩, A380, H⟩ := H
      replace H : ((loop_forward.f k1 t314 t317).bind fun t322 => (some t322)) = some r := H
      have A38 := Aside0.mk A380
      clear A380
      replace H := Option.bind_eq_some_iff.mp H
      obtain ⟨t322, A390, H⟩ := H
      replace H : (some t322) = some r := H
      have A39 := Aside0.mk A390
      clear A390
      obtain rfl := Option.some.inj H
      obtain ⟨Ao40, co40, eo40⟩ := Kd.S_slice HO_4.out
      subst eo40
      go_wp2_with (first | ((with_reducible refine gate_callee (f := 11) rfl ?_); refine goesL_ (some 54) rfl rfl Try.func11 (by kernel_rfl) rfl #[.slice Ao40 x4_1.length co40] rfl (by (try simp only [List.map_toArray, List.map_cons, List.map_nil]); first | done | rfl | (simp only [List.length_drop, List.length_take]; rfl)) ?_; (with_reducible refine (graph_Make.calls k1 _ _ x4_1 t314 t317 t320 _ ?side1 ?side2 A38.out).mono ?_); (case side1 => repeat (first | exact (Kd.S_reads' HO_4.out).2.2 | (with_reducible refine Kd.C_alloc ?_ _) | (with_reducible refine Kd.C_drewN ?_ _) | (with_reducible refine Kd.C_drew ?_))); (case side2 => exact (Kd.S_reads' HO_4.out).2.1); rintro e w41 ⟨v315, v318, rfl, ho0, ho1, hb⟩; refine ⟨_, rfl, ?_⟩; have n0_ := Aside0.mk (Kd.R_below (by exact RX_ HO_3.out) hb); have n1_ := Aside0.mk (Kd.S_mono (Kd.S_told (Kd.S_told (Kd.S_old (by exact SX_ HO_4.out) hb) (Kd.S_base ho0)) (Kd.S_base ho1)) (fun _ h_ => h_.1)); have n2_ := Aside0.mk (Kd.S_lower (Kd.S_new' ho0 (Kd.S_lt (by exact SX_ HO_4.out))) (below_size (B1_))); have n3_ := Aside0.mk (Kd.S_lower (Kd.S_new' ho1 (Kd.S_lt (by exact SX_ HO_4.out))) (below_size (B1_))); have n4_ := Aside0.mk (blk_below (g := gb306) (o := .cells #[.slice A0_0 l0_0.length c0_0, .slice A0_1 l0_1.length c0_1] 26 (0, 0)) (by exact KX_ BK306.out) hb); have n5_ := Aside0.mk (below_step (B1_) hb); clear HO_3; clear HO_4; clear BK306; clear HB; have HO_3 := n0_; have HO_4 := n1_; have HO316 := n2_; have HO319 := n3_; have BK306 := n4_; have HB := n5_; clear n0_ n1_ n2_ n3_ n4_ n5_; (try clear hb); (try clear hb2); (try clear hk); (try clear hi); (try clear ho0); (try clear ho1)) | ((with_reducible refine gate_dst (N := 9) rfl ?_); refine box_event ?hg (N := 9) ?hd (cs := #[.slice none 0 0, .slice none 0 0]) (t := 26) ?hr ?_; (case hd => rfl); (case hg => rfl); (case hr => first | (go_simp; done) | (go_simp; rfl)); intro gb321 hg w42 hbox hb; have n0_ := Aside0.mk (Kd.R_below (by exact RX_ HO_3.out) hb); have n1_ := Aside0.mk (Kd.S_below (by exact SX_ HO_4.out) hb); have n2_ := Aside0.mk (Kd.S_below (by exact SX_ HO316.out) hb); have n3_ := Aside0.mk (Kd.S_below (by exact SX_ HO319.out) hb); have n4_ := Aside0.mk (blk_below (g := gb306) (o := .cells #[.slice A0_0 l0_0.length c0_0, .slice A0_1 l0_1.length c0_1] 26 (0, 0)) (by exact KX_ BK306.out) hb); have n5_ := Aside0.mk (below_step (B1_) hb); have n6_ := Aside0.mk (hbox); have n7_ := Aside0.mk ((by rw [hg]; exact (below_size (B1_)) : w.heap.size ≤ gb321)); have n8_ := Aside0.mk ((by rw [hg]; exact (below_size (B1_)) : w.heap.size ≤ gb321)); have n9_ := Aside0.mk ((by rw [hg]; exact Nat.ne_of_lt (blk_lt (g := gb306) (o := .cells #[.slice A0_0 l0_0.length c0_0, .slice A0_1 l0_1.length c0_1] 26 (0, 0)) (by exact KX_ BK306.out)) : gb306 ≠ gb321)); have n10_ := Aside0.mk ((by rw [hg]; exact Nat.ne_of_gt (blk_lt (g := gb306) (o := .cells #[.slice A0_0 l0_0.length c0_0, .slice A0_1 l0_1.length c0_1] 26 (0, 0)) (by exact KX_ BK306.out)) : gb321 ≠ gb306)); clear HO_3; clear HO_4; clear HO316; clear HO319; clear BK306; clear HB; have HO_3 := n0_; have HO_4 := n1_; have HO316 := n2_; have HO319 := n3_; have BK306 := n4_; have HB := n5_; have BK321 := n6_; have GW321 := n7_; have GE321 := n8_; have NB306_321 := n9_; have NB321_306 := n10_; clear n0_ n1_ n2_ n3_ n4_ n5_ n6_ n7_ n8_ n9_ n10_; clear hb hbox hg; obtain ⟨Ao43, co43, eo43⟩ := Kd.S_slice HO316.out; subst eo43; have hnb44 := NB321_306.out; have hnc44 := NB306_321.out; have hcz45_0 : w42.cell? ⟨gb321, 0, none⟩ = some (.slice none 0 0) := (blk_cell BK321.out 0).trans rfl; have hcz45_1 : w42.cell? ⟨gb321, 1, none⟩ = some (.slice none 0 0) := (blk_cell BK321.out 1).trans rfl; have hfz45_0 := blk_frozen BK321.out 0; have hfz45_1 := blk_frozen BK321.out 1; obtain ⟨Ao46, co46, eo46⟩ := Kd.S_slice HO319.out; subst eo46) | ((with_reducible refine gate_callee (f := 44) rfl ?_); refine goesL_ (some 58) rfl rfl Try.func44 (by kernel_rfl) rfl #[.agg #[.slice Ao43 t314.length co43, .slice Ao46 t317.length co46]] rfl (by (try simp only [List.map_toArray, List.map_cons, List.map_nil]); first | done | rfl | (simp only [List.length_drop, List.length_take]; rfl)) ?_; (with_reducible refine (loop_forward.calls k1 _ _ t314 _ _ t317 t322 _ ?side1 ?side2 ?side3 ?side4 A39.out).mono ?_); (case side1 => refine (Kd.S_reads' (e := 31) (base := w.heap.size) (ok := fun k_ => (some k_ ≠ (.slice Ao46 t317.length co46 : Value).ownBlock ∧ some k_ ≠ (.slice Ao40 x4_1.length co40 : Value).ownBlock)) (n := t314.length) (c := co43) ?_).2.2; exact (by (with_reducible repeat (first | apply Kd.S_alloc | apply Kd.S_drewN | apply Kd.S_drew)); exact (Kd.S_mono (Kd.S_far (p := ⟨gb321, 1, none⟩) (Kd.S_far (p := ⟨gb321, 0, none⟩) (Kd.S_types HO316.out BK321.out (by decide)) (fun _ hk => hk.2) (.slice Ao43 t314.length co43)) (fun _ hk => hk.2) (.slice Ao46 t317.length co46)) (fun _ h_ => h_.1)))); (case side2 => exact (Kd.S_reads' HO316.out).2.1); (case side3 => refine (Kd.S_reads' (e := 31) (base := w.heap.size) (ok := fun k_ => (some k_ ≠ (.slice Ao43 t314.length co43 : Value).ownBlock ∧ some k_ ≠ (.slice Ao40 x4_1.length co40 : Value).ownBlock)) (n := t317.length) (c := co46) ?_).2.2; exact (by (with_reducible repeat (first | apply Kd.S_alloc | apply Kd.S_drewN | apply Kd.S_drew)); exact (Kd.S_mono (Kd.S_far (p := ⟨gb321, 1, none⟩) (Kd.S_far (p := ⟨gb321, 0, none⟩) (Kd.S_types HO319.out BK321.out (by decide)) (fun _ hk => hk.2) (.slice Ao43 t314.length co43)) (fun _ hk => hk.2) (.slice Ao46 t317.length co46)) (fun _ h_ => h_.1)))); (case side4 => exact (Kd.S_reads' HO319.out).2.1); rintro e w47 ⟨rfl, hb⟩; refine ⟨_, rfl, ?_⟩; have n0_ := Aside0.mk (Kd.R_below (by (with_reducible repeat (first | apply Kd.R_alloc | apply Kd.R_drewN | apply Kd.R_drew)); exact (Kd.R_mono (Kd.R_far (p := ⟨gb321, 1, none⟩) (Kd.R_far (p := ⟨gb321, 0, none⟩) (Kd.R_types HO_3.out BK321.out (by decide)) (fun _ hk => hk.2) (.slice Ao43 t314.length co43)) (fun _ hk => hk.2) (.slice Ao46 t317.length co46)) (fun _ h_ => h_.1))) hb); have n1_ := Aside0.mk (Kd.S_below (by (with_reducible repeat (first | apply Kd.S_alloc | apply Kd.S_drewN | apply Kd.S_drew)); exact (Kd.S_mono (Kd.S_far (p := ⟨gb321, 1, none⟩) (Kd.S_far (p := ⟨gb321, 0, none⟩) (Kd.S_types HO_4.out BK321.out (by decide)) (fun _ hk => hk.2) (.slice Ao43 t314.length co43)) (fun _ hk => hk.2) (.slice Ao46 t317.length co46)) (fun _ h_ => h_.1))) hb); have n2_ := Aside0.mk (Kd.S_below (by (with_reducible repeat (first | apply Kd.S_alloc | apply Kd.S_drewN | apply Kd.S_drew)); exact (Kd.S_mono (Kd.S_far (p := ⟨gb321, 1, none⟩) (Kd.S_far (p := ⟨gb321, 0, none⟩) (Kd.S_types HO316.out BK321.out (by decide)) (fun _ hk => hk.2) (.slice Ao43 t314.length co43)) (fun _ hk => hk.2) (.slice Ao46 t317.length co46)) (fun _ h_ => h_.1))) hb); have n3_ := Aside0.mk (Kd.S_below (by (with_reducible repeat (first | apply Kd.S_alloc | apply Kd.S_drewN | apply Kd.S_drew)); exact (Kd.S_mono (Kd.S_far (p := ⟨gb321, 1, none⟩) (Kd.S_far (p := ⟨gb321, 0, none⟩) (Kd.S_types HO319.out BK321.out (by decide)) (fun _ hk => hk.2) (.slice Ao43 t314.length co43)) (fun _ hk => hk.2) (.slice Ao46 t317.length co46)) (fun _ h_ => h_.1))) hb); have n4_ := Aside0.mk (blk_below (g := gb306) (o := .cells #[.slice A0_0 l0_0.length c0_0, .slice A0_1 l0_1.length c0_1] 26 (0, 0)) (by (with_reducible repeat (first | refine blk_drewN ?_ _ | refine blk_drew ?_ | refine blk_alloc ?_ _)); refine blk_far ?_ NB306_321.out _; (with_reducible repeat (first | refine blk_drewN ?_ _ | refine blk_drew ?_ | refine blk_alloc ?_ _)); refine blk_far ?_ NB306_321.out _; exact KX_ BK306.out) hb); have n5_ := Aside0.mk (blk_below (g := gb321) (o := .cells #[.slice Ao43 t314.length co43, .slice Ao46 t317.length co46] 26 (0, 0)) (by (with_reducible repeat (first | refine blk_drewN ?_ _ | refine blk_drew ?_ | refine blk_alloc ?_ _)); refine blk_put (cs := #[.slice Ao43 t314.length co43, .slice none 0 0]) ?_ 1 _ rfl; (with_reducible repeat (first | refine blk_drewN ?_ _ | refine blk_drew ?_ | refine blk_alloc ?_ _)); refine blk_put (cs := #[.slice none 0 0, .slice none 0 0]) ?_ 0 _ rfl; exact KX_ BK321.out) hb); have n6_ := Aside0.mk (below_step (B1_) hb); clear HO_3; clear HO_4; clear HO316; clear HO319; clear BK306; clear BK321; clear HB; have HO_3 := n0_; have HO_4 := n1_; have HO316 := n2_; have HO319 := n3_; have BK306 := n4_; have BK321 := n5_; have HB := n6_; clear n0_ n1_ n2_ n3_ n4_ n5_ n6_; (try clear hb); (try clear hb2); (try clear hk); (try clear hi)))
      go_ret
      exact ⟨by first | rfl | (simp [errW_none, errW_some] <;> rfl) | (simp [*, errW_none, errW_some] <;> rfl), B1_⟩
   rw [if_neg c6] at H
   exact absurd H (by simp)
  rw [if_neg c5] at H
  exact absurd H (by simp)
 replace c3 := Bool.eq_false_iff.mpr c3
 subst c3
 have H1 : (some false) = some r := by rw [if_neg (show ¬ (false = true) by decide)] at H; exact H
 clear H
 have H := H1
 clear H1
 obtain rfl := Option.some.inj H
 go_enter Try.func19, Try.ntmps19
 go_wp2_with (first | ((with_reducible refine gate_dst (N := 1) rfl ?_); refine box_event ?hg (N := 1) ?hd (cs := #[.slice A0_0 l0_0.length c0_0, .slice A0_1 l0_1.length c0_1]) (t := 26) ?hr ?_; (case hd => rfl); (case hg => rfl); (case hr => first | (go_simp; done) | (go_simp; rfl)); intro gb306 hg w48 hbox hb; have n0_ := Aside0.mk (below_step (B_) hb); have n1_ := Aside0.mk (hbox); have n2_ := Aside0.mk ((by rw [hg]; exact (below_size (B_)) : w.heap.size ≤ gb306)); have n3_ := Aside0.mk ((by rw [hg]; exact (below_size (B_)) : w.heap.size ≤ gb306)); clear HB; have HB := n0_; have BK306 := n1_; have GW306 := n2_; have GE306 := n3_; clear n0_ n1_ n2_ n3_; clear hb hbox hg; have hcz49_0 : w48.cell? ⟨gb306, 0, none⟩ = some (.slice A0_0 l0_0.length c0_0) := (blk_cell BK306.out 0).trans rfl; have hcz49_1 : w48.cell? ⟨gb306, 1, none⟩ = some (.slice A0_1 l0_1.length c0_1) := (blk_cell BK306.out 1).trans rfl; have hfz49_0 := blk_frozen BK306.out 0; have hfz49_1 := blk_frozen BK306.out 1) | ((with_reducible refine gate_callee (f := 42) rfl ?_); refine goesL_ (some 12) rfl rfl Try.func42 (by kernel_rfl) rfl #[.agg #[.slice A0_0 l0_0.length c0_0, .slice A0_1 l0_1.length c0_1]] rfl (by (try simp only [List.map_toArray, List.map_cons, List.map_nil]); first | done | rfl | (simp only [List.length_drop, List.length_take]; rfl)) ?_; (with_reducible refine (graph_May.calls k _ _ l0_0 _ _ l0_1 false _ ?side1 ?side2 ?side3 ?side4 A2.out).mono ?_); (case side1 => exact CX_ (Kd.C_below HR0_0.out HB.out)); (case side2 => exact HC0_0.out); (case side3 => exact CX_ (Kd.C_below HR0_1.out HB.out)); (case side4 => exact HC0_1.out); rintro e w50 ⟨rfl, hb⟩; refine ⟨_, rfl, ?_⟩; have n0_ := Aside0.mk (blk_below (g := gb306) (o := .cells #[.slice A0_0 l0_0.length c0_0, .slice A0_1 l0_1.length c0_1] 26 (0, 0)) (by exact KX_ BK306.out) hb); have n1_ := Aside0.mk (below_step (B1_) hb); clear BK306; clear HB; have BK306 := n0_; have HB := n1_; clear n0_ n1_; (try clear hb); (try clear hb2); (try clear hk); (try clear hi)))
 go_ret
 exact ⟨by first | rfl | (simp [errW_none, errW_some] <;> rfl) | (simp [*, errW_none, errW_some] <;> rfl), B1_⟩


/-! ### loop_Forward: function 21 -/
def loop_Forward.f (k : Nat) (l0_0 : List (List Int)) (l0_1 : List (List Int)) : Option (Bool) := (loop_forward.f k l0_0 l0_1).bind fun t332 => (some t332)
theorem loop_Forward.mono : ∀ a0 a1 k, LeO (loop_Forward.f k a0 a1) (loop_Forward.f (k + 1) a0 a1) := by
 intro a0 a1 k
 unfold loop_Forward.f
 repeat' first
  | (with_reducible exact loop_forward.mono _ _ _)
  | (with_reducible exact LeO.refl _)
  | (with_reducible exact LeO.none _)
  | (with_reducible refine LeO.ite ?_ ?_)
  | (with_reducible refine LeO.bind ?_ (fun _ => ?_))
  | exact loop_forward.mono _ _ _
  | exact LeO.none _
  | refine LeO.ite ?_ ?_
  | refine LeO.bind ?_ (fun _ => ?_)
set_option maxHeartbeats 8000000 in
set_option maxRecDepth 100000 in
theorem loop_Forward.calls (k : Nat) (A0_0 : Option Addr) (c0_0 : Nat) (l0_0 : List (List Int)) (A0_1 : Option Addr) (c0_1 : Nat) (l0_1 : List (List Int)) (r : Bool) (w : World) (hr0_0 : Kd.C (Kd.slice 3 (Kd.int .i64)) w A0_0 l0_0.length l0_0) (hc0_0 : l0_0.length ≤ c0_0) (hr0_1 : Kd.C (Kd.slice 3 (Kd.int .i64)) w A0_1 l0_1.length l0_1) (hc0_1 : l0_1.length ≤ c0_1) (h : loop_Forward.f k l0_0 l0_1 = some r) :
 Calls Try.prog 21 #[.agg #[.slice A0_0 l0_0.length c0_0, .slice A0_1 l0_1.length c0_1]] w fun e w' => e = .returned (.bool r) ∧ Below w.heap.size w w' := by
 have hu26 := Try.underlying26
 have HR0_0 := Aside0.mk hr0_0
 have HC0_0 := Aside0.mk hc0_0
 clear hr0_0 hc0_0
 have HR0_1 := Aside0.mk hr0_1
 have HC0_1 := Aside0.mk hc0_1
 clear hr0_1 hc0_1
 have HB := Aside0.mk (Below.refl w.heap.size w)
 have H : ((loop_forward.f k l0_0 l0_1).bind fun t332 => (some t332)) = some r := h
 clear h
 replace H := Option.bind_eq_some_iff.mp H
 obtain ⟨t332, A20, H⟩ := H
 replace H : (some t332) = some r := H
 have A2 := Aside0.mk A20
 clear A20
 obtain rfl := Option.some.inj H
 go_enter Try.func21, Try.ntmps21
 go_wp2_with (first | ((with_reducible refine gate_dst (N := 1) rfl ?_); refine box_event ?hg (N := 1) ?hd (cs := #[.slice A0_0 l0_0.length c0_0, .slice A0_1 l0_1.length c0_1]) (t := 26) ?hr ?_; (case hd => rfl); (case hg => rfl); (case hr => first | (go_simp; done) | (go_simp; rfl)); intro gb331 hg w3 hbox hb; have n0_ := Aside0.mk (below_step (B_) hb); have n1_ := Aside0.mk (hbox); have n2_ := Aside0.mk ((by rw [hg]; exact (below_size (B_)) : w.heap.size ≤ gb331)); have n3_ := Aside0.mk ((by rw [hg]; exact (below_size (B_)) : w.heap.size ≤ gb331)); clear HB; have HB := n0_; have BK331 := n1_; have GW331 := n2_; have GE331 := n3_; clear n0_ n1_ n2_ n3_; clear hb hbox hg; have hcz4_0 : w3.cell? ⟨gb331, 0, none⟩ = some (.slice A0_0 l0_0.length c0_0) := (blk_cell BK331.out 0).trans rfl; have hcz4_1 : w3.cell? ⟨gb331, 1, none⟩ = some (.slice A0_1 l0_1.length c0_1) := (blk_cell BK331.out 1).trans rfl; have hfz4_0 := blk_frozen BK331.out 0; have hfz4_1 := blk_frozen BK331.out 1) | ((with_reducible refine gate_callee (f := 44) rfl ?_); refine goesL_ (some 4) rfl rfl Try.func44 (by kernel_rfl) rfl #[.agg #[.slice A0_0 l0_0.length c0_0, .slice A0_1 l0_1.length c0_1]] rfl (by (try simp only [List.map_toArray, List.map_cons, List.map_nil]); first | done | rfl | (simp only [List.length_drop, List.length_take]; rfl)) ?_; (with_reducible refine (loop_forward.calls k _ _ l0_0 _ _ l0_1 t332 _ ?side1 ?side2 ?side3 ?side4 A2.out).mono ?_); (case side1 => exact CX_ (Kd.C_below HR0_0.out HB.out)); (case side2 => exact HC0_0.out); (case side3 => exact CX_ (Kd.C_below HR0_1.out HB.out)); (case side4 => exact HC0_1.out); rintro e w5 ⟨rfl, hb⟩; refine ⟨_, rfl, ?_⟩; have n0_ := Aside0.mk (blk_below (g := gb331) (o := .cells #[.slice A0_0 l0_0.length c0_0, .slice A0_1 l0_1.length c0_1] 26 (0, 0)) (by exact KX_ BK331.out) hb); have n1_ := Aside0.mk (below_step (B1_) hb); clear BK331; clear HB; have BK331 := n0_; have HB := n1_; clear n0_ n1_; (try clear hb); (try clear hb2); (try clear hk); (try clear hi)))
 go_ret
 exact ⟨by first | rfl | (simp [errW_none, errW_some] <;> rfl) | (simp [*, errW_none, errW_some] <;> rfl), B1_⟩

/-! ### slices_Contains_int_int: function 45 -/
def slices_Contains_int_int.f (k : Nat) (l0 : List Int) (a1 : Int) : Option (Bool) := (slices_Index_int_int.f k l0 a1).bind fun t333 => (some (decide (t333 ≥ 0)))
theorem slices_Contains_int_int.mono : ∀ a0 a1 k, LeO (slices_Contains_int_int.f k a0 a1) (slices_Contains_int_int.f (k + 1) a0 a1) := by
 intro a0 a1 k
 unfold slices_Contains_int_int.f
 repeat' first
  | (with_reducible exact slices_Index_int_int.mono _ _ _)
  | (with_reducible exact LeO.refl _)
  | (with_reducible exact LeO.none _)
  | (with_reducible refine LeO.ite ?_ ?_)
  | (with_reducible refine LeO.bind ?_ (fun _ => ?_))
  | exact slices_Index_int_int.mono _ _ _
  | exact LeO.none _
  | refine LeO.ite ?_ ?_
  | refine LeO.bind ?_ (fun _ => ?_)
set_option maxHeartbeats 8000000 in
set_option maxRecDepth 100000 in
theorem slices_Contains_int_int.calls (k : Nat) (A0 : Option Addr) (c0 : Nat) (l0 : List Int) (a1 : Int) (r : Bool) (w : World) (hr0 : Kd.C (Kd.int .i64) w A0 l0.length l0) (hc0 : l0.length ≤ c0) (h : slices_Contains_int_int.f k l0 a1 = some r) :
 Calls Try.prog 45 #[.slice A0 l0.length c0, .int .i64 a1] w fun e w' => e = .returned (.bool r) ∧ Drawn0 w w' := by
 have HR0 := Aside0.mk hr0
 have HC0 := Aside0.mk hc0
 clear hr0 hc0
 have H : ((slices_Index_int_int.f k l0 a1).bind fun t333 => (some (decide (t333 ≥ 0)))) = some r := h
 clear h
 replace H := Option.bind_eq_some_iff.mp H
 obtain ⟨t333, A30, H⟩ := H
 replace H : (some (decide (t333 ≥ 0))) = some r := H
 have A3 := Aside0.mk A30
 clear A30
 obtain rfl := Option.some.inj H
 go_enter Try.func45, Try.ntmps45
 go_wp2_with (first | ((with_reducible refine gate_callee (f := 59) rfl ?_); refine goesL_ (some 7) rfl rfl Try.func59 (by kernel_rfl) rfl #[.slice A0 l0.length c0, .int .i64 a1] rfl (by (try simp only [List.map_toArray, List.map_cons, List.map_nil]); first | done | rfl | (simp only [List.length_drop, List.length_take]; rfl)) ?_; (with_reducible refine (slices_Index_int_int.calls k _ _ l0 a1 t333 _ ?side1 ?side2 A3.out).mono ?_); (case side1 => exact CX_ HR0.out); (case side2 => exact HC0.out); rintro e w' ⟨rfl, ⟨nd, rfl⟩⟩; refine ⟨_, rfl, ?_⟩))
 go_ret
 exact ⟨by first | rfl | (simp; done) | (simp [*]; done), by repeat (first | exact Drawn0.refl _ | apply Drawn0.step)⟩


/-! ### loop_Depth: function 23 -/
def loop_Depth.l0 : Nat → Int → Int → List (S43) → Int → Int → Option (Int)
 | 0, _, _, _, _, _ => none
 | k + 1, x1, x5, x9, x10, x11 => if x11 < x10 then (if 0 ≤ x11 then (if x11 < (x9.length : Int) then ((slices_Contains_int_int.f k ((rd_T43 x9 x11).f1) x1).bind fun t340 => (if t340 = true then (loop_Depth.l0 k x1 (wrap64 (x5 + 1)) x9 x10 (wrap64 (x11 + 1))) else (loop_Depth.l0 k x1 x5 x9 x10 (wrap64 (x11 + 1))))) else (none)) else (none)) else (some x5)
def loop_Depth.f (k : Nat) (l0_0 : List (List Int)) (l0_1 : List (List Int)) (a1 : Int) : Option (Int) := (loop_All.f k l0_0 l0_1).bind fun t335 => (loop_Depth.l0 k a1 0 t335 (t335.length : Int) 0)
theorem loop_Depth.mono_l : ∀ k, (∀ y0 y1 y2 y3 y4, LeO (loop_Depth.l0 k y0 y1 y2 y3 y4) (loop_Depth.l0 (k + 1) y0 y1 y2 y3 y4))
 | 0 => fun _ _ _ _ _ r h => by simp [loop_Depth.l0] at h
 | k + 1 => by
  have ih0 := loop_Depth.mono_l k
  ·intro y0 y1 y2 y3 y4
   unfold loop_Depth.l0
   repeat' first
   | (with_reducible exact ih0 _ _ _ _ _)
   | (with_reducible exact loop_All.mono _ _ _)
   | (with_reducible exact slices_Contains_int_int.mono _ _ _)
   | (with_reducible exact LeO.refl _)
   | (with_reducible exact LeO.none _)
   | (with_reducible refine LeO.ite ?_ ?_)
   | (with_reducible refine LeO.bind ?_ (fun _ => ?_))
   | exact ih0 _ _ _ _ _
   | exact loop_All.mono _ _ _
   | exact slices_Contains_int_int.mono _ _ _
   | exact LeO.none _
   | refine LeO.ite ?_ ?_
   | refine LeO.bind ?_ (fun _ => ?_)
theorem loop_Depth.mono : ∀ a0 a1 a2 k, LeO (loop_Depth.f k a0 a1 a2) (loop_Depth.f (k + 1) a0 a1 a2) := by
 intro a0 a1 a2 k
 have ih0 := loop_Depth.mono_l k
 unfold loop_Depth.f
 repeat' first
  | (with_reducible exact ih0 _ _ _ _ _)
  | (with_reducible exact loop_All.mono _ _ _)
  | (with_reducible exact slices_Contains_int_int.mono _ _ _)
  | (with_reducible exact LeO.refl _)
  | (with_reducible exact LeO.none _)
  | (with_reducible refine LeO.ite ?_ ?_)
  | (with_reducible refine LeO.bind ?_ (fun _ => ?_))
  | exact ih0 _ _ _ _ _
  | exact loop_All.mono _ _ _
  | exact slices_Contains_int_int.mono _ _ _
  | exact LeO.none _
  | refine LeO.ite ?_ ?_
  | refine LeO.bind ?_ (fun _ => ?_)
set_option maxHeartbeats 8000000 in
set_option maxRecDepth 100000 in
theorem loop_Depth.calls (k : Nat) (A0_0 : Option Addr) (c0_0 : Nat) (l0_0 : List (List Int)) (A0_1 : Option Addr) (c0_1 : Nat) (l0_1 : List (List Int)) (a1 : Int) (r : Int) (w : World) (hr0_0 : Kd.C (Kd.slice 3 (Kd.int .i64)) w A0_0 l0_0.length l0_0) (hc0_0 : l0_0.length ≤ c0_0) (hr0_1 : Kd.C (Kd.slice 3 (Kd.int .i64)) w A0_1 l0_1.length l0_1) (hc0_1 : l0_1.length ≤ c0_1) (h : loop_Depth.f k l0_0 l0_1 a1 = some r) :
 Calls Try.prog 23 #[.agg #[.slice A0_0 l0_0.length c0_0, .slice A0_1 l0_1.length c0_1], .int .i64 a1] w fun e w' => e = .returned (.int .i64 r) ∧ Below w.heap.size w w' := by
 have hu26 := Try.underlying26
 have hu43 := Try.underlying43
 have HR0_0 := Aside0.mk hr0_0
 have HC0_0 := Aside0.mk hc0_0
 clear hr0_0 hc0_0
 have HR0_1 := Aside0.mk hr0_1
 have HC0_1 := Aside0.mk hc0_1
 clear hr0_1 hc0_1
 have HB := Aside0.mk (Below.refl w.heap.size w)
 have H : ((loop_All.f k l0_0 l0_1).bind fun t335 => (loop_Depth.l0 k a1 0 t335 (t335.length : Int) 0)) = some r := h
 clear h
 replace H := Option.bind_eq_some_iff.mp H
 obtain ⟨t335, A30, H⟩ := H
 replace H : (loop_Depth.l0 k a1 0 t335 (t335.length : Int) 0) = some r := H
 have A3 := Aside0.mk A30
 clear A30
 have H' := Aside0.mk H
 clear H
 go_enter Try.func23, Try.ntmps23
 go_wp2_with (first | ((with_reducible refine gate_dst (N := 2) rfl ?_); refine box_event ?hg (N := 2) ?hd (cs := #[.slice A0_0 l0_0.length c0_0, .slice A0_1 l0_1.length c0_1]) (t := 26) ?hr ?_; (case hd => rfl); (case hg => rfl); (case hr => first | (go_simp; done) | (go_simp; rfl)); intro gb334 hg w4 hbox hb; have n0_ := Aside0.mk (below_step (B_) hb); have n1_ := Aside0.mk (hbox); have n2_ := Aside0.mk ((by rw [hg]; exact (below_size (B_)) : w.heap.size ≤ gb334)); have n3_ := Aside0.mk ((by rw [hg]; exact (below_size (B_)) : w.heap.size ≤ gb334)); clear HB; have HB := n0_; have BK334 := n1_; have GW334 := n2_; have GE334 := n3_; clear n0_ n1_ n2_ n3_; clear hb hbox hg; have hcz5_0 : w4.cell? ⟨gb334, 0, none⟩ = some (.slice A0_0 l0_0.length c0_0) := (blk_cell BK334.out 0).trans rfl; have hcz5_1 : w4.cell? ⟨gb334, 1, none⟩ = some (.slice A0_1 l0_1.length c0_1) := (blk_cell BK334.out 1).trans rfl; have hfz5_0 := blk_frozen BK334.out 0; have hfz5_1 := blk_frozen BK334.out 1) | ((with_reducible refine gate_callee (f := 18) rfl ?_); refine goesL_ (some 9) rfl rfl Try.func18 (by kernel_rfl) rfl #[.agg #[.slice A0_0 l0_0.length c0_0, .slice A0_1 l0_1.length c0_1]] rfl (by (try simp only [List.map_toArray, List.map_cons, List.map_nil]); first | done | rfl | (simp only [List.length_drop, List.length_take]; rfl)) ?_; (with_reducible refine (loop_All.calls k _ _ l0_0 _ _ l0_1 t335 _ ?side1 ?side2 ?side3 ?side4 A3.out).mono ?_); (case side1 => exact CX_ (Kd.C_below HR0_0.out HB.out)); (case side2 => exact HC0_0.out); (case side3 => exact CX_ (Kd.C_below HR0_1.out HB.out)); (case side4 => exact HC0_1.out); rintro e w6 ⟨v336, rfl, ho0, hb⟩; refine ⟨_, rfl, ?_⟩; have n0_ := Aside0.mk (Kd.S_lower ho0 (below_size (B1_))); have n1_ := Aside0.mk (blk_below (g := gb334) (o := .cells #[.slice A0_0 l0_0.length c0_0, .slice A0_1 l0_1.length c0_1] 26 (0, 0)) (by exact KX_ BK334.out) hb); have n2_ := Aside0.mk (below_step (B1_) hb); clear BK334; clear HB; have HO337 := n0_; have BK334 := n1_; have HB := n2_; clear n0_ n1_ n2_; (try clear hb); (try clear hb2); (try clear hk); (try clear hi); (try clear ho0); obtain ⟨Ao7, co7, eo7⟩ := Kd.S_slice HO337.out; subst eo7))
 go_loopg [5, 11] k (fun kq v5 v11 w' => ∃ (x5_1 : Int) (x11_1 : Int), v5 = .int .i64 x5_1 ∧ v11 = .int .i64 x11_1 ∧ Aside0 (loop_Depth.l0 kq a1 x5_1 t335 (t335.length : Int) x11_1 = some r) ∧ Aside0 (kq ≤ k) ∧ Aside0 (Kd.S k43 43 w' w.heap.size (fun _ => True) (.slice Ao7 t335.length co7) t335) ∧ Aside0 (w'.heap[gb334]? = some (.cells #[(.slice A0_0 l0_0.length c0_0), (.slice A0_1 l0_1.length c0_1)] 26 (0, 0))) ∧ Aside0 (Below w.heap.size w w'))
 case atStart => exact ⟨(0), (0), (by first | rfl | (simp; done) | (simp [*]; done)), (by first | rfl | (simp; done) | (simp [*]; done)), H', ⟨Nat.le_refl _⟩, ⟨by exact SM_ HO337.out⟩, ⟨by exact KX_ BK334.out⟩, ⟨B1_⟩⟩
 case round =>
  clear H'
  try clear hcz5_0
  try clear hcz5_1
  try clear hfz5_0
  try clear hfz5_1
  obtain ⟨x5_1, x11_1, rfl, rfl, HA, HK1, HO_9, BK334, HB⟩ := hrel
  cases gk with
  | zero => exact absurd HA.out (by simp [loop_Depth.l0])
  | succ k1 =>
   have H := HA.out
   clear HA
   simp only [loop_Depth.l0] at H
   by_cases c8 : x11_1 < (t335.length : Int)
   ·rw [if_pos c8] at H
    have c8b0 : decide (x11_1 < (t335.length : Int)) = true := decide_eq_true c8
    clear c8
    by_cases c9 : 0 ≤ x11_1
    ·rw [if_pos c9] at H
     have c9b0 : decide (0 ≤ x11_1) = true := decide_eq_true c9
     clear c9
     by_cases c10 : x11_1 < (t335.length : Int)
     ·rw [if_pos c10] at H
      have c10b0 : decide (x11_1 < (t335.length : Int)) = true := decide_eq_true c10
      clear c10
      replace H := Option.bind_eq_some_iff.mp H
      obtain ⟨t340, A110, H⟩ := H
      replace H : (if t340 = true then (loop_Depth.l0 k1 a1 (wrap64 (x5_1 + 1)) t335 (t335.length : Int) (wrap64 (x11_1 + 1))) else (loop_Depth.l0 k1 a1 x5_1 t335 (t335.length : Int) (wrap64 (x11_1 + 1)))) = some r := H
      have A11 := Aside0.mk A110
      clear A110
      by_cases c12 : t340 = true
      ·subst c12
       have H1 : (loop_Depth.l0 k1 a1 (wrap64 (x5_1 + 1)) t335 (t335.length : Int) (wrap64 (x11_1 + 1))) = some r := by rw [if_pos rfl] at H; exact H
       clear H
       have H := H1
       clear H1
       have H' := Aside0.mk H
       clear H
       have p338 : 0 ≤ (x11_1 : Int) := D_
       have q338 : x11_1 < (t335.length : Int) := D_
       obtain ⟨ad338, A338_1, c338_1, e338, hx338_0, hx338_1, hl338_1, hi338_1⟩ := at_T43 (Kd.S_reads' HO_9.out).2.2 x11_1 p338 q338
       cases e338
       obtain ⟨ce338, hce338, hMe338, hcc338⟩ := Kd.S_get HO_9.out z43 x11_1 p338 (by first | exact q338 | exact D_ | (have e_ := (Kd.S_reads' HO_9.out).1; omega))
       obtain ⟨ve338_1, rfl, ge338_1⟩ := k43_openM hMe338
       have hv338_1 := hcc338 1 _ rfl
       rw [add_field _ _ 1 (by omega)] at hv338_1
       replace hv338_1 := Option.some.inj (hv338_1.symm.trans hx338_1)
       rw [hv338_1] at ge338_1
       have HL338_1 := Aside0.mk (show Kd.R (Kd.int .i64) 3 _ _ _ _ ((rd_T43 t335 x11_1).f1) from ge338_1)
       clear hv338_1 ge338_1
       clear hcc338 hce338
       have HR338_1 := Aside0.mk hi338_1
       have HC338_1 := Aside0.mk hl338_1
       clear hi338_1 hl338_1
       replace p338 := eq_true p338
       replace q338 := eq_true q338
       go_wp2_with (first | ((with_reducible refine gate_dst (N := 7) rfl ?_); refine box_event ?hg (N := 7) ?hd (cs := #[.int .i64 0, .slice none 0 0]) (t := 43) ?hr ?_; (case hd => rfl); (case hg => rfl); (case hr => first | (go_simp; done) | (go_simp; rfl)); intro gb339 hg w13 hbox hb; have n0_ := Aside0.mk (Kd.S_below (Kd.S_elderB (by exact SX_ HO_9.out) gb339 (Nat.le_of_eq hg.symm)) hb); have n1_ := Aside0.mk (Kd.R_below (by exact RX_ HL338_1.out) hb); have n2_ := Aside0.mk (blk_below (g := gb334) (o := .cells #[.slice A0_0 l0_0.length c0_0, .slice A0_1 l0_1.length c0_1] 26 (0, 0)) (by exact KX_ BK334.out) hb); have n3_ := Aside0.mk (Kd.C_below (by repeat (first | (with_reducible exact HR338_1.out) | (with_reducible refine Kd.C_alloc ?_ _) | (with_reducible refine Kd.C_drewN ?_ _) | (with_reducible refine Kd.C_drew ?_) | exact HR338_1.out)) hb); have n4_ := Aside0.mk (below_step (B1_) hb); have n5_ := Aside0.mk (hbox); have n6_ := Aside0.mk ((by rw [hg]; exact (below_size (B1_)) : w.heap.size ≤ gb339)); have n7_ := Aside0.mk ((by rw [hg]; exact (below_size (B1_)) : w.heap.size ≤ gb339)); have n8_ := Aside0.mk ((by rw [hg]; exact Nat.ne_of_lt (blk_lt (g := gb334) (o := .cells #[.slice A0_0 l0_0.length c0_0, .slice A0_1 l0_1.length c0_1] 26 (0, 0)) (by exact KX_ BK334.out)) : gb334 ≠ gb339)); have n9_ := Aside0.mk ((by rw [hg]; exact Nat.ne_of_gt (blk_lt (g := gb334) (o := .cells #[.slice A0_0 l0_0.length c0_0, .slice A0_1 l0_1.length c0_1] 26 (0, 0)) (by exact KX_ BK334.out)) : gb339 ≠ gb334)); clear HO_9; clear HL338_1; clear BK334; clear HR338_1; clear HB; have HO_9 := n0_; have HL338_1 := n1_; have BK334 := n2_; have HR338_1 := n3_; have HB := n4_; have BK339 := n5_; have GW339 := n6_; have GE339 := n7_; have NB334_339 := n8_; have NB339_334 := n9_; clear n0_ n1_ n2_ n3_ n4_ n5_ n6_ n7_ n8_ n9_; clear hb hbox hg; have hnb14 := NB339_334.out; have hnc14 := NB334_339.out; have hcz15_0 : w13.cell? ⟨gb339, 0, none⟩ = some (.int .i64 0) := (blk_cell BK339.out 0).trans rfl; have hcz15_1 : w13.cell? ⟨gb339, 1, none⟩ = some (.slice none 0 0) := (blk_cell BK339.out 1).trans rfl; have hfz15_0 := blk_frozen BK339.out 0; have hfz15_1 := blk_frozen BK339.out 1) | ((with_reducible refine gate_callee (f := 45) rfl ?_); refine goesL_ (some 18) rfl rfl Try.func45 (by kernel_rfl) rfl #[.slice A338_1 ((rd_T43 t335 x11_1).f1).length c338_1, .int .i64 a1] rfl (by (try simp only [List.map_toArray, List.map_cons, List.map_nil]); first | done | rfl | (simp only [List.length_drop, List.length_take]; rfl)) ?_; (with_reducible refine (slices_Contains_int_int.calls k1 _ _ ((rd_T43 t335 x11_1).f1) a1 true _ ?side1 ?side2 A11.out).mono ?_); (case side1 => repeat (first | exact ((Kd.R_reads' (by (with_reducible repeat (first | apply Kd.R_alloc | apply Kd.R_drewN | apply Kd.R_drew)); exact (Kd.R_mono (Kd.R_far (p := ⟨gb339, 1, none⟩) (Kd.R_far (p := ⟨gb339, 0, none⟩) (Kd.R_types HL338_1.out BK339.out (by decide)) (fun _ hk => hk.2) (.int .i64 ((rd_T43 t335 x11_1).f0))) (fun _ hk => hk.2) (.slice A338_1 ((rd_T43 t335 x11_1).f1).length c338_1)) (fun _ h_ => h_.1)))).2.2) | (with_reducible refine Kd.C_alloc ?_ _) | (with_reducible refine Kd.C_drewN ?_ _) | (with_reducible refine Kd.C_drew ?_))); (case side2 => exact HC338_1.out); rintro e w' ⟨rfl, ⟨nd, rfl⟩⟩; refine ⟨_, rfl, ?_⟩))
       go_roundg k1
       case measure => have := HK1.out; omega
       case rel => exact ⟨(wrap64 (x5_1 + 1)), (wrap64 (x11_1 + 1)), (by first | rfl | (simp; done) | (simp [*]; done)), (by first | rfl | (simp; done) | (simp [*]; done)), H', ⟨by have := HK1.out; omega⟩, ⟨by (with_reducible repeat (first | apply Kd.S_alloc | apply Kd.S_drewN | apply Kd.S_drew)); exact Kd.S_mono (Kd.S_far (p := ⟨gb339, 1, none⟩) (Kd.S_far (p := ⟨gb339, 0, none⟩) (Kd.S_mono HO_9.out (fun k_ hk => (⟨hk, hk.2⟩ : _ ∧ k_ ≠ gb339))) (fun _ hk => hk.2) (.int .i64 ((rd_T43 t335 x11_1).f0))) (fun _ hk => hk.2) (.slice A338_1 ((rd_T43 t335 x11_1).f1).length c338_1)) (fun _ hk => trivial)⟩, ⟨by (with_reducible repeat (first | refine blk_drewN ?_ _ | refine blk_drew ?_ | refine blk_alloc ?_ _)); refine blk_far ?_ NB334_339.out _; (with_reducible repeat (first | refine blk_drewN ?_ _ | refine blk_drew ?_ | refine blk_alloc ?_ _)); refine blk_far ?_ NB334_339.out _; exact KX_ BK334.out⟩, ⟨B1_⟩⟩
      replace c12 := Bool.eq_false_iff.mpr c12
      subst c12
      have H1 : (loop_Depth.l0 k1 a1 x5_1 t335 (t335.length : Int) (wrap64 (x11_1 + 1))) = some r := by rw [if_neg (show ¬ (false = true) by decide)] at H; exact H
      clear H
      have H := H1
      clear H1
      have H' := Aside0.mk H
      clear H
      have p338 : 0 ≤ (x11_1 : Int) := D_
      have q338 : x11_1 < (t335.length : Int) := D_
      obtain ⟨ad338, A338_1, c338_1, e338, hx338_0, hx338_1, hl338_1, hi338_1⟩ := at_T43 (Kd.S_reads' HO_9.out).2.2 x11_1 p338 q338
      cases e338
      obtain ⟨ce338, hce338, hMe338, hcc338⟩ := Kd.S_get HO_9.out z43 x11_1 p338 (by first | exact q338 | exact D_ | (have e_ := (Kd.S_reads' HO_9.out).1; omega))
      obtain ⟨ve338_1, rfl, ge338_1⟩ := k43_openM hMe338
      have hv338_1 := hcc338 1 _ rfl
      rw [add_field _ _ 1 (by omega)] at hv338_1
      replace hv338_1 := Option.some.inj (hv338_1.symm.trans hx338_1)
      rw [hv338_1] at ge338_1
      have HL338_1 := Aside0.mk (show Kd.R (Kd.int .i64) 3 _ _ _ _ ((rd_T43 t335 x11_1).f1) from ge338_1)
      clear hv338_1 ge338_1
      clear hcc338 hce338
      have HR338_1 := Aside0.mk hi338_1
      have HC338_1 := Aside0.mk hl338_1
      clear hi338_1 hl338_1
      replace p338 := eq_true p338
      replace q338 := eq_true q338
      go_wp2_with (first | ((with_reducible refine gate_dst (N := 7) rfl ?_); refine box_event ?hg (N := 7) ?hd (cs := #[.int .i64 0, .slice none 0 0]) (t := 43) ?hr ?_; (case hd => rfl); (case hg => rfl); (case hr => first | (go_simp; done) | (go_simp; rfl)); intro gb339 hg w16 hbox hb; have n0_ := Aside0.mk (Kd.S_below (Kd.S_elderB (by exact SX_ HO_9.out) gb339 (Nat.le_of_eq hg.symm)) hb); have n1_ := Aside0.mk (Kd.R_below (by exact RX_ HL338_1.out) hb); have n2_ := Aside0.mk (blk_below (g := gb334) (o := .cells #[.slice A0_0 l0_0.length c0_0, .slice A0_1 l0_1.length c0_1] 26 (0, 0)) (by exact KX_ BK334.out) hb); have n3_ := Aside0.mk (Kd.C_below (by repeat (first | (with_reducible exact HR338_1.out) | (with_reducible refine Kd.C_alloc ?_ _) | (with_reducible refine Kd.C_drewN ?_ _) | (with_reducible refine Kd.C_drew ?_) | exact HR338_1.out)) hb); have n4_ := Aside0.mk (below_step (B1_) hb); have n5_ := Aside0.mk (hbox); have n6_ := Aside0.mk ((by rw [hg]; exact (below_size (B1_)) : w.heap.size ≤ gb339)); have n7_ := Aside0.mk ((by rw [hg]; exact (below_size (B1_)) : w.heap.size ≤ gb339)); have n8_ := Aside0.mk ((by rw [hg]; exact Nat.ne_of_lt (blk_lt (g := gb334) (o := .cells #[.slice A0_0 l0_0.length c0_0, .slice A0_1 l0_1.length c0_1] 26 (0, 0)) (by exact KX_ BK334.out)) : gb334 ≠ gb339)); have n9_ := Aside0.mk ((by rw [hg]; exact Nat.ne_of_gt (blk_lt (g := gb334) (o := .cells #[.slice A0_0 l0_0.length c0_0, .slice A0_1 l0_1.length c0_1] 26 (0, 0)) (by exact KX_ BK334.out)) : gb339 ≠ gb334)); clear HO_9; clear HL338_1; clear BK334; clear HR338_1; clear HB; have HO_9 := n0_; have HL338_1 := n1_; have BK334 := n2_; have HR338_1 := n3_; have HB := n4_; have BK339 := n5_; have GW339 := n6_; have GE339 := n7_; have NB334_339 := n8_; have NB339_334 := n9_; clear n0_ n1_ n2_ n3_ n4_ n5_ n6_ n7_ n8_ n9_; clear hb hbox hg; have hnb17 := NB339_334.out; have hnc17 := NB334_339.out; have hcz18_0 : w16.cell? ⟨gb339, 0, none⟩ = some (.int .i64 0) := (blk_cell BK339.out 0).trans rfl; have hcz18_1 : w16.cell? ⟨gb339, 1, none⟩ = some (.slice none 0 0) := (blk_cell BK339.out 1).trans rfl; have hfz18_0 := blk_frozen BK339.out 0; have hfz18_1 := blk_frozen BK339.out 1) | ((with_reducible refine gate_callee (f := 45) rfl ?_); refine goesL_ (some 18) rfl rfl Try.func45 (by kernel_rfl) rfl #[.slice A338_1 ((rd_T43 t335 x11_1).f1).length c338_1, .int .i64 a1] rfl (by (try simp only [List.map_toArray, List.map_cons, List.map_nil]); first | done | rfl | (simp only [List.length_drop, List.length_take]; rfl)) ?_; (with_reducible refine (slices_Contains_int_int.calls k1 _ _ ((rd_T43 t335 x11_1).f1) a1 false _ ?side1 ?side2 A11.out).mono ?_); (case side1 => repeat (first | exact ((Kd.R_reads' (by (with_reducible repeat (first | apply Kd.R_alloc | apply Kd.R_drewN | apply Kd.R_drew)); exact (Kd.R_mono (Kd.R_far (p := ⟨gb339, 1, none⟩) (Kd.R_far (p := ⟨gb339, 0, none⟩) (Kd.R_types HL338_1.out BK339.out (by decide)) (fun _ hk => hk.2) (.int .i64 ((rd_T43 t335 x11_1).f0))) (fun _ hk => hk.2) (.slice A338_1 ((rd_T43 t335 x11_1).f1).length c338_1)) (fun _ h_ => h_.1)))).2.2) | (with_reducible refine Kd.C_alloc ?_ _) | (with_reducible refine Kd.C_drewN ?_ _) | (with_reducible refine Kd.C_drew ?_))); (case side2 => exact HC338_1.out); rintro e w' ⟨rfl, ⟨nd, rfl⟩⟩; refine ⟨_, rfl, ?_⟩))
      go_roundg k1
      case measure => have := HK1.out; omega
      case rel => exact ⟨(x5_1), (wrap64 (x11_1 + 1)), (by first | rfl | (simp; done) | (simp [*]; done)), (by first | rfl | (simp; done) | (simp [*]; done)), H', ⟨by have := HK1.out; omega⟩, ⟨by (with_reducible repeat (first | apply Kd.S_alloc | apply Kd.S_drewN | apply Kd.S_drew)); exact Kd.S_mono (Kd.S_far (p := ⟨gb339, 1, none⟩) (Kd.S_far (p := ⟨gb339, 0, none⟩) (Kd.S_mono HO_9.out (fun k_ hk => (⟨hk, hk.2⟩ : _ ∧ k_ ≠ gb339))) (fun _ hk => hk.2) (.int .i64 ((rd_T43 t335 x11_1).f0))) (fun _ hk => hk.2) (.slice A338_1 ((rd_T43 t335 x11_1).f1).length c338_1)) (fun _ hk => trivial)⟩, ⟨by (with_reducible repeat (first | refine blk_drewN ?_ _ | refine blk_drew ?_ | refine blk_alloc ?_ _)); refine blk_far ?_ NB334_339.out _; (with_reducible repeat (first | refine blk_drewN ?_ _ | refine blk_drew ?_ | refine blk_alloc ?_ _)); refine blk_far ?_ NB334_339.out _; exact KX_ BK334.out⟩, ⟨B1_⟩⟩
     rw [if_neg c10] at H
     exact absurd H (by simp)
    rw [if_neg c9] at H
    exact absurd H (by simp)
   rw [if_neg c8] at H
   have c8b0 : decide (x11_1 < (t335.length : Int)) = false := decide_eq_false c8
   clear c8
   obtain rfl := Option.some.inj H
   go_wp2
   go_ret
   exact ⟨by first | rfl | (simp [errW_none, errW_some] <;> rfl) | (simp [*, errW_none, errW_some] <;> rfl), B1_⟩


/-! ### lockstepref02_Ints: function 25 -/
def lockstepref02_Ints.l0 : Nat → List Int → List Int → Int → Option (Bool)
 | 0, _, _, _ => none
 | k + 1, x0, x1, x5 => if x5 < (x0.length : Int) then (if 0 ≤ x5 then (if x5 < (x1.length : Int) then (if (rd x0 x5) = (rd x1 x5) then (lockstepref02_Ints.l0 k x0 x1 (wrap64 (x5 + 1))) else (some false)) else (none)) else (none)) else (some true)
def lockstepref02_Ints.f (k : Nat) (l0 : List Int) (l1 : List Int) : Option (Bool) := if (l0.length : Int) = (l1.length : Int) then (lockstepref02_Ints.l0 k l0 l1 0) else (some false)
theorem lockstepref02_Ints.mono_l : ∀ k, (∀ y0 y1 y2, LeO (lockstepref02_Ints.l0 k y0 y1 y2) (lockstepref02_Ints.l0 (k + 1) y0 y1 y2))
 | 0 => fun _ _ _ r h => by simp [lockstepref02_Ints.l0] at h
 | k + 1 => by
  have ih0 := lockstepref02_Ints.mono_l k
  ·intro y0 y1 y2
   unfold lockstepref02_Ints.l0
   repeat' first
   | (with_reducible exact ih0 _ _ _)
   | (with_reducible exact LeO.refl _)
   | (with_reducible exact LeO.none _)
   | (with_reducible refine LeO.ite ?_ ?_)
   | (with_reducible refine LeO.bind ?_ (fun _ => ?_))
   | exact ih0 _ _ _
   | exact LeO.none _
   | refine LeO.ite ?_ ?_
   | refine LeO.bind ?_ (fun _ => ?_)
theorem lockstepref02_Ints.mono : ∀ a0 a1 k, LeO (lockstepref02_Ints.f k a0 a1) (lockstepref02_Ints.f (k + 1) a0 a1) := by
 intro a0 a1 k
 have ih0 := lockstepref02_Ints.mono_l k
 unfold lockstepref02_Ints.f
 repeat' first
  | (with_reducible exact ih0 _ _ _)
  | (with_reducible exact LeO.refl _)
  | (with_reducible exact LeO.none _)
  | (with_reducible refine LeO.ite ?_ ?_)
  | (with_reducible refine LeO.bind ?_ (fun _ => ?_))
  | exact ih0 _ _ _
  | exact LeO.none _
  | refine LeO.ite ?_ ?_
  | refine LeO.bind ?_ (fun _ => ?_)
set_option maxHeartbeats 8000000 in
set_option maxRecDepth 100000 in
theorem lockstepref02_Ints.calls (k : Nat) (A0 : Option Addr) (c0 : Nat) (l0 : List Int) (A1 : Option Addr) (c1 : Nat) (l1 : List Int) (r : Bool) (w : World) (hr0 : Kd.C (Kd.int .i64) w A0 l0.length l0) (hc0 : l0.length ≤ c0) (hr1 : Kd.C (Kd.int .i64) w A1 l1.length l1) (hc1 : l1.length ≤ c1) (h : lockstepref02_Ints.f k l0 l1 = some r) :
 Calls Try.prog 25 #[.slice A0 l0.length c0, .slice A1 l1.length c1] w fun e w' => e = .returned (.bool r) ∧ Drawn0 w w' := by
 have HR0 := Aside0.mk hr0
 have HC0 := Aside0.mk hc0
 clear hr0 hc0
 have HR1 := Aside0.mk hr1
 have HC1 := Aside0.mk hc1
 clear hr1 hc1
 have H : (if (l0.length : Int) = (l1.length : Int) then (lockstepref02_Ints.l0 k l0 l1 0) else (some false)) = some r := h
 clear h
 by_cases c3 : (l0.length : Int) = (l1.length : Int)
 ·rw [if_pos c3] at H
  have c3b0 : ((l0.length : Int) == (l1.length : Int)) = true := beq_iff_eq.mpr c3
  have c3b1 : ((l0.length : Int) != (l1.length : Int)) = false := bne_eq_false_iff_eq.mpr c3
  have c3b2 : (l0.length == l1.length) = true := by first | simpa using c3 | (simp at c3 ⊢; omega)
  clear c3
  have H' := Aside0.mk H
  clear H
  go_enter Try.func25, Try.ntmps25
  go_wp2
  repeat (go_quiet (fail); try go_wp2)
  go_loopg [5] k (fun kq v5 w' => ∃ (x5_1 : Int), v5 = .int .i64 x5_1 ∧ Aside0 (lockstepref02_Ints.l0 kq l0 l1 x5_1 = some r) ∧ Aside0 (kq ≤ k) ∧ Drawn0 w w')
  case atStart => exact ⟨(0), (by first | rfl | (simp; done) | (simp [*]; done)), H', ⟨Nat.le_refl _⟩, by repeat (first | exact Drawn0.refl _ | apply Drawn0.step)⟩
  case round =>
   clear H'
   try clear c1
   try clear c3b0
   try clear c3b1
   try clear c3b2
   obtain ⟨x5_1, rfl, HA, HK1, ⟨m1, rfl⟩⟩ := hrel
   cases gk with
   | zero => exact absurd HA.out (by simp [lockstepref02_Ints.l0])
   | succ k1 =>
    have H := HA.out
    clear HA
    simp only [lockstepref02_Ints.l0] at H
    by_cases c4 : x5_1 < (l0.length : Int)
    ·rw [if_pos c4] at H
     have c4b0 : decide (x5_1 < (l0.length : Int)) = true := decide_eq_true c4
     clear c4
     by_cases c5 : 0 ≤ x5_1
     ·rw [if_pos c5] at H
      have c5b0 : decide (0 ≤ x5_1) = true := decide_eq_true c5
      clear c5
      by_cases c6 : x5_1 < (l1.length : Int)
      ·rw [if_pos c6] at H
       have c6b0 : decide (x5_1 < (l1.length : Int)) = true := decide_eq_true c6
       clear c6
       by_cases c7 : (rd l0 x5_1) = (rd l1 x5_1)
       ·rw [if_pos c7] at H
        have c7b0 : ((rd l0 x5_1) == (rd l1 x5_1)) = true := beq_iff_eq.mpr c7
        have c7b1 : ((rd l0 x5_1) != (rd l1 x5_1)) = false := bne_eq_false_iff_eq.mpr c7
        clear c7
        have H' := Aside0.mk H
        clear H
        have p341 : 0 ≤ (x5_1 : Int) := D_
        have q341 : x5_1 < (l0.length : Int) := D_
        obtain ⟨ad341, e341, hx341_0⟩ := Kd.at_int HR0.out x5_1 p341 q341
        cases e341
        replace p341 := eq_true p341
        replace q341 := eq_true q341
        have p342 : 0 ≤ (x5_1 : Int) := D_
        have q342 : x5_1 < (l1.length : Int) := D_
        obtain ⟨ad342, e342, hx342_0⟩ := Kd.at_int HR1.out x5_1 p342 q342
        cases e342
        replace p342 := eq_true p342
        replace q342 := eq_true q342
        go_wp2
        repeat (go_quiet (fail); try go_wp2)
        go_roundg k1
        case measure => have := HK1.out; omega
        case rel => exact ⟨(wrap64 (x5_1 + 1)), (by first | rfl | (simp; done) | (simp [*]; done)), H', ⟨by have := HK1.out; omega⟩, by repeat (first | exact Drawn0.refl _ | apply Drawn0.step)⟩
       rw [if_neg c7] at H
       have c7b0 : ((rd l0 x5_1) == (rd l1 x5_1)) = false := beq_eq_false_iff_ne.mpr c7
       have c7b1 : ((rd l0 x5_1) != (rd l1 x5_1)) = true := bne_iff_ne.mpr c7
       obtain rfl := Option.some.inj H
       have p341 : 0 ≤ (x5_1 : Int) := D_
       have q341 : x5_1 < (l0.length : Int) := D_
       obtain ⟨ad341, e341, hx341_0⟩ := Kd.at_int HR0.out x5_1 p341 q341
       cases e341
       replace p341 := eq_true p341
       replace q341 := eq_true q341
       have p342 : 0 ≤ (x5_1 : Int) := D_
       have q342 : x5_1 < (l1.length : Int) := D_
       obtain ⟨ad342, e342, hx342_0⟩ := Kd.at_int HR1.out x5_1 p342 q342
       cases e342
       replace p342 := eq_true p342
       replace q342 := eq_true q342
       go_wp2
       repeat (go_quiet (fail); try go_wp2)
       go_ret
       exact ⟨by first | rfl | (simp; done) | (simp [*]; done), by repeat (first | exact Drawn0.refl _ | apply Drawn0.step)⟩
      rw [if_neg c6] at H
      exact absurd H (by simp)
     rw [if_neg c5] at H
     exact absurd H (by simp)
    rw [if_neg c4] at H
    have c4b0 : decide (x5_1 < (l0.length : Int)) = false := decide_eq_false c4
    clear c4
    obtain rfl := Option.some.inj H
    go_wp2
    repeat (go_quiet (fail); try go_wp2)
    go_ret
    exact ⟨by first | rfl | (simp; done) | (simp [*]; done), by repeat (first | exact Drawn0.refl _ | apply Drawn0.step)⟩
 rw [if_neg c3] at H
 have c3b0 : ((l0.length : Int) == (l1.length : Int)) = false := beq_eq_false_iff_ne.mpr c3
 have c3b1 : ((l0.length : Int) != (l1.length : Int)) = true := bne_iff_ne.mpr c3
 have c3b2 : (l0.length == l1.length) = false := by first | simpa using c3 | (simp at c3 ⊢; omega)
 obtain rfl := Option.some.inj H
 go_enter Try.func25, Try.ntmps25
 go_wp2
 repeat (go_quiet (fail); try go_wp2)
 go_ret
 exact ⟨by first | rfl | (simp; done) | (simp [*]; done), by repeat (first | exact Drawn0.refl _ | apply Drawn0.step)⟩


attribute [local go_sem high] eqA48
/-! ### locksteplaw10_awake: function 16 -/
def locksteplaw10_awake.f (k : Nat)  : Option (Bool) := (graph_Make.f k (([(([1] : List Int)), (([2, 3] : List Int)), (([1] : List Int)), []] : List (List Int)))).bind fun bt355 => ((loop_All.f k bt355.1 bt355.2.1).bind fun t363 => ((loop_Backs.f k bt355.1 bt355.2.1).bind fun t366 => (if bt355.2.2 = 0 then (if (t363.length : Int) = 1 then (if 0 < (t363.length : Int) then (if ((rd_T43 t363 0).f0) = 1 then ((lockstepref02_Ints.f k ((rd_T43 t363 0).f1) (([1, 2] : List Int))).bind fun t374 => (if t374 = true then (if (t366.length : Int) = 1 then (if 0 < (t366.length : Int) then (if (((rd_T48 t366 0).f0) == 2 && (((rd_T48 t366 0).f1) == 1)) = true then ((loop_Depth.f k bt355.1 bt355.2.1 2).bind fun t376 => (if t376 = 1 then ((loop_Depth.f k bt355.1 bt355.2.1 3).bind fun t377 => (if t377 = 0 then ((loop_Reducible.f k bt355.1 bt355.2.1).bind fun t378 => (if t378 = true then ((loop_Forward.f k bt355.1 bt355.2.1).bind fun t379 => (some (!t379))) else (some false))) else (some false))) else (some false))) else (some false)) else (none)) else (some false)) else (some false))) else (some false)) else (none)) else (some false)) else (some false))))
theorem locksteplaw10_awake.mono : ∀ k, LeO (locksteplaw10_awake.f k ) (locksteplaw10_awake.f (k + 1) ) := by
 intro  k
 unfold locksteplaw10_awake.f
 repeat' first
  | (with_reducible exact graph_Make.mono _ _)
  | (with_reducible exact lockstepref02_Ints.mono _ _ _)
  | (with_reducible exact loop_All.mono _ _ _)
  | (with_reducible exact loop_Backs.mono _ _ _)
  | (with_reducible exact loop_Depth.mono _ _ _ _)
  | (with_reducible exact loop_Forward.mono _ _ _)
  | (with_reducible exact loop_Reducible.mono _ _ _)
  | (with_reducible exact LeO.refl _)
  | (with_reducible exact LeO.none _)
  | (with_reducible refine LeO.ite ?_ ?_)
  | (with_reducible refine LeO.bind ?_ (fun _ => ?_))
  | exact graph_Make.mono _ _
  | exact lockstepref02_Ints.mono _ _ _
  | exact loop_All.mono _ _ _
  | exact loop_Backs.mono _ _ _
  | exact loop_Depth.mono _ _ _ _
  | exact loop_Forward.mono _ _ _
  | exact loop_Reducible.mono _ _ _
  | exact LeO.none _
  | refine LeO.ite ?_ ?_
  | refine LeO.bind ?_ (fun _ => ?_)
set_option maxHeartbeats 8000000 in
set_option maxRecDepth 100000 in
theorem locksteplaw10_awake.calls (k : Nat)  (w : World) (h : locksteplaw10_awake.f k  = some true) :
 Calls Try.prog 16 #[] w fun e w' => e = .returned (.bool true) ∧ Below w.heap.size w w' := by
 have hu26 := Try.underlying26
 have hu48 := Try.underlying48
 have HB := Aside0.mk (Below.refl w.heap.size w)
 have H : ((graph_Make.f k (([(([1] : List Int)), (([2, 3] : List Int)), (([1] : List Int)), []] : List (List Int)))).bind fun bt355 => ((loop_All.f k bt355.1 bt355.2.1).bind fun t363 => ((loop_Backs.f k bt355.1 bt355.2.1).bind fun t366 => (if bt355.2.2 = 0 then (if (t363.length : Int) = 1 then (if 0 < (t363.length : Int) then (if ((rd_T43 t363 0).f0) = 1 then ((lockstepref02_Ints.f k ((rd_T43 t363 0).f1) (([1, 2] : List Int))).bind fun t374 => (if t374 = true then (if (t366.length : Int) = 1 then (if 0 < (t366.length : Int) then (if (((rd_T48 t366 0).f0) == 2 && (((rd_T48 t366 0).f1) == 1)) = true then ((loop_Depth.f k bt355.1 bt355.2.1 2).bind fun t376 => (if t376 = 1 then ((loop_Depth.f k bt355.1 bt355.2.1 3).bind fun t377 => (if t377 = 0 then ((loop_Reducible.f k bt355.1 bt355.2.1).bind fun t378 => (if t378 = true then ((loop_Forward.f k bt355.1 bt355.2.1).bind fun t379 => (some (!t379))) else (some false))) else (some false))) else (some false))) else (some false)) else (none)) else (some false)) else (some false))) else (some false)) else (none)) else (some false)) else (some false))))) = some true := h
 clear h
 obtain ⟨y343, hy343⟩ : ∃ y_ : List Int, y_ = (([1] : List Int)) := ⟨_, rfl⟩
 replace H : ((graph_Make.f k (([y343, (([2, 3] : List Int)), (([1] : List Int)), []] : List (List Int)))).bind fun bt355 => ((loop_All.f k bt355.1 bt355.2.1).bind fun t363 => ((loop_Backs.f k bt355.1 bt355.2.1).bind fun t366 => (if bt355.2.2 = 0 then (if (t363.length : Int) = 1 then (if 0 < (t363.length : Int) then (if ((rd_T43 t363 0).f0) = 1 then ((lockstepref02_Ints.f k ((rd_T43 t363 0).f1) (([1, 2] : List Int))).bind fun t374 => (if t374 = true then (if (t366.length : Int) = 1 then (if 0 < (t366.length : Int) then (if (((rd_T48 t366 0).f0) == 2 && (((rd_T48 t366 0).f1) == 1)) = true then ((loop_Depth.f k bt355.1 bt355.2.1 2).bind fun t376 => (if t376 = 1 then ((loop_Depth.f k bt355.1 bt355.2.1 3).bind fun t377 => (if t377 = 0 then ((loop_Reducible.f k bt355.1 bt355.2.1).bind fun t378 => (if t378 = true then ((loop_Forward.f k bt355.1 bt355.2.1).bind fun t379 => (some (!t379))) else (some false))) else (some false))) else (some false))) else (some false)) else (none)) else (some false)) else (some false))) else (some false)) else (none)) else (some false)) else (some false))))) = some true := by first | (rw [hy343]; with_reducible exact H) | (have H2_ := (Option.bind_some _ _).symm.trans H; rw [hy343]; with_reducible exact H2_) | (have H2_ := (Option.bind_some _ _).symm.trans H; with_reducible exact H2_) | with_reducible exact H | (rw [hy343]; exact H) | exact H
 have Ny343 := Aside0.mk hy343
 clear hy343
 obtain ⟨y346, hy346⟩ : ∃ y_ : List Int, y_ = (([2, 3] : List Int)) := ⟨_, rfl⟩
 replace H : ((graph_Make.f k (([y343, y346, (([1] : List Int)), []] : List (List Int)))).bind fun bt355 => ((loop_All.f k bt355.1 bt355.2.1).bind fun t363 => ((loop_Backs.f k bt355.1 bt355.2.1).bind fun t366 => (if bt355.2.2 = 0 then (if (t363.length : Int) = 1 then (if 0 < (t363.length : Int) then (if ((rd_T43 t363 0).f0) = 1 then ((lockstepref02_Ints.f k ((rd_T43 t363 0).f1) (([1, 2] : List Int))).bind fun t374 => (if t374 = true then (if (t366.length : Int) = 1 then (if 0 < (t366.length : Int) then (if (((rd_T48 t366 0).f0) == 2 && (((rd_T48 t366 0).f1) == 1)) = true then ((loop_Depth.f k bt355.1 bt355.2.1 2).bind fun t376 => (if t376 = 1 then ((loop_Depth.f k bt355.1 bt355.2.1 3).bind fun t377 => (if t377 = 0 then ((loop_Reducible.f k bt355.1 bt355.2.1).bind fun t378 => (if t378 = true then ((loop_Forward.f k bt355.1 bt355.2.1).bind fun t379 => (some (!t379))) else (some false))) else (some false))) else (some false))) else (some false)) else (none)) else (some false)) else (some false))) else (some false)) else (none)) else (some false)) else (some false))))) = some true := by first | (rw [hy346]; with_reducible exact H) | (have H2_ := (Option.bind_some _ _).symm.trans H; rw [hy346]; with_reducible exact H2_) | (have H2_ := (Option.bind_some _ _).symm.trans H; with_reducible exact H2_) | with_reducible exact H | (rw [hy346]; exact H) | exact H
 have Ny346 := Aside0.mk hy346
 clear hy346
 obtain ⟨y349, hy349⟩ : ∃ y_ : List Int, y_ = (([1] : List Int)) := ⟨_, rfl⟩
 replace H : ((graph_Make.f k (([y343, y346, y349, []] : List (List Int)))).bind fun bt355 => ((loop_All.f k bt355.1 bt355.2.1).bind fun t363 => ((loop_Backs.f k bt355.1 bt355.2.1).bind fun t366 => (if bt355.2.2 = 0 then (if (t363.length : Int) = 1 then (if 0 < (t363.length : Int) then (if ((rd_T43 t363 0).f0) = 1 then ((lockstepref02_Ints.f k ((rd_T43 t363 0).f1) (([1, 2] : List Int))).bind fun t374 => (if t374 = true then (if (t366.length : Int) = 1 then (if 0 < (t366.length : Int) then (if (((rd_T48 t366 0).f0) == 2 && (((rd_T48 t366 0).f1) == 1)) = true then ((loop_Depth.f k bt355.1 bt355.2.1 2).bind fun t376 => (if t376 = 1 then ((loop_Depth.f k bt355.1 bt355.2.1 3).bind fun t377 => (if t377 = 0 then ((loop_Reducible.f k bt355.1 bt355.2.1).bind fun t378 => (if t378 = true then ((loop_Forward.f k bt355.1 bt355.2.1).bind fun t379 => (some (!t379))) else (some false))) else (some false))) else (some false))) else (some false)) else (none)) else (some false)) else (some false))) else (some false)) else (none)) else (some false)) else (some false))))) = some true := by first | (rw [hy349]; with_reducible exact H) | (have H2_ := (Option.bind_some _ _).symm.trans H; rw [hy349]; with_reducible exact H2_) | (have H2_ := (Option.bind_some _ _).symm.trans H; with_reducible exact H2_) | with_reducible exact H | (rw [hy349]; exact H) | exact H
 have Ny349 := Aside0.mk hy349
 clear hy349
 obtain ⟨y352, hy352⟩ : ∃ y_ : List (List Int), y_ = (([y343, y346, y349, []] : List (List Int))) := ⟨_, rfl⟩
 replace H : ((graph_Make.f k y352).bind fun bt355 => ((loop_All.f k bt355.1 bt355.2.1).bind fun t363 => ((loop_Backs.f k bt355.1 bt355.2.1).bind fun t366 => (if bt355.2.2 = 0 then (if (t363.length : Int) = 1 then (if 0 < (t363.length : Int) then (if ((rd_T43 t363 0).f0) = 1 then ((lockstepref02_Ints.f k ((rd_T43 t363 0).f1) (([1, 2] : List Int))).bind fun t374 => (if t374 = true then (if (t366.length : Int) = 1 then (if 0 < (t366.length : Int) then (if (((rd_T48 t366 0).f0) == 2 && (((rd_T48 t366 0).f1) == 1)) = true then ((loop_Depth.f k bt355.1 bt355.2.1 2).bind fun t376 => (if t376 = 1 then ((loop_Depth.f k bt355.1 bt355.2.1 3).bind fun t377 => (if t377 = 0 then ((loop_Reducible.f k bt355.1 bt355.2.1).bind fun t378 => (if t378 = true then ((loop_Forward.f k bt355.1 bt355.2.1).bind fun t379 => (some (!t379))) else (some false))) else (some false))) else (some false))) else (some false)) else (none)) else (some false)) else (some false))) else (some false)) else (none)) else (some false)) else (some false))))) = some true := by first | (rw [hy352]; with_reducible exact H) | (have H2_ := (Option.bind_some _ _).symm.trans H; rw [hy352]; with_reducible exact H2_) | (have H2_ := (Option.bind_some _ _).symm.trans H; with_reducible exact H2_) | with_reducible exact H | (rw [hy352]; exact H) | exact H
 have Ny352 := Aside0.mk hy352
 clear hy352
 replace H := Option.bind_eq_some_iff.mp H
 obtain ⟨⟨t355, t358, t361⟩, A10, H⟩ := H
 replace H : ((loop_All.f k t355 t358).bind fun t363 => ((loop_Backs.f k t355 t358).bind fun t366 => (if t361 = 0 then (if (t363.length : Int) = 1 then (if 0 < (t363.length : Int) then (if ((rd_T43 t363 0).f0) = 1 then ((lockstepref02_Ints.f k ((rd_T43 t363 0).f1) (([1, 2] : List Int))).bind fun t374 => (if t374 = true then (if (t366.length : Int) = 1 then (if 0 < (t366.length : Int) then (if (((rd_T48 t366 0).f0) == 2 && (((rd_T48 t366 0).f1) == 1)) = true then ((loop_Depth.f k t355 t358 2).bind fun t376 => (if t376 = 1 then ((loop_Depth.f k t355 t358 3).bind fun t377 => (if t377 = 0 then ((loop_Reducible.f k t355 t358).bind fun t378 => (if t378 = true then ((loop_Forward.f k t355 t358).bind fun t379 => (some (!t379))) else (some false))) else (some false))) else (some false))) else (some false)) else (none)) else (some false)) else (some false))) else (some false)) else (none)) else (some false)) else (some false)))) = some true := H
 have A1 := Aside0.mk A10
 clear A10
 replace H := Option.bind_eq_some_iff.mp H
 obtain ⟨t363, A20, H⟩ := H
 replace H : ((loop_Backs.f k t355 t358).bind fun t366 => (if t361 = 0 then (if (t363.length : Int) = 1 then (if 0 < (t363.length : Int) then (if ((rd_T43 t363 0).f0) = 1 then ((lockstepref02_Ints.f k ((rd_T43 t363 0).f1) (([1, 2] : List Int))).bind fun t374 => (if t374 = true then (if (t366.length : Int) = 1 then (if 0 < (t366.length : Int) then (if (((rd_T48 t366 0).f0) == 2 && (((rd_T48 t366 0).f1) == 1)) = true then ((loop_Depth.f k t355 t358 2).bind fun t376 => (if t376 = 1 then ((loop_Depth.f k t355 t358 3).bind fun t377 => (if t377 = 0 then ((loop_Reducible.f k t355 t358).bind fun t378 => (if t378 = true then ((loop_Forward.f k t355 t358).bind fun t379 => (some (!t379))) else (some false))) else (some false))) else (some false))) else (some false)) else (none)) else (some false)) else (some false))) else (some false)) else (none)) else (some false)) else (some false))) = some true := H
 have A2 := Aside0.mk A20
 clear A20
 replace H := Option.bind_eq_some_iff.mp H
 obtain ⟨t366, A30, H⟩ := H
 replace H : (if t361 = 0 then (if (t363.length : Int) = 1 then (if 0 < (t363.length : Int) then (if ((rd_T43 t363 0).f0) = 1 then ((lockstepref02_Ints.f k ((rd_T43 t363 0).f1) (([1, 2] : List Int))).bind fun t374 => (if t374 = true then (if (t366.length : Int) = 1 then (if 0 < (t366.length : Int) then (if (((rd_T48 t366 0).f0) == 2 && (((rd_T48 t366 0).f1) == 1)) = true then ((loop_Depth.f k t355 t358 2).bind fun t376 => (if t376 = 1 then ((loop_Depth.f k t355 t358 3).bind fun t377 => (if t377 = 0 then ((loop_Reducible.f k t355 t358).bind fun t378 => (if t378 = true then ((loop_Forward.f k t355 t358).bind fun t379 => (some (!t379))) else (some false))) else (some false))) else (some false))) else (some false)) else (none)) else (some false)) else (some false))) else (some false)) else (none)) else (some false)) else (some false)) = some true := H
 have A3 := Aside0.mk A30
 clear A30
 by_cases c4 : t361 = 0
 ·rw [if_pos c4] at H
  have c4b0 : (t361 == 0) = true := beq_iff_eq.mpr c4
  have c4b1 : (t361 != 0) = false := bne_eq_false_iff_eq.mpr c4
  clear c4
  by_cases c5 : (t363.length : Int) = 1
  ·rw [if_pos c5] at H
   have c5b0 : ((t363.length : Int) == 1) = true := beq_iff_eq.mpr c5
   have c5b1 : ((t363.length : Int) != 1) = false := bne_eq_false_iff_eq.mpr c5
   clear c5
   by_cases c6 : 0 < (t363.length : Int)
   ·rw [if_pos c6] at H
    have c6b0 : decide (0 < (t363.length : Int)) = true := decide_eq_true c6
    have c6b1 : decide (0 < t363.length) = true := decide_eq_true (by omega)
    clear c6
    by_cases c7 : ((rd_T43 t363 0).f0) = 1
    ·rw [if_pos c7] at H
     have c7b0 : (((rd_T43 t363 0).f0) == 1) = true := beq_iff_eq.mpr c7
     have c7b1 : (((rd_T43 t363 0).f0) != 1) = false := bne_eq_false_iff_eq.mpr c7
     clear c7
     obtain ⟨y371, hy371⟩ : ∃ y_ : List Int, y_ = (([1, 2] : List Int)) := ⟨_, rfl⟩
     replace H : ((lockstepref02_Ints.f k ((rd_T43 t363 0).f1) y371).bind fun t374 => (if t374 = true then (if (t366.length : Int) = 1 then (if 0 < (t366.length : Int) then (if (((rd_T48 t366 0).f0) == 2 && (((rd_T48 t366 0).f1) == 1)) = true then ((loop_Depth.f k t355 t358 2).bind fun t376 => (if t376 = 1 then ((loop_Depth.f k t355 t358 3).bind fun t377 => (if t377 = 0 then ((loop_Reducible.f k t355 t358).bind fun t378 => (if t378 = true then ((loop_Forward.f k t355 t358).bind fun t379 => (some (!t379))) else (some false))) else (some false))) else (some false))) else (some false)) else (none)) else (some false)) else (some false))) = some true := by first | (rw [hy371]; with_reducible exact H) | (have H2_ := (Option.bind_some _ _).symm.trans H; rw [hy371]; with_reducible exact H2_) | (have H2_ := (Option.bind_some _ _).symm.trans H; with_reducible exact H2_) | with_reducible exact H | (rw [hy371]; exact H) | exact H
     have Ny371 := Aside0.mk hy371
     clear hy371
     replace H := Option.bind_eq_some_iff.mp H
     obtain ⟨t374, A80, H⟩ := H
     replace H : (if t374 = true then (if (t366.length : Int) = 1 then (if 0 < (t366.length : Int) then (if (((rd_T48 t366 0).f0) == 2 && (((rd_T48 t366 0).f1) == 1)) = true then ((loop_Depth.f k t355 t358 2).bind fun t376 => (if t376 = 1 then ((loop_Depth.f k t355 t358 3).bind fun t377 => (if t377 = 0 then ((loop_Reducible.f k t355 t358).bind fun t378 => (if t378 = true then ((loop_Forward.f k t355 t358).bind fun t379 => (some (!t379))) else (some false))) else (some false))) else (some false))) else (some false)) else (none)) else (some false)) else (some false)) = some true := H
     have A8 := Aside0.mk A80
     clear A80
     by_cases c9 : t374 = true
     ·subst c9
      have H1 : (if (t366.length : Int) = 1 then (if 0 < (t366.length : Int) then (if (((rd_T48 t366 0).f0) == 2 && (((rd_T48 t366 0).f1) == 1)) = true then ((loop_Depth.f k t355 t358 2).bind fun t376 => (if t376 = 1 then ((loop_Depth.f k t355 t358 3).bind fun t377 => (if t377 = 0 then ((loop_Reducible.f k t355 t358).bind fun t378 => (if t378 = true then ((loop_Forward.f k t355 t358).bind fun t379 => (some (!t379))) else (some false))) else (some false))) else (some false))) else (some false)) else (none)) else (some false)) = some true := by rw [if_pos rfl] at H; exact H
      clear H
      have H := H1
      clear H1
      by_cases c10 : (t366.length : Int) = 1
      ·rw [if_pos c10] at H
       have c10b0 : ((t366.length : Int) == 1) = true := beq_iff_eq.mpr c10
       have c10b1 : ((t366.length : Int) != 1) = false := bne_eq_false_iff_eq.mpr c10
       clear c10
       by_cases c11 : 0 < (t366.length : Int)
       ·rw [if_pos c11] at H
        have c11b0 : decide (0 < (t366.length : Int)) = true := decide_eq_true c11
        have c11b1 : decide (0 < t366.length) = true := decide_eq_true (by omega)
        clear c11
        by_cases c12 : (((rd_T48 t366 0).f0) == 2 && (((rd_T48 t366 0).f1) == 1)) = true
        ·rw [if_pos c12] at H
         have c12b0 : (((rd_T48 t366 0).f0) == 2 && (((rd_T48 t366 0).f1) == 1)) = true := c12
         (try (have c12b1 : decide (((rd_T48 t366 0).f0) = 2 && (((rd_T48 t366 0).f1) == 1)) = true := by simpa using c12))
         (try (have c12b2 : (((rd_T48 t366 0).f0) == 2 && (((rd_T48 t366 0).f1) == 1)) = true := by simpa using c12))
         clear c12
         replace H := Option.bind_eq_some_iff.mp H
         obtain ⟨t376, A130, H⟩ := H
         replace H : (if t376 = 1 then ((loop_Depth.f k t355 t358 3).bind fun t377 => (if t377 = 0 then ((loop_Reducible.f k t355 t358).bind fun t378 => (if t378 = true then ((loop_Forward.f k t355 t358).bind fun t379 => (some (!t379))) else (some false))) else (some false))) else (some false)) = some true := H
         have A13 := Aside0.mk A130
         clear A130
         by_cases c14 : t376 = 1
         ·rw [if_pos c14] at H
          have c14b0 : (t376 == 1) = true := beq_iff_eq.mpr c14
          have c14b1 : (t376 != 1) = false := bne_eq_false_iff_eq.mpr c14
          clear c14
          replace H := Option.bind_eq_some_iff.mp H
          obtain ⟨t377, A150, H⟩ := H
          replace H : (if t377 = 0 then ((loop_Reducible.f k t355 t358).bind fun t378 => (if t378 = true then ((loop_Forward.f k t355 t358).bind fun t379 => (some (!t379))) else (some false))) else (some false)) = some true := H
          have A15 := Aside0.mk A150
          clear A150
          by_cases c16 : t377 = 0
          ·rw [if_pos c16] at H
           have c16b0 : (t377 == 0) = true := beq_iff_eq.mpr c16
           have c16b1 : (t377 != 0) = false := bne_eq_false_iff_eq.mpr c16
           clear c16
           replace H := Option.bind_eq_some_iff.mp H
           obtain ⟨t378, A170, H⟩ := H
           replace H : (if t378 = true then ((loop_Forward.f k t355 t358).bind fun t379 => (some (!t379))) else (some false)) = some true := H
           have A17 := Aside0.mk A170
           clear A170
           by_cases c18 : t378 = true
           ·subst c18
            have H1 : ((loop_Forward.f k t355 t358).bind fun t379 => (some (!t379))) = some true := by rw [if_pos rfl] at H; exact H
            clear H
            have H := H1
            clear H1
            replace H := Option.bind_eq_some_iff.mp H
            obtain ⟨t379, A190, H⟩ := H
            replace H : (some (!t379)) = some true := H
            have A19 := Aside0.mk A190
            clear A190
            have HR_ := Aside0.mk (Option.some.inj H)
            clear H
            go_enter Try.func16, Try.ntmps16
            go_wp2_with (first | ((with_reducible refine gate_dst (N := 6) rfl ?_); (try (refine gate_guard (by rfl) ?_; dsimp only)); refine Kd.R_lit (Kd.int .i64) _ 3 ?hg (N := 6) ?hd (xs := ([1] : List Int)) (inner := [.int .i64 1]) (ok := fun _ => True) (okp := fun _ => True) ?hr ?hp (fun _ hk => hk) trivial (Below.refl _ _) (Nat.le_refl _) (by simp) ?_; (case hd => rfl); (case hg => rfl); (case hr => first | (go_simp; done) | (go_simp; rfl)); (case hp => exact (Reps.one (show Kd.M (Kd.int .i64) _ _ _ 1 [.int .i64 1] from rfl) (Reps.none _ _))); intro v344 w20 ho21 hb hg_ hnew_; clear hg_ hnew_; (first | rw [← Ny343.out] at ho21 | (simp only [Int.reduceToNat] at ho21; rw [← Ny343.out] at ho21)); have n0_ := Aside0.mk (Kd.R_lower ho21 (below_size (B_))); have n1_ := Aside0.mk (below_step (B_) hb); clear HB; have HO345 := n0_; have HB := n1_; clear n0_ n1_; clear hb ho21) | ((with_reducible refine gate_dst (N := 7) rfl ?_); (try (refine gate_guard (by rfl) ?_; dsimp only)); refine Kd.R_lit (Kd.int .i64) _ 3 ?hg (N := 7) ?hd (xs := ([2, 3] : List Int)) (inner := [.int .i64 2, .int .i64 3]) (ok := fun _ => True) (okp := fun _ => True) ?hr ?hp (fun _ hk => hk) trivial (Below.refl _ _) (Nat.le_refl _) (by simp) ?_; (case hd => rfl); (case hg => rfl); (case hr => first | (go_simp; done) | (go_simp; rfl)); (case hp => exact (Reps.one (show Kd.M (Kd.int .i64) _ _ _ 2 [.int .i64 2] from rfl) (Reps.one (show Kd.M (Kd.int .i64) _ _ _ 3 [.int .i64 3] from rfl) (Reps.none _ _)))); intro v347 w22 ho23 hb hg_ hnew_; clear hg_ hnew_; (first | rw [← Ny346.out] at ho23 | (simp only [Int.reduceToNat] at ho23; rw [← Ny346.out] at ho23)); have n0_ := Aside0.mk (Kd.R_elder' (by exact RX_ HO345.out) (Kd.R_base ho23) hb); have n1_ := Aside0.mk (Kd.R_lower (Kd.R_new' ho23 (Kd.R_lt (by exact RX_ HO345.out))) (below_size (B_))); have n2_ := Aside0.mk (below_step (B_) hb); clear HO345; clear HB; have HO345 := n0_; have HO348 := n1_; have HB := n2_; clear n0_ n1_ n2_; clear hb ho23) | ((with_reducible refine gate_dst (N := 8) rfl ?_); (try (refine gate_guard (by rfl) ?_; dsimp only)); refine Kd.R_lit (Kd.int .i64) _ 3 ?hg (N := 8) ?hd (xs := ([1] : List Int)) (inner := [.int .i64 1]) (ok := fun _ => True) (okp := fun _ => True) ?hr ?hp (fun _ hk => hk) trivial (Below.refl _ _) (Nat.le_refl _) (by simp) ?_; (case hd => rfl); (case hg => rfl); (case hr => first | (go_simp; done) | (go_simp; rfl)); (case hp => exact (Reps.one (show Kd.M (Kd.int .i64) _ _ _ 1 [.int .i64 1] from rfl) (Reps.none _ _))); intro v350 w24 ho25 hb hg_ hnew_; clear hg_ hnew_; (first | rw [← Ny349.out] at ho25 | (simp only [Int.reduceToNat] at ho25; rw [← Ny349.out] at ho25)); have n0_ := Aside0.mk (Kd.R_elder' (by exact RX_ HO345.out) (Kd.R_base ho25) hb); have n1_ := Aside0.mk (Kd.R_elder' (by exact RX_ HO348.out) (Kd.R_base ho25) hb); have n2_ := Aside0.mk (Kd.R_lower (Kd.R_new' (Kd.R_new' ho25 (Kd.R_lt (by exact RX_ HO345.out))) (Kd.R_lt (by exact RX_ HO348.out))) (below_size (B_))); have n3_ := Aside0.mk (below_step (B_) hb); clear HO345; clear HO348; clear HB; have HO345 := n0_; have HO348 := n1_; have HO351 := n2_; have HB := n3_; clear n0_ n1_ n2_ n3_; clear hb ho25; obtain ⟨Ao26, co26, eo26⟩ := Kd.R_slice HO345.out; subst eo26; obtain ⟨Ao27, co27, eo27⟩ := Kd.R_slice HO348.out; subst eo27; obtain ⟨Ao28, co28, eo28⟩ := Kd.R_slice HO351.out; subst eo28) | ((with_reducible refine gate_dst (N := 9) rfl ?_); (try (refine gate_guard (by rfl) ?_; dsimp only)); refine Kd.N_lit (Kd.slice 3 (Kd.int .i64)) _ 31 ?hg (N' := 9) ?hd (xs := ([y343, y346, y349, []] : List (List Int))) (inner := [.slice Ao26 y343.length co26, .slice Ao27 y346.length co27, .slice Ao28 y349.length co28, .slice none 0 0]) (ok := (fun _ => True)) (okp := (fun _ => True)) ?hr ?hp (fun _ hk => hk) ((show ∀ k_, w24.heap.size ≤ k_ → (fun _ => True) k_ from fun k_ hk => trivial) _ (Nat.le_refl _)) (Below.refl _ _) (Nat.le_refl _) (by simp) ?_; (case hd => rfl); (case hg => rfl); (case hr => first | (go_simp; done) | (go_simp; rfl)); (case hp => exact (Reps.one (show Kd.FK (Kd.slice 3 (Kd.int .i64)) _ _ y343 [.slice Ao26 y343.length co26] from (Kd.FK_slice_mk (Kd.R_reads' (Kd.R_mono (ok' := (fun _ => True)) (HO345.out) (fun k_ hk => trivial))).2.1 (Kd.R_F (Kd.R_mono (ok' := (fun _ => True)) (HO345.out) (fun k_ hk => trivial))))) (Reps.one (show Kd.FK (Kd.slice 3 (Kd.int .i64)) _ _ y346 [.slice Ao27 y346.length co27] from (Kd.FK_slice_mk (Kd.R_reads' (Kd.R_mono (ok' := (fun _ => True)) (HO348.out) (fun k_ hk => trivial))).2.1 (Kd.R_F (Kd.R_mono (ok' := (fun _ => True)) (HO348.out) (fun k_ hk => trivial))))) (Reps.one (show Kd.FK (Kd.slice 3 (Kd.int .i64)) _ _ y349 [.slice Ao28 y349.length co28] from (Kd.FK_slice_mk (Kd.R_reads' (Kd.R_mono (ok' := (fun _ => True)) (HO351.out) (fun k_ hk => trivial))).2.1 (Kd.R_F (Kd.R_mono (ok' := (fun _ => True)) (HO351.out) (fun k_ hk => trivial))))) (Reps.one (show Kd.FK (Kd.slice 3 (Kd.int .i64)) _ _ [] [.slice none 0 0] from (Kd.FK_slice_mk (Nat.le_refl _) (Kd.F_nil _ _ _))) (Reps.none _ _)))))); intro v353 w29 ho30 hb hg_ hnew_; clear hg_ hnew_; (first | rw [← Ny352.out] at ho30 | (simp only [Int.reduceToNat] at ho30; rw [← Ny352.out] at ho30)); have n0_ := Aside0.mk (Kd.N_lower ho30 (below_size (B_))); have n1_ := Aside0.mk (below_step (B_) hb); clear HB; clear HO345; clear HO348; clear HO351; have HO354 := n0_; have HB := n1_; clear n0_ n1_; clear hb ho30; obtain ⟨Ao31, co31, eo31⟩ := Kd.N_slice HO354.out; subst eo31) | ((with_reducible refine gate_callee (f := 11) rfl ?_); refine goesL_ (some 10) rfl rfl Try.func11 (by kernel_rfl) rfl #[.slice Ao31 y352.length co31] rfl (by (try simp only [List.map_toArray, List.map_cons, List.map_nil]); first | done | rfl | (simp only [List.length_drop, List.length_take]; rfl)) ?_; (with_reducible refine (graph_Make.calls k _ _ y352 t355 t358 t361 _ ?side1 ?side2 A1.out).mono ?_); (case side1 => repeat (first | exact (Kd.N_reads' HO354.out).2.2 | (with_reducible refine Kd.C_alloc ?_ _) | (with_reducible refine Kd.C_drewN ?_ _) | (with_reducible refine Kd.C_drew ?_))); (case side2 => exact (Kd.N_reads' HO354.out).2.1); rintro e w32 ⟨v356, v359, rfl, ho0, ho1, hb⟩; refine ⟨_, rfl, ?_⟩; have n0_ := Aside0.mk (Kd.N_mono (Kd.N_told (Kd.N_told (Kd.N_old (by (with_reducible repeat (first | apply Kd.N_alloc | apply Kd.N_drewN | apply Kd.N_drew)); exact HO354.out) hb) (Kd.N_base (Kd.S_N ho0))) (Kd.N_base (Kd.S_N ho1))) (fun _ h_ => h_.1)); have n1_ := Aside0.mk (Kd.N_lower (Kd.N_mono (ok' := fun k_ => some k_ ≠ (v359 : Value).ownBlock ∧ some k_ ≠ (.slice Ao31 y352.length co31 : Value).ownBlock) (Kd.S_N (Kd.S_bound ho0)) (fun k_ hk_ => ⟨hk_.1, (Kd.fresh' (Kd.N_lt (by (with_reducible repeat (first | apply Kd.N_alloc | apply Kd.N_drewN | apply Kd.N_drew)); exact HO354.out)) k_ hk_.2.1)⟩)) (below_size (B_))); have n2_ := Aside0.mk (Kd.N_lower (Kd.N_mono (ok' := fun k_ => some k_ ≠ (v356 : Value).ownBlock ∧ some k_ ≠ (.slice Ao31 y352.length co31 : Value).ownBlock) (Kd.S_N (Kd.S_bound ho1)) (fun k_ hk_ => ⟨hk_.1, (Kd.fresh' (Kd.N_lt (by (with_reducible repeat (first | apply Kd.N_alloc | apply Kd.N_drewN | apply Kd.N_drew)); exact HO354.out)) k_ hk_.2.1)⟩)) (below_size (B_))); have n3_ := Aside0.mk (below_step (B_) hb); clear HO354; clear HB; have HO354 := n0_; have HO357 := n1_; have HO360 := n2_; have HB := n3_; clear n0_ n1_ n2_ n3_; (try clear hb); (try clear hb2); (try clear hk); (try clear hi); (try clear ho0); (try clear ho1)) | ((with_reducible refine gate_dst (N := 1) rfl ?_); (try (refine gate_guard (by rfl) ?_; dsimp only)); refine box_event ?hg (N := 1) ?hd (cs := #[.slice none 0 0, .slice none 0 0]) (t := 26) ?hr ?_; (case hd => rfl); (case hg => rfl); (case hr => first | (go_simp; done) | (go_simp; rfl)); intro gb362 hg w33 hbox hb; have n0_ := Aside0.mk (Kd.N_below (Kd.N_elderB (by (with_reducible repeat (first | apply Kd.N_alloc | apply Kd.N_drewN | apply Kd.N_drew)); exact HO354.out) gb362 (Nat.le_of_eq hg.symm)) hb); have n1_ := Aside0.mk (Kd.N_below (Kd.N_elderB (by (with_reducible repeat (first | apply Kd.N_alloc | apply Kd.N_drewN | apply Kd.N_drew)); exact HO357.out) gb362 (Nat.le_of_eq hg.symm)) hb); have n2_ := Aside0.mk (Kd.N_below (Kd.N_elderB (by (with_reducible repeat (first | apply Kd.N_alloc | apply Kd.N_drewN | apply Kd.N_drew)); exact HO360.out) gb362 (Nat.le_of_eq hg.symm)) hb); have n3_ := Aside0.mk (below_step (B_) hb); have n4_ := Aside0.mk (hbox); have n5_ := Aside0.mk ((by rw [hg]; exact (below_size (B_)) : w.heap.size ≤ gb362)); have n6_ := Aside0.mk ((by rw [hg]; exact (below_size (B_)) : w.heap.size ≤ gb362)); clear HO354; clear HO357; clear HO360; clear HB; have HO354 := n0_; have HO357 := n1_; have HO360 := n2_; have HB := n3_; have BK362 := n4_; have GW362 := n5_; have GE362 := n6_; clear n0_ n1_ n2_ n3_ n4_ n5_ n6_; clear hb hbox hg; obtain ⟨Ao34, co34, eo34⟩ := Kd.N_slice HO357.out; subst eo34; have hcz35_0 : w33.cell? ⟨gb362, 0, none⟩ = some (.slice none 0 0) := (blk_cell BK362.out 0).trans rfl; have hcz35_1 : w33.cell? ⟨gb362, 1, none⟩ = some (.slice none 0 0) := (blk_cell BK362.out 1).trans rfl; have hfz35_0 := blk_frozen BK362.out 0; have hfz35_1 := blk_frozen BK362.out 1; obtain ⟨Ao36, co36, eo36⟩ := Kd.N_slice HO360.out; subst eo36) | ((with_reducible refine gate_callee (f := 18) rfl ?_); refine goesL_ (some 14) rfl rfl Try.func18 (by kernel_rfl) rfl #[.agg #[.slice Ao34 t355.length co34, .slice Ao36 t358.length co36]] rfl (by (try simp only [List.map_toArray, List.map_cons, List.map_nil]); first | done | rfl | (simp only [List.length_drop, List.length_take]; rfl)) ?_; (with_reducible refine (loop_All.calls k _ _ t355 _ _ t358 t363 _ ?side1 ?side2 ?side3 ?side4 A2.out).mono ?_); (case side1 => refine (Kd.N_reads' (e := 31) (base := w.heap.size) (ok := fun k_ => ((some k_ ≠ (.slice Ao36 t358.length co36 : Value).ownBlock ∧ some k_ ≠ (.slice Ao31 y352.length co31 : Value).ownBlock) ∧ k_ ≠ gb362)) (n := t355.length) (c := co34) ?_).2.2; exact (by (with_reducible repeat (first | apply Kd.N_alloc | apply Kd.N_drewN | apply Kd.N_drew)); exact (Kd.N_mono (Kd.N_far (p := ⟨gb362, 1, none⟩) (Kd.N_far (p := ⟨gb362, 0, none⟩) (Kd.N_mono HO357.out (fun k_ hk => (⟨hk, hk.2⟩ : _ ∧ k_ ≠ gb362))) (fun _ hk => hk.2) (.slice Ao34 t355.length co34)) (fun _ hk => hk.2) (.slice Ao36 t358.length co36)) (fun _ h_ => h_.1)))); (case side2 => exact (Kd.N_reads' HO357.out).2.1); (case side3 => refine (Kd.N_reads' (e := 31) (base := w.heap.size) (ok := fun k_ => ((some k_ ≠ (.slice Ao34 t355.length co34 : Value).ownBlock ∧ some k_ ≠ (.slice Ao31 y352.length co31 : Value).ownBlock) ∧ k_ ≠ gb362)) (n := t358.length) (c := co36) ?_).2.2; exact (by (with_reducible repeat (first | apply Kd.N_alloc | apply Kd.N_drewN | apply Kd.N_drew)); exact (Kd.N_mono (Kd.N_far (p := ⟨gb362, 1, none⟩) (Kd.N_far (p := ⟨gb362, 0, none⟩) (Kd.N_mono HO360.out (fun k_ hk => (⟨hk, hk.2⟩ : _ ∧ k_ ≠ gb362))) (fun _ hk => hk.2) (.slice Ao34 t355.length co34)) (fun _ hk => hk.2) (.slice Ao36 t358.length co36)) (fun _ h_ => h_.1)))); (case side4 => exact (Kd.N_reads' HO360.out).2.1); rintro e w37 ⟨v364, rfl, ho0, hb⟩; refine ⟨_, rfl, ?_⟩; have n0_ := Aside0.mk (Kd.N_elder' (by (with_reducible repeat (first | apply Kd.N_alloc | apply Kd.N_drewN | apply Kd.N_drew)); exact (Kd.N_mono (Kd.N_far (p := ⟨gb362, 1, none⟩) (Kd.N_far (p := ⟨gb362, 0, none⟩) (Kd.N_mono HO354.out (fun k_ hk => (⟨hk, hk.2⟩ : _ ∧ k_ ≠ gb362))) (fun _ hk => hk.2) (.slice Ao34 t355.length co34)) (fun _ hk => hk.2) (.slice Ao36 t358.length co36)) (fun _ h_ => h_.1))) (Kd.N_base (Kd.S_N ho0)) hb); have n1_ := Aside0.mk (Kd.N_elder' (by (with_reducible repeat (first | apply Kd.N_alloc | apply Kd.N_drewN | apply Kd.N_drew)); exact (Kd.N_mono (Kd.N_far (p := ⟨gb362, 1, none⟩) (Kd.N_far (p := ⟨gb362, 0, none⟩) (Kd.N_mono HO357.out (fun k_ hk => (⟨hk, hk.2⟩ : _ ∧ k_ ≠ gb362))) (fun _ hk => hk.2) (.slice Ao34 t355.length co34)) (fun _ hk => hk.2) (.slice Ao36 t358.length co36)) (fun _ h_ => h_.1))) (Kd.N_base (Kd.S_N ho0)) hb); have n2_ := Aside0.mk (Kd.N_elder' (by (with_reducible repeat (first | apply Kd.N_alloc | apply Kd.N_drewN | apply Kd.N_drew)); exact (Kd.N_mono (Kd.N_far (p := ⟨gb362, 1, none⟩) (Kd.N_far (p := ⟨gb362, 0, none⟩) (Kd.N_mono HO360.out (fun k_ hk => (⟨hk, hk.2⟩ : _ ∧ k_ ≠ gb362))) (fun _ hk => hk.2) (.slice Ao34 t355.length co34)) (fun _ hk => hk.2) (.slice Ao36 t358.length co36)) (fun _ h_ => h_.1))) (Kd.N_base (Kd.S_N ho0)) hb); have n3_ := Aside0.mk (Kd.N_lower (Kd.N_mono (ok' := fun k_ => some k_ ≠ (.slice Ao31 y352.length co31 : Value).ownBlock ∧ some k_ ≠ (.slice Ao34 t355.length co34 : Value).ownBlock ∧ some k_ ≠ (.slice Ao36 t358.length co36 : Value).ownBlock ∧ k_ ≠ gb362) (Kd.S_N (Kd.S_bound ho0)) (fun k_ hk_ => ⟨(Kd.fresh' (Kd.N_lt (by (with_reducible repeat (first | apply Kd.N_alloc | apply Kd.N_drewN | apply Kd.N_drew)); exact (Kd.N_mono (Kd.N_far (p := ⟨gb362, 1, none⟩) (Kd.N_far (p := ⟨gb362, 0, none⟩) (Kd.N_mono HO354.out (fun k_ hk => (⟨hk, hk.2⟩ : _ ∧ k_ ≠ gb362))) (fun _ hk => hk.2) (.slice Ao34 t355.length co34)) (fun _ hk => hk.2) (.slice Ao36 t358.length co36)) (fun _ h_ => h_.1)))) k_ hk_.2.1), (Kd.fresh' (Kd.N_lt (by (with_reducible repeat (first | apply Kd.N_alloc | apply Kd.N_drewN | apply Kd.N_drew)); exact (Kd.N_mono (Kd.N_far (p := ⟨gb362, 1, none⟩) (Kd.N_far (p := ⟨gb362, 0, none⟩) (Kd.N_mono HO357.out (fun k_ hk => (⟨hk, hk.2⟩ : _ ∧ k_ ≠ gb362))) (fun _ hk => hk.2) (.slice Ao34 t355.length co34)) (fun _ hk => hk.2) (.slice Ao36 t358.length co36)) (fun _ h_ => h_.1)))) k_ hk_.2.1), (Kd.fresh' (Kd.N_lt (by (with_reducible repeat (first | apply Kd.N_alloc | apply Kd.N_drewN | apply Kd.N_drew)); exact (Kd.N_mono (Kd.N_far (p := ⟨gb362, 1, none⟩) (Kd.N_far (p := ⟨gb362, 0, none⟩) (Kd.N_mono HO360.out (fun k_ hk => (⟨hk, hk.2⟩ : _ ∧ k_ ≠ gb362))) (fun _ hk => hk.2) (.slice Ao34 t355.length co34)) (fun _ hk => hk.2) (.slice Ao36 t358.length co36)) (fun _ h_ => h_.1)))) k_ hk_.2.1), (Kd.freshB (g := gb362) (o := .cells #[.slice Ao34 t355.length co34, .slice Ao36 t358.length co36] 26 (0, 0)) (by (with_reducible repeat (first | refine blk_drewN ?_ _ | refine blk_drew ?_ | refine blk_alloc ?_ _)); refine blk_put (cs := #[.slice Ao34 t355.length co34, .slice none 0 0]) ?_ 1 _ rfl; (with_reducible repeat (first | refine blk_drewN ?_ _ | refine blk_drew ?_ | refine blk_alloc ?_ _)); refine blk_put (cs := #[.slice none 0 0, .slice none 0 0]) ?_ 0 _ rfl; exact KX_ BK362.out) k_ hk_.2.1)⟩)) (below_size (B1_))); have n4_ := Aside0.mk (blk_below (g := gb362) (o := .cells #[.slice Ao34 t355.length co34, .slice Ao36 t358.length co36] 26 (0, 0)) (by (with_reducible repeat (first | refine blk_drewN ?_ _ | refine blk_drew ?_ | refine blk_alloc ?_ _)); refine blk_put (cs := #[.slice Ao34 t355.length co34, .slice none 0 0]) ?_ 1 _ rfl; (with_reducible repeat (first | refine blk_drewN ?_ _ | refine blk_drew ?_ | refine blk_alloc ?_ _)); refine blk_put (cs := #[.slice none 0 0, .slice none 0 0]) ?_ 0 _ rfl; exact KX_ BK362.out) hb); have n5_ := Aside0.mk (below_step (B1_) hb); clear HO354; clear HO357; clear HO360; clear BK362; clear HB; have HO354 := n0_; have HO357 := n1_; have HO360 := n2_; have HO365 := n3_; have BK362 := n4_; have HB := n5_; clear n0_ n1_ n2_ n3_ n4_ n5_; (try clear hb); (try clear hb2); (try clear hk); (try clear hi); (try clear ho0); have hcz38_0 : w37.cell? ⟨gb362, 0, none⟩ = some (.slice Ao34 t355.length co34) := (blk_cell BK362.out 0).trans rfl; have hcz38_1 : w37.cell? ⟨gb362, 1, none⟩ = some (.slice Ao36 t358.length co36) := (blk_cell BK362.out 1).trans rfl; have hfz38_0 := blk_frozen BK362.out 0; have hfz38_1 := blk_frozen BK362.out 1) | ((with_reducible refine gate_callee (f := 22) rfl ?_); refine goesL_ (some 16) rfl rfl Try.func22 (by kernel_rfl) rfl #[.agg #[.slice Ao34 t355.length co34, .slice Ao36 t358.length co36]] rfl (by (try simp only [List.map_toArray, List.map_cons, List.map_nil]); first | done | rfl | (simp only [List.length_drop, List.length_take]; rfl)) ?_; (with_reducible refine (loop_Backs.calls k _ _ t355 _ _ t358 t366 _ ?side1 ?side2 ?side3 ?side4 A3.out).mono ?_); (case side1 => repeat (first | exact (Kd.N_reads' HO357.out).2.2 | (with_reducible refine Kd.C_alloc ?_ _) | (with_reducible refine Kd.C_drewN ?_ _) | (with_reducible refine Kd.C_drew ?_))); (case side2 => exact (Kd.N_reads' HO357.out).2.1); (case side3 => repeat (first | exact (Kd.N_reads' HO360.out).2.2 | (with_reducible refine Kd.C_alloc ?_ _) | (with_reducible refine Kd.C_drewN ?_ _) | (with_reducible refine Kd.C_drew ?_))); (case side4 => exact (Kd.N_reads' HO360.out).2.1); rintro e w39 ⟨v367, rfl, ho0, hb⟩; refine ⟨_, rfl, ?_⟩; have n0_ := Aside0.mk (Kd.N_elder' (by (with_reducible repeat (first | apply Kd.N_alloc | apply Kd.N_drewN | apply Kd.N_drew)); exact HO354.out) (Kd.R_base ho0) hb); have n1_ := Aside0.mk (Kd.N_elder' (by (with_reducible repeat (first | apply Kd.N_alloc | apply Kd.N_drewN | apply Kd.N_drew)); exact HO357.out) (Kd.R_base ho0) hb); have n2_ := Aside0.mk (Kd.N_elder' (by (with_reducible repeat (first | apply Kd.N_alloc | apply Kd.N_drewN | apply Kd.N_drew)); exact HO360.out) (Kd.R_base ho0) hb); have n3_ := Aside0.mk (Kd.N_elder' (by (with_reducible repeat (first | apply Kd.N_alloc | apply Kd.N_drewN | apply Kd.N_drew)); exact HO365.out) (Kd.R_base ho0) hb); have n4_ := Aside0.mk (Kd.R_lower ho0 (below_size (B1_))); have n5_ := Aside0.mk (blk_below (g := gb362) (o := .cells #[.slice Ao34 t355.length co34, .slice Ao36 t358.length co36] 26 (0, 0)) (by exact KX_ BK362.out) hb); have n6_ := Aside0.mk (below_step (B1_) hb); clear HO354; clear HO357; clear HO360; clear HO365; clear BK362; clear HB; have HO354 := n0_; have HO357 := n1_; have HO360 := n2_; have HO365 := n3_; have HO368 := n4_; have BK362 := n5_; have HB := n6_; clear n0_ n1_ n2_ n3_ n4_ n5_ n6_; (try clear hb); (try clear hb2); (try clear hk); (try clear hi); (try clear ho0); obtain ⟨Ao40, co40, eo40⟩ := Kd.N_slice HO365.out; subst eo40; have p369 : 0 ≤ (0 : Int) := (by omega); have q369 : 0 < (t363.length : Int) := D_; obtain ⟨ad369, A369_1, c369_1, e369, hx369_0, hx369_1, hl369_1, hi369_1⟩ := at_T43 (Kd.N_reads' HO365.out).2.2 0 p369 q369; cases e369; obtain ⟨ce369, hce369, hMe369, hcc369⟩ := Kd.N_get HO365.out z43 0 p369 (by first | exact q369 | exact D_ | (have e_ := (Kd.N_reads' HO365.out).1; omega)); obtain ⟨ua369_1, uc369_1, rfl, ul369_1, ge369_1⟩ := k43_openF hMe369; have hv369_1 := hcc369 1 _ rfl; rw [add_field _ _ 1 (by omega)] at hv369_1; replace hv369_1 := Option.some.inj (hv369_1.symm.trans hx369_1); injection hv369_1 with hva_ hvn_ hvc_; rw [hva_] at ge369_1; rw [hvc_] at ul369_1; have HL369_1 := Aside0.mk (show Kd.V (Kd.int .i64) 3 _ w.heap.size _ _ ((rd_T43 t363 0).f1) from Kd.V_mk ul369_1 ge369_1); clear hva_ hvn_ hvc_ ge369_1 ul369_1; clear hcc369 hce369; have qi369 : (0 < t363.length) = True := eq_true (by omega); (try rw [show ((0 : Int)).toNat = 0 from rfl] at hx369_0); (try rw [show 0 * 2 = 0 from rfl] at hx369_0); (try rw [Addr.add_zero'] at hx369_0); (try rw [show ((0 : Int)).toNat = 0 from rfl] at hx369_1); (try rw [show 0 * 2 = 0 from rfl] at hx369_1); (try rw [Addr.add_zero'] at hx369_1); have HR369_1 := Aside0.mk hi369_1; have HC369_1 := Aside0.mk hl369_1; clear hi369_1 hl369_1; replace p369 := eq_true p369; replace q369 := eq_true q369; have p370 : 0 ≤ (0 : Int) := (by omega); have q370 : 0 < (t363.length : Int) := D_; obtain ⟨ad370, A370_1, c370_1, e370, hx370_0, hx370_1, hl370_1, hi370_1⟩ := at_T43 (Kd.N_reads' HO365.out).2.2 0 p370 q370; obtain rfl : ad369 = ad370 := (by injection e370); obtain ⟨ce370, hce370, hMe370, hcc370⟩ := Kd.N_get HO365.out z43 0 p370 (by first | exact q370 | exact D_ | (have e_ := (Kd.N_reads' HO365.out).1; omega)); obtain ⟨ua370_1, uc370_1, rfl, ul370_1, ge370_1⟩ := k43_openF hMe370; have hv370_1 := hcc370 1 _ rfl; rw [add_field _ _ 1 (by omega)] at hv370_1; replace hv370_1 := Option.some.inj (hv370_1.symm.trans hx370_1); injection hv370_1 with hva_ hvn_ hvc_; rw [hva_] at ge370_1; rw [hvc_] at ul370_1; have HL370_1 := Aside0.mk (show Kd.V (Kd.int .i64) 3 _ w.heap.size _ _ ((rd_T43 t363 0).f1) from Kd.V_mk ul370_1 ge370_1); clear hva_ hvn_ hvc_ ge370_1 ul370_1; clear hcc370 hce370; have qi370 : (0 < t363.length) = True := eq_true (by omega); (try rw [show ((0 : Int)).toNat = 0 from rfl] at hx370_0); (try rw [show 0 * 2 = 0 from rfl] at hx370_0); (try rw [Addr.add_zero'] at hx370_0); (try rw [show ((0 : Int)).toNat = 0 from rfl] at hx370_1); (try rw [show 0 * 2 = 0 from rfl] at hx370_1); (try rw [Addr.add_zero'] at hx370_1); have HR370_1 := Aside0.mk hi370_1; have HC370_1 := Aside0.mk hl370_1; clear hi370_1 hl370_1; replace p370 := eq_true p370; replace q370 := eq_true q370; have ea_ := Option.some.inj (hx369_1.symm.trans hx370_1); injection ea_ with ea_ en_ ec_; subst ea_; subst ec_; clear en_) | ((with_reducible refine gate_dst (N := 36) rfl ?_); (try (refine gate_guard (by rfl) ?_; dsimp only)); refine Kd.R_lit (Kd.int .i64) _ 3 ?hg (N := 36) ?hd (xs := ([1, 2] : List Int)) (inner := [.int .i64 1, .int .i64 2]) (ok := fun _ => True) (okp := fun _ => True) ?hr ?hp (fun _ hk => hk) trivial (Below.refl _ _) (Nat.le_refl _) (by simp) ?_; (case hd => rfl); (case hg => rfl); (case hr => first | (go_simp; done) | (go_simp; rfl)); (case hp => exact (Reps.one (show Kd.M (Kd.int .i64) _ _ _ 1 [.int .i64 1] from rfl) (Reps.one (show Kd.M (Kd.int .i64) _ _ _ 2 [.int .i64 2] from rfl) (Reps.none _ _)))); intro v372 w41 ho42 hb hg_ hnew_; clear hg_ hnew_; (first | rw [← Ny371.out] at ho42 | (simp only [Int.reduceToNat] at ho42; rw [← Ny371.out] at ho42)); have n0_ := Aside0.mk (Kd.N_elder' (by (with_reducible repeat (first | apply Kd.N_alloc | apply Kd.N_drewN | apply Kd.N_drew)); exact HO354.out) (Kd.R_base ho42) hb); have n1_ := Aside0.mk (Kd.N_elder' (by (with_reducible repeat (first | apply Kd.N_alloc | apply Kd.N_drewN | apply Kd.N_drew)); exact HO357.out) (Kd.R_base ho42) hb); have n2_ := Aside0.mk (Kd.N_elder' (by (with_reducible repeat (first | apply Kd.N_alloc | apply Kd.N_drewN | apply Kd.N_drew)); exact HO360.out) (Kd.R_base ho42) hb); have n3_ := Aside0.mk (Kd.N_elder' (by (with_reducible repeat (first | apply Kd.N_alloc | apply Kd.N_drewN | apply Kd.N_drew)); exact HO365.out) (Kd.R_base ho42) hb); have n4_ := Aside0.mk (Kd.R_below (by exact RX_ HO368.out) hb); have n5_ := Aside0.mk (Kd.V_elder' (by (with_reducible repeat (first | apply Kd.V_alloc | apply Kd.V_drewN | apply Kd.V_drew)); exact HL369_1.out) (Kd.R_base ho42) hb); have n6_ := Aside0.mk (Kd.V_elder' (by (with_reducible repeat (first | apply Kd.V_alloc | apply Kd.V_drewN | apply Kd.V_drew)); exact HL370_1.out) (Kd.R_base ho42) hb); have n7_ := Aside0.mk (Kd.R_lower ho42 (below_size (B1_))); have n8_ := Aside0.mk (blk_below (g := gb362) (o := .cells #[.slice Ao34 t355.length co34, .slice Ao36 t358.length co36] 26 (0, 0)) (by exact KX_ BK362.out) hb); have n9_ := Aside0.mk (Kd.C_below (by repeat (first | (with_reducible exact HR369_1.out) | (with_reducible refine Kd.C_alloc ?_ _) | (with_reducible refine Kd.C_drewN ?_ _) | (with_reducible refine Kd.C_drew ?_) | exact HR369_1.out)) hb); have n10_ := Aside0.mk (Kd.C_below (by repeat (first | (with_reducible exact HR370_1.out) | (with_reducible refine Kd.C_alloc ?_ _) | (with_reducible refine Kd.C_drewN ?_ _) | (with_reducible refine Kd.C_drew ?_) | exact HR370_1.out)) hb); have n11_ := Aside0.mk (below_step (B1_) hb); clear HO354; clear HO357; clear HO360; clear HO365; clear HO368; clear HL369_1; clear HL370_1; clear BK362; clear HR369_1; clear HR370_1; clear HB; have HO354 := n0_; have HO357 := n1_; have HO360 := n2_; have HO365 := n3_; have HO368 := n4_; have HL369_1 := n5_; have HL370_1 := n6_; have HO373 := n7_; have BK362 := n8_; have HR369_1 := n9_; have HR370_1 := n10_; have HB := n11_; clear n0_ n1_ n2_ n3_ n4_ n5_ n6_ n7_ n8_ n9_ n10_ n11_; clear hb ho42; obtain ⟨Ao43, co43, eo43⟩ := Kd.R_slice HO373.out; subst eo43) | (go_at_call 25; (with_reducible refine (lockstepref02_Ints.calls k _ _ ((rd_T43 t363 0).f1) _ _ y371 true _ ?side1 ?side2 ?side3 ?side4 A8.out).mono ?_); (case side1 => repeat (first | exact (by repeat (first | (with_reducible exact HR370_1.out) | (with_reducible refine Kd.C_alloc ?_ _) | (with_reducible refine Kd.C_drewN ?_ _) | (with_reducible refine Kd.C_drew ?_) | exact HR370_1.out)) | (with_reducible refine Kd.C_alloc ?_ _) | (with_reducible refine Kd.C_drewN ?_ _) | (with_reducible refine Kd.C_drew ?_))); (case side2 => exact HC370_1.out); (case side3 => repeat (first | exact (Kd.R_reads' HO373.out).2.2 | (with_reducible refine Kd.C_alloc ?_ _) | (with_reducible refine Kd.C_drewN ?_ _) | (with_reducible refine Kd.C_drew ?_))); (case side4 => exact (Kd.R_reads' HO373.out).2.1); rintro e w' ⟨rfl, ⟨nd, rfl⟩⟩; obtain ⟨Ao44, co44, eo44⟩ := Kd.R_slice HO368.out; subst eo44; have p375 : 0 ≤ (0 : Int) := (by omega); have q375 : 0 < (t366.length : Int) := D_; obtain ⟨ad375, e375, hx375_0, hx375_1⟩ := at_T48 (Kd.R_reads' HO368.out).2.2 0 p375 q375; cases e375; have qi375 : (0 < t366.length) = True := eq_true (by omega); (try rw [show ((0 : Int)).toNat = 0 from rfl] at hx375_0); (try rw [show 0 * 2 = 0 from rfl] at hx375_0); (try rw [Addr.add_zero'] at hx375_0); (try rw [show ((0 : Int)).toNat = 0 from rfl] at hx375_1); (try rw [show 0 * 2 = 0 from rfl] at hx375_1); (try rw [Addr.add_zero'] at hx375_1); replace p375 := eq_true p375; replace q375 := eq_true q375; have hcz45_0 : w41.cell? ⟨gb362, 0, none⟩ = some (.slice Ao34 t355.length co34) := (blk_cell BK362.out 0).trans rfl; have hcz45_1 : w41.cell? ⟨gb362, 1, none⟩ = some (.slice Ao36 t358.length co36) := (blk_cell BK362.out 1).trans rfl; have hfz45_0 := blk_frozen BK362.out 0; have hfz45_1 := blk_frozen BK362.out 1) | (go_at_call 23; (with_reducible refine (loop_Depth.calls k _ _ t355 _ _ t358 2 t376 _ ?side1 ?side2 ?side3 ?side4 A13.out).mono ?_); (case side1 => repeat (first | exact (Kd.N_reads' HO357.out).2.2 | (with_reducible refine Kd.C_alloc ?_ _) | (with_reducible refine Kd.C_drewN ?_ _) | (with_reducible refine Kd.C_drew ?_))); (case side2 => exact (Kd.N_reads' HO357.out).2.1); (case side3 => repeat (first | exact (Kd.N_reads' HO360.out).2.2 | (with_reducible refine Kd.C_alloc ?_ _) | (with_reducible refine Kd.C_drewN ?_ _) | (with_reducible refine Kd.C_drew ?_))); (case side4 => exact (Kd.N_reads' HO360.out).2.1); rintro e w46 ⟨rfl, hb⟩; have n0_ := Aside0.mk (Kd.N_below (by (with_reducible repeat (first | apply Kd.N_alloc | apply Kd.N_drewN | apply Kd.N_drew)); exact HO354.out) hb); have n1_ := Aside0.mk (Kd.N_below (by (with_reducible repeat (first | apply Kd.N_alloc | apply Kd.N_drewN | apply Kd.N_drew)); exact HO357.out) hb); have n2_ := Aside0.mk (Kd.N_below (by (with_reducible repeat (first | apply Kd.N_alloc | apply Kd.N_drewN | apply Kd.N_drew)); exact HO360.out) hb); have n3_ := Aside0.mk (Kd.N_below (by (with_reducible repeat (first | apply Kd.N_alloc | apply Kd.N_drewN | apply Kd.N_drew)); exact HO365.out) hb); have n4_ := Aside0.mk (Kd.R_below (by exact RX_ HO368.out) hb); have n5_ := Aside0.mk (Kd.V_below (by (with_reducible repeat (first | apply Kd.V_alloc | apply Kd.V_drewN | apply Kd.V_drew)); exact HL369_1.out) hb); have n6_ := Aside0.mk (Kd.V_below (by (with_reducible repeat (first | apply Kd.V_alloc | apply Kd.V_drewN | apply Kd.V_drew)); exact HL370_1.out) hb); have n7_ := Aside0.mk (Kd.R_below (by exact RX_ HO373.out) hb); have n8_ := Aside0.mk (blk_below (g := gb362) (o := .cells #[.slice Ao34 t355.length co34, .slice Ao36 t358.length co36] 26 (0, 0)) (by exact KX_ BK362.out) hb); have n9_ := Aside0.mk (Kd.C_below (by repeat (first | (with_reducible exact HR369_1.out) | (with_reducible refine Kd.C_alloc ?_ _) | (with_reducible refine Kd.C_drewN ?_ _) | (with_reducible refine Kd.C_drew ?_) | exact HR369_1.out)) hb); have n10_ := Aside0.mk (Kd.C_below (by repeat (first | (with_reducible exact HR370_1.out) | (with_reducible refine Kd.C_alloc ?_ _) | (with_reducible refine Kd.C_drewN ?_ _) | (with_reducible refine Kd.C_drew ?_) | exact HR370_1.out)) hb); have n11_ := Aside0.mk (below_step (B1_) hb); clear HO354; clear HO357; clear HO360; clear HO365; clear HO368; clear HL369_1; clear HL370_1; clear HO373; clear BK362; clear HR369_1; clear HR370_1; clear HB; have HO354 := n0_; have HO357 := n1_; have HO360 := n2_; have HO365 := n3_; have HO368 := n4_; have HL369_1 := n5_; have HL370_1 := n6_; have HO373 := n7_; have BK362 := n8_; have HR369_1 := n9_; have HR370_1 := n10_; have HB := n11_; clear n0_ n1_ n2_ n3_ n4_ n5_ n6_ n7_ n8_ n9_ n10_ n11_; (try clear hb); (try clear hb2); (try clear hk); (try clear hi); have hcz47_0 : w46.cell? ⟨gb362, 0, none⟩ = some (.slice Ao34 t355.length co34) := (blk_cell BK362.out 0).trans rfl; have hcz47_1 : w46.cell? ⟨gb362, 1, none⟩ = some (.slice Ao36 t358.length co36) := (blk_cell BK362.out 1).trans rfl; have hfz47_0 := blk_frozen BK362.out 0; have hfz47_1 := blk_frozen BK362.out 1) | (go_at_call 23; (with_reducible refine (loop_Depth.calls k _ _ t355 _ _ t358 3 t377 _ ?side1 ?side2 ?side3 ?side4 A15.out).mono ?_); (case side1 => repeat (first | exact (Kd.N_reads' HO357.out).2.2 | (with_reducible refine Kd.C_alloc ?_ _) | (with_reducible refine Kd.C_drewN ?_ _) | (with_reducible refine Kd.C_drew ?_))); (case side2 => exact (Kd.N_reads' HO357.out).2.1); (case side3 => repeat (first | exact (Kd.N_reads' HO360.out).2.2 | (with_reducible refine Kd.C_alloc ?_ _) | (with_reducible refine Kd.C_drewN ?_ _) | (with_reducible refine Kd.C_drew ?_))); (case side4 => exact (Kd.N_reads' HO360.out).2.1); rintro e w48 ⟨rfl, hb⟩; have n0_ := Aside0.mk (Kd.N_below (by (with_reducible repeat (first | apply Kd.N_alloc | apply Kd.N_drewN | apply Kd.N_drew)); exact HO354.out) hb); have n1_ := Aside0.mk (Kd.N_below (by (with_reducible repeat (first | apply Kd.N_alloc | apply Kd.N_drewN | apply Kd.N_drew)); exact HO357.out) hb); have n2_ := Aside0.mk (Kd.N_below (by (with_reducible repeat (first | apply Kd.N_alloc | apply Kd.N_drewN | apply Kd.N_drew)); exact HO360.out) hb); have n3_ := Aside0.mk (Kd.N_below (by (with_reducible repeat (first | apply Kd.N_alloc | apply Kd.N_drewN | apply Kd.N_drew)); exact HO365.out) hb); have n4_ := Aside0.mk (Kd.R_below (by exact RX_ HO368.out) hb); have n5_ := Aside0.mk (Kd.V_below (by (with_reducible repeat (first | apply Kd.V_alloc | apply Kd.V_drewN | apply Kd.V_drew)); exact HL369_1.out) hb); have n6_ := Aside0.mk (Kd.V_below (by (with_reducible repeat (first | apply Kd.V_alloc | apply Kd.V_drewN | apply Kd.V_drew)); exact HL370_1.out) hb); have n7_ := Aside0.mk (Kd.R_below (by exact RX_ HO373.out) hb); have n8_ := Aside0.mk (blk_below (g := gb362) (o := .cells #[.slice Ao34 t355.length co34, .slice Ao36 t358.length co36] 26 (0, 0)) (by exact KX_ BK362.out) hb); have n9_ := Aside0.mk (Kd.C_below (by repeat (first | (with_reducible exact HR369_1.out) | (with_reducible refine Kd.C_alloc ?_ _) | (with_reducible refine Kd.C_drewN ?_ _) | (with_reducible refine Kd.C_drew ?_) | exact HR369_1.out)) hb); have n10_ := Aside0.mk (Kd.C_below (by repeat (first | (with_reducible exact HR370_1.out) | (with_reducible refine Kd.C_alloc ?_ _) | (with_reducible refine Kd.C_drewN ?_ _) | (with_reducible refine Kd.C_drew ?_) | exact HR370_1.out)) hb); have n11_ := Aside0.mk (below_step (B1_) hb); clear HO354; clear HO357; clear HO360; clear HO365; clear HO368; clear HL369_1; clear HL370_1; clear HO373; clear BK362; clear HR369_1; clear HR370_1; clear HB; have HO354 := n0_; have HO357 := n1_; have HO360 := n2_; have HO365 := n3_; have HO368 := n4_; have HL369_1 := n5_; have HL370_1 := n6_; have HO373 := n7_; have BK362 := n8_; have HR369_1 := n9_; have HR370_1 := n10_; have HB := n11_; clear n0_ n1_ n2_ n3_ n4_ n5_ n6_ n7_ n8_ n9_ n10_ n11_; (try clear hb); (try clear hb2); (try clear hk); (try clear hi); have hcz49_0 : w48.cell? ⟨gb362, 0, none⟩ = some (.slice Ao34 t355.length co34) := (blk_cell BK362.out 0).trans rfl; have hcz49_1 : w48.cell? ⟨gb362, 1, none⟩ = some (.slice Ao36 t358.length co36) := (blk_cell BK362.out 1).trans rfl; have hfz49_0 := blk_frozen BK362.out 0; have hfz49_1 := blk_frozen BK362.out 1) | (go_at_call 19; (with_reducible refine (loop_Reducible.calls k _ _ t355 _ _ t358 true _ ?side1 ?side2 ?side3 ?side4 A17.out).mono ?_); (case side1 => repeat (first | exact (Kd.N_reads' HO357.out).2.2 | (with_reducible refine Kd.C_alloc ?_ _) | (with_reducible refine Kd.C_drewN ?_ _) | (with_reducible refine Kd.C_drew ?_))); (case side2 => exact (Kd.N_reads' HO357.out).2.1); (case side3 => repeat (first | exact (Kd.N_reads' HO360.out).2.2 | (with_reducible refine Kd.C_alloc ?_ _) | (with_reducible refine Kd.C_drewN ?_ _) | (with_reducible refine Kd.C_drew ?_))); (case side4 => exact (Kd.N_reads' HO360.out).2.1); rintro e w50 ⟨rfl, hb⟩; have n0_ := Aside0.mk (Kd.N_below (by (with_reducible repeat (first | apply Kd.N_alloc | apply Kd.N_drewN | apply Kd.N_drew)); exact HO354.out) hb); have n1_ := Aside0.mk (Kd.N_below (by (with_reducible repeat (first | apply Kd.N_alloc | apply Kd.N_drewN | apply Kd.N_drew)); exact HO357.out) hb); have n2_ := Aside0.mk (Kd.N_below (by (with_reducible repeat (first | apply Kd.N_alloc | apply Kd.N_drewN | apply Kd.N_drew)); exact HO360.out) hb); have n3_ := Aside0.mk (Kd.N_below (by (with_reducible repeat (first | apply Kd.N_alloc | apply Kd.N_drewN | apply Kd.N_drew)); exact HO365.out) hb); have n4_ := Aside0.mk (Kd.R_below (by exact RX_ HO368.out) hb); have n5_ := Aside0.mk (Kd.V_below (by (with_reducible repeat (first | apply Kd.V_alloc | apply Kd.V_drewN | apply Kd.V_drew)); exact HL369_1.out) hb); have n6_ := Aside0.mk (Kd.V_below (by (with_reducible repeat (first | apply Kd.V_alloc | apply Kd.V_drewN | apply Kd.V_drew)); exact HL370_1.out) hb); have n7_ := Aside0.mk (Kd.R_below (by exact RX_ HO373.out) hb); have n8_ := Aside0.mk (blk_below (g := gb362) (o := .cells #[.slice Ao34 t355.length co34, .slice Ao36 t358.length co36] 26 (0, 0)) (by exact KX_ BK362.out) hb); have n9_ := Aside0.mk (Kd.C_below (by repeat (first | (with_reducible exact HR369_1.out) | (with_reducible refine Kd.C_alloc ?_ _) | (with_reducible refine Kd.C_drewN ?_ _) | (with_reducible refine Kd.C_drew ?_) | exact HR369_1.out)) hb); have n10_ := Aside0.mk (Kd.C_below (by repeat (first | (with_reducible exact HR370_1.out) | (with_reducible refine Kd.C_alloc ?_ _) | (with_reducible refine Kd.C_drewN ?_ _) | (with_reducible refine Kd.C_drew ?_) | exact HR370_1.out)) hb); have n11_ := Aside0.mk (below_step (B1_) hb); clear HO354; clear HO357; clear HO360; clear HO365; clear HO368; clear HL369_1; clear HL370_1; clear HO373; clear BK362; clear HR369_1; clear HR370_1; clear HB; have HO354 := n0_; have HO357 := n1_; have HO360 := n2_; have HO365 := n3_; have HO368 := n4_; have HL369_1 := n5_; have HL370_1 := n6_; have HO373 := n7_; have BK362 := n8_; have HR369_1 := n9_; have HR370_1 := n10_; have HB := n11_; clear n0_ n1_ n2_ n3_ n4_ n5_ n6_ n7_ n8_ n9_ n10_ n11_; (try clear hb); (try clear hb2); (try clear hk); (try clear hi); have hcz51_0 : w50.cell? ⟨gb362, 0, none⟩ = some (.slice Ao34 t355.length co34) := (blk_cell BK362.out 0).trans rfl; have hcz51_1 : w50.cell? ⟨gb362, 1, none⟩ = some (.slice Ao36 t358.length co36) := (blk_cell BK362.out 1).trans rfl; have hfz51_0 := blk_frozen BK362.out 0; have hfz51_1 := blk_frozen BK362.out 1) | (go_at_call 21; (with_reducible refine (loop_Forward.calls k _ _ t355 _ _ t358 t379 _ ?side1 ?side2 ?side3 ?side4 A19.out).mono ?_); (case side1 => repeat (first | exact (Kd.N_reads' HO357.out).2.2 | (with_reducible refine Kd.C_alloc ?_ _) | (with_reducible refine Kd.C_drewN ?_ _) | (with_reducible refine Kd.C_drew ?_))); (case side2 => exact (Kd.N_reads' HO357.out).2.1); (case side3 => repeat (first | exact (Kd.N_reads' HO360.out).2.2 | (with_reducible refine Kd.C_alloc ?_ _) | (with_reducible refine Kd.C_drewN ?_ _) | (with_reducible refine Kd.C_drew ?_))); (case side4 => exact (Kd.N_reads' HO360.out).2.1); rintro e w52 ⟨rfl, hb⟩; have n0_ := Aside0.mk (Kd.N_below (by (with_reducible repeat (first | apply Kd.N_alloc | apply Kd.N_drewN | apply Kd.N_drew)); exact HO354.out) hb); have n1_ := Aside0.mk (Kd.N_below (by (with_reducible repeat (first | apply Kd.N_alloc | apply Kd.N_drewN | apply Kd.N_drew)); exact HO357.out) hb); have n2_ := Aside0.mk (Kd.N_below (by (with_reducible repeat (first | apply Kd.N_alloc | apply Kd.N_drewN | apply Kd.N_drew)); exact HO360.out) hb); have n3_ := Aside0.mk (Kd.N_below (by (with_reducible repeat (first | apply Kd.N_alloc | apply Kd.N_drewN | apply Kd.N_drew)); exact HO365.out) hb); have n4_ := Aside0.mk (Kd.R_below (by exact RX_ HO368.out) hb); have n5_ := Aside0.mk (Kd.V_below (by (with_reducible repeat (first | apply Kd.V_alloc | apply Kd.V_drewN | apply Kd.V_drew)); exact HL369_1.out) hb); have n6_ := Aside0.mk (Kd.V_below (by (with_reducible repeat (first | apply Kd.V_alloc | apply Kd.V_drewN | apply Kd.V_drew)); exact HL370_1.out) hb); have n7_ := Aside0.mk (Kd.R_below (by exact RX_ HO373.out) hb); have n8_ := Aside0.mk (blk_below (g := gb362) (o := .cells #[.slice Ao34 t355.length co34, .slice Ao36 t358.length co36] 26 (0, 0)) (by exact KX_ BK362.out) hb); have n9_ := Aside0.mk (Kd.C_below (by repeat (first | (with_reducible exact HR369_1.out) | (with_reducible refine Kd.C_alloc ?_ _) | (with_reducible refine Kd.C_drewN ?_ _) | (with_reducible refine Kd.C_drew ?_) | exact HR369_1.out)) hb); have n10_ := Aside0.mk (Kd.C_below (by repeat (first | (with_reducible exact HR370_1.out) | (with_reducible refine Kd.C_alloc ?_ _) | (with_reducible refine Kd.C_drewN ?_ _) | (with_reducible refine Kd.C_drew ?_) | exact HR370_1.out)) hb); have n11_ := Aside0.mk (below_step (B1_) hb); clear HO354; clear HO357; clear HO360; clear HO365; clear HO368; clear HL369_1; clear HL370_1; clear HO373; clear BK362; clear HR369_1; clear HR370_1; clear HB; have HO354 := n0_; have HO357 := n1_; have HO360 := n2_; have HO365 := n3_; have HO368 := n4_; have HL369_1 := n5_; have HL370_1 := n6_; have HO373 := n7_; have BK362 := n8_; have HR369_1 := n9_; have HR370_1 := n10_; have HB := n11_; clear n0_ n1_ n2_ n3_ n4_ n5_ n6_ n7_ n8_ n9_ n10_ n11_; (try clear hb); (try clear hb2); (try clear hk); (try clear hi)))
            go_ret
            exact ⟨by first | rfl | exact congrArg (fun b => Ending.returned (Value.bool b)) HR_.out | (simp [errW_none, errW_some] <;> rfl) | (simp [*, errW_none, errW_some] <;> rfl), B1_⟩
           replace c18 := Bool.eq_false_iff.mpr c18
           subst c18
           have H1 : (some false) = some true := by rw [if_neg (show ¬ (false = true) by decide)] at H; exact H
           clear H
           have H := H1
           clear H1
           exact absurd H (by simp)
          rw [if_neg c16] at H
          have c16b0 : (t377 == 0) = false := beq_eq_false_iff_ne.mpr c16
          have c16b1 : (t377 != 0) = true := bne_iff_ne.mpr c16
          exact absurd H (by simp)
         rw [if_neg c14] at H
         have c14b0 : (t376 == 1) = false := beq_eq_false_iff_ne.mpr c14
         have c14b1 : (t376 != 1) = true := bne_iff_ne.mpr c14
         exact absurd H (by simp)
        rw [if_neg c12] at H
        have c12b0 : (((rd_T48 t366 0).f0) == 2 && (((rd_T48 t366 0).f1) == 1)) = false := by simpa using c12
        (try (have c12b1 : decide (((rd_T48 t366 0).f0) = 2 && (((rd_T48 t366 0).f1) == 1)) = false := by simpa using c12))
        (try (have c12b2 : (((rd_T48 t366 0).f0) == 2 && (((rd_T48 t366 0).f1) == 1)) = false := by simpa using c12))
        (try (have c12b3 : ¬ (((rd_T48 t366 0).f0) = 2 && (((rd_T48 t366 0).f1) == 1)) := by simpa using c12))
        clear c12
        exact absurd H (by simp)
       rw [if_neg c11] at H
       exact absurd H (by simp)
      rw [if_neg c10] at H
      have c10b0 : ((t366.length : Int) == 1) = false := beq_eq_false_iff_ne.mpr c10
      have c10b1 : ((t366.length : Int) != 1) = true := bne_iff_ne.mpr c10
      exact absurd H (by simp)
     replace c9 := Bool.eq_false_iff.mpr c9
     subst c9
     have H1 : (some false) = some true := by rw [if_neg (show ¬ (false = true) by decide)] at H; exact H
     clear H
     have H := H1
     clear H1
     exact absurd H (by simp)
    rw [if_neg c7] at H
    have c7b0 : (((rd_T43 t363 0).f0) == 1) = false := beq_eq_false_iff_ne.mpr c7
    have c7b1 : (((rd_T43 t363 0).f0) != 1) = true := bne_iff_ne.mpr c7
    exact absurd H (by simp)
   rw [if_neg c6] at H
   exact absurd H (by simp)
  rw [if_neg c5] at H
  have c5b0 : ((t363.length : Int) == 1) = false := beq_eq_false_iff_ne.mpr c5
  have c5b1 : ((t363.length : Int) != 1) = true := bne_iff_ne.mpr c5
  exact absurd H (by simp)
 rw [if_neg c4] at H
 have c4b0 : (t361 == 0) = false := beq_eq_false_iff_ne.mpr c4
 have c4b1 : (t361 != 0) = true := bne_iff_ne.mpr c4
 exact absurd H (by simp)


/-! ### lockstepref06_Has: function 12 -/
def lockstepref06_Has.l0 : Nat → List Int → Int → Int → Option (Bool)
 | 0, _, _, _ => none
 | k + 1, x0, x1, x5 => if x5 < (x0.length : Int) then (if 0 ≤ x5 then (if (rd x0 x5) = x1 then (some true) else (lockstepref06_Has.l0 k x0 x1 (wrap64 (x5 + 1)))) else (none)) else (some false)
def lockstepref06_Has.f (k : Nat) (l0 : List Int) (a1 : Int) : Option (Bool) := lockstepref06_Has.l0 k l0 a1 0
theorem lockstepref06_Has.mono_l : ∀ k, (∀ y0 y1 y2, LeO (lockstepref06_Has.l0 k y0 y1 y2) (lockstepref06_Has.l0 (k + 1) y0 y1 y2))
 | 0 => fun _ _ _ r h => by simp [lockstepref06_Has.l0] at h
 | k + 1 => by
  have ih0 := lockstepref06_Has.mono_l k
  ·intro y0 y1 y2
   unfold lockstepref06_Has.l0
   repeat' first
   | (with_reducible exact ih0 _ _ _)
   | (with_reducible exact LeO.refl _)
   | (with_reducible exact LeO.none _)
   | (with_reducible refine LeO.ite ?_ ?_)
   | (with_reducible refine LeO.bind ?_ (fun _ => ?_))
   | exact ih0 _ _ _
   | exact LeO.none _
   | refine LeO.ite ?_ ?_
   | refine LeO.bind ?_ (fun _ => ?_)
theorem lockstepref06_Has.mono : ∀ a0 a1 k, LeO (lockstepref06_Has.f k a0 a1) (lockstepref06_Has.f (k + 1) a0 a1) := by
 intro a0 a1 k
 have ih0 := lockstepref06_Has.mono_l k
 unfold lockstepref06_Has.f
 repeat' first
  | (with_reducible exact ih0 _ _ _)
  | (with_reducible exact LeO.refl _)
  | (with_reducible exact LeO.none _)
  | (with_reducible refine LeO.ite ?_ ?_)
  | (with_reducible refine LeO.bind ?_ (fun _ => ?_))
  | exact ih0 _ _ _
  | exact LeO.none _
  | refine LeO.ite ?_ ?_
  | refine LeO.bind ?_ (fun _ => ?_)
set_option maxHeartbeats 8000000 in
set_option maxRecDepth 100000 in
theorem lockstepref06_Has.calls (k : Nat) (A0 : Option Addr) (c0 : Nat) (l0 : List Int) (a1 : Int) (r : Bool) (w : World) (hr0 : Kd.C (Kd.int .i64) w A0 l0.length l0) (hc0 : l0.length ≤ c0) (h : lockstepref06_Has.f k l0 a1 = some r) :
 Calls Try.prog 12 #[.slice A0 l0.length c0, .int .i64 a1] w fun e w' => e = .returned (.bool r) ∧ Drawn0 w w' := by
 have HR0 := Aside0.mk hr0
 have HC0 := Aside0.mk hc0
 clear hr0 hc0
 have H : (lockstepref06_Has.l0 k l0 a1 0) = some r := h
 clear h
 have H' := Aside0.mk H
 clear H
 go_enter Try.func12, Try.ntmps12
 go_wp2
 go_loopg [5] k (fun kq v5 w' => ∃ (x5_1 : Int), v5 = .int .i64 x5_1 ∧ Aside0 (lockstepref06_Has.l0 kq l0 a1 x5_1 = some r) ∧ Aside0 (kq ≤ k) ∧ Drawn0 w w')
 case atStart => exact ⟨(0), (by first | rfl | (simp; done) | (simp [*]; done)), H', ⟨Nat.le_refl _⟩, by repeat (first | exact Drawn0.refl _ | apply Drawn0.step)⟩
 case round =>
  clear H'
  obtain ⟨x5_1, rfl, HA, HK1, ⟨m1, rfl⟩⟩ := hrel
  cases gk with
  | zero => exact absurd HA.out (by simp [lockstepref06_Has.l0])
  | succ k1 =>
   have H := HA.out
   clear HA
   simp only [lockstepref06_Has.l0] at H
   by_cases c3 : x5_1 < (l0.length : Int)
   ·rw [if_pos c3] at H
    have c3b0 : decide (x5_1 < (l0.length : Int)) = true := decide_eq_true c3
    clear c3
    by_cases c4 : 0 ≤ x5_1
    ·rw [if_pos c4] at H
     have c4b0 : decide (0 ≤ x5_1) = true := decide_eq_true c4
     clear c4
     by_cases c5 : (rd l0 x5_1) = a1
     ·rw [if_pos c5] at H
      have c5b0 : ((rd l0 x5_1) == a1) = true := beq_iff_eq.mpr c5
      have c5b1 : ((rd l0 x5_1) != a1) = false := bne_eq_false_iff_eq.mpr c5
      clear c5
      obtain rfl := Option.some.inj H
      have p380 : 0 ≤ (x5_1 : Int) := D_
      have q380 : x5_1 < (l0.length : Int) := D_
      obtain ⟨ad380, e380, hx380_0⟩ := Kd.at_int HR0.out x5_1 p380 q380
      cases e380
      replace p380 := eq_true p380
      replace q380 := eq_true q380
      go_wp2
      go_ret
      exact ⟨by first | rfl | (simp; done) | (simp [*]; done), by repeat (first | exact Drawn0.refl _ | apply Drawn0.step)⟩
     rw [if_neg c5] at H
     have c5b0 : ((rd l0 x5_1) == a1) = false := beq_eq_false_iff_ne.mpr c5
     have c5b1 : ((rd l0 x5_1) != a1) = true := bne_iff_ne.mpr c5
     have H' := Aside0.mk H
     clear H
     have p380 : 0 ≤ (x5_1 : Int) := D_
     have q380 : x5_1 < (l0.length : Int) := D_
     obtain ⟨ad380, e380, hx380_0⟩ := Kd.at_int HR0.out x5_1 p380 q380
     cases e380
     replace p380 := eq_true p380
     replace q380 := eq_true q380
     go_wp2
     go_roundg k1
     case measure => have := HK1.out; omega
     case rel => exact ⟨(wrap64 (x5_1 + 1)), (by first | rfl | (simp; done) | (simp [*]; done)), H', ⟨by have := HK1.out; omega⟩, by repeat (first | exact Drawn0.refl _ | apply Drawn0.step)⟩
    rw [if_neg c4] at H
    exact absurd H (by simp)
   rw [if_neg c3] at H
   have c3b0 : decide (x5_1 < (l0.length : Int)) = false := decide_eq_false c3
   clear c3
   obtain rfl := Option.some.inj H
   go_wp2
   go_ret
   exact ⟨by first | rfl | (simp; done) | (simp [*]; done), by repeat (first | exact Drawn0.refl _ | apply Drawn0.step)⟩


/-! ### lockstepref06_Reach: function 14 -/
mutual
def lockstepref06_Reach.l0 : Nat → Int → List Bool → Int → List (List Int) → List (List Int) → Option (List Bool)
 | 0, _, _, _, _, _ => none
 | k + 1, x2, x7, x8, x421000, x421001 => if x8 < (x7.length : Int) then (lockstepref06_Reach.l1 k x2 x7 x8 0 x421000 x421001) else (some x7)
def lockstepref06_Reach.l1 : Nat → Int → List Bool → Int → Int → List (List Int) → List (List Int) → Option (List Bool)
 | 0, _, _, _, _, _, _ => none
 | k + 1, x2, x7, x8, x9, x421000, x421001 => if x9 < (x7.length : Int) then (lockstepref06_Reach.l2 k x2 x7 x8 x9 0 x421000 x421001) else (lockstepref06_Reach.l0 k x2 x7 (wrap64 (x8 + 1)) x421000 x421001)
def lockstepref06_Reach.l2 : Nat → Int → List Bool → Int → Int → Int → List (List Int) → List (List Int) → Option (List Bool)
 | 0, _, _, _, _, _, _, _ => none
 | k + 1, x2, x7, x8, x9, x10, x421000, x421001 => if 0 ≤ x9 then (if x9 < (x7.length : Int) then (if rdOf false x7 x9 = true then (if x9 < (x421000.length : Int) then (lockstepref06_Reach.j3 k x2 x7 x8 x9 x10 (decide (x10 < ((rd_L1 x421000 x9).length : Int))) x421000 x421001) else (none)) else (lockstepref06_Reach.j3 k x2 x7 x8 x9 x10 false x421000 x421001)) else (none)) else (none)
def lockstepref06_Reach.j3 : Nat → Int → List Bool → Int → Int → Int → Bool → List (List Int) → List (List Int) → Option (List Bool)
 | 0, _, _, _, _, _, _, _, _ => none
 | k + 1, x2, x7, x8, x9, x10, x47, x421000, x421001 => if x47 = true then (if 0 ≤ x9 then (if x9 < (x421000.length : Int) then (if 0 ≤ x10 then (if x10 < ((rd_L1 x421000 x9).length : Int) then (if (rd (rd_L1 x421000 x9) x10) = x2 then (lockstepref06_Reach.l2 k x2 x7 x8 x9 (wrap64 (x10 + 1)) x421000 x421001) else (if 0 ≤ (rd (rd_L1 x421000 x9) x10) then (if (rd (rd_L1 x421000 x9) x10) < (x7.length : Int) then (lockstepref06_Reach.l2 k x2 (x7.set ((rd (rd_L1 x421000 x9) x10) : Int).toNat true) x8 x9 (wrap64 (x10 + 1)) x421000 x421001) else (none)) else (none))) else (none)) else (none)) else (none)) else (none)) else (lockstepref06_Reach.l1 k x2 x7 x8 (wrap64 (x9 + 1)) x421000 x421001)
end
def lockstepref06_Reach.f (k : Nat) (l0_0 : List (List Int)) (l0_1 : List (List Int)) (a1 : Int) (a2 : Int) : Option (List Bool) := if 0 ≤ (l0_0.length : Int) then (if ((l0_0.length : Int) : Int).toNat ≤ 281474976710656 then ((some (List.replicate ((l0_0.length : Int) : Int).toNat false : List Bool)).bind fun y421 => (if a1 = a2 then (some y421) else (if 0 ≤ a1 then (if a1 < (y421.length : Int) then (lockstepref06_Reach.l0 k a2 (y421.set (a1 : Int).toNat true) 0 l0_0 l0_1) else (none)) else (none)))) else (none)) else (none)
theorem lockstepref06_Reach.mono_l : ∀ k, (∀ y0 y1 y2 y3 y4, LeO (lockstepref06_Reach.l0 k y0 y1 y2 y3 y4) (lockstepref06_Reach.l0 (k + 1) y0 y1 y2 y3 y4)) ∧ (∀ y0 y1 y2 y3 y4 y5, LeO (lockstepref06_Reach.l1 k y0 y1 y2 y3 y4 y5) (lockstepref06_Reach.l1 (k + 1) y0 y1 y2 y3 y4 y5)) ∧ (∀ y0 y1 y2 y3 y4 y5 y6, LeO (lockstepref06_Reach.l2 k y0 y1 y2 y3 y4 y5 y6) (lockstepref06_Reach.l2 (k + 1) y0 y1 y2 y3 y4 y5 y6)) ∧ (∀ y0 y1 y2 y3 y4 y5 y6 y7, LeO (lockstepref06_Reach.j3 k y0 y1 y2 y3 y4 y5 y6 y7) (lockstepref06_Reach.j3 (k + 1) y0 y1 y2 y3 y4 y5 y6 y7))
 | 0 => ⟨fun _ _ _ _ _ r h => by simp [lockstepref06_Reach.l0] at h, fun _ _ _ _ _ _ r h => by simp [lockstepref06_Reach.l1] at h, fun _ _ _ _ _ _ _ r h => by simp [lockstepref06_Reach.l2] at h, fun _ _ _ _ _ _ _ _ r h => by simp [lockstepref06_Reach.j3] at h⟩
 | k + 1 => by
  obtain ⟨ih0, ih1, ih2, ih3⟩ := lockstepref06_Reach.mono_l k
  refine ⟨?_, ?_, ?_, ?_⟩
  ·intro y0 y1 y2 y3 y4
   unfold lockstepref06_Reach.l0
   repeat' first
   | (with_reducible exact ih0 _ _ _ _ _)
   | (with_reducible exact ih1 _ _ _ _ _ _)
   | (with_reducible exact ih2 _ _ _ _ _ _ _)
   | (with_reducible exact ih3 _ _ _ _ _ _ _ _)
   | (with_reducible exact LeO.refl _)
   | (with_reducible exact LeO.none _)
   | (with_reducible refine LeO.ite ?_ ?_)
   | (with_reducible refine LeO.bind ?_ (fun _ => ?_))
   | exact ih0 _ _ _ _ _
   | exact ih1 _ _ _ _ _ _
   | exact ih2 _ _ _ _ _ _ _
   | exact ih3 _ _ _ _ _ _ _ _
   | exact LeO.none _
   | refine LeO.ite ?_ ?_
   | refine LeO.bind ?_ (fun _ => ?_)
  ·intro y0 y1 y2 y3 y4 y5
   unfold lockstepref06_Reach.l1
   repeat' first
   | (with_reducible exact ih0 _ _ _ _ _)
   | (with_reducible exact ih1 _ _ _ _ _ _)
   | (with_reducible exact ih2 _ _ _ _ _ _ _)
   | (with_reducible exact ih3 _ _ _ _ _ _ _ _)
   | (with_reducible exact LeO.refl _)
   | (with_reducible exact LeO.none _)
   | (with_reducible refine LeO.ite ?_ ?_)
   | (with_reducible refine LeO.bind ?_ (fun _ => ?_))
   | exact ih0 _ _ _ _ _
   | exact ih1 _ _ _ _ _ _
   | exact ih2 _ _ _ _ _ _ _
   | exact ih3 _ _ _ _ _ _ _ _
   | exact LeO.none _
   | refine LeO.ite ?_ ?_
   | refine LeO.bind ?_ (fun _ => ?_)
  ·intro y0 y1 y2 y3 y4 y5 y6
   unfold lockstepref06_Reach.l2
   repeat' first
   | (with_reducible exact ih0 _ _ _ _ _)
   | (with_reducible exact ih1 _ _ _ _ _ _)
   | (with_reducible exact ih2 _ _ _ _ _ _ _)
   | (with_reducible exact ih3 _ _ _ _ _ _ _ _)
   | (with_reducible exact LeO.refl _)
   | (with_reducible exact LeO.none _)
   | (with_reducible refine LeO.ite ?_ ?_)
   | (with_reducible refine LeO.bind ?_ (fun _ => ?_))
   | exact ih0 _ _ _ _ _
   | exact ih1 _ _ _ _ _ _
   | exact ih2 _ _ _ _ _ _ _
   | exact ih3 _ _ _ _ _ _ _ _
   | exact LeO.none _
   | refine LeO.ite ?_ ?_
   | refine LeO.bind ?_ (fun _ => ?_)
  ·intro y0 y1 y2 y3 y4 y5 y6 y7
   unfold lockstepref06_Reach.j3
   repeat' first
   | (with_reducible exact ih0 _ _ _ _ _)
   | (with_reducible exact ih1 _ _ _ _ _ _)
   | (with_reducible exact ih2 _ _ _ _ _ _ _)
   | (with_reducible exact ih3 _ _ _ _ _ _ _ _)
   | (with_reducible exact LeO.refl _)
   | (with_reducible exact LeO.none _)
   | (with_reducible refine LeO.ite ?_ ?_)
   | (with_reducible refine LeO.bind ?_ (fun _ => ?_))
   | exact ih0 _ _ _ _ _
   | exact ih1 _ _ _ _ _ _
   | exact ih2 _ _ _ _ _ _ _
   | exact ih3 _ _ _ _ _ _ _ _
   | exact LeO.none _
   | refine LeO.ite ?_ ?_
   | refine LeO.bind ?_ (fun _ => ?_)
theorem lockstepref06_Reach.mono : ∀ a0 a1 a2 a3 k, LeO (lockstepref06_Reach.f k a0 a1 a2 a3) (lockstepref06_Reach.f (k + 1) a0 a1 a2 a3) := by
 intro a0 a1 a2 a3 k
 obtain ⟨ih0, ih1, ih2, ih3⟩ := lockstepref06_Reach.mono_l k
 unfold lockstepref06_Reach.f
 repeat' first
  | (with_reducible exact ih0 _ _ _ _ _)
  | (with_reducible exact ih1 _ _ _ _ _ _)
  | (with_reducible exact ih2 _ _ _ _ _ _ _)
  | (with_reducible exact ih3 _ _ _ _ _ _ _ _)
  | (with_reducible exact LeO.refl _)
  | (with_reducible exact LeO.none _)
  | (with_reducible refine LeO.ite ?_ ?_)
  | (with_reducible refine LeO.bind ?_ (fun _ => ?_))
  | exact ih0 _ _ _ _ _
  | exact ih1 _ _ _ _ _ _
  | exact ih2 _ _ _ _ _ _ _
  | exact ih3 _ _ _ _ _ _ _ _
  | exact LeO.none _
  | refine LeO.ite ?_ ?_
  | refine LeO.bind ?_ (fun _ => ?_)
set_option maxHeartbeats 8000000 in
set_option maxRecDepth 100000 in
theorem lockstepref06_Reach.calls (k : Nat) (A0_0 : Option Addr) (c0_0 : Nat) (l0_0 : List (List Int)) (A0_1 : Option Addr) (c0_1 : Nat) (l0_1 : List (List Int)) (a1 : Int) (a2 : Int) (r : List Bool) (w : World) (hr0_0 : Kd.C (Kd.slice 3 (Kd.int .i64)) w A0_0 l0_0.length l0_0) (hc0_0 : l0_0.length ≤ c0_0) (hr0_1 : Kd.C (Kd.slice 3 (Kd.int .i64)) w A0_1 l0_1.length l0_1) (hc0_1 : l0_1.length ≤ c0_1) (h : lockstepref06_Reach.f k l0_0 l0_1 a1 a2 = some r) :
 Calls Try.prog 14 #[.agg #[.slice A0_0 l0_0.length c0_0, .slice A0_1 l0_1.length c0_1], .int .i64 a1, .int .i64 a2] w fun e w' => ∃ v0_ : Value, e = .returned (v0_) ∧ Kd.R Kd.bool 4 w' w.heap.size (fun _ => True) v0_ r ∧ Below w.heap.size w w' := by
 have hu26 := Try.underlying26
 have HR0_0 := Aside0.mk hr0_0
 have HC0_0 := Aside0.mk hc0_0
 clear hr0_0 hc0_0
 have HR0_1 := Aside0.mk hr0_1
 have HC0_1 := Aside0.mk hc0_1
 clear hr0_1 hc0_1
 have HB := Aside0.mk (Below.refl w.heap.size w)
 have H : (if 0 ≤ (l0_0.length : Int) then (if ((l0_0.length : Int) : Int).toNat ≤ 281474976710656 then ((some (List.replicate ((l0_0.length : Int) : Int).toNat false : List Bool)).bind fun y421 => (if a1 = a2 then (some y421) else (if 0 ≤ a1 then (if a1 < (y421.length : Int) then (lockstepref06_Reach.l0 k a2 (y421.set (a1 : Int).toNat true) 0 l0_0 l0_1) else (none)) else (none)))) else (none)) else (none)) = some r := h
 clear h
 by_cases c4 : 0 ≤ (l0_0.length : Int)
 ·rw [if_pos c4] at H
  have c4b0 := eq_true c4
  have c4b1 : decide (0 ≤ (l0_0.length : Int)) = true := decide_eq_true c4
  clear c4
  by_cases c5 : ((l0_0.length : Int) : Int).toNat ≤ 281474976710656
  ·rw [if_pos c5] at H
   have c5b0 := eq_true c5
   have c5b1 : decide (((l0_0.length : Int) : Int).toNat ≤ 281474976710656) = true := decide_eq_true c5
   clear c5
   obtain ⟨y421, hy421⟩ : ∃ y_ : List Bool, y_ = (List.replicate ((l0_0.length : Int) : Int).toNat false) := ⟨_, rfl⟩
   replace H : (if a1 = a2 then (some y421) else (if 0 ≤ a1 then (if a1 < (y421.length : Int) then (lockstepref06_Reach.l0 k a2 (y421.set (a1 : Int).toNat true) 0 l0_0 l0_1) else (none)) else (none))) = some r := by first | (rw [hy421]; with_reducible exact H) | (have H2_ := (Option.bind_some _ _).symm.trans H; rw [hy421]; with_reducible exact H2_) | (have H2_ := (Option.bind_some _ _).symm.trans H; with_reducible exact H2_) | with_reducible exact H | (rw [hy421]; exact H) | exact H
   have Ny421 := Aside0.mk hy421
   clear hy421
   by_cases c6 : a1 = a2
   ·rw [if_pos c6] at H
    have c6b0 : (a1 == a2) = true := beq_iff_eq.mpr c6
    have c6b1 : (a1 != a2) = false := bne_eq_false_iff_eq.mpr c6
    clear c6
    obtain rfl := Option.some.inj H
    go_enter Try.func14, Try.ntmps14
    go_wp2_with (first | ((with_reducible refine gate_dst (N := 3) rfl ?_); (try (refine gate_guard (by rfl) ?_; dsimp only)); refine box_event ?hg (N := 3) ?hd (cs := #[.slice A0_0 l0_0.length c0_0, .slice A0_1 l0_1.length c0_1]) (t := 26) ?hr ?_; (case hd => rfl); (case hg => rfl); (case hr => first | (go_simp; done) | (go_simp; rfl)); intro gb420 hg w7 hbox hb; have n0_ := Aside0.mk (below_step (B_) hb); have n1_ := Aside0.mk (hbox); have n2_ := Aside0.mk ((by rw [hg]; exact (below_size (B_)) : w.heap.size ≤ gb420)); have n3_ := Aside0.mk ((by rw [hg]; exact (below_size (B_)) : w.heap.size ≤ gb420)); clear HB; have HB := n0_; have BK420 := n1_; have GW420 := n2_; have GE420 := n3_; clear n0_ n1_ n2_ n3_; clear hb hbox hg; have hcz8_0 : w7.cell? ⟨gb420, 0, none⟩ = some (.slice A0_0 l0_0.length c0_0) := (blk_cell BK420.out 0).trans rfl; have hcz8_1 : w7.cell? ⟨gb420, 1, none⟩ = some (.slice A0_1 l0_1.length c0_1) := (blk_cell BK420.out 1).trans rfl; have hfz8_0 := blk_frozen BK420.out 0; have hfz8_1 := blk_frozen BK420.out 1) | ((with_reducible refine gate_dst (N := 14) rfl ?_); (try (refine gate_guard (by rfl) ?_; dsimp only)); refine Kd.R_make Kd.bool _ 4 rfl (N := 14) rfl 33 _ _ rfl (l0_0.length : Int) rfl rfl Try.underlying33 (.bool false) 1 info4 rfl (by decide) (by omega) false (ok := fun _ => True) (okp := fun _ => True) rfl (fun _ hk => hk) trivial (D_) (Nat.le_trans (Nat.mul_le_mul_right _ (D_ : (l0_0.length : Int).toNat ≤ 281474976710656)) (by omega)) (Below.refl _ _) (Nat.le_refl _) ?_; intro v422 w9 ho10 hb hg_ hnew_; clear hg_ hnew_; (first | rw [← Ny421.out] at ho10 | (simp only [Int.reduceToNat] at ho10; rw [← Ny421.out] at ho10)); have n0_ := Aside0.mk (Kd.R_lower ho10 (below_size (B1_))); have n1_ := Aside0.mk (blk_below (g := gb420) (o := .cells #[.slice A0_0 l0_0.length c0_0, .slice A0_1 l0_1.length c0_1] 26 (0, 0)) (by exact KX_ BK420.out) hb); have n2_ := Aside0.mk (below_step (B1_) hb); clear BK420; clear HB; have HO423 := n0_; have BK420 := n1_; have HB := n2_; clear n0_ n1_ n2_; clear hb ho10))
    go_ret
    exact ⟨_, by first | rfl | (simp [errW_none, errW_some] <;> rfl) | (simp [*, errW_none, errW_some] <;> rfl), by exact RX_ HO423.out, B1_⟩
   rw [if_neg c6] at H
   have c6b0 : (a1 == a2) = false := beq_eq_false_iff_ne.mpr c6
   have c6b1 : (a1 != a2) = true := bne_iff_ne.mpr c6
   by_cases c11 : 0 ≤ a1
   ·rw [if_pos c11] at H
    have c11b0 : decide (0 ≤ a1) = true := decide_eq_true c11
    clear c11
    by_cases c12 : a1 < (y421.length : Int)
    ·rw [if_pos c12] at H
     have c12b0 : decide (a1 < (y421.length : Int)) = true := decide_eq_true c12
     clear c12
     obtain ⟨y424, hy424⟩ : ∃ y_ : List Bool, y_ = (y421.set (a1 : Int).toNat true) := ⟨_, rfl⟩
     replace H : (lockstepref06_Reach.l0 k a2 y424 0 l0_0 l0_1) = some r := by first | (rw [hy424]; with_reducible exact H) | (have H2_ := (Option.bind_some _ _).symm.trans H; rw [hy424]; with_reducible exact H2_) | (have H2_ := (Option.bind_some _ _).symm.trans H; with_reducible exact H2_) | with_reducible exact H | (rw [hy424]; exact H) | exact H
     have Ny424 := Aside0.mk hy424
     clear hy424
     have H' := Aside0.mk H
     clear H
     go_enter Try.func14, Try.ntmps14
     go_wp2_with (first | ((with_reducible refine gate_dst (N := 3) rfl ?_); (try (refine gate_guard (by rfl) ?_; dsimp only)); refine box_event ?hg (N := 3) ?hd (cs := #[.slice A0_0 l0_0.length c0_0, .slice A0_1 l0_1.length c0_1]) (t := 26) ?hr ?_; (case hd => rfl); (case hg => rfl); (case hr => first | (go_simp; done) | (go_simp; rfl)); intro gb420 hg w14 hbox hb; have n0_ := Aside0.mk (below_step (B_) hb); have n1_ := Aside0.mk (hbox); have n2_ := Aside0.mk ((by rw [hg]; exact (below_size (B_)) : w.heap.size ≤ gb420)); have n3_ := Aside0.mk ((by rw [hg]; exact (below_size (B_)) : w.heap.size ≤ gb420)); clear HB; have HB := n0_; have BK420 := n1_; have GW420 := n2_; have GE420 := n3_; clear n0_ n1_ n2_ n3_; clear hb hbox hg; have hcz15_0 : w14.cell? ⟨gb420, 0, none⟩ = some (.slice A0_0 l0_0.length c0_0) := (blk_cell BK420.out 0).trans rfl; have hcz15_1 : w14.cell? ⟨gb420, 1, none⟩ = some (.slice A0_1 l0_1.length c0_1) := (blk_cell BK420.out 1).trans rfl; have hfz15_0 := blk_frozen BK420.out 0; have hfz15_1 := blk_frozen BK420.out 1) | ((with_reducible refine gate_dst (N := 14) rfl ?_); (try (refine gate_guard (by rfl) ?_; dsimp only)); refine Kd.R_make Kd.bool _ 4 rfl (N := 14) rfl 33 _ _ rfl (l0_0.length : Int) rfl rfl Try.underlying33 (.bool false) 1 info4 rfl (by decide) (by omega) false (ok := fun _ => True) (okp := fun _ => True) rfl (fun _ hk => hk) trivial (D_) (Nat.le_trans (Nat.mul_le_mul_right _ (D_ : (l0_0.length : Int).toNat ≤ 281474976710656)) (by omega)) (Below.refl _ _) (Nat.le_refl _) ?_; intro v422 w16 ho17 hb hg_ hnew_; clear hg_ hnew_; (first | rw [← Ny421.out] at ho17 | (simp only [Int.reduceToNat] at ho17; rw [← Ny421.out] at ho17)); have n0_ := Aside0.mk (Kd.R_lower ho17 (below_size (B1_))); have n1_ := Aside0.mk (blk_below (g := gb420) (o := .cells #[.slice A0_0 l0_0.length c0_0, .slice A0_1 l0_1.length c0_1] 26 (0, 0)) (by exact KX_ BK420.out) hb); have n2_ := Aside0.mk (below_step (B1_) hb); clear BK420; clear HB; have HO423 := n0_; have BK420 := n1_; have HB := n2_; clear n0_ n1_ n2_; clear hb ho17; have p13 : 0 ≤ (a1 : Int) := D_; have q13 : (a1 : Int) < ((y421.length : Int) : Int) := D_; obtain ⟨go13, co13, eo13, gb13, gl13, cl13, HG13⟩ := Kd.R_form HO423.out (by omega); (first | cases eo13 | (injection eo13 with ea_ en_ ec_; (first | subst ea_ | (injection ea_ with ea_; subst ea_)); subst ec_; clear en_)); have GB13 := Aside0.mk gb13; have GG13 := Aside0.mk HG13; clear gb13 gl13 HG13; obtain ⟨hx13_0, hf13_0⟩ := Kd.R_celln false HO423.out (a1 : Int) p13 q13; replace p13 := eq_true p13; replace q13 := eq_true q13; obtain ⟨hy18_, hz18_⟩ := Kd.R_celln false HO423.out (a1 : Int) (D_) (D_); have HP18 := Kd.R_putg HO423.out (a1 : Int) true) | ((with_reducible refine gate_store (t := 4) (p := 21) rfl ?_); refine store_event (t := 4) (p := 21) (v := ?vo_w19) (w1 := (w16.setCell ⟨go13, (a1 : Int).toNat, none⟩ (.bool true))) ?hg ?ho ?hn ?hr ?_; (case ho => rfl); (case hg => rfl); (case hn => rfl); (case hr => first | (go_simp; done) | (go_simp; rfl)); intro w19 hw; have hg : w16.grownBy w19 (some go13) := (by rw [hw]; exact HP18.2); have hp_ : Kd.R Kd.bool 4 w19 w.heap.size (fun _ => True) (.slice (some ⟨go13, 0, none⟩) y421.length co13) y424 := (by rw [hw, Ny424.out]; exact HP18.1); clear HP18; have n0_ := Aside0.mk (blk_grown (g := gb420) (o := .cells #[.slice A0_0 l0_0.length c0_0, .slice A0_1 l0_1.length c0_1] 26 (0, 0)) (by exact KX_ BK420.out) hg (Kd.R_ne HO423.out BK420.out (by decide))); have n1_ := Aside0.mk (hp_); have n2_ := Aside0.mk ((by rw [hw]; exact below_set (HB.out) GB13.out : Below w.heap.size w w19)); clear BK420; clear HO423; clear HB; have BK420 := n0_; have HO423 := n1_; have HB := n2_; clear n0_ n1_ n2_; clear hg hw hp_))
     go_loopg [8] k (fun kq v8 w' => ∃ (x7_1 : List Bool) (x8_1 : Int), v8 = .int .i64 x8_1 ∧ Aside0 (lockstepref06_Reach.l0 kq a2 x7_1 x8_1 l0_0 l0_1 = some r) ∧ Aside0 (kq ≤ k) ∧ Aside0 (Kd.R Kd.bool 4 w' w.heap.size (fun _ => True) (.slice (some ⟨go13, 0, none⟩) y421.length co13) x7_1) ∧ Aside0 (w'.heap[gb420]? = some (.cells #[(.slice A0_0 l0_0.length c0_0), (.slice A0_1 l0_1.length c0_1)] 26 (0, 0))) ∧ Aside0 (Below w.heap.size w w'))
     case atStart => exact ⟨(y424), (0), (by first | rfl | (simp; done) | (simp [*]; done)), H', ⟨Nat.le_refl _⟩, ⟨by exact RM_ HO423.out⟩, ⟨by exact KX_ BK420.out⟩, ⟨B1_⟩⟩
     case round =>
      clear H'
      try clear c4b0
      try clear c4b1
      try clear c5b0
      try clear c5b1
      try clear c6
      try clear c6b0
      try clear c6b1
      try clear c11b0
      try clear c12b0
      try clear p13
      try clear q13
      try clear hcz15_0
      try clear hcz15_1
      try clear hfz15_0
      try clear hfz15_1
      try clear hx13_0
      try clear p13
      try clear q13
      obtain ⟨x7_1, x8_1, rfl, HA, HK1, HO_7, BK420, HB⟩ := hrel
      have hl7_1 := (Kd.R_reads' HO_7.out).1
      rw [hl7_1] at HO_7
      (try simp only [hl7_1])
      (try simp only [hl7_1] at BK420)
      cases gk with
      | zero => exact absurd HA.out (by simp [lockstepref06_Reach.l0])
      | succ k1 =>
       have H := HA.out
       clear HA
       simp only [lockstepref06_Reach.l0] at H
       by_cases c20 : x8_1 < (x7_1.length : Int)
       ·rw [if_pos c20] at H
        have c20b0 : decide (x8_1 < (x7_1.length : Int)) = true := decide_eq_true c20
        clear c20
        have H' := Aside0.mk H
        clear H
        go_wp2
        go_loopg [9] k1 (fun kq v9 w' => ∃ (x7_2 : List Bool) (x9_2 : Int), v9 = .int .i64 x9_2 ∧ Aside0 (lockstepref06_Reach.l1 kq a2 x7_2 x8_1 x9_2 l0_0 l0_1 = some r) ∧ Aside0 (kq ≤ k1) ∧ Aside0 (Kd.R Kd.bool 4 w' w.heap.size (fun _ => True) (.slice (some ⟨go13, 0, none⟩) x7_1.length co13) x7_2) ∧ Aside0 (w'.heap[gb420]? = some (.cells #[(.slice A0_0 l0_0.length c0_0), (.slice A0_1 l0_1.length c0_1)] 26 (0, 0))) ∧ Aside0 (Below w.heap.size w w'))
        case atStart => exact ⟨(x7_1), (0), (by first | rfl | (simp; done) | (simp [*]; done)), H', ⟨Nat.le_refl _⟩, ⟨by (try simp only [hl7_1]); exact RM_ HO_7.out⟩, ⟨by (try simp only [hl7_1]); exact KX_ BK420.out⟩, ⟨B1_⟩⟩
        case round =>
         clear H'
         try clear c20b0
         obtain ⟨x7_2, x9_2, rfl, HA, HK2, HO_7, BK420, HB⟩ := hrel
         have hl7_2 := (Kd.R_reads' HO_7.out).1
         rw [hl7_2] at HO_7
         (try simp only [hl7_2])
         (try simp only [hl7_2] at BK420)
         cases gk with
         | zero => exact absurd HA.out (by simp [lockstepref06_Reach.l1])
         | succ k2 =>
          have H := HA.out
          clear HA
          simp only [lockstepref06_Reach.l1] at H
          by_cases c21 : x9_2 < (x7_2.length : Int)
          ·rw [if_pos c21] at H
           have c21b0 : decide (x9_2 < (x7_2.length : Int)) = true := decide_eq_true c21
           clear c21
           have H' := Aside0.mk H
           clear H
           go_wp2
           go_loopg [10] k2 (fun kq v10 w' => ∃ (x7_3 : List Bool) (x10_3 : Int), v10 = .int .i64 x10_3 ∧ Aside0 (lockstepref06_Reach.l2 kq a2 x7_3 x8_1 x9_2 x10_3 l0_0 l0_1 = some r) ∧ Aside0 (kq ≤ k2) ∧ Aside0 (Kd.R Kd.bool 4 w' w.heap.size (fun _ => True) (.slice (some ⟨go13, 0, none⟩) x7_2.length co13) x7_3) ∧ Aside0 (w'.heap[gb420]? = some (.cells #[(.slice A0_0 l0_0.length c0_0), (.slice A0_1 l0_1.length c0_1)] 26 (0, 0))) ∧ Aside0 (Below w.heap.size w w'))
           case atStart => exact ⟨(x7_2), (0), (by first | rfl | (simp; done) | (simp [*]; done)), H', ⟨Nat.le_refl _⟩, ⟨by (try simp only [hl7_1]); (try simp only [hl7_2]); exact RM_ HO_7.out⟩, ⟨by (try simp only [hl7_1]); (try simp only [hl7_2]); exact KX_ BK420.out⟩, ⟨B1_⟩⟩
           case round =>
            clear H'
            try clear c21b0
            obtain ⟨x7_3, x10_3, rfl, HA, HK3, HO_7, BK420, HB⟩ := hrel
            have hl7_3 := (Kd.R_reads' HO_7.out).1
            rw [hl7_3] at HO_7
            (try simp only [hl7_3])
            (try simp only [hl7_3] at BK420)
            cases gk with
            | zero => exact absurd HA.out (by simp [lockstepref06_Reach.l2])
            | succ k3 =>
             have H := HA.out
             clear HA
             simp only [lockstepref06_Reach.l2] at H
             have HC22 := Aside0.mk H
             clear H
             go_upto_region 12 with (fail)
             go_cut [47] (fun v47 wc => ∃ (kq : Nat) (x47_21 : Bool), v47 = .bool x47_21 ∧ Aside0 (lockstepref06_Reach.j3 kq a2 x7_3 x8_1 x9_2 x10_3 x47_21 l0_0 l0_1 = some r) ∧ Aside0 (kq ≤ k3) ∧ Aside0 (Kd.R Kd.bool 4 wc w.heap.size (fun _ => True) (.slice (some ⟨go13, 0, none⟩) x7_3.length co13) x7_3) ∧ Aside0 (wc.heap[gb420]? = some (.cells #[(.slice A0_0 l0_0.length c0_0), (.slice A0_1 l0_1.length c0_1)] 26 (0, 0))) ∧ Aside0 (Below w.heap.size w wc))
             case first =>
              have H := HC22.out
              clear HC22
              by_cases c23 : 0 ≤ x9_2
              ·rw [if_pos c23] at H
               have c23b0 : decide (0 ≤ x9_2) = true := decide_eq_true c23
               clear c23
               (first | rw [c23b0] | (simp only [i64_w, i32_w]; rw [c23b0]) | skip)
               by_cases c24 : x9_2 < (x7_3.length : Int)
               ·rw [if_pos c24] at H
                have c24b0 : decide (x9_2 < (x7_3.length : Int)) = true := decide_eq_true c24
                clear c24
                obtain ⟨bq25, hbq25⟩ : ∃ b_ : Bool, b_ = (rdOf false x7_3 x9_2) := ⟨_, rfl⟩
                replace H : (if bq25 = true then (if x9_2 < (l0_0.length : Int) then (lockstepref06_Reach.j3 k3 a2 x7_3 x8_1 x9_2 x10_3 (decide (x10_3 < ((rd_L1 l0_0 x9_2).length : Int))) l0_0 l0_1) else (none)) else (lockstepref06_Reach.j3 k3 a2 x7_3 x8_1 x9_2 x10_3 false l0_0 l0_1)) = some r := by rw [← hbq25] at H; exact H
                have Nbq25 := Aside0.mk hbq25
                clear hbq25
                by_cases c26 : bq25 = true
                ·subst c26
                 have H1 : (if x9_2 < (l0_0.length : Int) then (lockstepref06_Reach.j3 k3 a2 x7_3 x8_1 x9_2 x10_3 (decide (x10_3 < ((rd_L1 l0_0 x9_2).length : Int))) l0_0 l0_1) else (none)) = some r := by rw [if_pos rfl] at H; exact H
                 clear H
                 have H := H1
                 clear H1
                 by_cases c27 : x9_2 < (l0_0.length : Int)
                 ·rw [if_pos c27] at H
                  have c27b0 : decide (x9_2 < (l0_0.length : Int)) = true := decide_eq_true c27
                  clear c27
                  have H' := Aside0.mk H
                  clear H
                  have p425 : 0 ≤ (x9_2 : Int) := D_
                  have q425 : x9_2 < (x7_3.length : Int) := D_
                  obtain ⟨ad425, e425, hx425_0⟩ := Kd.at_bool (Kd.R_reads' HO_7.out).2.2 x9_2 p425 q425
                  (try rw [← Nbq25.out] at hx425_0)
                  obtain rfl : (⟨go13, 0, none⟩ : Addr) = ad425 := (by injection e425)
                  (first | simp only [add_plain] at hx425_0 | simp only [add_at] at hx425_0 | simp only [Addr.add, Nat.zero_add] at hx425_0 | skip)
                  replace p425 := eq_true p425
                  replace q425 := eq_true q425
                  have hcz28_0 : wr.cell? ⟨gb420, 0, none⟩ = some (.slice A0_0 l0_0.length c0_0) := (blk_cell BK420.out 0).trans rfl
                  have hcz28_1 : wr.cell? ⟨gb420, 1, none⟩ = some (.slice A0_1 l0_1.length c0_1) := (blk_cell BK420.out 1).trans rfl
                  have hfz28_0 := blk_frozen BK420.out 0
                  have hfz28_1 := blk_frozen BK420.out 1
                  have p426 : 0 ≤ (x9_2 : Int) := D_
                  have q426 : x9_2 < (l0_0.length : Int) := D_
                  obtain ⟨ad426, A426_0, c426_0, e426, hx426_0, hl426_0, hi426_0⟩ := at_L1 HR0_0.out x9_2 p426 q426
                  cases e426
                  replace hx426_0 := (HB.out.cell (World.block_lt_of_cell? w _ hx426_0)).trans hx426_0
                  have HR426_0 := Aside0.mk hi426_0
                  have HC426_0 := Aside0.mk hl426_0
                  clear hi426_0 hl426_0
                  replace p426 := eq_true p426
                  replace q426 := eq_true q426
                  go_wp2
                  go_meet
                  case rel => exact ⟨_, (decide (x10_3 < ((rd_L1 l0_0 x9_2).length : Int))), (by first | rfl | (simp; done) | (simp [*]; done)), H', ⟨by have := HK1.out; have := HK2.out; have := HK3.out; first | omega | exact Nat.le_refl _⟩, ⟨by (try simp only [hl7_1]); (try simp only [hl7_2]); (try simp only [hl7_3]); exact RM_ HO_7.out⟩, ⟨by (try simp only [hl7_1]); (try simp only [hl7_2]); (try simp only [hl7_3]); exact KX_ BK420.out⟩, ⟨B1_⟩⟩
                 rw [if_neg c27] at H
                 exact absurd H (by simp)
                replace c26 := Bool.eq_false_iff.mpr c26
                subst c26
                have H1 : (lockstepref06_Reach.j3 k3 a2 x7_3 x8_1 x9_2 x10_3 false l0_0 l0_1) = some r := by rw [if_neg (show ¬ (false = true) by decide)] at H; exact H
                clear H
                have H := H1
                clear H1
                have H' := Aside0.mk H
                clear H
                have p425 : 0 ≤ (x9_2 : Int) := D_
                have q425 : x9_2 < (x7_3.length : Int) := D_
                obtain ⟨ad425, e425, hx425_0⟩ := Kd.at_bool (Kd.R_reads' HO_7.out).2.2 x9_2 p425 q425
                (try rw [← Nbq25.out] at hx425_0)
                obtain rfl : (⟨go13, 0, none⟩ : Addr) = ad425 := (by injection e425)
                (first | simp only [add_plain] at hx425_0 | simp only [add_at] at hx425_0 | simp only [Addr.add, Nat.zero_add] at hx425_0 | skip)
                replace p425 := eq_true p425
                replace q425 := eq_true q425
                go_wp2
                go_meet
                case rel => exact ⟨_, (false), (by first | rfl | (simp; done) | (simp [*]; done)), H', ⟨by have := HK1.out; have := HK2.out; have := HK3.out; first | omega | exact Nat.le_refl _⟩, ⟨by (try simp only [hl7_1]); (try simp only [hl7_2]); (try simp only [hl7_3]); exact RM_ HO_7.out⟩, ⟨by (try simp only [hl7_1]); (try simp only [hl7_2]); (try simp only [hl7_3]); exact KX_ BK420.out⟩, ⟨B1_⟩⟩
               rw [if_neg c24] at H
               exact absurd H (by simp)
              rw [if_neg c23] at H
              exact absurd H (by simp)
             case rest =>
              clear HC22
              obtain ⟨kq, x47_21, rfl, HA, HJ21, HO_7, BK420, HB⟩ := hcut
              cases kq with
              | zero => exact absurd HA.out (by simp [lockstepref06_Reach.j3])
              | succ kj21 =>
               have H := HA.out
               clear HA
               simp only [lockstepref06_Reach.j3] at H
               by_cases c29 : x47_21 = true
               ·subst c29
                have H1 : (if 0 ≤ x9_2 then (if x9_2 < (l0_0.length : Int) then (if 0 ≤ x10_3 then (if x10_3 < ((rd_L1 l0_0 x9_2).length : Int) then (if (rd (rd_L1 l0_0 x9_2) x10_3) = a2 then (lockstepref06_Reach.l2 kj21 a2 x7_3 x8_1 x9_2 (wrap64 (x10_3 + 1)) l0_0 l0_1) else (if 0 ≤ (rd (rd_L1 l0_0 x9_2) x10_3) then (if (rd (rd_L1 l0_0 x9_2) x10_3) < (x7_3.length : Int) then (lockstepref06_Reach.l2 kj21 a2 (x7_3.set ((rd (rd_L1 l0_0 x9_2) x10_3) : Int).toNat true) x8_1 x9_2 (wrap64 (x10_3 + 1)) l0_0 l0_1) else (none)) else (none))) else (none)) else (none)) else (none)) else (none)) = some r := by rw [if_pos rfl] at H; exact H
                clear H
                have H := H1
                clear H1
                by_cases c30 : 0 ≤ x9_2
                ·rw [if_pos c30] at H
                 have c30b0 : decide (0 ≤ x9_2) = true := decide_eq_true c30
                 clear c30
                 by_cases c31 : x9_2 < (l0_0.length : Int)
                 ·rw [if_pos c31] at H
                  have c31b0 : decide (x9_2 < (l0_0.length : Int)) = true := decide_eq_true c31
                  clear c31
                  by_cases c32 : 0 ≤ x10_3
                  ·rw [if_pos c32] at H
                   have c32b0 : decide (0 ≤ x10_3) = true := decide_eq_true c32
                   clear c32
                   by_cases c33 : x10_3 < ((rd_L1 l0_0 x9_2).length : Int)
                   ·rw [if_pos c33] at H
                    have c33b0 : decide (x10_3 < ((rd_L1 l0_0 x9_2).length : Int)) = true := decide_eq_true c33
                    clear c33
                    by_cases c34 : (rd (rd_L1 l0_0 x9_2) x10_3) = a2
                    ·rw [if_pos c34] at H
                     have c34b0 : ((rd (rd_L1 l0_0 x9_2) x10_3) == a2) = true := beq_iff_eq.mpr c34
                     have c34b1 : ((rd (rd_L1 l0_0 x9_2) x10_3) != a2) = false := bne_eq_false_iff_eq.mpr c34
                     clear c34
                     have H' := Aside0.mk H
                     clear H
                     have hcz35_0 : wc.cell? ⟨gb420, 0, none⟩ = some (.slice A0_0 l0_0.length c0_0) := (blk_cell BK420.out 0).trans rfl
                     have hcz35_1 : wc.cell? ⟨gb420, 1, none⟩ = some (.slice A0_1 l0_1.length c0_1) := (blk_cell BK420.out 1).trans rfl
                     have hfz35_0 := blk_frozen BK420.out 0
                     have hfz35_1 := blk_frozen BK420.out 1
                     have p427 : 0 ≤ (x9_2 : Int) := D_
                     have q427 : x9_2 < (l0_0.length : Int) := D_
                     obtain ⟨ad427, A427_0, c427_0, e427, hx427_0, hl427_0, hi427_0⟩ := at_L1 HR0_0.out x9_2 p427 q427
                     cases e427
                     replace hx427_0 := (HB.out.cell (World.block_lt_of_cell? w _ hx427_0)).trans hx427_0
                     have HR427_0 := Aside0.mk hi427_0
                     have HC427_0 := Aside0.mk hl427_0
                     clear hi427_0 hl427_0
                     replace p427 := eq_true p427
                     replace q427 := eq_true q427
                     have p428 : 0 ≤ (x10_3 : Int) := D_
                     have q428 : x10_3 < ((rd_L1 l0_0 x9_2).length : Int) := D_
                     obtain ⟨ad428, e428, hx428_0⟩ := Kd.at_int HR427_0.out x10_3 p428 q428
                     cases e428
                     replace hx428_0 := (HB.out.cell (World.block_lt_of_cell? w _ hx428_0)).trans hx428_0
                     replace p428 := eq_true p428
                     replace q428 := eq_true q428
                     go_wp2
                     (try simp only [← hl7_3])
                     go_roundg kj21
                     case measure => have := HK1.out; have := HK2.out; have := HK3.out; have := HJ21.out; omega
                     case rel => exact ⟨(x7_3), (wrap64 (x10_3 + 1)), (by first | rfl | (simp; done) | (simp [*]; done)), H', ⟨by have := HK1.out; have := HK2.out; have := HK3.out; have := HJ21.out; omega⟩, ⟨by (try simp only [hl7_1]); (try simp only [hl7_2]); (try simp only [hl7_3]); exact RM_ HO_7.out⟩, ⟨by (try simp only [hl7_1]); (try simp only [hl7_2]); (try simp only [hl7_3]); exact KX_ BK420.out⟩, ⟨B1_⟩⟩
                    rw [if_neg c34] at H
                    have c34b0 : ((rd (rd_L1 l0_0 x9_2) x10_3) == a2) = false := beq_eq_false_iff_ne.mpr c34
                    have c34b1 : ((rd (rd_L1 l0_0 x9_2) x10_3) != a2) = true := bne_iff_ne.mpr c34
                    by_cases c36 : 0 ≤ (rd (rd_L1 l0_0 x9_2) x10_3)
                    ·rw [if_pos c36] at H
                     have c36b0 : decide (0 ≤ (rd (rd_L1 l0_0 x9_2) x10_3)) = true := decide_eq_true c36
                     clear c36
                     by_cases c37 : (rd (rd_L1 l0_0 x9_2) x10_3) < (x7_3.length : Int)
                     ·rw [if_pos c37] at H
                      have c37b0 : decide ((rd (rd_L1 l0_0 x9_2) x10_3) < (x7_3.length : Int)) = true := decide_eq_true c37
                      clear c37
                      obtain ⟨y431, hy431⟩ : ∃ y_ : List Bool, y_ = (x7_3.set ((rd (rd_L1 l0_0 x9_2) x10_3) : Int).toNat true) := ⟨_, rfl⟩
                      replace H : (lockstepref06_Reach.l2 kj21 a2 y431 x8_1 x9_2 (wrap64 (x10_3 + 1)) l0_0 l0_1) = some r := by first | (rw [hy431]; with_reducible exact H) | (have H2_ := (Option.bind_some _ _).symm.trans H; rw [hy431]; with_reducible exact H2_) | (have H2_ := (Option.bind_some _ _).symm.trans H; with_reducible exact H2_) | with_reducible exact H | (rw [hy431]; exact H) | exact H
                      have Ny431 := Aside0.mk hy431
                      clear hy431
                      have H' := Aside0.mk H
                      clear H
                      have hcz39_0 : wc.cell? ⟨gb420, 0, none⟩ = some (.slice A0_0 l0_0.length c0_0) := (blk_cell BK420.out 0).trans rfl
                      have hcz39_1 : wc.cell? ⟨gb420, 1, none⟩ = some (.slice A0_1 l0_1.length c0_1) := (blk_cell BK420.out 1).trans rfl
                      have hfz39_0 := blk_frozen BK420.out 0
                      have hfz39_1 := blk_frozen BK420.out 1
                      have p427 : 0 ≤ (x9_2 : Int) := D_
                      have q427 : x9_2 < (l0_0.length : Int) := D_
                      obtain ⟨ad427, A427_0, c427_0, e427, hx427_0, hl427_0, hi427_0⟩ := at_L1 HR0_0.out x9_2 p427 q427
                      cases e427
                      replace hx427_0 := (HB.out.cell (World.block_lt_of_cell? w _ hx427_0)).trans hx427_0
                      have HR427_0 := Aside0.mk hi427_0
                      have HC427_0 := Aside0.mk hl427_0
                      clear hi427_0 hl427_0
                      replace p427 := eq_true p427
                      replace q427 := eq_true q427
                      have p428 : 0 ≤ (x10_3 : Int) := D_
                      have q428 : x10_3 < ((rd_L1 l0_0 x9_2).length : Int) := D_
                      obtain ⟨ad428, e428, hx428_0⟩ := Kd.at_int HR427_0.out x10_3 p428 q428
                      cases e428
                      replace hx428_0 := (HB.out.cell (World.block_lt_of_cell? w _ hx428_0)).trans hx428_0
                      replace p428 := eq_true p428
                      replace q428 := eq_true q428
                      have p429 : 0 ≤ (x9_2 : Int) := D_
                      have q429 : x9_2 < (l0_0.length : Int) := D_
                      obtain ⟨ad429, A429_0, c429_0, e429, hx429_0, hl429_0, hi429_0⟩ := at_L1 HR0_0.out x9_2 p429 q429
                      obtain rfl : ad427 = ad429 := (by injection e429)
                      replace hx429_0 := (HB.out.cell (World.block_lt_of_cell? w _ hx429_0)).trans hx429_0
                      have HR429_0 := Aside0.mk hi429_0
                      have HC429_0 := Aside0.mk hl429_0
                      clear hi429_0 hl429_0
                      replace p429 := eq_true p429
                      replace q429 := eq_true q429
                      have ea_ := Option.some.inj (hx427_0.symm.trans hx429_0)
                      injection ea_ with ea_ en_ ec_
                      subst ea_
                      subst ec_
                      clear en_
                      have p430 : 0 ≤ (x10_3 : Int) := D_
                      have q430 : x10_3 < ((rd_L1 l0_0 x9_2).length : Int) := D_
                      obtain ⟨ad430, e430, hx430_0⟩ := Kd.at_int HR429_0.out x10_3 p430 q430
                      cases e430
                      replace hx430_0 := (HB.out.cell (World.block_lt_of_cell? w _ hx430_0)).trans hx430_0
                      replace p430 := eq_true p430
                      replace q430 := eq_true q430
                      have p38 : 0 ≤ ((rd (rd_L1 l0_0 x9_2) x10_3) : Int) := D_
                      have q38 : ((rd (rd_L1 l0_0 x9_2) x10_3) : Int) < ((x7_3.length : Int) : Int) := D_
                      obtain ⟨hx38_0, hf38_0⟩ := Kd.R_celln false HO_7.out ((rd (rd_L1 l0_0 x9_2) x10_3) : Int) p38 q38
                      replace p38 := eq_true p38
                      replace q38 := eq_true q38
                      have HP40 := Kd.R_putg HO_7.out ((rd (rd_L1 l0_0 x9_2) x10_3) : Int) true
                      go_wp2_with (first | ((with_reducible refine gate_store (t := 4) (p := 69) rfl ?_); refine store_event (t := 4) (p := 69) (v := ?vo_w41) (w1 := (wc.setCell ⟨go13, ((rd (rd_L1 l0_0 x9_2) x10_3) : Int).toNat, none⟩ (.bool true))) ?hg ?ho ?hn ?hr ?_; (case ho => rfl); (case hg => rfl); (case hn => rfl); (case hr => first | (go_simp; done) | (go_simp; rfl)); intro w41 hw; have hg : wc.grownBy w41 (some go13) := (by rw [hw]; exact HP40.2); have hp_ : Kd.R Kd.bool 4 w41 w.heap.size (fun _ => True) (.slice (some ⟨go13, 0, none⟩) x7_3.length co13) y431 := (by rw [hw, Ny431.out]; exact HP40.1); clear HP40; have n0_ := Aside0.mk (hp_); have n1_ := Aside0.mk (blk_grown (g := gb420) (o := .cells #[.slice (some ad427) l0_0.length c0_0, .slice A0_1 l0_1.length c0_1] 26 (0, 0)) (by exact KX_ BK420.out) hg (Kd.R_ne HO_7.out BK420.out (by decide))); have n2_ := Aside0.mk ((by rw [hw]; exact below_set (HB.out) GB13.out : Below w.heap.size w w41)); clear HO_7; clear BK420; clear HB; have HO_7 := n0_; have BK420 := n1_; have HB := n2_; clear n0_ n1_ n2_; clear hg hw hp_))
                      (try simp only [← hl7_3])
                      go_roundg kj21
                      case measure => have := HK1.out; have := HK2.out; have := HK3.out; have := HJ21.out; omega
                      case rel => exact ⟨(y431), (wrap64 (x10_3 + 1)), (by first | rfl | (simp; done) | (simp [*]; done)), H', ⟨by have := HK1.out; have := HK2.out; have := HK3.out; have := HJ21.out; omega⟩, ⟨by (try simp only [hl7_1]); (try simp only [hl7_2]); (try simp only [hl7_3]); exact RM_ HO_7.out⟩, ⟨by (try simp only [hl7_1]); (try simp only [hl7_2]); (try simp only [hl7_3]); exact KX_ BK420.out⟩, ⟨B1_⟩⟩
                     rw [if_neg c37] at H
                     exact absurd H (by simp)
                    rw [if_neg c36] at H
                    exact absurd H (by simp)
                   rw [if_neg c33] at H
                   exact absurd H (by simp)
                  rw [if_neg c32] at H
                  exact absurd H (by simp)
                 rw [if_neg c31] at H
                 exact absurd H (by simp)
                rw [if_neg c30] at H
                exact absurd H (by simp)
               replace c29 := Bool.eq_false_iff.mpr c29
               subst c29
               have H1 : (lockstepref06_Reach.l1 kj21 a2 x7_3 x8_1 (wrap64 (x9_2 + 1)) l0_0 l0_1) = some r := by rw [if_neg (show ¬ (false = true) by decide)] at H; exact H
               clear H
               have H := H1
               clear H1
               have H' := Aside0.mk H
               clear H
               go_wp2
               (try simp only [← hl7_2, ← hl7_3])
               go_roundg kj21
               case measure => have := HK1.out; have := HK2.out; have := HK3.out; have := HJ21.out; omega
               case rel => exact ⟨(x7_3), (wrap64 (x9_2 + 1)), (by first | rfl | (simp; done) | (simp [*]; done)), H', ⟨by have := HK1.out; have := HK2.out; have := HK3.out; have := HJ21.out; omega⟩, ⟨by (try simp only [hl7_1]); (try simp only [hl7_2]); (try simp only [hl7_3]); exact RM_ HO_7.out⟩, ⟨by (try simp only [hl7_1]); (try simp only [hl7_2]); (try simp only [hl7_3]); exact KX_ BK420.out⟩, ⟨B1_⟩⟩
          rw [if_neg c21] at H
          have c21b0 : decide (x9_2 < (x7_2.length : Int)) = false := decide_eq_false c21
          clear c21
          have H' := Aside0.mk H
          clear H
          go_wp2
          (try simp only [← hl7_1, ← hl7_2])
          go_roundg k2
          case measure => have := HK1.out; have := HK2.out; omega
          case rel => exact ⟨(x7_2), (wrap64 (x8_1 + 1)), (by first | rfl | (simp; done) | (simp [*]; done)), H', ⟨by have := HK1.out; have := HK2.out; omega⟩, ⟨by (try simp only [hl7_1]); (try simp only [hl7_2]); exact RM_ HO_7.out⟩, ⟨by (try simp only [hl7_1]); (try simp only [hl7_2]); exact KX_ BK420.out⟩, ⟨B1_⟩⟩
       rw [if_neg c20] at H
       have c20b0 : decide (x8_1 < (x7_1.length : Int)) = false := decide_eq_false c20
       clear c20
       obtain rfl := Option.some.inj H
       go_wp2
       go_ret
       exact ⟨_, by first | rfl | (simp [errW_none, errW_some] <;> rfl) | (simp [*, errW_none, errW_some] <;> rfl), by exact RX_ HO_7.out, B1_⟩
    rw [if_neg c12] at H
    exact absurd H (by simp)
   rw [if_neg c11] at H
   exact absurd H (by simp)
  rw [if_neg c5] at H
  exact absurd H (by simp)
 rw [if_neg c4] at H
 exact absurd H (by simp)


/-! ### lockstepref07_Over: function 20 -/
def lockstepref07_Over.f (k : Nat) (l0_0 : List (List Int)) (l0_1 : List (List Int)) (a1 : Int) (a2 : Int) (a3 : Int) : Option (Bool) := (lockstepref06_Reach.f k l0_0 l0_1 a1 (-1)).bind fun t433 => (if 0 ≤ a3 then (if a3 < (t433.length : Int) then (if rdOf false t433 a3 = true then ((lockstepref06_Reach.f k l0_0 l0_1 a1 a2).bind fun t437 => (if a3 < (t437.length : Int) then (some (!(rdOf false t437 a3))) else (none))) else (some false)) else (none)) else (none))
theorem lockstepref07_Over.mono : ∀ a0 a1 a2 a3 a4 k, LeO (lockstepref07_Over.f k a0 a1 a2 a3 a4) (lockstepref07_Over.f (k + 1) a0 a1 a2 a3 a4) := by
 intro a0 a1 a2 a3 a4 k
 unfold lockstepref07_Over.f
 repeat' first
  | (with_reducible exact lockstepref06_Reach.mono _ _ _ _ _)
  | (with_reducible exact LeO.refl _)
  | (with_reducible exact LeO.none _)
  | (with_reducible refine LeO.ite ?_ ?_)
  | (with_reducible refine LeO.bind ?_ (fun _ => ?_))
  | exact lockstepref06_Reach.mono _ _ _ _ _
  | exact LeO.none _
  | refine LeO.ite ?_ ?_
  | refine LeO.bind ?_ (fun _ => ?_)
set_option maxHeartbeats 8000000 in
set_option maxRecDepth 100000 in
theorem lockstepref07_Over.calls (k : Nat) (A0_0 : Option Addr) (c0_0 : Nat) (l0_0 : List (List Int)) (A0_1 : Option Addr) (c0_1 : Nat) (l0_1 : List (List Int)) (a1 : Int) (a2 : Int) (a3 : Int) (r : Bool) (w : World) (hr0_0 : Kd.C (Kd.slice 3 (Kd.int .i64)) w A0_0 l0_0.length l0_0) (hc0_0 : l0_0.length ≤ c0_0) (hr0_1 : Kd.C (Kd.slice 3 (Kd.int .i64)) w A0_1 l0_1.length l0_1) (hc0_1 : l0_1.length ≤ c0_1) (h : lockstepref07_Over.f k l0_0 l0_1 a1 a2 a3 = some r) :
 Calls Try.prog 20 #[.agg #[.slice A0_0 l0_0.length c0_0, .slice A0_1 l0_1.length c0_1], .int .i64 a1, .int .i64 a2, .int .i64 a3] w fun e w' => e = .returned (.bool r) ∧ Below w.heap.size w w' := by
 have hu26 := Try.underlying26
 have HR0_0 := Aside0.mk hr0_0
 have HC0_0 := Aside0.mk hc0_0
 clear hr0_0 hc0_0
 have HR0_1 := Aside0.mk hr0_1
 have HC0_1 := Aside0.mk hc0_1
 clear hr0_1 hc0_1
 have HB := Aside0.mk (Below.refl w.heap.size w)
 have H : ((lockstepref06_Reach.f k l0_0 l0_1 a1 (-1)).bind fun t433 => (if 0 ≤ a3 then (if a3 < (t433.length : Int) then (if rdOf false t433 a3 = true then ((lockstepref06_Reach.f k l0_0 l0_1 a1 a2).bind fun t437 => (if a3 < (t437.length : Int) then (some (!(rdOf false t437 a3))) else (none))) else (some false)) else (none)) else (none))) = some r := h
 clear h
 replace H := Option.bind_eq_some_iff.mp H
 obtain ⟨t433, A50, H⟩ := H
 replace H : (if 0 ≤ a3 then (if a3 < (t433.length : Int) then (if rdOf false t433 a3 = true then ((lockstepref06_Reach.f k l0_0 l0_1 a1 a2).bind fun t437 => (if a3 < (t437.length : Int) then (some (!(rdOf false t437 a3))) else (none))) else (some false)) else (none)) else (none)) = some r := H
 have A5 := Aside0.mk A50
 clear A50
 by_cases c6 : 0 ≤ a3
 ·rw [if_pos c6] at H
  have c6b0 : decide (0 ≤ a3) = true := decide_eq_true c6
  clear c6
  by_cases c7 : a3 < (t433.length : Int)
  ·rw [if_pos c7] at H
   have c7b0 : decide (a3 < (t433.length : Int)) = true := decide_eq_true c7
   clear c7
   obtain ⟨bq8, hbq8⟩ : ∃ b_ : Bool, b_ = (rdOf false t433 a3) := ⟨_, rfl⟩
   replace H : (if bq8 = true then ((lockstepref06_Reach.f k l0_0 l0_1 a1 a2).bind fun t437 => (if a3 < (t437.length : Int) then (some (!(rdOf false t437 a3))) else (none))) else (some false)) = some r := by rw [← hbq8] at H; exact H
   have Nbq8 := Aside0.mk hbq8
   clear hbq8
   by_cases c9 : bq8 = true
   ·subst c9
    have H1 : ((lockstepref06_Reach.f k l0_0 l0_1 a1 a2).bind fun t437 => (if a3 < (t437.length : Int) then (some (!(rdOf false t437 a3))) else (none))) = some r := by rw [if_pos rfl] at H; exact H
    clear H
    have H := H1
    clear H1
    replace H := Option.bind_eq_some_iff.mp H
    obtain ⟨t437, A100, H⟩ := H
    replace H : (if a3 < (t437.length : Int) then (some (!(rdOf false t437 a3))) else (none)) = some r := H
    have A10 := Aside0.mk A100
    clear A100
    by_cases c11 : a3 < (t437.length : Int)
    ·rw [if_pos c11] at H
     have c11b0 : decide (a3 < (t437.length : Int)) = true := decide_eq_true c11
     clear c11
     obtain rfl := Option.some.inj H
     go_enter Try.func20, Try.ntmps20
     go_wp2_with (first | ((with_reducible refine gate_dst (N := 4) rfl ?_); refine box_event ?hg (N := 4) ?hd (cs := #[.slice A0_0 l0_0.length c0_0, .slice A0_1 l0_1.length c0_1]) (t := 26) ?hr ?_; (case hd => rfl); (case hg => rfl); (case hr => first | (go_simp; done) | (go_simp; rfl)); intro gb432 hg w12 hbox hb; have n0_ := Aside0.mk (below_step (B_) hb); have n1_ := Aside0.mk (hbox); have n2_ := Aside0.mk ((by rw [hg]; exact (below_size (B_)) : w.heap.size ≤ gb432)); have n3_ := Aside0.mk ((by rw [hg]; exact (below_size (B_)) : w.heap.size ≤ gb432)); clear HB; have HB := n0_; have BK432 := n1_; have GW432 := n2_; have GE432 := n3_; clear n0_ n1_ n2_ n3_; clear hb hbox hg; have hcz13_0 : w12.cell? ⟨gb432, 0, none⟩ = some (.slice A0_0 l0_0.length c0_0) := (blk_cell BK432.out 0).trans rfl; have hcz13_1 : w12.cell? ⟨gb432, 1, none⟩ = some (.slice A0_1 l0_1.length c0_1) := (blk_cell BK432.out 1).trans rfl; have hfz13_0 := blk_frozen BK432.out 0; have hfz13_1 := blk_frozen BK432.out 1) | ((with_reducible refine gate_callee (f := 14) rfl ?_); refine goesL_ (some 11) rfl rfl Try.func14 (by kernel_rfl) rfl #[.agg #[.slice A0_0 l0_0.length c0_0, .slice A0_1 l0_1.length c0_1], .int .i64 a1, .int .i64 (-1)] rfl (by (try simp only [List.map_toArray, List.map_cons, List.map_nil]); first | done | rfl | (simp only [List.length_drop, List.length_take]; rfl)) ?_; (with_reducible refine (lockstepref06_Reach.calls k _ _ l0_0 _ _ l0_1 a1 (-1) t433 _ ?side1 ?side2 ?side3 ?side4 A5.out).mono ?_); (case side1 => exact CX_ (Kd.C_below HR0_0.out HB.out)); (case side2 => exact HC0_0.out); (case side3 => exact CX_ (Kd.C_below HR0_1.out HB.out)); (case side4 => exact HC0_1.out); rintro e w14 ⟨v434, rfl, ho0, hb⟩; refine ⟨_, rfl, ?_⟩; have n0_ := Aside0.mk (Kd.R_lower ho0 (below_size (B1_))); have n1_ := Aside0.mk (blk_below (g := gb432) (o := .cells #[.slice A0_0 l0_0.length c0_0, .slice A0_1 l0_1.length c0_1] 26 (0, 0)) (by exact KX_ BK432.out) hb); have n2_ := Aside0.mk (below_step (B1_) hb); clear BK432; clear HB; have HO435 := n0_; have BK432 := n1_; have HB := n2_; clear n0_ n1_ n2_; (try clear hb); (try clear hb2); (try clear hk); (try clear hi); (try clear ho0); obtain ⟨Ao15, co15, eo15⟩ := Kd.R_slice HO435.out; subst eo15; have p436 : 0 ≤ (a3 : Int) := D_; have q436 : a3 < (t433.length : Int) := D_; obtain ⟨ad436, e436, hx436_0⟩ := Kd.at_bool (Kd.R_reads' HO435.out).2.2 a3 p436 q436; (try rw [← Nbq8.out] at hx436_0); cases e436; replace p436 := eq_true p436; replace q436 := eq_true q436; have hcz16_0 : w14.cell? ⟨gb432, 0, none⟩ = some (.slice A0_0 l0_0.length c0_0) := (blk_cell BK432.out 0).trans rfl; have hcz16_1 : w14.cell? ⟨gb432, 1, none⟩ = some (.slice A0_1 l0_1.length c0_1) := (blk_cell BK432.out 1).trans rfl; have hfz16_0 := blk_frozen BK432.out 0; have hfz16_1 := blk_frozen BK432.out 1) | (go_at_call 14; (with_reducible refine (lockstepref06_Reach.calls k _ _ l0_0 _ _ l0_1 a1 a2 t437 _ ?side1 ?side2 ?side3 ?side4 A10.out).mono ?_); (case side1 => exact CX_ (Kd.C_below HR0_0.out HB.out)); (case side2 => exact HC0_0.out); (case side3 => exact CX_ (Kd.C_below HR0_1.out HB.out)); (case side4 => exact HC0_1.out); rintro e w17 ⟨v438, rfl, ho0, hb⟩; have n0_ := Aside0.mk (Kd.R_elder' (by exact RX_ HO435.out) (Kd.R_base ho0) hb); have n1_ := Aside0.mk (Kd.R_lower (Kd.R_new' ho0 (Kd.R_lt (by exact RX_ HO435.out))) (below_size (B1_))); have n2_ := Aside0.mk (blk_below (g := gb432) (o := .cells #[.slice A0_0 l0_0.length c0_0, .slice A0_1 l0_1.length c0_1] 26 (0, 0)) (by exact KX_ BK432.out) hb); have n3_ := Aside0.mk (below_step (B1_) hb); clear HO435; clear BK432; clear HB; have HO435 := n0_; have HO439 := n1_; have BK432 := n2_; have HB := n3_; clear n0_ n1_ n2_ n3_; (try clear hb); (try clear hb2); (try clear hk); (try clear hi); (try clear ho0); obtain ⟨Ao18, co18, eo18⟩ := Kd.R_slice HO439.out; subst eo18; have p440 : 0 ≤ (a3 : Int) := D_; have q440 : a3 < (t437.length : Int) := D_; obtain ⟨ad440, e440, hx440_0⟩ := Kd.at_bool (Kd.R_reads' HO439.out).2.2 a3 p440 q440; (try rw [← Nbq8.out] at hx440_0); cases e440; replace p440 := eq_true p440; replace q440 := eq_true q440))
     go_ret
     exact ⟨by first | rfl | (simp [errW_none, errW_some] <;> rfl) | (simp [*, errW_none, errW_some] <;> rfl), B1_⟩
    rw [if_neg c11] at H
    exact absurd H (by simp)
   replace c9 := Bool.eq_false_iff.mpr c9
   subst c9
   have H1 : (some false) = some r := by rw [if_neg (show ¬ (false = true) by decide)] at H; exact H
   clear H
   have H := H1
   clear H1
   obtain rfl := Option.some.inj H
   go_enter Try.func20, Try.ntmps20
   go_wp2_with (first | ((with_reducible refine gate_dst (N := 4) rfl ?_); refine box_event ?hg (N := 4) ?hd (cs := #[.slice A0_0 l0_0.length c0_0, .slice A0_1 l0_1.length c0_1]) (t := 26) ?hr ?_; (case hd => rfl); (case hg => rfl); (case hr => first | (go_simp; done) | (go_simp; rfl)); intro gb432 hg w19 hbox hb; have n0_ := Aside0.mk (below_step (B_) hb); have n1_ := Aside0.mk (hbox); have n2_ := Aside0.mk ((by rw [hg]; exact (below_size (B_)) : w.heap.size ≤ gb432)); have n3_ := Aside0.mk ((by rw [hg]; exact (below_size (B_)) : w.heap.size ≤ gb432)); clear HB; have HB := n0_; have BK432 := n1_; have GW432 := n2_; have GE432 := n3_; clear n0_ n1_ n2_ n3_; clear hb hbox hg; have hcz20_0 : w19.cell? ⟨gb432, 0, none⟩ = some (.slice A0_0 l0_0.length c0_0) := (blk_cell BK432.out 0).trans rfl; have hcz20_1 : w19.cell? ⟨gb432, 1, none⟩ = some (.slice A0_1 l0_1.length c0_1) := (blk_cell BK432.out 1).trans rfl; have hfz20_0 := blk_frozen BK432.out 0; have hfz20_1 := blk_frozen BK432.out 1) | ((with_reducible refine gate_callee (f := 14) rfl ?_); refine goesL_ (some 11) rfl rfl Try.func14 (by kernel_rfl) rfl #[.agg #[.slice A0_0 l0_0.length c0_0, .slice A0_1 l0_1.length c0_1], .int .i64 a1, .int .i64 (-1)] rfl (by (try simp only [List.map_toArray, List.map_cons, List.map_nil]); first | done | rfl | (simp only [List.length_drop, List.length_take]; rfl)) ?_; (with_reducible refine (lockstepref06_Reach.calls k _ _ l0_0 _ _ l0_1 a1 (-1) t433 _ ?side1 ?side2 ?side3 ?side4 A5.out).mono ?_); (case side1 => exact CX_ (Kd.C_below HR0_0.out HB.out)); (case side2 => exact HC0_0.out); (case side3 => exact CX_ (Kd.C_below HR0_1.out HB.out)); (case side4 => exact HC0_1.out); rintro e w21 ⟨v434, rfl, ho0, hb⟩; refine ⟨_, rfl, ?_⟩; have n0_ := Aside0.mk (Kd.R_lower ho0 (below_size (B1_))); have n1_ := Aside0.mk (blk_below (g := gb432) (o := .cells #[.slice A0_0 l0_0.length c0_0, .slice A0_1 l0_1.length c0_1] 26 (0, 0)) (by exact KX_ BK432.out) hb); have n2_ := Aside0.mk (below_step (B1_) hb); clear BK432; clear HB; have HO435 := n0_; have BK432 := n1_; have HB := n2_; clear n0_ n1_ n2_; (try clear hb); (try clear hb2); (try clear hk); (try clear hi); (try clear ho0); obtain ⟨Ao22, co22, eo22⟩ := Kd.R_slice HO435.out; subst eo22; have p436 : 0 ≤ (a3 : Int) := D_; have q436 : a3 < (t433.length : Int) := D_; obtain ⟨ad436, e436, hx436_0⟩ := Kd.at_bool (Kd.R_reads' HO435.out).2.2 a3 p436 q436; (try rw [← Nbq8.out] at hx436_0); cases e436; replace p436 := eq_true p436; replace q436 := eq_true q436))
   go_ret
   exact ⟨by first | rfl | (simp [errW_none, errW_some] <;> rfl) | (simp [*, errW_none, errW_some] <;> rfl), B1_⟩
  rw [if_neg c7] at H
  exact absurd H (by simp)
 rw [if_neg c6] at H
 exact absurd H (by simp)

/-! ### lockstepref10_Back: function 54 -/
def lockstepref10_Back.f (k : Nat) (l0_0 : List (List Int)) (l0_1 : List (List Int)) (a1 : Int) (a2 : Int) : Option (Bool) := if 0 ≤ a1 then (if a1 < (l0_0.length : Int) then ((lockstepref06_Has.f k (rd_L1 l0_0 a1) a2).bind fun t443 => (if t443 = true then ((lockstepref07_Over.f k l0_0 l0_1 0 a2 a1).bind fun t444 => (some t444)) else (some false))) else (none)) else (none)
theorem lockstepref10_Back.mono : ∀ a0 a1 a2 a3 k, LeO (lockstepref10_Back.f k a0 a1 a2 a3) (lockstepref10_Back.f (k + 1) a0 a1 a2 a3) := by
 intro a0 a1 a2 a3 k
 unfold lockstepref10_Back.f
 repeat' first
  | (with_reducible exact lockstepref06_Has.mono _ _ _)
  | (with_reducible exact lockstepref07_Over.mono _ _ _ _ _ _)
  | (with_reducible exact LeO.refl _)
  | (with_reducible exact LeO.none _)
  | (with_reducible refine LeO.ite ?_ ?_)
  | (with_reducible refine LeO.bind ?_ (fun _ => ?_))
  | exact lockstepref06_Has.mono _ _ _
  | exact lockstepref07_Over.mono _ _ _ _ _ _
  | exact LeO.none _
  | refine LeO.ite ?_ ?_
  | refine LeO.bind ?_ (fun _ => ?_)
set_option maxHeartbeats 8000000 in
set_option maxRecDepth 100000 in
theorem lockstepref10_Back.calls (k : Nat) (A0_0 : Option Addr) (c0_0 : Nat) (l0_0 : List (List Int)) (A0_1 : Option Addr) (c0_1 : Nat) (l0_1 : List (List Int)) (a1 : Int) (a2 : Int) (r : Bool) (w : World) (hr0_0 : Kd.C (Kd.slice 3 (Kd.int .i64)) w A0_0 l0_0.length l0_0) (hc0_0 : l0_0.length ≤ c0_0) (hr0_1 : Kd.C (Kd.slice 3 (Kd.int .i64)) w A0_1 l0_1.length l0_1) (hc0_1 : l0_1.length ≤ c0_1) (h : lockstepref10_Back.f k l0_0 l0_1 a1 a2 = some r) :
 Calls Try.prog 54 #[.agg #[.slice A0_0 l0_0.length c0_0, .slice A0_1 l0_1.length c0_1], .int .i64 a1, .int .i64 a2] w fun e w' => e = .returned (.bool r) ∧ Below w.heap.size w w' := by
 have hu26 := Try.underlying26
 have HR0_0 := Aside0.mk hr0_0
 have HC0_0 := Aside0.mk hc0_0
 clear hr0_0 hc0_0
 have HR0_1 := Aside0.mk hr0_1
 have HC0_1 := Aside0.mk hc0_1
 clear hr0_1 hc0_1
 have HB := Aside0.mk (Below.refl w.heap.size w)
 have H : (if 0 ≤ a1 then (if a1 < (l0_0.length : Int) then ((lockstepref06_Has.f k (rd_L1 l0_0 a1) a2).bind fun t443 => (if t443 = true then ((lockstepref07_Over.f k l0_0 l0_1 0 a2 a1).bind fun t444 => (some t444)) else (some false))) else (none)) else (none)) = some r := h
 clear h
 by_cases c4 : 0 ≤ a1
 ·rw [if_pos c4] at H
  have c4b0 : decide (0 ≤ a1) = true := decide_eq_true c4
  clear c4
  by_cases c5 : a1 < (l0_0.length : Int)
  ·rw [if_pos c5] at H
   have c5b0 : decide (a1 < (l0_0.length : Int)) = true := decide_eq_true c5
   clear c5
   replace H := Option.bind_eq_some_iff.mp H
   obtain ⟨t443, A60, H⟩ := H
   replace H : (if t443 = true then ((lockstepref07_Over.f k l0_0 l0_1 0 a2 a1).bind fun t444 => (some t444)) else (some false)) = some r := H
   have A6 := Aside0.mk A60
   clear A60
   by_cases c7 : t443 = true
   ·subst c7
    have H1 : ((lockstepref07_Over.f k l0_0 l0_1 0 a2 a1).bind fun t444 => (some t444)) = some r := by rw [if_pos rfl] at H; exact H
    clear H
    have H := H1
    clear H1
    replace H := Option.bind_eq_some_iff.mp H
    obtain ⟨t444, A80, H⟩ := H
    replace H : (some t444) = some r := H
    have A8 := Aside0.mk A80
    clear A80
    obtain rfl := Option.some.inj H
    go_enter Try.func54, Try.ntmps54
    go_wp2_with (first | ((with_reducible refine gate_dst (N := 3) rfl ?_); refine box_event ?hg (N := 3) ?hd (cs := #[.slice A0_0 l0_0.length c0_0, .slice A0_1 l0_1.length c0_1]) (t := 26) ?hr ?_; (case hd => rfl); (case hg => rfl); (case hr => first | (go_simp; done) | (go_simp; rfl)); intro gb441 hg w9 hbox hb; have n0_ := Aside0.mk (below_step (B_) hb); have n1_ := Aside0.mk (hbox); have n2_ := Aside0.mk ((by rw [hg]; exact (below_size (B_)) : w.heap.size ≤ gb441)); have n3_ := Aside0.mk ((by rw [hg]; exact (below_size (B_)) : w.heap.size ≤ gb441)); clear HB; have HB := n0_; have BK441 := n1_; have GW441 := n2_; have GE441 := n3_; clear n0_ n1_ n2_ n3_; clear hb hbox hg; have hcz10_0 : w9.cell? ⟨gb441, 0, none⟩ = some (.slice A0_0 l0_0.length c0_0) := (blk_cell BK441.out 0).trans rfl; have hcz10_1 : w9.cell? ⟨gb441, 1, none⟩ = some (.slice A0_1 l0_1.length c0_1) := (blk_cell BK441.out 1).trans rfl; have hfz10_0 := blk_frozen BK441.out 0; have hfz10_1 := blk_frozen BK441.out 1; have p442 : 0 ≤ (a1 : Int) := D_; have q442 : a1 < (l0_0.length : Int) := D_; obtain ⟨ad442, A442_0, c442_0, e442, hx442_0, hl442_0, hi442_0⟩ := at_L1 HR0_0.out a1 p442 q442; cases e442; replace hx442_0 := (HB.out.cell (World.block_lt_of_cell? w _ hx442_0)).trans hx442_0; have HR442_0 := Aside0.mk hi442_0; have HC442_0 := Aside0.mk hl442_0; clear hi442_0 hl442_0; replace p442 := eq_true p442; replace q442 := eq_true q442) | ((with_reducible refine gate_callee (f := 12) rfl ?_); refine goesL_ (some 13) rfl rfl Try.func12 (by kernel_rfl) rfl #[.slice A442_0 (rd_L1 l0_0 a1).length c442_0, .int .i64 a2] rfl (by (try simp only [List.map_toArray, List.map_cons, List.map_nil]); first | done | rfl | (simp only [List.length_drop, List.length_take]; rfl)) ?_; (with_reducible refine (lockstepref06_Has.calls k _ _ (rd_L1 l0_0 a1) a2 true _ ?side1 ?side2 A6.out).mono ?_); (case side1 => exact CX_ (Kd.C_below HR442_0.out HB.out)); (case side2 => exact HC442_0.out); rintro e w' ⟨rfl, ⟨nd, rfl⟩⟩; refine ⟨_, rfl, ?_⟩) | (go_at_call 20; (with_reducible refine (lockstepref07_Over.calls k _ _ l0_0 _ _ l0_1 0 a2 a1 t444 _ ?side1 ?side2 ?side3 ?side4 A8.out).mono ?_); (case side1 => repeat (first | exact (Kd.C_below HR0_0.out (B1_)) | (with_reducible refine Kd.C_alloc ?_ _) | (with_reducible refine Kd.C_drewN ?_ _) | (with_reducible refine Kd.C_drew ?_))); (case side2 => exact HC0_0.out); (case side3 => repeat (first | exact (Kd.C_below HR0_1.out (B1_)) | (with_reducible refine Kd.C_alloc ?_ _) | (with_reducible refine Kd.C_drewN ?_ _) | (with_reducible refine Kd.C_drew ?_))); (case side4 => exact HC0_1.out); rintro e w11 ⟨rfl, hb⟩; have n0_ := Aside0.mk (blk_below (g := gb441) (o := .cells #[.slice (some ad442) l0_0.length c0_0, .slice A0_1 l0_1.length c0_1] 26 (0, 0)) (by exact KX_ BK441.out) hb); have n1_ := Aside0.mk (below_step (B1_) hb); clear BK441; clear HB; have BK441 := n0_; have HB := n1_; clear n0_ n1_; (try clear hb); (try clear hb2); (try clear hk); (try clear hi)))
    go_ret
    exact ⟨by first | rfl | (simp [errW_none, errW_some] <;> rfl) | (simp [*, errW_none, errW_some] <;> rfl), B1_⟩
   replace c7 := Bool.eq_false_iff.mpr c7
   subst c7
   have H1 : (some false) = some r := by rw [if_neg (show ¬ (false = true) by decide)] at H; exact H
   clear H
   have H := H1
   clear H1
   obtain rfl := Option.some.inj H
   go_enter Try.func54, Try.ntmps54
   go_wp2_with (first | ((with_reducible refine gate_dst (N := 3) rfl ?_); refine box_event ?hg (N := 3) ?hd (cs := #[.slice A0_0 l0_0.length c0_0, .slice A0_1 l0_1.length c0_1]) (t := 26) ?hr ?_; (case hd => rfl); (case hg => rfl); (case hr => first | (go_simp; done) | (go_simp; rfl)); intro gb441 hg w12 hbox hb; have n0_ := Aside0.mk (below_step (B_) hb); have n1_ := Aside0.mk (hbox); have n2_ := Aside0.mk ((by rw [hg]; exact (below_size (B_)) : w.heap.size ≤ gb441)); have n3_ := Aside0.mk ((by rw [hg]; exact (below_size (B_)) : w.heap.size ≤ gb441)); clear HB; have HB := n0_; have BK441 := n1_; have GW441 := n2_; have GE441 := n3_; clear n0_ n1_ n2_ n3_; clear hb hbox hg; have hcz13_0 : w12.cell? ⟨gb441, 0, none⟩ = some (.slice A0_0 l0_0.length c0_0) := (blk_cell BK441.out 0).trans rfl; have hcz13_1 : w12.cell? ⟨gb441, 1, none⟩ = some (.slice A0_1 l0_1.length c0_1) := (blk_cell BK441.out 1).trans rfl; have hfz13_0 := blk_frozen BK441.out 0; have hfz13_1 := blk_frozen BK441.out 1; have p442 : 0 ≤ (a1 : Int) := D_; have q442 : a1 < (l0_0.length : Int) := D_; obtain ⟨ad442, A442_0, c442_0, e442, hx442_0, hl442_0, hi442_0⟩ := at_L1 HR0_0.out a1 p442 q442; cases e442; replace hx442_0 := (HB.out.cell (World.block_lt_of_cell? w _ hx442_0)).trans hx442_0; have HR442_0 := Aside0.mk hi442_0; have HC442_0 := Aside0.mk hl442_0; clear hi442_0 hl442_0; replace p442 := eq_true p442; replace q442 := eq_true q442) | ((with_reducible refine gate_callee (f := 12) rfl ?_); refine goesL_ (some 13) rfl rfl Try.func12 (by kernel_rfl) rfl #[.slice A442_0 (rd_L1 l0_0 a1).length c442_0, .int .i64 a2] rfl (by (try simp only [List.map_toArray, List.map_cons, List.map_nil]); first | done | rfl | (simp only [List.length_drop, List.length_take]; rfl)) ?_; (with_reducible refine (lockstepref06_Has.calls k _ _ (rd_L1 l0_0 a1) a2 false _ ?side1 ?side2 A6.out).mono ?_); (case side1 => exact CX_ (Kd.C_below HR442_0.out HB.out)); (case side2 => exact HC442_0.out); rintro e w' ⟨rfl, ⟨nd, rfl⟩⟩; refine ⟨_, rfl, ?_⟩))
   go_ret
   exact ⟨by first | rfl | (simp [errW_none, errW_some] <;> rfl) | (simp [*, errW_none, errW_some] <;> rfl), B1_⟩
  rw [if_neg c5] at H
  exact absurd H (by simp)
 rw [if_neg c4] at H
 exact absurd H (by simp)

end Go.Proofs.Ytoekeknfeinphaa.G
