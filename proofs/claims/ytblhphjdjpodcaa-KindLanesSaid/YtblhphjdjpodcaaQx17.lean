/- Printed by a program of this session (wip/tools/op.py, over the kit's print program): Go functions as plain Lean functions, each with a proof that the call answers so. Conditions: each theorem's own. -/
import Derived.Test.YtblhphjdjpodcaaQx0
namespace Go.Proofs.Ytblhphjdjpodcaa.Q
open Go.Proofs.YtblhphjdjpodcaaH
open Go.RowKit Go.Proofs.YtblhphjdjpodcaaW.PrintWords Go.Proofs.YtblhphjdjpodcaaW.PrintLast Go.Proofs.YtblhphjdjpodcaaW.PrintMore
attribute [local go_sem] max2_int min2_int max_two min_two max_three min_three max_four min_four   -- for this text's walks alone
set_option linter.unusedVariables false
set_option linter.unusedSimpArgs false

/-! ### lockstepref03_Args: function 29 -/
mutual
def lockstepref03_Args.j0 : Nat → Int → Bool → Int → Int → Int → Int → List Int → Int → Option (Int)
 | 0, _, _, _, _, _, _, _, _ => none
 | k + 1, x4, x7, x177000, x177001, x177002, x177003, x177004, x177005 => if x7 = true then (some 2) else (if x4 = 13 then (lockstepref03_Args.j1 k x4 (x4 == 13) x177000 x177001 x177002 x177003 x177004 x177005) else (if x4 = 18 then (lockstepref03_Args.j1 k x4 (x4 == 18) x177000 x177001 x177002 x177003 x177004 x177005) else (lockstepref03_Args.j1 k x4 (x4 == 19) x177000 x177001 x177002 x177003 x177004 x177005)))
def lockstepref03_Args.j1 : Nat → Int → Bool → Int → Int → Int → Int → List Int → Int → Option (Int)
 | 0, _, _, _, _, _, _, _, _ => none
 | k + 1, x4, x21, x177000, x177001, x177002, x177003, x177004, x177005 => if x21 = true then (some 3) else (if x4 = 14 then (lockstepref03_Args.j2 k x4 (x4 == 14) x177000 x177001 x177002 x177003 x177004 x177005) else (if x4 = 15 then (lockstepref03_Args.j2 k x4 (x4 == 15) x177000 x177001 x177002 x177003 x177004 x177005) else (if x4 = 16 then (lockstepref03_Args.j2 k x4 (x4 == 16) x177000 x177001 x177002 x177003 x177004 x177005) else (lockstepref03_Args.j2 k x4 (x4 == 22) x177000 x177001 x177002 x177003 x177004 x177005))))
def lockstepref03_Args.j2 : Nat → Int → Bool → Int → Int → Int → Int → List Int → Int → Option (Int)
 | 0, _, _, _, _, _, _, _, _ => none
 | k + 1, x4, x25, x177000, x177001, x177002, x177003, x177004, x177005 => if x25 = true then (some 1) else (if x4 = 20 then (some 4) else (if x4 = 21 then (some x177002) else (some (-1))))
end
def lockstepref03_Args.f (k : Nat) (a0_0 : Int) (a0_1 : Int) (a0_2 : Int) (a0_3 : Int) (l0_4 : List Int) (a0_5 : Int) : Option (Int) := if a0_0 = 0 then (some 0) else (if a0_0 = 1 then (lockstepref03_Args.j0 k a0_0 (a0_0 == 1) a0_0 a0_1 a0_2 a0_3 l0_4 a0_5) else (if a0_0 = 2 then (lockstepref03_Args.j0 k a0_0 (a0_0 == 2) a0_0 a0_1 a0_2 a0_3 l0_4 a0_5) else (if a0_0 = 3 then (lockstepref03_Args.j0 k a0_0 (a0_0 == 3) a0_0 a0_1 a0_2 a0_3 l0_4 a0_5) else (if a0_0 = 4 then (lockstepref03_Args.j0 k a0_0 (a0_0 == 4) a0_0 a0_1 a0_2 a0_3 l0_4 a0_5) else (if a0_0 = 5 then (lockstepref03_Args.j0 k a0_0 (a0_0 == 5) a0_0 a0_1 a0_2 a0_3 l0_4 a0_5) else (if a0_0 = 6 then (lockstepref03_Args.j0 k a0_0 (a0_0 == 6) a0_0 a0_1 a0_2 a0_3 l0_4 a0_5) else (if a0_0 = 7 then (lockstepref03_Args.j0 k a0_0 (a0_0 == 7) a0_0 a0_1 a0_2 a0_3 l0_4 a0_5) else (if a0_0 = 8 then (lockstepref03_Args.j0 k a0_0 (a0_0 == 8) a0_0 a0_1 a0_2 a0_3 l0_4 a0_5) else (if a0_0 = 9 then (lockstepref03_Args.j0 k a0_0 (a0_0 == 9) a0_0 a0_1 a0_2 a0_3 l0_4 a0_5) else (if a0_0 = 10 then (lockstepref03_Args.j0 k a0_0 (a0_0 == 10) a0_0 a0_1 a0_2 a0_3 l0_4 a0_5) else (if a0_0 = 11 then (lockstepref03_Args.j0 k a0_0 (a0_0 == 11) a0_0 a0_1 a0_2 a0_3 l0_4 a0_5) else (if a0_0 = 12 then (lockstepref03_Args.j0 k a0_0 (a0_0 == 12) a0_0 a0_1 a0_2 a0_3 l0_4 a0_5) else (lockstepref03_Args.j0 k a0_0 (a0_0 == 17) a0_0 a0_1 a0_2 a0_3 l0_4 a0_5)))))))))))))
theorem lockstepref03_Args.mono_l : ∀ k, (∀ y0 y1 y2 y3 y4 y5 y6 y7, LeO (lockstepref03_Args.j0 k y0 y1 y2 y3 y4 y5 y6 y7) (lockstepref03_Args.j0 (k + 1) y0 y1 y2 y3 y4 y5 y6 y7)) ∧ (∀ y0 y1 y2 y3 y4 y5 y6 y7, LeO (lockstepref03_Args.j1 k y0 y1 y2 y3 y4 y5 y6 y7) (lockstepref03_Args.j1 (k + 1) y0 y1 y2 y3 y4 y5 y6 y7)) ∧ (∀ y0 y1 y2 y3 y4 y5 y6 y7, LeO (lockstepref03_Args.j2 k y0 y1 y2 y3 y4 y5 y6 y7) (lockstepref03_Args.j2 (k + 1) y0 y1 y2 y3 y4 y5 y6 y7))
 | 0 => ⟨fun _ _ _ _ _ _ _ _ r h => by simp [lockstepref03_Args.j0] at h, fun _ _ _ _ _ _ _ _ r h => by simp [lockstepref03_Args.j1] at h, fun _ _ _ _ _ _ _ _ r h => by simp [lockstepref03_Args.j2] at h⟩
 | k + 1 => by
  obtain ⟨ih0, ih1, ih2⟩ := lockstepref03_Args.mono_l k
  refine ⟨?_, ?_, ?_⟩
  ·intro y0 y1 y2 y3 y4 y5 y6 y7
   unfold lockstepref03_Args.j0
   repeat' first
   | (with_reducible exact ih0 _ _ _ _ _ _ _ _)
   | (with_reducible exact ih1 _ _ _ _ _ _ _ _)
   | (with_reducible exact ih2 _ _ _ _ _ _ _ _)
   | (with_reducible exact LeO.refl _)
   | (with_reducible exact LeO.none _)
   | (with_reducible refine LeO.ite ?_ ?_)
   | (with_reducible refine LeO.bind ?_ (fun _ => ?_))
   | exact ih0 _ _ _ _ _ _ _ _
   | exact ih1 _ _ _ _ _ _ _ _
   | exact ih2 _ _ _ _ _ _ _ _
   | exact LeO.none _
   | refine LeO.ite ?_ ?_
   | refine LeO.bind ?_ (fun _ => ?_)
  ·intro y0 y1 y2 y3 y4 y5 y6 y7
   unfold lockstepref03_Args.j1
   repeat' first
   | (with_reducible exact ih0 _ _ _ _ _ _ _ _)
   | (with_reducible exact ih1 _ _ _ _ _ _ _ _)
   | (with_reducible exact ih2 _ _ _ _ _ _ _ _)
   | (with_reducible exact LeO.refl _)
   | (with_reducible exact LeO.none _)
   | (with_reducible refine LeO.ite ?_ ?_)
   | (with_reducible refine LeO.bind ?_ (fun _ => ?_))
   | exact ih0 _ _ _ _ _ _ _ _
   | exact ih1 _ _ _ _ _ _ _ _
   | exact ih2 _ _ _ _ _ _ _ _
   | exact LeO.none _
   | refine LeO.ite ?_ ?_
   | refine LeO.bind ?_ (fun _ => ?_)
  ·intro y0 y1 y2 y3 y4 y5 y6 y7
   unfold lockstepref03_Args.j2
   repeat' first
   | (with_reducible exact ih0 _ _ _ _ _ _ _ _)
   | (with_reducible exact ih1 _ _ _ _ _ _ _ _)
   | (with_reducible exact ih2 _ _ _ _ _ _ _ _)
   | (with_reducible exact LeO.refl _)
   | (with_reducible exact LeO.none _)
   | (with_reducible refine LeO.ite ?_ ?_)
   | (with_reducible refine LeO.bind ?_ (fun _ => ?_))
   | exact ih0 _ _ _ _ _ _ _ _
   | exact ih1 _ _ _ _ _ _ _ _
   | exact ih2 _ _ _ _ _ _ _ _
   | exact LeO.none _
   | refine LeO.ite ?_ ?_
   | refine LeO.bind ?_ (fun _ => ?_)
theorem lockstepref03_Args.mono : ∀ a0 a1 a2 a3 a4 a5 k, LeO (lockstepref03_Args.f k a0 a1 a2 a3 a4 a5) (lockstepref03_Args.f (k + 1) a0 a1 a2 a3 a4 a5) := by
 intro a0 a1 a2 a3 a4 a5 k
 obtain ⟨ih0, ih1, ih2⟩ := lockstepref03_Args.mono_l k
 unfold lockstepref03_Args.f
 repeat' first
  | (with_reducible exact ih0 _ _ _ _ _ _ _ _)
  | (with_reducible exact ih1 _ _ _ _ _ _ _ _)
  | (with_reducible exact ih2 _ _ _ _ _ _ _ _)
  | (with_reducible exact LeO.refl _)
  | (with_reducible exact LeO.none _)
  | (with_reducible refine LeO.ite ?_ ?_)
  | (with_reducible refine LeO.bind ?_ (fun _ => ?_))
  | exact ih0 _ _ _ _ _ _ _ _
  | exact ih1 _ _ _ _ _ _ _ _
  | exact ih2 _ _ _ _ _ _ _ _
  | exact LeO.none _
  | refine LeO.ite ?_ ?_
  | refine LeO.bind ?_ (fun _ => ?_)
set_option maxHeartbeats 8000000 in
set_option maxRecDepth 100000 in
theorem lockstepref03_Args.calls (k : Nat) (a0_0 : Int) (a0_1 : Int) (a0_2 : Int) (a0_3 : Int) (A0_4 : Option Addr) (c0_4 : Nat) (l0_4 : List Int) (a0_5 : Int) (r : Int) (w : World) (hr0_4 : Kd.C (Kd.int .i64) w A0_4 l0_4.length l0_4) (hc0_4 : l0_4.length ≤ c0_4) (h : lockstepref03_Args.f k a0_0 a0_1 a0_2 a0_3 l0_4 a0_5 = some r) :
 Calls Try.prog 29 #[.agg #[.int .i64 a0_0, .int .i64 a0_1, .int .i64 a0_2, .int .i64 a0_3, .slice A0_4 l0_4.length c0_4, .int .u64 a0_5]] w fun e w' => e = .returned (.int .i64 r) ∧ Below w.heap.size w w' := by
 have hu27 := Try.underlying27
 have HR0_4 := Aside0.mk hr0_4
 have HC0_4 := Aside0.mk hc0_4
 clear hr0_4 hc0_4
 have HB := Aside0.mk (Below.refl w.heap.size w)
 have H : (if a0_0 = 0 then (some 0) else (if a0_0 = 1 then (lockstepref03_Args.j0 k a0_0 (a0_0 == 1) a0_0 a0_1 a0_2 a0_3 l0_4 a0_5) else (if a0_0 = 2 then (lockstepref03_Args.j0 k a0_0 (a0_0 == 2) a0_0 a0_1 a0_2 a0_3 l0_4 a0_5) else (if a0_0 = 3 then (lockstepref03_Args.j0 k a0_0 (a0_0 == 3) a0_0 a0_1 a0_2 a0_3 l0_4 a0_5) else (if a0_0 = 4 then (lockstepref03_Args.j0 k a0_0 (a0_0 == 4) a0_0 a0_1 a0_2 a0_3 l0_4 a0_5) else (if a0_0 = 5 then (lockstepref03_Args.j0 k a0_0 (a0_0 == 5) a0_0 a0_1 a0_2 a0_3 l0_4 a0_5) else (if a0_0 = 6 then (lockstepref03_Args.j0 k a0_0 (a0_0 == 6) a0_0 a0_1 a0_2 a0_3 l0_4 a0_5) else (if a0_0 = 7 then (lockstepref03_Args.j0 k a0_0 (a0_0 == 7) a0_0 a0_1 a0_2 a0_3 l0_4 a0_5) else (if a0_0 = 8 then (lockstepref03_Args.j0 k a0_0 (a0_0 == 8) a0_0 a0_1 a0_2 a0_3 l0_4 a0_5) else (if a0_0 = 9 then (lockstepref03_Args.j0 k a0_0 (a0_0 == 9) a0_0 a0_1 a0_2 a0_3 l0_4 a0_5) else (if a0_0 = 10 then (lockstepref03_Args.j0 k a0_0 (a0_0 == 10) a0_0 a0_1 a0_2 a0_3 l0_4 a0_5) else (if a0_0 = 11 then (lockstepref03_Args.j0 k a0_0 (a0_0 == 11) a0_0 a0_1 a0_2 a0_3 l0_4 a0_5) else (if a0_0 = 12 then (lockstepref03_Args.j0 k a0_0 (a0_0 == 12) a0_0 a0_1 a0_2 a0_3 l0_4 a0_5) else (lockstepref03_Args.j0 k a0_0 (a0_0 == 17) a0_0 a0_1 a0_2 a0_3 l0_4 a0_5)))))))))))))) = some r := h
 clear h
 by_cases c2 : a0_0 = 0
 ·rw [if_pos c2] at H
  have c2b0 : (a0_0 == 0) = true := beq_iff_eq.mpr c2
  have c2b1 : (a0_0 != 0) = false := bne_eq_false_iff_eq.mpr c2
  clear c2
  obtain rfl := Option.some.inj H
  go_enter Try.func29, Try.ntmps29
  go_wp2_with (first | ((with_reducible refine gate_dst (N := 1) rfl ?_); refine box_event ?hg (N := 1) ?hd (cs := #[.int .i64 a0_0, .int .i64 a0_1, .int .i64 a0_2, .int .i64 a0_3, .slice A0_4 l0_4.length c0_4, .int .u64 a0_5]) (t := 27) ?hr ?_; (case hd => rfl); (case hg => rfl); (case hr => first | (go_simp; done) | (go_simp; rfl)); intro gb176 hg w3 hbox hb; have n0_ := Aside0.mk (below_step (B_) hb); have n1_ := Aside0.mk (hbox); have n2_ := Aside0.mk ((by rw [hg]; exact (below_size (B_)) : w.heap.size ≤ gb176)); have n3_ := Aside0.mk ((by rw [hg]; exact (below_size (B_)) : w.heap.size ≤ gb176)); clear HB; have HB := n0_; have BK176 := n1_; have GW176 := n2_; have GE176 := n3_; clear n0_ n1_ n2_ n3_; clear hb hbox hg; have hcz4_0 : w3.cell? ⟨gb176, 0, none⟩ = some (.int .i64 a0_0) := (blk_cell BK176.out 0).trans rfl; have hcz4_1 : w3.cell? ⟨gb176, 1, none⟩ = some (.int .i64 a0_1) := (blk_cell BK176.out 1).trans rfl; have hcz4_2 : w3.cell? ⟨gb176, 2, none⟩ = some (.int .i64 a0_2) := (blk_cell BK176.out 2).trans rfl; have hcz4_3 : w3.cell? ⟨gb176, 3, none⟩ = some (.int .i64 a0_3) := (blk_cell BK176.out 3).trans rfl; have hcz4_4 : w3.cell? ⟨gb176, 4, none⟩ = some (.slice A0_4 l0_4.length c0_4) := (blk_cell BK176.out 4).trans rfl; have hcz4_5 : w3.cell? ⟨gb176, 5, none⟩ = some (.int .u64 a0_5) := (blk_cell BK176.out 5).trans rfl; have hfz4_0 := blk_frozen BK176.out 0; have hfz4_1 := blk_frozen BK176.out 1; have hfz4_2 := blk_frozen BK176.out 2; have hfz4_3 := blk_frozen BK176.out 3; have hfz4_4 := blk_frozen BK176.out 4; have hfz4_5 := blk_frozen BK176.out 5))
  go_ret
  exact ⟨by first | rfl | (simp [errW_none, errW_some] <;> rfl) | (simp [*, errW_none, errW_some] <;> rfl), B1_⟩
 rw [if_neg c2] at H
 have c2b0 : (a0_0 == 0) = false := beq_eq_false_iff_ne.mpr c2
 have c2b1 : (a0_0 != 0) = true := bne_iff_ne.mpr c2
 have HC5 := Aside0.mk H
 clear H
 go_enter Try.func29, Try.ntmps29
 go_upto_if 7 with (first | ((with_reducible refine gate_dst (N := 1) rfl ?_); refine box_event ?hg (N := 1) ?hd (cs := #[.int .i64 a0_0, .int .i64 a0_1, .int .i64 a0_2, .int .i64 a0_3, .slice A0_4 l0_4.length c0_4, .int .u64 a0_5]) (t := 27) ?hr ?_; (case hd => rfl); (case hg => rfl); (case hr => first | (go_simp; done) | (go_simp; rfl)); intro gb176 hg w6 hbox hb; have n0_ := Aside0.mk (below_step (B_) hb); have n1_ := Aside0.mk (hbox); have n2_ := Aside0.mk ((by rw [hg]; exact (below_size (B_)) : w.heap.size ≤ gb176)); have n3_ := Aside0.mk ((by rw [hg]; exact (below_size (B_)) : w.heap.size ≤ gb176)); clear HB; have HB := n0_; have BK176 := n1_; have GW176 := n2_; have GE176 := n3_; clear n0_ n1_ n2_ n3_; clear hb hbox hg; have hcz7_0 : w6.cell? ⟨gb176, 0, none⟩ = some (.int .i64 a0_0) := (blk_cell BK176.out 0).trans rfl; have hcz7_1 : w6.cell? ⟨gb176, 1, none⟩ = some (.int .i64 a0_1) := (blk_cell BK176.out 1).trans rfl; have hcz7_2 : w6.cell? ⟨gb176, 2, none⟩ = some (.int .i64 a0_2) := (blk_cell BK176.out 2).trans rfl; have hcz7_3 : w6.cell? ⟨gb176, 3, none⟩ = some (.int .i64 a0_3) := (blk_cell BK176.out 3).trans rfl; have hcz7_4 : w6.cell? ⟨gb176, 4, none⟩ = some (.slice A0_4 l0_4.length c0_4) := (blk_cell BK176.out 4).trans rfl; have hcz7_5 : w6.cell? ⟨gb176, 5, none⟩ = some (.int .u64 a0_5) := (blk_cell BK176.out 5).trans rfl; have hfz7_0 := blk_frozen BK176.out 0; have hfz7_1 := blk_frozen BK176.out 1; have hfz7_2 := blk_frozen BK176.out 2; have hfz7_3 := blk_frozen BK176.out 3; have hfz7_4 := blk_frozen BK176.out 4; have hfz7_5 := blk_frozen BK176.out 5))
 (try simp only [Act.put, List.setIfInBounds_toArray, List.set_cons_zero, List.set_cons_succ])
 go_cut [7] (fun v7 wc => ∃ (kq : Nat) (x7_4 : Bool), v7 = .bool x7_4 ∧ Aside0 (lockstepref03_Args.j0 kq a0_0 x7_4 a0_0 a0_1 a0_2 a0_3 l0_4 a0_5 = some r) ∧ Aside0 (kq ≤ k) ∧ Aside0 (wc.heap[gb176]? = some (.cells #[.int .i64 a0_0, .int .i64 a0_1, .int .i64 a0_2, .int .i64 a0_3, (.slice A0_4 l0_4.length c0_4), .int .u64 a0_5] 27 (0, 0))) ∧ Aside0 (Below w.heap.size w wc))
 case first =>
  have H := HC5.out
  clear HC5
  by_cases c8 : a0_0 = 1
  ·rw [if_pos c8] at H
   have c8b0 : (a0_0 == 1) = true := beq_iff_eq.mpr c8
   have c8b1 : (a0_0 != 1) = false := bne_eq_false_iff_eq.mpr c8
   clear c8
   (first | rw [c8b0] | (simp only [i64_w, i32_w]; rw [c8b0]) | skip)
   have H' := Aside0.mk H
   clear H
   go_wp2
   go_meet
   case rel => exact ⟨_, ((a0_0 == 1)), (by first | rfl | (simp; done) | (simp [*]; done)), H', ⟨by first | omega | exact Nat.le_refl _⟩, ⟨by (with_reducible repeat (first | refine blk_drewN ?_ _ | refine blk_drew ?_ | refine blk_alloc ?_ _)); exact BK176.out⟩, ⟨B1_⟩⟩
  rw [if_neg c8] at H
  have c8b0 : (a0_0 == 1) = false := beq_eq_false_iff_ne.mpr c8
  have c8b1 : (a0_0 != 1) = true := bne_iff_ne.mpr c8
  (first | rw [c8b0] | (simp only [i64_w, i32_w]; rw [c8b0]) | skip)
  by_cases c9 : a0_0 = 2
  ·rw [if_pos c9] at H
   have c9b0 : (a0_0 == 2) = true := beq_iff_eq.mpr c9
   have c9b1 : (a0_0 != 2) = false := bne_eq_false_iff_eq.mpr c9
   clear c9
   have H' := Aside0.mk H
   clear H
   go_wp2
   go_meet
   case rel => exact ⟨_, ((a0_0 == 2)), (by first | rfl | (simp; done) | (simp [*]; done)), H', ⟨by first | omega | exact Nat.le_refl _⟩, ⟨by (with_reducible repeat (first | refine blk_drewN ?_ _ | refine blk_drew ?_ | refine blk_alloc ?_ _)); exact BK176.out⟩, ⟨B1_⟩⟩
  rw [if_neg c9] at H
  have c9b0 : (a0_0 == 2) = false := beq_eq_false_iff_ne.mpr c9
  have c9b1 : (a0_0 != 2) = true := bne_iff_ne.mpr c9
  by_cases c10 : a0_0 = 3
  ·rw [if_pos c10] at H
   have c10b0 : (a0_0 == 3) = true := beq_iff_eq.mpr c10
   have c10b1 : (a0_0 != 3) = false := bne_eq_false_iff_eq.mpr c10
   clear c10
   have H' := Aside0.mk H
   clear H
   go_wp2
   go_meet
   case rel => exact ⟨_, ((a0_0 == 3)), (by first | rfl | (simp; done) | (simp [*]; done)), H', ⟨by first | omega | exact Nat.le_refl _⟩, ⟨by (with_reducible repeat (first | refine blk_drewN ?_ _ | refine blk_drew ?_ | refine blk_alloc ?_ _)); exact BK176.out⟩, ⟨B1_⟩⟩
  rw [if_neg c10] at H
  have c10b0 : (a0_0 == 3) = false := beq_eq_false_iff_ne.mpr c10
  have c10b1 : (a0_0 != 3) = true := bne_iff_ne.mpr c10
  by_cases c11 : a0_0 = 4
  ·rw [if_pos c11] at H
   have c11b0 : (a0_0 == 4) = true := beq_iff_eq.mpr c11
   have c11b1 : (a0_0 != 4) = false := bne_eq_false_iff_eq.mpr c11
   clear c11
   have H' := Aside0.mk H
   clear H
   go_wp2
   go_meet
   case rel => exact ⟨_, ((a0_0 == 4)), (by first | rfl | (simp; done) | (simp [*]; done)), H', ⟨by first | omega | exact Nat.le_refl _⟩, ⟨by (with_reducible repeat (first | refine blk_drewN ?_ _ | refine blk_drew ?_ | refine blk_alloc ?_ _)); exact BK176.out⟩, ⟨B1_⟩⟩
  rw [if_neg c11] at H
  have c11b0 : (a0_0 == 4) = false := beq_eq_false_iff_ne.mpr c11
  have c11b1 : (a0_0 != 4) = true := bne_iff_ne.mpr c11
  by_cases c12 : a0_0 = 5
  ·rw [if_pos c12] at H
   have c12b0 : (a0_0 == 5) = true := beq_iff_eq.mpr c12
   have c12b1 : (a0_0 != 5) = false := bne_eq_false_iff_eq.mpr c12
   clear c12
   have H' := Aside0.mk H
   clear H
   go_wp2
   go_meet
   case rel => exact ⟨_, ((a0_0 == 5)), (by first | rfl | (simp; done) | (simp [*]; done)), H', ⟨by first | omega | exact Nat.le_refl _⟩, ⟨by (with_reducible repeat (first | refine blk_drewN ?_ _ | refine blk_drew ?_ | refine blk_alloc ?_ _)); exact BK176.out⟩, ⟨B1_⟩⟩
  rw [if_neg c12] at H
  have c12b0 : (a0_0 == 5) = false := beq_eq_false_iff_ne.mpr c12
  have c12b1 : (a0_0 != 5) = true := bne_iff_ne.mpr c12
  by_cases c13 : a0_0 = 6
  ·rw [if_pos c13] at H
   have c13b0 : (a0_0 == 6) = true := beq_iff_eq.mpr c13
   have c13b1 : (a0_0 != 6) = false := bne_eq_false_iff_eq.mpr c13
   clear c13
   have H' := Aside0.mk H
   clear H
   go_wp2
   go_meet
   case rel => exact ⟨_, ((a0_0 == 6)), (by first | rfl | (simp; done) | (simp [*]; done)), H', ⟨by first | omega | exact Nat.le_refl _⟩, ⟨by (with_reducible repeat (first | refine blk_drewN ?_ _ | refine blk_drew ?_ | refine blk_alloc ?_ _)); exact BK176.out⟩, ⟨B1_⟩⟩
  rw [if_neg c13] at H
  have c13b0 : (a0_0 == 6) = false := beq_eq_false_iff_ne.mpr c13
  have c13b1 : (a0_0 != 6) = true := bne_iff_ne.mpr c13
  by_cases c14 : a0_0 = 7
  ·rw [if_pos c14] at H
   have c14b0 : (a0_0 == 7) = true := beq_iff_eq.mpr c14
   have c14b1 : (a0_0 != 7) = false := bne_eq_false_iff_eq.mpr c14
   clear c14
   have H' := Aside0.mk H
   clear H
   go_wp2
   go_meet
   case rel => exact ⟨_, ((a0_0 == 7)), (by first | rfl | (simp; done) | (simp [*]; done)), H', ⟨by first | omega | exact Nat.le_refl _⟩, ⟨by (with_reducible repeat (first | refine blk_drewN ?_ _ | refine blk_drew ?_ | refine blk_alloc ?_ _)); exact BK176.out⟩, ⟨B1_⟩⟩
  rw [if_neg c14] at H
  have c14b0 : (a0_0 == 7) = false := beq_eq_false_iff_ne.mpr c14
  have c14b1 : (a0_0 != 7) = true := bne_iff_ne.mpr c14
  by_cases c15 : a0_0 = 8
  ·rw [if_pos c15] at H
   have c15b0 : (a0_0 == 8) = true := beq_iff_eq.mpr c15
   have c15b1 : (a0_0 != 8) = false := bne_eq_false_iff_eq.mpr c15
   clear c15
   have H' := Aside0.mk H
   clear H
   go_wp2
   go_meet
   case rel => exact ⟨_, ((a0_0 == 8)), (by first | rfl | (simp; done) | (simp [*]; done)), H', ⟨by first | omega | exact Nat.le_refl _⟩, ⟨by (with_reducible repeat (first | refine blk_drewN ?_ _ | refine blk_drew ?_ | refine blk_alloc ?_ _)); exact BK176.out⟩, ⟨B1_⟩⟩
  rw [if_neg c15] at H
  have c15b0 : (a0_0 == 8) = false := beq_eq_false_iff_ne.mpr c15
  have c15b1 : (a0_0 != 8) = true := bne_iff_ne.mpr c15
  by_cases c16 : a0_0 = 9
  ·rw [if_pos c16] at H
   have c16b0 : (a0_0 == 9) = true := beq_iff_eq.mpr c16
   have c16b1 : (a0_0 != 9) = false := bne_eq_false_iff_eq.mpr c16
   clear c16
   have H' := Aside0.mk H
   clear H
   go_wp2
   go_meet
   case rel => exact ⟨_, ((a0_0 == 9)), (by first | rfl | (simp; done) | (simp [*]; done)), H', ⟨by first | omega | exact Nat.le_refl _⟩, ⟨by (with_reducible repeat (first | refine blk_drewN ?_ _ | refine blk_drew ?_ | refine blk_alloc ?_ _)); exact BK176.out⟩, ⟨B1_⟩⟩
  rw [if_neg c16] at H
  have c16b0 : (a0_0 == 9) = false := beq_eq_false_iff_ne.mpr c16
  have c16b1 : (a0_0 != 9) = true := bne_iff_ne.mpr c16
  by_cases c17 : a0_0 = 10
  ·rw [if_pos c17] at H
   have c17b0 : (a0_0 == 10) = true := beq_iff_eq.mpr c17
   have c17b1 : (a0_0 != 10) = false := bne_eq_false_iff_eq.mpr c17
   clear c17
   have H' := Aside0.mk H
   clear H
   go_wp2
   go_meet
   case rel => exact ⟨_, ((a0_0 == 10)), (by first | rfl | (simp; done) | (simp [*]; done)), H', ⟨by first | omega | exact Nat.le_refl _⟩, ⟨by (with_reducible repeat (first | refine blk_drewN ?_ _ | refine blk_drew ?_ | refine blk_alloc ?_ _)); exact BK176.out⟩, ⟨B1_⟩⟩
  rw [if_neg c17] at H
  have c17b0 : (a0_0 == 10) = false := beq_eq_false_iff_ne.mpr c17
  have c17b1 : (a0_0 != 10) = true := bne_iff_ne.mpr c17
  by_cases c18 : a0_0 = 11
  ·rw [if_pos c18] at H
   have c18b0 : (a0_0 == 11) = true := beq_iff_eq.mpr c18
   have c18b1 : (a0_0 != 11) = false := bne_eq_false_iff_eq.mpr c18
   clear c18
   have H' := Aside0.mk H
   clear H
   go_wp2
   go_meet
   case rel => exact ⟨_, ((a0_0 == 11)), (by first | rfl | (simp; done) | (simp [*]; done)), H', ⟨by first | omega | exact Nat.le_refl _⟩, ⟨by (with_reducible repeat (first | refine blk_drewN ?_ _ | refine blk_drew ?_ | refine blk_alloc ?_ _)); exact BK176.out⟩, ⟨B1_⟩⟩
  rw [if_neg c18] at H
  have c18b0 : (a0_0 == 11) = false := beq_eq_false_iff_ne.mpr c18
  have c18b1 : (a0_0 != 11) = true := bne_iff_ne.mpr c18
  by_cases c19 : a0_0 = 12
  ·rw [if_pos c19] at H
   have c19b0 : (a0_0 == 12) = true := beq_iff_eq.mpr c19
   have c19b1 : (a0_0 != 12) = false := bne_eq_false_iff_eq.mpr c19
   clear c19
   have H' := Aside0.mk H
   clear H
   go_wp2
   go_meet
   case rel => exact ⟨_, ((a0_0 == 12)), (by first | rfl | (simp; done) | (simp [*]; done)), H', ⟨by first | omega | exact Nat.le_refl _⟩, ⟨by (with_reducible repeat (first | refine blk_drewN ?_ _ | refine blk_drew ?_ | refine blk_alloc ?_ _)); exact BK176.out⟩, ⟨B1_⟩⟩
  rw [if_neg c19] at H
  have c19b0 : (a0_0 == 12) = false := beq_eq_false_iff_ne.mpr c19
  have c19b1 : (a0_0 != 12) = true := bne_iff_ne.mpr c19
  have H' := Aside0.mk H
  clear H
  go_wp2
  go_meet
  case rel => exact ⟨_, ((a0_0 == 17)), (by first | rfl | (simp; done) | (simp [*]; done)), H', ⟨by first | omega | exact Nat.le_refl _⟩, ⟨by (with_reducible repeat (first | refine blk_drewN ?_ _ | refine blk_drew ?_ | refine blk_alloc ?_ _)); exact BK176.out⟩, ⟨B1_⟩⟩
 case rest =>
  clear HC5
  try clear c1
  try clear c2
  try clear c2b0
  try clear c2b1
  try clear p2
  try clear c8
  try clear c8b0
  try clear c8b1
  try clear c9
  try clear c9b0
  try clear c9b1
  try clear c10
  try clear c10b0
  try clear c10b1
  try clear c11
  try clear c11b0
  try clear c11b1
  try clear c12
  try clear c12b0
  try clear c12b1
  try clear c13
  try clear c13b0
  try clear c13b1
  try clear c14
  try clear c14b0
  try clear c14b1
  try clear c15
  try clear c15b0
  try clear c15b1
  try clear c16
  try clear c16b0
  try clear c16b1
  try clear c17
  try clear c17b0
  try clear c17b1
  try clear c18
  try clear c18b0
  try clear c18b1
  try clear c19
  try clear c19b0
  try clear c19b1
  try clear hcz4_0
  try clear hcz4_1
  try clear hcz4_2
  try clear hcz4_3
  try clear hcz4_4
  try clear hcz4_5
  try clear hcz7_0
  try clear hcz7_1
  try clear hcz7_2
  try clear hcz7_3
  try clear hcz7_4
  try clear hcz7_5
  try clear hfz4_0
  try clear hfz4_1
  try clear hfz4_2
  try clear hfz4_3
  try clear hfz4_4
  try clear hfz4_5
  try clear hfz7_0
  try clear hfz7_1
  try clear hfz7_2
  try clear hfz7_3
  try clear hfz7_4
  try clear hfz7_5
  obtain ⟨kq, x7_4, rfl, HA, HJ4, BK176, HB⟩ := hcut
  cases kq with
  | zero => exact absurd HA.out (by simp [lockstepref03_Args.j0])
  | succ kj4 =>
   have H := HA.out
   clear HA
   simp only [lockstepref03_Args.j0] at H
   by_cases c20 : x7_4 = true
   ·subst c20
    have H1 : (some 2) = some r := by rw [if_pos rfl] at H; exact H
    clear H
    have H := H1
    clear H1
    obtain rfl := Option.some.inj H
    go_wp2
    go_ret
    exact ⟨by first | rfl | (simp [errW_none, errW_some] <;> rfl) | (simp [*, errW_none, errW_some] <;> rfl), B1_⟩
   replace c20 := Bool.eq_false_iff.mpr c20
   subst c20
   have H1 : (if a0_0 = 13 then (lockstepref03_Args.j1 kj4 a0_0 (a0_0 == 13) a0_0 a0_1 a0_2 a0_3 l0_4 a0_5) else (if a0_0 = 18 then (lockstepref03_Args.j1 kj4 a0_0 (a0_0 == 18) a0_0 a0_1 a0_2 a0_3 l0_4 a0_5) else (lockstepref03_Args.j1 kj4 a0_0 (a0_0 == 19) a0_0 a0_1 a0_2 a0_3 l0_4 a0_5))) = some r := by rw [if_neg (show ¬ (false = true) by decide)] at H; exact H
   clear H
   have H := H1
   clear H1
   have HC21 := Aside0.mk H
   clear H
   go_upto_if 21 with (fail)
   go_cut [21] (fun v21 wc => ∃ (kq : Nat) (x21_20 : Bool), v21 = .bool x21_20 ∧ Aside0 (lockstepref03_Args.j1 kq a0_0 x21_20 a0_0 a0_1 a0_2 a0_3 l0_4 a0_5 = some r) ∧ Aside0 (kq ≤ kj4) ∧ Aside0 (wc.heap[gb176]? = some (.cells #[.int .i64 a0_0, .int .i64 a0_1, .int .i64 a0_2, .int .i64 a0_3, (.slice A0_4 l0_4.length c0_4), .int .u64 a0_5] 27 (0, 0))) ∧ Aside0 (Below w.heap.size w wc))
   case first =>
    have H := HC21.out
    clear HC21
    by_cases c22 : a0_0 = 13
    ·rw [if_pos c22] at H
     have c22b0 : (a0_0 == 13) = true := beq_iff_eq.mpr c22
     have c22b1 : (a0_0 != 13) = false := bne_eq_false_iff_eq.mpr c22
     clear c22
     (first | rw [c22b0] | (simp only [i64_w, i32_w]; rw [c22b0]) | skip)
     have H' := Aside0.mk H
     clear H
     go_wp2
     go_meet
     case rel => exact ⟨_, ((a0_0 == 13)), (by first | rfl | (simp; done) | (simp [*]; done)), H', ⟨by have := HJ4.out; first | omega | exact Nat.le_refl _⟩, ⟨by (with_reducible repeat (first | refine blk_drewN ?_ _ | refine blk_drew ?_ | refine blk_alloc ?_ _)); exact BK176.out⟩, ⟨B1_⟩⟩
    rw [if_neg c22] at H
    have c22b0 : (a0_0 == 13) = false := beq_eq_false_iff_ne.mpr c22
    have c22b1 : (a0_0 != 13) = true := bne_iff_ne.mpr c22
    (first | rw [c22b0] | (simp only [i64_w, i32_w]; rw [c22b0]) | skip)
    by_cases c23 : a0_0 = 18
    ·rw [if_pos c23] at H
     have c23b0 : (a0_0 == 18) = true := beq_iff_eq.mpr c23
     have c23b1 : (a0_0 != 18) = false := bne_eq_false_iff_eq.mpr c23
     clear c23
     have H' := Aside0.mk H
     clear H
     go_wp2
     go_meet
     case rel => exact ⟨_, ((a0_0 == 18)), (by first | rfl | (simp; done) | (simp [*]; done)), H', ⟨by have := HJ4.out; first | omega | exact Nat.le_refl _⟩, ⟨by (with_reducible repeat (first | refine blk_drewN ?_ _ | refine blk_drew ?_ | refine blk_alloc ?_ _)); exact BK176.out⟩, ⟨B1_⟩⟩
    rw [if_neg c23] at H
    have c23b0 : (a0_0 == 18) = false := beq_eq_false_iff_ne.mpr c23
    have c23b1 : (a0_0 != 18) = true := bne_iff_ne.mpr c23
    have H' := Aside0.mk H
    clear H
    go_wp2
    go_meet
    case rel => exact ⟨_, ((a0_0 == 19)), (by first | rfl | (simp; done) | (simp [*]; done)), H', ⟨by have := HJ4.out; first | omega | exact Nat.le_refl _⟩, ⟨by (with_reducible repeat (first | refine blk_drewN ?_ _ | refine blk_drew ?_ | refine blk_alloc ?_ _)); exact BK176.out⟩, ⟨B1_⟩⟩
   case rest =>
    clear HC21
    try clear c1
    try clear c2
    try clear c2b0
    try clear c2b1
    try clear p2
    try clear c8
    try clear c8b0
    try clear c8b1
    try clear c9
    try clear c9b0
    try clear c9b1
    try clear c10
    try clear c10b0
    try clear c10b1
    try clear c11
    try clear c11b0
    try clear c11b1
    try clear c12
    try clear c12b0
    try clear c12b1
    try clear c13
    try clear c13b0
    try clear c13b1
    try clear c14
    try clear c14b0
    try clear c14b1
    try clear c15
    try clear c15b0
    try clear c15b1
    try clear c16
    try clear c16b0
    try clear c16b1
    try clear c17
    try clear c17b0
    try clear c17b1
    try clear c18
    try clear c18b0
    try clear c18b1
    try clear c19
    try clear c19b0
    try clear c19b1
    try clear c20
    try clear c22
    try clear c22b0
    try clear c22b1
    try clear c23
    try clear c23b0
    try clear c23b1
    try clear hcz4_0
    try clear hcz4_1
    try clear hcz4_2
    try clear hcz4_3
    try clear hcz4_4
    try clear hcz4_5
    try clear hcz7_0
    try clear hcz7_1
    try clear hcz7_2
    try clear hcz7_3
    try clear hcz7_4
    try clear hcz7_5
    try clear hfz4_0
    try clear hfz4_1
    try clear hfz4_2
    try clear hfz4_3
    try clear hfz4_4
    try clear hfz4_5
    try clear hfz7_0
    try clear hfz7_1
    try clear hfz7_2
    try clear hfz7_3
    try clear hfz7_4
    try clear hfz7_5
    try clear p2
    obtain ⟨kq, x21_20, rfl, HA, HJ20, BK176, HB⟩ := hcut
    cases kq with
    | zero => exact absurd HA.out (by simp [lockstepref03_Args.j1])
    | succ kj20 =>
     have H := HA.out
     clear HA
     simp only [lockstepref03_Args.j1] at H
     by_cases c24 : x21_20 = true
     ·subst c24
      have H1 : (some 3) = some r := by rw [if_pos rfl] at H; exact H
      clear H
      have H := H1
      clear H1
      obtain rfl := Option.some.inj H
      go_wp2
      go_ret
      exact ⟨by first | rfl | (simp [errW_none, errW_some] <;> rfl) | (simp [*, errW_none, errW_some] <;> rfl), B1_⟩
     replace c24 := Bool.eq_false_iff.mpr c24
     subst c24
     have H1 : (if a0_0 = 14 then (lockstepref03_Args.j2 kj20 a0_0 (a0_0 == 14) a0_0 a0_1 a0_2 a0_3 l0_4 a0_5) else (if a0_0 = 15 then (lockstepref03_Args.j2 kj20 a0_0 (a0_0 == 15) a0_0 a0_1 a0_2 a0_3 l0_4 a0_5) else (if a0_0 = 16 then (lockstepref03_Args.j2 kj20 a0_0 (a0_0 == 16) a0_0 a0_1 a0_2 a0_3 l0_4 a0_5) else (lockstepref03_Args.j2 kj20 a0_0 (a0_0 == 22) a0_0 a0_1 a0_2 a0_3 l0_4 a0_5)))) = some r := by rw [if_neg (show ¬ (false = true) by decide)] at H; exact H
     clear H
     have H := H1
     clear H1
     have HC25 := Aside0.mk H
     clear H
     go_upto_if 25 with (fail)
     go_cut [25] (fun v25 wc => ∃ (kq : Nat) (x25_24 : Bool), v25 = .bool x25_24 ∧ Aside0 (lockstepref03_Args.j2 kq a0_0 x25_24 a0_0 a0_1 a0_2 a0_3 l0_4 a0_5 = some r) ∧ Aside0 (kq ≤ kj20) ∧ Aside0 (wc.heap[gb176]? = some (.cells #[.int .i64 a0_0, .int .i64 a0_1, .int .i64 a0_2, .int .i64 a0_3, (.slice A0_4 l0_4.length c0_4), .int .u64 a0_5] 27 (0, 0))) ∧ Aside0 (Below w.heap.size w wc))
     case first =>
      have H := HC25.out
      clear HC25
      by_cases c26 : a0_0 = 14
      ·rw [if_pos c26] at H
       have c26b0 : (a0_0 == 14) = true := beq_iff_eq.mpr c26
       have c26b1 : (a0_0 != 14) = false := bne_eq_false_iff_eq.mpr c26
       clear c26
       (first | rw [c26b0] | (simp only [i64_w, i32_w]; rw [c26b0]) | skip)
       have H' := Aside0.mk H
       clear H
       go_wp2
       go_meet
       case rel => exact ⟨_, ((a0_0 == 14)), (by first | rfl | (simp; done) | (simp [*]; done)), H', ⟨by have := HJ4.out; have := HJ20.out; first | omega | exact Nat.le_refl _⟩, ⟨by (with_reducible repeat (first | refine blk_drewN ?_ _ | refine blk_drew ?_ | refine blk_alloc ?_ _)); exact BK176.out⟩, ⟨B1_⟩⟩
      rw [if_neg c26] at H
      have c26b0 : (a0_0 == 14) = false := beq_eq_false_iff_ne.mpr c26
      have c26b1 : (a0_0 != 14) = true := bne_iff_ne.mpr c26
      (first | rw [c26b0] | (simp only [i64_w, i32_w]; rw [c26b0]) | skip)
      by_cases c27 : a0_0 = 15
      ·rw [if_pos c27] at H
       have c27b0 : (a0_0 == 15) = true := beq_iff_eq.mpr c27
       have c27b1 : (a0_0 != 15) = false := bne_eq_false_iff_eq.mpr c27
       clear c27
       have H' := Aside0.mk H
       clear H
       go_wp2
       go_meet
       case rel => exact ⟨_, ((a0_0 == 15)), (by first | rfl | (simp; done) | (simp [*]; done)), H', ⟨by have := HJ4.out; have := HJ20.out; first | omega | exact Nat.le_refl _⟩, ⟨by (with_reducible repeat (first | refine blk_drewN ?_ _ | refine blk_drew ?_ | refine blk_alloc ?_ _)); exact BK176.out⟩, ⟨B1_⟩⟩
      rw [if_neg c27] at H
      have c27b0 : (a0_0 == 15) = false := beq_eq_false_iff_ne.mpr c27
      have c27b1 : (a0_0 != 15) = true := bne_iff_ne.mpr c27
      by_cases c28 : a0_0 = 16
      ·rw [if_pos c28] at H
       have c28b0 : (a0_0 == 16) = true := beq_iff_eq.mpr c28
       have c28b1 : (a0_0 != 16) = false := bne_eq_false_iff_eq.mpr c28
       clear c28
       have H' := Aside0.mk H
       clear H
       go_wp2
       go_meet
       case rel => exact ⟨_, ((a0_0 == 16)), (by first | rfl | (simp; done) | (simp [*]; done)), H', ⟨by have := HJ4.out; have := HJ20.out; first | omega | exact Nat.le_refl _⟩, ⟨by (with_reducible repeat (first | refine blk_drewN ?_ _ | refine blk_drew ?_ | refine blk_alloc ?_ _)); exact BK176.out⟩, ⟨B1_⟩⟩
      rw [if_neg c28] at H
      have c28b0 : (a0_0 == 16) = false := beq_eq_false_iff_ne.mpr c28
      have c28b1 : (a0_0 != 16) = true := bne_iff_ne.mpr c28
      have H' := Aside0.mk H
      clear H
      go_wp2
      go_meet
      case rel => exact ⟨_, ((a0_0 == 22)), (by first | rfl | (simp; done) | (simp [*]; done)), H', ⟨by have := HJ4.out; have := HJ20.out; first | omega | exact Nat.le_refl _⟩, ⟨by (with_reducible repeat (first | refine blk_drewN ?_ _ | refine blk_drew ?_ | refine blk_alloc ?_ _)); exact BK176.out⟩, ⟨B1_⟩⟩
     case rest =>
      clear HC25
      try clear c1
      try clear c2
      try clear c2b0
      try clear c2b1
      try clear p2
      try clear c8
      try clear c8b0
      try clear c8b1
      try clear c9
      try clear c9b0
      try clear c9b1
      try clear c10
      try clear c10b0
      try clear c10b1
      try clear c11
      try clear c11b0
      try clear c11b1
      try clear c12
      try clear c12b0
      try clear c12b1
      try clear c13
      try clear c13b0
      try clear c13b1
      try clear c14
      try clear c14b0
      try clear c14b1
      try clear c15
      try clear c15b0
      try clear c15b1
      try clear c16
      try clear c16b0
      try clear c16b1
      try clear c17
      try clear c17b0
      try clear c17b1
      try clear c18
      try clear c18b0
      try clear c18b1
      try clear c19
      try clear c19b0
      try clear c19b1
      try clear c20
      try clear c22
      try clear c22b0
      try clear c22b1
      try clear c23
      try clear c23b0
      try clear c23b1
      try clear c24
      try clear c26
      try clear c26b0
      try clear c26b1
      try clear c27
      try clear c27b0
      try clear c27b1
      try clear c28
      try clear c28b0
      try clear c28b1
      try clear hcz4_0
      try clear hcz4_1
      try clear hcz4_2
      try clear hcz4_3
      try clear hcz4_4
      try clear hcz4_5
      try clear hcz7_0
      try clear hcz7_1
      try clear hcz7_2
      try clear hcz7_3
      try clear hcz7_4
      try clear hcz7_5
      try clear hfz4_0
      try clear hfz4_1
      try clear hfz4_2
      try clear hfz4_3
      try clear hfz4_4
      try clear hfz4_5
      try clear hfz7_0
      try clear hfz7_1
      try clear hfz7_2
      try clear hfz7_3
      try clear hfz7_4
      try clear hfz7_5
      try clear p2
      obtain ⟨kq, x25_24, rfl, HA, HJ24, BK176, HB⟩ := hcut
      cases kq with
      | zero => exact absurd HA.out (by simp [lockstepref03_Args.j2])
      | succ kj24 =>
       have H := HA.out
       clear HA
       simp only [lockstepref03_Args.j2] at H
       by_cases c29 : x25_24 = true
       ·subst c29
        have H1 : (some 1) = some r := by rw [if_pos rfl] at H; exact H
        clear H
        have H := H1
        clear H1
        obtain rfl := Option.some.inj H
        go_wp2
        go_ret
        exact ⟨by first | rfl | (simp [errW_none, errW_some] <;> rfl) | (simp [*, errW_none, errW_some] <;> rfl), B1_⟩
       replace c29 := Bool.eq_false_iff.mpr c29
       subst c29
       have H1 : (if a0_0 = 20 then (some 4) else (if a0_0 = 21 then (some a0_2) else (some (-1)))) = some r := by rw [if_neg (show ¬ (false = true) by decide)] at H; exact H
       clear H
       have H := H1
       clear H1
       by_cases c30 : a0_0 = 20
       ·rw [if_pos c30] at H
        have c30b0 : (a0_0 == 20) = true := beq_iff_eq.mpr c30
        have c30b1 : (a0_0 != 20) = false := bne_eq_false_iff_eq.mpr c30
        clear c30
        obtain rfl := Option.some.inj H
        go_wp2
        go_ret
        exact ⟨by first | rfl | (simp [errW_none, errW_some] <;> rfl) | (simp [*, errW_none, errW_some] <;> rfl), B1_⟩
       rw [if_neg c30] at H
       have c30b0 : (a0_0 == 20) = false := beq_eq_false_iff_ne.mpr c30
       have c30b1 : (a0_0 != 20) = true := bne_iff_ne.mpr c30
       by_cases c31 : a0_0 = 21
       ·rw [if_pos c31] at H
        have c31b0 : (a0_0 == 21) = true := beq_iff_eq.mpr c31
        have c31b1 : (a0_0 != 21) = false := bne_eq_false_iff_eq.mpr c31
        clear c31
        obtain rfl := Option.some.inj H
        have hcz32_0 : wc.cell? ⟨gb176, 0, none⟩ = some (.int .i64 a0_0) := (blk_cell BK176.out 0).trans rfl
        have hcz32_1 : wc.cell? ⟨gb176, 1, none⟩ = some (.int .i64 a0_1) := (blk_cell BK176.out 1).trans rfl
        have hcz32_2 : wc.cell? ⟨gb176, 2, none⟩ = some (.int .i64 a0_2) := (blk_cell BK176.out 2).trans rfl
        have hcz32_3 : wc.cell? ⟨gb176, 3, none⟩ = some (.int .i64 a0_3) := (blk_cell BK176.out 3).trans rfl
        have hcz32_4 : wc.cell? ⟨gb176, 4, none⟩ = some (.slice A0_4 l0_4.length c0_4) := (blk_cell BK176.out 4).trans rfl
        have hcz32_5 : wc.cell? ⟨gb176, 5, none⟩ = some (.int .u64 a0_5) := (blk_cell BK176.out 5).trans rfl
        have hfz32_0 := blk_frozen BK176.out 0
        have hfz32_1 := blk_frozen BK176.out 1
        have hfz32_2 := blk_frozen BK176.out 2
        have hfz32_3 := blk_frozen BK176.out 3
        have hfz32_4 := blk_frozen BK176.out 4
        have hfz32_5 := blk_frozen BK176.out 5
        go_wp2
        go_ret
        exact ⟨by first | rfl | (simp [errW_none, errW_some] <;> rfl) | (simp [*, errW_none, errW_some] <;> rfl), B1_⟩
       rw [if_neg c31] at H
       have c31b0 : (a0_0 == 21) = false := beq_eq_false_iff_ne.mpr c31
       have c31b1 : (a0_0 != 21) = true := bne_iff_ne.mpr c31
       obtain rfl := Option.some.inj H
       go_wp2
       go_ret
       exact ⟨by first | rfl | (simp [errW_none, errW_some] <;> rfl) | (simp [*, errW_none, errW_some] <;> rfl), B1_⟩

end Go.Proofs.Ytblhphjdjpodcaa.Q
