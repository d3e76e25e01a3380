/- Printed by a program of this session (wip/tools/op.py, over the kit's print program): Go functions as plain Lean functions, each with a proof that the call answers so. Conditions: each theorem's own. -/
import Derived.Test.YtblhphjdjpodcaaQx0
import Derived.Test.YtblhphjdjpodcaaQx15
import Derived.Test.YtblhphjdjpodcaaQx18
namespace Go.Proofs.Ytblhphjdjpodcaa.Q
open Go.Proofs.YtblhphjdjpodcaaH
open Go.RowKit Go.Proofs.YtblhphjdjpodcaaW.PrintWords Go.Proofs.YtblhphjdjpodcaaW.PrintLast Go.Proofs.YtblhphjdjpodcaaW.PrintMore
attribute [local go_sem] max2_int min2_int max_two min_two max_three min_three max_four min_four   -- for this text's walks alone
set_option linter.unusedVariables false
set_option linter.unusedSimpArgs false

/-! ### lockstepref03_Fits: function 30 -/
mutual
def lockstepref03_Fits.j0 : Nat → Int → Bool → Int → Int → Int → Int → List Int → Int → Option (Bool)
 | 0, _, _, _, _, _, _, _, _ => none
 | k + 1, x3, x31, x179000, x179001, x179002, x179003, x179004, x179005 => if x31 = true then (if x179002 = 1 then (lockstepref03_Fits.j1 k x3 x179000 x179001 x179002 x179003 x179004 x179005) else (some false)) else (lockstepref03_Fits.j1 k x3 x179000 x179001 x179002 x179003 x179004 x179005)
def lockstepref03_Fits.j1 : Nat → Int → Int → Int → Int → Int → List Int → Int → Option (Bool)
 | 0, _, _, _, _, _, _, _ => none
 | k + 1, x3, x179000, x179001, x179002, x179003, x179004, x179005 => if x3 ≥ 16 then (if x3 ≤ 19 then (if x179001 < 8 then (lockstepref03_Fits.j2 k x3 true x179000 x179001 x179002 x179003 x179004 x179005) else (if x3 ≥ 21 then (lockstepref03_Fits.j2 k x3 (decide (x179002 < 2)) x179000 x179001 x179002 x179003 x179004 x179005) else (lockstepref03_Fits.j2 k x3 false x179000 x179001 x179002 x179003 x179004 x179005))) else (if x3 ≥ 21 then (lockstepref03_Fits.j2 k x3 (decide (x179002 < 2)) x179000 x179001 x179002 x179003 x179004 x179005) else (lockstepref03_Fits.j2 k x3 false x179000 x179001 x179002 x179003 x179004 x179005))) else (if x3 ≥ 21 then (lockstepref03_Fits.j2 k x3 (decide (x179002 < 2)) x179000 x179001 x179002 x179003 x179004 x179005) else (lockstepref03_Fits.j2 k x3 false x179000 x179001 x179002 x179003 x179004 x179005))
def lockstepref03_Fits.j2 : Nat → Int → Bool → Int → Int → Int → Int → List Int → Int → Option (Bool)
 | 0, _, _, _, _, _, _, _, _ => none
 | k + 1, x3, x54, x179000, x179001, x179002, x179003, x179004, x179005 => if x54 = true then (some false) else (if x3 = 0 then ((lockstepref01_Cut.f x179005 x179001).bind fun t179 => (some (t179 == x179005))) else (if x3 = 14 then (if x179005 < (IntKind.u64.wrap (x179001)) then ((lockstepref01_May.f (wrap64 (x179005))).bind fun t180 => (some t180)) else (some false)) else (if x3 = 15 then (if x179005 > (IntKind.u64.wrap (x179001)) then (if x179005 ≤ 64 then ((lockstepref01_May.f (wrap64 (x179005))).bind fun t181 => (some t181)) else (some false)) else (some false)) else (if x3 = 22 then (some (decide (x179005 < (IntKind.u64.wrap (x179002))))) else (some (x179005 == 0))))))
end
def lockstepref03_Fits.f (k : Nat) (a0_0 : Int) (a0_1 : Int) (a0_2 : Int) (a0_3 : Int) (l0_4 : List Int) (a0_5 : Int) : Option (Bool) := if a0_0 = 4 then (lockstepref03_Fits.j0 k a0_0 true a0_0 a0_1 a0_2 a0_3 l0_4 a0_5) else (if a0_0 ≥ 10 then (if a0_0 ≤ 12 then (lockstepref03_Fits.j0 k a0_0 true a0_0 a0_1 a0_2 a0_3 l0_4 a0_5) else (if a0_0 = 14 then (lockstepref03_Fits.j0 k a0_0 true a0_0 a0_1 a0_2 a0_3 l0_4 a0_5) else (if a0_0 = 15 then (lockstepref03_Fits.j0 k a0_0 true a0_0 a0_1 a0_2 a0_3 l0_4 a0_5) else (if a0_0 ≥ 18 then (lockstepref03_Fits.j0 k a0_0 (decide (a0_0 ≤ 20)) a0_0 a0_1 a0_2 a0_3 l0_4 a0_5) else (lockstepref03_Fits.j0 k a0_0 false a0_0 a0_1 a0_2 a0_3 l0_4 a0_5))))) else (if a0_0 = 14 then (lockstepref03_Fits.j0 k a0_0 true a0_0 a0_1 a0_2 a0_3 l0_4 a0_5) else (if a0_0 = 15 then (lockstepref03_Fits.j0 k a0_0 true a0_0 a0_1 a0_2 a0_3 l0_4 a0_5) else (if a0_0 ≥ 18 then (lockstepref03_Fits.j0 k a0_0 (decide (a0_0 ≤ 20)) a0_0 a0_1 a0_2 a0_3 l0_4 a0_5) else (lockstepref03_Fits.j0 k a0_0 false a0_0 a0_1 a0_2 a0_3 l0_4 a0_5)))))
theorem lockstepref03_Fits.mono_l : ∀ k, (∀ y0 y1 y2 y3 y4 y5 y6 y7, LeO (lockstepref03_Fits.j0 k y0 y1 y2 y3 y4 y5 y6 y7) (lockstepref03_Fits.j0 (k + 1) y0 y1 y2 y3 y4 y5 y6 y7)) ∧ (∀ y0 y1 y2 y3 y4 y5 y6, LeO (lockstepref03_Fits.j1 k y0 y1 y2 y3 y4 y5 y6) (lockstepref03_Fits.j1 (k + 1) y0 y1 y2 y3 y4 y5 y6)) ∧ (∀ y0 y1 y2 y3 y4 y5 y6 y7, LeO (lockstepref03_Fits.j2 k y0 y1 y2 y3 y4 y5 y6 y7) (lockstepref03_Fits.j2 (k + 1) y0 y1 y2 y3 y4 y5 y6 y7))
 | 0 => ⟨fun _ _ _ _ _ _ _ _ r h => by simp [lockstepref03_Fits.j0] at h, fun _ _ _ _ _ _ _ r h => by simp [lockstepref03_Fits.j1] at h, fun _ _ _ _ _ _ _ _ r h => by simp [lockstepref03_Fits.j2] at h⟩
 | k + 1 => by
  obtain ⟨ih0, ih1, ih2⟩ := lockstepref03_Fits.mono_l k
  refine ⟨?_, ?_, ?_⟩
  ·intro y0 y1 y2 y3 y4 y5 y6 y7
   unfold lockstepref03_Fits.j0
   repeat' first
   | (with_reducible exact ih0 _ _ _ _ _ _ _ _)
   | (with_reducible exact ih1 _ _ _ _ _ _ _)
   | (with_reducible exact ih2 _ _ _ _ _ _ _ _)
   | (with_reducible exact LeO.refl _)
   | (with_reducible exact LeO.none _)
   | (with_reducible refine LeO.ite ?_ ?_)
   | (with_reducible refine LeO.bind ?_ (fun _ => ?_))
   | exact ih0 _ _ _ _ _ _ _ _
   | exact ih1 _ _ _ _ _ _ _
   | exact ih2 _ _ _ _ _ _ _ _
   | exact LeO.none _
   | refine LeO.ite ?_ ?_
   | refine LeO.bind ?_ (fun _ => ?_)
  ·intro y0 y1 y2 y3 y4 y5 y6
   unfold lockstepref03_Fits.j1
   repeat' first
   | (with_reducible exact ih0 _ _ _ _ _ _ _ _)
   | (with_reducible exact ih1 _ _ _ _ _ _ _)
   | (with_reducible exact ih2 _ _ _ _ _ _ _ _)
   | (with_reducible exact LeO.refl _)
   | (with_reducible exact LeO.none _)
   | (with_reducible refine LeO.ite ?_ ?_)
   | (with_reducible refine LeO.bind ?_ (fun _ => ?_))
   | exact ih0 _ _ _ _ _ _ _ _
   | exact ih1 _ _ _ _ _ _ _
   | exact ih2 _ _ _ _ _ _ _ _
   | exact LeO.none _
   | refine LeO.ite ?_ ?_
   | refine LeO.bind ?_ (fun _ => ?_)
  ·intro y0 y1 y2 y3 y4 y5 y6 y7
   unfold lockstepref03_Fits.j2
   repeat' first
   | (with_reducible exact ih0 _ _ _ _ _ _ _ _)
   | (with_reducible exact ih1 _ _ _ _ _ _ _)
   | (with_reducible exact ih2 _ _ _ _ _ _ _ _)
   | (with_reducible exact LeO.refl _)
   | (with_reducible exact LeO.none _)
   | (with_reducible refine LeO.ite ?_ ?_)
   | (with_reducible refine LeO.bind ?_ (fun _ => ?_))
   | exact ih0 _ _ _ _ _ _ _ _
   | exact ih1 _ _ _ _ _ _ _
   | exact ih2 _ _ _ _ _ _ _ _
   | exact LeO.none _
   | refine LeO.ite ?_ ?_
   | refine LeO.bind ?_ (fun _ => ?_)
theorem lockstepref03_Fits.mono : ∀ a0 a1 a2 a3 a4 a5 k, LeO (lockstepref03_Fits.f k a0 a1 a2 a3 a4 a5) (lockstepref03_Fits.f (k + 1) a0 a1 a2 a3 a4 a5) := by
 intro a0 a1 a2 a3 a4 a5 k
 obtain ⟨ih0, ih1, ih2⟩ := lockstepref03_Fits.mono_l k
 unfold lockstepref03_Fits.f
 repeat' first
  | (with_reducible exact ih0 _ _ _ _ _ _ _ _)
  | (with_reducible exact ih1 _ _ _ _ _ _ _)
  | (with_reducible exact ih2 _ _ _ _ _ _ _ _)
  | (with_reducible exact LeO.refl _)
  | (with_reducible exact LeO.none _)
  | (with_reducible refine LeO.ite ?_ ?_)
  | (with_reducible refine LeO.bind ?_ (fun _ => ?_))
  | exact ih0 _ _ _ _ _ _ _ _
  | exact ih1 _ _ _ _ _ _ _
  | exact ih2 _ _ _ _ _ _ _ _
  | exact LeO.none _
  | refine LeO.ite ?_ ?_
  | refine LeO.bind ?_ (fun _ => ?_)
set_option maxHeartbeats 8000000 in
set_option maxRecDepth 100000 in
theorem lockstepref03_Fits.calls (k : Nat) (a0_0 : Int) (a0_1 : Int) (a0_2 : Int) (a0_3 : Int) (A0_4 : Option Addr) (c0_4 : Nat) (l0_4 : List Int) (a0_5 : Int) (r : Bool) (w : World) (hr0_4 : Kd.C (Kd.int .i64) w A0_4 l0_4.length l0_4) (hc0_4 : l0_4.length ≤ c0_4) (h : lockstepref03_Fits.f k a0_0 a0_1 a0_2 a0_3 l0_4 a0_5 = some r) :
 Calls Try.prog 30 #[.agg #[.int .i64 a0_0, .int .i64 a0_1, .int .i64 a0_2, .int .i64 a0_3, .slice A0_4 l0_4.length c0_4, .int .u64 a0_5]] w fun e w' => e = .returned (.bool r) ∧ Below w.heap.size w w' := by
 have hu27 := Try.underlying27
 have HR0_4 := Aside0.mk hr0_4
 have HC0_4 := Aside0.mk hc0_4
 clear hr0_4 hc0_4
 have HB := Aside0.mk (Below.refl w.heap.size w)
 have H : (if a0_0 = 4 then (lockstepref03_Fits.j0 k a0_0 true a0_0 a0_1 a0_2 a0_3 l0_4 a0_5) else (if a0_0 ≥ 10 then (if a0_0 ≤ 12 then (lockstepref03_Fits.j0 k a0_0 true a0_0 a0_1 a0_2 a0_3 l0_4 a0_5) else (if a0_0 = 14 then (lockstepref03_Fits.j0 k a0_0 true a0_0 a0_1 a0_2 a0_3 l0_4 a0_5) else (if a0_0 = 15 then (lockstepref03_Fits.j0 k a0_0 true a0_0 a0_1 a0_2 a0_3 l0_4 a0_5) else (if a0_0 ≥ 18 then (lockstepref03_Fits.j0 k a0_0 (decide (a0_0 ≤ 20)) a0_0 a0_1 a0_2 a0_3 l0_4 a0_5) else (lockstepref03_Fits.j0 k a0_0 false a0_0 a0_1 a0_2 a0_3 l0_4 a0_5))))) else (if a0_0 = 14 then (lockstepref03_Fits.j0 k a0_0 true a0_0 a0_1 a0_2 a0_3 l0_4 a0_5) else (if a0_0 = 15 then (lockstepref03_Fits.j0 k a0_0 true a0_0 a0_1 a0_2 a0_3 l0_4 a0_5) else (if a0_0 ≥ 18 then (lockstepref03_Fits.j0 k a0_0 (decide (a0_0 ≤ 20)) a0_0 a0_1 a0_2 a0_3 l0_4 a0_5) else (lockstepref03_Fits.j0 k a0_0 false a0_0 a0_1 a0_2 a0_3 l0_4 a0_5)))))) = some r := h
 clear h
 have HC2 := Aside0.mk H
 clear H
 go_enter Try.func30, Try.ntmps30
 go_upto_region 2 with (first | ((with_reducible refine gate_dst (N := 1) rfl ?_); refine box_event ?hg (N := 1) ?hd (cs := #[.int .i64 a0_0, .int .i64 a0_1, .int .i64 a0_2, .int .i64 a0_3, .slice A0_4 l0_4.length c0_4, .int .u64 a0_5]) (t := 27) ?hr ?_; (case hd => rfl); (case hg => rfl); (case hr => first | (go_simp; done) | (go_simp; rfl)); intro gb178 hg w3 hbox hb; have n0_ := Aside0.mk (below_step (B_) hb); have n1_ := Aside0.mk (hbox); have n2_ := Aside0.mk ((by rw [hg]; exact (below_size (B_)) : w.heap.size ≤ gb178)); have n3_ := Aside0.mk ((by rw [hg]; exact (below_size (B_)) : w.heap.size ≤ gb178)); clear HB; have HB := n0_; have BK178 := n1_; have GW178 := n2_; have GE178 := n3_; clear n0_ n1_ n2_ n3_; clear hb hbox hg; have hcz4_0 : w3.cell? ⟨gb178, 0, none⟩ = some (.int .i64 a0_0) := (blk_cell BK178.out 0).trans rfl; have hcz4_1 : w3.cell? ⟨gb178, 1, none⟩ = some (.int .i64 a0_1) := (blk_cell BK178.out 1).trans rfl; have hcz4_2 : w3.cell? ⟨gb178, 2, none⟩ = some (.int .i64 a0_2) := (blk_cell BK178.out 2).trans rfl; have hcz4_3 : w3.cell? ⟨gb178, 3, none⟩ = some (.int .i64 a0_3) := (blk_cell BK178.out 3).trans rfl; have hcz4_4 : w3.cell? ⟨gb178, 4, none⟩ = some (.slice A0_4 l0_4.length c0_4) := (blk_cell BK178.out 4).trans rfl; have hcz4_5 : w3.cell? ⟨gb178, 5, none⟩ = some (.int .u64 a0_5) := (blk_cell BK178.out 5).trans rfl; have hfz4_0 := blk_frozen BK178.out 0; have hfz4_1 := blk_frozen BK178.out 1; have hfz4_2 := blk_frozen BK178.out 2; have hfz4_3 := blk_frozen BK178.out 3; have hfz4_4 := blk_frozen BK178.out 4; have hfz4_5 := blk_frozen BK178.out 5))
 repeat (go_quiet (first | ((with_reducible refine gate_dst (N := 1) rfl ?_); refine box_event ?hg (N := 1) ?hd (cs := #[.int .i64 a0_0, .int .i64 a0_1, .int .i64 a0_2, .int .i64 a0_3, .slice A0_4 l0_4.length c0_4, .int .u64 a0_5]) (t := 27) ?hr ?_; (case hd => rfl); (case hg => rfl); (case hr => first | (go_simp; done) | (go_simp; rfl)); intro gb178 hg w3 hbox hb; have n0_ := Aside0.mk (below_step (B_) hb); have n1_ := Aside0.mk (hbox); have n2_ := Aside0.mk ((by rw [hg]; exact (below_size (B_)) : w.heap.size ≤ gb178)); have n3_ := Aside0.mk ((by rw [hg]; exact (below_size (B_)) : w.heap.size ≤ gb178)); clear HB; have HB := n0_; have BK178 := n1_; have GW178 := n2_; have GE178 := n3_; clear n0_ n1_ n2_ n3_; clear hb hbox hg; have hcz4_0 : w3.cell? ⟨gb178, 0, none⟩ = some (.int .i64 a0_0) := (blk_cell BK178.out 0).trans rfl; have hcz4_1 : w3.cell? ⟨gb178, 1, none⟩ = some (.int .i64 a0_1) := (blk_cell BK178.out 1).trans rfl; have hcz4_2 : w3.cell? ⟨gb178, 2, none⟩ = some (.int .i64 a0_2) := (blk_cell BK178.out 2).trans rfl; have hcz4_3 : w3.cell? ⟨gb178, 3, none⟩ = some (.int .i64 a0_3) := (blk_cell BK178.out 3).trans rfl; have hcz4_4 : w3.cell? ⟨gb178, 4, none⟩ = some (.slice A0_4 l0_4.length c0_4) := (blk_cell BK178.out 4).trans rfl; have hcz4_5 : w3.cell? ⟨gb178, 5, none⟩ = some (.int .u64 a0_5) := (blk_cell BK178.out 5).trans rfl; have hfz4_0 := blk_frozen BK178.out 0; have hfz4_1 := blk_frozen BK178.out 1; have hfz4_2 := blk_frozen BK178.out 2; have hfz4_3 := blk_frozen BK178.out 3; have hfz4_4 := blk_frozen BK178.out 4; have hfz4_5 := blk_frozen BK178.out 5)); go_upto_region 2 with (first | ((with_reducible refine gate_dst (N := 1) rfl ?_); refine box_event ?hg (N := 1) ?hd (cs := #[.int .i64 a0_0, .int .i64 a0_1, .int .i64 a0_2, .int .i64 a0_3, .slice A0_4 l0_4.length c0_4, .int .u64 a0_5]) (t := 27) ?hr ?_; (case hd => rfl); (case hg => rfl); (case hr => first | (go_simp; done) | (go_simp; rfl)); intro gb178 hg w3 hbox hb; have n0_ := Aside0.mk (below_step (B_) hb); have n1_ := Aside0.mk (hbox); have n2_ := Aside0.mk ((by rw [hg]; exact (below_size (B_)) : w.heap.size ≤ gb178)); have n3_ := Aside0.mk ((by rw [hg]; exact (below_size (B_)) : w.heap.size ≤ gb178)); clear HB; have HB := n0_; have BK178 := n1_; have GW178 := n2_; have GE178 := n3_; clear n0_ n1_ n2_ n3_; clear hb hbox hg; have hcz4_0 : w3.cell? ⟨gb178, 0, none⟩ = some (.int .i64 a0_0) := (blk_cell BK178.out 0).trans rfl; have hcz4_1 : w3.cell? ⟨gb178, 1, none⟩ = some (.int .i64 a0_1) := (blk_cell BK178.out 1).trans rfl; have hcz4_2 : w3.cell? ⟨gb178, 2, none⟩ = some (.int .i64 a0_2) := (blk_cell BK178.out 2).trans rfl; have hcz4_3 : w3.cell? ⟨gb178, 3, none⟩ = some (.int .i64 a0_3) := (blk_cell BK178.out 3).trans rfl; have hcz4_4 : w3.cell? ⟨gb178, 4, none⟩ = some (.slice A0_4 l0_4.length c0_4) := (blk_cell BK178.out 4).trans rfl; have hcz4_5 : w3.cell? ⟨gb178, 5, none⟩ = some (.int .u64 a0_5) := (blk_cell BK178.out 5).trans rfl; have hfz4_0 := blk_frozen BK178.out 0; have hfz4_1 := blk_frozen BK178.out 1; have hfz4_2 := blk_frozen BK178.out 2; have hfz4_3 := blk_frozen BK178.out 3; have hfz4_4 := blk_frozen BK178.out 4; have hfz4_5 := blk_frozen BK178.out 5)))
 (try simp only [Act.put, List.setIfInBounds_toArray, List.set_cons_zero, List.set_cons_succ])
 go_cut [31] (fun v31 wc => ∃ (kq : Nat) (x31_1 : Bool), v31 = .bool x31_1 ∧ Aside0 (lockstepref03_Fits.j0 kq a0_0 x31_1 a0_0 a0_1 a0_2 a0_3 l0_4 a0_5 = some r) ∧ Aside0 (kq ≤ k) ∧ Aside0 (wc.heap[gb178]? = some (.cells #[.int .i64 a0_0, .int .i64 a0_1, .int .i64 a0_2, .int .i64 a0_3, (.slice A0_4 l0_4.length c0_4), .int .u64 a0_5] 27 (0, 0))) ∧ Aside0 (Below w.heap.size w wc))
 case first =>
  have H := HC2.out
  clear HC2
  by_cases c5 : a0_0 = 4
  ·rw [if_pos c5] at H
   have c5b0 : (a0_0 == 4) = true := beq_iff_eq.mpr c5
   have c5b1 : (a0_0 != 4) = false := bne_eq_false_iff_eq.mpr c5
   clear c5
   (first | rw [c5b0] | (simp only [i64_w, i32_w]; rw [c5b0]) | skip)
   have H' := Aside0.mk H
   clear H
   go_wp2
   repeat (go_quiet (fail); try go_wp2)
   go_meet
   case rel => exact ⟨_, (true), (by first | rfl | (simp; done) | (simp [*]; done)), H', ⟨by first | omega | exact Nat.le_refl _⟩, ⟨by (with_reducible repeat (first | refine blk_drewN ?_ _ | refine blk_drew ?_ | refine blk_alloc ?_ _)); exact BK178.out⟩, ⟨B1_⟩⟩
  rw [if_neg c5] at H
  have c5b0 : (a0_0 == 4) = false := beq_eq_false_iff_ne.mpr c5
  have c5b1 : (a0_0 != 4) = true := bne_iff_ne.mpr c5
  (first | rw [c5b0] | (simp only [i64_w, i32_w]; rw [c5b0]) | skip)
  by_cases c6 : a0_0 ≥ 10
  ·rw [if_pos c6] at H
   have c6b0 : decide (10 ≤ a0_0) = true := decide_eq_true c6
   clear c6
   by_cases c7 : a0_0 ≤ 12
   ·rw [if_pos c7] at H
    have c7b0 : decide (a0_0 ≤ 12) = true := decide_eq_true c7
    clear c7
    have H' := Aside0.mk H
    clear H
    go_wp2
    repeat (go_quiet (fail); try go_wp2)
    go_meet
    case rel => exact ⟨_, (true), (by first | rfl | (simp; done) | (simp [*]; done)), H', ⟨by first | omega | exact Nat.le_refl _⟩, ⟨by (with_reducible repeat (first | refine blk_drewN ?_ _ | refine blk_drew ?_ | refine blk_alloc ?_ _)); exact BK178.out⟩, ⟨B1_⟩⟩
   rw [if_neg c7] at H
   have c7b0 : decide (a0_0 ≤ 12) = false := decide_eq_false c7
   clear c7
   by_cases c8 : a0_0 = 14
   ·rw [if_pos c8] at H
    have c8b0 : (a0_0 == 14) = true := beq_iff_eq.mpr c8
    have c8b1 : (a0_0 != 14) = false := bne_eq_false_iff_eq.mpr c8
    clear c8
    have H' := Aside0.mk H
    clear H
    go_wp2
    repeat (go_quiet (fail); try go_wp2)
    go_meet
    case rel => exact ⟨_, (true), (by first | rfl | (simp; done) | (simp [*]; done)), H', ⟨by first | omega | exact Nat.le_refl _⟩, ⟨by (with_reducible repeat (first | refine blk_drewN ?_ _ | refine blk_drew ?_ | refine blk_alloc ?_ _)); exact BK178.out⟩, ⟨B1_⟩⟩
   rw [if_neg c8] at H
   have c8b0 : (a0_0 == 14) = false := beq_eq_false_iff_ne.mpr c8
   have c8b1 : (a0_0 != 14) = true := bne_iff_ne.mpr c8
   by_cases c9 : a0_0 = 15
   ·rw [if_pos c9] at H
    have c9b0 : (a0_0 == 15) = true := beq_iff_eq.mpr c9
    have c9b1 : (a0_0 != 15) = false := bne_eq_false_iff_eq.mpr c9
    clear c9
    have H' := Aside0.mk H
    clear H
    go_wp2
    repeat (go_quiet (fail); try go_wp2)
    go_meet
    case rel => exact ⟨_, (true), (by first | rfl | (simp; done) | (simp [*]; done)), H', ⟨by first | omega | exact Nat.le_refl _⟩, ⟨by (with_reducible repeat (first | refine blk_drewN ?_ _ | refine blk_drew ?_ | refine blk_alloc ?_ _)); exact BK178.out⟩, ⟨B1_⟩⟩
   rw [if_neg c9] at H
   have c9b0 : (a0_0 == 15) = false := beq_eq_false_iff_ne.mpr c9
   have c9b1 : (a0_0 != 15) = true := bne_iff_ne.mpr c9
   by_cases c10 : a0_0 ≥ 18
   ·rw [if_pos c10] at H
    have c10b0 : decide (18 ≤ a0_0) = true := decide_eq_true c10
    clear c10
    have H' := Aside0.mk H
    clear H
    go_wp2
    repeat (go_quiet (fail); try go_wp2)
    go_meet
    case rel => exact ⟨_, (decide (a0_0 ≤ 20)), (by first | rfl | (simp; done) | (simp [*]; done)), H', ⟨by first | omega | exact Nat.le_refl _⟩, ⟨by (with_reducible repeat (first | refine blk_drewN ?_ _ | refine blk_drew ?_ | refine blk_alloc ?_ _)); exact BK178.out⟩, ⟨B1_⟩⟩
   rw [if_neg c10] at H
   have c10b0 : decide (18 ≤ a0_0) = false := decide_eq_false c10
   clear c10
   have H' := Aside0.mk H
   clear H
   go_wp2
   repeat (go_quiet (fail); try go_wp2)
   go_meet
   case rel => exact ⟨_, (false), (by first | rfl | (simp; done) | (simp [*]; done)), H', ⟨by first | omega | exact Nat.le_refl _⟩, ⟨by (with_reducible repeat (first | refine blk_drewN ?_ _ | refine blk_drew ?_ | refine blk_alloc ?_ _)); exact BK178.out⟩, ⟨B1_⟩⟩
  rw [if_neg c6] at H
  have c6b0 : decide (10 ≤ a0_0) = false := decide_eq_false c6
  clear c6
  by_cases c11 : a0_0 = 14
  ·rw [if_pos c11] at H
   have c11b0 : (a0_0 == 14) = true := beq_iff_eq.mpr c11
   have c11b1 : (a0_0 != 14) = false := bne_eq_false_iff_eq.mpr c11
   clear c11
   have H' := Aside0.mk H
   clear H
   go_wp2
   repeat (go_quiet (fail); try go_wp2)
   go_meet
   case rel => exact ⟨_, (true), (by first | rfl | (simp; done) | (simp [*]; done)), H', ⟨by first | omega | exact Nat.le_refl _⟩, ⟨by (with_reducible repeat (first | refine blk_drewN ?_ _ | refine blk_drew ?_ | refine blk_alloc ?_ _)); exact BK178.out⟩, ⟨B1_⟩⟩
  rw [if_neg c11] at H
  have c11b0 : (a0_0 == 14) = false := beq_eq_false_iff_ne.mpr c11
  have c11b1 : (a0_0 != 14) = true := bne_iff_ne.mpr c11
  by_cases c12 : a0_0 = 15
  ·rw [if_pos c12] at H
   have c12b0 : (a0_0 == 15) = true := beq_iff_eq.mpr c12
   have c12b1 : (a0_0 != 15) = false := bne_eq_false_iff_eq.mpr c12
   clear c12
   have H' := Aside0.mk H
   clear H
   go_wp2
   repeat (go_quiet (fail); try go_wp2)
   go_meet
   case rel => exact ⟨_, (true), (by first | rfl | (simp; done) | (simp [*]; done)), H', ⟨by first | omega | exact Nat.le_refl _⟩, ⟨by (with_reducible repeat (first | refine blk_drewN ?_ _ | refine blk_drew ?_ | refine blk_alloc ?_ _)); exact BK178.out⟩, ⟨B1_⟩⟩
  rw [if_neg c12] at H
  have c12b0 : (a0_0 == 15) = false := beq_eq_false_iff_ne.mpr c12
  have c12b1 : (a0_0 != 15) = true := bne_iff_ne.mpr c12
  by_cases c13 : a0_0 ≥ 18
  ·rw [if_pos c13] at H
   have c13b0 : decide (18 ≤ a0_0) = true := decide_eq_true c13
   clear c13
   have H' := Aside0.mk H
   clear H
   go_wp2
   repeat (go_quiet (fail); try go_wp2)
   go_meet
   case rel => exact ⟨_, (decide (a0_0 ≤ 20)), (by first | rfl | (simp; done) | (simp [*]; done)), H', ⟨by first | omega | exact Nat.le_refl _⟩, ⟨by (with_reducible repeat (first | refine blk_drewN ?_ _ | refine blk_drew ?_ | refine blk_alloc ?_ _)); exact BK178.out⟩, ⟨B1_⟩⟩
  rw [if_neg c13] at H
  have c13b0 : decide (18 ≤ a0_0) = false := decide_eq_false c13
  clear c13
  have H' := Aside0.mk H
  clear H
  go_wp2
  repeat (go_quiet (fail); try go_wp2)
  go_meet
  case rel => exact ⟨_, (false), (by first | rfl | (simp; done) | (simp [*]; done)), H', ⟨by first | omega | exact Nat.le_refl _⟩, ⟨by (with_reducible repeat (first | refine blk_drewN ?_ _ | refine blk_drew ?_ | refine blk_alloc ?_ _)); exact BK178.out⟩, ⟨B1_⟩⟩
 case rest =>
  clear HC2
  try clear c1
  try clear p2
  try clear c3
  try clear c5
  try clear c5b0
  try clear c5b1
  try clear c6
  try clear c6b0
  try clear c7
  try clear c7b0
  try clear c8
  try clear c8b0
  try clear c8b1
  try clear c9
  try clear c9b0
  try clear c9b1
  try clear c10
  try clear c10b0
  try clear c11
  try clear c11b0
  try clear c11b1
  try clear c12
  try clear c12b0
  try clear c12b1
  try clear c13
  try clear c13b0
  try clear hcz4_0
  try clear hcz4_1
  try clear hcz4_2
  try clear hcz4_3
  try clear hcz4_4
  try clear hcz4_5
  try clear hfz4_0
  try clear hfz4_1
  try clear hfz4_2
  try clear hfz4_3
  try clear hfz4_4
  try clear hfz4_5
  obtain ⟨kq, x31_1, rfl, HA, HJ1, BK178, HB⟩ := hcut
  cases kq with
  | zero => exact absurd HA.out (by simp [lockstepref03_Fits.j0])
  | succ kj1 =>
   have H := HA.out
   clear HA
   simp only [lockstepref03_Fits.j0] at H
   have HC14 := Aside0.mk H
   clear H
   go_upto_if 31 with (fail)
   repeat (go_quiet (fail); go_upto_if 31 with (fail))
   go_cut [] (fun wc => ∃ (kq : Nat), Aside0 (lockstepref03_Fits.j1 kq a0_0 a0_0 a0_1 a0_2 a0_3 l0_4 a0_5 = some r) ∧ Aside0 (kq ≤ kj1) ∧ Aside0 (wc.heap[gb178]? = some (.cells #[.int .i64 a0_0, .int .i64 a0_1, .int .i64 a0_2, .int .i64 a0_3, (.slice A0_4 l0_4.length c0_4), .int .u64 a0_5] 27 (0, 0))) ∧ Aside0 (Below w.heap.size w wc))
   case first =>
    have H := HC14.out
    clear HC14
    by_cases c15 : x31_1 = true
    ·subst c15
     have H1 : (if a0_2 = 1 then (lockstepref03_Fits.j1 kj1 a0_0 a0_0 a0_1 a0_2 a0_3 l0_4 a0_5) else (some false)) = some r := by rw [if_pos rfl] at H; exact H
     clear H
     have H := H1
     clear H1
     by_cases c16 : a0_2 = 1
     ·rw [if_pos c16] at H
      have c16b0 : (a0_2 == 1) = true := beq_iff_eq.mpr c16
      have c16b1 : (a0_2 != 1) = false := bne_eq_false_iff_eq.mpr c16
      clear c16
      (first | rw [c16b0] | (simp only [i64_w, i32_w]; rw [c16b0]) | skip)
      have H' := Aside0.mk H
      clear H
      have hcz17_0 : wc.cell? ⟨gb178, 0, none⟩ = some (.int .i64 a0_0) := (blk_cell BK178.out 0).trans rfl
      have hcz17_1 : wc.cell? ⟨gb178, 1, none⟩ = some (.int .i64 a0_1) := (blk_cell BK178.out 1).trans rfl
      have hcz17_2 : wc.cell? ⟨gb178, 2, none⟩ = some (.int .i64 a0_2) := (blk_cell BK178.out 2).trans rfl
      have hcz17_3 : wc.cell? ⟨gb178, 3, none⟩ = some (.int .i64 a0_3) := (blk_cell BK178.out 3).trans rfl
      have hcz17_4 : wc.cell? ⟨gb178, 4, none⟩ = some (.slice A0_4 l0_4.length c0_4) := (blk_cell BK178.out 4).trans rfl
      have hcz17_5 : wc.cell? ⟨gb178, 5, none⟩ = some (.int .u64 a0_5) := (blk_cell BK178.out 5).trans rfl
      have hfz17_0 := blk_frozen BK178.out 0
      have hfz17_1 := blk_frozen BK178.out 1
      have hfz17_2 := blk_frozen BK178.out 2
      have hfz17_3 := blk_frozen BK178.out 3
      have hfz17_4 := blk_frozen BK178.out 4
      have hfz17_5 := blk_frozen BK178.out 5
      go_wp2
      repeat (go_quiet (fail); try go_wp2)
      go_meet
      case rel => exact ⟨_, H', ⟨by have := HJ1.out; first | omega | exact Nat.le_refl _⟩, ⟨by (with_reducible repeat (first | refine blk_drewN ?_ _ | refine blk_drew ?_ | refine blk_alloc ?_ _)); exact BK178.out⟩, ⟨B1_⟩⟩
     rw [if_neg c16] at H
     have c16b0 : (a0_2 == 1) = false := beq_eq_false_iff_ne.mpr c16
     have c16b1 : (a0_2 != 1) = true := bne_iff_ne.mpr c16
     (first | rw [c16b0] | (simp only [i64_w, i32_w]; rw [c16b0]) | skip)
     obtain rfl := Option.some.inj H
     have hcz18_0 : wc.cell? ⟨gb178, 0, none⟩ = some (.int .i64 a0_0) := (blk_cell BK178.out 0).trans rfl
     have hcz18_1 : wc.cell? ⟨gb178, 1, none⟩ = some (.int .i64 a0_1) := (blk_cell BK178.out 1).trans rfl
     have hcz18_2 : wc.cell? ⟨gb178, 2, none⟩ = some (.int .i64 a0_2) := (blk_cell BK178.out 2).trans rfl
     have hcz18_3 : wc.cell? ⟨gb178, 3, none⟩ = some (.int .i64 a0_3) := (blk_cell BK178.out 3).trans rfl
     have hcz18_4 : wc.cell? ⟨gb178, 4, none⟩ = some (.slice A0_4 l0_4.length c0_4) := (blk_cell BK178.out 4).trans rfl
     have hcz18_5 : wc.cell? ⟨gb178, 5, none⟩ = some (.int .u64 a0_5) := (blk_cell BK178.out 5).trans rfl
     have hfz18_0 := blk_frozen BK178.out 0
     have hfz18_1 := blk_frozen BK178.out 1
     have hfz18_2 := blk_frozen BK178.out 2
     have hfz18_3 := blk_frozen BK178.out 3
     have hfz18_4 := blk_frozen BK178.out 4
     have hfz18_5 := blk_frozen BK178.out 5
     go_wp2
     repeat (go_quiet (fail); try go_wp2)
     go_ret
     exact ⟨by first | rfl | (simp [errW_none, errW_some] <;> rfl) | (simp [*, errW_none, errW_some] <;> rfl), B1_⟩
    replace c15 := Bool.eq_false_iff.mpr c15
    subst c15
    have H1 : (lockstepref03_Fits.j1 kj1 a0_0 a0_0 a0_1 a0_2 a0_3 l0_4 a0_5) = some r := by rw [if_neg (show ¬ (false = true) by decide)] at H; exact H
    clear H
    have H := H1
    clear H1
    have H' := Aside0.mk H
    clear H
    go_wp2
    repeat (go_quiet (fail); try go_wp2)
    go_meet
    case rel => exact ⟨_, H', ⟨by have := HJ1.out; first | omega | exact Nat.le_refl _⟩, ⟨by (with_reducible repeat (first | refine blk_drewN ?_ _ | refine blk_drew ?_ | refine blk_alloc ?_ _)); exact BK178.out⟩, ⟨B1_⟩⟩
   case rest =>
    clear HC14
    try clear c1
    try clear p2
    try clear c3
    try clear c5
    try clear c5b0
    try clear c5b1
    try clear c6
    try clear c6b0
    try clear c7
    try clear c7b0
    try clear c8
    try clear c8b0
    try clear c8b1
    try clear c9
    try clear c9b0
    try clear c9b1
    try clear c10
    try clear c10b0
    try clear c11
    try clear c11b0
    try clear c11b1
    try clear c12
    try clear c12b0
    try clear c12b1
    try clear c13
    try clear c13b0
    try clear c15
    try clear c16
    try clear c16b0
    try clear c16b1
    try clear hcz17_0
    try clear hcz17_1
    try clear hcz17_2
    try clear hcz17_3
    try clear hcz17_4
    try clear hcz17_5
    try clear hcz18_0
    try clear hcz18_1
    try clear hcz18_2
    try clear hcz18_3
    try clear hcz18_4
    try clear hcz18_5
    try clear hcz4_0
    try clear hcz4_1
    try clear hcz4_2
    try clear hcz4_3
    try clear hcz4_4
    try clear hcz4_5
    try clear hfz17_0
    try clear hfz17_1
    try clear hfz17_2
    try clear hfz17_3
    try clear hfz17_4
    try clear hfz17_5
    try clear hfz18_0
    try clear hfz18_1
    try clear hfz18_2
    try clear hfz18_3
    try clear hfz18_4
    try clear hfz18_5
    try clear hfz4_0
    try clear hfz4_1
    try clear hfz4_2
    try clear hfz4_3
    try clear hfz4_4
    try clear hfz4_5
    try clear p2
    obtain ⟨kq, HA, HJ13, BK178, HB⟩ := hcut
    cases kq with
    | zero => exact absurd HA.out (by simp [lockstepref03_Fits.j1])
    | succ kj13 =>
     have H := HA.out
     clear HA
     simp only [lockstepref03_Fits.j1] at H
     have HC19 := Aside0.mk H
     clear H
     go_upto_region 5 with (fail)
     repeat (go_quiet (fail); go_upto_region 5 with (fail))
     go_cut [54] (fun v54 wc => ∃ (kq : Nat) (x54_18 : Bool), v54 = .bool x54_18 ∧ Aside0 (lockstepref03_Fits.j2 kq a0_0 x54_18 a0_0 a0_1 a0_2 a0_3 l0_4 a0_5 = some r) ∧ Aside0 (kq ≤ kj13) ∧ Aside0 (wc.heap[gb178]? = some (.cells #[.int .i64 a0_0, .int .i64 a0_1, .int .i64 a0_2, .int .i64 a0_3, (.slice A0_4 l0_4.length c0_4), .int .u64 a0_5] 27 (0, 0))) ∧ Aside0 (Below w.heap.size w wc))
     case first =>
      have H := HC19.out
      clear HC19
      by_cases c20 : a0_0 ≥ 16
      ·rw [if_pos c20] at H
       have c20b0 : decide (16 ≤ a0_0) = true := decide_eq_true c20
       clear c20
       (first | rw [c20b0] | (simp only [i64_w, i32_w]; rw [c20b0]) | skip)
       by_cases c21 : a0_0 ≤ 19
       ·rw [if_pos c21] at H
        have c21b0 : decide (a0_0 ≤ 19) = true := decide_eq_true c21
        clear c21
        by_cases c22 : a0_1 < 8
        ·rw [if_pos c22] at H
         have c22b0 : decide (a0_1 < 8) = true := decide_eq_true c22
         clear c22
         have H' := Aside0.mk H
         clear H
         have hcz23_0 : wc.cell? ⟨gb178, 0, none⟩ = some (.int .i64 a0_0) := (blk_cell BK178.out 0).trans rfl
         have hcz23_1 : wc.cell? ⟨gb178, 1, none⟩ = some (.int .i64 a0_1) := (blk_cell BK178.out 1).trans rfl
         have hcz23_2 : wc.cell? ⟨gb178, 2, none⟩ = some (.int .i64 a0_2) := (blk_cell BK178.out 2).trans rfl
         have hcz23_3 : wc.cell? ⟨gb178, 3, none⟩ = some (.int .i64 a0_3) := (blk_cell BK178.out 3).trans rfl
         have hcz23_4 : wc.cell? ⟨gb178, 4, none⟩ = some (.slice A0_4 l0_4.length c0_4) := (blk_cell BK178.out 4).trans rfl
         have hcz23_5 : wc.cell? ⟨gb178, 5, none⟩ = some (.int .u64 a0_5) := (blk_cell BK178.out 5).trans rfl
         have hfz23_0 := blk_frozen BK178.out 0
         have hfz23_1 := blk_frozen BK178.out 1
         have hfz23_2 := blk_frozen BK178.out 2
         have hfz23_3 := blk_frozen BK178.out 3
         have hfz23_4 := blk_frozen BK178.out 4
         have hfz23_5 := blk_frozen BK178.out 5
         go_wp2
         repeat (go_quiet (fail); try go_wp2)
         go_meet
         case rel => exact ⟨_, (true), (by first | rfl | (simp; done) | (simp [*]; done)), H', ⟨by have := HJ1.out; have := HJ13.out; first | omega | exact Nat.le_refl _⟩, ⟨by (with_reducible repeat (first | refine blk_drewN ?_ _ | refine blk_drew ?_ | refine blk_alloc ?_ _)); exact BK178.out⟩, ⟨B1_⟩⟩
        rw [if_neg c22] at H
        have c22b0 : decide (a0_1 < 8) = false := decide_eq_false c22
        clear c22
        by_cases c24 : a0_0 ≥ 21
        ·rw [if_pos c24] at H
         have c24b0 : decide (21 ≤ a0_0) = true := decide_eq_true c24
         clear c24
         have H' := Aside0.mk H
         clear H
         have hcz25_0 : wc.cell? ⟨gb178, 0, none⟩ = some (.int .i64 a0_0) := (blk_cell BK178.out 0).trans rfl
         have hcz25_1 : wc.cell? ⟨gb178, 1, none⟩ = some (.int .i64 a0_1) := (blk_cell BK178.out 1).trans rfl
         have hcz25_2 : wc.cell? ⟨gb178, 2, none⟩ = some (.int .i64 a0_2) := (blk_cell BK178.out 2).trans rfl
         have hcz25_3 : wc.cell? ⟨gb178, 3, none⟩ = some (.int .i64 a0_3) := (blk_cell BK178.out 3).trans rfl
         have hcz25_4 : wc.cell? ⟨gb178, 4, none⟩ = some (.slice A0_4 l0_4.length c0_4) := (blk_cell BK178.out 4).trans rfl
         have hcz25_5 : wc.cell? ⟨gb178, 5, none⟩ = some (.int .u64 a0_5) := (blk_cell BK178.out 5).trans rfl
         have hfz25_0 := blk_frozen BK178.out 0
         have hfz25_1 := blk_frozen BK178.out 1
         have hfz25_2 := blk_frozen BK178.out 2
         have hfz25_3 := blk_frozen BK178.out 3
         have hfz25_4 := blk_frozen BK178.out 4
         have hfz25_5 := blk_frozen BK178.out 5
         go_wp2
         repeat (go_quiet (fail); try go_wp2)
         go_meet
         case rel => exact ⟨_, (decide (a0_2 < 2)), (by first | rfl | (simp; done) | (simp [*]; done)), H', ⟨by have := HJ1.out; have := HJ13.out; first | omega | exact Nat.le_refl _⟩, ⟨by (with_reducible repeat (first | refine blk_drewN ?_ _ | refine blk_drew ?_ | refine blk_alloc ?_ _)); exact BK178.out⟩, ⟨B1_⟩⟩
        rw [if_neg c24] at H
        have c24b0 : decide (21 ≤ a0_0) = false := decide_eq_false c24
        clear c24
        have H' := Aside0.mk H
        clear H
        have hcz26_0 : wc.cell? ⟨gb178, 0, none⟩ = some (.int .i64 a0_0) := (blk_cell BK178.out 0).trans rfl
        have hcz26_1 : wc.cell? ⟨gb178, 1, none⟩ = some (.int .i64 a0_1) := (blk_cell BK178.out 1).trans rfl
        have hcz26_2 : wc.cell? ⟨gb178, 2, none⟩ = some (.int .i64 a0_2) := (blk_cell BK178.out 2).trans rfl
        have hcz26_3 : wc.cell? ⟨gb178, 3, none⟩ = some (.int .i64 a0_3) := (blk_cell BK178.out 3).trans rfl
        have hcz26_4 : wc.cell? ⟨gb178, 4, none⟩ = some (.slice A0_4 l0_4.length c0_4) := (blk_cell BK178.out 4).trans rfl
        have hcz26_5 : wc.cell? ⟨gb178, 5, none⟩ = some (.int .u64 a0_5) := (blk_cell BK178.out 5).trans rfl
        have hfz26_0 := blk_frozen BK178.out 0
        have hfz26_1 := blk_frozen BK178.out 1
        have hfz26_2 := blk_frozen BK178.out 2
        have hfz26_3 := blk_frozen BK178.out 3
        have hfz26_4 := blk_frozen BK178.out 4
        have hfz26_5 := blk_frozen BK178.out 5
        go_wp2
        repeat (go_quiet (fail); try go_wp2)
        go_meet
        case rel => exact ⟨_, (false), (by first | rfl | (simp; done) | (simp [*]; done)), H', ⟨by have := HJ1.out; have := HJ13.out; first | omega | exact Nat.le_refl _⟩, ⟨by (with_reducible repeat (first | refine blk_drewN ?_ _ | refine blk_drew ?_ | refine blk_alloc ?_ _)); exact BK178.out⟩, ⟨B1_⟩⟩
       rw [if_neg c21] at H
       have c21b0 : decide (a0_0 ≤ 19) = false := decide_eq_false c21
       clear c21
       by_cases c27 : a0_0 ≥ 21
       ·rw [if_pos c27] at H
        have c27b0 : decide (21 ≤ a0_0) = true := decide_eq_true c27
        clear c27
        have H' := Aside0.mk H
        clear H
        have hcz28_0 : wc.cell? ⟨gb178, 0, none⟩ = some (.int .i64 a0_0) := (blk_cell BK178.out 0).trans rfl
        have hcz28_1 : wc.cell? ⟨gb178, 1, none⟩ = some (.int .i64 a0_1) := (blk_cell BK178.out 1).trans rfl
        have hcz28_2 : wc.cell? ⟨gb178, 2, none⟩ = some (.int .i64 a0_2) := (blk_cell BK178.out 2).trans rfl
        have hcz28_3 : wc.cell? ⟨gb178, 3, none⟩ = some (.int .i64 a0_3) := (blk_cell BK178.out 3).trans rfl
        have hcz28_4 : wc.cell? ⟨gb178, 4, none⟩ = some (.slice A0_4 l0_4.length c0_4) := (blk_cell BK178.out 4).trans rfl
        have hcz28_5 : wc.cell? ⟨gb178, 5, none⟩ = some (.int .u64 a0_5) := (blk_cell BK178.out 5).trans rfl
        have hfz28_0 := blk_frozen BK178.out 0
        have hfz28_1 := blk_frozen BK178.out 1
        have hfz28_2 := blk_frozen BK178.out 2
        have hfz28_3 := blk_frozen BK178.out 3
        have hfz28_4 := blk_frozen BK178.out 4
        have hfz28_5 := blk_frozen BK178.out 5
        go_wp2
        repeat (go_quiet (fail); try go_wp2)
        go_meet
        case rel => exact ⟨_, (decide (a0_2 < 2)), (by first | rfl | (simp; done) | (simp [*]; done)), H', ⟨by have := HJ1.out; have := HJ13.out; first | omega | exact Nat.le_refl _⟩, ⟨by (with_reducible repeat (first | refine blk_drewN ?_ _ | refine blk_drew ?_ | refine blk_alloc ?_ _)); exact BK178.out⟩, ⟨B1_⟩⟩
       rw [if_neg c27] at H
       have c27b0 : decide (21 ≤ a0_0) = false := decide_eq_false c27
       clear c27
       have H' := Aside0.mk H
       clear H
       go_wp2
       repeat (go_quiet (fail); try go_wp2)
       go_meet
       case rel => exact ⟨_, (false), (by first | rfl | (simp; done) | (simp [*]; done)), H', ⟨by have := HJ1.out; have := HJ13.out; first | omega | exact Nat.le_refl _⟩, ⟨by (with_reducible repeat (first | refine blk_drewN ?_ _ | refine blk_drew ?_ | refine blk_alloc ?_ _)); exact BK178.out⟩, ⟨B1_⟩⟩
      rw [if_neg c20] at H
      have c20b0 : decide (16 ≤ a0_0) = false := decide_eq_false c20
      clear c20
      (first | rw [c20b0] | (simp only [i64_w, i32_w]; rw [c20b0]) | skip)
      by_cases c29 : a0_0 ≥ 21
      ·rw [if_pos c29] at H
       have c29b0 : decide (21 ≤ a0_0) = true := decide_eq_true c29
       clear c29
       have H' := Aside0.mk H
       clear H
       have hcz30_0 : wc.cell? ⟨gb178, 0, none⟩ = some (.int .i64 a0_0) := (blk_cell BK178.out 0).trans rfl
       have hcz30_1 : wc.cell? ⟨gb178, 1, none⟩ = some (.int .i64 a0_1) := (blk_cell BK178.out 1).trans rfl
       have hcz30_2 : wc.cell? ⟨gb178, 2, none⟩ = some (.int .i64 a0_2) := (blk_cell BK178.out 2).trans rfl
       have hcz30_3 : wc.cell? ⟨gb178, 3, none⟩ = some (.int .i64 a0_3) := (blk_cell BK178.out 3).trans rfl
       have hcz30_4 : wc.cell? ⟨gb178, 4, none⟩ = some (.slice A0_4 l0_4.length c0_4) := (blk_cell BK178.out 4).trans rfl
       have hcz30_5 : wc.cell? ⟨gb178, 5, none⟩ = some (.int .u64 a0_5) := (blk_cell BK178.out 5).trans rfl
       have hfz30_0 := blk_frozen BK178.out 0
       have hfz30_1 := blk_frozen BK178.out 1
       have hfz30_2 := blk_frozen BK178.out 2
       have hfz30_3 := blk_frozen BK178.out 3
       have hfz30_4 := blk_frozen BK178.out 4
       have hfz30_5 := blk_frozen BK178.out 5
       go_wp2
       repeat (go_quiet (fail); try go_wp2)
       go_meet
       case rel => exact ⟨_, (decide (a0_2 < 2)), (by first | rfl | (simp; done) | (simp [*]; done)), H', ⟨by have := HJ1.out; have := HJ13.out; first | omega | exact Nat.le_refl _⟩, ⟨by (with_reducible repeat (first | refine blk_drewN ?_ _ | refine blk_drew ?_ | refine blk_alloc ?_ _)); exact BK178.out⟩, ⟨B1_⟩⟩
      rw [if_neg c29] at H
      have c29b0 : decide (21 ≤ a0_0) = false := decide_eq_false c29
      clear c29
      have H' := Aside0.mk H
      clear H
      go_wp2
      repeat (go_quiet (fail); try go_wp2)
      go_meet
      case rel => exact ⟨_, (false), (by first | rfl | (simp; done) | (simp [*]; done)), H', ⟨by have := HJ1.out; have := HJ13.out; first | omega | exact Nat.le_refl _⟩, ⟨by (with_reducible repeat (first | refine blk_drewN ?_ _ | refine blk_drew ?_ | refine blk_alloc ?_ _)); exact BK178.out⟩, ⟨B1_⟩⟩
     case rest =>
      clear HC19
      try clear c1
      try clear c2
      try clear p2
      try clear c3
      try clear c5
      try clear c5b0
      try clear c5b1
      try clear c6
      try clear c6b0
      try clear c7
      try clear c7b0
      try clear c8
      try clear c8b0
      try clear c8b1
      try clear c9
      try clear c9b0
      try clear c9b1
      try clear c10
      try clear c10b0
      try clear c11
      try clear c11b0
      try clear c11b1
      try clear c12
      try clear c12b0
      try clear c12b1
      try clear c13
      try clear c13b0
      try clear c15
      try clear c16
      try clear c16b0
      try clear c16b1
      try clear c20
      try clear c20b0
      try clear c21
      try clear c21b0
      try clear c22
      try clear c22b0
      try clear c24
      try clear c24b0
      try clear c27
      try clear c27b0
      try clear c29
      try clear c29b0
      try clear c30
      try clear hcz17_0
      try clear hcz17_1
      try clear hcz17_2
      try clear hcz17_3
      try clear hcz17_4
      try clear hcz17_5
      try clear hcz18_0
      try clear hcz18_1
      try clear hcz18_2
      try clear hcz18_3
      try clear hcz18_4
      try clear hcz18_5
      try clear hcz23_0
      try clear hcz23_1
      try clear hcz23_2
      try clear hcz23_3
      try clear hcz23_4
      try clear hcz23_5
      try clear hcz25_0
      try clear hcz25_1
      try clear hcz25_2
      try clear hcz25_3
      try clear hcz25_4
      try clear hcz25_5
      try clear hcz26_0
      try clear hcz26_1
      try clear hcz26_2
      try clear hcz26_3
      try clear hcz26_4
      try clear hcz26_5
      try clear hcz28_0
      try clear hcz28_1
      try clear hcz28_2
      try clear hcz28_3
      try clear hcz28_4
      try clear hcz28_5
      try clear hcz30_0
      try clear hcz30_1
      try clear hcz30_2
      try clear hcz30_3
      try clear hcz30_4
      try clear hcz30_5
      try clear hcz4_0
      try clear hcz4_1
      try clear hcz4_2
      try clear hcz4_3
      try clear hcz4_4
      try clear hcz4_5
      try clear hfz17_0
      try clear hfz17_1
      try clear hfz17_2
      try clear hfz17_3
      try clear hfz17_4
      try clear hfz17_5
      try clear hfz18_0
      try clear hfz18_1
      try clear hfz18_2
      try clear hfz18_3
      try clear hfz18_4
      try clear hfz18_5
      try clear hfz23_0
      try clear hfz23_1
      try clear hfz23_2
      try clear hfz23_3
      try clear hfz23_4
      try clear hfz23_5
      try clear hfz25_0
      try clear hfz25_1
      try clear hfz25_2
      try clear hfz25_3
      try clear hfz25_4
      try clear hfz25_5
      try clear hfz26_0
      try clear hfz26_1
      try clear hfz26_2
      try clear hfz26_3
      try clear hfz26_4
      try clear hfz26_5
      try clear hfz28_0
      try clear hfz28_1
      try clear hfz28_2
      try clear hfz28_3
      try clear hfz28_4
      try clear hfz28_5
      try clear hfz30_0
      try clear hfz30_1
      try clear hfz30_2
      try clear hfz30_3
      try clear hfz30_4
      try clear hfz30_5
      try clear hfz4_0
      try clear hfz4_1
      try clear hfz4_2
      try clear hfz4_3
      try clear hfz4_4
      try clear hfz4_5
      try clear p2
      obtain ⟨kq, x54_18, rfl, HA, HJ18, BK178, HB⟩ := hcut
      cases kq with
      | zero => exact absurd HA.out (by simp [lockstepref03_Fits.j2])
      | succ kj18 =>
       have H := HA.out
       clear HA
       simp only [lockstepref03_Fits.j2] at H
       by_cases c31 : x54_18 = true
       ·subst c31
        have H1 : (some false) = some r := by rw [if_pos rfl] at H; exact H
        clear H
        have H := H1
        clear H1
        obtain rfl := Option.some.inj H
        go_wp2
        repeat (go_quiet (fail); try go_wp2)
        go_ret
        exact ⟨by first | rfl | (simp [errW_none, errW_some] <;> rfl) | (simp [*, errW_none, errW_some] <;> rfl), B1_⟩
       replace c31 := Bool.eq_false_iff.mpr c31
       subst c31
       have H1 : (if a0_0 = 0 then ((lockstepref01_Cut.f a0_5 a0_1).bind fun t179 => (some (t179 == a0_5))) else (if a0_0 = 14 then (if a0_5 < (IntKind.u64.wrap (a0_1)) then ((lockstepref01_May.f (wrap64 (a0_5))).bind fun t180 => (some t180)) else (some false)) else (if a0_0 = 15 then (if a0_5 > (IntKind.u64.wrap (a0_1)) then (if a0_5 ≤ 64 then ((lockstepref01_May.f (wrap64 (a0_5))).bind fun t181 => (some t181)) else (some false)) else (some false)) else (if a0_0 = 22 then (some (decide (a0_5 < (IntKind.u64.wrap (a0_2))))) else (some (a0_5 == 0)))))) = some r := by rw [if_neg (show ¬ (false = true) by decide)] at H; exact H
       clear H
       have H := H1
       clear H1
       by_cases c32 : a0_0 = 0
       ·rw [if_pos c32] at H
        have c32b0 : (a0_0 == 0) = true := beq_iff_eq.mpr c32
        have c32b1 : (a0_0 != 0) = false := bne_eq_false_iff_eq.mpr c32
        clear c32
        replace H := Option.bind_eq_some_iff.mp H
        obtain ⟨t179, A330, H⟩ := H
        replace H : (some (t179 == a0_5)) = some r := H
        have A33 := Aside0.mk A330
        clear A330
        obtain rfl := Option.some.inj H
        have hcz34_0 : wc.cell? ⟨gb178, 0, none⟩ = some (.int .i64 a0_0) := (blk_cell BK178.out 0).trans rfl
        have hcz34_1 : wc.cell? ⟨gb178, 1, none⟩ = some (.int .i64 a0_1) := (blk_cell BK178.out 1).trans rfl
        have hcz34_2 : wc.cell? ⟨gb178, 2, none⟩ = some (.int .i64 a0_2) := (blk_cell BK178.out 2).trans rfl
        have hcz34_3 : wc.cell? ⟨gb178, 3, none⟩ = some (.int .i64 a0_3) := (blk_cell BK178.out 3).trans rfl
        have hcz34_4 : wc.cell? ⟨gb178, 4, none⟩ = some (.slice A0_4 l0_4.length c0_4) := (blk_cell BK178.out 4).trans rfl
        have hcz34_5 : wc.cell? ⟨gb178, 5, none⟩ = some (.int .u64 a0_5) := (blk_cell BK178.out 5).trans rfl
        have hfz34_0 := blk_frozen BK178.out 0
        have hfz34_1 := blk_frozen BK178.out 1
        have hfz34_2 := blk_frozen BK178.out 2
        have hfz34_3 := blk_frozen BK178.out 3
        have hfz34_4 := blk_frozen BK178.out 4
        have hfz34_5 := blk_frozen BK178.out 5
        go_wp2_with (first | (go_at_call 39; (with_reducible refine (lockstepref01_Cut.calls a0_5 a0_1 t179 _ A33.out).mono ?_); rintro e w' ⟨rfl, ⟨nd, rfl⟩⟩; (try first | exact ⟨rfl, _, World.drewN_drewN _ _ _⟩ | exact ⟨rfl, _, Eq.trans (World.drewN_drewN _ _ _) (congrArg (World.drewN _) (Nat.add_assoc _ _ _))⟩)))
        repeat (go_quiet (first | (go_at_call 39; (with_reducible refine (lockstepref01_Cut.calls a0_5 a0_1 t179 _ A33.out).mono ?_); rintro e w' ⟨rfl, ⟨nd, rfl⟩⟩; (try first | exact ⟨rfl, _, World.drewN_drewN _ _ _⟩ | exact ⟨rfl, _, Eq.trans (World.drewN_drewN _ _ _) (congrArg (World.drewN _) (Nat.add_assoc _ _ _))⟩))); try go_wp2_with (first | (go_at_call 39; (with_reducible refine (lockstepref01_Cut.calls a0_5 a0_1 t179 _ A33.out).mono ?_); rintro e w' ⟨rfl, ⟨nd, rfl⟩⟩; (try first | exact ⟨rfl, _, World.drewN_drewN _ _ _⟩ | exact ⟨rfl, _, Eq.trans (World.drewN_drewN _ _ _) (congrArg (World.drewN _) (Nat.add_assoc _ _ _))⟩))))
        go_ret
        exact ⟨by first | rfl | (simp [errW_none, errW_some] <;> rfl) | (simp [*, errW_none, errW_some] <;> rfl), B1_⟩
       rw [if_neg c32] at H
       have c32b0 : (a0_0 == 0) = false := beq_eq_false_iff_ne.mpr c32
       have c32b1 : (a0_0 != 0) = true := bne_iff_ne.mpr c32
       by_cases c35 : a0_0 = 14
       ·rw [if_pos c35] at H
        have c35b0 : (a0_0 == 14) = true := beq_iff_eq.mpr c35
        have c35b1 : (a0_0 != 14) = false := bne_eq_false_iff_eq.mpr c35
        clear c35
        by_cases c36 : a0_5 < (IntKind.u64.wrap (a0_1))
        ·rw [if_pos c36] at H
         have c36b0 : decide (a0_5 < (IntKind.u64.wrap (a0_1))) = true := decide_eq_true c36
         clear c36
         replace H := Option.bind_eq_some_iff.mp H
         obtain ⟨t180, A370, H⟩ := H
         replace H : (some t180) = some r := H
         have A37 := Aside0.mk A370
         clear A370
         obtain rfl := Option.some.inj H
         have hcz38_0 : wc.cell? ⟨gb178, 0, none⟩ = some (.int .i64 a0_0) := (blk_cell BK178.out 0).trans rfl
         have hcz38_1 : wc.cell? ⟨gb178, 1, none⟩ = some (.int .i64 a0_1) := (blk_cell BK178.out 1).trans rfl
         have hcz38_2 : wc.cell? ⟨gb178, 2, none⟩ = some (.int .i64 a0_2) := (blk_cell BK178.out 2).trans rfl
         have hcz38_3 : wc.cell? ⟨gb178, 3, none⟩ = some (.int .i64 a0_3) := (blk_cell BK178.out 3).trans rfl
         have hcz38_4 : wc.cell? ⟨gb178, 4, none⟩ = some (.slice A0_4 l0_4.length c0_4) := (blk_cell BK178.out 4).trans rfl
         have hcz38_5 : wc.cell? ⟨gb178, 5, none⟩ = some (.int .u64 a0_5) := (blk_cell BK178.out 5).trans rfl
         have hfz38_0 := blk_frozen BK178.out 0
         have hfz38_1 := blk_frozen BK178.out 1
         have hfz38_2 := blk_frozen BK178.out 2
         have hfz38_3 := blk_frozen BK178.out 3
         have hfz38_4 := blk_frozen BK178.out 4
         have hfz38_5 := blk_frozen BK178.out 5
         go_wp2_with (first | (go_at_call 32; (with_reducible refine (lockstepref01_May.calls (wrap64 (a0_5)) t180 _ A37.out).mono ?_); rintro e w' ⟨rfl, ⟨nd, rfl⟩⟩; (try first | exact ⟨rfl, _, World.drewN_drewN _ _ _⟩ | exact ⟨rfl, _, Eq.trans (World.drewN_drewN _ _ _) (congrArg (World.drewN _) (Nat.add_assoc _ _ _))⟩)))
         repeat (go_quiet (first | (go_at_call 32; (with_reducible refine (lockstepref01_May.calls (wrap64 (a0_5)) t180 _ A37.out).mono ?_); rintro e w' ⟨rfl, ⟨nd, rfl⟩⟩; (try first | exact ⟨rfl, _, World.drewN_drewN _ _ _⟩ | exact ⟨rfl, _, Eq.trans (World.drewN_drewN _ _ _) (congrArg (World.drewN _) (Nat.add_assoc _ _ _))⟩))); try go_wp2_with (first | (go_at_call 32; (with_reducible refine (lockstepref01_May.calls (wrap64 (a0_5)) t180 _ A37.out).mono ?_); rintro e w' ⟨rfl, ⟨nd, rfl⟩⟩; (try first | exact ⟨rfl, _, World.drewN_drewN _ _ _⟩ | exact ⟨rfl, _, Eq.trans (World.drewN_drewN _ _ _) (congrArg (World.drewN _) (Nat.add_assoc _ _ _))⟩))))
         go_ret
         exact ⟨by first | rfl | (simp [errW_none, errW_some] <;> rfl) | (simp [*, errW_none, errW_some] <;> rfl), B1_⟩
        rw [if_neg c36] at H
        have c36b0 : decide (a0_5 < (IntKind.u64.wrap (a0_1))) = false := decide_eq_false c36
        clear c36
        obtain rfl := Option.some.inj H
        have hcz39_0 : wc.cell? ⟨gb178, 0, none⟩ = some (.int .i64 a0_0) := (blk_cell BK178.out 0).trans rfl
        have hcz39_1 : wc.cell? ⟨gb178, 1, none⟩ = some (.int .i64 a0_1) := (blk_cell BK178.out 1).trans rfl
        have hcz39_2 : wc.cell? ⟨gb178, 2, none⟩ = some (.int .i64 a0_2) := (blk_cell BK178.out 2).trans rfl
        have hcz39_3 : wc.cell? ⟨gb178, 3, none⟩ = some (.int .i64 a0_3) := (blk_cell BK178.out 3).trans rfl
        have hcz39_4 : wc.cell? ⟨gb178, 4, none⟩ = some (.slice A0_4 l0_4.length c0_4) := (blk_cell BK178.out 4).trans rfl
        have hcz39_5 : wc.cell? ⟨gb178, 5, none⟩ = some (.int .u64 a0_5) := (blk_cell BK178.out 5).trans rfl
        have hfz39_0 := blk_frozen BK178.out 0
        have hfz39_1 := blk_frozen BK178.out 1
        have hfz39_2 := blk_frozen BK178.out 2
        have hfz39_3 := blk_frozen BK178.out 3
        have hfz39_4 := blk_frozen BK178.out 4
        have hfz39_5 := blk_frozen BK178.out 5
        go_wp2
        repeat (go_quiet (fail); try go_wp2)
        go_ret
        exact ⟨by first | rfl | (simp [errW_none, errW_some] <;> rfl) | (simp [*, errW_none, errW_some] <;> rfl), B1_⟩
       rw [if_neg c35] at H
       have c35b0 : (a0_0 == 14) = false := beq_eq_false_iff_ne.mpr c35
       have c35b1 : (a0_0 != 14) = true := bne_iff_ne.mpr c35
       by_cases c40 : a0_0 = 15
       ·rw [if_pos c40] at H
        have c40b0 : (a0_0 == 15) = true := beq_iff_eq.mpr c40
        have c40b1 : (a0_0 != 15) = false := bne_eq_false_iff_eq.mpr c40
        clear c40
        by_cases c41 : a0_5 > (IntKind.u64.wrap (a0_1))
        ·rw [if_pos c41] at H
         have c41b0 : decide ((IntKind.u64.wrap (a0_1)) < a0_5) = true := decide_eq_true c41
         clear c41
         by_cases c42 : a0_5 ≤ 64
         ·rw [if_pos c42] at H
          have c42b0 : decide (a0_5 ≤ 64) = true := decide_eq_true c42
          clear c42
          replace H := Option.bind_eq_some_iff.mp H
          obtain ⟨t181, A430, H⟩ := H
          replace H : (some t181) = some r := H
          have A43 := Aside0.mk A430
          clear A430
          obtain rfl := Option.some.inj H
          have hcz44_0 : wc.cell? ⟨gb178, 0, none⟩ = some (.int .i64 a0_0) := (blk_cell BK178.out 0).trans rfl
          have hcz44_1 : wc.cell? ⟨gb178, 1, none⟩ = some (.int .i64 a0_1) := (blk_cell BK178.out 1).trans rfl
          have hcz44_2 : wc.cell? ⟨gb178, 2, none⟩ = some (.int .i64 a0_2) := (blk_cell BK178.out 2).trans rfl
          have hcz44_3 : wc.cell? ⟨gb178, 3, none⟩ = some (.int .i64 a0_3) := (blk_cell BK178.out 3).trans rfl
          have hcz44_4 : wc.cell? ⟨gb178, 4, none⟩ = some (.slice A0_4 l0_4.length c0_4) := (blk_cell BK178.out 4).trans rfl
          have hcz44_5 : wc.cell? ⟨gb178, 5, none⟩ = some (.int .u64 a0_5) := (blk_cell BK178.out 5).trans rfl
          have hfz44_0 := blk_frozen BK178.out 0
          have hfz44_1 := blk_frozen BK178.out 1
          have hfz44_2 := blk_frozen BK178.out 2
          have hfz44_3 := blk_frozen BK178.out 3
          have hfz44_4 := blk_frozen BK178.out 4
          have hfz44_5 := blk_frozen BK178.out 5
          go_wp2_with (first | (go_at_call 32; (with_reducible refine (lockstepref01_May.calls (wrap64 (a0_5)) t181 _ A43.out).mono ?_); rintro e w' ⟨rfl, ⟨nd, rfl⟩⟩; (try first | exact ⟨rfl, _, World.drewN_drewN _ _ _⟩ | exact ⟨rfl, _, Eq.trans (World.drewN_drewN _ _ _) (congrArg (World.drewN _) (Nat.add_assoc _ _ _))⟩)))
          repeat (go_quiet (first | (go_at_call 32; (with_reducible refine (lockstepref01_May.calls (wrap64 (a0_5)) t181 _ A43.out).mono ?_); rintro e w' ⟨rfl, ⟨nd, rfl⟩⟩; (try first | exact ⟨rfl, _, World.drewN_drewN _ _ _⟩ | exact ⟨rfl, _, Eq.trans (World.drewN_drewN _ _ _) (congrArg (World.drewN _) (Nat.add_assoc _ _ _))⟩))); try go_wp2_with (first | (go_at_call 32; (with_reducible refine (lockstepref01_May.calls (wrap64 (a0_5)) t181 _ A43.out).mono ?_); rintro e w' ⟨rfl, ⟨nd, rfl⟩⟩; (try first | exact ⟨rfl, _, World.drewN_drewN _ _ _⟩ | exact ⟨rfl, _, Eq.trans (World.drewN_drewN _ _ _) (congrArg (World.drewN _) (Nat.add_assoc _ _ _))⟩))))
          go_ret
          exact ⟨by first | rfl | (simp [errW_none, errW_some] <;> rfl) | (simp [*, errW_none, errW_some] <;> rfl), B1_⟩
         rw [if_neg c42] at H
         have c42b0 : decide (a0_5 ≤ 64) = false := decide_eq_false c42
         clear c42
         obtain rfl := Option.some.inj H
         have hcz45_0 : wc.cell? ⟨gb178, 0, none⟩ = some (.int .i64 a0_0) := (blk_cell BK178.out 0).trans rfl
         have hcz45_1 : wc.cell? ⟨gb178, 1, none⟩ = some (.int .i64 a0_1) := (blk_cell BK178.out 1).trans rfl
         have hcz45_2 : wc.cell? ⟨gb178, 2, none⟩ = some (.int .i64 a0_2) := (blk_cell BK178.out 2).trans rfl
         have hcz45_3 : wc.cell? ⟨gb178, 3, none⟩ = some (.int .i64 a0_3) := (blk_cell BK178.out 3).trans rfl
         have hcz45_4 : wc.cell? ⟨gb178, 4, none⟩ = some (.slice A0_4 l0_4.length c0_4) := (blk_cell BK178.out 4).trans rfl
         have hcz45_5 : wc.cell? ⟨gb178, 5, none⟩ = some (.int .u64 a0_5) := (blk_cell BK178.out 5).trans rfl
         have hfz45_0 := blk_frozen BK178.out 0
         have hfz45_1 := blk_frozen BK178.out 1
         have hfz45_2 := blk_frozen BK178.out 2
         have hfz45_3 := blk_frozen BK178.out 3
         have hfz45_4 := blk_frozen BK178.out 4
         have hfz45_5 := blk_frozen BK178.out 5
         go_wp2
         repeat (go_quiet (fail); try go_wp2)
         go_ret
         exact ⟨by first | rfl | (simp [errW_none, errW_some] <;> rfl) | (simp [*, errW_none, errW_some] <;> rfl), B1_⟩
        rw [if_neg c41] at H
        have c41b0 : decide ((IntKind.u64.wrap (a0_1)) < a0_5) = false := decide_eq_false c41
        clear c41
        obtain rfl := Option.some.inj H
        have hcz46_0 : wc.cell? ⟨gb178, 0, none⟩ = some (.int .i64 a0_0) := (blk_cell BK178.out 0).trans rfl
        have hcz46_1 : wc.cell? ⟨gb178, 1, none⟩ = some (.int .i64 a0_1) := (blk_cell BK178.out 1).trans rfl
        have hcz46_2 : wc.cell? ⟨gb178, 2, none⟩ = some (.int .i64 a0_2) := (blk_cell BK178.out 2).trans rfl
        have hcz46_3 : wc.cell? ⟨gb178, 3, none⟩ = some (.int .i64 a0_3) := (blk_cell BK178.out 3).trans rfl
        have hcz46_4 : wc.cell? ⟨gb178, 4, none⟩ = some (.slice A0_4 l0_4.length c0_4) := (blk_cell BK178.out 4).trans rfl
        have hcz46_5 : wc.cell? ⟨gb178, 5, none⟩ = some (.int .u64 a0_5) := (blk_cell BK178.out 5).trans rfl
        have hfz46_0 := blk_frozen BK178.out 0
        have hfz46_1 := blk_frozen BK178.out 1
        have hfz46_2 := blk_frozen BK178.out 2
        have hfz46_3 := blk_frozen BK178.out 3
        have hfz46_4 := blk_frozen BK178.out 4
        have hfz46_5 := blk_frozen BK178.out 5
        go_wp2
        repeat (go_quiet (fail); try go_wp2)
        go_ret
        exact ⟨by first | rfl | (simp [errW_none, errW_some] <;> rfl) | (simp [*, errW_none, errW_some] <;> rfl), B1_⟩
       rw [if_neg c40] at H
       have c40b0 : (a0_0 == 15) = false := beq_eq_false_iff_ne.mpr c40
       have c40b1 : (a0_0 != 15) = true := bne_iff_ne.mpr c40
       by_cases c47 : a0_0 = 22
       ·rw [if_pos c47] at H
        have c47b0 : (a0_0 == 22) = true := beq_iff_eq.mpr c47
        have c47b1 : (a0_0 != 22) = false := bne_eq_false_iff_eq.mpr c47
        clear c47
        obtain rfl := Option.some.inj H
        have hcz48_0 : wc.cell? ⟨gb178, 0, none⟩ = some (.int .i64 a0_0) := (blk_cell BK178.out 0).trans rfl
        have hcz48_1 : wc.cell? ⟨gb178, 1, none⟩ = some (.int .i64 a0_1) := (blk_cell BK178.out 1).trans rfl
        have hcz48_2 : wc.cell? ⟨gb178, 2, none⟩ = some (.int .i64 a0_2) := (blk_cell BK178.out 2).trans rfl
        have hcz48_3 : wc.cell? ⟨gb178, 3, none⟩ = some (.int .i64 a0_3) := (blk_cell BK178.out 3).trans rfl
        have hcz48_4 : wc.cell? ⟨gb178, 4, none⟩ = some (.slice A0_4 l0_4.length c0_4) := (blk_cell BK178.out 4).trans rfl
        have hcz48_5 : wc.cell? ⟨gb178, 5, none⟩ = some (.int .u64 a0_5) := (blk_cell BK178.out 5).trans rfl
        have hfz48_0 := blk_frozen BK178.out 0
        have hfz48_1 := blk_frozen BK178.out 1
        have hfz48_2 := blk_frozen BK178.out 2
        have hfz48_3 := blk_frozen BK178.out 3
        have hfz48_4 := blk_frozen BK178.out 4
        have hfz48_5 := blk_frozen BK178.out 5
        go_wp2
        repeat (go_quiet (fail); try go_wp2)
        go_ret
        exact ⟨by first | rfl | (simp [errW_none, errW_some] <;> rfl) | (simp [*, errW_none, errW_some] <;> rfl), B1_⟩
       rw [if_neg c47] at H
       have c47b0 : (a0_0 == 22) = false := beq_eq_false_iff_ne.mpr c47
       have c47b1 : (a0_0 != 22) = true := bne_iff_ne.mpr c47
       obtain rfl := Option.some.inj H
       have hcz49_0 : wc.cell? ⟨gb178, 0, none⟩ = some (.int .i64 a0_0) := (blk_cell BK178.out 0).trans rfl
       have hcz49_1 : wc.cell? ⟨gb178, 1, none⟩ = some (.int .i64 a0_1) := (blk_cell BK178.out 1).trans rfl
       have hcz49_2 : wc.cell? ⟨gb178, 2, none⟩ = some (.int .i64 a0_2) := (blk_cell BK178.out 2).trans rfl
       have hcz49_3 : wc.cell? ⟨gb178, 3, none⟩ = some (.int .i64 a0_3) := (blk_cell BK178.out 3).trans rfl
       have hcz49_4 : wc.cell? ⟨gb178, 4, none⟩ = some (.slice A0_4 l0_4.length c0_4) := (blk_cell BK178.out 4).trans rfl
       have hcz49_5 : wc.cell? ⟨gb178, 5, none⟩ = some (.int .u64 a0_5) := (blk_cell BK178.out 5).trans rfl
       have hfz49_0 := blk_frozen BK178.out 0
       have hfz49_1 := blk_frozen BK178.out 1
       have hfz49_2 := blk_frozen BK178.out 2
       have hfz49_3 := blk_frozen BK178.out 3
       have hfz49_4 := blk_frozen BK178.out 4
       have hfz49_5 := blk_frozen BK178.out 5
       go_wp2
       repeat (go_quiet (fail); try go_wp2)
       go_ret
       exact ⟨by first | rfl | (simp [errW_none, errW_some] <;> rfl) | (simp [*, errW_none, errW_some] <;> rfl), B1_⟩

end Go.Proofs.Ytblhphjdjpodcaa.Q
