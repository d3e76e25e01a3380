/- Texts of this session, joined by wip/tools/merge.py. Conditions: each theorem's own. -/
import Derived.Test.YtoekeknfeinphaaGx0
import Derived.Test.YtoekeknfeinphaaMLoopRingc
import Derived.Test.YtoekeknfeinphaaMLoopRingb
import Derived.Test.YtoekeknfeinphaaRows
import Derived.WalkKit
import Derived.ProofKit
import Derived.OpenShut
import Derived.ShutString
import Derived.ChangeOld
import Derived.Below
import Derived.SizedLaws
namespace Go.Proofs.Ytoekeknfeinphaa.G
open Go.Proofs.YtoekeknfeinphaaH
open Go.RowKit Go.Proofs.YtoekeknfeinphaaW.PrintWords Go.Proofs.YtoekeknfeinphaaW.PrintLast Go.Proofs.YtoekeknfeinphaaW.PrintMore
attribute [local go_sem] max2_int min2_int max_two min_two max_three min_three max_four min_four   -- for this text's walks alone
set_option linter.unusedVariables false
set_option linter.unusedSimpArgs false

/-! ### lockstepref06_Same: function 64 -/
mutual
def lockstepref06_Same.j0 : Nat → Bool → List (List Int) → List (List Int) → List (List Int) → List (List Int) → Option (Bool)
 | 0, _, _, _, _, _ => none
 | k + 1, x22, x403000, x403001, x404000, x404001 => if x22 = true then (some false) else (lockstepref06_Same.l0 k 0 x403000 x403001 x404000 x404001)
def lockstepref06_Same.l0 : Nat → Int → List (List Int) → List (List Int) → List (List Int) → List (List Int) → Option (Bool)
 | 0, _, _, _, _, _ => none
 | k + 1, x5, x403000, x403001, x404000, x404001 => if x5 < (x403000.length : Int) then (if 0 ≤ x5 then (if x5 < (x404000.length : Int) then ((lockstepref02_Ints.f k (rd_L1 x403000 x5) (rd_L1 x404000 x5)).bind fun t406 => (if t406 = true then (lockstepref06_Same.l0 k (wrap64 (x5 + 1)) x403000 x403001 x404000 x404001) else (some false))) else (none)) else (none)) else (lockstepref06_Same.l1 k 0 x403000 x403001 x404000 x404001)
def lockstepref06_Same.l1 : Nat → Int → List (List Int) → List (List Int) → List (List Int) → List (List Int) → Option (Bool)
 | 0, _, _, _, _, _ => none
 | k + 1, x6, x403000, x403001, x404000, x404001 => if x6 < (x403001.length : Int) then (if 0 ≤ x6 then (if x6 < (x404001.length : Int) then ((lockstepref02_Ints.f k (rd_L1 x403001 x6) (rd_L1 x404001 x6)).bind fun t409 => (if t409 = true then (lockstepref06_Same.l1 k (wrap64 (x6 + 1)) x403000 x403001 x404000 x404001) else (some false))) else (none)) else (none)) else (some true)
end
def lockstepref06_Same.f (k : Nat) (l0_0 : List (List Int)) (l0_1 : List (List Int)) (l1_0 : List (List Int)) (l1_1 : List (List Int)) : Option (Bool) := if (l0_0.length : Int) = (l1_0.length : Int) then (lockstepref06_Same.j0 k ((l0_1.length : Int) != (l1_1.length : Int)) l0_0 l0_1 l1_0 l1_1) else (lockstepref06_Same.j0 k true l0_0 l0_1 l1_0 l1_1)
theorem lockstepref06_Same.mono_l : ∀ k, (∀ y0 y1 y2 y3 y4, LeO (lockstepref06_Same.j0 k y0 y1 y2 y3 y4) (lockstepref06_Same.j0 (k + 1) y0 y1 y2 y3 y4)) ∧ (∀ y0 y1 y2 y3 y4, LeO (lockstepref06_Same.l0 k y0 y1 y2 y3 y4) (lockstepref06_Same.l0 (k + 1) y0 y1 y2 y3 y4)) ∧ (∀ y0 y1 y2 y3 y4, LeO (lockstepref06_Same.l1 k y0 y1 y2 y3 y4) (lockstepref06_Same.l1 (k + 1) y0 y1 y2 y3 y4))
 | 0 => ⟨fun _ _ _ _ _ r h => by simp [lockstepref06_Same.j0] at h, fun _ _ _ _ _ r h => by simp [lockstepref06_Same.l0] at h, fun _ _ _ _ _ r h => by simp [lockstepref06_Same.l1] at h⟩
 | k + 1 => by
  obtain ⟨ih0, ih1, ih2⟩ := lockstepref06_Same.mono_l k
  refine ⟨?_, ?_, ?_⟩
  ·intro y0 y1 y2 y3 y4
   unfold lockstepref06_Same.j0
   repeat' first
   | (with_reducible exact ih0 _ _ _ _ _)
   | (with_reducible exact ih1 _ _ _ _ _)
   | (with_reducible exact ih2 _ _ _ _ _)
   | (with_reducible exact lockstepref02_Ints.mono _ _ _)
   | (with_reducible exact LeO.refl _)
   | (with_reducible exact LeO.none _)
   | (with_reducible refine LeO.ite ?_ ?_)
   | (with_reducible refine LeO.bind ?_ (fun _ => ?_))
   | exact ih0 _ _ _ _ _
   | exact ih1 _ _ _ _ _
   | exact ih2 _ _ _ _ _
   | exact lockstepref02_Ints.mono _ _ _
   | exact LeO.none _
   | refine LeO.ite ?_ ?_
   | refine LeO.bind ?_ (fun _ => ?_)
  ·intro y0 y1 y2 y3 y4
   unfold lockstepref06_Same.l0
   repeat' first
   | (with_reducible exact ih0 _ _ _ _ _)
   | (with_reducible exact ih1 _ _ _ _ _)
   | (with_reducible exact ih2 _ _ _ _ _)
   | (with_reducible exact lockstepref02_Ints.mono _ _ _)
   | (with_reducible exact LeO.refl _)
   | (with_reducible exact LeO.none _)
   | (with_reducible refine LeO.ite ?_ ?_)
   | (with_reducible refine LeO.bind ?_ (fun _ => ?_))
   | exact ih0 _ _ _ _ _
   | exact ih1 _ _ _ _ _
   | exact ih2 _ _ _ _ _
   | exact lockstepref02_Ints.mono _ _ _
   | exact LeO.none _
   | refine LeO.ite ?_ ?_
   | refine LeO.bind ?_ (fun _ => ?_)
  ·intro y0 y1 y2 y3 y4
   unfold lockstepref06_Same.l1
   repeat' first
   | (with_reducible exact ih0 _ _ _ _ _)
   | (with_reducible exact ih1 _ _ _ _ _)
   | (with_reducible exact ih2 _ _ _ _ _)
   | (with_reducible exact lockstepref02_Ints.mono _ _ _)
   | (with_reducible exact LeO.refl _)
   | (with_reducible exact LeO.none _)
   | (with_reducible refine LeO.ite ?_ ?_)
   | (with_reducible refine LeO.bind ?_ (fun _ => ?_))
   | exact ih0 _ _ _ _ _
   | exact ih1 _ _ _ _ _
   | exact ih2 _ _ _ _ _
   | exact lockstepref02_Ints.mono _ _ _
   | exact LeO.none _
   | refine LeO.ite ?_ ?_
   | refine LeO.bind ?_ (fun _ => ?_)
theorem lockstepref06_Same.mono : ∀ a0 a1 a2 a3 k, LeO (lockstepref06_Same.f k a0 a1 a2 a3) (lockstepref06_Same.f (k + 1) a0 a1 a2 a3) := by
 intro a0 a1 a2 a3 k
 obtain ⟨ih0, ih1, ih2⟩ := lockstepref06_Same.mono_l k
 unfold lockstepref06_Same.f
 repeat' first
  | (with_reducible exact ih0 _ _ _ _ _)
  | (with_reducible exact ih1 _ _ _ _ _)
  | (with_reducible exact ih2 _ _ _ _ _)
  | (with_reducible exact lockstepref02_Ints.mono _ _ _)
  | (with_reducible exact LeO.refl _)
  | (with_reducible exact LeO.none _)
  | (with_reducible refine LeO.ite ?_ ?_)
  | (with_reducible refine LeO.bind ?_ (fun _ => ?_))
  | exact ih0 _ _ _ _ _
  | exact ih1 _ _ _ _ _
  | exact ih2 _ _ _ _ _
  | exact lockstepref02_Ints.mono _ _ _
  | exact LeO.none _
  | refine LeO.ite ?_ ?_
  | refine LeO.bind ?_ (fun _ => ?_)
set_option maxHeartbeats 8000000 in
set_option maxRecDepth 100000 in
theorem lockstepref06_Same.calls (k : Nat) (A0_0 : Option Addr) (c0_0 : Nat) (l0_0 : List (List Int)) (A0_1 : Option Addr) (c0_1 : Nat) (l0_1 : List (List Int)) (A1_0 : Option Addr) (c1_0 : Nat) (l1_0 : List (List Int)) (A1_1 : Option Addr) (c1_1 : Nat) (l1_1 : List (List Int)) (r : Bool) (w : World) (hr0_0 : Kd.C (Kd.slice 3 (Kd.int .i64)) w A0_0 l0_0.length l0_0) (hc0_0 : l0_0.length ≤ c0_0) (hr0_1 : Kd.C (Kd.slice 3 (Kd.int .i64)) w A0_1 l0_1.length l0_1) (hc0_1 : l0_1.length ≤ c0_1) (hr1_0 : Kd.C (Kd.slice 3 (Kd.int .i64)) w A1_0 l1_0.length l1_0) (hc1_0 : l1_0.length ≤ c1_0) (hr1_1 : Kd.C (Kd.slice 3 (Kd.int .i64)) w A1_1 l1_1.length l1_1) (hc1_1 : l1_1.length ≤ c1_1) (h : lockstepref06_Same.f k l0_0 l0_1 l1_0 l1_1 = some r) :
 Calls Try.prog 64 #[.agg #[.slice A0_0 l0_0.length c0_0, .slice A0_1 l0_1.length c0_1], .agg #[.slice A1_0 l1_0.length c1_0, .slice A1_1 l1_1.length c1_1]] w fun e w' => e = .returned (.bool r) ∧ Below w.heap.size w w' := by
 have hu26 := Try.underlying26
 have HR0_0 := Aside0.mk hr0_0
 have HC0_0 := Aside0.mk hc0_0
 clear hr0_0 hc0_0
 have HR0_1 := Aside0.mk hr0_1
 have HC0_1 := Aside0.mk hc0_1
 clear hr0_1 hc0_1
 have HR1_0 := Aside0.mk hr1_0
 have HC1_0 := Aside0.mk hc1_0
 clear hr1_0 hc1_0
 have HR1_1 := Aside0.mk hr1_1
 have HC1_1 := Aside0.mk hc1_1
 clear hr1_1 hc1_1
 have HB := Aside0.mk (Below.refl w.heap.size w)
 have H : (if (l0_0.length : Int) = (l1_0.length : Int) then (lockstepref06_Same.j0 k ((l0_1.length : Int) != (l1_1.length : Int)) l0_0 l0_1 l1_0 l1_1) else (lockstepref06_Same.j0 k true l0_0 l0_1 l1_0 l1_1)) = some r := h
 clear h
 have HC3 := Aside0.mk H
 clear H
 go_enter Try.func64, Try.ntmps64
 go_upto_region 1 with (first | ((with_reducible refine gate_dst (N := 2) rfl ?_); (try (refine gate_guard (by rfl) ?_; dsimp only)); refine box_event ?hg (N := 2) ?hd (cs := #[.slice A0_0 l0_0.length c0_0, .slice A0_1 l0_1.length c0_1]) (t := 26) ?hr ?_; (case hd => rfl); (case hg => rfl); (case hr => first | (go_simp; done) | (go_simp; rfl)); intro gb402 hg w4 hbox hb; have n0_ := Aside0.mk (below_step (B_) hb); have n1_ := Aside0.mk (hbox); have n2_ := Aside0.mk ((by rw [hg]; exact (below_size (B_)) : w.heap.size ≤ gb402)); have n3_ := Aside0.mk ((by rw [hg]; exact (below_size (B_)) : w.heap.size ≤ gb402)); clear HB; have HB := n0_; have BK402 := n1_; have GW402 := n2_; have GE402 := n3_; clear n0_ n1_ n2_ n3_; clear hb hbox hg) | ((with_reducible refine gate_dst (N := 3) rfl ?_); (try (refine gate_guard (by rfl) ?_; dsimp only)); refine box_event ?hg (N := 3) ?hd (cs := #[.slice A1_0 l1_0.length c1_0, .slice A1_1 l1_1.length c1_1]) (t := 26) ?hr ?_; (case hd => rfl); (case hg => rfl); (case hr => first | (go_simp; done) | (go_simp; rfl)); intro gb403 hg w5 hbox hb; have n0_ := Aside0.mk (blk_below (g := gb402) (o := .cells #[.slice A0_0 l0_0.length c0_0, .slice A0_1 l0_1.length c0_1] 26 (0, 0)) (by exact KX_ BK402.out) hb); have n1_ := Aside0.mk (below_step (B1_) hb); have n2_ := Aside0.mk (hbox); have n3_ := Aside0.mk ((by rw [hg]; exact (below_size (B1_)) : w.heap.size ≤ gb403)); have n4_ := Aside0.mk ((by rw [hg]; exact (below_size (B1_)) : w.heap.size ≤ gb403)); have n5_ := Aside0.mk ((by rw [hg]; exact Nat.ne_of_lt (blk_lt (g := gb402) (o := .cells #[.slice A0_0 l0_0.length c0_0, .slice A0_1 l0_1.length c0_1] 26 (0, 0)) (by exact KX_ BK402.out)) : gb402 ≠ gb403)); have n6_ := Aside0.mk ((by rw [hg]; exact Nat.ne_of_gt (blk_lt (g := gb402) (o := .cells #[.slice A0_0 l0_0.length c0_0, .slice A0_1 l0_1.length c0_1] 26 (0, 0)) (by exact KX_ BK402.out)) : gb403 ≠ gb402)); clear BK402; clear HB; have BK402 := n0_; have HB := n1_; have BK403 := n2_; have GW403 := n3_; have GE403 := n4_; have NB402_403 := n5_; have NB403_402 := n6_; clear n0_ n1_ n2_ n3_ n4_ n5_ n6_; clear hb hbox hg))
 repeat (go_quiet (first | ((with_reducible refine gate_dst (N := 2) rfl ?_); (try (refine gate_guard (by rfl) ?_; dsimp only)); refine box_event ?hg (N := 2) ?hd (cs := #[.slice A0_0 l0_0.length c0_0, .slice A0_1 l0_1.length c0_1]) (t := 26) ?hr ?_; (case hd => rfl); (case hg => rfl); (case hr => first | (go_simp; done) | (go_simp; rfl)); intro gb402 hg w4 hbox hb; have n0_ := Aside0.mk (below_step (B_) hb); have n1_ := Aside0.mk (hbox); have n2_ := Aside0.mk ((by rw [hg]; exact (below_size (B_)) : w.heap.size ≤ gb402)); have n3_ := Aside0.mk ((by rw [hg]; exact (below_size (B_)) : w.heap.size ≤ gb402)); clear HB; have HB := n0_; have BK402 := n1_; have GW402 := n2_; have GE402 := n3_; clear n0_ n1_ n2_ n3_; clear hb hbox hg) | ((with_reducible refine gate_dst (N := 3) rfl ?_); (try (refine gate_guard (by rfl) ?_; dsimp only)); refine box_event ?hg (N := 3) ?hd (cs := #[.slice A1_0 l1_0.length c1_0, .slice A1_1 l1_1.length c1_1]) (t := 26) ?hr ?_; (case hd => rfl); (case hg => rfl); (case hr => first | (go_simp; done) | (go_simp; rfl)); intro gb403 hg w5 hbox hb; have n0_ := Aside0.mk (blk_below (g := gb402) (o := .cells #[.slice A0_0 l0_0.length c0_0, .slice A0_1 l0_1.length c0_1] 26 (0, 0)) (by exact KX_ BK402.out) hb); have n1_ := Aside0.mk (below_step (B1_) hb); have n2_ := Aside0.mk (hbox); have n3_ := Aside0.mk ((by rw [hg]; exact (below_size (B1_)) : w.heap.size ≤ gb403)); have n4_ := Aside0.mk ((by rw [hg]; exact (below_size (B1_)) : w.heap.size ≤ gb403)); have n5_ := Aside0.mk ((by rw [hg]; exact Nat.ne_of_lt (blk_lt (g := gb402) (o := .cells #[.slice A0_0 l0_0.length c0_0, .slice A0_1 l0_1.length c0_1] 26 (0, 0)) (by exact KX_ BK402.out)) : gb402 ≠ gb403)); have n6_ := Aside0.mk ((by rw [hg]; exact Nat.ne_of_gt (blk_lt (g := gb402) (o := .cells #[.slice A0_0 l0_0.length c0_0, .slice A0_1 l0_1.length c0_1] 26 (0, 0)) (by exact KX_ BK402.out)) : gb403 ≠ gb402)); clear BK402; clear HB; have BK402 := n0_; have HB := n1_; have BK403 := n2_; have GW403 := n3_; have GE403 := n4_; have NB402_403 := n5_; have NB403_402 := n6_; clear n0_ n1_ n2_ n3_ n4_ n5_ n6_; clear hb hbox hg)); go_upto_region 1 with (first | ((with_reducible refine gate_dst (N := 2) rfl ?_); (try (refine gate_guard (by rfl) ?_; dsimp only)); refine box_event ?hg (N := 2) ?hd (cs := #[.slice A0_0 l0_0.length c0_0, .slice A0_1 l0_1.length c0_1]) (t := 26) ?hr ?_; (case hd => rfl); (case hg => rfl); (case hr => first | (go_simp; done) | (go_simp; rfl)); intro gb402 hg w4 hbox hb; have n0_ := Aside0.mk (below_step (B_) hb); have n1_ := Aside0.mk (hbox); have n2_ := Aside0.mk ((by rw [hg]; exact (below_size (B_)) : w.heap.size ≤ gb402)); have n3_ := Aside0.mk ((by rw [hg]; exact (below_size (B_)) : w.heap.size ≤ gb402)); clear HB; have HB := n0_; have BK402 := n1_; have GW402 := n2_; have GE402 := n3_; clear n0_ n1_ n2_ n3_; clear hb hbox hg) | ((with_reducible refine gate_dst (N := 3) rfl ?_); (try (refine gate_guard (by rfl) ?_; dsimp only)); refine box_event ?hg (N := 3) ?hd (cs := #[.slice A1_0 l1_0.length c1_0, .slice A1_1 l1_1.length c1_1]) (t := 26) ?hr ?_; (case hd => rfl); (case hg => rfl); (case hr => first | (go_simp; done) | (go_simp; rfl)); intro gb403 hg w5 hbox hb; have n0_ := Aside0.mk (blk_below (g := gb402) (o := .cells #[.slice A0_0 l0_0.length c0_0, .slice A0_1 l0_1.length c0_1] 26 (0, 0)) (by exact KX_ BK402.out) hb); have n1_ := Aside0.mk (below_step (B1_) hb); have n2_ := Aside0.mk (hbox); have n3_ := Aside0.mk ((by rw [hg]; exact (below_size (B1_)) : w.heap.size ≤ gb403)); have n4_ := Aside0.mk ((by rw [hg]; exact (below_size (B1_)) : w.heap.size ≤ gb403)); have n5_ := Aside0.mk ((by rw [hg]; exact Nat.ne_of_lt (blk_lt (g := gb402) (o := .cells #[.slice A0_0 l0_0.length c0_0, .slice A0_1 l0_1.length c0_1] 26 (0, 0)) (by exact KX_ BK402.out)) : gb402 ≠ gb403)); have n6_ := Aside0.mk ((by rw [hg]; exact Nat.ne_of_gt (blk_lt (g := gb402) (o := .cells #[.slice A0_0 l0_0.length c0_0, .slice A0_1 l0_1.length c0_1] 26 (0, 0)) (by exact KX_ BK402.out)) : gb403 ≠ gb402)); clear BK402; clear HB; have BK402 := n0_; have HB := n1_; have BK403 := n2_; have GW403 := n3_; have GE403 := n4_; have NB402_403 := n5_; have NB403_402 := n6_; clear n0_ n1_ n2_ n3_ n4_ n5_ n6_; clear hb hbox hg)))
 (try simp only [Act.put, List.setIfInBounds_toArray, List.set_cons_zero, List.set_cons_succ])
 go_cut [22] (fun v22 wc => ∃ (kq : Nat) (x22_2 : Bool), v22 = .bool x22_2 ∧ Aside0 (lockstepref06_Same.j0 kq x22_2 l0_0 l0_1 l1_0 l1_1 = some r) ∧ Aside0 (kq ≤ k) ∧ Aside0 (wc.heap[gb402]? = some (.cells #[(.slice A0_0 l0_0.length c0_0), (.slice A0_1 l0_1.length c0_1)] 26 (0, 0))) ∧ Aside0 (wc.heap[gb403]? = some (.cells #[(.slice A1_0 l1_0.length c1_0), (.slice A1_1 l1_1.length c1_1)] 26 (0, 0))) ∧ Aside0 (Below w.heap.size w wc))
 case first =>
  have H := HC3.out
  clear HC3
  by_cases c6 : (l0_0.length : Int) = (l1_0.length : Int)
  ·rw [if_pos c6] at H
   have c6b0 : ((l0_0.length : Int) == (l1_0.length : Int)) = true := beq_iff_eq.mpr c6
   have c6b1 : ((l0_0.length : Int) != (l1_0.length : Int)) = false := bne_eq_false_iff_eq.mpr c6
   have c6b2 : (l0_0.length == l1_0.length) = true := by first | simpa using c6 | (simp at c6 ⊢; omega)
   clear c6
   (first | rw [c6b0] | (simp only [i64_w, i32_w]; rw [c6b0]) | skip)
   have H' := Aside0.mk H
   clear H
   have hnb7 := NB402_403.out
   have hnc7 := NB403_402.out
   have hcz8_0 : w5.cell? ⟨gb402, 0, none⟩ = some (.slice A0_0 l0_0.length c0_0) := (blk_cell BK402.out 0).trans rfl
   have hcz8_1 : w5.cell? ⟨gb402, 1, none⟩ = some (.slice A0_1 l0_1.length c0_1) := (blk_cell BK402.out 1).trans rfl
   have hfz8_0 := blk_frozen BK402.out 0
   have hfz8_1 := blk_frozen BK402.out 1
   have hcz9_0 : w5.cell? ⟨gb403, 0, none⟩ = some (.slice A1_0 l1_0.length c1_0) := (blk_cell BK403.out 0).trans rfl
   have hcz9_1 : w5.cell? ⟨gb403, 1, none⟩ = some (.slice A1_1 l1_1.length c1_1) := (blk_cell BK403.out 1).trans rfl
   have hfz9_0 := blk_frozen BK403.out 0
   have hfz9_1 := blk_frozen BK403.out 1
   go_wp2
   repeat (go_quiet (fail); try go_wp2)
   go_meet
   case rel => exact ⟨_, (((l0_1.length : Int) != (l1_1.length : Int))), (by first | rfl | (simp; done) | (simp [*]; done)), H', ⟨by first | omega | exact Nat.le_refl _⟩, ⟨by exact KX_ BK402.out⟩, ⟨by exact KX_ BK403.out⟩, ⟨B1_⟩⟩
  rw [if_neg c6] at H
  have c6b0 : ((l0_0.length : Int) == (l1_0.length : Int)) = false := beq_eq_false_iff_ne.mpr c6
  have c6b1 : ((l0_0.length : Int) != (l1_0.length : Int)) = true := bne_iff_ne.mpr c6
  have c6b2 : (l0_0.length == l1_0.length) = false := by first | simpa using c6 | (simp at c6 ⊢; omega)
  (first | rw [c6b0] | (simp only [i64_w, i32_w]; rw [c6b0]) | skip)
  have H' := Aside0.mk H
  clear H
  have hnb10 := NB402_403.out
  have hnc10 := NB403_402.out
  have hcz11_0 : w5.cell? ⟨gb402, 0, none⟩ = some (.slice A0_0 l0_0.length c0_0) := (blk_cell BK402.out 0).trans rfl
  have hcz11_1 : w5.cell? ⟨gb402, 1, none⟩ = some (.slice A0_1 l0_1.length c0_1) := (blk_cell BK402.out 1).trans rfl
  have hfz11_0 := blk_frozen BK402.out 0
  have hfz11_1 := blk_frozen BK402.out 1
  have hcz12_0 : w5.cell? ⟨gb403, 0, none⟩ = some (.slice A1_0 l1_0.length c1_0) := (blk_cell BK403.out 0).trans rfl
  have hcz12_1 : w5.cell? ⟨gb403, 1, none⟩ = some (.slice A1_1 l1_1.length c1_1) := (blk_cell BK403.out 1).trans rfl
  have hfz12_0 := blk_frozen BK403.out 0
  have hfz12_1 := blk_frozen BK403.out 1
  go_wp2
  repeat (go_quiet (fail); try go_wp2)
  go_meet
  case rel => exact ⟨_, (true), (by first | rfl | (simp; done) | (simp [*]; done)), H', ⟨by first | omega | exact Nat.le_refl _⟩, ⟨by exact KX_ BK402.out⟩, ⟨by exact KX_ BK403.out⟩, ⟨B1_⟩⟩
 case rest =>
  clear HC3
  obtain ⟨kq, x22_2, rfl, HA, HJ2, BK402, BK403, HB⟩ := hcut
  cases kq with
  | zero => exact absurd HA.out (by simp [lockstepref06_Same.j0])
  | succ kj2 =>
   have H := HA.out
   clear HA
   simp only [lockstepref06_Same.j0] at H
   by_cases c13 : x22_2 = true
   ·subst c13
    have H1 : (some false) = some r := by rw [if_pos rfl] at H; exact H
    clear H
    have H := H1
    clear H1
    obtain rfl := Option.some.inj H
    go_wp2
    repeat (go_quiet (fail); try go_wp2)
    go_ret
    exact ⟨by first | rfl | (simp [errW_none, errW_some] <;> rfl) | (simp [*, errW_none, errW_some] <;> rfl), B1_⟩
   replace c13 := Bool.eq_false_iff.mpr c13
   subst c13
   have H1 : (lockstepref06_Same.l0 kj2 0 l0_0 l0_1 l1_0 l1_1) = some r := by rw [if_neg (show ¬ (false = true) by decide)] at H; exact H
   clear H
   have H := H1
   clear H1
   have H' := Aside0.mk H
   clear H
   go_wp2
   repeat (go_quiet (fail); try go_wp2)
   go_loopg [5] kj2 (fun kq v5 w' => ∃ (x5_2 : Int), v5 = .int .i64 x5_2 ∧ Aside0 (lockstepref06_Same.l0 kq x5_2 l0_0 l0_1 l1_0 l1_1 = some r) ∧ Aside0 (kq ≤ kj2) ∧ Aside0 (w'.heap[gb402]? = some (.cells #[(.slice A0_0 l0_0.length c0_0), (.slice A0_1 l0_1.length c0_1)] 26 (0, 0))) ∧ Aside0 (w'.heap[gb403]? = some (.cells #[(.slice A1_0 l1_0.length c1_0), (.slice A1_1 l1_1.length c1_1)] 26 (0, 0))) ∧ Aside0 (Below w.heap.size w w'))
   case atStart => exact ⟨(0), (by first | rfl | (simp; done) | (simp [*]; done)), H', ⟨Nat.le_refl _⟩, ⟨by exact KX_ BK402.out⟩, ⟨by exact KX_ BK403.out⟩, ⟨B1_⟩⟩
   case round =>
    clear H'
    try clear c13
    obtain ⟨x5_2, rfl, HA, HK2, BK402, BK403, HB⟩ := hrel
    cases gk with
    | zero => exact absurd HA.out (by simp [lockstepref06_Same.l0])
    | succ k2 =>
     have H := HA.out
     clear HA
     simp only [lockstepref06_Same.l0] at H
     by_cases c14 : x5_2 < (l0_0.length : Int)
     ·rw [if_pos c14] at H
      have c14b0 : decide (x5_2 < (l0_0.length : Int)) = true := decide_eq_true c14
      clear c14
      by_cases c15 : 0 ≤ x5_2
      ·rw [if_pos c15] at H
       have c15b0 : decide (0 ≤ x5_2) = true := decide_eq_true c15
       clear c15
       by_cases c16 : x5_2 < (l1_0.length : Int)
       ·rw [if_pos c16] at H
        have c16b0 : decide (x5_2 < (l1_0.length : Int)) = true := decide_eq_true c16
        clear c16
        replace H := Option.bind_eq_some_iff.mp H
        obtain ⟨t406, A170, H⟩ := H
        replace H : (if t406 = true then (lockstepref06_Same.l0 k2 (wrap64 (x5_2 + 1)) l0_0 l0_1 l1_0 l1_1) else (some false)) = some r := H
        have A17 := Aside0.mk A170
        clear A170
        by_cases c18 : t406 = true
        ·subst c18
         have H1 : (lockstepref06_Same.l0 k2 (wrap64 (x5_2 + 1)) l0_0 l0_1 l1_0 l1_1) = some r := by rw [if_pos rfl] at H; exact H
         clear H
         have H := H1
         clear H1
         have H' := Aside0.mk H
         clear H
         have hnb19 := NB402_403.out
         have hnc19 := NB403_402.out
         have hcz20_0 : wr.cell? ⟨gb402, 0, none⟩ = some (.slice A0_0 l0_0.length c0_0) := (blk_cell BK402.out 0).trans rfl
         have hcz20_1 : wr.cell? ⟨gb402, 1, none⟩ = some (.slice A0_1 l0_1.length c0_1) := (blk_cell BK402.out 1).trans rfl
         have hfz20_0 := blk_frozen BK402.out 0
         have hfz20_1 := blk_frozen BK402.out 1
         have p404 : 0 ≤ (x5_2 : Int) := D_
         have q404 : x5_2 < (l0_0.length : Int) := D_
         obtain ⟨ad404, A404_0, c404_0, e404, hx404_0, hl404_0, hi404_0⟩ := at_L1 HR0_0.out x5_2 p404 q404
         cases e404
         replace hx404_0 := (HB.out.cell (World.block_lt_of_cell? w _ hx404_0)).trans hx404_0
         have HR404_0 := Aside0.mk hi404_0
         have HC404_0 := Aside0.mk hl404_0
         clear hi404_0 hl404_0
         replace p404 := eq_true p404
         replace q404 := eq_true q404
         have hcz21_0 : wr.cell? ⟨gb403, 0, none⟩ = some (.slice A1_0 l1_0.length c1_0) := (blk_cell BK403.out 0).trans rfl
         have hcz21_1 : wr.cell? ⟨gb403, 1, none⟩ = some (.slice A1_1 l1_1.length c1_1) := (blk_cell BK403.out 1).trans rfl
         have hfz21_0 := blk_frozen BK403.out 0
         have hfz21_1 := blk_frozen BK403.out 1
         have p405 : 0 ≤ (x5_2 : Int) := D_
         have q405 : x5_2 < (l1_0.length : Int) := D_
         obtain ⟨ad405, A405_0, c405_0, e405, hx405_0, hl405_0, hi405_0⟩ := at_L1 HR1_0.out x5_2 p405 q405
         cases e405
         replace hx405_0 := (HB.out.cell (World.block_lt_of_cell? w _ hx405_0)).trans hx405_0
         have HR405_0 := Aside0.mk hi405_0
         have HC405_0 := Aside0.mk hl405_0
         clear hi405_0 hl405_0
         replace p405 := eq_true p405
         replace q405 := eq_true q405
         go_wp2_with (first | (go_at_call 25; (with_reducible refine (lockstepref02_Ints.calls k2 _ _ (rd_L1 l0_0 x5_2) _ _ (rd_L1 l1_0 x5_2) true _ ?side1 ?side2 ?side3 ?side4 A17.out).mono ?_); (case side1 => exact CX_ (Kd.C_below HR404_0.out HB.out)); (case side2 => exact HC404_0.out); (case side3 => exact CX_ (Kd.C_below HR405_0.out HB.out)); (case side4 => exact HC405_0.out); rintro e w' ⟨rfl, ⟨nd, rfl⟩⟩; (try first | exact ⟨rfl, _, World.drewN_drewN _ _ _⟩ | exact ⟨rfl, _, Eq.trans (World.drewN_drewN _ _ _) (congrArg (World.drewN _) (Nat.add_assoc _ _ _))⟩)))
         repeat (go_quiet (first | (go_at_call 25; (with_reducible refine (lockstepref02_Ints.calls k2 _ _ (rd_L1 l0_0 x5_2) _ _ (rd_L1 l1_0 x5_2) true _ ?side1 ?side2 ?side3 ?side4 A17.out).mono ?_); (case side1 => exact CX_ (Kd.C_below HR404_0.out HB.out)); (case side2 => exact HC404_0.out); (case side3 => exact CX_ (Kd.C_below HR405_0.out HB.out)); (case side4 => exact HC405_0.out); rintro e w' ⟨rfl, ⟨nd, rfl⟩⟩; (try first | exact ⟨rfl, _, World.drewN_drewN _ _ _⟩ | exact ⟨rfl, _, Eq.trans (World.drewN_drewN _ _ _) (congrArg (World.drewN _) (Nat.add_assoc _ _ _))⟩))); try go_wp2_with (first | (go_at_call 25; (with_reducible refine (lockstepref02_Ints.calls k2 _ _ (rd_L1 l0_0 x5_2) _ _ (rd_L1 l1_0 x5_2) true _ ?side1 ?side2 ?side3 ?side4 A17.out).mono ?_); (case side1 => exact CX_ (Kd.C_below HR404_0.out HB.out)); (case side2 => exact HC404_0.out); (case side3 => exact CX_ (Kd.C_below HR405_0.out HB.out)); (case side4 => exact HC405_0.out); rintro e w' ⟨rfl, ⟨nd, rfl⟩⟩; (try first | exact ⟨rfl, _, World.drewN_drewN _ _ _⟩ | exact ⟨rfl, _, Eq.trans (World.drewN_drewN _ _ _) (congrArg (World.drewN _) (Nat.add_assoc _ _ _))⟩))))
         go_roundg k2
         case measure => have := HJ2.out; have := HK2.out; omega
         case rel => exact ⟨(wrap64 (x5_2 + 1)), (by first | rfl | (simp; done) | (simp [*]; done)), H', ⟨by have := HJ2.out; have := HK2.out; omega⟩, ⟨by exact KX_ BK402.out⟩, ⟨by exact KX_ BK403.out⟩, ⟨B1_⟩⟩
        replace c18 := Bool.eq_false_iff.mpr c18
        subst c18
        have H1 : (some false) = some r := by rw [if_neg (show ¬ (false = true) by decide)] at H; exact H
        clear H
        have H := H1
        clear H1
        obtain rfl := Option.some.inj H
        have hnb22 := NB402_403.out
        have hnc22 := NB403_402.out
        have hcz23_0 : wr.cell? ⟨gb402, 0, none⟩ = some (.slice A0_0 l0_0.length c0_0) := (blk_cell BK402.out 0).trans rfl
        have hcz23_1 : wr.cell? ⟨gb402, 1, none⟩ = some (.slice A0_1 l0_1.length c0_1) := (blk_cell BK402.out 1).trans rfl
        have hfz23_0 := blk_frozen BK402.out 0
        have hfz23_1 := blk_frozen BK402.out 1
        have p404 : 0 ≤ (x5_2 : Int) := D_
        have q404 : x5_2 < (l0_0.length : Int) := D_
        obtain ⟨ad404, A404_0, c404_0, e404, hx404_0, hl404_0, hi404_0⟩ := at_L1 HR0_0.out x5_2 p404 q404
        cases e404
        replace hx404_0 := (HB.out.cell (World.block_lt_of_cell? w _ hx404_0)).trans hx404_0
        have HR404_0 := Aside0.mk hi404_0
        have HC404_0 := Aside0.mk hl404_0
        clear hi404_0 hl404_0
        replace p404 := eq_true p404
        replace q404 := eq_true q404
        have hcz24_0 : wr.cell? ⟨gb403, 0, none⟩ = some (.slice A1_0 l1_0.length c1_0) := (blk_cell BK403.out 0).trans rfl
        have hcz24_1 : wr.cell? ⟨gb403, 1, none⟩ = some (.slice A1_1 l1_1.length c1_1) := (blk_cell BK403.out 1).trans rfl
        have hfz24_0 := blk_frozen BK403.out 0
        have hfz24_1 := blk_frozen BK403.out 1
        have p405 : 0 ≤ (x5_2 : Int) := D_
        have q405 : x5_2 < (l1_0.length : Int) := D_
        obtain ⟨ad405, A405_0, c405_0, e405, hx405_0, hl405_0, hi405_0⟩ := at_L1 HR1_0.out x5_2 p405 q405
        cases e405
        replace hx405_0 := (HB.out.cell (World.block_lt_of_cell? w _ hx405_0)).trans hx405_0
        have HR405_0 := Aside0.mk hi405_0
        have HC405_0 := Aside0.mk hl405_0
        clear hi405_0 hl405_0
        replace p405 := eq_true p405
        replace q405 := eq_true q405
        go_wp2_with (first | (go_at_call 25; (with_reducible refine (lockstepref02_Ints.calls k2 _ _ (rd_L1 l0_0 x5_2) _ _ (rd_L1 l1_0 x5_2) false _ ?side1 ?side2 ?side3 ?side4 A17.out).mono ?_); (case side1 => exact CX_ (Kd.C_below HR404_0.out HB.out)); (case side2 => exact HC404_0.out); (case side3 => exact CX_ (Kd.C_below HR405_0.out HB.out)); (case side4 => exact HC405_0.out); rintro e w' ⟨rfl, ⟨nd, rfl⟩⟩; (try first | exact ⟨rfl, _, World.drewN_drewN _ _ _⟩ | exact ⟨rfl, _, Eq.trans (World.drewN_drewN _ _ _) (congrArg (World.drewN _) (Nat.add_assoc _ _ _))⟩)))
        repeat (go_quiet (first | (go_at_call 25; (with_reducible refine (lockstepref02_Ints.calls k2 _ _ (rd_L1 l0_0 x5_2) _ _ (rd_L1 l1_0 x5_2) false _ ?side1 ?side2 ?side3 ?side4 A17.out).mono ?_); (case side1 => exact CX_ (Kd.C_below HR404_0.out HB.out)); (case side2 => exact HC404_0.out); (case side3 => exact CX_ (Kd.C_below HR405_0.out HB.out)); (case side4 => exact HC405_0.out); rintro e w' ⟨rfl, ⟨nd, rfl⟩⟩; (try first | exact ⟨rfl, _, World.drewN_drewN _ _ _⟩ | exact ⟨rfl, _, Eq.trans (World.drewN_drewN _ _ _) (congrArg (World.drewN _) (Nat.add_assoc _ _ _))⟩))); try go_wp2_with (first | (go_at_call 25; (with_reducible refine (lockstepref02_Ints.calls k2 _ _ (rd_L1 l0_0 x5_2) _ _ (rd_L1 l1_0 x5_2) false _ ?side1 ?side2 ?side3 ?side4 A17.out).mono ?_); (case side1 => exact CX_ (Kd.C_below HR404_0.out HB.out)); (case side2 => exact HC404_0.out); (case side3 => exact CX_ (Kd.C_below HR405_0.out HB.out)); (case side4 => exact HC405_0.out); rintro e w' ⟨rfl, ⟨nd, rfl⟩⟩; (try first | exact ⟨rfl, _, World.drewN_drewN _ _ _⟩ | exact ⟨rfl, _, Eq.trans (World.drewN_drewN _ _ _) (congrArg (World.drewN _) (Nat.add_assoc _ _ _))⟩))))
        go_ret
        exact ⟨by first | rfl | (simp [errW_none, errW_some] <;> rfl) | (simp [*, errW_none, errW_some] <;> rfl), B1_⟩
       rw [if_neg c16] at H
       exact absurd H (by simp)
      rw [if_neg c15] at H
      exact absurd H (by simp)
     rw [if_neg c14] at H
     have c14b0 : decide (x5_2 < (l0_0.length : Int)) = false := decide_eq_false c14
     clear c14
     have H' := Aside0.mk H
     clear H
     have hnb25 := NB402_403.out
     have hnc25 := NB403_402.out
     have hcz26_0 : wr.cell? ⟨gb402, 0, none⟩ = some (.slice A0_0 l0_0.length c0_0) := (blk_cell BK402.out 0).trans rfl
     have hcz26_1 : wr.cell? ⟨gb402, 1, none⟩ = some (.slice A0_1 l0_1.length c0_1) := (blk_cell BK402.out 1).trans rfl
     have hfz26_0 := blk_frozen BK402.out 0
     have hfz26_1 := blk_frozen BK402.out 1
     go_wp2
     repeat (go_quiet (fail); try go_wp2)
     go_loopg [6] k2 (fun kq v6 w' => ∃ (x6_3 : Int), v6 = .int .i64 x6_3 ∧ Aside0 (lockstepref06_Same.l1 kq x6_3 l0_0 l0_1 l1_0 l1_1 = some r) ∧ Aside0 (kq ≤ k2) ∧ Aside0 (w'.heap[gb402]? = some (.cells #[(.slice A0_0 l0_0.length c0_0), (.slice A0_1 l0_1.length c0_1)] 26 (0, 0))) ∧ Aside0 (w'.heap[gb403]? = some (.cells #[(.slice A1_0 l1_0.length c1_0), (.slice A1_1 l1_1.length c1_1)] 26 (0, 0))) ∧ Aside0 (Below w.heap.size w w'))
     case atStart => exact ⟨(0), (by first | rfl | (simp; done) | (simp [*]; done)), H', ⟨Nat.le_refl _⟩, ⟨by exact KX_ BK402.out⟩, ⟨by exact KX_ BK403.out⟩, ⟨B1_⟩⟩
     case round =>
      clear H'
      try clear c14b0
      try clear hcz26_0
      try clear hcz26_1
      try clear hfz26_0
      try clear hfz26_1
      obtain ⟨x6_3, rfl, HA, HK3, BK402, BK403, HB⟩ := hrel
      cases gk with
      | zero => exact absurd HA.out (by simp [lockstepref06_Same.l1])
      | succ k3 =>
       have H := HA.out
       clear HA
       simp only [lockstepref06_Same.l1] at H
       by_cases c27 : x6_3 < (l0_1.length : Int)
       ·rw [if_pos c27] at H
        have c27b0 : decide (x6_3 < (l0_1.length : Int)) = true := decide_eq_true c27
        clear c27
        by_cases c28 : 0 ≤ x6_3
        ·rw [if_pos c28] at H
         have c28b0 : decide (0 ≤ x6_3) = true := decide_eq_true c28
         clear c28
         by_cases c29 : x6_3 < (l1_1.length : Int)
         ·rw [if_pos c29] at H
          have c29b0 : decide (x6_3 < (l1_1.length : Int)) = true := decide_eq_true c29
          clear c29
          replace H := Option.bind_eq_some_iff.mp H
          obtain ⟨t409, A300, H⟩ := H
          replace H : (if t409 = true then (lockstepref06_Same.l1 k3 (wrap64 (x6_3 + 1)) l0_0 l0_1 l1_0 l1_1) else (some false)) = some r := H
          have A30 := Aside0.mk A300
          clear A300
          by_cases c31 : t409 = true
          ·subst c31
           have H1 : (lockstepref06_Same.l1 k3 (wrap64 (x6_3 + 1)) l0_0 l0_1 l1_0 l1_1) = some r := by rw [if_pos rfl] at H; exact H
           clear H
           have H := H1
           clear H1
           have H' := Aside0.mk H
           clear H
           have hnb32 := NB402_403.out
           have hnc32 := NB403_402.out
           have hcz33_0 : wr.cell? ⟨gb402, 0, none⟩ = some (.slice A0_0 l0_0.length c0_0) := (blk_cell BK402.out 0).trans rfl
           have hcz33_1 : wr.cell? ⟨gb402, 1, none⟩ = some (.slice A0_1 l0_1.length c0_1) := (blk_cell BK402.out 1).trans rfl
           have hfz33_0 := blk_frozen BK402.out 0
           have hfz33_1 := blk_frozen BK402.out 1
           have p407 : 0 ≤ (x6_3 : Int) := D_
           have q407 : x6_3 < (l0_1.length : Int) := D_
           obtain ⟨ad407, A407_0, c407_0, e407, hx407_0, hl407_0, hi407_0⟩ := at_L1 HR0_1.out x6_3 p407 q407
           cases e407
           replace hx407_0 := (HB.out.cell (World.block_lt_of_cell? w _ hx407_0)).trans hx407_0
           have HR407_0 := Aside0.mk hi407_0
           have HC407_0 := Aside0.mk hl407_0
           clear hi407_0 hl407_0
           replace p407 := eq_true p407
           replace q407 := eq_true q407
           have hcz34_0 : wr.cell? ⟨gb403, 0, none⟩ = some (.slice A1_0 l1_0.length c1_0) := (blk_cell BK403.out 0).trans rfl
           have hcz34_1 : wr.cell? ⟨gb403, 1, none⟩ = some (.slice A1_1 l1_1.length c1_1) := (blk_cell BK403.out 1).trans rfl
           have hfz34_0 := blk_frozen BK403.out 0
           have hfz34_1 := blk_frozen BK403.out 1
           have p408 : 0 ≤ (x6_3 : Int) := D_
           have q408 : x6_3 < (l1_1.length : Int) := D_
           obtain ⟨ad408, A408_0, c408_0, e408, hx408_0, hl408_0, hi408_0⟩ := at_L1 HR1_1.out x6_3 p408 q408
           cases e408
           replace hx408_0 := (HB.out.cell (World.block_lt_of_cell? w _ hx408_0)).trans hx408_0
           have HR408_0 := Aside0.mk hi408_0
           have HC408_0 := Aside0.mk hl408_0
           clear hi408_0 hl408_0
           replace p408 := eq_true p408
           replace q408 := eq_true q408
           go_wp2_with (first | (go_at_call 25; (with_reducible refine (lockstepref02_Ints.calls k3 _ _ (rd_L1 l0_1 x6_3) _ _ (rd_L1 l1_1 x6_3) true _ ?side1 ?side2 ?side3 ?side4 A30.out).mono ?_); (case side1 => exact CX_ (Kd.C_below HR407_0.out HB.out)); (case side2 => exact HC407_0.out); (case side3 => exact CX_ (Kd.C_below HR408_0.out HB.out)); (case side4 => exact HC408_0.out); rintro e w' ⟨rfl, ⟨nd, rfl⟩⟩; (try first | exact ⟨rfl, _, World.drewN_drewN _ _ _⟩ | exact ⟨rfl, _, Eq.trans (World.drewN_drewN _ _ _) (congrArg (World.drewN _) (Nat.add_assoc _ _ _))⟩)))
           repeat (go_quiet (first | (go_at_call 25; (with_reducible refine (lockstepref02_Ints.calls k3 _ _ (rd_L1 l0_1 x6_3) _ _ (rd_L1 l1_1 x6_3) true _ ?side1 ?side2 ?side3 ?side4 A30.out).mono ?_); (case side1 => exact CX_ (Kd.C_below HR407_0.out HB.out)); (case side2 => exact HC407_0.out); (case side3 => exact CX_ (Kd.C_below HR408_0.out HB.out)); (case side4 => exact HC408_0.out); rintro e w' ⟨rfl, ⟨nd, rfl⟩⟩; (try first | exact ⟨rfl, _, World.drewN_drewN _ _ _⟩ | exact ⟨rfl, _, Eq.trans (World.drewN_drewN _ _ _) (congrArg (World.drewN _) (Nat.add_assoc _ _ _))⟩))); try go_wp2_with (first | (go_at_call 25; (with_reducible refine (lockstepref02_Ints.calls k3 _ _ (rd_L1 l0_1 x6_3) _ _ (rd_L1 l1_1 x6_3) true _ ?side1 ?side2 ?side3 ?side4 A30.out).mono ?_); (case side1 => exact CX_ (Kd.C_below HR407_0.out HB.out)); (case side2 => exact HC407_0.out); (case side3 => exact CX_ (Kd.C_below HR408_0.out HB.out)); (case side4 => exact HC408_0.out); rintro e w' ⟨rfl, ⟨nd, rfl⟩⟩; (try first | exact ⟨rfl, _, World.drewN_drewN _ _ _⟩ | exact ⟨rfl, _, Eq.trans (World.drewN_drewN _ _ _) (congrArg (World.drewN _) (Nat.add_assoc _ _ _))⟩))))
           go_roundg k3
           case measure => have := HJ2.out; have := HK2.out; have := HK3.out; omega
           case rel => exact ⟨(wrap64 (x6_3 + 1)), (by first | rfl | (simp; done) | (simp [*]; done)), H', ⟨by have := HJ2.out; have := HK2.out; have := HK3.out; omega⟩, ⟨by exact KX_ BK402.out⟩, ⟨by exact KX_ BK403.out⟩, ⟨B1_⟩⟩
          replace c31 := Bool.eq_false_iff.mpr c31
          subst c31
          have H1 : (some false) = some r := by rw [if_neg (show ¬ (false = true) by decide)] at H; exact H
          clear H
          have H := H1
          clear H1
          obtain rfl := Option.some.inj H
          have hnb35 := NB402_403.out
          have hnc35 := NB403_402.out
          have hcz36_0 : wr.cell? ⟨gb402, 0, none⟩ = some (.slice A0_0 l0_0.length c0_0) := (blk_cell BK402.out 0).trans rfl
          have hcz36_1 : wr.cell? ⟨gb402, 1, none⟩ = some (.slice A0_1 l0_1.length c0_1) := (blk_cell BK402.out 1).trans rfl
          have hfz36_0 := blk_frozen BK402.out 0
          have hfz36_1 := blk_frozen BK402.out 1
          have p407 : 0 ≤ (x6_3 : Int) := D_
          have q407 : x6_3 < (l0_1.length : Int) := D_
          obtain ⟨ad407, A407_0, c407_0, e407, hx407_0, hl407_0, hi407_0⟩ := at_L1 HR0_1.out x6_3 p407 q407
          cases e407
          replace hx407_0 := (HB.out.cell (World.block_lt_of_cell? w _ hx407_0)).trans hx407_0
          have HR407_0 := Aside0.mk hi407_0
          have HC407_0 := Aside0.mk hl407_0
          clear hi407_0 hl407_0
          replace p407 := eq_true p407
          replace q407 := eq_true q407
          have hcz37_0 : wr.cell? ⟨gb403, 0, none⟩ = some (.slice A1_0 l1_0.length c1_0) := (blk_cell BK403.out 0).trans rfl
          have hcz37_1 : wr.cell? ⟨gb403, 1, none⟩ = some (.slice A1_1 l1_1.length c1_1) := (blk_cell BK403.out 1).trans rfl
          have hfz37_0 := blk_frozen BK403.out 0
          have hfz37_1 := blk_frozen BK403.out 1
          have p408 : 0 ≤ (x6_3 : Int) := D_
          have q408 : x6_3 < (l1_1.length : Int) := D_
          obtain ⟨ad408, A408_0, c408_0, e408, hx408_0, hl408_0, hi408_0⟩ := at_L1 HR1_1.out x6_3 p408 q408
          cases e408
          replace hx408_0 := (HB.out.cell (World.block_lt_of_cell? w _ hx408_0)).trans hx408_0
          have HR408_0 := Aside0.mk hi408_0
          have HC408_0 := Aside0.mk hl408_0
          clear hi408_0 hl408_0
          replace p408 := eq_true p408
          replace q408 := eq_true q408
          go_wp2_with (first | (go_at_call 25; (with_reducible refine (lockstepref02_Ints.calls k3 _ _ (rd_L1 l0_1 x6_3) _ _ (rd_L1 l1_1 x6_3) false _ ?side1 ?side2 ?side3 ?side4 A30.out).mono ?_); (case side1 => exact CX_ (Kd.C_below HR407_0.out HB.out)); (case side2 => exact HC407_0.out); (case side3 => exact CX_ (Kd.C_below HR408_0.out HB.out)); (case side4 => exact HC408_0.out); rintro e w' ⟨rfl, ⟨nd, rfl⟩⟩; (try first | exact ⟨rfl, _, World.drewN_drewN _ _ _⟩ | exact ⟨rfl, _, Eq.trans (World.drewN_drewN _ _ _) (congrArg (World.drewN _) (Nat.add_assoc _ _ _))⟩)))
          repeat (go_quiet (first | (go_at_call 25; (with_reducible refine (lockstepref02_Ints.calls k3 _ _ (rd_L1 l0_1 x6_3) _ _ (rd_L1 l1_1 x6_3) false _ ?side1 ?side2 ?side3 ?side4 A30.out).mono ?_); (case side1 => exact CX_ (Kd.C_below HR407_0.out HB.out)); (case side2 => exact HC407_0.out); (case side3 => exact CX_ (Kd.C_below HR408_0.out HB.out)); (case side4 => exact HC408_0.out); rintro e w' ⟨rfl, ⟨nd, rfl⟩⟩; (try first | exact ⟨rfl, _, World.drewN_drewN _ _ _⟩ | exact ⟨rfl, _, Eq.trans (World.drewN_drewN _ _ _) (congrArg (World.drewN _) (Nat.add_assoc _ _ _))⟩))); try go_wp2_with (first | (go_at_call 25; (with_reducible refine (lockstepref02_Ints.calls k3 _ _ (rd_L1 l0_1 x6_3) _ _ (rd_L1 l1_1 x6_3) false _ ?side1 ?side2 ?side3 ?side4 A30.out).mono ?_); (case side1 => exact CX_ (Kd.C_below HR407_0.out HB.out)); (case side2 => exact HC407_0.out); (case side3 => exact CX_ (Kd.C_below HR408_0.out HB.out)); (case side4 => exact HC408_0.out); rintro e w' ⟨rfl, ⟨nd, rfl⟩⟩; (try first | exact ⟨rfl, _, World.drewN_drewN _ _ _⟩ | exact ⟨rfl, _, Eq.trans (World.drewN_drewN _ _ _) (congrArg (World.drewN _) (Nat.add_assoc _ _ _))⟩))))
          go_ret
          exact ⟨by first | rfl | (simp [errW_none, errW_some] <;> rfl) | (simp [*, errW_none, errW_some] <;> rfl), B1_⟩
         rw [if_neg c29] at H
         exact absurd H (by simp)
        rw [if_neg c28] at H
        exact absurd H (by simp)
       rw [if_neg c27] at H
       have c27b0 : decide (x6_3 < (l0_1.length : Int)) = false := decide_eq_false c27
       clear c27
       obtain rfl := Option.some.inj H
       have hnb38 := NB402_403.out
       have hnc38 := NB403_402.out
       have hcz39_0 : wr.cell? ⟨gb402, 0, none⟩ = some (.slice A0_0 l0_0.length c0_0) := (blk_cell BK402.out 0).trans rfl
       have hcz39_1 : wr.cell? ⟨gb402, 1, none⟩ = some (.slice A0_1 l0_1.length c0_1) := (blk_cell BK402.out 1).trans rfl
       have hfz39_0 := blk_frozen BK402.out 0
       have hfz39_1 := blk_frozen BK402.out 1
       go_wp2
       repeat (go_quiet (fail); try go_wp2)
       go_ret
       exact ⟨by first | rfl | (simp [errW_none, errW_some] <;> rfl) | (simp [*, errW_none, errW_some] <;> rfl), B1_⟩

end Go.Proofs.Ytoekeknfeinphaa.G
namespace Go.Proofs.Ytoekeknfeinphaa.GP
open Go.RowKit Go.Proofs.Ytoekeknfeinphaa.G Go.Proofs.YtoekeknfeinphaaW.PrintWords

theorem ints_l0 (d : Nat) : ∀ (i : Nat) (a b : List Int), a.length = b.length → a.length ≤ big → i ≤ a.length → a.length - i = d → Ev (fun k => lockstepref02_Ints.l0 k a b (i : Int)) (decide (a.drop i = b.drop i)) := by
  induction d with
  | zero =>
    intro i a b hl hb hi hd
    refine Ev.succ ?_; simp only [lockstepref02_Ints.l0]
    refine Ev.ifn (by omega) ?_
    rw [List.drop_of_length_le (by omega), List.drop_of_length_le (by omega)]
    exact Ev.pure.of_eq (by simp)
  | succ d ih =>
    intro i a b hl hb hi hd
    have hbb : big = 9223372036854775807 := rfl
    refine Ev.succ ?_; simp only [lockstepref02_Ints.l0]
    refine Ev.ifp (by omega) (Ev.ifp (by omega) (Ev.ifp (by omega) ?_))
    rw [show rd a (i : Int) = a.getD i 0 by simp [rd], show rd b (i : Int) = b.getD i 0 by simp [rd]]
    rw [drop_getD a i 0 (by omega), drop_getD b i 0 (by omega)]
    by_cases h : a.getD i 0 = b.getD i 0
    · refine Ev.ifp h ?_
      rw [wrap_nat (by omega)]
      exact (ih (i + 1) a b hl hb (by omega) (by omega)).of_eq (by rw [h]; simp)
    · refine Ev.ifn h (Ev.pure.of_eq ?_)
      rw [decide_eq_false]
      intro he; injection he with h1 _; exact h h1
theorem ints_ok (a b : List Int) (hb : a.length ≤ big) : Ev (fun k => lockstepref02_Ints.f k a b) (decide (a = b)) := by
  unfold lockstepref02_Ints.f
  by_cases h : a.length = b.length
  · refine Ev.ifp (by omega) ?_
    simpa using ints_l0 a.length 0 a b h hb (by omega) (by omega)
  · refine Ev.ifn (by omega) (Ev.pure.of_eq ?_)
    rw [decide_eq_false]
    intro he; exact h (by rw [he])
theorem has_l0 (x : Int) (d : Nat) : ∀ (i : Nat) (a : List Int), a.length ≤ big → i ≤ a.length → a.length - i = d → Ev (fun k => lockstepref06_Has.l0 k a x (i : Int)) (decide (x ∈ a.drop i)) := by
  induction d with
  | zero =>
    intro i a hb hi hd
    refine Ev.succ ?_; simp only [lockstepref06_Has.l0]
    refine Ev.ifn (by omega) ?_
    rw [List.drop_of_length_le (by omega)]
    exact Ev.pure.of_eq (by simp)
  | succ d ih =>
    intro i a hb hi hd
    have hbb : big = 9223372036854775807 := rfl
    refine Ev.succ ?_; simp only [lockstepref06_Has.l0]
    refine Ev.ifp (by omega) (Ev.ifp (by omega) ?_)
    rw [show rd a (i : Int) = a.getD i 0 by simp [rd]]
    rw [drop_getD a i 0 (by omega)]
    by_cases h : a.getD i 0 = x
    · exact Ev.ifp h (Ev.pure.of_eq (by rw [h]; simp))
    · refine Ev.ifn h ?_
      rw [wrap_nat (by omega)]
      refine (ih (i + 1) a hb (by omega) (by omega)).of_eq ?_
      by_cases hm : x ∈ a.drop (i + 1)
      · rw [decide_eq_true hm, decide_eq_true (List.mem_cons_of_mem _ hm)]
      · rw [decide_eq_false hm, decide_eq_false (fun hc => by
          rcases List.mem_cons.mp hc with e | e
          · exact h e.symm
          · exact hm e)]
theorem has_ok (a : List Int) (x : Int) (hb : a.length ≤ big) : Ev (fun k => lockstepref06_Has.f k a x) (decide (x ∈ a)) := by
  unfold lockstepref06_Has.f
  simpa using has_l0 x a.length 0 a hb (by omega) (by omega)
theorem has_up (l : List Nat) (x : Nat) (hb : l.length ≤ big) : Ev (fun k => lockstepref06_Has.f k (up l) (x : Int)) (decide (x ∈ l)) := by
  refine (has_ok (up l) x (by rw [up_length]; exact hb)).of_eq ?_
  have e : (x : Int) ∈ up l ↔ x ∈ l := by
    simp only [up, List.mem_map]
    constructor
    · rintro ⟨y, hy, e⟩; rw [show x = y by omega]; exact hy
    · intro h; exact ⟨x, h, rfl⟩
  by_cases h : x ∈ l
  · rw [decide_eq_true h, decide_eq_true (e.mpr h)]
  · rw [decide_eq_false h, decide_eq_false (fun hc => h (e.mp hc))]

theorem same_l1 (b a : List (List Int)) (d : List (List Int)) (c : List (List Int)) (hl : a.length = b.length) (hb : a.length ≤ big) (hr : ∀ l ∈ a, l.length ≤ big) (m : Nat) : ∀ i, i ≤ a.length → a.length - i = m →
    Ev (fun k => lockstepref06_Same.l1 k (i : Int) c a d b) (decide (a.drop i = b.drop i)) := by
  have hbb : big = 9223372036854775807 := rfl
  induction m with
  | zero =>
    intro i hi hd
    refine Ev.succ ?_; simp only [lockstepref06_Same.l1]
    refine Ev.ifn (by omega) ?_
    rw [List.drop_of_length_le (by omega), List.drop_of_length_le (by omega)]
    exact Ev.pure.of_eq (by simp)
  | succ m ih =>
    intro i hi hd
    refine Ev.succ ?_; simp only [lockstepref06_Same.l1]
    refine Ev.ifp (by omega) (Ev.ifp (by omega) (Ev.ifp (by omega) ?_))
    rw [show rd_L1 a (i : Int) = a.getD i [] by simp [rd_L1], show rd_L1 b (i : Int) = b.getD i [] by simp [rd_L1]]
    refine Ev.bind (ints_ok _ _ (hr _ (getD_mem (by omega)))) ?_
    rw [drop_getD a i [] (by omega), drop_getD b i [] (by omega)]
    by_cases h : a.getD i [] = b.getD i []
    · refine Ev.ifp (by rw [decide_eq_true h]) ?_
      rw [wrap_nat (by omega)]
      exact (ih (i + 1) (by omega) (by omega)).of_eq (by rw [h]; simp)
    · refine Ev.ifn (by rw [decide_eq_false h]; decide) (Ev.pure.of_eq ?_)
      rw [decide_eq_false]
      intro he; injection he with h1 _; exact h h1
theorem same_l0 (a b c d : List (List Int)) (hl : a.length = c.length) (hb : a.length ≤ big) (hr : ∀ l ∈ a, l.length ≤ big) (hl' : b.length = d.length) (hb' : b.length ≤ big) (hr' : ∀ l ∈ b, l.length ≤ big) (m : Nat) : ∀ i, i ≤ a.length → a.length - i = m →
    Ev (fun k => lockstepref06_Same.l0 k (i : Int) a b c d) (decide (a.drop i = c.drop i ∧ b = d)) := by
  have hbb : big = 9223372036854775807 := rfl
  induction m with
  | zero =>
    intro i hi hd
    refine Ev.succ ?_; simp only [lockstepref06_Same.l0]
    refine Ev.ifn (by omega) ?_
    rw [List.drop_of_length_le (by omega), List.drop_of_length_le (by omega)]
    have := same_l1 d b c a hl' hb' hr' b.length 0 (by omega) (by omega)
    exact this.of_eq (by simp)
  | succ m ih =>
    intro i hi hd
    refine Ev.succ ?_; simp only [lockstepref06_Same.l0]
    refine Ev.ifp (by omega) (Ev.ifp (by omega) (Ev.ifp (by omega) ?_))
    rw [show rd_L1 a (i : Int) = a.getD i [] by simp [rd_L1], show rd_L1 c (i : Int) = c.getD i [] by simp [rd_L1]]
    refine Ev.bind (ints_ok _ _ (hr _ (getD_mem (by omega)))) ?_
    rw [drop_getD a i [] (by omega), drop_getD c i [] (by omega)]
    by_cases h : a.getD i [] = c.getD i []
    · refine Ev.ifp (by rw [decide_eq_true h]) ?_
      rw [wrap_nat (by omega)]
      exact (ih (i + 1) (by omega) (by omega)).of_eq (by rw [h]; simp)
    · refine Ev.ifn (by rw [decide_eq_false h]; decide) (Ev.pure.of_eq ?_)
      rw [decide_eq_false]
      rintro ⟨he, _⟩; injection he with h1 _; exact h h1
theorem same_ok (a b c d : List (List Int)) (hb : a.length ≤ big) (hr : ∀ l ∈ a, l.length ≤ big) (hb' : b.length ≤ big) (hr' : ∀ l ∈ b, l.length ≤ big) : Ev (fun k => lockstepref06_Same.f k a b c d) (decide (a = c ∧ b = d)) := by
  have hbb : big = 9223372036854775807 := rfl
  unfold lockstepref06_Same.f
  have hj : ¬ (a = c ∧ b = d) → Ev (fun k => lockstepref06_Same.j0 k true a b c d) (decide (a = c ∧ b = d)) := by
    intro h
    refine Ev.succ ?_; simp only [lockstepref06_Same.j0]
    exact Ev.ifp trivial (Ev.pure.of_eq (by rw [decide_eq_false h]))
  by_cases h : a.length = c.length
  · refine Ev.ifp (by omega) ?_
    by_cases h' : b.length = d.length
    · rw [show ((b.length : Int) != (d.length : Int)) = false by rw [h']; simp]
      refine Ev.succ ?_; simp only [lockstepref06_Same.j0]
      refine Ev.ifn (by decide) ?_
      have := same_l0 a b c d h hb hr h' hb' hr' a.length 0 (by omega) (by omega)
      exact this.of_eq (by simp)
    · rw [show ((b.length : Int) != (d.length : Int)) = true by simp; omega]
      exact hj (fun hc => h' (by rw [hc.2]))
  · exact Ev.ifn (by omega) (hj (fun hc => h (by rw [hc.1])))

theorem small_yes_l0 (s : List (List Int)) (hs : s.length ≤ 101) (hr : ∀ l ∈ s, l.length ≤ 100) (d : Nat) : ∀ i, i ≤ s.length → s.length - i = d → Ev (fun k => lockstepref06_Small.l0 k s (i : Int)) true := by
  induction d with
  | zero =>
    intro i hi hd
    refine Ev.succ ?_; simp only [lockstepref06_Small.l0]
    exact Ev.ifn (by omega) Ev.pure
  | succ d ih =>
    intro i hi hd
    have hrd : rd_L1 s (i : Int) = s.getD i [] := by simp [rd_L1]
    have := hr _ (getD_mem (l := s) (i := i) (d := []) (by omega))
    refine Ev.succ ?_; simp only [lockstepref06_Small.l0]
    refine Ev.ifp (by omega) (Ev.ifp (by omega) (Ev.ifn (by rw [hrd]; omega) (Ev.ifn (by omega) ?_)))
    rw [wrap_nat (by omega)]; exact ih (i + 1) (by omega) (by omega)
theorem small_yes (s : List (List Int)) (hs : s.length ≤ 101) (hr : ∀ l ∈ s, l.length ≤ 100) : Ev (fun k => lockstepref06_Small.f k s) true := by
  unfold lockstepref06_Small.f
  exact small_yes_l0 s hs hr s.length 0 (by omega) (by omega)
theorem small_gr {S : List (List Nat)} (h : Gr S) : Ev (fun k => lockstepref06_Small.f k (up2 S)) true := by
  have hle := h.le
  refine small_yes _ (by rw [up2_length]; omega) (fun l hl => ?_)
  obtain ⟨m, hm, rfl⟩ := List.mem_map.mp hl
  obtain ⟨i, hi, rfl⟩ := List.getElem_of_mem hm
  have := gr_len h hi
  rw [List.getD_eq_getElem?_getD, List.getElem?_eq_getElem hi, Option.getD_some] at this
  rw [up_length]; omega

/-- Blocks that go on one at the next, the last one at some. -/
def ring (k h : Nat) : List (List Nat) := (List.range k).map fun i => if i + 1 < k then [i + 1] else [h]
@[simp] theorem ring_length (k h : Nat) : (ring k h).length = k := by simp [ring]
theorem ring_getD {k h i : Nat} (hi : i < k) : (ring k h).getD i [] = if i + 1 < k then [i + 1] else [h] := getD_map_range _ _ _ _ hi
theorem ring_mem {k h a y : Nat} (hy : y ∈ (ring k h).getD a []) : a < k ∧ ((a + 1 < k ∧ y = a + 1) ∨ (a + 1 = k ∧ y = h)) := by
  have ha := getD_lt hy
  rw [ring_length] at ha
  rw [ring_getD ha] at hy
  refine ⟨ha, ?_⟩
  split at hy
  · next h1 => exact .inl ⟨h1, List.mem_singleton.mp hy⟩
  · next h1 => exact .inr ⟨by omega, List.mem_singleton.mp hy⟩
theorem set_map_range2 {α : Type} (n : Nat) (f g : Nat → α) (i : Nat) (v : α) (hv : g i = v) (he : ∀ j, j < n → j ≠ i → g j = f j) : ((List.range n).map f).set i v = (List.range n).map g := by
  apply List.ext_getElem
  · simp
  · intro j h1 h2
    have hj : j < n := by simpa using h2
    simp only [List.getElem_set, List.getElem_map, List.getElem_range]
    split
    · next e => rw [← e, hv]
    · next e => rw [he j hj (fun h => e h.symm)]
section
variable {k h : Nat}
theorem ring_gr (hh : h < k) (hk : k ≤ 64) : Gr (ring k h) := by
  refine ⟨by rw [ring_length]; omega, by rw [ring_length]; exact hk, fun i hi => ?_⟩
  rw [ring_length] at hi ⊢
  rw [ring_getD hi]
  split
  · next hc => exact ⟨by simp, fun y hy => by rw [List.mem_singleton] at hy; omega⟩
  · exact ⟨by simp, fun y hy => by rw [List.mem_singleton] at hy; omega⟩
theorem ring_of {w : Int} {b : Nat} (d : Nat) : ∀ c, c = b + d → c < k → (∀ a : Nat, b ≤ a → a ≤ c → (a : Int) ≠ w) → Rch (ring k h) w b c := by
  induction d with
  | zero => intro c e hc h; obtain rfl : c = b := by omega
            exact .base (h c (Nat.le_refl _) (Nat.le_refl _))
  | succ d ih =>
    intro c e hc hw
    refine .step (ih (b + d) rfl (by omega) (fun a h1 h2 => hw a h1 (by omega))) ?_ (hw c (by omega) (Nat.le_refl _))
    rw [ring_getD (by omega), if_pos (by omega)]
    exact List.mem_singleton.mpr (by omega)
theorem ring_none {w : Int} {b : Nat} (hh : h < k) (hR : Rch (ring k h) w 0 b) : ∀ a : Nat, a ≤ b → (a : Int) ≠ w := by
  induction hR with
  | base h => intro a h1; rw [show a = 0 by omega]; exact h
  | @step c y _ hy hw ih =>
    intro a ha
    obtain ⟨h1, ⟨h2, rfl⟩ | ⟨h2, rfl⟩⟩ := ring_mem hy
    · by_cases e : a = c + 1
      · rw [e]; exact hw
      · exact ih a (by omega)
    · exact ih a (by omega)
theorem ring_rch {b : Nat} (hb : b < k) : Rch (ring k h) (-1) 0 b := ring_of b b (by omega) hb (fun a _ _ => by omega)
theorem ring_dm (hh : h < k) {a b : Nat} (hb : b < k) : Dm (ring k h) 0 a b ↔ a ≤ b := by
  constructor
  · rintro ⟨_, h2⟩
    refine Classical.byContradiction (fun hn => h2 ?_)
    exact ring_of b b (by omega) hb (fun c _ h1 => by omega)
  · intro h1
    exact ⟨ring_rch hb, fun hc => ring_none hh hc a h1 rfl⟩
theorem ring_bck (hh : h < k) {a b : Nat} : Bck (ring k h) a b ↔ a + 1 = k ∧ b = h := by
  constructor
  · rintro ⟨h1, h2⟩
    obtain ⟨h3, ⟨h4, rfl⟩ | h4⟩ := ring_mem h1
    · have := (ring_dm hh h3).mp h2; omega
    · exact h4
  · rintro ⟨h1, rfl⟩
    refine ⟨?_, (ring_dm hh (by omega)).mpr (by omega)⟩
    rw [ring_getD (by omega), if_neg (by omega)]
    exact List.mem_singleton.mpr rfl
theorem ring_lats (hh : h < k) (x : Nat) : decide (0 < (lats (ring k h) x).length) = decide (x = h) := by
  refine decide_eq_decide.mpr ⟨fun h1 => ?_, fun h1 => ?_⟩
  · obtain ⟨a, ha⟩ := List.exists_mem_of_length_pos h1
    exact ((ring_bck hh).mp (mem_lats.mp ha)).2
  · exact List.length_pos_of_mem (a := k - 1) (mem_lats.mpr ((ring_bck hh).mpr ⟨by omega, h1⟩))
theorem ring_lps (hh : h < k) : lps (ring k h) = [lp1 (ring k h) h] := by
  have e : hds (ring k h) (ring k h).length = [h] := by
    unfold hds
    rw [ring_length, List.filter_congr (fun x _ => ring_lats hh x)]
    have := nodup_pick (l := List.range k) List.nodup_range (fun _ => true) h
    rw [List.filter_eq_self.mpr (fun _ _ => rfl), if_pos ⟨List.mem_range.mpr hh, rfl⟩] at this
    exact this
  unfold lps
  rw [e]; rfl
theorem ring_lp (hh : h < k) {x : Nat} (hx : x < k) : Lp (ring k h) h x ↔ h ≤ x := by
  constructor
  · intro h1; exact (ring_dm hh hx).mp (lp_dm (ring_rch hh) h1)
  · intro h1
    by_cases e : x = h
    · exact .inl e
    · exact .inr ⟨ring_rch hx, k - 1, (ring_bck hh).mpr ⟨by omega, rfl⟩, ring_of (k - 1 - x) _ (by omega) (by omega) (fun a h2 _ => by omega)⟩
theorem ring_body (hh : h < k) : (lp1 (ring k h) h).f1 = up ((List.range k).filter fun x => decide (h ≤ x)) := by
  show up ((List.range (ring k h).length).filter (lpb (ring k h) h)) = _
  rw [ring_length]
  congr 1
  refine List.filter_congr (fun x hx => ?_)
  have hx := List.mem_range.mp hx
  cases e : lpb (ring k h) h x with
  | true => exact (decide_eq_true ((ring_lp hh hx).mp (lpb_true.mp e))).symm
  | false => exact (decide_eq_false (fun hc => by rw [lpb_true.mpr ((ring_lp hh hx).mpr hc)] at e; cases e)).symm
theorem ge_len (h : Nat) : ∀ k, ((List.range k).filter fun x => decide (h ≤ x)).length = k - h
  | 0 => by simp
  | k + 1 => by
    rw [List.range_succ, List.filter_append, List.length_append, ge_len h k]
    by_cases e : h ≤ k
    · rw [List.filter_cons_of_pos (by simpa using e)]; simp; omega
    · rw [List.filter_cons_of_neg (by simpa using e)]; simp; omega
theorem ring_in (hh : h < k) {x : Nat} (hx : x < k) : (x : Int) ∈ (lp1 (ring k h) h).f1 ↔ h ≤ x := by
  rw [ring_body hh]
  simp only [up, List.mem_map, List.mem_filter, List.mem_range, decide_eq_true_eq]
  constructor
  · rintro ⟨y, hy, e⟩; rw [show x = y by omega]; exact hy.2
  · intro h1; exact ⟨x, ⟨hx, h1⟩, rfl⟩
theorem ring_ac (hh : h < k) : ¬ Ac (ring k h) 0 := by
  intro ha
  have hb : Bck (ring k h) (k - 1) h := (ring_bck hh).mpr ⟨by omega, rfl⟩
  exact ha (k - 1) (ring_rch (by omega)) h hb.1 (ring_of (k - 1 - h) _ (by omega) (by omega) (fun a _ _ => by omega))
theorem ring_nb (hh : h < k) : Ac (nb (ring k h)) 0 := by
  have step : ∀ a y, y ∈ (nb (ring k h)).getD a [] → a < y := by
    intro a y hy
    obtain ⟨h1, h2⟩ := nb_mem.mp hy
    obtain ⟨h3, ⟨_, rfl⟩ | ⟨h4, rfl⟩⟩ := ring_mem h1
    · omega
    · exact absurd ((ring_dm hh h3).mpr (by omega)) h2
  intro a _ y hy hc
  have h1 := step a y hy
  have h2 : ∀ b, Rch (nb (ring k h)) (-1) y b → y ≤ b := by
    intro b hb
    induction hb with
    | base _ => omega
    | step _ hz _ ih => have := step _ _ hz; omega
  have := h2 a hc; omega
theorem ring_l1 (hh : h < k) (hk : k ≤ 60) (d : Nat) : ∀ i, i ≤ k → k - i = d → Ev (fun q => locksteplaw10_LoopRing.l1 q (k : Int) (h : Int) [lp1 (ring k h) h] (i : Int) (up2 (ring k h)) (up2 (pr (ring k h)))) true := by
  have hG := ring_gr hh (by omega : k ≤ 64)
  have hbb : big = 9223372036854775807 := rfl
  induction d with
  | zero =>
    intro i hi hd
    have hr := red_ok hG
    have hf := forward_ok hG
    rw [acb_true.mpr (ring_nb hh)] at hr
    rw [acb_false.mpr (ring_ac hh)] at hf
    refine Ev.succ ?_; simp only [locksteplaw10_LoopRing.l1]
    exact Ev.ifn (by omega) (Ev.bind hr (Ev.ifp rfl (Ev.bind hf Ev.pure)))
  | succ d ih =>
    intro i hi hd
    have hil : i < k := by omega
    have hn := ih (i + 1) (by omega) (by omega)
    have hin := ring_in hh hil
    have hdp := ldepth_ok hG (i : Int)
    rw [ring_lps hh] at hdp
    have hlb : (lp1 (ring k h) h).f1.length ≤ big := by have := lp1_len (S := ring k h) h; rw [ring_length] at this; omega
    have hrd : rd_T43 [lp1 (ring k h) h] 0 = lp1 (ring k h) h := rfl
    have hj : ∀ v : Int, v = (lpdep [lp1 (ring k h) h] (i : Int) : Int) → Ev (fun q => locksteplaw10_LoopRing.j3 q (k : Int) (h : Int) [lp1 (ring k h) h] (i : Int) v (up2 (ring k h)) (up2 (pr (ring k h)))) true := by
      intro v hv
      refine Ev.succ ?_; simp only [locksteplaw10_LoopRing.j3]
      rw [hrd, wrap_nat (by omega)]
      refine Ev.bind hdp (Ev.ifp hv.symm (Ev.ifp (by simp) (Ev.bind (has_ok _ _ hlb) (Ev.ifn ?_ hn))))
      rw [show decide ((i : Int) ∈ (lp1 (ring k h) h).f1) = decide ((i : Int) ≥ (h : Int)) from decide_eq_decide.mpr (hin.trans (by omega))]
      simp
    refine Ev.succ ?_; simp only [locksteplaw10_LoopRing.l1]
    refine Ev.ifp (by omega) ?_
    by_cases e : h ≤ i
    · refine Ev.ifp (by omega) (hj 1 ?_)
      unfold lpdep
      rw [List.filter_cons_of_pos (by simpa using hin.mpr e)]; rfl
    · refine Ev.ifn (by omega) (hj 0 ?_)
      unfold lpdep
      rw [List.filter_cons_of_neg (by simpa using fun hc => e (hin.mp hc))]; rfl
/-- The first i blocks told. -/
def rgI (K i : Nat) : List (List Int) := (List.range K).map fun j => if j < i then [((j + 1 : Nat) : Int)] else []
theorem ring_l0 (hh : h < k) (hk : k ≤ 60) (d : Nat) : ∀ i, i < k → k - 1 - i = d → Ev (fun q => locksteplaw10_LoopRing.l0 q (k : Int) (h : Int) (rgI k i) (i : Int)) true := by
  have hG := ring_gr hh (by omega : k ≤ 64)
  induction d with
  | zero =>
    intro i hi hd
    refine Ev.succ ?_; simp only [locksteplaw10_LoopRing.l0]
    have ew : wrap64 ((k : Int) - 1) = ((k - 1 : Nat) : Int) := by rw [wrap_id (by omega) (by omega)]; omega
    have ew2 : wrap64 ((k : Int) - (h : Int)) = ((k - h : Nat) : Int) := by rw [wrap_id (by omega) (by omega)]; omega
    rw [ew, ew2, wrap_nat (by omega)]
    have e : (rgI k i).set ((k - 1 : Nat) : Int).toNat [(h : Int)] = up2 (ring k h) := by
      unfold rgI ring up2
      rw [List.map_map, Int.toNat_natCast]
      apply set_map_range2
      · show up (if k - 1 + 1 < k then [k - 1 + 1] else [h]) = [(h : Int)]
        rw [if_neg (by omega)]; rfl
      · intro j hjk hj
        show up (if j + 1 < k then [j + 1] else [h]) = (if j < i then [((j + 1 : Nat) : Int)] else [])
        rw [if_pos (by omega), if_pos (by omega)]; rfl
    rw [e]
    have hall := all_ok hG
    rw [ring_lps hh] at hall
    have hrd : rd_T43 [lp1 (ring k h) h] 0 = lp1 (ring k h) h := rfl
    have hlen : ((lp1 (ring k h) h).f1.length : Int) = ((k - h : Nat) : Int) := by rw [ring_body hh, up_length, ge_len]
    refine Ev.ifn (by omega) (Ev.ifp (by omega) (Ev.ifp (by simp [rgI]; omega) ?_))
    simp only [Option.bind_some]
    refine Ev.bind (make_ok hG) (Ev.bind hall (Ev.ifp rfl (Ev.ifp (by rfl) (Ev.ifp (by simp) (Ev.ifp rfl (Ev.ifp hlen (Ev.bind (small_gr hG) ?_)))))))
    refine Ev.succ ?_; simp only [locksteplaw10_LoopRing.j1]
    exact Ev.ifn (by decide) (ring_l1 hh hk _ 0 (Nat.zero_le _) rfl)
  | succ d ih =>
    intro i hi hd
    refine Ev.succ ?_; simp only [locksteplaw10_LoopRing.l0]
    rw [wrap_nat (by omega)]
    refine Ev.ifp (by omega) (Ev.ifp (by omega) (Ev.ifp (by simp [rgI]; omega) ?_))
    have e : (rgI k i).set (i : Int).toNat [((i + 1 : Nat) : Int)] = rgI k (i + 1) := by
      unfold rgI
      rw [Int.toNat_natCast]
      apply set_map_range
      · simp
      · intro j hj
        by_cases h : j < i
        · rw [if_pos h, if_pos (by omega)]
        · rw [if_neg h, if_neg (by omega)]
    rw [e]
    exact ih (i + 1) (by omega) (by omega)
end
theorem loopRing : locksteplaw10_LoopRing.Pure := by
  intro a0 a1 h0 h1
  apply Ev.at
  obtain ⟨n, rfl⟩ : ∃ n : Nat, a0 = (n : Int) := ⟨a0.toNat, by simp [Lit.wf, IntKind.min, IntKind.max, IntKind.signed, IntKind.bits] at h0; omega⟩
  have hn : n < 256 := by simp [Lit.wf, IntKind.min, IntKind.max, IntKind.signed, IntKind.bits] at h0; omega
  have e : wrap64 (1 + Int.tmod (wrap64 (n : Int)) 60) = ((1 + n % 60 : Nat) : Int) := by
    rw [show wrap64 (n : Int) = (n : Int) from wrap_id (by omega) (by omega), show (60 : Int) = ((60 : Nat) : Int) from rfl, ← Int.ofNat_tmod, wrap_id (by omega) (by omega)]; omega
  unfold locksteplaw10_LoopRing.f
  refine Ev.bind awake_ev (Ev.ifp rfl ?_)
  rw [e]
  have hK : 1 + n % 60 ≤ 60 := by omega
  have hK0 : 0 < 1 + n % 60 := by omega
  generalize 1 + n % 60 = K at hK hK0
  obtain ⟨e1, e2⟩ := root_mod h1 hK0
  rw [e1]
  generalize a1.toNat % K = t at e2
  refine Ev.ifn (by omega) (Ev.ifp (by omega) (Ev.ifp (by omega) ?_))
  have h := ring_l0 e2 hK (K - 1) 0 hK0 (by omega)
  have e0 : rgI K 0 = List.replicate K [] := by
    unfold rgI; simp only [Nat.not_lt_zero, if_false]; apply List.ext_getElem <;> simp
  rw [e0] at h
  rw [Int.toNat_natCast]
  exact h
end Go.Proofs.Ytoekeknfeinphaa.GP
namespace Go.Proofs.Ytoekeknfeinphaa.Pure
theorem LoopRing : Go.Proofs.Ytoekeknfeinphaa.G.locksteplaw10_LoopRing.Pure := GP.loopRing
end Go.Proofs.Ytoekeknfeinphaa.Pure
namespace Go.Proofs.Ytoekeknfeinphaa.loopRing
open Go.Proofs.YtoekeknfeinphaaH Go.Proofs.Ytoekeknfeinphaa.G
open Go.ChangeShapes Go.WideShapes Go.ChangeAt Go.RowKit
open Go.ChangeMaps (open_string shut_string)
set_option linter.unusedVariables false
theorem own : ownKnob Try.prog.godebug = none := by kernel_rfl
set_option maxRecDepth 100000 in
theorem lifted (os : Os) (started : os.Started) (H : Type) (enc : TypeId × Value → H) :
    ReturnsInHanded {} Try.checked os 8 .any (Rows.loopRingSpec.pre6 enc Try.prog Try.f8 Rows.loopRingRow.domain false) (Rows.loopRingSpec.post enc Try.prog Try.f8 false true false false) := by
  refine returnsInHanded_of_change_sized (C := Try.checked) own started (by kernel_rfl) Try.func8
    (ChangeSpec.witness6 (enc := enc) (C := Try.checked) false ⟨#[], #[.int .u8 0, .int .u8 0], []⟩ 8 (by kernel_rfl) (by kernel_rfl) (by kernel_rfl) (by kernel_rfl)) ?_
  intro W base args ds gs before hval0 hW hcnd hsz0 _
  have hsz : (DataW.weightsEach Try.prog (Try.f8.params.toList ++ Rows.loopRingSpec.plain.varTypes Try.prog) (ds ++ gs)).all (· ≤ reachBytes) = true := hsz0
  have hval : ∀ (j : Nat) t v, Try.f8.params[j]? = some t → args[j]? = some v → Value.okWide Try.prog W .any base t v := hval0
  have hW' := hW
  obtain ⟨p, q, hA0, hV, rfl, hfz, hnd⟩ := hW
  have hA : DataW.TrodAll enc Try.prog W 0 (fun _ => true) true Try.f8.params.toList args.toList ds p := hA0
  rw [Try.params8] at hA hval hsz
  obtain ⟨v0, vs0, d0, ds0, p0, q0, hargs, rfl, rfl, h0, r0⟩ := trodAll_cons hA
  obtain ⟨v1, vs1, d1, ds1, p1, q1, rfl, rfl, rfl, h1, r1⟩ := trodAll_cons r0
  obtain ⟨rfl, rfl, rfl⟩ := trodAll_nil r1
  obtain rfl : args = #[v0, v1] := by cases args; simp_all
  obtain ⟨rfl, rfl⟩ := trodVars_none hV
  obtain ⟨a0, rfl, rfl, rfl, w0⟩ := open_int Try.underlying5 (hval 0 5 v0 rfl rfl) h0
  obtain ⟨a1, rfl, rfl, rfl, w1⟩ := open_int Try.underlying5 (hval 1 5 v1 rfl rfl) h1
  clear hA0 hval0 hsz0 hsz
  refine (G.locksteplaw10_LoopRing.walk Pure.LoopRing a0 a1 W w0 w1).mono fun e W' ⟨he, bel⟩ => ?_
  subst he
  exact ⟨_, rfl, _, _, _, [], _, [], hW', trodAll_mk1 (shut_bool Try.underlying4 _), (trodAll_cons_mk (shut_int Try.underlying5 w0) (trodAll_cons_mk (shut_int Try.underlying5 w1) trodAll_mk0)), rfl, bel.frame _, fun h => by cases h⟩
theorem over : Rows.loopRingRow.holds Try.pinned (OpenSpec.ofChange Rows.loopRingSpec) :=
  OpenClaim.holds_of_wide 8 Try.f8 rfl rfl rfl rfl rfl rfl rfl ⟨rfl, rfl, rfl, rfl, rfl⟩ rfl rfl rfl rfl rfl (by kernel_rfl) Try.func8 (by kernel_rfl)
    (of_decide_eq_true (by kernel_rfl)) (by unfold Func.isWrapper; first | (rw [if_pos (by decide +kernel)]; kernel_rfl) | (rw [if_neg (by decide +kernel)]; exact ⟨rfl, rfl⟩))
    (fun os started H enc _ => lifted os started H enc)
theorem proved : Rows.LoopRingSaid := over
#print axioms proved
end Go.Proofs.Ytoekeknfeinphaa.loopRing
namespace Go.Proofs.Ytoekeknfeinphaa
/-- The row, under a short name, for the claim. -/
theorem loopRing_holds : Rows.LoopRingSaid := loopRing.proved
end Go.Proofs.Ytoekeknfeinphaa
