/- Texts of this session, joined by wip/tools/merge.py. Conditions: each theorem's own. -/
import Derived.Test.YthahaajmgnoebaaGx0
import Derived.Test.YthahaajmgnoebaaGx5
import Derived.Test.YthahaajmgnoebaaMDomTreesc
import Derived.Test.YthahaajmgnoebaaGx4
import Derived.Test.YthahaajmgnoebaaGx14
import Derived.Test.YthahaajmgnoebaaGx22
namespace Go.Proofs.Ythahaajmgnoebaa.G
open Go.Proofs.YthahaajmgnoebaaH
open Go.RowKit Go.Proofs.YthahaajmgnoebaaW.PrintWords Go.Proofs.YthahaajmgnoebaaW.PrintLast Go.Proofs.YthahaajmgnoebaaW.PrintMore
attribute [local go_sem] max2_int min2_int max_two min_two max_three min_three max_four min_four   -- for this text's walks alone
set_option linter.unusedVariables false
set_option linter.unusedSimpArgs false

/-! ### lockstepref06_Same: function 41 -/
mutual
def lockstepref06_Same.j0 : Nat → Bool → List (List Int) → List (List Int) → List (List Int) → List (List Int) → Option (Bool)
 | 0, _, _, _, _, _ => none
 | k + 1, x22, x341000, x341001, x342000, x342001 => if x22 = true then (some false) else (lockstepref06_Same.l0 k 0 x341000 x341001 x342000 x342001)
def lockstepref06_Same.l0 : Nat → Int → List (List Int) → List (List Int) → List (List Int) → List (List Int) → Option (Bool)
 | 0, _, _, _, _, _ => none
 | k + 1, x5, x341000, x341001, x342000, x342001 => if x5 < (x341000.length : Int) then (if 0 ≤ x5 then (if x5 < (x342000.length : Int) then ((lockstepref02_Ints.f k (rd_L1 x341000 x5) (rd_L1 x342000 x5)).bind fun t344 => (if t344 = true then (lockstepref06_Same.l0 k (wrap64 (x5 + 1)) x341000 x341001 x342000 x342001) else (some false))) else (none)) else (none)) else (lockstepref06_Same.l1 k 0 x341000 x341001 x342000 x342001)
def lockstepref06_Same.l1 : Nat → Int → List (List Int) → List (List Int) → List (List Int) → List (List Int) → Option (Bool)
 | 0, _, _, _, _, _ => none
 | k + 1, x6, x341000, x341001, x342000, x342001 => if x6 < (x341001.length : Int) then (if 0 ≤ x6 then (if x6 < (x342001.length : Int) then ((lockstepref02_Ints.f k (rd_L1 x341001 x6) (rd_L1 x342001 x6)).bind fun t347 => (if t347 = true then (lockstepref06_Same.l1 k (wrap64 (x6 + 1)) x341000 x341001 x342000 x342001) else (some false))) else (none)) else (none)) else (some true)
end
def lockstepref06_Same.f (k : Nat) (l0_0 : List (List Int)) (l0_1 : List (List Int)) (l1_0 : List (List Int)) (l1_1 : List (List Int)) : Option (Bool) := if (l0_0.length : Int) = (l1_0.length : Int) then (lockstepref06_Same.j0 k ((l0_1.length : Int) != (l1_1.length : Int)) l0_0 l0_1 l1_0 l1_1) else (lockstepref06_Same.j0 k true l0_0 l0_1 l1_0 l1_1)
theorem lockstepref06_Same.mono_l : ∀ k, (∀ y0 y1 y2 y3 y4, LeO (lockstepref06_Same.j0 k y0 y1 y2 y3 y4) (lockstepref06_Same.j0 (k + 1) y0 y1 y2 y3 y4)) ∧ (∀ y0 y1 y2 y3 y4, LeO (lockstepref06_Same.l0 k y0 y1 y2 y3 y4) (lockstepref06_Same.l0 (k + 1) y0 y1 y2 y3 y4)) ∧ (∀ y0 y1 y2 y3 y4, LeO (lockstepref06_Same.l1 k y0 y1 y2 y3 y4) (lockstepref06_Same.l1 (k + 1) y0 y1 y2 y3 y4))
 | 0 => ⟨fun _ _ _ _ _ r h => by simp [lockstepref06_Same.j0] at h, fun _ _ _ _ _ r h => by simp [lockstepref06_Same.l0] at h, fun _ _ _ _ _ r h => by simp [lockstepref06_Same.l1] at h⟩
 | k + 1 => by
  obtain ⟨ih0, ih1, ih2⟩ := lockstepref06_Same.mono_l k
  refine ⟨?_, ?_, ?_⟩
  ·intro y0 y1 y2 y3 y4
   unfold lockstepref06_Same.j0
   repeat' first
   | (with_reducible exact ih0 _ _ _ _ _)
   | (with_reducible exact ih1 _ _ _ _ _)
   | (with_reducible exact ih2 _ _ _ _ _)
   | (with_reducible exact lockstepref02_Ints.mono _ _ _)
   | (with_reducible exact LeO.refl _)
   | (with_reducible exact LeO.none _)
   | (with_reducible refine LeO.ite ?_ ?_)
   | (with_reducible refine LeO.bind ?_ (fun _ => ?_))
   | exact ih0 _ _ _ _ _
   | exact ih1 _ _ _ _ _
   | exact ih2 _ _ _ _ _
   | exact lockstepref02_Ints.mono _ _ _
   | exact LeO.none _
   | refine LeO.ite ?_ ?_
   | refine LeO.bind ?_ (fun _ => ?_)
  ·intro y0 y1 y2 y3 y4
   unfold lockstepref06_Same.l0
   repeat' first
   | (with_reducible exact ih0 _ _ _ _ _)
   | (with_reducible exact ih1 _ _ _ _ _)
   | (with_reducible exact ih2 _ _ _ _ _)
   | (with_reducible exact lockstepref02_Ints.mono _ _ _)
   | (with_reducible exact LeO.refl _)
   | (with_reducible exact LeO.none _)
   | (with_reducible refine LeO.ite ?_ ?_)
   | (with_reducible refine LeO.bind ?_ (fun _ => ?_))
   | exact ih0 _ _ _ _ _
   | exact ih1 _ _ _ _ _
   | exact ih2 _ _ _ _ _
   | exact lockstepref02_Ints.mono _ _ _
   | exact LeO.none _
   | refine LeO.ite ?_ ?_
   | refine LeO.bind ?_ (fun _ => ?_)
  ·intro y0 y1 y2 y3 y4
   unfold lockstepref06_Same.l1
   repeat' first
   | (with_reducible exact ih0 _ _ _ _ _)
   | (with_reducible exact ih1 _ _ _ _ _)
   | (with_reducible exact ih2 _ _ _ _ _)
   | (with_reducible exact lockstepref02_Ints.mono _ _ _)
   | (with_reducible exact LeO.refl _)
   | (with_reducible exact LeO.none _)
   | (with_reducible refine LeO.ite ?_ ?_)
   | (with_reducible refine LeO.bind ?_ (fun _ => ?_))
   | exact ih0 _ _ _ _ _
   | exact ih1 _ _ _ _ _
   | exact ih2 _ _ _ _ _
   | exact lockstepref02_Ints.mono _ _ _
   | exact LeO.none _
   | refine LeO.ite ?_ ?_
   | refine LeO.bind ?_ (fun _ => ?_)
theorem lockstepref06_Same.mono : ∀ a0 a1 a2 a3 k, LeO (lockstepref06_Same.f k a0 a1 a2 a3) (lockstepref06_Same.f (k + 1) a0 a1 a2 a3) := by
 intro a0 a1 a2 a3 k
 obtain ⟨ih0, ih1, ih2⟩ := lockstepref06_Same.mono_l k
 unfold lockstepref06_Same.f
 repeat' first
  | (with_reducible exact ih0 _ _ _ _ _)
  | (with_reducible exact ih1 _ _ _ _ _)
  | (with_reducible exact ih2 _ _ _ _ _)
  | (with_reducible exact lockstepref02_Ints.mono _ _ _)
  | (with_reducible exact LeO.refl _)
  | (with_reducible exact LeO.none _)
  | (with_reducible refine LeO.ite ?_ ?_)
  | (with_reducible refine LeO.bind ?_ (fun _ => ?_))
  | exact ih0 _ _ _ _ _
  | exact ih1 _ _ _ _ _
  | exact ih2 _ _ _ _ _
  | exact lockstepref02_Ints.mono _ _ _
  | exact LeO.none _
  | refine LeO.ite ?_ ?_
  | refine LeO.bind ?_ (fun _ => ?_)
set_option maxHeartbeats 8000000 in
set_option maxRecDepth 100000 in
theorem lockstepref06_Same.calls (k : Nat) (A0_0 : Option Addr) (c0_0 : Nat) (l0_0 : List (List Int)) (A0_1 : Option Addr) (c0_1 : Nat) (l0_1 : List (List Int)) (A1_0 : Option Addr) (c1_0 : Nat) (l1_0 : List (List Int)) (A1_1 : Option Addr) (c1_1 : Nat) (l1_1 : List (List Int)) (r : Bool) (w : World) (hr0_0 : Kd.C (Kd.slice 3 (Kd.int .i64)) w A0_0 l0_0.length l0_0) (hc0_0 : l0_0.length ≤ c0_0) (hr0_1 : Kd.C (Kd.slice 3 (Kd.int .i64)) w A0_1 l0_1.length l0_1) (hc0_1 : l0_1.length ≤ c0_1) (hr1_0 : Kd.C (Kd.slice 3 (Kd.int .i64)) w A1_0 l1_0.length l1_0) (hc1_0 : l1_0.length ≤ c1_0) (hr1_1 : Kd.C (Kd.slice 3 (Kd.int .i64)) w A1_1 l1_1.length l1_1) (hc1_1 : l1_1.length ≤ c1_1) (h : lockstepref06_Same.f k l0_0 l0_1 l1_0 l1_1 = some r) :
 Calls Try.prog 41 #[.agg #[.slice A0_0 l0_0.length c0_0, .slice A0_1 l0_1.length c0_1], .agg #[.slice A1_0 l1_0.length c1_0, .slice A1_1 l1_1.length c1_1]] w fun e w' => e = .returned (.bool r) ∧ Below w.heap.size w w' := by
 have hu26 := Try.underlying26
 have HR0_0 := Aside0.mk hr0_0
 have HC0_0 := Aside0.mk hc0_0
 clear hr0_0 hc0_0
 have HR0_1 := Aside0.mk hr0_1
 have HC0_1 := Aside0.mk hc0_1
 clear hr0_1 hc0_1
 have HR1_0 := Aside0.mk hr1_0
 have HC1_0 := Aside0.mk hc1_0
 clear hr1_0 hc1_0
 have HR1_1 := Aside0.mk hr1_1
 have HC1_1 := Aside0.mk hc1_1
 clear hr1_1 hc1_1
 have HB := Aside0.mk (Below.refl w.heap.size w)
 have H : (if (l0_0.length : Int) = (l1_0.length : Int) then (lockstepref06_Same.j0 k ((l0_1.length : Int) != (l1_1.length : Int)) l0_0 l0_1 l1_0 l1_1) else (lockstepref06_Same.j0 k true l0_0 l0_1 l1_0 l1_1)) = some r := h
 clear h
 have HC3 := Aside0.mk H
 clear H
 go_enter Try.func41, Try.ntmps41
 go_upto_region 1 with (first | ((with_reducible refine gate_dst (N := 2) rfl ?_); (try (refine gate_guard (by rfl) ?_; dsimp only)); refine box_event ?hg (N := 2) ?hd (cs := #[.slice A0_0 l0_0.length c0_0, .slice A0_1 l0_1.length c0_1]) (t := 26) ?hr ?_; (case hd => rfl); (case hg => rfl); (case hr => first | (go_simp; done) | (go_simp; rfl)); intro gb340 hg w4 hbox hb; have n0_ := Aside0.mk (below_step (B_) hb); have n1_ := Aside0.mk (hbox); have n2_ := Aside0.mk ((by rw [hg]; exact (below_size (B_)) : w.heap.size ≤ gb340)); have n3_ := Aside0.mk ((by rw [hg]; exact (below_size (B_)) : w.heap.size ≤ gb340)); clear HB; have HB := n0_; have BK340 := n1_; have GW340 := n2_; have GE340 := n3_; clear n0_ n1_ n2_ n3_; clear hb hbox hg) | ((with_reducible refine gate_dst (N := 3) rfl ?_); (try (refine gate_guard (by rfl) ?_; dsimp only)); refine box_event ?hg (N := 3) ?hd (cs := #[.slice A1_0 l1_0.length c1_0, .slice A1_1 l1_1.length c1_1]) (t := 26) ?hr ?_; (case hd => rfl); (case hg => rfl); (case hr => first | (go_simp; done) | (go_simp; rfl)); intro gb341 hg w5 hbox hb; have n0_ := Aside0.mk (blk_below (g := gb340) (o := .cells #[.slice A0_0 l0_0.length c0_0, .slice A0_1 l0_1.length c0_1] 26 (0, 0)) (by exact KX_ BK340.out) hb); have n1_ := Aside0.mk (below_step (B1_) hb); have n2_ := Aside0.mk (hbox); have n3_ := Aside0.mk ((by rw [hg]; exact (below_size (B1_)) : w.heap.size ≤ gb341)); have n4_ := Aside0.mk ((by rw [hg]; exact (below_size (B1_)) : w.heap.size ≤ gb341)); have n5_ := Aside0.mk ((by rw [hg]; exact Nat.ne_of_lt (blk_lt (g := gb340) (o := .cells #[.slice A0_0 l0_0.length c0_0, .slice A0_1 l0_1.length c0_1] 26 (0, 0)) (by exact KX_ BK340.out)) : gb340 ≠ gb341)); have n6_ := Aside0.mk ((by rw [hg]; exact Nat.ne_of_gt (blk_lt (g := gb340) (o := .cells #[.slice A0_0 l0_0.length c0_0, .slice A0_1 l0_1.length c0_1] 26 (0, 0)) (by exact KX_ BK340.out)) : gb341 ≠ gb340)); clear BK340; clear HB; have BK340 := n0_; have HB := n1_; have BK341 := n2_; have GW341 := n3_; have GE341 := n4_; have NB340_341 := n5_; have NB341_340 := n6_; clear n0_ n1_ n2_ n3_ n4_ n5_ n6_; clear hb hbox hg))
 repeat (go_quiet (first | ((with_reducible refine gate_dst (N := 2) rfl ?_); (try (refine gate_guard (by rfl) ?_; dsimp only)); refine box_event ?hg (N := 2) ?hd (cs := #[.slice A0_0 l0_0.length c0_0, .slice A0_1 l0_1.length c0_1]) (t := 26) ?hr ?_; (case hd => rfl); (case hg => rfl); (case hr => first | (go_simp; done) | (go_simp; rfl)); intro gb340 hg w4 hbox hb; have n0_ := Aside0.mk (below_step (B_) hb); have n1_ := Aside0.mk (hbox); have n2_ := Aside0.mk ((by rw [hg]; exact (below_size (B_)) : w.heap.size ≤ gb340)); have n3_ := Aside0.mk ((by rw [hg]; exact (below_size (B_)) : w.heap.size ≤ gb340)); clear HB; have HB := n0_; have BK340 := n1_; have GW340 := n2_; have GE340 := n3_; clear n0_ n1_ n2_ n3_; clear hb hbox hg) | ((with_reducible refine gate_dst (N := 3) rfl ?_); (try (refine gate_guard (by rfl) ?_; dsimp only)); refine box_event ?hg (N := 3) ?hd (cs := #[.slice A1_0 l1_0.length c1_0, .slice A1_1 l1_1.length c1_1]) (t := 26) ?hr ?_; (case hd => rfl); (case hg => rfl); (case hr => first | (go_simp; done) | (go_simp; rfl)); intro gb341 hg w5 hbox hb; have n0_ := Aside0.mk (blk_below (g := gb340) (o := .cells #[.slice A0_0 l0_0.length c0_0, .slice A0_1 l0_1.length c0_1] 26 (0, 0)) (by exact KX_ BK340.out) hb); have n1_ := Aside0.mk (below_step (B1_) hb); have n2_ := Aside0.mk (hbox); have n3_ := Aside0.mk ((by rw [hg]; exact (below_size (B1_)) : w.heap.size ≤ gb341)); have n4_ := Aside0.mk ((by rw [hg]; exact (below_size (B1_)) : w.heap.size ≤ gb341)); have n5_ := Aside0.mk ((by rw [hg]; exact Nat.ne_of_lt (blk_lt (g := gb340) (o := .cells #[.slice A0_0 l0_0.length c0_0, .slice A0_1 l0_1.length c0_1] 26 (0, 0)) (by exact KX_ BK340.out)) : gb340 ≠ gb341)); have n6_ := Aside0.mk ((by rw [hg]; exact Nat.ne_of_gt (blk_lt (g := gb340) (o := .cells #[.slice A0_0 l0_0.length c0_0, .slice A0_1 l0_1.length c0_1] 26 (0, 0)) (by exact KX_ BK340.out)) : gb341 ≠ gb340)); clear BK340; clear HB; have BK340 := n0_; have HB := n1_; have BK341 := n2_; have GW341 := n3_; have GE341 := n4_; have NB340_341 := n5_; have NB341_340 := n6_; clear n0_ n1_ n2_ n3_ n4_ n5_ n6_; clear hb hbox hg)); go_upto_region 1 with (first | ((with_reducible refine gate_dst (N := 2) rfl ?_); (try (refine gate_guard (by rfl) ?_; dsimp only)); refine box_event ?hg (N := 2) ?hd (cs := #[.slice A0_0 l0_0.length c0_0, .slice A0_1 l0_1.length c0_1]) (t := 26) ?hr ?_; (case hd => rfl); (case hg => rfl); (case hr => first | (go_simp; done) | (go_simp; rfl)); intro gb340 hg w4 hbox hb; have n0_ := Aside0.mk (below_step (B_) hb); have n1_ := Aside0.mk (hbox); have n2_ := Aside0.mk ((by rw [hg]; exact (below_size (B_)) : w.heap.size ≤ gb340)); have n3_ := Aside0.mk ((by rw [hg]; exact (below_size (B_)) : w.heap.size ≤ gb340)); clear HB; have HB := n0_; have BK340 := n1_; have GW340 := n2_; have GE340 := n3_; clear n0_ n1_ n2_ n3_; clear hb hbox hg) | ((with_reducible refine gate_dst (N := 3) rfl ?_); (try (refine gate_guard (by rfl) ?_; dsimp only)); refine box_event ?hg (N := 3) ?hd (cs := #[.slice A1_0 l1_0.length c1_0, .slice A1_1 l1_1.length c1_1]) (t := 26) ?hr ?_; (case hd => rfl); (case hg => rfl); (case hr => first | (go_simp; done) | (go_simp; rfl)); intro gb341 hg w5 hbox hb; have n0_ := Aside0.mk (blk_below (g := gb340) (o := .cells #[.slice A0_0 l0_0.length c0_0, .slice A0_1 l0_1.length c0_1] 26 (0, 0)) (by exact KX_ BK340.out) hb); have n1_ := Aside0.mk (below_step (B1_) hb); have n2_ := Aside0.mk (hbox); have n3_ := Aside0.mk ((by rw [hg]; exact (below_size (B1_)) : w.heap.size ≤ gb341)); have n4_ := Aside0.mk ((by rw [hg]; exact (below_size (B1_)) : w.heap.size ≤ gb341)); have n5_ := Aside0.mk ((by rw [hg]; exact Nat.ne_of_lt (blk_lt (g := gb340) (o := .cells #[.slice A0_0 l0_0.length c0_0, .slice A0_1 l0_1.length c0_1] 26 (0, 0)) (by exact KX_ BK340.out)) : gb340 ≠ gb341)); have n6_ := Aside0.mk ((by rw [hg]; exact Nat.ne_of_gt (blk_lt (g := gb340) (o := .cells #[.slice A0_0 l0_0.length c0_0, .slice A0_1 l0_1.length c0_1] 26 (0, 0)) (by exact KX_ BK340.out)) : gb341 ≠ gb340)); clear BK340; clear HB; have BK340 := n0_; have HB := n1_; have BK341 := n2_; have GW341 := n3_; have GE341 := n4_; have NB340_341 := n5_; have NB341_340 := n6_; clear n0_ n1_ n2_ n3_ n4_ n5_ n6_; clear hb hbox hg)))
 (try simp only [Act.put, List.setIfInBounds_toArray, List.set_cons_zero, List.set_cons_succ])
 go_cut [22] (fun v22 wc => ∃ (kq : Nat) (x22_2 : Bool), v22 = .bool x22_2 ∧ Aside0 (lockstepref06_Same.j0 kq x22_2 l0_0 l0_1 l1_0 l1_1 = some r) ∧ Aside0 (kq ≤ k) ∧ Aside0 (wc.heap[gb340]? = some (.cells #[(.slice A0_0 l0_0.length c0_0), (.slice A0_1 l0_1.length c0_1)] 26 (0, 0))) ∧ Aside0 (wc.heap[gb341]? = some (.cells #[(.slice A1_0 l1_0.length c1_0), (.slice A1_1 l1_1.length c1_1)] 26 (0, 0))) ∧ Aside0 (Below w.heap.size w wc))
 case first =>
  have H := HC3.out
  clear HC3
  by_cases c6 : (l0_0.length : Int) = (l1_0.length : Int)
  ·rw [if_pos c6] at H
   have c6b0 : ((l0_0.length : Int) == (l1_0.length : Int)) = true := beq_iff_eq.mpr c6
   have c6b1 : ((l0_0.length : Int) != (l1_0.length : Int)) = false := bne_eq_false_iff_eq.mpr c6
   have c6b2 : (l0_0.length == l1_0.length) = true := by first | simpa using c6 | (simp at c6 ⊢; omega)
   clear c6
   (first | rw [c6b0] | (simp only [i64_w, i32_w]; rw [c6b0]) | skip)
   have H' := Aside0.mk H
   clear H
   have hnb7 := NB340_341.out
   have hnc7 := NB341_340.out
   have hcz8_0 : w5.cell? ⟨gb340, 0, none⟩ = some (.slice A0_0 l0_0.length c0_0) := (blk_cell BK340.out 0).trans rfl
   have hcz8_1 : w5.cell? ⟨gb340, 1, none⟩ = some (.slice A0_1 l0_1.length c0_1) := (blk_cell BK340.out 1).trans rfl
   have hfz8_0 := blk_frozen BK340.out 0
   have hfz8_1 := blk_frozen BK340.out 1
   have hcz9_0 : w5.cell? ⟨gb341, 0, none⟩ = some (.slice A1_0 l1_0.length c1_0) := (blk_cell BK341.out 0).trans rfl
   have hcz9_1 : w5.cell? ⟨gb341, 1, none⟩ = some (.slice A1_1 l1_1.length c1_1) := (blk_cell BK341.out 1).trans rfl
   have hfz9_0 := blk_frozen BK341.out 0
   have hfz9_1 := blk_frozen BK341.out 1
   go_wp2
   repeat (go_quiet (fail); try go_wp2)
   go_meet
   case rel => exact ⟨_, (((l0_1.length : Int) != (l1_1.length : Int))), (by first | rfl | (simp; done) | (simp [*]; done)), H', ⟨by first | omega | exact Nat.le_refl _⟩, ⟨by exact KX_ BK340.out⟩, ⟨by exact KX_ BK341.out⟩, ⟨B1_⟩⟩
  rw [if_neg c6] at H
  have c6b0 : ((l0_0.length : Int) == (l1_0.length : Int)) = false := beq_eq_false_iff_ne.mpr c6
  have c6b1 : ((l0_0.length : Int) != (l1_0.length : Int)) = true := bne_iff_ne.mpr c6
  have c6b2 : (l0_0.length == l1_0.length) = false := by first | simpa using c6 | (simp at c6 ⊢; omega)
  (first | rw [c6b0] | (simp only [i64_w, i32_w]; rw [c6b0]) | skip)
  have H' := Aside0.mk H
  clear H
  have hnb10 := NB340_341.out
  have hnc10 := NB341_340.out
  have hcz11_0 : w5.cell? ⟨gb340, 0, none⟩ = some (.slice A0_0 l0_0.length c0_0) := (blk_cell BK340.out 0).trans rfl
  have hcz11_1 : w5.cell? ⟨gb340, 1, none⟩ = some (.slice A0_1 l0_1.length c0_1) := (blk_cell BK340.out 1).trans rfl
  have hfz11_0 := blk_frozen BK340.out 0
  have hfz11_1 := blk_frozen BK340.out 1
  have hcz12_0 : w5.cell? ⟨gb341, 0, none⟩ = some (.slice A1_0 l1_0.length c1_0) := (blk_cell BK341.out 0).trans rfl
  have hcz12_1 : w5.cell? ⟨gb341, 1, none⟩ = some (.slice A1_1 l1_1.length c1_1) := (blk_cell BK341.out 1).trans rfl
  have hfz12_0 := blk_frozen BK341.out 0
  have hfz12_1 := blk_frozen BK341.out 1
  go_wp2
  repeat (go_quiet (fail); try go_wp2)
  go_meet
  case rel => exact ⟨_, (true), (by first | rfl | (simp; done) | (simp [*]; done)), H', ⟨by first | omega | exact Nat.le_refl _⟩, ⟨by exact KX_ BK340.out⟩, ⟨by exact KX_ BK341.out⟩, ⟨B1_⟩⟩
 case rest =>
  clear HC3
  obtain ⟨kq, x22_2, rfl, HA, HJ2, BK340, BK341, HB⟩ := hcut
  cases kq with
  | zero => exact absurd HA.out (by simp [lockstepref06_Same.j0])
  | succ kj2 =>
   have H := HA.out
   clear HA
   simp only [lockstepref06_Same.j0] at H
   by_cases c13 : x22_2 = true
   ·subst c13
    have H1 : (some false) = some r := by rw [if_pos rfl] at H; exact H
    clear H
    have H := H1
    clear H1
    obtain rfl := Option.some.inj H
    go_wp2
    repeat (go_quiet (fail); try go_wp2)
    go_ret
    exact ⟨by first | rfl | (simp [errW_none, errW_some] <;> rfl) | (simp [*, errW_none, errW_some] <;> rfl), B1_⟩
   replace c13 := Bool.eq_false_iff.mpr c13
   subst c13
   have H1 : (lockstepref06_Same.l0 kj2 0 l0_0 l0_1 l1_0 l1_1) = some r := by rw [if_neg (show ¬ (false = true) by decide)] at H; exact H
   clear H
   have H := H1
   clear H1
   have H' := Aside0.mk H
   clear H
   go_wp2
   repeat (go_quiet (fail); try go_wp2)
   go_loopg [5] kj2 (fun kq v5 w' => ∃ (x5_2 : Int), v5 = .int .i64 x5_2 ∧ Aside0 (lockstepref06_Same.l0 kq x5_2 l0_0 l0_1 l1_0 l1_1 = some r) ∧ Aside0 (kq ≤ kj2) ∧ Aside0 (w'.heap[gb340]? = some (.cells #[(.slice A0_0 l0_0.length c0_0), (.slice A0_1 l0_1.length c0_1)] 26 (0, 0))) ∧ Aside0 (w'.heap[gb341]? = some (.cells #[(.slice A1_0 l1_0.length c1_0), (.slice A1_1 l1_1.length c1_1)] 26 (0, 0))) ∧ Aside0 (Below w.heap.size w w'))
   case atStart => exact ⟨(0), (by first | rfl | (simp; done) | (simp [*]; done)), H', ⟨Nat.le_refl _⟩, ⟨by exact KX_ BK340.out⟩, ⟨by exact KX_ BK341.out⟩, ⟨B1_⟩⟩
   case round =>
    clear H'
    try clear c13
    obtain ⟨x5_2, rfl, HA, HK2, BK340, BK341, HB⟩ := hrel
    cases gk with
    | zero => exact absurd HA.out (by simp [lockstepref06_Same.l0])
    | succ k2 =>
     have H := HA.out
     clear HA
     simp only [lockstepref06_Same.l0] at H
     by_cases c14 : x5_2 < (l0_0.length : Int)
     ·rw [if_pos c14] at H
      have c14b0 : decide (x5_2 < (l0_0.length : Int)) = true := decide_eq_true c14
      clear c14
      by_cases c15 : 0 ≤ x5_2
      ·rw [if_pos c15] at H
       have c15b0 : decide (0 ≤ x5_2) = true := decide_eq_true c15
       clear c15
       by_cases c16 : x5_2 < (l1_0.length : Int)
       ·rw [if_pos c16] at H
        have c16b0 : decide (x5_2 < (l1_0.length : Int)) = true := decide_eq_true c16
        clear c16
        replace H := Option.bind_eq_some_iff.mp H
        obtain ⟨t344, A170, H⟩ := H
        replace H : (if t344 = true then (lockstepref06_Same.l0 k2 (wrap64 (x5_2 + 1)) l0_0 l0_1 l1_0 l1_1) else (some false)) = some r := H
        have A17 := Aside0.mk A170
        clear A170
        by_cases c18 : t344 = true
        ·subst c18
         have H1 : (lockstepref06_Same.l0 k2 (wrap64 (x5_2 + 1)) l0_0 l0_1 l1_0 l1_1) = some r := by rw [if_pos rfl] at H; exact H
         clear H
         have H := H1
         clear H1
         have H' := Aside0.mk H
         clear H
         have hnb19 := NB340_341.out
         have hnc19 := NB341_340.out
         have hcz20_0 : wr.cell? ⟨gb340, 0, none⟩ = some (.slice A0_0 l0_0.length c0_0) := (blk_cell BK340.out 0).trans rfl
         have hcz20_1 : wr.cell? ⟨gb340, 1, none⟩ = some (.slice A0_1 l0_1.length c0_1) := (blk_cell BK340.out 1).trans rfl
         have hfz20_0 := blk_frozen BK340.out 0
         have hfz20_1 := blk_frozen BK340.out 1
         have p342 : 0 ≤ (x5_2 : Int) := D_
         have q342 : x5_2 < (l0_0.length : Int) := D_
         obtain ⟨ad342, A342_0, c342_0, e342, hx342_0, hl342_0, hi342_0⟩ := at_L1 HR0_0.out x5_2 p342 q342
         cases e342
         replace hx342_0 := (HB.out.cell (World.block_lt_of_cell? w _ hx342_0)).trans hx342_0
         have HR342_0 := Aside0.mk hi342_0
         have HC342_0 := Aside0.mk hl342_0
         clear hi342_0 hl342_0
         replace p342 := eq_true p342
         replace q342 := eq_true q342
         have hcz21_0 : wr.cell? ⟨gb341, 0, none⟩ = some (.slice A1_0 l1_0.length c1_0) := (blk_cell BK341.out 0).trans rfl
         have hcz21_1 : wr.cell? ⟨gb341, 1, none⟩ = some (.slice A1_1 l1_1.length c1_1) := (blk_cell BK341.out 1).trans rfl
         have hfz21_0 := blk_frozen BK341.out 0
         have hfz21_1 := blk_frozen BK341.out 1
         have p343 : 0 ≤ (x5_2 : Int) := D_
         have q343 : x5_2 < (l1_0.length : Int) := D_
         obtain ⟨ad343, A343_0, c343_0, e343, hx343_0, hl343_0, hi343_0⟩ := at_L1 HR1_0.out x5_2 p343 q343
         cases e343
         replace hx343_0 := (HB.out.cell (World.block_lt_of_cell? w _ hx343_0)).trans hx343_0
         have HR343_0 := Aside0.mk hi343_0
         have HC343_0 := Aside0.mk hl343_0
         clear hi343_0 hl343_0
         replace p343 := eq_true p343
         replace q343 := eq_true q343
         go_wp2_with (first | (go_at_call 12; (with_reducible refine (lockstepref02_Ints.calls k2 _ _ (rd_L1 l0_0 x5_2) _ _ (rd_L1 l1_0 x5_2) true _ ?side1 ?side2 ?side3 ?side4 A17.out).mono ?_); (case side1 => exact CX_ (Kd.C_below HR342_0.out HB.out)); (case side2 => exact HC342_0.out); (case side3 => exact CX_ (Kd.C_below HR343_0.out HB.out)); (case side4 => exact HC343_0.out); rintro e w' ⟨rfl, ⟨nd, rfl⟩⟩; (try first | exact ⟨rfl, _, World.drewN_drewN _ _ _⟩ | exact ⟨rfl, _, Eq.trans (World.drewN_drewN _ _ _) (congrArg (World.drewN _) (Nat.add_assoc _ _ _))⟩)))
         repeat (go_quiet (first | (go_at_call 12; (with_reducible refine (lockstepref02_Ints.calls k2 _ _ (rd_L1 l0_0 x5_2) _ _ (rd_L1 l1_0 x5_2) true _ ?side1 ?side2 ?side3 ?side4 A17.out).mono ?_); (case side1 => exact CX_ (Kd.C_below HR342_0.out HB.out)); (case side2 => exact HC342_0.out); (case side3 => exact CX_ (Kd.C_below HR343_0.out HB.out)); (case side4 => exact HC343_0.out); rintro e w' ⟨rfl, ⟨nd, rfl⟩⟩; (try first | exact ⟨rfl, _, World.drewN_drewN _ _ _⟩ | exact ⟨rfl, _, Eq.trans (World.drewN_drewN _ _ _) (congrArg (World.drewN _) (Nat.add_assoc _ _ _))⟩))); try go_wp2_with (first | (go_at_call 12; (with_reducible refine (lockstepref02_Ints.calls k2 _ _ (rd_L1 l0_0 x5_2) _ _ (rd_L1 l1_0 x5_2) true _ ?side1 ?side2 ?side3 ?side4 A17.out).mono ?_); (case side1 => exact CX_ (Kd.C_below HR342_0.out HB.out)); (case side2 => exact HC342_0.out); (case side3 => exact CX_ (Kd.C_below HR343_0.out HB.out)); (case side4 => exact HC343_0.out); rintro e w' ⟨rfl, ⟨nd, rfl⟩⟩; (try first | exact ⟨rfl, _, World.drewN_drewN _ _ _⟩ | exact ⟨rfl, _, Eq.trans (World.drewN_drewN _ _ _) (congrArg (World.drewN _) (Nat.add_assoc _ _ _))⟩))))
         go_roundg k2
         case measure => have := HJ2.out; have := HK2.out; omega
         case rel => exact ⟨(wrap64 (x5_2 + 1)), (by first | rfl | (simp; done) | (simp [*]; done)), H', ⟨by have := HJ2.out; have := HK2.out; omega⟩, ⟨by exact KX_ BK340.out⟩, ⟨by exact KX_ BK341.out⟩, ⟨B1_⟩⟩
        replace c18 := Bool.eq_false_iff.mpr c18
        subst c18
        have H1 : (some false) = some r := by rw [if_neg (show ¬ (false = true) by decide)] at H; exact H
        clear H
        have H := H1
        clear H1
        obtain rfl := Option.some.inj H
        have hnb22 := NB340_341.out
        have hnc22 := NB341_340.out
        have hcz23_0 : wr.cell? ⟨gb340, 0, none⟩ = some (.slice A0_0 l0_0.length c0_0) := (blk_cell BK340.out 0).trans rfl
        have hcz23_1 : wr.cell? ⟨gb340, 1, none⟩ = some (.slice A0_1 l0_1.length c0_1) := (blk_cell BK340.out 1).trans rfl
        have hfz23_0 := blk_frozen BK340.out 0
        have hfz23_1 := blk_frozen BK340.out 1
        have p342 : 0 ≤ (x5_2 : Int) := D_
        have q342 : x5_2 < (l0_0.length : Int) := D_
        obtain ⟨ad342, A342_0, c342_0, e342, hx342_0, hl342_0, hi342_0⟩ := at_L1 HR0_0.out x5_2 p342 q342
        cases e342
        replace hx342_0 := (HB.out.cell (World.block_lt_of_cell? w _ hx342_0)).trans hx342_0
        have HR342_0 := Aside0.mk hi342_0
        have HC342_0 := Aside0.mk hl342_0
        clear hi342_0 hl342_0
        replace p342 := eq_true p342
        replace q342 := eq_true q342
        have hcz24_0 : wr.cell? ⟨gb341, 0, none⟩ = some (.slice A1_0 l1_0.length c1_0) := (blk_cell BK341.out 0).trans rfl
        have hcz24_1 : wr.cell? ⟨gb341, 1, none⟩ = some (.slice A1_1 l1_1.length c1_1) := (blk_cell BK341.out 1).trans rfl
        have hfz24_0 := blk_frozen BK341.out 0
        have hfz24_1 := blk_frozen BK341.out 1
        have p343 : 0 ≤ (x5_2 : Int) := D_
        have q343 : x5_2 < (l1_0.length : Int) := D_
        obtain ⟨ad343, A343_0, c343_0, e343, hx343_0, hl343_0, hi343_0⟩ := at_L1 HR1_0.out x5_2 p343 q343
        cases e343
        replace hx343_0 := (HB.out.cell (World.block_lt_of_cell? w _ hx343_0)).trans hx343_0
        have HR343_0 := Aside0.mk hi343_0
        have HC343_0 := Aside0.mk hl343_0
        clear hi343_0 hl343_0
        replace p343 := eq_true p343
        replace q343 := eq_true q343
        go_wp2_with (first | (go_at_call 12; (with_reducible refine (lockstepref02_Ints.calls k2 _ _ (rd_L1 l0_0 x5_2) _ _ (rd_L1 l1_0 x5_2) false _ ?side1 ?side2 ?side3 ?side4 A17.out).mono ?_); (case side1 => exact CX_ (Kd.C_below HR342_0.out HB.out)); (case side2 => exact HC342_0.out); (case side3 => exact CX_ (Kd.C_below HR343_0.out HB.out)); (case side4 => exact HC343_0.out); rintro e w' ⟨rfl, ⟨nd, rfl⟩⟩; (try first | exact ⟨rfl, _, World.drewN_drewN _ _ _⟩ | exact ⟨rfl, _, Eq.trans (World.drewN_drewN _ _ _) (congrArg (World.drewN _) (Nat.add_assoc _ _ _))⟩)))
        repeat (go_quiet (first | (go_at_call 12; (with_reducible refine (lockstepref02_Ints.calls k2 _ _ (rd_L1 l0_0 x5_2) _ _ (rd_L1 l1_0 x5_2) false _ ?side1 ?side2 ?side3 ?side4 A17.out).mono ?_); (case side1 => exact CX_ (Kd.C_below HR342_0.out HB.out)); (case side2 => exact HC342_0.out); (case side3 => exact CX_ (Kd.C_below HR343_0.out HB.out)); (case side4 => exact HC343_0.out); rintro e w' ⟨rfl, ⟨nd, rfl⟩⟩; (try first | exact ⟨rfl, _, World.drewN_drewN _ _ _⟩ | exact ⟨rfl, _, Eq.trans (World.drewN_drewN _ _ _) (congrArg (World.drewN _) (Nat.add_assoc _ _ _))⟩))); try go_wp2_with (first | (go_at_call 12; (with_reducible refine (lockstepref02_Ints.calls k2 _ _ (rd_L1 l0_0 x5_2) _ _ (rd_L1 l1_0 x5_2) false _ ?side1 ?side2 ?side3 ?side4 A17.out).mono ?_); (case side1 => exact CX_ (Kd.C_below HR342_0.out HB.out)); (case side2 => exact HC342_0.out); (case side3 => exact CX_ (Kd.C_below HR343_0.out HB.out)); (case side4 => exact HC343_0.out); rintro e w' ⟨rfl, ⟨nd, rfl⟩⟩; (try first | exact ⟨rfl, _, World.drewN_drewN _ _ _⟩ | exact ⟨rfl, _, Eq.trans (World.drewN_drewN _ _ _) (congrArg (World.drewN _) (Nat.add_assoc _ _ _))⟩))))
        go_ret
        exact ⟨by first | rfl | (simp [errW_none, errW_some] <;> rfl) | (simp [*, errW_none, errW_some] <;> rfl), B1_⟩
       rw [if_neg c16] at H
       exact absurd H (by simp)
      rw [if_neg c15] at H
      exact absurd H (by simp)
     rw [if_neg c14] at H
     have c14b0 : decide (x5_2 < (l0_0.length : Int)) = false := decide_eq_false c14
     clear c14
     have H' := Aside0.mk H
     clear H
     have hnb25 := NB340_341.out
     have hnc25 := NB341_340.out
     have hcz26_0 : wr.cell? ⟨gb340, 0, none⟩ = some (.slice A0_0 l0_0.length c0_0) := (blk_cell BK340.out 0).trans rfl
     have hcz26_1 : wr.cell? ⟨gb340, 1, none⟩ = some (.slice A0_1 l0_1.length c0_1) := (blk_cell BK340.out 1).trans rfl
     have hfz26_0 := blk_frozen BK340.out 0
     have hfz26_1 := blk_frozen BK340.out 1
     go_wp2
     repeat (go_quiet (fail); try go_wp2)
     go_loopg [6] k2 (fun kq v6 w' => ∃ (x6_3 : Int), v6 = .int .i64 x6_3 ∧ Aside0 (lockstepref06_Same.l1 kq x6_3 l0_0 l0_1 l1_0 l1_1 = some r) ∧ Aside0 (kq ≤ k2) ∧ Aside0 (w'.heap[gb340]? = some (.cells #[(.slice A0_0 l0_0.length c0_0), (.slice A0_1 l0_1.length c0_1)] 26 (0, 0))) ∧ Aside0 (w'.heap[gb341]? = some (.cells #[(.slice A1_0 l1_0.length c1_0), (.slice A1_1 l1_1.length c1_1)] 26 (0, 0))) ∧ Aside0 (Below w.heap.size w w'))
     case atStart => exact ⟨(0), (by first | rfl | (simp; done) | (simp [*]; done)), H', ⟨Nat.le_refl _⟩, ⟨by exact KX_ BK340.out⟩, ⟨by exact KX_ BK341.out⟩, ⟨B1_⟩⟩
     case round =>
      clear H'
      try clear c14b0
      try clear hcz26_0
      try clear hcz26_1
      try clear hfz26_0
      try clear hfz26_1
      obtain ⟨x6_3, rfl, HA, HK3, BK340, BK341, HB⟩ := hrel
      cases gk with
      | zero => exact absurd HA.out (by simp [lockstepref06_Same.l1])
      | succ k3 =>
       have H := HA.out
       clear HA
       simp only [lockstepref06_Same.l1] at H
       by_cases c27 : x6_3 < (l0_1.length : Int)
       ·rw [if_pos c27] at H
        have c27b0 : decide (x6_3 < (l0_1.length : Int)) = true := decide_eq_true c27
        clear c27
        by_cases c28 : 0 ≤ x6_3
        ·rw [if_pos c28] at H
         have c28b0 : decide (0 ≤ x6_3) = true := decide_eq_true c28
         clear c28
         by_cases c29 : x6_3 < (l1_1.length : Int)
         ·rw [if_pos c29] at H
          have c29b0 : decide (x6_3 < (l1_1.length : Int)) = true := decide_eq_true c29
          clear c29
          replace H := Option.bind_eq_some_iff.mp H
          obtain ⟨t347, A300, H⟩ := H
          replace H : (if t347 = true then (lockstepref06_Same.l1 k3 (wrap64 (x6_3 + 1)) l0_0 l0_1 l1_0 l1_1) else (some false)) = some r := H
          have A30 := Aside0.mk A300
          clear A300
          by_cases c31 : t347 = true
          ·subst c31
           have H1 : (lockstepref06_Same.l1 k3 (wrap64 (x6_3 + 1)) l0_0 l0_1 l1_0 l1_1) = some r := by rw [if_pos rfl] at H; exact H
           clear H
           have H := H1
           clear H1
           have H' := Aside0.mk H
           clear H
           have hnb32 := NB340_341.out
           have hnc32 := NB341_340.out
           have hcz33_0 : wr.cell? ⟨gb340, 0, none⟩ = some (.slice A0_0 l0_0.length c0_0) := (blk_cell BK340.out 0).trans rfl
           have hcz33_1 : wr.cell? ⟨gb340, 1, none⟩ = some (.slice A0_1 l0_1.length c0_1) := (blk_cell BK340.out 1).trans rfl
           have hfz33_0 := blk_frozen BK340.out 0
           have hfz33_1 := blk_frozen BK340.out 1
           have p345 : 0 ≤ (x6_3 : Int) := D_
           have q345 : x6_3 < (l0_1.length : Int) := D_
           obtain ⟨ad345, A345_0, c345_0, e345, hx345_0, hl345_0, hi345_0⟩ := at_L1 HR0_1.out x6_3 p345 q345
           cases e345
           replace hx345_0 := (HB.out.cell (World.block_lt_of_cell? w _ hx345_0)).trans hx345_0
           have HR345_0 := Aside0.mk hi345_0
           have HC345_0 := Aside0.mk hl345_0
           clear hi345_0 hl345_0
           replace p345 := eq_true p345
           replace q345 := eq_true q345
           have hcz34_0 : wr.cell? ⟨gb341, 0, none⟩ = some (.slice A1_0 l1_0.length c1_0) := (blk_cell BK341.out 0).trans rfl
           have hcz34_1 : wr.cell? ⟨gb341, 1, none⟩ = some (.slice A1_1 l1_1.length c1_1) := (blk_cell BK341.out 1).trans rfl
           have hfz34_0 := blk_frozen BK341.out 0
           have hfz34_1 := blk_frozen BK341.out 1
           have p346 : 0 ≤ (x6_3 : Int) := D_
           have q346 : x6_3 < (l1_1.length : Int) := D_
           obtain ⟨ad346, A346_0, c346_0, e346, hx346_0, hl346_0, hi346_0⟩ := at_L1 HR1_1.out x6_3 p346 q346
           cases e346
           replace hx346_0 := (HB.out.cell (World.block_lt_of_cell? w _ hx346_0)).trans hx346_0
           have HR346_0 := Aside0.mk hi346_0
           have HC346_0 := Aside0.mk hl346_0
           clear hi346_0 hl346_0
           replace p346 := eq_true p346
           replace q346 := eq_true q346
           go_wp2_with (first | (go_at_call 12; (with_reducible refine (lockstepref02_Ints.calls k3 _ _ (rd_L1 l0_1 x6_3) _ _ (rd_L1 l1_1 x6_3) true _ ?side1 ?side2 ?side3 ?side4 A30.out).mono ?_); (case side1 => exact CX_ (Kd.C_below HR345_0.out HB.out)); (case side2 => exact HC345_0.out); (case side3 => exact CX_ (Kd.C_below HR346_0.out HB.out)); (case side4 => exact HC346_0.out); rintro e w' ⟨rfl, ⟨nd, rfl⟩⟩; (try first | exact ⟨rfl, _, World.drewN_drewN _ _ _⟩ | exact ⟨rfl, _, Eq.trans (World.drewN_drewN _ _ _) (congrArg (World.drewN _) (Nat.add_assoc _ _ _))⟩)))
           repeat (go_quiet (first | (go_at_call 12; (with_reducible refine (lockstepref02_Ints.calls k3 _ _ (rd_L1 l0_1 x6_3) _ _ (rd_L1 l1_1 x6_3) true _ ?side1 ?side2 ?side3 ?side4 A30.out).mono ?_); (case side1 => exact CX_ (Kd.C_below HR345_0.out HB.out)); (case side2 => exact HC345_0.out); (case side3 => exact CX_ (Kd.C_below HR346_0.out HB.out)); (case side4 => exact HC346_0.out); rintro e w' ⟨rfl, ⟨nd, rfl⟩⟩; (try first | exact ⟨rfl, _, World.drewN_drewN _ _ _⟩ | exact ⟨rfl, _, Eq.trans (World.drewN_drewN _ _ _) (congrArg (World.drewN _) (Nat.add_assoc _ _ _))⟩))); try go_wp2_with (first | (go_at_call 12; (with_reducible refine (lockstepref02_Ints.calls k3 _ _ (rd_L1 l0_1 x6_3) _ _ (rd_L1 l1_1 x6_3) true _ ?side1 ?side2 ?side3 ?side4 A30.out).mono ?_); (case side1 => exact CX_ (Kd.C_below HR345_0.out HB.out)); (case side2 => exact HC345_0.out); (case side3 => exact CX_ (Kd.C_below HR346_0.out HB.out)); (case side4 => exact HC346_0.out); rintro e w' ⟨rfl, ⟨nd, rfl⟩⟩; (try first | exact ⟨rfl, _, World.drewN_drewN _ _ _⟩ | exact ⟨rfl, _, Eq.trans (World.drewN_drewN _ _ _) (congrArg (World.drewN _) (Nat.add_assoc _ _ _))⟩))))
           go_roundg k3
           case measure => have := HJ2.out; have := HK2.out; have := HK3.out; omega
           case rel => exact ⟨(wrap64 (x6_3 + 1)), (by first | rfl | (simp; done) | (simp [*]; done)), H', ⟨by have := HJ2.out; have := HK2.out; have := HK3.out; omega⟩, ⟨by exact KX_ BK340.out⟩, ⟨by exact KX_ BK341.out⟩, ⟨B1_⟩⟩
          replace c31 := Bool.eq_false_iff.mpr c31
          subst c31
          have H1 : (some false) = some r := by rw [if_neg (show ¬ (false = true) by decide)] at H; exact H
          clear H
          have H := H1
          clear H1
          obtain rfl := Option.some.inj H
          have hnb35 := NB340_341.out
          have hnc35 := NB341_340.out
          have hcz36_0 : wr.cell? ⟨gb340, 0, none⟩ = some (.slice A0_0 l0_0.length c0_0) := (blk_cell BK340.out 0).trans rfl
          have hcz36_1 : wr.cell? ⟨gb340, 1, none⟩ = some (.slice A0_1 l0_1.length c0_1) := (blk_cell BK340.out 1).trans rfl
          have hfz36_0 := blk_frozen BK340.out 0
          have hfz36_1 := blk_frozen BK340.out 1
          have p345 : 0 ≤ (x6_3 : Int) := D_
          have q345 : x6_3 < (l0_1.length : Int) := D_
          obtain ⟨ad345, A345_0, c345_0, e345, hx345_0, hl345_0, hi345_0⟩ := at_L1 HR0_1.out x6_3 p345 q345
          cases e345
          replace hx345_0 := (HB.out.cell (World.block_lt_of_cell? w _ hx345_0)).trans hx345_0
          have HR345_0 := Aside0.mk hi345_0
          have HC345_0 := Aside0.mk hl345_0
          clear hi345_0 hl345_0
          replace p345 := eq_true p345
          replace q345 := eq_true q345
          have hcz37_0 : wr.cell? ⟨gb341, 0, none⟩ = some (.slice A1_0 l1_0.length c1_0) := (blk_cell BK341.out 0).trans rfl
          have hcz37_1 : wr.cell? ⟨gb341, 1, none⟩ = some (.slice A1_1 l1_1.length c1_1) := (blk_cell BK341.out 1).trans rfl
          have hfz37_0 := blk_frozen BK341.out 0
          have hfz37_1 := blk_frozen BK341.out 1
          have p346 : 0 ≤ (x6_3 : Int) := D_
          have q346 : x6_3 < (l1_1.length : Int) := D_
          obtain ⟨ad346, A346_0, c346_0, e346, hx346_0, hl346_0, hi346_0⟩ := at_L1 HR1_1.out x6_3 p346 q346
          cases e346
          replace hx346_0 := (HB.out.cell (World.block_lt_of_cell? w _ hx346_0)).trans hx346_0
          have HR346_0 := Aside0.mk hi346_0
          have HC346_0 := Aside0.mk hl346_0
          clear hi346_0 hl346_0
          replace p346 := eq_true p346
          replace q346 := eq_true q346
          go_wp2_with (first | (go_at_call 12; (with_reducible refine (lockstepref02_Ints.calls k3 _ _ (rd_L1 l0_1 x6_3) _ _ (rd_L1 l1_1 x6_3) false _ ?side1 ?side2 ?side3 ?side4 A30.out).mono ?_); (case side1 => exact CX_ (Kd.C_below HR345_0.out HB.out)); (case side2 => exact HC345_0.out); (case side3 => exact CX_ (Kd.C_below HR346_0.out HB.out)); (case side4 => exact HC346_0.out); rintro e w' ⟨rfl, ⟨nd, rfl⟩⟩; (try first | exact ⟨rfl, _, World.drewN_drewN _ _ _⟩ | exact ⟨rfl, _, Eq.trans (World.drewN_drewN _ _ _) (congrArg (World.drewN _) (Nat.add_assoc _ _ _))⟩)))
          repeat (go_quiet (first | (go_at_call 12; (with_reducible refine (lockstepref02_Ints.calls k3 _ _ (rd_L1 l0_1 x6_3) _ _ (rd_L1 l1_1 x6_3) false _ ?side1 ?side2 ?side3 ?side4 A30.out).mono ?_); (case side1 => exact CX_ (Kd.C_below HR345_0.out HB.out)); (case side2 => exact HC345_0.out); (case side3 => exact CX_ (Kd.C_below HR346_0.out HB.out)); (case side4 => exact HC346_0.out); rintro e w' ⟨rfl, ⟨nd, rfl⟩⟩; (try first | exact ⟨rfl, _, World.drewN_drewN _ _ _⟩ | exact ⟨rfl, _, Eq.trans (World.drewN_drewN _ _ _) (congrArg (World.drewN _) (Nat.add_assoc _ _ _))⟩))); try go_wp2_with (first | (go_at_call 12; (with_reducible refine (lockstepref02_Ints.calls k3 _ _ (rd_L1 l0_1 x6_3) _ _ (rd_L1 l1_1 x6_3) false _ ?side1 ?side2 ?side3 ?side4 A30.out).mono ?_); (case side1 => exact CX_ (Kd.C_below HR345_0.out HB.out)); (case side2 => exact HC345_0.out); (case side3 => exact CX_ (Kd.C_below HR346_0.out HB.out)); (case side4 => exact HC346_0.out); rintro e w' ⟨rfl, ⟨nd, rfl⟩⟩; (try first | exact ⟨rfl, _, World.drewN_drewN _ _ _⟩ | exact ⟨rfl, _, Eq.trans (World.drewN_drewN _ _ _) (congrArg (World.drewN _) (Nat.add_assoc _ _ _))⟩))))
          go_ret
          exact ⟨by first | rfl | (simp [errW_none, errW_some] <;> rfl) | (simp [*, errW_none, errW_some] <;> rfl), B1_⟩
         rw [if_neg c29] at H
         exact absurd H (by simp)
        rw [if_neg c28] at H
        exact absurd H (by simp)
       rw [if_neg c27] at H
       have c27b0 : decide (x6_3 < (l0_1.length : Int)) = false := decide_eq_false c27
       clear c27
       obtain rfl := Option.some.inj H
       have hnb38 := NB340_341.out
       have hnc38 := NB341_340.out
       have hcz39_0 : wr.cell? ⟨gb340, 0, none⟩ = some (.slice A0_0 l0_0.length c0_0) := (blk_cell BK340.out 0).trans rfl
       have hcz39_1 : wr.cell? ⟨gb340, 1, none⟩ = some (.slice A0_1 l0_1.length c0_1) := (blk_cell BK340.out 1).trans rfl
       have hfz39_0 := blk_frozen BK340.out 0
       have hfz39_1 := blk_frozen BK340.out 1
       go_wp2
       repeat (go_quiet (fail); try go_wp2)
       go_ret
       exact ⟨by first | rfl | (simp [errW_none, errW_some] <;> rfl) | (simp [*, errW_none, errW_some] <;> rfl), B1_⟩


/-! ### lockstepref06_May: function 31 -/
def lockstepref06_May.f (k : Nat) (l0_0 : List (List Int)) (l0_1 : List (List Int)) : Option (Bool) := (lockstepref06_Make.f k l0_0).bind fun bt349 => (if bt349.2.2 = 0 then ((lockstepref06_Same.f k bt349.1 bt349.2.1 l0_0 l0_1).bind fun t357 => (some t357)) else (some false))
theorem lockstepref06_May.mono : ∀ a0 a1 k, LeO (lockstepref06_May.f k a0 a1) (lockstepref06_May.f (k + 1) a0 a1) := by
 intro a0 a1 k
 unfold lockstepref06_May.f
 repeat' first
  | (with_reducible exact lockstepref06_Make.mono _ _)
  | (with_reducible exact lockstepref06_Same.mono _ _ _ _ _)
  | (with_reducible exact LeO.refl _)
  | (with_reducible exact LeO.none _)
  | (with_reducible refine LeO.ite ?_ ?_)
  | (with_reducible refine LeO.bind ?_ (fun _ => ?_))
  | exact lockstepref06_Make.mono _ _
  | exact lockstepref06_Same.mono _ _ _ _ _
  | exact LeO.none _
  | refine LeO.ite ?_ ?_
  | refine LeO.bind ?_ (fun _ => ?_)
set_option maxHeartbeats 8000000 in
set_option maxRecDepth 100000 in
theorem lockstepref06_May.calls (k : Nat) (A0_0 : Option Addr) (c0_0 : Nat) (l0_0 : List (List Int)) (A0_1 : Option Addr) (c0_1 : Nat) (l0_1 : List (List Int)) (r : Bool) (w : World) (hr0_0 : Kd.C (Kd.slice 3 (Kd.int .i64)) w A0_0 l0_0.length l0_0) (hc0_0 : l0_0.length ≤ c0_0) (hr0_1 : Kd.C (Kd.slice 3 (Kd.int .i64)) w A0_1 l0_1.length l0_1) (hc0_1 : l0_1.length ≤ c0_1) (h : lockstepref06_May.f k l0_0 l0_1 = some r) :
 Calls Try.prog 31 #[.agg #[.slice A0_0 l0_0.length c0_0, .slice A0_1 l0_1.length c0_1]] w fun e w' => e = .returned (.bool r) ∧ Below w.heap.size w w' := by
 have hu26 := Try.underlying26
 have HR0_0 := Aside0.mk hr0_0
 have HC0_0 := Aside0.mk hc0_0
 clear hr0_0 hc0_0
 have HR0_1 := Aside0.mk hr0_1
 have HC0_1 := Aside0.mk hc0_1
 clear hr0_1 hc0_1
 have HB := Aside0.mk (Below.refl w.heap.size w)
 have H : ((lockstepref06_Make.f k l0_0).bind fun bt349 => (if bt349.2.2 = 0 then ((lockstepref06_Same.f k bt349.1 bt349.2.1 l0_0 l0_1).bind fun t357 => (some t357)) else (some false))) = some r := h
 clear h
 replace H := Option.bind_eq_some_iff.mp H
 obtain ⟨⟨t349, t352, t355⟩, A20, H⟩ := H
 replace H : (if t355 = 0 then ((lockstepref06_Same.f k t349 t352 l0_0 l0_1).bind fun t357 => (some t357)) else (some false)) = some r := H
 have A2 := Aside0.mk A20
 clear A20
 by_cases c3 : t355 = 0
 ·rw [if_pos c3] at H
  have c3b0 : (t355 == 0) = true := beq_iff_eq.mpr c3
  have c3b1 : (t355 != 0) = false := bne_eq_false_iff_eq.mpr c3
  clear c3
  replace H := Option.bind_eq_some_iff.mp H
  obtain ⟨t357, A40, H⟩ := H
  replace H : (some t357) = some r := H
  have A4 := Aside0.mk A40
  clear A40
  obtain rfl := Option.some.inj H
  go_enter Try.func31, Try.ntmps31
  go_wp2_with (first | ((with_reducible refine gate_dst (N := 1) rfl ?_); refine box_event ?hg (N := 1) ?hd (cs := #[.slice A0_0 l0_0.length c0_0, .slice A0_1 l0_1.length c0_1]) (t := 26) ?hr ?_; (case hd => rfl); (case hg => rfl); (case hr => first | (go_simp; done) | (go_simp; rfl)); intro gb348 hg w5 hbox hb; have n0_ := Aside0.mk (below_step (B_) hb); have n1_ := Aside0.mk (hbox); have n2_ := Aside0.mk ((by rw [hg]; exact (below_size (B_)) : w.heap.size ≤ gb348)); have n3_ := Aside0.mk ((by rw [hg]; exact (below_size (B_)) : w.heap.size ≤ gb348)); clear HB; have HB := n0_; have BK348 := n1_; have GW348 := n2_; have GE348 := n3_; clear n0_ n1_ n2_ n3_; clear hb hbox hg; have hcz6_0 : w5.cell? ⟨gb348, 0, none⟩ = some (.slice A0_0 l0_0.length c0_0) := (blk_cell BK348.out 0).trans rfl; have hcz6_1 : w5.cell? ⟨gb348, 1, none⟩ = some (.slice A0_1 l0_1.length c0_1) := (blk_cell BK348.out 1).trans rfl; have hfz6_0 := blk_frozen BK348.out 0; have hfz6_1 := blk_frozen BK348.out 1) | ((with_reducible refine gate_callee (f := 40) rfl ?_); refine goesL_ (some 8) rfl rfl Try.func40 (by kernel_rfl) rfl #[.slice A0_0 l0_0.length c0_0] rfl (by (try simp only [List.map_toArray, List.map_cons, List.map_nil]); first | done | rfl | (simp only [List.length_drop, List.length_take]; rfl)) ?_; (with_reducible refine (lockstepref06_Make.calls k (fun k_ => k_ < w.heap.size) _ _ l0_0 t349 t352 t355 _ ?side1 A2.out).mono ?_); (case side1 => exact Kd.V_mk HC0_0.out (Kd.F_below (Kd.C_F (Kd.heap_slice 3 (Kd.heap_int .i64)) HR0_0.out) (B1_))); rintro e w7 ⟨v350, v353, rfl, ho0, ho1, hb⟩; refine ⟨_, rfl, ?_⟩; have n0_ := Aside0.mk (Kd.V_lower (Kd.V_mono (ok' := fun k_ => some k_ ≠ (v353 : Value).ownBlock ∧ k_ ≠ gb348) ho0 (fun k_ hk_ => ⟨hk_.2, Or.elim hk_.1 (fun hs_ => fun e_ => Nat.not_le.2 hs_ (by rw [e_]; exact GW348.out)) (fun hn_ => (Kd.freshB (g := gb348) (o := .cells #[.slice A0_0 l0_0.length c0_0, .slice A0_1 l0_1.length c0_1] 26 (0, 0)) (by exact KX_ BK348.out) k_ hn_))⟩)) (below_size (B1_))); have n1_ := Aside0.mk (Kd.S_lower (Kd.S_mono (ok' := fun k_ => True) ho1 (fun _ hk_ => trivial)) (below_size (B1_))); have n2_ := Aside0.mk (blk_below (g := gb348) (o := .cells #[.slice A0_0 l0_0.length c0_0, .slice A0_1 l0_1.length c0_1] 26 (0, 0)) (by exact KX_ BK348.out) hb); have n3_ := Aside0.mk (below_step (B1_) hb); clear BK348; clear HB; have HO351 := n0_; have HO354 := n1_; have BK348 := n2_; have HB := n3_; clear n0_ n1_ n2_ n3_; (try clear hb); (try clear hb2); (try clear hk); (try clear hi); (try clear ho0); (try clear ho1)) | ((with_reducible refine gate_dst (N := 3) rfl ?_); refine box_event ?hg (N := 3) ?hd (cs := #[.slice none 0 0, .slice none 0 0]) (t := 26) ?hr ?_; (case hd => rfl); (case hg => rfl); (case hr => first | (go_simp; done) | (go_simp; rfl)); intro gb356 hg w8 hbox hb; have n0_ := Aside0.mk (Kd.V_below (Kd.V_elderB (by (with_reducible repeat (first | apply Kd.V_alloc | apply Kd.V_drewN | apply Kd.V_drew)); exact HO351.out) gb356 (Nat.le_of_eq hg.symm)) hb); have n1_ := Aside0.mk (Kd.S_below (by exact SX_ HO354.out) hb); have n2_ := Aside0.mk (blk_below (g := gb348) (o := .cells #[.slice A0_0 l0_0.length c0_0, .slice A0_1 l0_1.length c0_1] 26 (0, 0)) (by exact KX_ BK348.out) hb); have n3_ := Aside0.mk (below_step (B1_) hb); have n4_ := Aside0.mk (hbox); have n5_ := Aside0.mk ((by rw [hg]; exact (below_size (B1_)) : w.heap.size ≤ gb356)); have n6_ := Aside0.mk ((by rw [hg]; exact (below_size (B1_)) : w.heap.size ≤ gb356)); have n7_ := Aside0.mk ((by rw [hg]; exact Nat.ne_of_lt (blk_lt (g := gb348) (o := .cells #[.slice A0_0 l0_0.length c0_0, .slice A0_1 l0_1.length c0_1] 26 (0, 0)) (by exact KX_ BK348.out)) : gb348 ≠ gb356)); have n8_ := Aside0.mk ((by rw [hg]; exact Nat.ne_of_gt (blk_lt (g := gb348) (o := .cells #[.slice A0_0 l0_0.length c0_0, .slice A0_1 l0_1.length c0_1] 26 (0, 0)) (by exact KX_ BK348.out)) : gb356 ≠ gb348)); clear HO351; clear HO354; clear BK348; clear HB; have HO351 := n0_; have HO354 := n1_; have BK348 := n2_; have HB := n3_; have BK356 := n4_; have GW356 := n5_; have GE356 := n6_; have NB348_356 := n7_; have NB356_348 := n8_; clear n0_ n1_ n2_ n3_ n4_ n5_ n6_ n7_ n8_; clear hb hbox hg; obtain ⟨Ao9, co9, eo9⟩ := Kd.V_slice HO351.out; subst eo9; have hnb10 := NB356_348.out; have hnc10 := NB348_356.out; have hcz11_0 : w8.cell? ⟨gb356, 0, none⟩ = some (.slice none 0 0) := (blk_cell BK356.out 0).trans rfl; have hcz11_1 : w8.cell? ⟨gb356, 1, none⟩ = some (.slice none 0 0) := (blk_cell BK356.out 1).trans rfl; have hfz11_0 := blk_frozen BK356.out 0; have hfz11_1 := blk_frozen BK356.out 1; obtain ⟨Ao12, co12, eo12⟩ := Kd.S_slice HO354.out; subst eo12; have hcz13_0 : w8.cell? ⟨gb348, 0, none⟩ = some (.slice A0_0 l0_0.length c0_0) := (blk_cell BK348.out 0).trans rfl; have hcz13_1 : w8.cell? ⟨gb348, 1, none⟩ = some (.slice A0_1 l0_1.length c0_1) := (blk_cell BK348.out 1).trans rfl; have hfz13_0 := blk_frozen BK348.out 0; have hfz13_1 := blk_frozen BK348.out 1) | (go_at_call 41; (with_reducible refine (lockstepref06_Same.calls k _ _ t349 _ _ t352 _ _ l0_0 _ _ l0_1 t357 _ ?side1 ?side2 ?side3 ?side4 ?side5 ?side6 ?side7 ?side8 A4.out).mono ?_); (case side1 => refine (Kd.V_reads' (e := 31) (base := w.heap.size) (ok := fun k_ => ((some k_ ≠ (.slice Ao12 t352.length co12 : Value).ownBlock ∧ k_ ≠ gb348) ∧ k_ ≠ gb356)) (n := t349.length) (c := co9) ?_).2.2; exact (by (with_reducible repeat (first | apply Kd.V_alloc | apply Kd.V_drewN | apply Kd.V_drew)); exact (Kd.V_mono (Kd.V_far (p := ⟨gb356, 1, none⟩) (Kd.V_far (p := ⟨gb356, 0, none⟩) (Kd.V_mono HO351.out (fun k_ hk => (⟨hk, hk.2⟩ : _ ∧ k_ ≠ gb356))) (fun _ hk => hk.2) (.slice Ao9 t349.length co9)) (fun _ hk => hk.2) (.slice Ao12 t352.length co12)) (fun _ h_ => h_.1)))); (case side2 => exact (Kd.V_reads' HO351.out).2.1); (case side3 => refine (Kd.S_reads' (e := 31) (base := w.heap.size) (ok := fun k_ => True) (n := t352.length) (c := co12) ?_).2.2; exact (by (with_reducible repeat (first | apply Kd.S_alloc | apply Kd.S_drewN | apply Kd.S_drew)); exact (Kd.S_mono (Kd.S_far (p := ⟨gb356, 1, none⟩) (Kd.S_far (p := ⟨gb356, 0, none⟩) (Kd.S_types HO354.out BK356.out (by decide)) (fun _ hk => hk.2) (.slice Ao9 t349.length co9)) (fun _ hk => hk.2) (.slice Ao12 t352.length co12)) (fun _ h_ => h_.1)))); (case side4 => exact (Kd.S_reads' HO354.out).2.1); (case side5 => exact Kd.C_below HR0_0.out (B1_)); (case side6 => exact HC0_0.out); (case side7 => exact Kd.C_below HR0_1.out (B1_)); (case side8 => exact HC0_1.out); rintro e w14 ⟨rfl, hb⟩; have n0_ := Aside0.mk (Kd.V_below (by (with_reducible repeat (first | apply Kd.V_alloc | apply Kd.V_drewN | apply Kd.V_drew)); exact (Kd.V_mono (Kd.V_far (p := ⟨gb356, 1, none⟩) (Kd.V_far (p := ⟨gb356, 0, none⟩) (Kd.V_mono HO351.out (fun k_ hk => (⟨hk, hk.2⟩ : _ ∧ k_ ≠ gb356))) (fun _ hk => hk.2) (.slice Ao9 t349.length co9)) (fun _ hk => hk.2) (.slice Ao12 t352.length co12)) (fun _ h_ => h_.1))) hb); have n1_ := Aside0.mk (Kd.S_below (by (with_reducible repeat (first | apply Kd.S_alloc | apply Kd.S_drewN | apply Kd.S_drew)); exact (Kd.S_mono (Kd.S_far (p := ⟨gb356, 1, none⟩) (Kd.S_far (p := ⟨gb356, 0, none⟩) (Kd.S_types HO354.out BK356.out (by decide)) (fun _ hk => hk.2) (.slice Ao9 t349.length co9)) (fun _ hk => hk.2) (.slice Ao12 t352.length co12)) (fun _ h_ => h_.1))) hb); have n2_ := Aside0.mk (blk_below (g := gb348) (o := .cells #[.slice A0_0 l0_0.length c0_0, .slice A0_1 l0_1.length c0_1] 26 (0, 0)) (by (with_reducible repeat (first | refine blk_drewN ?_ _ | refine blk_drew ?_ | refine blk_alloc ?_ _)); refine blk_far ?_ NB348_356.out _; (with_reducible repeat (first | refine blk_drewN ?_ _ | refine blk_drew ?_ | refine blk_alloc ?_ _)); refine blk_far ?_ NB348_356.out _; exact KX_ BK348.out) hb); have n3_ := Aside0.mk (blk_below (g := gb356) (o := .cells #[.slice Ao9 t349.length co9, .slice Ao12 t352.length co12] 26 (0, 0)) (by (with_reducible repeat (first | refine blk_drewN ?_ _ | refine blk_drew ?_ | refine blk_alloc ?_ _)); refine blk_put (cs := #[.slice Ao9 t349.length co9, .slice none 0 0]) ?_ 1 _ rfl; (with_reducible repeat (first | refine blk_drewN ?_ _ | refine blk_drew ?_ | refine blk_alloc ?_ _)); refine blk_put (cs := #[.slice none 0 0, .slice none 0 0]) ?_ 0 _ rfl; exact KX_ BK356.out) hb); have n4_ := Aside0.mk (below_step (B1_) hb); clear HO351; clear HO354; clear BK348; clear BK356; clear HB; have HO351 := n0_; have HO354 := n1_; have BK348 := n2_; have BK356 := n3_; have HB := n4_; clear n0_ n1_ n2_ n3_ n4_; (try clear hb); (try clear hb2); (try clear hk); (try clear hi)))
  go_ret
  exact ⟨by first | rfl | (simp [errW_none, errW_some] <;> rfl) | (simp [*, errW_none, errW_some] <;> rfl), B1_⟩
 rw [if_neg c3] at H
 have c3b0 : (t355 == 0) = false := beq_eq_false_iff_ne.mpr c3
 have c3b1 : (t355 != 0) = true := bne_iff_ne.mpr c3
 obtain rfl := Option.some.inj H
 go_enter Try.func31, Try.ntmps31
 go_wp2_with (first | ((with_reducible refine gate_dst (N := 1) rfl ?_); refine box_event ?hg (N := 1) ?hd (cs := #[.slice A0_0 l0_0.length c0_0, .slice A0_1 l0_1.length c0_1]) (t := 26) ?hr ?_; (case hd => rfl); (case hg => rfl); (case hr => first | (go_simp; done) | (go_simp; rfl)); intro gb348 hg w15 hbox hb; have n0_ := Aside0.mk (below_step (B_) hb); have n1_ := Aside0.mk (hbox); have n2_ := Aside0.mk ((by rw [hg]; exact (below_size (B_)) : w.heap.size ≤ gb348)); have n3_ := Aside0.mk ((by rw [hg]; exact (below_size (B_)) : w.heap.size ≤ gb348)); clear HB; have HB := n0_; have BK348 := n1_; have GW348 := n2_; have GE348 := n3_; clear n0_ n1_ n2_ n3_; clear hb hbox hg; have hcz16_0 : w15.cell? ⟨gb348, 0, none⟩ = some (.slice A0_0 l0_0.length c0_0) := (blk_cell BK348.out 0).trans rfl; have hcz16_1 : w15.cell? ⟨gb348, 1, none⟩ = some (.slice A0_1 l0_1.length c0_1) := (blk_cell BK348.out 1).trans rfl; have hfz16_0 := blk_frozen BK348.out 0; have hfz16_1 := blk_frozen BK348.out 1) | ((with_reducible refine gate_callee (f := 40) rfl ?_); refine goesL_ (some 8) rfl rfl Try.func40 (by kernel_rfl) rfl #[.slice A0_0 l0_0.length c0_0] rfl (by (try simp only [List.map_toArray, List.map_cons, List.map_nil]); first | done | rfl | (simp only [List.length_drop, List.length_take]; rfl)) ?_; (with_reducible refine (lockstepref06_Make.calls k (fun k_ => k_ < w.heap.size) _ _ l0_0 t349 t352 t355 _ ?side1 A2.out).mono ?_); (case side1 => exact Kd.V_mk HC0_0.out (Kd.F_below (Kd.C_F (Kd.heap_slice 3 (Kd.heap_int .i64)) HR0_0.out) (B1_))); rintro e w17 ⟨v350, v353, rfl, ho0, ho1, hb⟩; refine ⟨_, rfl, ?_⟩; have n0_ := Aside0.mk (Kd.V_lower (Kd.V_mono (ok' := fun k_ => some k_ ≠ (v353 : Value).ownBlock ∧ k_ ≠ gb348) ho0 (fun k_ hk_ => ⟨hk_.2, Or.elim hk_.1 (fun hs_ => fun e_ => Nat.not_le.2 hs_ (by rw [e_]; exact GW348.out)) (fun hn_ => (Kd.freshB (g := gb348) (o := .cells #[.slice A0_0 l0_0.length c0_0, .slice A0_1 l0_1.length c0_1] 26 (0, 0)) (by exact KX_ BK348.out) k_ hn_))⟩)) (below_size (B1_))); have n1_ := Aside0.mk (Kd.S_lower (Kd.S_mono (ok' := fun k_ => True) ho1 (fun _ hk_ => trivial)) (below_size (B1_))); have n2_ := Aside0.mk (blk_below (g := gb348) (o := .cells #[.slice A0_0 l0_0.length c0_0, .slice A0_1 l0_1.length c0_1] 26 (0, 0)) (by exact KX_ BK348.out) hb); have n3_ := Aside0.mk (below_step (B1_) hb); clear BK348; clear HB; have HO351 := n0_; have HO354 := n1_; have BK348 := n2_; have HB := n3_; clear n0_ n1_ n2_ n3_; (try clear hb); (try clear hb2); (try clear hk); (try clear hi); (try clear ho0); (try clear ho1)) | ((with_reducible refine gate_dst (N := 3) rfl ?_); refine box_event ?hg (N := 3) ?hd (cs := #[.slice none 0 0, .slice none 0 0]) (t := 26) ?hr ?_; (case hd => rfl); (case hg => rfl); (case hr => first | (go_simp; done) | (go_simp; rfl)); intro gb356 hg w18 hbox hb; have n0_ := Aside0.mk (Kd.V_below (Kd.V_elderB (by (with_reducible repeat (first | apply Kd.V_alloc | apply Kd.V_drewN | apply Kd.V_drew)); exact HO351.out) gb356 (Nat.le_of_eq hg.symm)) hb); have n1_ := Aside0.mk (Kd.S_below (by exact SX_ HO354.out) hb); have n2_ := Aside0.mk (blk_below (g := gb348) (o := .cells #[.slice A0_0 l0_0.length c0_0, .slice A0_1 l0_1.length c0_1] 26 (0, 0)) (by exact KX_ BK348.out) hb); have n3_ := Aside0.mk (below_step (B1_) hb); have n4_ := Aside0.mk (hbox); have n5_ := Aside0.mk ((by rw [hg]; exact (below_size (B1_)) : w.heap.size ≤ gb356)); have n6_ := Aside0.mk ((by rw [hg]; exact (below_size (B1_)) : w.heap.size ≤ gb356)); have n7_ := Aside0.mk ((by rw [hg]; exact Nat.ne_of_lt (blk_lt (g := gb348) (o := .cells #[.slice A0_0 l0_0.length c0_0, .slice A0_1 l0_1.length c0_1] 26 (0, 0)) (by exact KX_ BK348.out)) : gb348 ≠ gb356)); have n8_ := Aside0.mk ((by rw [hg]; exact Nat.ne_of_gt (blk_lt (g := gb348) (o := .cells #[.slice A0_0 l0_0.length c0_0, .slice A0_1 l0_1.length c0_1] 26 (0, 0)) (by exact KX_ BK348.out)) : gb356 ≠ gb348)); clear HO351; clear HO354; clear BK348; clear HB; have HO351 := n0_; have HO354 := n1_; have BK348 := n2_; have HB := n3_; have BK356 := n4_; have GW356 := n5_; have GE356 := n6_; have NB348_356 := n7_; have NB356_348 := n8_; clear n0_ n1_ n2_ n3_ n4_ n5_ n6_ n7_ n8_; clear hb hbox hg; obtain ⟨Ao19, co19, eo19⟩ := Kd.V_slice HO351.out; subst eo19; have hnb20 := NB356_348.out; have hnc20 := NB348_356.out; have hcz21_0 : w18.cell? ⟨gb356, 0, none⟩ = some (.slice none 0 0) := (blk_cell BK356.out 0).trans rfl; have hcz21_1 : w18.cell? ⟨gb356, 1, none⟩ = some (.slice none 0 0) := (blk_cell BK356.out 1).trans rfl; have hfz21_0 := blk_frozen BK356.out 0; have hfz21_1 := blk_frozen BK356.out 1; obtain ⟨Ao22, co22, eo22⟩ := Kd.S_slice HO354.out; subst eo22))
 go_ret
 exact ⟨by first | rfl | (simp [errW_none, errW_some] <;> rfl) | (simp [*, errW_none, errW_some] <;> rfl), B1_⟩


/-! ### lockstepref07_Tree: function 14 -/
mutual
def lockstepref07_Tree.j0 : Nat → Int → Bool → List (List Int) → List (List Int) → Option (List Int)
 | 0, _, _, _, _ => none
 | k + 1, x1, x29, x359000, x359001 => if x29 = true then (some ([] : List Int)) else ((lockstepref06_Reach.f k x359000 x359001 x1 (-1)).bind fun t360 => (if 0 ≤ (x359000.length : Int) then (if ((x359000.length : Int) : Int).toNat ≤ 11728124029610 then (lockstepref07_Tree.l0 k x1 (x359000.length : Int) t360 (List.replicate ((x359000.length : Int) : Int).toNat []) 0 x359000 x359001) else (none)) else (none)))
def lockstepref07_Tree.l0 : Nat → Int → Int → List Bool → List (List Bool) → Int → List (List Int) → List (List Int) → Option (List Int)
 | 0, _, _, _, _, _, _, _ => none
 | k + 1, x1, x5, x6, x7, x8, x359000, x359001 => if x8 < x5 then (if 0 ≤ x5 then (if (x5 : Int).toNat ≤ 281474976710656 then (if 0 ≤ x8 then (if x8 < (x7.length : Int) then ((lockstepref06_Reach.f k x359000 x359001 x1 x8).bind fun t370 => (lockstepref07_Tree.l1 k x1 x5 x6 (x7.set (x8 : Int).toNat (List.replicate (x5 : Int).toNat false)) x8 t370 0 x359000 x359001)) else (none)) else (none)) else (none)) else (none)) else (if 0 ≤ x5 then (if (x5 : Int).toNat ≤ 35184372088832 then (lockstepref07_Tree.l2 k x1 x5 x7 (List.replicate (x5 : Int).toNat 0) 0) else (none)) else (none))
def lockstepref07_Tree.l1 : Nat → Int → Int → List Bool → List (List Bool) → Int → List Bool → Int → List (List Int) → List (List Int) → Option (List Int)
 | 0, _, _, _, _, _, _, _, _, _ => none
 | k + 1, x1, x5, x6, x7, x8, x9, x10, x359000, x359001 => if x10 < x5 then (if 0 ≤ x8 then (if x8 < (x7.length : Int) then (if 0 ≤ x10 then (if x10 < (x6.length : Int) then (if rdOf false x6 x10 = true then (if x10 < (x9.length : Int) then (if x10 < ((rd_L3 x7 x8).length : Int) then (lockstepref07_Tree.l1 k x1 x5 x6 (x7.set (x8 : Int).toNat ((rd_L3 x7 x8).set (x10 : Int).toNat (!(rdOf false x9 x10)))) x8 x9 (wrap64 (x10 + 1)) x359000 x359001) else (none)) else (none)) else (if x10 < ((rd_L3 x7 x8).length : Int) then (lockstepref07_Tree.l1 k x1 x5 x6 (x7.set (x8 : Int).toNat ((rd_L3 x7 x8).set (x10 : Int).toNat false)) x8 x9 (wrap64 (x10 + 1)) x359000 x359001) else (none))) else (none)) else (none)) else (none)) else (none)) else (lockstepref07_Tree.l0 k x1 x5 x6 x7 (wrap64 (x8 + 1)) x359000 x359001)
def lockstepref07_Tree.l2 : Nat → Int → Int → List (List Bool) → List Int → Int → Option (List Int)
 | 0, _, _, _, _, _ => none
 | k + 1, x1, x5, x7, x11, x12 => if x12 < x5 then (if 0 ≤ x12 then (if x12 < (x11.length : Int) then ((some (x11.set (x12 : Int).toNat (-2) : List Int)).bind fun y385 => (if x12 = x1 then (lockstepref07_Tree.j4 k x1 x5 x7 (y385.set (x12 : Int).toNat (-1)) x12) else (lockstepref07_Tree.j4 k x1 x5 x7 y385 x12))) else (none)) else (none)) else (some x11)
def lockstepref07_Tree.j4 : Nat → Int → Int → List (List Bool) → List Int → Int → Option (List Int)
 | 0, _, _, _, _, _ => none
 | k + 1, x1, x5, x7, x11, x12 => lockstepref07_Tree.l3 k x1 x5 x7 x11 x12 0
def lockstepref07_Tree.l3 : Nat → Int → Int → List (List Bool) → List Int → Int → Int → Option (List Int)
 | 0, _, _, _, _, _, _ => none
 | k + 1, x1, x5, x7, x11, x12, x13 => if x13 < x5 then (lockstepref07_Tree.j6 k x1 x5 x7 x11 x12 x13 (x12 != x1)) else (lockstepref07_Tree.j6 k x1 x5 x7 x11 x12 x13 false)
def lockstepref07_Tree.j6 : Nat → Int → Int → List (List Bool) → List Int → Int → Int → Bool → Option (List Int)
 | 0, _, _, _, _, _, _, _ => none
 | k + 1, x1, x5, x7, x11, x12, x13, x97 => if x97 = true then (if x13 = x12 then (lockstepref07_Tree.j7 k x1 x5 x7 x11 x12 x13 true) else (if 0 ≤ x13 then (if x13 < (x7.length : Int) then (if 0 ≤ x12 then (if x12 < ((rd_L3 x7 x13).length : Int) then (lockstepref07_Tree.j7 k x1 x5 x7 x11 x12 x13 (!(rdOf false (rd_L3 x7 x13) x12))) else (none)) else (none)) else (none)) else (none))) else (lockstepref07_Tree.l2 k x1 x5 x7 x11 (wrap64 (x12 + 1)))
def lockstepref07_Tree.j7 : Nat → Int → Int → List (List Bool) → List Int → Int → Int → Bool → Option (List Int)
 | 0, _, _, _, _, _, _, _ => none
 | k + 1, x1, x5, x7, x11, x12, x13, x112 => if x112 = true then (lockstepref07_Tree.l3 k x1 x5 x7 x11 x12 (wrap64 (x13 + 1))) else (lockstepref07_Tree.l4 k x1 x5 x7 x11 x12 x13 true 0)
def lockstepref07_Tree.l4 : Nat → Int → Int → List (List Bool) → List Int → Int → Int → Bool → Int → Option (List Int)
 | 0, _, _, _, _, _, _, _, _ => none
 | k + 1, x1, x5, x7, x11, x12, x13, x14, x15 => if x15 < x5 then (if x14 = true then (if x15 = x12 then (lockstepref07_Tree.l4 k x1 x5 x7 x11 x12 x13 true (wrap64 (x15 + 1))) else (if 0 ≤ x15 then (if x15 < (x7.length : Int) then (if 0 ≤ x12 then (if x12 < ((rd_L3 x7 x15).length : Int) then (if (rdOf false (rd_L3 x7 x15) x12 = true) then (if 0 ≤ x13 then (if x13 < ((rd_L3 x7 x15).length : Int) then (lockstepref07_Tree.l4 k x1 x5 x7 x11 x12 x13 (rdOf false (rd_L3 x7 x15) x13) (wrap64 (x15 + 1))) else (none)) else (none)) else (lockstepref07_Tree.l4 k x1 x5 x7 x11 x12 x13 true (wrap64 (x15 + 1)))) else (none)) else (none)) else (none)) else (none))) else (lockstepref07_Tree.l4 k x1 x5 x7 x11 x12 x13 false (wrap64 (x15 + 1)))) else (if x14 = true then (if 0 ≤ x12 then (if x12 < (x11.length : Int) then (lockstepref07_Tree.l3 k x1 x5 x7 (x11.set (x12 : Int).toNat x13) x12 (wrap64 (x13 + 1))) else (none)) else (none)) else (lockstepref07_Tree.l3 k x1 x5 x7 x11 x12 (wrap64 (x13 + 1))))
end
def lockstepref07_Tree.f (k : Nat) (l0_0 : List (List Int)) (l0_1 : List (List Int)) (a1 : Int) : Option (List Int) := (lockstepref06_May.f k l0_0 l0_1).bind fun t359 => (if t359 = true then (if a1 < 0 then (lockstepref07_Tree.j0 k a1 true l0_0 l0_1) else (lockstepref07_Tree.j0 k a1 (decide (a1 ≥ (l0_0.length : Int))) l0_0 l0_1)) else (lockstepref07_Tree.j0 k a1 true l0_0 l0_1))
theorem lockstepref07_Tree.mono_l : ∀ k, (∀ y0 y1 y2 y3, LeO (lockstepref07_Tree.j0 k y0 y1 y2 y3) (lockstepref07_Tree.j0 (k + 1) y0 y1 y2 y3)) ∧ (∀ y0 y1 y2 y3 y4 y5 y6, LeO (lockstepref07_Tree.l0 k y0 y1 y2 y3 y4 y5 y6) (lockstepref07_Tree.l0 (k + 1) y0 y1 y2 y3 y4 y5 y6)) ∧ (∀ y0 y1 y2 y3 y4 y5 y6 y7 y8, LeO (lockstepref07_Tree.l1 k y0 y1 y2 y3 y4 y5 y6 y7 y8) (lockstepref07_Tree.l1 (k + 1) y0 y1 y2 y3 y4 y5 y6 y7 y8)) ∧ (∀ y0 y1 y2 y3 y4, LeO (lockstepref07_Tree.l2 k y0 y1 y2 y3 y4) (lockstepref07_Tree.l2 (k + 1) y0 y1 y2 y3 y4)) ∧ (∀ y0 y1 y2 y3 y4, LeO (lockstepref07_Tree.j4 k y0 y1 y2 y3 y4) (lockstepref07_Tree.j4 (k + 1) y0 y1 y2 y3 y4)) ∧ (∀ y0 y1 y2 y3 y4 y5, LeO (lockstepref07_Tree.l3 k y0 y1 y2 y3 y4 y5) (lockstepref07_Tree.l3 (k + 1) y0 y1 y2 y3 y4 y5)) ∧ (∀ y0 y1 y2 y3 y4 y5 y6, LeO (lockstepref07_Tree.j6 k y0 y1 y2 y3 y4 y5 y6) (lockstepref07_Tree.j6 (k + 1) y0 y1 y2 y3 y4 y5 y6)) ∧ (∀ y0 y1 y2 y3 y4 y5 y6, LeO (lockstepref07_Tree.j7 k y0 y1 y2 y3 y4 y5 y6) (lockstepref07_Tree.j7 (k + 1) y0 y1 y2 y3 y4 y5 y6)) ∧ (∀ y0 y1 y2 y3 y4 y5 y6 y7, LeO (lockstepref07_Tree.l4 k y0 y1 y2 y3 y4 y5 y6 y7) (lockstepref07_Tree.l4 (k + 1) y0 y1 y2 y3 y4 y5 y6 y7))
 | 0 => ⟨fun _ _ _ _ r h => by simp [lockstepref07_Tree.j0] at h, fun _ _ _ _ _ _ _ r h => by simp [lockstepref07_Tree.l0] at h, fun _ _ _ _ _ _ _ _ _ r h => by simp [lockstepref07_Tree.l1] at h, fun _ _ _ _ _ r h => by simp [lockstepref07_Tree.l2] at h, fun _ _ _ _ _ r h => by simp [lockstepref07_Tree.j4] at h, fun _ _ _ _ _ _ r h => by simp [lockstepref07_Tree.l3] at h, fun _ _ _ _ _ _ _ r h => by simp [lockstepref07_Tree.j6] at h, fun _ _ _ _ _ _ _ r h => by simp [lockstepref07_Tree.j7] at h, fun _ _ _ _ _ _ _ _ r h => by simp [lockstepref07_Tree.l4] at h⟩
 | k + 1 => by
  obtain ⟨ih0, ih1, ih2, ih3, ih4, ih5, ih6, ih7, ih8⟩ := lockstepref07_Tree.mono_l k
  refine ⟨?_, ?_, ?_, ?_, ?_, ?_, ?_, ?_, ?_⟩
  ·intro y0 y1 y2 y3
   unfold lockstepref07_Tree.j0
   repeat' first
   | (with_reducible exact ih0 _ _ _ _)
   | (with_reducible exact ih1 _ _ _ _ _ _ _)
   | (with_reducible exact ih2 _ _ _ _ _ _ _ _ _)
   | (with_reducible exact ih3 _ _ _ _ _)
   | (with_reducible exact ih4 _ _ _ _ _)
   | (with_reducible exact ih5 _ _ _ _ _ _)
   | (with_reducible exact ih6 _ _ _ _ _ _ _)
   | (with_reducible exact ih7 _ _ _ _ _ _ _)
   | (with_reducible exact ih8 _ _ _ _ _ _ _ _)
   | (with_reducible exact lockstepref06_May.mono _ _ _)
   | (with_reducible exact lockstepref06_Reach.mono _ _ _ _ _)
   | (with_reducible exact LeO.refl _)
   | (with_reducible exact LeO.none _)
   | (with_reducible refine LeO.ite ?_ ?_)
   | (with_reducible refine LeO.bind ?_ (fun _ => ?_))
   | exact ih0 _ _ _ _
   | exact ih1 _ _ _ _ _ _ _
   | exact ih2 _ _ _ _ _ _ _ _ _
   | exact ih3 _ _ _ _ _
   | exact ih4 _ _ _ _ _
   | exact ih5 _ _ _ _ _ _
   | exact ih6 _ _ _ _ _ _ _
   | exact ih7 _ _ _ _ _ _ _
   | exact ih8 _ _ _ _ _ _ _ _
   | exact lockstepref06_May.mono _ _ _
   | exact lockstepref06_Reach.mono _ _ _ _ _
   | exact LeO.none _
   | refine LeO.ite ?_ ?_
   | refine LeO.bind ?_ (fun _ => ?_)
  ·intro y0 y1 y2 y3 y4 y5 y6
   unfold lockstepref07_Tree.l0
   repeat' first
   | (with_reducible exact ih0 _ _ _ _)
   | (with_reducible exact ih1 _ _ _ _ _ _ _)
   | (with_reducible exact ih2 _ _ _ _ _ _ _ _ _)
   | (with_reducible exact ih3 _ _ _ _ _)
   | (with_reducible exact ih4 _ _ _ _ _)
   | (with_reducible exact ih5 _ _ _ _ _ _)
   | (with_reducible exact ih6 _ _ _ _ _ _ _)
   | (with_reducible exact ih7 _ _ _ _ _ _ _)
   | (with_reducible exact ih8 _ _ _ _ _ _ _ _)
   | (with_reducible exact lockstepref06_May.mono _ _ _)
   | (with_reducible exact lockstepref06_Reach.mono _ _ _ _ _)
   | (with_reducible exact LeO.refl _)
   | (with_reducible exact LeO.none _)
   | (with_reducible refine LeO.ite ?_ ?_)
   | (with_reducible refine LeO.bind ?_ (fun _ => ?_))
   | exact ih0 _ _ _ _
   | exact ih1 _ _ _ _ _ _ _
   | exact ih2 _ _ _ _ _ _ _ _ _
   | exact ih3 _ _ _ _ _
   | exact ih4 _ _ _ _ _
   | exact ih5 _ _ _ _ _ _
   | exact ih6 _ _ _ _ _ _ _
   | exact ih7 _ _ _ _ _ _ _
   | exact ih8 _ _ _ _ _ _ _ _
   | exact lockstepref06_May.mono _ _ _
   | exact lockstepref06_Reach.mono _ _ _ _ _
   | exact LeO.none _
   | refine LeO.ite ?_ ?_
   | refine LeO.bind ?_ (fun _ => ?_)
  ·intro y0 y1 y2 y3 y4 y5 y6 y7 y8
   unfold lockstepref07_Tree.l1
   repeat' first
   | (with_reducible exact ih0 _ _ _ _)
   | (with_reducible exact ih1 _ _ _ _ _ _ _)
   | (with_reducible exact ih2 _ _ _ _ _ _ _ _ _)
   | (with_reducible exact ih3 _ _ _ _ _)
   | (with_reducible exact ih4 _ _ _ _ _)
   | (with_reducible exact ih5 _ _ _ _ _ _)
   | (with_reducible exact ih6 _ _ _ _ _ _ _)
   | (with_reducible exact ih7 _ _ _ _ _ _ _)
   | (with_reducible exact ih8 _ _ _ _ _ _ _ _)
   | (with_reducible exact lockstepref06_May.mono _ _ _)
   | (with_reducible exact lockstepref06_Reach.mono _ _ _ _ _)
   | (with_reducible exact LeO.refl _)
   | (with_reducible exact LeO.none _)
   | (with_reducible refine LeO.ite ?_ ?_)
   | (with_reducible refine LeO.bind ?_ (fun _ => ?_))
   | exact ih0 _ _ _ _
   | exact ih1 _ _ _ _ _ _ _
   | exact ih2 _ _ _ _ _ _ _ _ _
   | exact ih3 _ _ _ _ _
   | exact ih4 _ _ _ _ _
   | exact ih5 _ _ _ _ _ _
   | exact ih6 _ _ _ _ _ _ _
   | exact ih7 _ _ _ _ _ _ _
   | exact ih8 _ _ _ _ _ _ _ _
   | exact lockstepref06_May.mono _ _ _
   | exact lockstepref06_Reach.mono _ _ _ _ _
   | exact LeO.none _
   | refine LeO.ite ?_ ?_
   | refine LeO.bind ?_ (fun _ => ?_)
  ·intro y0 y1 y2 y3 y4
   unfold lockstepref07_Tree.l2
   repeat' first
   | (with_reducible exact ih0 _ _ _ _)
   | (with_reducible exact ih1 _ _ _ _ _ _ _)
   | (with_reducible exact ih2 _ _ _ _ _ _ _ _ _)
   | (with_reducible exact ih3 _ _ _ _ _)
   | (with_reducible exact ih4 _ _ _ _ _)
   | (with_reducible exact ih5 _ _ _ _ _ _)
   | (with_reducible exact ih6 _ _ _ _ _ _ _)
   | (with_reducible exact ih7 _ _ _ _ _ _ _)
   | (with_reducible exact ih8 _ _ _ _ _ _ _ _)
   | (with_reducible exact lockstepref06_May.mono _ _ _)
   | (with_reducible exact lockstepref06_Reach.mono _ _ _ _ _)
   | (with_reducible exact LeO.refl _)
   | (with_reducible exact LeO.none _)
   | (with_reducible refine LeO.ite ?_ ?_)
   | (with_reducible refine LeO.bind ?_ (fun _ => ?_))
   | exact ih0 _ _ _ _
   | exact ih1 _ _ _ _ _ _ _
   | exact ih2 _ _ _ _ _ _ _ _ _
   | exact ih3 _ _ _ _ _
   | exact ih4 _ _ _ _ _
   | exact ih5 _ _ _ _ _ _
   | exact ih6 _ _ _ _ _ _ _
   | exact ih7 _ _ _ _ _ _ _
   | exact ih8 _ _ _ _ _ _ _ _
   | exact lockstepref06_May.mono _ _ _
   | exact lockstepref06_Reach.mono _ _ _ _ _
   | exact LeO.none _
   | refine LeO.ite ?_ ?_
   | refine LeO.bind ?_ (fun _ => ?_)
  ·intro y0 y1 y2 y3 y4
   unfold lockstepref07_Tree.j4
   repeat' first
   | (with_reducible exact ih0 _ _ _ _)
   | (with_reducible exact ih1 _ _ _ _ _ _ _)
   | (with_reducible exact ih2 _ _ _ _ _ _ _ _ _)
   | (with_reducible exact ih3 _ _ _ _ _)
   | (with_reducible exact ih4 _ _ _ _ _)
   | (with_reducible exact ih5 _ _ _ _ _ _)
   | (with_reducible exact ih6 _ _ _ _ _ _ _)
   | (with_reducible exact ih7 _ _ _ _ _ _ _)
   | (with_reducible exact ih8 _ _ _ _ _ _ _ _)
   | (with_reducible exact lockstepref06_May.mono _ _ _)
   | (with_reducible exact lockstepref06_Reach.mono _ _ _ _ _)
   | (with_reducible exact LeO.refl _)
   | (with_reducible exact LeO.none _)
   | (with_reducible refine LeO.ite ?_ ?_)
   | (with_reducible refine LeO.bind ?_ (fun _ => ?_))
   | exact ih0 _ _ _ _
   | exact ih1 _ _ _ _ _ _ _
   | exact ih2 _ _ _ _ _ _ _ _ _
   | exact ih3 _ _ _ _ _
   | exact ih4 _ _ _ _ _
   | exact ih5 _ _ _ _ _ _
   | exact ih6 _ _ _ _ _ _ _
   | exact ih7 _ _ _ _ _ _ _
   | exact ih8 _ _ _ _ _ _ _ _
   | exact lockstepref06_May.mono _ _ _
   | exact lockstepref06_Reach.mono _ _ _ _ _
   | exact LeO.none _
   | refine LeO.ite ?_ ?_
   | refine LeO.bind ?_ (fun _ => ?_)
  ·intro y0 y1 y2 y3 y4 y5
   unfold lockstepref07_Tree.l3
   repeat' first
   | (with_reducible exact ih0 _ _ _ _)
   | (with_reducible exact ih1 _ _ _ _ _ _ _)
   | (with_reducible exact ih2 _ _ _ _ _ _ _ _ _)
   | (with_reducible exact ih3 _ _ _ _ _)
   | (with_reducible exact ih4 _ _ _ _ _)
   | (with_reducible exact ih5 _ _ _ _ _ _)
   | (with_reducible exact ih6 _ _ _ _ _ _ _)
   | (with_reducible exact ih7 _ _ _ _ _ _ _)
   | (with_reducible exact ih8 _ _ _ _ _ _ _ _)
   | (with_reducible exact lockstepref06_May.mono _ _ _)
   | (with_reducible exact lockstepref06_Reach.mono _ _ _ _ _)
   | (with_reducible exact LeO.refl _)
   | (with_reducible exact LeO.none _)
   | (with_reducible refine LeO.ite ?_ ?_)
   | (with_reducible refine LeO.bind ?_ (fun _ => ?_))
   | exact ih0 _ _ _ _
   | exact ih1 _ _ _ _ _ _ _
   | exact ih2 _ _ _ _ _ _ _ _ _
   | exact ih3 _ _ _ _ _
   | exact ih4 _ _ _ _ _
   | exact ih5 _ _ _ _ _ _
   | exact ih6 _ _ _ _ _ _ _
   | exact ih7 _ _ _ _ _ _ _
   | exact ih8 _ _ _ _ _ _ _ _
   | exact lockstepref06_May.mono _ _ _
   | exact lockstepref06_Reach.mono _ _ _ _ _
   | exact LeO.none _
   | refine LeO.ite ?_ ?_
   | refine LeO.bind ?_ (fun _ => ?_)
  ·intro y0 y1 y2 y3 y4 y5 y6
   unfold lockstepref07_Tree.j6
   repeat' first
   | (with_reducible exact ih0 _ _ _ _)
   | (with_reducible exact ih1 _ _ _ _ _ _ _)
   | (with_reducible exact ih2 _ _ _ _ _ _ _ _ _)
   | (with_reducible exact ih3 _ _ _ _ _)
   | (with_reducible exact ih4 _ _ _ _ _)
   | (with_reducible exact ih5 _ _ _ _ _ _)
   | (with_reducible exact ih6 _ _ _ _ _ _ _)
   | (with_reducible exact ih7 _ _ _ _ _ _ _)
   | (with_reducible exact ih8 _ _ _ _ _ _ _ _)
   | (with_reducible exact lockstepref06_May.mono _ _ _)
   | (with_reducible exact lockstepref06_Reach.mono _ _ _ _ _)
   | (with_reducible exact LeO.refl _)
   | (with_reducible exact LeO.none _)
   | (with_reducible refine LeO.ite ?_ ?_)
   | (with_reducible refine LeO.bind ?_ (fun _ => ?_))
   | exact ih0 _ _ _ _
   | exact ih1 _ _ _ _ _ _ _
   | exact ih2 _ _ _ _ _ _ _ _ _
   | exact ih3 _ _ _ _ _
   | exact ih4 _ _ _ _ _
   | exact ih5 _ _ _ _ _ _
   | exact ih6 _ _ _ _ _ _ _
   | exact ih7 _ _ _ _ _ _ _
   | exact ih8 _ _ _ _ _ _ _ _
   | exact lockstepref06_May.mono _ _ _
   | exact lockstepref06_Reach.mono _ _ _ _ _
   | exact LeO.none _
   | refine LeO.ite ?_ ?_
   | refine LeO.bind ?_ (fun _ => ?_)
  ·intro y0 y1 y2 y3 y4 y5 y6
   unfold lockstepref07_Tree.j7
   repeat' first
   | (with_reducible exact ih0 _ _ _ _)
   | (with_reducible exact ih1 _ _ _ _ _ _ _)
   | (with_reducible exact ih2 _ _ _ _ _ _ _ _ _)
   | (with_reducible exact ih3 _ _ _ _ _)
   | (with_reducible exact ih4 _ _ _ _ _)
   | (with_reducible exact ih5 _ _ _ _ _ _)
   | (with_reducible exact ih6 _ _ _ _ _ _ _)
   | (with_reducible exact ih7 _ _ _ _ _ _ _)
   | (with_reducible exact ih8 _ _ _ _ _ _ _ _)
   | (with_reducible exact lockstepref06_May.mono _ _ _)
   | (with_reducible exact lockstepref06_Reach.mono _ _ _ _ _)
   | (with_reducible exact LeO.refl _)
   | (with_reducible exact LeO.none _)
   | (with_reducible refine LeO.ite ?_ ?_)
   | (with_reducible refine LeO.bind ?_ (fun _ => ?_))
   | exact ih0 _ _ _ _
   | exact ih1 _ _ _ _ _ _ _
   | exact ih2 _ _ _ _ _ _ _ _ _
   | exact ih3 _ _ _ _ _
   | exact ih4 _ _ _ _ _
   | exact ih5 _ _ _ _ _ _
   | exact ih6 _ _ _ _ _ _ _
   | exact ih7 _ _ _ _ _ _ _
   | exact ih8 _ _ _ _ _ _ _ _
   | exact lockstepref06_May.mono _ _ _
   | exact lockstepref06_Reach.mono _ _ _ _ _
   | exact LeO.none _
   | refine LeO.ite ?_ ?_
   | refine LeO.bind ?_ (fun _ => ?_)
  ·intro y0 y1 y2 y3 y4 y5 y6 y7
   unfold lockstepref07_Tree.l4
   repeat' first
   | (with_reducible exact ih0 _ _ _ _)
   | (with_reducible exact ih1 _ _ _ _ _ _ _)
   | (with_reducible exact ih2 _ _ _ _ _ _ _ _ _)
   | (with_reducible exact ih3 _ _ _ _ _)
   | (with_reducible exact ih4 _ _ _ _ _)
   | (with_reducible exact ih5 _ _ _ _ _ _)
   | (with_reducible exact ih6 _ _ _ _ _ _ _)
   | (with_reducible exact ih7 _ _ _ _ _ _ _)
   | (with_reducible exact ih8 _ _ _ _ _ _ _ _)
   | (with_reducible exact lockstepref06_May.mono _ _ _)
   | (with_reducible exact lockstepref06_Reach.mono _ _ _ _ _)
   | (with_reducible exact LeO.refl _)
   | (with_reducible exact LeO.none _)
   | (with_reducible refine LeO.ite ?_ ?_)
   | (with_reducible refine LeO.bind ?_ (fun _ => ?_))
   | exact ih0 _ _ _ _
   | exact ih1 _ _ _ _ _ _ _
   | exact ih2 _ _ _ _ _ _ _ _ _
   | exact ih3 _ _ _ _ _
   | exact ih4 _ _ _ _ _
   | exact ih5 _ _ _ _ _ _
   | exact ih6 _ _ _ _ _ _ _
   | exact ih7 _ _ _ _ _ _ _
   | exact ih8 _ _ _ _ _ _ _ _
   | exact lockstepref06_May.mono _ _ _
   | exact lockstepref06_Reach.mono _ _ _ _ _
   | exact LeO.none _
   | refine LeO.ite ?_ ?_
   | refine LeO.bind ?_ (fun _ => ?_)
theorem lockstepref07_Tree.mono : ∀ a0 a1 a2 k, LeO (lockstepref07_Tree.f k a0 a1 a2) (lockstepref07_Tree.f (k + 1) a0 a1 a2) := by
 intro a0 a1 a2 k
 obtain ⟨ih0, ih1, ih2, ih3, ih4, ih5, ih6, ih7, ih8⟩ := lockstepref07_Tree.mono_l k
 unfold lockstepref07_Tree.f
 repeat' first
  | (with_reducible exact ih0 _ _ _ _)
  | (with_reducible exact ih1 _ _ _ _ _ _ _)
  | (with_reducible exact ih2 _ _ _ _ _ _ _ _ _)
  | (with_reducible exact ih3 _ _ _ _ _)
  | (with_reducible exact ih4 _ _ _ _ _)
  | (with_reducible exact ih5 _ _ _ _ _ _)
  | (with_reducible exact ih6 _ _ _ _ _ _ _)
  | (with_reducible exact ih7 _ _ _ _ _ _ _)
  | (with_reducible exact ih8 _ _ _ _ _ _ _ _)
  | (with_reducible exact lockstepref06_May.mono _ _ _)
  | (with_reducible exact lockstepref06_Reach.mono _ _ _ _ _)
  | (with_reducible exact LeO.refl _)
  | (with_reducible exact LeO.none _)
  | (with_reducible refine LeO.ite ?_ ?_)
  | (with_reducible refine LeO.bind ?_ (fun _ => ?_))
  | exact ih0 _ _ _ _
  | exact ih1 _ _ _ _ _ _ _
  | exact ih2 _ _ _ _ _ _ _ _ _
  | exact ih3 _ _ _ _ _
  | exact ih4 _ _ _ _ _
  | exact ih5 _ _ _ _ _ _
  | exact ih6 _ _ _ _ _ _ _
  | exact ih7 _ _ _ _ _ _ _
  | exact ih8 _ _ _ _ _ _ _ _
  | exact lockstepref06_May.mono _ _ _
  | exact lockstepref06_Reach.mono _ _ _ _ _
  | exact LeO.none _
  | refine LeO.ite ?_ ?_
  | refine LeO.bind ?_ (fun _ => ?_)
def lockstepref07_Tree.T14 : Bool × List (List Nat × List Nat) := (true, [([], []), ([], []), ([0, 1], [0, 1]), ([2], [2]), ([], []), ([], []), ([], []), ([5, 6], [5, 6]), ([7], [7]), ([8], [8]), ([9], [9]), ([9], [9]), ([10, 11, 9], [9, 10, 11]), ([12, 9], [9, 12]), ([13, 9], [9, 13]), ([9, 14], [9, 14]), ([3, 4, 0, 1, 2, 3, 4, 5, 6, 7, 8, 9, 10, 11, 12, 13, 14, 15], [3, 4]), ([16, 15, 9, 0, 1, 2, 3, 4, 5, 6, 7, 8, 9, 10, 11, 12, 13, 14, 15], [15, 16])])
def lockstepref07_Tree.B14 : List Nat := [0, 0, 3, 7, 0, 0, 0, 96, 224, 480, 992, 992, 4064, 8160, 16352, 32736, 65535, 131071]
theorem lockstepref07_Tree.tab14 : rtab .any (opsOf Try.f14 14) = lockstepref07_Tree.T14 := by kernel_rfl
theorem lockstepref07_Tree.bits14 : waitsOk lockstepref07_Tree.T14.2 lockstepref07_Tree.B14 = true := by kernel_rfl
set_option maxHeartbeats 8000000 in
set_option maxRecDepth 100000 in
theorem lockstepref07_Tree.calls (k : Nat) (A0_0 : Option Addr) (c0_0 : Nat) (l0_0 : List (List Int)) (A0_1 : Option Addr) (c0_1 : Nat) (l0_1 : List (List Int)) (a1 : Int) (r : List Int) (w : World) (hr0_0 : Kd.C (Kd.slice 3 (Kd.int .i64)) w A0_0 l0_0.length l0_0) (hc0_0 : l0_0.length ≤ c0_0) (hr0_1 : Kd.C (Kd.slice 3 (Kd.int .i64)) w A0_1 l0_1.length l0_1) (hc0_1 : l0_1.length ≤ c0_1) (h : lockstepref07_Tree.f k l0_0 l0_1 a1 = some r) :
 Calls Try.prog 14 #[.agg #[.slice A0_0 l0_0.length c0_0, .slice A0_1 l0_1.length c0_1], .int .i64 a1] w fun e w' => ∃ v0_ : Value, e = .returned (v0_) ∧ Kd.R (Kd.int .i64) 3 w' w.heap.size (fun _ => True) v0_ r ∧ Below w.heap.size w w' := by
 have hu26 := Try.underlying26
 have HR0_0 := Aside0.mk hr0_0
 have HC0_0 := Aside0.mk hc0_0
 clear hr0_0 hc0_0
 have HR0_1 := Aside0.mk hr0_1
 have HC0_1 := Aside0.mk hc0_1
 clear hr0_1 hc0_1
 have HB := Aside0.mk (Below.refl w.heap.size w)
 have H : ((lockstepref06_May.f k l0_0 l0_1).bind fun t359 => (if t359 = true then (if a1 < 0 then (lockstepref07_Tree.j0 k a1 true l0_0 l0_1) else (lockstepref07_Tree.j0 k a1 (decide (a1 ≥ (l0_0.length : Int))) l0_0 l0_1)) else (lockstepref07_Tree.j0 k a1 true l0_0 l0_1))) = some r := h
 clear h
 have HC3 := Aside0.mk H
 clear H
 go_enter Try.func14, Try.ntmps14
 go_upto_region 1 with (first | ((with_reducible refine gate_dst (N := 2) rfl ?_); (try (refine gate_guard (by rfl) ?_; dsimp only)); refine box_event ?hg (N := 2) ?hd (cs := #[.slice A0_0 l0_0.length c0_0, .slice A0_1 l0_1.length c0_1]) (t := 26) ?hr ?_; (case hd => rfl); (case hg => rfl); (case hr => first | (go_simp; done) | (go_simp; rfl)); intro gb358 hg w4 hbox hb; have n0_ := Aside0.mk (below_step (B_) hb); have n1_ := Aside0.mk (hbox); have n2_ := Aside0.mk ((by rw [hg]; exact (below_size (B_)) : w.heap.size ≤ gb358)); have n3_ := Aside0.mk ((by rw [hg]; exact (below_size (B_)) : w.heap.size ≤ gb358)); clear HB; have HB := n0_; have BK358 := n1_; have GW358 := n2_; have GE358 := n3_; clear n0_ n1_ n2_ n3_; clear hb hbox hg))
 (try simp only [Act.put, List.setIfInBounds_toArray, List.set_cons_zero, List.set_cons_succ])
 go_cut [29] (fun v29 wc => ∃ (kq : Nat) (x29_2 : Bool), v29 = .bool x29_2 ∧ Aside0 (lockstepref07_Tree.j0 kq a1 x29_2 l0_0 l0_1 = some r) ∧ Aside0 (kq ≤ k) ∧ Aside0 (wc.heap[gb358]? = some (.cells #[(.slice A0_0 l0_0.length c0_0), (.slice A0_1 l0_1.length c0_1)] 26 (0, 0))) ∧ Aside0 (Below w.heap.size w wc))
 case first =>
  have H := HC3.out
  clear HC3
  replace H := Option.bind_eq_some_iff.mp H
  obtain ⟨t359, A50, H⟩ := H
  replace H : (if t359 = true then (if a1 < 0 then (lockstepref07_Tree.j0 k a1 true l0_0 l0_1) else (lockstepref07_Tree.j0 k a1 (decide (a1 ≥ (l0_0.length : Int))) l0_0 l0_1)) else (lockstepref07_Tree.j0 k a1 true l0_0 l0_1)) = some r := H
  have A5 := Aside0.mk A50
  clear A50
  by_cases c6 : t359 = true
  ·subst c6
   have H1 : (if a1 < 0 then (lockstepref07_Tree.j0 k a1 true l0_0 l0_1) else (lockstepref07_Tree.j0 k a1 (decide (a1 ≥ (l0_0.length : Int))) l0_0 l0_1)) = some r := by rw [if_pos rfl] at H; exact H
   clear H
   have H := H1
   clear H1
   by_cases c7 : a1 < 0
   ·rw [if_pos c7] at H
    have c7b0 : decide (a1 < 0) = true := decide_eq_true c7
    clear c7
    (first | rw [c7b0] | (simp only [i64_w, i32_w]; rw [c7b0]) | skip)
    have H' := Aside0.mk H
    clear H
    have hcz8_0 : w4.cell? ⟨gb358, 0, none⟩ = some (.slice A0_0 l0_0.length c0_0) := (blk_cell BK358.out 0).trans rfl
    have hcz8_1 : w4.cell? ⟨gb358, 1, none⟩ = some (.slice A0_1 l0_1.length c0_1) := (blk_cell BK358.out 1).trans rfl
    have hfz8_0 := blk_frozen BK358.out 0
    have hfz8_1 := blk_frozen BK358.out 1
    go_wp2_with (first | ((with_reducible refine gate_callee (f := 31) rfl ?_); refine goesL_ (some 17) rfl rfl Try.func31 (by kernel_rfl) rfl #[.agg #[.slice A0_0 l0_0.length c0_0, .slice A0_1 l0_1.length c0_1]] rfl (by (try simp only [List.map_toArray, List.map_cons, List.map_nil]); first | done | rfl | (simp only [List.length_drop, List.length_take]; rfl)) ?_; (with_reducible refine (lockstepref06_May.calls k _ _ l0_0 _ _ l0_1 true _ ?side1 ?side2 ?side3 ?side4 A5.out).mono ?_); (case side1 => exact CX_ (Kd.C_below HR0_0.out HB.out)); (case side2 => exact HC0_0.out); (case side3 => exact CX_ (Kd.C_below HR0_1.out HB.out)); (case side4 => exact HC0_1.out); rintro e w9 ⟨rfl, hb⟩; refine ⟨_, rfl, ?_⟩; have n0_ := Aside0.mk (blk_below (g := gb358) (o := .cells #[.slice A0_0 l0_0.length c0_0, .slice A0_1 l0_1.length c0_1] 26 (0, 0)) (by exact KX_ BK358.out) hb); have n1_ := Aside0.mk (below_step (B1_) hb); clear BK358; clear HB; have BK358 := n0_; have HB := n1_; clear n0_ n1_; (try clear hb); (try clear hb2); (try clear hk); (try clear hi)))
    go_meet
    case rel => exact ⟨_, (true), (by first | rfl | (simp; done) | (simp [*]; done)), H', ⟨by first | omega | exact Nat.le_refl _⟩, ⟨by exact KX_ BK358.out⟩, ⟨B1_⟩⟩
   rw [if_neg c7] at H
   have c7b0 : decide (a1 < 0) = false := decide_eq_false c7
   clear c7
   (first | rw [c7b0] | (simp only [i64_w, i32_w]; rw [c7b0]) | skip)
   have H' := Aside0.mk H
   clear H
   have hcz10_0 : w4.cell? ⟨gb358, 0, none⟩ = some (.slice A0_0 l0_0.length c0_0) := (blk_cell BK358.out 0).trans rfl
   have hcz10_1 : w4.cell? ⟨gb358, 1, none⟩ = some (.slice A0_1 l0_1.length c0_1) := (blk_cell BK358.out 1).trans rfl
   have hfz10_0 := blk_frozen BK358.out 0
   have hfz10_1 := blk_frozen BK358.out 1
   go_wp2_with (first | ((with_reducible refine gate_callee (f := 31) rfl ?_); refine goesL_ (some 17) rfl rfl Try.func31 (by kernel_rfl) rfl #[.agg #[.slice A0_0 l0_0.length c0_0, .slice A0_1 l0_1.length c0_1]] rfl (by (try simp only [List.map_toArray, List.map_cons, List.map_nil]); first | done | rfl | (simp only [List.length_drop, List.length_take]; rfl)) ?_; (with_reducible refine (lockstepref06_May.calls k _ _ l0_0 _ _ l0_1 true _ ?side1 ?side2 ?side3 ?side4 A5.out).mono ?_); (case side1 => exact CX_ (Kd.C_below HR0_0.out HB.out)); (case side2 => exact HC0_0.out); (case side3 => exact CX_ (Kd.C_below HR0_1.out HB.out)); (case side4 => exact HC0_1.out); rintro e w11 ⟨rfl, hb⟩; refine ⟨_, rfl, ?_⟩; have n0_ := Aside0.mk (blk_below (g := gb358) (o := .cells #[.slice A0_0 l0_0.length c0_0, .slice A0_1 l0_1.length c0_1] 26 (0, 0)) (by exact KX_ BK358.out) hb); have n1_ := Aside0.mk (below_step (B1_) hb); clear BK358; clear HB; have BK358 := n0_; have HB := n1_; clear n0_ n1_; (try clear hb); (try clear hb2); (try clear hk); (try clear hi); have hcz12_0 : w11.cell? ⟨gb358, 0, none⟩ = some (.slice A0_0 l0_0.length c0_0) := (blk_cell BK358.out 0).trans rfl; have hcz12_1 : w11.cell? ⟨gb358, 1, none⟩ = some (.slice A0_1 l0_1.length c0_1) := (blk_cell BK358.out 1).trans rfl; have hfz12_0 := blk_frozen BK358.out 0; have hfz12_1 := blk_frozen BK358.out 1))
   go_meet
   case rel => exact ⟨_, (decide (a1 ≥ (l0_0.length : Int))), (by first | rfl | (simp; done) | (simp [*]; done)), H', ⟨by first | omega | exact Nat.le_refl _⟩, ⟨by exact KX_ BK358.out⟩, ⟨B1_⟩⟩
  replace c6 := Bool.eq_false_iff.mpr c6
  subst c6
  have H1 : (lockstepref07_Tree.j0 k a1 true l0_0 l0_1) = some r := by rw [if_neg (show ¬ (false = true) by decide)] at H; exact H
  clear H
  have H := H1
  clear H1
  have H' := Aside0.mk H
  clear H
  have hcz13_0 : w4.cell? ⟨gb358, 0, none⟩ = some (.slice A0_0 l0_0.length c0_0) := (blk_cell BK358.out 0).trans rfl
  have hcz13_1 : w4.cell? ⟨gb358, 1, none⟩ = some (.slice A0_1 l0_1.length c0_1) := (blk_cell BK358.out 1).trans rfl
  have hfz13_0 := blk_frozen BK358.out 0
  have hfz13_1 := blk_frozen BK358.out 1
  go_wp2_with (first | ((with_reducible refine gate_callee (f := 31) rfl ?_); refine goesL_ (some 17) rfl rfl Try.func31 (by kernel_rfl) rfl #[.agg #[.slice A0_0 l0_0.length c0_0, .slice A0_1 l0_1.length c0_1]] rfl (by (try simp only [List.map_toArray, List.map_cons, List.map_nil]); first | done | rfl | (simp only [List.length_drop, List.length_take]; rfl)) ?_; (with_reducible refine (lockstepref06_May.calls k _ _ l0_0 _ _ l0_1 false _ ?side1 ?side2 ?side3 ?side4 A5.out).mono ?_); (case side1 => exact CX_ (Kd.C_below HR0_0.out HB.out)); (case side2 => exact HC0_0.out); (case side3 => exact CX_ (Kd.C_below HR0_1.out HB.out)); (case side4 => exact HC0_1.out); rintro e w14 ⟨rfl, hb⟩; refine ⟨_, rfl, ?_⟩; have n0_ := Aside0.mk (blk_below (g := gb358) (o := .cells #[.slice A0_0 l0_0.length c0_0, .slice A0_1 l0_1.length c0_1] 26 (0, 0)) (by exact KX_ BK358.out) hb); have n1_ := Aside0.mk (below_step (B1_) hb); clear BK358; clear HB; have BK358 := n0_; have HB := n1_; clear n0_ n1_; (try clear hb); (try clear hb2); (try clear hk); (try clear hi)))
  go_meet
  case rel => exact ⟨_, (true), (by first | rfl | (simp; done) | (simp [*]; done)), H', ⟨by first | omega | exact Nat.le_refl _⟩, ⟨by exact KX_ BK358.out⟩, ⟨B1_⟩⟩
 case rest =>
  clear HC3
  obtain ⟨kq, x29_2, rfl, HA, HJ2, BK358, HB⟩ := hcut
  cases kq with
  | zero => exact absurd HA.out (by simp [lockstepref07_Tree.j0])
  | succ kj2 =>
   have H := HA.out
   clear HA
   simp only [lockstepref07_Tree.j0] at H
   by_cases c15 : x29_2 = true
   ·subst c15
    have H1 : (some ([] : List Int)) = some r := by rw [if_pos rfl] at H; exact H
    clear H
    have H := H1
    clear H1
    obtain rfl := Option.some.inj H
    go_wp2
    go_ret
    exact ⟨_, by first | rfl | (simp [errW_none, errW_some] <;> rfl) | (simp [*, errW_none, errW_some] <;> rfl), by first | exact Kd.R_nil _ _ _ _ _ | exact Kd.N_nil _ _ _ _ _ | exact Kd.V_nil _ _ _ _ _ | exact Kd.Q_nil _ _ _ _ _ | exact Kd.S_nil _ _ _ _ _, B1_⟩
   replace c15 := Bool.eq_false_iff.mpr c15
   subst c15
   have H1 : ((lockstepref06_Reach.f kj2 l0_0 l0_1 a1 (-1)).bind fun t360 => (if 0 ≤ (l0_0.length : Int) then (if ((l0_0.length : Int) : Int).toNat ≤ 11728124029610 then (lockstepref07_Tree.l0 kj2 a1 (l0_0.length : Int) t360 (List.replicate ((l0_0.length : Int) : Int).toNat []) 0 l0_0 l0_1) else (none)) else (none))) = some r := by rw [if_neg (show ¬ (false = true) by decide)] at H; exact H
   clear H
   have H := H1
   clear H1
   replace H := Option.bind_eq_some_iff.mp H
   obtain ⟨t360, A160, H⟩ := H
   replace H : (if 0 ≤ (l0_0.length : Int) then (if ((l0_0.length : Int) : Int).toNat ≤ 11728124029610 then (lockstepref07_Tree.l0 kj2 a1 (l0_0.length : Int) t360 (List.replicate ((l0_0.length : Int) : Int).toNat []) 0 l0_0 l0_1) else (none)) else (none)) = some r := H
   have A16 := Aside0.mk A160
   clear A160
   by_cases c17 : 0 ≤ (l0_0.length : Int)
   ·rw [if_pos c17] at H
    have c17b0 := eq_true c17
    have c17b1 : decide (0 ≤ (l0_0.length : Int)) = true := decide_eq_true c17
    clear c17
    by_cases c18 : ((l0_0.length : Int) : Int).toNat ≤ 11728124029610
    ·rw [if_pos c18] at H
     have c18b0 := eq_true c18
     have c18b1 : decide (((l0_0.length : Int) : Int).toNat ≤ 11728124029610) = true := decide_eq_true c18
     clear c18
     obtain ⟨y363, hy363⟩ : ∃ y_ : List (List Bool), y_ = (List.replicate ((l0_0.length : Int) : Int).toNat []) := ⟨_, rfl⟩
     replace H : (lockstepref07_Tree.l0 kj2 a1 (l0_0.length : Int) t360 y363 0 l0_0 l0_1) = some r := by first | (rw [hy363]; with_reducible exact H) | (have H2_ := (Option.bind_some _ _).symm.trans H; rw [hy363]; with_reducible exact H2_) | (have H2_ := (Option.bind_some _ _).symm.trans H; with_reducible exact H2_) | with_reducible exact H | (rw [hy363]; exact H) | exact H
     have Ny363 := Aside0.mk hy363
     clear hy363
     have H' := Aside0.mk H
     clear H
     have hcz19_0 : wc.cell? ⟨gb358, 0, none⟩ = some (.slice A0_0 l0_0.length c0_0) := (blk_cell BK358.out 0).trans rfl
     have hcz19_1 : wc.cell? ⟨gb358, 1, none⟩ = some (.slice A0_1 l0_1.length c0_1) := (blk_cell BK358.out 1).trans rfl
     have hfz19_0 := blk_frozen BK358.out 0
     have hfz19_1 := blk_frozen BK358.out 1
     go_wp2_with (first | ((with_reducible refine gate_callee (f := 22) rfl ?_); refine goesL_ (some 35) rfl rfl Try.func22 (by kernel_rfl) rfl #[.agg #[.slice A0_0 l0_0.length c0_0, .slice A0_1 l0_1.length c0_1], .int .i64 a1, .int .i64 (-1)] rfl (by (try simp only [List.map_toArray, List.map_cons, List.map_nil]); first | done | rfl | (simp only [List.length_drop, List.length_take]; rfl)) ?_; (with_reducible refine (lockstepref06_Reach.calls kj2 _ _ l0_0 _ _ l0_1 a1 (-1) t360 _ ?side1 ?side2 ?side3 ?side4 A16.out).mono ?_); (case side1 => exact CX_ (Kd.C_below HR0_0.out HB.out)); (case side2 => exact HC0_0.out); (case side3 => exact CX_ (Kd.C_below HR0_1.out HB.out)); (case side4 => exact HC0_1.out); rintro e w20 ⟨v361, rfl, ho0, hb⟩; refine ⟨_, rfl, ?_⟩; have n0_ := Aside0.mk (Kd.R_lower ho0 (below_size (B1_))); have n1_ := Aside0.mk (blk_below (g := gb358) (o := .cells #[.slice A0_0 l0_0.length c0_0, .slice A0_1 l0_1.length c0_1] 26 (0, 0)) (by exact KX_ BK358.out) hb); have n2_ := Aside0.mk (below_step (B1_) hb); clear BK358; clear HB; have HO362 := n0_; have BK358 := n1_; have HB := n2_; clear n0_ n1_ n2_; (try clear hb); (try clear hb2); (try clear hk); (try clear hi); (try clear ho0)) | ((with_reducible refine gate_dst (N := 37) rfl ?_); (try (refine gate_guard (by rfl) ?_; dsimp only)); refine Kd.S_make (Kd.slice 4 Kd.bool) _ 39 rfl (N := 37) rfl 49 _ _ rfl (l0_0.length : Int) rfl rfl Try.underlying49 (.slice none 0 0) 24 info39 rfl (by decide) (by omega) [] (ok := fun _ => True) (okp := fun _ => True) ⟨_, rfl, Kd.R_nil _ _ _ _ _⟩ (fun _ hk => hk) trivial (D_) (Nat.le_trans (Nat.mul_le_mul_right _ (D_ : (l0_0.length : Int).toNat ≤ 11728124029610)) (by omega)) (Below.refl _ _) (Nat.le_refl _) ?_; intro v364 w21 ho22 hb hg_ hnew_; clear hg_ hnew_; (first | rw [← Ny363.out] at ho22 | (simp only [Int.reduceToNat] at ho22; rw [← Ny363.out] at ho22)); have n0_ := Aside0.mk (Kd.R_below (by exact RX_ HO362.out) hb); have n1_ := Aside0.mk (Kd.S_lower (Kd.S_new' ho22 (Kd.R_lt (by exact RX_ HO362.out))) (below_size (B1_))); have n2_ := Aside0.mk (blk_below (g := gb358) (o := .cells #[.slice A0_0 l0_0.length c0_0, .slice A0_1 l0_1.length c0_1] 26 (0, 0)) (by exact KX_ BK358.out) hb); have n3_ := Aside0.mk (below_step (B1_) hb); clear HO362; clear BK358; clear HB; have HO362 := n0_; have HO365 := n1_; have BK358 := n2_; have HB := n3_; clear n0_ n1_ n2_ n3_; clear hb ho22))
     go_loopg [8] kj2 (fun kq v8 w' => ∃ (x6_2 : List Bool) (x7_2 : List (List Bool)) (x8_2 : Int), v8 = .int .i64 x8_2 ∧ Aside0 (lockstepref07_Tree.l0 kq a1 (l0_0.length : Int) x6_2 x7_2 x8_2 l0_0 l0_1 = some r) ∧ Aside0 (kq ≤ kj2) ∧ Aside0 (Kd.R Kd.bool 4 w' w.heap.size (fun _ => True) v361 x6_2) ∧ Aside0 (Kd.S (Kd.slice 4 Kd.bool) 39 w' w.heap.size (fun k_ => some k_ ≠ (v361 : Value).ownBlock) v364 x7_2) ∧ Aside0 (w'.heap[gb358]? = some (.cells #[(.slice A0_0 l0_0.length c0_0), (.slice A0_1 l0_1.length c0_1)] 26 (0, 0))) ∧ Aside0 (Below w.heap.size w w'))
     case atStart => exact ⟨(t360), (y363), (0), (by first | rfl | (simp; done) | (simp [*]; done)), H', ⟨Nat.le_refl _⟩, ⟨by exact RM_ HO362.out⟩, ⟨by (with_reducible repeat (first | apply Kd.S_alloc | apply Kd.S_drewN | apply Kd.S_drew)); exact Kd.S_mono HO365.out (fun _ hk => hk.2)⟩, ⟨by exact KX_ BK358.out⟩, ⟨B1_⟩⟩
     case round =>
      clear H'
      try clear c15
      try clear c17b0
      try clear c17b1
      try clear c18b0
      try clear c18b1
      try clear hcz19_0
      try clear hcz19_1
      try clear hfz19_0
      try clear hfz19_1
      obtain ⟨x6_2, x7_2, x8_2, rfl, HA, HK2, HO_6, HO_7, BK358, HB⟩ := hrel
      cases gk with
      | zero => exact absurd HA.out (by simp [lockstepref07_Tree.l0])
      | succ k2 =>
       have H := HA.out
       clear HA
       simp only [lockstepref07_Tree.l0] at H
       by_cases c23 : x8_2 < (l0_0.length : Int)
       ·rw [if_pos c23] at H
        have c23b0 : decide (x8_2 < (l0_0.length : Int)) = true := decide_eq_true c23
        clear c23
        by_cases c24 : 0 ≤ (l0_0.length : Int)
        ·rw [if_pos c24] at H
         have c24b0 := eq_true c24
         have c24b1 : decide (0 ≤ (l0_0.length : Int)) = true := decide_eq_true c24
         clear c24
         by_cases c25 : ((l0_0.length : Int) : Int).toNat ≤ 281474976710656
         ·rw [if_pos c25] at H
          have c25b0 := eq_true c25
          have c25b1 : decide (((l0_0.length : Int) : Int).toNat ≤ 281474976710656) = true := decide_eq_true c25
          clear c25
          obtain ⟨y366, hy366⟩ : ∃ y_ : List Bool, y_ = (List.replicate ((l0_0.length : Int) : Int).toNat false) := ⟨_, rfl⟩
          replace H : (if 0 ≤ x8_2 then (if x8_2 < (x7_2.length : Int) then ((lockstepref06_Reach.f k2 l0_0 l0_1 a1 x8_2).bind fun t370 => (lockstepref07_Tree.l1 k2 a1 (l0_0.length : Int) x6_2 (x7_2.set (x8_2 : Int).toNat y366) x8_2 t370 0 l0_0 l0_1)) else (none)) else (none)) = some r := by first | (rw [hy366]; with_reducible exact H) | (have H2_ := (Option.bind_some _ _).symm.trans H; rw [hy366]; with_reducible exact H2_) | (have H2_ := (Option.bind_some _ _).symm.trans H; with_reducible exact H2_) | with_reducible exact H | (rw [hy366]; exact H) | exact H
          have Ny366 := Aside0.mk hy366
          clear hy366
          by_cases c26 : 0 ≤ x8_2
          ·rw [if_pos c26] at H
           have c26b0 : decide (0 ≤ x8_2) = true := decide_eq_true c26
           clear c26
           by_cases c27 : x8_2 < (x7_2.length : Int)
           ·rw [if_pos c27] at H
            have c27b0 : decide (x8_2 < (x7_2.length : Int)) = true := decide_eq_true c27
            clear c27
            obtain ⟨y369, hy369⟩ : ∃ y_ : List (List Bool), y_ = (x7_2.set (x8_2 : Int).toNat y366) := ⟨_, rfl⟩
            replace H : ((lockstepref06_Reach.f k2 l0_0 l0_1 a1 x8_2).bind fun t370 => (lockstepref07_Tree.l1 k2 a1 (l0_0.length : Int) x6_2 y369 x8_2 t370 0 l0_0 l0_1)) = some r := by first | (rw [hy369]; with_reducible exact H) | (have H2_ := (Option.bind_some _ _).symm.trans H; rw [hy369]; with_reducible exact H2_) | (have H2_ := (Option.bind_some _ _).symm.trans H; with_reducible exact H2_) | with_reducible exact H | (rw [hy369]; exact H) | exact H
            have Ny369 := Aside0.mk hy369
            clear hy369
            replace H := Option.bind_eq_some_iff.mp H
            obtain ⟨t370, A290, H⟩ := H
            replace H : (lockstepref07_Tree.l1 k2 a1 (l0_0.length : Int) x6_2 y369 x8_2 t370 0 l0_0 l0_1) = some r := H
            have A29 := Aside0.mk A290
            clear A290
            have H' := Aside0.mk H
            clear H
            go_wp2_with (first | ((with_reducible refine gate_dst (N := 46) rfl ?_); (try (refine gate_guard (by rfl) ?_; dsimp only)); refine Kd.R_make Kd.bool _ 4 rfl (N := 46) rfl 39 _ _ rfl (l0_0.length : Int) rfl rfl Try.underlying39 (.bool false) 1 info4 rfl (by decide) (by omega) false (ok := fun _ => True) (okp := fun _ => True) rfl (fun _ hk => hk) trivial (D_) (Nat.le_trans (Nat.mul_le_mul_right _ (D_ : (l0_0.length : Int).toNat ≤ 281474976710656)) (by omega)) (Below.refl _ _) (Nat.le_refl _) ?_; intro v367 w30 ho31 hb hg_ hnew_; clear hg_ hnew_; (first | rw [← Ny366.out] at ho31 | (simp only [Int.reduceToNat] at ho31; rw [← Ny366.out] at ho31)); have n0_ := Aside0.mk (Kd.R_elder' (by exact RX_ HO_6.out) (Kd.R_base ho31) hb); have n1_ := Aside0.mk (Kd.S_elder' (by exact SX_ HO_7.out) (Kd.R_base ho31) hb); have n2_ := Aside0.mk (Kd.R_lower (Kd.R_new' ho31 (Kd.R_lt (by exact RX_ HO_6.out))) (below_size (B1_))); have n3_ := Aside0.mk (blk_below (g := gb358) (o := .cells #[.slice A0_0 l0_0.length c0_0, .slice A0_1 l0_1.length c0_1] 26 (0, 0)) (by exact KX_ BK358.out) hb); have n4_ := Aside0.mk (below_step (B1_) hb); clear HO_6; clear HO_7; clear BK358; clear HB; have HO_6 := n0_; have HO_7 := n1_; have HO368 := n2_; obtain ⟨Aq_, cq_, eq_⟩ := Kd.R_slice HO368.out; subst eq_; have BK358 := n3_; have HB := n4_; clear n0_ n1_ n2_ n3_ n4_; clear hb ho31; have p28 : 0 ≤ (x8_2 : Int) := D_; have q28 : (x8_2 : Int) < ((x7_2.length : Int) : Int) := D_; obtain ⟨go28, co28, eo28, gb28, gl28, cl28, HG28⟩ := Kd.S_form HO_7.out (by omega); (first | cases eo28 | (injection eo28 with ea_ en_ ec_; (first | subst ea_ | (injection ea_ with ea_; subst ea_)); subst ec_; clear en_)); have GB28 := Aside0.mk gb28; have GG28 := Aside0.mk HG28; clear gb28 gl28 HG28; obtain ⟨_, ce28, hcl28, hM28, hcc28, hfr28, _, _⟩ := Kd.S_elem HO_7.out [] (x8_2 : Int) p28 q28; obtain ⟨ve28_0, rfl, ge28_0⟩ := hM28; have hx28_0 := hcc28 0 _ rfl; have hf28_0 := hfr28 0; (try simp only [show ((Kd.slice 4 Kd.bool)).sz = 1 from rfl, Nat.mul_one, Nat.add_zero] at hx28_0); (try simp only [show ((Kd.slice 4 Kd.bool)).sz = 1 from rfl, Nat.mul_one, Nat.add_zero] at hf28_0); (try clear hM28); (try clear hfr28); (try clear hcc28); (try clear hcl28); replace p28 := eq_true p28; replace q28 := eq_true q28; have HX32 := Aside0.mk (show Kd.S (Kd.slice 4 Kd.bool) 39 w30 w.heap.size (fun k_ => ((fun k_ => some k_ ≠ (v361 : Value).ownBlock)) k_ ∧ ¬ ((fun k_ => some k_ = ((.slice Aq_ y366.length cq_) : Value).ownBlock)) k_) (.slice (some ⟨go28, 0, none⟩) x7_2.length co28) x7_2 from (by (with_reducible repeat (first | apply Kd.S_alloc | apply Kd.S_drewN | apply Kd.S_drew)); exact Kd.S_mono HO_7.out (fun k_ hk => ⟨hk.1, fun e_ => hk.2 e_⟩))); obtain ⟨oki32, ce32, hcl32, hM32, hcc32, hfr32, hoki32, hH32⟩ := Kd.S_elem HX32.out [] (x8_2 : Int) (D_) (by have h_ : (x8_2 : Int) < ((x7_2.length : Int) : Int) := D_; first | exact h_ | (have e_ := (Kd.S_reads' HO_7.out).1; omega) | simpa using h_); obtain ⟨ve32_0, rfl, ge32_0⟩ := hM32; have HP32 := Kd.S_seg hH32 (D_) (by have h_ : (x8_2 : Int) < ((x7_2.length : Int) : Int) := D_; first | exact h_ | (have e_ := (Kd.S_reads' HO_7.out).1; omega) | simpa using h_) (seg := [(.slice Aq_ y366.length cq_)]) (j := 0) (show 1 ≤ 1 from by decide) (x' := y366) (Kd.M_row (Kd.R_mono (Kd.R_tight rfl (Kd.R_mono (ok' := fun k_ => ((fun k_ => some k_ ≠ (v361 : Value).ownBlock)) k_ ∧ k_ ≠ go28) (Kd.R_apart' (HO368.out) (Kd.S_typed HO_7.out) (by decide)) (fun k_ hk => ⟨hk.1.2, fun e_ => (hk.2) (by rw [e_]; rfl)⟩))) (fun _ h_ => Or.inr (h_)))) (fun _ hk => hk) (fun k_ hk_ => ((Kd.R_mono (ok' := fun k_ => ((fun k_ => some k_ ≠ (v361 : Value).ownBlock)) k_ ∧ k_ ≠ go28) (Kd.R_apart' (HO368.out) (Kd.S_typed HO_7.out) (by decide)) (fun k_ hk => ⟨hk.1.2, fun e_ => (hk.2) (by rw [e_]; rfl)⟩))).1 k_ hk_.symm); have hx32_0 := hcc32 0 _ rfl; (try simp only [show ((Kd.slice 4 Kd.bool)).sz = 1 from rfl, Nat.mul_one, Nat.add_zero] at hx32_0); have hf32_0 := hfr32 0; (try simp only [show ((Kd.slice 4 Kd.bool)).sz = 1 from rfl, Nat.mul_one, Nat.add_zero] at hf32_0); (try clear hM32); (try clear hfr32); (try clear hcc32); (try clear hcl32); (try clear hoki32); (try clear hH32); (try simp only [show ((Kd.slice 4 Kd.bool)).sz = 1 from rfl, Nat.mul_one, Nat.add_zero] at HP32)) | ((with_reducible refine gate_store (t := 39) (p := 47) rfl ?_); refine store_event (t := 39) (p := 47) (v := ?vo_w33) (w1 := (w30.setCell ⟨go28, (x8_2 : Int).toNat, none⟩ ((.slice Aq_ y366.length cq_)))) ?hg ?ho ?hn ?hr ?_; (case ho => rfl); (case hg => rfl); (case hn => rfl); (case hr => first | (go_simp; done) | (go_simp; rfl)); intro w33 hw; have hg : w30.grownBy w33 (some go28) := (by rw [hw]; exact HP32.2); have hp_ : Kd.S (Kd.slice 4 Kd.bool) 39 w33 w.heap.size (fun k_ => some k_ ≠ (v361 : Value).ownBlock) (.slice (some ⟨go28, 0, none⟩) x7_2.length co28) y369 := (by rw [hw, Ny369.out]; exact HP32.1); clear HP32; have n0_ := Aside0.mk (Kd.R_over' (v := (.slice (some ⟨go28, 0, none⟩) x7_2.length co28)) (by exact RX_ HO_6.out) (Kd.S_typed HO_7.out) (by decide) hg); have n1_ := Aside0.mk (hp_); have n2_ := Aside0.mk (blk_grown (g := gb358) (o := .cells #[.slice A0_0 l0_0.length c0_0, .slice A0_1 l0_1.length c0_1] 26 (0, 0)) (by exact KX_ BK358.out) hg (Kd.S_ne HO_7.out BK358.out (by decide))); have n3_ := Aside0.mk ((by rw [hw]; exact below_set (HB.out) GB28.out : Below w.heap.size w w33)); clear HO_6; clear HO_7; clear BK358; clear HB; clear HO368; have HO_6 := n0_; have HO_7 := n1_; have BK358 := n2_; have HB := n3_; clear n0_ n1_ n2_ n3_; clear hg hw hp_; have hcz34_0 : w33.cell? ⟨gb358, 0, none⟩ = some (.slice A0_0 l0_0.length c0_0) := (blk_cell BK358.out 0).trans rfl; have hcz34_1 : w33.cell? ⟨gb358, 1, none⟩ = some (.slice A0_1 l0_1.length c0_1) := (blk_cell BK358.out 1).trans rfl; have hfz34_0 := blk_frozen BK358.out 0; have hfz34_1 := blk_frozen BK358.out 1) | ((with_reducible refine gate_callee (f := 22) rfl ?_); refine goesL_ (some 51) rfl rfl Try.func22 (by kernel_rfl) rfl #[.agg #[.slice A0_0 l0_0.length c0_0, .slice A0_1 l0_1.length c0_1], .int .i64 a1, .int .i64 x8_2] rfl (by (try simp only [List.map_toArray, List.map_cons, List.map_nil]); first | done | rfl | (simp only [List.length_drop, List.length_take]; rfl)) ?_; (with_reducible refine (lockstepref06_Reach.calls k2 _ _ l0_0 _ _ l0_1 a1 x8_2 t370 _ ?side1 ?side2 ?side3 ?side4 A29.out).mono ?_); (case side1 => exact CX_ (Kd.C_below HR0_0.out HB.out)); (case side2 => exact HC0_0.out); (case side3 => exact CX_ (Kd.C_below HR0_1.out HB.out)); (case side4 => exact HC0_1.out); rintro e w35 ⟨v371, rfl, ho0, hb⟩; refine ⟨_, rfl, ?_⟩; have n0_ := Aside0.mk (Kd.R_elder' (by exact RX_ HO_6.out) (Kd.R_base ho0) hb); have n1_ := Aside0.mk (Kd.S_elder' (by exact SX_ HO_7.out) (Kd.R_base ho0) hb); have n2_ := Aside0.mk (Kd.R_lower (Kd.R_new' ho0 (Kd.R_lt (by exact RX_ HO_6.out))) (below_size (B1_))); have n3_ := Aside0.mk (blk_below (g := gb358) (o := .cells #[.slice A0_0 l0_0.length c0_0, .slice A0_1 l0_1.length c0_1] 26 (0, 0)) (by exact KX_ BK358.out) hb); have n4_ := Aside0.mk (below_step (B1_) hb); clear HO_6; clear HO_7; clear BK358; clear HB; have HO_6 := n0_; have HO_7 := n1_; have HO372 := n2_; have BK358 := n3_; have HB := n4_; clear n0_ n1_ n2_ n3_ n4_; (try clear hb); (try clear hb2); (try clear hk); (try clear hi); (try clear ho0)))
            go_loopg [10] k2 (fun kq v10 w' => ∃ (x6_3 : List Bool) (x7_3 : List (List Bool)) (x9_3 : List Bool) (x10_3 : Int), v10 = .int .i64 x10_3 ∧ Aside0 (lockstepref07_Tree.l1 kq a1 (l0_0.length : Int) x6_3 x7_3 x8_2 x9_3 x10_3 l0_0 l0_1 = some r) ∧ Aside0 (kq ≤ k2) ∧ Aside0 (Kd.R Kd.bool 4 w' w.heap.size (fun k_ => some k_ ≠ (v371 : Value).ownBlock) v361 x6_3) ∧ Aside0 (Kd.S (Kd.slice 4 Kd.bool) 39 w' w.heap.size (fun k_ => some k_ ≠ (v361 : Value).ownBlock ∧ some k_ ≠ (v371 : Value).ownBlock) (.slice (some ⟨go28, 0, none⟩) x7_2.length co28) x7_3) ∧ Aside0 (Kd.R Kd.bool 4 w' w.heap.size (fun k_ => some k_ ≠ (v361 : Value).ownBlock) v371 x9_3) ∧ Aside0 (w'.heap[gb358]? = some (.cells #[(.slice A0_0 l0_0.length c0_0), (.slice A0_1 l0_1.length c0_1)] 26 (0, 0))) ∧ Aside0 (Below w.heap.size w w'))
            case atStart => exact ⟨(x6_2), (y369), (t370), (0), (by first | rfl | (simp; done) | (simp [*]; done)), H', ⟨Nat.le_refl _⟩, ⟨by (with_reducible repeat (first | apply Kd.R_alloc | apply Kd.R_drewN | apply Kd.R_drew)); exact Kd.R_mono HO_6.out (fun _ hk => by first | exact hk.2 | exact hk | exact ⟨hk.1, hk.2⟩ | simp_all)⟩, ⟨by exact SM_ HO_7.out⟩, ⟨by (with_reducible repeat (first | apply Kd.R_alloc | apply Kd.R_drewN | apply Kd.R_drew)); exact Kd.R_mono HO372.out (fun _ hk => by first | exact hk.2 | exact hk | exact ⟨hk.1, hk.2⟩ | simp_all)⟩, ⟨by exact KX_ BK358.out⟩, ⟨B1_⟩⟩
            case round =>
             clear H'
             try clear c23b0
             try clear c24b0
             try clear c24b1
             try clear c25b0
             try clear c25b1
             try clear c26b0
             try clear c27b0
             try clear p28
             try clear q28
             try clear hcz34_0
             try clear hcz34_1
             try clear hfz34_0
             try clear hfz34_1
             try clear hx28_0
             try clear hx32_0
             try clear p28
             try clear q28
             obtain ⟨x6_3, x7_3, x9_3, x10_3, rfl, HA, HK3, HO_6, HO_7, HO_9, BK358, HB⟩ := hrel
             have hl7_3 := (Kd.S_reads' HO_7.out).1
             rw [hl7_3] at HO_7
             (try simp only [hl7_3])
             (try simp only [hl7_3] at BK358)
             (try simp only [hl7_3] at HO_6)
             (try simp only [hl7_3] at HO_9)
             cases gk with
             | zero => exact absurd HA.out (by simp [lockstepref07_Tree.l1])
             | succ k3 =>
              have H := HA.out
              clear HA
              simp only [lockstepref07_Tree.l1] at H
              by_cases c36 : x10_3 < (l0_0.length : Int)
              ·rw [if_pos c36] at H
               have c36b0 : decide (x10_3 < (l0_0.length : Int)) = true := decide_eq_true c36
               clear c36
               by_cases c37 : 0 ≤ x8_2
               ·rw [if_pos c37] at H
                have c37b0 : decide (0 ≤ x8_2) = true := decide_eq_true c37
                clear c37
                by_cases c38 : x8_2 < (x7_3.length : Int)
                ·rw [if_pos c38] at H
                 have c38b0 : decide (x8_2 < (x7_3.length : Int)) = true := decide_eq_true c38
                 clear c38
                 by_cases c39 : 0 ≤ x10_3
                 ·rw [if_pos c39] at H
                  have c39b0 : decide (0 ≤ x10_3) = true := decide_eq_true c39
                  clear c39
                  by_cases c40 : x10_3 < (x6_3.length : Int)
                  ·rw [if_pos c40] at H
                   have c40b0 : decide (x10_3 < (x6_3.length : Int)) = true := decide_eq_true c40
                   clear c40
                   obtain ⟨bq41, hbq41⟩ : ∃ b_ : Bool, b_ = (rdOf false x6_3 x10_3) := ⟨_, rfl⟩
                   replace H : (if bq41 = true then (if x10_3 < (x9_3.length : Int) then (if x10_3 < ((rd_L3 x7_3 x8_2).length : Int) then (lockstepref07_Tree.l1 k3 a1 (l0_0.length : Int) x6_3 (x7_3.set (x8_2 : Int).toNat ((rd_L3 x7_3 x8_2).set (x10_3 : Int).toNat (!(rdOf false x9_3 x10_3)))) x8_2 x9_3 (wrap64 (x10_3 + 1)) l0_0 l0_1) else (none)) else (none)) else (if x10_3 < ((rd_L3 x7_3 x8_2).length : Int) then (lockstepref07_Tree.l1 k3 a1 (l0_0.length : Int) x6_3 (x7_3.set (x8_2 : Int).toNat ((rd_L3 x7_3 x8_2).set (x10_3 : Int).toNat false)) x8_2 x9_3 (wrap64 (x10_3 + 1)) l0_0 l0_1) else (none))) = some r := by rw [← hbq41] at H; exact H
                   have Nbq41 := Aside0.mk hbq41
                   clear hbq41
                   by_cases c42 : bq41 = true
                   ·subst c42
                    have H1 : (if x10_3 < (x9_3.length : Int) then (if x10_3 < ((rd_L3 x7_3 x8_2).length : Int) then (lockstepref07_Tree.l1 k3 a1 (l0_0.length : Int) x6_3 (x7_3.set (x8_2 : Int).toNat ((rd_L3 x7_3 x8_2).set (x10_3 : Int).toNat (!(rdOf false x9_3 x10_3)))) x8_2 x9_3 (wrap64 (x10_3 + 1)) l0_0 l0_1) else (none)) else (none)) = some r := by rw [if_pos rfl] at H; exact H
                    clear H
                    have H := H1
                    clear H1
                    by_cases c43 : x10_3 < (x9_3.length : Int)
                    ·rw [if_pos c43] at H
                     have c43b0 : decide (x10_3 < (x9_3.length : Int)) = true := decide_eq_true c43
                     clear c43
                     by_cases c44 : x10_3 < ((rd_L3 x7_3 x8_2).length : Int)
                     ·rw [if_pos c44] at H
                      have c44b0 : decide (x10_3 < ((rd_L3 x7_3 x8_2).length : Int)) = true := decide_eq_true c44
                      clear c44
                      obtain ⟨y376, hy376⟩ : ∃ y_ : List Bool, y_ = ((rd_L3 x7_3 x8_2).set (x10_3 : Int).toNat (!(rdOf false x9_3 x10_3))) := ⟨_, rfl⟩
                      replace H : (lockstepref07_Tree.l1 k3 a1 (l0_0.length : Int) x6_3 (x7_3.set (x8_2 : Int).toNat y376) x8_2 x9_3 (wrap64 (x10_3 + 1)) l0_0 l0_1) = some r := by first | (rw [hy376]; with_reducible exact H) | (have H2_ := (Option.bind_some _ _).symm.trans H; rw [hy376]; with_reducible exact H2_) | (have H2_ := (Option.bind_some _ _).symm.trans H; with_reducible exact H2_) | with_reducible exact H | (rw [hy376]; exact H) | exact H
                      have Ny376 := Aside0.mk hy376
                      clear hy376
                      obtain ⟨y378, hy378⟩ : ∃ y_ : List (List Bool), y_ = (x7_3.set (x8_2 : Int).toNat y376) := ⟨_, rfl⟩
                      replace H : (lockstepref07_Tree.l1 k3 a1 (l0_0.length : Int) x6_3 y378 x8_2 x9_3 (wrap64 (x10_3 + 1)) l0_0 l0_1) = some r := by first | (rw [hy378]; with_reducible exact H) | (have H2_ := (Option.bind_some _ _).symm.trans H; rw [hy378]; with_reducible exact H2_) | (have H2_ := (Option.bind_some _ _).symm.trans H; with_reducible exact H2_) | with_reducible exact H | (rw [hy378]; exact H) | exact H
                      have Ny378 := Aside0.mk hy378
                      clear hy378
                      have H' := Aside0.mk H
                      clear H
                      try go_wp2
                      have n0_ := Aside0.mk (Kd.R_drew HO_6.out)
                      have n1_ := Aside0.mk (Kd.S_drew HO_7.out)
                      have n2_ := Aside0.mk (Kd.R_drew HO_9.out)
                      have n3_ := Aside0.mk (blk_drew BK358.out)
                      have n4_ := Aside0.mk (below_drew1 HB.out)
                      clear HO_6
                      clear HO_7
                      clear HO_9
                      clear BK358
                      clear HB
                      have HO_6 := n0_
                      have HO_7 := n1_
                      have HO_9 := n2_
                      have BK358 := n3_
                      have HB := n4_
                      clear n0_ n1_ n2_ n3_ n4_
                      have p373 : 0 ≤ (x8_2 : Int) := D_
                      have q373 : x8_2 < (x7_3.length : Int) := D_
                      obtain ⟨ad373, A373_0, c373_0, e373, hx373_0, hl373_0, hi373_0⟩ := at_L3 (Kd.S_reads' HO_7.out).2.2 x8_2 p373 q373
                      obtain rfl : (⟨go28, 0, none⟩ : Addr) = ad373 := (by injection e373)
                      obtain ⟨ce373, hce373, hMe373, hcc373⟩ := Kd.S_get HO_7.out [] x8_2 p373 (by first | exact q373 | exact D_ | (have e_ := (Kd.S_reads' HO_7.out).1; omega))
                      obtain ⟨ve373_0, rfl, ge373_0⟩ := hMe373
                      have hv373_0 := hcc373 0 _ rfl
                      rw [Nat.add_zero, show ((Kd.slice 4 Kd.bool)).sz = 1 from rfl, Nat.mul_one] at hv373_0
                      replace hv373_0 := Option.some.inj (hv373_0.symm.trans hx373_0)
                      rw [hv373_0] at ge373_0
                      have HL373_0 := Aside0.mk (show Kd.R Kd.bool 4 _ _ _ _ (rd_L3 x7_3 x8_2) from ge373_0)
                      clear hv373_0 ge373_0
                      have HX373_0 := Aside0.mk hx373_0
                      clear hcc373 hce373
                      (first | simp only [add_plain] at hx373_0 | simp only [add_at] at hx373_0 | simp only [Addr.add, Nat.zero_add] at hx373_0 | skip)
                      have HR373_0 := Aside0.mk hi373_0
                      have HC373_0 := Aside0.mk hl373_0
                      clear hi373_0 hl373_0
                      replace p373 := eq_true p373
                      replace q373 := eq_true q373
                      obtain ⟨Ao47, co47, eo47⟩ := Kd.R_slice HO_6.out
                      (first | subst eo47 | (injection eo47 with f1_ f2_ f3_; have f4_ := f1_.symm; have f5_ := f3_.symm; clear f1_ f2_ f3_; subst f4_; subst f5_))
                      have p374 : 0 ≤ (x10_3 : Int) := D_
                      have q374 : x10_3 < (x6_3.length : Int) := D_
                      obtain ⟨ad374, e374, hx374_0⟩ := Kd.at_bool (Kd.R_reads' HO_6.out).2.2 x10_3 p374 q374
                      (try rw [← Nbq41.out] at hx374_0)
                      cases e374
                      replace p374 := eq_true p374
                      replace q374 := eq_true q374
                      obtain ⟨Ao48, co48, eo48⟩ := Kd.R_slice HO_9.out
                      (first | subst eo48 | (injection eo48 with f1_ f2_ f3_; have f4_ := f1_.symm; have f5_ := f3_.symm; clear f1_ f2_ f3_; subst f4_; subst f5_))
                      have p375 : 0 ≤ (x10_3 : Int) := D_
                      have q375 : x10_3 < (x9_3.length : Int) := D_
                      obtain ⟨ad375, e375, hx375_0⟩ := Kd.at_bool (Kd.R_reads' HO_9.out).2.2 x10_3 p375 q375
                      (try rw [← Nbq41.out] at hx375_0)
                      cases e375
                      replace p375 := eq_true p375
                      replace q375 := eq_true q375
                      have p45 : 0 ≤ (x10_3 : Int) := D_
                      have q45 : (x10_3 : Int) < (((rd_L3 x7_3 x8_2).length : Int) : Int) := D_
                      obtain ⟨go45, co45, eo45, gb45, gl45, cl45, HG45⟩ := Kd.R_form HL373_0.out (by omega)
                      (first | cases eo45 | (injection eo45 with ea_ en_ ec_; (first | subst ea_ | (injection ea_ with ea_; subst ea_)); subst ec_; clear en_))
                      have GB45 := Aside0.mk gb45
                      have GG45 := Aside0.mk HG45
                      clear gb45 gl45 HG45
                      obtain ⟨hx45_0, hf45_0⟩ := Kd.R_celln false HL373_0.out (x10_3 : Int) p45 q45
                      replace p45 := eq_true p45
                      replace q45 := eq_true q45
                      have hq49 : (x8_2 : Int) < (x7_3.length : Int) := (by have h_ : (x8_2 : Int) < ((x7_3.length : Int) : Int) := D_; first | exact h_ | (have e_ := (Kd.S_reads' HO_7.out).1; omega) | simpa only [List.length_set, List.length_set] using h_)
                      obtain ⟨oki49, ce49, hcl49, hM49, hcc49, hok49, hbk49⟩ := Kd.S_borrow HO_7.out [] (x8_2 : Int) (D_) hq49
                      obtain ⟨ve49_0, rfl, ge49_0⟩ := hM49
                      have hv49 := hcc49 0 _ rfl
                      rw [Nat.add_zero, show ((Kd.slice 4 Kd.bool)).sz = 1 from rfl, Nat.mul_one] at hv49
                      replace hv49 := Option.some.inj (hv49.symm.trans HX373_0.out)
                      subst hv49
                      clear hcc49 hcl49
                      replace ge49_0 := (show Kd.R Kd.bool 4 _ _ _ _ (rd_L3 x7_3 x8_2) from ge49_0)
                      have HP49 := Kd.R_putg ge49_0 (x10_3 : Int) (!(rdOf false x9_3 x10_3))
                      rw [← Ny376.out] at HP49
                      have HS49 := hbk49 HP49.2 (fun k_ e_ => by injection e_ with e_; subst e_; exact ge49_0.1 _ rfl) (x' := y376) (Kd.M_row HP49.1)
                      rw [← Ny378.out] at HS49
                      have HQ49 := Aside0.mk HS49
                      clear HP49 HS49 hbk49 hok49
                      refine start_ (n := 18) (S := fun w' => w'.cell? ⟨go28, (x8_2).toNat, none⟩ = some (.slice (some ⟨go45, 0, none⟩) (rd_L3 x7_3 x8_2).length c373_0) ∧ w'.cell? (ad374.add (x10_3).toNat) = some (.bool true) ∧ w'.cell? (ad375.add (x10_3).toNat) = some (.bool (rdOf false x9_3 x10_3))) (ds := [17]) #[false, false, false, false, false, false, false, false, false, false, false, false, false, false, false, false, false, false] (by kernel_rfl) rfl rfl ⟨hx373_0, hx374_0, hx375_0⟩ (fun hHeld => ?_); refine with_tabW lockstepref07_Tree.tab14 lockstepref07_Tree.bits14 (fun HT_ HW_ => ?_)
                      generalize wr.drew = w46 at HO_6 HO_7 HO_9 BK358 HB GG45 HL373_0 HQ49 HR373_0 HX373_0 hf45_0 hx373_0 hx374_0 hx375_0 hx45_0 hHeld ⊢
                      refine pure_ (i := 0) (N := some 57) (v := ?_) (a' := ?_) #[true, false, false, false, false, false, false, false, false, false, false, false, false, false, false, false, false, false] rfl rfl (any_of HT_.out (by kernel_rfl)) (fun _ _ _ h => h) (Or.inl ⟨by rfl, ?_⟩) ?_ ?_
                      rotate_left
                      ·intro w'
                       go_simp
                       with_reducible rfl
                      rotate_left
                      ·exact P_
                      refine pure_ (i := 1) (N := some 58) (v := ?_) (a' := ?_) #[true, true, false, false, false, false, false, false, false, false, false, false, false, false, false, false, false, false] rfl rfl (any_of HT_.out (by kernel_rfl)) (fun _ _ _ h => h) (Or.inl ⟨by rfl, ?_⟩) ?_ ?_
                      rotate_left
                      ·intro w'
                       go_simp
                       with_reducible rfl
                      rotate_left
                      ·exact P_
                      refine pure_ (i := 2) (N := some 59) (v := ?_) (a' := ?_) #[true, true, true, false, false, false, false, false, false, false, false, false, false, false, false, false, false, false] rfl rfl (any_of HT_.out (by kernel_rfl)) (fun _ _ _ h => h) (Or.inl ⟨by rfl, ?_⟩) ?_ ?_
                      rotate_left
                      ·intro w'
                       go_simp
                       with_reducible rfl
                      rotate_left
                      ·exact P_
                      refine pure_ (i := 4) (N := some 61) (v := ?_) (a' := ?_) #[true, true, true, false, true, false, false, false, false, false, false, false, false, false, false, false, false, false] rfl rfl (any_of HT_.out (by kernel_rfl)) (fun _ _ _ h => h) (Or.inl ⟨by rfl, ?_⟩) ?_ ?_
                      rotate_left
                      ·intro w'
                       go_simp
                       with_reducible rfl
                      rotate_left
                      ·exact P_
                      refine pure_ (i := 5) (N := some 62) (v := ?_) (a' := ?_) #[true, true, true, false, true, true, false, false, false, false, false, false, false, false, false, false, false, false] rfl rfl (any_of HT_.out (by kernel_rfl)) (fun _ _ _ h => h) (Or.inl ⟨by rfl, ?_⟩) ?_ ?_
                      rotate_left
                      ·intro w'
                       go_simp
                       with_reducible rfl
                      rotate_left
                      ·exact P_
                      refine pure_ (i := 6) (N := some 63) (v := ?_) (a' := ?_) #[true, true, true, false, true, true, true, false, false, false, false, false, false, false, false, false, false, false] rfl rfl (any_of HT_.out (by kernel_rfl)) (fun _ _ _ h => h) (Or.inl ⟨by rfl, ?_⟩) ?_ ?_
                      rotate_left
                      ·intro w'
                       go_simp
                       with_reducible rfl
                      rotate_left
                      ·exact P_
                      refine pure_ (i := 7) (N := some 64) (v := ?_) (a' := ?_) #[true, true, true, false, true, true, true, true, false, false, false, false, false, false, false, false, false, false] rfl rfl (any_of HT_.out (by kernel_rfl)) (fun _ _ _ h => h) (Or.inl ⟨by rfl, ?_⟩) ?_ ?_
                      rotate_left
                      ·intro w'
                       go_simp
                       with_reducible rfl
                      rotate_left
                      ·exact P_
                      refine take_ (i := 3) (N := some 60) (v := ?_) (a' := ?_) #[true, true, true, true, true, true, true, true, false, false, false, false, false, false, false, false, false, false] rfl rfl (take_ofW HT_.out HW_.out (by kernel_rfl)) (fun _ _ _ h => h) (Or.inl ⟨by rfl, ?_⟩) hHeld ?_ ?_
                      rotate_left
                      ·rintro w' ⟨s0, s1, s2⟩
                       go_simp
                       with_reducible rfl
                      rotate_left
                      ·exact P_
                      refine take_ (i := 8) (N := some 65) (v := ?_) (a' := ?_) #[true, true, true, true, true, true, true, true, true, false, false, false, false, false, false, false, false, false] rfl rfl (take_ofW HT_.out HW_.out (by kernel_rfl)) (fun _ _ _ h => h) (Or.inl ⟨by rfl, ?_⟩) hHeld ?_ ?_
                      rotate_left
                      ·rintro w' ⟨s0, s1, s2⟩
                       go_simp
                       with_reducible rfl
                      rotate_left
                      ·exact P_
                      refine pure_ (i := 9) (N := some 66) (v := ?_) (a' := ?_) #[true, true, true, true, true, true, true, true, true, true, false, false, false, false, false, false, false, false] rfl rfl (any_of HT_.out (by kernel_rfl)) (fun _ _ _ h => h) (Or.inl ⟨by rfl, ?_⟩) ?_ ?_
                      rotate_left
                      ·intro w'
                       go_simp
                       with_reducible rfl
                      rotate_left
                      ·exact P_
                      refine pure_ (i := 10) (N := some 67) (v := ?_) (a' := ?_) #[true, true, true, true, true, true, true, true, true, true, true, false, false, false, false, false, false, false] rfl rfl (any_of HT_.out (by kernel_rfl)) (fun _ _ _ h => h) (Or.inl ⟨by rfl, ?_⟩) ?_ ?_
                      rotate_left
                      ·intro w'
                       go_simp
                       with_reducible rfl
                      rotate_left
                      ·exact P_
                      refine pure_ (i := 11) (N := some 68) (v := ?_) (a' := ?_) #[true, true, true, true, true, true, true, true, true, true, true, true, false, false, false, false, false, false] rfl rfl (any_of HT_.out (by kernel_rfl)) (fun _ _ _ h => h) (Or.inl ⟨by rfl, ?_⟩) ?_ ?_
                      rotate_left
                      ·intro w'
                       go_simp
                       with_reducible rfl
                      rotate_left
                      ·exact P_
                      refine pure_ (i := 12) (N := some 69) (v := ?_) (a' := ?_) #[true, true, true, true, true, true, true, true, true, true, true, true, true, false, false, false, false, false] rfl rfl (any_of HT_.out (by kernel_rfl)) (fun _ _ _ h => h) (Or.inl ⟨by rfl, ?_⟩) ?_ ?_
                      rotate_left
                      ·intro w'
                       go_simp
                       with_reducible rfl
                      rotate_left
                      ·exact P_
                      refine take_ (i := 13) (N := some 70) (v := ?_) (a' := ?_) #[true, true, true, true, true, true, true, true, true, true, true, true, true, true, false, false, false, false] rfl rfl (take_ofW HT_.out HW_.out (by kernel_rfl)) (fun _ _ _ h => h) (Or.inl ⟨by rfl, ?_⟩) hHeld ?_ ?_
                      rotate_left
                      ·rintro w' ⟨s0, s1, s2⟩
                       go_simp
                       with_reducible rfl
                      rotate_left
                      ·exact P_
                      refine pure_ (i := 14) (N := some 71) (v := ?_) (a' := ?_) #[true, true, true, true, true, true, true, true, true, true, true, true, true, true, true, false, false, false] rfl rfl (any_of HT_.out (by kernel_rfl)) (fun _ _ _ h => h) (Or.inl ⟨by rfl, ?_⟩) ?_ ?_
                      rotate_left
                      ·intro w'
                       go_simp
                       with_reducible rfl
                      rotate_left
                      ·exact P_
                      refine pure_ (i := 15) (N := some 72) (v := ?_) (a' := ?_) #[true, true, true, true, true, true, true, true, true, true, true, true, true, true, true, true, false, false] rfl rfl (any_of HT_.out (by kernel_rfl)) (fun _ _ _ h => h) (Or.inl ⟨by rfl, ?_⟩) ?_ ?_
                      rotate_left
                      ·intro w'
                       go_simp
                       with_reducible rfl
                      rotate_left
                      ·exact P_
                      refine pure_ (i := 16) (N := some 73) (v := ?_) (a' := ?_) #[true, true, true, true, true, true, true, true, true, true, true, true, true, true, true, true, true, false] rfl rfl (any_of HT_.out (by kernel_rfl)) (fun _ _ _ h => h) (Or.inl ⟨by rfl, ?_⟩) ?_ ?_
                      rotate_left
                      ·intro w'
                       go_simp
                       with_reducible rfl
                      rotate_left
                      ·exact P_
                      refine last_ (i := 17) (N := none) #[true, true, true, true, true, true, true, true, true, true, true, true, true, true, true, true, true, true] rfl rfl (one_of HT_.out (by kernel_rfl)) (by decide) (fun K hK => ?_)
                      refine skip_ (w1 := ?_) (by rfl) rfl ?_ ?_
                      rotate_left
                      ·go_simp
                       rfl
                      refine hK.out _ _ ?_
                      clear hK K
                      refine done_ (done_of HT_.out (by kernel_rfl)) ?_
                      try go_wp2
                      (try simp only [← hl7_3])
                      go_roundg k3
                      case measure => have := HJ2.out; have := HK2.out; have := HK3.out; omega
                      case rel => exact ⟨(x6_3), (y378), (x9_3), (wrap64 (x10_3 + 1)), (by first | rfl | (simp; done) | (simp [*]; done)), H', ⟨by have := HJ2.out; have := HK2.out; have := HK3.out; omega⟩, ⟨by (try simp only [hl7_3]); (with_reducible repeat (first | apply Kd.R_alloc | apply Kd.R_drewN | apply Kd.R_drew)); exact Kd.R_mono (Kd.R_far (p := ⟨go45, (x10_3 : Int).toNat, none⟩) (Kd.R_far1 HO_6.out rfl ((HL373_0.out.1 _ rfl).1.1)) (fun _ hk => hk.2) (.bool (!(rdOf false x9_3 x10_3)))) (fun _ hk => hk.1)⟩, ⟨by (try simp only [hl7_3]); exact SX_ HQ49.out⟩, ⟨by (try simp only [hl7_3]); (with_reducible repeat (first | apply Kd.R_alloc | apply Kd.R_drewN | apply Kd.R_drew)); exact Kd.R_mono (Kd.R_far (p := ⟨go45, (x10_3 : Int).toNat, none⟩) (Kd.R_far1 HO_9.out rfl ((HL373_0.out.1 _ rfl).1.2)) (fun _ hk => hk.2) (.bool (!(rdOf false x9_3 x10_3)))) (fun _ hk => hk.1)⟩, ⟨by (try simp only [hl7_3]); (with_reducible repeat (first | refine blk_drewN ?_ _ | refine blk_drew ?_ | refine blk_alloc ?_ _)); refine blk_far ?_ (by have h_ := Kd.R_ne HL373_0.out BK358.out (by decide); intro e_; exact h_ (by rw [e_]; rfl)) _; exact KX_ BK358.out⟩, ⟨B1_⟩⟩
                     rw [if_neg c44] at H
                     exact absurd H (by simp)
                    rw [if_neg c43] at H
                    exact absurd H (by simp)
                   replace c42 := Bool.eq_false_iff.mpr c42
                   subst c42
                   have H1 : (if x10_3 < ((rd_L3 x7_3 x8_2).length : Int) then (lockstepref07_Tree.l1 k3 a1 (l0_0.length : Int) x6_3 (x7_3.set (x8_2 : Int).toNat ((rd_L3 x7_3 x8_2).set (x10_3 : Int).toNat false)) x8_2 x9_3 (wrap64 (x10_3 + 1)) l0_0 l0_1) else (none)) = some r := by rw [if_neg (show ¬ (false = true) by decide)] at H; exact H
                   clear H
                   have H := H1
                   clear H1
                   by_cases c51 : x10_3 < ((rd_L3 x7_3 x8_2).length : Int)
                   ·rw [if_pos c51] at H
                    have c51b0 : decide (x10_3 < ((rd_L3 x7_3 x8_2).length : Int)) = true := decide_eq_true c51
                    clear c51
                    obtain ⟨y379, hy379⟩ : ∃ y_ : List Bool, y_ = ((rd_L3 x7_3 x8_2).set (x10_3 : Int).toNat false) := ⟨_, rfl⟩
                    replace H : (lockstepref07_Tree.l1 k3 a1 (l0_0.length : Int) x6_3 (x7_3.set (x8_2 : Int).toNat y379) x8_2 x9_3 (wrap64 (x10_3 + 1)) l0_0 l0_1) = some r := by first | (rw [hy379]; with_reducible exact H) | (have H2_ := (Option.bind_some _ _).symm.trans H; rw [hy379]; with_reducible exact H2_) | (have H2_ := (Option.bind_some _ _).symm.trans H; with_reducible exact H2_) | with_reducible exact H | (rw [hy379]; exact H) | exact H
                    have Ny379 := Aside0.mk hy379
                    clear hy379
                    obtain ⟨y381, hy381⟩ : ∃ y_ : List (List Bool), y_ = (x7_3.set (x8_2 : Int).toNat y379) := ⟨_, rfl⟩
                    replace H : (lockstepref07_Tree.l1 k3 a1 (l0_0.length : Int) x6_3 y381 x8_2 x9_3 (wrap64 (x10_3 + 1)) l0_0 l0_1) = some r := by first | (rw [hy381]; with_reducible exact H) | (have H2_ := (Option.bind_some _ _).symm.trans H; rw [hy381]; with_reducible exact H2_) | (have H2_ := (Option.bind_some _ _).symm.trans H; with_reducible exact H2_) | with_reducible exact H | (rw [hy381]; exact H) | exact H
                    have Ny381 := Aside0.mk hy381
                    clear hy381
                    have H' := Aside0.mk H
                    clear H
                    try go_wp2
                    have n0_ := Aside0.mk (Kd.R_drew HO_6.out)
                    have n1_ := Aside0.mk (Kd.S_drew HO_7.out)
                    have n2_ := Aside0.mk (Kd.R_drew HO_9.out)
                    have n3_ := Aside0.mk (blk_drew BK358.out)
                    have n4_ := Aside0.mk (below_drew1 HB.out)
                    clear HO_6
                    clear HO_7
                    clear HO_9
                    clear BK358
                    clear HB
                    have HO_6 := n0_
                    have HO_7 := n1_
                    have HO_9 := n2_
                    have BK358 := n3_
                    have HB := n4_
                    clear n0_ n1_ n2_ n3_ n4_
                    have p373 : 0 ≤ (x8_2 : Int) := D_
                    have q373 : x8_2 < (x7_3.length : Int) := D_
                    obtain ⟨ad373, A373_0, c373_0, e373, hx373_0, hl373_0, hi373_0⟩ := at_L3 (Kd.S_reads' HO_7.out).2.2 x8_2 p373 q373
                    obtain rfl : (⟨go28, 0, none⟩ : Addr) = ad373 := (by injection e373)
                    obtain ⟨ce373, hce373, hMe373, hcc373⟩ := Kd.S_get HO_7.out [] x8_2 p373 (by first | exact q373 | exact D_ | (have e_ := (Kd.S_reads' HO_7.out).1; omega))
                    obtain ⟨ve373_0, rfl, ge373_0⟩ := hMe373
                    have hv373_0 := hcc373 0 _ rfl
                    rw [Nat.add_zero, show ((Kd.slice 4 Kd.bool)).sz = 1 from rfl, Nat.mul_one] at hv373_0
                    replace hv373_0 := Option.some.inj (hv373_0.symm.trans hx373_0)
                    rw [hv373_0] at ge373_0
                    have HL373_0 := Aside0.mk (show Kd.R Kd.bool 4 _ _ _ _ (rd_L3 x7_3 x8_2) from ge373_0)
                    clear hv373_0 ge373_0
                    have HX373_0 := Aside0.mk hx373_0
                    clear hcc373 hce373
                    (first | simp only [add_plain] at hx373_0 | simp only [add_at] at hx373_0 | simp only [Addr.add, Nat.zero_add] at hx373_0 | skip)
                    have HR373_0 := Aside0.mk hi373_0
                    have HC373_0 := Aside0.mk hl373_0
                    clear hi373_0 hl373_0
                    replace p373 := eq_true p373
                    replace q373 := eq_true q373
                    obtain ⟨Ao54, co54, eo54⟩ := Kd.R_slice HO_6.out
                    (first | subst eo54 | (injection eo54 with f1_ f2_ f3_; have f4_ := f1_.symm; have f5_ := f3_.symm; clear f1_ f2_ f3_; subst f4_; subst f5_))
                    have p374 : 0 ≤ (x10_3 : Int) := D_
                    have q374 : x10_3 < (x6_3.length : Int) := D_
                    obtain ⟨ad374, e374, hx374_0⟩ := Kd.at_bool (Kd.R_reads' HO_6.out).2.2 x10_3 p374 q374
                    (try rw [← Nbq41.out] at hx374_0)
                    cases e374
                    replace p374 := eq_true p374
                    replace q374 := eq_true q374
                    have p52 : 0 ≤ (x10_3 : Int) := D_
                    have q52 : (x10_3 : Int) < (((rd_L3 x7_3 x8_2).length : Int) : Int) := D_
                    obtain ⟨go52, co52, eo52, gb52, gl52, cl52, HG52⟩ := Kd.R_form HL373_0.out (by omega)
                    (first | cases eo52 | (injection eo52 with ea_ en_ ec_; (first | subst ea_ | (injection ea_ with ea_; subst ea_)); subst ec_; clear en_))
                    have GB52 := Aside0.mk gb52
                    have GG52 := Aside0.mk HG52
                    clear gb52 gl52 HG52
                    obtain ⟨hx52_0, hf52_0⟩ := Kd.R_celln false HL373_0.out (x10_3 : Int) p52 q52
                    replace p52 := eq_true p52
                    replace q52 := eq_true q52
                    have hq55 : (x8_2 : Int) < (x7_3.length : Int) := (by have h_ : (x8_2 : Int) < ((x7_3.length : Int) : Int) := D_; first | exact h_ | (have e_ := (Kd.S_reads' HO_7.out).1; omega) | simpa only [List.length_set, List.length_set] using h_)
                    obtain ⟨oki55, ce55, hcl55, hM55, hcc55, hok55, hbk55⟩ := Kd.S_borrow HO_7.out [] (x8_2 : Int) (D_) hq55
                    obtain ⟨ve55_0, rfl, ge55_0⟩ := hM55
                    have hv55 := hcc55 0 _ rfl
                    rw [Nat.add_zero, show ((Kd.slice 4 Kd.bool)).sz = 1 from rfl, Nat.mul_one] at hv55
                    replace hv55 := Option.some.inj (hv55.symm.trans HX373_0.out)
                    subst hv55
                    clear hcc55 hcl55
                    replace ge55_0 := (show Kd.R Kd.bool 4 _ _ _ _ (rd_L3 x7_3 x8_2) from ge55_0)
                    have HP55 := Kd.R_putg ge55_0 (x10_3 : Int) false
                    rw [← Ny379.out] at HP55
                    have HS55 := hbk55 HP55.2 (fun k_ e_ => by injection e_ with e_; subst e_; exact ge55_0.1 _ rfl) (x' := y379) (Kd.M_row HP55.1)
                    rw [← Ny381.out] at HS55
                    have HQ55 := Aside0.mk HS55
                    clear HP55 HS55 hbk55 hok55
                    refine start_ (n := 18) (S := fun w' => w'.cell? ⟨go28, (x8_2).toNat, none⟩ = some (.slice (some ⟨go52, 0, none⟩) (rd_L3 x7_3 x8_2).length c373_0) ∧ w'.cell? (ad374.add (x10_3).toNat) = some (.bool false)) (ds := [17]) #[false, false, false, false, false, false, false, false, false, false, false, false, false, false, false, false, false, false] (by kernel_rfl) rfl rfl ⟨hx373_0, hx374_0⟩ (fun hHeld => ?_); refine with_tabW lockstepref07_Tree.tab14 lockstepref07_Tree.bits14 (fun HT_ HW_ => ?_)
                    generalize wr.drew = w53 at HO_6 HO_7 HO_9 BK358 HB GG52 HL373_0 HQ55 HR373_0 HX373_0 hf52_0 hx373_0 hx374_0 hx52_0 hHeld ⊢
                    refine pure_ (i := 0) (N := some 57) (v := ?_) (a' := ?_) #[true, false, false, false, false, false, false, false, false, false, false, false, false, false, false, false, false, false] rfl rfl (any_of HT_.out (by kernel_rfl)) (fun _ _ _ h => h) (Or.inl ⟨by rfl, ?_⟩) ?_ ?_
                    rotate_left
                    ·intro w'
                     go_simp
                     with_reducible rfl
                    rotate_left
                    ·exact P_
                    refine pure_ (i := 1) (N := some 58) (v := ?_) (a' := ?_) #[true, true, false, false, false, false, false, false, false, false, false, false, false, false, false, false, false, false] rfl rfl (any_of HT_.out (by kernel_rfl)) (fun _ _ _ h => h) (Or.inl ⟨by rfl, ?_⟩) ?_ ?_
                    rotate_left
                    ·intro w'
                     go_simp
                     with_reducible rfl
                    rotate_left
                    ·exact P_
                    refine pure_ (i := 2) (N := some 59) (v := ?_) (a' := ?_) #[true, true, true, false, false, false, false, false, false, false, false, false, false, false, false, false, false, false] rfl rfl (any_of HT_.out (by kernel_rfl)) (fun _ _ _ h => h) (Or.inl ⟨by rfl, ?_⟩) ?_ ?_
                    rotate_left
                    ·intro w'
                     go_simp
                     with_reducible rfl
                    rotate_left
                    ·exact P_
                    refine pure_ (i := 4) (N := some 61) (v := ?_) (a' := ?_) #[true, true, true, false, true, false, false, false, false, false, false, false, false, false, false, false, false, false] rfl rfl (any_of HT_.out (by kernel_rfl)) (fun _ _ _ h => h) (Or.inl ⟨by rfl, ?_⟩) ?_ ?_
                    rotate_left
                    ·intro w'
                     go_simp
                     with_reducible rfl
                    rotate_left
                    ·exact P_
                    refine pure_ (i := 5) (N := some 62) (v := ?_) (a' := ?_) #[true, true, true, false, true, true, false, false, false, false, false, false, false, false, false, false, false, false] rfl rfl (any_of HT_.out (by kernel_rfl)) (fun _ _ _ h => h) (Or.inl ⟨by rfl, ?_⟩) ?_ ?_
                    rotate_left
                    ·intro w'
                     go_simp
                     with_reducible rfl
                    rotate_left
                    ·exact P_
                    refine pure_ (i := 6) (N := some 63) (v := ?_) (a' := ?_) #[true, true, true, false, true, true, true, false, false, false, false, false, false, false, false, false, false, false] rfl rfl (any_of HT_.out (by kernel_rfl)) (fun _ _ _ h => h) (Or.inl ⟨by rfl, ?_⟩) ?_ ?_
                    rotate_left
                    ·intro w'
                     go_simp
                     with_reducible rfl
                    rotate_left
                    ·exact P_
                    refine pure_ (i := 7) (N := some 64) (v := ?_) (a' := ?_) #[true, true, true, false, true, true, true, true, false, false, false, false, false, false, false, false, false, false] rfl rfl (any_of HT_.out (by kernel_rfl)) (fun _ _ _ h => h) (Or.inl ⟨by rfl, ?_⟩) ?_ ?_
                    rotate_left
                    ·intro w'
                     go_simp
                     with_reducible rfl
                    rotate_left
                    ·exact P_
                    refine take_ (i := 3) (N := some 60) (v := ?_) (a' := ?_) #[true, true, true, true, true, true, true, true, false, false, false, false, false, false, false, false, false, false] rfl rfl (take_ofW HT_.out HW_.out (by kernel_rfl)) (fun _ _ _ h => h) (Or.inl ⟨by rfl, ?_⟩) hHeld ?_ ?_
                    rotate_left
                    ·rintro w' ⟨s0, s1⟩
                     go_simp
                     with_reducible rfl
                    rotate_left
                    ·exact P_
                    refine take_ (i := 8) (N := some 65) (v := ?_) (a' := ?_) #[true, true, true, true, true, true, true, true, true, false, false, false, false, false, false, false, false, false] rfl rfl (take_ofW HT_.out HW_.out (by kernel_rfl)) (fun _ _ _ h => h) (Or.inl ⟨by rfl, ?_⟩) hHeld ?_ ?_
                    rotate_left
                    ·rintro w' ⟨s0, s1⟩
                     go_simp
                     with_reducible rfl
                    rotate_left
                    ·exact P_
                    refine pure_ (i := 9) (N := some 66) (v := ?_) (a' := ?_) #[true, true, true, true, true, true, true, true, true, true, false, false, false, false, false, false, false, false] rfl rfl (any_of HT_.out (by kernel_rfl)) (fun _ _ _ h => h) (Or.inl ⟨by rfl, ?_⟩) ?_ ?_
                    rotate_left
                    ·intro w'
                     go_simp
                     with_reducible rfl
                    rotate_left
                    ·exact P_
                    refine pure_ (i := 10) (N := some 67) (v := undef) (a' := ?_) #[true, true, true, true, true, true, true, true, true, true, true, false, false, false, false, false, false, false] rfl rfl (any_of HT_.out (by kernel_rfl)) (fun _ _ _ h => h) (Or.inr ⟨by rfl, rfl⟩) ?_ ?_
                    rotate_left
                    ·exact P_
                    refine pure_ (i := 11) (N := some 68) (v := undef) (a' := ?_) #[true, true, true, true, true, true, true, true, true, true, true, true, false, false, false, false, false, false] rfl rfl (any_of HT_.out (by kernel_rfl)) (fun _ _ _ h => h) (Or.inr ⟨by rfl, rfl⟩) ?_ ?_
                    rotate_left
                    ·exact P_
                    refine pure_ (i := 12) (N := some 69) (v := undef) (a' := ?_) #[true, true, true, true, true, true, true, true, true, true, true, true, true, false, false, false, false, false] rfl rfl (any_of HT_.out (by kernel_rfl)) (fun _ _ _ h => h) (Or.inr ⟨by rfl, rfl⟩) ?_ ?_
                    rotate_left
                    ·exact P_
                    refine pure_ (i := 13) (N := some 70) (v := undef) (a' := ?_) #[true, true, true, true, true, true, true, true, true, true, true, true, true, true, false, false, false, false] rfl rfl (any_of HT_.out (by kernel_rfl)) (fun _ _ _ h => h) (Or.inr ⟨by rfl, rfl⟩) ?_ ?_
                    rotate_left
                    ·exact P_
                    refine pure_ (i := 14) (N := some 71) (v := undef) (a' := ?_) #[true, true, true, true, true, true, true, true, true, true, true, true, true, true, true, false, false, false] rfl rfl (any_of HT_.out (by kernel_rfl)) (fun _ _ _ h => h) (Or.inr ⟨by rfl, rfl⟩) ?_ ?_
                    rotate_left
                    ·exact P_
                    refine pure_ (i := 15) (N := some 72) (v := ?_) (a' := ?_) #[true, true, true, true, true, true, true, true, true, true, true, true, true, true, true, true, false, false] rfl rfl (any_of HT_.out (by kernel_rfl)) (fun _ _ _ h => h) (Or.inl ⟨by rfl, ?_⟩) ?_ ?_
                    rotate_left
                    ·intro w'
                     go_simp
                     with_reducible rfl
                    rotate_left
                    ·exact P_
                    refine pure_ (i := 16) (N := some 73) (v := ?_) (a' := ?_) #[true, true, true, true, true, true, true, true, true, true, true, true, true, true, true, true, true, false] rfl rfl (any_of HT_.out (by kernel_rfl)) (fun _ _ _ h => h) (Or.inl ⟨by rfl, ?_⟩) ?_ ?_
                    rotate_left
                    ·intro w'
                     go_simp
                     with_reducible rfl
                    rotate_left
                    ·exact P_
                    refine last_ (i := 17) (N := none) #[true, true, true, true, true, true, true, true, true, true, true, true, true, true, true, true, true, true] rfl rfl (one_of HT_.out (by kernel_rfl)) (by decide) (fun K hK => ?_)
                    refine skip_ (w1 := ?_) (by rfl) rfl ?_ ?_
                    rotate_left
                    ·go_simp
                     rfl
                    refine hK.out _ _ ?_
                    clear hK K
                    refine done_ (done_of HT_.out (by kernel_rfl)) ?_
                    try go_wp2
                    (try simp only [← hl7_3])
                    go_roundg k3
                    case measure => have := HJ2.out; have := HK2.out; have := HK3.out; omega
                    case rel => exact ⟨(x6_3), (y381), (x9_3), (wrap64 (x10_3 + 1)), (by first | rfl | (simp; done) | (simp [*]; done)), H', ⟨by have := HJ2.out; have := HK2.out; have := HK3.out; omega⟩, ⟨by (try simp only [hl7_3]); (with_reducible repeat (first | apply Kd.R_alloc | apply Kd.R_drewN | apply Kd.R_drew)); exact Kd.R_mono (Kd.R_far (p := ⟨go52, (x10_3 : Int).toNat, none⟩) (Kd.R_far1 HO_6.out rfl ((HL373_0.out.1 _ rfl).1.1)) (fun _ hk => hk.2) (.bool false)) (fun _ hk => hk.1)⟩, ⟨by (try simp only [hl7_3]); exact SX_ HQ55.out⟩, ⟨by (try simp only [hl7_3]); (with_reducible repeat (first | apply Kd.R_alloc | apply Kd.R_drewN | apply Kd.R_drew)); exact Kd.R_mono (Kd.R_far (p := ⟨go52, (x10_3 : Int).toNat, none⟩) (Kd.R_far1 HO_9.out rfl ((HL373_0.out.1 _ rfl).1.2)) (fun _ hk => hk.2) (.bool false)) (fun _ hk => hk.1)⟩, ⟨by (try simp only [hl7_3]); (with_reducible repeat (first | refine blk_drewN ?_ _ | refine blk_drew ?_ | refine blk_alloc ?_ _)); refine blk_far ?_ (by have h_ := Kd.R_ne HL373_0.out BK358.out (by decide); intro e_; exact h_ (by rw [e_]; rfl)) _; exact KX_ BK358.out⟩, ⟨B1_⟩⟩
                   rw [if_neg c51] at H
                   exact absurd H (by simp)
                  rw [if_neg c40] at H
                  exact absurd H (by simp)
                 rw [if_neg c39] at H
                 exact absurd H (by simp)
                rw [if_neg c38] at H
                exact absurd H (by simp)
               rw [if_neg c37] at H
               exact absurd H (by simp)
              rw [if_neg c36] at H
              have c36b0 : decide (x10_3 < (l0_0.length : Int)) = false := decide_eq_false c36
              clear c36
              have H' := Aside0.mk H
              clear H
              go_wp2
              (try simp only [← hl7_3])
              go_roundg k3
              case measure => have := HJ2.out; have := HK2.out; have := HK3.out; omega
              case rel => exact ⟨(x6_3), (x7_3), (wrap64 (x8_2 + 1)), (by first | rfl | (simp; done) | (simp [*]; done)), H', ⟨by have := HJ2.out; have := HK2.out; have := HK3.out; omega⟩, ⟨by (try simp only [hl7_3]); (with_reducible repeat (first | apply Kd.R_alloc | apply Kd.R_drewN | apply Kd.R_drew)); exact Kd.R_mono HO_6.out (fun _ hk => trivial)⟩, ⟨by (try simp only [hl7_3]); (with_reducible repeat (first | apply Kd.S_alloc | apply Kd.S_drewN | apply Kd.S_drew)); exact Kd.S_mono HO_7.out (fun _ hk => hk.1)⟩, ⟨by (try simp only [hl7_3]); exact KX_ BK358.out⟩, ⟨B1_⟩⟩
           rw [if_neg c27] at H
           exact absurd H (by simp)
          rw [if_neg c26] at H
          exact absurd H (by simp)
         rw [if_neg c25] at H
         exact absurd H (by simp)
        rw [if_neg c24] at H
        exact absurd H (by simp)
       rw [if_neg c23] at H
       have c23b0 : decide (x8_2 < (l0_0.length : Int)) = false := decide_eq_false c23
       clear c23
       by_cases c57 : 0 ≤ (l0_0.length : Int)
       ·rw [if_pos c57] at H
        have c57b0 := eq_true c57
        have c57b1 : decide (0 ≤ (l0_0.length : Int)) = true := decide_eq_true c57
        clear c57
        by_cases c58 : ((l0_0.length : Int) : Int).toNat ≤ 35184372088832
        ·rw [if_pos c58] at H
         have c58b0 := eq_true c58
         have c58b1 : decide (((l0_0.length : Int) : Int).toNat ≤ 35184372088832) = true := decide_eq_true c58
         clear c58
         obtain ⟨y382, hy382⟩ : ∃ y_ : List Int, y_ = (List.replicate ((l0_0.length : Int) : Int).toNat 0) := ⟨_, rfl⟩
         replace H : (lockstepref07_Tree.l2 k2 a1 (l0_0.length : Int) x7_2 y382 0) = some r := by first | (rw [hy382]; with_reducible exact H) | (have H2_ := (Option.bind_some _ _).symm.trans H; rw [hy382]; with_reducible exact H2_) | (have H2_ := (Option.bind_some _ _).symm.trans H; with_reducible exact H2_) | with_reducible exact H | (rw [hy382]; exact H) | exact H
         have Ny382 := Aside0.mk hy382
         clear hy382
         have H' := Aside0.mk H
         clear H
         go_wp2_with (first | ((with_reducible refine gate_dst (N := 75) rfl ?_); (try (refine gate_guard (by rfl) ?_; dsimp only)); refine Kd.R_make (Kd.int .i64) _ 3 rfl (N := 75) rfl 31 _ _ rfl (l0_0.length : Int) rfl rfl Try.underlying31 (.int .i64 0) 8 info3 rfl (by decide) (by omega) 0 (ok := fun _ => True) (okp := fun _ => True) rfl (fun _ hk => hk) trivial (D_) (Nat.le_trans (Nat.mul_le_mul_right _ (D_ : (l0_0.length : Int).toNat ≤ 35184372088832)) (by omega)) (Below.refl _ _) (Nat.le_refl _) ?_; intro v383 w59 ho60 hb hg_ hnew_; clear hg_ hnew_; (first | rw [← Ny382.out] at ho60 | (simp only [Int.reduceToNat] at ho60; rw [← Ny382.out] at ho60)); have n0_ := Aside0.mk (Kd.R_below (by exact RX_ HO_6.out) hb); have n1_ := Aside0.mk (Kd.S_below (by exact SX_ HO_7.out) hb); have n2_ := Aside0.mk (Kd.R_lower ho60 (below_size (B1_))); have n3_ := Aside0.mk (blk_below (g := gb358) (o := .cells #[.slice A0_0 l0_0.length c0_0, .slice A0_1 l0_1.length c0_1] 26 (0, 0)) (by exact KX_ BK358.out) hb); have n4_ := Aside0.mk (below_step (B1_) hb); clear HO_6; clear HO_7; clear BK358; clear HB; have HO_6 := n0_; have HO_7 := n1_; have HO384 := n2_; have BK358 := n3_; have HB := n4_; clear n0_ n1_ n2_ n3_ n4_; clear hb ho60))
         go_loopg [12] k2 (fun kq v12 w' => ∃ (x11_3 : List Int) (x12_3 : Int), v12 = .int .i64 x12_3 ∧ Aside0 (lockstepref07_Tree.l2 kq a1 (l0_0.length : Int) x7_2 x11_3 x12_3 = some r) ∧ Aside0 (kq ≤ k2) ∧ Aside0 (Kd.S (Kd.slice 4 Kd.bool) 39 w' w.heap.size (fun _ => True) v364 x7_2) ∧ Aside0 (Kd.R (Kd.int .i64) 3 w' w.heap.size (fun _ => True) v383 x11_3) ∧ Aside0 (w'.heap[gb358]? = some (.cells #[(.slice A0_0 l0_0.length c0_0), (.slice A0_1 l0_1.length c0_1)] 26 (0, 0))) ∧ Aside0 (Below w.heap.size w w'))
         case atStart => exact ⟨(y382), (0), (by first | rfl | (simp; done) | (simp [*]; done)), H', ⟨Nat.le_refl _⟩, ⟨by (with_reducible repeat (first | apply Kd.S_alloc | apply Kd.S_drewN | apply Kd.S_drew)); exact Kd.S_mono HO_7.out (fun _ hk => trivial)⟩, ⟨by exact RM_ HO384.out⟩, ⟨by exact KX_ BK358.out⟩, ⟨B1_⟩⟩
         case round =>
          clear H'
          try clear c23b0
          try clear c57b0
          try clear c57b1
          try clear c58b0
          try clear c58b1
          obtain ⟨x11_3, x12_3, rfl, HA, HK3, HO_7, HO_11, BK358, HB⟩ := hrel
          cases gk with
          | zero => exact absurd HA.out (by simp [lockstepref07_Tree.l2])
          | succ k3 =>
           have H := HA.out
           clear HA
           simp only [lockstepref07_Tree.l2] at H
           by_cases c61 : x12_3 < (l0_0.length : Int)
           ·rw [if_pos c61] at H
            have c61b0 : decide (x12_3 < (l0_0.length : Int)) = true := decide_eq_true c61
            clear c61
            by_cases c62 : 0 ≤ x12_3
            ·rw [if_pos c62] at H
             have c62b0 : decide (0 ≤ x12_3) = true := decide_eq_true c62
             clear c62
             by_cases c63 : x12_3 < (x11_3.length : Int)
             ·rw [if_pos c63] at H
              have c63b0 : decide (x12_3 < (x11_3.length : Int)) = true := decide_eq_true c63
              clear c63
              obtain ⟨y385, hy385⟩ : ∃ y_ : List Int, y_ = (x11_3.set (x12_3 : Int).toNat (-2)) := ⟨_, rfl⟩
              replace H : (if x12_3 = a1 then (lockstepref07_Tree.j4 k3 a1 (l0_0.length : Int) x7_2 (y385.set (x12_3 : Int).toNat (-1)) x12_3) else (lockstepref07_Tree.j4 k3 a1 (l0_0.length : Int) x7_2 y385 x12_3)) = some r := by first | (rw [hy385]; with_reducible exact H) | (have H2_ := (Option.bind_some _ _).symm.trans H; rw [hy385]; with_reducible exact H2_) | (have H2_ := (Option.bind_some _ _).symm.trans H; with_reducible exact H2_) | with_reducible exact H | (rw [hy385]; exact H) | exact H
              have Ny385 := Aside0.mk hy385
              clear hy385
              have HC65 := Aside0.mk H
              clear H
              have p64 : 0 ≤ (x12_3 : Int) := D_
              have q64 : (x12_3 : Int) < ((x11_3.length : Int) : Int) := D_
              obtain ⟨go64, co64, eo64, gb64, gl64, cl64, HG64⟩ := Kd.R_form HO_11.out (by omega)
              (first | cases eo64 | (injection eo64 with ea_ en_ ec_; (first | subst ea_ | (injection ea_ with ea_; subst ea_)); subst ec_; clear en_))
              have GB64 := Aside0.mk gb64
              have GG64 := Aside0.mk HG64
              clear gb64 gl64 HG64
              obtain ⟨hx64_0, hf64_0⟩ := Kd.R_celln 0 HO_11.out (x12_3 : Int) p64 q64
              replace p64 := eq_true p64
              replace q64 := eq_true q64
              have HP66 := Kd.R_putg HO_11.out (x12_3 : Int) (-2)
              go_upto_if 86 with (first | ((with_reducible refine gate_store (t := 3) (p := 83) rfl ?_); refine store_event (t := 3) (p := 83) (v := ?vo_w67) (w1 := (wr.setCell ⟨go64, (x12_3 : Int).toNat, none⟩ (.int .i64 (-2)))) ?hg ?ho ?hn ?hr ?_; (case ho => rfl); (case hg => rfl); (case hn => rfl); (case hr => first | (go_simp; done) | (go_simp; rfl)); intro w67 hw; have hg : wr.grownBy w67 (some go64) := (by rw [hw]; exact HP66.2); have hp_ : Kd.R (Kd.int .i64) 3 w67 w.heap.size (fun _ => True) (.slice (some ⟨go64, 0, none⟩) x11_3.length co64) y385 := (by rw [hw, Ny385.out]; exact HP66.1); clear HP66; have n0_ := Aside0.mk (Kd.S_over' (v := (.slice (some ⟨go64, 0, none⟩) x11_3.length co64)) (by exact SX_ HO_7.out) (Kd.R_typed HO_11.out) (by decide) hg); have n1_ := Aside0.mk (hp_); have n2_ := Aside0.mk (blk_grown (g := gb358) (o := .cells #[.slice A0_0 l0_0.length c0_0, .slice A0_1 l0_1.length c0_1] 26 (0, 0)) (by exact KX_ BK358.out) hg (Kd.R_ne HO_11.out BK358.out (by decide))); have n3_ := Aside0.mk ((by rw [hw]; exact below_set (HB.out) GB64.out : Below w.heap.size w w67)); clear HO_7; clear HO_11; clear BK358; clear HB; have HO_7 := n0_; have HO_11 := n1_; have BK358 := n2_; have HB := n3_; clear n0_ n1_ n2_ n3_; clear hg hw hp_))
              (try simp only [Act.put, List.setIfInBounds_toArray, List.set_cons_zero, List.set_cons_succ])
              go_cut [] (fun wc => ∃ (kq : Nat) (x11_64 : List Int), Aside0 (lockstepref07_Tree.j4 kq a1 (l0_0.length : Int) x7_2 x11_64 x12_3 = some r) ∧ Aside0 (kq ≤ k3) ∧ Aside0 (Kd.S (Kd.slice 4 Kd.bool) 39 wc w.heap.size (fun _ => True) v364 x7_2) ∧ Aside0 (Kd.R (Kd.int .i64) 3 wc w.heap.size (fun _ => True) (.slice (some ⟨go64, 0, none⟩) x11_3.length co64) x11_64) ∧ Aside0 (wc.heap[gb358]? = some (.cells #[(.slice A0_0 l0_0.length c0_0), (.slice A0_1 l0_1.length c0_1)] 26 (0, 0))) ∧ Aside0 (Below w.heap.size w wc))
              case first =>
               have H := HC65.out
               clear HC65
               by_cases c68 : x12_3 = a1
               ·rw [if_pos c68] at H
                have c68b0 : (x12_3 == a1) = true := beq_iff_eq.mpr c68
                have c68b1 : (x12_3 != a1) = false := bne_eq_false_iff_eq.mpr c68
                clear c68
                (first | rw [c68b0] | (simp only [i64_w, i32_w]; rw [c68b0]) | skip)
                obtain ⟨y386, hy386⟩ : ∃ y_ : List Int, y_ = (y385.set (x12_3 : Int).toNat (-1)) := ⟨_, rfl⟩
                replace H : (lockstepref07_Tree.j4 k3 a1 (l0_0.length : Int) x7_2 y386 x12_3) = some r := by first | (rw [hy386]; with_reducible exact H) | (have H2_ := (Option.bind_some _ _).symm.trans H; rw [hy386]; with_reducible exact H2_) | (have H2_ := (Option.bind_some _ _).symm.trans H; with_reducible exact H2_) | with_reducible exact H | (rw [hy386]; exact H) | exact H
                have Ny386 := Aside0.mk hy386
                clear hy386
                have H' := Aside0.mk H
                clear H
                have p69 : 0 ≤ (x12_3 : Int) := D_
                have q69 : (x12_3 : Int) < ((x11_3.length : Int) : Int) := D_
                obtain ⟨hx69_0, hf69_0⟩ := Kd.R_celln 0 HO_11.out (x12_3 : Int) p69 q69
                replace p69 := eq_true p69
                replace q69 := eq_true q69
                have HP70 := Kd.R_putg HO_11.out (x12_3 : Int) (-1)
                go_wp2_with (first | ((with_reducible refine gate_store (t := 3) (p := 89) rfl ?_); refine store_event (t := 3) (p := 89) (v := ?vo_w71) (w1 := (w67.setCell ⟨go64, (x12_3 : Int).toNat, none⟩ (.int .i64 (-1)))) ?hg ?ho ?hn ?hr ?_; (case ho => rfl); (case hg => rfl); (case hn => rfl); (case hr => first | (go_simp; done) | (go_simp; rfl)); intro w71 hw; have hg : w67.grownBy w71 (some go64) := (by rw [hw]; exact HP70.2); have hp_ : Kd.R (Kd.int .i64) 3 w71 w.heap.size (fun _ => True) (.slice (some ⟨go64, 0, none⟩) x11_3.length co64) y386 := (by rw [hw, Ny386.out]; exact HP70.1); clear HP70; have n0_ := Aside0.mk (Kd.S_over' (v := (.slice (some ⟨go64, 0, none⟩) x11_3.length co64)) (by exact SX_ HO_7.out) (Kd.R_typed HO_11.out) (by decide) hg); have n1_ := Aside0.mk (hp_); have n2_ := Aside0.mk (blk_grown (g := gb358) (o := .cells #[.slice A0_0 l0_0.length c0_0, .slice A0_1 l0_1.length c0_1] 26 (0, 0)) (by exact KX_ BK358.out) hg (Kd.R_ne HO_11.out BK358.out (by decide))); have n3_ := Aside0.mk ((by rw [hw]; exact below_set (HB.out) GB64.out : Below w.heap.size w w71)); clear HO_7; clear HO_11; clear BK358; clear HB; have HO_7 := n0_; have HO_11 := n1_; have BK358 := n2_; have HB := n3_; clear n0_ n1_ n2_ n3_; clear hg hw hp_))
                go_meet
                case rel => exact ⟨_, (y386), H', ⟨by have := HJ2.out; have := HK2.out; have := HK3.out; first | omega | exact Nat.le_refl _⟩, ⟨by exact SM_ HO_7.out⟩, ⟨by exact RM_ HO_11.out⟩, ⟨by exact KX_ BK358.out⟩, ⟨B1_⟩⟩
               rw [if_neg c68] at H
               have c68b0 : (x12_3 == a1) = false := beq_eq_false_iff_ne.mpr c68
               have c68b1 : (x12_3 != a1) = true := bne_iff_ne.mpr c68
               (first | rw [c68b0] | (simp only [i64_w, i32_w]; rw [c68b0]) | skip)
               have H' := Aside0.mk H
               clear H
               go_wp2
               go_meet
               case rel => exact ⟨_, (y385), H', ⟨by have := HJ2.out; have := HK2.out; have := HK3.out; first | omega | exact Nat.le_refl _⟩, ⟨by exact SM_ HO_7.out⟩, ⟨by exact RM_ HO_11.out⟩, ⟨by exact KX_ BK358.out⟩, ⟨B1_⟩⟩
              case rest =>
               clear HC65
               try clear c61b0
               try clear c62b0
               try clear c63b0
               try clear p64
               try clear q64
               try clear hx64_0
               try clear p64
               try clear q64
               obtain ⟨kq, x11_64, HA, HJ64, HO_7, HO_11, BK358, HB⟩ := hcut
               have hl11_64 := (Kd.R_reads' HO_11.out).1
               rw [hl11_64] at HO_11
               (try simp only [hl11_64])
               (try simp only [hl11_64] at BK358)
               (try simp only [hl11_64] at HO_7)
               cases kq with
               | zero => exact absurd HA.out (by simp [lockstepref07_Tree.j4])
               | succ kj64 =>
                have H := HA.out
                clear HA
                simp only [lockstepref07_Tree.j4] at H
                have H' := Aside0.mk H
                clear H
                go_wp2
                go_loopg [13] kj64 (fun kq v13 w' => ∃ (x11_5 : List Int) (x13_5 : Int), v13 = .int .i64 x13_5 ∧ Aside0 (lockstepref07_Tree.l3 kq a1 (l0_0.length : Int) x7_2 x11_5 x12_3 x13_5 = some r) ∧ Aside0 (kq ≤ kj64) ∧ Aside0 (Kd.S (Kd.slice 4 Kd.bool) 39 w' w.heap.size (fun _ => True) v364 x7_2) ∧ Aside0 (Kd.R (Kd.int .i64) 3 w' w.heap.size (fun _ => True) (.slice (some ⟨go64, 0, none⟩) x11_64.length co64) x11_5) ∧ Aside0 (w'.heap[gb358]? = some (.cells #[(.slice A0_0 l0_0.length c0_0), (.slice A0_1 l0_1.length c0_1)] 26 (0, 0))) ∧ Aside0 (Below w.heap.size w w'))
                case atStart => exact ⟨(x11_64), (0), (by first | rfl | (simp; done) | (simp [*]; done)), H', ⟨Nat.le_refl _⟩, ⟨by (try simp only [hl11_64]); exact SM_ HO_7.out⟩, ⟨by (try simp only [hl11_64]); exact RM_ HO_11.out⟩, ⟨by (try simp only [hl11_64]); exact KX_ BK358.out⟩, ⟨B1_⟩⟩
                case round =>
                 clear H'
                 obtain ⟨x11_5, x13_5, rfl, HA, HK5, HO_7, HO_11, BK358, HB⟩ := hrel
                 have hl11_5 := (Kd.R_reads' HO_11.out).1
                 rw [hl11_5] at HO_11
                 (try simp only [hl11_5])
                 (try simp only [hl11_5] at BK358)
                 (try simp only [hl11_5] at HO_7)
                 cases gk with
                 | zero => exact absurd HA.out (by simp [lockstepref07_Tree.l3])
                 | succ k5 =>
                  have H := HA.out
                  clear HA
                  simp only [lockstepref07_Tree.l3] at H
                  have HC72 := Aside0.mk H
                  clear H
                  go_upto_region 23 with (fail)
                  go_cut [97] (fun v97 wc => ∃ (kq : Nat) (x97_71 : Bool), v97 = .bool x97_71 ∧ Aside0 (lockstepref07_Tree.j6 kq a1 (l0_0.length : Int) x7_2 x11_5 x12_3 x13_5 x97_71 = some r) ∧ Aside0 (kq ≤ k5) ∧ Aside0 (Kd.S (Kd.slice 4 Kd.bool) 39 wc w.heap.size (fun _ => True) v364 x7_2) ∧ Aside0 (Kd.R (Kd.int .i64) 3 wc w.heap.size (fun _ => True) (.slice (some ⟨go64, 0, none⟩) x11_5.length co64) x11_5) ∧ Aside0 (wc.heap[gb358]? = some (.cells #[(.slice A0_0 l0_0.length c0_0), (.slice A0_1 l0_1.length c0_1)] 26 (0, 0))) ∧ Aside0 (Below w.heap.size w wc))
                  case first =>
                   have H := HC72.out
                   clear HC72
                   by_cases c73 : x13_5 < (l0_0.length : Int)
                   ·rw [if_pos c73] at H
                    have c73b0 : decide (x13_5 < (l0_0.length : Int)) = true := decide_eq_true c73
                    clear c73
                    (first | rw [c73b0] | (simp only [i64_w, i32_w]; rw [c73b0]) | skip)
                    have H' := Aside0.mk H
                    clear H
                    go_wp2
                    go_meet
                    case rel => exact ⟨_, ((x12_3 != a1)), (by first | rfl | (simp; done) | (simp [*]; done)), H', ⟨by have := HJ2.out; have := HK2.out; have := HK3.out; have := HJ64.out; have := HK5.out; first | omega | exact Nat.le_refl _⟩, ⟨by (try simp only [hl11_64]); (try simp only [hl11_5]); exact SM_ HO_7.out⟩, ⟨by (try simp only [hl11_64]); (try simp only [hl11_5]); exact RM_ HO_11.out⟩, ⟨by (try simp only [hl11_64]); (try simp only [hl11_5]); exact KX_ BK358.out⟩, ⟨B1_⟩⟩
                   rw [if_neg c73] at H
                   have c73b0 : decide (x13_5 < (l0_0.length : Int)) = false := decide_eq_false c73
                   clear c73
                   (first | rw [c73b0] | (simp only [i64_w, i32_w]; rw [c73b0]) | skip)
                   have H' := Aside0.mk H
                   clear H
                   go_wp2
                   go_meet
                   case rel => exact ⟨_, (false), (by first | rfl | (simp; done) | (simp [*]; done)), H', ⟨by have := HJ2.out; have := HK2.out; have := HK3.out; have := HJ64.out; have := HK5.out; first | omega | exact Nat.le_refl _⟩, ⟨by (try simp only [hl11_64]); (try simp only [hl11_5]); exact SM_ HO_7.out⟩, ⟨by (try simp only [hl11_64]); (try simp only [hl11_5]); exact RM_ HO_11.out⟩, ⟨by (try simp only [hl11_64]); (try simp only [hl11_5]); exact KX_ BK358.out⟩, ⟨B1_⟩⟩
                  case rest =>
                   clear HC72
                   obtain ⟨kq, x97_71, rfl, HA, HJ71, HO_7, HO_11, BK358, HB⟩ := hcut
                   cases kq with
                   | zero => exact absurd HA.out (by simp [lockstepref07_Tree.j6])
                   | succ kj71 =>
                    have H := HA.out
                    clear HA
                    simp only [lockstepref07_Tree.j6] at H
                    by_cases c74 : x97_71 = true
                    ·subst c74
                     have H1 : (if x13_5 = x12_3 then (lockstepref07_Tree.j7 kj71 a1 (l0_0.length : Int) x7_2 x11_5 x12_3 x13_5 true) else (if 0 ≤ x13_5 then (if x13_5 < (x7_2.length : Int) then (if 0 ≤ x12_3 then (if x12_3 < ((rd_L3 x7_2 x13_5).length : Int) then (lockstepref07_Tree.j7 kj71 a1 (l0_0.length : Int) x7_2 x11_5 x12_3 x13_5 (!(rdOf false (rd_L3 x7_2 x13_5) x12_3))) else (none)) else (none)) else (none)) else (none))) = some r := by rw [if_pos rfl] at H; exact H
                     clear H
                     have H := H1
                     clear H1
                     have HC75 := Aside0.mk H
                     clear H
                     go_upto_region 25 with (fail)
                     go_cut [112] (fun v112 wc => ∃ (kq : Nat) (x112_74 : Bool), v112 = .bool x112_74 ∧ Aside0 (lockstepref07_Tree.j7 kq a1 (l0_0.length : Int) x7_2 x11_5 x12_3 x13_5 x112_74 = some r) ∧ Aside0 (kq ≤ kj71) ∧ Aside0 (Kd.S (Kd.slice 4 Kd.bool) 39 wc w.heap.size (fun _ => True) v364 x7_2) ∧ Aside0 (Kd.R (Kd.int .i64) 3 wc w.heap.size (fun _ => True) (.slice (some ⟨go64, 0, none⟩) x11_5.length co64) x11_5) ∧ Aside0 (wc.heap[gb358]? = some (.cells #[(.slice A0_0 l0_0.length c0_0), (.slice A0_1 l0_1.length c0_1)] 26 (0, 0))) ∧ Aside0 (Below w.heap.size w wc))
                     case first =>
                      have H := HC75.out
                      clear HC75
                      by_cases c76 : x13_5 = x12_3
                      ·rw [if_pos c76] at H
                       have c76b0 : (x13_5 == x12_3) = true := beq_iff_eq.mpr c76
                       have c76b1 : (x13_5 != x12_3) = false := bne_eq_false_iff_eq.mpr c76
                       clear c76
                       (first | rw [c76b0] | (simp only [i64_w, i32_w]; rw [c76b0]) | skip)
                       have H' := Aside0.mk H
                       clear H
                       go_wp2
                       go_meet
                       case rel => exact ⟨_, (true), (by first | rfl | (simp; done) | (simp [*]; done)), H', ⟨by have := HJ2.out; have := HK2.out; have := HK3.out; have := HJ64.out; have := HK5.out; have := HJ71.out; first | omega | exact Nat.le_refl _⟩, ⟨by (try simp only [hl11_64]); (try simp only [hl11_5]); exact SM_ HO_7.out⟩, ⟨by (try simp only [hl11_64]); (try simp only [hl11_5]); exact RM_ HO_11.out⟩, ⟨by (try simp only [hl11_64]); (try simp only [hl11_5]); exact KX_ BK358.out⟩, ⟨B1_⟩⟩
                      rw [if_neg c76] at H
                      have c76b0 : (x13_5 == x12_3) = false := beq_eq_false_iff_ne.mpr c76
                      have c76b1 : (x13_5 != x12_3) = true := bne_iff_ne.mpr c76
                      (first | rw [c76b0] | (simp only [i64_w, i32_w]; rw [c76b0]) | skip)
                      by_cases c77 : 0 ≤ x13_5
                      ·rw [if_pos c77] at H
                       have c77b0 : decide (0 ≤ x13_5) = true := decide_eq_true c77
                       clear c77
                       by_cases c78 : x13_5 < (x7_2.length : Int)
                       ·rw [if_pos c78] at H
                        have c78b0 : decide (x13_5 < (x7_2.length : Int)) = true := decide_eq_true c78
                        clear c78
                        by_cases c79 : 0 ≤ x12_3
                        ·rw [if_pos c79] at H
                         have c79b0 : decide (0 ≤ x12_3) = true := decide_eq_true c79
                         clear c79
                         by_cases c80 : x12_3 < ((rd_L3 x7_2 x13_5).length : Int)
                         ·rw [if_pos c80] at H
                          have c80b0 : decide (x12_3 < ((rd_L3 x7_2 x13_5).length : Int)) = true := decide_eq_true c80
                          clear c80
                          have H' := Aside0.mk H
                          clear H
                          obtain ⟨Ao81, co81, eo81⟩ := Kd.S_slice HO_7.out
                          subst eo81
                          have p387 : 0 ≤ (x13_5 : Int) := D_
                          have q387 : x13_5 < (x7_2.length : Int) := D_
                          obtain ⟨ad387, A387_0, c387_0, e387, hx387_0, hl387_0, hi387_0⟩ := at_L3 (Kd.S_reads' HO_7.out).2.2 x13_5 p387 q387
                          cases e387
                          obtain ⟨ce387, hce387, hMe387, hcc387⟩ := Kd.S_get HO_7.out [] x13_5 p387 (by first | exact q387 | exact D_ | (have e_ := (Kd.S_reads' HO_7.out).1; omega))
                          obtain ⟨ve387_0, rfl, ge387_0⟩ := hMe387
                          have hv387_0 := hcc387 0 _ rfl
                          rw [Nat.add_zero, show ((Kd.slice 4 Kd.bool)).sz = 1 from rfl, Nat.mul_one] at hv387_0
                          replace hv387_0 := Option.some.inj (hv387_0.symm.trans hx387_0)
                          rw [hv387_0] at ge387_0
                          have HL387_0 := Aside0.mk (show Kd.R Kd.bool 4 _ _ _ _ (rd_L3 x7_2 x13_5) from ge387_0)
                          clear hv387_0 ge387_0
                          have HX387_0 := Aside0.mk hx387_0
                          clear hcc387 hce387
                          have HR387_0 := Aside0.mk hi387_0
                          have HC387_0 := Aside0.mk hl387_0
                          clear hi387_0 hl387_0
                          replace p387 := eq_true p387
                          replace q387 := eq_true q387
                          have p388 : 0 ≤ (x12_3 : Int) := D_
                          have q388 : x12_3 < ((rd_L3 x7_2 x13_5).length : Int) := D_
                          obtain ⟨ad388, e388, hx388_0⟩ := Kd.at_bool (by repeat (first | (with_reducible exact HR387_0.out) | (with_reducible refine Kd.C_alloc ?_ _) | (with_reducible refine Kd.C_drewN ?_ _) | (with_reducible refine Kd.C_drew ?_) | exact HR387_0.out)) x12_3 p388 q388
                          cases e388
                          replace p388 := eq_true p388
                          replace q388 := eq_true q388
                          go_wp2
                          go_meet
                          case rel => exact ⟨_, (!(rdOf false (rd_L3 x7_2 x13_5) x12_3)), (by first | rfl | (simp; done) | (simp [*]; done)), H', ⟨by have := HJ2.out; have := HK2.out; have := HK3.out; have := HJ64.out; have := HK5.out; have := HJ71.out; first | omega | exact Nat.le_refl _⟩, ⟨by (try simp only [hl11_64]); (try simp only [hl11_5]); exact SM_ HO_7.out⟩, ⟨by (try simp only [hl11_64]); (try simp only [hl11_5]); exact RM_ HO_11.out⟩, ⟨by (try simp only [hl11_64]); (try simp only [hl11_5]); exact KX_ BK358.out⟩, ⟨B1_⟩⟩
                         rw [if_neg c80] at H
                         exact absurd H (by simp)
                        rw [if_neg c79] at H
                        exact absurd H (by simp)
                       rw [if_neg c78] at H
                       exact absurd H (by simp)
                      rw [if_neg c77] at H
                      exact absurd H (by simp)
                     case rest =>
                      clear HC75
                      try clear c74
                      obtain ⟨kq, x112_74, rfl, HA, HJ74, HO_7, HO_11, BK358, HB⟩ := hcut
                      cases kq with
                      | zero => exact absurd HA.out (by simp [lockstepref07_Tree.j7])
                      | succ kj74 =>
                       have H := HA.out
                       clear HA
                       simp only [lockstepref07_Tree.j7] at H
                       by_cases c82 : x112_74 = true
                       ·subst c82
                        have H1 : (lockstepref07_Tree.l3 kj74 a1 (l0_0.length : Int) x7_2 x11_5 x12_3 (wrap64 (x13_5 + 1))) = some r := by rw [if_pos rfl] at H; exact H
                        clear H
                        have H := H1
                        clear H1
                        have H' := Aside0.mk H
                        clear H
                        go_wp2
                        (try simp only [← hl11_5])
                        go_roundg kj74
                        case measure => have := HJ2.out; have := HK2.out; have := HK3.out; have := HJ64.out; have := HK5.out; have := HJ71.out; have := HJ74.out; omega
                        case rel => exact ⟨(x11_5), (wrap64 (x13_5 + 1)), (by first | rfl | (simp; done) | (simp [*]; done)), H', ⟨by have := HJ2.out; have := HK2.out; have := HK3.out; have := HJ64.out; have := HK5.out; have := HJ71.out; have := HJ74.out; omega⟩, ⟨by (try simp only [hl11_64]); (try simp only [hl11_5]); exact SM_ HO_7.out⟩, ⟨by (try simp only [hl11_64]); (try simp only [hl11_5]); exact RM_ HO_11.out⟩, ⟨by (try simp only [hl11_64]); (try simp only [hl11_5]); exact KX_ BK358.out⟩, ⟨B1_⟩⟩
                       replace c82 := Bool.eq_false_iff.mpr c82
                       subst c82
                       have H1 : (lockstepref07_Tree.l4 kj74 a1 (l0_0.length : Int) x7_2 x11_5 x12_3 x13_5 true 0) = some r := by rw [if_neg (show ¬ (false = true) by decide)] at H; exact H
                       clear H
                       have H := H1
                       clear H1
                       have H' := Aside0.mk H
                       clear H
                       go_wp2
                       go_loopg [14, 15] kj74 (fun kq v14 v15 w' => ∃ (x14_8 : Bool) (x15_8 : Int), v14 = .bool x14_8 ∧ v15 = .int .i64 x15_8 ∧ Aside0 (lockstepref07_Tree.l4 kq a1 (l0_0.length : Int) x7_2 x11_5 x12_3 x13_5 x14_8 x15_8 = some r) ∧ Aside0 (kq ≤ kj74) ∧ Aside0 (Kd.S (Kd.slice 4 Kd.bool) 39 w' w.heap.size (fun _ => True) v364 x7_2) ∧ Aside0 (Kd.R (Kd.int .i64) 3 w' w.heap.size (fun _ => True) (.slice (some ⟨go64, 0, none⟩) x11_5.length co64) x11_5) ∧ Aside0 (w'.heap[gb358]? = some (.cells #[(.slice A0_0 l0_0.length c0_0), (.slice A0_1 l0_1.length c0_1)] 26 (0, 0))) ∧ Aside0 (Below w.heap.size w w'))
                       case atStart => exact ⟨(true), (0), (by first | rfl | (simp; done) | (simp [*]; done)), (by first | rfl | (simp; done) | (simp [*]; done)), H', ⟨Nat.le_refl _⟩, ⟨by (try simp only [hl11_64]); (try simp only [hl11_5]); exact SM_ HO_7.out⟩, ⟨by (try simp only [hl11_64]); (try simp only [hl11_5]); exact RM_ HO_11.out⟩, ⟨by (try simp only [hl11_64]); (try simp only [hl11_5]); exact KX_ BK358.out⟩, ⟨B1_⟩⟩
                       case round =>
                        clear H'
                        try clear c82
                        obtain ⟨x14_8, x15_8, rfl, rfl, HA, HK8, HO_7, HO_11, BK358, HB⟩ := hrel
                        cases gk with
                        | zero => exact absurd HA.out (by simp [lockstepref07_Tree.l4])
                        | succ k8 =>
                         have H := HA.out
                         clear HA
                         simp only [lockstepref07_Tree.l4] at H
                         by_cases c83 : x15_8 < (l0_0.length : Int)
                         ·rw [if_pos c83] at H
                          have c83b0 : decide (x15_8 < (l0_0.length : Int)) = true := decide_eq_true c83
                          clear c83
                          by_cases c84 : x14_8 = true
                          ·subst c84
                           have H1 : (if x15_8 = x12_3 then (lockstepref07_Tree.l4 k8 a1 (l0_0.length : Int) x7_2 x11_5 x12_3 x13_5 true (wrap64 (x15_8 + 1))) else (if 0 ≤ x15_8 then (if x15_8 < (x7_2.length : Int) then (if 0 ≤ x12_3 then (if x12_3 < ((rd_L3 x7_2 x15_8).length : Int) then (if (rdOf false (rd_L3 x7_2 x15_8) x12_3 = true) then (if 0 ≤ x13_5 then (if x13_5 < ((rd_L3 x7_2 x15_8).length : Int) then (lockstepref07_Tree.l4 k8 a1 (l0_0.length : Int) x7_2 x11_5 x12_3 x13_5 (rdOf false (rd_L3 x7_2 x15_8) x13_5) (wrap64 (x15_8 + 1))) else (none)) else (none)) else (lockstepref07_Tree.l4 k8 a1 (l0_0.length : Int) x7_2 x11_5 x12_3 x13_5 true (wrap64 (x15_8 + 1)))) else (none)) else (none)) else (none)) else (none))) = some r := by rw [if_pos rfl] at H; exact H
                           clear H
                           have H := H1
                           clear H1
                           by_cases c85 : x15_8 = x12_3
                           ·rw [if_pos c85] at H
                            have c85b0 : (x15_8 == x12_3) = true := beq_iff_eq.mpr c85
                            have c85b1 : (x15_8 != x12_3) = false := bne_eq_false_iff_eq.mpr c85
                            clear c85
                            have H' := Aside0.mk H
                            clear H
                            go_wp2
                            go_roundg k8
                            case measure => have := HJ2.out; have := HK2.out; have := HK3.out; have := HJ64.out; have := HK5.out; have := HJ71.out; have := HJ74.out; have := HK8.out; omega
                            case rel => exact ⟨(true), (wrap64 (x15_8 + 1)), (by first | rfl | (simp; done) | (simp [*]; done)), (by first | rfl | (simp; done) | (simp [*]; done)), H', ⟨by have := HJ2.out; have := HK2.out; have := HK3.out; have := HJ64.out; have := HK5.out; have := HJ71.out; have := HJ74.out; have := HK8.out; omega⟩, ⟨by (try simp only [hl11_64]); (try simp only [hl11_5]); exact SM_ HO_7.out⟩, ⟨by (try simp only [hl11_64]); (try simp only [hl11_5]); exact RM_ HO_11.out⟩, ⟨by (try simp only [hl11_64]); (try simp only [hl11_5]); exact KX_ BK358.out⟩, ⟨B1_⟩⟩
                           rw [if_neg c85] at H
                           have c85b0 : (x15_8 == x12_3) = false := beq_eq_false_iff_ne.mpr c85
                           have c85b1 : (x15_8 != x12_3) = true := bne_iff_ne.mpr c85
                           by_cases c86 : 0 ≤ x15_8
                           ·rw [if_pos c86] at H
                            have c86b0 : decide (0 ≤ x15_8) = true := decide_eq_true c86
                            clear c86
                            by_cases c87 : x15_8 < (x7_2.length : Int)
                            ·rw [if_pos c87] at H
                             have c87b0 : decide (x15_8 < (x7_2.length : Int)) = true := decide_eq_true c87
                             clear c87
                             by_cases c88 : 0 ≤ x12_3
                             ·rw [if_pos c88] at H
                              have c88b0 : decide (0 ≤ x12_3) = true := decide_eq_true c88
                              clear c88
                              by_cases c89 : x12_3 < ((rd_L3 x7_2 x15_8).length : Int)
                              ·rw [if_pos c89] at H
                               have c89b0 : decide (x12_3 < ((rd_L3 x7_2 x15_8).length : Int)) = true := decide_eq_true c89
                               clear c89
                               obtain ⟨bq90, hbq90⟩ : ∃ b_ : Bool, b_ = (rdOf false (rd_L3 x7_2 x15_8) x12_3) := ⟨_, rfl⟩
                               replace H : (if (bq90 = true) then (if 0 ≤ x13_5 then (if x13_5 < ((rd_L3 x7_2 x15_8).length : Int) then (lockstepref07_Tree.l4 k8 a1 (l0_0.length : Int) x7_2 x11_5 x12_3 x13_5 (rdOf false (rd_L3 x7_2 x15_8) x13_5) (wrap64 (x15_8 + 1))) else (none)) else (none)) else (lockstepref07_Tree.l4 k8 a1 (l0_0.length : Int) x7_2 x11_5 x12_3 x13_5 true (wrap64 (x15_8 + 1)))) = some r := by rw [← hbq90] at H; exact H
                               have Nbq90 := Aside0.mk hbq90
                               clear hbq90
                               by_cases c91 : (bq90 = true)
                               ·subst c91
                                have H1 : (if 0 ≤ x13_5 then (if x13_5 < ((rd_L3 x7_2 x15_8).length : Int) then (lockstepref07_Tree.l4 k8 a1 (l0_0.length : Int) x7_2 x11_5 x12_3 x13_5 (rdOf false (rd_L3 x7_2 x15_8) x13_5) (wrap64 (x15_8 + 1))) else (none)) else (none)) = some r := by rw [if_pos rfl] at H; exact H
                                clear H
                                have H := H1
                                clear H1
                                by_cases c92 : 0 ≤ x13_5
                                ·rw [if_pos c92] at H
                                 have c92b0 : decide (0 ≤ x13_5) = true := decide_eq_true c92
                                 clear c92
                                 by_cases c93 : x13_5 < ((rd_L3 x7_2 x15_8).length : Int)
                                 ·rw [if_pos c93] at H
                                  have c93b0 : decide (x13_5 < ((rd_L3 x7_2 x15_8).length : Int)) = true := decide_eq_true c93
                                  clear c93
                                  have H' := Aside0.mk H
                                  clear H
                                  obtain ⟨Ao94, co94, eo94⟩ := Kd.S_slice HO_7.out
                                  subst eo94
                                  have p389 : 0 ≤ (x15_8 : Int) := D_
                                  have q389 : x15_8 < (x7_2.length : Int) := D_
                                  obtain ⟨ad389, A389_0, c389_0, e389, hx389_0, hl389_0, hi389_0⟩ := at_L3 (Kd.S_reads' HO_7.out).2.2 x15_8 p389 q389
                                  cases e389
                                  obtain ⟨ce389, hce389, hMe389, hcc389⟩ := Kd.S_get HO_7.out [] x15_8 p389 (by first | exact q389 | exact D_ | (have e_ := (Kd.S_reads' HO_7.out).1; omega))
                                  obtain ⟨ve389_0, rfl, ge389_0⟩ := hMe389
                                  have hv389_0 := hcc389 0 _ rfl
                                  rw [Nat.add_zero, show ((Kd.slice 4 Kd.bool)).sz = 1 from rfl, Nat.mul_one] at hv389_0
                                  replace hv389_0 := Option.some.inj (hv389_0.symm.trans hx389_0)
                                  rw [hv389_0] at ge389_0
                                  have HL389_0 := Aside0.mk (show Kd.R Kd.bool 4 _ _ _ _ (rd_L3 x7_2 x15_8) from ge389_0)
                                  clear hv389_0 ge389_0
                                  have HX389_0 := Aside0.mk hx389_0
                                  clear hcc389 hce389
                                  have HR389_0 := Aside0.mk hi389_0
                                  have HC389_0 := Aside0.mk hl389_0
                                  clear hi389_0 hl389_0
                                  replace p389 := eq_true p389
                                  replace q389 := eq_true q389
                                  have p390 : 0 ≤ (x12_3 : Int) := D_
                                  have q390 : x12_3 < ((rd_L3 x7_2 x15_8).length : Int) := D_
                                  obtain ⟨ad390, e390, hx390_0⟩ := Kd.at_bool (by repeat (first | (with_reducible exact HR389_0.out) | (with_reducible refine Kd.C_alloc ?_ _) | (with_reducible refine Kd.C_drewN ?_ _) | (with_reducible refine Kd.C_drew ?_) | exact HR389_0.out)) x12_3 p390 q390
                                  (try rw [← Nbq90.out] at hx390_0)
                                  cases e390
                                  replace p390 := eq_true p390
                                  replace q390 := eq_true q390
                                  have p391 : 0 ≤ (x15_8 : Int) := D_
                                  have q391 : x15_8 < (x7_2.length : Int) := D_
                                  obtain ⟨ad391, A391_0, c391_0, e391, hx391_0, hl391_0, hi391_0⟩ := at_L3 (Kd.S_reads' HO_7.out).2.2 x15_8 p391 q391
                                  obtain rfl : ad389 = ad391 := (by injection e391)
                                  obtain ⟨ce391, hce391, hMe391, hcc391⟩ := Kd.S_get HO_7.out [] x15_8 p391 (by first | exact q391 | exact D_ | (have e_ := (Kd.S_reads' HO_7.out).1; omega))
                                  obtain ⟨ve391_0, rfl, ge391_0⟩ := hMe391
                                  have hv391_0 := hcc391 0 _ rfl
                                  rw [Nat.add_zero, show ((Kd.slice 4 Kd.bool)).sz = 1 from rfl, Nat.mul_one] at hv391_0
                                  replace hv391_0 := Option.some.inj (hv391_0.symm.trans hx391_0)
                                  rw [hv391_0] at ge391_0
                                  have HL391_0 := Aside0.mk (show Kd.R Kd.bool 4 _ _ _ _ (rd_L3 x7_2 x15_8) from ge391_0)
                                  clear hv391_0 ge391_0
                                  have HX391_0 := Aside0.mk hx391_0
                                  clear hcc391 hce391
                                  have HR391_0 := Aside0.mk hi391_0
                                  have HC391_0 := Aside0.mk hl391_0
                                  clear hi391_0 hl391_0
                                  replace p391 := eq_true p391
                                  replace q391 := eq_true q391
                                  have ea_ := Option.some.inj (hx389_0.symm.trans hx391_0)
                                  injection ea_ with ea_ en_ ec_
                                  subst ea_
                                  subst ec_
                                  clear en_
                                  have p392 : 0 ≤ (x13_5 : Int) := D_
                                  have q392 : x13_5 < ((rd_L3 x7_2 x15_8).length : Int) := D_
                                  obtain ⟨ad392, e392, hx392_0⟩ := Kd.at_bool (by repeat (first | (with_reducible exact HR391_0.out) | (with_reducible refine Kd.C_alloc ?_ _) | (with_reducible refine Kd.C_drewN ?_ _) | (with_reducible refine Kd.C_drew ?_) | exact HR391_0.out)) x13_5 p392 q392
                                  (try rw [← Nbq90.out] at hx392_0)
                                  cases e392
                                  replace p392 := eq_true p392
                                  replace q392 := eq_true q392
                                  go_wp2
                                  go_roundg k8
                                  case measure => have := HJ2.out; have := HK2.out; have := HK3.out; have := HJ64.out; have := HK5.out; have := HJ71.out; have := HJ74.out; have := HK8.out; omega
                                  case rel => exact ⟨(rdOf false (rd_L3 x7_2 x15_8) x13_5), (wrap64 (x15_8 + 1)), (by first | rfl | (simp; done) | (simp [*]; done)), (by first | rfl | (simp; done) | (simp [*]; done)), H', ⟨by have := HJ2.out; have := HK2.out; have := HK3.out; have := HJ64.out; have := HK5.out; have := HJ71.out; have := HJ74.out; have := HK8.out; omega⟩, ⟨by (try simp only [hl11_64]); (try simp only [hl11_5]); exact SM_ HO_7.out⟩, ⟨by (try simp only [hl11_64]); (try simp only [hl11_5]); exact RM_ HO_11.out⟩, ⟨by (try simp only [hl11_64]); (try simp only [hl11_5]); exact KX_ BK358.out⟩, ⟨B1_⟩⟩
                                 rw [if_neg c93] at H
                                 exact absurd H (by simp)
                                rw [if_neg c92] at H
                                exact absurd H (by simp)
                               replace c91 := Bool.eq_false_iff.mpr c91
                               subst c91
                               have H1 : (lockstepref07_Tree.l4 k8 a1 (l0_0.length : Int) x7_2 x11_5 x12_3 x13_5 true (wrap64 (x15_8 + 1))) = some r := by rw [if_neg (show ¬ (false = true) by decide)] at H; exact H
                               clear H
                               have H := H1
                               clear H1
                               have H' := Aside0.mk H
                               clear H
                               obtain ⟨Ao95, co95, eo95⟩ := Kd.S_slice HO_7.out
                               subst eo95
                               have p389 : 0 ≤ (x15_8 : Int) := D_
                               have q389 : x15_8 < (x7_2.length : Int) := D_
                               obtain ⟨ad389, A389_0, c389_0, e389, hx389_0, hl389_0, hi389_0⟩ := at_L3 (Kd.S_reads' HO_7.out).2.2 x15_8 p389 q389
                               cases e389
                               obtain ⟨ce389, hce389, hMe389, hcc389⟩ := Kd.S_get HO_7.out [] x15_8 p389 (by first | exact q389 | exact D_ | (have e_ := (Kd.S_reads' HO_7.out).1; omega))
                               obtain ⟨ve389_0, rfl, ge389_0⟩ := hMe389
                               have hv389_0 := hcc389 0 _ rfl
                               rw [Nat.add_zero, show ((Kd.slice 4 Kd.bool)).sz = 1 from rfl, Nat.mul_one] at hv389_0
                               replace hv389_0 := Option.some.inj (hv389_0.symm.trans hx389_0)
                               rw [hv389_0] at ge389_0
                               have HL389_0 := Aside0.mk (show Kd.R Kd.bool 4 _ _ _ _ (rd_L3 x7_2 x15_8) from ge389_0)
                               clear hv389_0 ge389_0
                               have HX389_0 := Aside0.mk hx389_0
                               clear hcc389 hce389
                               have HR389_0 := Aside0.mk hi389_0
                               have HC389_0 := Aside0.mk hl389_0
                               clear hi389_0 hl389_0
                               replace p389 := eq_true p389
                               replace q389 := eq_true q389
                               have p390 : 0 ≤ (x12_3 : Int) := D_
                               have q390 : x12_3 < ((rd_L3 x7_2 x15_8).length : Int) := D_
                               obtain ⟨ad390, e390, hx390_0⟩ := Kd.at_bool (by repeat (first | (with_reducible exact HR389_0.out) | (with_reducible refine Kd.C_alloc ?_ _) | (with_reducible refine Kd.C_drewN ?_ _) | (with_reducible refine Kd.C_drew ?_) | exact HR389_0.out)) x12_3 p390 q390
                               (try rw [← Nbq90.out] at hx390_0)
                               cases e390
                               replace p390 := eq_true p390
                               replace q390 := eq_true q390
                               go_wp2
                               go_roundg k8
                               case measure => have := HJ2.out; have := HK2.out; have := HK3.out; have := HJ64.out; have := HK5.out; have := HJ71.out; have := HJ74.out; have := HK8.out; omega
                               case rel => exact ⟨(true), (wrap64 (x15_8 + 1)), (by first | rfl | (simp; done) | (simp [*]; done)), (by first | rfl | (simp; done) | (simp [*]; done)), H', ⟨by have := HJ2.out; have := HK2.out; have := HK3.out; have := HJ64.out; have := HK5.out; have := HJ71.out; have := HJ74.out; have := HK8.out; omega⟩, ⟨by (try simp only [hl11_64]); (try simp only [hl11_5]); exact SM_ HO_7.out⟩, ⟨by (try simp only [hl11_64]); (try simp only [hl11_5]); exact RM_ HO_11.out⟩, ⟨by (try simp only [hl11_64]); (try simp only [hl11_5]); exact KX_ BK358.out⟩, ⟨B1_⟩⟩
                              rw [if_neg c89] at H
                              exact absurd H (by simp)
                             rw [if_neg c88] at H
                             exact absurd H (by simp)
                            rw [if_neg c87] at H
                            exact absurd H (by simp)
                           rw [if_neg c86] at H
                           exact absurd H (by simp)
                          replace c84 := Bool.eq_false_iff.mpr c84
                          subst c84
                          have H1 : (lockstepref07_Tree.l4 k8 a1 (l0_0.length : Int) x7_2 x11_5 x12_3 x13_5 false (wrap64 (x15_8 + 1))) = some r := by rw [if_neg (show ¬ (false = true) by decide)] at H; exact H
                          clear H
                          have H := H1
                          clear H1
                          have H' := Aside0.mk H
                          clear H
                          go_wp2
                          go_roundg k8
                          case measure => have := HJ2.out; have := HK2.out; have := HK3.out; have := HJ64.out; have := HK5.out; have := HJ71.out; have := HJ74.out; have := HK8.out; omega
                          case rel => exact ⟨(false), (wrap64 (x15_8 + 1)), (by first | rfl | (simp; done) | (simp [*]; done)), (by first | rfl | (simp; done) | (simp [*]; done)), H', ⟨by have := HJ2.out; have := HK2.out; have := HK3.out; have := HJ64.out; have := HK5.out; have := HJ71.out; have := HJ74.out; have := HK8.out; omega⟩, ⟨by (try simp only [hl11_64]); (try simp only [hl11_5]); exact SM_ HO_7.out⟩, ⟨by (try simp only [hl11_64]); (try simp only [hl11_5]); exact RM_ HO_11.out⟩, ⟨by (try simp only [hl11_64]); (try simp only [hl11_5]); exact KX_ BK358.out⟩, ⟨B1_⟩⟩
                         rw [if_neg c83] at H
                         have c83b0 : decide (x15_8 < (l0_0.length : Int)) = false := decide_eq_false c83
                         clear c83
                         by_cases c96 : x14_8 = true
                         ·subst c96
                          have H1 : (if 0 ≤ x12_3 then (if x12_3 < (x11_5.length : Int) then (lockstepref07_Tree.l3 k8 a1 (l0_0.length : Int) x7_2 (x11_5.set (x12_3 : Int).toNat x13_5) x12_3 (wrap64 (x13_5 + 1))) else (none)) else (none)) = some r := by rw [if_pos rfl] at H; exact H
                          clear H
                          have H := H1
                          clear H1
                          by_cases c97 : 0 ≤ x12_3
                          ·rw [if_pos c97] at H
                           have c97b0 : decide (0 ≤ x12_3) = true := decide_eq_true c97
                           clear c97
                           by_cases c98 : x12_3 < (x11_5.length : Int)
                           ·rw [if_pos c98] at H
                            have c98b0 : decide (x12_3 < (x11_5.length : Int)) = true := decide_eq_true c98
                            clear c98
                            obtain ⟨y393, hy393⟩ : ∃ y_ : List Int, y_ = (x11_5.set (x12_3 : Int).toNat x13_5) := ⟨_, rfl⟩
                            replace H : (lockstepref07_Tree.l3 k8 a1 (l0_0.length : Int) x7_2 y393 x12_3 (wrap64 (x13_5 + 1))) = some r := by first | (rw [hy393]; with_reducible exact H) | (have H2_ := (Option.bind_some _ _).symm.trans H; rw [hy393]; with_reducible exact H2_) | (have H2_ := (Option.bind_some _ _).symm.trans H; with_reducible exact H2_) | with_reducible exact H | (rw [hy393]; exact H) | exact H
                            have Ny393 := Aside0.mk hy393
                            clear hy393
                            have H' := Aside0.mk H
                            clear H
                            have p99 : 0 ≤ (x12_3 : Int) := D_
                            have q99 : (x12_3 : Int) < ((x11_5.length : Int) : Int) := D_
                            obtain ⟨hx99_0, hf99_0⟩ := Kd.R_celln 0 HO_11.out (x12_3 : Int) p99 q99
                            replace p99 := eq_true p99
                            replace q99 := eq_true q99
                            have HP100 := Kd.R_putg HO_11.out (x12_3 : Int) x13_5
                            go_wp2_with (first | ((with_reducible refine gate_store (t := 3) (p := 147) rfl ?_); refine store_event (t := 3) (p := 147) (v := ?vo_w101) (w1 := (wr.setCell ⟨go64, (x12_3 : Int).toNat, none⟩ (.int .i64 x13_5))) ?hg ?ho ?hn ?hr ?_; (case ho => rfl); (case hg => rfl); (case hn => rfl); (case hr => first | (go_simp; done) | (go_simp; rfl)); intro w101 hw; have hg : wr.grownBy w101 (some go64) := (by rw [hw]; exact HP100.2); have hp_ : Kd.R (Kd.int .i64) 3 w101 w.heap.size (fun _ => True) (.slice (some ⟨go64, 0, none⟩) x11_5.length co64) y393 := (by rw [hw, Ny393.out]; exact HP100.1); clear HP100; have n0_ := Aside0.mk (Kd.S_over' (v := (.slice (some ⟨go64, 0, none⟩) x11_5.length co64)) (by exact SX_ HO_7.out) (Kd.R_typed HO_11.out) (by decide) hg); have n1_ := Aside0.mk (hp_); have n2_ := Aside0.mk (blk_grown (g := gb358) (o := .cells #[.slice A0_0 l0_0.length c0_0, .slice A0_1 l0_1.length c0_1] 26 (0, 0)) (by exact KX_ BK358.out) hg (Kd.R_ne HO_11.out BK358.out (by decide))); have n3_ := Aside0.mk ((by rw [hw]; exact below_set (HB.out) GB64.out : Below w.heap.size w w101)); clear HO_7; clear HO_11; clear BK358; clear HB; have HO_7 := n0_; have HO_11 := n1_; have BK358 := n2_; have HB := n3_; clear n0_ n1_ n2_ n3_; clear hg hw hp_))
                            (try simp only [← hl11_5])
                            go_roundg k8
                            case measure => have := HJ2.out; have := HK2.out; have := HK3.out; have := HJ64.out; have := HK5.out; have := HJ71.out; have := HJ74.out; have := HK8.out; omega
                            case rel => exact ⟨(y393), (wrap64 (x13_5 + 1)), (by first | rfl | (simp; done) | (simp [*]; done)), H', ⟨by have := HJ2.out; have := HK2.out; have := HK3.out; have := HJ64.out; have := HK5.out; have := HJ71.out; have := HJ74.out; have := HK8.out; omega⟩, ⟨by (try simp only [hl11_64]); (try simp only [hl11_5]); exact SM_ HO_7.out⟩, ⟨by (try simp only [hl11_64]); (try simp only [hl11_5]); exact RM_ HO_11.out⟩, ⟨by (try simp only [hl11_64]); (try simp only [hl11_5]); exact KX_ BK358.out⟩, ⟨B1_⟩⟩
                           rw [if_neg c98] at H
                           exact absurd H (by simp)
                          rw [if_neg c97] at H
                          exact absurd H (by simp)
                         replace c96 := Bool.eq_false_iff.mpr c96
                         subst c96
                         have H1 : (lockstepref07_Tree.l3 k8 a1 (l0_0.length : Int) x7_2 x11_5 x12_3 (wrap64 (x13_5 + 1))) = some r := by rw [if_neg (show ¬ (false = true) by decide)] at H; exact H
                         clear H
                         have H := H1
                         clear H1
                         have H' := Aside0.mk H
                         clear H
                         go_wp2
                         (try simp only [← hl11_5])
                         go_roundg k8
                         case measure => have := HJ2.out; have := HK2.out; have := HK3.out; have := HJ64.out; have := HK5.out; have := HJ71.out; have := HJ74.out; have := HK8.out; omega
                         case rel => exact ⟨(x11_5), (wrap64 (x13_5 + 1)), (by first | rfl | (simp; done) | (simp [*]; done)), H', ⟨by have := HJ2.out; have := HK2.out; have := HK3.out; have := HJ64.out; have := HK5.out; have := HJ71.out; have := HJ74.out; have := HK8.out; omega⟩, ⟨by (try simp only [hl11_64]); (try simp only [hl11_5]); exact SM_ HO_7.out⟩, ⟨by (try simp only [hl11_64]); (try simp only [hl11_5]); exact RM_ HO_11.out⟩, ⟨by (try simp only [hl11_64]); (try simp only [hl11_5]); exact KX_ BK358.out⟩, ⟨B1_⟩⟩
                    replace c74 := Bool.eq_false_iff.mpr c74
                    subst c74
                    have H1 : (lockstepref07_Tree.l2 kj71 a1 (l0_0.length : Int) x7_2 x11_5 (wrap64 (x12_3 + 1))) = some r := by rw [if_neg (show ¬ (false = true) by decide)] at H; exact H
                    clear H
                    have H := H1
                    clear H1
                    have H' := Aside0.mk H
                    clear H
                    go_wp2
                    (try simp only [← hl11_64, ← hl11_5])
                    go_roundg kj71
                    case measure => have := HJ2.out; have := HK2.out; have := HK3.out; have := HJ64.out; have := HK5.out; have := HJ71.out; omega
                    case rel => exact ⟨(x11_5), (wrap64 (x12_3 + 1)), (by first | rfl | (simp; done) | (simp [*]; done)), H', ⟨by have := HJ2.out; have := HK2.out; have := HK3.out; have := HJ64.out; have := HK5.out; have := HJ71.out; omega⟩, ⟨by (try simp only [hl11_64]); (try simp only [hl11_5]); exact SM_ HO_7.out⟩, ⟨by (try simp only [hl11_64]); (try simp only [hl11_5]); exact RM_ HO_11.out⟩, ⟨by (try simp only [hl11_64]); (try simp only [hl11_5]); exact KX_ BK358.out⟩, ⟨B1_⟩⟩
             rw [if_neg c63] at H
             exact absurd H (by simp)
            rw [if_neg c62] at H
            exact absurd H (by simp)
           rw [if_neg c61] at H
           have c61b0 : decide (x12_3 < (l0_0.length : Int)) = false := decide_eq_false c61
           clear c61
           obtain rfl := Option.some.inj H
           go_wp2
           go_ret
           exact ⟨_, by first | rfl | (simp [errW_none, errW_some] <;> rfl) | (simp [*, errW_none, errW_some] <;> rfl), by exact RX_ HO_11.out, B1_⟩
        rw [if_neg c58] at H
        exact absurd H (by simp)
       rw [if_neg c57] at H
       exact absurd H (by simp)
    rw [if_neg c18] at H
    exact absurd H (by simp)
   rw [if_neg c17] at H
   exact absurd H (by simp)


/-! ### locksteplaw07_DomTrees: function 3 -/
def locksteplaw07_DomTrees.j0 : Nat → List (List Int) → List (List Int) → Int → Bool → Option (Bool)
 | 0, _, _, _, _ => none
 | k + 1, x0, x1, x2, x24 => if x24 = true then (some true) else ((graph_Make.f k x0).bind fun bt398 => ((dom_Tree.f k x0 x1 x2).bind fun t406 => ((lockstepref07_Tree.f k x0 x1 x2).bind fun t409 => ((lockstepref02_Ints.f k t406 t409).bind fun t412 => (if t412 = true then (if bt398.2.2 = 0 then ((dom_Tree.f k bt398.1 bt398.2.1 x2).bind fun t413 => ((lockstepref07_Tree.f k bt398.1 bt398.2.1 x2).bind fun t416 => ((lockstepref02_Ints.f k t413 t416).bind fun t419 => (some t419)))) else (some true)) else (some false))))))
def locksteplaw07_DomTrees.f (k : Nat) (l0 : List (List Int)) (l1 : List (List Int)) (a2 : Int) : Option (Bool) := (locksteplaw07_awake.f k).bind fun t394 => (if t394 = true then (if (l0.length : Int) > 40 then (locksteplaw07_DomTrees.j0 k l0 l1 a2 true) else ((lockstepref06_Small.f k l0).bind fun t395 => (if t395 = true then ((lockstepref06_Small.f k l1).bind fun t396 => (locksteplaw07_DomTrees.j0 k l0 l1 a2 (!t396))) else (locksteplaw07_DomTrees.j0 k l0 l1 a2 true)))) else (some false))
theorem locksteplaw07_DomTrees.mono_l : ∀ k, (∀ y0 y1 y2 y3, LeO (locksteplaw07_DomTrees.j0 k y0 y1 y2 y3) (locksteplaw07_DomTrees.j0 (k + 1) y0 y1 y2 y3))
 | 0 => fun _ _ _ _ r h => by simp [locksteplaw07_DomTrees.j0] at h
 | k + 1 => by
  have ih0 := locksteplaw07_DomTrees.mono_l k
  ·intro y0 y1 y2 y3
   unfold locksteplaw07_DomTrees.j0
   repeat' first
   | (with_reducible exact ih0 _ _ _ _)
   | (with_reducible exact dom_Tree.mono _ _ _ _)
   | (with_reducible exact graph_Make.mono _ _)
   | (with_reducible exact locksteplaw07_awake.mono _)
   | (with_reducible exact lockstepref02_Ints.mono _ _ _)
   | (with_reducible exact lockstepref06_Small.mono _ _)
   | (with_reducible exact lockstepref07_Tree.mono _ _ _ _)
   | (with_reducible exact LeO.refl _)
   | (with_reducible exact LeO.none _)
   | (with_reducible refine LeO.ite ?_ ?_)
   | (with_reducible refine LeO.bind ?_ (fun _ => ?_))
   | exact ih0 _ _ _ _
   | exact dom_Tree.mono _ _ _ _
   | exact graph_Make.mono _ _
   | exact locksteplaw07_awake.mono _
   | exact lockstepref02_Ints.mono _ _ _
   | exact lockstepref06_Small.mono _ _
   | exact lockstepref07_Tree.mono _ _ _ _
   | exact LeO.none _
   | refine LeO.ite ?_ ?_
   | refine LeO.bind ?_ (fun _ => ?_)
theorem locksteplaw07_DomTrees.mono : ∀ a0 a1 a2 k, LeO (locksteplaw07_DomTrees.f k a0 a1 a2) (locksteplaw07_DomTrees.f (k + 1) a0 a1 a2) := by
 intro a0 a1 a2 k
 have ih0 := locksteplaw07_DomTrees.mono_l k
 unfold locksteplaw07_DomTrees.f
 repeat' first
  | (with_reducible exact ih0 _ _ _ _)
  | (with_reducible exact dom_Tree.mono _ _ _ _)
  | (with_reducible exact graph_Make.mono _ _)
  | (with_reducible exact locksteplaw07_awake.mono _)
  | (with_reducible exact lockstepref02_Ints.mono _ _ _)
  | (with_reducible exact lockstepref06_Small.mono _ _)
  | (with_reducible exact lockstepref07_Tree.mono _ _ _ _)
  | (with_reducible exact LeO.refl _)
  | (with_reducible exact LeO.none _)
  | (with_reducible refine LeO.ite ?_ ?_)
  | (with_reducible refine LeO.bind ?_ (fun _ => ?_))
  | exact ih0 _ _ _ _
  | exact dom_Tree.mono _ _ _ _
  | exact graph_Make.mono _ _
  | exact locksteplaw07_awake.mono _
  | exact lockstepref02_Ints.mono _ _ _
  | exact lockstepref06_Small.mono _ _
  | exact lockstepref07_Tree.mono _ _ _ _
  | exact LeO.none _
  | refine LeO.ite ?_ ?_
  | refine LeO.bind ?_ (fun _ => ?_)
def locksteplaw07_DomTrees.T7 : Bool × List (List Nat × List Nat) := (true, [([], []), ([], []), ([0, 1], [0, 1]), ([], []), ([], []), ([3, 4, 2], [3, 4]), ([2, 5, 5], [2, 5]), ([6], [6])])
def locksteplaw07_DomTrees.B7 : List Nat := [0, 0, 3, 0, 0, 31, 63, 127]
theorem locksteplaw07_DomTrees.tab7 : rtab .any (opsOf Try.f3 7) = locksteplaw07_DomTrees.T7 := by kernel_rfl
theorem locksteplaw07_DomTrees.bits7 : waitsOk locksteplaw07_DomTrees.T7.2 locksteplaw07_DomTrees.B7 = true := by kernel_rfl
def locksteplaw07_DomTrees.T9 : Bool × List (List Nat × List Nat) := (true, [([], []), ([0], [0]), ([1], [1]), ([2], [2]), ([2], [2]), ([3, 4, 2, 2], [2, 3, 4]), ([2], [2]), ([2], [2]), ([6, 7, 5, 2], [2, 6, 7]), ([5, 8, 8, 2], [2, 5, 8]), ([2, 9], [2, 9]), ([10, 9, 0, 1, 2, 3, 4, 5, 6, 7, 8, 9, 10], [10])])
def locksteplaw07_DomTrees.B9 : List Nat := [0, 1, 3, 7, 7, 31, 7, 7, 255, 511, 1023, 2047]
theorem locksteplaw07_DomTrees.tab9 : rtab .any (opsOf Try.f3 9) = locksteplaw07_DomTrees.T9 := by kernel_rfl
theorem locksteplaw07_DomTrees.bits9 : waitsOk locksteplaw07_DomTrees.T9.2 locksteplaw07_DomTrees.B9 = true := by kernel_rfl
set_option maxHeartbeats 8000000 in
set_option maxRecDepth 100000 in
theorem locksteplaw07_DomTrees.calls (k : Nat) (A0 : Option Addr) (c0 : Nat) (l0 : List (List Int)) (A1 : Option Addr) (c1 : Nat) (l1 : List (List Int)) (a2 : Int) (w : World) (hr0 : Kd.C (Kd.slice 3 (Kd.int .i64)) w A0 l0.length l0) (hc0 : l0.length ≤ c0) (hr1 : Kd.C (Kd.slice 3 (Kd.int .i64)) w A1 l1.length l1) (hc1 : l1.length ≤ c1) (h : locksteplaw07_DomTrees.f k l0 l1 a2 = some true) :
 Calls Try.prog 3 #[.slice A0 l0.length c0, .slice A1 l1.length c1, .int .i64 a2] w fun e w' => e = .returned (.bool true) ∧ Below w.heap.size w w' := by
 have hu26 := Try.underlying26
 have HR0 := Aside0.mk hr0
 have HC0 := Aside0.mk hc0
 clear hr0 hc0
 have HR1 := Aside0.mk hr1
 have HC1 := Aside0.mk hc1
 clear hr1 hc1
 have HB := Aside0.mk (Below.refl w.heap.size w)
 have H : ((locksteplaw07_awake.f k).bind fun t394 => (if t394 = true then (if (l0.length : Int) > 40 then (locksteplaw07_DomTrees.j0 k l0 l1 a2 true) else ((lockstepref06_Small.f k l0).bind fun t395 => (if t395 = true then ((lockstepref06_Small.f k l1).bind fun t396 => (locksteplaw07_DomTrees.j0 k l0 l1 a2 (!t396))) else (locksteplaw07_DomTrees.j0 k l0 l1 a2 true)))) else (some false))) = some true := h
 clear h
 replace H := Option.bind_eq_some_iff.mp H
 obtain ⟨t394, A40, H⟩ := H
 replace H : (if t394 = true then (if (l0.length : Int) > 40 then (locksteplaw07_DomTrees.j0 k l0 l1 a2 true) else ((lockstepref06_Small.f k l0).bind fun t395 => (if t395 = true then ((lockstepref06_Small.f k l1).bind fun t396 => (locksteplaw07_DomTrees.j0 k l0 l1 a2 (!t396))) else (locksteplaw07_DomTrees.j0 k l0 l1 a2 true)))) else (some false)) = some true := H
 have A4 := Aside0.mk A40
 clear A40
 by_cases c5 : t394 = true
 ·subst c5
  have H1 : (if (l0.length : Int) > 40 then (locksteplaw07_DomTrees.j0 k l0 l1 a2 true) else ((lockstepref06_Small.f k l0).bind fun t395 => (if t395 = true then ((lockstepref06_Small.f k l1).bind fun t396 => (locksteplaw07_DomTrees.j0 k l0 l1 a2 (!t396))) else (locksteplaw07_DomTrees.j0 k l0 l1 a2 true)))) = some true := by rw [if_pos rfl] at H; exact H
  clear H
  have H := H1
  clear H1
  have HC6 := Aside0.mk H
  clear H
  go_enter Try.func3, Try.ntmps3
  go_upto_region 3 with (first | ((with_reducible refine gate_callee (f := 9) rfl ?_); refine goesL_ (some 10) rfl rfl Try.func9 (by kernel_rfl) rfl #[] rfl (by (try simp only [List.map_toArray, List.map_cons, List.map_nil]); first | done | rfl | (simp only [List.length_drop, List.length_take]; rfl)) ?_; (with_reducible refine (locksteplaw07_awake.calls k   _ A4.out).mono ?_); rintro e w7 ⟨rfl, hb⟩; refine ⟨_, rfl, ?_⟩; have n0_ := Aside0.mk (below_step (B_) hb); clear HB; have HB := n0_; clear n0_; (try clear hb); (try clear hb2); (try clear hk); (try clear hi)))
  (try simp only [Act.put, List.setIfInBounds_toArray, List.set_cons_zero, List.set_cons_succ])
  go_cut [24] (fun v24 wc => ∃ (kq : Nat) (x24_5 : Bool), v24 = .bool x24_5 ∧ Aside0 (locksteplaw07_DomTrees.j0 kq l0 l1 a2 x24_5 = some true) ∧ Aside0 (kq ≤ k) ∧ Aside0 (Below w.heap.size w wc))
  case first =>
   have H := HC6.out
   clear HC6
   by_cases c8 : (l0.length : Int) > 40
   ·rw [if_pos c8] at H
    have c8b0 : decide (40 < (l0.length : Int)) = true := decide_eq_true c8
    have c8b1 : decide (40 < l0.length) = true := decide_eq_true (by omega)
    clear c8
    (first | rw [c8b0] | (simp only [i64_w, i32_w]; rw [c8b0]) | skip)
    have H' := Aside0.mk H
    clear H
    go_wp2
    go_meet
    case rel => exact ⟨_, (true), (by first | rfl | exact congrArg (fun b => Ending.returned (Value.bool b)) HR_.out | (simp; done) | (simp [*]; done)), H', ⟨by first | omega | exact Nat.le_refl _⟩, ⟨B_⟩⟩
   rw [if_neg c8] at H
   have c8b0 : decide (40 < (l0.length : Int)) = false := decide_eq_false c8
   have c8b1 : decide (40 < l0.length) = false := decide_eq_false (by omega)
   clear c8
   (first | rw [c8b0] | (simp only [i64_w, i32_w]; rw [c8b0]) | skip)
   replace H := Option.bind_eq_some_iff.mp H
   obtain ⟨t395, A90, H⟩ := H
   replace H : (if t395 = true then ((lockstepref06_Small.f k l1).bind fun t396 => (locksteplaw07_DomTrees.j0 k l0 l1 a2 (!t396))) else (locksteplaw07_DomTrees.j0 k l0 l1 a2 true)) = some true := H
   have A9 := Aside0.mk A90
   clear A90
   by_cases c10 : t395 = true
   ·subst c10
    have H1 : ((lockstepref06_Small.f k l1).bind fun t396 => (locksteplaw07_DomTrees.j0 k l0 l1 a2 (!t396))) = some true := by rw [if_pos rfl] at H; exact H
    clear H
    have H := H1
    clear H1
    replace H := Option.bind_eq_some_iff.mp H
    obtain ⟨t396, A110, H⟩ := H
    replace H : (locksteplaw07_DomTrees.j0 k l0 l1 a2 (!t396)) = some true := H
    have A11 := Aside0.mk A110
    clear A110
    have H' := Aside0.mk H
    clear H
    go_wp2_with (first | (go_at_call 10; (with_reducible refine (lockstepref06_Small.calls k _ _ l0 true _ ?side1 ?side2 A9.out).mono ?_); (case side1 => exact CX_ (Kd.C_below HR0.out HB.out)); (case side2 => exact HC0.out); rintro e w' ⟨rfl, ⟨nd, rfl⟩⟩) | (go_at_call 10; (with_reducible refine (lockstepref06_Small.calls k _ _ l1 t396 _ ?side1 ?side2 A11.out).mono ?_); (case side1 => repeat (first | exact (Kd.C_below HR1.out (B_)) | (with_reducible refine Kd.C_alloc ?_ _) | (with_reducible refine Kd.C_drewN ?_ _) | (with_reducible refine Kd.C_drew ?_))); (case side2 => exact HC1.out); rintro e w' ⟨rfl, ⟨nd, rfl⟩⟩))
    go_meet
    case rel => exact ⟨_, (!t396), (by first | rfl | exact congrArg (fun b => Ending.returned (Value.bool b)) HR_.out | (simp; done) | (simp [*]; done)), H', ⟨by first | omega | exact Nat.le_refl _⟩, ⟨B_⟩⟩
   replace c10 := Bool.eq_false_iff.mpr c10
   subst c10
   have H1 : (locksteplaw07_DomTrees.j0 k l0 l1 a2 true) = some true := by rw [if_neg (show ¬ (false = true) by decide)] at H; exact H
   clear H
   have H := H1
   clear H1
   have H' := Aside0.mk H
   clear H
   go_wp2_with (first | (go_at_call 10; (with_reducible refine (lockstepref06_Small.calls k _ _ l0 false _ ?side1 ?side2 A9.out).mono ?_); (case side1 => exact CX_ (Kd.C_below HR0.out HB.out)); (case side2 => exact HC0.out); rintro e w' ⟨rfl, ⟨nd, rfl⟩⟩))
   go_meet
   case rel => exact ⟨_, (true), (by first | rfl | exact congrArg (fun b => Ending.returned (Value.bool b)) HR_.out | (simp; done) | (simp [*]; done)), H', ⟨by first | omega | exact Nat.le_refl _⟩, ⟨B_⟩⟩
  case rest =>
   clear HC6
   try clear c1
   try clear c5
   obtain ⟨kq, x24_5, rfl, HA, HJ5, HB⟩ := hcut
   cases kq with
   | zero => exact absurd HA.out (by simp [locksteplaw07_DomTrees.j0])
   | succ kj5 =>
    have H := HA.out
    clear HA
    simp only [locksteplaw07_DomTrees.j0] at H
    by_cases c12 : x24_5 = true
    ·subst c12
     have H1 : (some true) = some true := rfl
     clear H
     have H := H1
     clear H1
     clear H
     go_wp2
     go_ret
     exact ⟨by first | rfl | exact congrArg (fun b => Ending.returned (Value.bool b)) HR_.out | (simp [errW_none, errW_some] <;> rfl) | (simp [*, errW_none, errW_some] <;> rfl), B_⟩
    replace c12 := Bool.eq_false_iff.mpr c12
    subst c12
    have H1 : ((graph_Make.f kj5 l0).bind fun bt398 => ((dom_Tree.f kj5 l0 l1 a2).bind fun t406 => ((lockstepref07_Tree.f kj5 l0 l1 a2).bind fun t409 => ((lockstepref02_Ints.f kj5 t406 t409).bind fun t412 => (if t412 = true then (if bt398.2.2 = 0 then ((dom_Tree.f kj5 bt398.1 bt398.2.1 a2).bind fun t413 => ((lockstepref07_Tree.f kj5 bt398.1 bt398.2.1 a2).bind fun t416 => ((lockstepref02_Ints.f kj5 t413 t416).bind fun t419 => (some t419)))) else (some true)) else (some false)))))) = some true := by rw [if_neg (show ¬ (false = true) by decide)] at H; exact H
    clear H
    have H := H1
    clear H1
    replace H := Option.bind_eq_some_iff.mp H
    obtain ⟨⟨t398, t401, t404⟩, A130, H⟩ := H
    replace H : ((dom_Tree.f kj5 l0 l1 a2).bind fun t406 => ((lockstepref07_Tree.f kj5 l0 l1 a2).bind fun t409 => ((lockstepref02_Ints.f kj5 t406 t409).bind fun t412 => (if t412 = true then (if t404 = 0 then ((dom_Tree.f kj5 t398 t401 a2).bind fun t413 => ((lockstepref07_Tree.f kj5 t398 t401 a2).bind fun t416 => ((lockstepref02_Ints.f kj5 t413 t416).bind fun t419 => (some t419)))) else (some true)) else (some false))))) = some true := H
    have A13 := Aside0.mk A130
    clear A130
    replace H := Option.bind_eq_some_iff.mp H
    obtain ⟨t406, A140, H⟩ := H
    replace H : ((lockstepref07_Tree.f kj5 l0 l1 a2).bind fun t409 => ((lockstepref02_Ints.f kj5 t406 t409).bind fun t412 => (if t412 = true then (if t404 = 0 then ((dom_Tree.f kj5 t398 t401 a2).bind fun t413 => ((lockstepref07_Tree.f kj5 t398 t401 a2).bind fun t416 => ((lockstepref02_Ints.f kj5 t413 t416).bind fun t419 => (some t419)))) else (some true)) else (some false)))) = some true := H
    have A14 := Aside0.mk A140
    clear A140
    replace H := Option.bind_eq_some_iff.mp H
    obtain ⟨t409, A150, H⟩ := H
    replace H : ((lockstepref02_Ints.f kj5 t406 t409).bind fun t412 => (if t412 = true then (if t404 = 0 then ((dom_Tree.f kj5 t398 t401 a2).bind fun t413 => ((lockstepref07_Tree.f kj5 t398 t401 a2).bind fun t416 => ((lockstepref02_Ints.f kj5 t413 t416).bind fun t419 => (some t419)))) else (some true)) else (some false))) = some true := H
    have A15 := Aside0.mk A150
    clear A150
    replace H := Option.bind_eq_some_iff.mp H
    obtain ⟨t412, A160, H⟩ := H
    replace H : (if t412 = true then (if t404 = 0 then ((dom_Tree.f kj5 t398 t401 a2).bind fun t413 => ((lockstepref07_Tree.f kj5 t398 t401 a2).bind fun t416 => ((lockstepref02_Ints.f kj5 t413 t416).bind fun t419 => (some t419)))) else (some true)) else (some false)) = some true := H
    have A16 := Aside0.mk A160
    clear A160
    by_cases c17 : t412 = true
    ·subst c17
     have H1 : (if t404 = 0 then ((dom_Tree.f kj5 t398 t401 a2).bind fun t413 => ((lockstepref07_Tree.f kj5 t398 t401 a2).bind fun t416 => ((lockstepref02_Ints.f kj5 t413 t416).bind fun t419 => (some t419)))) else (some true)) = some true := by rw [if_pos rfl] at H; exact H
     clear H
     have H := H1
     clear H1
     by_cases c18 : t404 = 0
     ·rw [if_pos c18] at H
      have c18b0 : (t404 == 0) = true := beq_iff_eq.mpr c18
      have c18b1 : (t404 != 0) = false := bne_eq_false_iff_eq.mpr c18
      clear c18
      replace H := Option.bind_eq_some_iff.mp H
      obtain ⟨t413, A190, H⟩ := H
      replace H : ((lockstepref07_Tree.f kj5 t398 t401 a2).bind fun t416 => ((lockstepref02_Ints.f kj5 t413 t416).bind fun t419 => (some t419))) = some true := H
      have A19 := Aside0.mk A190
      clear A190
      replace H := Option.bind_eq_some_iff.mp H
      obtain ⟨t416, A200, H⟩ := H
      replace H : ((lockstepref02_Ints.f kj5 t413 t416).bind fun t419 => (some t419)) = some true := H
      have A20 := Aside0.mk A200
      clear A200
      replace H := Option.bind_eq_some_iff.mp H
      obtain ⟨t419, A210, H⟩ := H
      replace H : (some t419) = some true := H
      have A21 := Aside0.mk A210
      clear A210
      have HR_ := Aside0.mk (Option.some.inj H)
      clear H
      try go_wp2_with (first | ((with_reducible refine gate_dst (N := 7) rfl ?_); refine box_event ?hg (N := 7) ?hd (cs := #[.slice none 0 0, .slice none 0 0]) (t := 26) ?hr ?_; (case hd => rfl); (case hg => rfl); (case hr => first | (go_simp; done) | (go_simp; rfl)); intro gb397 hg w22 hbox hb; have n0_ := Aside0.mk (below_step (B_) hb); have n1_ := Aside0.mk (hbox); have n2_ := Aside0.mk ((by rw [hg]; exact (below_size (B_)) : w.heap.size ≤ gb397)); have n3_ := Aside0.mk ((by rw [hg]; exact (below_size (B_)) : w.heap.size ≤ gb397)); clear HB; have HB := n0_; have BK397 := n1_; have GW397 := n2_; have GE397 := n3_; clear n0_ n1_ n2_ n3_; clear hb hbox hg; have hcz23_0 : w22.cell? ⟨gb397, 0, none⟩ = some (.slice none 0 0) := (blk_cell BK397.out 0).trans rfl; have hcz23_1 : w22.cell? ⟨gb397, 1, none⟩ = some (.slice none 0 0) := (blk_cell BK397.out 1).trans rfl; have hfz23_0 := blk_frozen BK397.out 0; have hfz23_1 := blk_frozen BK397.out 1) | ((with_reducible refine gate_callee (f := 11) rfl ?_); refine goesL_ (some 30) rfl rfl Try.func11 (by kernel_rfl) rfl #[.slice A0 l0.length c0] rfl (by (try simp only [List.map_toArray, List.map_cons, List.map_nil]); first | done | rfl | (simp only [List.length_drop, List.length_take]; rfl)) ?_; (with_reducible refine (graph_Make.calls kj5 _ _ l0 t398 t401 t404 _ ?side1 ?side2 A13.out).mono ?_); (case side1 => exact Kd.C_below HR0.out (B1_)); (case side2 => exact HC0.out); rintro e w24 ⟨v399, v402, rfl, ho0, ho1, hb⟩; refine ⟨_, rfl, ?_⟩; have n0_ := Aside0.mk (Kd.S_lower ho0 (below_size (B1_))); have n1_ := Aside0.mk (Kd.S_lower ho1 (below_size (B1_))); have n2_ := Aside0.mk (blk_below (g := gb397) (o := .cells #[.slice A0 l0.length c0, .slice A1 l1.length c1] 26 (0, 0)) (by (with_reducible repeat (first | refine blk_drewN ?_ _ | refine blk_drew ?_ | refine blk_alloc ?_ _)); refine blk_put (cs := #[.slice A0 l0.length c0, .slice none 0 0]) ?_ 1 _ rfl; (with_reducible repeat (first | refine blk_drewN ?_ _ | refine blk_drew ?_ | refine blk_alloc ?_ _)); refine blk_put (cs := #[.slice none 0 0, .slice none 0 0]) ?_ 0 _ rfl; exact KX_ BK397.out) hb); have n3_ := Aside0.mk (below_step (B1_) hb); clear BK397; clear HB; have HO400 := n0_; have HO403 := n1_; have BK397 := n2_; have HB := n3_; clear n0_ n1_ n2_ n3_; (try clear hb); (try clear hb2); (try clear hk); (try clear hi); (try clear ho0); (try clear ho1)) | ((with_reducible refine gate_dst (N := 8) rfl ?_); refine box_event ?hg (N := 8) ?hd (cs := #[.slice none 0 0, .slice none 0 0]) (t := 26) ?hr ?_; (case hd => rfl); (case hg => rfl); (case hr => first | (go_simp; done) | (go_simp; rfl)); intro gb405 hg w25 hbox hb; have n0_ := Aside0.mk (Kd.S_below (by exact SX_ HO400.out) hb); have n1_ := Aside0.mk (Kd.S_below (by exact SX_ HO403.out) hb); have n2_ := Aside0.mk (blk_below (g := gb397) (o := .cells #[.slice A0 l0.length c0, .slice A1 l1.length c1] 26 (0, 0)) (by exact KX_ BK397.out) hb); have n3_ := Aside0.mk (below_step (B1_) hb); have n4_ := Aside0.mk (hbox); have n5_ := Aside0.mk ((by rw [hg]; exact (below_size (B1_)) : w.heap.size ≤ gb405)); have n6_ := Aside0.mk ((by rw [hg]; exact (below_size (B1_)) : w.heap.size ≤ gb405)); have n7_ := Aside0.mk ((by rw [hg]; exact Nat.ne_of_lt (blk_lt (g := gb397) (o := .cells #[.slice A0 l0.length c0, .slice A1 l1.length c1] 26 (0, 0)) (by exact KX_ BK397.out)) : gb397 ≠ gb405)); have n8_ := Aside0.mk ((by rw [hg]; exact Nat.ne_of_gt (blk_lt (g := gb397) (o := .cells #[.slice A0 l0.length c0, .slice A1 l1.length c1] 26 (0, 0)) (by exact KX_ BK397.out)) : gb405 ≠ gb397)); clear HO400; clear HO403; clear BK397; clear HB; have HO400 := n0_; have HO403 := n1_; have BK397 := n2_; have HB := n3_; have BK405 := n4_; have GW405 := n5_; have GE405 := n6_; have NB397_405 := n7_; have NB405_397 := n8_; clear n0_ n1_ n2_ n3_ n4_ n5_ n6_ n7_ n8_; clear hb hbox hg; obtain ⟨Ao26, co26, eo26⟩ := Kd.S_slice HO400.out; subst eo26; have hnb27 := NB405_397.out; have hnc27 := NB397_405.out; have hcz28_0 : w25.cell? ⟨gb405, 0, none⟩ = some (.slice none 0 0) := (blk_cell BK405.out 0).trans rfl; have hcz28_1 : w25.cell? ⟨gb405, 1, none⟩ = some (.slice none 0 0) := (blk_cell BK405.out 1).trans rfl; have hfz28_0 := blk_frozen BK405.out 0; have hfz28_1 := blk_frozen BK405.out 1; obtain ⟨Ao29, co29, eo29⟩ := Kd.S_slice HO403.out; subst eo29))
      have n0_ : Aside0 (Kd.S (Kd.slice 3 (Kd.int .i64)) 31 ((w25.setCell ⟨gb405, 0, none⟩ (.slice Ao26 t398.length co26)).setCell ⟨gb405, 1, none⟩ (.slice Ao29 t401.length co29)) w.heap.size (fun k_ => some k_ ≠ (.slice Ao29 t401.length co29 : Value).ownBlock) (.slice Ao26 t398.length co26) t398) := ⟨by (with_reducible repeat (first | apply Kd.S_alloc | apply Kd.S_drewN | apply Kd.S_drew)); exact Kd.S_mono (Kd.S_far (p := ⟨gb405, 1, none⟩) (Kd.S_far (p := ⟨gb405, 0, none⟩) (Kd.S_types HO400.out BK405.out (by decide)) (fun _ hk => hk.2) (.slice Ao26 t398.length co26)) (fun _ hk => hk.2) (.slice Ao29 t401.length co29)) (fun _ hk => hk.1)⟩
      have n1_ : Aside0 (Kd.S (Kd.slice 3 (Kd.int .i64)) 31 ((w25.setCell ⟨gb405, 0, none⟩ (.slice Ao26 t398.length co26)).setCell ⟨gb405, 1, none⟩ (.slice Ao29 t401.length co29)) w.heap.size (fun k_ => some k_ ≠ (.slice Ao26 t398.length co26 : Value).ownBlock) (.slice Ao29 t401.length co29) t401) := ⟨by (with_reducible repeat (first | apply Kd.S_alloc | apply Kd.S_drewN | apply Kd.S_drew)); exact Kd.S_mono (Kd.S_far (p := ⟨gb405, 1, none⟩) (Kd.S_far (p := ⟨gb405, 0, none⟩) (Kd.S_types HO403.out BK405.out (by decide)) (fun _ hk => hk.2) (.slice Ao26 t398.length co26)) (fun _ hk => hk.2) (.slice Ao29 t401.length co29)) (fun _ hk => hk.1)⟩
      have n2_ : Aside0 (((w25.setCell ⟨gb405, 0, none⟩ (.slice Ao26 t398.length co26)).setCell ⟨gb405, 1, none⟩ (.slice Ao29 t401.length co29)).heap[gb397]? = some (.cells #[.slice A0 l0.length c0, .slice A1 l1.length c1] 26 (0, 0))) := ⟨by (with_reducible repeat (first | refine blk_drewN ?_ _ | refine blk_drew ?_ | refine blk_alloc ?_ _)); refine blk_far ?_ NB397_405.out _; (with_reducible repeat (first | refine blk_drewN ?_ _ | refine blk_drew ?_ | refine blk_alloc ?_ _)); refine blk_far ?_ NB397_405.out _; exact KX_ BK397.out⟩
      have n3_ : Aside0 (((w25.setCell ⟨gb405, 0, none⟩ (.slice Ao26 t398.length co26)).setCell ⟨gb405, 1, none⟩ (.slice Ao29 t401.length co29)).heap[gb405]? = some (.cells #[.slice Ao26 t398.length co26, .slice Ao29 t401.length co29] 26 (0, 0))) := ⟨by (with_reducible repeat (first | refine blk_drewN ?_ _ | refine blk_drew ?_ | refine blk_alloc ?_ _)); refine blk_put (cs := #[.slice Ao26 t398.length co26, .slice none 0 0]) ?_ 1 _ rfl; (with_reducible repeat (first | refine blk_drewN ?_ _ | refine blk_drew ?_ | refine blk_alloc ?_ _)); refine blk_put (cs := #[.slice none 0 0, .slice none 0 0]) ?_ 0 _ rfl; exact KX_ BK405.out⟩
      have n4_ : Aside0 (Below w.heap.size w ((w25.setCell ⟨gb405, 0, none⟩ (.slice Ao26 t398.length co26)).setCell ⟨gb405, 1, none⟩ (.slice Ao29 t401.length co29))) := ⟨B1_⟩
      (try clear HO400)
      (try clear HO403)
      (try clear BK397)
      (try clear BK405)
      (try clear HB)
      generalize ((w25.setCell ⟨gb405, 0, none⟩ (.slice Ao26 t398.length co26)).setCell ⟨gb405, 1, none⟩ (.slice Ao29 t401.length co29)) = w30 at n0_ n1_ n2_ n3_ n4_ ⊢
      have HO400 := n0_
      have HO403 := n1_
      have BK397 := n2_
      have BK405 := n3_
      have HB := n4_
      clear n0_ n1_ n2_ n3_ n4_
      have n0_ := Aside0.mk (Kd.S_drew HO400.out)
      have n1_ := Aside0.mk (Kd.S_drew HO403.out)
      have n2_ := Aside0.mk (blk_drew BK397.out)
      have n3_ := Aside0.mk (blk_drew BK405.out)
      have n4_ := Aside0.mk (below_drew1 HB.out)
      clear HO400
      clear HO403
      clear BK397
      clear BK405
      clear HB
      have HO400 := n0_
      have HO403 := n1_
      have BK397 := n2_
      have BK405 := n3_
      have HB := n4_
      clear n0_ n1_ n2_ n3_ n4_
      refine start_ (n := 8) (S := fun w' => w'.cell? ⟨gb397, 0, none⟩ = some (.slice A0 l0.length c0) ∧ w'.cell? ⟨gb397, 1, none⟩ = some (.slice A1 l1.length c1)) (ds := []) #[F_,F_,F_,F_,F_,F_,F_,F_] (by kernel_rfl) rfl rfl ⟨(blk_cell BK397.out 0).trans rfl, (blk_cell BK397.out 1).trans rfl⟩ (fun hHeld => ?_); refine with_tabW locksteplaw07_DomTrees.tab7 locksteplaw07_DomTrees.bits7 (fun HT_ HW_ => ?_)
      generalize w30.drew = w31 at HO400 HO403 BK397 BK405 HB hHeld ⊢
      refine pure_ (i := 1) (N := some 34) (v := ?_) (a' := ?_) #[F_,T_,F_,F_,F_,F_,F_,F_] rfl rfl (any_of HT_.out (by kernel_rfl)) (fun _ _ _ h => h) (Or.inl ⟨by rfl, ?_⟩) ?_ ?_
      rotate_left
      ·intro w'
       go_simp
       with_reducible rfl
      rotate_left
      ·exact P_
      refine pure_ (i := 4) (N := some 37) (v := ?_) (a' := ?_) #[F_,T_,F_,F_,T_,F_,F_,F_] rfl rfl (any_of HT_.out (by kernel_rfl)) (fun _ _ _ h => h) (Or.inl ⟨by rfl, ?_⟩) ?_ ?_
      rotate_left
      ·intro w'
       go_simp
       with_reducible rfl
      rotate_left
      ·exact P_
      refine take_ (i := 0) (N := some 33) (v := ?_) (a' := ?_) #[T_,T_,F_,F_,T_,F_,F_,F_] rfl rfl (take_ofW HT_.out HW_.out (by kernel_rfl)) (fun _ _ _ h => h) (Or.inl ⟨by rfl, ?_⟩) hHeld ?_ ?_
      rotate_left
      ·rintro w' ⟨s0, s1⟩
       go_simp
       with_reducible rfl
      rotate_left
      ·exact P_
      refine take_ (i := 3) (N := some 36) (v := ?_) (a' := ?_) #[T_,T_,F_,T_,T_,F_,F_,F_] rfl rfl (take_ofW HT_.out HW_.out (by kernel_rfl)) (fun _ _ _ h => h) (Or.inl ⟨by rfl, ?_⟩) hHeld ?_ ?_
      rotate_left
      ·rintro w' ⟨s0, s1⟩
       go_simp
       with_reducible rfl
      rotate_left
      ·exact P_
      refine one_ (i := 2) (N := some 35) #[T_,T_,T_,T_,T_,F_,F_,F_] rfl rfl (one_of HT_.out (by kernel_rfl)) (by decide) (fun K hK => ?_)
      refine goes_ Try.func13 (by kernel_rfl) rfl #[.agg #[.slice A0 l0.length c0, .slice A1 l1.length c1], .int .i64 a2] (by rfl) rfl rfl (by (try simp only [List.map_toArray, List.map_cons, List.map_nil]); first | done | rfl | (simp only [List.length_drop, List.length_take]; rfl)) ?_
      with_reducible refine (dom_Tree.calls kj5 _ _ l0 _ _ l1 a2 t406 _ ?side1 ?side2 ?side3 ?side4 A14.out).mono ?_
      (case side1 => exact CX_ (Kd.C_below HR0.out HB.out))
      (case side2 => exact HC0.out)
      (case side3 => exact CX_ (Kd.C_below HR1.out HB.out))
      (case side4 => exact HC1.out)
      rintro e w32 ⟨v407, rfl, ho0, hb⟩
      refine ⟨_, rfl, ?_⟩
      have n0_ := Aside0.mk (Kd.S_elder' (by exact SX_ HO400.out) (Kd.R_base ho0) hb)
      have n1_ := Aside0.mk (Kd.S_elder' (by exact SX_ HO403.out) (Kd.R_base ho0) hb)
      have n2_ := Aside0.mk (Kd.R_lower ho0 (below_size (B1_)))
      have n3_ := Aside0.mk (blk_below (g := gb397) (o := .cells #[.slice A0 l0.length c0, .slice A1 l1.length c1] 26 (0, 0)) (by exact KX_ BK397.out) hb)
      have n4_ := Aside0.mk (blk_below (g := gb405) (o := .cells #[.slice Ao26 t398.length co26, .slice Ao29 t401.length co29] 26 (0, 0)) (by exact KX_ BK405.out) hb)
      have n5_ := Aside0.mk (below_step (B1_) hb)
      clear HO400
      clear HO403
      clear BK397
      clear BK405
      clear HB
      have HO400 := n0_
      have HO403 := n1_
      have HO408 := n2_
      have BK397 := n3_
      have BK405 := n4_
      have HB := n5_
      clear n0_ n1_ n2_ n3_ n4_ n5_
      (try clear hb)
      (try clear hb2)
      (try clear hk)
      (try clear hi)
      (try clear ho0)
      refine hK.out _ _ ⟨(blk_cell BK397.out 0).trans rfl, (blk_cell BK397.out 1).trans rfl⟩ (fun hHeld => ?_)
      clear hK K
      refine norm_ (a' := ?_) ?_ ?_
      rotate_left
      ·show Act.put _ (some 35) _ = _
       simp only [Act.put, List.setIfInBounds_toArray, List.set_cons_zero, List.set_cons_succ, i64_w, i32_w]
       rfl
      refine one_ (i := 5) (N := some 38) #[T_,T_,T_,T_,T_,T_,F_,F_] rfl rfl (one_of HT_.out (by kernel_rfl)) (by decide) (fun K hK => ?_)
      refine goes_ Try.func14 (by kernel_rfl) rfl #[.agg #[.slice A0 l0.length c0, .slice A1 l1.length c1], .int .i64 a2] (by rfl) rfl rfl (by (try simp only [List.map_toArray, List.map_cons, List.map_nil]); first | done | rfl | (simp only [List.length_drop, List.length_take]; rfl)) ?_
      with_reducible refine (lockstepref07_Tree.calls kj5 _ _ l0 _ _ l1 a2 t409 _ ?side1 ?side2 ?side3 ?side4 A15.out).mono ?_
      (case side1 => exact CX_ (Kd.C_below HR0.out HB.out))
      (case side2 => exact HC0.out)
      (case side3 => exact CX_ (Kd.C_below HR1.out HB.out))
      (case side4 => exact HC1.out)
      rintro e w33 ⟨v410, rfl, ho0, hb⟩
      refine ⟨_, rfl, ?_⟩
      have n0_ := Aside0.mk (Kd.S_elder' (by exact SX_ HO400.out) (Kd.R_base ho0) hb)
      have n1_ := Aside0.mk (Kd.S_elder' (by exact SX_ HO403.out) (Kd.R_base ho0) hb)
      have n2_ := Aside0.mk (Kd.R_elder' (by exact RX_ HO408.out) (Kd.R_base ho0) hb)
      have n3_ := Aside0.mk (Kd.R_lower (Kd.R_new' ho0 (Kd.R_lt (by exact RX_ HO408.out))) (below_size (B1_)))
      have n4_ := Aside0.mk (blk_below (g := gb397) (o := .cells #[.slice A0 l0.length c0, .slice A1 l1.length c1] 26 (0, 0)) (by exact KX_ BK397.out) hb)
      have n5_ := Aside0.mk (blk_below (g := gb405) (o := .cells #[.slice Ao26 t398.length co26, .slice Ao29 t401.length co29] 26 (0, 0)) (by exact KX_ BK405.out) hb)
      have n6_ := Aside0.mk (below_step (B1_) hb)
      clear HO400
      clear HO403
      clear HO408
      clear BK397
      clear BK405
      clear HB
      have HO400 := n0_
      have HO403 := n1_
      have HO408 := n2_
      have HO411 := n3_
      have BK397 := n4_
      have BK405 := n5_
      have HB := n6_
      clear n0_ n1_ n2_ n3_ n4_ n5_ n6_
      (try clear hb)
      (try clear hb2)
      (try clear hk)
      (try clear hi)
      (try clear ho0)
      obtain ⟨Ao34, co34, eo34⟩ := Kd.R_slice HO408.out
      (first | subst eo34 | (injection eo34 with f1_ f2_ f3_; have f4_ := f1_.symm; have f5_ := f3_.symm; clear f1_ f2_ f3_; subst f4_; subst f5_))
      obtain ⟨Ao35, co35, eo35⟩ := Kd.R_slice HO411.out
      (first | subst eo35 | (injection eo35 with f1_ f2_ f3_; have f4_ := f1_.symm; have f5_ := f3_.symm; clear f1_ f2_ f3_; subst f4_; subst f5_))
      refine hK.out _ _ ⟨(blk_cell BK397.out 0).trans rfl, (blk_cell BK397.out 1).trans rfl⟩ (fun hHeld => ?_)
      clear hK K
      refine norm_ (a' := ?_) ?_ ?_
      rotate_left
      ·show Act.put _ (some 38) _ = _
       simp only [Act.put, List.setIfInBounds_toArray, List.set_cons_zero, List.set_cons_succ, i64_w, i32_w]
       rfl
      refine one_ (i := 6) (N := some 39) #[T_,T_,T_,T_,T_,T_,T_,F_] rfl rfl (one_of HT_.out (by kernel_rfl)) (by decide) (fun K hK => ?_)
      refine goes_ Try.func12 (by kernel_rfl) rfl #[.slice Ao34 t406.length co34, .slice Ao35 t409.length co35] (by rfl) rfl rfl (by (try simp only [List.map_toArray, List.map_cons, List.map_nil]); first | done | rfl | (simp only [List.length_drop, List.length_take]; rfl)) ?_
      with_reducible refine (lockstepref02_Ints.calls kj5 _ _ t406 _ _ t409 true _ ?side1 ?side2 ?side3 ?side4 A16.out).mono ?_
      (case side1 => repeat (first | exact (Kd.R_reads' HO408.out).2.2 | (with_reducible refine Kd.C_alloc ?_ _) | (with_reducible refine Kd.C_drewN ?_ _) | (with_reducible refine Kd.C_drew ?_)))
      (case side2 => exact (Kd.R_reads' HO408.out).2.1)
      (case side3 => repeat (first | exact (Kd.R_reads' HO411.out).2.2 | (with_reducible refine Kd.C_alloc ?_ _) | (with_reducible refine Kd.C_drewN ?_ _) | (with_reducible refine Kd.C_drew ?_)))
      (case side4 => exact (Kd.R_reads' HO411.out).2.1)
      rintro e w' ⟨rfl, ⟨nd, rfl⟩⟩
      refine ⟨_, rfl, ?_⟩
      refine hK.out _ _ ⟨(blk_cell BK397.out 0).trans rfl, (blk_cell BK397.out 1).trans rfl⟩ (fun hHeld => ?_)
      clear hK K
      refine norm_ (a' := ?_) ?_ ?_
      rotate_left
      ·show Act.put _ (some 39) _ = _
       simp only [Act.put, List.setIfInBounds_toArray, List.set_cons_zero, List.set_cons_succ, i64_w, i32_w]
       rfl
      refine pure_ (i := 7) (N := some 40) (v := ?_) (a' := ?_) #[T_,T_,T_,T_,T_,T_,T_,T_] rfl rfl (any_of HT_.out (by kernel_rfl)) (fun _ _ _ h => h) (Or.inl ⟨by rfl, ?_⟩) ?_ ?_
      rotate_left
      ·intro w'
       go_simp
       with_reducible rfl
      rotate_left
      ·exact P_
      refine done_ (done_of HT_.out (by kernel_rfl)) ?_
      try go_wp2
      (try (rw [drewN_self w33]; generalize hq_ : World.drewN w33 _ = w33; have n0_ : Aside0 (Kd.S (Kd.slice 3 (Kd.int .i64)) 31 w33 w.heap.size (fun k_ => some k_ ≠ (.slice Ao29 t401.length co29 : Value).ownBlock ∧ some k_ ≠ (.slice Ao34 t406.length co34 : Value).ownBlock ∧ some k_ ≠ (.slice Ao35 t409.length co35 : Value).ownBlock) (.slice Ao26 t398.length co26) t398) := ⟨by rw [← hq_]; exact (by (with_reducible repeat (first | apply Kd.S_alloc | apply Kd.S_drewN | apply Kd.S_drew)); exact Kd.S_mono HO400.out (fun _ hk => ⟨hk.1.1, ⟨hk.1.2, hk.2⟩⟩))⟩; have n1_ : Aside0 (Kd.S (Kd.slice 3 (Kd.int .i64)) 31 w33 w.heap.size (fun k_ => some k_ ≠ (.slice Ao26 t398.length co26 : Value).ownBlock ∧ some k_ ≠ (.slice Ao34 t406.length co34 : Value).ownBlock ∧ some k_ ≠ (.slice Ao35 t409.length co35 : Value).ownBlock) (.slice Ao29 t401.length co29) t401) := ⟨by rw [← hq_]; exact (by (with_reducible repeat (first | apply Kd.S_alloc | apply Kd.S_drewN | apply Kd.S_drew)); exact Kd.S_mono HO403.out (fun _ hk => ⟨hk.1.1, ⟨hk.1.2, hk.2⟩⟩))⟩; have n2_ : Aside0 (Kd.R (Kd.int .i64) 3 w33 w.heap.size (fun k_ => some k_ ≠ (.slice Ao35 t409.length co35 : Value).ownBlock) (.slice Ao34 t406.length co34) t406) := ⟨by rw [← hq_]; exact (by (with_reducible repeat (first | apply Kd.R_alloc | apply Kd.R_drewN | apply Kd.R_drew)); exact Kd.R_mono HO408.out (fun _ hk => by first | exact hk.2 | exact hk | exact ⟨hk.1, hk.2⟩ | simp_all))⟩; have n3_ : Aside0 (Kd.R (Kd.int .i64) 3 w33 w.heap.size (fun k_ => some k_ ≠ (.slice Ao34 t406.length co34 : Value).ownBlock) (.slice Ao35 t409.length co35) t409) := ⟨by rw [← hq_]; exact (by (with_reducible repeat (first | apply Kd.R_alloc | apply Kd.R_drewN | apply Kd.R_drew)); exact Kd.R_mono HO411.out (fun _ hk => by first | exact hk.2 | exact hk | exact ⟨hk.1, hk.2⟩ | simp_all))⟩; have n4_ : Aside0 (w33.heap[gb397]? = some (.cells #[.slice A0 l0.length c0, .slice A1 l1.length c1] 26 (0, 0))) := ⟨by rw [← hq_]; exact (by exact KX_ BK397.out)⟩; have n5_ : Aside0 (w33.heap[gb405]? = some (.cells #[.slice Ao26 t398.length co26, .slice Ao29 t401.length co29] 26 (0, 0))) := ⟨by rw [← hq_]; exact (by exact KX_ BK405.out)⟩; have n6_ : Aside0 (Below w.heap.size w w33) := ⟨by rw [← hq_]; exact (B1_)⟩; clear HO400 HO403 HO408 HO411 BK397 BK405 HB hq_; have HO400 := n0_; have HO403 := n1_; have HO408 := n2_; have HO411 := n3_; have BK397 := n4_; have BK405 := n5_; have HB := n6_; clear n0_ n1_ n2_ n3_ n4_ n5_ n6_))
      have n0_ := Aside0.mk (Kd.S_drew HO400.out)
      have n1_ := Aside0.mk (Kd.S_drew HO403.out)
      have n2_ := Aside0.mk (Kd.R_drew HO408.out)
      have n3_ := Aside0.mk (Kd.R_drew HO411.out)
      have n4_ := Aside0.mk (blk_drew BK397.out)
      have n5_ := Aside0.mk (blk_drew BK405.out)
      have n6_ := Aside0.mk (below_drew1 HB.out)
      clear HO400
      clear HO403
      clear HO408
      clear HO411
      clear BK397
      clear BK405
      clear HB
      have HO400 := n0_
      have HO403 := n1_
      have HO408 := n2_
      have HO411 := n3_
      have BK397 := n4_
      have BK405 := n5_
      have HB := n6_
      clear n0_ n1_ n2_ n3_ n4_ n5_ n6_
      refine start_ (n := 12) (S := fun w' => w'.cell? ⟨gb405, 0, none⟩ = some (.slice Ao26 t398.length co26) ∧ w'.cell? ⟨gb405, 1, none⟩ = some (.slice Ao29 t401.length co29)) (ds := []) #[F_,F_,F_,F_,F_,F_,F_,F_,F_,F_,F_,F_] (by kernel_rfl) rfl rfl ⟨(blk_cell BK405.out 0).trans rfl, (blk_cell BK405.out 1).trans rfl⟩ (fun hHeld => ?_); refine with_tabW locksteplaw07_DomTrees.tab9 locksteplaw07_DomTrees.bits9 (fun HT_ HW_ => ?_)
      generalize w33.drew = w36 at HO400 HO403 HO408 HO411 BK397 BK405 HB hHeld ⊢
      refine pure_ (i := 0) (N := some 41) (v := ?_) (a' := ?_) #[T_,F_,F_,F_,F_,F_,F_,F_,F_,F_,F_,F_] rfl rfl (any_of HT_.out (by kernel_rfl)) (fun _ _ _ h => h) (Or.inl ⟨by rfl, ?_⟩) ?_ ?_
      rotate_left
      ·intro w'
       go_simp
       with_reducible rfl
      rotate_left
      ·exact P_
      refine pure_ (i := 1) (N := some 42) (v := ?_) (a' := ?_) #[T_,T_,F_,F_,F_,F_,F_,F_,F_,F_,F_,F_] rfl rfl (any_of HT_.out (by kernel_rfl)) (fun _ _ _ h => h) (Or.inl ⟨by rfl, ?_⟩) ?_ ?_
      rotate_left
      ·intro w'
       go_simp
       with_reducible rfl
      rotate_left
      ·exact P_
      refine pure_ (i := 2) (N := some 43) (v := ?_) (a' := ?_) #[T_,T_,T_,F_,F_,F_,F_,F_,F_,F_,F_,F_] rfl rfl (any_of HT_.out (by kernel_rfl)) (fun _ _ _ h => h) (Or.inl ⟨by rfl, ?_⟩) ?_ ?_
      rotate_left
      ·intro w'
       go_simp
       with_reducible rfl
      rotate_left
      ·exact P_
      refine pure_ (i := 4) (N := some 45) (v := ?_) (a' := ?_) #[T_,T_,T_,F_,T_,F_,F_,F_,F_,F_,F_,F_] rfl rfl (any_of HT_.out (by kernel_rfl)) (fun _ _ _ h => h) (Or.inl ⟨by rfl, ?_⟩) ?_ ?_
      rotate_left
      ·intro w'
       go_simp
       with_reducible rfl
      rotate_left
      ·exact P_
      refine pure_ (i := 7) (N := some 48) (v := ?_) (a' := ?_) #[T_,T_,T_,F_,T_,F_,F_,T_,F_,F_,F_,F_] rfl rfl (any_of HT_.out (by kernel_rfl)) (fun _ _ _ h => h) (Or.inl ⟨by rfl, ?_⟩) ?_ ?_
      rotate_left
      ·intro w'
       go_simp
       with_reducible rfl
      rotate_left
      ·exact P_
      refine take_ (i := 3) (N := some 44) (v := ?_) (a' := ?_) #[T_,T_,T_,T_,T_,F_,F_,T_,F_,F_,F_,F_] rfl rfl (take_ofW HT_.out HW_.out (by kernel_rfl)) (fun _ _ _ h => h) (Or.inl ⟨by rfl, ?_⟩) hHeld ?_ ?_
      rotate_left
      ·rintro w' ⟨s0, s1⟩
       go_simp
       with_reducible rfl
      rotate_left
      ·exact P_
      refine take_ (i := 6) (N := some 47) (v := ?_) (a' := ?_) #[T_,T_,T_,T_,T_,F_,T_,T_,F_,F_,F_,F_] rfl rfl (take_ofW HT_.out HW_.out (by kernel_rfl)) (fun _ _ _ h => h) (Or.inl ⟨by rfl, ?_⟩) hHeld ?_ ?_
      rotate_left
      ·rintro w' ⟨s0, s1⟩
       go_simp
       with_reducible rfl
      rotate_left
      ·exact P_
      refine one_ (i := 5) (N := some 46) #[T_,T_,T_,T_,T_,T_,T_,T_,F_,F_,F_,F_] rfl rfl (one_of HT_.out (by kernel_rfl)) (by decide) (fun K hK => ?_)
      refine goes_ Try.func13 (by kernel_rfl) rfl #[.agg #[.slice Ao26 t398.length co26, .slice Ao29 t401.length co29], .int .i64 a2] (by rfl) rfl rfl (by (try simp only [List.map_toArray, List.map_cons, List.map_nil]); first | done | rfl | (simp only [List.length_drop, List.length_take]; rfl)) ?_
      with_reducible refine (dom_Tree.calls kj5 _ _ t398 _ _ t401 a2 t413 _ ?side1 ?side2 ?side3 ?side4 A19.out).mono ?_
      (case side1 => repeat (first | exact (Kd.S_reads' HO400.out).2.2 | (with_reducible refine Kd.C_alloc ?_ _) | (with_reducible refine Kd.C_drewN ?_ _) | (with_reducible refine Kd.C_drew ?_)))
      (case side2 => exact (Kd.S_reads' HO400.out).2.1)
      (case side3 => repeat (first | exact (Kd.S_reads' HO403.out).2.2 | (with_reducible refine Kd.C_alloc ?_ _) | (with_reducible refine Kd.C_drewN ?_ _) | (with_reducible refine Kd.C_drew ?_)))
      (case side4 => exact (Kd.S_reads' HO403.out).2.1)
      rintro e w37 ⟨v414, rfl, ho0, hb⟩
      refine ⟨_, rfl, ?_⟩
      have n0_ := Aside0.mk (Kd.S_elder' (by exact SX_ HO400.out) (Kd.R_base ho0) hb)
      have n1_ := Aside0.mk (Kd.S_elder' (by exact SX_ HO403.out) (Kd.R_base ho0) hb)
      have n2_ := Aside0.mk (Kd.R_elder' (by exact RX_ HO408.out) (Kd.R_base ho0) hb)
      have n3_ := Aside0.mk (Kd.R_elder' (by exact RX_ HO411.out) (Kd.R_base ho0) hb)
      have n4_ := Aside0.mk (Kd.R_lower (Kd.R_new' (Kd.R_new' ho0 (Kd.R_lt (by exact RX_ HO408.out))) (Kd.R_lt (by exact RX_ HO411.out))) (below_size (B1_)))
      have n5_ := Aside0.mk (blk_below (g := gb397) (o := .cells #[.slice A0 l0.length c0, .slice A1 l1.length c1] 26 (0, 0)) (by exact KX_ BK397.out) hb)
      have n6_ := Aside0.mk (blk_below (g := gb405) (o := .cells #[.slice Ao26 t398.length co26, .slice Ao29 t401.length co29] 26 (0, 0)) (by exact KX_ BK405.out) hb)
      have n7_ := Aside0.mk (below_step (B1_) hb)
      clear HO400
      clear HO403
      clear HO408
      clear HO411
      clear BK397
      clear BK405
      clear HB
      have HO400 := n0_
      have HO403 := n1_
      have HO408 := n2_
      have HO411 := n3_
      have HO415 := n4_
      have BK397 := n5_
      have BK405 := n6_
      have HB := n7_
      clear n0_ n1_ n2_ n3_ n4_ n5_ n6_ n7_
      (try clear hb)
      (try clear hb2)
      (try clear hk)
      (try clear hi)
      (try clear ho0)
      refine hK.out _ _ ⟨(blk_cell BK405.out 0).trans rfl, (blk_cell BK405.out 1).trans rfl⟩ (fun hHeld => ?_)
      clear hK K
      refine norm_ (a' := ?_) ?_ ?_
      rotate_left
      ·show Act.put _ (some 46) _ = _
       simp only [Act.put, List.setIfInBounds_toArray, List.set_cons_zero, List.set_cons_succ, i64_w, i32_w]
       rfl
      refine one_ (i := 8) (N := some 49) #[T_,T_,T_,T_,T_,T_,T_,T_,T_,F_,F_,F_] rfl rfl (one_of HT_.out (by kernel_rfl)) (by decide) (fun K hK => ?_)
      refine goes_ Try.func14 (by kernel_rfl) rfl #[.agg #[.slice Ao26 t398.length co26, .slice Ao29 t401.length co29], .int .i64 a2] (by rfl) rfl rfl (by (try simp only [List.map_toArray, List.map_cons, List.map_nil]); first | done | rfl | (simp only [List.length_drop, List.length_take]; rfl)) ?_
      with_reducible refine (lockstepref07_Tree.calls kj5 _ _ t398 _ _ t401 a2 t416 _ ?side1 ?side2 ?side3 ?side4 A20.out).mono ?_
      (case side1 => repeat (first | exact (Kd.S_reads' HO400.out).2.2 | (with_reducible refine Kd.C_alloc ?_ _) | (with_reducible refine Kd.C_drewN ?_ _) | (with_reducible refine Kd.C_drew ?_)))
      (case side2 => exact (Kd.S_reads' HO400.out).2.1)
      (case side3 => repeat (first | exact (Kd.S_reads' HO403.out).2.2 | (with_reducible refine Kd.C_alloc ?_ _) | (with_reducible refine Kd.C_drewN ?_ _) | (with_reducible refine Kd.C_drew ?_)))
      (case side4 => exact (Kd.S_reads' HO403.out).2.1)
      rintro e w38 ⟨v417, rfl, ho0, hb⟩
      refine ⟨_, rfl, ?_⟩
      have n0_ := Aside0.mk (Kd.S_elder' (by exact SX_ HO400.out) (Kd.R_base ho0) hb)
      have n1_ := Aside0.mk (Kd.S_elder' (by exact SX_ HO403.out) (Kd.R_base ho0) hb)
      have n2_ := Aside0.mk (Kd.R_elder' (by exact RX_ HO408.out) (Kd.R_base ho0) hb)
      have n3_ := Aside0.mk (Kd.R_elder' (by exact RX_ HO411.out) (Kd.R_base ho0) hb)
      have n4_ := Aside0.mk (Kd.R_elder' (by exact RX_ HO415.out) (Kd.R_base ho0) hb)
      have n5_ := Aside0.mk (Kd.R_lower (Kd.R_new' (Kd.R_new' (Kd.R_new' ho0 (Kd.R_lt (by exact RX_ HO408.out))) (Kd.R_lt (by exact RX_ HO411.out))) (Kd.R_lt (by exact RX_ HO415.out))) (below_size (B1_)))
      have n6_ := Aside0.mk (blk_below (g := gb397) (o := .cells #[.slice A0 l0.length c0, .slice A1 l1.length c1] 26 (0, 0)) (by exact KX_ BK397.out) hb)
      have n7_ := Aside0.mk (blk_below (g := gb405) (o := .cells #[.slice Ao26 t398.length co26, .slice Ao29 t401.length co29] 26 (0, 0)) (by exact KX_ BK405.out) hb)
      have n8_ := Aside0.mk (below_step (B1_) hb)
      clear HO400
      clear HO403
      clear HO408
      clear HO411
      clear HO415
      clear BK397
      clear BK405
      clear HB
      have HO400 := n0_
      have HO403 := n1_
      have HO408 := n2_
      have HO411 := n3_
      have HO415 := n4_
      have HO418 := n5_
      have BK397 := n6_
      have BK405 := n7_
      have HB := n8_
      clear n0_ n1_ n2_ n3_ n4_ n5_ n6_ n7_ n8_
      (try clear hb)
      (try clear hb2)
      (try clear hk)
      (try clear hi)
      (try clear ho0)
      obtain ⟨Ao39, co39, eo39⟩ := Kd.R_slice HO415.out
      (first | subst eo39 | (injection eo39 with f1_ f2_ f3_; have f4_ := f1_.symm; have f5_ := f3_.symm; clear f1_ f2_ f3_; subst f4_; subst f5_))
      obtain ⟨Ao40, co40, eo40⟩ := Kd.R_slice HO418.out
      (first | subst eo40 | (injection eo40 with f1_ f2_ f3_; have f4_ := f1_.symm; have f5_ := f3_.symm; clear f1_ f2_ f3_; subst f4_; subst f5_))
      refine hK.out _ _ ⟨(blk_cell BK405.out 0).trans rfl, (blk_cell BK405.out 1).trans rfl⟩ (fun hHeld => ?_)
      clear hK K
      refine norm_ (a' := ?_) ?_ ?_
      rotate_left
      ·show Act.put _ (some 49) _ = _
       simp only [Act.put, List.setIfInBounds_toArray, List.set_cons_zero, List.set_cons_succ, i64_w, i32_w]
       rfl
      refine one_ (i := 9) (N := some 50) #[T_,T_,T_,T_,T_,T_,T_,T_,T_,T_,F_,F_] rfl rfl (one_of HT_.out (by kernel_rfl)) (by decide) (fun K hK => ?_)
      refine goes_ Try.func12 (by kernel_rfl) rfl #[.slice Ao39 t413.length co39, .slice Ao40 t416.length co40] (by rfl) rfl rfl (by (try simp only [List.map_toArray, List.map_cons, List.map_nil]); first | done | rfl | (simp only [List.length_drop, List.length_take]; rfl)) ?_
      with_reducible refine (lockstepref02_Ints.calls kj5 _ _ t413 _ _ t416 t419 _ ?side1 ?side2 ?side3 ?side4 A21.out).mono ?_
      (case side1 => repeat (first | exact (Kd.R_reads' HO415.out).2.2 | (with_reducible refine Kd.C_alloc ?_ _) | (with_reducible refine Kd.C_drewN ?_ _) | (with_reducible refine Kd.C_drew ?_)))
      (case side2 => exact (Kd.R_reads' HO415.out).2.1)
      (case side3 => repeat (first | exact (Kd.R_reads' HO418.out).2.2 | (with_reducible refine Kd.C_alloc ?_ _) | (with_reducible refine Kd.C_drewN ?_ _) | (with_reducible refine Kd.C_drew ?_)))
      (case side4 => exact (Kd.R_reads' HO418.out).2.1)
      rintro e w' ⟨rfl, ⟨nd, rfl⟩⟩
      refine ⟨_, rfl, ?_⟩
      refine hK.out _ _ ⟨(blk_cell BK405.out 0).trans rfl, (blk_cell BK405.out 1).trans rfl⟩ (fun hHeld => ?_)
      clear hK K
      refine norm_ (a' := ?_) ?_ ?_
      rotate_left
      ·show Act.put _ (some 50) _ = _
       simp only [Act.put, List.setIfInBounds_toArray, List.set_cons_zero, List.set_cons_succ, i64_w, i32_w]
       rfl
      refine pure_ (i := 10) (N := some 51) (v := ?_) (a' := ?_) #[T_,T_,T_,T_,T_,T_,T_,T_,T_,T_,T_,F_] rfl rfl (any_of HT_.out (by kernel_rfl)) (fun _ _ _ h => h) (Or.inl ⟨by rfl, ?_⟩) ?_ ?_
      rotate_left
      ·intro w'
       go_simp
       with_reducible rfl
      rotate_left
      ·exact P_
      refine pure_ (i := 11) (N := some 6) (v := ?_) (a' := ?_) #[T_,T_,T_,T_,T_,T_,T_,T_,T_,T_,T_,T_] rfl rfl (any_of HT_.out (by kernel_rfl)) (fun _ _ _ h => h) (Or.inl ⟨by rfl, ?_⟩) ?_ ?_
      rotate_left
      ·intro w'
       go_simp
       with_reducible rfl
      rotate_left
      ·exact P_
      refine done_ (done_of HT_.out (by kernel_rfl)) ?_
      try go_wp2
      go_ret
      exact ⟨by first | rfl | exact congrArg (fun b => Ending.returned (Value.bool b)) HR_.out | (simp [errW_none, errW_some] <;> rfl) | (simp [*, errW_none, errW_some] <;> rfl), B1_⟩
     rw [if_neg c18] at H
     have c18b0 : (t404 == 0) = false := beq_eq_false_iff_ne.mpr c18
     have c18b1 : (t404 != 0) = true := bne_iff_ne.mpr c18
     clear H
     try go_wp2_with (first | ((with_reducible refine gate_dst (N := 7) rfl ?_); refine box_event ?hg (N := 7) ?hd (cs := #[.slice none 0 0, .slice none 0 0]) (t := 26) ?hr ?_; (case hd => rfl); (case hg => rfl); (case hr => first | (go_simp; done) | (go_simp; rfl)); intro gb397 hg w41 hbox hb; have n0_ := Aside0.mk (below_step (B_) hb); have n1_ := Aside0.mk (hbox); have n2_ := Aside0.mk ((by rw [hg]; exact (below_size (B_)) : w.heap.size ≤ gb397)); have n3_ := Aside0.mk ((by rw [hg]; exact (below_size (B_)) : w.heap.size ≤ gb397)); clear HB; have HB := n0_; have BK397 := n1_; have GW397 := n2_; have GE397 := n3_; clear n0_ n1_ n2_ n3_; clear hb hbox hg; have hcz42_0 : w41.cell? ⟨gb397, 0, none⟩ = some (.slice none 0 0) := (blk_cell BK397.out 0).trans rfl; have hcz42_1 : w41.cell? ⟨gb397, 1, none⟩ = some (.slice none 0 0) := (blk_cell BK397.out 1).trans rfl; have hfz42_0 := blk_frozen BK397.out 0; have hfz42_1 := blk_frozen BK397.out 1) | ((with_reducible refine gate_callee (f := 11) rfl ?_); refine goesL_ (some 30) rfl rfl Try.func11 (by kernel_rfl) rfl #[.slice A0 l0.length c0] rfl (by (try simp only [List.map_toArray, List.map_cons, List.map_nil]); first | done | rfl | (simp only [List.length_drop, List.length_take]; rfl)) ?_; (with_reducible refine (graph_Make.calls kj5 _ _ l0 t398 t401 t404 _ ?side1 ?side2 A13.out).mono ?_); (case side1 => exact Kd.C_below HR0.out (B1_)); (case side2 => exact HC0.out); rintro e w43 ⟨v399, v402, rfl, ho0, ho1, hb⟩; refine ⟨_, rfl, ?_⟩; have n0_ := Aside0.mk (Kd.S_lower ho0 (below_size (B1_))); have n1_ := Aside0.mk (Kd.S_lower ho1 (below_size (B1_))); have n2_ := Aside0.mk (blk_below (g := gb397) (o := .cells #[.slice A0 l0.length c0, .slice A1 l1.length c1] 26 (0, 0)) (by (with_reducible repeat (first | refine blk_drewN ?_ _ | refine blk_drew ?_ | refine blk_alloc ?_ _)); refine blk_put (cs := #[.slice A0 l0.length c0, .slice none 0 0]) ?_ 1 _ rfl; (with_reducible repeat (first | refine blk_drewN ?_ _ | refine blk_drew ?_ | refine blk_alloc ?_ _)); refine blk_put (cs := #[.slice none 0 0, .slice none 0 0]) ?_ 0 _ rfl; exact KX_ BK397.out) hb); have n3_ := Aside0.mk (below_step (B1_) hb); clear BK397; clear HB; have HO400 := n0_; have HO403 := n1_; have BK397 := n2_; have HB := n3_; clear n0_ n1_ n2_ n3_; (try clear hb); (try clear hb2); (try clear hk); (try clear hi); (try clear ho0); (try clear ho1)) | ((with_reducible refine gate_dst (N := 8) rfl ?_); refine box_event ?hg (N := 8) ?hd (cs := #[.slice none 0 0, .slice none 0 0]) (t := 26) ?hr ?_; (case hd => rfl); (case hg => rfl); (case hr => first | (go_simp; done) | (go_simp; rfl)); intro gb405 hg w44 hbox hb; have n0_ := Aside0.mk (Kd.S_below (by exact SX_ HO400.out) hb); have n1_ := Aside0.mk (Kd.S_below (by exact SX_ HO403.out) hb); have n2_ := Aside0.mk (blk_below (g := gb397) (o := .cells #[.slice A0 l0.length c0, .slice A1 l1.length c1] 26 (0, 0)) (by exact KX_ BK397.out) hb); have n3_ := Aside0.mk (below_step (B1_) hb); have n4_ := Aside0.mk (hbox); have n5_ := Aside0.mk ((by rw [hg]; exact (below_size (B1_)) : w.heap.size ≤ gb405)); have n6_ := Aside0.mk ((by rw [hg]; exact (below_size (B1_)) : w.heap.size ≤ gb405)); have n7_ := Aside0.mk ((by rw [hg]; exact Nat.ne_of_lt (blk_lt (g := gb397) (o := .cells #[.slice A0 l0.length c0, .slice A1 l1.length c1] 26 (0, 0)) (by exact KX_ BK397.out)) : gb397 ≠ gb405)); have n8_ := Aside0.mk ((by rw [hg]; exact Nat.ne_of_gt (blk_lt (g := gb397) (o := .cells #[.slice A0 l0.length c0, .slice A1 l1.length c1] 26 (0, 0)) (by exact KX_ BK397.out)) : gb405 ≠ gb397)); clear HO400; clear HO403; clear BK397; clear HB; have HO400 := n0_; have HO403 := n1_; have BK397 := n2_; have HB := n3_; have BK405 := n4_; have GW405 := n5_; have GE405 := n6_; have NB397_405 := n7_; have NB405_397 := n8_; clear n0_ n1_ n2_ n3_ n4_ n5_ n6_ n7_ n8_; clear hb hbox hg; obtain ⟨Ao45, co45, eo45⟩ := Kd.S_slice HO400.out; subst eo45; have hnb46 := NB405_397.out; have hnc46 := NB397_405.out; have hcz47_0 : w44.cell? ⟨gb405, 0, none⟩ = some (.slice none 0 0) := (blk_cell BK405.out 0).trans rfl; have hcz47_1 : w44.cell? ⟨gb405, 1, none⟩ = some (.slice none 0 0) := (blk_cell BK405.out 1).trans rfl; have hfz47_0 := blk_frozen BK405.out 0; have hfz47_1 := blk_frozen BK405.out 1; obtain ⟨Ao48, co48, eo48⟩ := Kd.S_slice HO403.out; subst eo48))
     have n0_ : Aside0 (Kd.S (Kd.slice 3 (Kd.int .i64)) 31 ((w44.setCell ⟨gb405, 0, none⟩ (.slice Ao45 t398.length co45)).setCell ⟨gb405, 1, none⟩ (.slice Ao48 t401.length co48)) w.heap.size (fun k_ => some k_ ≠ (.slice Ao48 t401.length co48 : Value).ownBlock) (.slice Ao45 t398.length co45) t398) := ⟨by (with_reducible repeat (first | apply Kd.S_alloc | apply Kd.S_drewN | apply Kd.S_drew)); exact Kd.S_mono (Kd.S_far (p := ⟨gb405, 1, none⟩) (Kd.S_far (p := ⟨gb405, 0, none⟩) (Kd.S_types HO400.out BK405.out (by decide)) (fun _ hk => hk.2) (.slice Ao45 t398.length co45)) (fun _ hk => hk.2) (.slice Ao48 t401.length co48)) (fun _ hk => hk.1)⟩
     have n1_ : Aside0 (Kd.S (Kd.slice 3 (Kd.int .i64)) 31 ((w44.setCell ⟨gb405, 0, none⟩ (.slice Ao45 t398.length co45)).setCell ⟨gb405, 1, none⟩ (.slice Ao48 t401.length co48)) w.heap.size (fun k_ => some k_ ≠ (.slice Ao45 t398.length co45 : Value).ownBlock) (.slice Ao48 t401.length co48) t401) := ⟨by (with_reducible repeat (first | apply Kd.S_alloc | apply Kd.S_drewN | apply Kd.S_drew)); exact Kd.S_mono (Kd.S_far (p := ⟨gb405, 1, none⟩) (Kd.S_far (p := ⟨gb405, 0, none⟩) (Kd.S_types HO403.out BK405.out (by decide)) (fun _ hk => hk.2) (.slice Ao45 t398.length co45)) (fun _ hk => hk.2) (.slice Ao48 t401.length co48)) (fun _ hk => hk.1)⟩
     have n2_ : Aside0 (((w44.setCell ⟨gb405, 0, none⟩ (.slice Ao45 t398.length co45)).setCell ⟨gb405, 1, none⟩ (.slice Ao48 t401.length co48)).heap[gb397]? = some (.cells #[.slice A0 l0.length c0, .slice A1 l1.length c1] 26 (0, 0))) := ⟨by (with_reducible repeat (first | refine blk_drewN ?_ _ | refine blk_drew ?_ | refine blk_alloc ?_ _)); refine blk_far ?_ NB397_405.out _; (with_reducible repeat (first | refine blk_drewN ?_ _ | refine blk_drew ?_ | refine blk_alloc ?_ _)); refine blk_far ?_ NB397_405.out _; exact KX_ BK397.out⟩
     have n3_ : Aside0 (((w44.setCell ⟨gb405, 0, none⟩ (.slice Ao45 t398.length co45)).setCell ⟨gb405, 1, none⟩ (.slice Ao48 t401.length co48)).heap[gb405]? = some (.cells #[.slice Ao45 t398.length co45, .slice Ao48 t401.length co48] 26 (0, 0))) := ⟨by (with_reducible repeat (first | refine blk_drewN ?_ _ | refine blk_drew ?_ | refine blk_alloc ?_ _)); refine blk_put (cs := #[.slice Ao45 t398.length co45, .slice none 0 0]) ?_ 1 _ rfl; (with_reducible repeat (first | refine blk_drewN ?_ _ | refine blk_drew ?_ | refine blk_alloc ?_ _)); refine blk_put (cs := #[.slice none 0 0, .slice none 0 0]) ?_ 0 _ rfl; exact KX_ BK405.out⟩
     have n4_ : Aside0 (Below w.heap.size w ((w44.setCell ⟨gb405, 0, none⟩ (.slice Ao45 t398.length co45)).setCell ⟨gb405, 1, none⟩ (.slice Ao48 t401.length co48))) := ⟨B1_⟩
     (try clear HO400)
     (try clear HO403)
     (try clear BK397)
     (try clear BK405)
     (try clear HB)
     generalize ((w44.setCell ⟨gb405, 0, none⟩ (.slice Ao45 t398.length co45)).setCell ⟨gb405, 1, none⟩ (.slice Ao48 t401.length co48)) = w49 at n0_ n1_ n2_ n3_ n4_ ⊢
     have HO400 := n0_
     have HO403 := n1_
     have BK397 := n2_
     have BK405 := n3_
     have HB := n4_
     clear n0_ n1_ n2_ n3_ n4_
     have n0_ := Aside0.mk (Kd.S_drew HO400.out)
     have n1_ := Aside0.mk (Kd.S_drew HO403.out)
     have n2_ := Aside0.mk (blk_drew BK397.out)
     have n3_ := Aside0.mk (blk_drew BK405.out)
     have n4_ := Aside0.mk (below_drew1 HB.out)
     clear HO400
     clear HO403
     clear BK397
     clear BK405
     clear HB
     have HO400 := n0_
     have HO403 := n1_
     have BK397 := n2_
     have BK405 := n3_
     have HB := n4_
     clear n0_ n1_ n2_ n3_ n4_
     refine start_ (n := 8) (S := fun w' => w'.cell? ⟨gb397, 0, none⟩ = some (.slice A0 l0.length c0) ∧ w'.cell? ⟨gb397, 1, none⟩ = some (.slice A1 l1.length c1)) (ds := []) #[F_,F_,F_,F_,F_,F_,F_,F_] (by kernel_rfl) rfl rfl ⟨(blk_cell BK397.out 0).trans rfl, (blk_cell BK397.out 1).trans rfl⟩ (fun hHeld => ?_); refine with_tabW locksteplaw07_DomTrees.tab7 locksteplaw07_DomTrees.bits7 (fun HT_ HW_ => ?_)
     generalize w49.drew = w50 at HO400 HO403 BK397 BK405 HB hHeld ⊢
     refine pure_ (i := 1) (N := some 34) (v := ?_) (a' := ?_) #[F_,T_,F_,F_,F_,F_,F_,F_] rfl rfl (any_of HT_.out (by kernel_rfl)) (fun _ _ _ h => h) (Or.inl ⟨by rfl, ?_⟩) ?_ ?_
     rotate_left
     ·intro w'
      go_simp
      with_reducible rfl
     rotate_left
     ·exact P_
     refine pure_ (i := 4) (N := some 37) (v := ?_) (a' := ?_) #[F_,T_,F_,F_,T_,F_,F_,F_] rfl rfl (any_of HT_.out (by kernel_rfl)) (fun _ _ _ h => h) (Or.inl ⟨by rfl, ?_⟩) ?_ ?_
     rotate_left
     ·intro w'
      go_simp
      with_reducible rfl
     rotate_left
     ·exact P_
     refine take_ (i := 0) (N := some 33) (v := ?_) (a' := ?_) #[T_,T_,F_,F_,T_,F_,F_,F_] rfl rfl (take_ofW HT_.out HW_.out (by kernel_rfl)) (fun _ _ _ h => h) (Or.inl ⟨by rfl, ?_⟩) hHeld ?_ ?_
     rotate_left
     ·rintro w' ⟨s0, s1⟩
      go_simp
      with_reducible rfl
     rotate_left
     ·exact P_
     refine take_ (i := 3) (N := some 36) (v := ?_) (a' := ?_) #[T_,T_,F_,T_,T_,F_,F_,F_] rfl rfl (take_ofW HT_.out HW_.out (by kernel_rfl)) (fun _ _ _ h => h) (Or.inl ⟨by rfl, ?_⟩) hHeld ?_ ?_
     rotate_left
     ·rintro w' ⟨s0, s1⟩
      go_simp
      with_reducible rfl
     rotate_left
     ·exact P_
     refine one_ (i := 2) (N := some 35) #[T_,T_,T_,T_,T_,F_,F_,F_] rfl rfl (one_of HT_.out (by kernel_rfl)) (by decide) (fun K hK => ?_)
     refine goes_ Try.func13 (by kernel_rfl) rfl #[.agg #[.slice A0 l0.length c0, .slice A1 l1.length c1], .int .i64 a2] (by rfl) rfl rfl (by (try simp only [List.map_toArray, List.map_cons, List.map_nil]); first | done | rfl | (simp only [List.length_drop, List.length_take]; rfl)) ?_
     with_reducible refine (dom_Tree.calls kj5 _ _ l0 _ _ l1 a2 t406 _ ?side1 ?side2 ?side3 ?side4 A14.out).mono ?_
     (case side1 => exact CX_ (Kd.C_below HR0.out HB.out))
     (case side2 => exact HC0.out)
     (case side3 => exact CX_ (Kd.C_below HR1.out HB.out))
     (case side4 => exact HC1.out)
     rintro e w51 ⟨v407, rfl, ho0, hb⟩
     refine ⟨_, rfl, ?_⟩
     have n0_ := Aside0.mk (Kd.S_elder' (by exact SX_ HO400.out) (Kd.R_base ho0) hb)
     have n1_ := Aside0.mk (Kd.S_elder' (by exact SX_ HO403.out) (Kd.R_base ho0) hb)
     have n2_ := Aside0.mk (Kd.R_lower ho0 (below_size (B1_)))
     have n3_ := Aside0.mk (blk_below (g := gb397) (o := .cells #[.slice A0 l0.length c0, .slice A1 l1.length c1] 26 (0, 0)) (by exact KX_ BK397.out) hb)
     have n4_ := Aside0.mk (blk_below (g := gb405) (o := .cells #[.slice Ao45 t398.length co45, .slice Ao48 t401.length co48] 26 (0, 0)) (by exact KX_ BK405.out) hb)
     have n5_ := Aside0.mk (below_step (B1_) hb)
     clear HO400
     clear HO403
     clear BK397
     clear BK405
     clear HB
     have HO400 := n0_
     have HO403 := n1_
     have HO408 := n2_
     have BK397 := n3_
     have BK405 := n4_
     have HB := n5_
     clear n0_ n1_ n2_ n3_ n4_ n5_
     (try clear hb)
     (try clear hb2)
     (try clear hk)
     (try clear hi)
     (try clear ho0)
     refine hK.out _ _ ⟨(blk_cell BK397.out 0).trans rfl, (blk_cell BK397.out 1).trans rfl⟩ (fun hHeld => ?_)
     clear hK K
     refine norm_ (a' := ?_) ?_ ?_
     rotate_left
     ·show Act.put _ (some 35) _ = _
      simp only [Act.put, List.setIfInBounds_toArray, List.set_cons_zero, List.set_cons_succ, i64_w, i32_w]
      rfl
     refine one_ (i := 5) (N := some 38) #[T_,T_,T_,T_,T_,T_,F_,F_] rfl rfl (one_of HT_.out (by kernel_rfl)) (by decide) (fun K hK => ?_)
     refine goes_ Try.func14 (by kernel_rfl) rfl #[.agg #[.slice A0 l0.length c0, .slice A1 l1.length c1], .int .i64 a2] (by rfl) rfl rfl (by (try simp only [List.map_toArray, List.map_cons, List.map_nil]); first | done | rfl | (simp only [List.length_drop, List.length_take]; rfl)) ?_
     with_reducible refine (lockstepref07_Tree.calls kj5 _ _ l0 _ _ l1 a2 t409 _ ?side1 ?side2 ?side3 ?side4 A15.out).mono ?_
     (case side1 => exact CX_ (Kd.C_below HR0.out HB.out))
     (case side2 => exact HC0.out)
     (case side3 => exact CX_ (Kd.C_below HR1.out HB.out))
     (case side4 => exact HC1.out)
     rintro e w52 ⟨v410, rfl, ho0, hb⟩
     refine ⟨_, rfl, ?_⟩
     have n0_ := Aside0.mk (Kd.S_elder' (by exact SX_ HO400.out) (Kd.R_base ho0) hb)
     have n1_ := Aside0.mk (Kd.S_elder' (by exact SX_ HO403.out) (Kd.R_base ho0) hb)
     have n2_ := Aside0.mk (Kd.R_elder' (by exact RX_ HO408.out) (Kd.R_base ho0) hb)
     have n3_ := Aside0.mk (Kd.R_lower (Kd.R_new' ho0 (Kd.R_lt (by exact RX_ HO408.out))) (below_size (B1_)))
     have n4_ := Aside0.mk (blk_below (g := gb397) (o := .cells #[.slice A0 l0.length c0, .slice A1 l1.length c1] 26 (0, 0)) (by exact KX_ BK397.out) hb)
     have n5_ := Aside0.mk (blk_below (g := gb405) (o := .cells #[.slice Ao45 t398.length co45, .slice Ao48 t401.length co48] 26 (0, 0)) (by exact KX_ BK405.out) hb)
     have n6_ := Aside0.mk (below_step (B1_) hb)
     clear HO400
     clear HO403
     clear HO408
     clear BK397
     clear BK405
     clear HB
     have HO400 := n0_
     have HO403 := n1_
     have HO408 := n2_
     have HO411 := n3_
     have BK397 := n4_
     have BK405 := n5_
     have HB := n6_
     clear n0_ n1_ n2_ n3_ n4_ n5_ n6_
     (try clear hb)
     (try clear hb2)
     (try clear hk)
     (try clear hi)
     (try clear ho0)
     obtain ⟨Ao53, co53, eo53⟩ := Kd.R_slice HO408.out
     (first | subst eo53 | (injection eo53 with f1_ f2_ f3_; have f4_ := f1_.symm; have f5_ := f3_.symm; clear f1_ f2_ f3_; subst f4_; subst f5_))
     obtain ⟨Ao54, co54, eo54⟩ := Kd.R_slice HO411.out
     (first | subst eo54 | (injection eo54 with f1_ f2_ f3_; have f4_ := f1_.symm; have f5_ := f3_.symm; clear f1_ f2_ f3_; subst f4_; subst f5_))
     refine hK.out _ _ ⟨(blk_cell BK397.out 0).trans rfl, (blk_cell BK397.out 1).trans rfl⟩ (fun hHeld => ?_)
     clear hK K
     refine norm_ (a' := ?_) ?_ ?_
     rotate_left
     ·show Act.put _ (some 38) _ = _
      simp only [Act.put, List.setIfInBounds_toArray, List.set_cons_zero, List.set_cons_succ, i64_w, i32_w]
      rfl
     refine one_ (i := 6) (N := some 39) #[T_,T_,T_,T_,T_,T_,T_,F_] rfl rfl (one_of HT_.out (by kernel_rfl)) (by decide) (fun K hK => ?_)
     refine goes_ Try.func12 (by kernel_rfl) rfl #[.slice Ao53 t406.length co53, .slice Ao54 t409.length co54] (by rfl) rfl rfl (by (try simp only [List.map_toArray, List.map_cons, List.map_nil]); first | done | rfl | (simp only [List.length_drop, List.length_take]; rfl)) ?_
     with_reducible refine (lockstepref02_Ints.calls kj5 _ _ t406 _ _ t409 true _ ?side1 ?side2 ?side3 ?side4 A16.out).mono ?_
     (case side1 => repeat (first | exact (Kd.R_reads' HO408.out).2.2 | (with_reducible refine Kd.C_alloc ?_ _) | (with_reducible refine Kd.C_drewN ?_ _) | (with_reducible refine Kd.C_drew ?_)))
     (case side2 => exact (Kd.R_reads' HO408.out).2.1)
     (case side3 => repeat (first | exact (Kd.R_reads' HO411.out).2.2 | (with_reducible refine Kd.C_alloc ?_ _) | (with_reducible refine Kd.C_drewN ?_ _) | (with_reducible refine Kd.C_drew ?_)))
     (case side4 => exact (Kd.R_reads' HO411.out).2.1)
     rintro e w' ⟨rfl, ⟨nd, rfl⟩⟩
     refine ⟨_, rfl, ?_⟩
     refine hK.out _ _ ⟨(blk_cell BK397.out 0).trans rfl, (blk_cell BK397.out 1).trans rfl⟩ (fun hHeld => ?_)
     clear hK K
     refine norm_ (a' := ?_) ?_ ?_
     rotate_left
     ·show Act.put _ (some 39) _ = _
      simp only [Act.put, List.setIfInBounds_toArray, List.set_cons_zero, List.set_cons_succ, i64_w, i32_w]
      rfl
     refine pure_ (i := 7) (N := some 40) (v := ?_) (a' := ?_) #[T_,T_,T_,T_,T_,T_,T_,T_] rfl rfl (any_of HT_.out (by kernel_rfl)) (fun _ _ _ h => h) (Or.inl ⟨by rfl, ?_⟩) ?_ ?_
     rotate_left
     ·intro w'
      go_simp
      with_reducible rfl
     rotate_left
     ·exact P_
     refine done_ (done_of HT_.out (by kernel_rfl)) ?_
     try go_wp2
     (try (rw [drewN_self w52]; generalize hq_ : World.drewN w52 _ = w52; have n0_ : Aside0 (Kd.S (Kd.slice 3 (Kd.int .i64)) 31 w52 w.heap.size (fun k_ => some k_ ≠ (.slice Ao48 t401.length co48 : Value).ownBlock ∧ some k_ ≠ (.slice Ao53 t406.length co53 : Value).ownBlock ∧ some k_ ≠ (.slice Ao54 t409.length co54 : Value).ownBlock) (.slice Ao45 t398.length co45) t398) := ⟨by rw [← hq_]; exact (by (with_reducible repeat (first | apply Kd.S_alloc | apply Kd.S_drewN | apply Kd.S_drew)); exact Kd.S_mono HO400.out (fun _ hk => ⟨hk.1.1, ⟨hk.1.2, hk.2⟩⟩))⟩; have n1_ : Aside0 (Kd.S (Kd.slice 3 (Kd.int .i64)) 31 w52 w.heap.size (fun k_ => some k_ ≠ (.slice Ao45 t398.length co45 : Value).ownBlock ∧ some k_ ≠ (.slice Ao53 t406.length co53 : Value).ownBlock ∧ some k_ ≠ (.slice Ao54 t409.length co54 : Value).ownBlock) (.slice Ao48 t401.length co48) t401) := ⟨by rw [← hq_]; exact (by (with_reducible repeat (first | apply Kd.S_alloc | apply Kd.S_drewN | apply Kd.S_drew)); exact Kd.S_mono HO403.out (fun _ hk => ⟨hk.1.1, ⟨hk.1.2, hk.2⟩⟩))⟩; have n2_ : Aside0 (Kd.R (Kd.int .i64) 3 w52 w.heap.size (fun k_ => some k_ ≠ (.slice Ao54 t409.length co54 : Value).ownBlock) (.slice Ao53 t406.length co53) t406) := ⟨by rw [← hq_]; exact (by (with_reducible repeat (first | apply Kd.R_alloc | apply Kd.R_drewN | apply Kd.R_drew)); exact Kd.R_mono HO408.out (fun _ hk => by first | exact hk.2 | exact hk | exact ⟨hk.1, hk.2⟩ | simp_all))⟩; have n3_ : Aside0 (Kd.R (Kd.int .i64) 3 w52 w.heap.size (fun k_ => some k_ ≠ (.slice Ao53 t406.length co53 : Value).ownBlock) (.slice Ao54 t409.length co54) t409) := ⟨by rw [← hq_]; exact (by (with_reducible repeat (first | apply Kd.R_alloc | apply Kd.R_drewN | apply Kd.R_drew)); exact Kd.R_mono HO411.out (fun _ hk => by first | exact hk.2 | exact hk | exact ⟨hk.1, hk.2⟩ | simp_all))⟩; have n4_ : Aside0 (w52.heap[gb397]? = some (.cells #[.slice A0 l0.length c0, .slice A1 l1.length c1] 26 (0, 0))) := ⟨by rw [← hq_]; exact (by exact KX_ BK397.out)⟩; have n5_ : Aside0 (w52.heap[gb405]? = some (.cells #[.slice Ao45 t398.length co45, .slice Ao48 t401.length co48] 26 (0, 0))) := ⟨by rw [← hq_]; exact (by exact KX_ BK405.out)⟩; have n6_ : Aside0 (Below w.heap.size w w52) := ⟨by rw [← hq_]; exact (B1_)⟩; clear HO400 HO403 HO408 HO411 BK397 BK405 HB hq_; have HO400 := n0_; have HO403 := n1_; have HO408 := n2_; have HO411 := n3_; have BK397 := n4_; have BK405 := n5_; have HB := n6_; clear n0_ n1_ n2_ n3_ n4_ n5_ n6_))
     have n0_ := Aside0.mk (Kd.S_drew HO400.out)
     have n1_ := Aside0.mk (Kd.S_drew HO403.out)
     have n2_ := Aside0.mk (Kd.R_drew HO408.out)
     have n3_ := Aside0.mk (Kd.R_drew HO411.out)
     have n4_ := Aside0.mk (blk_drew BK397.out)
     have n5_ := Aside0.mk (blk_drew BK405.out)
     have n6_ := Aside0.mk (below_drew1 HB.out)
     clear HO400
     clear HO403
     clear HO408
     clear HO411
     clear BK397
     clear BK405
     clear HB
     have HO400 := n0_
     have HO403 := n1_
     have HO408 := n2_
     have HO411 := n3_
     have BK397 := n4_
     have BK405 := n5_
     have HB := n6_
     clear n0_ n1_ n2_ n3_ n4_ n5_ n6_
     refine start_ (n := 12) (S := fun w' => True) (ds := []) #[F_,F_,F_,F_,F_,F_,F_,F_,F_,F_,F_,F_] (by kernel_rfl) rfl rfl trivial (fun hHeld => ?_); refine with_tabW locksteplaw07_DomTrees.tab9 locksteplaw07_DomTrees.bits9 (fun HT_ HW_ => ?_)
     generalize w52.drew = w55 at HO400 HO403 HO408 HO411 BK397 BK405 HB hHeld ⊢
     refine pure_ (i := 0) (N := some 41) (v := ?_) (a' := ?_) #[T_,F_,F_,F_,F_,F_,F_,F_,F_,F_,F_,F_] rfl rfl (any_of HT_.out (by kernel_rfl)) (fun _ _ _ h => h) (Or.inl ⟨by rfl, ?_⟩) ?_ ?_
     rotate_left
     ·intro w'
      go_simp
      with_reducible rfl
     rotate_left
     ·exact P_
     refine pure_ (i := 1) (N := some 42) (v := ?_) (a' := ?_) #[T_,T_,F_,F_,F_,F_,F_,F_,F_,F_,F_,F_] rfl rfl (any_of HT_.out (by kernel_rfl)) (fun _ _ _ h => h) (Or.inl ⟨by rfl, ?_⟩) ?_ ?_
     rotate_left
     ·intro w'
      go_simp
      with_reducible rfl
     rotate_left
     ·exact P_
     refine pure_ (i := 2) (N := some 43) (v := ?_) (a' := ?_) #[T_,T_,T_,F_,F_,F_,F_,F_,F_,F_,F_,F_] rfl rfl (any_of HT_.out (by kernel_rfl)) (fun _ _ _ h => h) (Or.inl ⟨by rfl, ?_⟩) ?_ ?_
     rotate_left
     ·intro w'
      go_simp
      with_reducible rfl
     rotate_left
     ·exact P_
     refine pure_ (i := 3) (N := some 44) (v := undef) (a' := ?_) #[T_,T_,T_,T_,F_,F_,F_,F_,F_,F_,F_,F_] rfl rfl (any_of HT_.out (by kernel_rfl)) (fun _ _ _ h => h) (Or.inr ⟨by rfl, rfl⟩) ?_ ?_
     rotate_left
     ·exact P_
     refine pure_ (i := 4) (N := some 45) (v := undef) (a' := ?_) #[T_,T_,T_,T_,T_,F_,F_,F_,F_,F_,F_,F_] rfl rfl (any_of HT_.out (by kernel_rfl)) (fun _ _ _ h => h) (Or.inr ⟨by rfl, rfl⟩) ?_ ?_
     rotate_left
     ·exact P_
     refine pure_ (i := 5) (N := some 46) (v := undef) (a' := ?_) #[T_,T_,T_,T_,T_,T_,F_,F_,F_,F_,F_,F_] rfl rfl (any_of HT_.out (by kernel_rfl)) (fun _ _ _ h => h) (Or.inr ⟨by rfl, rfl⟩) ?_ ?_
     rotate_left
     ·exact P_
     refine pure_ (i := 6) (N := some 47) (v := undef) (a' := ?_) #[T_,T_,T_,T_,T_,T_,T_,F_,F_,F_,F_,F_] rfl rfl (any_of HT_.out (by kernel_rfl)) (fun _ _ _ h => h) (Or.inr ⟨by rfl, rfl⟩) ?_ ?_
     rotate_left
     ·exact P_
     refine pure_ (i := 7) (N := some 48) (v := undef) (a' := ?_) #[T_,T_,T_,T_,T_,T_,T_,T_,F_,F_,F_,F_] rfl rfl (any_of HT_.out (by kernel_rfl)) (fun _ _ _ h => h) (Or.inr ⟨by rfl, rfl⟩) ?_ ?_
     rotate_left
     ·exact P_
     refine pure_ (i := 8) (N := some 49) (v := undef) (a' := ?_) #[T_,T_,T_,T_,T_,T_,T_,T_,T_,F_,F_,F_] rfl rfl (any_of HT_.out (by kernel_rfl)) (fun _ _ _ h => h) (Or.inr ⟨by rfl, rfl⟩) ?_ ?_
     rotate_left
     ·exact P_
     refine pure_ (i := 9) (N := some 50) (v := undef) (a' := ?_) #[T_,T_,T_,T_,T_,T_,T_,T_,T_,T_,F_,F_] rfl rfl (any_of HT_.out (by kernel_rfl)) (fun _ _ _ h => h) (Or.inr ⟨by rfl, rfl⟩) ?_ ?_
     rotate_left
     ·exact P_
     refine pure_ (i := 10) (N := some 51) (v := ?_) (a' := ?_) #[T_,T_,T_,T_,T_,T_,T_,T_,T_,T_,T_,F_] rfl rfl (any_of HT_.out (by kernel_rfl)) (fun _ _ _ h => h) (Or.inl ⟨by rfl, ?_⟩) ?_ ?_
     rotate_left
     ·intro w'
      go_simp
      with_reducible rfl
     rotate_left
     ·exact P_
     refine pure_ (i := 11) (N := some 6) (v := ?_) (a' := ?_) #[T_,T_,T_,T_,T_,T_,T_,T_,T_,T_,T_,T_] rfl rfl (any_of HT_.out (by kernel_rfl)) (fun _ _ _ h => h) (Or.inl ⟨by rfl, ?_⟩) ?_ ?_
     rotate_left
     ·intro w'
      go_simp
      with_reducible rfl
     rotate_left
     ·exact P_
     refine done_ (done_of HT_.out (by kernel_rfl)) ?_
     try go_wp2
     go_ret
     exact ⟨by first | rfl | exact congrArg (fun b => Ending.returned (Value.bool b)) HR_.out | (simp [errW_none, errW_some] <;> rfl) | (simp [*, errW_none, errW_some] <;> rfl), B1_⟩
    replace c17 := Bool.eq_false_iff.mpr c17
    subst c17
    have H1 : (some false) = some true := by rw [if_neg (show ¬ (false = true) by decide)] at H; exact H
    clear H
    have H := H1
    clear H1
    exact absurd H (by simp)
 replace c5 := Bool.eq_false_iff.mpr c5
 subst c5
 have H1 : (some false) = some true := by rw [if_neg (show ¬ (false = true) by decide)] at H; exact H
 clear H
 have H := H1
 clear H1
 exact absurd H (by simp)

/-- THE ONE PURE STATEMENT of locksteplaw07_DomTrees: yours. -/
def locksteplaw07_DomTrees.Pure : Prop := ∀ (l0 : List (List Int)) (l1 : List (List Int)) (a2 : Int), RowsOk .i64 l0 → RowsOk .i64 l1 → (Lit.int .i64 a2).wf = true → ∃ k, locksteplaw07_DomTrees.f k l0 l1 a2 = some true
theorem locksteplaw07_DomTrees.walk (P : locksteplaw07_DomTrees.Pure) (a0 : Option Addr) (cap0 : Nat) (l0 : List (List Int)) (a1 : Option Addr) (cap1 : Nat) (l1 : List (List Int)) (a2 : Int) (w : World) (w0 : Kd.C (Kd.slice 3 (Kd.int .i64)) w a0 l0.length l0) (y0 : l0.length ≤ cap0) (m0 : RowsOk .i64 l0) (w1 : Kd.C (Kd.slice 3 (Kd.int .i64)) w a1 l1.length l1) (y1 : l1.length ≤ cap1) (m1 : RowsOk .i64 l1) (w2 : (Lit.int .i64 a2).wf = true) :
 Calls Try.prog 3 #[.slice a0 l0.length cap0, .slice a1 l1.length cap1, .int .i64 a2] w fun e w' => e = .returned (.bool true) ∧ Below w.heap.size w w' := by
 obtain ⟨k, h⟩ := P l0 l1 a2 m0 m1 w2
 refine (locksteplaw07_DomTrees.calls k _ _ l0 _ _ l1 a2 w w0 y0 w1 y1 h).mono ?_
 rintro e w' ⟨rfl, hd⟩
 exact ⟨rfl, hd⟩

end Go.Proofs.Ythahaajmgnoebaa.G
