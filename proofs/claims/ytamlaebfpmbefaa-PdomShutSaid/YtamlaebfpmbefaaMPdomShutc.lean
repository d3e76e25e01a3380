/- Texts of this session, joined by wip/tools/merge.py. Conditions: each theorem's own. -/
import Derived.Test.YtamlaebfpmbefaaGx0
import Derived.Test.YtamlaebfpmbefaaMPdomShutd
namespace Go.Proofs.Ytamlaebfpmbefaa.G
open Go.Proofs.YtamlaebfpmbefaaH
open Go.RowKit Go.Proofs.YtamlaebfpmbefaaW.PrintWords Go.Proofs.YtamlaebfpmbefaaW.PrintLast Go.Proofs.YtamlaebfpmbefaaW.PrintMore
attribute [local go_sem] max2_int min2_int max_two min_two max_three min_three max_four min_four   -- for this text's walks alone
set_option linter.unusedVariables false
set_option linter.unusedSimpArgs false

/-! ### graph_Order: function 30 -/
mutual
def graph_Order.j0 : Nat → Int → Bool → List (List Int) → List (List Int) → Option (List Int)
 | 0, _, _, _, _ => none
 | k + 1, x1, x24, x171000, x171001 => if x24 = true then (some ([] : List Int)) else (if 0 ≤ x1 then (if x1 < 64 then (graph_Order.l0 k ((List.replicate 64 false).set (x1 : Int).toNat true) (List.replicate 64 0) ([] : List Int) (([x1] : List Int)) x171000 x171001) else (none)) else (none))
def graph_Order.l0 : Nat → List Bool → List Int → List Int → List Int → List (List Int) → List (List Int) → Option (List Int)
 | 0, _, _, _, _, _, _ => none
 | k + 1, x5, x6, x7, x8, x171000, x171001 => if 0 ≤ (wrap64 ((x8.length : Int) - 1)) then (if (wrap64 ((x8.length : Int) - 1)) < (x8.length : Int) then (graph_Order.l1 k x5 x6 x7 x8 (rd x8 (wrap64 ((x8.length : Int) - 1))) x171000 x171001) else (none)) else (none)
def graph_Order.l1 : Nat → List Bool → List Int → List Int → List Int → Int → List (List Int) → List (List Int) → Option (List Int)
 | 0, _, _, _, _, _, _, _ => none
 | k + 1, x5, x6, x7, x8, x9, x171000, x171001 => if 0 ≤ x9 then (if x9 < 64 then (if x9 < (x171000.length : Int) then (if (rd x6 x9) < ((rd_L1 x171000 x9).length : Int) then (if 0 ≤ (rd x6 x9) then ((some (x6.set (x9 : Int).toNat (wrap64 ((rd x6 x9) + 1)) : List Int)).bind fun y191 => (if 0 ≤ (rd (rd_L1 x171000 x9) (rd x6 x9)) then (if (rd (rd_L1 x171000 x9) (rd x6 x9)) < 64 then (if (rdOf false x5 (rd (rd_L1 x171000 x9) (rd x6 x9)) = true) then (graph_Order.l1 k x5 y191 x7 x8 x9 x171000 x171001) else (if x8.length < 17592186044416 then (graph_Order.l0 k (x5.set ((rd (rd_L1 x171000 x9) (rd x6 x9)) : Int).toNat true) y191 x7 (x8 ++ [rd (rd_L1 x171000 x9) (rd x6 x9)]) x171000 x171001) else (none))) else (none)) else (none))) else (none)) else (if x7.length < 17592186044416 then ((some (x7 ++ [x9] : List Int)).bind fun y197 => (if 0 ≤ (wrap64 ((x8.length : Int) - 1)) then (if (wrap64 ((x8.length : Int) - 1)) ≤ (x8.length : Int) then ((some (x8.take ((wrap64 ((x8.length : Int) - 1)) : Int).toNat : List Int)).bind fun y200 => (if (y200.length : Int) > 0 then (graph_Order.l0 k x5 x6 y197 y200 x171000 x171001) else ((slices_Reverse_int_int.f k y197).bind fun t203 => (some t203)))) else (none)) else (none))) else (none))) else (none)) else (none)) else (none)
end
def graph_Order.f (k : Nat) (l0_0 : List (List Int)) (l0_1 : List (List Int)) (a1 : Int) : Option (List Int) := (graph_May.f k l0_0 l0_1).bind fun t171 => (if t171 = true then (if a1 < 0 then (graph_Order.j0 k a1 true l0_0 l0_1) else (graph_Order.j0 k a1 (decide (a1 ≥ (l0_0.length : Int))) l0_0 l0_1)) else (graph_Order.j0 k a1 true l0_0 l0_1))
theorem graph_Order.mono_l : ∀ k, (∀ y0 y1 y2 y3, LeO (graph_Order.j0 k y0 y1 y2 y3) (graph_Order.j0 (k + 1) y0 y1 y2 y3)) ∧ (∀ y0 y1 y2 y3 y4 y5, LeO (graph_Order.l0 k y0 y1 y2 y3 y4 y5) (graph_Order.l0 (k + 1) y0 y1 y2 y3 y4 y5)) ∧ (∀ y0 y1 y2 y3 y4 y5 y6, LeO (graph_Order.l1 k y0 y1 y2 y3 y4 y5 y6) (graph_Order.l1 (k + 1) y0 y1 y2 y3 y4 y5 y6))
 | 0 => ⟨fun _ _ _ _ r h => by simp [graph_Order.j0] at h, fun _ _ _ _ _ _ r h => by simp [graph_Order.l0] at h, fun _ _ _ _ _ _ _ r h => by simp [graph_Order.l1] at h⟩
 | k + 1 => by
  obtain ⟨ih0, ih1, ih2⟩ := graph_Order.mono_l k
  refine ⟨?_, ?_, ?_⟩
  ·intro y0 y1 y2 y3
   unfold graph_Order.j0
   repeat' first
   | (with_reducible exact ih0 _ _ _ _)
   | (with_reducible exact ih1 _ _ _ _ _ _)
   | (with_reducible exact ih2 _ _ _ _ _ _ _)
   | (with_reducible exact graph_May.mono _ _ _)
   | (with_reducible exact slices_Reverse_int_int.mono _ _)
   | (with_reducible exact LeO.refl _)
   | (with_reducible exact LeO.none _)
   | (with_reducible refine LeO.ite ?_ ?_)
   | (with_reducible refine LeO.bind ?_ (fun _ => ?_))
   | exact ih0 _ _ _ _
   | exact ih1 _ _ _ _ _ _
   | exact ih2 _ _ _ _ _ _ _
   | exact graph_May.mono _ _ _
   | exact slices_Reverse_int_int.mono _ _
   | exact LeO.none _
   | refine LeO.ite ?_ ?_
   | refine LeO.bind ?_ (fun _ => ?_)
  ·intro y0 y1 y2 y3 y4 y5
   unfold graph_Order.l0
   repeat' first
   | (with_reducible exact ih0 _ _ _ _)
   | (with_reducible exact ih1 _ _ _ _ _ _)
   | (with_reducible exact ih2 _ _ _ _ _ _ _)
   | (with_reducible exact graph_May.mono _ _ _)
   | (with_reducible exact slices_Reverse_int_int.mono _ _)
   | (with_reducible exact LeO.refl _)
   | (with_reducible exact LeO.none _)
   | (with_reducible refine LeO.ite ?_ ?_)
   | (with_reducible refine LeO.bind ?_ (fun _ => ?_))
   | exact ih0 _ _ _ _
   | exact ih1 _ _ _ _ _ _
   | exact ih2 _ _ _ _ _ _ _
   | exact graph_May.mono _ _ _
   | exact slices_Reverse_int_int.mono _ _
   | exact LeO.none _
   | refine LeO.ite ?_ ?_
   | refine LeO.bind ?_ (fun _ => ?_)
  ·intro y0 y1 y2 y3 y4 y5 y6
   unfold graph_Order.l1
   repeat' first
   | (with_reducible exact ih0 _ _ _ _)
   | (with_reducible exact ih1 _ _ _ _ _ _)
   | (with_reducible exact ih2 _ _ _ _ _ _ _)
   | (with_reducible exact graph_May.mono _ _ _)
   | (with_reducible exact slices_Reverse_int_int.mono _ _)
   | (with_reducible exact LeO.refl _)
   | (with_reducible exact LeO.none _)
   | (with_reducible refine LeO.ite ?_ ?_)
   | (with_reducible refine LeO.bind ?_ (fun _ => ?_))
   | exact ih0 _ _ _ _
   | exact ih1 _ _ _ _ _ _
   | exact ih2 _ _ _ _ _ _ _
   | exact graph_May.mono _ _ _
   | exact slices_Reverse_int_int.mono _ _
   | exact LeO.none _
   | refine LeO.ite ?_ ?_
   | refine LeO.bind ?_ (fun _ => ?_)
theorem graph_Order.mono : ∀ a0 a1 a2 k, LeO (graph_Order.f k a0 a1 a2) (graph_Order.f (k + 1) a0 a1 a2) := by
 intro a0 a1 a2 k
 obtain ⟨ih0, ih1, ih2⟩ := graph_Order.mono_l k
 unfold graph_Order.f
 repeat' first
  | (with_reducible exact ih0 _ _ _ _)
  | (with_reducible exact ih1 _ _ _ _ _ _)
  | (with_reducible exact ih2 _ _ _ _ _ _ _)
  | (with_reducible exact graph_May.mono _ _ _)
  | (with_reducible exact slices_Reverse_int_int.mono _ _)
  | (with_reducible exact LeO.refl _)
  | (with_reducible exact LeO.none _)
  | (with_reducible refine LeO.ite ?_ ?_)
  | (with_reducible refine LeO.bind ?_ (fun _ => ?_))
  | exact ih0 _ _ _ _
  | exact ih1 _ _ _ _ _ _
  | exact ih2 _ _ _ _ _ _ _
  | exact graph_May.mono _ _ _
  | exact slices_Reverse_int_int.mono _ _
  | exact LeO.none _
  | refine LeO.ite ?_ ?_
  | refine LeO.bind ?_ (fun _ => ?_)
set_option maxHeartbeats 8000000 in
set_option maxRecDepth 100000 in
theorem graph_Order.calls (k : Nat) (A0_0 : Option Addr) (c0_0 : Nat) (l0_0 : List (List Int)) (A0_1 : Option Addr) (c0_1 : Nat) (l0_1 : List (List Int)) (a1 : Int) (r : List Int) (w : World) (hr0_0 : Kd.C (Kd.slice 3 (Kd.int .i64)) w A0_0 l0_0.length l0_0) (hc0_0 : l0_0.length ≤ c0_0) (hr0_1 : Kd.C (Kd.slice 3 (Kd.int .i64)) w A0_1 l0_1.length l0_1) (hc0_1 : l0_1.length ≤ c0_1) (h : graph_Order.f k l0_0 l0_1 a1 = some r) :
 Calls Try.prog 30 #[.agg #[.slice A0_0 l0_0.length c0_0, .slice A0_1 l0_1.length c0_1], .int .i64 a1] w fun e w' => ∃ v0_ : Value, e = .returned (v0_) ∧ Kd.R (Kd.int .i64) 3 w' w.heap.size (fun _ => True) v0_ r ∧ Below w.heap.size w w' := by
 have hu26 := Try.underlying26
 have HR0_0 := Aside0.mk hr0_0
 have HC0_0 := Aside0.mk hc0_0
 clear hr0_0 hc0_0
 have HR0_1 := Aside0.mk hr0_1
 have HC0_1 := Aside0.mk hc0_1
 clear hr0_1 hc0_1
 have HB := Aside0.mk (Below.refl w.heap.size w)
 have H : ((graph_May.f k l0_0 l0_1).bind fun t171 => (if t171 = true then (if a1 < 0 then (graph_Order.j0 k a1 true l0_0 l0_1) else (graph_Order.j0 k a1 (decide (a1 ≥ (l0_0.length : Int))) l0_0 l0_1)) else (graph_Order.j0 k a1 true l0_0 l0_1))) = some r := h
 clear h
 have H' := Aside0.mk H
 clear H
 go_enter Try.func30, Try.ntmps30
 go_wp2_with (first | ((with_reducible refine gate_dst (N := 2) rfl ?_); (try (refine gate_guard (by rfl) ?_; dsimp only)); refine box_event ?hg (N := 2) ?hd (cs := #[.slice A0_0 l0_0.length c0_0, .slice A0_1 l0_1.length c0_1]) (t := 26) ?hr ?_; (case hd => rfl); (case hg => rfl); (case hr => first | (go_simp; done) | (go_simp; rfl)); intro gb170 hg w3 hbox hb; have n0_ := Aside0.mk (below_step (B_) hb); have n1_ := Aside0.mk (hbox); have n2_ := Aside0.mk ((by rw [hg]; exact (below_size (B_)) : w.heap.size ≤ gb170)); have n3_ := Aside0.mk ((by rw [hg]; exact (below_size (B_)) : w.heap.size ≤ gb170)); clear HB; have HB := n0_; have BK170 := n1_; have GW170 := n2_; have GE170 := n3_; clear n0_ n1_ n2_ n3_; clear hb hbox hg))
 repeat (go_quiet (first | ((with_reducible refine gate_dst (N := 2) rfl ?_); (try (refine gate_guard (by rfl) ?_; dsimp only)); refine box_event ?hg (N := 2) ?hd (cs := #[.slice A0_0 l0_0.length c0_0, .slice A0_1 l0_1.length c0_1]) (t := 26) ?hr ?_; (case hd => rfl); (case hg => rfl); (case hr => first | (go_simp; done) | (go_simp; rfl)); intro gb170 hg w3 hbox hb; have n0_ := Aside0.mk (below_step (B_) hb); have n1_ := Aside0.mk (hbox); have n2_ := Aside0.mk ((by rw [hg]; exact (below_size (B_)) : w.heap.size ≤ gb170)); have n3_ := Aside0.mk ((by rw [hg]; exact (below_size (B_)) : w.heap.size ≤ gb170)); clear HB; have HB := n0_; have BK170 := n1_; have GW170 := n2_; have GE170 := n3_; clear n0_ n1_ n2_ n3_; clear hb hbox hg)); try go_wp2_with (first | ((with_reducible refine gate_dst (N := 2) rfl ?_); (try (refine gate_guard (by rfl) ?_; dsimp only)); refine box_event ?hg (N := 2) ?hd (cs := #[.slice A0_0 l0_0.length c0_0, .slice A0_1 l0_1.length c0_1]) (t := 26) ?hr ?_; (case hd => rfl); (case hg => rfl); (case hr => first | (go_simp; done) | (go_simp; rfl)); intro gb170 hg w3 hbox hb; have n0_ := Aside0.mk (below_step (B_) hb); have n1_ := Aside0.mk (hbox); have n2_ := Aside0.mk ((by rw [hg]; exact (below_size (B_)) : w.heap.size ≤ gb170)); have n3_ := Aside0.mk ((by rw [hg]; exact (below_size (B_)) : w.heap.size ≤ gb170)); clear HB; have HB := n0_; have BK170 := n1_; have GW170 := n2_; have GE170 := n3_; clear n0_ n1_ n2_ n3_; clear hb hbox hg)))
 apply lab_enter 0; (case hf => rfl)
 have H := H'.out
 clear H'
 have HC4 := Aside0.mk H
 clear H
 go_upto_region 1 with (fail)
 repeat (go_quiet (fail); go_upto_region 1 with (fail))
 go_cut [24] (fun v24 wc => ∃ (kq : Nat) (x24_3 : Bool), v24 = .bool x24_3 ∧ Aside0 (graph_Order.j0 kq a1 x24_3 l0_0 l0_1 = some r) ∧ Aside0 (kq ≤ k) ∧ Aside0 (wc.heap[gb170]? = some (.cells #[(.slice A0_0 l0_0.length c0_0), (.slice A0_1 l0_1.length c0_1)] 26 (0, 0))) ∧ Aside0 (Below w.heap.size w wc))
 case first =>
  have H := HC4.out
  clear HC4
  replace H := Option.bind_eq_some_iff.mp H
  obtain ⟨t171, A50, H⟩ := H
  replace H : (if t171 = true then (if a1 < 0 then (graph_Order.j0 k a1 true l0_0 l0_1) else (graph_Order.j0 k a1 (decide (a1 ≥ (l0_0.length : Int))) l0_0 l0_1)) else (graph_Order.j0 k a1 true l0_0 l0_1)) = some r := H
  have A5 := Aside0.mk A50
  clear A50
  by_cases c6 : t171 = true
  ·subst c6
   have H1 : (if a1 < 0 then (graph_Order.j0 k a1 true l0_0 l0_1) else (graph_Order.j0 k a1 (decide (a1 ≥ (l0_0.length : Int))) l0_0 l0_1)) = some r := by rw [if_pos rfl] at H; exact H
   clear H
   have H := H1
   clear H1
   by_cases c7 : a1 < 0
   ·rw [if_pos c7] at H
    have c7b0 : decide (a1 < 0) = true := decide_eq_true c7
    clear c7
    (first | rw [c7b0] | (simp only [i64_w, i32_w]; rw [c7b0]) | skip)
    have H' := Aside0.mk H
    clear H
    have hcz8_0 : w3.cell? ⟨gb170, 0, none⟩ = some (.slice A0_0 l0_0.length c0_0) := (blk_cell BK170.out 0).trans rfl
    have hcz8_1 : w3.cell? ⟨gb170, 1, none⟩ = some (.slice A0_1 l0_1.length c0_1) := (blk_cell BK170.out 1).trans rfl
    have hfz8_0 := blk_frozen BK170.out 0
    have hfz8_1 := blk_frozen BK170.out 1
    go_wp2_with (first | (go_at_call 24; (with_reducible refine (graph_May.calls k _ _ l0_0 _ _ l0_1 true _ ?side1 ?side2 ?side3 ?side4 A5.out).mono ?_); (case side1 => exact CX_ (Kd.C_below HR0_0.out HB.out)); (case side2 => exact HC0_0.out); (case side3 => exact CX_ (Kd.C_below HR0_1.out HB.out)); (case side4 => exact HC0_1.out); rintro e w9 ⟨rfl, hb⟩; have n0_ := Aside0.mk (blk_below (g := gb170) (o := .cells #[.slice A0_0 l0_0.length c0_0, .slice A0_1 l0_1.length c0_1] 26 (0, 0)) (by exact KX_ BK170.out) hb); have n1_ := Aside0.mk (below_step (B1_) hb); clear BK170; clear HB; have BK170 := n0_; have HB := n1_; clear n0_ n1_; (try clear hb); (try clear hb2); (try clear hk); (try clear hi)))
    repeat (go_quiet (first | (go_at_call 24; (with_reducible refine (graph_May.calls k _ _ l0_0 _ _ l0_1 true _ ?side1 ?side2 ?side3 ?side4 A5.out).mono ?_); (case side1 => exact CX_ (Kd.C_below HR0_0.out HB.out)); (case side2 => exact HC0_0.out); (case side3 => exact CX_ (Kd.C_below HR0_1.out HB.out)); (case side4 => exact HC0_1.out); rintro e w9 ⟨rfl, hb⟩; have n0_ := Aside0.mk (blk_below (g := gb170) (o := .cells #[.slice A0_0 l0_0.length c0_0, .slice A0_1 l0_1.length c0_1] 26 (0, 0)) (by exact KX_ BK170.out) hb); have n1_ := Aside0.mk (below_step (B1_) hb); clear BK170; clear HB; have BK170 := n0_; have HB := n1_; clear n0_ n1_; (try clear hb); (try clear hb2); (try clear hk); (try clear hi))); try go_wp2_with (first | (go_at_call 24; (with_reducible refine (graph_May.calls k _ _ l0_0 _ _ l0_1 true _ ?side1 ?side2 ?side3 ?side4 A5.out).mono ?_); (case side1 => exact CX_ (Kd.C_below HR0_0.out HB.out)); (case side2 => exact HC0_0.out); (case side3 => exact CX_ (Kd.C_below HR0_1.out HB.out)); (case side4 => exact HC0_1.out); rintro e w9 ⟨rfl, hb⟩; have n0_ := Aside0.mk (blk_below (g := gb170) (o := .cells #[.slice A0_0 l0_0.length c0_0, .slice A0_1 l0_1.length c0_1] 26 (0, 0)) (by exact KX_ BK170.out) hb); have n1_ := Aside0.mk (below_step (B1_) hb); clear BK170; clear HB; have BK170 := n0_; have HB := n1_; clear n0_ n1_; (try clear hb); (try clear hb2); (try clear hk); (try clear hi))))
    go_meet
    case rel => exact ⟨_, (true), (by first | rfl | (simp; done) | (simp [*]; done)), H', ⟨by first | omega | exact Nat.le_refl _⟩, ⟨by exact KX_ BK170.out⟩, ⟨B1_⟩⟩
   rw [if_neg c7] at H
   have c7b0 : decide (a1 < 0) = false := decide_eq_false c7
   clear c7
   (first | rw [c7b0] | (simp only [i64_w, i32_w]; rw [c7b0]) | skip)
   have H' := Aside0.mk H
   clear H
   have hcz10_0 : w3.cell? ⟨gb170, 0, none⟩ = some (.slice A0_0 l0_0.length c0_0) := (blk_cell BK170.out 0).trans rfl
   have hcz10_1 : w3.cell? ⟨gb170, 1, none⟩ = some (.slice A0_1 l0_1.length c0_1) := (blk_cell BK170.out 1).trans rfl
   have hfz10_0 := blk_frozen BK170.out 0
   have hfz10_1 := blk_frozen BK170.out 1
   go_wp2_with (first | (go_at_call 24; (with_reducible refine (graph_May.calls k _ _ l0_0 _ _ l0_1 true _ ?side1 ?side2 ?side3 ?side4 A5.out).mono ?_); (case side1 => exact CX_ (Kd.C_below HR0_0.out HB.out)); (case side2 => exact HC0_0.out); (case side3 => exact CX_ (Kd.C_below HR0_1.out HB.out)); (case side4 => exact HC0_1.out); rintro e w11 ⟨rfl, hb⟩; have n0_ := Aside0.mk (blk_below (g := gb170) (o := .cells #[.slice A0_0 l0_0.length c0_0, .slice A0_1 l0_1.length c0_1] 26 (0, 0)) (by exact KX_ BK170.out) hb); have n1_ := Aside0.mk (below_step (B1_) hb); clear BK170; clear HB; have BK170 := n0_; have HB := n1_; clear n0_ n1_; (try clear hb); (try clear hb2); (try clear hk); (try clear hi); have hcz12_0 : w11.cell? ⟨gb170, 0, none⟩ = some (.slice A0_0 l0_0.length c0_0) := (blk_cell BK170.out 0).trans rfl; have hcz12_1 : w11.cell? ⟨gb170, 1, none⟩ = some (.slice A0_1 l0_1.length c0_1) := (blk_cell BK170.out 1).trans rfl; have hfz12_0 := blk_frozen BK170.out 0; have hfz12_1 := blk_frozen BK170.out 1))
   repeat (go_quiet (first | (go_at_call 24; (with_reducible refine (graph_May.calls k _ _ l0_0 _ _ l0_1 true _ ?side1 ?side2 ?side3 ?side4 A5.out).mono ?_); (case side1 => exact CX_ (Kd.C_below HR0_0.out HB.out)); (case side2 => exact HC0_0.out); (case side3 => exact CX_ (Kd.C_below HR0_1.out HB.out)); (case side4 => exact HC0_1.out); rintro e w11 ⟨rfl, hb⟩; have n0_ := Aside0.mk (blk_below (g := gb170) (o := .cells #[.slice A0_0 l0_0.length c0_0, .slice A0_1 l0_1.length c0_1] 26 (0, 0)) (by exact KX_ BK170.out) hb); have n1_ := Aside0.mk (below_step (B1_) hb); clear BK170; clear HB; have BK170 := n0_; have HB := n1_; clear n0_ n1_; (try clear hb); (try clear hb2); (try clear hk); (try clear hi); have hcz12_0 : w11.cell? ⟨gb170, 0, none⟩ = some (.slice A0_0 l0_0.length c0_0) := (blk_cell BK170.out 0).trans rfl; have hcz12_1 : w11.cell? ⟨gb170, 1, none⟩ = some (.slice A0_1 l0_1.length c0_1) := (blk_cell BK170.out 1).trans rfl; have hfz12_0 := blk_frozen BK170.out 0; have hfz12_1 := blk_frozen BK170.out 1)); try go_wp2_with (first | (go_at_call 24; (with_reducible refine (graph_May.calls k _ _ l0_0 _ _ l0_1 true _ ?side1 ?side2 ?side3 ?side4 A5.out).mono ?_); (case side1 => exact CX_ (Kd.C_below HR0_0.out HB.out)); (case side2 => exact HC0_0.out); (case side3 => exact CX_ (Kd.C_below HR0_1.out HB.out)); (case side4 => exact HC0_1.out); rintro e w11 ⟨rfl, hb⟩; have n0_ := Aside0.mk (blk_below (g := gb170) (o := .cells #[.slice A0_0 l0_0.length c0_0, .slice A0_1 l0_1.length c0_1] 26 (0, 0)) (by exact KX_ BK170.out) hb); have n1_ := Aside0.mk (below_step (B1_) hb); clear BK170; clear HB; have BK170 := n0_; have HB := n1_; clear n0_ n1_; (try clear hb); (try clear hb2); (try clear hk); (try clear hi); have hcz12_0 : w11.cell? ⟨gb170, 0, none⟩ = some (.slice A0_0 l0_0.length c0_0) := (blk_cell BK170.out 0).trans rfl; have hcz12_1 : w11.cell? ⟨gb170, 1, none⟩ = some (.slice A0_1 l0_1.length c0_1) := (blk_cell BK170.out 1).trans rfl; have hfz12_0 := blk_frozen BK170.out 0; have hfz12_1 := blk_frozen BK170.out 1)))
   go_meet
   case rel => exact ⟨_, (decide (a1 ≥ (l0_0.length : Int))), (by first | rfl | (simp; done) | (simp [*]; done)), H', ⟨by first | omega | exact Nat.le_refl _⟩, ⟨by exact KX_ BK170.out⟩, ⟨B1_⟩⟩
  replace c6 := Bool.eq_false_iff.mpr c6
  subst c6
  have H1 : (graph_Order.j0 k a1 true l0_0 l0_1) = some r := by rw [if_neg (show ¬ (false = true) by decide)] at H; exact H
  clear H
  have H := H1
  clear H1
  have H' := Aside0.mk H
  clear H
  have hcz13_0 : w3.cell? ⟨gb170, 0, none⟩ = some (.slice A0_0 l0_0.length c0_0) := (blk_cell BK170.out 0).trans rfl
  have hcz13_1 : w3.cell? ⟨gb170, 1, none⟩ = some (.slice A0_1 l0_1.length c0_1) := (blk_cell BK170.out 1).trans rfl
  have hfz13_0 := blk_frozen BK170.out 0
  have hfz13_1 := blk_frozen BK170.out 1
  go_wp2_with (first | (go_at_call 24; (with_reducible refine (graph_May.calls k _ _ l0_0 _ _ l0_1 false _ ?side1 ?side2 ?side3 ?side4 A5.out).mono ?_); (case side1 => exact CX_ (Kd.C_below HR0_0.out HB.out)); (case side2 => exact HC0_0.out); (case side3 => exact CX_ (Kd.C_below HR0_1.out HB.out)); (case side4 => exact HC0_1.out); rintro e w14 ⟨rfl, hb⟩; have n0_ := Aside0.mk (blk_below (g := gb170) (o := .cells #[.slice A0_0 l0_0.length c0_0, .slice A0_1 l0_1.length c0_1] 26 (0, 0)) (by exact KX_ BK170.out) hb); have n1_ := Aside0.mk (below_step (B1_) hb); clear BK170; clear HB; have BK170 := n0_; have HB := n1_; clear n0_ n1_; (try clear hb); (try clear hb2); (try clear hk); (try clear hi)))
  repeat (go_quiet (first | (go_at_call 24; (with_reducible refine (graph_May.calls k _ _ l0_0 _ _ l0_1 false _ ?side1 ?side2 ?side3 ?side4 A5.out).mono ?_); (case side1 => exact CX_ (Kd.C_below HR0_0.out HB.out)); (case side2 => exact HC0_0.out); (case side3 => exact CX_ (Kd.C_below HR0_1.out HB.out)); (case side4 => exact HC0_1.out); rintro e w14 ⟨rfl, hb⟩; have n0_ := Aside0.mk (blk_below (g := gb170) (o := .cells #[.slice A0_0 l0_0.length c0_0, .slice A0_1 l0_1.length c0_1] 26 (0, 0)) (by exact KX_ BK170.out) hb); have n1_ := Aside0.mk (below_step (B1_) hb); clear BK170; clear HB; have BK170 := n0_; have HB := n1_; clear n0_ n1_; (try clear hb); (try clear hb2); (try clear hk); (try clear hi))); try go_wp2_with (first | (go_at_call 24; (with_reducible refine (graph_May.calls k _ _ l0_0 _ _ l0_1 false _ ?side1 ?side2 ?side3 ?side4 A5.out).mono ?_); (case side1 => exact CX_ (Kd.C_below HR0_0.out HB.out)); (case side2 => exact HC0_0.out); (case side3 => exact CX_ (Kd.C_below HR0_1.out HB.out)); (case side4 => exact HC0_1.out); rintro e w14 ⟨rfl, hb⟩; have n0_ := Aside0.mk (blk_below (g := gb170) (o := .cells #[.slice A0_0 l0_0.length c0_0, .slice A0_1 l0_1.length c0_1] 26 (0, 0)) (by exact KX_ BK170.out) hb); have n1_ := Aside0.mk (below_step (B1_) hb); clear BK170; clear HB; have BK170 := n0_; have HB := n1_; clear n0_ n1_; (try clear hb); (try clear hb2); (try clear hk); (try clear hi))))
  go_meet
  case rel => exact ⟨_, (true), (by first | rfl | (simp; done) | (simp [*]; done)), H', ⟨by first | omega | exact Nat.le_refl _⟩, ⟨by exact KX_ BK170.out⟩, ⟨B1_⟩⟩
 case rest =>
  clear HC4
  obtain ⟨kq, x24_3, rfl, HA, HJ3, BK170, HB⟩ := hcut
  cases kq with
  | zero => exact absurd HA.out (by simp [graph_Order.j0])
  | succ kj3 =>
   have H := HA.out
   clear HA
   simp only [graph_Order.j0] at H
   by_cases c15 : x24_3 = true
   ·subst c15
    have H1 : (some ([] : List Int)) = some r := by rw [if_pos rfl] at H; exact H
    clear H
    have H := H1
    clear H1
    obtain rfl := Option.some.inj H
    go_wp2
    repeat (go_quiet (fail); try go_wp2)
    (try simp only [jumpg_ret, Exit.then, Exit.inBlock])
    go_ret
    exact ⟨_, by first | rfl | (simp [errW_none, errW_some] <;> rfl) | (simp [*, errW_none, errW_some] <;> rfl), by first | exact Kd.R_nil _ _ _ _ _ | exact Kd.N_nil _ _ _ _ _ | exact Kd.V_nil _ _ _ _ _ | exact Kd.Q_nil _ _ _ _ _ | exact Kd.S_nil _ _ _ _ _, B1_⟩
   replace c15 := Bool.eq_false_iff.mpr c15
   subst c15
   have H1 : (if 0 ≤ a1 then (if a1 < 64 then (graph_Order.l0 kj3 ((List.replicate 64 false).set (a1 : Int).toNat true) (List.replicate 64 0) ([] : List Int) (([a1] : List Int)) l0_0 l0_1) else (none)) else (none)) = some r := by rw [if_neg (show ¬ (false = true) by decide)] at H; exact H
   clear H
   have H := H1
   clear H1
   obtain ⟨y172, hy172⟩ : ∃ y_ : List Bool, y_ = (List.replicate 64 false) := ⟨_, rfl⟩
   replace H : (if 0 ≤ a1 then (if a1 < 64 then (graph_Order.l0 kj3 (y172.set (a1 : Int).toNat true) (List.replicate 64 0) ([] : List Int) (([a1] : List Int)) l0_0 l0_1) else (none)) else (none)) = some r := by first | (rw [hy172]; with_reducible exact H) | (have H2_ := (Option.bind_some _ _).symm.trans H; rw [hy172]; with_reducible exact H2_) | (have H2_ := (Option.bind_some _ _).symm.trans H; with_reducible exact H2_) | with_reducible exact H | (rw [hy172]; exact H) | exact H
   have Ny172 := Aside0.mk hy172
   clear hy172
   obtain ⟨y176, hy176⟩ : ∃ y_ : List Int, y_ = (List.replicate 64 0) := ⟨_, rfl⟩
   replace H : (if 0 ≤ a1 then (if a1 < 64 then (graph_Order.l0 kj3 (y172.set (a1 : Int).toNat true) y176 ([] : List Int) (([a1] : List Int)) l0_0 l0_1) else (none)) else (none)) = some r := by first | (rw [hy176]; with_reducible exact H) | (have H2_ := (Option.bind_some _ _).symm.trans H; rw [hy176]; with_reducible exact H2_) | (have H2_ := (Option.bind_some _ _).symm.trans H; with_reducible exact H2_) | with_reducible exact H | (rw [hy176]; exact H) | exact H
   have Ny176 := Aside0.mk hy176
   clear hy176
   obtain ⟨y180, hy180⟩ : ∃ y_ : List Int, y_ = (([a1] : List Int)) := ⟨_, rfl⟩
   replace H : (if 0 ≤ a1 then (if a1 < 64 then (graph_Order.l0 kj3 (y172.set (a1 : Int).toNat true) y176 ([] : List Int) y180 l0_0 l0_1) else (none)) else (none)) = some r := by first | (rw [hy180]; with_reducible exact H) | (have H2_ := (Option.bind_some _ _).symm.trans H; rw [hy180]; with_reducible exact H2_) | (have H2_ := (Option.bind_some _ _).symm.trans H; with_reducible exact H2_) | with_reducible exact H | (rw [hy180]; exact H) | exact H
   have Ny180 := Aside0.mk hy180
   clear hy180
   by_cases c16 : 0 ≤ a1
   ·rw [if_pos c16] at H
    have c16b0 : decide (0 ≤ a1) = true := decide_eq_true c16
    clear c16
    by_cases c17 : a1 < 64
    ·rw [if_pos c17] at H
     have c17b0 : decide (a1 < 64) = true := decide_eq_true c17
     clear c17
     obtain ⟨y183, hy183⟩ : ∃ y_ : List Bool, y_ = (y172.set (a1 : Int).toNat true) := ⟨_, rfl⟩
     replace H : (graph_Order.l0 kj3 y183 y176 ([] : List Int) y180 l0_0 l0_1) = some r := by first | (rw [hy183]; with_reducible exact H) | (have H2_ := (Option.bind_some _ _).symm.trans H; rw [hy183]; with_reducible exact H2_) | (have H2_ := (Option.bind_some _ _).symm.trans H; with_reducible exact H2_) | with_reducible exact H | (rw [hy183]; exact H) | exact H
     have Ny183 := Aside0.mk hy183
     clear hy183
     have H' := Aside0.mk H
     clear H
     go_wp2_with (first | ((with_reducible refine gate_dst (N := 5) rfl ?_); (try (refine gate_guard (by rfl) ?_; dsimp only)); refine Kd0.R_alloc Kd.bool _ 46 rfl (N := 5) rfl 64 false (.bool false) ?hr rfl (by decide) rfl (ok := fun _ => True) trivial (Below.refl _ _) (Nat.le_refl _) (by decide) ?_; (case hr => first | (go_simp; done) | (go_simp; rfl) | (go_simp; kernel_rfl)); intro goA175 hge_ w19 ho20 hb hg_ hnew_; have GBA175 := Aside0.mk (Nat.le_trans (below_size (B1_)) hge_ : w.heap.size ≤ goA175); clear hge_; clear hg_ hnew_; (first | rw [← Ny172.out] at ho20 | (simp only [Int.reduceToNat] at ho20; rw [← Ny172.out] at ho20)); have n0_ := Aside0.mk (Kd.R_lower ho20 (below_size (B1_))); have n1_ := Aside0.mk (blk_below (g := gb170) (o := .cells #[.slice A0_0 l0_0.length c0_0, .slice A0_1 l0_1.length c0_1] 26 (0, 0)) (by exact KX_ BK170.out) hb); have n2_ := Aside0.mk (below_step (B1_) hb); clear BK170; clear HB; have HO174 := n0_; have BK170 := n1_; have HB := n2_; clear n0_ n1_ n2_; clear hb ho20) | ((with_reducible refine gate_dst (N := 6) rfl ?_); (try (refine gate_guard (by rfl) ?_; dsimp only)); refine Kd0.R_alloc (Kd.int .i64) _ 57 rfl (N := 6) rfl 64 0 (.int .i64 0) ?hr rfl (by decide) rfl (ok := fun _ => True) trivial (Below.refl _ _) (Nat.le_refl _) (by decide) ?_; (case hr => first | (go_simp; done) | (go_simp; rfl) | (go_simp; kernel_rfl)); intro goA179 hge_ w21 ho22 hb hg_ hnew_; have GBA179 := Aside0.mk (Nat.le_trans (below_size (B1_)) hge_ : w.heap.size ≤ goA179); clear hge_; clear hg_ hnew_; (first | rw [← Ny176.out] at ho22 | (simp only [Int.reduceToNat] at ho22; rw [← Ny176.out] at ho22)); have n0_ := Aside0.mk (Kd.R_below (by exact RX_ HO174.out) hb); have n1_ := Aside0.mk (Kd.R_lower ho22 (below_size (B1_))); have n2_ := Aside0.mk (blk_below (g := gb170) (o := .cells #[.slice A0_0 l0_0.length c0_0, .slice A0_1 l0_1.length c0_1] 26 (0, 0)) (by exact KX_ BK170.out) hb); have n3_ := Aside0.mk (below_step (B1_) hb); clear HO174; clear BK170; clear HB; have HO174 := n0_; have HO178 := n1_; have BK170 := n2_; have HB := n3_; clear n0_ n1_ n2_ n3_; clear hb ho22) | ((with_reducible refine gate_dst (N := 26) rfl ?_); (try (refine gate_guard (by rfl) ?_; dsimp only)); refine Kd.R_lit (Kd.int .i64) _ 3 ?hg (N := 26) ?hd (xs := ([a1] : List Int)) (inner := [.int .i64 a1]) (ok := fun _ => True) (okp := fun _ => True) ?hr ?hp (fun _ hk => hk) trivial (Below.refl _ _) (Nat.le_refl _) (by simp) ?_; (case hd => rfl); (case hg => rfl); (case hr => first | (go_simp; done) | (go_simp; rfl)); (case hp => exact (Reps.one (show Kd.M (Kd.int .i64) _ _ _ a1 [.int .i64 a1] from rfl) (Reps.none _ _))); intro v181 w23 ho24 hb hg_ hnew_; clear hg_ hnew_; (first | rw [← Ny180.out] at ho24 | (simp only [Int.reduceToNat] at ho24; rw [← Ny180.out] at ho24)); have n0_ := Aside0.mk (Kd.R_below (by exact RX_ HO174.out) hb); have n1_ := Aside0.mk (Kd.R_below (by exact RX_ HO178.out) hb); have n2_ := Aside0.mk (Kd.R_lower ho24 (below_size (B1_))); have n3_ := Aside0.mk (blk_below (g := gb170) (o := .cells #[.slice A0_0 l0_0.length c0_0, .slice A0_1 l0_1.length c0_1] 26 (0, 0)) (by exact KX_ BK170.out) hb); have n4_ := Aside0.mk (below_step (B1_) hb); clear HO174; clear HO178; clear BK170; clear HB; have HO174 := n0_; have HO178 := n1_; have HO182 := n2_; have BK170 := n3_; have HB := n4_; clear n0_ n1_ n2_ n3_ n4_; clear hb ho24; have p18 : 0 ≤ (a1 : Int) := D_; have q18 : (a1 : Int) < (64 : Int) := D_; obtain ⟨hx18_0, hf18_0⟩ := Kd.R_celln false HO174.out (a1 : Int) p18 q18; replace p18 := eq_true p18; replace q18 := eq_true q18; obtain ⟨hy25_, hz25_⟩ := Kd.R_celln false HO174.out (a1 : Int) (D_) (D_); have HP25 := Kd.R_putg HO174.out (a1 : Int) true) | ((with_reducible refine gate_store (t := 4) (p := 28) rfl ?_); (try (rw [drewN_self w23]; generalize hq_ : World.drewN w23 _ = w23; have n0_ := Aside0.mk (Kd.R_at hq_ HO174.out); have n1_ := Aside0.mk (Kd.R_at hq_ HO178.out); have n2_ := Aside0.mk (Kd.R_at hq_ HO182.out); have n3_ := Aside0.mk (blk_at hq_ BK170.out); have n4_ := Aside0.mk (below_at hq_ HB.out); clear hq_ HO174 HO178 HO182 BK170 HB; have HO174 := n0_; have HO178 := n1_; have HO182 := n2_; have BK170 := n3_; have HB := n4_; clear n0_ n1_ n2_ n3_ n4_; (try (obtain ⟨hy25_, hz25_⟩ := Kd.R_celln false HO174.out (a1 : Int) (D_) (D_))); (try (obtain ⟨hcx_, hcf_⟩ := Kd.R_celln false HO174.out (a1 : Int) (D_) (by first | exact D_ | (have z_ : (a1 : Int) < (64 : Int) := D_; exact z_)))); (try (have HP25 := Kd.R_putg HO174.out (a1 : Int) true)))); refine store_event (t := 4) (p := 28) (v := ?vo_w26) (w1 := (w23.setCell ⟨goA175, (a1 : Int).toNat, none⟩ (.bool true))) ?hg ?ho ?hn ?hr ?_; (case ho => rfl); (case hg => rfl); (case hn => rfl); (case hr => first | (go_simp; done) | (go_simp; rfl)); intro w26 hw; have hg : w23.grownBy w26 (some goA175) := (by rw [hw]; exact HP25.2); have hp_ : Kd.R Kd.bool 46 w26 w.heap.size (fun _ => True) (.slice (some ⟨goA175, 0, none⟩) 64 64) y183 := (by rw [hw, Ny183.out]; exact HP25.1); clear HP25; have n0_ := Aside0.mk (blk_grown (g := gb170) (o := .cells #[.slice A0_0 l0_0.length c0_0, .slice A0_1 l0_1.length c0_1] 26 (0, 0)) (by exact KX_ BK170.out) hg (Kd.R_ne HO174.out BK170.out (by decide))); have n1_ := Aside0.mk (hp_); have n2_ := Aside0.mk (Kd.R_over' (v := (.slice (some ⟨goA175, 0, none⟩) 64 64)) (by exact RX_ HO178.out) (Kd.R_typed HO174.out) (by decide) hg); have n3_ := Aside0.mk (Kd.R_over' (v := (.slice (some ⟨goA175, 0, none⟩) 64 64)) (by exact RX_ HO182.out) (Kd.R_typed HO174.out) (by decide) hg); have n4_ := Aside0.mk ((by rw [hw]; exact below_set (HB.out) GBA175.out : Below w.heap.size w w26)); clear BK170; clear HO174; clear HO178; clear HO182; clear HB; have BK170 := n0_; have HO174 := n1_; have HO178 := n2_; have HO182 := n3_; have HB := n4_; clear n0_ n1_ n2_ n3_ n4_; clear hg hw hp_))
     repeat (go_quiet (first | ((with_reducible refine gate_dst (N := 5) rfl ?_); (try (refine gate_guard (by rfl) ?_; dsimp only)); refine Kd0.R_alloc Kd.bool _ 46 rfl (N := 5) rfl 64 false (.bool false) ?hr rfl (by decide) rfl (ok := fun _ => True) trivial (Below.refl _ _) (Nat.le_refl _) (by decide) ?_; (case hr => first | (go_simp; done) | (go_simp; rfl) | (go_simp; kernel_rfl)); intro goA175 hge_ w19 ho20 hb hg_ hnew_; have GBA175 := Aside0.mk (Nat.le_trans (below_size (B1_)) hge_ : w.heap.size ≤ goA175); clear hge_; clear hg_ hnew_; (first | rw [← Ny172.out] at ho20 | (simp only [Int.reduceToNat] at ho20; rw [← Ny172.out] at ho20)); have n0_ := Aside0.mk (Kd.R_lower ho20 (below_size (B1_))); have n1_ := Aside0.mk (blk_below (g := gb170) (o := .cells #[.slice A0_0 l0_0.length c0_0, .slice A0_1 l0_1.length c0_1] 26 (0, 0)) (by exact KX_ BK170.out) hb); have n2_ := Aside0.mk (below_step (B1_) hb); clear BK170; clear HB; have HO174 := n0_; have BK170 := n1_; have HB := n2_; clear n0_ n1_ n2_; clear hb ho20) | ((with_reducible refine gate_dst (N := 6) rfl ?_); (try (refine gate_guard (by rfl) ?_; dsimp only)); refine Kd0.R_alloc (Kd.int .i64) _ 57 rfl (N := 6) rfl 64 0 (.int .i64 0) ?hr rfl (by decide) rfl (ok := fun _ => True) trivial (Below.refl _ _) (Nat.le_refl _) (by decide) ?_; (case hr => first | (go_simp; done) | (go_simp; rfl) | (go_simp; kernel_rfl)); intro goA179 hge_ w21 ho22 hb hg_ hnew_; have GBA179 := Aside0.mk (Nat.le_trans (below_size (B1_)) hge_ : w.heap.size ≤ goA179); clear hge_; clear hg_ hnew_; (first | rw [← Ny176.out] at ho22 | (simp only [Int.reduceToNat] at ho22; rw [← Ny176.out] at ho22)); have n0_ := Aside0.mk (Kd.R_below (by exact RX_ HO174.out) hb); have n1_ := Aside0.mk (Kd.R_lower ho22 (below_size (B1_))); have n2_ := Aside0.mk (blk_below (g := gb170) (o := .cells #[.slice A0_0 l0_0.length c0_0, .slice A0_1 l0_1.length c0_1] 26 (0, 0)) (by exact KX_ BK170.out) hb); have n3_ := Aside0.mk (below_step (B1_) hb); clear HO174; clear BK170; clear HB; have HO174 := n0_; have HO178 := n1_; have BK170 := n2_; have HB := n3_; clear n0_ n1_ n2_ n3_; clear hb ho22) | ((with_reducible refine gate_dst (N := 26) rfl ?_); (try (refine gate_guard (by rfl) ?_; dsimp only)); refine Kd.R_lit (Kd.int .i64) _ 3 ?hg (N := 26) ?hd (xs := ([a1] : List Int)) (inner := [.int .i64 a1]) (ok := fun _ => True) (okp := fun _ => True) ?hr ?hp (fun _ hk => hk) trivial (Below.refl _ _) (Nat.le_refl _) (by simp) ?_; (case hd => rfl); (case hg => rfl); (case hr => first | (go_simp; done) | (go_simp; rfl)); (case hp => exact (Reps.one (show Kd.M (Kd.int .i64) _ _ _ a1 [.int .i64 a1] from rfl) (Reps.none _ _))); intro v181 w23 ho24 hb hg_ hnew_; clear hg_ hnew_; (first | rw [← Ny180.out] at ho24 | (simp only [Int.reduceToNat] at ho24; rw [← Ny180.out] at ho24)); have n0_ := Aside0.mk (Kd.R_below (by exact RX_ HO174.out) hb); have n1_ := Aside0.mk (Kd.R_below (by exact RX_ HO178.out) hb); have n2_ := Aside0.mk (Kd.R_lower ho24 (below_size (B1_))); have n3_ := Aside0.mk (blk_below (g := gb170) (o := .cells #[.slice A0_0 l0_0.length c0_0, .slice A0_1 l0_1.length c0_1] 26 (0, 0)) (by exact KX_ BK170.out) hb); have n4_ := Aside0.mk (below_step (B1_) hb); clear HO174; clear HO178; clear BK170; clear HB; have HO174 := n0_; have HO178 := n1_; have HO182 := n2_; have BK170 := n3_; have HB := n4_; clear n0_ n1_ n2_ n3_ n4_; clear hb ho24; have p18 : 0 ≤ (a1 : Int) := D_; have q18 : (a1 : Int) < (64 : Int) := D_; obtain ⟨hx18_0, hf18_0⟩ := Kd.R_celln false HO174.out (a1 : Int) p18 q18; replace p18 := eq_true p18; replace q18 := eq_true q18; obtain ⟨hy25_, hz25_⟩ := Kd.R_celln false HO174.out (a1 : Int) (D_) (D_); have HP25 := Kd.R_putg HO174.out (a1 : Int) true) | ((with_reducible refine gate_store (t := 4) (p := 28) rfl ?_); (try (rw [drewN_self w23]; generalize hq_ : World.drewN w23 _ = w23; have n0_ := Aside0.mk (Kd.R_at hq_ HO174.out); have n1_ := Aside0.mk (Kd.R_at hq_ HO178.out); have n2_ := Aside0.mk (Kd.R_at hq_ HO182.out); have n3_ := Aside0.mk (blk_at hq_ BK170.out); have n4_ := Aside0.mk (below_at hq_ HB.out); clear hq_ HO174 HO178 HO182 BK170 HB; have HO174 := n0_; have HO178 := n1_; have HO182 := n2_; have BK170 := n3_; have HB := n4_; clear n0_ n1_ n2_ n3_ n4_; (try (obtain ⟨hy25_, hz25_⟩ := Kd.R_celln false HO174.out (a1 : Int) (D_) (D_))); (try (obtain ⟨hcx_, hcf_⟩ := Kd.R_celln false HO174.out (a1 : Int) (D_) (by first | exact D_ | (have z_ : (a1 : Int) < (64 : Int) := D_; exact z_)))); (try (have HP25 := Kd.R_putg HO174.out (a1 : Int) true)))); refine store_event (t := 4) (p := 28) (v := ?vo_w26) (w1 := (w23.setCell ⟨goA175, (a1 : Int).toNat, none⟩ (.bool true))) ?hg ?ho ?hn ?hr ?_; (case ho => rfl); (case hg => rfl); (case hn => rfl); (case hr => first | (go_simp; done) | (go_simp; rfl)); intro w26 hw; have hg : w23.grownBy w26 (some goA175) := (by rw [hw]; exact HP25.2); have hp_ : Kd.R Kd.bool 46 w26 w.heap.size (fun _ => True) (.slice (some ⟨goA175, 0, none⟩) 64 64) y183 := (by rw [hw, Ny183.out]; exact HP25.1); clear HP25; have n0_ := Aside0.mk (blk_grown (g := gb170) (o := .cells #[.slice A0_0 l0_0.length c0_0, .slice A0_1 l0_1.length c0_1] 26 (0, 0)) (by exact KX_ BK170.out) hg (Kd.R_ne HO174.out BK170.out (by decide))); have n1_ := Aside0.mk (hp_); have n2_ := Aside0.mk (Kd.R_over' (v := (.slice (some ⟨goA175, 0, none⟩) 64 64)) (by exact RX_ HO178.out) (Kd.R_typed HO174.out) (by decide) hg); have n3_ := Aside0.mk (Kd.R_over' (v := (.slice (some ⟨goA175, 0, none⟩) 64 64)) (by exact RX_ HO182.out) (Kd.R_typed HO174.out) (by decide) hg); have n4_ := Aside0.mk ((by rw [hw]; exact below_set (HB.out) GBA175.out : Below w.heap.size w w26)); clear BK170; clear HO174; clear HO178; clear HO182; clear HB; have BK170 := n0_; have HO174 := n1_; have HO178 := n2_; have HO182 := n3_; have HB := n4_; clear n0_ n1_ n2_ n3_ n4_; clear hg hw hp_)); try go_wp2_with (first | ((with_reducible refine gate_dst (N := 5) rfl ?_); (try (refine gate_guard (by rfl) ?_; dsimp only)); refine Kd0.R_alloc Kd.bool _ 46 rfl (N := 5) rfl 64 false (.bool false) ?hr rfl (by decide) rfl (ok := fun _ => True) trivial (Below.refl _ _) (Nat.le_refl _) (by decide) ?_; (case hr => first | (go_simp; done) | (go_simp; rfl) | (go_simp; kernel_rfl)); intro goA175 hge_ w19 ho20 hb hg_ hnew_; have GBA175 := Aside0.mk (Nat.le_trans (below_size (B1_)) hge_ : w.heap.size ≤ goA175); clear hge_; clear hg_ hnew_; (first | rw [← Ny172.out] at ho20 | (simp only [Int.reduceToNat] at ho20; rw [← Ny172.out] at ho20)); have n0_ := Aside0.mk (Kd.R_lower ho20 (below_size (B1_))); have n1_ := Aside0.mk (blk_below (g := gb170) (o := .cells #[.slice A0_0 l0_0.length c0_0, .slice A0_1 l0_1.length c0_1] 26 (0, 0)) (by exact KX_ BK170.out) hb); have n2_ := Aside0.mk (below_step (B1_) hb); clear BK170; clear HB; have HO174 := n0_; have BK170 := n1_; have HB := n2_; clear n0_ n1_ n2_; clear hb ho20) | ((with_reducible refine gate_dst (N := 6) rfl ?_); (try (refine gate_guard (by rfl) ?_; dsimp only)); refine Kd0.R_alloc (Kd.int .i64) _ 57 rfl (N := 6) rfl 64 0 (.int .i64 0) ?hr rfl (by decide) rfl (ok := fun _ => True) trivial (Below.refl _ _) (Nat.le_refl _) (by decide) ?_; (case hr => first | (go_simp; done) | (go_simp; rfl) | (go_simp; kernel_rfl)); intro goA179 hge_ w21 ho22 hb hg_ hnew_; have GBA179 := Aside0.mk (Nat.le_trans (below_size (B1_)) hge_ : w.heap.size ≤ goA179); clear hge_; clear hg_ hnew_; (first | rw [← Ny176.out] at ho22 | (simp only [Int.reduceToNat] at ho22; rw [← Ny176.out] at ho22)); have n0_ := Aside0.mk (Kd.R_below (by exact RX_ HO174.out) hb); have n1_ := Aside0.mk (Kd.R_lower ho22 (below_size (B1_))); have n2_ := Aside0.mk (blk_below (g := gb170) (o := .cells #[.slice A0_0 l0_0.length c0_0, .slice A0_1 l0_1.length c0_1] 26 (0, 0)) (by exact KX_ BK170.out) hb); have n3_ := Aside0.mk (below_step (B1_) hb); clear HO174; clear BK170; clear HB; have HO174 := n0_; have HO178 := n1_; have BK170 := n2_; have HB := n3_; clear n0_ n1_ n2_ n3_; clear hb ho22) | ((with_reducible refine gate_dst (N := 26) rfl ?_); (try (refine gate_guard (by rfl) ?_; dsimp only)); refine Kd.R_lit (Kd.int .i64) _ 3 ?hg (N := 26) ?hd (xs := ([a1] : List Int)) (inner := [.int .i64 a1]) (ok := fun _ => True) (okp := fun _ => True) ?hr ?hp (fun _ hk => hk) trivial (Below.refl _ _) (Nat.le_refl _) (by simp) ?_; (case hd => rfl); (case hg => rfl); (case hr => first | (go_simp; done) | (go_simp; rfl)); (case hp => exact (Reps.one (show Kd.M (Kd.int .i64) _ _ _ a1 [.int .i64 a1] from rfl) (Reps.none _ _))); intro v181 w23 ho24 hb hg_ hnew_; clear hg_ hnew_; (first | rw [← Ny180.out] at ho24 | (simp only [Int.reduceToNat] at ho24; rw [← Ny180.out] at ho24)); have n0_ := Aside0.mk (Kd.R_below (by exact RX_ HO174.out) hb); have n1_ := Aside0.mk (Kd.R_below (by exact RX_ HO178.out) hb); have n2_ := Aside0.mk (Kd.R_lower ho24 (below_size (B1_))); have n3_ := Aside0.mk (blk_below (g := gb170) (o := .cells #[.slice A0_0 l0_0.length c0_0, .slice A0_1 l0_1.length c0_1] 26 (0, 0)) (by exact KX_ BK170.out) hb); have n4_ := Aside0.mk (below_step (B1_) hb); clear HO174; clear HO178; clear BK170; clear HB; have HO174 := n0_; have HO178 := n1_; have HO182 := n2_; have BK170 := n3_; have HB := n4_; clear n0_ n1_ n2_ n3_ n4_; clear hb ho24; have p18 : 0 ≤ (a1 : Int) := D_; have q18 : (a1 : Int) < (64 : Int) := D_; obtain ⟨hx18_0, hf18_0⟩ := Kd.R_celln false HO174.out (a1 : Int) p18 q18; replace p18 := eq_true p18; replace q18 := eq_true q18; obtain ⟨hy25_, hz25_⟩ := Kd.R_celln false HO174.out (a1 : Int) (D_) (D_); have HP25 := Kd.R_putg HO174.out (a1 : Int) true) | ((with_reducible refine gate_store (t := 4) (p := 28) rfl ?_); (try (rw [drewN_self w23]; generalize hq_ : World.drewN w23 _ = w23; have n0_ := Aside0.mk (Kd.R_at hq_ HO174.out); have n1_ := Aside0.mk (Kd.R_at hq_ HO178.out); have n2_ := Aside0.mk (Kd.R_at hq_ HO182.out); have n3_ := Aside0.mk (blk_at hq_ BK170.out); have n4_ := Aside0.mk (below_at hq_ HB.out); clear hq_ HO174 HO178 HO182 BK170 HB; have HO174 := n0_; have HO178 := n1_; have HO182 := n2_; have BK170 := n3_; have HB := n4_; clear n0_ n1_ n2_ n3_ n4_; (try (obtain ⟨hy25_, hz25_⟩ := Kd.R_celln false HO174.out (a1 : Int) (D_) (D_))); (try (obtain ⟨hcx_, hcf_⟩ := Kd.R_celln false HO174.out (a1 : Int) (D_) (by first | exact D_ | (have z_ : (a1 : Int) < (64 : Int) := D_; exact z_)))); (try (have HP25 := Kd.R_putg HO174.out (a1 : Int) true)))); refine store_event (t := 4) (p := 28) (v := ?vo_w26) (w1 := (w23.setCell ⟨goA175, (a1 : Int).toNat, none⟩ (.bool true))) ?hg ?ho ?hn ?hr ?_; (case ho => rfl); (case hg => rfl); (case hn => rfl); (case hr => first | (go_simp; done) | (go_simp; rfl)); intro w26 hw; have hg : w23.grownBy w26 (some goA175) := (by rw [hw]; exact HP25.2); have hp_ : Kd.R Kd.bool 46 w26 w.heap.size (fun _ => True) (.slice (some ⟨goA175, 0, none⟩) 64 64) y183 := (by rw [hw, Ny183.out]; exact HP25.1); clear HP25; have n0_ := Aside0.mk (blk_grown (g := gb170) (o := .cells #[.slice A0_0 l0_0.length c0_0, .slice A0_1 l0_1.length c0_1] 26 (0, 0)) (by exact KX_ BK170.out) hg (Kd.R_ne HO174.out BK170.out (by decide))); have n1_ := Aside0.mk (hp_); have n2_ := Aside0.mk (Kd.R_over' (v := (.slice (some ⟨goA175, 0, none⟩) 64 64)) (by exact RX_ HO178.out) (Kd.R_typed HO174.out) (by decide) hg); have n3_ := Aside0.mk (Kd.R_over' (v := (.slice (some ⟨goA175, 0, none⟩) 64 64)) (by exact RX_ HO182.out) (Kd.R_typed HO174.out) (by decide) hg); have n4_ := Aside0.mk ((by rw [hw]; exact below_set (HB.out) GBA175.out : Below w.heap.size w w26)); clear BK170; clear HO174; clear HO178; clear HO182; clear HB; have BK170 := n0_; have HO174 := n1_; have HO178 := n2_; have HO182 := n3_; have HB := n4_; clear n0_ n1_ n2_ n3_ n4_; clear hg hw hp_)))
     go_step3
     go_step
     try go_step
     apply lab_ghost_at (l := 0) (I := fun (a0_ : Act) (kq_ : Nat) (a_ : Act) (w_ : World) => ∃ u4 u7 u8 u9 u10 u29 u30 u31 u32 u33 u34 u35 u36 u37 u38 u39 u40 u41 u42 u43 u44 u45 u46 u47 u48 u49 u50 u51 u52 u53 u54 u55 u56 u57 u58 u59 u60 u61 u62 u63 u64 u65 u66 u67 u68 u69 u70 u71 u72 u73 u74 u75 u76 u77 u78 u79 u80 u81 u82 u83 u84 : Value, ((fun kq v7 v8 w' => ∃ (x5_2 : List Bool) (x6_2 : List Int) (x7_2 : List Int) (x8_2 : List Int), Aside0 (graph_Order.l0 kq x5_2 x6_2 x7_2 x8_2 l0_0 l0_1 = some r) ∧ Aside0 (kq ≤ kj3) ∧ Aside0 (Kd.R Kd.bool 46 w' w.heap.size (fun _ => True) (.slice (some ⟨goA175, 0, none⟩) 64 64) x5_2) ∧ Aside0 (Kd.R (Kd.int .i64) 57 w' w.heap.size (fun _ => True) (.slice (some ⟨goA179, 0, none⟩) 64 64) x6_2) ∧ Aside0 (Kd.R (Kd.int .i64) 3 w' w.heap.size (fun k_ => some k_ ≠ (v8 : Value).ownBlock) v7 x7_2) ∧ Aside0 (Kd.R (Kd.int .i64) 3 w' w.heap.size (fun k_ => some k_ ≠ (v7 : Value).ownBlock) v8 x8_2) ∧ Aside0 (w'.heap[gb170]? = some (.cells #[(.slice A0_0 l0_0.length c0_0), (.slice A0_1 l0_1.length c0_1)] 26 (0, 0))) ∧ Aside0 (Below w.heap.size w w')) kq_ u7 u8 w_) ∧ a_ = { tmps := (((((((((((((((((((((((((((((((((((((((((((((((((((((((((((((a0_.tmps.setIfInBounds 4 u4).setIfInBounds 7 u7).setIfInBounds 8 u8).setIfInBounds 9 u9).setIfInBounds 10 u10).setIfInBounds 29 u29).setIfInBounds 30 u30).setIfInBounds 31 u31).setIfInBounds 32 u32).setIfInBounds 33 u33).setIfInBounds 34 u34).setIfInBounds 35 u35).setIfInBounds 36 u36).setIfInBounds 37 u37).setIfInBounds 38 u38).setIfInBounds 39 u39).setIfInBounds 40 u40).setIfInBounds 41 u41).setIfInBounds 42 u42).setIfInBounds 43 u43).setIfInBounds 44 u44).setIfInBounds 45 u45).setIfInBounds 46 u46).setIfInBounds 47 u47).setIfInBounds 48 u48).setIfInBounds 49 u49).setIfInBounds 50 u50).setIfInBounds 51 u51).setIfInBounds 52 u52).setIfInBounds 53 u53).setIfInBounds 54 u54).setIfInBounds 55 u55).setIfInBounds 56 u56).setIfInBounds 57 u57).setIfInBounds 58 u58).setIfInBounds 59 u59).setIfInBounds 60 u60).setIfInBounds 61 u61).setIfInBounds 62 u62).setIfInBounds 63 u63).setIfInBounds 64 u64).setIfInBounds 65 u65).setIfInBounds 66 u66).setIfInBounds 67 u67).setIfInBounds 68 u68).setIfInBounds 69 u69).setIfInBounds 70 u70).setIfInBounds 71 u71).setIfInBounds 72 u72).setIfInBounds 73 u73).setIfInBounds 74 u74).setIfInBounds 75 u75).setIfInBounds 76 u76).setIfInBounds 77 u77).setIfInBounds 78 u78).setIfInBounds 79 u79).setIfInBounds 80 u80).setIfInBounds 81 u81).setIfInBounds 82 u82).setIfInBounds 83 u83).setIfInBounds 84 u84), defers := a0_.defers }) (n₀ := kj3); (case hf => rfl)
     case h₀ =>
      (repeat apply Exists.intro)
      refine ⟨?_, ?hfr⟩
      (case hfr => (try simp only [List.setIfInBounds_toArray, List.set_cons_zero, List.set_cons_succ]); rfl)
      exact ⟨(y183), (y176), (([] : List Int)), (y180), H', ⟨Nat.le_refl _⟩, ⟨by exact RM_ HO174.out⟩, ⟨by exact RM_ HO178.out⟩, ⟨by first | exact Kd.R_nil _ _ _ _ _ | exact Kd.N_nil _ _ _ _ _ | exact Kd.V_nil _ _ _ _ _ | exact Kd.Q_nil _ _ _ _ _ | exact Kd.S_nil _ _ _ _ _⟩, ⟨by (with_reducible repeat (first | apply Kd.R_alloc | apply Kd.R_drewN | apply Kd.R_drew)); exact Kd.R_mono HO182.out (fun _ hk => (by simp [Value.ownBlock]))⟩, ⟨by exact KX_ BK170.out⟩, ⟨B1_⟩⟩
     intro gk _ wr hinv
     obtain ⟨u4, hinv⟩ := hinv
     obtain ⟨u7, hinv⟩ := hinv
     obtain ⟨u8, hinv⟩ := hinv
     obtain ⟨u9, hinv⟩ := hinv
     obtain ⟨u10, hinv⟩ := hinv
     obtain ⟨u29, hinv⟩ := hinv
     obtain ⟨u30, hinv⟩ := hinv
     obtain ⟨u31, hinv⟩ := hinv
     obtain ⟨u32, hinv⟩ := hinv
     obtain ⟨u33, hinv⟩ := hinv
     obtain ⟨u34, hinv⟩ := hinv
     obtain ⟨u35, hinv⟩ := hinv
     obtain ⟨u36, hinv⟩ := hinv
     obtain ⟨u37, hinv⟩ := hinv
     obtain ⟨u38, hinv⟩ := hinv
     obtain ⟨u39, hinv⟩ := hinv
     obtain ⟨u40, hinv⟩ := hinv
     obtain ⟨u41, hinv⟩ := hinv
     obtain ⟨u42, hinv⟩ := hinv
     obtain ⟨u43, hinv⟩ := hinv
     obtain ⟨u44, hinv⟩ := hinv
     obtain ⟨u45, hinv⟩ := hinv
     obtain ⟨u46, hinv⟩ := hinv
     obtain ⟨u47, hinv⟩ := hinv
     obtain ⟨u48, hinv⟩ := hinv
     obtain ⟨u49, hinv⟩ := hinv
     obtain ⟨u50, hinv⟩ := hinv
     obtain ⟨u51, hinv⟩ := hinv
     obtain ⟨u52, hinv⟩ := hinv
     obtain ⟨u53, hinv⟩ := hinv
     obtain ⟨u54, hinv⟩ := hinv
     obtain ⟨u55, hinv⟩ := hinv
     obtain ⟨u56, hinv⟩ := hinv
     obtain ⟨u57, hinv⟩ := hinv
     obtain ⟨u58, hinv⟩ := hinv
     obtain ⟨u59, hinv⟩ := hinv
     obtain ⟨u60, hinv⟩ := hinv
     obtain ⟨u61, hinv⟩ := hinv
     obtain ⟨u62, hinv⟩ := hinv
     obtain ⟨u63, hinv⟩ := hinv
     obtain ⟨u64, hinv⟩ := hinv
     obtain ⟨u65, hinv⟩ := hinv
     obtain ⟨u66, hinv⟩ := hinv
     obtain ⟨u67, hinv⟩ := hinv
     obtain ⟨u68, hinv⟩ := hinv
     obtain ⟨u69, hinv⟩ := hinv
     obtain ⟨u70, hinv⟩ := hinv
     obtain ⟨u71, hinv⟩ := hinv
     obtain ⟨u72, hinv⟩ := hinv
     obtain ⟨u73, hinv⟩ := hinv
     obtain ⟨u74, hinv⟩ := hinv
     obtain ⟨u75, hinv⟩ := hinv
     obtain ⟨u76, hinv⟩ := hinv
     obtain ⟨u77, hinv⟩ := hinv
     obtain ⟨u78, hinv⟩ := hinv
     obtain ⟨u79, hinv⟩ := hinv
     obtain ⟨u80, hinv⟩ := hinv
     obtain ⟨u81, hinv⟩ := hinv
     obtain ⟨u82, hinv⟩ := hinv
     obtain ⟨u83, hinv⟩ := hinv
     obtain ⟨u84, hinv⟩ := hinv
     obtain ⟨hrel, ha⟩ := hinv; subst ha
     intro _ _ hJ_ hK_
     (try simp only [List.setIfInBounds_toArray, List.set_cons_zero, List.set_cons_succ])
     (try simp only [List.setIfInBounds_toArray, List.set_cons_zero, List.set_cons_succ] at hJ_)
     clear H'
     try clear c15
     try clear c16b0
     try clear c17b0
     try clear p18
     try clear q18
     try clear hx18_0
     try clear p18
     try clear q18
     obtain ⟨x5_2, x6_2, x7_2, x8_2, HA, HK2, HO_5, HO_6, HO_7, HO_8, BK170, HB⟩ := hrel
     cases gk with
     | zero => exact absurd HA.out (by simp [graph_Order.l0])
     | succ k2 =>
      have H := HA.out
      clear HA
      simp only [graph_Order.l0] at H
      obtain ⟨ji27, hji27⟩ : ∃ j_ : Int, (wrap64 ((x8_2.length : Int) - 1)) = j_ := ⟨_, rfl⟩
      replace H : (if 0 ≤ (ji27) then (if (ji27) < (x8_2.length : Int) then (graph_Order.l1 k2 x5_2 x6_2 x7_2 x8_2 (rd x8_2 (ji27)) l0_0 l0_1) else (none)) else (none)) = some r := by first | (rw [hji27] at H; exact H) | (simp only [hji27] at H ⊢; exact H)
      have hji27w : (IntKind.i64.wrap ((x8_2.length : Int) - 1)) = ji27 := (i64_w _).trans hji27
      by_cases c28 : 0 ≤ (ji27)
      ·rw [if_pos c28] at H
       have c28b0 : decide (0 ≤ (ji27)) = true := decide_eq_true c28
       clear c28
       by_cases c29 : (ji27) < (x8_2.length : Int)
       ·rw [if_pos c29] at H
        have c29b0 : decide ((ji27) < (x8_2.length : Int)) = true := decide_eq_true c29
        clear c29
        have H' := Aside0.mk H
        clear H
        obtain ⟨Ao30, co30, eo30⟩ := Kd.R_slice HO_8.out
        subst eo30
        have p184 : 0 ≤ ((ji27) : Int) := D_
        have q184 : (ji27) < (x8_2.length : Int) := D_
        obtain ⟨ad184, e184, hx184_0⟩ := Kd.at_int (Kd.R_reads' HO_8.out).2.2 (ji27) p184 q184
        cases e184
        replace p184 := eq_true p184
        replace q184 := eq_true q184
        go_wp2
        repeat (go_quiet (fail); try go_wp2)
        go_loopg [8] k2 (fun kq v8 w' => ∃ (x5_3 : List Bool) (x6_3 : List Int) (x8_3 : List Int), Aside0 (graph_Order.l1 kq x5_3 x6_3 x7_2 x8_3 (rd x8_2 (ji27)) l0_0 l0_1 = some r) ∧ Aside0 (kq ≤ k2) ∧ Aside0 (Kd.R Kd.bool 46 w' w.heap.size (fun _ => True) (.slice (some ⟨goA175, 0, none⟩) 64 64) x5_3) ∧ Aside0 (Kd.R (Kd.int .i64) 57 w' w.heap.size (fun _ => True) (.slice (some ⟨goA179, 0, none⟩) 64 64) x6_3) ∧ Aside0 (Kd.R (Kd.int .i64) 3 w' w.heap.size (fun k_ => some k_ ≠ (v8 : Value).ownBlock) u7 x7_2) ∧ Aside0 (Kd.R (Kd.int .i64) 3 w' w.heap.size (fun k_ => some k_ ≠ (u7 : Value).ownBlock) v8 x8_3) ∧ Aside0 (w'.heap[gb170]? = some (.cells #[(.slice A0_0 l0_0.length c0_0), (.slice A0_1 l0_1.length c0_1)] 26 (0, 0))) ∧ Aside0 (Below w.heap.size w w'))
        case atStart => exact ⟨(x5_2), (x6_2), (x8_2), H', ⟨Nat.le_refl _⟩, ⟨by exact RM_ HO_5.out⟩, ⟨by exact RM_ HO_6.out⟩, ⟨by exact RM_ HO_7.out⟩, ⟨by exact RM_ HO_8.out⟩, ⟨by exact KX_ BK170.out⟩, ⟨B1_⟩⟩
        case round =>
         clear H'
         try clear c28b0
         try clear c29b0
         try clear hx184_0
         try clear p184
         try clear q184
         obtain ⟨x5_3, x6_3, x8_3, HA, HK3, HO_5, HO_6, HO_7, HO_8, BK170, HB⟩ := hrel
         cases gk with
         | zero => exact absurd HA.out (by simp [graph_Order.l1])
         | succ k3 =>
          have H := HA.out
          clear HA
          simp only [graph_Order.l1] at H
          by_cases c31 : 0 ≤ (rd x8_2 (ji27))
          ·rw [if_pos c31] at H
           have c31b0 : decide (0 ≤ (rd x8_2 (ji27))) = true := decide_eq_true c31
           clear c31
           by_cases c32 : (rd x8_2 (ji27)) < 64
           ·rw [if_pos c32] at H
            have c32b0 : decide ((rd x8_2 (ji27)) < 64) = true := decide_eq_true c32
            clear c32
            by_cases c33 : (rd x8_2 (ji27)) < (l0_0.length : Int)
            ·rw [if_pos c33] at H
             have c33b0 : decide ((rd x8_2 (ji27)) < (l0_0.length : Int)) = true := decide_eq_true c33
             clear c33
             by_cases c34 : (rd x6_3 (rd x8_2 (ji27))) < ((rd_L1 l0_0 (rd x8_2 (ji27))).length : Int)
             ·rw [if_pos c34] at H
              have c34b0 : decide ((rd x6_3 (rd x8_2 (ji27))) < ((rd_L1 l0_0 (rd x8_2 (ji27))).length : Int)) = true := decide_eq_true c34
              clear c34
              by_cases c35 : 0 ≤ (rd x6_3 (rd x8_2 (ji27)))
              ·rw [if_pos c35] at H
               have c35b0 : decide (0 ≤ (rd x6_3 (rd x8_2 (ji27)))) = true := decide_eq_true c35
               clear c35
               obtain ⟨y191, hy191⟩ : ∃ y_ : List Int, y_ = (x6_3.set ((rd x8_2 (ji27)) : Int).toNat (wrap64 ((rd x6_3 (rd x8_2 (ji27))) + 1))) := ⟨_, rfl⟩
               replace H : (if 0 ≤ (rd (rd_L1 l0_0 (rd x8_2 (ji27))) (rd x6_3 (rd x8_2 (ji27)))) then (if (rd (rd_L1 l0_0 (rd x8_2 (ji27))) (rd x6_3 (rd x8_2 (ji27)))) < 64 then (if (rdOf false x5_3 (rd (rd_L1 l0_0 (rd x8_2 (ji27))) (rd x6_3 (rd x8_2 (ji27)))) = true) then (graph_Order.l1 k3 x5_3 y191 x7_2 x8_3 (rd x8_2 (ji27)) l0_0 l0_1) else (if x8_3.length < 17592186044416 then (graph_Order.l0 k3 (x5_3.set ((rd (rd_L1 l0_0 (rd x8_2 (ji27))) (rd x6_3 (rd x8_2 (ji27)))) : Int).toNat true) y191 x7_2 (x8_3 ++ [rd (rd_L1 l0_0 (rd x8_2 (ji27))) (rd x6_3 (rd x8_2 (ji27)))]) l0_0 l0_1) else (none))) else (none)) else (none)) = some r := by first | (rw [hy191]; with_reducible exact H) | (have H2_ := (Option.bind_some _ _).symm.trans H; rw [hy191]; with_reducible exact H2_) | (have H2_ := (Option.bind_some _ _).symm.trans H; with_reducible exact H2_) | with_reducible exact H | (rw [hy191]; exact H) | exact H
               have Ny191 := Aside0.mk hy191
               clear hy191
               by_cases c37 : 0 ≤ (rd (rd_L1 l0_0 (rd x8_2 (ji27))) (rd x6_3 (rd x8_2 (ji27))))
               ·rw [if_pos c37] at H
                have c37b0 : decide (0 ≤ (rd (rd_L1 l0_0 (rd x8_2 (ji27))) (rd x6_3 (rd x8_2 (ji27))))) = true := decide_eq_true c37
                clear c37
                by_cases c38 : (rd (rd_L1 l0_0 (rd x8_2 (ji27))) (rd x6_3 (rd x8_2 (ji27)))) < 64
                ·rw [if_pos c38] at H
                 have c38b0 : decide ((rd (rd_L1 l0_0 (rd x8_2 (ji27))) (rd x6_3 (rd x8_2 (ji27)))) < 64) = true := decide_eq_true c38
                 clear c38
                 obtain ⟨bq39, hbq39⟩ : ∃ b_ : Bool, b_ = (rdOf false x5_3 (rd (rd_L1 l0_0 (rd x8_2 (ji27))) (rd x6_3 (rd x8_2 (ji27))))) := ⟨_, rfl⟩
                 replace H : (if (bq39 = true) then (graph_Order.l1 k3 x5_3 y191 x7_2 x8_3 (rd x8_2 (ji27)) l0_0 l0_1) else (if x8_3.length < 17592186044416 then (graph_Order.l0 k3 (x5_3.set ((rd (rd_L1 l0_0 (rd x8_2 (ji27))) (rd x6_3 (rd x8_2 (ji27)))) : Int).toNat true) y191 x7_2 (x8_3 ++ [rd (rd_L1 l0_0 (rd x8_2 (ji27))) (rd x6_3 (rd x8_2 (ji27)))]) l0_0 l0_1) else (none))) = some r := by rw [← hbq39] at H; exact H
                 have Nbq39 := Aside0.mk hbq39
                 clear hbq39
                 by_cases c40 : (bq39 = true)
                 ·subst c40
                  have H1 : (graph_Order.l1 k3 x5_3 y191 x7_2 x8_3 (rd x8_2 (ji27)) l0_0 l0_1) = some r := by rw [if_pos rfl] at H; exact H
                  clear H
                  have H := H1
                  clear H1
                  have H' := Aside0.mk H
                  clear H
                  have p185 : 0 ≤ ((rd x8_2 (ji27)) : Int) := D_
                  have ql185 : (((rd x8_2 (ji27)) : Int) < (64 : Int)) = True := eq_true (D_)
                  have q185 : (rd x8_2 (ji27)) < (x6_3.length : Int) := (by have h_ : ((rd x8_2 (ji27)) : Int) < (64 : Int) := D_; have e_ := (Kd.R_reads' HO_6.out).1; omega)
                  obtain ⟨ad185, e185, hx185_0⟩ := Kd.at_int (Kd.R_reads' HO_6.out).2.2 (rd x8_2 (ji27)) p185 q185
                  obtain rfl : (⟨goA179, 0, none⟩ : Addr) = ad185 := (by injection e185)
                  (first | simp only [add_plain] at hx185_0 | simp only [add_at] at hx185_0 | simp only [Addr.add, Nat.zero_add] at hx185_0 | skip)
                  replace p185 := eq_true p185
                  replace q185 := eq_true q185
                  have hcz41_0 : wr.cell? ⟨gb170, 0, none⟩ = some (.slice A0_0 l0_0.length c0_0) := (blk_cell BK170.out 0).trans rfl
                  have hcz41_1 : wr.cell? ⟨gb170, 1, none⟩ = some (.slice A0_1 l0_1.length c0_1) := (blk_cell BK170.out 1).trans rfl
                  have hfz41_0 := blk_frozen BK170.out 0
                  have hfz41_1 := blk_frozen BK170.out 1
                  have p186 : 0 ≤ ((rd x8_2 (ji27)) : Int) := D_
                  have q186 : (rd x8_2 (ji27)) < (l0_0.length : Int) := D_
                  obtain ⟨ad186, A186_0, c186_0, e186, hx186_0, hl186_0, hi186_0⟩ := at_L1 HR0_0.out (rd x8_2 (ji27)) p186 q186
                  cases e186
                  replace hx186_0 := (HB.out.cell (World.block_lt_of_cell? w _ hx186_0)).trans hx186_0
                  have HR186_0 := Aside0.mk hi186_0
                  have HC186_0 := Aside0.mk hl186_0
                  clear hi186_0 hl186_0
                  replace p186 := eq_true p186
                  replace q186 := eq_true q186
                  have p187 : 0 ≤ ((rd x8_2 (ji27)) : Int) := D_
                  have q187 : (rd x8_2 (ji27)) < (l0_0.length : Int) := D_
                  obtain ⟨ad187, A187_0, c187_0, e187, hx187_0, hl187_0, hi187_0⟩ := at_L1 HR0_0.out (rd x8_2 (ji27)) p187 q187
                  obtain rfl : ad186 = ad187 := (by injection e187)
                  replace hx187_0 := (HB.out.cell (World.block_lt_of_cell? w _ hx187_0)).trans hx187_0
                  have HR187_0 := Aside0.mk hi187_0
                  have HC187_0 := Aside0.mk hl187_0
                  clear hi187_0 hl187_0
                  replace p187 := eq_true p187
                  replace q187 := eq_true q187
                  have ea_ := Option.some.inj (hx186_0.symm.trans hx187_0)
                  injection ea_ with ea_ en_ ec_
                  subst ea_
                  subst ec_
                  clear en_
                  have p188 : 0 ≤ ((rd x8_2 (ji27)) : Int) := D_
                  have ql188 : (((rd x8_2 (ji27)) : Int) < (64 : Int)) = True := eq_true (D_)
                  have q188 : (rd x8_2 (ji27)) < (x6_3.length : Int) := (by have h_ : ((rd x8_2 (ji27)) : Int) < (64 : Int) := D_; have e_ := (Kd.R_reads' HO_6.out).1; omega)
                  obtain ⟨ad188, e188, hx188_0⟩ := Kd.at_int (Kd.R_reads' HO_6.out).2.2 (rd x8_2 (ji27)) p188 q188
                  obtain rfl : (⟨goA179, 0, none⟩ : Addr) = ad188 := (by injection e188)
                  (first | simp only [add_plain] at hx188_0 | simp only [add_at] at hx188_0 | simp only [Addr.add, Nat.zero_add] at hx188_0 | skip)
                  replace p188 := eq_true p188
                  replace q188 := eq_true q188
                  have p189 : 0 ≤ ((rd x6_3 (rd x8_2 (ji27))) : Int) := D_
                  have q189 : (rd x6_3 (rd x8_2 (ji27))) < ((rd_L1 l0_0 (rd x8_2 (ji27))).length : Int) := D_
                  obtain ⟨ad189, e189, hx189_0⟩ := Kd.at_int HR187_0.out (rd x6_3 (rd x8_2 (ji27))) p189 q189
                  cases e189
                  replace hx189_0 := (HB.out.cell (World.block_lt_of_cell? w _ hx189_0)).trans hx189_0
                  replace p189 := eq_true p189
                  replace q189 := eq_true q189
                  have p190 : 0 ≤ ((rd x8_2 (ji27)) : Int) := D_
                  have ql190 : (((rd x8_2 (ji27)) : Int) < (64 : Int)) = True := eq_true (D_)
                  have q190 : (rd x8_2 (ji27)) < (x6_3.length : Int) := (by have h_ : ((rd x8_2 (ji27)) : Int) < (64 : Int) := D_; have e_ := (Kd.R_reads' HO_6.out).1; omega)
                  obtain ⟨ad190, e190, hx190_0⟩ := Kd.at_int (Kd.R_reads' HO_6.out).2.2 (rd x8_2 (ji27)) p190 q190
                  obtain rfl : (⟨goA179, 0, none⟩ : Addr) = ad190 := (by injection e190)
                  (first | simp only [add_plain] at hx190_0 | simp only [add_at] at hx190_0 | simp only [Addr.add, Nat.zero_add] at hx190_0 | skip)
                  replace p190 := eq_true p190
                  replace q190 := eq_true q190
                  have p36 : 0 ≤ ((rd x8_2 (ji27)) : Int) := D_
                  have q36 : ((rd x8_2 (ji27)) : Int) < (64 : Int) := D_
                  obtain ⟨hx36_0, hf36_0⟩ := Kd.R_celln 0 HO_6.out ((rd x8_2 (ji27)) : Int) p36 q36
                  replace p36 := eq_true p36
                  replace q36 := eq_true q36
                  have HP42 := Kd.R_putg HO_6.out ((rd x8_2 (ji27)) : Int) (wrap64 ((rd x6_3 (rd x8_2 (ji27))) + 1))
                  go_wp2_with (first | ((with_reducible refine gate_store (t := 3) (p := 59) rfl ?_); (try (rw [drewN_self wr]; generalize hq_ : World.drewN wr _ = wr; have n0_ := Aside0.mk (Kd.R_at hq_ HO_5.out); have n1_ := Aside0.mk (Kd.R_at hq_ HO_6.out); have n2_ := Aside0.mk (Kd.R_at hq_ HO_7.out); have n3_ := Aside0.mk (Kd.R_at hq_ HO_8.out); have n4_ := Aside0.mk (blk_at hq_ BK170.out); have n5_ := Aside0.mk (below_at hq_ HB.out); clear hq_ HO_5 HO_6 HO_7 HO_8 BK170 HB; have HO_5 := n0_; have HO_6 := n1_; have HO_7 := n2_; have HO_8 := n3_; have BK170 := n4_; have HB := n5_; clear n0_ n1_ n2_ n3_ n4_ n5_; (try (obtain ⟨hcx_, hcf_⟩ := Kd.R_celln 0 HO_6.out ((rd x8_2 (ji27)) : Int) (D_) (by first | exact D_ | (have z_ : ((rd x8_2 (ji27)) : Int) < (64 : Int) := D_; exact z_)))); (try (have HP42 := Kd.R_putg HO_6.out ((rd x8_2 (ji27)) : Int) (wrap64 ((rd x6_3 (rd x8_2 (ji27))) + 1)))))); refine store_event (t := 3) (p := 59) (v := ?vo_w43) (w1 := (wr.setCell ⟨goA179, ((rd x8_2 (ji27)) : Int).toNat, none⟩ (.int .i64 (wrap64 ((rd x6_3 (rd x8_2 (ji27))) + 1))))) ?hg ?ho ?hn ?hr ?_; (case ho => rfl); (case hg => rfl); (case hn => rfl); (case hr => first | (go_simp; done) | (go_simp; rfl)); intro w43 hw; have hg : wr.grownBy w43 (some goA179) := (by rw [hw]; exact HP42.2); have hp_ : Kd.R (Kd.int .i64) 57 w43 w.heap.size (fun _ => True) (.slice (some ⟨goA179, 0, none⟩) 64 64) y191 := (by rw [hw, Ny191.out]; exact HP42.1); clear HP42; have n0_ := Aside0.mk (Kd.R_over' (v := (.slice (some ⟨goA179, 0, none⟩) 64 64)) (by exact RX_ HO_5.out) (Kd.R_typed HO_6.out) (by decide) hg); have n1_ := Aside0.mk (hp_); have n2_ := Aside0.mk (Kd.R_over' (v := (.slice (some ⟨goA179, 0, none⟩) 64 64)) (by exact RX_ HO_7.out) (Kd.R_typed HO_6.out) (by decide) hg); have n3_ := Aside0.mk (Kd.R_over' (v := (.slice (some ⟨goA179, 0, none⟩) 64 64)) (by exact RX_ HO_8.out) (Kd.R_typed HO_6.out) (by decide) hg); have n4_ := Aside0.mk (blk_grown (g := gb170) (o := .cells #[.slice (some ad186) l0_0.length c0_0, .slice A0_1 l0_1.length c0_1] 26 (0, 0)) (by exact KX_ BK170.out) hg (Kd.R_ne HO_6.out BK170.out (by decide))); have n5_ := Aside0.mk ((by rw [hw]; exact below_set (HB.out) GBA179.out : Below w.heap.size w w43)); clear HO_5; clear HO_6; clear HO_7; clear HO_8; clear BK170; clear HB; have HO_5 := n0_; have HO_6 := n1_; have HO_7 := n2_; have HO_8 := n3_; have BK170 := n4_; have HB := n5_; clear n0_ n1_ n2_ n3_ n4_ n5_; clear hg hw hp_; have p192 : 0 ≤ ((rd (rd_L1 l0_0 (rd x8_2 (ji27))) (rd x6_3 (rd x8_2 (ji27)))) : Int) := D_; have ql192 : (((rd (rd_L1 l0_0 (rd x8_2 (ji27))) (rd x6_3 (rd x8_2 (ji27)))) : Int) < (64 : Int)) = True := eq_true (D_); have q192 : (rd (rd_L1 l0_0 (rd x8_2 (ji27))) (rd x6_3 (rd x8_2 (ji27)))) < (x5_3.length : Int) := (by have h_ : ((rd (rd_L1 l0_0 (rd x8_2 (ji27))) (rd x6_3 (rd x8_2 (ji27)))) : Int) < (64 : Int) := D_; have e_ := (Kd.R_reads' HO_5.out).1; omega); obtain ⟨ad192, e192, hx192_0⟩ := Kd.at_bool (Kd.R_reads' HO_5.out).2.2 (rd (rd_L1 l0_0 (rd x8_2 (ji27))) (rd x6_3 (rd x8_2 (ji27)))) p192 q192; (try rw [← Nbq39.out] at hx192_0); obtain rfl : (⟨goA175, 0, none⟩ : Addr) = ad192 := (by injection e192); (first | simp only [add_plain] at hx192_0 | simp only [add_at] at hx192_0 | simp only [Addr.add, Nat.zero_add] at hx192_0 | skip); replace p192 := eq_true p192; replace q192 := eq_true q192))
                  repeat (go_quiet (first | ((with_reducible refine gate_store (t := 3) (p := 59) rfl ?_); (try (rw [drewN_self wr]; generalize hq_ : World.drewN wr _ = wr; have n0_ := Aside0.mk (Kd.R_at hq_ HO_5.out); have n1_ := Aside0.mk (Kd.R_at hq_ HO_6.out); have n2_ := Aside0.mk (Kd.R_at hq_ HO_7.out); have n3_ := Aside0.mk (Kd.R_at hq_ HO_8.out); have n4_ := Aside0.mk (blk_at hq_ BK170.out); have n5_ := Aside0.mk (below_at hq_ HB.out); clear hq_ HO_5 HO_6 HO_7 HO_8 BK170 HB; have HO_5 := n0_; have HO_6 := n1_; have HO_7 := n2_; have HO_8 := n3_; have BK170 := n4_; have HB := n5_; clear n0_ n1_ n2_ n3_ n4_ n5_; (try (obtain ⟨hcx_, hcf_⟩ := Kd.R_celln 0 HO_6.out ((rd x8_2 (ji27)) : Int) (D_) (by first | exact D_ | (have z_ : ((rd x8_2 (ji27)) : Int) < (64 : Int) := D_; exact z_)))); (try (have HP42 := Kd.R_putg HO_6.out ((rd x8_2 (ji27)) : Int) (wrap64 ((rd x6_3 (rd x8_2 (ji27))) + 1)))))); refine store_event (t := 3) (p := 59) (v := ?vo_w43) (w1 := (wr.setCell ⟨goA179, ((rd x8_2 (ji27)) : Int).toNat, none⟩ (.int .i64 (wrap64 ((rd x6_3 (rd x8_2 (ji27))) + 1))))) ?hg ?ho ?hn ?hr ?_; (case ho => rfl); (case hg => rfl); (case hn => rfl); (case hr => first | (go_simp; done) | (go_simp; rfl)); intro w43 hw; have hg : wr.grownBy w43 (some goA179) := (by rw [hw]; exact HP42.2); have hp_ : Kd.R (Kd.int .i64) 57 w43 w.heap.size (fun _ => True) (.slice (some ⟨goA179, 0, none⟩) 64 64) y191 := (by rw [hw, Ny191.out]; exact HP42.1); clear HP42; have n0_ := Aside0.mk (Kd.R_over' (v := (.slice (some ⟨goA179, 0, none⟩) 64 64)) (by exact RX_ HO_5.out) (Kd.R_typed HO_6.out) (by decide) hg); have n1_ := Aside0.mk (hp_); have n2_ := Aside0.mk (Kd.R_over' (v := (.slice (some ⟨goA179, 0, none⟩) 64 64)) (by exact RX_ HO_7.out) (Kd.R_typed HO_6.out) (by decide) hg); have n3_ := Aside0.mk (Kd.R_over' (v := (.slice (some ⟨goA179, 0, none⟩) 64 64)) (by exact RX_ HO_8.out) (Kd.R_typed HO_6.out) (by decide) hg); have n4_ := Aside0.mk (blk_grown (g := gb170) (o := .cells #[.slice (some ad186) l0_0.length c0_0, .slice A0_1 l0_1.length c0_1] 26 (0, 0)) (by exact KX_ BK170.out) hg (Kd.R_ne HO_6.out BK170.out (by decide))); have n5_ := Aside0.mk ((by rw [hw]; exact below_set (HB.out) GBA179.out : Below w.heap.size w w43)); clear HO_5; clear HO_6; clear HO_7; clear HO_8; clear BK170; clear HB; have HO_5 := n0_; have HO_6 := n1_; have HO_7 := n2_; have HO_8 := n3_; have BK170 := n4_; have HB := n5_; clear n0_ n1_ n2_ n3_ n4_ n5_; clear hg hw hp_; have p192 : 0 ≤ ((rd (rd_L1 l0_0 (rd x8_2 (ji27))) (rd x6_3 (rd x8_2 (ji27)))) : Int) := D_; have ql192 : (((rd (rd_L1 l0_0 (rd x8_2 (ji27))) (rd x6_3 (rd x8_2 (ji27)))) : Int) < (64 : Int)) = True := eq_true (D_); have q192 : (rd (rd_L1 l0_0 (rd x8_2 (ji27))) (rd x6_3 (rd x8_2 (ji27)))) < (x5_3.length : Int) := (by have h_ : ((rd (rd_L1 l0_0 (rd x8_2 (ji27))) (rd x6_3 (rd x8_2 (ji27)))) : Int) < (64 : Int) := D_; have e_ := (Kd.R_reads' HO_5.out).1; omega); obtain ⟨ad192, e192, hx192_0⟩ := Kd.at_bool (Kd.R_reads' HO_5.out).2.2 (rd (rd_L1 l0_0 (rd x8_2 (ji27))) (rd x6_3 (rd x8_2 (ji27)))) p192 q192; (try rw [← Nbq39.out] at hx192_0); obtain rfl : (⟨goA175, 0, none⟩ : Addr) = ad192 := (by injection e192); (first | simp only [add_plain] at hx192_0 | simp only [add_at] at hx192_0 | simp only [Addr.add, Nat.zero_add] at hx192_0 | skip); replace p192 := eq_true p192; replace q192 := eq_true q192)); try go_wp2_with (first | ((with_reducible refine gate_store (t := 3) (p := 59) rfl ?_); (try (rw [drewN_self wr]; generalize hq_ : World.drewN wr _ = wr; have n0_ := Aside0.mk (Kd.R_at hq_ HO_5.out); have n1_ := Aside0.mk (Kd.R_at hq_ HO_6.out); have n2_ := Aside0.mk (Kd.R_at hq_ HO_7.out); have n3_ := Aside0.mk (Kd.R_at hq_ HO_8.out); have n4_ := Aside0.mk (blk_at hq_ BK170.out); have n5_ := Aside0.mk (below_at hq_ HB.out); clear hq_ HO_5 HO_6 HO_7 HO_8 BK170 HB; have HO_5 := n0_; have HO_6 := n1_; have HO_7 := n2_; have HO_8 := n3_; have BK170 := n4_; have HB := n5_; clear n0_ n1_ n2_ n3_ n4_ n5_; (try (obtain ⟨hcx_, hcf_⟩ := Kd.R_celln 0 HO_6.out ((rd x8_2 (ji27)) : Int) (D_) (by first | exact D_ | (have z_ : ((rd x8_2 (ji27)) : Int) < (64 : Int) := D_; exact z_)))); (try (have HP42 := Kd.R_putg HO_6.out ((rd x8_2 (ji27)) : Int) (wrap64 ((rd x6_3 (rd x8_2 (ji27))) + 1)))))); refine store_event (t := 3) (p := 59) (v := ?vo_w43) (w1 := (wr.setCell ⟨goA179, ((rd x8_2 (ji27)) : Int).toNat, none⟩ (.int .i64 (wrap64 ((rd x6_3 (rd x8_2 (ji27))) + 1))))) ?hg ?ho ?hn ?hr ?_; (case ho => rfl); (case hg => rfl); (case hn => rfl); (case hr => first | (go_simp; done) | (go_simp; rfl)); intro w43 hw; have hg : wr.grownBy w43 (some goA179) := (by rw [hw]; exact HP42.2); have hp_ : Kd.R (Kd.int .i64) 57 w43 w.heap.size (fun _ => True) (.slice (some ⟨goA179, 0, none⟩) 64 64) y191 := (by rw [hw, Ny191.out]; exact HP42.1); clear HP42; have n0_ := Aside0.mk (Kd.R_over' (v := (.slice (some ⟨goA179, 0, none⟩) 64 64)) (by exact RX_ HO_5.out) (Kd.R_typed HO_6.out) (by decide) hg); have n1_ := Aside0.mk (hp_); have n2_ := Aside0.mk (Kd.R_over' (v := (.slice (some ⟨goA179, 0, none⟩) 64 64)) (by exact RX_ HO_7.out) (Kd.R_typed HO_6.out) (by decide) hg); have n3_ := Aside0.mk (Kd.R_over' (v := (.slice (some ⟨goA179, 0, none⟩) 64 64)) (by exact RX_ HO_8.out) (Kd.R_typed HO_6.out) (by decide) hg); have n4_ := Aside0.mk (blk_grown (g := gb170) (o := .cells #[.slice (some ad186) l0_0.length c0_0, .slice A0_1 l0_1.length c0_1] 26 (0, 0)) (by exact KX_ BK170.out) hg (Kd.R_ne HO_6.out BK170.out (by decide))); have n5_ := Aside0.mk ((by rw [hw]; exact below_set (HB.out) GBA179.out : Below w.heap.size w w43)); clear HO_5; clear HO_6; clear HO_7; clear HO_8; clear BK170; clear HB; have HO_5 := n0_; have HO_6 := n1_; have HO_7 := n2_; have HO_8 := n3_; have BK170 := n4_; have HB := n5_; clear n0_ n1_ n2_ n3_ n4_ n5_; clear hg hw hp_; have p192 : 0 ≤ ((rd (rd_L1 l0_0 (rd x8_2 (ji27))) (rd x6_3 (rd x8_2 (ji27)))) : Int) := D_; have ql192 : (((rd (rd_L1 l0_0 (rd x8_2 (ji27))) (rd x6_3 (rd x8_2 (ji27)))) : Int) < (64 : Int)) = True := eq_true (D_); have q192 : (rd (rd_L1 l0_0 (rd x8_2 (ji27))) (rd x6_3 (rd x8_2 (ji27)))) < (x5_3.length : Int) := (by have h_ : ((rd (rd_L1 l0_0 (rd x8_2 (ji27))) (rd x6_3 (rd x8_2 (ji27)))) : Int) < (64 : Int) := D_; have e_ := (Kd.R_reads' HO_5.out).1; omega); obtain ⟨ad192, e192, hx192_0⟩ := Kd.at_bool (Kd.R_reads' HO_5.out).2.2 (rd (rd_L1 l0_0 (rd x8_2 (ji27))) (rd x6_3 (rd x8_2 (ji27)))) p192 q192; (try rw [← Nbq39.out] at hx192_0); obtain rfl : (⟨goA175, 0, none⟩ : Addr) = ad192 := (by injection e192); (first | simp only [add_plain] at hx192_0 | simp only [add_at] at hx192_0 | simp only [Addr.add, Nat.zero_add] at hx192_0 | skip); replace p192 := eq_true p192; replace q192 := eq_true q192)))
                  go_roundg k3
                  case measure => have := HJ3.out; have := HK2.out; have := HK3.out; omega
                  case rel => exact ⟨(x5_3), (y191), (x8_3), H', ⟨by have := HJ3.out; have := HK2.out; have := HK3.out; omega⟩, ⟨by exact RM_ HO_5.out⟩, ⟨by exact RM_ HO_6.out⟩, ⟨by exact RM_ HO_7.out⟩, ⟨by exact RM_ HO_8.out⟩, ⟨by exact KX_ BK170.out⟩, ⟨B1_⟩⟩
                 replace c40 := Bool.eq_false_iff.mpr c40
                 subst c40
                 have H1 : (if x8_3.length < 17592186044416 then (graph_Order.l0 k3 (x5_3.set ((rd (rd_L1 l0_0 (rd x8_2 (ji27))) (rd x6_3 (rd x8_2 (ji27)))) : Int).toNat true) y191 x7_2 (x8_3 ++ [rd (rd_L1 l0_0 (rd x8_2 (ji27))) (rd x6_3 (rd x8_2 (ji27)))]) l0_0 l0_1) else (none)) = some r := by rw [if_neg (show ¬ (false = true) by decide)] at H; exact H
                 clear H
                 have H := H1
                 clear H1
                 obtain ⟨y193, hy193⟩ : ∃ y_ : List Bool, y_ = (x5_3.set ((rd (rd_L1 l0_0 (rd x8_2 (ji27))) (rd x6_3 (rd x8_2 (ji27)))) : Int).toNat true) := ⟨_, rfl⟩
                 replace H : (if x8_3.length < 17592186044416 then (graph_Order.l0 k3 y193 y191 x7_2 (x8_3 ++ [rd (rd_L1 l0_0 (rd x8_2 (ji27))) (rd x6_3 (rd x8_2 (ji27)))]) l0_0 l0_1) else (none)) = some r := by first | (rw [hy193]; with_reducible exact H) | (have H2_ := (Option.bind_some _ _).symm.trans H; rw [hy193]; with_reducible exact H2_) | (have H2_ := (Option.bind_some _ _).symm.trans H; with_reducible exact H2_) | with_reducible exact H | (rw [hy193]; exact H) | exact H
                 have Ny193 := Aside0.mk hy193
                 clear hy193
                 by_cases c45 : x8_3.length < 17592186044416
                 ·rw [if_pos c45] at H
                  have LMc45 := Aside0.mk c45
                  clear c45
                  obtain ⟨y194, hy194⟩ : ∃ y_ : List Int, y_ = (x8_3 ++ [rd (rd_L1 l0_0 (rd x8_2 (ji27))) (rd x6_3 (rd x8_2 (ji27)))]) := ⟨_, rfl⟩
                  replace H : (graph_Order.l0 k3 y193 y191 x7_2 y194 l0_0 l0_1) = some r := by first | (rw [hy194]; with_reducible exact H) | (have H2_ := (Option.bind_some _ _).symm.trans H; rw [hy194]; with_reducible exact H2_) | (have H2_ := (Option.bind_some _ _).symm.trans H; with_reducible exact H2_) | with_reducible exact H | (rw [hy194]; exact H) | exact H
                  have Ny194 := Aside0.mk hy194
                  clear hy194
                  have H' := Aside0.mk H
                  clear H
                  have p185 : 0 ≤ ((rd x8_2 (ji27)) : Int) := D_
                  have ql185 : (((rd x8_2 (ji27)) : Int) < (64 : Int)) = True := eq_true (D_)
                  have q185 : (rd x8_2 (ji27)) < (x6_3.length : Int) := (by have h_ : ((rd x8_2 (ji27)) : Int) < (64 : Int) := D_; have e_ := (Kd.R_reads' HO_6.out).1; omega)
                  obtain ⟨ad185, e185, hx185_0⟩ := Kd.at_int (Kd.R_reads' HO_6.out).2.2 (rd x8_2 (ji27)) p185 q185
                  obtain rfl : (⟨goA179, 0, none⟩ : Addr) = ad185 := (by injection e185)
                  (first | simp only [add_plain] at hx185_0 | simp only [add_at] at hx185_0 | simp only [Addr.add, Nat.zero_add] at hx185_0 | skip)
                  replace p185 := eq_true p185
                  replace q185 := eq_true q185
                  have hcz46_0 : wr.cell? ⟨gb170, 0, none⟩ = some (.slice A0_0 l0_0.length c0_0) := (blk_cell BK170.out 0).trans rfl
                  have hcz46_1 : wr.cell? ⟨gb170, 1, none⟩ = some (.slice A0_1 l0_1.length c0_1) := (blk_cell BK170.out 1).trans rfl
                  have hfz46_0 := blk_frozen BK170.out 0
                  have hfz46_1 := blk_frozen BK170.out 1
                  have p186 : 0 ≤ ((rd x8_2 (ji27)) : Int) := D_
                  have q186 : (rd x8_2 (ji27)) < (l0_0.length : Int) := D_
                  obtain ⟨ad186, A186_0, c186_0, e186, hx186_0, hl186_0, hi186_0⟩ := at_L1 HR0_0.out (rd x8_2 (ji27)) p186 q186
                  cases e186
                  replace hx186_0 := (HB.out.cell (World.block_lt_of_cell? w _ hx186_0)).trans hx186_0
                  have HR186_0 := Aside0.mk hi186_0
                  have HC186_0 := Aside0.mk hl186_0
                  clear hi186_0 hl186_0
                  replace p186 := eq_true p186
                  replace q186 := eq_true q186
                  have p187 : 0 ≤ ((rd x8_2 (ji27)) : Int) := D_
                  have q187 : (rd x8_2 (ji27)) < (l0_0.length : Int) := D_
                  obtain ⟨ad187, A187_0, c187_0, e187, hx187_0, hl187_0, hi187_0⟩ := at_L1 HR0_0.out (rd x8_2 (ji27)) p187 q187
                  obtain rfl : ad186 = ad187 := (by injection e187)
                  replace hx187_0 := (HB.out.cell (World.block_lt_of_cell? w _ hx187_0)).trans hx187_0
                  have HR187_0 := Aside0.mk hi187_0
                  have HC187_0 := Aside0.mk hl187_0
                  clear hi187_0 hl187_0
                  replace p187 := eq_true p187
                  replace q187 := eq_true q187
                  have ea_ := Option.some.inj (hx186_0.symm.trans hx187_0)
                  injection ea_ with ea_ en_ ec_
                  subst ea_
                  subst ec_
                  clear en_
                  have p188 : 0 ≤ ((rd x8_2 (ji27)) : Int) := D_
                  have ql188 : (((rd x8_2 (ji27)) : Int) < (64 : Int)) = True := eq_true (D_)
                  have q188 : (rd x8_2 (ji27)) < (x6_3.length : Int) := (by have h_ : ((rd x8_2 (ji27)) : Int) < (64 : Int) := D_; have e_ := (Kd.R_reads' HO_6.out).1; omega)
                  obtain ⟨ad188, e188, hx188_0⟩ := Kd.at_int (Kd.R_reads' HO_6.out).2.2 (rd x8_2 (ji27)) p188 q188
                  obtain rfl : (⟨goA179, 0, none⟩ : Addr) = ad188 := (by injection e188)
                  (first | simp only [add_plain] at hx188_0 | simp only [add_at] at hx188_0 | simp only [Addr.add, Nat.zero_add] at hx188_0 | skip)
                  replace p188 := eq_true p188
                  replace q188 := eq_true q188
                  have p189 : 0 ≤ ((rd x6_3 (rd x8_2 (ji27))) : Int) := D_
                  have q189 : (rd x6_3 (rd x8_2 (ji27))) < ((rd_L1 l0_0 (rd x8_2 (ji27))).length : Int) := D_
                  obtain ⟨ad189, e189, hx189_0⟩ := Kd.at_int HR187_0.out (rd x6_3 (rd x8_2 (ji27))) p189 q189
                  cases e189
                  replace hx189_0 := (HB.out.cell (World.block_lt_of_cell? w _ hx189_0)).trans hx189_0
                  replace p189 := eq_true p189
                  replace q189 := eq_true q189
                  have p190 : 0 ≤ ((rd x8_2 (ji27)) : Int) := D_
                  have ql190 : (((rd x8_2 (ji27)) : Int) < (64 : Int)) = True := eq_true (D_)
                  have q190 : (rd x8_2 (ji27)) < (x6_3.length : Int) := (by have h_ : ((rd x8_2 (ji27)) : Int) < (64 : Int) := D_; have e_ := (Kd.R_reads' HO_6.out).1; omega)
                  obtain ⟨ad190, e190, hx190_0⟩ := Kd.at_int (Kd.R_reads' HO_6.out).2.2 (rd x8_2 (ji27)) p190 q190
                  obtain rfl : (⟨goA179, 0, none⟩ : Addr) = ad190 := (by injection e190)
                  (first | simp only [add_plain] at hx190_0 | simp only [add_at] at hx190_0 | simp only [Addr.add, Nat.zero_add] at hx190_0 | skip)
                  replace p190 := eq_true p190
                  replace q190 := eq_true q190
                  have p36 : 0 ≤ ((rd x8_2 (ji27)) : Int) := D_
                  have q36 : ((rd x8_2 (ji27)) : Int) < (64 : Int) := D_
                  obtain ⟨hx36_0, hf36_0⟩ := Kd.R_celln 0 HO_6.out ((rd x8_2 (ji27)) : Int) p36 q36
                  replace p36 := eq_true p36
                  replace q36 := eq_true q36
                  have HP47 := Kd.R_putg HO_6.out ((rd x8_2 (ji27)) : Int) (wrap64 ((rd x6_3 (rd x8_2 (ji27))) + 1))
                  go_wp2_with (first | ((with_reducible refine gate_store (t := 3) (p := 59) rfl ?_); (try (rw [drewN_self wr]; generalize hq_ : World.drewN wr _ = wr; have n0_ := Aside0.mk (Kd.R_at hq_ HO_5.out); have n1_ := Aside0.mk (Kd.R_at hq_ HO_6.out); have n2_ := Aside0.mk (Kd.R_at hq_ HO_7.out); have n3_ := Aside0.mk (Kd.R_at hq_ HO_8.out); have n4_ := Aside0.mk (blk_at hq_ BK170.out); have n5_ := Aside0.mk (below_at hq_ HB.out); clear hq_ HO_5 HO_6 HO_7 HO_8 BK170 HB; have HO_5 := n0_; have HO_6 := n1_; have HO_7 := n2_; have HO_8 := n3_; have BK170 := n4_; have HB := n5_; clear n0_ n1_ n2_ n3_ n4_ n5_; (try (obtain ⟨hcx_, hcf_⟩ := Kd.R_celln 0 HO_6.out ((rd x8_2 (ji27)) : Int) (D_) (by first | exact D_ | (have z_ : ((rd x8_2 (ji27)) : Int) < (64 : Int) := D_; exact z_)))); (try (have HP47 := Kd.R_putg HO_6.out ((rd x8_2 (ji27)) : Int) (wrap64 ((rd x6_3 (rd x8_2 (ji27))) + 1)))))); refine store_event (t := 3) (p := 59) (v := ?vo_w48) (w1 := (wr.setCell ⟨goA179, ((rd x8_2 (ji27)) : Int).toNat, none⟩ (.int .i64 (wrap64 ((rd x6_3 (rd x8_2 (ji27))) + 1))))) ?hg ?ho ?hn ?hr ?_; (case ho => rfl); (case hg => rfl); (case hn => rfl); (case hr => first | (go_simp; done) | (go_simp; rfl)); intro w48 hw; have hg : wr.grownBy w48 (some goA179) := (by rw [hw]; exact HP47.2); have hp_ : Kd.R (Kd.int .i64) 57 w48 w.heap.size (fun _ => True) (.slice (some ⟨goA179, 0, none⟩) 64 64) y191 := (by rw [hw, Ny191.out]; exact HP47.1); clear HP47; have n0_ := Aside0.mk (Kd.R_over' (v := (.slice (some ⟨goA179, 0, none⟩) 64 64)) (by exact RX_ HO_5.out) (Kd.R_typed HO_6.out) (by decide) hg); have n1_ := Aside0.mk (hp_); have n2_ := Aside0.mk (Kd.R_over' (v := (.slice (some ⟨goA179, 0, none⟩) 64 64)) (by exact RX_ HO_7.out) (Kd.R_typed HO_6.out) (by decide) hg); have n3_ := Aside0.mk (Kd.R_over' (v := (.slice (some ⟨goA179, 0, none⟩) 64 64)) (by exact RX_ HO_8.out) (Kd.R_typed HO_6.out) (by decide) hg); have n4_ := Aside0.mk (blk_grown (g := gb170) (o := .cells #[.slice (some ad186) l0_0.length c0_0, .slice A0_1 l0_1.length c0_1] 26 (0, 0)) (by exact KX_ BK170.out) hg (Kd.R_ne HO_6.out BK170.out (by decide))); have n5_ := Aside0.mk ((by rw [hw]; exact below_set (HB.out) GBA179.out : Below w.heap.size w w48)); clear HO_5; clear HO_6; clear HO_7; clear HO_8; clear BK170; clear HB; have HO_5 := n0_; have HO_6 := n1_; have HO_7 := n2_; have HO_8 := n3_; have BK170 := n4_; have HB := n5_; clear n0_ n1_ n2_ n3_ n4_ n5_; clear hg hw hp_; have p192 : 0 ≤ ((rd (rd_L1 l0_0 (rd x8_2 (ji27))) (rd x6_3 (rd x8_2 (ji27)))) : Int) := D_; have ql192 : (((rd (rd_L1 l0_0 (rd x8_2 (ji27))) (rd x6_3 (rd x8_2 (ji27)))) : Int) < (64 : Int)) = True := eq_true (D_); have q192 : (rd (rd_L1 l0_0 (rd x8_2 (ji27))) (rd x6_3 (rd x8_2 (ji27)))) < (x5_3.length : Int) := (by have h_ : ((rd (rd_L1 l0_0 (rd x8_2 (ji27))) (rd x6_3 (rd x8_2 (ji27)))) : Int) < (64 : Int) := D_; have e_ := (Kd.R_reads' HO_5.out).1; omega); obtain ⟨ad192, e192, hx192_0⟩ := Kd.at_bool (Kd.R_reads' HO_5.out).2.2 (rd (rd_L1 l0_0 (rd x8_2 (ji27))) (rd x6_3 (rd x8_2 (ji27)))) p192 q192; (try rw [← Nbq39.out] at hx192_0); obtain rfl : (⟨goA175, 0, none⟩ : Addr) = ad192 := (by injection e192); (first | simp only [add_plain] at hx192_0 | simp only [add_at] at hx192_0 | simp only [Addr.add, Nat.zero_add] at hx192_0 | skip); replace p192 := eq_true p192; replace q192 := eq_true q192; have p44 : 0 ≤ ((rd (rd_L1 l0_0 (rd x8_2 (ji27))) (rd x6_3 (rd x8_2 (ji27)))) : Int) := D_; have q44 : ((rd (rd_L1 l0_0 (rd x8_2 (ji27))) (rd x6_3 (rd x8_2 (ji27)))) : Int) < (64 : Int) := D_; obtain ⟨hx44_0, hf44_0⟩ := Kd.R_celln false HO_5.out ((rd (rd_L1 l0_0 (rd x8_2 (ji27))) (rd x6_3 (rd x8_2 (ji27)))) : Int) p44 q44; replace p44 := eq_true p44; replace q44 := eq_true q44; obtain ⟨hy49_, hz49_⟩ := Kd.R_celln false HO_5.out ((rd (rd_L1 l0_0 (rd x8_2 (ji27))) (rd x6_3 (rd x8_2 (ji27)))) : Int) (D_) (D_); have HP49 := Kd.R_putg HO_5.out ((rd (rd_L1 l0_0 (rd x8_2 (ji27))) (rd x6_3 (rd x8_2 (ji27)))) : Int) true) | ((with_reducible refine gate_store (t := 4) (p := 65) rfl ?_); (try (rw [drewN_self w48]; generalize hq_ : World.drewN w48 _ = w48; have n0_ := Aside0.mk (Kd.R_at hq_ HO_5.out); have n1_ := Aside0.mk (Kd.R_at hq_ HO_6.out); have n2_ := Aside0.mk (Kd.R_at hq_ HO_7.out); have n3_ := Aside0.mk (Kd.R_at hq_ HO_8.out); have n4_ := Aside0.mk (blk_at hq_ BK170.out); have n5_ := Aside0.mk (below_at hq_ HB.out); clear hq_ HO_5 HO_6 HO_7 HO_8 BK170 HB; have HO_5 := n0_; have HO_6 := n1_; have HO_7 := n2_; have HO_8 := n3_; have BK170 := n4_; have HB := n5_; clear n0_ n1_ n2_ n3_ n4_ n5_; (try (obtain ⟨hy49_, hz49_⟩ := Kd.R_celln false HO_5.out ((rd (rd_L1 l0_0 (rd x8_2 (ji27))) (rd x6_3 (rd x8_2 (ji27)))) : Int) (D_) (D_))); (try (have HP49 := Kd.R_putg HO_5.out ((rd (rd_L1 l0_0 (rd x8_2 (ji27))) (rd x6_3 (rd x8_2 (ji27)))) : Int) true)))); refine store_event (t := 4) (p := 65) (v := ?vo_w50) (w1 := (w48.setCell ⟨goA175, ((rd (rd_L1 l0_0 (rd x8_2 (ji27))) (rd x6_3 (rd x8_2 (ji27)))) : Int).toNat, none⟩ (.bool true))) ?hg ?ho ?hn ?hr ?_; (case ho => rfl); (case hg => rfl); (case hn => rfl); (case hr => first | (go_simp; done) | (go_simp; rfl)); intro w50 hw; have hg : w48.grownBy w50 (some goA175) := (by rw [hw]; exact HP49.2); have hp_ : Kd.R Kd.bool 46 w50 w.heap.size (fun _ => True) (.slice (some ⟨goA175, 0, none⟩) 64 64) y193 := (by rw [hw, Ny193.out]; exact HP49.1); clear HP49; have n0_ := Aside0.mk (hp_); have n1_ := Aside0.mk (Kd.R_over' (v := (.slice (some ⟨goA175, 0, none⟩) 64 64)) (by exact RX_ HO_6.out) (Kd.R_typed HO_5.out) (by decide) hg); have n2_ := Aside0.mk (Kd.R_over' (v := (.slice (some ⟨goA175, 0, none⟩) 64 64)) (by exact RX_ HO_7.out) (Kd.R_typed HO_5.out) (by decide) hg); have n3_ := Aside0.mk (Kd.R_over' (v := (.slice (some ⟨goA175, 0, none⟩) 64 64)) (by exact RX_ HO_8.out) (Kd.R_typed HO_5.out) (by decide) hg); have n4_ := Aside0.mk (blk_grown (g := gb170) (o := .cells #[.slice (some ad186) l0_0.length c0_0, .slice A0_1 l0_1.length c0_1] 26 (0, 0)) (by exact KX_ BK170.out) hg (Kd.R_ne HO_5.out BK170.out (by decide))); have n5_ := Aside0.mk ((by rw [hw]; exact below_set (HB.out) GBA175.out : Below w.heap.size w w50)); clear HO_5; clear HO_6; clear HO_7; clear HO_8; clear BK170; clear HB; have HO_5 := n0_; have HO_6 := n1_; have HO_7 := n2_; have HO_8 := n3_; have BK170 := n4_; have HB := n5_; clear n0_ n1_ n2_ n3_ n4_ n5_; clear hg hw hp_) | ((with_reducible refine gate_builtin (b := .append) (xs := #[.tmp 66, .tmp 68]) rfl ?_); (try (refine gate_guard (by rfl) ?_; dsimp only)); at_builtin; refine Kd.R_append (Kd.int .i64) (w0 := w) w.heap.size rfl (.tmp 66) (.tmp 68) 30 3 (.int .i64 0) 8 rfl Try.underlying30 info3 rfl (by decide) (by omega) u8 x8_3 (rd (rd_L1 l0_0 (rd x8_2 (ji27))) (rd x6_3 (rd x8_2 (ji27)))) [.int .i64 (rd (rd_L1 l0_0 (rd x8_2 (ji27))) (rd x6_3 (rd x8_2 (ji27))))] (fun k_ => some k_ ≠ (u7 : Value).ownBlock) (fun _ => False) rfl rfl ?aP (fun _ hk => hk.elim) ?aF ?aO ?aB ?aS ?aL ?_; (case aP => exact rfl); (case aB => exact (B1_)); (case aF => exact (fun k_ hk => Kd.fresh' (Kd.R_lt (by exact RX_ HO_7.out)) k_ hk)); (case aO => exact (by exact RX_ HO_8.out)); (case aS => exact (below_size (B1_))); (case aL => have := LMc45.out; omega); intro v195 w51 ho hb hg hat; rw [← Ny194.out] at ho; have n0_ := Aside0.mk (Kd.R_over' (by exact RX_ HO_5.out) (Kd.R_typed (by exact RX_ HO_8.out)) (by decide) hg); have n1_ := Aside0.mk (Kd.R_over' (by exact RX_ HO_6.out) (Kd.R_typed (by exact RX_ HO_8.out)) (by decide) hg); have n2_ := Aside0.mk (Kd.R_after (ok := (fun _ => True)) (by (with_reducible repeat (first | apply Kd.R_alloc | apply Kd.R_drewN | apply Kd.R_drew)); exact Kd.R_mono HO_7.out (fun _ hk => by first | exact ⟨trivial, hk⟩ | exact hk | exact ⟨hk.1, hk.2⟩ | simp_all)) hg hat); have n3_ := Aside0.mk (blk_grown (g := gb170) (o := .cells #[.slice (some ad186) l0_0.length c0_0, .slice A0_1 l0_1.length c0_1] 26 (0, 0)) (by exact KX_ BK170.out) hg (Kd.R_ne HO_8.out BK170.out (by decide))); have n4_ := Aside0.mk (hb); have n5_ := Aside0.mk (ho); clear HO_5; clear HO_6; clear HO_7; clear BK170; clear HB; clear HO_8; have HO_5 := n0_; have HO_6 := n1_; have HO_7 := n2_; have BK170 := n3_; have HB := n4_; have HO196 := n5_; clear n0_ n1_ n2_ n3_ n4_ n5_; clear ho hb hg hat))
                  repeat (go_quiet (first | ((with_reducible refine gate_store (t := 3) (p := 59) rfl ?_); (try (rw [drewN_self wr]; generalize hq_ : World.drewN wr _ = wr; have n0_ := Aside0.mk (Kd.R_at hq_ HO_5.out); have n1_ := Aside0.mk (Kd.R_at hq_ HO_6.out); have n2_ := Aside0.mk (Kd.R_at hq_ HO_7.out); have n3_ := Aside0.mk (Kd.R_at hq_ HO_8.out); have n4_ := Aside0.mk (blk_at hq_ BK170.out); have n5_ := Aside0.mk (below_at hq_ HB.out); clear hq_ HO_5 HO_6 HO_7 HO_8 BK170 HB; have HO_5 := n0_; have HO_6 := n1_; have HO_7 := n2_; have HO_8 := n3_; have BK170 := n4_; have HB := n5_; clear n0_ n1_ n2_ n3_ n4_ n5_; (try (obtain ⟨hcx_, hcf_⟩ := Kd.R_celln 0 HO_6.out ((rd x8_2 (ji27)) : Int) (D_) (by first | exact D_ | (have z_ : ((rd x8_2 (ji27)) : Int) < (64 : Int) := D_; exact z_)))); (try (have HP47 := Kd.R_putg HO_6.out ((rd x8_2 (ji27)) : Int) (wrap64 ((rd x6_3 (rd x8_2 (ji27))) + 1)))))); refine store_event (t := 3) (p := 59) (v := ?vo_w48) (w1 := (wr.setCell ⟨goA179, ((rd x8_2 (ji27)) : Int).toNat, none⟩ (.int .i64 (wrap64 ((rd x6_3 (rd x8_2 (ji27))) + 1))))) ?hg ?ho ?hn ?hr ?_; (case ho => rfl); (case hg => rfl); (case hn => rfl); (case hr => first | (go_simp; done) | (go_simp; rfl)); intro w48 hw; have hg : wr.grownBy w48 (some goA179) := (by rw [hw]; exact HP47.2); have hp_ : Kd.R (Kd.int .i64) 57 w48 w.heap.size (fun _ => True) (.slice (some ⟨goA179, 0, none⟩) 64 64) y191 := (by rw [hw, Ny191.out]; exact HP47.1); clear HP47; have n0_ := Aside0.mk (Kd.R_over' (v := (.slice (some ⟨goA179, 0, none⟩) 64 64)) (by exact RX_ HO_5.out) (Kd.R_typed HO_6.out) (by decide) hg); have n1_ := Aside0.mk (hp_); have n2_ := Aside0.mk (Kd.R_over' (v := (.slice (some ⟨goA179, 0, none⟩) 64 64)) (by exact RX_ HO_7.out) (Kd.R_typed HO_6.out) (by decide) hg); have n3_ := Aside0.mk (Kd.R_over' (v := (.slice (some ⟨goA179, 0, none⟩) 64 64)) (by exact RX_ HO_8.out) (Kd.R_typed HO_6.out) (by decide) hg); have n4_ := Aside0.mk (blk_grown (g := gb170) (o := .cells #[.slice (some ad186) l0_0.length c0_0, .slice A0_1 l0_1.length c0_1] 26 (0, 0)) (by exact KX_ BK170.out) hg (Kd.R_ne HO_6.out BK170.out (by decide))); have n5_ := Aside0.mk ((by rw [hw]; exact below_set (HB.out) GBA179.out : Below w.heap.size w w48)); clear HO_5; clear HO_6; clear HO_7; clear HO_8; clear BK170; clear HB; have HO_5 := n0_; have HO_6 := n1_; have HO_7 := n2_; have HO_8 := n3_; have BK170 := n4_; have HB := n5_; clear n0_ n1_ n2_ n3_ n4_ n5_; clear hg hw hp_; have p192 : 0 ≤ ((rd (rd_L1 l0_0 (rd x8_2 (ji27))) (rd x6_3 (rd x8_2 (ji27)))) : Int) := D_; have ql192 : (((rd (rd_L1 l0_0 (rd x8_2 (ji27))) (rd x6_3 (rd x8_2 (ji27)))) : Int) < (64 : Int)) = True := eq_true (D_); have q192 : (rd (rd_L1 l0_0 (rd x8_2 (ji27))) (rd x6_3 (rd x8_2 (ji27)))) < (x5_3.length : Int) := (by have h_ : ((rd (rd_L1 l0_0 (rd x8_2 (ji27))) (rd x6_3 (rd x8_2 (ji27)))) : Int) < (64 : Int) := D_; have e_ := (Kd.R_reads' HO_5.out).1; omega); obtain ⟨ad192, e192, hx192_0⟩ := Kd.at_bool (Kd.R_reads' HO_5.out).2.2 (rd (rd_L1 l0_0 (rd x8_2 (ji27))) (rd x6_3 (rd x8_2 (ji27)))) p192 q192; (try rw [← Nbq39.out] at hx192_0); obtain rfl : (⟨goA175, 0, none⟩ : Addr) = ad192 := (by injection e192); (first | simp only [add_plain] at hx192_0 | simp only [add_at] at hx192_0 | simp only [Addr.add, Nat.zero_add] at hx192_0 | skip); replace p192 := eq_true p192; replace q192 := eq_true q192; have p44 : 0 ≤ ((rd (rd_L1 l0_0 (rd x8_2 (ji27))) (rd x6_3 (rd x8_2 (ji27)))) : Int) := D_; have q44 : ((rd (rd_L1 l0_0 (rd x8_2 (ji27))) (rd x6_3 (rd x8_2 (ji27)))) : Int) < (64 : Int) := D_; obtain ⟨hx44_0, hf44_0⟩ := Kd.R_celln false HO_5.out ((rd (rd_L1 l0_0 (rd x8_2 (ji27))) (rd x6_3 (rd x8_2 (ji27)))) : Int) p44 q44; replace p44 := eq_true p44; replace q44 := eq_true q44; obtain ⟨hy49_, hz49_⟩ := Kd.R_celln false HO_5.out ((rd (rd_L1 l0_0 (rd x8_2 (ji27))) (rd x6_3 (rd x8_2 (ji27)))) : Int) (D_) (D_); have HP49 := Kd.R_putg HO_5.out ((rd (rd_L1 l0_0 (rd x8_2 (ji27))) (rd x6_3 (rd x8_2 (ji27)))) : Int) true) | ((with_reducible refine gate_store (t := 4) (p := 65) rfl ?_); (try (rw [drewN_self w48]; generalize hq_ : World.drewN w48 _ = w48; have n0_ := Aside0.mk (Kd.R_at hq_ HO_5.out); have n1_ := Aside0.mk (Kd.R_at hq_ HO_6.out); have n2_ := Aside0.mk (Kd.R_at hq_ HO_7.out); have n3_ := Aside0.mk (Kd.R_at hq_ HO_8.out); have n4_ := Aside0.mk (blk_at hq_ BK170.out); have n5_ := Aside0.mk (below_at hq_ HB.out); clear hq_ HO_5 HO_6 HO_7 HO_8 BK170 HB; have HO_5 := n0_; have HO_6 := n1_; have HO_7 := n2_; have HO_8 := n3_; have BK170 := n4_; have HB := n5_; clear n0_ n1_ n2_ n3_ n4_ n5_; (try (obtain ⟨hy49_, hz49_⟩ := Kd.R_celln false HO_5.out ((rd (rd_L1 l0_0 (rd x8_2 (ji27))) (rd x6_3 (rd x8_2 (ji27)))) : Int) (D_) (D_))); (try (have HP49 := Kd.R_putg HO_5.out ((rd (rd_L1 l0_0 (rd x8_2 (ji27))) (rd x6_3 (rd x8_2 (ji27)))) : Int) true)))); refine store_event (t := 4) (p := 65) (v := ?vo_w50) (w1 := (w48.setCell ⟨goA175, ((rd (rd_L1 l0_0 (rd x8_2 (ji27))) (rd x6_3 (rd x8_2 (ji27)))) : Int).toNat, none⟩ (.bool true))) ?hg ?ho ?hn ?hr ?_; (case ho => rfl); (case hg => rfl); (case hn => rfl); (case hr => first | (go_simp; done) | (go_simp; rfl)); intro w50 hw; have hg : w48.grownBy w50 (some goA175) := (by rw [hw]; exact HP49.2); have hp_ : Kd.R Kd.bool 46 w50 w.heap.size (fun _ => True) (.slice (some ⟨goA175, 0, none⟩) 64 64) y193 := (by rw [hw, Ny193.out]; exact HP49.1); clear HP49; have n0_ := Aside0.mk (hp_); have n1_ := Aside0.mk (Kd.R_over' (v := (.slice (some ⟨goA175, 0, none⟩) 64 64)) (by exact RX_ HO_6.out) (Kd.R_typed HO_5.out) (by decide) hg); have n2_ := Aside0.mk (Kd.R_over' (v := (.slice (some ⟨goA175, 0, none⟩) 64 64)) (by exact RX_ HO_7.out) (Kd.R_typed HO_5.out) (by decide) hg); have n3_ := Aside0.mk (Kd.R_over' (v := (.slice (some ⟨goA175, 0, none⟩) 64 64)) (by exact RX_ HO_8.out) (Kd.R_typed HO_5.out) (by decide) hg); have n4_ := Aside0.mk (blk_grown (g := gb170) (o := .cells #[.slice (some ad186) l0_0.length c0_0, .slice A0_1 l0_1.length c0_1] 26 (0, 0)) (by exact KX_ BK170.out) hg (Kd.R_ne HO_5.out BK170.out (by decide))); have n5_ := Aside0.mk ((by rw [hw]; exact below_set (HB.out) GBA175.out : Below w.heap.size w w50)); clear HO_5; clear HO_6; clear HO_7; clear HO_8; clear BK170; clear HB; have HO_5 := n0_; have HO_6 := n1_; have HO_7 := n2_; have HO_8 := n3_; have BK170 := n4_; have HB := n5_; clear n0_ n1_ n2_ n3_ n4_ n5_; clear hg hw hp_) | ((with_reducible refine gate_builtin (b := .append) (xs := #[.tmp 66, .tmp 68]) rfl ?_); (try (refine gate_guard (by rfl) ?_; dsimp only)); at_builtin; refine Kd.R_append (Kd.int .i64) (w0 := w) w.heap.size rfl (.tmp 66) (.tmp 68) 30 3 (.int .i64 0) 8 rfl Try.underlying30 info3 rfl (by decide) (by omega) u8 x8_3 (rd (rd_L1 l0_0 (rd x8_2 (ji27))) (rd x6_3 (rd x8_2 (ji27)))) [.int .i64 (rd (rd_L1 l0_0 (rd x8_2 (ji27))) (rd x6_3 (rd x8_2 (ji27))))] (fun k_ => some k_ ≠ (u7 : Value).ownBlock) (fun _ => False) rfl rfl ?aP (fun _ hk => hk.elim) ?aF ?aO ?aB ?aS ?aL ?_; (case aP => exact rfl); (case aB => exact (B1_)); (case aF => exact (fun k_ hk => Kd.fresh' (Kd.R_lt (by exact RX_ HO_7.out)) k_ hk)); (case aO => exact (by exact RX_ HO_8.out)); (case aS => exact (below_size (B1_))); (case aL => have := LMc45.out; omega); intro v195 w51 ho hb hg hat; rw [← Ny194.out] at ho; have n0_ := Aside0.mk (Kd.R_over' (by exact RX_ HO_5.out) (Kd.R_typed (by exact RX_ HO_8.out)) (by decide) hg); have n1_ := Aside0.mk (Kd.R_over' (by exact RX_ HO_6.out) (Kd.R_typed (by exact RX_ HO_8.out)) (by decide) hg); have n2_ := Aside0.mk (Kd.R_after (ok := (fun _ => True)) (by (with_reducible repeat (first | apply Kd.R_alloc | apply Kd.R_drewN | apply Kd.R_drew)); exact Kd.R_mono HO_7.out (fun _ hk => by first | exact ⟨trivial, hk⟩ | exact hk | exact ⟨hk.1, hk.2⟩ | simp_all)) hg hat); have n3_ := Aside0.mk (blk_grown (g := gb170) (o := .cells #[.slice (some ad186) l0_0.length c0_0, .slice A0_1 l0_1.length c0_1] 26 (0, 0)) (by exact KX_ BK170.out) hg (Kd.R_ne HO_8.out BK170.out (by decide))); have n4_ := Aside0.mk (hb); have n5_ := Aside0.mk (ho); clear HO_5; clear HO_6; clear HO_7; clear BK170; clear HB; clear HO_8; have HO_5 := n0_; have HO_6 := n1_; have HO_7 := n2_; have BK170 := n3_; have HB := n4_; have HO196 := n5_; clear n0_ n1_ n2_ n3_ n4_ n5_; clear ho hb hg hat)); try go_wp2_with (first | ((with_reducible refine gate_store (t := 3) (p := 59) rfl ?_); (try (rw [drewN_self wr]; generalize hq_ : World.drewN wr _ = wr; have n0_ := Aside0.mk (Kd.R_at hq_ HO_5.out); have n1_ := Aside0.mk (Kd.R_at hq_ HO_6.out); have n2_ := Aside0.mk (Kd.R_at hq_ HO_7.out); have n3_ := Aside0.mk (Kd.R_at hq_ HO_8.out); have n4_ := Aside0.mk (blk_at hq_ BK170.out); have n5_ := Aside0.mk (below_at hq_ HB.out); clear hq_ HO_5 HO_6 HO_7 HO_8 BK170 HB; have HO_5 := n0_; have HO_6 := n1_; have HO_7 := n2_; have HO_8 := n3_; have BK170 := n4_; have HB := n5_; clear n0_ n1_ n2_ n3_ n4_ n5_; (try (obtain ⟨hcx_, hcf_⟩ := Kd.R_celln 0 HO_6.out ((rd x8_2 (ji27)) : Int) (D_) (by first | exact D_ | (have z_ : ((rd x8_2 (ji27)) : Int) < (64 : Int) := D_; exact z_)))); (try (have HP47 := Kd.R_putg HO_6.out ((rd x8_2 (ji27)) : Int) (wrap64 ((rd x6_3 (rd x8_2 (ji27))) + 1)))))); refine store_event (t := 3) (p := 59) (v := ?vo_w48) (w1 := (wr.setCell ⟨goA179, ((rd x8_2 (ji27)) : Int).toNat, none⟩ (.int .i64 (wrap64 ((rd x6_3 (rd x8_2 (ji27))) + 1))))) ?hg ?ho ?hn ?hr ?_; (case ho => rfl); (case hg => rfl); (case hn => rfl); (case hr => first | (go_simp; done) | (go_simp; rfl)); intro w48 hw; have hg : wr.grownBy w48 (some goA179) := (by rw [hw]; exact HP47.2); have hp_ : Kd.R (Kd.int .i64) 57 w48 w.heap.size (fun _ => True) (.slice (some ⟨goA179, 0, none⟩) 64 64) y191 := (by rw [hw, Ny191.out]; exact HP47.1); clear HP47; have n0_ := Aside0.mk (Kd.R_over' (v := (.slice (some ⟨goA179, 0, none⟩) 64 64)) (by exact RX_ HO_5.out) (Kd.R_typed HO_6.out) (by decide) hg); have n1_ := Aside0.mk (hp_); have n2_ := Aside0.mk (Kd.R_over' (v := (.slice (some ⟨goA179, 0, none⟩) 64 64)) (by exact RX_ HO_7.out) (Kd.R_typed HO_6.out) (by decide) hg); have n3_ := Aside0.mk (Kd.R_over' (v := (.slice (some ⟨goA179, 0, none⟩) 64 64)) (by exact RX_ HO_8.out) (Kd.R_typed HO_6.out) (by decide) hg); have n4_ := Aside0.mk (blk_grown (g := gb170) (o := .cells #[.slice (some ad186) l0_0.length c0_0, .slice A0_1 l0_1.length c0_1] 26 (0, 0)) (by exact KX_ BK170.out) hg (Kd.R_ne HO_6.out BK170.out (by decide))); have n5_ := Aside0.mk ((by rw [hw]; exact below_set (HB.out) GBA179.out : Below w.heap.size w w48)); clear HO_5; clear HO_6; clear HO_7; clear HO_8; clear BK170; clear HB; have HO_5 := n0_; have HO_6 := n1_; have HO_7 := n2_; have HO_8 := n3_; have BK170 := n4_; have HB := n5_; clear n0_ n1_ n2_ n3_ n4_ n5_; clear hg hw hp_; have p192 : 0 ≤ ((rd (rd_L1 l0_0 (rd x8_2 (ji27))) (rd x6_3 (rd x8_2 (ji27)))) : Int) := D_; have ql192 : (((rd (rd_L1 l0_0 (rd x8_2 (ji27))) (rd x6_3 (rd x8_2 (ji27)))) : Int) < (64 : Int)) = True := eq_true (D_); have q192 : (rd (rd_L1 l0_0 (rd x8_2 (ji27))) (rd x6_3 (rd x8_2 (ji27)))) < (x5_3.length : Int) := (by have h_ : ((rd (rd_L1 l0_0 (rd x8_2 (ji27))) (rd x6_3 (rd x8_2 (ji27)))) : Int) < (64 : Int) := D_; have e_ := (Kd.R_reads' HO_5.out).1; omega); obtain ⟨ad192, e192, hx192_0⟩ := Kd.at_bool (Kd.R_reads' HO_5.out).2.2 (rd (rd_L1 l0_0 (rd x8_2 (ji27))) (rd x6_3 (rd x8_2 (ji27)))) p192 q192; (try rw [← Nbq39.out] at hx192_0); obtain rfl : (⟨goA175, 0, none⟩ : Addr) = ad192 := (by injection e192); (first | simp only [add_plain] at hx192_0 | simp only [add_at] at hx192_0 | simp only [Addr.add, Nat.zero_add] at hx192_0 | skip); replace p192 := eq_true p192; replace q192 := eq_true q192; have p44 : 0 ≤ ((rd (rd_L1 l0_0 (rd x8_2 (ji27))) (rd x6_3 (rd x8_2 (ji27)))) : Int) := D_; have q44 : ((rd (rd_L1 l0_0 (rd x8_2 (ji27))) (rd x6_3 (rd x8_2 (ji27)))) : Int) < (64 : Int) := D_; obtain ⟨hx44_0, hf44_0⟩ := Kd.R_celln false HO_5.out ((rd (rd_L1 l0_0 (rd x8_2 (ji27))) (rd x6_3 (rd x8_2 (ji27)))) : Int) p44 q44; replace p44 := eq_true p44; replace q44 := eq_true q44; obtain ⟨hy49_, hz49_⟩ := Kd.R_celln false HO_5.out ((rd (rd_L1 l0_0 (rd x8_2 (ji27))) (rd x6_3 (rd x8_2 (ji27)))) : Int) (D_) (D_); have HP49 := Kd.R_putg HO_5.out ((rd (rd_L1 l0_0 (rd x8_2 (ji27))) (rd x6_3 (rd x8_2 (ji27)))) : Int) true) | ((with_reducible refine gate_store (t := 4) (p := 65) rfl ?_); (try (rw [drewN_self w48]; generalize hq_ : World.drewN w48 _ = w48; have n0_ := Aside0.mk (Kd.R_at hq_ HO_5.out); have n1_ := Aside0.mk (Kd.R_at hq_ HO_6.out); have n2_ := Aside0.mk (Kd.R_at hq_ HO_7.out); have n3_ := Aside0.mk (Kd.R_at hq_ HO_8.out); have n4_ := Aside0.mk (blk_at hq_ BK170.out); have n5_ := Aside0.mk (below_at hq_ HB.out); clear hq_ HO_5 HO_6 HO_7 HO_8 BK170 HB; have HO_5 := n0_; have HO_6 := n1_; have HO_7 := n2_; have HO_8 := n3_; have BK170 := n4_; have HB := n5_; clear n0_ n1_ n2_ n3_ n4_ n5_; (try (obtain ⟨hy49_, hz49_⟩ := Kd.R_celln false HO_5.out ((rd (rd_L1 l0_0 (rd x8_2 (ji27))) (rd x6_3 (rd x8_2 (ji27)))) : Int) (D_) (D_))); (try (have HP49 := Kd.R_putg HO_5.out ((rd (rd_L1 l0_0 (rd x8_2 (ji27))) (rd x6_3 (rd x8_2 (ji27)))) : Int) true)))); refine store_event (t := 4) (p := 65) (v := ?vo_w50) (w1 := (w48.setCell ⟨goA175, ((rd (rd_L1 l0_0 (rd x8_2 (ji27))) (rd x6_3 (rd x8_2 (ji27)))) : Int).toNat, none⟩ (.bool true))) ?hg ?ho ?hn ?hr ?_; (case ho => rfl); (case hg => rfl); (case hn => rfl); (case hr => first | (go_simp; done) | (go_simp; rfl)); intro w50 hw; have hg : w48.grownBy w50 (some goA175) := (by rw [hw]; exact HP49.2); have hp_ : Kd.R Kd.bool 46 w50 w.heap.size (fun _ => True) (.slice (some ⟨goA175, 0, none⟩) 64 64) y193 := (by rw [hw, Ny193.out]; exact HP49.1); clear HP49; have n0_ := Aside0.mk (hp_); have n1_ := Aside0.mk (Kd.R_over' (v := (.slice (some ⟨goA175, 0, none⟩) 64 64)) (by exact RX_ HO_6.out) (Kd.R_typed HO_5.out) (by decide) hg); have n2_ := Aside0.mk (Kd.R_over' (v := (.slice (some ⟨goA175, 0, none⟩) 64 64)) (by exact RX_ HO_7.out) (Kd.R_typed HO_5.out) (by decide) hg); have n3_ := Aside0.mk (Kd.R_over' (v := (.slice (some ⟨goA175, 0, none⟩) 64 64)) (by exact RX_ HO_8.out) (Kd.R_typed HO_5.out) (by decide) hg); have n4_ := Aside0.mk (blk_grown (g := gb170) (o := .cells #[.slice (some ad186) l0_0.length c0_0, .slice A0_1 l0_1.length c0_1] 26 (0, 0)) (by exact KX_ BK170.out) hg (Kd.R_ne HO_5.out BK170.out (by decide))); have n5_ := Aside0.mk ((by rw [hw]; exact below_set (HB.out) GBA175.out : Below w.heap.size w w50)); clear HO_5; clear HO_6; clear HO_7; clear HO_8; clear BK170; clear HB; have HO_5 := n0_; have HO_6 := n1_; have HO_7 := n2_; have HO_8 := n3_; have BK170 := n4_; have HB := n5_; clear n0_ n1_ n2_ n3_ n4_ n5_; clear hg hw hp_) | ((with_reducible refine gate_builtin (b := .append) (xs := #[.tmp 66, .tmp 68]) rfl ?_); (try (refine gate_guard (by rfl) ?_; dsimp only)); at_builtin; refine Kd.R_append (Kd.int .i64) (w0 := w) w.heap.size rfl (.tmp 66) (.tmp 68) 30 3 (.int .i64 0) 8 rfl Try.underlying30 info3 rfl (by decide) (by omega) u8 x8_3 (rd (rd_L1 l0_0 (rd x8_2 (ji27))) (rd x6_3 (rd x8_2 (ji27)))) [.int .i64 (rd (rd_L1 l0_0 (rd x8_2 (ji27))) (rd x6_3 (rd x8_2 (ji27))))] (fun k_ => some k_ ≠ (u7 : Value).ownBlock) (fun _ => False) rfl rfl ?aP (fun _ hk => hk.elim) ?aF ?aO ?aB ?aS ?aL ?_; (case aP => exact rfl); (case aB => exact (B1_)); (case aF => exact (fun k_ hk => Kd.fresh' (Kd.R_lt (by exact RX_ HO_7.out)) k_ hk)); (case aO => exact (by exact RX_ HO_8.out)); (case aS => exact (below_size (B1_))); (case aL => have := LMc45.out; omega); intro v195 w51 ho hb hg hat; rw [← Ny194.out] at ho; have n0_ := Aside0.mk (Kd.R_over' (by exact RX_ HO_5.out) (Kd.R_typed (by exact RX_ HO_8.out)) (by decide) hg); have n1_ := Aside0.mk (Kd.R_over' (by exact RX_ HO_6.out) (Kd.R_typed (by exact RX_ HO_8.out)) (by decide) hg); have n2_ := Aside0.mk (Kd.R_after (ok := (fun _ => True)) (by (with_reducible repeat (first | apply Kd.R_alloc | apply Kd.R_drewN | apply Kd.R_drew)); exact Kd.R_mono HO_7.out (fun _ hk => by first | exact ⟨trivial, hk⟩ | exact hk | exact ⟨hk.1, hk.2⟩ | simp_all)) hg hat); have n3_ := Aside0.mk (blk_grown (g := gb170) (o := .cells #[.slice (some ad186) l0_0.length c0_0, .slice A0_1 l0_1.length c0_1] 26 (0, 0)) (by exact KX_ BK170.out) hg (Kd.R_ne HO_8.out BK170.out (by decide))); have n4_ := Aside0.mk (hb); have n5_ := Aside0.mk (ho); clear HO_5; clear HO_6; clear HO_7; clear BK170; clear HB; clear HO_8; have HO_5 := n0_; have HO_6 := n1_; have HO_7 := n2_; have BK170 := n3_; have HB := n4_; have HO196 := n5_; clear n0_ n1_ n2_ n3_ n4_ n5_; clear ho hb hg hat)))
                  go_step3
                  try simp only [jumpg_goto, Exit.then, Exit.inBlock]
                  go_step
                  go_roundg k3
                  case measure => have := HJ3.out; have := HK2.out; have := HK3.out; omega
                  case rel => exact ⟨(y193), (y191), (x7_2), (y194), H', ⟨by have := HJ3.out; have := HK2.out; have := HK3.out; omega⟩, ⟨by exact RM_ HO_5.out⟩, ⟨by exact RM_ HO_6.out⟩, ⟨by (with_reducible repeat (first | apply Kd.R_alloc | apply Kd.R_drewN | apply Kd.R_drew)); exact Kd.R_mono HO_7.out (fun _ hk => by first | exact hk.2 | exact hk | exact ⟨hk.1, hk.2⟩ | simp_all)⟩, ⟨by exact RM_ HO196.out⟩, ⟨by exact KX_ BK170.out⟩, ⟨B1_⟩⟩
                 rw [if_neg c45] at H
                 exact absurd H (by simp)
                rw [if_neg c38] at H
                exact absurd H (by simp)
               rw [if_neg c37] at H
               exact absurd H (by simp)
              rw [if_neg c35] at H
              exact absurd H (by simp)
             rw [if_neg c34] at H
             have c34b0 : decide ((rd x6_3 (rd x8_2 (ji27))) < ((rd_L1 l0_0 (rd x8_2 (ji27))).length : Int)) = false := decide_eq_false c34
             clear c34
             by_cases c52 : x7_2.length < 17592186044416
             ·rw [if_pos c52] at H
              have LMc52 := Aside0.mk c52
              clear c52
              obtain ⟨y197, hy197⟩ : ∃ y_ : List Int, y_ = (x7_2 ++ [(rd x8_2 (ji27))]) := ⟨_, rfl⟩
              replace H : (if 0 ≤ (wrap64 ((x8_3.length : Int) - 1)) then (if (wrap64 ((x8_3.length : Int) - 1)) ≤ (x8_3.length : Int) then ((some (x8_3.take ((wrap64 ((x8_3.length : Int) - 1)) : Int).toNat : List Int)).bind fun y200 => (if (y200.length : Int) > 0 then (graph_Order.l0 k3 x5_3 x6_3 y197 y200 l0_0 l0_1) else ((slices_Reverse_int_int.f k3 y197).bind fun t203 => (some t203)))) else (none)) else (none)) = some r := by first | (rw [hy197]; with_reducible exact H) | (have H2_ := (Option.bind_some _ _).symm.trans H; rw [hy197]; with_reducible exact H2_) | (have H2_ := (Option.bind_some _ _).symm.trans H; with_reducible exact H2_) | with_reducible exact H | (rw [hy197]; exact H) | exact H
              have Ny197 := Aside0.mk hy197
              clear hy197
              obtain ⟨ji53, hji53⟩ : ∃ j_ : Int, (wrap64 ((x8_3.length : Int) - 1)) = j_ := ⟨_, rfl⟩
              replace H : (if 0 ≤ (ji53) then (if (ji53) ≤ (x8_3.length : Int) then ((some (x8_3.take ((ji53) : Int).toNat : List Int)).bind fun y200 => (if (y200.length : Int) > 0 then (graph_Order.l0 k3 x5_3 x6_3 y197 y200 l0_0 l0_1) else ((slices_Reverse_int_int.f k3 y197).bind fun t203 => (some t203)))) else (none)) else (none)) = some r := by first | (rw [hji53] at H; exact H) | (simp only [hji53] at H ⊢; exact H)
              have hji53w : (IntKind.i64.wrap ((x8_3.length : Int) - 1)) = ji53 := (i64_w _).trans hji53
              by_cases c54 : 0 ≤ (ji53)
              ·rw [if_pos c54] at H
               have c54b0 := eq_true c54
               have c54b1 : decide (0 ≤ (ji53)) = true := decide_eq_true c54
               clear c54
               by_cases c55 : (ji53) ≤ (x8_3.length : Int)
               ·rw [if_pos c55] at H
                have c55b0 := eq_true c55
                have c55b1 : decide ((ji53) ≤ (x8_3.length : Int)) = true := decide_eq_true c55
                clear c55
                obtain ⟨y200, hy200⟩ : ∃ y_ : List Int, y_ = (x8_3.take ((ji53) : Int).toNat) := ⟨_, rfl⟩
                replace H : (if (y200.length : Int) > 0 then (graph_Order.l0 k3 x5_3 x6_3 y197 y200 l0_0 l0_1) else ((slices_Reverse_int_int.f k3 y197).bind fun t203 => (some t203))) = some r := by first | (rw [hy200]; with_reducible exact H) | (have H2_ := (Option.bind_some _ _).symm.trans H; rw [hy200]; with_reducible exact H2_) | (have H2_ := (Option.bind_some _ _).symm.trans H; with_reducible exact H2_) | with_reducible exact H | (rw [hy200]; exact H) | exact H
                have Ny200 := Aside0.mk hy200
                clear hy200
                by_cases c56 : (y200.length : Int) > 0
                ·rw [if_pos c56] at H
                 have c56b0 : decide (0 < (y200.length : Int)) = true := decide_eq_true c56
                 have c56b1 : decide (0 < y200.length) = true := decide_eq_true (by omega)
                 clear c56
                 have H' := Aside0.mk H
                 clear H
                 have p185 : 0 ≤ ((rd x8_2 (ji27)) : Int) := D_
                 have ql185 : (((rd x8_2 (ji27)) : Int) < (64 : Int)) = True := eq_true (D_)
                 have q185 : (rd x8_2 (ji27)) < (x6_3.length : Int) := (by have h_ : ((rd x8_2 (ji27)) : Int) < (64 : Int) := D_; have e_ := (Kd.R_reads' HO_6.out).1; omega)
                 obtain ⟨ad185, e185, hx185_0⟩ := Kd.at_int (Kd.R_reads' HO_6.out).2.2 (rd x8_2 (ji27)) p185 q185
                 obtain rfl : (⟨goA179, 0, none⟩ : Addr) = ad185 := (by injection e185)
                 (first | simp only [add_plain] at hx185_0 | simp only [add_at] at hx185_0 | simp only [Addr.add, Nat.zero_add] at hx185_0 | skip)
                 replace p185 := eq_true p185
                 replace q185 := eq_true q185
                 have hcz57_0 : wr.cell? ⟨gb170, 0, none⟩ = some (.slice A0_0 l0_0.length c0_0) := (blk_cell BK170.out 0).trans rfl
                 have hcz57_1 : wr.cell? ⟨gb170, 1, none⟩ = some (.slice A0_1 l0_1.length c0_1) := (blk_cell BK170.out 1).trans rfl
                 have hfz57_0 := blk_frozen BK170.out 0
                 have hfz57_1 := blk_frozen BK170.out 1
                 have p186 : 0 ≤ ((rd x8_2 (ji27)) : Int) := D_
                 have q186 : (rd x8_2 (ji27)) < (l0_0.length : Int) := D_
                 obtain ⟨ad186, A186_0, c186_0, e186, hx186_0, hl186_0, hi186_0⟩ := at_L1 HR0_0.out (rd x8_2 (ji27)) p186 q186
                 cases e186
                 replace hx186_0 := (HB.out.cell (World.block_lt_of_cell? w _ hx186_0)).trans hx186_0
                 have HR186_0 := Aside0.mk hi186_0
                 have HC186_0 := Aside0.mk hl186_0
                 clear hi186_0 hl186_0
                 replace p186 := eq_true p186
                 replace q186 := eq_true q186
                 go_wp2_with (first | ((with_reducible refine gate_builtin (b := .append) (xs := #[.tmp 70, .tmp 72]) rfl ?_); (try (refine gate_guard (by rfl) ?_; dsimp only)); at_builtin; refine Kd.R_append (Kd.int .i64) (w0 := w) w.heap.size rfl (.tmp 70) (.tmp 72) 30 3 (.int .i64 0) 8 rfl Try.underlying30 info3 rfl (by decide) (by omega) u7 x7_2 (rd x8_2 (ji27)) [.int .i64 (rd x8_2 (ji27))] (fun k_ => some k_ ≠ (u8 : Value).ownBlock) (fun _ => False) rfl rfl ?aP (fun _ hk => hk.elim) ?aF ?aO ?aB ?aS ?aL ?_; (case aP => exact rfl); (case aB => exact (B1_)); (case aF => exact (fun k_ hk => Kd.fresh' (Kd.R_lt (by exact RX_ HO_8.out)) k_ hk)); (case aO => exact (by exact RX_ HO_7.out)); (case aS => exact (below_size (B1_))); (case aL => have := LMc52.out; omega); intro v198 w58 ho hb hg hat; rw [← Ny197.out] at ho; have n0_ := Aside0.mk (Kd.R_over' (by exact RX_ HO_5.out) (Kd.R_typed (by exact RX_ HO_7.out)) (by decide) hg); have n1_ := Aside0.mk (Kd.R_over' (by exact RX_ HO_6.out) (Kd.R_typed (by exact RX_ HO_7.out)) (by decide) hg); have n2_ := Aside0.mk (Kd.R_after (ok := (fun _ => True)) (by (with_reducible repeat (first | apply Kd.R_alloc | apply Kd.R_drewN | apply Kd.R_drew)); exact Kd.R_mono HO_8.out (fun _ hk => by first | exact ⟨trivial, hk⟩ | exact hk | exact ⟨hk.1, hk.2⟩ | simp_all)) hg hat); have n3_ := Aside0.mk (blk_grown (g := gb170) (o := .cells #[.slice (some ad186) l0_0.length c0_0, .slice A0_1 l0_1.length c0_1] 26 (0, 0)) (by exact KX_ BK170.out) hg (Kd.R_ne HO_7.out BK170.out (by decide))); have n4_ := Aside0.mk (hb); have n5_ := Aside0.mk (ho); clear HO_5; clear HO_6; clear HO_8; clear BK170; clear HB; clear HO_7; have HO_5 := n0_; have HO_6 := n1_; have HO_8 := n2_; have BK170 := n3_; have HB := n4_; have HO199 := n5_; clear n0_ n1_ n2_ n3_ n4_ n5_; clear ho hb hg hat; obtain ⟨Ao59, co59, eo59⟩ := Kd.R_slice HO_8.out; subst eo59; have q60 : ((ji53) : Int) ≤ ((x8_3.length : Int) : Int) := D_; obtain ⟨i060, hi060, _, hsz60, _⟩ := info_parts info3; have hcut60 := cut_to (P := Try.prog) 30 3 .i64 Try.underlying30 hi060 Ao59 x8_3.length co59 (ji53) (D_) q60 (Kd.R_reads' HO_8.out).2.1; have hr60 := Kd.R_take (m := ((ji53) : Int).toNat) HO_8.out (by omega); have hy60 : y200.length = ((ji53) : Int).toNat := (by rw [Ny200.out, List.length_take]; omega); rw [← Ny200.out] at hr60; rw [← hy60] at hr60 hcut60; clear hy60 hi060 hsz60 HO_8; have HO202 := Aside0.mk hr60; clear hr60; replace q60 := eq_true q60))
                 repeat (go_quiet (first | ((with_reducible refine gate_builtin (b := .append) (xs := #[.tmp 70, .tmp 72]) rfl ?_); (try (refine gate_guard (by rfl) ?_; dsimp only)); at_builtin; refine Kd.R_append (Kd.int .i64) (w0 := w) w.heap.size rfl (.tmp 70) (.tmp 72) 30 3 (.int .i64 0) 8 rfl Try.underlying30 info3 rfl (by decide) (by omega) u7 x7_2 (rd x8_2 (ji27)) [.int .i64 (rd x8_2 (ji27))] (fun k_ => some k_ ≠ (u8 : Value).ownBlock) (fun _ => False) rfl rfl ?aP (fun _ hk => hk.elim) ?aF ?aO ?aB ?aS ?aL ?_; (case aP => exact rfl); (case aB => exact (B1_)); (case aF => exact (fun k_ hk => Kd.fresh' (Kd.R_lt (by exact RX_ HO_8.out)) k_ hk)); (case aO => exact (by exact RX_ HO_7.out)); (case aS => exact (below_size (B1_))); (case aL => have := LMc52.out; omega); intro v198 w58 ho hb hg hat; rw [← Ny197.out] at ho; have n0_ := Aside0.mk (Kd.R_over' (by exact RX_ HO_5.out) (Kd.R_typed (by exact RX_ HO_7.out)) (by decide) hg); have n1_ := Aside0.mk (Kd.R_over' (by exact RX_ HO_6.out) (Kd.R_typed (by exact RX_ HO_7.out)) (by decide) hg); have n2_ := Aside0.mk (Kd.R_after (ok := (fun _ => True)) (by (with_reducible repeat (first | apply Kd.R_alloc | apply Kd.R_drewN | apply Kd.R_drew)); exact Kd.R_mono HO_8.out (fun _ hk => by first | exact ⟨trivial, hk⟩ | exact hk | exact ⟨hk.1, hk.2⟩ | simp_all)) hg hat); have n3_ := Aside0.mk (blk_grown (g := gb170) (o := .cells #[.slice (some ad186) l0_0.length c0_0, .slice A0_1 l0_1.length c0_1] 26 (0, 0)) (by exact KX_ BK170.out) hg (Kd.R_ne HO_7.out BK170.out (by decide))); have n4_ := Aside0.mk (hb); have n5_ := Aside0.mk (ho); clear HO_5; clear HO_6; clear HO_8; clear BK170; clear HB; clear HO_7; have HO_5 := n0_; have HO_6 := n1_; have HO_8 := n2_; have BK170 := n3_; have HB := n4_; have HO199 := n5_; clear n0_ n1_ n2_ n3_ n4_ n5_; clear ho hb hg hat; obtain ⟨Ao59, co59, eo59⟩ := Kd.R_slice HO_8.out; subst eo59; have q60 : ((ji53) : Int) ≤ ((x8_3.length : Int) : Int) := D_; obtain ⟨i060, hi060, _, hsz60, _⟩ := info_parts info3; have hcut60 := cut_to (P := Try.prog) 30 3 .i64 Try.underlying30 hi060 Ao59 x8_3.length co59 (ji53) (D_) q60 (Kd.R_reads' HO_8.out).2.1; have hr60 := Kd.R_take (m := ((ji53) : Int).toNat) HO_8.out (by omega); have hy60 : y200.length = ((ji53) : Int).toNat := (by rw [Ny200.out, List.length_take]; omega); rw [← Ny200.out] at hr60; rw [← hy60] at hr60 hcut60; clear hy60 hi060 hsz60 HO_8; have HO202 := Aside0.mk hr60; clear hr60; replace q60 := eq_true q60)); try go_wp2_with (first | ((with_reducible refine gate_builtin (b := .append) (xs := #[.tmp 70, .tmp 72]) rfl ?_); (try (refine gate_guard (by rfl) ?_; dsimp only)); at_builtin; refine Kd.R_append (Kd.int .i64) (w0 := w) w.heap.size rfl (.tmp 70) (.tmp 72) 30 3 (.int .i64 0) 8 rfl Try.underlying30 info3 rfl (by decide) (by omega) u7 x7_2 (rd x8_2 (ji27)) [.int .i64 (rd x8_2 (ji27))] (fun k_ => some k_ ≠ (u8 : Value).ownBlock) (fun _ => False) rfl rfl ?aP (fun _ hk => hk.elim) ?aF ?aO ?aB ?aS ?aL ?_; (case aP => exact rfl); (case aB => exact (B1_)); (case aF => exact (fun k_ hk => Kd.fresh' (Kd.R_lt (by exact RX_ HO_8.out)) k_ hk)); (case aO => exact (by exact RX_ HO_7.out)); (case aS => exact (below_size (B1_))); (case aL => have := LMc52.out; omega); intro v198 w58 ho hb hg hat; rw [← Ny197.out] at ho; have n0_ := Aside0.mk (Kd.R_over' (by exact RX_ HO_5.out) (Kd.R_typed (by exact RX_ HO_7.out)) (by decide) hg); have n1_ := Aside0.mk (Kd.R_over' (by exact RX_ HO_6.out) (Kd.R_typed (by exact RX_ HO_7.out)) (by decide) hg); have n2_ := Aside0.mk (Kd.R_after (ok := (fun _ => True)) (by (with_reducible repeat (first | apply Kd.R_alloc | apply Kd.R_drewN | apply Kd.R_drew)); exact Kd.R_mono HO_8.out (fun _ hk => by first | exact ⟨trivial, hk⟩ | exact hk | exact ⟨hk.1, hk.2⟩ | simp_all)) hg hat); have n3_ := Aside0.mk (blk_grown (g := gb170) (o := .cells #[.slice (some ad186) l0_0.length c0_0, .slice A0_1 l0_1.length c0_1] 26 (0, 0)) (by exact KX_ BK170.out) hg (Kd.R_ne HO_7.out BK170.out (by decide))); have n4_ := Aside0.mk (hb); have n5_ := Aside0.mk (ho); clear HO_5; clear HO_6; clear HO_8; clear BK170; clear HB; clear HO_7; have HO_5 := n0_; have HO_6 := n1_; have HO_8 := n2_; have BK170 := n3_; have HB := n4_; have HO199 := n5_; clear n0_ n1_ n2_ n3_ n4_ n5_; clear ho hb hg hat; obtain ⟨Ao59, co59, eo59⟩ := Kd.R_slice HO_8.out; subst eo59; have q60 : ((ji53) : Int) ≤ ((x8_3.length : Int) : Int) := D_; obtain ⟨i060, hi060, _, hsz60, _⟩ := info_parts info3; have hcut60 := cut_to (P := Try.prog) 30 3 .i64 Try.underlying30 hi060 Ao59 x8_3.length co59 (ji53) (D_) q60 (Kd.R_reads' HO_8.out).2.1; have hr60 := Kd.R_take (m := ((ji53) : Int).toNat) HO_8.out (by omega); have hy60 : y200.length = ((ji53) : Int).toNat := (by rw [Ny200.out, List.length_take]; omega); rw [← Ny200.out] at hr60; rw [← hy60] at hr60 hcut60; clear hy60 hi060 hsz60 HO_8; have HO202 := Aside0.mk hr60; clear hr60; replace q60 := eq_true q60)))
                 go_step3
                 try simp only [jumpg_goto, Exit.then, Exit.inBlock]
                 go_step
                 go_roundg k3
                 case measure => have := HJ3.out; have := HK2.out; have := HK3.out; omega
                 case rel => exact ⟨(x5_3), (x6_3), (y197), (y200), H', ⟨by have := HJ3.out; have := HK2.out; have := HK3.out; omega⟩, ⟨by exact RM_ HO_5.out⟩, ⟨by exact RM_ HO_6.out⟩, ⟨by exact RM_ HO199.out⟩, ⟨by (with_reducible repeat (first | apply Kd.R_alloc | apply Kd.R_drewN | apply Kd.R_drew)); exact Kd.R_mono HO202.out (fun _ hk => by first | exact hk.2 | exact hk | exact ⟨hk.1, hk.2⟩ | simp_all)⟩, ⟨by exact KX_ BK170.out⟩, ⟨B1_⟩⟩
                rw [if_neg c56] at H
                have c56b0 : decide (0 < (y200.length : Int)) = false := decide_eq_false c56
                have c56b1 : decide (0 < y200.length) = false := decide_eq_false (by omega)
                clear c56
                replace H := Option.bind_eq_some_iff.mp H
                obtain ⟨t203, A610, H⟩ := H
                replace H : (some t203) = some r := H
                have A61 := Aside0.mk A610
                clear A610
                obtain rfl := Option.some.inj H
                have p185 : 0 ≤ ((rd x8_2 (ji27)) : Int) := D_
                have ql185 : (((rd x8_2 (ji27)) : Int) < (64 : Int)) = True := eq_true (D_)
                have q185 : (rd x8_2 (ji27)) < (x6_3.length : Int) := (by have h_ : ((rd x8_2 (ji27)) : Int) < (64 : Int) := D_; have e_ := (Kd.R_reads' HO_6.out).1; omega)
                obtain ⟨ad185, e185, hx185_0⟩ := Kd.at_int (Kd.R_reads' HO_6.out).2.2 (rd x8_2 (ji27)) p185 q185
                obtain rfl : (⟨goA179, 0, none⟩ : Addr) = ad185 := (by injection e185)
                (first | simp only [add_plain] at hx185_0 | simp only [add_at] at hx185_0 | simp only [Addr.add, Nat.zero_add] at hx185_0 | skip)
                replace p185 := eq_true p185
                replace q185 := eq_true q185
                have hcz62_0 : wr.cell? ⟨gb170, 0, none⟩ = some (.slice A0_0 l0_0.length c0_0) := (blk_cell BK170.out 0).trans rfl
                have hcz62_1 : wr.cell? ⟨gb170, 1, none⟩ = some (.slice A0_1 l0_1.length c0_1) := (blk_cell BK170.out 1).trans rfl
                have hfz62_0 := blk_frozen BK170.out 0
                have hfz62_1 := blk_frozen BK170.out 1
                have p186 : 0 ≤ ((rd x8_2 (ji27)) : Int) := D_
                have q186 : (rd x8_2 (ji27)) < (l0_0.length : Int) := D_
                obtain ⟨ad186, A186_0, c186_0, e186, hx186_0, hl186_0, hi186_0⟩ := at_L1 HR0_0.out (rd x8_2 (ji27)) p186 q186
                cases e186
                replace hx186_0 := (HB.out.cell (World.block_lt_of_cell? w _ hx186_0)).trans hx186_0
                have HR186_0 := Aside0.mk hi186_0
                have HC186_0 := Aside0.mk hl186_0
                clear hi186_0 hl186_0
                replace p186 := eq_true p186
                replace q186 := eq_true q186
                go_wp2_with (first | ((with_reducible refine gate_builtin (b := .append) (xs := #[.tmp 70, .tmp 72]) rfl ?_); (try (refine gate_guard (by rfl) ?_; dsimp only)); at_builtin; refine Kd.R_append (Kd.int .i64) (w0 := w) w.heap.size rfl (.tmp 70) (.tmp 72) 30 3 (.int .i64 0) 8 rfl Try.underlying30 info3 rfl (by decide) (by omega) u7 x7_2 (rd x8_2 (ji27)) [.int .i64 (rd x8_2 (ji27))] (fun k_ => some k_ ≠ (u8 : Value).ownBlock) (fun _ => False) rfl rfl ?aP (fun _ hk => hk.elim) ?aF ?aO ?aB ?aS ?aL ?_; (case aP => exact rfl); (case aB => exact (B1_)); (case aF => exact (fun k_ hk => Kd.fresh' (Kd.R_lt (by exact RX_ HO_8.out)) k_ hk)); (case aO => exact (by exact RX_ HO_7.out)); (case aS => exact (below_size (B1_))); (case aL => have := LMc52.out; omega); intro v198 w63 ho hb hg hat; rw [← Ny197.out] at ho; have n0_ := Aside0.mk (Kd.R_over' (by exact RX_ HO_5.out) (Kd.R_typed (by exact RX_ HO_7.out)) (by decide) hg); have n1_ := Aside0.mk (Kd.R_over' (by exact RX_ HO_6.out) (Kd.R_typed (by exact RX_ HO_7.out)) (by decide) hg); have n2_ := Aside0.mk (Kd.R_after (ok := (fun _ => True)) (by (with_reducible repeat (first | apply Kd.R_alloc | apply Kd.R_drewN | apply Kd.R_drew)); exact Kd.R_mono HO_8.out (fun _ hk => by first | exact ⟨trivial, hk⟩ | exact hk | exact ⟨hk.1, hk.2⟩ | simp_all)) hg hat); have n3_ := Aside0.mk (blk_grown (g := gb170) (o := .cells #[.slice (some ad186) l0_0.length c0_0, .slice A0_1 l0_1.length c0_1] 26 (0, 0)) (by exact KX_ BK170.out) hg (Kd.R_ne HO_7.out BK170.out (by decide))); have n4_ := Aside0.mk (hb); have n5_ := Aside0.mk (ho); clear HO_5; clear HO_6; clear HO_8; clear BK170; clear HB; clear HO_7; have HO_5 := n0_; have HO_6 := n1_; have HO_8 := n2_; have BK170 := n3_; have HB := n4_; have HO199 := n5_; clear n0_ n1_ n2_ n3_ n4_ n5_; clear ho hb hg hat; obtain ⟨Ao64, co64, eo64⟩ := Kd.R_slice HO_8.out; subst eo64; have q65 : ((ji53) : Int) ≤ ((x8_3.length : Int) : Int) := D_; obtain ⟨i065, hi065, _, hsz65, _⟩ := info_parts info3; have hcut65 := cut_to (P := Try.prog) 30 3 .i64 Try.underlying30 hi065 Ao64 x8_3.length co64 (ji53) (D_) q65 (Kd.R_reads' HO_8.out).2.1; have hr65 := Kd.R_take (m := ((ji53) : Int).toNat) HO_8.out (by omega); have hy65 : y200.length = ((ji53) : Int).toNat := (by rw [Ny200.out, List.length_take]; omega); rw [← Ny200.out] at hr65; rw [← hy65] at hr65 hcut65; clear hy65 hi065 hsz65 HO_8; have HO202 := Aside0.mk hr65; clear hr65; replace q65 := eq_true q65; obtain ⟨Ao66, co66, eo66⟩ := Kd.R_slice HO199.out; subst eo66) | (go_at_call 37; (with_reducible refine (slices_Reverse_int_int.calls k3 (fun k_ => some k_ = (.slice Ao66 y197.length co66 : Value).ownBlock) (.slice Ao66 y197.length co66) y197 t203 w _ ?side1 ?side2 A61.out).mono ?_); (case side1 => repeat (first | (with_reducible first | exact HB.out | apply below_alloc | apply pw_below_drewN | apply below_drew1 | refine below_set ?_ GE170.out) | exact HB.out)); (case side2 => exact Kd.R_tight rfl HO199.out); rintro e w67 ⟨rfl, hy0, hb, hkp⟩; have n0_ := Aside0.mk (Kd.R_mono (ok' := fun k_ => True) (Kd.R_keptB ((Kd.R_apart' HO_5.out (Kd.R_typed HO199.out) (by decide))) hkp (fun k_ hk_ hs_ => (hk_.2) hs_)) (fun k_ hk_ => trivial)); have n1_ := Aside0.mk (Kd.R_mono (ok' := fun k_ => True) (Kd.R_keptB ((Kd.R_apart' HO_6.out (Kd.R_typed HO199.out) (by decide))) hkp (fun k_ hk_ hs_ => (hk_.2) hs_)) (fun k_ hk_ => trivial)); have n2_ := Aside0.mk (Kd.R_mono (ok' := fun k_ => some k_ ≠ (.slice Ao66 y197.length co66 : Value).ownBlock) (Kd.R_keptB (HO202.out) hkp (fun k_ hk_ hs_ => (hk_.2) hs_)) (fun k_ hk_ => hk_.1.2)); have n3_ := Aside0.mk (blk_kept (by exact KX_ BK170.out) hkp (fun hs_ => (fun e_ => (Kd.R_ne HO199.out BK170.out (by decide)) e_) hs_)); have n4_ := Aside0.mk (Kd.R_reok rfl hy0 (fun k_ e_ => HO199.out.1 k_ e_)); have n5_ := Aside0.mk (hb); clear HO_5; clear HO_6; clear HO202; clear BK170; clear HO199; clear HB; have HO_5 := n0_; have HO_6 := n1_; have HO202 := n2_; have BK170 := n3_; have HO199 := n4_; have HB := n5_; clear n0_ n1_ n2_ n3_ n4_ n5_; (try clear hb); (try clear hkp); (try clear hy0)))
                repeat (go_quiet (first | ((with_reducible refine gate_builtin (b := .append) (xs := #[.tmp 70, .tmp 72]) rfl ?_); (try (refine gate_guard (by rfl) ?_; dsimp only)); at_builtin; refine Kd.R_append (Kd.int .i64) (w0 := w) w.heap.size rfl (.tmp 70) (.tmp 72) 30 3 (.int .i64 0) 8 rfl Try.underlying30 info3 rfl (by decide) (by omega) u7 x7_2 (rd x8_2 (ji27)) [.int .i64 (rd x8_2 (ji27))] (fun k_ => some k_ ≠ (u8 : Value).ownBlock) (fun _ => False) rfl rfl ?aP (fun _ hk => hk.elim) ?aF ?aO ?aB ?aS ?aL ?_; (case aP => exact rfl); (case aB => exact (B1_)); (case aF => exact (fun k_ hk => Kd.fresh' (Kd.R_lt (by exact RX_ HO_8.out)) k_ hk)); (case aO => exact (by exact RX_ HO_7.out)); (case aS => exact (below_size (B1_))); (case aL => have := LMc52.out; omega); intro v198 w63 ho hb hg hat; rw [← Ny197.out] at ho; have n0_ := Aside0.mk (Kd.R_over' (by exact RX_ HO_5.out) (Kd.R_typed (by exact RX_ HO_7.out)) (by decide) hg); have n1_ := Aside0.mk (Kd.R_over' (by exact RX_ HO_6.out) (Kd.R_typed (by exact RX_ HO_7.out)) (by decide) hg); have n2_ := Aside0.mk (Kd.R_after (ok := (fun _ => True)) (by (with_reducible repeat (first | apply Kd.R_alloc | apply Kd.R_drewN | apply Kd.R_drew)); exact Kd.R_mono HO_8.out (fun _ hk => by first | exact ⟨trivial, hk⟩ | exact hk | exact ⟨hk.1, hk.2⟩ | simp_all)) hg hat); have n3_ := Aside0.mk (blk_grown (g := gb170) (o := .cells #[.slice (some ad186) l0_0.length c0_0, .slice A0_1 l0_1.length c0_1] 26 (0, 0)) (by exact KX_ BK170.out) hg (Kd.R_ne HO_7.out BK170.out (by decide))); have n4_ := Aside0.mk (hb); have n5_ := Aside0.mk (ho); clear HO_5; clear HO_6; clear HO_8; clear BK170; clear HB; clear HO_7; have HO_5 := n0_; have HO_6 := n1_; have HO_8 := n2_; have BK170 := n3_; have HB := n4_; have HO199 := n5_; clear n0_ n1_ n2_ n3_ n4_ n5_; clear ho hb hg hat; obtain ⟨Ao64, co64, eo64⟩ := Kd.R_slice HO_8.out; subst eo64; have q65 : ((ji53) : Int) ≤ ((x8_3.length : Int) : Int) := D_; obtain ⟨i065, hi065, _, hsz65, _⟩ := info_parts info3; have hcut65 := cut_to (P := Try.prog) 30 3 .i64 Try.underlying30 hi065 Ao64 x8_3.length co64 (ji53) (D_) q65 (Kd.R_reads' HO_8.out).2.1; have hr65 := Kd.R_take (m := ((ji53) : Int).toNat) HO_8.out (by omega); have hy65 : y200.length = ((ji53) : Int).toNat := (by rw [Ny200.out, List.length_take]; omega); rw [← Ny200.out] at hr65; rw [← hy65] at hr65 hcut65; clear hy65 hi065 hsz65 HO_8; have HO202 := Aside0.mk hr65; clear hr65; replace q65 := eq_true q65; obtain ⟨Ao66, co66, eo66⟩ := Kd.R_slice HO199.out; subst eo66) | (go_at_call 37; (with_reducible refine (slices_Reverse_int_int.calls k3 (fun k_ => some k_ = (.slice Ao66 y197.length co66 : Value).ownBlock) (.slice Ao66 y197.length co66) y197 t203 w _ ?side1 ?side2 A61.out).mono ?_); (case side1 => repeat (first | (with_reducible first | exact HB.out | apply below_alloc | apply pw_below_drewN | apply below_drew1 | refine below_set ?_ GE170.out) | exact HB.out)); (case side2 => exact Kd.R_tight rfl HO199.out); rintro e w67 ⟨rfl, hy0, hb, hkp⟩; have n0_ := Aside0.mk (Kd.R_mono (ok' := fun k_ => True) (Kd.R_keptB ((Kd.R_apart' HO_5.out (Kd.R_typed HO199.out) (by decide))) hkp (fun k_ hk_ hs_ => (hk_.2) hs_)) (fun k_ hk_ => trivial)); have n1_ := Aside0.mk (Kd.R_mono (ok' := fun k_ => True) (Kd.R_keptB ((Kd.R_apart' HO_6.out (Kd.R_typed HO199.out) (by decide))) hkp (fun k_ hk_ hs_ => (hk_.2) hs_)) (fun k_ hk_ => trivial)); have n2_ := Aside0.mk (Kd.R_mono (ok' := fun k_ => some k_ ≠ (.slice Ao66 y197.length co66 : Value).ownBlock) (Kd.R_keptB (HO202.out) hkp (fun k_ hk_ hs_ => (hk_.2) hs_)) (fun k_ hk_ => hk_.1.2)); have n3_ := Aside0.mk (blk_kept (by exact KX_ BK170.out) hkp (fun hs_ => (fun e_ => (Kd.R_ne HO199.out BK170.out (by decide)) e_) hs_)); have n4_ := Aside0.mk (Kd.R_reok rfl hy0 (fun k_ e_ => HO199.out.1 k_ e_)); have n5_ := Aside0.mk (hb); clear HO_5; clear HO_6; clear HO202; clear BK170; clear HO199; clear HB; have HO_5 := n0_; have HO_6 := n1_; have HO202 := n2_; have BK170 := n3_; have HO199 := n4_; have HB := n5_; clear n0_ n1_ n2_ n3_ n4_ n5_; (try clear hb); (try clear hkp); (try clear hy0))); try go_wp2_with (first | ((with_reducible refine gate_builtin (b := .append) (xs := #[.tmp 70, .tmp 72]) rfl ?_); (try (refine gate_guard (by rfl) ?_; dsimp only)); at_builtin; refine Kd.R_append (Kd.int .i64) (w0 := w) w.heap.size rfl (.tmp 70) (.tmp 72) 30 3 (.int .i64 0) 8 rfl Try.underlying30 info3 rfl (by decide) (by omega) u7 x7_2 (rd x8_2 (ji27)) [.int .i64 (rd x8_2 (ji27))] (fun k_ => some k_ ≠ (u8 : Value).ownBlock) (fun _ => False) rfl rfl ?aP (fun _ hk => hk.elim) ?aF ?aO ?aB ?aS ?aL ?_; (case aP => exact rfl); (case aB => exact (B1_)); (case aF => exact (fun k_ hk => Kd.fresh' (Kd.R_lt (by exact RX_ HO_8.out)) k_ hk)); (case aO => exact (by exact RX_ HO_7.out)); (case aS => exact (below_size (B1_))); (case aL => have := LMc52.out; omega); intro v198 w63 ho hb hg hat; rw [← Ny197.out] at ho; have n0_ := Aside0.mk (Kd.R_over' (by exact RX_ HO_5.out) (Kd.R_typed (by exact RX_ HO_7.out)) (by decide) hg); have n1_ := Aside0.mk (Kd.R_over' (by exact RX_ HO_6.out) (Kd.R_typed (by exact RX_ HO_7.out)) (by decide) hg); have n2_ := Aside0.mk (Kd.R_after (ok := (fun _ => True)) (by (with_reducible repeat (first | apply Kd.R_alloc | apply Kd.R_drewN | apply Kd.R_drew)); exact Kd.R_mono HO_8.out (fun _ hk => by first | exact ⟨trivial, hk⟩ | exact hk | exact ⟨hk.1, hk.2⟩ | simp_all)) hg hat); have n3_ := Aside0.mk (blk_grown (g := gb170) (o := .cells #[.slice (some ad186) l0_0.length c0_0, .slice A0_1 l0_1.length c0_1] 26 (0, 0)) (by exact KX_ BK170.out) hg (Kd.R_ne HO_7.out BK170.out (by decide))); have n4_ := Aside0.mk (hb); have n5_ := Aside0.mk (ho); clear HO_5; clear HO_6; clear HO_8; clear BK170; clear HB; clear HO_7; have HO_5 := n0_; have HO_6 := n1_; have HO_8 := n2_; have BK170 := n3_; have HB := n4_; have HO199 := n5_; clear n0_ n1_ n2_ n3_ n4_ n5_; clear ho hb hg hat; obtain ⟨Ao64, co64, eo64⟩ := Kd.R_slice HO_8.out; subst eo64; have q65 : ((ji53) : Int) ≤ ((x8_3.length : Int) : Int) := D_; obtain ⟨i065, hi065, _, hsz65, _⟩ := info_parts info3; have hcut65 := cut_to (P := Try.prog) 30 3 .i64 Try.underlying30 hi065 Ao64 x8_3.length co64 (ji53) (D_) q65 (Kd.R_reads' HO_8.out).2.1; have hr65 := Kd.R_take (m := ((ji53) : Int).toNat) HO_8.out (by omega); have hy65 : y200.length = ((ji53) : Int).toNat := (by rw [Ny200.out, List.length_take]; omega); rw [← Ny200.out] at hr65; rw [← hy65] at hr65 hcut65; clear hy65 hi065 hsz65 HO_8; have HO202 := Aside0.mk hr65; clear hr65; replace q65 := eq_true q65; obtain ⟨Ao66, co66, eo66⟩ := Kd.R_slice HO199.out; subst eo66) | (go_at_call 37; (with_reducible refine (slices_Reverse_int_int.calls k3 (fun k_ => some k_ = (.slice Ao66 y197.length co66 : Value).ownBlock) (.slice Ao66 y197.length co66) y197 t203 w _ ?side1 ?side2 A61.out).mono ?_); (case side1 => repeat (first | (with_reducible first | exact HB.out | apply below_alloc | apply pw_below_drewN | apply below_drew1 | refine below_set ?_ GE170.out) | exact HB.out)); (case side2 => exact Kd.R_tight rfl HO199.out); rintro e w67 ⟨rfl, hy0, hb, hkp⟩; have n0_ := Aside0.mk (Kd.R_mono (ok' := fun k_ => True) (Kd.R_keptB ((Kd.R_apart' HO_5.out (Kd.R_typed HO199.out) (by decide))) hkp (fun k_ hk_ hs_ => (hk_.2) hs_)) (fun k_ hk_ => trivial)); have n1_ := Aside0.mk (Kd.R_mono (ok' := fun k_ => True) (Kd.R_keptB ((Kd.R_apart' HO_6.out (Kd.R_typed HO199.out) (by decide))) hkp (fun k_ hk_ hs_ => (hk_.2) hs_)) (fun k_ hk_ => trivial)); have n2_ := Aside0.mk (Kd.R_mono (ok' := fun k_ => some k_ ≠ (.slice Ao66 y197.length co66 : Value).ownBlock) (Kd.R_keptB (HO202.out) hkp (fun k_ hk_ hs_ => (hk_.2) hs_)) (fun k_ hk_ => hk_.1.2)); have n3_ := Aside0.mk (blk_kept (by exact KX_ BK170.out) hkp (fun hs_ => (fun e_ => (Kd.R_ne HO199.out BK170.out (by decide)) e_) hs_)); have n4_ := Aside0.mk (Kd.R_reok rfl hy0 (fun k_ e_ => HO199.out.1 k_ e_)); have n5_ := Aside0.mk (hb); clear HO_5; clear HO_6; clear HO202; clear BK170; clear HO199; clear HB; have HO_5 := n0_; have HO_6 := n1_; have HO202 := n2_; have BK170 := n3_; have HO199 := n4_; have HB := n5_; clear n0_ n1_ n2_ n3_ n4_ n5_; (try clear hb); (try clear hkp); (try clear hy0))))
                (try simp only [jumpg_ret, Exit.then, Exit.inBlock])
                go_ret
                exact ⟨_, by first | rfl | (simp [errW_none, errW_some] <;> rfl) | (simp only [← hji27, ← hji53]; first | rfl | (simp [errW_none, errW_some] <;> rfl)) | (simp [*, errW_none, errW_some] <;> rfl), by (with_reducible repeat (first | apply Kd.R_alloc | apply Kd.R_drewN | apply Kd.R_drew)); exact Kd.R_mono HO199.out (fun _ hk => trivial), B1_⟩
               rw [if_neg c55] at H
               exact absurd H (by simp)
              rw [if_neg c54] at H
              exact absurd H (by simp)
             rw [if_neg c52] at H
             exact absurd H (by simp)
            rw [if_neg c33] at H
            exact absurd H (by simp)
           rw [if_neg c32] at H
           exact absurd H (by simp)
          rw [if_neg c31] at H
          exact absurd H (by simp)
       rw [if_neg c29] at H
       exact absurd H (by simp)
      rw [if_neg c28] at H
      exact absurd H (by simp)
    rw [if_neg c17] at H
    exact absurd H (by simp)
   rw [if_neg c16] at H
   exact absurd H (by simp)


/-! ### bits_Mul32: function 43 -/
def bits_Mul32.f (a0 : Int) (a1 : Int) : Option (Int × Int) := some (((IntKind.u64.wrap ((IntKind.u64.wrap (a0)) * (IntKind.u64.wrap (a1)))) / 4294967296) % 4294967296, (IntKind.u64.wrap ((IntKind.u64.wrap (a0)) * (IntKind.u64.wrap (a1)))) % 4294967296)
set_option maxHeartbeats 8000000 in
set_option maxRecDepth 100000 in
theorem bits_Mul32.calls (a0 : Int) (a1 : Int) (r1 : Int) (r2 : Int) (w : World) (h : bits_Mul32.f a0 a1 = some (r1, r2)) :
 Calls Try.prog 43 #[.int .u32 a0, .int .u32 a1] w fun e w' => e = .returned (.tuple #[.int .u32 r1, .int .u32 r2]) ∧ Drawn0 w w' := by
 have H : (some (((IntKind.u64.wrap ((IntKind.u64.wrap (a0)) * (IntKind.u64.wrap (a1)))) / 4294967296) % 4294967296, (IntKind.u64.wrap ((IntKind.u64.wrap (a0)) * (IntKind.u64.wrap (a1)))) % 4294967296)) = some (r1, r2) := h
 clear h
 simp only [Option.some.injEq, Prod.mk.injEq] at H
 obtain ⟨rfl, rfl⟩ := H
 go_enter Try.func43, Try.ntmps43
 go_wp2
 go_ret2
 exact ⟨by first | rfl | (simp; done) | (simp [*]; done), by repeat (first | exact Drawn0.refl _ | apply Drawn0.step)⟩

/-! ### bits_Mul64: function 44 -/
def bits_Mul64.f (a0 : Int) (a1 : Int) : Option (Int × Int) := some (IntKind.u64.wrap ((IntKind.u64.wrap ((IntKind.u64.wrap ((a0 / 4294967296) * (a1 / 4294967296))) + ((IntKind.u64.wrap ((IntKind.u64.wrap ((a0 / 4294967296) * (Go.bits .and .u64 a1 4294967295))) + ((IntKind.u64.wrap ((Go.bits .and .u64 a0 4294967295) * (Go.bits .and .u64 a1 4294967295))) / 4294967296))) / 4294967296))) + ((IntKind.u64.wrap ((Go.bits .and .u64 (IntKind.u64.wrap ((IntKind.u64.wrap ((a0 / 4294967296) * (Go.bits .and .u64 a1 4294967295))) + ((IntKind.u64.wrap ((Go.bits .and .u64 a0 4294967295) * (Go.bits .and .u64 a1 4294967295))) / 4294967296))) 4294967295) + (IntKind.u64.wrap ((Go.bits .and .u64 a0 4294967295) * (a1 / 4294967296))))) / 4294967296)), IntKind.u64.wrap (a0 * a1))
set_option maxHeartbeats 8000000 in
set_option maxRecDepth 100000 in
theorem bits_Mul64.calls (a0 : Int) (a1 : Int) (r1 : Int) (r2 : Int) (w : World) (h : bits_Mul64.f a0 a1 = some (r1, r2)) :
 Calls Try.prog 44 #[.int .u64 a0, .int .u64 a1] w fun e w' => e = .returned (.tuple #[.int .u64 r1, .int .u64 r2]) ∧ Drawn0 w w' := by
 have H : (some (IntKind.u64.wrap ((IntKind.u64.wrap ((IntKind.u64.wrap ((a0 / 4294967296) * (a1 / 4294967296))) + ((IntKind.u64.wrap ((IntKind.u64.wrap ((a0 / 4294967296) * (Go.bits .and .u64 a1 4294967295))) + ((IntKind.u64.wrap ((Go.bits .and .u64 a0 4294967295) * (Go.bits .and .u64 a1 4294967295))) / 4294967296))) / 4294967296))) + ((IntKind.u64.wrap ((Go.bits .and .u64 (IntKind.u64.wrap ((IntKind.u64.wrap ((a0 / 4294967296) * (Go.bits .and .u64 a1 4294967295))) + ((IntKind.u64.wrap ((Go.bits .and .u64 a0 4294967295) * (Go.bits .and .u64 a1 4294967295))) / 4294967296))) 4294967295) + (IntKind.u64.wrap ((Go.bits .and .u64 a0 4294967295) * (a1 / 4294967296))))) / 4294967296)), IntKind.u64.wrap (a0 * a1))) = some (r1, r2) := h
 clear h
 simp only [Option.some.injEq, Prod.mk.injEq] at H
 obtain ⟨rfl, rfl⟩ := H
 go_enter Try.func44, Try.ntmps44
 go_wp2
 go_ret2
 exact ⟨by first | rfl | (simp; done) | (simp [*]; done), by repeat (first | exact Drawn0.refl _ | apply Drawn0.step)⟩

/-! ### bits_Mul: function 38 -/
def bits_Mul.f (a0 : Int) (a1 : Int) : Option (Int × Int) := (bits_Mul64.f a0 a1).bind fun bt204 => (some (bt204.1, bt204.2))
set_option maxHeartbeats 8000000 in
set_option maxRecDepth 100000 in
theorem bits_Mul.calls (a0 : Int) (a1 : Int) (r1 : Int) (r2 : Int) (w : World) (h : bits_Mul.f a0 a1 = some (r1, r2)) :
 Calls Try.prog 38 #[.int .u64 a0, .int .u64 a1] w fun e w' => e = .returned (.tuple #[.int .u64 r1, .int .u64 r2]) ∧ Drawn0 w w' := by
 have H : ((bits_Mul64.f a0 a1).bind fun bt204 => (some (bt204.1, bt204.2))) = some (r1, r2) := h
 clear h
 replace H := Option.bind_eq_some_iff.mp H
 obtain ⟨⟨t204, t205⟩, A30, H⟩ := H
 replace H : (some (t204, t205)) = some (r1, r2) := H
 have A3 := Aside0.mk A30
 clear A30
 simp only [Option.some.injEq, Prod.mk.injEq] at H
 obtain ⟨rfl, rfl⟩ := H
 go_enter Try.func38, Try.ntmps38
 go_wp2_with (first | ((with_reducible refine gate_callee (f := 44) rfl ?_); refine goesL_ (some 25) rfl rfl Try.func44 (by kernel_rfl) rfl #[.int .u64 a0, .int .u64 a1] rfl (by (try simp only [List.map_toArray, List.map_cons, List.map_nil]); first | done | rfl | (simp only [List.length_drop, List.length_take]; rfl)) ?_; (with_reducible refine (bits_Mul64.calls a0 a1 t204 t205 _ A3.out).mono ?_); rintro e w' ⟨rfl, ⟨nd, rfl⟩⟩; refine ⟨_, rfl, ?_⟩))
 go_ret2
 exact ⟨by first | rfl | (simp; done) | (simp [*]; done), by repeat (first | exact Drawn0.refl _ | apply Drawn0.step)⟩


/-! ### slices_Repeat_int_int: function 31 -/
def slices_Repeat_int_int.f (l0 : List Int) (a1 : Int) : Option (List Int) := if l0.length = 1 ∧ 1 ≤ a1 ∧ a1 ≤ 64 then some (List.replicate a1.toNat (rd l0 0)) else none
theorem slices_Repeat_int_int.mul : ∀ n : Nat, n < 65 → bits_Mul.f 1 (n : Int) = some (0, (n : Int)) := by decide +kernel
theorem slices_Repeat_int_int.wrap : ∀ n : Nat, n < 65 → IntKind.u64.wrap (n : Int) = (n : Int) ∧ IntKind.i64.wrap (n : Int) = (n : Int) := by decide +kernel
set_option maxHeartbeats 8000000 in
set_option maxRecDepth 100000 in
theorem slices_Repeat_int_int.calls (A0 : Option Addr) (c0 : Nat) (l0 : List Int) (a1 : Int) (r : List Int) (w : World) (hr0 : Kd.C (Kd.int .i64) w A0 l0.length l0) (hc0 : l0.length ≤ c0) (h : slices_Repeat_int_int.f l0 a1 = some r) :
    Calls Try.prog 31 #[.slice A0 l0.length c0, .int .i64 a1] w fun e w' => ∃ v0_ : Value, e = .returned (v0_) ∧ Kd.R (Kd.int .i64) 3 w' w.heap.size (fun _ => True) v0_ r ∧ Below w.heap.size w w' := by
  unfold slices_Repeat_int_int.f at h
  by_cases hc : l0.length = 1 ∧ 1 ≤ a1 ∧ a1 ≤ 64
  · rw [if_pos hc] at h
    obtain rfl := Option.some.inj h
    obtain ⟨h1, h2, h3⟩ := hc
    obtain ⟨m, rfl⟩ : ∃ m : Nat, a1 = (m : Int) := ⟨a1.toNat, by omega⟩
    have hmm : m < 65 := by omega
    have A1 := Aside0.mk (slices_Repeat_int_int.mul m hmm)
    obtain ⟨hw1, hw2⟩ := slices_Repeat_int_int.wrap m hmm
    obtain ⟨ad, rfl, g0⟩ := Kd.at_int hr0 0 (by omega) (by omega)
    rw [h1] at hc0 ⊢
    have HG0 := Aside0.mk g0
    clear g0 hr0
    have n0 : ¬ ((m : Int) < 0) := by omega
    have n1 : ¬ (9223372036854775807 < (m : Int)) := by omega
    have HB := Aside0.mk (Below.refl w.heap.size w)
    have H2 := Aside0.mk h2
    have H3 := Aside0.mk h3
    have HM := Aside0.mk hmm
    clear h2 h3 hmm
    go_enter Try.func31, Try.ntmps31
    have hsrc_ : ∀ j, j < 1 * 1 → w.cell? (ad.add j) = ([.int .i64 (rd l0 0)] : List Value)[j % 1]? := by
      intro j hj
      match j, hj with
      | 0, _ => exact HG0.out
    have HS := Aside0.mk hsrc_
    clear hsrc_
    go_wp2_with (first | ((with_reducible refine gate_callee (f := 38) rfl ?_); refine goesL_ (some 18) rfl rfl Try.func38 (by kernel_rfl) rfl #[.int .u64 1, .int .u64 (m : Int)] rfl (by (try simp only [List.map_toArray, List.map_cons, List.map_nil]); first | done | rfl | (simp only [List.length_drop, List.length_take]; rfl)) ?_; (with_reducible refine (bits_Mul.calls 1 (m : Int) 0 (m : Int) _ A1.out).mono ?_); rintro e w' ⟨rfl, ⟨nd, rfl⟩⟩; refine ⟨_, rfl, ?_⟩) | ((with_reducible refine gate_dst (N := 30) rfl ?_); refine wp_rep_make (w0 := w) w.heap.size 3 rfl 30 _ _ rfl m rfl rfl Try.underlying30 _ 1 8 [.int .i64 (rd l0 0)] info3 (by have := HM.out; omega) (by have := HM.out; omega) (pw_below_drewN HB.out _) (Nat.le_refl _) ?_; intro g w1 hge hrep hbel; have HE := Aside0.mk hge; have HR := Aside0.mk hrep; have HB1 := Aside0.mk hbel; clear hge hrep hbel) | ((with_reducible refine gate_dst (N := 33) rfl ?_); refine wp_rep_copy rfl _ _ 30 30 rfl rfl rfl Try.underlying30 (by kernel_rfl) HR.out (by omega) (by omega) (by omega) (by simp [Value.oneCell']) rfl (k := 1) ?hk ?hs HB1.out HE.out ?_; (case hk => have := H2.out; simp only [Nat.min_def]; split <;> omega); (case hs => exact src_below HS.out (by simp) (by decide) HB1.out); intro w2 hrep hbel; have HR2 := Aside0.mk hrep; have HB2 := Aside0.mk hbel; clear hrep hbel HR HB1))
    go_loopg [8] m (fun kq v8 w' => ∃ n : Nat, v8 = .int .i64 (n : Int) ∧ Aside0 (1 ≤ n) ∧ Aside0 (m ≤ n + kq) ∧ Aside0 (Rep w' g 3 m 1 [.int .i64 (rd l0 0)] n) ∧ Aside0 (Below w.heap.size w w'))
    case atStart => exact ⟨1, (by first | rfl | (simp; done) | (simp [*]; done)), ⟨Nat.le_refl _⟩, ⟨by omega⟩, HR2, HB2⟩
    case round =>
      obtain ⟨n, rfl, HN, HK, HR, HB3⟩ := hrel
      by_cases c1 : (n : Int) < (m : Int)
      · have c1b : (n < m) = True := eq_true (by omega)
        have C1 := Aside0.mk c1
        obtain ⟨k', rfl⟩ : ∃ k', gk = k' + 1 := ⟨gk - 1, by have := HK.out; omega⟩
        clear c1
        obtain ⟨i0, hi0, _, hsz0, _⟩ := info_parts info3
        have hcut1 := cut_from (P := Try.prog) 30 3 .i64 Try.underlying30 hi0 1 hsz0 (some ⟨g, 0, none⟩) m m (n : Int) (by omega) (by have := C1.out; omega)
        rw [Int.toNat_natCast, if_neg (by have := C1.out; omega), show ((some (⟨g, 0, none⟩ : Addr)).map fun x => x.add (n * 1)) = some ⟨g, n * 1, none⟩ from congrArg some (add_plain g (n * 1))] at hcut1
        have hcut2 := cut_to (P := Try.prog) 30 3 .i64 Try.underlying30 hi0 (some ⟨g, 0, none⟩) m m (n : Int) (by omega) (by have := C1.out; omega) (Nat.le_refl _)
        rw [Int.toNat_natCast] at hcut2
        clear hi0 hsz0
        obtain ⟨q, hq⟩ : ∃ q : Nat, q = Nat.min n (m - n) := ⟨_, rfl⟩
        have hqm : q ≤ m - n := by rw [hq]; exact Nat.min_le_right _ _
        have HW := Aside0.mk (show IntKind.i64.wrap ((n : Int) + (q : Int)) = ((n + q : Nat) : Int) from (slices_Repeat_int_int.wrap (n + q) (by have := HM.out; have := C1.out; omega)).2)
        have HQ1 := Aside0.mk (show 1 ≤ q by rw [hq]; exact Nat.le_min.mpr ⟨HN.out, by have := C1.out; omega⟩)
        clear hqm
        have HQ := Aside0.mk hq
        clear hq
        obtain ⟨d, hd⟩ : ∃ d : Nat, d = m - n := ⟨_, rfl⟩
        rw [← hd] at hcut1
        have HD := Aside0.mk hd
        clear hd
        have HRD := Aside0.mk (show Rep wr.drew g 3 m 1 [.int .i64 (rd l0 0)] n from HR.out)
        have HBD := Aside0.mk (show Below w.heap.size w wr.drew from below_drew1 HB3.out)
        go_wp2
        go_region_law (refine step_rep_copy rfl (.tmp 41) (.tmp 44) 30 30 rfl (g := g) (off := n * 1) (dLen := d) (dCap := d) (ad := ⟨g, 0, none⟩) (sLen := n) (sCap := m) (by first | (go_simp; done) | (go_simp; rfl)) (by first | (go_simp; done) | (go_simp; rfl)) Try.underlying30 (by kernel_rfl) HRD.out rfl HD.out (by decide) (by simp [Value.oneCell']) rfl (k := q) (by rw [HD.out]; exact HQ.out.symm) (fun j hj => (by rw [add_plain]; exact HRD.out.cell (Nat.lt_of_lt_of_le hj (Nat.mul_le_mul_right _ (by rw [HQ.out]; exact Nat.min_le_left _ _))))) HBD.out HE.out ?_; intro w4 HR4 HB4)
        go_wp2
        go_roundg k'
        case measure => omega
        case rel => exact ⟨n + q, (by first | rfl | (simp; done) | (rw [HW.out])), ⟨by have := HN.out; omega⟩, ⟨by have := HK.out; have := HQ1.out; omega⟩, HR4, HB4⟩
      · have hn : n = m := by obtain ⟨_, _, _, h3, _⟩ := HR.out; omega
        subst hn
        have c1b : (n < n) = False := eq_false (by omega)
        go_wp2
        go_ret
        refine ⟨_, by first | rfl | (simp; done), rep_done (Kd.int .i64) HR.out rfl (by decide) rfl rfl HE.out (by have := HM.out; simp only [maxLen]; omega), HB3.out⟩
  · rw [if_neg hc] at h; cases h












































































































































































/-! ### dom_meet: function 32 -/
mutual
def dom_meet.l0 : Nat → List Int → List Int → Int → Int → Option (Int)
 | 0, _, _, _, _ => none
 | k + 1, x0, x1, x2, x3 => if x2 = x3 then (some x2) else (dom_meet.l1 k x0 x1 x2 x3)
def dom_meet.l1 : Nat → List Int → List Int → Int → Int → Option (Int)
 | 0, _, _, _, _ => none
 | k + 1, x0, x1, x2, x3 => if 0 ≤ x2 then (if x2 < (x1.length : Int) then (if 0 ≤ x3 then (if x3 < (x1.length : Int) then (if (rd x1 x2) > (rd x1 x3) then (if x2 < (x0.length : Int) then (dom_meet.l1 k x0 x1 (rd x0 x2) x3) else (none)) else (dom_meet.l2 k x0 x1 x2 x3)) else (none)) else (none)) else (none)) else (none)
def dom_meet.l2 : Nat → List Int → List Int → Int → Int → Option (Int)
 | 0, _, _, _, _ => none
 | k + 1, x0, x1, x2, x3 => if 0 ≤ x3 then (if x3 < (x1.length : Int) then (if 0 ≤ x2 then (if x2 < (x1.length : Int) then (if (rd x1 x3) > (rd x1 x2) then (if x3 < (x0.length : Int) then (dom_meet.l2 k x0 x1 x2 (rd x0 x3)) else (none)) else (dom_meet.l0 k x0 x1 x2 x3)) else (none)) else (none)) else (none)) else (none)
end
def dom_meet.f (k : Nat) (l0 : List Int) (l1 : List Int) (a2 : Int) (a3 : Int) : Option (Int) := dom_meet.l0 k l0 l1 a2 a3
theorem dom_meet.mono_l : ∀ k, (∀ y0 y1 y2 y3, LeO (dom_meet.l0 k y0 y1 y2 y3) (dom_meet.l0 (k + 1) y0 y1 y2 y3)) ∧ (∀ y0 y1 y2 y3, LeO (dom_meet.l1 k y0 y1 y2 y3) (dom_meet.l1 (k + 1) y0 y1 y2 y3)) ∧ (∀ y0 y1 y2 y3, LeO (dom_meet.l2 k y0 y1 y2 y3) (dom_meet.l2 (k + 1) y0 y1 y2 y3))
 | 0 => ⟨fun _ _ _ _ r h => by simp [dom_meet.l0] at h, fun _ _ _ _ r h => by simp [dom_meet.l1] at h, fun _ _ _ _ r h => by simp [dom_meet.l2] at h⟩
 | k + 1 => by
  obtain ⟨ih0, ih1, ih2⟩ := dom_meet.mono_l k
  refine ⟨?_, ?_, ?_⟩
  ·intro y0 y1 y2 y3
   unfold dom_meet.l0
   repeat' first
   | (with_reducible exact ih0 _ _ _ _)
   | (with_reducible exact ih1 _ _ _ _)
   | (with_reducible exact ih2 _ _ _ _)
   | (with_reducible exact LeO.refl _)
   | (with_reducible exact LeO.none _)
   | (with_reducible refine LeO.ite ?_ ?_)
   | (with_reducible refine LeO.bind ?_ (fun _ => ?_))
   | exact ih0 _ _ _ _
   | exact ih1 _ _ _ _
   | exact ih2 _ _ _ _
   | exact LeO.none _
   | refine LeO.ite ?_ ?_
   | refine LeO.bind ?_ (fun _ => ?_)
  ·intro y0 y1 y2 y3
   unfold dom_meet.l1
   repeat' first
   | (with_reducible exact ih0 _ _ _ _)
   | (with_reducible exact ih1 _ _ _ _)
   | (with_reducible exact ih2 _ _ _ _)
   | (with_reducible exact LeO.refl _)
   | (with_reducible exact LeO.none _)
   | (with_reducible refine LeO.ite ?_ ?_)
   | (with_reducible refine LeO.bind ?_ (fun _ => ?_))
   | exact ih0 _ _ _ _
   | exact ih1 _ _ _ _
   | exact ih2 _ _ _ _
   | exact LeO.none _
   | refine LeO.ite ?_ ?_
   | refine LeO.bind ?_ (fun _ => ?_)
  ·intro y0 y1 y2 y3
   unfold dom_meet.l2
   repeat' first
   | (with_reducible exact ih0 _ _ _ _)
   | (with_reducible exact ih1 _ _ _ _)
   | (with_reducible exact ih2 _ _ _ _)
   | (with_reducible exact LeO.refl _)
   | (with_reducible exact LeO.none _)
   | (with_reducible refine LeO.ite ?_ ?_)
   | (with_reducible refine LeO.bind ?_ (fun _ => ?_))
   | exact ih0 _ _ _ _
   | exact ih1 _ _ _ _
   | exact ih2 _ _ _ _
   | exact LeO.none _
   | refine LeO.ite ?_ ?_
   | refine LeO.bind ?_ (fun _ => ?_)
theorem dom_meet.mono : ∀ a0 a1 a2 a3 k, LeO (dom_meet.f k a0 a1 a2 a3) (dom_meet.f (k + 1) a0 a1 a2 a3) := by
 intro a0 a1 a2 a3 k
 obtain ⟨ih0, ih1, ih2⟩ := dom_meet.mono_l k
 unfold dom_meet.f
 repeat' first
  | (with_reducible exact ih0 _ _ _ _)
  | (with_reducible exact ih1 _ _ _ _)
  | (with_reducible exact ih2 _ _ _ _)
  | (with_reducible exact LeO.refl _)
  | (with_reducible exact LeO.none _)
  | (with_reducible refine LeO.ite ?_ ?_)
  | (with_reducible refine LeO.bind ?_ (fun _ => ?_))
  | exact ih0 _ _ _ _
  | exact ih1 _ _ _ _
  | exact ih2 _ _ _ _
  | exact LeO.none _
  | refine LeO.ite ?_ ?_
  | refine LeO.bind ?_ (fun _ => ?_)
set_option maxHeartbeats 8000000 in
set_option maxRecDepth 100000 in
theorem dom_meet.calls (k : Nat) (A0 : Option Addr) (c0 : Nat) (l0 : List Int) (A1 : Option Addr) (c1 : Nat) (l1 : List Int) (a2 : Int) (a3 : Int) (r : Int) (w : World) (hr0 : Kd.C (Kd.int .i64) w A0 l0.length l0) (hc0 : l0.length ≤ c0) (hr1 : Kd.C (Kd.int .i64) w A1 l1.length l1) (hc1 : l1.length ≤ c1) (h : dom_meet.f k l0 l1 a2 a3 = some r) :
 Calls Try.prog 32 #[.slice A0 l0.length c0, .slice A1 l1.length c1, .int .i64 a2, .int .i64 a3] w fun e w' => e = .returned (.int .i64 r) ∧ Drawn0 w w' := by
 have HR0 := Aside0.mk hr0
 have HC0 := Aside0.mk hc0
 clear hr0 hc0
 have HR1 := Aside0.mk hr1
 have HC1 := Aside0.mk hc1
 clear hr1 hc1
 have H : (dom_meet.l0 k l0 l1 a2 a3) = some r := h
 clear h
 have H' := Aside0.mk H
 clear H
 go_enter Try.func32, Try.ntmps32
 go_wp2
 repeat (go_quiet (fail); try go_wp2)
 go_loopg [2, 3] k (fun kq v2 v3 w' => ∃ (x2_1 : Int) (x3_1 : Int), v2 = .int .i64 x2_1 ∧ v3 = .int .i64 x3_1 ∧ Aside0 (dom_meet.l0 kq l0 l1 x2_1 x3_1 = some r) ∧ Aside0 (kq ≤ k) ∧ Drawn0 w w')
 case atStart => exact ⟨(a2), (a3), (by first | rfl | (simp; done) | (simp [*]; done)), (by first | rfl | (simp; done) | (simp [*]; done)), H', ⟨Nat.le_refl _⟩, by repeat (first | exact Drawn0.refl _ | apply Drawn0.step)⟩
 case round =>
  clear H'
  try clear c1
  obtain ⟨x2_1, x3_1, rfl, rfl, HA, HK1, ⟨m1, rfl⟩⟩ := hrel
  cases gk with
  | zero => exact absurd HA.out (by simp [dom_meet.l0])
  | succ k1 =>
   have H := HA.out
   clear HA
   simp only [dom_meet.l0] at H
   by_cases c5 : x2_1 = x3_1
   ·rw [if_pos c5] at H
    have c5b0 : (x2_1 == x3_1) = true := beq_iff_eq.mpr c5
    have c5b1 : (x2_1 != x3_1) = false := bne_eq_false_iff_eq.mpr c5
    clear c5
    obtain rfl := Option.some.inj H
    go_wp2
    repeat (go_quiet (fail); try go_wp2)
    go_ret
    exact ⟨by first | rfl | (simp; done) | (simp [*]; done), by repeat (first | exact Drawn0.refl _ | apply Drawn0.step)⟩
   rw [if_neg c5] at H
   have c5b0 : (x2_1 == x3_1) = false := beq_eq_false_iff_ne.mpr c5
   have c5b1 : (x2_1 != x3_1) = true := bne_iff_ne.mpr c5
   have H' := Aside0.mk H
   clear H
   go_wp2
   repeat (go_quiet (fail); try go_wp2)
   go_loopg [2] k1 (fun kq v2 w' => ∃ (x2_2 : Int), v2 = .int .i64 x2_2 ∧ Aside0 (dom_meet.l1 kq l0 l1 x2_2 x3_1 = some r) ∧ Aside0 (kq ≤ k1) ∧ Drawn0 w w')
   case atStart => exact ⟨(x2_1), (by first | rfl | (simp; done) | (simp [*]; done)), H', ⟨Nat.le_refl _⟩, by repeat (first | exact Drawn0.refl _ | apply Drawn0.step)⟩
   case round =>
    clear H'
    try clear c5
    try clear c5b0
    try clear c5b1
    obtain ⟨x2_2, rfl, HA, HK2, ⟨m2, rfl⟩⟩ := hrel
    cases gk with
    | zero => exact absurd HA.out (by simp [dom_meet.l1])
    | succ k2 =>
     have H := HA.out
     clear HA
     simp only [dom_meet.l1] at H
     by_cases c6 : 0 ≤ x2_2
     ·rw [if_pos c6] at H
      have c6b0 : decide (0 ≤ x2_2) = true := decide_eq_true c6
      clear c6
      by_cases c7 : x2_2 < (l1.length : Int)
      ·rw [if_pos c7] at H
       have c7b0 : decide (x2_2 < (l1.length : Int)) = true := decide_eq_true c7
       clear c7
       by_cases c8 : 0 ≤ x3_1
       ·rw [if_pos c8] at H
        have c8b0 : decide (0 ≤ x3_1) = true := decide_eq_true c8
        clear c8
        by_cases c9 : x3_1 < (l1.length : Int)
        ·rw [if_pos c9] at H
         have c9b0 : decide (x3_1 < (l1.length : Int)) = true := decide_eq_true c9
         clear c9
         by_cases c10 : (rd l1 x2_2) > (rd l1 x3_1)
         ·rw [if_pos c10] at H
          have c10b0 : decide ((rd l1 x3_1) < (rd l1 x2_2)) = true := decide_eq_true c10
          clear c10
          by_cases c11 : x2_2 < (l0.length : Int)
          ·rw [if_pos c11] at H
           have c11b0 : decide (x2_2 < (l0.length : Int)) = true := decide_eq_true c11
           clear c11
           have H' := Aside0.mk H
           clear H
           have p206 : 0 ≤ (x2_2 : Int) := D_
           have q206 : x2_2 < (l1.length : Int) := D_
           obtain ⟨ad206, e206, hx206_0⟩ := Kd.at_int HR1.out x2_2 p206 q206
           cases e206
           replace p206 := eq_true p206
           replace q206 := eq_true q206
           have p207 : 0 ≤ (x3_1 : Int) := D_
           have q207 : x3_1 < (l1.length : Int) := D_
           obtain ⟨ad207, e207, hx207_0⟩ := Kd.at_int HR1.out x3_1 p207 q207
           obtain rfl : ad206 = ad207 := (by injection e207)
           replace p207 := eq_true p207
           replace q207 := eq_true q207
           have p208 : 0 ≤ (x2_2 : Int) := D_
           have q208 : x2_2 < (l0.length : Int) := D_
           obtain ⟨ad208, e208, hx208_0⟩ := Kd.at_int HR0.out x2_2 p208 q208
           cases e208
           replace p208 := eq_true p208
           replace q208 := eq_true q208
           go_wp2
           repeat (go_quiet (fail); try go_wp2)
           go_roundg k2
           case measure => have := HK1.out; have := HK2.out; omega
           case rel => exact ⟨(rd l0 x2_2), (by first | rfl | (simp; done) | (simp [*]; done)), H', ⟨by have := HK1.out; have := HK2.out; omega⟩, by repeat (first | exact Drawn0.refl _ | apply Drawn0.step)⟩
          rw [if_neg c11] at H
          exact absurd H (by simp)
         rw [if_neg c10] at H
         have c10b0 : decide ((rd l1 x3_1) < (rd l1 x2_2)) = false := decide_eq_false c10
         clear c10
         have H' := Aside0.mk H
         clear H
         have p206 : 0 ≤ (x2_2 : Int) := D_
         have q206 : x2_2 < (l1.length : Int) := D_
         obtain ⟨ad206, e206, hx206_0⟩ := Kd.at_int HR1.out x2_2 p206 q206
         cases e206
         replace p206 := eq_true p206
         replace q206 := eq_true q206
         have p207 : 0 ≤ (x3_1 : Int) := D_
         have q207 : x3_1 < (l1.length : Int) := D_
         obtain ⟨ad207, e207, hx207_0⟩ := Kd.at_int HR1.out x3_1 p207 q207
         obtain rfl : ad206 = ad207 := (by injection e207)
         replace p207 := eq_true p207
         replace q207 := eq_true q207
         go_wp2
         repeat (go_quiet (fail); try go_wp2)
         go_loopg [3] k2 (fun kq v3 w' => ∃ (x3_3 : Int), v3 = .int .i64 x3_3 ∧ Aside0 (dom_meet.l2 kq l0 l1 x2_2 x3_3 = some r) ∧ Aside0 (kq ≤ k2) ∧ Drawn0 w w')
         case atStart => exact ⟨(x3_1), (by first | rfl | (simp; done) | (simp [*]; done)), H', ⟨Nat.le_refl _⟩, by repeat (first | exact Drawn0.refl _ | apply Drawn0.step)⟩
         case round =>
          clear H'
          try clear c6b0
          try clear c7b0
          try clear c8b0
          try clear c9b0
          try clear c10b0
          try clear hx206_0
          try clear hx207_0
          try clear p206
          try clear p207
          try clear q206
          try clear q207
          obtain ⟨x3_3, rfl, HA, HK3, ⟨m3, rfl⟩⟩ := hrel
          cases gk with
          | zero => exact absurd HA.out (by simp [dom_meet.l2])
          | succ k3 =>
           have H := HA.out
           clear HA
           simp only [dom_meet.l2] at H
           by_cases c12 : 0 ≤ x3_3
           ·rw [if_pos c12] at H
            have c12b0 : decide (0 ≤ x3_3) = true := decide_eq_true c12
            clear c12
            by_cases c13 : x3_3 < (l1.length : Int)
            ·rw [if_pos c13] at H
             have c13b0 : decide (x3_3 < (l1.length : Int)) = true := decide_eq_true c13
             clear c13
             by_cases c14 : 0 ≤ x2_2
             ·rw [if_pos c14] at H
              have c14b0 : decide (0 ≤ x2_2) = true := decide_eq_true c14
              clear c14
              by_cases c15 : x2_2 < (l1.length : Int)
              ·rw [if_pos c15] at H
               have c15b0 : decide (x2_2 < (l1.length : Int)) = true := decide_eq_true c15
               clear c15
               by_cases c16 : (rd l1 x3_3) > (rd l1 x2_2)
               ·rw [if_pos c16] at H
                have c16b0 : decide ((rd l1 x2_2) < (rd l1 x3_3)) = true := decide_eq_true c16
                clear c16
                by_cases c17 : x3_3 < (l0.length : Int)
                ·rw [if_pos c17] at H
                 have c17b0 : decide (x3_3 < (l0.length : Int)) = true := decide_eq_true c17
                 clear c17
                 have H' := Aside0.mk H
                 clear H
                 have p209 : 0 ≤ (x3_3 : Int) := D_
                 have q209 : x3_3 < (l1.length : Int) := D_
                 obtain ⟨ad209, e209, hx209_0⟩ := Kd.at_int HR1.out x3_3 p209 q209
                 obtain rfl : ad206 = ad209 := (by injection e209)
                 replace p209 := eq_true p209
                 replace q209 := eq_true q209
                 have p210 : 0 ≤ (x2_2 : Int) := D_
                 have q210 : x2_2 < (l1.length : Int) := D_
                 obtain ⟨ad210, e210, hx210_0⟩ := Kd.at_int HR1.out x2_2 p210 q210
                 obtain rfl : ad206 = ad210 := (by injection e210)
                 replace p210 := eq_true p210
                 replace q210 := eq_true q210
                 have p211 : 0 ≤ (x3_3 : Int) := D_
                 have q211 : x3_3 < (l0.length : Int) := D_
                 obtain ⟨ad211, e211, hx211_0⟩ := Kd.at_int HR0.out x3_3 p211 q211
                 cases e211
                 replace p211 := eq_true p211
                 replace q211 := eq_true q211
                 go_wp2
                 repeat (go_quiet (fail); try go_wp2)
                 go_roundg k3
                 case measure => have := HK1.out; have := HK2.out; have := HK3.out; omega
                 case rel => exact ⟨(rd l0 x3_3), (by first | rfl | (simp; done) | (simp [*]; done)), H', ⟨by have := HK1.out; have := HK2.out; have := HK3.out; omega⟩, by repeat (first | exact Drawn0.refl _ | apply Drawn0.step)⟩
                rw [if_neg c17] at H
                exact absurd H (by simp)
               rw [if_neg c16] at H
               have c16b0 : decide ((rd l1 x2_2) < (rd l1 x3_3)) = false := decide_eq_false c16
               clear c16
               have H' := Aside0.mk H
               clear H
               have p209 : 0 ≤ (x3_3 : Int) := D_
               have q209 : x3_3 < (l1.length : Int) := D_
               obtain ⟨ad209, e209, hx209_0⟩ := Kd.at_int HR1.out x3_3 p209 q209
               obtain rfl : ad206 = ad209 := (by injection e209)
               replace p209 := eq_true p209
               replace q209 := eq_true q209
               have p210 : 0 ≤ (x2_2 : Int) := D_
               have q210 : x2_2 < (l1.length : Int) := D_
               obtain ⟨ad210, e210, hx210_0⟩ := Kd.at_int HR1.out x2_2 p210 q210
               obtain rfl : ad206 = ad210 := (by injection e210)
               replace p210 := eq_true p210
               replace q210 := eq_true q210
               go_wp2
               repeat (go_quiet (fail); try go_wp2)
               go_roundg k3
               case measure => have := HK1.out; have := HK2.out; have := HK3.out; omega
               case rel => exact ⟨(x2_2), (x3_3), (by first | rfl | (simp; done) | (simp [*]; done)), (by first | rfl | (simp; done) | (simp [*]; done)), H', ⟨by have := HK1.out; have := HK2.out; have := HK3.out; omega⟩, by repeat (first | exact Drawn0.refl _ | apply Drawn0.step)⟩
              rw [if_neg c15] at H
              exact absurd H (by simp)
             rw [if_neg c14] at H
             exact absurd H (by simp)
            rw [if_neg c13] at H
            exact absurd H (by simp)
           rw [if_neg c12] at H
           exact absurd H (by simp)
        rw [if_neg c9] at H
        exact absurd H (by simp)
       rw [if_neg c8] at H
       exact absurd H (by simp)
      rw [if_neg c7] at H
      exact absurd H (by simp)
     rw [if_neg c6] at H
     exact absurd H (by simp)


/-! ### dom_Tree: function 22 -/
mutual
def dom_Tree.l0 : Nat → Int → List Int → List Int → List Int → List Int → Int → Int → List (List Int) → List (List Int) → Option (List Int)
 | 0, _, _, _, _, _, _, _, _, _ => none
 | k + 1, x1, x5, x7, x8, x30, x31, x32, x213000, x213001 => if x32 < x31 then (if 0 ≤ x32 then (if x32 < (x30.length : Int) then (if 0 ≤ (rd x30 x32) then (if (rd x30 x32) < (x8.length : Int) then (dom_Tree.l0 k x1 x5 x7 (x8.set ((rd x30 x32) : Int).toNat x32) x30 x31 (wrap64 (x32 + 1)) x213000 x213001) else (none)) else (none)) else (none)) else (none)) else (if 0 ≤ x1 then (if x1 < (x7.length : Int) then (dom_Tree.l1 k x1 x5 (x7.set (x1 : Int).toNat x1) x8 x213000 x213001) else (none)) else (none))
def dom_Tree.l1 : Nat → Int → List Int → List Int → List Int → List (List Int) → List (List Int) → Option (List Int)
 | 0, _, _, _, _, _, _ => none
 | k + 1, x1, x5, x7, x8, x213000, x213001 => if 1 ≤ (x5.length : Int) then ((some (x5.drop 1 : List Int)).bind fun y228 => (dom_Tree.l2 k x1 x5 x7 x8 y228 (y228.length : Int) 0 x213000 x213001)) else (none)
def dom_Tree.l2 : Nat → Int → List Int → List Int → List Int → List Int → Int → Int → List (List Int) → List (List Int) → Option (List Int)
 | 0, _, _, _, _, _, _, _, _, _ => none
 | k + 1, x1, x5, x7, x8, x47, x48, x49, x213000, x213001 => if x49 < x48 then (if 0 ≤ x49 then (if x49 < (x47.length : Int) then (if 0 ≤ (rd x47 x49) then (if (rd x47 x49) < (x213001.length : Int) then (dom_Tree.l3 k x1 x5 x7 x8 (rd x47 x49) (-2) x47 x48 x49 (rd_L1 x213001 (rd x47 x49)) ((rd_L1 x213001 (rd x47 x49)).length : Int) 0 x213000 x213001) else (none)) else (none)) else (none)) else (none)) else (if 0 ≤ x1 then (if x1 < (x7.length : Int) then (some (x7.set (x1 : Int).toNat (-1))) else (none)) else (none))
def dom_Tree.l3 : Nat → Int → List Int → List Int → List Int → Int → Int → List Int → Int → Int → List Int → Int → Int → List (List Int) → List (List Int) → Option (List Int)
 | 0, _, _, _, _, _, _, _, _, _, _, _, _, _, _ => none
 | k + 1, x1, x5, x7, x8, x12, x13, x47, x48, x49, x57, x58, x59, x213000, x213001 => if x59 < x58 then (if 0 ≤ x59 then (if x59 < (x57.length : Int) then (if 0 ≤ (rd x57 x59) then (if (rd x57 x59) < (x7.length : Int) then (if (rd x7 (rd x57 x59)) = (-2) then (dom_Tree.l3 k x1 x5 x7 x8 x12 x13 x47 x48 x49 x57 x58 (wrap64 (x59 + 1)) x213000 x213001) else (if x13 = (-2) then (dom_Tree.l3 k x1 x5 x7 x8 x12 (rd x57 x59) x47 x48 x49 x57 x58 (wrap64 (x59 + 1)) x213000 x213001) else ((dom_meet.f k x7 x8 x13 (rd x57 x59)).bind fun t239 => (dom_Tree.l3 k x1 x5 x7 x8 x12 t239 x47 x48 x49 x57 x58 (wrap64 (x59 + 1)) x213000 x213001)))) else (none)) else (none)) else (none)) else (none)) else (if 0 ≤ x12 then (if x12 < (x7.length : Int) then (if (rd x7 x12) = x13 then (dom_Tree.l2 k x1 x5 x7 x8 x47 x48 (wrap64 (x49 + 1)) x213000 x213001) else (dom_Tree.l1 k x1 x5 (x7.set (x12 : Int).toNat x13) x8 x213000 x213001)) else (none)) else (none))
end
def dom_Tree.f (k : Nat) (l0_0 : List (List Int)) (l0_1 : List (List Int)) (a1 : Int) : Option (List Int) := (graph_Order.f k l0_0 l0_1 a1).bind fun t213 => (if (t213.length : Int) = 0 then (some ([] : List Int)) else ((slices_Repeat_int_int.f (([(-2)] : List Int)) (l0_0.length : Int)).bind fun t219 => (if 0 ≤ (l0_0.length : Int) then (if ((l0_0.length : Int) : Int).toNat ≤ 35184372088832 then (dom_Tree.l0 k a1 t213 t219 (List.replicate ((l0_0.length : Int) : Int).toNat 0) t213 (t213.length : Int) 0 l0_0 l0_1) else (none)) else (none))))
theorem dom_Tree.mono_l : ∀ k, (∀ y0 y1 y2 y3 y4 y5 y6 y7 y8, LeO (dom_Tree.l0 k y0 y1 y2 y3 y4 y5 y6 y7 y8) (dom_Tree.l0 (k + 1) y0 y1 y2 y3 y4 y5 y6 y7 y8)) ∧ (∀ y0 y1 y2 y3 y4 y5, LeO (dom_Tree.l1 k y0 y1 y2 y3 y4 y5) (dom_Tree.l1 (k + 1) y0 y1 y2 y3 y4 y5)) ∧ (∀ y0 y1 y2 y3 y4 y5 y6 y7 y8, LeO (dom_Tree.l2 k y0 y1 y2 y3 y4 y5 y6 y7 y8) (dom_Tree.l2 (k + 1) y0 y1 y2 y3 y4 y5 y6 y7 y8)) ∧ (∀ y0 y1 y2 y3 y4 y5 y6 y7 y8 y9 y10 y11 y12 y13, LeO (dom_Tree.l3 k y0 y1 y2 y3 y4 y5 y6 y7 y8 y9 y10 y11 y12 y13) (dom_Tree.l3 (k + 1) y0 y1 y2 y3 y4 y5 y6 y7 y8 y9 y10 y11 y12 y13))
 | 0 => ⟨fun _ _ _ _ _ _ _ _ _ r h => by simp [dom_Tree.l0] at h, fun _ _ _ _ _ _ r h => by simp [dom_Tree.l1] at h, fun _ _ _ _ _ _ _ _ _ r h => by simp [dom_Tree.l2] at h, fun _ _ _ _ _ _ _ _ _ _ _ _ _ _ r h => by simp [dom_Tree.l3] at h⟩
 | k + 1 => by
  obtain ⟨ih0, ih1, ih2, ih3⟩ := dom_Tree.mono_l k
  refine ⟨?_, ?_, ?_, ?_⟩
  ·intro y0 y1 y2 y3 y4 y5 y6 y7 y8
   unfold dom_Tree.l0
   repeat' first
   | (with_reducible exact ih0 _ _ _ _ _ _ _ _ _)
   | (with_reducible exact ih1 _ _ _ _ _ _)
   | (with_reducible exact ih2 _ _ _ _ _ _ _ _ _)
   | (with_reducible exact ih3 _ _ _ _ _ _ _ _ _ _ _ _ _ _)
   | (with_reducible exact dom_meet.mono _ _ _ _ _)
   | (with_reducible exact graph_Order.mono _ _ _ _)
   | (with_reducible exact LeO.refl _)
   | (with_reducible exact LeO.none _)
   | (with_reducible refine LeO.ite ?_ ?_)
   | (with_reducible refine LeO.bind ?_ (fun _ => ?_))
   | exact ih0 _ _ _ _ _ _ _ _ _
   | exact ih1 _ _ _ _ _ _
   | exact ih2 _ _ _ _ _ _ _ _ _
   | exact ih3 _ _ _ _ _ _ _ _ _ _ _ _ _ _
   | exact dom_meet.mono _ _ _ _ _
   | exact graph_Order.mono _ _ _ _
   | exact LeO.none _
   | refine LeO.ite ?_ ?_
   | refine LeO.bind ?_ (fun _ => ?_)
  ·intro y0 y1 y2 y3 y4 y5
   unfold dom_Tree.l1
   repeat' first
   | (with_reducible exact ih0 _ _ _ _ _ _ _ _ _)
   | (with_reducible exact ih1 _ _ _ _ _ _)
   | (with_reducible exact ih2 _ _ _ _ _ _ _ _ _)
   | (with_reducible exact ih3 _ _ _ _ _ _ _ _ _ _ _ _ _ _)
   | (with_reducible exact dom_meet.mono _ _ _ _ _)
   | (with_reducible exact graph_Order.mono _ _ _ _)
   | (with_reducible exact LeO.refl _)
   | (with_reducible exact LeO.none _)
   | (with_reducible refine LeO.ite ?_ ?_)
   | (with_reducible refine LeO.bind ?_ (fun _ => ?_))
   | exact ih0 _ _ _ _ _ _ _ _ _
   | exact ih1 _ _ _ _ _ _
   | exact ih2 _ _ _ _ _ _ _ _ _
   | exact ih3 _ _ _ _ _ _ _ _ _ _ _ _ _ _
   | exact dom_meet.mono _ _ _ _ _
   | exact graph_Order.mono _ _ _ _
   | exact LeO.none _
   | refine LeO.ite ?_ ?_
   | refine LeO.bind ?_ (fun _ => ?_)
  ·intro y0 y1 y2 y3 y4 y5 y6 y7 y8
   unfold dom_Tree.l2
   repeat' first
   | (with_reducible exact ih0 _ _ _ _ _ _ _ _ _)
   | (with_reducible exact ih1 _ _ _ _ _ _)
   | (with_reducible exact ih2 _ _ _ _ _ _ _ _ _)
   | (with_reducible exact ih3 _ _ _ _ _ _ _ _ _ _ _ _ _ _)
   | (with_reducible exact dom_meet.mono _ _ _ _ _)
   | (with_reducible exact graph_Order.mono _ _ _ _)
   | (with_reducible exact LeO.refl _)
   | (with_reducible exact LeO.none _)
   | (with_reducible refine LeO.ite ?_ ?_)
   | (with_reducible refine LeO.bind ?_ (fun _ => ?_))
   | exact ih0 _ _ _ _ _ _ _ _ _
   | exact ih1 _ _ _ _ _ _
   | exact ih2 _ _ _ _ _ _ _ _ _
   | exact ih3 _ _ _ _ _ _ _ _ _ _ _ _ _ _
   | exact dom_meet.mono _ _ _ _ _
   | exact graph_Order.mono _ _ _ _
   | exact LeO.none _
   | refine LeO.ite ?_ ?_
   | refine LeO.bind ?_ (fun _ => ?_)
  ·intro y0 y1 y2 y3 y4 y5 y6 y7 y8 y9 y10 y11 y12 y13
   unfold dom_Tree.l3
   repeat' first
   | (with_reducible exact ih0 _ _ _ _ _ _ _ _ _)
   | (with_reducible exact ih1 _ _ _ _ _ _)
   | (with_reducible exact ih2 _ _ _ _ _ _ _ _ _)
   | (with_reducible exact ih3 _ _ _ _ _ _ _ _ _ _ _ _ _ _)
   | (with_reducible exact dom_meet.mono _ _ _ _ _)
   | (with_reducible exact graph_Order.mono _ _ _ _)
   | (with_reducible exact LeO.refl _)
   | (with_reducible exact LeO.none _)
   | (with_reducible refine LeO.ite ?_ ?_)
   | (with_reducible refine LeO.bind ?_ (fun _ => ?_))
   | exact ih0 _ _ _ _ _ _ _ _ _
   | exact ih1 _ _ _ _ _ _
   | exact ih2 _ _ _ _ _ _ _ _ _
   | exact ih3 _ _ _ _ _ _ _ _ _ _ _ _ _ _
   | exact dom_meet.mono _ _ _ _ _
   | exact graph_Order.mono _ _ _ _
   | exact LeO.none _
   | refine LeO.ite ?_ ?_
   | refine LeO.bind ?_ (fun _ => ?_)
theorem dom_Tree.mono : ∀ a0 a1 a2 k, LeO (dom_Tree.f k a0 a1 a2) (dom_Tree.f (k + 1) a0 a1 a2) := by
 intro a0 a1 a2 k
 obtain ⟨ih0, ih1, ih2, ih3⟩ := dom_Tree.mono_l k
 unfold dom_Tree.f
 repeat' first
  | (with_reducible exact ih0 _ _ _ _ _ _ _ _ _)
  | (with_reducible exact ih1 _ _ _ _ _ _)
  | (with_reducible exact ih2 _ _ _ _ _ _ _ _ _)
  | (with_reducible exact ih3 _ _ _ _ _ _ _ _ _ _ _ _ _ _)
  | (with_reducible exact dom_meet.mono _ _ _ _ _)
  | (with_reducible exact graph_Order.mono _ _ _ _)
  | (with_reducible exact LeO.refl _)
  | (with_reducible exact LeO.none _)
  | (with_reducible refine LeO.ite ?_ ?_)
  | (with_reducible refine LeO.bind ?_ (fun _ => ?_))
  | exact ih0 _ _ _ _ _ _ _ _ _
  | exact ih1 _ _ _ _ _ _
  | exact ih2 _ _ _ _ _ _ _ _ _
  | exact ih3 _ _ _ _ _ _ _ _ _ _ _ _ _ _
  | exact dom_meet.mono _ _ _ _ _
  | exact graph_Order.mono _ _ _ _
  | exact LeO.none _
  | refine LeO.ite ?_ ?_
  | refine LeO.bind ?_ (fun _ => ?_)
set_option maxHeartbeats 8000000 in
set_option maxRecDepth 100000 in
theorem dom_Tree.calls (k : Nat) (A0_0 : Option Addr) (c0_0 : Nat) (l0_0 : List (List Int)) (A0_1 : Option Addr) (c0_1 : Nat) (l0_1 : List (List Int)) (a1 : Int) (r : List Int) (w : World) (hr0_0 : Kd.C (Kd.slice 3 (Kd.int .i64)) w A0_0 l0_0.length l0_0) (hc0_0 : l0_0.length ≤ c0_0) (hr0_1 : Kd.C (Kd.slice 3 (Kd.int .i64)) w A0_1 l0_1.length l0_1) (hc0_1 : l0_1.length ≤ c0_1) (h : dom_Tree.f k l0_0 l0_1 a1 = some r) :
 Calls Try.prog 22 #[.agg #[.slice A0_0 l0_0.length c0_0, .slice A0_1 l0_1.length c0_1], .int .i64 a1] w fun e w' => ∃ v0_ : Value, e = .returned (v0_) ∧ Kd.R (Kd.int .i64) 3 w' w.heap.size (fun _ => True) v0_ r ∧ Below w.heap.size w w' := by
 have hu26 := Try.underlying26
 have HR0_0 := Aside0.mk hr0_0
 have HC0_0 := Aside0.mk hc0_0
 clear hr0_0 hc0_0
 have HR0_1 := Aside0.mk hr0_1
 have HC0_1 := Aside0.mk hc0_1
 clear hr0_1 hc0_1
 have HB := Aside0.mk (Below.refl w.heap.size w)
 have H : ((graph_Order.f k l0_0 l0_1 a1).bind fun t213 => (if (t213.length : Int) = 0 then (some ([] : List Int)) else ((slices_Repeat_int_int.f (([(-2)] : List Int)) (l0_0.length : Int)).bind fun t219 => (if 0 ≤ (l0_0.length : Int) then (if ((l0_0.length : Int) : Int).toNat ≤ 35184372088832 then (dom_Tree.l0 k a1 t213 t219 (List.replicate ((l0_0.length : Int) : Int).toNat 0) t213 (t213.length : Int) 0 l0_0 l0_1) else (none)) else (none))))) = some r := h
 clear h
 have H' := Aside0.mk H
 clear H
 go_enter Try.func22, Try.ntmps22
 go_wp2_with (first | ((with_reducible refine gate_dst (N := 2) rfl ?_); refine box_event ?hg (N := 2) ?hd (cs := #[.slice A0_0 l0_0.length c0_0, .slice A0_1 l0_1.length c0_1]) (t := 26) ?hr ?_; (case hd => rfl); (case hg => rfl); (case hr => first | (go_simp; done) | (go_simp; rfl)); intro gb212 hg w3 hbox hb; have n0_ := Aside0.mk (below_step (B_) hb); have n1_ := Aside0.mk (hbox); have n2_ := Aside0.mk ((by rw [hg]; exact (below_size (B_)) : w.heap.size ≤ gb212)); have n3_ := Aside0.mk ((by rw [hg]; exact (below_size (B_)) : w.heap.size ≤ gb212)); clear HB; have HB := n0_; have BK212 := n1_; have GW212 := n2_; have GE212 := n3_; clear n0_ n1_ n2_ n3_; clear hb hbox hg))
 apply lab_enter 0; (case hf => rfl)
 have H := H'.out
 clear H'
 replace H := Option.bind_eq_some_iff.mp H
 obtain ⟨t213, A40, H⟩ := H
 replace H : (if (t213.length : Int) = 0 then (some ([] : List Int)) else ((slices_Repeat_int_int.f (([(-2)] : List Int)) (l0_0.length : Int)).bind fun t219 => (if 0 ≤ (l0_0.length : Int) then (if ((l0_0.length : Int) : Int).toNat ≤ 35184372088832 then (dom_Tree.l0 k a1 t213 t219 (List.replicate ((l0_0.length : Int) : Int).toNat 0) t213 (t213.length : Int) 0 l0_0 l0_1) else (none)) else (none)))) = some r := H
 have A4 := Aside0.mk A40
 clear A40
 by_cases c5 : (t213.length : Int) = 0
 ·rw [if_pos c5] at H
  have c5b0 : ((t213.length : Int) == 0) = true := beq_iff_eq.mpr c5
  have c5b1 : ((t213.length : Int) != 0) = false := bne_eq_false_iff_eq.mpr c5
  clear c5
  obtain rfl := Option.some.inj H
  have hcz6_0 : w3.cell? ⟨gb212, 0, none⟩ = some (.slice A0_0 l0_0.length c0_0) := (blk_cell BK212.out 0).trans rfl
  have hcz6_1 : w3.cell? ⟨gb212, 1, none⟩ = some (.slice A0_1 l0_1.length c0_1) := (blk_cell BK212.out 1).trans rfl
  have hfz6_0 := blk_frozen BK212.out 0
  have hfz6_1 := blk_frozen BK212.out 1
  go_wp2_with (first | ((with_reducible refine gate_callee (f := 30) rfl ?_); refine goesL_ (some 18) rfl rfl Try.func30 (by kernel_rfl) rfl #[.agg #[.slice A0_0 l0_0.length c0_0, .slice A0_1 l0_1.length c0_1], .int .i64 a1] rfl (by (try simp only [List.map_toArray, List.map_cons, List.map_nil]); first | done | rfl | (simp only [List.length_drop, List.length_take]; rfl)) ?_; (with_reducible refine (graph_Order.calls k _ _ l0_0 _ _ l0_1 a1 t213 _ ?side1 ?side2 ?side3 ?side4 A4.out).mono ?_); (case side1 => exact CX_ (Kd.C_below HR0_0.out HB.out)); (case side2 => exact HC0_0.out); (case side3 => exact CX_ (Kd.C_below HR0_1.out HB.out)); (case side4 => exact HC0_1.out); rintro e w7 ⟨v214, rfl, ho0, hb⟩; refine ⟨_, rfl, ?_⟩; have n0_ := Aside0.mk (Kd.R_lower ho0 (below_size (B1_))); have n1_ := Aside0.mk (blk_below (g := gb212) (o := .cells #[.slice A0_0 l0_0.length c0_0, .slice A0_1 l0_1.length c0_1] 26 (0, 0)) (by exact KX_ BK212.out) hb); have n2_ := Aside0.mk (below_step (B1_) hb); clear BK212; clear HB; have HO215 := n0_; have BK212 := n1_; have HB := n2_; clear n0_ n1_ n2_; (try clear hb); (try clear hb2); (try clear hk); (try clear hi); (try clear ho0); obtain ⟨Ao8, co8, eo8⟩ := Kd.R_slice HO215.out; subst eo8))
  (try simp only [jumpg_ret, Exit.then, Exit.inBlock])
  go_ret
  exact ⟨_, by first | rfl | (simp [errW_none, errW_some] <;> rfl) | (simp [*, errW_none, errW_some] <;> rfl), by first | exact Kd.R_nil _ _ _ _ _ | exact Kd.N_nil _ _ _ _ _ | exact Kd.V_nil _ _ _ _ _ | exact Kd.Q_nil _ _ _ _ _ | exact Kd.S_nil _ _ _ _ _, B1_⟩
 rw [if_neg c5] at H
 have c5b0 : ((t213.length : Int) == 0) = false := beq_eq_false_iff_ne.mpr c5
 have c5b1 : ((t213.length : Int) != 0) = true := bne_iff_ne.mpr c5
 have c5b2 : ¬ (t213 = []) := fun h_ => c5 (by rw [h_]; rfl)
 obtain ⟨y216, hy216⟩ : ∃ y_ : List Int, y_ = (([(-2)] : List Int)) := ⟨_, rfl⟩
 replace H : ((slices_Repeat_int_int.f y216 (l0_0.length : Int)).bind fun t219 => (if 0 ≤ (l0_0.length : Int) then (if ((l0_0.length : Int) : Int).toNat ≤ 35184372088832 then (dom_Tree.l0 k a1 t213 t219 (List.replicate ((l0_0.length : Int) : Int).toNat 0) t213 (t213.length : Int) 0 l0_0 l0_1) else (none)) else (none))) = some r := by first | (rw [hy216]; with_reducible exact H) | (have H2_ := (Option.bind_some _ _).symm.trans H; rw [hy216]; with_reducible exact H2_) | (have H2_ := (Option.bind_some _ _).symm.trans H; with_reducible exact H2_) | with_reducible exact H | (rw [hy216]; exact H) | exact H
 have Ny216 := Aside0.mk hy216
 clear hy216
 replace H := Option.bind_eq_some_iff.mp H
 obtain ⟨t219, A90, H⟩ := H
 replace H : (if 0 ≤ (l0_0.length : Int) then (if ((l0_0.length : Int) : Int).toNat ≤ 35184372088832 then (dom_Tree.l0 k a1 t213 t219 (List.replicate ((l0_0.length : Int) : Int).toNat 0) t213 (t213.length : Int) 0 l0_0 l0_1) else (none)) else (none)) = some r := H
 have A9 := Aside0.mk A90
 clear A90
 by_cases c10 : 0 ≤ (l0_0.length : Int)
 ·rw [if_pos c10] at H
  have c10b0 := eq_true c10
  have c10b1 : decide (0 ≤ (l0_0.length : Int)) = true := decide_eq_true c10
  clear c10
  by_cases c11 : ((l0_0.length : Int) : Int).toNat ≤ 35184372088832
  ·rw [if_pos c11] at H
   have c11b0 := eq_true c11
   have c11b1 : decide (((l0_0.length : Int) : Int).toNat ≤ 35184372088832) = true := decide_eq_true c11
   clear c11
   obtain ⟨y222, hy222⟩ : ∃ y_ : List Int, y_ = (List.replicate ((l0_0.length : Int) : Int).toNat 0) := ⟨_, rfl⟩
   replace H : (dom_Tree.l0 k a1 t213 t219 y222 t213 (t213.length : Int) 0 l0_0 l0_1) = some r := by first | (rw [hy222]; with_reducible exact H) | (have H2_ := (Option.bind_some _ _).symm.trans H; rw [hy222]; with_reducible exact H2_) | (have H2_ := (Option.bind_some _ _).symm.trans H; with_reducible exact H2_) | with_reducible exact H | (rw [hy222]; exact H) | exact H
   have Ny222 := Aside0.mk hy222
   clear hy222
   have H' := Aside0.mk H
   clear H
   have hcz12_0 : w3.cell? ⟨gb212, 0, none⟩ = some (.slice A0_0 l0_0.length c0_0) := (blk_cell BK212.out 0).trans rfl
   have hcz12_1 : w3.cell? ⟨gb212, 1, none⟩ = some (.slice A0_1 l0_1.length c0_1) := (blk_cell BK212.out 1).trans rfl
   have hfz12_0 := blk_frozen BK212.out 0
   have hfz12_1 := blk_frozen BK212.out 1
   try go_wp2_with (first | ((with_reducible refine gate_callee (f := 30) rfl ?_); refine goesL_ (some 18) rfl rfl Try.func30 (by kernel_rfl) rfl #[.agg #[.slice A0_0 l0_0.length c0_0, .slice A0_1 l0_1.length c0_1], .int .i64 a1] rfl (by (try simp only [List.map_toArray, List.map_cons, List.map_nil]); first | done | rfl | (simp only [List.length_drop, List.length_take]; rfl)) ?_; (with_reducible refine (graph_Order.calls k _ _ l0_0 _ _ l0_1 a1 t213 _ ?side1 ?side2 ?side3 ?side4 A4.out).mono ?_); (case side1 => exact CX_ (Kd.C_below HR0_0.out HB.out)); (case side2 => exact HC0_0.out); (case side3 => exact CX_ (Kd.C_below HR0_1.out HB.out)); (case side4 => exact HC0_1.out); rintro e w13 ⟨v214, rfl, ho0, hb⟩; refine ⟨_, rfl, ?_⟩; have n0_ := Aside0.mk (Kd.R_lower ho0 (below_size (B1_))); have n1_ := Aside0.mk (blk_below (g := gb212) (o := .cells #[.slice A0_0 l0_0.length c0_0, .slice A0_1 l0_1.length c0_1] 26 (0, 0)) (by exact KX_ BK212.out) hb); have n2_ := Aside0.mk (below_step (B1_) hb); clear BK212; clear HB; have HO215 := n0_; have BK212 := n1_; have HB := n2_; clear n0_ n1_ n2_; (try clear hb); (try clear hb2); (try clear hk); (try clear hi); (try clear ho0); obtain ⟨Ao14, co14, eo14⟩ := Kd.R_slice HO215.out; subst eo14; have hcz15_0 : w13.cell? ⟨gb212, 0, none⟩ = some (.slice A0_0 l0_0.length c0_0) := (blk_cell BK212.out 0).trans rfl; have hcz15_1 : w13.cell? ⟨gb212, 1, none⟩ = some (.slice A0_1 l0_1.length c0_1) := (blk_cell BK212.out 1).trans rfl; have hfz15_0 := blk_frozen BK212.out 0; have hfz15_1 := blk_frozen BK212.out 1))
   have n0_ := Aside0.mk (Kd.R_drew HO215.out)
   have n1_ := Aside0.mk (blk_drew BK212.out)
   have n2_ := Aside0.mk (below_drew1 HB.out)
   clear HO215
   clear BK212
   clear HB
   have HO215 := n0_
   have BK212 := n1_
   have HB := n2_
   clear n0_ n1_ n2_
   refine start_ (n := 7) (S := fun w' => True) (ds := []) #[false, false, false, false, false, false, false] (by kernel_rfl) rfl rfl trivial (fun hHeld => ?_)
   generalize w13.drew = w16 at HO215 BK212 HB hHeld ⊢
   refine pure_ (i := 1) (N := some 26) (v := ?_) (a' := ?_) #[false, true, false, false, false, false, false] rfl rfl (by kernel_rfl) (fun _ _ _ h => h) (Or.inl ⟨by rfl, ?_⟩) ?_ ?_
   rotate_left
   ·intro w'
    go_simp
    with_reducible rfl
   rotate_left
   ·exact P_
   refine pure_ (i := 3) (N := some 28) (v := ?_) (a' := ?_) #[false, true, false, true, false, false, false] rfl rfl (by kernel_rfl) (fun _ _ _ h => h) (Or.inl ⟨by rfl, ?_⟩) ?_ ?_
   rotate_left
   ·intro w'
    go_simp
    with_reducible rfl
   rotate_left
   ·exact P_
   refine join_ (σ := Value × Value × Value) 1 #[true, true, true, true, true, true, false] (fun s_ => [(25, s_.1), (27, s_.2.1), (29, s_.2.2), (7, s_.2.1)]) (fun s_ w' => (Kd.R (Kd.int .i64) 3 w' w.heap.size (fun k_ => some k_ ≠ (s_.1 : Value).ownBlock ∧ some k_ ≠ (s_.2.1 : Value).ownBlock ∧ some k_ ≠ (s_.2.2 : Value).ownBlock) (.slice Ao14 t213.length co14) t213) ∧ (Kd.R (Kd.int .i64) 3 w' w.heap.size (fun k_ => some k_ ≠ (.slice Ao14 t213.length co14 : Value).ownBlock ∧ some k_ ≠ (s_.2.1 : Value).ownBlock ∧ some k_ ≠ (s_.2.2 : Value).ownBlock) s_.1 y216) ∧ (Kd.R (Kd.int .i64) 3 w' w.heap.size (fun k_ => some k_ ≠ (.slice Ao14 t213.length co14 : Value).ownBlock ∧ some k_ ≠ (s_.1 : Value).ownBlock ∧ some k_ ≠ (s_.2.2 : Value).ownBlock) s_.2.1 t219) ∧ (Kd.R (Kd.int .i64) 3 w' w.heap.size (fun k_ => some k_ ≠ (.slice Ao14 t213.length co14 : Value).ownBlock ∧ some k_ ≠ (s_.1 : Value).ownBlock ∧ some k_ ≠ (s_.2.1 : Value).ownBlock) s_.2.2 y222) ∧ (w'.heap[gb212]? = some (.cells #[.slice A0_0 l0_0.length c0_0, .slice A0_1 l0_1.length c0_1] 26 (0, 0))) ∧ (Below w.heap.size w w')) ?_ ?_
   rotate_left
   ·intro hCont
    refine two_ (i := 0) (j := 4) (Ni := some 25) (Nj := some 29) #[true, true, false, true, false, false, false] #[false, true, false, true, true, false, false] rfl rfl rfl rfl (by kernel_rfl) (by decide) (by decide) (fun K hK => ?_) (fun K hK => ?_)
    ·skip
     refine Kd.R_lit_step (Kd.int .i64) _ 3 ?hg (N := 25) ?hd (xs := ([(-2)] : List Int)) (inner := [.int .i64 (-2)]) (ok := fun _ => True) (okp := fun _ => True) ?hr ?hp (fun _ hk => hk) trivial (Below.refl _ _) (Nat.le_refl _) (by simp) ?_; (case hd => rfl); (case hg => rfl); (case hr => first | (go_simp; done) | (go_simp; rfl)); (case hp => exact (Reps.one (show Kd.M (Kd.int .i64) _ _ _ (-2) [.int .i64 (-2)] from rfl) (Reps.none _ _)))
     intro v217 w17 ho18 hb hg_ hnew_
     clear hg_ hnew_
     (first | rw [← Ny216.out] at ho18 | (simp only [Int.reduceToNat] at ho18; rw [← Ny216.out] at ho18))
     have n0_ := Aside0.mk (Kd.R_elder' (by exact RX_ HO215.out) (Kd.R_base ho18) hb)
     have n1_ := Aside0.mk (Kd.R_lower (Kd.R_new' ho18 (Kd.R_lt (by exact RX_ HO215.out))) (below_size (B1_)))
     have n2_ := Aside0.mk (blk_below (g := gb212) (o := .cells #[.slice A0_0 l0_0.length c0_0, .slice A0_1 l0_1.length c0_1] 26 (0, 0)) (by exact KX_ BK212.out) hb)
     have n3_ := Aside0.mk (below_step (B1_) hb)
     clear HO215
     clear BK212
     clear HB
     have HO215 := n0_
     have HO218 := n1_
     have BK212 := n2_
     have HB := n3_
     clear n0_ n1_ n2_ n3_
     clear hb ho18
     obtain ⟨Ao19, co19, eo19⟩ := Kd.R_slice HO218.out
     (first | subst eo19 | (injection eo19 with f1_ f2_ f3_; have f4_ := f1_.symm; have f5_ := f3_.symm; clear f1_ f2_ f3_; subst f4_; subst f5_))
     refine hK.out _ _ trivial (fun hHeld => ?_)
     clear hK K
     refine norm_ (a' := ?_) ?_ ?_
     rotate_left
     ·show Act.put _ (some 25) _ = _
      simp only [Act.put, List.setIfInBounds_toArray, List.set_cons_zero, List.set_cons_succ, i64_w, i32_w]
      rfl
     refine two_ (i := 2) (j := 4) (Ni := some 27) (Nj := some 29) #[true, true, true, true, false, false, false] #[true, true, false, true, true, false, false] rfl rfl rfl rfl (by kernel_rfl) (by decide) (by decide) (fun K hK => ?_) (fun K hK => ?_)
     ·skip
      refine goes_ Try.func31 (by kernel_rfl) rfl #[.slice Ao19 y216.length co19, .int .i64 (l0_0.length : Int)] (by rfl) rfl rfl (by (try simp only [List.map_toArray, List.map_cons, List.map_nil]); first | done | rfl | (simp only [List.length_drop, List.length_take]; rfl)) ?_
      with_reducible refine (slices_Repeat_int_int.calls _ _ y216 (l0_0.length : Int) t219 _ ?side1 ?side2 A9.out).mono ?_
      (case side1 => repeat (first | exact (Kd.R_reads' HO218.out).2.2 | (with_reducible refine Kd.C_alloc ?_ _) | (with_reducible refine Kd.C_drewN ?_ _) | (with_reducible refine Kd.C_drew ?_)))
      (case side2 => exact (Kd.R_reads' HO218.out).2.1)
      rintro e w20 ⟨v220, rfl, ho0, hb⟩
      refine ⟨_, rfl, ?_⟩
      have n0_ := Aside0.mk (Kd.R_elder' (by exact RX_ HO215.out) (Kd.R_base ho0) hb)
      have n1_ := Aside0.mk (Kd.R_elder' (by exact RX_ HO218.out) (Kd.R_base ho0) hb)
      have n2_ := Aside0.mk (Kd.R_lower (Kd.R_new' (Kd.R_new' ho0 (Kd.R_lt (by exact RX_ HO215.out))) (Kd.R_lt (by exact RX_ HO218.out))) (below_size (B1_)))
      have n3_ := Aside0.mk (blk_below (g := gb212) (o := .cells #[.slice A0_0 l0_0.length c0_0, .slice A0_1 l0_1.length c0_1] 26 (0, 0)) (by exact KX_ BK212.out) hb)
      have n4_ := Aside0.mk (below_step (B1_) hb)
      clear HO215
      clear HO218
      clear BK212
      clear HB
      have HO215 := n0_
      have HO218 := n1_
      have HO221 := n2_
      have BK212 := n3_
      have HB := n4_
      clear n0_ n1_ n2_ n3_ n4_
      (try clear hb)
      (try clear hb2)
      (try clear hk)
      (try clear hi)
      (try clear ho0)
      refine hK.out _ _ trivial (fun hHeld => ?_)
      clear hK K
      refine norm_ (a' := ?_) ?_ ?_
      rotate_left
      ·show Act.put _ (some 27) _ = _
       simp only [Act.put, List.setIfInBounds_toArray, List.set_cons_zero, List.set_cons_succ, i64_w, i32_w]
       rfl
      refine pure_ (i := 5) (N := some 7) (v := ?_) (a' := ?_) #[true, true, true, true, false, true, false] rfl rfl (by kernel_rfl) (fun _ _ _ h => h) (Or.inl ⟨by rfl, ?_⟩) ?_ ?_
      rotate_left
      ·intro w'
       go_simp
       with_reducible rfl
      rotate_left
      ·exact P_
      refine one_ (i := 4) (N := some 29) #[true, true, true, true, true, true, false] rfl rfl (by kernel_rfl) (by decide) (fun K hK => ?_)
      refine Kd.R_make_step (Kd.int .i64) _ 3 (by rfl) (N := 29) rfl 30 _ _ rfl (l0_0.length : Int) rfl rfl Try.underlying30 (.int .i64 0) 8 info3 rfl (by decide) (by omega) 0 (ok := fun _ => True) (okp := fun _ => True) rfl (fun _ hk => hk) trivial (D_) (Nat.le_trans (Nat.mul_le_mul_right _ (D_ : (l0_0.length : Int).toNat ≤ 35184372088832)) (by omega)) (Below.refl _ _) (Nat.le_refl _) ?_
      intro v223 w21 ho22 hb hg_ hnew_
      clear hg_ hnew_
      (first | rw [← Ny222.out] at ho22 | (simp only [Int.reduceToNat] at ho22; rw [← Ny222.out] at ho22))
      have n0_ := Aside0.mk (Kd.R_elder' (by exact RX_ HO215.out) (Kd.R_base ho22) hb)
      have n1_ := Aside0.mk (Kd.R_elder' (by exact RX_ HO218.out) (Kd.R_base ho22) hb)
      have n2_ := Aside0.mk (Kd.R_elder' (by exact RX_ HO221.out) (Kd.R_base ho22) hb)
      have n3_ := Aside0.mk (Kd.R_lower (Kd.R_new' (Kd.R_new' (Kd.R_new' ho22 (Kd.R_lt (by exact RX_ HO215.out))) (Kd.R_lt (by exact RX_ HO218.out))) (Kd.R_lt (by exact RX_ HO221.out))) (below_size (B1_)))
      have n4_ := Aside0.mk (blk_below (g := gb212) (o := .cells #[.slice A0_0 l0_0.length c0_0, .slice A0_1 l0_1.length c0_1] 26 (0, 0)) (by exact KX_ BK212.out) hb)
      have n5_ := Aside0.mk (below_step (B1_) hb)
      clear HO215
      clear HO218
      clear HO221
      clear BK212
      clear HB
      have HO215 := n0_
      have HO218 := n1_
      have HO221 := n2_
      have HO224 := n3_
      have BK212 := n4_
      have HB := n5_
      clear n0_ n1_ n2_ n3_ n4_ n5_
      clear hb ho22
      refine hK.out _ _ trivial (fun hHeld => ?_)
      clear hK K
      refine norm_ (a' := ?_) ?_ ?_
      rotate_left
      ·show Act.put _ (some 29) _ = _
       simp only [Act.put, List.setIfInBounds_toArray, List.set_cons_zero, List.set_cons_succ, i64_w, i32_w]
       rfl
      exact norm_ (by simp only [putAll, Act.put, List.setIfInBounds_toArray, List.set_cons_zero, List.set_cons_succ]) (hCont (.slice Ao19 y216.length co19, v220, v223) _ ⟨(by (with_reducible repeat (first | apply Kd.R_alloc | apply Kd.R_drewN | apply Kd.R_drew)); exact Kd.R_mono HO215.out (fun _ hk => by first | exact ⟨hk.1.1.2, ⟨hk.1.2, hk.2⟩⟩ | exact hk | exact ⟨hk.1, hk.2⟩ | simp_all)), (by (with_reducible repeat (first | apply Kd.R_alloc | apply Kd.R_drewN | apply Kd.R_drew)); exact Kd.R_mono HO218.out (fun _ hk => by first | exact ⟨hk.1.1.2, ⟨hk.1.2, hk.2⟩⟩ | exact hk | exact ⟨hk.1, hk.2⟩ | simp_all)), (by (with_reducible repeat (first | apply Kd.R_alloc | apply Kd.R_drewN | apply Kd.R_drew)); exact Kd.R_mono HO221.out (fun _ hk => by first | exact ⟨hk.1.1.2, ⟨hk.1.2, hk.2⟩⟩ | exact hk | exact ⟨hk.1, hk.2⟩ | simp_all)), (by (with_reducible repeat (first | apply Kd.R_alloc | apply Kd.R_drewN | apply Kd.R_drew)); exact Kd.R_mono HO224.out (fun _ hk => by first | exact ⟨hk.1.1.2, ⟨hk.1.2, hk.2⟩⟩ | exact hk | exact ⟨hk.1, hk.2⟩ | simp_all)), (by exact KX_ BK212.out), (B1_)⟩)
     ·skip
      refine Kd.R_make_step (Kd.int .i64) _ 3 (by rfl) (N := 29) rfl 30 _ _ rfl (l0_0.length : Int) rfl rfl Try.underlying30 (.int .i64 0) 8 info3 rfl (by decide) (by omega) 0 (ok := fun _ => True) (okp := fun _ => True) rfl (fun _ hk => hk) trivial (D_) (Nat.le_trans (Nat.mul_le_mul_right _ (D_ : (l0_0.length : Int).toNat ≤ 35184372088832)) (by omega)) (Below.refl _ _) (Nat.le_refl _) ?_
      intro v223 w19 ho20 hb hg_ hnew_
      clear hg_ hnew_
      (first | rw [← Ny222.out] at ho20 | (simp only [Int.reduceToNat] at ho20; rw [← Ny222.out] at ho20))
      have n0_ := Aside0.mk (Kd.R_elder' (by exact RX_ HO215.out) (Kd.R_base ho20) hb)
      have n1_ := Aside0.mk (Kd.R_elder' (by exact RX_ HO218.out) (Kd.R_base ho20) hb)
      have n2_ := Aside0.mk (Kd.R_lower (Kd.R_new' (Kd.R_new' ho20 (Kd.R_lt (by exact RX_ HO215.out))) (Kd.R_lt (by exact RX_ HO218.out))) (below_size (B1_)))
      have n3_ := Aside0.mk (blk_below (g := gb212) (o := .cells #[.slice A0_0 l0_0.length c0_0, .slice A0_1 l0_1.length c0_1] 26 (0, 0)) (by exact KX_ BK212.out) hb)
      have n4_ := Aside0.mk (below_step (B1_) hb)
      clear HO215
      clear HO218
      clear BK212
      clear HB
      have HO215 := n0_
      have HO218 := n1_
      have HO224 := n2_
      have BK212 := n3_
      have HB := n4_
      clear n0_ n1_ n2_ n3_ n4_
      clear hb ho20
      obtain ⟨Ao21, co21, eo21⟩ := Kd.R_slice HO218.out
      (first | subst eo21 | (injection eo21 with f1_ f2_ f3_; have f4_ := f1_.symm; have f5_ := f3_.symm; clear f1_ f2_ f3_; subst f4_; subst f5_))
      refine hK.out _ _ trivial (fun hHeld => ?_)
      clear hK K
      refine norm_ (a' := ?_) ?_ ?_
      rotate_left
      ·show Act.put _ (some 29) _ = _
       simp only [Act.put, List.setIfInBounds_toArray, List.set_cons_zero, List.set_cons_succ, i64_w, i32_w]
       rfl
      refine one_ (i := 2) (N := some 27) #[true, true, true, true, true, false, false] rfl rfl (by kernel_rfl) (by decide) (fun K hK => ?_)
      refine goes_ Try.func31 (by kernel_rfl) rfl #[.slice Ao21 y216.length co21, .int .i64 (l0_0.length : Int)] (by rfl) rfl rfl (by (try simp only [List.map_toArray, List.map_cons, List.map_nil]); first | done | rfl | (simp only [List.length_drop, List.length_take]; rfl)) ?_
      with_reducible refine (slices_Repeat_int_int.calls _ _ y216 (l0_0.length : Int) t219 _ ?side1 ?side2 A9.out).mono ?_
      (case side1 => repeat (first | exact (Kd.R_reads' HO218.out).2.2 | (with_reducible refine Kd.C_alloc ?_ _) | (with_reducible refine Kd.C_drewN ?_ _) | (with_reducible refine Kd.C_drew ?_)))
      (case side2 => exact (Kd.R_reads' HO218.out).2.1)
      rintro e w22 ⟨v220, rfl, ho0, hb⟩
      refine ⟨_, rfl, ?_⟩
      have n0_ := Aside0.mk (Kd.R_elder' (by exact RX_ HO215.out) (Kd.R_base ho0) hb)
      have n1_ := Aside0.mk (Kd.R_elder' (by exact RX_ HO218.out) (Kd.R_base ho0) hb)
      have n2_ := Aside0.mk (Kd.R_elder' (by exact RX_ HO224.out) (Kd.R_base ho0) hb)
      have n3_ := Aside0.mk (Kd.R_lower (Kd.R_new' (Kd.R_new' (Kd.R_new' ho0 (Kd.R_lt (by exact RX_ HO215.out))) (Kd.R_lt (by exact RX_ HO218.out))) (Kd.R_lt (by exact RX_ HO224.out))) (below_size (B1_)))
      have n4_ := Aside0.mk (blk_below (g := gb212) (o := .cells #[.slice A0_0 l0_0.length c0_0, .slice A0_1 l0_1.length c0_1] 26 (0, 0)) (by exact KX_ BK212.out) hb)
      have n5_ := Aside0.mk (below_step (B1_) hb)
      clear HO215
      clear HO218
      clear HO224
      clear BK212
      clear HB
      have HO215 := n0_
      have HO218 := n1_
      have HO224 := n2_
      have HO221 := n3_
      have BK212 := n4_
      have HB := n5_
      clear n0_ n1_ n2_ n3_ n4_ n5_
      (try clear hb)
      (try clear hb2)
      (try clear hk)
      (try clear hi)
      (try clear ho0)
      refine hK.out _ _ trivial (fun hHeld => ?_)
      clear hK K
      refine norm_ (a' := ?_) ?_ ?_
      rotate_left
      ·show Act.put _ (some 27) _ = _
       simp only [Act.put, List.setIfInBounds_toArray, List.set_cons_zero, List.set_cons_succ, i64_w, i32_w]
       rfl
      refine pure_ (i := 5) (N := some 7) (v := ?_) (a' := ?_) #[true, true, true, true, true, true, false] rfl rfl (by kernel_rfl) (fun _ _ _ h => h) (Or.inl ⟨by rfl, ?_⟩) ?_ ?_
      rotate_left
      ·intro w'
       go_simp
       with_reducible rfl
      rotate_left
      ·exact P_
      exact norm_ (by simp only [putAll, Act.put, List.setIfInBounds_toArray, List.set_cons_zero, List.set_cons_succ]) (hCont (.slice Ao21 y216.length co21, v220, v223) _ ⟨(by (with_reducible repeat (first | apply Kd.R_alloc | apply Kd.R_drewN | apply Kd.R_drew)); exact Kd.R_mono HO215.out (fun _ hk => by first | exact ⟨hk.1.1.2, ⟨hk.2, hk.1.2⟩⟩ | exact hk | exact ⟨hk.1, hk.2⟩ | simp_all)), (by (with_reducible repeat (first | apply Kd.R_alloc | apply Kd.R_drewN | apply Kd.R_drew)); exact Kd.R_mono HO218.out (fun _ hk => by first | exact ⟨hk.1.1.2, ⟨hk.2, hk.1.2⟩⟩ | exact hk | exact ⟨hk.1, hk.2⟩ | simp_all)), (by (with_reducible repeat (first | apply Kd.R_alloc | apply Kd.R_drewN | apply Kd.R_drew)); exact Kd.R_mono HO221.out (fun _ hk => by first | exact ⟨hk.1.1.2, ⟨hk.1.2, hk.2⟩⟩ | exact hk | exact ⟨hk.1, hk.2⟩ | simp_all)), (by (with_reducible repeat (first | apply Kd.R_alloc | apply Kd.R_drewN | apply Kd.R_drew)); exact Kd.R_mono HO224.out (fun _ hk => by first | exact ⟨hk.1.1.2, ⟨hk.1.2, hk.2⟩⟩ | exact hk | exact ⟨hk.1, hk.2⟩ | simp_all)), (by exact KX_ BK212.out), (B1_)⟩)
    ·skip
     refine Kd.R_make_step (Kd.int .i64) _ 3 (by rfl) (N := 29) rfl 30 _ _ rfl (l0_0.length : Int) rfl rfl Try.underlying30 (.int .i64 0) 8 info3 rfl (by decide) (by omega) 0 (ok := fun _ => True) (okp := fun _ => True) rfl (fun _ hk => hk) trivial (D_) (Nat.le_trans (Nat.mul_le_mul_right _ (D_ : (l0_0.length : Int).toNat ≤ 35184372088832)) (by omega)) (Below.refl _ _) (Nat.le_refl _) ?_
     intro v223 w17 ho18 hb hg_ hnew_
     clear hg_ hnew_
     (first | rw [← Ny222.out] at ho18 | (simp only [Int.reduceToNat] at ho18; rw [← Ny222.out] at ho18))
     have n0_ := Aside0.mk (Kd.R_elder' (by exact RX_ HO215.out) (Kd.R_base ho18) hb)
     have n1_ := Aside0.mk (Kd.R_lower (Kd.R_new' ho18 (Kd.R_lt (by exact RX_ HO215.out))) (below_size (B1_)))
     have n2_ := Aside0.mk (blk_below (g := gb212) (o := .cells #[.slice A0_0 l0_0.length c0_0, .slice A0_1 l0_1.length c0_1] 26 (0, 0)) (by exact KX_ BK212.out) hb)
     have n3_ := Aside0.mk (below_step (B1_) hb)
     clear HO215
     clear BK212
     clear HB
     have HO215 := n0_
     have HO224 := n1_
     have BK212 := n2_
     have HB := n3_
     clear n0_ n1_ n2_ n3_
     clear hb ho18
     refine hK.out _ _ trivial (fun hHeld => ?_)
     clear hK K
     refine norm_ (a' := ?_) ?_ ?_
     rotate_left
     ·show Act.put _ (some 29) _ = _
      simp only [Act.put, List.setIfInBounds_toArray, List.set_cons_zero, List.set_cons_succ, i64_w, i32_w]
      rfl
     refine one_ (i := 0) (N := some 25) #[true, true, false, true, true, false, false] rfl rfl (by kernel_rfl) (by decide) (fun K hK => ?_)
     refine Kd.R_lit_step (Kd.int .i64) _ 3 ?hg (N := 25) ?hd (xs := ([(-2)] : List Int)) (inner := [.int .i64 (-2)]) (ok := fun _ => True) (okp := fun _ => True) ?hr ?hp (fun _ hk => hk) trivial (Below.refl _ _) (Nat.le_refl _) (by simp) ?_; (case hd => rfl); (case hg => rfl); (case hr => first | (go_simp; done) | (go_simp; rfl)); (case hp => exact (Reps.one (show Kd.M (Kd.int .i64) _ _ _ (-2) [.int .i64 (-2)] from rfl) (Reps.none _ _)))
     intro v217 w19 ho20 hb hg_ hnew_
     clear hg_ hnew_
     (first | rw [← Ny216.out] at ho20 | (simp only [Int.reduceToNat] at ho20; rw [← Ny216.out] at ho20))
     have n0_ := Aside0.mk (Kd.R_elder' (by exact RX_ HO215.out) (Kd.R_base ho20) hb)
     have n1_ := Aside0.mk (Kd.R_elder' (by exact RX_ HO224.out) (Kd.R_base ho20) hb)
     have n2_ := Aside0.mk (Kd.R_lower (Kd.R_new' (Kd.R_new' ho20 (Kd.R_lt (by exact RX_ HO215.out))) (Kd.R_lt (by exact RX_ HO224.out))) (below_size (B1_)))
     have n3_ := Aside0.mk (blk_below (g := gb212) (o := .cells #[.slice A0_0 l0_0.length c0_0, .slice A0_1 l0_1.length c0_1] 26 (0, 0)) (by exact KX_ BK212.out) hb)
     have n4_ := Aside0.mk (below_step (B1_) hb)
     clear HO215
     clear HO224
     clear BK212
     clear HB
     have HO215 := n0_
     have HO224 := n1_
     have HO218 := n2_
     have BK212 := n3_
     have HB := n4_
     clear n0_ n1_ n2_ n3_ n4_
     clear hb ho20
     obtain ⟨Ao21, co21, eo21⟩ := Kd.R_slice HO218.out
     (first | subst eo21 | (injection eo21 with f1_ f2_ f3_; have f4_ := f1_.symm; have f5_ := f3_.symm; clear f1_ f2_ f3_; subst f4_; subst f5_))
     refine hK.out _ _ trivial (fun hHeld => ?_)
     clear hK K
     refine norm_ (a' := ?_) ?_ ?_
     rotate_left
     ·show Act.put _ (some 25) _ = _
      simp only [Act.put, List.setIfInBounds_toArray, List.set_cons_zero, List.set_cons_succ, i64_w, i32_w]
      rfl
     refine one_ (i := 2) (N := some 27) #[true, true, true, true, true, false, false] rfl rfl (by kernel_rfl) (by decide) (fun K hK => ?_)
     refine goes_ Try.func31 (by kernel_rfl) rfl #[.slice Ao21 y216.length co21, .int .i64 (l0_0.length : Int)] (by rfl) rfl rfl (by (try simp only [List.map_toArray, List.map_cons, List.map_nil]); first | done | rfl | (simp only [List.length_drop, List.length_take]; rfl)) ?_
     with_reducible refine (slices_Repeat_int_int.calls _ _ y216 (l0_0.length : Int) t219 _ ?side1 ?side2 A9.out).mono ?_
     (case side1 => repeat (first | exact (Kd.R_reads' HO218.out).2.2 | (with_reducible refine Kd.C_alloc ?_ _) | (with_reducible refine Kd.C_drewN ?_ _) | (with_reducible refine Kd.C_drew ?_)))
     (case side2 => exact (Kd.R_reads' HO218.out).2.1)
     rintro e w22 ⟨v220, rfl, ho0, hb⟩
     refine ⟨_, rfl, ?_⟩
     have n0_ := Aside0.mk (Kd.R_elder' (by exact RX_ HO215.out) (Kd.R_base ho0) hb)
     have n1_ := Aside0.mk (Kd.R_elder' (by exact RX_ HO224.out) (Kd.R_base ho0) hb)
     have n2_ := Aside0.mk (Kd.R_elder' (by exact RX_ HO218.out) (Kd.R_base ho0) hb)
     have n3_ := Aside0.mk (Kd.R_lower (Kd.R_new' (Kd.R_new' (Kd.R_new' ho0 (Kd.R_lt (by exact RX_ HO215.out))) (Kd.R_lt (by exact RX_ HO224.out))) (Kd.R_lt (by exact RX_ HO218.out))) (below_size (B1_)))
     have n4_ := Aside0.mk (blk_below (g := gb212) (o := .cells #[.slice A0_0 l0_0.length c0_0, .slice A0_1 l0_1.length c0_1] 26 (0, 0)) (by exact KX_ BK212.out) hb)
     have n5_ := Aside0.mk (below_step (B1_) hb)
     clear HO215
     clear HO224
     clear HO218
     clear BK212
     clear HB
     have HO215 := n0_
     have HO224 := n1_
     have HO218 := n2_
     have HO221 := n3_
     have BK212 := n4_
     have HB := n5_
     clear n0_ n1_ n2_ n3_ n4_ n5_
     (try clear hb)
     (try clear hb2)
     (try clear hk)
     (try clear hi)
     (try clear ho0)
     refine hK.out _ _ trivial (fun hHeld => ?_)
     clear hK K
     refine norm_ (a' := ?_) ?_ ?_
     rotate_left
     ·show Act.put _ (some 27) _ = _
      simp only [Act.put, List.setIfInBounds_toArray, List.set_cons_zero, List.set_cons_succ, i64_w, i32_w]
      rfl
     refine pure_ (i := 5) (N := some 7) (v := ?_) (a' := ?_) #[true, true, true, true, true, true, false] rfl rfl (by kernel_rfl) (fun _ _ _ h => h) (Or.inl ⟨by rfl, ?_⟩) ?_ ?_
     rotate_left
     ·intro w'
      go_simp
      with_reducible rfl
     rotate_left
     ·exact P_
     exact norm_ (by simp only [putAll, Act.put, List.setIfInBounds_toArray, List.set_cons_zero, List.set_cons_succ]) (hCont (.slice Ao21 y216.length co21, v220, v223) _ ⟨(by (with_reducible repeat (first | apply Kd.R_alloc | apply Kd.R_drewN | apply Kd.R_drew)); exact Kd.R_mono HO215.out (fun _ hk => by first | exact ⟨hk.1.2, ⟨hk.2, hk.1.1.2⟩⟩ | exact hk | exact ⟨hk.1, hk.2⟩ | simp_all)), (by (with_reducible repeat (first | apply Kd.R_alloc | apply Kd.R_drewN | apply Kd.R_drew)); exact Kd.R_mono HO218.out (fun _ hk => by first | exact ⟨hk.1.1.2, ⟨hk.2, hk.1.2⟩⟩ | exact hk | exact ⟨hk.1, hk.2⟩ | simp_all)), (by (with_reducible repeat (first | apply Kd.R_alloc | apply Kd.R_drewN | apply Kd.R_drew)); exact Kd.R_mono HO221.out (fun _ hk => by first | exact ⟨hk.1.1.2, ⟨hk.2, hk.1.2⟩⟩ | exact hk | exact ⟨hk.1, hk.2⟩ | simp_all)), (by (with_reducible repeat (first | apply Kd.R_alloc | apply Kd.R_drewN | apply Kd.R_drew)); exact Kd.R_mono HO224.out (fun _ hk => by first | exact ⟨hk.1.1.2, ⟨hk.1.2, hk.2⟩⟩ | exact hk | exact ⟨hk.1, hk.2⟩ | simp_all)), (by exact KX_ BK212.out), (B1_)⟩)
   rintro ⟨v217, v220, v223⟩ w23 ⟨h0_, h1_, h2_, h3_, h4_, h5_⟩
   have n0_ : Aside0 (Kd.R (Kd.int .i64) 3 w23 w.heap.size (fun k_ => some k_ ≠ (v217 : Value).ownBlock ∧ some k_ ≠ (v220 : Value).ownBlock ∧ some k_ ≠ (v223 : Value).ownBlock) (.slice Ao14 t213.length co14) t213) := ⟨h0_⟩
   have n1_ : Aside0 (Kd.R (Kd.int .i64) 3 w23 w.heap.size (fun k_ => some k_ ≠ (.slice Ao14 t213.length co14 : Value).ownBlock ∧ some k_ ≠ (v220 : Value).ownBlock ∧ some k_ ≠ (v223 : Value).ownBlock) v217 y216) := ⟨h1_⟩
   have n2_ : Aside0 (Kd.R (Kd.int .i64) 3 w23 w.heap.size (fun k_ => some k_ ≠ (.slice Ao14 t213.length co14 : Value).ownBlock ∧ some k_ ≠ (v217 : Value).ownBlock ∧ some k_ ≠ (v223 : Value).ownBlock) v220 t219) := ⟨h2_⟩
   have n3_ : Aside0 (Kd.R (Kd.int .i64) 3 w23 w.heap.size (fun k_ => some k_ ≠ (.slice Ao14 t213.length co14 : Value).ownBlock ∧ some k_ ≠ (v217 : Value).ownBlock ∧ some k_ ≠ (v220 : Value).ownBlock) v223 y222) := ⟨h3_⟩
   have n4_ : Aside0 (w23.heap[gb212]? = some (.cells #[.slice A0_0 l0_0.length c0_0, .slice A0_1 l0_1.length c0_1] 26 (0, 0))) := ⟨h4_⟩
   have n5_ : Aside0 (Below w.heap.size w w23) := ⟨h5_⟩
   clear HO215
   clear BK212
   clear HB
   clear h0_ h1_ h2_ h3_ h4_ h5_
   have HO215 := n0_
   have HO218 := n1_
   have HO221 := n2_
   have HO224 := n3_
   have BK212 := n4_
   have HB := n5_
   clear n0_ n1_ n2_ n3_ n4_ n5_
   have hHeld := trivial
   refine norm_ (a' := ?_) ?_ ?_
   rotate_left
   ·simp only [putAll, Act.put, List.setIfInBounds_toArray, List.set_cons_zero, List.set_cons_succ]
    rfl
   refine pure_ (i := 6) (N := some 8) (v := ?_) (a' := ?_) #[true, true, true, true, true, true, true] rfl rfl (by kernel_rfl) (fun _ _ _ h => h) (Or.inl ⟨by rfl, ?_⟩) ?_ ?_
   rotate_left
   ·intro w'
    go_simp
    with_reducible rfl
   rotate_left
   ·exact P_
   refine done_ (by kernel_rfl) ?_
   try go_wp2
   go_loopg [32] k (fun kq v32 w' => ∃ (x8_1 : List Int) (x32_1 : Int), v32 = .int .i64 x32_1 ∧ Aside0 (dom_Tree.l0 kq a1 t213 t219 x8_1 t213 (t213.length : Int) x32_1 l0_0 l0_1 = some r) ∧ Aside0 (kq ≤ k) ∧ Aside0 (Kd.R (Kd.int .i64) 3 w' w.heap.size (fun k_ => some k_ ≠ (v220 : Value).ownBlock ∧ some k_ ≠ (v223 : Value).ownBlock) (.slice Ao14 t213.length co14) t213) ∧ Aside0 (Kd.R (Kd.int .i64) 3 w' w.heap.size (fun k_ => some k_ ≠ ((.slice Ao14 t213.length co14) : Value).ownBlock ∧ some k_ ≠ (v223 : Value).ownBlock ∧ some k_ ≠ ((.slice Ao14 t213.length co14) : Value).ownBlock) v220 t219) ∧ Aside0 (Kd.R (Kd.int .i64) 3 w' w.heap.size (fun k_ => some k_ ≠ ((.slice Ao14 t213.length co14) : Value).ownBlock ∧ some k_ ≠ (v220 : Value).ownBlock ∧ some k_ ≠ ((.slice Ao14 t213.length co14) : Value).ownBlock) v223 x8_1) ∧ Aside0 (Kd.R (Kd.int .i64) 3 w' w.heap.size (fun k_ => some k_ ≠ (v220 : Value).ownBlock ∧ some k_ ≠ (v223 : Value).ownBlock) (.slice Ao14 t213.length co14) t213) ∧ Aside0 (w'.heap[gb212]? = some (.cells #[(.slice A0_0 l0_0.length c0_0), (.slice A0_1 l0_1.length c0_1)] 26 (0, 0))) ∧ Aside0 (Below w.heap.size w w'))
   case atStart => exact ⟨(y222), (0), (by first | rfl | (simp; done) | (simp [*]; done)), H', ⟨Nat.le_refl _⟩, ⟨by (with_reducible repeat (first | apply Kd.R_alloc | apply Kd.R_drewN | apply Kd.R_drew)); exact Kd.R_mono HO215.out (fun _ hk => by first | exact ⟨hk.2.1, hk.2.2⟩ | exact hk | exact ⟨hk.1, hk.2⟩ | simp_all)⟩, ⟨by (with_reducible repeat (first | apply Kd.R_alloc | apply Kd.R_drewN | apply Kd.R_drew)); exact Kd.R_mono HO221.out (fun _ hk => by first | exact ⟨hk.1, ⟨hk.2.2, hk.1⟩⟩ | exact hk | exact ⟨hk.1, hk.2⟩ | simp_all)⟩, ⟨by (with_reducible repeat (first | apply Kd.R_alloc | apply Kd.R_drewN | apply Kd.R_drew)); exact Kd.R_mono HO224.out (fun _ hk => by first | exact ⟨hk.1, ⟨hk.2.2, hk.1⟩⟩ | exact hk | exact ⟨hk.1, hk.2⟩ | simp_all)⟩, ⟨by (with_reducible repeat (first | apply Kd.R_alloc | apply Kd.R_drewN | apply Kd.R_drew)); exact Kd.R_mono HO215.out (fun _ hk => by first | exact ⟨hk.2.1, hk.2.2⟩ | exact hk | exact ⟨hk.1, hk.2⟩ | simp_all)⟩, ⟨by exact KX_ BK212.out⟩, ⟨B1_⟩⟩
   case round =>
    clear H'
    try clear c5
    try clear c5b0
    try clear c5b1
    try clear c5b2
    try clear c10b0
    try clear c10b1
    try clear c11b0
    try clear c11b1
    try clear hcz12_0
    try clear hcz12_1
    try clear hcz15_0
    try clear hcz15_1
    try clear hfz12_0
    try clear hfz12_1
    try clear hfz15_0
    try clear hfz15_1
    obtain ⟨x8_1, x32_1, rfl, HA, HK1, HO_5, HO_7, HO_8, HO_30, BK212, HB⟩ := hrel
    cases gk with
    | zero => exact absurd HA.out (by simp [dom_Tree.l0])
    | succ k1 =>
     have H := HA.out
     clear HA
     simp only [dom_Tree.l0] at H
     by_cases c24 : x32_1 < (t213.length : Int)
     ·rw [if_pos c24] at H
      have c24b0 : decide (x32_1 < (t213.length : Int)) = true := decide_eq_true c24
      clear c24
      by_cases c25 : 0 ≤ x32_1
      ·rw [if_pos c25] at H
       have c25b0 : decide (0 ≤ x32_1) = true := decide_eq_true c25
       clear c25
       by_cases c26 : x32_1 < (t213.length : Int)
       ·rw [if_pos c26] at H
        have c26b0 : decide (x32_1 < (t213.length : Int)) = true := decide_eq_true c26
        clear c26
        by_cases c27 : 0 ≤ (rd t213 x32_1)
        ·rw [if_pos c27] at H
         have c27b0 : decide (0 ≤ (rd t213 x32_1)) = true := decide_eq_true c27
         clear c27
         by_cases c28 : (rd t213 x32_1) < (x8_1.length : Int)
         ·rw [if_pos c28] at H
          have c28b0 : decide ((rd t213 x32_1) < (x8_1.length : Int)) = true := decide_eq_true c28
          clear c28
          obtain ⟨y226, hy226⟩ : ∃ y_ : List Int, y_ = (x8_1.set ((rd t213 x32_1) : Int).toNat x32_1) := ⟨_, rfl⟩
          replace H : (dom_Tree.l0 k1 a1 t213 t219 y226 t213 (t213.length : Int) (wrap64 (x32_1 + 1)) l0_0 l0_1) = some r := by first | (rw [hy226]; with_reducible exact H) | (have H2_ := (Option.bind_some _ _).symm.trans H; rw [hy226]; with_reducible exact H2_) | (have H2_ := (Option.bind_some _ _).symm.trans H; with_reducible exact H2_) | with_reducible exact H | (rw [hy226]; exact H) | exact H
          have Ny226 := Aside0.mk hy226
          clear hy226
          have H' := Aside0.mk H
          clear H
          have p225 : 0 ≤ (x32_1 : Int) := D_
          have q225 : x32_1 < (t213.length : Int) := D_
          obtain ⟨ad225, e225, hx225_0⟩ := Kd.at_int (Kd.R_reads' HO_30.out).2.2 x32_1 p225 q225
          cases e225
          replace p225 := eq_true p225
          replace q225 := eq_true q225
          have p29 : 0 ≤ ((rd t213 x32_1) : Int) := D_
          have q29 : ((rd t213 x32_1) : Int) < ((x8_1.length : Int) : Int) := D_
          obtain ⟨go29, co29, eo29, gb29, gl29, cl29, HG29⟩ := Kd.R_form HO_8.out (by omega)
          (first | cases eo29 | (injection eo29 with ea_ en_ ec_; (first | subst ea_ | (injection ea_ with ea_; subst ea_)); subst ec_; clear en_))
          have GB29 := Aside0.mk gb29
          have GG29 := Aside0.mk HG29
          clear gb29 gl29 HG29
          obtain ⟨hx29_0, hf29_0⟩ := Kd.R_celln 0 HO_8.out ((rd t213 x32_1) : Int) p29 q29
          replace p29 := eq_true p29
          replace q29 := eq_true q29
          have HP30 := Kd.R_putg HO_8.out ((rd t213 x32_1) : Int) x32_1
          go_wp2_with (first | ((with_reducible refine gate_store (t := 3) (p := 40) rfl ?_); refine store_event (t := 3) (p := 40) (v := ?vo_w31) (w1 := (wr.setCell ⟨go29, ((rd t213 x32_1) : Int).toNat, none⟩ (.int .i64 x32_1))) ?hg ?ho ?hn ?hr ?_; (case ho => rfl); (case hg => rfl); (case hn => rfl); (case hr => first | (go_simp; done) | (go_simp; rfl)); intro w31 hw; have hg : wr.grownBy w31 (some go29) := (by rw [hw]; exact HP30.2); have hp_ : Kd.R (Kd.int .i64) 3 w31 w.heap.size (fun k_ => some k_ ≠ (.slice (some ad225) t213.length co14 : Value).ownBlock ∧ some k_ ≠ (v220 : Value).ownBlock ∧ some k_ ≠ (.slice (some ad225) t213.length co14 : Value).ownBlock) (.slice (some ⟨go29, 0, none⟩) x8_1.length co29) y226 := (by rw [hw, Ny226.out]; exact HP30.1); clear HP30; have n0_ := Aside0.mk (Kd.R_after (v := (.slice (some ⟨go29, 0, none⟩) x8_1.length co29)) (v1 := (.slice (some ⟨go29, 0, none⟩) x8_1.length co29)) (ok := (fun k_ => some k_ ≠ (v220 : Value).ownBlock)) (by exact RX_ HO_5.out) hg (.inl rfl)); have n1_ := Aside0.mk (Kd.R_after (v := (.slice (some ⟨go29, 0, none⟩) x8_1.length co29)) (v1 := (.slice (some ⟨go29, 0, none⟩) x8_1.length co29)) (ok := (fun k_ => some k_ ≠ (.slice (some ad225) t213.length co14 : Value).ownBlock ∧ some k_ ≠ (.slice (some ad225) t213.length co14 : Value).ownBlock)) (by (with_reducible repeat (first | apply Kd.R_alloc | apply Kd.R_drewN | apply Kd.R_drew)); exact Kd.R_mono HO_7.out (fun _ hk => by first | exact ⟨⟨hk.1, hk.2.2⟩, hk.2.1⟩ | exact hk | exact ⟨hk.1, hk.2⟩ | simp_all)) hg (.inl rfl)); have n2_ := Aside0.mk (hp_); have n3_ := Aside0.mk (Kd.R_after (v := (.slice (some ⟨go29, 0, none⟩) x8_1.length co29)) (v1 := (.slice (some ⟨go29, 0, none⟩) x8_1.length co29)) (ok := (fun k_ => some k_ ≠ (v220 : Value).ownBlock)) (by exact RX_ HO_30.out) hg (.inl rfl)); have n4_ := Aside0.mk (blk_grown (g := gb212) (o := .cells #[.slice A0_0 l0_0.length c0_0, .slice A0_1 l0_1.length c0_1] 26 (0, 0)) (by exact KX_ BK212.out) hg (Kd.R_ne HO_8.out BK212.out (by decide))); have n5_ := Aside0.mk ((by rw [hw]; exact below_set (HB.out) GB29.out : Below w.heap.size w w31)); clear HO_5; clear HO_7; clear HO_8; clear HO_30; clear BK212; clear HB; have HO_5 := n0_; have HO_7 := n1_; have HO_8 := n2_; have HO_30 := n3_; have BK212 := n4_; have HB := n5_; clear n0_ n1_ n2_ n3_ n4_ n5_; clear hg hw hp_))
          go_roundg k1
          case measure => have := HK1.out; omega
          case rel => exact ⟨(y226), (wrap64 (x32_1 + 1)), (by first | rfl | (simp; done) | (simp [*]; done)), H', ⟨by have := HK1.out; omega⟩, ⟨by exact RM_ HO_5.out⟩, ⟨by (with_reducible repeat (first | apply Kd.R_alloc | apply Kd.R_drewN | apply Kd.R_drew)); exact Kd.R_mono HO_7.out (fun _ hk => by first | exact ⟨hk.1.1, ⟨hk.2, hk.1.2⟩⟩ | exact hk | exact ⟨hk.1, hk.2⟩ | simp_all)⟩, ⟨by exact RM_ HO_8.out⟩, ⟨by exact RM_ HO_30.out⟩, ⟨by exact KX_ BK212.out⟩, ⟨B1_⟩⟩
         rw [if_neg c28] at H
         exact absurd H (by simp)
        rw [if_neg c27] at H
        exact absurd H (by simp)
       rw [if_neg c26] at H
       exact absurd H (by simp)
      rw [if_neg c25] at H
      exact absurd H (by simp)
     rw [if_neg c24] at H
     have c24b0 : decide (x32_1 < (t213.length : Int)) = false := decide_eq_false c24
     clear c24
     by_cases c32 : 0 ≤ a1
     ·rw [if_pos c32] at H
      have c32b0 : decide (0 ≤ a1) = true := decide_eq_true c32
      clear c32
      by_cases c33 : a1 < (t219.length : Int)
      ·rw [if_pos c33] at H
       have c33b0 : decide (a1 < (t219.length : Int)) = true := decide_eq_true c33
       clear c33
       obtain ⟨y227, hy227⟩ : ∃ y_ : List Int, y_ = (t219.set (a1 : Int).toNat a1) := ⟨_, rfl⟩
       replace H : (dom_Tree.l1 k1 a1 t213 y227 x8_1 l0_0 l0_1) = some r := by first | (rw [hy227]; with_reducible exact H) | (have H2_ := (Option.bind_some _ _).symm.trans H; rw [hy227]; with_reducible exact H2_) | (have H2_ := (Option.bind_some _ _).symm.trans H; with_reducible exact H2_) | with_reducible exact H | (rw [hy227]; exact H) | exact H
       have Ny227 := Aside0.mk hy227
       clear hy227
       have H' := Aside0.mk H
       clear H
       have p34 : 0 ≤ (a1 : Int) := D_
       have q34 : (a1 : Int) < ((t219.length : Int) : Int) := D_
       obtain ⟨go34, co34, eo34, gb34, gl34, cl34, HG34⟩ := Kd.R_form HO_7.out (by omega)
       (first | cases eo34 | (injection eo34 with ea_ en_ ec_; (first | subst ea_ | (injection ea_ with ea_; subst ea_)); subst ec_; clear en_))
       have GB34 := Aside0.mk gb34
       have GG34 := Aside0.mk HG34
       clear gb34 gl34 HG34
       obtain ⟨hx34_0, hf34_0⟩ := Kd.R_celln 0 HO_7.out (a1 : Int) p34 q34
       replace p34 := eq_true p34
       replace q34 := eq_true q34
       have HP35 := Kd.R_putg HO_7.out (a1 : Int) a1
       go_wp2_with (first | ((with_reducible refine gate_store (t := 3) (p := 45) rfl ?_); refine store_event (t := 3) (p := 45) (v := ?vo_w36) (w1 := (wr.setCell ⟨go34, (a1 : Int).toNat, none⟩ (.int .i64 a1))) ?hg ?ho ?hn ?hr ?_; (case ho => rfl); (case hg => rfl); (case hn => rfl); (case hr => first | (go_simp; done) | (go_simp; rfl)); intro w36 hw; have hg : wr.grownBy w36 (some go34) := (by rw [hw]; exact HP35.2); have hp_ : Kd.R (Kd.int .i64) 3 w36 w.heap.size (fun k_ => some k_ ≠ (.slice Ao14 t213.length co14 : Value).ownBlock ∧ some k_ ≠ (v223 : Value).ownBlock ∧ some k_ ≠ (.slice Ao14 t213.length co14 : Value).ownBlock) (.slice (some ⟨go34, 0, none⟩) t219.length co34) y227 := (by rw [hw, Ny227.out]; exact HP35.1); clear HP35; have n0_ := Aside0.mk (Kd.R_after (v := (.slice (some ⟨go34, 0, none⟩) t219.length co34)) (v1 := (.slice (some ⟨go34, 0, none⟩) t219.length co34)) (ok := (fun k_ => some k_ ≠ (v223 : Value).ownBlock)) (by (with_reducible repeat (first | apply Kd.R_alloc | apply Kd.R_drewN | apply Kd.R_drew)); exact Kd.R_mono HO_5.out (fun _ hk => by first | exact ⟨hk.2, hk.1⟩ | exact hk | exact ⟨hk.1, hk.2⟩ | simp_all)) hg (.inl rfl)); have n1_ := Aside0.mk (hp_); have n2_ := Aside0.mk (Kd.R_after (v := (.slice (some ⟨go34, 0, none⟩) t219.length co34)) (v1 := (.slice (some ⟨go34, 0, none⟩) t219.length co34)) (ok := (fun k_ => some k_ ≠ (.slice Ao14 t213.length co14 : Value).ownBlock ∧ some k_ ≠ (.slice Ao14 t213.length co14 : Value).ownBlock)) (by (with_reducible repeat (first | apply Kd.R_alloc | apply Kd.R_drewN | apply Kd.R_drew)); exact Kd.R_mono HO_8.out (fun _ hk => by first | exact ⟨⟨hk.1, hk.2.2⟩, hk.2.1⟩ | exact hk | exact ⟨hk.1, hk.2⟩ | simp_all)) hg (.inl rfl)); have n3_ := Aside0.mk (Kd.R_after (v := (.slice (some ⟨go34, 0, none⟩) t219.length co34)) (v1 := (.slice (some ⟨go34, 0, none⟩) t219.length co34)) (ok := (fun k_ => some k_ ≠ (v223 : Value).ownBlock)) (by (with_reducible repeat (first | apply Kd.R_alloc | apply Kd.R_drewN | apply Kd.R_drew)); exact Kd.R_mono HO_30.out (fun _ hk => by first | exact ⟨hk.2, hk.1⟩ | exact hk | exact ⟨hk.1, hk.2⟩ | simp_all)) hg (.inl rfl)); have n4_ := Aside0.mk (blk_grown (g := gb212) (o := .cells #[.slice A0_0 l0_0.length c0_0, .slice A0_1 l0_1.length c0_1] 26 (0, 0)) (by exact KX_ BK212.out) hg (Kd.R_ne HO_7.out BK212.out (by decide))); have n5_ := Aside0.mk ((by rw [hw]; exact below_set (HB.out) GB34.out : Below w.heap.size w w36)); clear HO_5; clear HO_7; clear HO_8; clear HO_30; clear BK212; clear HB; have HO_5 := n0_; have HO_7 := n1_; have HO_8 := n2_; have HO_30 := n3_; have BK212 := n4_; have HB := n5_; clear n0_ n1_ n2_ n3_ n4_ n5_; clear hg hw hp_))
       go_step3
       go_step
       try go_step
       apply lab_ghost_at (l := 0) (I := fun (a0_ : Act) (kq_ : Nat) (a_ : Act) (w_ : World) => ∃ u4 u12 u13 u15 u46 u47 u48 u49 u50 u51 u52 u53 u54 u55 u56 u57 u58 u59 u60 u61 u62 u63 u64 u65 u66 u67 u68 u69 u70 u71 u72 u73 u74 u75 u76 u77 u78 u79 u80 u81 u82 u83 u84 u85 u86 u87 u88 u89 u90 u91 u92 u93 : Value, ((fun kq w' => ∃ (x7_2 : List Int), Aside0 (dom_Tree.l1 kq a1 t213 x7_2 x8_1 l0_0 l0_1 = some r) ∧ Aside0 (kq ≤ k1) ∧ Aside0 (Kd.R (Kd.int .i64) 3 w' w.heap.size (fun k_ => some k_ ≠ ((.slice (some ⟨go34, 0, none⟩) t219.length co34) : Value).ownBlock ∧ some k_ ≠ (v223 : Value).ownBlock) (.slice Ao14 t213.length co14) t213) ∧ Aside0 (Kd.R (Kd.int .i64) 3 w' w.heap.size (fun k_ => some k_ ≠ ((.slice Ao14 t213.length co14) : Value).ownBlock ∧ some k_ ≠ (v223 : Value).ownBlock) (.slice (some ⟨go34, 0, none⟩) t219.length co34) x7_2) ∧ Aside0 (Kd.R (Kd.int .i64) 3 w' w.heap.size (fun k_ => some k_ ≠ ((.slice Ao14 t213.length co14) : Value).ownBlock ∧ some k_ ≠ ((.slice (some ⟨go34, 0, none⟩) t219.length co34) : Value).ownBlock) v223 x8_1) ∧ Aside0 (w'.heap[gb212]? = some (.cells #[(.slice A0_0 l0_0.length c0_0), (.slice A0_1 l0_1.length c0_1)] 26 (0, 0))) ∧ Aside0 (Below w.heap.size w w')) kq_  w_) ∧ a_ = { tmps := ((((((((((((((((((((((((((((((((((((((((((((((((((((a0_.tmps.setIfInBounds 4 u4).setIfInBounds 12 u12).setIfInBounds 13 u13).setIfInBounds 15 u15).setIfInBounds 46 u46).setIfInBounds 47 u47).setIfInBounds 48 u48).setIfInBounds 49 u49).setIfInBounds 50 u50).setIfInBounds 51 u51).setIfInBounds 52 u52).setIfInBounds 53 u53).setIfInBounds 54 u54).setIfInBounds 55 u55).setIfInBounds 56 u56).setIfInBounds 57 u57).setIfInBounds 58 u58).setIfInBounds 59 u59).setIfInBounds 60 u60).setIfInBounds 61 u61).setIfInBounds 62 u62).setIfInBounds 63 u63).setIfInBounds 64 u64).setIfInBounds 65 u65).setIfInBounds 66 u66).setIfInBounds 67 u67).setIfInBounds 68 u68).setIfInBounds 69 u69).setIfInBounds 70 u70).setIfInBounds 71 u71).setIfInBounds 72 u72).setIfInBounds 73 u73).setIfInBounds 74 u74).setIfInBounds 75 u75).setIfInBounds 76 u76).setIfInBounds 77 u77).setIfInBounds 78 u78).setIfInBounds 79 u79).setIfInBounds 80 u80).setIfInBounds 81 u81).setIfInBounds 82 u82).setIfInBounds 83 u83).setIfInBounds 84 u84).setIfInBounds 85 u85).setIfInBounds 86 u86).setIfInBounds 87 u87).setIfInBounds 88 u88).setIfInBounds 89 u89).setIfInBounds 90 u90).setIfInBounds 91 u91).setIfInBounds 92 u92).setIfInBounds 93 u93), defers := a0_.defers }) (n₀ := k1); (case hf => rfl)
       case h₀ =>
        (repeat apply Exists.intro)
        refine ⟨?_, ?hfr⟩
        (case hfr => (try simp only [List.setIfInBounds_toArray, List.set_cons_zero, List.set_cons_succ]); rfl)
        exact ⟨(y227), H', ⟨Nat.le_refl _⟩, ⟨by (with_reducible repeat (first | apply Kd.R_alloc | apply Kd.R_drewN | apply Kd.R_drew)); exact Kd.R_mono HO_5.out (fun _ hk => by first | exact ⟨hk.2, hk.1⟩ | exact hk | exact ⟨hk.1, hk.2⟩ | simp_all)⟩, ⟨by (with_reducible repeat (first | apply Kd.R_alloc | apply Kd.R_drewN | apply Kd.R_drew)); exact Kd.R_mono HO_7.out (fun _ hk => by first | exact ⟨hk.1, hk.2.1⟩ | exact hk | exact ⟨hk.1, hk.2⟩ | simp_all)⟩, ⟨by (with_reducible repeat (first | apply Kd.R_alloc | apply Kd.R_drewN | apply Kd.R_drew)); exact Kd.R_mono HO_8.out (fun _ hk => by first | exact ⟨hk.1.1, hk.2⟩ | exact hk | exact ⟨hk.1, hk.2⟩ | simp_all)⟩, ⟨by exact KX_ BK212.out⟩, ⟨B1_⟩⟩
       intro gk _ wr hinv
       obtain ⟨u4, hinv⟩ := hinv
       obtain ⟨u12, hinv⟩ := hinv
       obtain ⟨u13, hinv⟩ := hinv
       obtain ⟨u15, hinv⟩ := hinv
       obtain ⟨u46, hinv⟩ := hinv
       obtain ⟨u47, hinv⟩ := hinv
       obtain ⟨u48, hinv⟩ := hinv
       obtain ⟨u49, hinv⟩ := hinv
       obtain ⟨u50, hinv⟩ := hinv
       obtain ⟨u51, hinv⟩ := hinv
       obtain ⟨u52, hinv⟩ := hinv
       obtain ⟨u53, hinv⟩ := hinv
       obtain ⟨u54, hinv⟩ := hinv
       obtain ⟨u55, hinv⟩ := hinv
       obtain ⟨u56, hinv⟩ := hinv
       obtain ⟨u57, hinv⟩ := hinv
       obtain ⟨u58, hinv⟩ := hinv
       obtain ⟨u59, hinv⟩ := hinv
       obtain ⟨u60, hinv⟩ := hinv
       obtain ⟨u61, hinv⟩ := hinv
       obtain ⟨u62, hinv⟩ := hinv
       obtain ⟨u63, hinv⟩ := hinv
       obtain ⟨u64, hinv⟩ := hinv
       obtain ⟨u65, hinv⟩ := hinv
       obtain ⟨u66, hinv⟩ := hinv
       obtain ⟨u67, hinv⟩ := hinv
       obtain ⟨u68, hinv⟩ := hinv
       obtain ⟨u69, hinv⟩ := hinv
       obtain ⟨u70, hinv⟩ := hinv
       obtain ⟨u71, hinv⟩ := hinv
       obtain ⟨u72, hinv⟩ := hinv
       obtain ⟨u73, hinv⟩ := hinv
       obtain ⟨u74, hinv⟩ := hinv
       obtain ⟨u75, hinv⟩ := hinv
       obtain ⟨u76, hinv⟩ := hinv
       obtain ⟨u77, hinv⟩ := hinv
       obtain ⟨u78, hinv⟩ := hinv
       obtain ⟨u79, hinv⟩ := hinv
       obtain ⟨u80, hinv⟩ := hinv
       obtain ⟨u81, hinv⟩ := hinv
       obtain ⟨u82, hinv⟩ := hinv
       obtain ⟨u83, hinv⟩ := hinv
       obtain ⟨u84, hinv⟩ := hinv
       obtain ⟨u85, hinv⟩ := hinv
       obtain ⟨u86, hinv⟩ := hinv
       obtain ⟨u87, hinv⟩ := hinv
       obtain ⟨u88, hinv⟩ := hinv
       obtain ⟨u89, hinv⟩ := hinv
       obtain ⟨u90, hinv⟩ := hinv
       obtain ⟨u91, hinv⟩ := hinv
       obtain ⟨u92, hinv⟩ := hinv
       obtain ⟨u93, hinv⟩ := hinv
       obtain ⟨hrel, ha⟩ := hinv; subst ha
       intro _ _ hJ_ hK_
       (try simp only [List.setIfInBounds_toArray, List.set_cons_zero, List.set_cons_succ])
       (try simp only [List.setIfInBounds_toArray, List.set_cons_zero, List.set_cons_succ] at hJ_)
       clear H'
       try clear c24b0
       try clear c32b0
       try clear c33b0
       try clear p34
       try clear q34
       try clear hx34_0
       try clear p34
       try clear q34
       obtain ⟨x7_2, HA, HK2, HO_5, HO_7, HO_8, BK212, HB⟩ := hrel
       have hl7_2 := (Kd.R_reads' HO_7.out).1
       rw [hl7_2] at HO_7
       (try simp only [hl7_2])
       (try simp only [hl7_2] at BK212)
       (try simp only [hl7_2] at HO_5)
       (try simp only [hl7_2] at HO_8)
       cases gk with
       | zero => exact absurd HA.out (by simp [dom_Tree.l1])
       | succ k2 =>
        have H := HA.out
        clear HA
        simp only [dom_Tree.l1] at H
        by_cases c37 : 1 ≤ (t213.length : Int)
        ·rw [if_pos c37] at H
         have c37b0 := eq_true c37
         have c37b1 : decide (1 ≤ (t213.length : Int)) = true := decide_eq_true c37
         clear c37
         obtain ⟨y228, hy228⟩ : ∃ y_ : List Int, y_ = (t213.drop 1) := ⟨_, rfl⟩
         replace H : (dom_Tree.l2 k2 a1 t213 x7_2 x8_1 y228 (y228.length : Int) 0 l0_0 l0_1) = some r := by first | (rw [hy228]; with_reducible exact H) | (have H2_ := (Option.bind_some _ _).symm.trans H; rw [hy228]; with_reducible exact H2_) | (have H2_ := (Option.bind_some _ _).symm.trans H; with_reducible exact H2_) | with_reducible exact H | (rw [hy228]; exact H) | exact H
         have Ny228 := Aside0.mk hy228
         clear hy228
         have H' := Aside0.mk H
         clear H
         have q38 : (1 : Int) ≤ ((t213.length : Int) : Int) := D_
         obtain ⟨i038, hi038, _, hsz38, _⟩ := info_parts info3
         have hroom38 : t213.length ≤ co14 := (Kd.R_reads' HO_5.out).2.1
         have hC38 : Kd.C (Kd.int .i64) _ Ao14 t213.length t213 := (Kd.R_reads' HO_5.out).2.2
         have hcut38 := cut_from (P := Try.prog) 30 3 .i64 Try.underlying30 hi038 1 hsz38 Ao14 t213.length co14 1 (by omega) q38
         have hr38 := Kd.C_drop (m := (1 : Int).toNat) (c := co14) hC38 (by omega) hroom38
         obtain ⟨A38, hA38⟩ : ∃ A1, A1 = (if co14 = (1 : Int).toNat then Ao14 else (Ao14 : Option Addr).map (·.add ((1 : Int).toNat * 1))) := ⟨_, rfl⟩
         obtain ⟨c38, hc38⟩ : ∃ c1, c1 = co14 - (1 : Int).toNat := ⟨_, rfl⟩
         have hy38 : y228.length = t213.length - (1 : Int).toNat := (by rw [Ny228.out, List.length_drop] <;> omega)
         rw [show (t213).drop (1 : Int).toNat = y228 from Ny228.out.symm] at hr38
         replace hr38 : Kd.C (Kd.int .i64) _ A38 y228.length y228 := (by rw [hA38]; exact hr38)
         rw [← hy38, ← hA38, ← hc38] at hcut38
         have HR231 := Aside0.mk hr38
         have HC231 := Aside0.mk (show y228.length ≤ c38 from by rw [hy38, hc38]; exact Nat.sub_le_sub_right hroom38 _)
         clear hr38 hC38 hroom38 hi038 hsz38 hc38
         have KY38 := Aside0.mk hy38
         have KA38 := Aside0.mk hA38
         clear hy38 hA38
         have KL38 := Aside0.mk (show 1 ≤ t213.length from by omega)
         replace q38 := eq_true q38
         go_wp2
         go_loopg [49] k2 (fun kq v49 w' => ∃ (x7_3 : List Int) (x49_3 : Int), v49 = .int .i64 x49_3 ∧ Aside0 (dom_Tree.l2 kq a1 t213 x7_3 x8_1 y228 (y228.length : Int) x49_3 l0_0 l0_1 = some r) ∧ Aside0 (kq ≤ k2) ∧ Aside0 (Kd.R (Kd.int .i64) 3 w' w.heap.size (fun k_ => some k_ ≠ ((.slice (some ⟨go34, 0, none⟩) x7_2.length co34) : Value).ownBlock ∧ some k_ ≠ (v223 : Value).ownBlock) (.slice Ao14 t213.length co14) t213) ∧ Aside0 (Kd.R (Kd.int .i64) 3 w' w.heap.size (fun k_ => some k_ ≠ ((.slice Ao14 t213.length co14) : Value).ownBlock ∧ some k_ ≠ (v223 : Value).ownBlock) (.slice (some ⟨go34, 0, none⟩) x7_2.length co34) x7_3) ∧ Aside0 (Kd.R (Kd.int .i64) 3 w' w.heap.size (fun k_ => some k_ ≠ ((.slice Ao14 t213.length co14) : Value).ownBlock ∧ some k_ ≠ ((.slice (some ⟨go34, 0, none⟩) x7_2.length co34) : Value).ownBlock) v223 x8_1) ∧ Aside0 (w'.heap[gb212]? = some (.cells #[(.slice A0_0 l0_0.length c0_0), (.slice A0_1 l0_1.length c0_1)] 26 (0, 0))) ∧ Aside0 (Kd.C (Kd.int .i64) w' A38 y228.length y228) ∧ Aside0 (Below w.heap.size w w'))
         case atStart => exact ⟨(x7_2), (0), (by first | rfl | (simp; done) | (simp [*]; done)), H', ⟨Nat.le_refl _⟩, ⟨by (try simp only [hl7_2]); exact RM_ HO_5.out⟩, ⟨by (try simp only [hl7_2]); exact RM_ HO_7.out⟩, ⟨by (try simp only [hl7_2]); exact RM_ HO_8.out⟩, ⟨by (try simp only [hl7_2]); exact KX_ BK212.out⟩, ⟨by repeat (first | (with_reducible exact HR231.out) | (with_reducible refine Kd.C_alloc ?_ _) | (with_reducible refine Kd.C_drewN ?_ _) | (with_reducible refine Kd.C_drew ?_) | exact HR231.out)⟩, ⟨B1_⟩⟩
         case round =>
          clear H'
          try clear c1
          try clear c37b0
          try clear c37b1
          try clear c38
          try clear q38
          try clear q38
          obtain ⟨x7_3, x49_3, rfl, HA, HK3, HO_5, HO_7, HO_8, BK212, HR231, HB⟩ := hrel
          have hl7_3 := (Kd.R_reads' HO_7.out).1
          rw [hl7_3] at HO_7
          (try simp only [hl7_3])
          (try simp only [hl7_3] at BK212)
          (try simp only [hl7_3] at HO_5)
          (try simp only [hl7_3] at HO_8)
          cases gk with
          | zero => exact absurd HA.out (by simp [dom_Tree.l2])
          | succ k3 =>
           have H := HA.out
           clear HA
           simp only [dom_Tree.l2] at H
           by_cases c39 : x49_3 < (y228.length : Int)
           ·rw [if_pos c39] at H
            have c39b0 : decide (x49_3 < (y228.length : Int)) = true := decide_eq_true c39
            clear c39
            by_cases c40 : 0 ≤ x49_3
            ·rw [if_pos c40] at H
             have c40b0 : decide (0 ≤ x49_3) = true := decide_eq_true c40
             clear c40
             by_cases c41 : x49_3 < (y228.length : Int)
             ·rw [if_pos c41] at H
              have c41b0 : decide (x49_3 < (y228.length : Int)) = true := decide_eq_true c41
              clear c41
              by_cases c42 : 0 ≤ (rd y228 x49_3)
              ·rw [if_pos c42] at H
               have c42b0 : decide (0 ≤ (rd y228 x49_3)) = true := decide_eq_true c42
               clear c42
               by_cases c43 : (rd y228 x49_3) < (l0_1.length : Int)
               ·rw [if_pos c43] at H
                have c43b0 : decide ((rd y228 x49_3) < (l0_1.length : Int)) = true := decide_eq_true c43
                clear c43
                have H' := Aside0.mk H
                clear H
                have p233 : 0 ≤ (x49_3 : Int) := D_
                have q233 : x49_3 < (y228.length : Int) := D_
                obtain ⟨ad233, e233, hx233_0⟩ := Kd.at_int HR231.out x49_3 p233 q233
                cases e233
                replace p233 := eq_true p233
                replace q233 := eq_true q233
                have hcz44_0 : wr.cell? ⟨gb212, 0, none⟩ = some (.slice A0_0 l0_0.length c0_0) := (blk_cell BK212.out 0).trans rfl
                have hcz44_1 : wr.cell? ⟨gb212, 1, none⟩ = some (.slice A0_1 l0_1.length c0_1) := (blk_cell BK212.out 1).trans rfl
                have hfz44_0 := blk_frozen BK212.out 0
                have hfz44_1 := blk_frozen BK212.out 1
                have p234 : 0 ≤ ((rd y228 x49_3) : Int) := D_
                have q234 : (rd y228 x49_3) < (l0_1.length : Int) := D_
                obtain ⟨ad234, A234_0, c234_0, e234, hx234_0, hl234_0, hi234_0⟩ := at_L1 HR0_1.out (rd y228 x49_3) p234 q234
                cases e234
                replace hx234_0 := (HB.out.cell (World.block_lt_of_cell? w _ hx234_0)).trans hx234_0
                have HR234_0 := Aside0.mk hi234_0
                have HC234_0 := Aside0.mk hl234_0
                clear hi234_0 hl234_0
                replace p234 := eq_true p234
                replace q234 := eq_true q234
                go_wp2
                go_loopg [13, 59] k3 (fun kq v13 v59 w' => ∃ (x13_4 : Int) (x59_4 : Int), v13 = .int .i64 x13_4 ∧ v59 = .int .i64 x59_4 ∧ Aside0 (dom_Tree.l3 kq a1 t213 x7_3 x8_1 (rd y228 x49_3) x13_4 y228 (y228.length : Int) x49_3 (rd_L1 l0_1 (rd y228 x49_3)) ((rd_L1 l0_1 (rd y228 x49_3)).length : Int) x59_4 l0_0 l0_1 = some r) ∧ Aside0 (kq ≤ k3) ∧ Aside0 (Kd.R (Kd.int .i64) 3 w' w.heap.size (fun k_ => some k_ ≠ ((.slice (some ⟨go34, 0, none⟩) x7_3.length co34) : Value).ownBlock ∧ some k_ ≠ (v223 : Value).ownBlock) (.slice Ao14 t213.length co14) t213) ∧ Aside0 (Kd.R (Kd.int .i64) 3 w' w.heap.size (fun k_ => some k_ ≠ ((.slice Ao14 t213.length co14) : Value).ownBlock ∧ some k_ ≠ (v223 : Value).ownBlock) (.slice (some ⟨go34, 0, none⟩) x7_3.length co34) x7_3) ∧ Aside0 (Kd.R (Kd.int .i64) 3 w' w.heap.size (fun k_ => some k_ ≠ ((.slice Ao14 t213.length co14) : Value).ownBlock ∧ some k_ ≠ ((.slice (some ⟨go34, 0, none⟩) x7_3.length co34) : Value).ownBlock) v223 x8_1) ∧ Aside0 (w'.heap[gb212]? = some (.cells #[(.slice A0_0 l0_0.length c0_0), (.slice (some ad234) l0_1.length c0_1)] 26 (0, 0))) ∧ Aside0 (Kd.C (Kd.int .i64) w' (some ad233) y228.length y228) ∧ Aside0 (Below w.heap.size w w'))
                case atStart => exact ⟨((-2)), (0), (by first | rfl | (simp; done) | (simp [*]; done)), (by first | rfl | (simp; done) | (simp [*]; done)), H', ⟨Nat.le_refl _⟩, ⟨by (try simp only [hl7_2]); (try simp only [hl7_3]); exact RM_ HO_5.out⟩, ⟨by (try simp only [hl7_2]); (try simp only [hl7_3]); exact RM_ HO_7.out⟩, ⟨by (try simp only [hl7_2]); (try simp only [hl7_3]); exact RM_ HO_8.out⟩, ⟨by (try simp only [hl7_2]); (try simp only [hl7_3]); exact KX_ BK212.out⟩, ⟨by repeat (first | (with_reducible exact HR231.out) | (with_reducible refine Kd.C_alloc ?_ _) | (with_reducible refine Kd.C_drewN ?_ _) | (with_reducible refine Kd.C_drew ?_) | exact HR231.out)⟩, ⟨B1_⟩⟩
                case round =>
                 clear H'
                 try clear c39b0
                 try clear c40b0
                 try clear c41b0
                 try clear c42b0
                 try clear c43b0
                 try clear hcz44_0
                 try clear hcz44_1
                 try clear hfz44_0
                 try clear hfz44_1
                 try clear hx233_0
                 try clear hx234_0
                 try clear p233
                 try clear p234
                 try clear q233
                 try clear q234
                 obtain ⟨x13_4, x59_4, rfl, rfl, HA, HK4, HO_5, HO_7, HO_8, BK212, HR231, HB⟩ := hrel
                 cases gk with
                 | zero => exact absurd HA.out (by simp [dom_Tree.l3])
                 | succ k4 =>
                  have H := HA.out
                  clear HA
                  simp only [dom_Tree.l3] at H
                  by_cases c45 : x59_4 < ((rd_L1 l0_1 (rd y228 x49_3)).length : Int)
                  ·rw [if_pos c45] at H
                   have c45b0 : decide (x59_4 < ((rd_L1 l0_1 (rd y228 x49_3)).length : Int)) = true := decide_eq_true c45
                   clear c45
                   by_cases c46 : 0 ≤ x59_4
                   ·rw [if_pos c46] at H
                    have c46b0 : decide (0 ≤ x59_4) = true := decide_eq_true c46
                    clear c46
                    by_cases c47 : x59_4 < ((rd_L1 l0_1 (rd y228 x49_3)).length : Int)
                    ·rw [if_pos c47] at H
                     have c47b0 : decide (x59_4 < ((rd_L1 l0_1 (rd y228 x49_3)).length : Int)) = true := decide_eq_true c47
                     clear c47
                     by_cases c48 : 0 ≤ (rd (rd_L1 l0_1 (rd y228 x49_3)) x59_4)
                     ·rw [if_pos c48] at H
                      have c48b0 : decide (0 ≤ (rd (rd_L1 l0_1 (rd y228 x49_3)) x59_4)) = true := decide_eq_true c48
                      clear c48
                      by_cases c49 : (rd (rd_L1 l0_1 (rd y228 x49_3)) x59_4) < (x7_3.length : Int)
                      ·rw [if_pos c49] at H
                       have c49b0 : decide ((rd (rd_L1 l0_1 (rd y228 x49_3)) x59_4) < (x7_3.length : Int)) = true := decide_eq_true c49
                       clear c49
                       by_cases c50 : (rd x7_3 (rd (rd_L1 l0_1 (rd y228 x49_3)) x59_4)) = (-2)
                       ·rw [if_pos c50] at H
                        have c50b0 : ((rd x7_3 (rd (rd_L1 l0_1 (rd y228 x49_3)) x59_4)) == (-2)) = true := beq_iff_eq.mpr c50
                        have c50b1 : ((rd x7_3 (rd (rd_L1 l0_1 (rd y228 x49_3)) x59_4)) != (-2)) = false := bne_eq_false_iff_eq.mpr c50
                        clear c50
                        have H' := Aside0.mk H
                        clear H
                        have p237 : 0 ≤ (x59_4 : Int) := D_
                        have q237 : x59_4 < ((rd_L1 l0_1 (rd y228 x49_3)).length : Int) := D_
                        obtain ⟨ad237, e237, hx237_0⟩ := Kd.at_int HR234_0.out x59_4 p237 q237
                        cases e237
                        replace hx237_0 := (HB.out.cell (World.block_lt_of_cell? w _ hx237_0)).trans hx237_0
                        replace p237 := eq_true p237
                        replace q237 := eq_true q237
                        have p238 : 0 ≤ ((rd (rd_L1 l0_1 (rd y228 x49_3)) x59_4) : Int) := D_
                        have q238 : (rd (rd_L1 l0_1 (rd y228 x49_3)) x59_4) < (x7_3.length : Int) := D_
                        obtain ⟨ad238, e238, hx238_0⟩ := Kd.at_int (Kd.R_reads' HO_7.out).2.2 (rd (rd_L1 l0_1 (rd y228 x49_3)) x59_4) p238 q238
                        obtain rfl : (⟨go34, 0, none⟩ : Addr) = ad238 := (by injection e238)
                        (first | simp only [add_plain] at hx238_0 | simp only [add_at] at hx238_0 | simp only [Addr.add, Nat.zero_add] at hx238_0 | skip)
                        replace p238 := eq_true p238
                        replace q238 := eq_true q238
                        go_wp2
                        go_roundg k4
                        case measure => have := HK1.out; have := HK2.out; have := HK3.out; have := HK4.out; omega
                        case rel => exact ⟨(x13_4), (wrap64 (x59_4 + 1)), (by first | rfl | (simp; done) | (simp [*]; done)), (by first | rfl | (simp; done) | (simp [*]; done)), H', ⟨by have := HK1.out; have := HK2.out; have := HK3.out; have := HK4.out; omega⟩, ⟨by (try simp only [hl7_2]); (try simp only [hl7_3]); exact RM_ HO_5.out⟩, ⟨by (try simp only [hl7_2]); (try simp only [hl7_3]); exact RM_ HO_7.out⟩, ⟨by (try simp only [hl7_2]); (try simp only [hl7_3]); exact RM_ HO_8.out⟩, ⟨by (try simp only [hl7_2]); (try simp only [hl7_3]); exact KX_ BK212.out⟩, ⟨by repeat (first | (with_reducible exact HR231.out) | (with_reducible refine Kd.C_alloc ?_ _) | (with_reducible refine Kd.C_drewN ?_ _) | (with_reducible refine Kd.C_drew ?_) | exact HR231.out)⟩, ⟨B1_⟩⟩
                       rw [if_neg c50] at H
                       have c50b0 : ((rd x7_3 (rd (rd_L1 l0_1 (rd y228 x49_3)) x59_4)) == (-2)) = false := beq_eq_false_iff_ne.mpr c50
                       have c50b1 : ((rd x7_3 (rd (rd_L1 l0_1 (rd y228 x49_3)) x59_4)) != (-2)) = true := bne_iff_ne.mpr c50
                       by_cases c51 : x13_4 = (-2)
                       ·rw [if_pos c51] at H
                        have c51b0 : (x13_4 == (-2)) = true := beq_iff_eq.mpr c51
                        have c51b1 : (x13_4 != (-2)) = false := bne_eq_false_iff_eq.mpr c51
                        clear c51
                        have H' := Aside0.mk H
                        clear H
                        have p237 : 0 ≤ (x59_4 : Int) := D_
                        have q237 : x59_4 < ((rd_L1 l0_1 (rd y228 x49_3)).length : Int) := D_
                        obtain ⟨ad237, e237, hx237_0⟩ := Kd.at_int HR234_0.out x59_4 p237 q237
                        cases e237
                        replace hx237_0 := (HB.out.cell (World.block_lt_of_cell? w _ hx237_0)).trans hx237_0
                        replace p237 := eq_true p237
                        replace q237 := eq_true q237
                        have p238 : 0 ≤ ((rd (rd_L1 l0_1 (rd y228 x49_3)) x59_4) : Int) := D_
                        have q238 : (rd (rd_L1 l0_1 (rd y228 x49_3)) x59_4) < (x7_3.length : Int) := D_
                        obtain ⟨ad238, e238, hx238_0⟩ := Kd.at_int (Kd.R_reads' HO_7.out).2.2 (rd (rd_L1 l0_1 (rd y228 x49_3)) x59_4) p238 q238
                        obtain rfl : (⟨go34, 0, none⟩ : Addr) = ad238 := (by injection e238)
                        (first | simp only [add_plain] at hx238_0 | simp only [add_at] at hx238_0 | simp only [Addr.add, Nat.zero_add] at hx238_0 | skip)
                        replace p238 := eq_true p238
                        replace q238 := eq_true q238
                        go_wp2
                        go_roundg k4
                        case measure => have := HK1.out; have := HK2.out; have := HK3.out; have := HK4.out; omega
                        case rel => exact ⟨(rd (rd_L1 l0_1 (rd y228 x49_3)) x59_4), (wrap64 (x59_4 + 1)), (by first | rfl | (simp; done) | (simp [*]; done)), (by first | rfl | (simp; done) | (simp [*]; done)), H', ⟨by have := HK1.out; have := HK2.out; have := HK3.out; have := HK4.out; omega⟩, ⟨by (try simp only [hl7_2]); (try simp only [hl7_3]); exact RM_ HO_5.out⟩, ⟨by (try simp only [hl7_2]); (try simp only [hl7_3]); exact RM_ HO_7.out⟩, ⟨by (try simp only [hl7_2]); (try simp only [hl7_3]); exact RM_ HO_8.out⟩, ⟨by (try simp only [hl7_2]); (try simp only [hl7_3]); exact KX_ BK212.out⟩, ⟨by repeat (first | (with_reducible exact HR231.out) | (with_reducible refine Kd.C_alloc ?_ _) | (with_reducible refine Kd.C_drewN ?_ _) | (with_reducible refine Kd.C_drew ?_) | exact HR231.out)⟩, ⟨B1_⟩⟩
                       rw [if_neg c51] at H
                       have c51b0 : (x13_4 == (-2)) = false := beq_eq_false_iff_ne.mpr c51
                       have c51b1 : (x13_4 != (-2)) = true := bne_iff_ne.mpr c51
                       replace H := Option.bind_eq_some_iff.mp H
                       obtain ⟨t239, A520, H⟩ := H
                       replace H : (dom_Tree.l3 k4 a1 t213 x7_3 x8_1 (rd y228 x49_3) t239 y228 (y228.length : Int) x49_3 (rd_L1 l0_1 (rd y228 x49_3)) ((rd_L1 l0_1 (rd y228 x49_3)).length : Int) (wrap64 (x59_4 + 1)) l0_0 l0_1) = some r := H
                       have A52 := Aside0.mk A520
                       clear A520
                       have H' := Aside0.mk H
                       clear H
                       have p237 : 0 ≤ (x59_4 : Int) := D_
                       have q237 : x59_4 < ((rd_L1 l0_1 (rd y228 x49_3)).length : Int) := D_
                       obtain ⟨ad237, e237, hx237_0⟩ := Kd.at_int HR234_0.out x59_4 p237 q237
                       cases e237
                       replace hx237_0 := (HB.out.cell (World.block_lt_of_cell? w _ hx237_0)).trans hx237_0
                       replace p237 := eq_true p237
                       replace q237 := eq_true q237
                       have p238 : 0 ≤ ((rd (rd_L1 l0_1 (rd y228 x49_3)) x59_4) : Int) := D_
                       have q238 : (rd (rd_L1 l0_1 (rd y228 x49_3)) x59_4) < (x7_3.length : Int) := D_
                       obtain ⟨ad238, e238, hx238_0⟩ := Kd.at_int (Kd.R_reads' HO_7.out).2.2 (rd (rd_L1 l0_1 (rd y228 x49_3)) x59_4) p238 q238
                       obtain rfl : (⟨go34, 0, none⟩ : Addr) = ad238 := (by injection e238)
                       (first | simp only [add_plain] at hx238_0 | simp only [add_at] at hx238_0 | simp only [Addr.add, Nat.zero_add] at hx238_0 | skip)
                       replace p238 := eq_true p238
                       replace q238 := eq_true q238
                       obtain ⟨Ao53, co53, eo53⟩ := Kd.R_slice HO_8.out
                       subst eo53
                       go_wp2_with (first | ((with_reducible refine gate_callee (f := 32) rfl ?_); refine goesL_ (some 67) rfl rfl Try.func32 (by kernel_rfl) rfl #[.slice (some ⟨go34, 0, none⟩) x7_3.length co34, .slice Ao53 x8_1.length co53, .int .i64 x13_4, .int .i64 (rd (rd_L1 l0_1 (rd y228 x49_3)) x59_4)] rfl (by (try simp only [List.map_toArray, List.map_cons, List.map_nil]); first | done | rfl | (simp only [List.length_drop, List.length_take]; rfl)) ?_; (with_reducible refine (dom_meet.calls k4 _ _ x7_3 _ _ x8_1 x13_4 (rd (rd_L1 l0_1 (rd y228 x49_3)) x59_4) t239 _ ?side1 ?side2 ?side3 ?side4 A52.out).mono ?_); (case side1 => repeat (first | exact (Kd.R_reads' HO_7.out).2.2 | (with_reducible refine Kd.C_alloc ?_ _) | (with_reducible refine Kd.C_drewN ?_ _) | (with_reducible refine Kd.C_drew ?_))); (case side2 => exact (Kd.R_reads' HO_7.out).2.1); (case side3 => repeat (first | exact (Kd.R_reads' HO_8.out).2.2 | (with_reducible refine Kd.C_alloc ?_ _) | (with_reducible refine Kd.C_drewN ?_ _) | (with_reducible refine Kd.C_drew ?_))); (case side4 => exact (Kd.R_reads' HO_8.out).2.1); rintro e w' ⟨rfl, ⟨nd, rfl⟩⟩; refine ⟨_, rfl, ?_⟩))
                       go_roundg k4
                       case measure => have := HK1.out; have := HK2.out; have := HK3.out; have := HK4.out; omega
                       case rel => exact ⟨(t239), (wrap64 (x59_4 + 1)), (by first | rfl | (simp; done) | (simp [*]; done)), (by first | rfl | (simp; done) | (simp [*]; done)), H', ⟨by have := HK1.out; have := HK2.out; have := HK3.out; have := HK4.out; omega⟩, ⟨by (try simp only [hl7_2]); (try simp only [hl7_3]); exact RM_ HO_5.out⟩, ⟨by (try simp only [hl7_2]); (try simp only [hl7_3]); exact RM_ HO_7.out⟩, ⟨by (try simp only [hl7_2]); (try simp only [hl7_3]); exact RM_ HO_8.out⟩, ⟨by (try simp only [hl7_2]); (try simp only [hl7_3]); exact KX_ BK212.out⟩, ⟨by repeat (first | (with_reducible exact HR231.out) | (with_reducible refine Kd.C_alloc ?_ _) | (with_reducible refine Kd.C_drewN ?_ _) | (with_reducible refine Kd.C_drew ?_) | exact HR231.out)⟩, ⟨B1_⟩⟩
                      rw [if_neg c49] at H
                      exact absurd H (by simp)
                     rw [if_neg c48] at H
                     exact absurd H (by simp)
                    rw [if_neg c47] at H
                    exact absurd H (by simp)
                   rw [if_neg c46] at H
                   exact absurd H (by simp)
                  rw [if_neg c45] at H
                  have c45b0 : decide (x59_4 < ((rd_L1 l0_1 (rd y228 x49_3)).length : Int)) = false := decide_eq_false c45
                  clear c45
                  by_cases c54 : 0 ≤ (rd y228 x49_3)
                  ·rw [if_pos c54] at H
                   have c54b0 : decide (0 ≤ (rd y228 x49_3)) = true := decide_eq_true c54
                   clear c54
                   by_cases c55 : (rd y228 x49_3) < (x7_3.length : Int)
                   ·rw [if_pos c55] at H
                    have c55b0 : decide ((rd y228 x49_3) < (x7_3.length : Int)) = true := decide_eq_true c55
                    clear c55
                    by_cases c56 : (rd x7_3 (rd y228 x49_3)) = x13_4
                    ·rw [if_pos c56] at H
                     have c56b0 : ((rd x7_3 (rd y228 x49_3)) == x13_4) = true := beq_iff_eq.mpr c56
                     have c56b1 : ((rd x7_3 (rd y228 x49_3)) != x13_4) = false := bne_eq_false_iff_eq.mpr c56
                     clear c56
                     have H' := Aside0.mk H
                     clear H
                     have p235 : 0 ≤ ((rd y228 x49_3) : Int) := D_
                     have q235 : (rd y228 x49_3) < (x7_3.length : Int) := D_
                     obtain ⟨ad235, e235, hx235_0⟩ := Kd.at_int (Kd.R_reads' HO_7.out).2.2 (rd y228 x49_3) p235 q235
                     obtain rfl : (⟨go34, 0, none⟩ : Addr) = ad235 := (by injection e235)
                     (first | simp only [add_plain] at hx235_0 | simp only [add_at] at hx235_0 | simp only [Addr.add, Nat.zero_add] at hx235_0 | skip)
                     replace p235 := eq_true p235
                     replace q235 := eq_true q235
                     go_wp2
                     (try simp only [← hl7_3])
                     go_roundg k4
                     case measure => have := HK1.out; have := HK2.out; have := HK3.out; have := HK4.out; omega
                     case rel => exact ⟨(x7_3), (wrap64 (x49_3 + 1)), (by first | rfl | (simp; done) | (simp [*]; done)), H', ⟨by have := HK1.out; have := HK2.out; have := HK3.out; have := HK4.out; omega⟩, ⟨by (try simp only [hl7_2]); (try simp only [hl7_3]); exact RM_ HO_5.out⟩, ⟨by (try simp only [hl7_2]); (try simp only [hl7_3]); exact RM_ HO_7.out⟩, ⟨by (try simp only [hl7_2]); (try simp only [hl7_3]); exact RM_ HO_8.out⟩, ⟨by (try simp only [hl7_2]); (try simp only [hl7_3]); exact KX_ BK212.out⟩, ⟨by repeat (first | (with_reducible exact HR231.out) | (with_reducible refine Kd.C_alloc ?_ _) | (with_reducible refine Kd.C_drewN ?_ _) | (with_reducible refine Kd.C_drew ?_) | exact HR231.out)⟩, ⟨B1_⟩⟩
                    rw [if_neg c56] at H
                    have c56b0 : ((rd x7_3 (rd y228 x49_3)) == x13_4) = false := beq_eq_false_iff_ne.mpr c56
                    have c56b1 : ((rd x7_3 (rd y228 x49_3)) != x13_4) = true := bne_iff_ne.mpr c56
                    obtain ⟨y236, hy236⟩ : ∃ y_ : List Int, y_ = (x7_3.set ((rd y228 x49_3) : Int).toNat x13_4) := ⟨_, rfl⟩
                    replace H : (dom_Tree.l1 k4 a1 t213 y236 x8_1 l0_0 l0_1) = some r := by first | (rw [hy236]; with_reducible exact H) | (have H2_ := (Option.bind_some _ _).symm.trans H; rw [hy236]; with_reducible exact H2_) | (have H2_ := (Option.bind_some _ _).symm.trans H; with_reducible exact H2_) | with_reducible exact H | (rw [hy236]; exact H) | exact H
                    have Ny236 := Aside0.mk hy236
                    clear hy236
                    have H' := Aside0.mk H
                    clear H
                    have p235 : 0 ≤ ((rd y228 x49_3) : Int) := D_
                    have q235 : (rd y228 x49_3) < (x7_3.length : Int) := D_
                    obtain ⟨ad235, e235, hx235_0⟩ := Kd.at_int (Kd.R_reads' HO_7.out).2.2 (rd y228 x49_3) p235 q235
                    obtain rfl : (⟨go34, 0, none⟩ : Addr) = ad235 := (by injection e235)
                    (first | simp only [add_plain] at hx235_0 | simp only [add_at] at hx235_0 | simp only [Addr.add, Nat.zero_add] at hx235_0 | skip)
                    replace p235 := eq_true p235
                    replace q235 := eq_true q235
                    have p57 : 0 ≤ ((rd y228 x49_3) : Int) := D_
                    have q57 : ((rd y228 x49_3) : Int) < ((x7_3.length : Int) : Int) := D_
                    obtain ⟨hx57_0, hf57_0⟩ := Kd.R_celln 0 HO_7.out ((rd y228 x49_3) : Int) p57 q57
                    replace p57 := eq_true p57
                    replace q57 := eq_true q57
                    have HP58 := Kd.R_putg HO_7.out ((rd y228 x49_3) : Int) x13_4
                    go_wp2_with (first | ((with_reducible refine gate_store (t := 3) (p := 88) rfl ?_); refine store_event (t := 3) (p := 88) (v := ?vo_w59) (w1 := (wr.setCell ⟨go34, ((rd y228 x49_3) : Int).toNat, none⟩ (.int .i64 x13_4))) ?hg ?ho ?hn ?hr ?_; (case ho => rfl); (case hg => rfl); (case hn => rfl); (case hr => first | (go_simp; done) | (go_simp; rfl)); intro w59 hw; have hg : wr.grownBy w59 (some go34) := (by rw [hw]; exact HP58.2); have hp_ : Kd.R (Kd.int .i64) 3 w59 w.heap.size (fun k_ => some k_ ≠ (.slice Ao14 t213.length co14 : Value).ownBlock ∧ some k_ ≠ (v223 : Value).ownBlock) (.slice (some ⟨go34, 0, none⟩) x7_3.length co34) y236 := (by rw [hw, Ny236.out]; exact HP58.1); clear HP58; have n0_ := Aside0.mk (Kd.R_after (v := (.slice (some ⟨go34, 0, none⟩) x7_3.length co34)) (v1 := (.slice (some ⟨go34, 0, none⟩) x7_3.length co34)) (ok := (fun k_ => some k_ ≠ (v223 : Value).ownBlock)) (by (with_reducible repeat (first | apply Kd.R_alloc | apply Kd.R_drewN | apply Kd.R_drew)); exact Kd.R_mono HO_5.out (fun _ hk => by first | exact ⟨hk.2, hk.1⟩ | exact hk | exact ⟨hk.1, hk.2⟩ | simp_all)) hg (.inl rfl)); have n1_ := Aside0.mk (hp_); have n2_ := Aside0.mk (Kd.R_after (v := (.slice (some ⟨go34, 0, none⟩) x7_3.length co34)) (v1 := (.slice (some ⟨go34, 0, none⟩) x7_3.length co34)) (ok := (fun k_ => some k_ ≠ (.slice Ao14 t213.length co14 : Value).ownBlock)) (by exact RX_ HO_8.out) hg (.inl rfl)); have n3_ := Aside0.mk (blk_grown (g := gb212) (o := .cells #[.slice A0_0 l0_0.length c0_0, .slice (some ad234) l0_1.length c0_1] 26 (0, 0)) (by exact KX_ BK212.out) hg (Kd.R_ne HO_7.out BK212.out (by decide))); have n4_ := Aside0.mk ((by rw [hw]; exact below_set (HB.out) GB34.out : Below w.heap.size w w59)); have n5_ := Aside0.mk ((show Kd.C (Kd.int .i64) w59 (some ad233) y228.length y228 from by rw [Ny228.out, KA38.out]; exact Kd.C_drop (m := 1) (c := co14) ((Kd.R_reads' (Kd.R_after (v := (.slice (some ⟨go34, 0, none⟩) x7_3.length co34)) (v1 := (.slice (some ⟨go34, 0, none⟩) x7_3.length co34)) (ok := (fun k_ => some k_ ≠ (v223 : Value).ownBlock)) (by (with_reducible repeat (first | apply Kd.R_alloc | apply Kd.R_drewN | apply Kd.R_drew)); exact Kd.R_mono HO_5.out (fun _ hk => by first | exact ⟨hk.2, hk.1⟩ | exact hk | exact ⟨hk.1, hk.2⟩ | simp_all)) hg (.inl rfl))).2.2) KL38.out ((Kd.R_reads' (Kd.R_after (v := (.slice (some ⟨go34, 0, none⟩) x7_3.length co34)) (v1 := (.slice (some ⟨go34, 0, none⟩) x7_3.length co34)) (ok := (fun k_ => some k_ ≠ (v223 : Value).ownBlock)) (by (with_reducible repeat (first | apply Kd.R_alloc | apply Kd.R_drewN | apply Kd.R_drew)); exact Kd.R_mono HO_5.out (fun _ hk => by first | exact ⟨hk.2, hk.1⟩ | exact hk | exact ⟨hk.1, hk.2⟩ | simp_all)) hg (.inl rfl))).2.1))); clear HO_5; clear HO_7; clear HO_8; clear BK212; clear HB; clear HR231; have HO_5 := n0_; have HO_7 := n1_; have HO_8 := n2_; have BK212 := n3_; have HB := n4_; have HR231 := n5_; clear n0_ n1_ n2_ n3_ n4_ n5_; clear hg hw hp_))
                    (try simp only [← hl7_2, ← hl7_3])
                    go_step3
                    try simp only [jumpg_goto, Exit.then, Exit.inBlock]
                    go_step
                    go_roundg k4
                    case measure => have := HK1.out; have := HK2.out; have := HK3.out; have := HK4.out; omega
                    case rel => exact ⟨(y236), H', ⟨by have := HK1.out; have := HK2.out; have := HK3.out; have := HK4.out; omega⟩, ⟨by (try simp only [hl7_2]); (try simp only [hl7_3]); (with_reducible repeat (first | apply Kd.R_alloc | apply Kd.R_drewN | apply Kd.R_drew)); exact Kd.R_mono HO_5.out (fun _ hk => by first | exact ⟨hk.2, hk.1⟩ | exact hk | exact ⟨hk.1, hk.2⟩ | simp_all)⟩, ⟨by (try simp only [hl7_2]); (try simp only [hl7_3]); exact RM_ HO_7.out⟩, ⟨by (try simp only [hl7_2]); (try simp only [hl7_3]); exact RM_ HO_8.out⟩, ⟨by (try simp only [hl7_2]); (try simp only [hl7_3]); exact KX_ BK212.out⟩, ⟨B1_⟩⟩
                   rw [if_neg c55] at H
                   exact absurd H (by simp)
                  rw [if_neg c54] at H
                  exact absurd H (by simp)
               rw [if_neg c43] at H
               exact absurd H (by simp)
              rw [if_neg c42] at H
              exact absurd H (by simp)
             rw [if_neg c41] at H
             exact absurd H (by simp)
            rw [if_neg c40] at H
            exact absurd H (by simp)
           rw [if_neg c39] at H
           have c39b0 : decide (x49_3 < (y228.length : Int)) = false := decide_eq_false c39
           clear c39
           by_cases c60 : 0 ≤ a1
           ·rw [if_pos c60] at H
            have c60b0 : decide (0 ≤ a1) = true := decide_eq_true c60
            clear c60
            by_cases c61 : a1 < (x7_3.length : Int)
            ·rw [if_pos c61] at H
             have c61b0 : decide (a1 < (x7_3.length : Int)) = true := decide_eq_true c61
             clear c61
             obtain ⟨y232, hy232⟩ : ∃ y_ : List Int, y_ = (x7_3.set (a1 : Int).toNat (-1)) := ⟨_, rfl⟩
             replace H : (some y232) = some r := by first | (rw [hy232]; with_reducible exact H) | (have H2_ := (Option.bind_some _ _).symm.trans H; rw [hy232]; with_reducible exact H2_) | (have H2_ := (Option.bind_some _ _).symm.trans H; with_reducible exact H2_) | with_reducible exact H | (rw [hy232]; exact H) | exact H
             have Ny232 := Aside0.mk hy232
             clear hy232
             obtain rfl := Option.some.inj H
             have p62 : 0 ≤ (a1 : Int) := D_
             have q62 : (a1 : Int) < ((x7_3.length : Int) : Int) := D_
             obtain ⟨hx62_0, hf62_0⟩ := Kd.R_celln 0 HO_7.out (a1 : Int) p62 q62
             replace p62 := eq_true p62
             replace q62 := eq_true q62
             have HP63 := Kd.R_putg HO_7.out (a1 : Int) (-1)
             go_wp2_with (first | ((with_reducible refine gate_store (t := 3) (p := 92) rfl ?_); refine store_event (t := 3) (p := 92) (v := ?vo_w64) (w1 := (wr.setCell ⟨go34, (a1 : Int).toNat, none⟩ (.int .i64 (-1)))) ?hg ?ho ?hn ?hr ?_; (case ho => rfl); (case hg => rfl); (case hn => rfl); (case hr => first | (go_simp; done) | (go_simp; rfl)); intro w64 hw; have hg : wr.grownBy w64 (some go34) := (by rw [hw]; exact HP63.2); have hp_ : Kd.R (Kd.int .i64) 3 w64 w.heap.size (fun k_ => some k_ ≠ (.slice Ao14 t213.length co14 : Value).ownBlock ∧ some k_ ≠ (v223 : Value).ownBlock) (.slice (some ⟨go34, 0, none⟩) x7_3.length co34) y232 := (by rw [hw, Ny232.out]; exact HP63.1); clear HP63; have n0_ := Aside0.mk (Kd.R_after (v := (.slice (some ⟨go34, 0, none⟩) x7_3.length co34)) (v1 := (.slice (some ⟨go34, 0, none⟩) x7_3.length co34)) (ok := (fun k_ => some k_ ≠ (v223 : Value).ownBlock)) (by (with_reducible repeat (first | apply Kd.R_alloc | apply Kd.R_drewN | apply Kd.R_drew)); exact Kd.R_mono HO_5.out (fun _ hk => by first | exact ⟨hk.2, hk.1⟩ | exact hk | exact ⟨hk.1, hk.2⟩ | simp_all)) hg (.inl rfl)); have n1_ := Aside0.mk (hp_); have n2_ := Aside0.mk (Kd.R_after (v := (.slice (some ⟨go34, 0, none⟩) x7_3.length co34)) (v1 := (.slice (some ⟨go34, 0, none⟩) x7_3.length co34)) (ok := (fun k_ => some k_ ≠ (.slice Ao14 t213.length co14 : Value).ownBlock)) (by exact RX_ HO_8.out) hg (.inl rfl)); have n3_ := Aside0.mk (blk_grown (g := gb212) (o := .cells #[.slice A0_0 l0_0.length c0_0, .slice A0_1 l0_1.length c0_1] 26 (0, 0)) (by exact KX_ BK212.out) hg (Kd.R_ne HO_7.out BK212.out (by decide))); have n4_ := Aside0.mk ((by rw [hw]; exact below_set (HB.out) GB34.out : Below w.heap.size w w64)); have n5_ := Aside0.mk ((show Kd.C (Kd.int .i64) w64 A38 y228.length y228 from by rw [Ny228.out, KA38.out]; exact Kd.C_drop (m := 1) (c := co14) ((Kd.R_reads' (Kd.R_after (v := (.slice (some ⟨go34, 0, none⟩) x7_3.length co34)) (v1 := (.slice (some ⟨go34, 0, none⟩) x7_3.length co34)) (ok := (fun k_ => some k_ ≠ (v223 : Value).ownBlock)) (by (with_reducible repeat (first | apply Kd.R_alloc | apply Kd.R_drewN | apply Kd.R_drew)); exact Kd.R_mono HO_5.out (fun _ hk => by first | exact ⟨hk.2, hk.1⟩ | exact hk | exact ⟨hk.1, hk.2⟩ | simp_all)) hg (.inl rfl))).2.2) KL38.out ((Kd.R_reads' (Kd.R_after (v := (.slice (some ⟨go34, 0, none⟩) x7_3.length co34)) (v1 := (.slice (some ⟨go34, 0, none⟩) x7_3.length co34)) (ok := (fun k_ => some k_ ≠ (v223 : Value).ownBlock)) (by (with_reducible repeat (first | apply Kd.R_alloc | apply Kd.R_drewN | apply Kd.R_drew)); exact Kd.R_mono HO_5.out (fun _ hk => by first | exact ⟨hk.2, hk.1⟩ | exact hk | exact ⟨hk.1, hk.2⟩ | simp_all)) hg (.inl rfl))).2.1))); clear HO_5; clear HO_7; clear HO_8; clear BK212; clear HB; clear HR231; have HO_5 := n0_; have HO_7 := n1_; have HO_8 := n2_; have BK212 := n3_; have HB := n4_; have HR231 := n5_; clear n0_ n1_ n2_ n3_ n4_ n5_; clear hg hw hp_))
             (try simp only [jumpg_ret, Exit.then, Exit.inBlock])
             go_ret
             exact ⟨_, by first | rfl | (simp [errW_none, errW_some] <;> rfl) | (simp [*, errW_none, errW_some] <;> rfl), by (with_reducible repeat (first | apply Kd.R_alloc | apply Kd.R_drewN | apply Kd.R_drew)); exact Kd.R_mono HO_7.out (fun _ hk => trivial), B1_⟩
            rw [if_neg c61] at H
            exact absurd H (by simp)
           rw [if_neg c60] at H
           exact absurd H (by simp)
        rw [if_neg c37] at H
        exact absurd H (by simp)
      rw [if_neg c33] at H
      exact absurd H (by simp)
     rw [if_neg c32] at H
     exact absurd H (by simp)
  rw [if_neg c11] at H
  exact absurd H (by simp)
 rw [if_neg c10] at H
 exact absurd H (by simp)

end Go.Proofs.Ytamlaebfpmbefaa.G
