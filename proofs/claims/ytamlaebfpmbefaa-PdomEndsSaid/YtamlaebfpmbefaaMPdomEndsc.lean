/- Texts of this session, joined by wip/tools/merge.py. Conditions: each theorem's own. -/
import Derived.Test.YtamlaebfpmbefaaGx0
import Derived.Test.YtamlaebfpmbefaaMPdomEndsd
import Derived.Test.YtamlaebfpmbefaaGx4
import Derived.Test.YtamlaebfpmbefaaGx7
import Derived.Test.YtamlaebfpmbefaaGx25
namespace Go.Proofs.Ytamlaebfpmbefaa.G
open Go.Proofs.YtamlaebfpmbefaaH
open Go.RowKit Go.Proofs.YtamlaebfpmbefaaW.PrintWords Go.Proofs.YtamlaebfpmbefaaW.PrintLast Go.Proofs.YtamlaebfpmbefaaW.PrintMore
attribute [local go_sem] max2_int min2_int max_two min_two max_three min_three max_four min_four   -- for this text's walks alone
set_option linter.unusedVariables false
set_option linter.unusedSimpArgs false

/-! ### dom_Tree: function 22 -/
mutual
def dom_Tree.l0 : Nat → Int → List Int → List Int → List Int → List Int → Int → Int → List (List Int) → List (List Int) → Option (List Int)
 | 0, _, _, _, _, _, _, _, _, _ => none
 | k + 1, x1, x5, x7, x8, x30, x31, x32, x213000, x213001 => if x32 < x31 then (if 0 ≤ x32 then (if x32 < (x30.length : Int) then (if 0 ≤ (rd x30 x32) then (if (rd x30 x32) < (x8.length : Int) then (dom_Tree.l0 k x1 x5 x7 (x8.set ((rd x30 x32) : Int).toNat x32) x30 x31 (wrap64 (x32 + 1)) x213000 x213001) else (none)) else (none)) else (none)) else (none)) else (if 0 ≤ x1 then (if x1 < (x7.length : Int) then (dom_Tree.l1 k x1 x5 (x7.set (x1 : Int).toNat x1) x8 x213000 x213001) else (none)) else (none))
def dom_Tree.l1 : Nat → Int → List Int → List Int → List Int → List (List Int) → List (List Int) → Option (List Int)
 | 0, _, _, _, _, _, _ => none
 | k + 1, x1, x5, x7, x8, x213000, x213001 => if 1 ≤ (x5.length : Int) then ((some (x5.drop 1 : List Int)).bind fun y228 => (dom_Tree.l2 k x1 x5 x7 x8 y228 (y228.length : Int) 0 x213000 x213001)) else (none)
def dom_Tree.l2 : Nat → Int → List Int → List Int → List Int → List Int → Int → Int → List (List Int) → List (List Int) → Option (List Int)
 | 0, _, _, _, _, _, _, _, _, _ => none
 | k + 1, x1, x5, x7, x8, x47, x48, x49, x213000, x213001 => if x49 < x48 then (if 0 ≤ x49 then (if x49 < (x47.length : Int) then (if 0 ≤ (rd x47 x49) then (if (rd x47 x49) < (x213001.length : Int) then (dom_Tree.l3 k x1 x5 x7 x8 (rd x47 x49) (-2) x47 x48 x49 (rd_L1 x213001 (rd x47 x49)) ((rd_L1 x213001 (rd x47 x49)).length : Int) 0 x213000 x213001) else (none)) else (none)) else (none)) else (none)) else (if 0 ≤ x1 then (if x1 < (x7.length : Int) then (some (x7.set (x1 : Int).toNat (-1))) else (none)) else (none))
def dom_Tree.l3 : Nat → Int → List Int → List Int → List Int → Int → Int → List Int → Int → Int → List Int → Int → Int → List (List Int) → List (List Int) → Option (List Int)
 | 0, _, _, _, _, _, _, _, _, _, _, _, _, _, _ => none
 | k + 1, x1, x5, x7, x8, x12, x13, x47, x48, x49, x57, x58, x59, x213000, x213001 => if x59 < x58 then (if 0 ≤ x59 then (if x59 < (x57.length : Int) then (if 0 ≤ (rd x57 x59) then (if (rd x57 x59) < (x7.length : Int) then (if (rd x7 (rd x57 x59)) = (-2) then (dom_Tree.l3 k x1 x5 x7 x8 x12 x13 x47 x48 x49 x57 x58 (wrap64 (x59 + 1)) x213000 x213001) else (if x13 = (-2) then (dom_Tree.l3 k x1 x5 x7 x8 x12 (rd x57 x59) x47 x48 x49 x57 x58 (wrap64 (x59 + 1)) x213000 x213001) else ((dom_meet.f k x7 x8 x13 (rd x57 x59)).bind fun t239 => (dom_Tree.l3 k x1 x5 x7 x8 x12 t239 x47 x48 x49 x57 x58 (wrap64 (x59 + 1)) x213000 x213001)))) else (none)) else (none)) else (none)) else (none)) else (if 0 ≤ x12 then (if x12 < (x7.length : Int) then (if (rd x7 x12) = x13 then (dom_Tree.l2 k x1 x5 x7 x8 x47 x48 (wrap64 (x49 + 1)) x213000 x213001) else (dom_Tree.l1 k x1 x5 (x7.set (x12 : Int).toNat x13) x8 x213000 x213001)) else (none)) else (none))
end
def dom_Tree.f (k : Nat) (l0_0 : List (List Int)) (l0_1 : List (List Int)) (a1 : Int) : Option (List Int) := (graph_Order.f k l0_0 l0_1 a1).bind fun t213 => (if (t213.length : Int) = 0 then (some ([] : List Int)) else ((slices_Repeat_int_int.f (([(-2)] : List Int)) (l0_0.length : Int)).bind fun t219 => (if 0 ≤ (l0_0.length : Int) then (if ((l0_0.length : Int) : Int).toNat ≤ 35184372088832 then (dom_Tree.l0 k a1 t213 t219 (List.replicate ((l0_0.length : Int) : Int).toNat 0) t213 (t213.length : Int) 0 l0_0 l0_1) else (none)) else (none))))
theorem dom_Tree.mono_l : ∀ k, (∀ y0 y1 y2 y3 y4 y5 y6 y7 y8, LeO (dom_Tree.l0 k y0 y1 y2 y3 y4 y5 y6 y7 y8) (dom_Tree.l0 (k + 1) y0 y1 y2 y3 y4 y5 y6 y7 y8)) ∧ (∀ y0 y1 y2 y3 y4 y5, LeO (dom_Tree.l1 k y0 y1 y2 y3 y4 y5) (dom_Tree.l1 (k + 1) y0 y1 y2 y3 y4 y5)) ∧ (∀ y0 y1 y2 y3 y4 y5 y6 y7 y8, LeO (dom_Tree.l2 k y0 y1 y2 y3 y4 y5 y6 y7 y8) (dom_Tree.l2 (k + 1) y0 y1 y2 y3 y4 y5 y6 y7 y8)) ∧ (∀ y0 y1 y2 y3 y4 y5 y6 y7 y8 y9 y10 y11 y12 y13, LeO (dom_Tree.l3 k y0 y1 y2 y3 y4 y5 y6 y7 y8 y9 y10 y11 y12 y13) (dom_Tree.l3 (k + 1) y0 y1 y2 y3 y4 y5 y6 y7 y8 y9 y10 y11 y12 y13))
 | 0 => ⟨fun _ _ _ _ _ _ _ _ _ r h => by simp [dom_Tree.l0] at h, fun _ _ _ _ _ _ r h => by simp [dom_Tree.l1] at h, fun _ _ _ _ _ _ _ _ _ r h => by simp [dom_Tree.l2] at h, fun _ _ _ _ _ _ _ _ _ _ _ _ _ _ r h => by simp [dom_Tree.l3] at h⟩
 | k + 1 => by
  obtain ⟨ih0, ih1, ih2, ih3⟩ := dom_Tree.mono_l k
  refine ⟨?_, ?_, ?_, ?_⟩
  ·intro y0 y1 y2 y3 y4 y5 y6 y7 y8
   unfold dom_Tree.l0
   repeat' first
   | (with_reducible exact ih0 _ _ _ _ _ _ _ _ _)
   | (with_reducible exact ih1 _ _ _ _ _ _)
   | (with_reducible exact ih2 _ _ _ _ _ _ _ _ _)
   | (with_reducible exact ih3 _ _ _ _ _ _ _ _ _ _ _ _ _ _)
   | (with_reducible exact dom_meet.mono _ _ _ _ _)
   | (with_reducible exact graph_Order.mono _ _ _ _)
   | (with_reducible exact LeO.refl _)
   | (with_reducible exact LeO.none _)
   | (with_reducible refine LeO.ite ?_ ?_)
   | (with_reducible refine LeO.bind ?_ (fun _ => ?_))
   | exact ih0 _ _ _ _ _ _ _ _ _
   | exact ih1 _ _ _ _ _ _
   | exact ih2 _ _ _ _ _ _ _ _ _
   | exact ih3 _ _ _ _ _ _ _ _ _ _ _ _ _ _
   | exact dom_meet.mono _ _ _ _ _
   | exact graph_Order.mono _ _ _ _
   | exact LeO.none _
   | refine LeO.ite ?_ ?_
   | refine LeO.bind ?_ (fun _ => ?_)
  ·intro y0 y1 y2 y3 y4 y5
   unfold dom_Tree.l1
   repeat' first
   | (with_reducible exact ih0 _ _ _ _ _ _ _ _ _)
   | (with_reducible exact ih1 _ _ _ _ _ _)
   | (with_reducible exact ih2 _ _ _ _ _ _ _ _ _)
   | (with_reducible exact ih3 _ _ _ _ _ _ _ _ _ _ _ _ _ _)
   | (with_reducible exact dom_meet.mono _ _ _ _ _)
   | (with_reducible exact graph_Order.mono _ _ _ _)
   | (with_reducible exact LeO.refl _)
   | (with_reducible exact LeO.none _)
   | (with_reducible refine LeO.ite ?_ ?_)
   | (with_reducible refine LeO.bind ?_ (fun _ => ?_))
   | exact ih0 _ _ _ _ _ _ _ _ _
   | exact ih1 _ _ _ _ _ _
   | exact ih2 _ _ _ _ _ _ _ _ _
   | exact ih3 _ _ _ _ _ _ _ _ _ _ _ _ _ _
   | exact dom_meet.mono _ _ _ _ _
   | exact graph_Order.mono _ _ _ _
   | exact LeO.none _
   | refine LeO.ite ?_ ?_
   | refine LeO.bind ?_ (fun _ => ?_)
  ·intro y0 y1 y2 y3 y4 y5 y6 y7 y8
   unfold dom_Tree.l2
   repeat' first
   | (with_reducible exact ih0 _ _ _ _ _ _ _ _ _)
   | (with_reducible exact ih1 _ _ _ _ _ _)
   | (with_reducible exact ih2 _ _ _ _ _ _ _ _ _)
   | (with_reducible exact ih3 _ _ _ _ _ _ _ _ _ _ _ _ _ _)
   | (with_reducible exact dom_meet.mono _ _ _ _ _)
   | (with_reducible exact graph_Order.mono _ _ _ _)
   | (with_reducible exact LeO.refl _)
   | (with_reducible exact LeO.none _)
   | (with_reducible refine LeO.ite ?_ ?_)
   | (with_reducible refine LeO.bind ?_ (fun _ => ?_))
   | exact ih0 _ _ _ _ _ _ _ _ _
   | exact ih1 _ _ _ _ _ _
   | exact ih2 _ _ _ _ _ _ _ _ _
   | exact ih3 _ _ _ _ _ _ _ _ _ _ _ _ _ _
   | exact dom_meet.mono _ _ _ _ _
   | exact graph_Order.mono _ _ _ _
   | exact LeO.none _
   | refine LeO.ite ?_ ?_
   | refine LeO.bind ?_ (fun _ => ?_)
  ·intro y0 y1 y2 y3 y4 y5 y6 y7 y8 y9 y10 y11 y12 y13
   unfold dom_Tree.l3
   repeat' first
   | (with_reducible exact ih0 _ _ _ _ _ _ _ _ _)
   | (with_reducible exact ih1 _ _ _ _ _ _)
   | (with_reducible exact ih2 _ _ _ _ _ _ _ _ _)
   | (with_reducible exact ih3 _ _ _ _ _ _ _ _ _ _ _ _ _ _)
   | (with_reducible exact dom_meet.mono _ _ _ _ _)
   | (with_reducible exact graph_Order.mono _ _ _ _)
   | (with_reducible exact LeO.refl _)
   | (with_reducible exact LeO.none _)
   | (with_reducible refine LeO.ite ?_ ?_)
   | (with_reducible refine LeO.bind ?_ (fun _ => ?_))
   | exact ih0 _ _ _ _ _ _ _ _ _
   | exact ih1 _ _ _ _ _ _
   | exact ih2 _ _ _ _ _ _ _ _ _
   | exact ih3 _ _ _ _ _ _ _ _ _ _ _ _ _ _
   | exact dom_meet.mono _ _ _ _ _
   | exact graph_Order.mono _ _ _ _
   | exact LeO.none _
   | refine LeO.ite ?_ ?_
   | refine LeO.bind ?_ (fun _ => ?_)
theorem dom_Tree.mono : ∀ a0 a1 a2 k, LeO (dom_Tree.f k a0 a1 a2) (dom_Tree.f (k + 1) a0 a1 a2) := by
 intro a0 a1 a2 k
 obtain ⟨ih0, ih1, ih2, ih3⟩ := dom_Tree.mono_l k
 unfold dom_Tree.f
 repeat' first
  | (with_reducible exact ih0 _ _ _ _ _ _ _ _ _)
  | (with_reducible exact ih1 _ _ _ _ _ _)
  | (with_reducible exact ih2 _ _ _ _ _ _ _ _ _)
  | (with_reducible exact ih3 _ _ _ _ _ _ _ _ _ _ _ _ _ _)
  | (with_reducible exact dom_meet.mono _ _ _ _ _)
  | (with_reducible exact graph_Order.mono _ _ _ _)
  | (with_reducible exact LeO.refl _)
  | (with_reducible exact LeO.none _)
  | (with_reducible refine LeO.ite ?_ ?_)
  | (with_reducible refine LeO.bind ?_ (fun _ => ?_))
  | exact ih0 _ _ _ _ _ _ _ _ _
  | exact ih1 _ _ _ _ _ _
  | exact ih2 _ _ _ _ _ _ _ _ _
  | exact ih3 _ _ _ _ _ _ _ _ _ _ _ _ _ _
  | exact dom_meet.mono _ _ _ _ _
  | exact graph_Order.mono _ _ _ _
  | exact LeO.none _
  | refine LeO.ite ?_ ?_
  | refine LeO.bind ?_ (fun _ => ?_)
set_option maxHeartbeats 8000000 in
set_option maxRecDepth 100000 in
theorem dom_Tree.calls (k : Nat) (A0_0 : Option Addr) (c0_0 : Nat) (l0_0 : List (List Int)) (A0_1 : Option Addr) (c0_1 : Nat) (l0_1 : List (List Int)) (a1 : Int) (r : List Int) (w : World) (hr0_0 : Kd.C (Kd.slice 3 (Kd.int .i64)) w A0_0 l0_0.length l0_0) (hc0_0 : l0_0.length ≤ c0_0) (hr0_1 : Kd.C (Kd.slice 3 (Kd.int .i64)) w A0_1 l0_1.length l0_1) (hc0_1 : l0_1.length ≤ c0_1) (h : dom_Tree.f k l0_0 l0_1 a1 = some r) :
 Calls Try.prog 22 #[.agg #[.slice A0_0 l0_0.length c0_0, .slice A0_1 l0_1.length c0_1], .int .i64 a1] w fun e w' => ∃ v0_ : Value, e = .returned (v0_) ∧ Kd.R (Kd.int .i64) 3 w' w.heap.size (fun _ => True) v0_ r ∧ Below w.heap.size w w' := by
 have hu26 := Try.underlying26
 have HR0_0 := Aside0.mk hr0_0
 have HC0_0 := Aside0.mk hc0_0
 clear hr0_0 hc0_0
 have HR0_1 := Aside0.mk hr0_1
 have HC0_1 := Aside0.mk hc0_1
 clear hr0_1 hc0_1
 have HB := Aside0.mk (Below.refl w.heap.size w)
 have H : ((graph_Order.f k l0_0 l0_1 a1).bind fun t213 => (if (t213.length : Int) = 0 then (some ([] : List Int)) else ((slices_Repeat_int_int.f (([(-2)] : List Int)) (l0_0.length : Int)).bind fun t219 => (if 0 ≤ (l0_0.length : Int) then (if ((l0_0.length : Int) : Int).toNat ≤ 35184372088832 then (dom_Tree.l0 k a1 t213 t219 (List.replicate ((l0_0.length : Int) : Int).toNat 0) t213 (t213.length : Int) 0 l0_0 l0_1) else (none)) else (none))))) = some r := h
 clear h
 have H' := Aside0.mk H
 clear H
 go_enter Try.func22, Try.ntmps22
 go_wp2_with (first | ((with_reducible refine gate_dst (N := 2) rfl ?_); refine box_event ?hg (N := 2) ?hd (cs := #[.slice A0_0 l0_0.length c0_0, .slice A0_1 l0_1.length c0_1]) (t := 26) ?hr ?_; (case hd => rfl); (case hg => rfl); (case hr => first | (go_simp; done) | (go_simp; rfl)); intro gb212 hg w3 hbox hb; have n0_ := Aside0.mk (below_step (B_) hb); have n1_ := Aside0.mk (hbox); have n2_ := Aside0.mk ((by rw [hg]; exact (below_size (B_)) : w.heap.size ≤ gb212)); have n3_ := Aside0.mk ((by rw [hg]; exact (below_size (B_)) : w.heap.size ≤ gb212)); clear HB; have HB := n0_; have BK212 := n1_; have GW212 := n2_; have GE212 := n3_; clear n0_ n1_ n2_ n3_; clear hb hbox hg))
 apply lab_enter 0; (case hf => rfl)
 have H := H'.out
 clear H'
 replace H := Option.bind_eq_some_iff.mp H
 obtain ⟨t213, A40, H⟩ := H
 replace H : (if (t213.length : Int) = 0 then (some ([] : List Int)) else ((slices_Repeat_int_int.f (([(-2)] : List Int)) (l0_0.length : Int)).bind fun t219 => (if 0 ≤ (l0_0.length : Int) then (if ((l0_0.length : Int) : Int).toNat ≤ 35184372088832 then (dom_Tree.l0 k a1 t213 t219 (List.replicate ((l0_0.length : Int) : Int).toNat 0) t213 (t213.length : Int) 0 l0_0 l0_1) else (none)) else (none)))) = some r := H
 have A4 := Aside0.mk A40
 clear A40
 by_cases c5 : (t213.length : Int) = 0
 ·rw [if_pos c5] at H
  have c5b0 : ((t213.length : Int) == 0) = true := beq_iff_eq.mpr c5
  have c5b1 : ((t213.length : Int) != 0) = false := bne_eq_false_iff_eq.mpr c5
  clear c5
  obtain rfl := Option.some.inj H
  have hcz6_0 : w3.cell? ⟨gb212, 0, none⟩ = some (.slice A0_0 l0_0.length c0_0) := (blk_cell BK212.out 0).trans rfl
  have hcz6_1 : w3.cell? ⟨gb212, 1, none⟩ = some (.slice A0_1 l0_1.length c0_1) := (blk_cell BK212.out 1).trans rfl
  have hfz6_0 := blk_frozen BK212.out 0
  have hfz6_1 := blk_frozen BK212.out 1
  go_wp2_with (first | ((with_reducible refine gate_callee (f := 30) rfl ?_); refine goesL_ (some 18) rfl rfl Try.func30 (by kernel_rfl) rfl #[.agg #[.slice A0_0 l0_0.length c0_0, .slice A0_1 l0_1.length c0_1], .int .i64 a1] rfl (by (try simp only [List.map_toArray, List.map_cons, List.map_nil]); first | done | rfl | (simp only [List.length_drop, List.length_take]; rfl)) ?_; (with_reducible refine (graph_Order.calls k _ _ l0_0 _ _ l0_1 a1 t213 _ ?side1 ?side2 ?side3 ?side4 A4.out).mono ?_); (case side1 => exact CX_ (Kd.C_below HR0_0.out HB.out)); (case side2 => exact HC0_0.out); (case side3 => exact CX_ (Kd.C_below HR0_1.out HB.out)); (case side4 => exact HC0_1.out); rintro e w7 ⟨v214, rfl, ho0, hb⟩; refine ⟨_, rfl, ?_⟩; have n0_ := Aside0.mk (Kd.R_lower ho0 (below_size (B1_))); have n1_ := Aside0.mk (blk_below (g := gb212) (o := .cells #[.slice A0_0 l0_0.length c0_0, .slice A0_1 l0_1.length c0_1] 26 (0, 0)) (by exact KX_ BK212.out) hb); have n2_ := Aside0.mk (below_step (B1_) hb); clear BK212; clear HB; have HO215 := n0_; have BK212 := n1_; have HB := n2_; clear n0_ n1_ n2_; (try clear hb); (try clear hb2); (try clear hk); (try clear hi); (try clear ho0); obtain ⟨Ao8, co8, eo8⟩ := Kd.R_slice HO215.out; subst eo8))
  (try simp only [jumpg_ret, Exit.then, Exit.inBlock])
  go_ret
  exact ⟨_, by first | rfl | (simp [errW_none, errW_some] <;> rfl) | (simp [*, errW_none, errW_some] <;> rfl), by first | exact Kd.R_nil _ _ _ _ _ | exact Kd.N_nil _ _ _ _ _ | exact Kd.V_nil _ _ _ _ _ | exact Kd.Q_nil _ _ _ _ _ | exact Kd.S_nil _ _ _ _ _, B1_⟩
 rw [if_neg c5] at H
 have c5b0 : ((t213.length : Int) == 0) = false := beq_eq_false_iff_ne.mpr c5
 have c5b1 : ((t213.length : Int) != 0) = true := bne_iff_ne.mpr c5
 have c5b2 : ¬ (t213 = []) := fun h_ => c5 (by rw [h_]; rfl)
 obtain ⟨y216, hy216⟩ : ∃ y_ : List Int, y_ = (([(-2)] : List Int)) := ⟨_, rfl⟩
 replace H : ((slices_Repeat_int_int.f y216 (l0_0.length : Int)).bind fun t219 => (if 0 ≤ (l0_0.length : Int) then (if ((l0_0.length : Int) : Int).toNat ≤ 35184372088832 then (dom_Tree.l0 k a1 t213 t219 (List.replicate ((l0_0.length : Int) : Int).toNat 0) t213 (t213.length : Int) 0 l0_0 l0_1) else (none)) else (none))) = some r := by first | (rw [hy216]; with_reducible exact H) | (have H2_ := (Option.bind_some _ _).symm.trans H; rw [hy216]; with_reducible exact H2_) | (have H2_ := (Option.bind_some _ _).symm.trans H; with_reducible exact H2_) | with_reducible exact H | (rw [hy216]; exact H) | exact H
 have Ny216 := Aside0.mk hy216
 clear hy216
 replace H := Option.bind_eq_some_iff.mp H
 obtain ⟨t219, A90, H⟩ := H
 replace H : (if 0 ≤ (l0_0.length : Int) then (if ((l0_0.length : Int) : Int).toNat ≤ 35184372088832 then (dom_Tree.l0 k a1 t213 t219 (List.replicate ((l0_0.length : Int) : Int).toNat 0) t213 (t213.length : Int) 0 l0_0 l0_1) else (none)) else (none)) = some r := H
 have A9 := Aside0.mk A90
 clear A90
 by_cases c10 : 0 ≤ (l0_0.length : Int)
 ·rw [if_pos c10] at H
  have c10b0 := eq_true c10
  have c10b1 : decide (0 ≤ (l0_0.length : Int)) = true := decide_eq_true c10
  clear c10
  by_cases c11 : ((l0_0.length : Int) : Int).toNat ≤ 35184372088832
  ·rw [if_pos c11] at H
   have c11b0 := eq_true c11
   have c11b1 : decide (((l0_0.length : Int) : Int).toNat ≤ 35184372088832) = true := decide_eq_true c11
   clear c11
   obtain ⟨y222, hy222⟩ : ∃ y_ : List Int, y_ = (List.replicate ((l0_0.length : Int) : Int).toNat 0) := ⟨_, rfl⟩
   replace H : (dom_Tree.l0 k a1 t213 t219 y222 t213 (t213.length : Int) 0 l0_0 l0_1) = some r := by first | (rw [hy222]; with_reducible exact H) | (have H2_ := (Option.bind_some _ _).symm.trans H; rw [hy222]; with_reducible exact H2_) | (have H2_ := (Option.bind_some _ _).symm.trans H; with_reducible exact H2_) | with_reducible exact H | (rw [hy222]; exact H) | exact H
   have Ny222 := Aside0.mk hy222
   clear hy222
   have H' := Aside0.mk H
   clear H
   have hcz12_0 : w3.cell? ⟨gb212, 0, none⟩ = some (.slice A0_0 l0_0.length c0_0) := (blk_cell BK212.out 0).trans rfl
   have hcz12_1 : w3.cell? ⟨gb212, 1, none⟩ = some (.slice A0_1 l0_1.length c0_1) := (blk_cell BK212.out 1).trans rfl
   have hfz12_0 := blk_frozen BK212.out 0
   have hfz12_1 := blk_frozen BK212.out 1
   try go_wp2_with (first | ((with_reducible refine gate_callee (f := 30) rfl ?_); refine goesL_ (some 18) rfl rfl Try.func30 (by kernel_rfl) rfl #[.agg #[.slice A0_0 l0_0.length c0_0, .slice A0_1 l0_1.length c0_1], .int .i64 a1] rfl (by (try simp only [List.map_toArray, List.map_cons, List.map_nil]); first | done | rfl | (simp only [List.length_drop, List.length_take]; rfl)) ?_; (with_reducible refine (graph_Order.calls k _ _ l0_0 _ _ l0_1 a1 t213 _ ?side1 ?side2 ?side3 ?side4 A4.out).mono ?_); (case side1 => exact CX_ (Kd.C_below HR0_0.out HB.out)); (case side2 => exact HC0_0.out); (case side3 => exact CX_ (Kd.C_below HR0_1.out HB.out)); (case side4 => exact HC0_1.out); rintro e w13 ⟨v214, rfl, ho0, hb⟩; refine ⟨_, rfl, ?_⟩; have n0_ := Aside0.mk (Kd.R_lower ho0 (below_size (B1_))); have n1_ := Aside0.mk (blk_below (g := gb212) (o := .cells #[.slice A0_0 l0_0.length c0_0, .slice A0_1 l0_1.length c0_1] 26 (0, 0)) (by exact KX_ BK212.out) hb); have n2_ := Aside0.mk (below_step (B1_) hb); clear BK212; clear HB; have HO215 := n0_; have BK212 := n1_; have HB := n2_; clear n0_ n1_ n2_; (try clear hb); (try clear hb2); (try clear hk); (try clear hi); (try clear ho0); obtain ⟨Ao14, co14, eo14⟩ := Kd.R_slice HO215.out; subst eo14; have hcz15_0 : w13.cell? ⟨gb212, 0, none⟩ = some (.slice A0_0 l0_0.length c0_0) := (blk_cell BK212.out 0).trans rfl; have hcz15_1 : w13.cell? ⟨gb212, 1, none⟩ = some (.slice A0_1 l0_1.length c0_1) := (blk_cell BK212.out 1).trans rfl; have hfz15_0 := blk_frozen BK212.out 0; have hfz15_1 := blk_frozen BK212.out 1))
   have n0_ := Aside0.mk (Kd.R_drew HO215.out)
   have n1_ := Aside0.mk (blk_drew BK212.out)
   have n2_ := Aside0.mk (below_drew1 HB.out)
   clear HO215
   clear BK212
   clear HB
   have HO215 := n0_
   have BK212 := n1_
   have HB := n2_
   clear n0_ n1_ n2_
   refine start_ (n := 7) (S := fun w' => True) (ds := []) #[false, false, false, false, false, false, false] (by kernel_rfl) rfl rfl trivial (fun hHeld => ?_)
   generalize w13.drew = w16 at HO215 BK212 HB hHeld ⊢
   refine pure_ (i := 1) (N := some 26) (v := ?_) (a' := ?_) #[false, true, false, false, false, false, false] rfl rfl (by kernel_rfl) (fun _ _ _ h => h) (Or.inl ⟨by rfl, ?_⟩) ?_ ?_
   rotate_left
   ·intro w'
    go_simp
    with_reducible rfl
   rotate_left
   ·exact P_
   refine pure_ (i := 3) (N := some 28) (v := ?_) (a' := ?_) #[false, true, false, true, false, false, false] rfl rfl (by kernel_rfl) (fun _ _ _ h => h) (Or.inl ⟨by rfl, ?_⟩) ?_ ?_
   rotate_left
   ·intro w'
    go_simp
    with_reducible rfl
   rotate_left
   ·exact P_
   refine join_ (σ := Value × Value × Value) 1 #[true, true, true, true, true, true, false] (fun s_ => [(25, s_.1), (27, s_.2.1), (29, s_.2.2), (7, s_.2.1)]) (fun s_ w' => (Kd.R (Kd.int .i64) 3 w' w.heap.size (fun k_ => some k_ ≠ (s_.1 : Value).ownBlock ∧ some k_ ≠ (s_.2.1 : Value).ownBlock ∧ some k_ ≠ (s_.2.2 : Value).ownBlock) (.slice Ao14 t213.length co14) t213) ∧ (Kd.R (Kd.int .i64) 3 w' w.heap.size (fun k_ => some k_ ≠ (.slice Ao14 t213.length co14 : Value).ownBlock ∧ some k_ ≠ (s_.2.1 : Value).ownBlock ∧ some k_ ≠ (s_.2.2 : Value).ownBlock) s_.1 y216) ∧ (Kd.R (Kd.int .i64) 3 w' w.heap.size (fun k_ => some k_ ≠ (.slice Ao14 t213.length co14 : Value).ownBlock ∧ some k_ ≠ (s_.1 : Value).ownBlock ∧ some k_ ≠ (s_.2.2 : Value).ownBlock) s_.2.1 t219) ∧ (Kd.R (Kd.int .i64) 3 w' w.heap.size (fun k_ => some k_ ≠ (.slice Ao14 t213.length co14 : Value).ownBlock ∧ some k_ ≠ (s_.1 : Value).ownBlock ∧ some k_ ≠ (s_.2.1 : Value).ownBlock) s_.2.2 y222) ∧ (w'.heap[gb212]? = some (.cells #[.slice A0_0 l0_0.length c0_0, .slice A0_1 l0_1.length c0_1] 26 (0, 0))) ∧ (Below w.heap.size w w')) ?_ ?_
   rotate_left
   ·intro hCont
    refine two_ (i := 0) (j := 4) (Ni := some 25) (Nj := some 29) #[true, true, false, true, false, false, false] #[false, true, false, true, true, false, false] rfl rfl rfl rfl (by kernel_rfl) (by decide) (by decide) (fun K hK => ?_) (fun K hK => ?_)
    ·skip
     refine Kd.R_lit_step (Kd.int .i64) _ 3 ?hg (N := 25) ?hd (xs := ([(-2)] : List Int)) (inner := [.int .i64 (-2)]) (ok := fun _ => True) (okp := fun _ => True) ?hr ?hp (fun _ hk => hk) trivial (Below.refl _ _) (Nat.le_refl _) (by simp) ?_; (case hd => rfl); (case hg => rfl); (case hr => first | (go_simp; done) | (go_simp; rfl)); (case hp => exact (Reps.one (show Kd.M (Kd.int .i64) _ _ _ (-2) [.int .i64 (-2)] from rfl) (Reps.none _ _)))
     intro v217 w17 ho18 hb hg_ hnew_
     clear hg_ hnew_
     (first | rw [← Ny216.out] at ho18 | (simp only [Int.reduceToNat] at ho18; rw [← Ny216.out] at ho18))
     have n0_ := Aside0.mk (Kd.R_elder' (by exact RX_ HO215.out) (Kd.R_base ho18) hb)
     have n1_ := Aside0.mk (Kd.R_lower (Kd.R_new' ho18 (Kd.R_lt (by exact RX_ HO215.out))) (below_size (B1_)))
     have n2_ := Aside0.mk (blk_below (g := gb212) (o := .cells #[.slice A0_0 l0_0.length c0_0, .slice A0_1 l0_1.length c0_1] 26 (0, 0)) (by exact KX_ BK212.out) hb)
     have n3_ := Aside0.mk (below_step (B1_) hb)
     clear HO215
     clear BK212
     clear HB
     have HO215 := n0_
     have HO218 := n1_
     have BK212 := n2_
     have HB := n3_
     clear n0_ n1_ n2_ n3_
     clear hb ho18
     obtain ⟨Ao19, co19, eo19⟩ := Kd.R_slice HO218.out
     (first | subst eo19 | (injection eo19 with f1_ f2_ f3_; have f4_ := f1_.symm; have f5_ := f3_.symm; clear f1_ f2_ f3_; subst f4_; subst f5_))
     refine hK.out _ _ trivial (fun hHeld => ?_)
     clear hK K
     refine norm_ (a' := ?_) ?_ ?_
     rotate_left
     ·show Act.put _ (some 25) _ = _
      simp only [Act.put, List.setIfInBounds_toArray, List.set_cons_zero, List.set_cons_succ, i64_w, i32_w]
      rfl
     refine two_ (i := 2) (j := 4) (Ni := some 27) (Nj := some 29) #[true, true, true, true, false, false, false] #[true, true, false, true, true, false, false] rfl rfl rfl rfl (by kernel_rfl) (by decide) (by decide) (fun K hK => ?_) (fun K hK => ?_)
     ·skip
      refine goes_ Try.func31 (by kernel_rfl) rfl #[.slice Ao19 y216.length co19, .int .i64 (l0_0.length : Int)] (by rfl) rfl rfl (by (try simp only [List.map_toArray, List.map_cons, List.map_nil]); first | done | rfl | (simp only [List.length_drop, List.length_take]; rfl)) ?_
      with_reducible refine (slices_Repeat_int_int.calls _ _ y216 (l0_0.length : Int) t219 _ ?side1 ?side2 A9.out).mono ?_
      (case side1 => repeat (first | exact (Kd.R_reads' HO218.out).2.2 | (with_reducible refine Kd.C_alloc ?_ _) | (with_reducible refine Kd.C_drewN ?_ _) | (with_reducible refine Kd.C_drew ?_)))
      (case side2 => exact (Kd.R_reads' HO218.out).2.1)
      rintro e w20 ⟨v220, rfl, ho0, hb⟩
      refine ⟨_, rfl, ?_⟩
      have n0_ := Aside0.mk (Kd.R_elder' (by exact RX_ HO215.out) (Kd.R_base ho0) hb)
      have n1_ := Aside0.mk (Kd.R_elder' (by exact RX_ HO218.out) (Kd.R_base ho0) hb)
      have n2_ := Aside0.mk (Kd.R_lower (Kd.R_new' (Kd.R_new' ho0 (Kd.R_lt (by exact RX_ HO215.out))) (Kd.R_lt (by exact RX_ HO218.out))) (below_size (B1_)))
      have n3_ := Aside0.mk (blk_below (g := gb212) (o := .cells #[.slice A0_0 l0_0.length c0_0, .slice A0_1 l0_1.length c0_1] 26 (0, 0)) (by exact KX_ BK212.out) hb)
      have n4_ := Aside0.mk (below_step (B1_) hb)
      clear HO215
      clear HO218
      clear BK212
      clear HB
      have HO215 := n0_
      have HO218 := n1_
      have HO221 := n2_
      have BK212 := n3_
      have HB := n4_
      clear n0_ n1_ n2_ n3_ n4_
      (try clear hb)
      (try clear hb2)
      (try clear hk)
      (try clear hi)
      (try clear ho0)
      refine hK.out _ _ trivial (fun hHeld => ?_)
      clear hK K
      refine norm_ (a' := ?_) ?_ ?_
      rotate_left
      ·show Act.put _ (some 27) _ = _
       simp only [Act.put, List.setIfInBounds_toArray, List.set_cons_zero, List.set_cons_succ, i64_w, i32_w]
       rfl
      refine pure_ (i := 5) (N := some 7) (v := ?_) (a' := ?_) #[true, true, true, true, false, true, false] rfl rfl (by kernel_rfl) (fun _ _ _ h => h) (Or.inl ⟨by rfl, ?_⟩) ?_ ?_
      rotate_left
      ·intro w'
       go_simp
       with_reducible rfl
      rotate_left
      ·exact P_
      refine one_ (i := 4) (N := some 29) #[true, true, true, true, true, true, false] rfl rfl (by kernel_rfl) (by decide) (fun K hK => ?_)
      refine Kd.R_make_step (Kd.int .i64) _ 3 (by rfl) (N := 29) rfl 30 _ _ rfl (l0_0.length : Int) rfl rfl Try.underlying30 (.int .i64 0) 8 info3 rfl (by decide) (by omega) 0 (ok := fun _ => True) (okp := fun _ => True) rfl (fun _ hk => hk) trivial (D_) (Nat.le_trans (Nat.mul_le_mul_right _ (D_ : (l0_0.length : Int).toNat ≤ 35184372088832)) (by omega)) (Below.refl _ _) (Nat.le_refl _) ?_
      intro v223 w21 ho22 hb hg_ hnew_
      clear hg_ hnew_
      (first | rw [← Ny222.out] at ho22 | (simp only [Int.reduceToNat] at ho22; rw [← Ny222.out] at ho22))
      have n0_ := Aside0.mk (Kd.R_elder' (by exact RX_ HO215.out) (Kd.R_base ho22) hb)
      have n1_ := Aside0.mk (Kd.R_elder' (by exact RX_ HO218.out) (Kd.R_base ho22) hb)
      have n2_ := Aside0.mk (Kd.R_elder' (by exact RX_ HO221.out) (Kd.R_base ho22) hb)
      have n3_ := Aside0.mk (Kd.R_lower (Kd.R_new' (Kd.R_new' (Kd.R_new' ho22 (Kd.R_lt (by exact RX_ HO215.out))) (Kd.R_lt (by exact RX_ HO218.out))) (Kd.R_lt (by exact RX_ HO221.out))) (below_size (B1_)))
      have n4_ := Aside0.mk (blk_below (g := gb212) (o := .cells #[.slice A0_0 l0_0.length c0_0, .slice A0_1 l0_1.length c0_1] 26 (0, 0)) (by exact KX_ BK212.out) hb)
      have n5_ := Aside0.mk (below_step (B1_) hb)
      clear HO215
      clear HO218
      clear HO221
      clear BK212
      clear HB
      have HO215 := n0_
      have HO218 := n1_
      have HO221 := n2_
      have HO224 := n3_
      have BK212 := n4_
      have HB := n5_
      clear n0_ n1_ n2_ n3_ n4_ n5_
      clear hb ho22
      refine hK.out _ _ trivial (fun hHeld => ?_)
      clear hK K
      refine norm_ (a' := ?_) ?_ ?_
      rotate_left
      ·show Act.put _ (some 29) _ = _
       simp only [Act.put, List.setIfInBounds_toArray, List.set_cons_zero, List.set_cons_succ, i64_w, i32_w]
       rfl
      exact norm_ (by simp only [putAll, Act.put, List.setIfInBounds_toArray, List.set_cons_zero, List.set_cons_succ]) (hCont (.slice Ao19 y216.length co19, v220, v223) _ ⟨(by (with_reducible repeat (first | apply Kd.R_alloc | apply Kd.R_drewN | apply Kd.R_drew)); exact Kd.R_mono HO215.out (fun _ hk => by first | exact ⟨hk.1.1.2, ⟨hk.1.2, hk.2⟩⟩ | exact hk | exact ⟨hk.1, hk.2⟩ | simp_all)), (by (with_reducible repeat (first | apply Kd.R_alloc | apply Kd.R_drewN | apply Kd.R_drew)); exact Kd.R_mono HO218.out (fun _ hk => by first | exact ⟨hk.1.1.2, ⟨hk.1.2, hk.2⟩⟩ | exact hk | exact ⟨hk.1, hk.2⟩ | simp_all)), (by (with_reducible repeat (first | apply Kd.R_alloc | apply Kd.R_drewN | apply Kd.R_drew)); exact Kd.R_mono HO221.out (fun _ hk => by first | exact ⟨hk.1.1.2, ⟨hk.1.2, hk.2⟩⟩ | exact hk | exact ⟨hk.1, hk.2⟩ | simp_all)), (by (with_reducible repeat (first | apply Kd.R_alloc | apply Kd.R_drewN | apply Kd.R_drew)); exact Kd.R_mono HO224.out (fun _ hk => by first | exact ⟨hk.1.1.2, ⟨hk.1.2, hk.2⟩⟩ | exact hk | exact ⟨hk.1, hk.2⟩ | simp_all)), (by exact KX_ BK212.out), (B1_)⟩)
     ·skip
      refine Kd.R_make_step (Kd.int .i64) _ 3 (by rfl) (N := 29) rfl 30 _ _ rfl (l0_0.length : Int) rfl rfl Try.underlying30 (.int .i64 0) 8 info3 rfl (by decide) (by omega) 0 (ok := fun _ => True) (okp := fun _ => True) rfl (fun _ hk => hk) trivial (D_) (Nat.le_trans (Nat.mul_le_mul_right _ (D_ : (l0_0.length : Int).toNat ≤ 35184372088832)) (by omega)) (Below.refl _ _) (Nat.le_refl _) ?_
      intro v223 w19 ho20 hb hg_ hnew_
      clear hg_ hnew_
      (first | rw [← Ny222.out] at ho20 | (simp only [Int.reduceToNat] at ho20; rw [← Ny222.out] at ho20))
      have n0_ := Aside0.mk (Kd.R_elder' (by exact RX_ HO215.out) (Kd.R_base ho20) hb)
      have n1_ := Aside0.mk (Kd.R_elder' (by exact RX_ HO218.out) (Kd.R_base ho20) hb)
      have n2_ := Aside0.mk (Kd.R_lower (Kd.R_new' (Kd.R_new' ho20 (Kd.R_lt (by exact RX_ HO215.out))) (Kd.R_lt (by exact RX_ HO218.out))) (below_size (B1_)))
      have n3_ := Aside0.mk (blk_below (g := gb212) (o := .cells #[.slice A0_0 l0_0.length c0_0, .slice A0_1 l0_1.length c0_1] 26 (0, 0)) (by exact KX_ BK212.out) hb)
      have n4_ := Aside0.mk (below_step (B1_) hb)
      clear HO215
      clear HO218
      clear BK212
      clear HB
      have HO215 := n0_
      have HO218 := n1_
      have HO224 := n2_
      have BK212 := n3_
      have HB := n4_
      clear n0_ n1_ n2_ n3_ n4_
      clear hb ho20
      obtain ⟨Ao21, co21, eo21⟩ := Kd.R_slice HO218.out
      (first | subst eo21 | (injection eo21 with f1_ f2_ f3_; have f4_ := f1_.symm; have f5_ := f3_.symm; clear f1_ f2_ f3_; subst f4_; subst f5_))
      refine hK.out _ _ trivial (fun hHeld => ?_)
      clear hK K
      refine norm_ (a' := ?_) ?_ ?_
      rotate_left
      ·show Act.put _ (some 29) _ = _
       simp only [Act.put, List.setIfInBounds_toArray, List.set_cons_zero, List.set_cons_succ, i64_w, i32_w]
       rfl
      refine one_ (i := 2) (N := some 27) #[true, true, true, true, true, false, false] rfl rfl (by kernel_rfl) (by decide) (fun K hK => ?_)
      refine goes_ Try.func31 (by kernel_rfl) rfl #[.slice Ao21 y216.length co21, .int .i64 (l0_0.length : Int)] (by rfl) rfl rfl (by (try simp only [List.map_toArray, List.map_cons, List.map_nil]); first | done | rfl | (simp only [List.length_drop, List.length_take]; rfl)) ?_
      with_reducible refine (slices_Repeat_int_int.calls _ _ y216 (l0_0.length : Int) t219 _ ?side1 ?side2 A9.out).mono ?_
      (case side1 => repeat (first | exact (Kd.R_reads' HO218.out).2.2 | (with_reducible refine Kd.C_alloc ?_ _) | (with_reducible refine Kd.C_drewN ?_ _) | (with_reducible refine Kd.C_drew ?_)))
      (case side2 => exact (Kd.R_reads' HO218.out).2.1)
      rintro e w22 ⟨v220, rfl, ho0, hb⟩
      refine ⟨_, rfl, ?_⟩
      have n0_ := Aside0.mk (Kd.R_elder' (by exact RX_ HO215.out) (Kd.R_base ho0) hb)
      have n1_ := Aside0.mk (Kd.R_elder' (by exact RX_ HO218.out) (Kd.R_base ho0) hb)
      have n2_ := Aside0.mk (Kd.R_elder' (by exact RX_ HO224.out) (Kd.R_base ho0) hb)
      have n3_ := Aside0.mk (Kd.R_lower (Kd.R_new' (Kd.R_new' (Kd.R_new' ho0 (Kd.R_lt (by exact RX_ HO215.out))) (Kd.R_lt (by exact RX_ HO218.out))) (Kd.R_lt (by exact RX_ HO224.out))) (below_size (B1_)))
      have n4_ := Aside0.mk (blk_below (g := gb212) (o := .cells #[.slice A0_0 l0_0.length c0_0, .slice A0_1 l0_1.length c0_1] 26 (0, 0)) (by exact KX_ BK212.out) hb)
      have n5_ := Aside0.mk (below_step (B1_) hb)
      clear HO215
      clear HO218
      clear HO224
      clear BK212
      clear HB
      have HO215 := n0_
      have HO218 := n1_
      have HO224 := n2_
      have HO221 := n3_
      have BK212 := n4_
      have HB := n5_
      clear n0_ n1_ n2_ n3_ n4_ n5_
      (try clear hb)
      (try clear hb2)
      (try clear hk)
      (try clear hi)
      (try clear ho0)
      refine hK.out _ _ trivial (fun hHeld => ?_)
      clear hK K
      refine norm_ (a' := ?_) ?_ ?_
      rotate_left
      ·show Act.put _ (some 27) _ = _
       simp only [Act.put, List.setIfInBounds_toArray, List.set_cons_zero, List.set_cons_succ, i64_w, i32_w]
       rfl
      refine pure_ (i := 5) (N := some 7) (v := ?_) (a' := ?_) #[true, true, true, true, true, true, false] rfl rfl (by kernel_rfl) (fun _ _ _ h => h) (Or.inl ⟨by rfl, ?_⟩) ?_ ?_
      rotate_left
      ·intro w'
       go_simp
       with_reducible rfl
      rotate_left
      ·exact P_
      exact norm_ (by simp only [putAll, Act.put, List.setIfInBounds_toArray, List.set_cons_zero, List.set_cons_succ]) (hCont (.slice Ao21 y216.length co21, v220, v223) _ ⟨(by (with_reducible repeat (first | apply Kd.R_alloc | apply Kd.R_drewN | apply Kd.R_drew)); exact Kd.R_mono HO215.out (fun _ hk => by first | exact ⟨hk.1.1.2, ⟨hk.2, hk.1.2⟩⟩ | exact hk | exact ⟨hk.1, hk.2⟩ | simp_all)), (by (with_reducible repeat (first | apply Kd.R_alloc | apply Kd.R_drewN | apply Kd.R_drew)); exact Kd.R_mono HO218.out (fun _ hk => by first | exact ⟨hk.1.1.2, ⟨hk.2, hk.1.2⟩⟩ | exact hk | exact ⟨hk.1, hk.2⟩ | simp_all)), (by (with_reducible repeat (first | apply Kd.R_alloc | apply Kd.R_drewN | apply Kd.R_drew)); exact Kd.R_mono HO221.out (fun _ hk => by first | exact ⟨hk.1.1.2, ⟨hk.1.2, hk.2⟩⟩ | exact hk | exact ⟨hk.1, hk.2⟩ | simp_all)), (by (with_reducible repeat (first | apply Kd.R_alloc | apply Kd.R_drewN | apply Kd.R_drew)); exact Kd.R_mono HO224.out (fun _ hk => by first | exact ⟨hk.1.1.2, ⟨hk.1.2, hk.2⟩⟩ | exact hk | exact ⟨hk.1, hk.2⟩ | simp_all)), (by exact KX_ BK212.out), (B1_)⟩)
    ·skip
     refine Kd.R_make_step (Kd.int .i64) _ 3 (by rfl) (N := 29) rfl 30 _ _ rfl (l0_0.length : Int) rfl rfl Try.underlying30 (.int .i64 0) 8 info3 rfl (by decide) (by omega) 0 (ok := fun _ => True) (okp := fun _ => True) rfl (fun _ hk => hk) trivial (D_) (Nat.le_trans (Nat.mul_le_mul_right _ (D_ : (l0_0.length : Int).toNat ≤ 35184372088832)) (by omega)) (Below.refl _ _) (Nat.le_refl _) ?_
     intro v223 w17 ho18 hb hg_ hnew_
     clear hg_ hnew_
     (first | rw [← Ny222.out] at ho18 | (simp only [Int.reduceToNat] at ho18; rw [← Ny222.out] at ho18))
     have n0_ := Aside0.mk (Kd.R_elder' (by exact RX_ HO215.out) (Kd.R_base ho18) hb)
     have n1_ := Aside0.mk (Kd.R_lower (Kd.R_new' ho18 (Kd.R_lt (by exact RX_ HO215.out))) (below_size (B1_)))
     have n2_ := Aside0.mk (blk_below (g := gb212) (o := .cells #[.slice A0_0 l0_0.length c0_0, .slice A0_1 l0_1.length c0_1] 26 (0, 0)) (by exact KX_ BK212.out) hb)
     have n3_ := Aside0.mk (below_step (B1_) hb)
     clear HO215
     clear BK212
     clear HB
     have HO215 := n0_
     have HO224 := n1_
     have BK212 := n2_
     have HB := n3_
     clear n0_ n1_ n2_ n3_
     clear hb ho18
     refine hK.out _ _ trivial (fun hHeld => ?_)
     clear hK K
     refine norm_ (a' := ?_) ?_ ?_
     rotate_left
     ·show Act.put _ (some 29) _ = _
      simp only [Act.put, List.setIfInBounds_toArray, List.set_cons_zero, List.set_cons_succ, i64_w, i32_w]
      rfl
     refine one_ (i := 0) (N := some 25) #[true, true, false, true, true, false, false] rfl rfl (by kernel_rfl) (by decide) (fun K hK => ?_)
     refine Kd.R_lit_step (Kd.int .i64) _ 3 ?hg (N := 25) ?hd (xs := ([(-2)] : List Int)) (inner := [.int .i64 (-2)]) (ok := fun _ => True) (okp := fun _ => True) ?hr ?hp (fun _ hk => hk) trivial (Below.refl _ _) (Nat.le_refl _) (by simp) ?_; (case hd => rfl); (case hg => rfl); (case hr => first | (go_simp; done) | (go_simp; rfl)); (case hp => exact (Reps.one (show Kd.M (Kd.int .i64) _ _ _ (-2) [.int .i64 (-2)] from rfl) (Reps.none _ _)))
     intro v217 w19 ho20 hb hg_ hnew_
     clear hg_ hnew_
     (first | rw [← Ny216.out] at ho20 | (simp only [Int.reduceToNat] at ho20; rw [← Ny216.out] at ho20))
     have n0_ := Aside0.mk (Kd.R_elder' (by exact RX_ HO215.out) (Kd.R_base ho20) hb)
     have n1_ := Aside0.mk (Kd.R_elder' (by exact RX_ HO224.out) (Kd.R_base ho20) hb)
     have n2_ := Aside0.mk (Kd.R_lower (Kd.R_new' (Kd.R_new' ho20 (Kd.R_lt (by exact RX_ HO215.out))) (Kd.R_lt (by exact RX_ HO224.out))) (below_size (B1_)))
     have n3_ := Aside0.mk (blk_below (g := gb212) (o := .cells #[.slice A0_0 l0_0.length c0_0, .slice A0_1 l0_1.length c0_1] 26 (0, 0)) (by exact KX_ BK212.out) hb)
     have n4_ := Aside0.mk (below_step (B1_) hb)
     clear HO215
     clear HO224
     clear BK212
     clear HB
     have HO215 := n0_
     have HO224 := n1_
     have HO218 := n2_
     have BK212 := n3_
     have HB := n4_
     clear n0_ n1_ n2_ n3_ n4_
     clear hb ho20
     obtain ⟨Ao21, co21, eo21⟩ := Kd.R_slice HO218.out
     (first | subst eo21 | (injection eo21 with f1_ f2_ f3_; have f4_ := f1_.symm; have f5_ := f3_.symm; clear f1_ f2_ f3_; subst f4_; subst f5_))
     refine hK.out _ _ trivial (fun hHeld => ?_)
     clear hK K
     refine norm_ (a' := ?_) ?_ ?_
     rotate_left
     ·show Act.put _ (some 25) _ = _
      simp only [Act.put, List.setIfInBounds_toArray, List.set_cons_zero, List.set_cons_succ, i64_w, i32_w]
      rfl
     refine one_ (i := 2) (N := some 27) #[true, true, true, true, true, false, false] rfl rfl (by kernel_rfl) (by decide) (fun K hK => ?_)
     refine goes_ Try.func31 (by kernel_rfl) rfl #[.slice Ao21 y216.length co21, .int .i64 (l0_0.length : Int)] (by rfl) rfl rfl (by (try simp only [List.map_toArray, List.map_cons, List.map_nil]); first | done | rfl | (simp only [List.length_drop, List.length_take]; rfl)) ?_
     with_reducible refine (slices_Repeat_int_int.calls _ _ y216 (l0_0.length : Int) t219 _ ?side1 ?side2 A9.out).mono ?_
     (case side1 => repeat (first | exact (Kd.R_reads' HO218.out).2.2 | (with_reducible refine Kd.C_alloc ?_ _) | (with_reducible refine Kd.C_drewN ?_ _) | (with_reducible refine Kd.C_drew ?_)))
     (case side2 => exact (Kd.R_reads' HO218.out).2.1)
     rintro e w22 ⟨v220, rfl, ho0, hb⟩
     refine ⟨_, rfl, ?_⟩
     have n0_ := Aside0.mk (Kd.R_elder' (by exact RX_ HO215.out) (Kd.R_base ho0) hb)
     have n1_ := Aside0.mk (Kd.R_elder' (by exact RX_ HO224.out) (Kd.R_base ho0) hb)
     have n2_ := Aside0.mk (Kd.R_elder' (by exact RX_ HO218.out) (Kd.R_base ho0) hb)
     have n3_ := Aside0.mk (Kd.R_lower (Kd.R_new' (Kd.R_new' (Kd.R_new' ho0 (Kd.R_lt (by exact RX_ HO215.out))) (Kd.R_lt (by exact RX_ HO224.out))) (Kd.R_lt (by exact RX_ HO218.out))) (below_size (B1_)))
     have n4_ := Aside0.mk (blk_below (g := gb212) (o := .cells #[.slice A0_0 l0_0.length c0_0, .slice A0_1 l0_1.length c0_1] 26 (0, 0)) (by exact KX_ BK212.out) hb)
     have n5_ := Aside0.mk (below_step (B1_) hb)
     clear HO215
     clear HO224
     clear HO218
     clear BK212
     clear HB
     have HO215 := n0_
     have HO224 := n1_
     have HO218 := n2_
     have HO221 := n3_
     have BK212 := n4_
     have HB := n5_
     clear n0_ n1_ n2_ n3_ n4_ n5_
     (try clear hb)
     (try clear hb2)
     (try clear hk)
     (try clear hi)
     (try clear ho0)
     refine hK.out _ _ trivial (fun hHeld => ?_)
     clear hK K
     refine norm_ (a' := ?_) ?_ ?_
     rotate_left
     ·show Act.put _ (some 27) _ = _
      simp only [Act.put, List.setIfInBounds_toArray, List.set_cons_zero, List.set_cons_succ, i64_w, i32_w]
      rfl
     refine pure_ (i := 5) (N := some 7) (v := ?_) (a' := ?_) #[true, true, true, true, true, true, false] rfl rfl (by kernel_rfl) (fun _ _ _ h => h) (Or.inl ⟨by rfl, ?_⟩) ?_ ?_
     rotate_left
     ·intro w'
      go_simp
      with_reducible rfl
     rotate_left
     ·exact P_
     exact norm_ (by simp only [putAll, Act.put, List.setIfInBounds_toArray, List.set_cons_zero, List.set_cons_succ]) (hCont (.slice Ao21 y216.length co21, v220, v223) _ ⟨(by (with_reducible repeat (first | apply Kd.R_alloc | apply Kd.R_drewN | apply Kd.R_drew)); exact Kd.R_mono HO215.out (fun _ hk => by first | exact ⟨hk.1.2, ⟨hk.2, hk.1.1.2⟩⟩ | exact hk | exact ⟨hk.1, hk.2⟩ | simp_all)), (by (with_reducible repeat (first | apply Kd.R_alloc | apply Kd.R_drewN | apply Kd.R_drew)); exact Kd.R_mono HO218.out (fun _ hk => by first | exact ⟨hk.1.1.2, ⟨hk.2, hk.1.2⟩⟩ | exact hk | exact ⟨hk.1, hk.2⟩ | simp_all)), (by (with_reducible repeat (first | apply Kd.R_alloc | apply Kd.R_drewN | apply Kd.R_drew)); exact Kd.R_mono HO221.out (fun _ hk => by first | exact ⟨hk.1.1.2, ⟨hk.2, hk.1.2⟩⟩ | exact hk | exact ⟨hk.1, hk.2⟩ | simp_all)), (by (with_reducible repeat (first | apply Kd.R_alloc | apply Kd.R_drewN | apply Kd.R_drew)); exact Kd.R_mono HO224.out (fun _ hk => by first | exact ⟨hk.1.1.2, ⟨hk.1.2, hk.2⟩⟩ | exact hk | exact ⟨hk.1, hk.2⟩ | simp_all)), (by exact KX_ BK212.out), (B1_)⟩)
   rintro ⟨v217, v220, v223⟩ w23 ⟨h0_, h1_, h2_, h3_, h4_, h5_⟩
   have n0_ : Aside0 (Kd.R (Kd.int .i64) 3 w23 w.heap.size (fun k_ => some k_ ≠ (v217 : Value).ownBlock ∧ some k_ ≠ (v220 : Value).ownBlock ∧ some k_ ≠ (v223 : Value).ownBlock) (.slice Ao14 t213.length co14) t213) := ⟨h0_⟩
   have n1_ : Aside0 (Kd.R (Kd.int .i64) 3 w23 w.heap.size (fun k_ => some k_ ≠ (.slice Ao14 t213.length co14 : Value).ownBlock ∧ some k_ ≠ (v220 : Value).ownBlock ∧ some k_ ≠ (v223 : Value).ownBlock) v217 y216) := ⟨h1_⟩
   have n2_ : Aside0 (Kd.R (Kd.int .i64) 3 w23 w.heap.size (fun k_ => some k_ ≠ (.slice Ao14 t213.length co14 : Value).ownBlock ∧ some k_ ≠ (v217 : Value).ownBlock ∧ some k_ ≠ (v223 : Value).ownBlock) v220 t219) := ⟨h2_⟩
   have n3_ : Aside0 (Kd.R (Kd.int .i64) 3 w23 w.heap.size (fun k_ => some k_ ≠ (.slice Ao14 t213.length co14 : Value).ownBlock ∧ some k_ ≠ (v217 : Value).ownBlock ∧ some k_ ≠ (v220 : Value).ownBlock) v223 y222) := ⟨h3_⟩
   have n4_ : Aside0 (w23.heap[gb212]? = some (.cells #[.slice A0_0 l0_0.length c0_0, .slice A0_1 l0_1.length c0_1] 26 (0, 0))) := ⟨h4_⟩
   have n5_ : Aside0 (Below w.heap.size w w23) := ⟨h5_⟩
   clear HO215
   clear BK212
   clear HB
   clear h0_ h1_ h2_ h3_ h4_ h5_
   have HO215 := n0_
   have HO218 := n1_
   have HO221 := n2_
   have HO224 := n3_
   have BK212 := n4_
   have HB := n5_
   clear n0_ n1_ n2_ n3_ n4_ n5_
   have hHeld := trivial
   refine norm_ (a' := ?_) ?_ ?_
   rotate_left
   ·simp only [putAll, Act.put, List.setIfInBounds_toArray, List.set_cons_zero, List.set_cons_succ]
    rfl
   refine pure_ (i := 6) (N := some 8) (v := ?_) (a' := ?_) #[true, true, true, true, true, true, true] rfl rfl (by kernel_rfl) (fun _ _ _ h => h) (Or.inl ⟨by rfl, ?_⟩) ?_ ?_
   rotate_left
   ·intro w'
    go_simp
    with_reducible rfl
   rotate_left
   ·exact P_
   refine done_ (by kernel_rfl) ?_
   try go_wp2
   go_loopg [32] k (fun kq v32 w' => ∃ (x8_1 : List Int) (x32_1 : Int), v32 = .int .i64 x32_1 ∧ Aside0 (dom_Tree.l0 kq a1 t213 t219 x8_1 t213 (t213.length : Int) x32_1 l0_0 l0_1 = some r) ∧ Aside0 (kq ≤ k) ∧ Aside0 (Kd.R (Kd.int .i64) 3 w' w.heap.size (fun k_ => some k_ ≠ (v220 : Value).ownBlock ∧ some k_ ≠ (v223 : Value).ownBlock) (.slice Ao14 t213.length co14) t213) ∧ Aside0 (Kd.R (Kd.int .i64) 3 w' w.heap.size (fun k_ => some k_ ≠ ((.slice Ao14 t213.length co14) : Value).ownBlock ∧ some k_ ≠ (v223 : Value).ownBlock ∧ some k_ ≠ ((.slice Ao14 t213.length co14) : Value).ownBlock) v220 t219) ∧ Aside0 (Kd.R (Kd.int .i64) 3 w' w.heap.size (fun k_ => some k_ ≠ ((.slice Ao14 t213.length co14) : Value).ownBlock ∧ some k_ ≠ (v220 : Value).ownBlock ∧ some k_ ≠ ((.slice Ao14 t213.length co14) : Value).ownBlock) v223 x8_1) ∧ Aside0 (Kd.R (Kd.int .i64) 3 w' w.heap.size (fun k_ => some k_ ≠ (v220 : Value).ownBlock ∧ some k_ ≠ (v223 : Value).ownBlock) (.slice Ao14 t213.length co14) t213) ∧ Aside0 (w'.heap[gb212]? = some (.cells #[(.slice A0_0 l0_0.length c0_0), (.slice A0_1 l0_1.length c0_1)] 26 (0, 0))) ∧ Aside0 (Below w.heap.size w w'))
   case atStart => exact ⟨(y222), (0), (by first | rfl | (simp; done) | (simp [*]; done)), H', ⟨Nat.le_refl _⟩, ⟨by (with_reducible repeat (first | apply Kd.R_alloc | apply Kd.R_drewN | apply Kd.R_drew)); exact Kd.R_mono HO215.out (fun _ hk => by first | exact ⟨hk.2.1, hk.2.2⟩ | exact hk | exact ⟨hk.1, hk.2⟩ | simp_all)⟩, ⟨by (with_reducible repeat (first | apply Kd.R_alloc | apply Kd.R_drewN | apply Kd.R_drew)); exact Kd.R_mono HO221.out (fun _ hk => by first | exact ⟨hk.1, ⟨hk.2.2, hk.1⟩⟩ | exact hk | exact ⟨hk.1, hk.2⟩ | simp_all)⟩, ⟨by (with_reducible repeat (first | apply Kd.R_alloc | apply Kd.R_drewN | apply Kd.R_drew)); exact Kd.R_mono HO224.out (fun _ hk => by first | exact ⟨hk.1, ⟨hk.2.2, hk.1⟩⟩ | exact hk | exact ⟨hk.1, hk.2⟩ | simp_all)⟩, ⟨by (with_reducible repeat (first | apply Kd.R_alloc | apply Kd.R_drewN | apply Kd.R_drew)); exact Kd.R_mono HO215.out (fun _ hk => by first | exact ⟨hk.2.1, hk.2.2⟩ | exact hk | exact ⟨hk.1, hk.2⟩ | simp_all)⟩, ⟨by exact KX_ BK212.out⟩, ⟨B1_⟩⟩
   case round =>
    clear H'
    try clear c5
    try clear c5b0
    try clear c5b1
    try clear c5b2
    try clear c10b0
    try clear c10b1
    try clear c11b0
    try clear c11b1
    try clear hcz12_0
    try clear hcz12_1
    try clear hcz15_0
    try clear hcz15_1
    try clear hfz12_0
    try clear hfz12_1
    try clear hfz15_0
    try clear hfz15_1
    obtain ⟨x8_1, x32_1, rfl, HA, HK1, HO_5, HO_7, HO_8, HO_30, BK212, HB⟩ := hrel
    cases gk with
    | zero => exact absurd HA.out (by simp [dom_Tree.l0])
    | succ k1 =>
     have H := HA.out
     clear HA
     simp only [dom_Tree.l0] at H
     by_cases c24 : x32_1 < (t213.length : Int)
     ·rw [if_pos c24] at H
      have c24b0 : decide (x32_1 < (t213.length : Int)) = true := decide_eq_true c24
      clear c24
      by_cases c25 : 0 ≤ x32_1
      ·rw [if_pos c25] at H
       have c25b0 : decide (0 ≤ x32_1) = true := decide_eq_true c25
       clear c25
       by_cases c26 : x32_1 < (t213.length : Int)
       ·rw [if_pos c26] at H
        have c26b0 : decide (x32_1 < (t213.length : Int)) = true := decide_eq_true c26
        clear c26
        by_cases c27 : 0 ≤ (rd t213 x32_1)
        ·rw [if_pos c27] at H
         have c27b0 : decide (0 ≤ (rd t213 x32_1)) = true := decide_eq_true c27
         clear c27
         by_cases c28 : (rd t213 x32_1) < (x8_1.length : Int)
         ·rw [if_pos c28] at H
          have c28b0 : decide ((rd t213 x32_1) < (x8_1.length : Int)) = true := decide_eq_true c28
          clear c28
          obtain ⟨y226, hy226⟩ : ∃ y_ : List Int, y_ = (x8_1.set ((rd t213 x32_1) : Int).toNat x32_1) := ⟨_, rfl⟩
          replace H : (dom_Tree.l0 k1 a1 t213 t219 y226 t213 (t213.length : Int) (wrap64 (x32_1 + 1)) l0_0 l0_1) = some r := by first | (rw [hy226]; with_reducible exact H) | (have H2_ := (Option.bind_some _ _).symm.trans H; rw [hy226]; with_reducible exact H2_) | (have H2_ := (Option.bind_some _ _).symm.trans H; with_reducible exact H2_) | with_reducible exact H | (rw [hy226]; exact H) | exact H
          have Ny226 := Aside0.mk hy226
          clear hy226
          have H' := Aside0.mk H
          clear H
          have p225 : 0 ≤ (x32_1 : Int) := D_
          have q225 : x32_1 < (t213.length : Int) := D_
          obtain ⟨ad225, e225, hx225_0⟩ := Kd.at_int (Kd.R_reads' HO_30.out).2.2 x32_1 p225 q225
          cases e225
          replace p225 := eq_true p225
          replace q225 := eq_true q225
          have p29 : 0 ≤ ((rd t213 x32_1) : Int) := D_
          have q29 : ((rd t213 x32_1) : Int) < ((x8_1.length : Int) : Int) := D_
          obtain ⟨go29, co29, eo29, gb29, gl29, cl29, HG29⟩ := Kd.R_form HO_8.out (by omega)
          (first | cases eo29 | (injection eo29 with ea_ en_ ec_; (first | subst ea_ | (injection ea_ with ea_; subst ea_)); subst ec_; clear en_))
          have GB29 := Aside0.mk gb29
          have GG29 := Aside0.mk HG29
          clear gb29 gl29 HG29
          obtain ⟨hx29_0, hf29_0⟩ := Kd.R_celln 0 HO_8.out ((rd t213 x32_1) : Int) p29 q29
          replace p29 := eq_true p29
          replace q29 := eq_true q29
          have HP30 := Kd.R_putg HO_8.out ((rd t213 x32_1) : Int) x32_1
          go_wp2_with (first | ((with_reducible refine gate_store (t := 3) (p := 40) rfl ?_); refine store_event (t := 3) (p := 40) (v := ?vo_w31) (w1 := (wr.setCell ⟨go29, ((rd t213 x32_1) : Int).toNat, none⟩ (.int .i64 x32_1))) ?hg ?ho ?hn ?hr ?_; (case ho => rfl); (case hg => rfl); (case hn => rfl); (case hr => first | (go_simp; done) | (go_simp; rfl)); intro w31 hw; have hg : wr.grownBy w31 (some go29) := (by rw [hw]; exact HP30.2); have hp_ : Kd.R (Kd.int .i64) 3 w31 w.heap.size (fun k_ => some k_ ≠ (.slice (some ad225) t213.length co14 : Value).ownBlock ∧ some k_ ≠ (v220 : Value).ownBlock ∧ some k_ ≠ (.slice (some ad225) t213.length co14 : Value).ownBlock) (.slice (some ⟨go29, 0, none⟩) x8_1.length co29) y226 := (by rw [hw, Ny226.out]; exact HP30.1); clear HP30; have n0_ := Aside0.mk (Kd.R_after (v := (.slice (some ⟨go29, 0, none⟩) x8_1.length co29)) (v1 := (.slice (some ⟨go29, 0, none⟩) x8_1.length co29)) (ok := (fun k_ => some k_ ≠ (v220 : Value).ownBlock)) (by exact RX_ HO_5.out) hg (.inl rfl)); have n1_ := Aside0.mk (Kd.R_after (v := (.slice (some ⟨go29, 0, none⟩) x8_1.length co29)) (v1 := (.slice (some ⟨go29, 0, none⟩) x8_1.length co29)) (ok := (fun k_ => some k_ ≠ (.slice (some ad225) t213.length co14 : Value).ownBlock ∧ some k_ ≠ (.slice (some ad225) t213.length co14 : Value).ownBlock)) (by (with_reducible repeat (first | apply Kd.R_alloc | apply Kd.R_drewN | apply Kd.R_drew)); exact Kd.R_mono HO_7.out (fun _ hk => by first | exact ⟨⟨hk.1, hk.2.2⟩, hk.2.1⟩ | exact hk | exact ⟨hk.1, hk.2⟩ | simp_all)) hg (.inl rfl)); have n2_ := Aside0.mk (hp_); have n3_ := Aside0.mk (Kd.R_after (v := (.slice (some ⟨go29, 0, none⟩) x8_1.length co29)) (v1 := (.slice (some ⟨go29, 0, none⟩) x8_1.length co29)) (ok := (fun k_ => some k_ ≠ (v220 : Value).ownBlock)) (by exact RX_ HO_30.out) hg (.inl rfl)); have n4_ := Aside0.mk (blk_grown (g := gb212) (o := .cells #[.slice A0_0 l0_0.length c0_0, .slice A0_1 l0_1.length c0_1] 26 (0, 0)) (by exact KX_ BK212.out) hg (Kd.R_ne HO_8.out BK212.out (by decide))); have n5_ := Aside0.mk ((by rw [hw]; exact below_set (HB.out) GB29.out : Below w.heap.size w w31)); clear HO_5; clear HO_7; clear HO_8; clear HO_30; clear BK212; clear HB; have HO_5 := n0_; have HO_7 := n1_; have HO_8 := n2_; have HO_30 := n3_; have BK212 := n4_; have HB := n5_; clear n0_ n1_ n2_ n3_ n4_ n5_; clear hg hw hp_))
          go_roundg k1
          case measure => have := HK1.out; omega
          case rel => exact ⟨(y226), (wrap64 (x32_1 + 1)), (by first | rfl | (simp; done) | (simp [*]; done)), H', ⟨by have := HK1.out; omega⟩, ⟨by exact RM_ HO_5.out⟩, ⟨by (with_reducible repeat (first | apply Kd.R_alloc | apply Kd.R_drewN | apply Kd.R_drew)); exact Kd.R_mono HO_7.out (fun _ hk => by first | exact ⟨hk.1.1, ⟨hk.2, hk.1.2⟩⟩ | exact hk | exact ⟨hk.1, hk.2⟩ | simp_all)⟩, ⟨by exact RM_ HO_8.out⟩, ⟨by exact RM_ HO_30.out⟩, ⟨by exact KX_ BK212.out⟩, ⟨B1_⟩⟩
         rw [if_neg c28] at H
         exact absurd H (by simp)
        rw [if_neg c27] at H
        exact absurd H (by simp)
       rw [if_neg c26] at H
       exact absurd H (by simp)
      rw [if_neg c25] at H
      exact absurd H (by simp)
     rw [if_neg c24] at H
     have c24b0 : decide (x32_1 < (t213.length : Int)) = false := decide_eq_false c24
     clear c24
     by_cases c32 : 0 ≤ a1
     ·rw [if_pos c32] at H
      have c32b0 : decide (0 ≤ a1) = true := decide_eq_true c32
      clear c32
      by_cases c33 : a1 < (t219.length : Int)
      ·rw [if_pos c33] at H
       have c33b0 : decide (a1 < (t219.length : Int)) = true := decide_eq_true c33
       clear c33
       obtain ⟨y227, hy227⟩ : ∃ y_ : List Int, y_ = (t219.set (a1 : Int).toNat a1) := ⟨_, rfl⟩
       replace H : (dom_Tree.l1 k1 a1 t213 y227 x8_1 l0_0 l0_1) = some r := by first | (rw [hy227]; with_reducible exact H) | (have H2_ := (Option.bind_some _ _).symm.trans H; rw [hy227]; with_reducible exact H2_) | (have H2_ := (Option.bind_some _ _).symm.trans H; with_reducible exact H2_) | with_reducible exact H | (rw [hy227]; exact H) | exact H
       have Ny227 := Aside0.mk hy227
       clear hy227
       have H' := Aside0.mk H
       clear H
       have p34 : 0 ≤ (a1 : Int) := D_
       have q34 : (a1 : Int) < ((t219.length : Int) : Int) := D_
       obtain ⟨go34, co34, eo34, gb34, gl34, cl34, HG34⟩ := Kd.R_form HO_7.out (by omega)
       (first | cases eo34 | (injection eo34 with ea_ en_ ec_; (first | subst ea_ | (injection ea_ with ea_; subst ea_)); subst ec_; clear en_))
       have GB34 := Aside0.mk gb34
       have GG34 := Aside0.mk HG34
       clear gb34 gl34 HG34
       obtain ⟨hx34_0, hf34_0⟩ := Kd.R_celln 0 HO_7.out (a1 : Int) p34 q34
       replace p34 := eq_true p34
       replace q34 := eq_true q34
       have HP35 := Kd.R_putg HO_7.out (a1 : Int) a1
       go_wp2_with (first | ((with_reducible refine gate_store (t := 3) (p := 45) rfl ?_); refine store_event (t := 3) (p := 45) (v := ?vo_w36) (w1 := (wr.setCell ⟨go34, (a1 : Int).toNat, none⟩ (.int .i64 a1))) ?hg ?ho ?hn ?hr ?_; (case ho => rfl); (case hg => rfl); (case hn => rfl); (case hr => first | (go_simp; done) | (go_simp; rfl)); intro w36 hw; have hg : wr.grownBy w36 (some go34) := (by rw [hw]; exact HP35.2); have hp_ : Kd.R (Kd.int .i64) 3 w36 w.heap.size (fun k_ => some k_ ≠ (.slice Ao14 t213.length co14 : Value).ownBlock ∧ some k_ ≠ (v223 : Value).ownBlock ∧ some k_ ≠ (.slice Ao14 t213.length co14 : Value).ownBlock) (.slice (some ⟨go34, 0, none⟩) t219.length co34) y227 := (by rw [hw, Ny227.out]; exact HP35.1); clear HP35; have n0_ := Aside0.mk (Kd.R_after (v := (.slice (some ⟨go34, 0, none⟩) t219.length co34)) (v1 := (.slice (some ⟨go34, 0, none⟩) t219.length co34)) (ok := (fun k_ => some k_ ≠ (v223 : Value).ownBlock)) (by (with_reducible repeat (first | apply Kd.R_alloc | apply Kd.R_drewN | apply Kd.R_drew)); exact Kd.R_mono HO_5.out (fun _ hk => by first | exact ⟨hk.2, hk.1⟩ | exact hk | exact ⟨hk.1, hk.2⟩ | simp_all)) hg (.inl rfl)); have n1_ := Aside0.mk (hp_); have n2_ := Aside0.mk (Kd.R_after (v := (.slice (some ⟨go34, 0, none⟩) t219.length co34)) (v1 := (.slice (some ⟨go34, 0, none⟩) t219.length co34)) (ok := (fun k_ => some k_ ≠ (.slice Ao14 t213.length co14 : Value).ownBlock ∧ some k_ ≠ (.slice Ao14 t213.length co14 : Value).ownBlock)) (by (with_reducible repeat (first | apply Kd.R_alloc | apply Kd.R_drewN | apply Kd.R_drew)); exact Kd.R_mono HO_8.out (fun _ hk => by first | exact ⟨⟨hk.1, hk.2.2⟩, hk.2.1⟩ | exact hk | exact ⟨hk.1, hk.2⟩ | simp_all)) hg (.inl rfl)); have n3_ := Aside0.mk (Kd.R_after (v := (.slice (some ⟨go34, 0, none⟩) t219.length co34)) (v1 := (.slice (some ⟨go34, 0, none⟩) t219.length co34)) (ok := (fun k_ => some k_ ≠ (v223 : Value).ownBlock)) (by (with_reducible repeat (first | apply Kd.R_alloc | apply Kd.R_drewN | apply Kd.R_drew)); exact Kd.R_mono HO_30.out (fun _ hk => by first | exact ⟨hk.2, hk.1⟩ | exact hk | exact ⟨hk.1, hk.2⟩ | simp_all)) hg (.inl rfl)); have n4_ := Aside0.mk (blk_grown (g := gb212) (o := .cells #[.slice A0_0 l0_0.length c0_0, .slice A0_1 l0_1.length c0_1] 26 (0, 0)) (by exact KX_ BK212.out) hg (Kd.R_ne HO_7.out BK212.out (by decide))); have n5_ := Aside0.mk ((by rw [hw]; exact below_set (HB.out) GB34.out : Below w.heap.size w w36)); clear HO_5; clear HO_7; clear HO_8; clear HO_30; clear BK212; clear HB; have HO_5 := n0_; have HO_7 := n1_; have HO_8 := n2_; have HO_30 := n3_; have BK212 := n4_; have HB := n5_; clear n0_ n1_ n2_ n3_ n4_ n5_; clear hg hw hp_))
       go_step3
       go_step
       try go_step
       apply lab_ghost_at (l := 0) (I := fun (a0_ : Act) (kq_ : Nat) (a_ : Act) (w_ : World) => ∃ u4 u12 u13 u15 u46 u47 u48 u49 u50 u51 u52 u53 u54 u55 u56 u57 u58 u59 u60 u61 u62 u63 u64 u65 u66 u67 u68 u69 u70 u71 u72 u73 u74 u75 u76 u77 u78 u79 u80 u81 u82 u83 u84 u85 u86 u87 u88 u89 u90 u91 u92 u93 : Value, ((fun kq w' => ∃ (x7_2 : List Int), Aside0 (dom_Tree.l1 kq a1 t213 x7_2 x8_1 l0_0 l0_1 = some r) ∧ Aside0 (kq ≤ k1) ∧ Aside0 (Kd.R (Kd.int .i64) 3 w' w.heap.size (fun k_ => some k_ ≠ ((.slice (some ⟨go34, 0, none⟩) t219.length co34) : Value).ownBlock ∧ some k_ ≠ (v223 : Value).ownBlock) (.slice Ao14 t213.length co14) t213) ∧ Aside0 (Kd.R (Kd.int .i64) 3 w' w.heap.size (fun k_ => some k_ ≠ ((.slice Ao14 t213.length co14) : Value).ownBlock ∧ some k_ ≠ (v223 : Value).ownBlock) (.slice (some ⟨go34, 0, none⟩) t219.length co34) x7_2) ∧ Aside0 (Kd.R (Kd.int .i64) 3 w' w.heap.size (fun k_ => some k_ ≠ ((.slice Ao14 t213.length co14) : Value).ownBlock ∧ some k_ ≠ ((.slice (some ⟨go34, 0, none⟩) t219.length co34) : Value).ownBlock) v223 x8_1) ∧ Aside0 (w'.heap[gb212]? = some (.cells #[(.slice A0_0 l0_0.length c0_0), (.slice A0_1 l0_1.length c0_1)] 26 (0, 0))) ∧ Aside0 (Below w.heap.size w w')) kq_  w_) ∧ a_ = { tmps := ((((((((((((((((((((((((((((((((((((((((((((((((((((a0_.tmps.setIfInBounds 4 u4).setIfInBounds 12 u12).setIfInBounds 13 u13).setIfInBounds 15 u15).setIfInBounds 46 u46).setIfInBounds 47 u47).setIfInBounds 48 u48).setIfInBounds 49 u49).setIfInBounds 50 u50).setIfInBounds 51 u51).setIfInBounds 52 u52).setIfInBounds 53 u53).setIfInBounds 54 u54).setIfInBounds 55 u55).setIfInBounds 56 u56).setIfInBounds 57 u57).setIfInBounds 58 u58).setIfInBounds 59 u59).setIfInBounds 60 u60).setIfInBounds 61 u61).setIfInBounds 62 u62).setIfInBounds 63 u63).setIfInBounds 64 u64).setIfInBounds 65 u65).setIfInBounds 66 u66).setIfInBounds 67 u67).setIfInBounds 68 u68).setIfInBounds 69 u69).setIfInBounds 70 u70).setIfInBounds 71 u71).setIfInBounds 72 u72).setIfInBounds 73 u73).setIfInBounds 74 u74).setIfInBounds 75 u75).setIfInBounds 76 u76).setIfInBounds 77 u77).setIfInBounds 78 u78).setIfInBounds 79 u79).setIfInBounds 80 u80).setIfInBounds 81 u81).setIfInBounds 82 u82).setIfInBounds 83 u83).setIfInBounds 84 u84).setIfInBounds 85 u85).setIfInBounds 86 u86).setIfInBounds 87 u87).setIfInBounds 88 u88).setIfInBounds 89 u89).setIfInBounds 90 u90).setIfInBounds 91 u91).setIfInBounds 92 u92).setIfInBounds 93 u93), defers := a0_.defers }) (n₀ := k1); (case hf => rfl)
       case h₀ =>
        (repeat apply Exists.intro)
        refine ⟨?_, ?hfr⟩
        (case hfr => (try simp only [List.setIfInBounds_toArray, List.set_cons_zero, List.set_cons_succ]); rfl)
        exact ⟨(y227), H', ⟨Nat.le_refl _⟩, ⟨by (with_reducible repeat (first | apply Kd.R_alloc | apply Kd.R_drewN | apply Kd.R_drew)); exact Kd.R_mono HO_5.out (fun _ hk => by first | exact ⟨hk.2, hk.1⟩ | exact hk | exact ⟨hk.1, hk.2⟩ | simp_all)⟩, ⟨by (with_reducible repeat (first | apply Kd.R_alloc | apply Kd.R_drewN | apply Kd.R_drew)); exact Kd.R_mono HO_7.out (fun _ hk => by first | exact ⟨hk.1, hk.2.1⟩ | exact hk | exact ⟨hk.1, hk.2⟩ | simp_all)⟩, ⟨by (with_reducible repeat (first | apply Kd.R_alloc | apply Kd.R_drewN | apply Kd.R_drew)); exact Kd.R_mono HO_8.out (fun _ hk => by first | exact ⟨hk.1.1, hk.2⟩ | exact hk | exact ⟨hk.1, hk.2⟩ | simp_all)⟩, ⟨by exact KX_ BK212.out⟩, ⟨B1_⟩⟩
       intro gk _ wr hinv
       obtain ⟨u4, hinv⟩ := hinv
       obtain ⟨u12, hinv⟩ := hinv
       obtain ⟨u13, hinv⟩ := hinv
       obtain ⟨u15, hinv⟩ := hinv
       obtain ⟨u46, hinv⟩ := hinv
       obtain ⟨u47, hinv⟩ := hinv
       obtain ⟨u48, hinv⟩ := hinv
       obtain ⟨u49, hinv⟩ := hinv
       obtain ⟨u50, hinv⟩ := hinv
       obtain ⟨u51, hinv⟩ := hinv
       obtain ⟨u52, hinv⟩ := hinv
       obtain ⟨u53, hinv⟩ := hinv
       obtain ⟨u54, hinv⟩ := hinv
       obtain ⟨u55, hinv⟩ := hinv
       obtain ⟨u56, hinv⟩ := hinv
       obtain ⟨u57, hinv⟩ := hinv
       obtain ⟨u58, hinv⟩ := hinv
       obtain ⟨u59, hinv⟩ := hinv
       obtain ⟨u60, hinv⟩ := hinv
       obtain ⟨u61, hinv⟩ := hinv
       obtain ⟨u62, hinv⟩ := hinv
       obtain ⟨u63, hinv⟩ := hinv
       obtain ⟨u64, hinv⟩ := hinv
       obtain ⟨u65, hinv⟩ := hinv
       obtain ⟨u66, hinv⟩ := hinv
       obtain ⟨u67, hinv⟩ := hinv
       obtain ⟨u68, hinv⟩ := hinv
       obtain ⟨u69, hinv⟩ := hinv
       obtain ⟨u70, hinv⟩ := hinv
       obtain ⟨u71, hinv⟩ := hinv
       obtain ⟨u72, hinv⟩ := hinv
       obtain ⟨u73, hinv⟩ := hinv
       obtain ⟨u74, hinv⟩ := hinv
       obtain ⟨u75, hinv⟩ := hinv
       obtain ⟨u76, hinv⟩ := hinv
       obtain ⟨u77, hinv⟩ := hinv
       obtain ⟨u78, hinv⟩ := hinv
       obtain ⟨u79, hinv⟩ := hinv
       obtain ⟨u80, hinv⟩ := hinv
       obtain ⟨u81, hinv⟩ := hinv
       obtain ⟨u82, hinv⟩ := hinv
       obtain ⟨u83, hinv⟩ := hinv
       obtain ⟨u84, hinv⟩ := hinv
       obtain ⟨u85, hinv⟩ := hinv
       obtain ⟨u86, hinv⟩ := hinv
       obtain ⟨u87, hinv⟩ := hinv
       obtain ⟨u88, hinv⟩ := hinv
       obtain ⟨u89, hinv⟩ := hinv
       obtain ⟨u90, hinv⟩ := hinv
       obtain ⟨u91, hinv⟩ := hinv
       obtain ⟨u92, hinv⟩ := hinv
       obtain ⟨u93, hinv⟩ := hinv
       obtain ⟨hrel, ha⟩ := hinv; subst ha
       intro _ _ hJ_ hK_
       (try simp only [List.setIfInBounds_toArray, List.set_cons_zero, List.set_cons_succ])
       (try simp only [List.setIfInBounds_toArray, List.set_cons_zero, List.set_cons_succ] at hJ_)
       clear H'
       try clear c24b0
       try clear c32b0
       try clear c33b0
       try clear p34
       try clear q34
       try clear hx34_0
       try clear p34
       try clear q34
       obtain ⟨x7_2, HA, HK2, HO_5, HO_7, HO_8, BK212, HB⟩ := hrel
       have hl7_2 := (Kd.R_reads' HO_7.out).1
       rw [hl7_2] at HO_7
       (try simp only [hl7_2])
       (try simp only [hl7_2] at BK212)
       (try simp only [hl7_2] at HO_5)
       (try simp only [hl7_2] at HO_8)
       cases gk with
       | zero => exact absurd HA.out (by simp [dom_Tree.l1])
       | succ k2 =>
        have H := HA.out
        clear HA
        simp only [dom_Tree.l1] at H
        by_cases c37 : 1 ≤ (t213.length : Int)
        ·rw [if_pos c37] at H
         have c37b0 := eq_true c37
         have c37b1 : decide (1 ≤ (t213.length : Int)) = true := decide_eq_true c37
         clear c37
         obtain ⟨y228, hy228⟩ : ∃ y_ : List Int, y_ = (t213.drop 1) := ⟨_, rfl⟩
         replace H : (dom_Tree.l2 k2 a1 t213 x7_2 x8_1 y228 (y228.length : Int) 0 l0_0 l0_1) = some r := by first | (rw [hy228]; with_reducible exact H) | (have H2_ := (Option.bind_some _ _).symm.trans H; rw [hy228]; with_reducible exact H2_) | (have H2_ := (Option.bind_some _ _).symm.trans H; with_reducible exact H2_) | with_reducible exact H | (rw [hy228]; exact H) | exact H
         have Ny228 := Aside0.mk hy228
         clear hy228
         have H' := Aside0.mk H
         clear H
         have q38 : (1 : Int) ≤ ((t213.length : Int) : Int) := D_
         obtain ⟨i038, hi038, _, hsz38, _⟩ := info_parts info3
         have hroom38 : t213.length ≤ co14 := (Kd.R_reads' HO_5.out).2.1
         have hC38 : Kd.C (Kd.int .i64) _ Ao14 t213.length t213 := (Kd.R_reads' HO_5.out).2.2
         have hcut38 := cut_from (P := Try.prog) 30 3 .i64 Try.underlying30 hi038 1 hsz38 Ao14 t213.length co14 1 (by omega) q38
         have hr38 := Kd.C_drop (m := (1 : Int).toNat) (c := co14) hC38 (by omega) hroom38
         obtain ⟨A38, hA38⟩ : ∃ A1, A1 = (if co14 = (1 : Int).toNat then Ao14 else (Ao14 : Option Addr).map (·.add ((1 : Int).toNat * 1))) := ⟨_, rfl⟩
         obtain ⟨c38, hc38⟩ : ∃ c1, c1 = co14 - (1 : Int).toNat := ⟨_, rfl⟩
         have hy38 : y228.length = t213.length - (1 : Int).toNat := (by rw [Ny228.out, List.length_drop] <;> omega)
         rw [show (t213).drop (1 : Int).toNat = y228 from Ny228.out.symm] at hr38
         replace hr38 : Kd.C (Kd.int .i64) _ A38 y228.length y228 := (by rw [hA38]; exact hr38)
         rw [← hy38, ← hA38, ← hc38] at hcut38
         have HR231 := Aside0.mk hr38
         have HC231 := Aside0.mk (show y228.length ≤ c38 from by rw [hy38, hc38]; exact Nat.sub_le_sub_right hroom38 _)
         clear hr38 hC38 hroom38 hi038 hsz38 hc38
         have KY38 := Aside0.mk hy38
         have KA38 := Aside0.mk hA38
         clear hy38 hA38
         have KL38 := Aside0.mk (show 1 ≤ t213.length from by omega)
         replace q38 := eq_true q38
         go_wp2
         go_loopg [49] k2 (fun kq v49 w' => ∃ (x7_3 : List Int) (x49_3 : Int), v49 = .int .i64 x49_3 ∧ Aside0 (dom_Tree.l2 kq a1 t213 x7_3 x8_1 y228 (y228.length : Int) x49_3 l0_0 l0_1 = some r) ∧ Aside0 (kq ≤ k2) ∧ Aside0 (Kd.R (Kd.int .i64) 3 w' w.heap.size (fun k_ => some k_ ≠ ((.slice (some ⟨go34, 0, none⟩) x7_2.length co34) : Value).ownBlock ∧ some k_ ≠ (v223 : Value).ownBlock) (.slice Ao14 t213.length co14) t213) ∧ Aside0 (Kd.R (Kd.int .i64) 3 w' w.heap.size (fun k_ => some k_ ≠ ((.slice Ao14 t213.length co14) : Value).ownBlock ∧ some k_ ≠ (v223 : Value).ownBlock) (.slice (some ⟨go34, 0, none⟩) x7_2.length co34) x7_3) ∧ Aside0 (Kd.R (Kd.int .i64) 3 w' w.heap.size (fun k_ => some k_ ≠ ((.slice Ao14 t213.length co14) : Value).ownBlock ∧ some k_ ≠ ((.slice (some ⟨go34, 0, none⟩) x7_2.length co34) : Value).ownBlock) v223 x8_1) ∧ Aside0 (w'.heap[gb212]? = some (.cells #[(.slice A0_0 l0_0.length c0_0), (.slice A0_1 l0_1.length c0_1)] 26 (0, 0))) ∧ Aside0 (Kd.C (Kd.int .i64) w' A38 y228.length y228) ∧ Aside0 (Below w.heap.size w w'))
         case atStart => exact ⟨(x7_2), (0), (by first | rfl | (simp; done) | (simp [*]; done)), H', ⟨Nat.le_refl _⟩, ⟨by (try simp only [hl7_2]); exact RM_ HO_5.out⟩, ⟨by (try simp only [hl7_2]); exact RM_ HO_7.out⟩, ⟨by (try simp only [hl7_2]); exact RM_ HO_8.out⟩, ⟨by (try simp only [hl7_2]); exact KX_ BK212.out⟩, ⟨by repeat (first | (with_reducible exact HR231.out) | (with_reducible refine Kd.C_alloc ?_ _) | (with_reducible refine Kd.C_drewN ?_ _) | (with_reducible refine Kd.C_drew ?_) | exact HR231.out)⟩, ⟨B1_⟩⟩
         case round =>
          clear H'
          try clear c1
          try clear c37b0
          try clear c37b1
          try clear c38
          try clear q38
          try clear q38
          obtain ⟨x7_3, x49_3, rfl, HA, HK3, HO_5, HO_7, HO_8, BK212, HR231, HB⟩ := hrel
          have hl7_3 := (Kd.R_reads' HO_7.out).1
          rw [hl7_3] at HO_7
          (try simp only [hl7_3])
          (try simp only [hl7_3] at BK212)
          (try simp only [hl7_3] at HO_5)
          (try simp only [hl7_3] at HO_8)
          cases gk with
          | zero => exact absurd HA.out (by simp [dom_Tree.l2])
          | succ k3 =>
           have H := HA.out
           clear HA
           simp only [dom_Tree.l2] at H
           by_cases c39 : x49_3 < (y228.length : Int)
           ·rw [if_pos c39] at H
            have c39b0 : decide (x49_3 < (y228.length : Int)) = true := decide_eq_true c39
            clear c39
            by_cases c40 : 0 ≤ x49_3
            ·rw [if_pos c40] at H
             have c40b0 : decide (0 ≤ x49_3) = true := decide_eq_true c40
             clear c40
             by_cases c41 : x49_3 < (y228.length : Int)
             ·rw [if_pos c41] at H
              have c41b0 : decide (x49_3 < (y228.length : Int)) = true := decide_eq_true c41
              clear c41
              by_cases c42 : 0 ≤ (rd y228 x49_3)
              ·rw [if_pos c42] at H
               have c42b0 : decide (0 ≤ (rd y228 x49_3)) = true := decide_eq_true c42
               clear c42
               by_cases c43 : (rd y228 x49_3) < (l0_1.length : Int)
               ·rw [if_pos c43] at H
                have c43b0 : decide ((rd y228 x49_3) < (l0_1.length : Int)) = true := decide_eq_true c43
                clear c43
                have H' := Aside0.mk H
                clear H
                have p233 : 0 ≤ (x49_3 : Int) := D_
                have q233 : x49_3 < (y228.length : Int) := D_
                obtain ⟨ad233, e233, hx233_0⟩ := Kd.at_int HR231.out x49_3 p233 q233
                cases e233
                replace p233 := eq_true p233
                replace q233 := eq_true q233
                have hcz44_0 : wr.cell? ⟨gb212, 0, none⟩ = some (.slice A0_0 l0_0.length c0_0) := (blk_cell BK212.out 0).trans rfl
                have hcz44_1 : wr.cell? ⟨gb212, 1, none⟩ = some (.slice A0_1 l0_1.length c0_1) := (blk_cell BK212.out 1).trans rfl
                have hfz44_0 := blk_frozen BK212.out 0
                have hfz44_1 := blk_frozen BK212.out 1
                have p234 : 0 ≤ ((rd y228 x49_3) : Int) := D_
                have q234 : (rd y228 x49_3) < (l0_1.length : Int) := D_
                obtain ⟨ad234, A234_0, c234_0, e234, hx234_0, hl234_0, hi234_0⟩ := at_L1 HR0_1.out (rd y228 x49_3) p234 q234
                cases e234
                replace hx234_0 := (HB.out.cell (World.block_lt_of_cell? w _ hx234_0)).trans hx234_0
                have HR234_0 := Aside0.mk hi234_0
                have HC234_0 := Aside0.mk hl234_0
                clear hi234_0 hl234_0
                replace p234 := eq_true p234
                replace q234 := eq_true q234
                go_wp2
                go_loopg [13, 59] k3 (fun kq v13 v59 w' => ∃ (x13_4 : Int) (x59_4 : Int), v13 = .int .i64 x13_4 ∧ v59 = .int .i64 x59_4 ∧ Aside0 (dom_Tree.l3 kq a1 t213 x7_3 x8_1 (rd y228 x49_3) x13_4 y228 (y228.length : Int) x49_3 (rd_L1 l0_1 (rd y228 x49_3)) ((rd_L1 l0_1 (rd y228 x49_3)).length : Int) x59_4 l0_0 l0_1 = some r) ∧ Aside0 (kq ≤ k3) ∧ Aside0 (Kd.R (Kd.int .i64) 3 w' w.heap.size (fun k_ => some k_ ≠ ((.slice (some ⟨go34, 0, none⟩) x7_3.length co34) : Value).ownBlock ∧ some k_ ≠ (v223 : Value).ownBlock) (.slice Ao14 t213.length co14) t213) ∧ Aside0 (Kd.R (Kd.int .i64) 3 w' w.heap.size (fun k_ => some k_ ≠ ((.slice Ao14 t213.length co14) : Value).ownBlock ∧ some k_ ≠ (v223 : Value).ownBlock) (.slice (some ⟨go34, 0, none⟩) x7_3.length co34) x7_3) ∧ Aside0 (Kd.R (Kd.int .i64) 3 w' w.heap.size (fun k_ => some k_ ≠ ((.slice Ao14 t213.length co14) : Value).ownBlock ∧ some k_ ≠ ((.slice (some ⟨go34, 0, none⟩) x7_3.length co34) : Value).ownBlock) v223 x8_1) ∧ Aside0 (w'.heap[gb212]? = some (.cells #[(.slice A0_0 l0_0.length c0_0), (.slice (some ad234) l0_1.length c0_1)] 26 (0, 0))) ∧ Aside0 (Kd.C (Kd.int .i64) w' (some ad233) y228.length y228) ∧ Aside0 (Below w.heap.size w w'))
                case atStart => exact ⟨((-2)), (0), (by first | rfl | (simp; done) | (simp [*]; done)), (by first | rfl | (simp; done) | (simp [*]; done)), H', ⟨Nat.le_refl _⟩, ⟨by (try simp only [hl7_2]); (try simp only [hl7_3]); exact RM_ HO_5.out⟩, ⟨by (try simp only [hl7_2]); (try simp only [hl7_3]); exact RM_ HO_7.out⟩, ⟨by (try simp only [hl7_2]); (try simp only [hl7_3]); exact RM_ HO_8.out⟩, ⟨by (try simp only [hl7_2]); (try simp only [hl7_3]); exact KX_ BK212.out⟩, ⟨by repeat (first | (with_reducible exact HR231.out) | (with_reducible refine Kd.C_alloc ?_ _) | (with_reducible refine Kd.C_drewN ?_ _) | (with_reducible refine Kd.C_drew ?_) | exact HR231.out)⟩, ⟨B1_⟩⟩
                case round =>
                 clear H'
                 try clear c39b0
                 try clear c40b0
                 try clear c41b0
                 try clear c42b0
                 try clear c43b0
                 try clear hcz44_0
                 try clear hcz44_1
                 try clear hfz44_0
                 try clear hfz44_1
                 try clear hx233_0
                 try clear hx234_0
                 try clear p233
                 try clear p234
                 try clear q233
                 try clear q234
                 obtain ⟨x13_4, x59_4, rfl, rfl, HA, HK4, HO_5, HO_7, HO_8, BK212, HR231, HB⟩ := hrel
                 cases gk with
                 | zero => exact absurd HA.out (by simp [dom_Tree.l3])
                 | succ k4 =>
                  have H := HA.out
                  clear HA
                  simp only [dom_Tree.l3] at H
                  by_cases c45 : x59_4 < ((rd_L1 l0_1 (rd y228 x49_3)).length : Int)
                  ·rw [if_pos c45] at H
                   have c45b0 : decide (x59_4 < ((rd_L1 l0_1 (rd y228 x49_3)).length : Int)) = true := decide_eq_true c45
                   clear c45
                   by_cases c46 : 0 ≤ x59_4
                   ·rw [if_pos c46] at H
                    have c46b0 : decide (0 ≤ x59_4) = true := decide_eq_true c46
                    clear c46
                    by_cases c47 : x59_4 < ((rd_L1 l0_1 (rd y228 x49_3)).length : Int)
                    ·rw [if_pos c47] at H
                     have c47b0 : decide (x59_4 < ((rd_L1 l0_1 (rd y228 x49_3)).length : Int)) = true := decide_eq_true c47
                     clear c47
                     by_cases c48 : 0 ≤ (rd (rd_L1 l0_1 (rd y228 x49_3)) x59_4)
                     ·rw [if_pos c48] at H
                      have c48b0 : decide (0 ≤ (rd (rd_L1 l0_1 (rd y228 x49_3)) x59_4)) = true := decide_eq_true c48
                      clear c48
                      by_cases c49 : (rd (rd_L1 l0_1 (rd y228 x49_3)) x59_4) < (x7_3.length : Int)
                      ·rw [if_pos c49] at H
                       have c49b0 : decide ((rd (rd_L1 l0_1 (rd y228 x49_3)) x59_4) < (x7_3.length : Int)) = true := decide_eq_true c49
                       clear c49
                       by_cases c50 : (rd x7_3 (rd (rd_L1 l0_1 (rd y228 x49_3)) x59_4)) = (-2)
                       ·rw [if_pos c50] at H
                        have c50b0 : ((rd x7_3 (rd (rd_L1 l0_1 (rd y228 x49_3)) x59_4)) == (-2)) = true := beq_iff_eq.mpr c50
                        have c50b1 : ((rd x7_3 (rd (rd_L1 l0_1 (rd y228 x49_3)) x59_4)) != (-2)) = false := bne_eq_false_iff_eq.mpr c50
                        clear c50
                        have H' := Aside0.mk H
                        clear H
                        have p237 : 0 ≤ (x59_4 : Int) := D_
                        have q237 : x59_4 < ((rd_L1 l0_1 (rd y228 x49_3)).length : Int) := D_
                        obtain ⟨ad237, e237, hx237_0⟩ := Kd.at_int HR234_0.out x59_4 p237 q237
                        cases e237
                        replace hx237_0 := (HB.out.cell (World.block_lt_of_cell? w _ hx237_0)).trans hx237_0
                        replace p237 := eq_true p237
                        replace q237 := eq_true q237
                        have p238 : 0 ≤ ((rd (rd_L1 l0_1 (rd y228 x49_3)) x59_4) : Int) := D_
                        have q238 : (rd (rd_L1 l0_1 (rd y228 x49_3)) x59_4) < (x7_3.length : Int) := D_
                        obtain ⟨ad238, e238, hx238_0⟩ := Kd.at_int (Kd.R_reads' HO_7.out).2.2 (rd (rd_L1 l0_1 (rd y228 x49_3)) x59_4) p238 q238
                        obtain rfl : (⟨go34, 0, none⟩ : Addr) = ad238 := (by injection e238)
                        (first | simp only [add_plain] at hx238_0 | simp only [add_at] at hx238_0 | simp only [Addr.add, Nat.zero_add] at hx238_0 | skip)
                        replace p238 := eq_true p238
                        replace q238 := eq_true q238
                        go_wp2
                        go_roundg k4
                        case measure => have := HK1.out; have := HK2.out; have := HK3.out; have := HK4.out; omega
                        case rel => exact ⟨(x13_4), (wrap64 (x59_4 + 1)), (by first | rfl | (simp; done) | (simp [*]; done)), (by first | rfl | (simp; done) | (simp [*]; done)), H', ⟨by have := HK1.out; have := HK2.out; have := HK3.out; have := HK4.out; omega⟩, ⟨by (try simp only [hl7_2]); (try simp only [hl7_3]); exact RM_ HO_5.out⟩, ⟨by (try simp only [hl7_2]); (try simp only [hl7_3]); exact RM_ HO_7.out⟩, ⟨by (try simp only [hl7_2]); (try simp only [hl7_3]); exact RM_ HO_8.out⟩, ⟨by (try simp only [hl7_2]); (try simp only [hl7_3]); exact KX_ BK212.out⟩, ⟨by repeat (first | (with_reducible exact HR231.out) | (with_reducible refine Kd.C_alloc ?_ _) | (with_reducible refine Kd.C_drewN ?_ _) | (with_reducible refine Kd.C_drew ?_) | exact HR231.out)⟩, ⟨B1_⟩⟩
                       rw [if_neg c50] at H
                       have c50b0 : ((rd x7_3 (rd (rd_L1 l0_1 (rd y228 x49_3)) x59_4)) == (-2)) = false := beq_eq_false_iff_ne.mpr c50
                       have c50b1 : ((rd x7_3 (rd (rd_L1 l0_1 (rd y228 x49_3)) x59_4)) != (-2)) = true := bne_iff_ne.mpr c50
                       by_cases c51 : x13_4 = (-2)
                       ·rw [if_pos c51] at H
                        have c51b0 : (x13_4 == (-2)) = true := beq_iff_eq.mpr c51
                        have c51b1 : (x13_4 != (-2)) = false := bne_eq_false_iff_eq.mpr c51
                        clear c51
                        have H' := Aside0.mk H
                        clear H
                        have p237 : 0 ≤ (x59_4 : Int) := D_
                        have q237 : x59_4 < ((rd_L1 l0_1 (rd y228 x49_3)).length : Int) := D_
                        obtain ⟨ad237, e237, hx237_0⟩ := Kd.at_int HR234_0.out x59_4 p237 q237
                        cases e237
                        replace hx237_0 := (HB.out.cell (World.block_lt_of_cell? w _ hx237_0)).trans hx237_0
                        replace p237 := eq_true p237
                        replace q237 := eq_true q237
                        have p238 : 0 ≤ ((rd (rd_L1 l0_1 (rd y228 x49_3)) x59_4) : Int) := D_
                        have q238 : (rd (rd_L1 l0_1 (rd y228 x49_3)) x59_4) < (x7_3.length : Int) := D_
                        obtain ⟨ad238, e238, hx238_0⟩ := Kd.at_int (Kd.R_reads' HO_7.out).2.2 (rd (rd_L1 l0_1 (rd y228 x49_3)) x59_4) p238 q238
                        obtain rfl : (⟨go34, 0, none⟩ : Addr) = ad238 := (by injection e238)
                        (first | simp only [add_plain] at hx238_0 | simp only [add_at] at hx238_0 | simp only [Addr.add, Nat.zero_add] at hx238_0 | skip)
                        replace p238 := eq_true p238
                        replace q238 := eq_true q238
                        go_wp2
                        go_roundg k4
                        case measure => have := HK1.out; have := HK2.out; have := HK3.out; have := HK4.out; omega
                        case rel => exact ⟨(rd (rd_L1 l0_1 (rd y228 x49_3)) x59_4), (wrap64 (x59_4 + 1)), (by first | rfl | (simp; done) | (simp [*]; done)), (by first | rfl | (simp; done) | (simp [*]; done)), H', ⟨by have := HK1.out; have := HK2.out; have := HK3.out; have := HK4.out; omega⟩, ⟨by (try simp only [hl7_2]); (try simp only [hl7_3]); exact RM_ HO_5.out⟩, ⟨by (try simp only [hl7_2]); (try simp only [hl7_3]); exact RM_ HO_7.out⟩, ⟨by (try simp only [hl7_2]); (try simp only [hl7_3]); exact RM_ HO_8.out⟩, ⟨by (try simp only [hl7_2]); (try simp only [hl7_3]); exact KX_ BK212.out⟩, ⟨by repeat (first | (with_reducible exact HR231.out) | (with_reducible refine Kd.C_alloc ?_ _) | (with_reducible refine Kd.C_drewN ?_ _) | (with_reducible refine Kd.C_drew ?_) | exact HR231.out)⟩, ⟨B1_⟩⟩
                       rw [if_neg c51] at H
                       have c51b0 : (x13_4 == (-2)) = false := beq_eq_false_iff_ne.mpr c51
                       have c51b1 : (x13_4 != (-2)) = true := bne_iff_ne.mpr c51
                       replace H := Option.bind_eq_some_iff.mp H
                       obtain ⟨t239, A520, H⟩ := H
                       replace H : (dom_Tree.l3 k4 a1 t213 x7_3 x8_1 (rd y228 x49_3) t239 y228 (y228.length : Int) x49_3 (rd_L1 l0_1 (rd y228 x49_3)) ((rd_L1 l0_1 (rd y228 x49_3)).length : Int) (wrap64 (x59_4 + 1)) l0_0 l0_1) = some r := H
                       have A52 := Aside0.mk A520
                       clear A520
                       have H' := Aside0.mk H
                       clear H
                       have p237 : 0 ≤ (x59_4 : Int) := D_
                       have q237 : x59_4 < ((rd_L1 l0_1 (rd y228 x49_3)).length : Int) := D_
                       obtain ⟨ad237, e237, hx237_0⟩ := Kd.at_int HR234_0.out x59_4 p237 q237
                       cases e237
                       replace hx237_0 := (HB.out.cell (World.block_lt_of_cell? w _ hx237_0)).trans hx237_0
                       replace p237 := eq_true p237
                       replace q237 := eq_true q237
                       have p238 : 0 ≤ ((rd (rd_L1 l0_1 (rd y228 x49_3)) x59_4) : Int) := D_
                       have q238 : (rd (rd_L1 l0_1 (rd y228 x49_3)) x59_4) < (x7_3.length : Int) := D_
                       obtain ⟨ad238, e238, hx238_0⟩ := Kd.at_int (Kd.R_reads' HO_7.out).2.2 (rd (rd_L1 l0_1 (rd y228 x49_3)) x59_4) p238 q238
                       obtain rfl : (⟨go34, 0, none⟩ : Addr) = ad238 := (by injection e238)
                       (first | simp only [add_plain] at hx238_0 | simp only [add_at] at hx238_0 | simp only [Addr.add, Nat.zero_add] at hx238_0 | skip)
                       replace p238 := eq_true p238
                       replace q238 := eq_true q238
                       obtain ⟨Ao53, co53, eo53⟩ := Kd.R_slice HO_8.out
                       subst eo53
                       go_wp2_with (first | ((with_reducible refine gate_callee (f := 32) rfl ?_); refine goesL_ (some 67) rfl rfl Try.func32 (by kernel_rfl) rfl #[.slice (some ⟨go34, 0, none⟩) x7_3.length co34, .slice Ao53 x8_1.length co53, .int .i64 x13_4, .int .i64 (rd (rd_L1 l0_1 (rd y228 x49_3)) x59_4)] rfl (by (try simp only [List.map_toArray, List.map_cons, List.map_nil]); first | done | rfl | (simp only [List.length_drop, List.length_take]; rfl)) ?_; (with_reducible refine (dom_meet.calls k4 _ _ x7_3 _ _ x8_1 x13_4 (rd (rd_L1 l0_1 (rd y228 x49_3)) x59_4) t239 _ ?side1 ?side2 ?side3 ?side4 A52.out).mono ?_); (case side1 => repeat (first | exact (Kd.R_reads' HO_7.out).2.2 | (with_reducible refine Kd.C_alloc ?_ _) | (with_reducible refine Kd.C_drewN ?_ _) | (with_reducible refine Kd.C_drew ?_))); (case side2 => exact (Kd.R_reads' HO_7.out).2.1); (case side3 => repeat (first | exact (Kd.R_reads' HO_8.out).2.2 | (with_reducible refine Kd.C_alloc ?_ _) | (with_reducible refine Kd.C_drewN ?_ _) | (with_reducible refine Kd.C_drew ?_))); (case side4 => exact (Kd.R_reads' HO_8.out).2.1); rintro e w' ⟨rfl, ⟨nd, rfl⟩⟩; refine ⟨_, rfl, ?_⟩))
                       go_roundg k4
                       case measure => have := HK1.out; have := HK2.out; have := HK3.out; have := HK4.out; omega
                       case rel => exact ⟨(t239), (wrap64 (x59_4 + 1)), (by first | rfl | (simp; done) | (simp [*]; done)), (by first | rfl | (simp; done) | (simp [*]; done)), H', ⟨by have := HK1.out; have := HK2.out; have := HK3.out; have := HK4.out; omega⟩, ⟨by (try simp only [hl7_2]); (try simp only [hl7_3]); exact RM_ HO_5.out⟩, ⟨by (try simp only [hl7_2]); (try simp only [hl7_3]); exact RM_ HO_7.out⟩, ⟨by (try simp only [hl7_2]); (try simp only [hl7_3]); exact RM_ HO_8.out⟩, ⟨by (try simp only [hl7_2]); (try simp only [hl7_3]); exact KX_ BK212.out⟩, ⟨by repeat (first | (with_reducible exact HR231.out) | (with_reducible refine Kd.C_alloc ?_ _) | (with_reducible refine Kd.C_drewN ?_ _) | (with_reducible refine Kd.C_drew ?_) | exact HR231.out)⟩, ⟨B1_⟩⟩
                      rw [if_neg c49] at H
                      exact absurd H (by simp)
                     rw [if_neg c48] at H
                     exact absurd H (by simp)
                    rw [if_neg c47] at H
                    exact absurd H (by simp)
                   rw [if_neg c46] at H
                   exact absurd H (by simp)
                  rw [if_neg c45] at H
                  have c45b0 : decide (x59_4 < ((rd_L1 l0_1 (rd y228 x49_3)).length : Int)) = false := decide_eq_false c45
                  clear c45
                  by_cases c54 : 0 ≤ (rd y228 x49_3)
                  ·rw [if_pos c54] at H
                   have c54b0 : decide (0 ≤ (rd y228 x49_3)) = true := decide_eq_true c54
                   clear c54
                   by_cases c55 : (rd y228 x49_3) < (x7_3.length : Int)
                   ·rw [if_pos c55] at H
                    have c55b0 : decide ((rd y228 x49_3) < (x7_3.length : Int)) = true := decide_eq_true c55
                    clear c55
                    by_cases c56 : (rd x7_3 (rd y228 x49_3)) = x13_4
                    ·rw [if_pos c56] at H
                     have c56b0 : ((rd x7_3 (rd y228 x49_3)) == x13_4) = true := beq_iff_eq.mpr c56
                     have c56b1 : ((rd x7_3 (rd y228 x49_3)) != x13_4) = false := bne_eq_false_iff_eq.mpr c56
                     clear c56
                     have H' := Aside0.mk H
                     clear H
                     have p235 : 0 ≤ ((rd y228 x49_3) : Int) := D_
                     have q235 : (rd y228 x49_3) < (x7_3.length : Int) := D_
                     obtain ⟨ad235, e235, hx235_0⟩ := Kd.at_int (Kd.R_reads' HO_7.out).2.2 (rd y228 x49_3) p235 q235
                     obtain rfl : (⟨go34, 0, none⟩ : Addr) = ad235 := (by injection e235)
                     (first | simp only [add_plain] at hx235_0 | simp only [add_at] at hx235_0 | simp only [Addr.add, Nat.zero_add] at hx235_0 | skip)
                     replace p235 := eq_true p235
                     replace q235 := eq_true q235
                     go_wp2
                     (try simp only [← hl7_3])
                     go_roundg k4
                     case measure => have := HK1.out; have := HK2.out; have := HK3.out; have := HK4.out; omega
                     case rel => exact ⟨(x7_3), (wrap64 (x49_3 + 1)), (by first | rfl | (simp; done) | (simp [*]; done)), H', ⟨by have := HK1.out; have := HK2.out; have := HK3.out; have := HK4.out; omega⟩, ⟨by (try simp only [hl7_2]); (try simp only [hl7_3]); exact RM_ HO_5.out⟩, ⟨by (try simp only [hl7_2]); (try simp only [hl7_3]); exact RM_ HO_7.out⟩, ⟨by (try simp only [hl7_2]); (try simp only [hl7_3]); exact RM_ HO_8.out⟩, ⟨by (try simp only [hl7_2]); (try simp only [hl7_3]); exact KX_ BK212.out⟩, ⟨by repeat (first | (with_reducible exact HR231.out) | (with_reducible refine Kd.C_alloc ?_ _) | (with_reducible refine Kd.C_drewN ?_ _) | (with_reducible refine Kd.C_drew ?_) | exact HR231.out)⟩, ⟨B1_⟩⟩
                    rw [if_neg c56] at H
                    have c56b0 : ((rd x7_3 (rd y228 x49_3)) == x13_4) = false := beq_eq_false_iff_ne.mpr c56
                    have c56b1 : ((rd x7_3 (rd y228 x49_3)) != x13_4) = true := bne_iff_ne.mpr c56
                    obtain ⟨y236, hy236⟩ : ∃ y_ : List Int, y_ = (x7_3.set ((rd y228 x49_3) : Int).toNat x13_4) := ⟨_, rfl⟩
                    replace H : (dom_Tree.l1 k4 a1 t213 y236 x8_1 l0_0 l0_1) = some r := by first | (rw [hy236]; with_reducible exact H) | (have H2_ := (Option.bind_some _ _).symm.trans H; rw [hy236]; with_reducible exact H2_) | (have H2_ := (Option.bind_some _ _).symm.trans H; with_reducible exact H2_) | with_reducible exact H | (rw [hy236]; exact H) | exact H
                    have Ny236 := Aside0.mk hy236
                    clear hy236
                    have H' := Aside0.mk H
                    clear H
                    have p235 : 0 ≤ ((rd y228 x49_3) : Int) := D_
                    have q235 : (rd y228 x49_3) < (x7_3.length : Int) := D_
                    obtain ⟨ad235, e235, hx235_0⟩ := Kd.at_int (Kd.R_reads' HO_7.out).2.2 (rd y228 x49_3) p235 q235
                    obtain rfl : (⟨go34, 0, none⟩ : Addr) = ad235 := (by injection e235)
                    (first | simp only [add_plain] at hx235_0 | simp only [add_at] at hx235_0 | simp only [Addr.add, Nat.zero_add] at hx235_0 | skip)
                    replace p235 := eq_true p235
                    replace q235 := eq_true q235
                    have p57 : 0 ≤ ((rd y228 x49_3) : Int) := D_
                    have q57 : ((rd y228 x49_3) : Int) < ((x7_3.length : Int) : Int) := D_
                    obtain ⟨hx57_0, hf57_0⟩ := Kd.R_celln 0 HO_7.out ((rd y228 x49_3) : Int) p57 q57
                    replace p57 := eq_true p57
                    replace q57 := eq_true q57
                    have HP58 := Kd.R_putg HO_7.out ((rd y228 x49_3) : Int) x13_4
                    go_wp2_with (first | ((with_reducible refine gate_store (t := 3) (p := 88) rfl ?_); refine store_event (t := 3) (p := 88) (v := ?vo_w59) (w1 := (wr.setCell ⟨go34, ((rd y228 x49_3) : Int).toNat, none⟩ (.int .i64 x13_4))) ?hg ?ho ?hn ?hr ?_; (case ho => rfl); (case hg => rfl); (case hn => rfl); (case hr => first | (go_simp; done) | (go_simp; rfl)); intro w59 hw; have hg : wr.grownBy w59 (some go34) := (by rw [hw]; exact HP58.2); have hp_ : Kd.R (Kd.int .i64) 3 w59 w.heap.size (fun k_ => some k_ ≠ (.slice Ao14 t213.length co14 : Value).ownBlock ∧ some k_ ≠ (v223 : Value).ownBlock) (.slice (some ⟨go34, 0, none⟩) x7_3.length co34) y236 := (by rw [hw, Ny236.out]; exact HP58.1); clear HP58; have n0_ := Aside0.mk (Kd.R_after (v := (.slice (some ⟨go34, 0, none⟩) x7_3.length co34)) (v1 := (.slice (some ⟨go34, 0, none⟩) x7_3.length co34)) (ok := (fun k_ => some k_ ≠ (v223 : Value).ownBlock)) (by (with_reducible repeat (first | apply Kd.R_alloc | apply Kd.R_drewN | apply Kd.R_drew)); exact Kd.R_mono HO_5.out (fun _ hk => by first | exact ⟨hk.2, hk.1⟩ | exact hk | exact ⟨hk.1, hk.2⟩ | simp_all)) hg (.inl rfl)); have n1_ := Aside0.mk (hp_); have n2_ := Aside0.mk (Kd.R_after (v := (.slice (some ⟨go34, 0, none⟩) x7_3.length co34)) (v1 := (.slice (some ⟨go34, 0, none⟩) x7_3.length co34)) (ok := (fun k_ => some k_ ≠ (.slice Ao14 t213.length co14 : Value).ownBlock)) (by exact RX_ HO_8.out) hg (.inl rfl)); have n3_ := Aside0.mk (blk_grown (g := gb212) (o := .cells #[.slice A0_0 l0_0.length c0_0, .slice (some ad234) l0_1.length c0_1] 26 (0, 0)) (by exact KX_ BK212.out) hg (Kd.R_ne HO_7.out BK212.out (by decide))); have n4_ := Aside0.mk ((by rw [hw]; exact below_set (HB.out) GB34.out : Below w.heap.size w w59)); have n5_ := Aside0.mk ((show Kd.C (Kd.int .i64) w59 (some ad233) y228.length y228 from by rw [Ny228.out, KA38.out]; exact Kd.C_drop (m := 1) (c := co14) ((Kd.R_reads' (Kd.R_after (v := (.slice (some ⟨go34, 0, none⟩) x7_3.length co34)) (v1 := (.slice (some ⟨go34, 0, none⟩) x7_3.length co34)) (ok := (fun k_ => some k_ ≠ (v223 : Value).ownBlock)) (by (with_reducible repeat (first | apply Kd.R_alloc | apply Kd.R_drewN | apply Kd.R_drew)); exact Kd.R_mono HO_5.out (fun _ hk => by first | exact ⟨hk.2, hk.1⟩ | exact hk | exact ⟨hk.1, hk.2⟩ | simp_all)) hg (.inl rfl))).2.2) KL38.out ((Kd.R_reads' (Kd.R_after (v := (.slice (some ⟨go34, 0, none⟩) x7_3.length co34)) (v1 := (.slice (some ⟨go34, 0, none⟩) x7_3.length co34)) (ok := (fun k_ => some k_ ≠ (v223 : Value).ownBlock)) (by (with_reducible repeat (first | apply Kd.R_alloc | apply Kd.R_drewN | apply Kd.R_drew)); exact Kd.R_mono HO_5.out (fun _ hk => by first | exact ⟨hk.2, hk.1⟩ | exact hk | exact ⟨hk.1, hk.2⟩ | simp_all)) hg (.inl rfl))).2.1))); clear HO_5; clear HO_7; clear HO_8; clear BK212; clear HB; clear HR231; have HO_5 := n0_; have HO_7 := n1_; have HO_8 := n2_; have BK212 := n3_; have HB := n4_; have HR231 := n5_; clear n0_ n1_ n2_ n3_ n4_ n5_; clear hg hw hp_))
                    (try simp only [← hl7_2, ← hl7_3])
                    go_step3
                    try simp only [jumpg_goto, Exit.then, Exit.inBlock]
                    go_step
                    go_roundg k4
                    case measure => have := HK1.out; have := HK2.out; have := HK3.out; have := HK4.out; omega
                    case rel => exact ⟨(y236), H', ⟨by have := HK1.out; have := HK2.out; have := HK3.out; have := HK4.out; omega⟩, ⟨by (try simp only [hl7_2]); (try simp only [hl7_3]); (with_reducible repeat (first | apply Kd.R_alloc | apply Kd.R_drewN | apply Kd.R_drew)); exact Kd.R_mono HO_5.out (fun _ hk => by first | exact ⟨hk.2, hk.1⟩ | exact hk | exact ⟨hk.1, hk.2⟩ | simp_all)⟩, ⟨by (try simp only [hl7_2]); (try simp only [hl7_3]); exact RM_ HO_7.out⟩, ⟨by (try simp only [hl7_2]); (try simp only [hl7_3]); exact RM_ HO_8.out⟩, ⟨by (try simp only [hl7_2]); (try simp only [hl7_3]); exact KX_ BK212.out⟩, ⟨B1_⟩⟩
                   rw [if_neg c55] at H
                   exact absurd H (by simp)
                  rw [if_neg c54] at H
                  exact absurd H (by simp)
               rw [if_neg c43] at H
               exact absurd H (by simp)
              rw [if_neg c42] at H
              exact absurd H (by simp)
             rw [if_neg c41] at H
             exact absurd H (by simp)
            rw [if_neg c40] at H
            exact absurd H (by simp)
           rw [if_neg c39] at H
           have c39b0 : decide (x49_3 < (y228.length : Int)) = false := decide_eq_false c39
           clear c39
           by_cases c60 : 0 ≤ a1
           ·rw [if_pos c60] at H
            have c60b0 : decide (0 ≤ a1) = true := decide_eq_true c60
            clear c60
            by_cases c61 : a1 < (x7_3.length : Int)
            ·rw [if_pos c61] at H
             have c61b0 : decide (a1 < (x7_3.length : Int)) = true := decide_eq_true c61
             clear c61
             obtain ⟨y232, hy232⟩ : ∃ y_ : List Int, y_ = (x7_3.set (a1 : Int).toNat (-1)) := ⟨_, rfl⟩
             replace H : (some y232) = some r := by first | (rw [hy232]; with_reducible exact H) | (have H2_ := (Option.bind_some _ _).symm.trans H; rw [hy232]; with_reducible exact H2_) | (have H2_ := (Option.bind_some _ _).symm.trans H; with_reducible exact H2_) | with_reducible exact H | (rw [hy232]; exact H) | exact H
             have Ny232 := Aside0.mk hy232
             clear hy232
             obtain rfl := Option.some.inj H
             have p62 : 0 ≤ (a1 : Int) := D_
             have q62 : (a1 : Int) < ((x7_3.length : Int) : Int) := D_
             obtain ⟨hx62_0, hf62_0⟩ := Kd.R_celln 0 HO_7.out (a1 : Int) p62 q62
             replace p62 := eq_true p62
             replace q62 := eq_true q62
             have HP63 := Kd.R_putg HO_7.out (a1 : Int) (-1)
             go_wp2_with (first | ((with_reducible refine gate_store (t := 3) (p := 92) rfl ?_); refine store_event (t := 3) (p := 92) (v := ?vo_w64) (w1 := (wr.setCell ⟨go34, (a1 : Int).toNat, none⟩ (.int .i64 (-1)))) ?hg ?ho ?hn ?hr ?_; (case ho => rfl); (case hg => rfl); (case hn => rfl); (case hr => first | (go_simp; done) | (go_simp; rfl)); intro w64 hw; have hg : wr.grownBy w64 (some go34) := (by rw [hw]; exact HP63.2); have hp_ : Kd.R (Kd.int .i64) 3 w64 w.heap.size (fun k_ => some k_ ≠ (.slice Ao14 t213.length co14 : Value).ownBlock ∧ some k_ ≠ (v223 : Value).ownBlock) (.slice (some ⟨go34, 0, none⟩) x7_3.length co34) y232 := (by rw [hw, Ny232.out]; exact HP63.1); clear HP63; have n0_ := Aside0.mk (Kd.R_after (v := (.slice (some ⟨go34, 0, none⟩) x7_3.length co34)) (v1 := (.slice (some ⟨go34, 0, none⟩) x7_3.length co34)) (ok := (fun k_ => some k_ ≠ (v223 : Value).ownBlock)) (by (with_reducible repeat (first | apply Kd.R_alloc | apply Kd.R_drewN | apply Kd.R_drew)); exact Kd.R_mono HO_5.out (fun _ hk => by first | exact ⟨hk.2, hk.1⟩ | exact hk | exact ⟨hk.1, hk.2⟩ | simp_all)) hg (.inl rfl)); have n1_ := Aside0.mk (hp_); have n2_ := Aside0.mk (Kd.R_after (v := (.slice (some ⟨go34, 0, none⟩) x7_3.length co34)) (v1 := (.slice (some ⟨go34, 0, none⟩) x7_3.length co34)) (ok := (fun k_ => some k_ ≠ (.slice Ao14 t213.length co14 : Value).ownBlock)) (by exact RX_ HO_8.out) hg (.inl rfl)); have n3_ := Aside0.mk (blk_grown (g := gb212) (o := .cells #[.slice A0_0 l0_0.length c0_0, .slice A0_1 l0_1.length c0_1] 26 (0, 0)) (by exact KX_ BK212.out) hg (Kd.R_ne HO_7.out BK212.out (by decide))); have n4_ := Aside0.mk ((by rw [hw]; exact below_set (HB.out) GB34.out : Below w.heap.size w w64)); have n5_ := Aside0.mk ((show Kd.C (Kd.int .i64) w64 A38 y228.length y228 from by rw [Ny228.out, KA38.out]; exact Kd.C_drop (m := 1) (c := co14) ((Kd.R_reads' (Kd.R_after (v := (.slice (some ⟨go34, 0, none⟩) x7_3.length co34)) (v1 := (.slice (some ⟨go34, 0, none⟩) x7_3.length co34)) (ok := (fun k_ => some k_ ≠ (v223 : Value).ownBlock)) (by (with_reducible repeat (first | apply Kd.R_alloc | apply Kd.R_drewN | apply Kd.R_drew)); exact Kd.R_mono HO_5.out (fun _ hk => by first | exact ⟨hk.2, hk.1⟩ | exact hk | exact ⟨hk.1, hk.2⟩ | simp_all)) hg (.inl rfl))).2.2) KL38.out ((Kd.R_reads' (Kd.R_after (v := (.slice (some ⟨go34, 0, none⟩) x7_3.length co34)) (v1 := (.slice (some ⟨go34, 0, none⟩) x7_3.length co34)) (ok := (fun k_ => some k_ ≠ (v223 : Value).ownBlock)) (by (with_reducible repeat (first | apply Kd.R_alloc | apply Kd.R_drewN | apply Kd.R_drew)); exact Kd.R_mono HO_5.out (fun _ hk => by first | exact ⟨hk.2, hk.1⟩ | exact hk | exact ⟨hk.1, hk.2⟩ | simp_all)) hg (.inl rfl))).2.1))); clear HO_5; clear HO_7; clear HO_8; clear BK212; clear HB; clear HR231; have HO_5 := n0_; have HO_7 := n1_; have HO_8 := n2_; have BK212 := n3_; have HB := n4_; have HR231 := n5_; clear n0_ n1_ n2_ n3_ n4_ n5_; clear hg hw hp_))
             (try simp only [jumpg_ret, Exit.then, Exit.inBlock])
             go_ret
             exact ⟨_, by first | rfl | (simp [errW_none, errW_some] <;> rfl) | (simp [*, errW_none, errW_some] <;> rfl), by (with_reducible repeat (first | apply Kd.R_alloc | apply Kd.R_drewN | apply Kd.R_drew)); exact Kd.R_mono HO_7.out (fun _ hk => trivial), B1_⟩
            rw [if_neg c61] at H
            exact absurd H (by simp)
           rw [if_neg c60] at H
           exact absurd H (by simp)
        rw [if_neg c37] at H
        exact absurd H (by simp)
      rw [if_neg c33] at H
      exact absurd H (by simp)
     rw [if_neg c32] at H
     exact absurd H (by simp)
  rw [if_neg c11] at H
  exact absurd H (by simp)
 rw [if_neg c10] at H
 exact absurd H (by simp)


/-! ### graph_Turned: function 23 -/
def graph_Turned.f (k : Nat) (l0_0 : List (List Int)) (l0_1 : List (List Int)) : Option ((List (List Int)) × (List (List Int))) := (graph_May.f k l0_0 l0_1).bind fun t242 => (if t242 = true then ((graph_Make.f k l0_1).bind fun bt243 => (some (bt243.1, bt243.2.1))) else (some (([] : List (List Int)), ([] : List (List Int)))))
theorem graph_Turned.mono : ∀ a0 a1 k, LeO (graph_Turned.f k a0 a1) (graph_Turned.f (k + 1) a0 a1) := by
 intro a0 a1 k
 unfold graph_Turned.f
 repeat' first
  | (with_reducible exact graph_Make.mono _ _)
  | (with_reducible exact graph_May.mono _ _ _)
  | (with_reducible exact LeO.refl _)
  | (with_reducible exact LeO.none _)
  | (with_reducible refine LeO.ite ?_ ?_)
  | (with_reducible refine LeO.bind ?_ (fun _ => ?_))
  | exact graph_Make.mono _ _
  | exact graph_May.mono _ _ _
  | exact LeO.none _
  | refine LeO.ite ?_ ?_
  | refine LeO.bind ?_ (fun _ => ?_)
set_option maxHeartbeats 8000000 in
set_option maxRecDepth 100000 in
theorem graph_Turned.calls (k : Nat) (A0_0 : Option Addr) (c0_0 : Nat) (l0_0 : List (List Int)) (A0_1 : Option Addr) (c0_1 : Nat) (l0_1 : List (List Int)) (r1 : List (List Int)) (r2 : List (List Int)) (w : World) (hr0_0 : Kd.C (Kd.slice 3 (Kd.int .i64)) w A0_0 l0_0.length l0_0) (hc0_0 : l0_0.length ≤ c0_0) (hr0_1 : Kd.C (Kd.slice 3 (Kd.int .i64)) w A0_1 l0_1.length l0_1) (hc0_1 : l0_1.length ≤ c0_1) (h : graph_Turned.f k l0_0 l0_1 = some (r1, r2)) :
 Calls Try.prog 23 #[.agg #[.slice A0_0 l0_0.length c0_0, .slice A0_1 l0_1.length c0_1]] w fun e w' => ∃ v0_ v1_ : Value, e = .returned (.agg #[v0_, v1_]) ∧ Kd.S (Kd.slice 3 (Kd.int .i64)) 30 w' w.heap.size (fun k_ => some k_ ≠ (v1_ : Value).ownBlock) v0_ r1 ∧ Kd.S (Kd.slice 3 (Kd.int .i64)) 30 w' w.heap.size (fun k_ => some k_ ≠ (v0_ : Value).ownBlock) v1_ r2 ∧ Below w.heap.size w w' := by
 have hu26 := Try.underlying26
 have HR0_0 := Aside0.mk hr0_0
 have HC0_0 := Aside0.mk hc0_0
 clear hr0_0 hc0_0
 have HR0_1 := Aside0.mk hr0_1
 have HC0_1 := Aside0.mk hc0_1
 clear hr0_1 hc0_1
 have HB := Aside0.mk (Below.refl w.heap.size w)
 have H : ((graph_May.f k l0_0 l0_1).bind fun t242 => (if t242 = true then ((graph_Make.f k l0_1).bind fun bt243 => (some (bt243.1, bt243.2.1))) else (some (([] : List (List Int)), ([] : List (List Int)))))) = some (r1, r2) := h
 clear h
 replace H := Option.bind_eq_some_iff.mp H
 obtain ⟨t242, A20, H⟩ := H
 replace H : (if t242 = true then ((graph_Make.f k l0_1).bind fun bt243 => (some (bt243.1, bt243.2.1))) else (some (([] : List (List Int)), ([] : List (List Int))))) = some (r1, r2) := H
 have A2 := Aside0.mk A20
 clear A20
 by_cases c3 : t242 = true
 ·subst c3
  have H1 : ((graph_Make.f k l0_1).bind fun bt243 => (some (bt243.1, bt243.2.1))) = some (r1, r2) := by rw [if_pos rfl] at H; exact H
  clear H
  have H := H1
  clear H1
  replace H := Option.bind_eq_some_iff.mp H
  obtain ⟨⟨t243, t246, t249⟩, A40, H⟩ := H
  replace H : (some (t243, t246)) = some (r1, r2) := H
  have A4 := Aside0.mk A40
  clear A40
  simp only [Option.some.injEq, Prod.mk.injEq] at H
  obtain ⟨rfl, rfl⟩ := H
  go_enter Try.func23, Try.ntmps23
  go_wp2_with (first | ((with_reducible refine gate_dst (N := 1) rfl ?_); refine box_event ?hg (N := 1) ?hd (cs := #[.slice A0_0 l0_0.length c0_0, .slice A0_1 l0_1.length c0_1]) (t := 26) ?hr ?_; (case hd => rfl); (case hg => rfl); (case hr => first | (go_simp; done) | (go_simp; rfl)); intro gb240 hg w5 hbox hb; have n0_ := Aside0.mk (below_step (B_) hb); have n1_ := Aside0.mk (hbox); have n2_ := Aside0.mk ((by rw [hg]; exact (below_size (B_)) : w.heap.size ≤ gb240)); have n3_ := Aside0.mk ((by rw [hg]; exact (below_size (B_)) : w.heap.size ≤ gb240)); clear HB; have HB := n0_; have BK240 := n1_; have GW240 := n2_; have GE240 := n3_; clear n0_ n1_ n2_ n3_; clear hb hbox hg) | ((with_reducible refine gate_dst (N := 2) rfl ?_); refine box_event ?hg (N := 2) ?hd (cs := #[.slice none 0 0, .slice none 0 0]) (t := 26) ?hr ?_; (case hd => rfl); (case hg => rfl); (case hr => first | (go_simp; done) | (go_simp; rfl)); intro gb241 hg w6 hbox hb; have n0_ := Aside0.mk (blk_below (g := gb240) (o := .cells #[.slice A0_0 l0_0.length c0_0, .slice A0_1 l0_1.length c0_1] 26 (0, 0)) (by exact KX_ BK240.out) hb); have n1_ := Aside0.mk (below_step (B1_) hb); have n2_ := Aside0.mk (hbox); have n3_ := Aside0.mk ((by rw [hg]; exact (below_size (B1_)) : w.heap.size ≤ gb241)); have n4_ := Aside0.mk ((by rw [hg]; exact (below_size (B1_)) : w.heap.size ≤ gb241)); have n5_ := Aside0.mk ((by rw [hg]; exact Nat.ne_of_lt (blk_lt (g := gb240) (o := .cells #[.slice A0_0 l0_0.length c0_0, .slice A0_1 l0_1.length c0_1] 26 (0, 0)) (by exact KX_ BK240.out)) : gb240 ≠ gb241)); have n6_ := Aside0.mk ((by rw [hg]; exact Nat.ne_of_gt (blk_lt (g := gb240) (o := .cells #[.slice A0_0 l0_0.length c0_0, .slice A0_1 l0_1.length c0_1] 26 (0, 0)) (by exact KX_ BK240.out)) : gb241 ≠ gb240)); clear BK240; clear HB; have BK240 := n0_; have HB := n1_; have BK241 := n2_; have GW241 := n3_; have GE241 := n4_; have NB240_241 := n5_; have NB241_240 := n6_; clear n0_ n1_ n2_ n3_ n4_ n5_ n6_; clear hb hbox hg; have hnb7 := NB240_241.out; have hnc7 := NB241_240.out; have hcz8_0 : w6.cell? ⟨gb240, 0, none⟩ = some (.slice A0_0 l0_0.length c0_0) := (blk_cell BK240.out 0).trans rfl; have hcz8_1 : w6.cell? ⟨gb240, 1, none⟩ = some (.slice A0_1 l0_1.length c0_1) := (blk_cell BK240.out 1).trans rfl; have hfz8_0 := blk_frozen BK240.out 0; have hfz8_1 := blk_frozen BK240.out 1) | ((with_reducible refine gate_callee (f := 24) rfl ?_); refine goesL_ (some 6) rfl rfl Try.func24 (by kernel_rfl) rfl #[.agg #[.slice A0_0 l0_0.length c0_0, .slice A0_1 l0_1.length c0_1]] rfl (by (try simp only [List.map_toArray, List.map_cons, List.map_nil]); first | done | rfl | (simp only [List.length_drop, List.length_take]; rfl)) ?_; (with_reducible refine (graph_May.calls k _ _ l0_0 _ _ l0_1 true _ ?side1 ?side2 ?side3 ?side4 A2.out).mono ?_); (case side1 => exact CX_ (Kd.C_below HR0_0.out HB.out)); (case side2 => exact HC0_0.out); (case side3 => exact CX_ (Kd.C_below HR0_1.out HB.out)); (case side4 => exact HC0_1.out); rintro e w9 ⟨rfl, hb⟩; refine ⟨_, rfl, ?_⟩; have n0_ := Aside0.mk (blk_below (g := gb240) (o := .cells #[.slice A0_0 l0_0.length c0_0, .slice A0_1 l0_1.length c0_1] 26 (0, 0)) (by exact KX_ BK240.out) hb); have n1_ := Aside0.mk (blk_below (g := gb241) (o := .cells #[.slice none 0 0, .slice none 0 0] 26 (0, 0)) (by exact KX_ BK241.out) hb); have n2_ := Aside0.mk (below_step (B1_) hb); clear BK240; clear BK241; clear HB; have BK240 := n0_; have BK241 := n1_; have HB := n2_; clear n0_ n1_ n2_; (try clear hb); (try clear hb2); (try clear hk); (try clear hi); have hcz10_0 : w9.cell? ⟨gb240, 0, none⟩ = some (.slice A0_0 l0_0.length c0_0) := (blk_cell BK240.out 0).trans rfl; have hcz10_1 : w9.cell? ⟨gb240, 1, none⟩ = some (.slice A0_1 l0_1.length c0_1) := (blk_cell BK240.out 1).trans rfl; have hfz10_0 := blk_frozen BK240.out 0; have hfz10_1 := blk_frozen BK240.out 1) | ((with_reducible refine gate_callee (f := 9) rfl ?_); refine goesL_ (some 12) rfl rfl Try.func9 (by kernel_rfl) rfl #[.slice A0_1 l0_1.length c0_1] rfl (by (try simp only [List.map_toArray, List.map_cons, List.map_nil]); first | done | rfl | (simp only [List.length_drop, List.length_take]; rfl)) ?_; (with_reducible refine (graph_Make.calls k _ _ l0_1 t243 t246 t249 _ ?side1 ?side2 A4.out).mono ?_); (case side1 => exact CX_ (Kd.C_below HR0_1.out HB.out)); (case side2 => exact HC0_1.out); rintro e w11 ⟨v244, v247, rfl, ho0, ho1, hb⟩; refine ⟨_, rfl, ?_⟩; have n0_ := Aside0.mk (Kd.S_lower ho0 (below_size (B1_))); have n1_ := Aside0.mk (Kd.S_lower ho1 (below_size (B1_))); have n2_ := Aside0.mk (blk_below (g := gb240) (o := .cells #[.slice A0_0 l0_0.length c0_0, .slice A0_1 l0_1.length c0_1] 26 (0, 0)) (by exact KX_ BK240.out) hb); have n3_ := Aside0.mk (blk_below (g := gb241) (o := .cells #[.slice none 0 0, .slice none 0 0] 26 (0, 0)) (by exact KX_ BK241.out) hb); have n4_ := Aside0.mk (below_step (B1_) hb); clear BK240; clear BK241; clear HB; have HO245 := n0_; have HO248 := n1_; have BK240 := n2_; have BK241 := n3_; have HB := n4_; clear n0_ n1_ n2_ n3_ n4_; (try clear hb); (try clear hb2); (try clear hk); (try clear hi); (try clear ho0); (try clear ho1)) | ((with_reducible refine gate_dst (N := 3) rfl ?_); refine box_event ?hg (N := 3) ?hd (cs := #[.slice none 0 0, .slice none 0 0]) (t := 26) ?hr ?_; (case hd => rfl); (case hg => rfl); (case hr => first | (go_simp; done) | (go_simp; rfl)); intro gb250 hg w12 hbox hb; have n0_ := Aside0.mk (Kd.S_below (by exact SX_ HO245.out) hb); have n1_ := Aside0.mk (Kd.S_below (by exact SX_ HO248.out) hb); have n2_ := Aside0.mk (blk_below (g := gb240) (o := .cells #[.slice A0_0 l0_0.length c0_0, .slice A0_1 l0_1.length c0_1] 26 (0, 0)) (by exact KX_ BK240.out) hb); have n3_ := Aside0.mk (blk_below (g := gb241) (o := .cells #[.slice none 0 0, .slice none 0 0] 26 (0, 0)) (by exact KX_ BK241.out) hb); have n4_ := Aside0.mk (below_step (B1_) hb); have n5_ := Aside0.mk (hbox); have n6_ := Aside0.mk ((by rw [hg]; exact (below_size (B1_)) : w.heap.size ≤ gb250)); have n7_ := Aside0.mk ((by rw [hg]; exact (below_size (B1_)) : w.heap.size ≤ gb250)); have n8_ := Aside0.mk ((by rw [hg]; exact Nat.ne_of_lt (blk_lt (g := gb240) (o := .cells #[.slice A0_0 l0_0.length c0_0, .slice A0_1 l0_1.length c0_1] 26 (0, 0)) (by exact KX_ BK240.out)) : gb240 ≠ gb250)); have n9_ := Aside0.mk ((by rw [hg]; exact Nat.ne_of_gt (blk_lt (g := gb240) (o := .cells #[.slice A0_0 l0_0.length c0_0, .slice A0_1 l0_1.length c0_1] 26 (0, 0)) (by exact KX_ BK240.out)) : gb250 ≠ gb240)); have n10_ := Aside0.mk ((by rw [hg]; exact Nat.ne_of_lt (blk_lt (g := gb241) (o := .cells #[.slice none 0 0, .slice none 0 0] 26 (0, 0)) (by exact KX_ BK241.out)) : gb241 ≠ gb250)); have n11_ := Aside0.mk ((by rw [hg]; exact Nat.ne_of_gt (blk_lt (g := gb241) (o := .cells #[.slice none 0 0, .slice none 0 0] 26 (0, 0)) (by exact KX_ BK241.out)) : gb250 ≠ gb241)); clear HO245; clear HO248; clear BK240; clear BK241; clear HB; have HO245 := n0_; have HO248 := n1_; have BK240 := n2_; have BK241 := n3_; have HB := n4_; have BK250 := n5_; have GW250 := n6_; have GE250 := n7_; have NB240_250 := n8_; have NB250_240 := n9_; have NB241_250 := n10_; have NB250_241 := n11_; clear n0_ n1_ n2_ n3_ n4_ n5_ n6_ n7_ n8_ n9_ n10_ n11_; clear hb hbox hg; obtain ⟨Ao13, co13, eo13⟩ := Kd.S_slice HO245.out; subst eo13; have hnb14 := NB250_240.out; have hnc14 := NB240_250.out; have hnb15 := NB250_241.out; have hnc15 := NB241_250.out; have hcz16_0 : w12.cell? ⟨gb250, 0, none⟩ = some (.slice none 0 0) := (blk_cell BK250.out 0).trans rfl; have hcz16_1 : w12.cell? ⟨gb250, 1, none⟩ = some (.slice none 0 0) := (blk_cell BK250.out 1).trans rfl; have hfz16_0 := blk_frozen BK250.out 0; have hfz16_1 := blk_frozen BK250.out 1; obtain ⟨Ao17, co17, eo17⟩ := Kd.S_slice HO248.out; subst eo17; have hcz18_0 : w12.cell? ⟨gb241, 0, none⟩ = some (.slice none 0 0) := (blk_cell BK241.out 0).trans rfl; have hcz18_1 : w12.cell? ⟨gb241, 1, none⟩ = some (.slice none 0 0) := (blk_cell BK241.out 1).trans rfl; have hfz18_0 := blk_frozen BK241.out 0; have hfz18_1 := blk_frozen BK241.out 1))
  refine bodyPost_ret (results_cell_row rfl _ _ gb241 26 #[.slice Ao13 t243.length co13, .slice Ao17 t246.length co17] (0, 0) _ rfl (by (with_reducible repeat (first | refine blk_drewN ?_ _ | refine blk_drew ?_ | refine blk_alloc ?_ _)); refine blk_put (cs := #[.slice Ao13 t243.length co13, .slice none 0 0]) ?_ 1 _ rfl; (with_reducible repeat (first | refine blk_drewN ?_ _ | refine blk_drew ?_ | refine blk_alloc ?_ _)); refine blk_put (cs := #[.slice none 0 0, .slice none 0 0]) ?_ 0 _ rfl; (with_reducible repeat (first | refine blk_drewN ?_ _ | refine blk_drew ?_ | refine blk_alloc ?_ _)); refine blk_far ?_ NB241_250.out _; (with_reducible repeat (first | refine blk_drewN ?_ _ | refine blk_drew ?_ | refine blk_alloc ?_ _)); refine blk_far ?_ NB241_250.out _; exact KX_ BK241.out) Try.underlying26 rfl (by kernel_rfl)) rfl ?_
  exact ⟨_, _, by first | rfl | (simp [errW_none, errW_some] <;> rfl) | (simp [*, errW_none, errW_some] <;> rfl), by (with_reducible repeat (first | apply Kd.S_alloc | apply Kd.S_drewN | apply Kd.S_drew)); exact Kd.S_mono (Kd.S_far (p := ⟨gb241, 1, none⟩) (Kd.S_far (p := ⟨gb241, 0, none⟩) (Kd.S_far (p := ⟨gb250, 1, none⟩) (Kd.S_far (p := ⟨gb250, 0, none⟩) (Kd.S_types (Kd.S_types HO245.out BK250.out (by decide)) BK241.out (by decide)) (fun _ hk => hk.1.2) (.slice Ao13 t243.length co13)) (fun _ hk => hk.1.2) (.slice Ao17 t246.length co17)) (fun _ hk => hk.2) (.slice Ao13 t243.length co13)) (fun _ hk => hk.2) (.slice Ao17 t246.length co17)) (fun _ hk => hk.1.1), by (with_reducible repeat (first | apply Kd.S_alloc | apply Kd.S_drewN | apply Kd.S_drew)); exact Kd.S_mono (Kd.S_far (p := ⟨gb241, 1, none⟩) (Kd.S_far (p := ⟨gb241, 0, none⟩) (Kd.S_far (p := ⟨gb250, 1, none⟩) (Kd.S_far (p := ⟨gb250, 0, none⟩) (Kd.S_types (Kd.S_types HO248.out BK250.out (by decide)) BK241.out (by decide)) (fun _ hk => hk.1.2) (.slice Ao13 t243.length co13)) (fun _ hk => hk.1.2) (.slice Ao17 t246.length co17)) (fun _ hk => hk.2) (.slice Ao13 t243.length co13)) (fun _ hk => hk.2) (.slice Ao17 t246.length co17)) (fun _ hk => hk.1.1), B1_⟩
 replace c3 := Bool.eq_false_iff.mpr c3
 subst c3
 have H1 : (some (([] : List (List Int)), ([] : List (List Int)))) = some (r1, r2) := by rw [if_neg (show ¬ (false = true) by decide)] at H; exact H
 clear H
 have H := H1
 clear H1
 simp only [Option.some.injEq, Prod.mk.injEq] at H
 obtain ⟨rfl, rfl⟩ := H
 go_enter Try.func23, Try.ntmps23
 go_wp2_with (first | ((with_reducible refine gate_dst (N := 1) rfl ?_); refine box_event ?hg (N := 1) ?hd (cs := #[.slice A0_0 l0_0.length c0_0, .slice A0_1 l0_1.length c0_1]) (t := 26) ?hr ?_; (case hd => rfl); (case hg => rfl); (case hr => first | (go_simp; done) | (go_simp; rfl)); intro gb240 hg w19 hbox hb; have n0_ := Aside0.mk (below_step (B_) hb); have n1_ := Aside0.mk (hbox); have n2_ := Aside0.mk ((by rw [hg]; exact (below_size (B_)) : w.heap.size ≤ gb240)); have n3_ := Aside0.mk ((by rw [hg]; exact (below_size (B_)) : w.heap.size ≤ gb240)); clear HB; have HB := n0_; have BK240 := n1_; have GW240 := n2_; have GE240 := n3_; clear n0_ n1_ n2_ n3_; clear hb hbox hg) | ((with_reducible refine gate_dst (N := 2) rfl ?_); refine box_event ?hg (N := 2) ?hd (cs := #[.slice none 0 0, .slice none 0 0]) (t := 26) ?hr ?_; (case hd => rfl); (case hg => rfl); (case hr => first | (go_simp; done) | (go_simp; rfl)); intro gb241 hg w20 hbox hb; have n0_ := Aside0.mk (blk_below (g := gb240) (o := .cells #[.slice A0_0 l0_0.length c0_0, .slice A0_1 l0_1.length c0_1] 26 (0, 0)) (by exact KX_ BK240.out) hb); have n1_ := Aside0.mk (below_step (B1_) hb); have n2_ := Aside0.mk (hbox); have n3_ := Aside0.mk ((by rw [hg]; exact (below_size (B1_)) : w.heap.size ≤ gb241)); have n4_ := Aside0.mk ((by rw [hg]; exact (below_size (B1_)) : w.heap.size ≤ gb241)); have n5_ := Aside0.mk ((by rw [hg]; exact Nat.ne_of_lt (blk_lt (g := gb240) (o := .cells #[.slice A0_0 l0_0.length c0_0, .slice A0_1 l0_1.length c0_1] 26 (0, 0)) (by exact KX_ BK240.out)) : gb240 ≠ gb241)); have n6_ := Aside0.mk ((by rw [hg]; exact Nat.ne_of_gt (blk_lt (g := gb240) (o := .cells #[.slice A0_0 l0_0.length c0_0, .slice A0_1 l0_1.length c0_1] 26 (0, 0)) (by exact KX_ BK240.out)) : gb241 ≠ gb240)); clear BK240; clear HB; have BK240 := n0_; have HB := n1_; have BK241 := n2_; have GW241 := n3_; have GE241 := n4_; have NB240_241 := n5_; have NB241_240 := n6_; clear n0_ n1_ n2_ n3_ n4_ n5_ n6_; clear hb hbox hg; have hnb21 := NB240_241.out; have hnc21 := NB241_240.out; have hcz22_0 : w20.cell? ⟨gb240, 0, none⟩ = some (.slice A0_0 l0_0.length c0_0) := (blk_cell BK240.out 0).trans rfl; have hcz22_1 : w20.cell? ⟨gb240, 1, none⟩ = some (.slice A0_1 l0_1.length c0_1) := (blk_cell BK240.out 1).trans rfl; have hfz22_0 := blk_frozen BK240.out 0; have hfz22_1 := blk_frozen BK240.out 1) | ((with_reducible refine gate_callee (f := 24) rfl ?_); refine goesL_ (some 6) rfl rfl Try.func24 (by kernel_rfl) rfl #[.agg #[.slice A0_0 l0_0.length c0_0, .slice A0_1 l0_1.length c0_1]] rfl (by (try simp only [List.map_toArray, List.map_cons, List.map_nil]); first | done | rfl | (simp only [List.length_drop, List.length_take]; rfl)) ?_; (with_reducible refine (graph_May.calls k _ _ l0_0 _ _ l0_1 false _ ?side1 ?side2 ?side3 ?side4 A2.out).mono ?_); (case side1 => exact CX_ (Kd.C_below HR0_0.out HB.out)); (case side2 => exact HC0_0.out); (case side3 => exact CX_ (Kd.C_below HR0_1.out HB.out)); (case side4 => exact HC0_1.out); rintro e w23 ⟨rfl, hb⟩; refine ⟨_, rfl, ?_⟩; have n0_ := Aside0.mk (blk_below (g := gb240) (o := .cells #[.slice A0_0 l0_0.length c0_0, .slice A0_1 l0_1.length c0_1] 26 (0, 0)) (by exact KX_ BK240.out) hb); have n1_ := Aside0.mk (blk_below (g := gb241) (o := .cells #[.slice none 0 0, .slice none 0 0] 26 (0, 0)) (by exact KX_ BK241.out) hb); have n2_ := Aside0.mk (below_step (B1_) hb); clear BK240; clear BK241; clear HB; have BK240 := n0_; have BK241 := n1_; have HB := n2_; clear n0_ n1_ n2_; (try clear hb); (try clear hb2); (try clear hk); (try clear hi); have hcz24_0 : w23.cell? ⟨gb241, 0, none⟩ = some (.slice none 0 0) := (blk_cell BK241.out 0).trans rfl; have hcz24_1 : w23.cell? ⟨gb241, 1, none⟩ = some (.slice none 0 0) := (blk_cell BK241.out 1).trans rfl; have hfz24_0 := blk_frozen BK241.out 0; have hfz24_1 := blk_frozen BK241.out 1))
 refine bodyPost_ret (results_cell_row rfl _ _ gb241 26 #[.slice none 0 0, .slice none 0 0] (0, 0) _ rfl (by (with_reducible repeat (first | refine blk_drewN ?_ _ | refine blk_drew ?_ | refine blk_alloc ?_ _)); refine blk_put (cs := #[.slice none 0 0, .slice none 0 0]) ?_ 1 _ rfl; (with_reducible repeat (first | refine blk_drewN ?_ _ | refine blk_drew ?_ | refine blk_alloc ?_ _)); refine blk_put (cs := #[.slice none 0 0, .slice none 0 0]) ?_ 0 _ rfl; exact KX_ BK241.out) Try.underlying26 rfl (by kernel_rfl)) rfl ?_
 exact ⟨_, _, by first | rfl | (simp [errW_none, errW_some] <;> rfl) | (simp [*, errW_none, errW_some] <;> rfl), by first | exact Kd.S_nil _ _ _ _ _ | exact Kd.N_nil _ _ _ _ _ | exact Kd.V_nil _ _ _ _ _ | exact Kd.Q_nil _ _ _ _ _ | exact Kd.R_nil _ _ _ _ _, by first | exact Kd.S_nil _ _ _ _ _ | exact Kd.N_nil _ _ _ _ _ | exact Kd.V_nil _ _ _ _ _ | exact Kd.Q_nil _ _ _ _ _ | exact Kd.R_nil _ _ _ _ _, B1_⟩


/-! ### pdom_Tree: function 10 -/
def pdom_Tree.f (k : Nat) (l0_0 : List (List Int)) (l0_1 : List (List Int)) : Option (List Int) := (pdom_Exit.f k l0_0 l0_1).bind fun bt252 => (if bt252.2.2 = 0 then ((graph_Turned.f k bt252.1 bt252.2.1).bind fun bt260 => ((dom_Tree.f k bt260.1 bt260.2 (l0_0.length : Int)).bind fun t266 => (some t266))) else (some ([] : List Int)))
theorem pdom_Tree.mono : ∀ a0 a1 k, LeO (pdom_Tree.f k a0 a1) (pdom_Tree.f (k + 1) a0 a1) := by
 intro a0 a1 k
 unfold pdom_Tree.f
 repeat' first
  | (with_reducible exact dom_Tree.mono _ _ _ _)
  | (with_reducible exact graph_Turned.mono _ _ _)
  | (with_reducible exact pdom_Exit.mono _ _ _)
  | (with_reducible exact LeO.refl _)
  | (with_reducible exact LeO.none _)
  | (with_reducible refine LeO.ite ?_ ?_)
  | (with_reducible refine LeO.bind ?_ (fun _ => ?_))
  | exact dom_Tree.mono _ _ _ _
  | exact graph_Turned.mono _ _ _
  | exact pdom_Exit.mono _ _ _
  | exact LeO.none _
  | refine LeO.ite ?_ ?_
  | refine LeO.bind ?_ (fun _ => ?_)
set_option maxHeartbeats 8000000 in
set_option maxRecDepth 100000 in
theorem pdom_Tree.calls (k : Nat) (A0_0 : Option Addr) (c0_0 : Nat) (l0_0 : List (List Int)) (A0_1 : Option Addr) (c0_1 : Nat) (l0_1 : List (List Int)) (r : List Int) (w : World) (hr0_0 : Kd.C (Kd.slice 3 (Kd.int .i64)) w A0_0 l0_0.length l0_0) (hc0_0 : l0_0.length ≤ c0_0) (hr0_1 : Kd.C (Kd.slice 3 (Kd.int .i64)) w A0_1 l0_1.length l0_1) (hc0_1 : l0_1.length ≤ c0_1) (h : pdom_Tree.f k l0_0 l0_1 = some r) :
 Calls Try.prog 10 #[.agg #[.slice A0_0 l0_0.length c0_0, .slice A0_1 l0_1.length c0_1]] w fun e w' => ∃ v0_ : Value, e = .returned (v0_) ∧ Kd.R (Kd.int .i64) 3 w' w.heap.size (fun _ => True) v0_ r ∧ Below w.heap.size w w' := by
 have hu26 := Try.underlying26
 have HR0_0 := Aside0.mk hr0_0
 have HC0_0 := Aside0.mk hc0_0
 clear hr0_0 hc0_0
 have HR0_1 := Aside0.mk hr0_1
 have HC0_1 := Aside0.mk hc0_1
 clear hr0_1 hc0_1
 have HB := Aside0.mk (Below.refl w.heap.size w)
 have H : ((pdom_Exit.f k l0_0 l0_1).bind fun bt252 => (if bt252.2.2 = 0 then ((graph_Turned.f k bt252.1 bt252.2.1).bind fun bt260 => ((dom_Tree.f k bt260.1 bt260.2 (l0_0.length : Int)).bind fun t266 => (some t266))) else (some ([] : List Int)))) = some r := h
 clear h
 replace H := Option.bind_eq_some_iff.mp H
 obtain ⟨⟨t252, t255, t258⟩, A20, H⟩ := H
 replace H : (if t258 = 0 then ((graph_Turned.f k t252 t255).bind fun bt260 => ((dom_Tree.f k bt260.1 bt260.2 (l0_0.length : Int)).bind fun t266 => (some t266))) else (some ([] : List Int))) = some r := H
 have A2 := Aside0.mk A20
 clear A20
 by_cases c3 : t258 = 0
 ·rw [if_pos c3] at H
  have c3b0 : (t258 == 0) = true := beq_iff_eq.mpr c3
  have c3b1 : (t258 != 0) = false := bne_eq_false_iff_eq.mpr c3
  clear c3
  replace H := Option.bind_eq_some_iff.mp H
  obtain ⟨⟨t260, t263⟩, A40, H⟩ := H
  replace H : ((dom_Tree.f k t260 t263 (l0_0.length : Int)).bind fun t266 => (some t266)) = some r := H
  have A4 := Aside0.mk A40
  clear A40
  replace H := Option.bind_eq_some_iff.mp H
  obtain ⟨t266, A50, H⟩ := H
  replace H : (some t266) = some r := H
  have A5 := Aside0.mk A50
  clear A50
  obtain rfl := Option.some.inj H
  go_enter Try.func10, Try.ntmps10
  try go_wp2_with (first | ((with_reducible refine gate_dst (N := 1) rfl ?_); refine box_event ?hg (N := 1) ?hd (cs := #[.slice A0_0 l0_0.length c0_0, .slice A0_1 l0_1.length c0_1]) (t := 26) ?hr ?_; (case hd => rfl); (case hg => rfl); (case hr => first | (go_simp; done) | (go_simp; rfl)); intro gb251 hg w6 hbox hb; have n0_ := Aside0.mk (below_step (B_) hb); have n1_ := Aside0.mk (hbox); have n2_ := Aside0.mk ((by rw [hg]; exact (below_size (B_)) : w.heap.size ≤ gb251)); have n3_ := Aside0.mk ((by rw [hg]; exact (below_size (B_)) : w.heap.size ≤ gb251)); clear HB; have HB := n0_; have BK251 := n1_; have GW251 := n2_; have GE251 := n3_; clear n0_ n1_ n2_ n3_; clear hb hbox hg; have hcz7_0 : w6.cell? ⟨gb251, 0, none⟩ = some (.slice A0_0 l0_0.length c0_0) := (blk_cell BK251.out 0).trans rfl; have hcz7_1 : w6.cell? ⟨gb251, 1, none⟩ = some (.slice A0_1 l0_1.length c0_1) := (blk_cell BK251.out 1).trans rfl; have hfz7_0 := blk_frozen BK251.out 0; have hfz7_1 := blk_frozen BK251.out 1) | ((with_reducible refine gate_callee (f := 11) rfl ?_); refine goesL_ (some 7) rfl rfl Try.func11 (by kernel_rfl) rfl #[.agg #[.slice A0_0 l0_0.length c0_0, .slice A0_1 l0_1.length c0_1]] rfl (by (try simp only [List.map_toArray, List.map_cons, List.map_nil]); first | done | rfl | (simp only [List.length_drop, List.length_take]; rfl)) ?_; (with_reducible refine (pdom_Exit.calls k _ _ l0_0 _ _ l0_1 t252 t255 t258 _ ?side1 ?side2 ?side3 ?side4 A2.out).mono ?_); (case side1 => exact CX_ (Kd.C_below HR0_0.out HB.out)); (case side2 => exact HC0_0.out); (case side3 => exact CX_ (Kd.C_below HR0_1.out HB.out)); (case side4 => exact HC0_1.out); rintro e w8 ⟨v253, v256, rfl, ho0, ho1, hb⟩; refine ⟨_, rfl, ?_⟩; have n0_ := Aside0.mk (Kd.S_lower ho0 (below_size (B1_))); have n1_ := Aside0.mk (Kd.S_lower ho1 (below_size (B1_))); have n2_ := Aside0.mk (blk_below (g := gb251) (o := .cells #[.slice A0_0 l0_0.length c0_0, .slice A0_1 l0_1.length c0_1] 26 (0, 0)) (by exact KX_ BK251.out) hb); have n3_ := Aside0.mk (below_step (B1_) hb); clear BK251; clear HB; have HO254 := n0_; have HO257 := n1_; have BK251 := n2_; have HB := n3_; clear n0_ n1_ n2_ n3_; (try clear hb); (try clear hb2); (try clear hk); (try clear hi); (try clear ho0); (try clear ho1)) | ((with_reducible refine gate_dst (N := 3) rfl ?_); refine box_event ?hg (N := 3) ?hd (cs := #[.slice none 0 0, .slice none 0 0]) (t := 26) ?hr ?_; (case hd => rfl); (case hg => rfl); (case hr => first | (go_simp; done) | (go_simp; rfl)); intro gb259 hg w9 hbox hb; have n0_ := Aside0.mk (Kd.S_below (by exact SX_ HO254.out) hb); have n1_ := Aside0.mk (Kd.S_below (by exact SX_ HO257.out) hb); have n2_ := Aside0.mk (blk_below (g := gb251) (o := .cells #[.slice A0_0 l0_0.length c0_0, .slice A0_1 l0_1.length c0_1] 26 (0, 0)) (by exact KX_ BK251.out) hb); have n3_ := Aside0.mk (below_step (B1_) hb); have n4_ := Aside0.mk (hbox); have n5_ := Aside0.mk ((by rw [hg]; exact (below_size (B1_)) : w.heap.size ≤ gb259)); have n6_ := Aside0.mk ((by rw [hg]; exact (below_size (B1_)) : w.heap.size ≤ gb259)); have n7_ := Aside0.mk ((by rw [hg]; exact Nat.ne_of_lt (blk_lt (g := gb251) (o := .cells #[.slice A0_0 l0_0.length c0_0, .slice A0_1 l0_1.length c0_1] 26 (0, 0)) (by exact KX_ BK251.out)) : gb251 ≠ gb259)); have n8_ := Aside0.mk ((by rw [hg]; exact Nat.ne_of_gt (blk_lt (g := gb251) (o := .cells #[.slice A0_0 l0_0.length c0_0, .slice A0_1 l0_1.length c0_1] 26 (0, 0)) (by exact KX_ BK251.out)) : gb259 ≠ gb251)); clear HO254; clear HO257; clear BK251; clear HB; have HO254 := n0_; have HO257 := n1_; have BK251 := n2_; have HB := n3_; have BK259 := n4_; have GW259 := n5_; have GE259 := n6_; have NB251_259 := n7_; have NB259_251 := n8_; clear n0_ n1_ n2_ n3_ n4_ n5_ n6_ n7_ n8_; clear hb hbox hg; obtain ⟨Ao10, co10, eo10⟩ := Kd.S_slice HO254.out; subst eo10; have hnb11 := NB259_251.out; have hnc11 := NB251_259.out; have hcz12_0 : w9.cell? ⟨gb259, 0, none⟩ = some (.slice none 0 0) := (blk_cell BK259.out 0).trans rfl; have hcz12_1 : w9.cell? ⟨gb259, 1, none⟩ = some (.slice none 0 0) := (blk_cell BK259.out 1).trans rfl; have hfz12_0 := blk_frozen BK259.out 0; have hfz12_1 := blk_frozen BK259.out 1; obtain ⟨Ao13, co13, eo13⟩ := Kd.S_slice HO257.out; subst eo13))
  have n0_ : Aside0 (Kd.S (Kd.slice 3 (Kd.int .i64)) 30 ((w9.setCell ⟨gb259, 0, none⟩ (.slice Ao10 t252.length co10)).setCell ⟨gb259, 1, none⟩ (.slice Ao13 t255.length co13)) w.heap.size (fun k_ => some k_ ≠ (.slice Ao13 t255.length co13 : Value).ownBlock) (.slice Ao10 t252.length co10) t252) := ⟨by (with_reducible repeat (first | apply Kd.S_alloc | apply Kd.S_drewN | apply Kd.S_drew)); exact Kd.S_mono (Kd.S_far (p := ⟨gb259, 1, none⟩) (Kd.S_far (p := ⟨gb259, 0, none⟩) (Kd.S_types HO254.out BK259.out (by decide)) (fun _ hk => hk.2) (.slice Ao10 t252.length co10)) (fun _ hk => hk.2) (.slice Ao13 t255.length co13)) (fun _ hk => hk.1)⟩
  have n1_ : Aside0 (Kd.S (Kd.slice 3 (Kd.int .i64)) 30 ((w9.setCell ⟨gb259, 0, none⟩ (.slice Ao10 t252.length co10)).setCell ⟨gb259, 1, none⟩ (.slice Ao13 t255.length co13)) w.heap.size (fun k_ => some k_ ≠ (.slice Ao10 t252.length co10 : Value).ownBlock) (.slice Ao13 t255.length co13) t255) := ⟨by (with_reducible repeat (first | apply Kd.S_alloc | apply Kd.S_drewN | apply Kd.S_drew)); exact Kd.S_mono (Kd.S_far (p := ⟨gb259, 1, none⟩) (Kd.S_far (p := ⟨gb259, 0, none⟩) (Kd.S_types HO257.out BK259.out (by decide)) (fun _ hk => hk.2) (.slice Ao10 t252.length co10)) (fun _ hk => hk.2) (.slice Ao13 t255.length co13)) (fun _ hk => hk.1)⟩
  have n2_ : Aside0 (((w9.setCell ⟨gb259, 0, none⟩ (.slice Ao10 t252.length co10)).setCell ⟨gb259, 1, none⟩ (.slice Ao13 t255.length co13)).heap[gb251]? = some (.cells #[.slice A0_0 l0_0.length c0_0, .slice A0_1 l0_1.length c0_1] 26 (0, 0))) := ⟨by (with_reducible repeat (first | refine blk_drewN ?_ _ | refine blk_drew ?_ | refine blk_alloc ?_ _)); refine blk_far ?_ NB251_259.out _; (with_reducible repeat (first | refine blk_drewN ?_ _ | refine blk_drew ?_ | refine blk_alloc ?_ _)); refine blk_far ?_ NB251_259.out _; exact KX_ BK251.out⟩
  have n3_ : Aside0 (((w9.setCell ⟨gb259, 0, none⟩ (.slice Ao10 t252.length co10)).setCell ⟨gb259, 1, none⟩ (.slice Ao13 t255.length co13)).heap[gb259]? = some (.cells #[.slice Ao10 t252.length co10, .slice Ao13 t255.length co13] 26 (0, 0))) := ⟨by (with_reducible repeat (first | refine blk_drewN ?_ _ | refine blk_drew ?_ | refine blk_alloc ?_ _)); refine blk_put (cs := #[.slice Ao10 t252.length co10, .slice none 0 0]) ?_ 1 _ rfl; (with_reducible repeat (first | refine blk_drewN ?_ _ | refine blk_drew ?_ | refine blk_alloc ?_ _)); refine blk_put (cs := #[.slice none 0 0, .slice none 0 0]) ?_ 0 _ rfl; exact KX_ BK259.out⟩
  have n4_ : Aside0 (Below w.heap.size w ((w9.setCell ⟨gb259, 0, none⟩ (.slice Ao10 t252.length co10)).setCell ⟨gb259, 1, none⟩ (.slice Ao13 t255.length co13))) := ⟨B1_⟩
  (try clear HO254)
  (try clear HO257)
  (try clear BK251)
  (try clear BK259)
  (try clear HB)
  generalize ((w9.setCell ⟨gb259, 0, none⟩ (.slice Ao10 t252.length co10)).setCell ⟨gb259, 1, none⟩ (.slice Ao13 t255.length co13)) = w14 at n0_ n1_ n2_ n3_ n4_ ⊢
  have HO254 := n0_
  have HO257 := n1_
  have BK251 := n2_
  have BK259 := n3_
  have HB := n4_
  clear n0_ n1_ n2_ n3_ n4_
  have n0_ := Aside0.mk (Kd.S_drew HO254.out)
  have n1_ := Aside0.mk (Kd.S_drew HO257.out)
  have n2_ := Aside0.mk (blk_drew BK251.out)
  have n3_ := Aside0.mk (blk_drew BK259.out)
  have n4_ := Aside0.mk (below_drew1 HB.out)
  clear HO254
  clear HO257
  clear BK251
  clear BK259
  clear HB
  have HO254 := n0_
  have HO257 := n1_
  have BK251 := n2_
  have BK259 := n3_
  have HB := n4_
  clear n0_ n1_ n2_ n3_ n4_
  refine start_ (n := 7) (S := fun w' => w'.cell? ⟨gb259, 0, none⟩ = some (.slice Ao10 t252.length co10) ∧ w'.cell? ⟨gb259, 1, none⟩ = some (.slice Ao13 t255.length co13) ∧ w'.cell? ⟨gb251, 0, none⟩ = some (.slice A0_0 l0_0.length c0_0) ∧ w'.cell? ⟨gb251, 1, none⟩ = some (.slice A0_1 l0_1.length c0_1)) (ds := []) #[false, false, false, false, false, false, false] (by kernel_rfl) rfl rfl ⟨(blk_cell BK259.out 0).trans rfl, (blk_cell BK259.out 1).trans rfl, (blk_cell BK251.out 0).trans rfl, (blk_cell BK251.out 1).trans rfl⟩ (fun hHeld => ?_)
  generalize w14.drew = w15 at HO254 HO257 BK251 BK259 HB hHeld ⊢
  refine pure_ (i := 2) (N := some 14) (v := ?_) (a' := ?_) #[false, false, true, false, false, false, false] rfl rfl (by kernel_rfl) (fun _ _ _ h => h) (Or.inl ⟨by rfl, ?_⟩) ?_ ?_
  rotate_left
  ·intro w'
   go_simp
   with_reducible rfl
  rotate_left
  ·exact P_
  refine take_ (i := 0) (N := some 12) (v := ?_) (a' := ?_) #[true, false, true, false, false, false, false] rfl rfl (by kernel_rfl) (fun _ _ _ h => h) (Or.inl ⟨by rfl, ?_⟩) hHeld ?_ ?_
  rotate_left
  ·rintro w' ⟨s0, s1, s2, s3⟩
   go_simp
   with_reducible rfl
  rotate_left
  ·exact P_
  refine take_ (i := 3) (N := some 15) (v := ?_) (a' := ?_) #[true, false, true, true, false, false, false] rfl rfl (by kernel_rfl) (fun _ _ _ h => h) (Or.inl ⟨by rfl, ?_⟩) hHeld ?_ ?_
  rotate_left
  ·rintro w' ⟨s0, s1, s2, s3⟩
   go_simp
   with_reducible rfl
  rotate_left
  ·exact P_
  refine pure_ (i := 4) (N := some 16) (v := ?_) (a' := ?_) #[true, false, true, true, true, false, false] rfl rfl (by kernel_rfl) (fun _ _ _ h => h) (Or.inl ⟨by rfl, ?_⟩) ?_ ?_
  rotate_left
  ·intro w'
   go_simp
   with_reducible rfl
  rotate_left
  ·exact P_
  refine one_ (i := 1) (N := some 13) #[true, true, true, true, true, false, false] rfl rfl (by kernel_rfl) (by decide) (fun K hK => ?_)
  refine goes_ Try.func23 (by kernel_rfl) rfl #[.agg #[.slice Ao10 t252.length co10, .slice Ao13 t255.length co13]] (by rfl) rfl rfl (by (try simp only [List.map_toArray, List.map_cons, List.map_nil]); first | done | rfl | (simp only [List.length_drop, List.length_take]; rfl)) ?_
  with_reducible refine (graph_Turned.calls k _ _ t252 _ _ t255 t260 t263 _ ?side1 ?side2 ?side3 ?side4 A4.out).mono ?_
  (case side1 => repeat (first | exact (Kd.S_reads' HO254.out).2.2 | (with_reducible refine Kd.C_alloc ?_ _) | (with_reducible refine Kd.C_drewN ?_ _) | (with_reducible refine Kd.C_drew ?_)))
  (case side2 => exact (Kd.S_reads' HO254.out).2.1)
  (case side3 => repeat (first | exact (Kd.S_reads' HO257.out).2.2 | (with_reducible refine Kd.C_alloc ?_ _) | (with_reducible refine Kd.C_drewN ?_ _) | (with_reducible refine Kd.C_drew ?_)))
  (case side4 => exact (Kd.S_reads' HO257.out).2.1)
  rintro e w16 ⟨v261, v264, rfl, ho0, ho1, hb⟩
  refine ⟨_, rfl, ?_⟩
  have n0_ := Aside0.mk (Kd.S_mono (Kd.S_told (Kd.S_told (Kd.S_old (by exact SX_ HO254.out) hb) (Kd.S_base ho0)) (Kd.S_base ho1)) (fun _ h_ => h_.1))
  have n1_ := Aside0.mk (Kd.S_mono (Kd.S_told (Kd.S_told (Kd.S_old (by exact SX_ HO257.out) hb) (Kd.S_base ho0)) (Kd.S_base ho1)) (fun _ h_ => h_.1))
  have n2_ := Aside0.mk (Kd.S_lower (Kd.S_new' (Kd.S_new' ho0 (Kd.S_lt (by exact SX_ HO254.out))) (Kd.S_lt (by exact SX_ HO257.out))) (below_size (B1_)))
  have n3_ := Aside0.mk (Kd.S_lower (Kd.S_new' (Kd.S_new' ho1 (Kd.S_lt (by exact SX_ HO254.out))) (Kd.S_lt (by exact SX_ HO257.out))) (below_size (B1_)))
  have n4_ := Aside0.mk (blk_below (g := gb251) (o := .cells #[.slice A0_0 l0_0.length c0_0, .slice A0_1 l0_1.length c0_1] 26 (0, 0)) (by exact KX_ BK251.out) hb)
  have n5_ := Aside0.mk (blk_below (g := gb259) (o := .cells #[.slice Ao10 t252.length co10, .slice Ao13 t255.length co13] 26 (0, 0)) (by exact KX_ BK259.out) hb)
  have n6_ := Aside0.mk (below_step (B1_) hb)
  clear HO254
  clear HO257
  clear BK251
  clear BK259
  clear HB
  have HO254 := n0_
  have HO257 := n1_
  have HO262 := n2_
  have HO265 := n3_
  have BK251 := n4_
  have BK259 := n5_
  have HB := n6_
  clear n0_ n1_ n2_ n3_ n4_ n5_ n6_
  (try clear hb)
  (try clear hb2)
  (try clear hk)
  (try clear hi)
  (try clear ho0)
  (try clear ho1)
  obtain ⟨Ao17, co17, eo17⟩ := Kd.S_slice HO262.out
  (first | subst eo17 | (injection eo17 with f1_ f2_ f3_; have f4_ := f1_.symm; have f5_ := f3_.symm; clear f1_ f2_ f3_; subst f4_; subst f5_))
  obtain ⟨Ao18, co18, eo18⟩ := Kd.S_slice HO265.out
  (first | subst eo18 | (injection eo18 with f1_ f2_ f3_; have f4_ := f1_.symm; have f5_ := f3_.symm; clear f1_ f2_ f3_; subst f4_; subst f5_))
  refine hK.out _ _ ⟨(blk_cell BK259.out 0).trans rfl, (blk_cell BK259.out 1).trans rfl, (blk_cell BK251.out 0).trans rfl, (blk_cell BK251.out 1).trans rfl⟩ (fun hHeld => ?_)
  clear hK K
  refine norm_ (a' := ?_) ?_ ?_
  rotate_left
  ·show Act.put _ (some 13) _ = _
   simp only [Act.put, List.setIfInBounds_toArray, List.set_cons_zero, List.set_cons_succ, i64_w, i32_w]
   rfl
  refine one_ (i := 5) (N := some 17) #[true, true, true, true, true, true, false] rfl rfl (by kernel_rfl) (by decide) (fun K hK => ?_)
  refine goes_ Try.func22 (by kernel_rfl) rfl #[.agg #[.slice Ao17 t260.length co17, .slice Ao18 t263.length co18], .int .i64 (l0_0.length : Int)] (by rfl) rfl rfl (by (try simp only [List.map_toArray, List.map_cons, List.map_nil]); first | done | rfl | (simp only [List.length_drop, List.length_take]; rfl)) ?_
  with_reducible refine (dom_Tree.calls k _ _ t260 _ _ t263 (l0_0.length : Int) t266 _ ?side1 ?side2 ?side3 ?side4 A5.out).mono ?_
  (case side1 => repeat (first | exact (Kd.S_reads' HO262.out).2.2 | (with_reducible refine Kd.C_alloc ?_ _) | (with_reducible refine Kd.C_drewN ?_ _) | (with_reducible refine Kd.C_drew ?_)))
  (case side2 => exact (Kd.S_reads' HO262.out).2.1)
  (case side3 => repeat (first | exact (Kd.S_reads' HO265.out).2.2 | (with_reducible refine Kd.C_alloc ?_ _) | (with_reducible refine Kd.C_drewN ?_ _) | (with_reducible refine Kd.C_drew ?_)))
  (case side4 => exact (Kd.S_reads' HO265.out).2.1)
  rintro e w19 ⟨v267, rfl, ho0, hb⟩
  refine ⟨_, rfl, ?_⟩
  have n0_ := Aside0.mk (Kd.S_elder' (by exact SX_ HO254.out) (Kd.R_base ho0) hb)
  have n1_ := Aside0.mk (Kd.S_elder' (by exact SX_ HO257.out) (Kd.R_base ho0) hb)
  have n2_ := Aside0.mk (Kd.S_elder' (by exact SX_ HO262.out) (Kd.R_base ho0) hb)
  have n3_ := Aside0.mk (Kd.S_elder' (by exact SX_ HO265.out) (Kd.R_base ho0) hb)
  have n4_ := Aside0.mk (Kd.R_lower ho0 (below_size (B1_)))
  have n5_ := Aside0.mk (blk_below (g := gb251) (o := .cells #[.slice A0_0 l0_0.length c0_0, .slice A0_1 l0_1.length c0_1] 26 (0, 0)) (by exact KX_ BK251.out) hb)
  have n6_ := Aside0.mk (blk_below (g := gb259) (o := .cells #[.slice Ao10 t252.length co10, .slice Ao13 t255.length co13] 26 (0, 0)) (by exact KX_ BK259.out) hb)
  have n7_ := Aside0.mk (below_step (B1_) hb)
  clear HO254
  clear HO257
  clear HO262
  clear HO265
  clear BK251
  clear BK259
  clear HB
  have HO254 := n0_
  have HO257 := n1_
  have HO262 := n2_
  have HO265 := n3_
  have HO268 := n4_
  have BK251 := n5_
  have BK259 := n6_
  have HB := n7_
  clear n0_ n1_ n2_ n3_ n4_ n5_ n6_ n7_
  (try clear hb)
  (try clear hb2)
  (try clear hk)
  (try clear hi)
  (try clear ho0)
  refine hK.out _ _ ⟨(blk_cell BK259.out 0).trans rfl, (blk_cell BK259.out 1).trans rfl, (blk_cell BK251.out 0).trans rfl, (blk_cell BK251.out 1).trans rfl⟩ (fun hHeld => ?_)
  clear hK K
  refine norm_ (a' := ?_) ?_ ?_
  rotate_left
  ·show Act.put _ (some 17) _ = _
   simp only [Act.put, List.setIfInBounds_toArray, List.set_cons_zero, List.set_cons_succ, i64_w, i32_w]
   rfl
  refine pure_ (i := 6) (N := some 2) (v := ?_) (a' := ?_) #[true, true, true, true, true, true, true] rfl rfl (by kernel_rfl) (fun _ _ _ h => h) (Or.inl ⟨by rfl, ?_⟩) ?_ ?_
  rotate_left
  ·intro w'
   go_simp
   with_reducible rfl
  rotate_left
  ·exact P_
  refine done_ (by kernel_rfl) ?_
  try go_wp2
  go_ret
  exact ⟨_, by first | rfl | (simp [errW_none, errW_some] <;> rfl) | (simp [*, errW_none, errW_some] <;> rfl), by exact RX_ HO268.out, B1_⟩
 rw [if_neg c3] at H
 have c3b0 : (t258 == 0) = false := beq_eq_false_iff_ne.mpr c3
 have c3b1 : (t258 != 0) = true := bne_iff_ne.mpr c3
 obtain rfl := Option.some.inj H
 go_enter Try.func10, Try.ntmps10
 go_wp2_with (first | ((with_reducible refine gate_dst (N := 1) rfl ?_); refine box_event ?hg (N := 1) ?hd (cs := #[.slice A0_0 l0_0.length c0_0, .slice A0_1 l0_1.length c0_1]) (t := 26) ?hr ?_; (case hd => rfl); (case hg => rfl); (case hr => first | (go_simp; done) | (go_simp; rfl)); intro gb251 hg w20 hbox hb; have n0_ := Aside0.mk (below_step (B_) hb); have n1_ := Aside0.mk (hbox); have n2_ := Aside0.mk ((by rw [hg]; exact (below_size (B_)) : w.heap.size ≤ gb251)); have n3_ := Aside0.mk ((by rw [hg]; exact (below_size (B_)) : w.heap.size ≤ gb251)); clear HB; have HB := n0_; have BK251 := n1_; have GW251 := n2_; have GE251 := n3_; clear n0_ n1_ n2_ n3_; clear hb hbox hg; have hcz21_0 : w20.cell? ⟨gb251, 0, none⟩ = some (.slice A0_0 l0_0.length c0_0) := (blk_cell BK251.out 0).trans rfl; have hcz21_1 : w20.cell? ⟨gb251, 1, none⟩ = some (.slice A0_1 l0_1.length c0_1) := (blk_cell BK251.out 1).trans rfl; have hfz21_0 := blk_frozen BK251.out 0; have hfz21_1 := blk_frozen BK251.out 1) | ((with_reducible refine gate_callee (f := 11) rfl ?_); refine goesL_ (some 7) rfl rfl Try.func11 (by kernel_rfl) rfl #[.agg #[.slice A0_0 l0_0.length c0_0, .slice A0_1 l0_1.length c0_1]] rfl (by (try simp only [List.map_toArray, List.map_cons, List.map_nil]); first | done | rfl | (simp only [List.length_drop, List.length_take]; rfl)) ?_; (with_reducible refine (pdom_Exit.calls k _ _ l0_0 _ _ l0_1 t252 t255 t258 _ ?side1 ?side2 ?side3 ?side4 A2.out).mono ?_); (case side1 => exact CX_ (Kd.C_below HR0_0.out HB.out)); (case side2 => exact HC0_0.out); (case side3 => exact CX_ (Kd.C_below HR0_1.out HB.out)); (case side4 => exact HC0_1.out); rintro e w22 ⟨v253, v256, rfl, ho0, ho1, hb⟩; refine ⟨_, rfl, ?_⟩; have n0_ := Aside0.mk (Kd.S_lower ho0 (below_size (B1_))); have n1_ := Aside0.mk (Kd.S_lower ho1 (below_size (B1_))); have n2_ := Aside0.mk (blk_below (g := gb251) (o := .cells #[.slice A0_0 l0_0.length c0_0, .slice A0_1 l0_1.length c0_1] 26 (0, 0)) (by exact KX_ BK251.out) hb); have n3_ := Aside0.mk (below_step (B1_) hb); clear BK251; clear HB; have HO254 := n0_; have HO257 := n1_; have BK251 := n2_; have HB := n3_; clear n0_ n1_ n2_ n3_; (try clear hb); (try clear hb2); (try clear hk); (try clear hi); (try clear ho0); (try clear ho1)) | ((with_reducible refine gate_dst (N := 3) rfl ?_); refine box_event ?hg (N := 3) ?hd (cs := #[.slice none 0 0, .slice none 0 0]) (t := 26) ?hr ?_; (case hd => rfl); (case hg => rfl); (case hr => first | (go_simp; done) | (go_simp; rfl)); intro gb259 hg w23 hbox hb; have n0_ := Aside0.mk (Kd.S_below (by exact SX_ HO254.out) hb); have n1_ := Aside0.mk (Kd.S_below (by exact SX_ HO257.out) hb); have n2_ := Aside0.mk (blk_below (g := gb251) (o := .cells #[.slice A0_0 l0_0.length c0_0, .slice A0_1 l0_1.length c0_1] 26 (0, 0)) (by exact KX_ BK251.out) hb); have n3_ := Aside0.mk (below_step (B1_) hb); have n4_ := Aside0.mk (hbox); have n5_ := Aside0.mk ((by rw [hg]; exact (below_size (B1_)) : w.heap.size ≤ gb259)); have n6_ := Aside0.mk ((by rw [hg]; exact (below_size (B1_)) : w.heap.size ≤ gb259)); have n7_ := Aside0.mk ((by rw [hg]; exact Nat.ne_of_lt (blk_lt (g := gb251) (o := .cells #[.slice A0_0 l0_0.length c0_0, .slice A0_1 l0_1.length c0_1] 26 (0, 0)) (by exact KX_ BK251.out)) : gb251 ≠ gb259)); have n8_ := Aside0.mk ((by rw [hg]; exact Nat.ne_of_gt (blk_lt (g := gb251) (o := .cells #[.slice A0_0 l0_0.length c0_0, .slice A0_1 l0_1.length c0_1] 26 (0, 0)) (by exact KX_ BK251.out)) : gb259 ≠ gb251)); clear HO254; clear HO257; clear BK251; clear HB; have HO254 := n0_; have HO257 := n1_; have BK251 := n2_; have HB := n3_; have BK259 := n4_; have GW259 := n5_; have GE259 := n6_; have NB251_259 := n7_; have NB259_251 := n8_; clear n0_ n1_ n2_ n3_ n4_ n5_ n6_ n7_ n8_; clear hb hbox hg; obtain ⟨Ao24, co24, eo24⟩ := Kd.S_slice HO254.out; subst eo24; have hnb25 := NB259_251.out; have hnc25 := NB251_259.out; have hcz26_0 : w23.cell? ⟨gb259, 0, none⟩ = some (.slice none 0 0) := (blk_cell BK259.out 0).trans rfl; have hcz26_1 : w23.cell? ⟨gb259, 1, none⟩ = some (.slice none 0 0) := (blk_cell BK259.out 1).trans rfl; have hfz26_0 := blk_frozen BK259.out 0; have hfz26_1 := blk_frozen BK259.out 1; obtain ⟨Ao27, co27, eo27⟩ := Kd.S_slice HO257.out; subst eo27))
 go_ret
 exact ⟨_, by first | rfl | (simp [errW_none, errW_some] <;> rfl) | (simp [*, errW_none, errW_some] <;> rfl), by first | exact Kd.R_nil _ _ _ _ _ | exact Kd.N_nil _ _ _ _ _ | exact Kd.V_nil _ _ _ _ _ | exact Kd.Q_nil _ _ _ _ _ | exact Kd.S_nil _ _ _ _ _, B1_⟩


/-! ### dom_depth: function 42 -/
mutual
def dom_depth.l0 : Nat → List Int → Int → Int → Int → Option (Int)
 | 0, _, _, _, _ => none
 | k + 1, x0, x1, x7, x8 => if x8 < x7 then (if x1 < 0 then (dom_depth.j1 k x0 x1 x8 x7 x8 true) else (dom_depth.j1 k x0 x1 x8 x7 x8 (decide (x1 ≥ (x0.length : Int))))) else (some (-1))
def dom_depth.j1 : Nat → List Int → Int → Int → Int → Int → Bool → Option (Int)
 | 0, _, _, _, _, _, _ => none
 | k + 1, x0, x1, x5, x7, x8, x18 => if x18 = true then (some (-1)) else (if 0 ≤ x1 then (if x1 < (x0.length : Int) then (if (rd x0 x1) = (-1) then (some x5) else (dom_depth.l0 k x0 (rd x0 x1) x7 (wrap64 (x8 + 1)))) else (none)) else (none))
end
def dom_depth.f (k : Nat) (l0 : List Int) (a1 : Int) : Option (Int) := dom_depth.l0 k l0 a1 (l0.length : Int) 0
theorem dom_depth.mono_l : ∀ k, (∀ y0 y1 y2 y3, LeO (dom_depth.l0 k y0 y1 y2 y3) (dom_depth.l0 (k + 1) y0 y1 y2 y3)) ∧ (∀ y0 y1 y2 y3 y4 y5, LeO (dom_depth.j1 k y0 y1 y2 y3 y4 y5) (dom_depth.j1 (k + 1) y0 y1 y2 y3 y4 y5))
 | 0 => ⟨fun _ _ _ _ r h => by simp [dom_depth.l0] at h, fun _ _ _ _ _ _ r h => by simp [dom_depth.j1] at h⟩
 | k + 1 => by
  obtain ⟨ih0, ih1⟩ := dom_depth.mono_l k
  refine ⟨?_, ?_⟩
  ·intro y0 y1 y2 y3
   unfold dom_depth.l0
   repeat' first
   | (with_reducible exact ih0 _ _ _ _)
   | (with_reducible exact ih1 _ _ _ _ _ _)
   | (with_reducible exact LeO.refl _)
   | (with_reducible exact LeO.none _)
   | (with_reducible refine LeO.ite ?_ ?_)
   | (with_reducible refine LeO.bind ?_ (fun _ => ?_))
   | exact ih0 _ _ _ _
   | exact ih1 _ _ _ _ _ _
   | exact LeO.none _
   | refine LeO.ite ?_ ?_
   | refine LeO.bind ?_ (fun _ => ?_)
  ·intro y0 y1 y2 y3 y4 y5
   unfold dom_depth.j1
   repeat' first
   | (with_reducible exact ih0 _ _ _ _)
   | (with_reducible exact ih1 _ _ _ _ _ _)
   | (with_reducible exact LeO.refl _)
   | (with_reducible exact LeO.none _)
   | (with_reducible refine LeO.ite ?_ ?_)
   | (with_reducible refine LeO.bind ?_ (fun _ => ?_))
   | exact ih0 _ _ _ _
   | exact ih1 _ _ _ _ _ _
   | exact LeO.none _
   | refine LeO.ite ?_ ?_
   | refine LeO.bind ?_ (fun _ => ?_)
theorem dom_depth.mono : ∀ a0 a1 k, LeO (dom_depth.f k a0 a1) (dom_depth.f (k + 1) a0 a1) := by
 intro a0 a1 k
 obtain ⟨ih0, ih1⟩ := dom_depth.mono_l k
 unfold dom_depth.f
 repeat' first
  | (with_reducible exact ih0 _ _ _ _)
  | (with_reducible exact ih1 _ _ _ _ _ _)
  | (with_reducible exact LeO.refl _)
  | (with_reducible exact LeO.none _)
  | (with_reducible refine LeO.ite ?_ ?_)
  | (with_reducible refine LeO.bind ?_ (fun _ => ?_))
  | exact ih0 _ _ _ _
  | exact ih1 _ _ _ _ _ _
  | exact LeO.none _
  | refine LeO.ite ?_ ?_
  | refine LeO.bind ?_ (fun _ => ?_)
set_option maxHeartbeats 8000000 in
set_option maxRecDepth 100000 in
theorem dom_depth.calls (k : Nat) (A0 : Option Addr) (c0 : Nat) (l0 : List Int) (a1 : Int) (r : Int) (w : World) (hr0 : Kd.C (Kd.int .i64) w A0 l0.length l0) (hc0 : l0.length ≤ c0) (h : dom_depth.f k l0 a1 = some r) :
 Calls Try.prog 42 #[.slice A0 l0.length c0, .int .i64 a1] w fun e w' => e = .returned (.int .i64 r) ∧ Drawn0 w w' := by
 have HR0 := Aside0.mk hr0
 have HC0 := Aside0.mk hc0
 clear hr0 hc0
 have H : (dom_depth.l0 k l0 a1 (l0.length : Int) 0) = some r := h
 clear h
 have H' := Aside0.mk H
 clear H
 go_enter Try.func42, Try.ntmps42
 go_wp2
 go_loopg [1, 8] k (fun kq v1 v8 w' => ∃ (x1_1 : Int) (x8_1 : Int), v1 = .int .i64 x1_1 ∧ v8 = .int .i64 x8_1 ∧ Aside0 (dom_depth.l0 kq l0 x1_1 (l0.length : Int) x8_1 = some r) ∧ Aside0 (kq ≤ k) ∧ Drawn0 w w')
 case atStart => exact ⟨(a1), (0), (by first | rfl | (simp; done) | (simp [*]; done)), (by first | rfl | (simp; done) | (simp [*]; done)), H', ⟨Nat.le_refl _⟩, by repeat (first | exact Drawn0.refl _ | apply Drawn0.step)⟩
 case round =>
  clear H'
  obtain ⟨x1_1, x8_1, rfl, rfl, HA, HK1, ⟨m1, rfl⟩⟩ := hrel
  cases gk with
  | zero => exact absurd HA.out (by simp [dom_depth.l0])
  | succ k1 =>
   have H := HA.out
   clear HA
   simp only [dom_depth.l0] at H
   by_cases c3 : x8_1 < (l0.length : Int)
   ·rw [if_pos c3] at H
    have c3b0 : decide (x8_1 < (l0.length : Int)) = true := decide_eq_true c3
    clear c3
    have HC4 := Aside0.mk H
    clear H
    go_upto_region 4 with (fail)
    go_cut [18] (fun v18 wc => ∃ (kq : Nat) (x18_3 : Bool), v18 = .bool x18_3 ∧ Aside0 (dom_depth.j1 kq l0 x1_1 x8_1 (l0.length : Int) x8_1 x18_3 = some r) ∧ Aside0 (kq ≤ k1) ∧ Drawn0 w wc)
    case first =>
     have H := HC4.out
     clear HC4
     by_cases c5 : x1_1 < 0
     ·rw [if_pos c5] at H
      have c5b0 : decide (x1_1 < 0) = true := decide_eq_true c5
      clear c5
      (first | rw [c5b0] | (simp only [i64_w, i32_w]; rw [c5b0]) | skip)
      have H' := Aside0.mk H
      clear H
      go_wp2
      go_meet
      case rel => exact ⟨_, (true), (by first | rfl | (simp; done) | (simp [*]; done)), H', ⟨by have := HK1.out; first | omega | exact Nat.le_refl _⟩, by repeat (first | exact Drawn0.refl _ | apply Drawn0.step)⟩
     rw [if_neg c5] at H
     have c5b0 : decide (x1_1 < 0) = false := decide_eq_false c5
     clear c5
     (first | rw [c5b0] | (simp only [i64_w, i32_w]; rw [c5b0]) | skip)
     have H' := Aside0.mk H
     clear H
     go_wp2
     go_meet
     case rel => exact ⟨_, (decide (x1_1 ≥ (l0.length : Int))), (by first | rfl | (simp; done) | (simp [*]; done)), H', ⟨by have := HK1.out; first | omega | exact Nat.le_refl _⟩, by repeat (first | exact Drawn0.refl _ | apply Drawn0.step)⟩
    case rest =>
     clear HC4
     try clear c3b0
     obtain ⟨kq, x18_3, rfl, HA, HJ3, ⟨mc3, rfl⟩⟩ := hcut
     cases kq with
     | zero => exact absurd HA.out (by simp [dom_depth.j1])
     | succ kj3 =>
      have H := HA.out
      clear HA
      simp only [dom_depth.j1] at H
      by_cases c6 : x18_3 = true
      ·subst c6
       have H1 : (some (-1)) = some r := by rw [if_pos rfl] at H; exact H
       clear H
       have H := H1
       clear H1
       obtain rfl := Option.some.inj H
       go_wp2
       go_ret
       exact ⟨by first | rfl | (simp; done) | (simp [*]; done), by repeat (first | exact Drawn0.refl _ | apply Drawn0.step)⟩
      replace c6 := Bool.eq_false_iff.mpr c6
      subst c6
      have H1 : (if 0 ≤ x1_1 then (if x1_1 < (l0.length : Int) then (if (rd l0 x1_1) = (-1) then (some x8_1) else (dom_depth.l0 kj3 l0 (rd l0 x1_1) (l0.length : Int) (wrap64 (x8_1 + 1)))) else (none)) else (none)) = some r := by rw [if_neg (show ¬ (false = true) by decide)] at H; exact H
      clear H
      have H := H1
      clear H1
      by_cases c7 : 0 ≤ x1_1
      ·rw [if_pos c7] at H
       have c7b0 : decide (0 ≤ x1_1) = true := decide_eq_true c7
       clear c7
       by_cases c8 : x1_1 < (l0.length : Int)
       ·rw [if_pos c8] at H
        have c8b0 : decide (x1_1 < (l0.length : Int)) = true := decide_eq_true c8
        clear c8
        by_cases c9 : (rd l0 x1_1) = (-1)
        ·rw [if_pos c9] at H
         have c9b0 : ((rd l0 x1_1) == (-1)) = true := beq_iff_eq.mpr c9
         have c9b1 : ((rd l0 x1_1) != (-1)) = false := bne_eq_false_iff_eq.mpr c9
         clear c9
         obtain rfl := Option.some.inj H
         have p269 : 0 ≤ (x1_1 : Int) := D_
         have q269 : x1_1 < (l0.length : Int) := D_
         obtain ⟨ad269, e269, hx269_0⟩ := Kd.at_int HR0.out x1_1 p269 q269
         cases e269
         replace p269 := eq_true p269
         replace q269 := eq_true q269
         go_wp2
         go_ret
         exact ⟨by first | rfl | (simp; done) | (simp [*]; done), by repeat (first | exact Drawn0.refl _ | apply Drawn0.step)⟩
        rw [if_neg c9] at H
        have c9b0 : ((rd l0 x1_1) == (-1)) = false := beq_eq_false_iff_ne.mpr c9
        have c9b1 : ((rd l0 x1_1) != (-1)) = true := bne_iff_ne.mpr c9
        have H' := Aside0.mk H
        clear H
        have p269 : 0 ≤ (x1_1 : Int) := D_
        have q269 : x1_1 < (l0.length : Int) := D_
        obtain ⟨ad269, e269, hx269_0⟩ := Kd.at_int HR0.out x1_1 p269 q269
        cases e269
        replace p269 := eq_true p269
        replace q269 := eq_true q269
        have p270 : 0 ≤ (x1_1 : Int) := D_
        have q270 : x1_1 < (l0.length : Int) := D_
        obtain ⟨ad270, e270, hx270_0⟩ := Kd.at_int HR0.out x1_1 p270 q270
        obtain rfl : ad269 = ad270 := (by injection e270)
        replace p270 := eq_true p270
        replace q270 := eq_true q270
        go_wp2
        go_roundg kj3
        case measure => have := HK1.out; have := HJ3.out; omega
        case rel => exact ⟨(rd l0 x1_1), (wrap64 (x8_1 + 1)), (by first | rfl | (simp; done) | (simp [*]; done)), (by first | rfl | (simp; done) | (simp [*]; done)), H', ⟨by have := HK1.out; have := HJ3.out; omega⟩, by repeat (first | exact Drawn0.refl _ | apply Drawn0.step)⟩
       rw [if_neg c8] at H
       exact absurd H (by simp)
      rw [if_neg c7] at H
      exact absurd H (by simp)
   rw [if_neg c3] at H
   have c3b0 : decide (x8_1 < (l0.length : Int)) = false := decide_eq_false c3
   clear c3
   obtain rfl := Option.some.inj H
   go_wp2
   go_ret
   exact ⟨by first | rfl | (simp; done) | (simp [*]; done), by repeat (first | exact Drawn0.refl _ | apply Drawn0.step)⟩


/-! ### dom_right: function 39 -/
def dom_right.l0 : Nat → List Int → Int → List Int → Int → Int → Option (Bool)
 | 0, _, _, _, _, _ => none
 | k + 1, x0, x3, x6, x7, x8 => if x8 < x7 then (if 0 ≤ x8 then (if x8 < (x6.length : Int) then (if (rd x6 x8) = (-1) then (if (rd x6 x8) = (-2) then (dom_right.l0 k x0 (wrap64 (x3 + 1)) x6 x7 (wrap64 (x8 + 1))) else ((dom_depth.f k x0 x8).bind fun t272 => (if t272 < 0 then (some false) else (dom_right.l0 k x0 (wrap64 (x3 + 1)) x6 x7 (wrap64 (x8 + 1)))))) else (if (rd x6 x8) = (-2) then (dom_right.l0 k x0 x3 x6 x7 (wrap64 (x8 + 1))) else ((dom_depth.f k x0 x8).bind fun t273 => (if t273 < 0 then (some false) else (dom_right.l0 k x0 x3 x6 x7 (wrap64 (x8 + 1))))))) else (none)) else (none)) else (some (x3 == 1))
def dom_right.f (k : Nat) (l0 : List Int) : Option (Bool) := dom_right.l0 k l0 0 l0 (l0.length : Int) 0
theorem dom_right.mono_l : ∀ k, (∀ y0 y1 y2 y3 y4, LeO (dom_right.l0 k y0 y1 y2 y3 y4) (dom_right.l0 (k + 1) y0 y1 y2 y3 y4))
 | 0 => fun _ _ _ _ _ r h => by simp [dom_right.l0] at h
 | k + 1 => by
  have ih0 := dom_right.mono_l k
  ·intro y0 y1 y2 y3 y4
   unfold dom_right.l0
   repeat' first
   | (with_reducible exact ih0 _ _ _ _ _)
   | (with_reducible exact dom_depth.mono _ _ _)
   | (with_reducible exact LeO.refl _)
   | (with_reducible exact LeO.none _)
   | (with_reducible refine LeO.ite ?_ ?_)
   | (with_reducible refine LeO.bind ?_ (fun _ => ?_))
   | exact ih0 _ _ _ _ _
   | exact dom_depth.mono _ _ _
   | exact LeO.none _
   | refine LeO.ite ?_ ?_
   | refine LeO.bind ?_ (fun _ => ?_)
theorem dom_right.mono : ∀ a0 k, LeO (dom_right.f k a0) (dom_right.f (k + 1) a0) := by
 intro a0 k
 have ih0 := dom_right.mono_l k
 unfold dom_right.f
 repeat' first
  | (with_reducible exact ih0 _ _ _ _ _)
  | (with_reducible exact dom_depth.mono _ _ _)
  | (with_reducible exact LeO.refl _)
  | (with_reducible exact LeO.none _)
  | (with_reducible refine LeO.ite ?_ ?_)
  | (with_reducible refine LeO.bind ?_ (fun _ => ?_))
  | exact ih0 _ _ _ _ _
  | exact dom_depth.mono _ _ _
  | exact LeO.none _
  | refine LeO.ite ?_ ?_
  | refine LeO.bind ?_ (fun _ => ?_)
set_option maxHeartbeats 8000000 in
set_option maxRecDepth 100000 in
theorem dom_right.calls (k : Nat) (A0 : Option Addr) (c0 : Nat) (l0 : List Int) (r : Bool) (w : World) (hr0 : Kd.C (Kd.int .i64) w A0 l0.length l0) (hc0 : l0.length ≤ c0) (h : dom_right.f k l0 = some r) :
 Calls Try.prog 39 #[.slice A0 l0.length c0] w fun e w' => e = .returned (.bool r) ∧ Drawn0 w w' := by
 have HR0 := Aside0.mk hr0
 have HC0 := Aside0.mk hc0
 clear hr0 hc0
 have H : (dom_right.l0 k l0 0 l0 (l0.length : Int) 0) = some r := h
 clear h
 have H' := Aside0.mk H
 clear H
 go_enter Try.func39, Try.ntmps39
 go_wp2
 go_loopg [3, 8] k (fun kq v3 v8 w' => ∃ (x3_1 : Int) (x8_1 : Int), v3 = .int .i64 x3_1 ∧ v8 = .int .i64 x8_1 ∧ Aside0 (dom_right.l0 kq l0 x3_1 l0 (l0.length : Int) x8_1 = some r) ∧ Aside0 (kq ≤ k) ∧ Drawn0 w w')
 case atStart => exact ⟨(0), (0), (by first | rfl | (simp; done) | (simp [*]; done)), (by first | rfl | (simp; done) | (simp [*]; done)), H', ⟨Nat.le_refl _⟩, by repeat (first | exact Drawn0.refl _ | apply Drawn0.step)⟩
 case round =>
  clear H'
  obtain ⟨x3_1, x8_1, rfl, rfl, HA, HK1, ⟨m1, rfl⟩⟩ := hrel
  cases gk with
  | zero => exact absurd HA.out (by simp [dom_right.l0])
  | succ k1 =>
   have H := HA.out
   clear HA
   simp only [dom_right.l0] at H
   by_cases c2 : x8_1 < (l0.length : Int)
   ·rw [if_pos c2] at H
    have c2b0 : decide (x8_1 < (l0.length : Int)) = true := decide_eq_true c2
    clear c2
    by_cases c3 : 0 ≤ x8_1
    ·rw [if_pos c3] at H
     have c3b0 : decide (0 ≤ x8_1) = true := decide_eq_true c3
     clear c3
     by_cases c4 : x8_1 < (l0.length : Int)
     ·rw [if_pos c4] at H
      have c4b0 : decide (x8_1 < (l0.length : Int)) = true := decide_eq_true c4
      clear c4
      by_cases c5 : (rd l0 x8_1) = (-1)
      ·rw [if_pos c5] at H
       have c5b0 : ((rd l0 x8_1) == (-1)) = true := beq_iff_eq.mpr c5
       have c5b1 : ((rd l0 x8_1) != (-1)) = false := bne_eq_false_iff_eq.mpr c5
       clear c5
       by_cases c6 : (rd l0 x8_1) = (-2)
       ·rw [if_pos c6] at H
        have c6b0 : ((rd l0 x8_1) == (-2)) = true := beq_iff_eq.mpr c6
        have c6b1 : ((rd l0 x8_1) != (-2)) = false := bne_eq_false_iff_eq.mpr c6
        clear c6
        have H' := Aside0.mk H
        clear H
        have p271 : 0 ≤ (x8_1 : Int) := D_
        have q271 : x8_1 < (l0.length : Int) := D_
        obtain ⟨ad271, e271, hx271_0⟩ := Kd.at_int HR0.out x8_1 p271 q271
        cases e271
        replace p271 := eq_true p271
        replace q271 := eq_true q271
        go_wp2
        go_roundg k1
        case measure => have := HK1.out; omega
        case rel => exact ⟨(wrap64 (x3_1 + 1)), (wrap64 (x8_1 + 1)), (by first | rfl | (simp; done) | (simp [*]; done)), (by first | rfl | (simp; done) | (simp [*]; done)), H', ⟨by have := HK1.out; omega⟩, by repeat (first | exact Drawn0.refl _ | apply Drawn0.step)⟩
       rw [if_neg c6] at H
       have c6b0 : ((rd l0 x8_1) == (-2)) = false := beq_eq_false_iff_ne.mpr c6
       have c6b1 : ((rd l0 x8_1) != (-2)) = true := bne_iff_ne.mpr c6
       replace H := Option.bind_eq_some_iff.mp H
       obtain ⟨t272, A70, H⟩ := H
       replace H : (if t272 < 0 then (some false) else (dom_right.l0 k1 l0 (wrap64 (x3_1 + 1)) l0 (l0.length : Int) (wrap64 (x8_1 + 1)))) = some r := H
       have A7 := Aside0.mk A70
       clear A70
       by_cases c8 : t272 < 0
       ·rw [if_pos c8] at H
        have c8b0 : decide (t272 < 0) = true := decide_eq_true c8
        clear c8
        obtain rfl := Option.some.inj H
        have p271 : 0 ≤ (x8_1 : Int) := D_
        have q271 : x8_1 < (l0.length : Int) := D_
        obtain ⟨ad271, e271, hx271_0⟩ := Kd.at_int HR0.out x8_1 p271 q271
        cases e271
        replace p271 := eq_true p271
        replace q271 := eq_true q271
        go_wp2_with (first | (go_at_call 42; (with_reducible refine (dom_depth.calls k1 _ _ l0 x8_1 t272 _ ?side1 ?side2 A7.out).mono ?_); (case side1 => exact CX_ HR0.out); (case side2 => exact HC0.out); rintro e w' ⟨rfl, ⟨nd, rfl⟩⟩))
        go_ret
        exact ⟨by first | rfl | (simp; done) | (simp [*]; done), by repeat (first | exact Drawn0.refl _ | apply Drawn0.step)⟩
       rw [if_neg c8] at H
       have c8b0 : decide (t272 < 0) = false := decide_eq_false c8
       clear c8
       have H' := Aside0.mk H
       clear H
       have p271 : 0 ≤ (x8_1 : Int) := D_
       have q271 : x8_1 < (l0.length : Int) := D_
       obtain ⟨ad271, e271, hx271_0⟩ := Kd.at_int HR0.out x8_1 p271 q271
       cases e271
       replace p271 := eq_true p271
       replace q271 := eq_true q271
       go_wp2_with (first | (go_at_call 42; (with_reducible refine (dom_depth.calls k1 _ _ l0 x8_1 t272 _ ?side1 ?side2 A7.out).mono ?_); (case side1 => exact CX_ HR0.out); (case side2 => exact HC0.out); rintro e w' ⟨rfl, ⟨nd, rfl⟩⟩))
       go_roundg k1
       case measure => have := HK1.out; omega
       case rel => exact ⟨(wrap64 (x3_1 + 1)), (wrap64 (x8_1 + 1)), (by first | rfl | (simp; done) | (simp [*]; done)), (by first | rfl | (simp; done) | (simp [*]; done)), H', ⟨by have := HK1.out; omega⟩, by repeat (first | exact Drawn0.refl _ | apply Drawn0.step)⟩
      rw [if_neg c5] at H
      have c5b0 : ((rd l0 x8_1) == (-1)) = false := beq_eq_false_iff_ne.mpr c5
      have c5b1 : ((rd l0 x8_1) != (-1)) = true := bne_iff_ne.mpr c5
      by_cases c9 : (rd l0 x8_1) = (-2)
      ·rw [if_pos c9] at H
       have c9b0 : ((rd l0 x8_1) == (-2)) = true := beq_iff_eq.mpr c9
       have c9b1 : ((rd l0 x8_1) != (-2)) = false := bne_eq_false_iff_eq.mpr c9
       clear c9
       have H' := Aside0.mk H
       clear H
       have p271 : 0 ≤ (x8_1 : Int) := D_
       have q271 : x8_1 < (l0.length : Int) := D_
       obtain ⟨ad271, e271, hx271_0⟩ := Kd.at_int HR0.out x8_1 p271 q271
       cases e271
       replace p271 := eq_true p271
       replace q271 := eq_true q271
       go_wp2
       go_roundg k1
       case measure => have := HK1.out; omega
       case rel => exact ⟨(x3_1), (wrap64 (x8_1 + 1)), (by first | rfl | (simp; done) | (simp [*]; done)), (by first | rfl | (simp; done) | (simp [*]; done)), H', ⟨by have := HK1.out; omega⟩, by repeat (first | exact Drawn0.refl _ | apply Drawn0.step)⟩
      rw [if_neg c9] at H
      have c9b0 : ((rd l0 x8_1) == (-2)) = false := beq_eq_false_iff_ne.mpr c9
      have c9b1 : ((rd l0 x8_1) != (-2)) = true := bne_iff_ne.mpr c9
      replace H := Option.bind_eq_some_iff.mp H
      obtain ⟨t273, A100, H⟩ := H
      replace H : (if t273 < 0 then (some false) else (dom_right.l0 k1 l0 x3_1 l0 (l0.length : Int) (wrap64 (x8_1 + 1)))) = some r := H
      have A10 := Aside0.mk A100
      clear A100
      by_cases c11 : t273 < 0
      ·rw [if_pos c11] at H
       have c11b0 : decide (t273 < 0) = true := decide_eq_true c11
       clear c11
       obtain rfl := Option.some.inj H
       have p271 : 0 ≤ (x8_1 : Int) := D_
       have q271 : x8_1 < (l0.length : Int) := D_
       obtain ⟨ad271, e271, hx271_0⟩ := Kd.at_int HR0.out x8_1 p271 q271
       cases e271
       replace p271 := eq_true p271
       replace q271 := eq_true q271
       go_wp2_with (first | (go_at_call 42; (with_reducible refine (dom_depth.calls k1 _ _ l0 x8_1 t273 _ ?side1 ?side2 A10.out).mono ?_); (case side1 => exact CX_ HR0.out); (case side2 => exact HC0.out); rintro e w' ⟨rfl, ⟨nd, rfl⟩⟩))
       go_ret
       exact ⟨by first | rfl | (simp; done) | (simp [*]; done), by repeat (first | exact Drawn0.refl _ | apply Drawn0.step)⟩
      rw [if_neg c11] at H
      have c11b0 : decide (t273 < 0) = false := decide_eq_false c11
      clear c11
      have H' := Aside0.mk H
      clear H
      have p271 : 0 ≤ (x8_1 : Int) := D_
      have q271 : x8_1 < (l0.length : Int) := D_
      obtain ⟨ad271, e271, hx271_0⟩ := Kd.at_int HR0.out x8_1 p271 q271
      cases e271
      replace p271 := eq_true p271
      replace q271 := eq_true q271
      go_wp2_with (first | (go_at_call 42; (with_reducible refine (dom_depth.calls k1 _ _ l0 x8_1 t273 _ ?side1 ?side2 A10.out).mono ?_); (case side1 => exact CX_ HR0.out); (case side2 => exact HC0.out); rintro e w' ⟨rfl, ⟨nd, rfl⟩⟩))
      go_roundg k1
      case measure => have := HK1.out; omega
      case rel => exact ⟨(x3_1), (wrap64 (x8_1 + 1)), (by first | rfl | (simp; done) | (simp [*]; done)), (by first | rfl | (simp; done) | (simp [*]; done)), H', ⟨by have := HK1.out; omega⟩, by repeat (first | exact Drawn0.refl _ | apply Drawn0.step)⟩
     rw [if_neg c4] at H
     exact absurd H (by simp)
    rw [if_neg c3] at H
    exact absurd H (by simp)
   rw [if_neg c2] at H
   have c2b0 : decide (x8_1 < (l0.length : Int)) = false := decide_eq_false c2
   clear c2
   obtain rfl := Option.some.inj H
   go_wp2
   go_ret
   exact ⟨by first | rfl | (simp; done) | (simp [*]; done), by repeat (first | exact Drawn0.refl _ | apply Drawn0.step)⟩


/-! ### dom_in: function 35 -/
def dom_in_1.f (k : Nat) (a0 : Int) (l1 : List Int) : Option Bool := (dom_depth.f k l1 a0).bind fun t => some (decide (t < 0))
theorem dom_in_1.mono : ∀ a0 a1 k, LeO (dom_in_1.f k a0 a1) (dom_in_1.f (k + 1) a0 a1) := by
 intro a0 a1 k
 unfold dom_in_1.f
 exact LeO.bind (dom_depth.mono _ _ _) (fun _ => LeO.refl _)
set_option maxHeartbeats 8000000 in
set_option maxRecDepth 100000 in
theorem dom_in_1.calls (k : Nat) (a0 : Int) (g1_ : Nat) (A1 : Option Addr) (c1 : Nat) (l1 : List Int) (r : Bool) (w : World) (hr1 : Kd.C (Kd.int .i64) w A1 l1.length l1) (hc1 : l1.length ≤ c1) (hcb1 : w.cell? ⟨g1_, 0, none⟩ = some (.slice A1 l1.length c1)) (h : dom_in_1.f k a0 l1 = some r) :
 Calls Try.prog 41 #[.int .i64 a0, .pointer (some ⟨g1_, 0, none⟩)] w fun e w' => e = .returned (.bool r) ∧ Drawn0 w w' := by
 have HR1 := Aside0.mk hr1
 have HC1 := Aside0.mk hc1
 clear hr1 hc1
 have H : ((dom_depth.f k l1 a0).bind fun t => some (decide (t < 0))) = some r := h
 clear h
 replace H := Option.bind_eq_some_iff.mp H
 obtain ⟨t1, A1_, H⟩ := H
 replace H : some (decide (t1 < 0)) = some r := H
 have A3 := Aside0.mk A1_
 clear A1_
 obtain rfl := Option.some.inj H
 clear H
 go_enter Try.func41, Try.ntmps41
 go_wp2_with (first | (go_at_call 42; (with_reducible refine (dom_depth.calls k _ _ l1 a0 t1 _ ?side1 ?side2 A3.out).mono ?_); (case side1 => exact CX_ HR1.out); (case side2 => exact HC1.out); rintro e w' ⟨rfl, ⟨nd, rfl⟩⟩))
 go_ret
 exact ⟨by first | rfl | (simp; done) | (simp [*]; done), by repeat (first | exact Drawn0.refl _ | apply Drawn0.step)⟩

def slices_IndexFunc_int_int_dom_in_1.l0 : Nat → List Int → Int → Int → List Int → Option (Int)
 | 0, _, _, _, _ => none
 | k + 1, x0, x7, x8, x2000 => if x8 < x7 then (if 0 ≤ x8 then (if x8 < (x0.length : Int) then ((dom_in_1.f k (rd x0 x8) x2000).bind fun t124 => (if t124 = true then (some x8) else (slices_IndexFunc_int_int_dom_in_1.l0 k x0 x7 (wrap64 (x8 + 1)) x2000))) else (none)) else (none)) else (some (-1))
def slices_IndexFunc_int_int_dom_in_1.f (k : Nat) (l0 : List Int) (l1 : List Int) : Option (Int) := slices_IndexFunc_int_int_dom_in_1.l0 k l0 (l0.length : Int) 0 l1
theorem slices_IndexFunc_int_int_dom_in_1.mono_l : ∀ k, (∀ y0 y1 y2 y3, LeO (slices_IndexFunc_int_int_dom_in_1.l0 k y0 y1 y2 y3) (slices_IndexFunc_int_int_dom_in_1.l0 (k + 1) y0 y1 y2 y3))
 | 0 => fun _ _ _ _ r h => by simp [slices_IndexFunc_int_int_dom_in_1.l0] at h
 | k + 1 => by
  have ih0 := slices_IndexFunc_int_int_dom_in_1.mono_l k
  ·intro y0 y1 y2 y3
   unfold slices_IndexFunc_int_int_dom_in_1.l0
   repeat' first
   | (with_reducible exact ih0 _ _ _ _)
   | (with_reducible exact dom_in_1.mono _ _ _)
   | (with_reducible exact LeO.refl _)
   | (with_reducible exact LeO.none _)
   | (with_reducible refine LeO.ite ?_ ?_)
   | (with_reducible refine LeO.bind ?_ (fun _ => ?_))
theorem slices_IndexFunc_int_int_dom_in_1.mono : ∀ a0 a1 k, LeO (slices_IndexFunc_int_int_dom_in_1.f k a0 a1) (slices_IndexFunc_int_int_dom_in_1.f (k + 1) a0 a1) :=
 fun a0 a1 k => slices_IndexFunc_int_int_dom_in_1.mono_l k _ _ _ _
set_option maxHeartbeats 8000000 in
set_option maxRecDepth 100000 in
theorem slices_IndexFunc_int_int_dom_in_1.calls (k : Nat) (A0 : Option Addr) (c0 : Nat) (l0 : List Int) (g1_ : Nat) (A1 : Option Addr) (c1 : Nat) (l1 : List Int) (r : Int) (w : World) (hr0 : Kd.C (Kd.int .i64) w A0 l0.length l0) (hc0 : l0.length ≤ c0) (hr1 : Kd.C (Kd.int .i64) w A1 l1.length l1) (hc1 : l1.length ≤ c1) (hcb1 : w.cell? ⟨g1_, 0, none⟩ = some (.slice A1 l1.length c1)) (h : slices_IndexFunc_int_int_dom_in_1.f k l0 l1 = some r) :
 Calls Try.prog 45 #[.slice A0 l0.length c0, .func (.func 41) #[] #[.pointer (some ⟨g1_, 0, none⟩)]] w fun e w' => e = .returned (.int .i64 r) ∧ Drawn0 w w' := by
 have HR0 := Aside0.mk hr0
 have HC0 := Aside0.mk hc0
 have HR1 := Aside0.mk hr1
 have HC1 := Aside0.mk hc1
 clear hr0 hc0 hr1 hc1
 have H : (slices_IndexFunc_int_int_dom_in_1.l0 k l0 (l0.length : Int) 0 l1) = some r := h
 clear h
 have H' := Aside0.mk H
 clear H
 go_enter Try.func45, Try.ntmps45
 go_wp2
 go_loopg [8] k (fun kq v8 w' => ∃ (x8_1 : Int), v8 = .int .i64 x8_1 ∧ Aside0 (slices_IndexFunc_int_int_dom_in_1.l0 kq l0 (l0.length : Int) x8_1 l1 = some r) ∧ Aside0 (kq ≤ k) ∧ Drawn0 w w')
 case atStart => exact ⟨(0), (by first | rfl | (simp; done) | (simp [*]; done)), H', ⟨Nat.le_refl _⟩, by repeat (first | exact Drawn0.refl _ | apply Drawn0.step)⟩
 case round =>
  clear H'
  obtain ⟨x8_1, rfl, HA, HK1, ⟨m1, rfl⟩⟩ := hrel
  cases gk with
  | zero => exact absurd HA.out (by simp [slices_IndexFunc_int_int_dom_in_1.l0])
  | succ k1 =>
   have H := HA.out
   clear HA
   simp only [slices_IndexFunc_int_int_dom_in_1.l0] at H
   by_cases c3 : x8_1 < (l0.length : Int)
   ·rw [if_pos c3] at H
    have c3b0 : decide (x8_1 < (l0.length : Int)) = true := decide_eq_true c3
    clear c3
    by_cases c4 : 0 ≤ x8_1
    ·rw [if_pos c4] at H
     have c4b0 : decide (0 ≤ x8_1) = true := decide_eq_true c4
     clear c4
     by_cases c5 : x8_1 < (l0.length : Int)
     ·rw [if_pos c5] at H
      have c5b0 : decide (x8_1 < (l0.length : Int)) = true := decide_eq_true c5
      clear c5
      replace H := Option.bind_eq_some_iff.mp H
      obtain ⟨t124, A60, H⟩ := H
      replace H : (if t124 = true then (some x8_1) else (slices_IndexFunc_int_int_dom_in_1.l0 k1 l0 (l0.length : Int) (wrap64 (x8_1 + 1)) l1)) = some r := H
      have A6 := Aside0.mk A60
      clear A60
      by_cases c7 : t124 = true
      ·subst c7
       have H1 : (some x8_1) = some r := by rw [if_pos rfl] at H; exact H
       clear H
       have H := H1
       clear H1
       obtain rfl := Option.some.inj H
       have p123 : 0 ≤ (x8_1 : Int) := D_
       have q123 : x8_1 < (l0.length : Int) := D_
       obtain ⟨ad123, e123, hx123_0⟩ := Kd.at_int HR0.out x8_1 p123 q123
       cases e123
       replace p123 := eq_true p123
       replace q123 := eq_true q123
       go_wp2_with (first | (go_at_call 41; (with_reducible refine (dom_in_1.calls k1 (rd l0 x8_1) g1_ A1 c1 l1 true _ ?side1 ?side2 ?side3 A6.out).mono ?_); (case side1 => exact CX_ HR1.out); (case side2 => exact HC1.out); (case side3 => exact (by first | exact hcb1 | simpa using hcb1)); rintro e w' ⟨rfl, ⟨nd, rfl⟩⟩))
       go_ret
       exact ⟨by first | rfl | (simp; done) | (simp [*]; done), by repeat (first | exact Drawn0.refl _ | apply Drawn0.step)⟩
      replace c7 := Bool.eq_false_iff.mpr c7
      subst c7
      have H1 : (slices_IndexFunc_int_int_dom_in_1.l0 k1 l0 (l0.length : Int) (wrap64 (x8_1 + 1)) l1) = some r := by rw [if_neg (show ¬ (false = true) by decide)] at H; exact H
      clear H
      have H := H1
      clear H1
      have H' := Aside0.mk H
      clear H
      have p123 : 0 ≤ (x8_1 : Int) := D_
      have q123 : x8_1 < (l0.length : Int) := D_
      obtain ⟨ad123, e123, hx123_0⟩ := Kd.at_int HR0.out x8_1 p123 q123
      cases e123
      replace p123 := eq_true p123
      replace q123 := eq_true q123
      go_wp2_with (first | (go_at_call 41; (with_reducible refine (dom_in_1.calls k1 (rd l0 x8_1) g1_ A1 c1 l1 false _ ?side1 ?side2 ?side3 A6.out).mono ?_); (case side1 => exact CX_ HR1.out); (case side2 => exact HC1.out); (case side3 => exact (by first | exact hcb1 | simpa using hcb1)); rintro e w' ⟨rfl, ⟨nd, rfl⟩⟩))
      go_roundg k1
      case measure => have := HK1.out; omega
      case rel => exact ⟨(wrap64 (x8_1 + 1)), (by first | rfl | (simp; done) | (simp [*]; done)), H', ⟨by have := HK1.out; omega⟩, by repeat (first | exact Drawn0.refl _ | apply Drawn0.step)⟩
     rw [if_neg c5] at H
     exact absurd H (by simp)
    rw [if_neg c4] at H
    exact absurd H (by simp)
   rw [if_neg c3] at H
   have c3b0 : decide (x8_1 < (l0.length : Int)) = false := decide_eq_false c3
   clear c3
   obtain rfl := Option.some.inj H
   go_wp2
   go_ret
   exact ⟨by first | rfl | (simp; done) | (simp [*]; done), by repeat (first | exact Drawn0.refl _ | apply Drawn0.step)⟩

def slices_ContainsFunc_int_int_dom_in_1.f (k : Nat) (l0 : List Int) (l1 : List Int) : Option (Bool) := (slices_IndexFunc_int_int_dom_in_1.f k l0 l1).bind fun t125 => (some (decide (t125 ≥ 0)))
theorem slices_ContainsFunc_int_int_dom_in_1.mono : ∀ a0 a1 k, LeO (slices_ContainsFunc_int_int_dom_in_1.f k a0 a1) (slices_ContainsFunc_int_int_dom_in_1.f (k + 1) a0 a1) := by
 intro a0 a1 k
 unfold slices_ContainsFunc_int_int_dom_in_1.f
 exact LeO.bind (slices_IndexFunc_int_int_dom_in_1.mono _ _ _) (fun _ => LeO.refl _)
set_option maxHeartbeats 8000000 in
set_option maxRecDepth 100000 in
theorem slices_ContainsFunc_int_int_dom_in_1.calls (k : Nat) (A0 : Option Addr) (c0 : Nat) (l0 : List Int) (g1_ : Nat) (A1 : Option Addr) (c1 : Nat) (l1 : List Int) (r : Bool) (w : World) (hr0 : Kd.C (Kd.int .i64) w A0 l0.length l0) (hc0 : l0.length ≤ c0) (hr1 : Kd.C (Kd.int .i64) w A1 l1.length l1) (hc1 : l1.length ≤ c1) (hcb1 : w.cell? ⟨g1_, 0, none⟩ = some (.slice A1 l1.length c1)) (h : slices_ContainsFunc_int_int_dom_in_1.f k l0 l1 = some r) :
 Calls Try.prog 40 #[.slice A0 l0.length c0, .func (.func 41) #[] #[.pointer (some ⟨g1_, 0, none⟩)]] w fun e w' => e = .returned (.bool r) ∧ Drawn0 w w' := by
 have HR0 := Aside0.mk hr0
 have HC0 := Aside0.mk hc0
 have HR1 := Aside0.mk hr1
 have HC1 := Aside0.mk hc1
 clear hr0 hc0 hr1 hc1
 have H : ((slices_IndexFunc_int_int_dom_in_1.f k l0 l1).bind fun t125 => (some (decide (t125 ≥ 0)))) = some r := h
 clear h
 replace H := Option.bind_eq_some_iff.mp H
 obtain ⟨t125, A30, H⟩ := H
 replace H : (some (decide (t125 ≥ 0))) = some r := H
 have A3 := Aside0.mk A30
 clear A30
 obtain rfl := Option.some.inj H
 go_enter Try.func40, Try.ntmps40
 go_wp2_with (first | (go_at_call 45; (with_reducible refine (slices_IndexFunc_int_int_dom_in_1.calls k _ _ l0 g1_ A1 c1 l1 t125 _ ?side1 ?side2 ?side3 ?side4 ?side5 A3.out).mono ?_); (case side1 => exact CX_ HR0.out); (case side2 => exact HC0.out); (case side3 => exact CX_ HR1.out); (case side4 => exact HC1.out); (case side5 => exact (by first | exact hcb1 | simpa using hcb1)); rintro e w' ⟨rfl, ⟨nd, rfl⟩⟩))
 go_ret
 exact ⟨by first | rfl | (simp; done) | (simp [*]; done), by repeat (first | exact Drawn0.refl _ | apply Drawn0.step)⟩

def dom_in.f (k : Nat) (l0 : List Int) (l1 : List Int) : Option (Bool) := (dom_right.f k l0).bind fun t => if t = true then (slices_ContainsFunc_int_int_dom_in_1.f k l1 l0).bind fun u => some (!u) else some false
theorem dom_in.mono : ∀ a0 a1 k, LeO (dom_in.f k a0 a1) (dom_in.f (k + 1) a0 a1) := by
 intro a0 a1 k
 unfold dom_in.f
 exact LeO.bind (dom_right.mono _ _) (fun _ => LeO.ite (LeO.bind (slices_ContainsFunc_int_int_dom_in_1.mono _ _ _) (fun _ => LeO.refl _)) (LeO.refl _))
set_option maxHeartbeats 8000000 in
set_option maxRecDepth 100000 in
theorem dom_in.calls (k : Nat) (A0 : Option Addr) (c0 : Nat) (l0 : List Int) (A1 : Option Addr) (c1 : Nat) (l1 : List Int) (r : Bool) (w : World) (hr0 : Kd.C (Kd.int .i64) w A0 l0.length l0) (hc0 : l0.length ≤ c0) (hr1 : Kd.C (Kd.int .i64) w A1 l1.length l1) (hc1 : l1.length ≤ c1) (h : dom_in.f k l0 l1 = some r) :
 Calls Try.prog 35 #[.slice A0 l0.length c0, .slice A1 l1.length c1] w fun e w' => e = .returned (.bool r) ∧ Below w.heap.size w w' := by
 have HR0 := Aside0.mk hr0
 have HC0 := Aside0.mk hc0
 have HR1 := Aside0.mk hr1
 have HC1 := Aside0.mk hc1
 clear hr0 hc0 hr1 hc1
 have HB := Aside0.mk (Below.refl w.heap.size w)
 have H : ((dom_right.f k l0).bind fun t => if t = true then (slices_ContainsFunc_int_int_dom_in_1.f k l1 l0).bind fun u => some (!u) else some false) = some r := h
 clear h
 replace H := Option.bind_eq_some_iff.mp H
 obtain ⟨t1, A1_, H⟩ := H
 have A3 := Aside0.mk A1_
 clear A1_
 go_enter Try.func35, Try.ntmps35
 go_upto_region 1 with (first | ((with_reducible refine gate_dst (N := 2) rfl ?_); refine box_event ?hg (N := 2) ?hd (cs := #[.slice A0 l0.length c0]) (t := 30) ?hr ?_; (case hd => rfl); (case hg => rfl); (case hr => first | (go_simp; done) | (go_simp; rfl)); intro gb hg w3 hbox hb; have n0_ := Aside0.mk (below_step (B_) hb); have n1_ := Aside0.mk (hbox); clear HB; have HB := n0_; have BK := n1_; clear n0_ n1_; clear hb hbox hg))
 have hcz : w3.cell? ⟨gb, 0, none⟩ = some (.slice A0 l0.length c0) := (blk_cell BK.out 0).trans rfl
 have hr0 := Kd.C_below HR0.out HB.out
 have hr1 := Kd.C_below HR1.out HB.out
 have HR0' := Aside0.mk hr0
 have HR1' := Aside0.mk hr1
 clear hr0 hr1
 by_cases c7 : t1 = true
 ·subst c7
  replace H : ((slices_ContainsFunc_int_int_dom_in_1.f k l1 l0).bind fun u => some (!u)) = some r := by rw [if_pos rfl] at H; exact H
  replace H := Option.bind_eq_some_iff.mp H
  obtain ⟨u1, A2_, H⟩ := H
  have A4 := Aside0.mk A2_
  clear A2_
  obtain rfl := Option.some.inj H
  clear H
  go_wp2_with (first | (go_at_call 39; (with_reducible refine (dom_right.calls k _ _ l0 true _ ?side1 ?side2 A3.out).mono ?_); (case side1 => repeat (first | exact HR0'.out | (with_reducible refine Kd.C_alloc ?_ _) | (with_reducible refine Kd.C_drewN ?_ _) | (with_reducible refine Kd.C_drew ?_))); (case side2 => exact HC0.out); rintro e w' ⟨rfl, ⟨nd, rfl⟩⟩) | (go_at_call 40; (with_reducible refine (slices_ContainsFunc_int_int_dom_in_1.calls k _ _ l1 gb A0 c0 l0 u1 _ ?side1 ?side2 ?side3 ?side4 ?side5 A4.out).mono ?_); (case side1 => repeat (first | exact HR1'.out | (with_reducible refine Kd.C_alloc ?_ _) | (with_reducible refine Kd.C_drewN ?_ _) | (with_reducible refine Kd.C_drew ?_))); (case side2 => exact HC1.out); (case side3 => repeat (first | exact HR0'.out | (with_reducible refine Kd.C_alloc ?_ _) | (with_reducible refine Kd.C_drewN ?_ _) | (with_reducible refine Kd.C_drew ?_))); (case side4 => exact HC0.out); (case side5 => exact (by first | exact hcz | simpa using hcz)); rintro e w' ⟨rfl, ⟨nd, rfl⟩⟩))
  go_ret
  exact ⟨by first | rfl | (simp; done) | (simp [*]; done), B_⟩
 replace c7 := Bool.eq_false_iff.mpr c7
 subst c7
 replace H : some false = some r := by rw [if_neg (show ¬ (false = true) by decide)] at H; exact H
 obtain rfl := Option.some.inj H
 clear H
 go_wp2_with (first | (go_at_call 39; (with_reducible refine (dom_right.calls k _ _ l0 false _ ?side1 ?side2 A3.out).mono ?_); (case side1 => repeat (first | exact HR0'.out | (with_reducible refine Kd.C_alloc ?_ _) | (with_reducible refine Kd.C_drewN ?_ _) | (with_reducible refine Kd.C_drew ?_))); (case side2 => exact HC0.out); rintro e w' ⟨rfl, ⟨nd, rfl⟩⟩))
 go_ret
 exact ⟨by first | rfl | (simp; done) | (simp [*]; done), B_⟩


/-! ### dom_Meet: function 36 -/
def dom_Meet.l0 : Nat → List Int → Int → Int → Option (Int)
 | 0, _, _, _ => none
 | k + 1, x0, x1, x2 => if x1 = x2 then (some x1) else ((dom_depth.f k x0 x1).bind fun t278 => ((dom_depth.f k x0 x2).bind fun t279 => (if t278 ≥ t279 then (if 0 ≤ x1 then (if x1 < (x0.length : Int) then (dom_Meet.l0 k x0 (rd x0 x1) x2) else (none)) else (none)) else (if 0 ≤ x2 then (if x2 < (x0.length : Int) then (dom_Meet.l0 k x0 x1 (rd x0 x2)) else (none)) else (none)))))
def dom_Meet.f (k : Nat) (l0 : List Int) (a1 : Int) (a2 : Int) : Option (Int) := (dom_in.f k l0 (([a1, a2] : List Int))).bind fun t277 => (if t277 = true then (dom_Meet.l0 k l0 a1 a2) else (some (-2)))
theorem dom_Meet.mono_l : ∀ k, (∀ y0 y1 y2, LeO (dom_Meet.l0 k y0 y1 y2) (dom_Meet.l0 (k + 1) y0 y1 y2))
 | 0 => fun _ _ _ r h => by simp [dom_Meet.l0] at h
 | k + 1 => by
  have ih0 := dom_Meet.mono_l k
  ·intro y0 y1 y2
   unfold dom_Meet.l0
   repeat' first
   | (with_reducible exact ih0 _ _ _)
   | (with_reducible exact dom_depth.mono _ _ _)
   | (with_reducible exact dom_in.mono _ _ _)
   | (with_reducible exact LeO.refl _)
   | (with_reducible exact LeO.none _)
   | (with_reducible refine LeO.ite ?_ ?_)
   | (with_reducible refine LeO.bind ?_ (fun _ => ?_))
   | exact ih0 _ _ _
   | exact dom_depth.mono _ _ _
   | exact dom_in.mono _ _ _
   | exact LeO.none _
   | refine LeO.ite ?_ ?_
   | refine LeO.bind ?_ (fun _ => ?_)
theorem dom_Meet.mono : ∀ a0 a1 a2 k, LeO (dom_Meet.f k a0 a1 a2) (dom_Meet.f (k + 1) a0 a1 a2) := by
 intro a0 a1 a2 k
 have ih0 := dom_Meet.mono_l k
 unfold dom_Meet.f
 repeat' first
  | (with_reducible exact ih0 _ _ _)
  | (with_reducible exact dom_depth.mono _ _ _)
  | (with_reducible exact dom_in.mono _ _ _)
  | (with_reducible exact LeO.refl _)
  | (with_reducible exact LeO.none _)
  | (with_reducible refine LeO.ite ?_ ?_)
  | (with_reducible refine LeO.bind ?_ (fun _ => ?_))
  | exact ih0 _ _ _
  | exact dom_depth.mono _ _ _
  | exact dom_in.mono _ _ _
  | exact LeO.none _
  | refine LeO.ite ?_ ?_
  | refine LeO.bind ?_ (fun _ => ?_)
set_option maxHeartbeats 8000000 in
set_option maxRecDepth 100000 in
theorem dom_Meet.calls (k : Nat) (A0 : Option Addr) (c0 : Nat) (l0 : List Int) (a1 : Int) (a2 : Int) (r : Int) (w : World) (hr0 : Kd.C (Kd.int .i64) w A0 l0.length l0) (hc0 : l0.length ≤ c0) (h : dom_Meet.f k l0 a1 a2 = some r) :
 Calls Try.prog 36 #[.slice A0 l0.length c0, .int .i64 a1, .int .i64 a2] w fun e w' => e = .returned (.int .i64 r) ∧ Below w.heap.size w w' := by
 have HR0 := Aside0.mk hr0
 have HC0 := Aside0.mk hc0
 clear hr0 hc0
 have HB := Aside0.mk (Below.refl w.heap.size w)
 have H : ((dom_in.f k l0 (([a1, a2] : List Int))).bind fun t277 => (if t277 = true then (dom_Meet.l0 k l0 a1 a2) else (some (-2)))) = some r := h
 clear h
 obtain ⟨y274, hy274⟩ : ∃ y_ : List Int, y_ = (([a1, a2] : List Int)) := ⟨_, rfl⟩
 replace H : ((dom_in.f k l0 y274).bind fun t277 => (if t277 = true then (dom_Meet.l0 k l0 a1 a2) else (some (-2)))) = some r := by first | (rw [hy274]; with_reducible exact H) | (have H2_ := (Option.bind_some _ _).symm.trans H; rw [hy274]; with_reducible exact H2_) | (have H2_ := (Option.bind_some _ _).symm.trans H; with_reducible exact H2_) | with_reducible exact H | (rw [hy274]; exact H) | exact H
 have Ny274 := Aside0.mk hy274
 clear hy274
 replace H := Option.bind_eq_some_iff.mp H
 obtain ⟨t277, A40, H⟩ := H
 replace H : (if t277 = true then (dom_Meet.l0 k l0 a1 a2) else (some (-2))) = some r := H
 have A4 := Aside0.mk A40
 clear A40
 by_cases c5 : t277 = true
 ·subst c5
  have H1 : (dom_Meet.l0 k l0 a1 a2) = some r := by rw [if_pos rfl] at H; exact H
  clear H
  have H := H1
  clear H1
  have H' := Aside0.mk H
  clear H
  go_enter Try.func36, Try.ntmps36
  go_wp2_with (first | ((with_reducible refine gate_dst (N := 10) rfl ?_); refine Kd.R_lit (Kd.int .i64) _ 3 ?hg (N := 10) ?hd (xs := ([a1, a2] : List Int)) (inner := [.int .i64 a1, .int .i64 a2]) (ok := fun _ => True) (okp := fun _ => True) ?hr ?hp (fun _ hk => hk) trivial (Below.refl _ _) (Nat.le_refl _) (by simp) ?_; (case hd => rfl); (case hg => rfl); (case hr => first | (go_simp; done) | (go_simp; rfl)); (case hp => exact (Reps.one (show Kd.M (Kd.int .i64) _ _ _ a1 [.int .i64 a1] from rfl) (Reps.one (show Kd.M (Kd.int .i64) _ _ _ a2 [.int .i64 a2] from rfl) (Reps.none _ _)))); intro v275 w6 ho7 hb hg_ hnew_; clear hg_ hnew_; (first | rw [← Ny274.out] at ho7 | (simp only [Int.reduceToNat] at ho7; rw [← Ny274.out] at ho7)); have n0_ := Aside0.mk (Kd.R_lower ho7 (below_size (B_))); have n1_ := Aside0.mk (below_step (B_) hb); clear HB; have HO276 := n0_; have HB := n1_; clear n0_ n1_; clear hb ho7; obtain ⟨Ao8, co8, eo8⟩ := Kd.R_slice HO276.out; subst eo8) | ((with_reducible refine gate_callee (f := 35) rfl ?_); refine goesL_ (some 11) rfl rfl Try.func35 (by kernel_rfl) rfl #[.slice A0 l0.length c0, .slice Ao8 y274.length co8] rfl (by (try simp only [List.map_toArray, List.map_cons, List.map_nil]); first | done | rfl | (simp only [List.length_drop, List.length_take]; rfl)) ?_; (with_reducible refine (dom_in.calls k _ _ l0 _ _ y274 true _ ?side1 ?side2 ?side3 ?side4 A4.out).mono ?_); (case side1 => exact CX_ (Kd.C_below HR0.out HB.out)); (case side2 => exact HC0.out); (case side3 => repeat (first | exact (Kd.R_reads' HO276.out).2.2 | (with_reducible refine Kd.C_alloc ?_ _) | (with_reducible refine Kd.C_drewN ?_ _) | (with_reducible refine Kd.C_drew ?_))); (case side4 => exact (Kd.R_reads' HO276.out).2.1); rintro e w9 ⟨rfl, hb⟩; refine ⟨_, rfl, ?_⟩; have n0_ := Aside0.mk (Kd.R_below (by exact RX_ HO276.out) hb); have n1_ := Aside0.mk (below_step (B_) hb); clear HO276; clear HB; have HO276 := n0_; have HB := n1_; clear n0_ n1_; (try clear hb); (try clear hb2); (try clear hk); (try clear hi)))
  go_loopg [1, 2] k (fun kq v1 v2 w' => ∃ (x1_1 : Int) (x2_1 : Int), v1 = .int .i64 x1_1 ∧ v2 = .int .i64 x2_1 ∧ Aside0 (dom_Meet.l0 kq l0 x1_1 x2_1 = some r) ∧ Aside0 (kq ≤ k) ∧ Aside0 (Below w.heap.size w w'))
  case atStart => exact ⟨(a1), (a2), (by first | rfl | (simp; done) | (simp [*]; done)), (by first | rfl | (simp; done) | (simp [*]; done)), H', ⟨Nat.le_refl _⟩, ⟨B_⟩⟩
  case round =>
   clear H'
   try clear c5
   obtain ⟨x1_1, x2_1, rfl, rfl, HA, HK1, HB⟩ := hrel
   cases gk with
   | zero => exact absurd HA.out (by simp [dom_Meet.l0])
   | succ k1 =>
    have H := HA.out
    clear HA
    simp only [dom_Meet.l0] at H
    by_cases c10 : x1_1 = x2_1
    ·rw [if_pos c10] at H
     have c10b0 : (x1_1 == x2_1) = true := beq_iff_eq.mpr c10
     have c10b1 : (x1_1 != x2_1) = false := bne_eq_false_iff_eq.mpr c10
     clear c10
     obtain rfl := Option.some.inj H
     go_wp2
     go_ret
     exact ⟨by first | rfl | (simp [errW_none, errW_some] <;> rfl) | (simp [*, errW_none, errW_some] <;> rfl), B_⟩
    rw [if_neg c10] at H
    have c10b0 : (x1_1 == x2_1) = false := beq_eq_false_iff_ne.mpr c10
    have c10b1 : (x1_1 != x2_1) = true := bne_iff_ne.mpr c10
    replace H := Option.bind_eq_some_iff.mp H
    obtain ⟨t278, A110, H⟩ := H
    replace H : ((dom_depth.f k1 l0 x2_1).bind fun t279 => (if t278 ≥ t279 then (if 0 ≤ x1_1 then (if x1_1 < (l0.length : Int) then (dom_Meet.l0 k1 l0 (rd l0 x1_1) x2_1) else (none)) else (none)) else (if 0 ≤ x2_1 then (if x2_1 < (l0.length : Int) then (dom_Meet.l0 k1 l0 x1_1 (rd l0 x2_1)) else (none)) else (none)))) = some r := H
    have A11 := Aside0.mk A110
    clear A110
    replace H := Option.bind_eq_some_iff.mp H
    obtain ⟨t279, A120, H⟩ := H
    replace H : (if t278 ≥ t279 then (if 0 ≤ x1_1 then (if x1_1 < (l0.length : Int) then (dom_Meet.l0 k1 l0 (rd l0 x1_1) x2_1) else (none)) else (none)) else (if 0 ≤ x2_1 then (if x2_1 < (l0.length : Int) then (dom_Meet.l0 k1 l0 x1_1 (rd l0 x2_1)) else (none)) else (none))) = some r := H
    have A12 := Aside0.mk A120
    clear A120
    by_cases c13 : t278 ≥ t279
    ·rw [if_pos c13] at H
     have c13b0 : decide (t279 ≤ t278) = true := decide_eq_true c13
     clear c13
     by_cases c14 : 0 ≤ x1_1
     ·rw [if_pos c14] at H
      have c14b0 : decide (0 ≤ x1_1) = true := decide_eq_true c14
      clear c14
      by_cases c15 : x1_1 < (l0.length : Int)
      ·rw [if_pos c15] at H
       have c15b0 : decide (x1_1 < (l0.length : Int)) = true := decide_eq_true c15
       clear c15
       have H' := Aside0.mk H
       clear H
       go_wp2_with (first | ((with_reducible refine gate_callee (f := 42) rfl ?_); refine goesL_ (some 18) rfl rfl Try.func42 (by kernel_rfl) rfl #[.slice A0 l0.length c0, .int .i64 x1_1] rfl (by (try simp only [List.map_toArray, List.map_cons, List.map_nil]); first | done | rfl | (simp only [List.length_drop, List.length_take]; rfl)) ?_; (with_reducible refine (dom_depth.calls k1 _ _ l0 x1_1 t278 _ ?side1 ?side2 A11.out).mono ?_); (case side1 => exact CX_ (Kd.C_below HR0.out HB.out)); (case side2 => exact HC0.out); rintro e w' ⟨rfl, ⟨nd, rfl⟩⟩; refine ⟨_, rfl, ?_⟩) | ((with_reducible refine gate_callee (f := 42) rfl ?_); refine goesL_ (some 21) rfl rfl Try.func42 (by kernel_rfl) rfl #[.slice A0 l0.length c0, .int .i64 x2_1] rfl (by (try simp only [List.map_toArray, List.map_cons, List.map_nil]); first | done | rfl | (simp only [List.length_drop, List.length_take]; rfl)) ?_; (with_reducible refine (dom_depth.calls k1 _ _ l0 x2_1 t279 _ ?side1 ?side2 A12.out).mono ?_); (case side1 => repeat (first | exact (Kd.C_below HR0.out (B_)) | (with_reducible refine Kd.C_alloc ?_ _) | (with_reducible refine Kd.C_drewN ?_ _) | (with_reducible refine Kd.C_drew ?_))); (case side2 => exact HC0.out); rintro e w' ⟨rfl, ⟨nd, rfl⟩⟩; refine ⟨_, rfl, ?_⟩; have p280 : 0 ≤ (x1_1 : Int) := D_; have q280 : x1_1 < (l0.length : Int) := D_; obtain ⟨ad280, e280, hx280_0⟩ := Kd.at_int HR0.out x1_1 p280 q280; cases e280; replace hx280_0 := (HB.out.cell (World.block_lt_of_cell? w _ hx280_0)).trans hx280_0; replace p280 := eq_true p280; replace q280 := eq_true q280))
       go_roundg k1
       case measure => have := HK1.out; omega
       case rel => exact ⟨(rd l0 x1_1), (x2_1), (by first | rfl | (simp; done) | (simp [*]; done)), (by first | rfl | (simp; done) | (simp [*]; done)), H', ⟨by have := HK1.out; omega⟩, ⟨B_⟩⟩
      rw [if_neg c15] at H
      exact absurd H (by simp)
     rw [if_neg c14] at H
     exact absurd H (by simp)
    rw [if_neg c13] at H
    have c13b0 : decide (t279 ≤ t278) = false := decide_eq_false c13
    clear c13
    by_cases c16 : 0 ≤ x2_1
    ·rw [if_pos c16] at H
     have c16b0 : decide (0 ≤ x2_1) = true := decide_eq_true c16
     clear c16
     by_cases c17 : x2_1 < (l0.length : Int)
     ·rw [if_pos c17] at H
      have c17b0 : decide (x2_1 < (l0.length : Int)) = true := decide_eq_true c17
      clear c17
      have H' := Aside0.mk H
      clear H
      go_wp2_with (first | ((with_reducible refine gate_callee (f := 42) rfl ?_); refine goesL_ (some 18) rfl rfl Try.func42 (by kernel_rfl) rfl #[.slice A0 l0.length c0, .int .i64 x1_1] rfl (by (try simp only [List.map_toArray, List.map_cons, List.map_nil]); first | done | rfl | (simp only [List.length_drop, List.length_take]; rfl)) ?_; (with_reducible refine (dom_depth.calls k1 _ _ l0 x1_1 t278 _ ?side1 ?side2 A11.out).mono ?_); (case side1 => exact CX_ (Kd.C_below HR0.out HB.out)); (case side2 => exact HC0.out); rintro e w' ⟨rfl, ⟨nd, rfl⟩⟩; refine ⟨_, rfl, ?_⟩) | ((with_reducible refine gate_callee (f := 42) rfl ?_); refine goesL_ (some 21) rfl rfl Try.func42 (by kernel_rfl) rfl #[.slice A0 l0.length c0, .int .i64 x2_1] rfl (by (try simp only [List.map_toArray, List.map_cons, List.map_nil]); first | done | rfl | (simp only [List.length_drop, List.length_take]; rfl)) ?_; (with_reducible refine (dom_depth.calls k1 _ _ l0 x2_1 t279 _ ?side1 ?side2 A12.out).mono ?_); (case side1 => repeat (first | exact (Kd.C_below HR0.out (B_)) | (with_reducible refine Kd.C_alloc ?_ _) | (with_reducible refine Kd.C_drewN ?_ _) | (with_reducible refine Kd.C_drew ?_))); (case side2 => exact HC0.out); rintro e w' ⟨rfl, ⟨nd, rfl⟩⟩; refine ⟨_, rfl, ?_⟩; have p281 : 0 ≤ (x2_1 : Int) := D_; have q281 : x2_1 < (l0.length : Int) := D_; obtain ⟨ad281, e281, hx281_0⟩ := Kd.at_int HR0.out x2_1 p281 q281; cases e281; replace hx281_0 := (HB.out.cell (World.block_lt_of_cell? w _ hx281_0)).trans hx281_0; replace p281 := eq_true p281; replace q281 := eq_true q281))
      go_roundg k1
      case measure => have := HK1.out; omega
      case rel => exact ⟨(x1_1), (rd l0 x2_1), (by first | rfl | (simp; done) | (simp [*]; done)), (by first | rfl | (simp; done) | (simp [*]; done)), H', ⟨by have := HK1.out; omega⟩, ⟨B_⟩⟩
     rw [if_neg c17] at H
     exact absurd H (by simp)
    rw [if_neg c16] at H
    exact absurd H (by simp)
 replace c5 := Bool.eq_false_iff.mpr c5
 subst c5
 have H1 : (some (-2)) = some r := by rw [if_neg (show ¬ (false = true) by decide)] at H; exact H
 clear H
 have H := H1
 clear H1
 obtain rfl := Option.some.inj H
 go_enter Try.func36, Try.ntmps36
 go_wp2_with (first | ((with_reducible refine gate_dst (N := 10) rfl ?_); refine Kd.R_lit (Kd.int .i64) _ 3 ?hg (N := 10) ?hd (xs := ([a1, a2] : List Int)) (inner := [.int .i64 a1, .int .i64 a2]) (ok := fun _ => True) (okp := fun _ => True) ?hr ?hp (fun _ hk => hk) trivial (Below.refl _ _) (Nat.le_refl _) (by simp) ?_; (case hd => rfl); (case hg => rfl); (case hr => first | (go_simp; done) | (go_simp; rfl)); (case hp => exact (Reps.one (show Kd.M (Kd.int .i64) _ _ _ a1 [.int .i64 a1] from rfl) (Reps.one (show Kd.M (Kd.int .i64) _ _ _ a2 [.int .i64 a2] from rfl) (Reps.none _ _)))); intro v275 w18 ho19 hb hg_ hnew_; clear hg_ hnew_; (first | rw [← Ny274.out] at ho19 | (simp only [Int.reduceToNat] at ho19; rw [← Ny274.out] at ho19)); have n0_ := Aside0.mk (Kd.R_lower ho19 (below_size (B_))); have n1_ := Aside0.mk (below_step (B_) hb); clear HB; have HO276 := n0_; have HB := n1_; clear n0_ n1_; clear hb ho19; obtain ⟨Ao20, co20, eo20⟩ := Kd.R_slice HO276.out; subst eo20) | ((with_reducible refine gate_callee (f := 35) rfl ?_); refine goesL_ (some 11) rfl rfl Try.func35 (by kernel_rfl) rfl #[.slice A0 l0.length c0, .slice Ao20 y274.length co20] rfl (by (try simp only [List.map_toArray, List.map_cons, List.map_nil]); first | done | rfl | (simp only [List.length_drop, List.length_take]; rfl)) ?_; (with_reducible refine (dom_in.calls k _ _ l0 _ _ y274 false _ ?side1 ?side2 ?side3 ?side4 A4.out).mono ?_); (case side1 => exact CX_ (Kd.C_below HR0.out HB.out)); (case side2 => exact HC0.out); (case side3 => repeat (first | exact (Kd.R_reads' HO276.out).2.2 | (with_reducible refine Kd.C_alloc ?_ _) | (with_reducible refine Kd.C_drewN ?_ _) | (with_reducible refine Kd.C_drew ?_))); (case side4 => exact (Kd.R_reads' HO276.out).2.1); rintro e w21 ⟨rfl, hb⟩; refine ⟨_, rfl, ?_⟩; have n0_ := Aside0.mk (Kd.R_below (by exact RX_ HO276.out) hb); have n1_ := Aside0.mk (below_step (B_) hb); clear HO276; clear HB; have HO276 := n0_; have HB := n1_; clear n0_ n1_; (try clear hb); (try clear hb2); (try clear hk); (try clear hi)))
 go_ret
 exact ⟨by first | rfl | (simp [errW_none, errW_some] <;> rfl) | (simp [*, errW_none, errW_some] <;> rfl), B_⟩


/-! ### dom_Over: function 28 -/
def dom_Over.f (k : Nat) (l0 : List Int) (a1 : Int) (a2 : Int) : Option (Bool) := (dom_in.f k l0 (([a1, a2] : List Int))).bind fun t285 => (if t285 = true then ((dom_Meet.f k l0 a1 a2).bind fun t286 => (some (t286 == a1))) else (some false))
theorem dom_Over.mono : ∀ a0 a1 a2 k, LeO (dom_Over.f k a0 a1 a2) (dom_Over.f (k + 1) a0 a1 a2) := by
 intro a0 a1 a2 k
 unfold dom_Over.f
 repeat' first
  | (with_reducible exact dom_Meet.mono _ _ _ _)
  | (with_reducible exact dom_in.mono _ _ _)
  | (with_reducible exact LeO.refl _)
  | (with_reducible exact LeO.none _)
  | (with_reducible refine LeO.ite ?_ ?_)
  | (with_reducible refine LeO.bind ?_ (fun _ => ?_))
  | exact dom_Meet.mono _ _ _ _
  | exact dom_in.mono _ _ _
  | exact LeO.none _
  | refine LeO.ite ?_ ?_
  | refine LeO.bind ?_ (fun _ => ?_)
set_option maxHeartbeats 8000000 in
set_option maxRecDepth 100000 in
theorem dom_Over.calls (k : Nat) (A0 : Option Addr) (c0 : Nat) (l0 : List Int) (a1 : Int) (a2 : Int) (r : Bool) (w : World) (hr0 : Kd.C (Kd.int .i64) w A0 l0.length l0) (hc0 : l0.length ≤ c0) (h : dom_Over.f k l0 a1 a2 = some r) :
 Calls Try.prog 28 #[.slice A0 l0.length c0, .int .i64 a1, .int .i64 a2] w fun e w' => e = .returned (.bool r) ∧ Below w.heap.size w w' := by
 have HR0 := Aside0.mk hr0
 have HC0 := Aside0.mk hc0
 clear hr0 hc0
 have HB := Aside0.mk (Below.refl w.heap.size w)
 have H : ((dom_in.f k l0 (([a1, a2] : List Int))).bind fun t285 => (if t285 = true then ((dom_Meet.f k l0 a1 a2).bind fun t286 => (some (t286 == a1))) else (some false))) = some r := h
 clear h
 obtain ⟨y282, hy282⟩ : ∃ y_ : List Int, y_ = (([a1, a2] : List Int)) := ⟨_, rfl⟩
 replace H : ((dom_in.f k l0 y282).bind fun t285 => (if t285 = true then ((dom_Meet.f k l0 a1 a2).bind fun t286 => (some (t286 == a1))) else (some false))) = some r := by first | (rw [hy282]; with_reducible exact H) | (have H2_ := (Option.bind_some _ _).symm.trans H; rw [hy282]; with_reducible exact H2_) | (have H2_ := (Option.bind_some _ _).symm.trans H; with_reducible exact H2_) | with_reducible exact H | (rw [hy282]; exact H) | exact H
 have Ny282 := Aside0.mk hy282
 clear hy282
 replace H := Option.bind_eq_some_iff.mp H
 obtain ⟨t285, A40, H⟩ := H
 replace H : (if t285 = true then ((dom_Meet.f k l0 a1 a2).bind fun t286 => (some (t286 == a1))) else (some false)) = some r := H
 have A4 := Aside0.mk A40
 clear A40
 by_cases c5 : t285 = true
 ·subst c5
  have H1 : ((dom_Meet.f k l0 a1 a2).bind fun t286 => (some (t286 == a1))) = some r := by rw [if_pos rfl] at H; exact H
  clear H
  have H := H1
  clear H1
  replace H := Option.bind_eq_some_iff.mp H
  obtain ⟨t286, A60, H⟩ := H
  replace H : (some (t286 == a1)) = some r := H
  have A6 := Aside0.mk A60
  clear A60
  obtain rfl := Option.some.inj H
  go_enter Try.func28, Try.ntmps28
  go_wp2_with (first | ((with_reducible refine gate_dst (N := 10) rfl ?_); refine Kd.R_lit (Kd.int .i64) _ 3 ?hg (N := 10) ?hd (xs := ([a1, a2] : List Int)) (inner := [.int .i64 a1, .int .i64 a2]) (ok := fun _ => True) (okp := fun _ => True) ?hr ?hp (fun _ hk => hk) trivial (Below.refl _ _) (Nat.le_refl _) (by simp) ?_; (case hd => rfl); (case hg => rfl); (case hr => first | (go_simp; done) | (go_simp; rfl)); (case hp => exact (Reps.one (show Kd.M (Kd.int .i64) _ _ _ a1 [.int .i64 a1] from rfl) (Reps.one (show Kd.M (Kd.int .i64) _ _ _ a2 [.int .i64 a2] from rfl) (Reps.none _ _)))); intro v283 w7 ho8 hb hg_ hnew_; clear hg_ hnew_; (first | rw [← Ny282.out] at ho8 | (simp only [Int.reduceToNat] at ho8; rw [← Ny282.out] at ho8)); have n0_ := Aside0.mk (Kd.R_lower ho8 (below_size (B_))); have n1_ := Aside0.mk (below_step (B_) hb); clear HB; have HO284 := n0_; have HB := n1_; clear n0_ n1_; clear hb ho8; obtain ⟨Ao9, co9, eo9⟩ := Kd.R_slice HO284.out; subst eo9) | ((with_reducible refine gate_callee (f := 35) rfl ?_); refine goesL_ (some 11) rfl rfl Try.func35 (by kernel_rfl) rfl #[.slice A0 l0.length c0, .slice Ao9 y282.length co9] rfl (by (try simp only [List.map_toArray, List.map_cons, List.map_nil]); first | done | rfl | (simp only [List.length_drop, List.length_take]; rfl)) ?_; (with_reducible refine (dom_in.calls k _ _ l0 _ _ y282 true _ ?side1 ?side2 ?side3 ?side4 A4.out).mono ?_); (case side1 => exact CX_ (Kd.C_below HR0.out HB.out)); (case side2 => exact HC0.out); (case side3 => repeat (first | exact (Kd.R_reads' HO284.out).2.2 | (with_reducible refine Kd.C_alloc ?_ _) | (with_reducible refine Kd.C_drewN ?_ _) | (with_reducible refine Kd.C_drew ?_))); (case side4 => exact (Kd.R_reads' HO284.out).2.1); rintro e w10 ⟨rfl, hb⟩; refine ⟨_, rfl, ?_⟩; have n0_ := Aside0.mk (Kd.R_below (by exact RX_ HO284.out) hb); have n1_ := Aside0.mk (below_step (B_) hb); clear HO284; clear HB; have HO284 := n0_; have HB := n1_; clear n0_ n1_; (try clear hb); (try clear hb2); (try clear hk); (try clear hi)) | (go_at_call 36; (with_reducible refine (dom_Meet.calls k _ _ l0 a1 a2 t286 _ ?side1 ?side2 A6.out).mono ?_); (case side1 => exact CX_ (Kd.C_below HR0.out HB.out)); (case side2 => exact HC0.out); rintro e w11 ⟨rfl, hb⟩; have n0_ := Aside0.mk (Kd.R_below (by exact RX_ HO284.out) hb); have n1_ := Aside0.mk (below_step (B_) hb); clear HO284; clear HB; have HO284 := n0_; have HB := n1_; clear n0_ n1_; (try clear hb); (try clear hb2); (try clear hk); (try clear hi)))
  go_ret
  exact ⟨by first | rfl | (simp [errW_none, errW_some] <;> rfl) | (simp [*, errW_none, errW_some] <;> rfl), B_⟩
 replace c5 := Bool.eq_false_iff.mpr c5
 subst c5
 have H1 : (some false) = some r := by rw [if_neg (show ¬ (false = true) by decide)] at H; exact H
 clear H
 have H := H1
 clear H1
 obtain rfl := Option.some.inj H
 go_enter Try.func28, Try.ntmps28
 go_wp2_with (first | ((with_reducible refine gate_dst (N := 10) rfl ?_); refine Kd.R_lit (Kd.int .i64) _ 3 ?hg (N := 10) ?hd (xs := ([a1, a2] : List Int)) (inner := [.int .i64 a1, .int .i64 a2]) (ok := fun _ => True) (okp := fun _ => True) ?hr ?hp (fun _ hk => hk) trivial (Below.refl _ _) (Nat.le_refl _) (by simp) ?_; (case hd => rfl); (case hg => rfl); (case hr => first | (go_simp; done) | (go_simp; rfl)); (case hp => exact (Reps.one (show Kd.M (Kd.int .i64) _ _ _ a1 [.int .i64 a1] from rfl) (Reps.one (show Kd.M (Kd.int .i64) _ _ _ a2 [.int .i64 a2] from rfl) (Reps.none _ _)))); intro v283 w12 ho13 hb hg_ hnew_; clear hg_ hnew_; (first | rw [← Ny282.out] at ho13 | (simp only [Int.reduceToNat] at ho13; rw [← Ny282.out] at ho13)); have n0_ := Aside0.mk (Kd.R_lower ho13 (below_size (B_))); have n1_ := Aside0.mk (below_step (B_) hb); clear HB; have HO284 := n0_; have HB := n1_; clear n0_ n1_; clear hb ho13; obtain ⟨Ao14, co14, eo14⟩ := Kd.R_slice HO284.out; subst eo14) | ((with_reducible refine gate_callee (f := 35) rfl ?_); refine goesL_ (some 11) rfl rfl Try.func35 (by kernel_rfl) rfl #[.slice A0 l0.length c0, .slice Ao14 y282.length co14] rfl (by (try simp only [List.map_toArray, List.map_cons, List.map_nil]); first | done | rfl | (simp only [List.length_drop, List.length_take]; rfl)) ?_; (with_reducible refine (dom_in.calls k _ _ l0 _ _ y282 false _ ?side1 ?side2 ?side3 ?side4 A4.out).mono ?_); (case side1 => exact CX_ (Kd.C_below HR0.out HB.out)); (case side2 => exact HC0.out); (case side3 => repeat (first | exact (Kd.R_reads' HO284.out).2.2 | (with_reducible refine Kd.C_alloc ?_ _) | (with_reducible refine Kd.C_drewN ?_ _) | (with_reducible refine Kd.C_drew ?_))); (case side4 => exact (Kd.R_reads' HO284.out).2.1); rintro e w15 ⟨rfl, hb⟩; refine ⟨_, rfl, ?_⟩; have n0_ := Aside0.mk (Kd.R_below (by exact RX_ HO284.out) hb); have n1_ := Aside0.mk (below_step (B_) hb); clear HO284; clear HB; have HO284 := n0_; have HB := n1_; clear n0_ n1_; (try clear hb); (try clear hb2); (try clear hk); (try clear hi)))
 go_ret
 exact ⟨by first | rfl | (simp [errW_none, errW_some] <;> rfl) | (simp [*, errW_none, errW_some] <;> rfl), B_⟩

/-! ### pdom_Over: function 13 -/
def pdom_Over.f (k : Nat) (l0 : List Int) (a1 : Int) (a2 : Int) : Option (Bool) := (dom_Over.f k l0 a1 a2).bind fun t287 => (some t287)
theorem pdom_Over.mono : ∀ a0 a1 a2 k, LeO (pdom_Over.f k a0 a1 a2) (pdom_Over.f (k + 1) a0 a1 a2) := by
 intro a0 a1 a2 k
 unfold pdom_Over.f
 repeat' first
  | (with_reducible exact dom_Over.mono _ _ _ _)
  | (with_reducible exact LeO.refl _)
  | (with_reducible exact LeO.none _)
  | (with_reducible refine LeO.ite ?_ ?_)
  | (with_reducible refine LeO.bind ?_ (fun _ => ?_))
  | exact dom_Over.mono _ _ _ _
  | exact LeO.none _
  | refine LeO.ite ?_ ?_
  | refine LeO.bind ?_ (fun _ => ?_)
set_option maxHeartbeats 8000000 in
set_option maxRecDepth 100000 in
theorem pdom_Over.calls (k : Nat) (A0 : Option Addr) (c0 : Nat) (l0 : List Int) (a1 : Int) (a2 : Int) (r : Bool) (w : World) (hr0 : Kd.C (Kd.int .i64) w A0 l0.length l0) (hc0 : l0.length ≤ c0) (h : pdom_Over.f k l0 a1 a2 = some r) :
 Calls Try.prog 13 #[.slice A0 l0.length c0, .int .i64 a1, .int .i64 a2] w fun e w' => e = .returned (.bool r) ∧ Below w.heap.size w w' := by
 have HR0 := Aside0.mk hr0
 have HC0 := Aside0.mk hc0
 clear hr0 hc0
 have HB := Aside0.mk (Below.refl w.heap.size w)
 have H : ((dom_Over.f k l0 a1 a2).bind fun t287 => (some t287)) = some r := h
 clear h
 replace H := Option.bind_eq_some_iff.mp H
 obtain ⟨t287, A40, H⟩ := H
 replace H : (some t287) = some r := H
 have A4 := Aside0.mk A40
 clear A40
 obtain rfl := Option.some.inj H
 go_enter Try.func13, Try.ntmps13
 go_wp2_with (first | ((with_reducible refine gate_callee (f := 28) rfl ?_); refine goesL_ (some 10) rfl rfl Try.func28 (by kernel_rfl) rfl #[.slice A0 l0.length c0, .int .i64 a1, .int .i64 a2] rfl (by (try simp only [List.map_toArray, List.map_cons, List.map_nil]); first | done | rfl | (simp only [List.length_drop, List.length_take]; rfl)) ?_; (with_reducible refine (dom_Over.calls k _ _ l0 a1 a2 t287 _ ?side1 ?side2 A4.out).mono ?_); (case side1 => exact CX_ HR0.out); (case side2 => exact HC0.out); rintro e w5 ⟨rfl, hb⟩; refine ⟨_, rfl, ?_⟩; have n0_ := Aside0.mk (below_step (B_) hb); clear HB; have HB := n0_; clear n0_; (try clear hb); (try clear hb2); (try clear hk); (try clear hi)))
 go_ret
 exact ⟨by first | rfl | (simp [errW_none, errW_some] <;> rfl) | (simp [*, errW_none, errW_some] <;> rfl), B_⟩


/-! ### locksteplaw08_awake: function 7 -/
def locksteplaw08_awake.f (k : Nat)  : Option (Bool) := (graph_Make.f k (([(([1, 2] : List Int)), (([3] : List Int)), (([3] : List Int)), []] : List (List Int)))).bind fun bt302 => ((pdom_Exit.f k bt302.1 bt302.2.1).bind fun bt310 => ((pdom_Tree.f k bt302.1 bt302.2.1).bind fun t318 => (if bt302.2.2 = 0 then (if bt310.2.2 = 0 then (if (bt310.1.length : Int) = 5 then (if 3 < (bt310.1.length : Int) then (if ((rd_L1 bt310.1 3).length : Int) = 1 then (if 0 < ((rd_L1 bt310.1 3).length : Int) then (if (rd (rd_L1 bt310.1 3) 0) = 4 then ((lockstepref02_Ints.f k t318 (([3, 3, 3, 4, (-1)] : List Int))).bind fun t327 => (if t327 = true then ((pdom_Over.f k t318 3 0).bind fun t328 => (if t328 = true then ((pdom_Shut.f k bt302.1 bt302.2.1).bind fun t329 => (some ((t329.length : Int) == 0))) else (some false))) else (some false))) else (some false)) else (none)) else (some false)) else (none)) else (some false)) else (some false)) else (some false))))
theorem locksteplaw08_awake.mono : ∀ k, LeO (locksteplaw08_awake.f k ) (locksteplaw08_awake.f (k + 1) ) := by
 intro  k
 unfold locksteplaw08_awake.f
 repeat' first
  | (with_reducible exact graph_Make.mono _ _)
  | (with_reducible exact lockstepref02_Ints.mono _ _ _)
  | (with_reducible exact pdom_Exit.mono _ _ _)
  | (with_reducible exact pdom_Over.mono _ _ _ _)
  | (with_reducible exact pdom_Shut.mono _ _ _)
  | (with_reducible exact pdom_Tree.mono _ _ _)
  | (with_reducible exact LeO.refl _)
  | (with_reducible exact LeO.none _)
  | (with_reducible refine LeO.ite ?_ ?_)
  | (with_reducible refine LeO.bind ?_ (fun _ => ?_))
  | exact graph_Make.mono _ _
  | exact lockstepref02_Ints.mono _ _ _
  | exact pdom_Exit.mono _ _ _
  | exact pdom_Over.mono _ _ _ _
  | exact pdom_Shut.mono _ _ _
  | exact pdom_Tree.mono _ _ _
  | exact LeO.none _
  | refine LeO.ite ?_ ?_
  | refine LeO.bind ?_ (fun _ => ?_)
set_option maxHeartbeats 8000000 in
set_option maxRecDepth 100000 in
theorem locksteplaw08_awake.calls (k : Nat)  (w : World) (h : locksteplaw08_awake.f k  = some true) :
 Calls Try.prog 7 #[] w fun e w' => e = .returned (.bool true) ∧ Below w.heap.size w w' := by
 have hu26 := Try.underlying26
 have HB := Aside0.mk (Below.refl w.heap.size w)
 have H : ((graph_Make.f k (([(([1, 2] : List Int)), (([3] : List Int)), (([3] : List Int)), []] : List (List Int)))).bind fun bt302 => ((pdom_Exit.f k bt302.1 bt302.2.1).bind fun bt310 => ((pdom_Tree.f k bt302.1 bt302.2.1).bind fun t318 => (if bt302.2.2 = 0 then (if bt310.2.2 = 0 then (if (bt310.1.length : Int) = 5 then (if 3 < (bt310.1.length : Int) then (if ((rd_L1 bt310.1 3).length : Int) = 1 then (if 0 < ((rd_L1 bt310.1 3).length : Int) then (if (rd (rd_L1 bt310.1 3) 0) = 4 then ((lockstepref02_Ints.f k t318 (([3, 3, 3, 4, (-1)] : List Int))).bind fun t327 => (if t327 = true then ((pdom_Over.f k t318 3 0).bind fun t328 => (if t328 = true then ((pdom_Shut.f k bt302.1 bt302.2.1).bind fun t329 => (some ((t329.length : Int) == 0))) else (some false))) else (some false))) else (some false)) else (none)) else (some false)) else (none)) else (some false)) else (some false)) else (some false))))) = some true := h
 clear h
 obtain ⟨y290, hy290⟩ : ∃ y_ : List Int, y_ = (([1, 2] : List Int)) := ⟨_, rfl⟩
 replace H : ((graph_Make.f k (([y290, (([3] : List Int)), (([3] : List Int)), []] : List (List Int)))).bind fun bt302 => ((pdom_Exit.f k bt302.1 bt302.2.1).bind fun bt310 => ((pdom_Tree.f k bt302.1 bt302.2.1).bind fun t318 => (if bt302.2.2 = 0 then (if bt310.2.2 = 0 then (if (bt310.1.length : Int) = 5 then (if 3 < (bt310.1.length : Int) then (if ((rd_L1 bt310.1 3).length : Int) = 1 then (if 0 < ((rd_L1 bt310.1 3).length : Int) then (if (rd (rd_L1 bt310.1 3) 0) = 4 then ((lockstepref02_Ints.f k t318 (([3, 3, 3, 4, (-1)] : List Int))).bind fun t327 => (if t327 = true then ((pdom_Over.f k t318 3 0).bind fun t328 => (if t328 = true then ((pdom_Shut.f k bt302.1 bt302.2.1).bind fun t329 => (some ((t329.length : Int) == 0))) else (some false))) else (some false))) else (some false)) else (none)) else (some false)) else (none)) else (some false)) else (some false)) else (some false))))) = some true := by first | (rw [hy290]; with_reducible exact H) | (have H2_ := (Option.bind_some _ _).symm.trans H; rw [hy290]; with_reducible exact H2_) | (have H2_ := (Option.bind_some _ _).symm.trans H; with_reducible exact H2_) | with_reducible exact H | (rw [hy290]; exact H) | exact H
 have Ny290 := Aside0.mk hy290
 clear hy290
 obtain ⟨y293, hy293⟩ : ∃ y_ : List Int, y_ = (([3] : List Int)) := ⟨_, rfl⟩
 replace H : ((graph_Make.f k (([y290, y293, (([3] : List Int)), []] : List (List Int)))).bind fun bt302 => ((pdom_Exit.f k bt302.1 bt302.2.1).bind fun bt310 => ((pdom_Tree.f k bt302.1 bt302.2.1).bind fun t318 => (if bt302.2.2 = 0 then (if bt310.2.2 = 0 then (if (bt310.1.length : Int) = 5 then (if 3 < (bt310.1.length : Int) then (if ((rd_L1 bt310.1 3).length : Int) = 1 then (if 0 < ((rd_L1 bt310.1 3).length : Int) then (if (rd (rd_L1 bt310.1 3) 0) = 4 then ((lockstepref02_Ints.f k t318 (([3, 3, 3, 4, (-1)] : List Int))).bind fun t327 => (if t327 = true then ((pdom_Over.f k t318 3 0).bind fun t328 => (if t328 = true then ((pdom_Shut.f k bt302.1 bt302.2.1).bind fun t329 => (some ((t329.length : Int) == 0))) else (some false))) else (some false))) else (some false)) else (none)) else (some false)) else (none)) else (some false)) else (some false)) else (some false))))) = some true := by first | (rw [hy293]; with_reducible exact H) | (have H2_ := (Option.bind_some _ _).symm.trans H; rw [hy293]; with_reducible exact H2_) | (have H2_ := (Option.bind_some _ _).symm.trans H; with_reducible exact H2_) | with_reducible exact H | (rw [hy293]; exact H) | exact H
 have Ny293 := Aside0.mk hy293
 clear hy293
 obtain ⟨y296, hy296⟩ : ∃ y_ : List Int, y_ = (([3] : List Int)) := ⟨_, rfl⟩
 replace H : ((graph_Make.f k (([y290, y293, y296, []] : List (List Int)))).bind fun bt302 => ((pdom_Exit.f k bt302.1 bt302.2.1).bind fun bt310 => ((pdom_Tree.f k bt302.1 bt302.2.1).bind fun t318 => (if bt302.2.2 = 0 then (if bt310.2.2 = 0 then (if (bt310.1.length : Int) = 5 then (if 3 < (bt310.1.length : Int) then (if ((rd_L1 bt310.1 3).length : Int) = 1 then (if 0 < ((rd_L1 bt310.1 3).length : Int) then (if (rd (rd_L1 bt310.1 3) 0) = 4 then ((lockstepref02_Ints.f k t318 (([3, 3, 3, 4, (-1)] : List Int))).bind fun t327 => (if t327 = true then ((pdom_Over.f k t318 3 0).bind fun t328 => (if t328 = true then ((pdom_Shut.f k bt302.1 bt302.2.1).bind fun t329 => (some ((t329.length : Int) == 0))) else (some false))) else (some false))) else (some false)) else (none)) else (some false)) else (none)) else (some false)) else (some false)) else (some false))))) = some true := by first | (rw [hy296]; with_reducible exact H) | (have H2_ := (Option.bind_some _ _).symm.trans H; rw [hy296]; with_reducible exact H2_) | (have H2_ := (Option.bind_some _ _).symm.trans H; with_reducible exact H2_) | with_reducible exact H | (rw [hy296]; exact H) | exact H
 have Ny296 := Aside0.mk hy296
 clear hy296
 obtain ⟨y299, hy299⟩ : ∃ y_ : List (List Int), y_ = (([y290, y293, y296, []] : List (List Int))) := ⟨_, rfl⟩
 replace H : ((graph_Make.f k y299).bind fun bt302 => ((pdom_Exit.f k bt302.1 bt302.2.1).bind fun bt310 => ((pdom_Tree.f k bt302.1 bt302.2.1).bind fun t318 => (if bt302.2.2 = 0 then (if bt310.2.2 = 0 then (if (bt310.1.length : Int) = 5 then (if 3 < (bt310.1.length : Int) then (if ((rd_L1 bt310.1 3).length : Int) = 1 then (if 0 < ((rd_L1 bt310.1 3).length : Int) then (if (rd (rd_L1 bt310.1 3) 0) = 4 then ((lockstepref02_Ints.f k t318 (([3, 3, 3, 4, (-1)] : List Int))).bind fun t327 => (if t327 = true then ((pdom_Over.f k t318 3 0).bind fun t328 => (if t328 = true then ((pdom_Shut.f k bt302.1 bt302.2.1).bind fun t329 => (some ((t329.length : Int) == 0))) else (some false))) else (some false))) else (some false)) else (none)) else (some false)) else (none)) else (some false)) else (some false)) else (some false))))) = some true := by first | (rw [hy299]; with_reducible exact H) | (have H2_ := (Option.bind_some _ _).symm.trans H; rw [hy299]; with_reducible exact H2_) | (have H2_ := (Option.bind_some _ _).symm.trans H; with_reducible exact H2_) | with_reducible exact H | (rw [hy299]; exact H) | exact H
 have Ny299 := Aside0.mk hy299
 clear hy299
 replace H := Option.bind_eq_some_iff.mp H
 obtain ⟨⟨t302, t305, t308⟩, A10, H⟩ := H
 replace H : ((pdom_Exit.f k t302 t305).bind fun bt310 => ((pdom_Tree.f k t302 t305).bind fun t318 => (if t308 = 0 then (if bt310.2.2 = 0 then (if (bt310.1.length : Int) = 5 then (if 3 < (bt310.1.length : Int) then (if ((rd_L1 bt310.1 3).length : Int) = 1 then (if 0 < ((rd_L1 bt310.1 3).length : Int) then (if (rd (rd_L1 bt310.1 3) 0) = 4 then ((lockstepref02_Ints.f k t318 (([3, 3, 3, 4, (-1)] : List Int))).bind fun t327 => (if t327 = true then ((pdom_Over.f k t318 3 0).bind fun t328 => (if t328 = true then ((pdom_Shut.f k t302 t305).bind fun t329 => (some ((t329.length : Int) == 0))) else (some false))) else (some false))) else (some false)) else (none)) else (some false)) else (none)) else (some false)) else (some false)) else (some false)))) = some true := H
 have A1 := Aside0.mk A10
 clear A10
 replace H := Option.bind_eq_some_iff.mp H
 obtain ⟨⟨t310, t313, t316⟩, A20, H⟩ := H
 replace H : ((pdom_Tree.f k t302 t305).bind fun t318 => (if t308 = 0 then (if t316 = 0 then (if (t310.length : Int) = 5 then (if 3 < (t310.length : Int) then (if ((rd_L1 t310 3).length : Int) = 1 then (if 0 < ((rd_L1 t310 3).length : Int) then (if (rd (rd_L1 t310 3) 0) = 4 then ((lockstepref02_Ints.f k t318 (([3, 3, 3, 4, (-1)] : List Int))).bind fun t327 => (if t327 = true then ((pdom_Over.f k t318 3 0).bind fun t328 => (if t328 = true then ((pdom_Shut.f k t302 t305).bind fun t329 => (some ((t329.length : Int) == 0))) else (some false))) else (some false))) else (some false)) else (none)) else (some false)) else (none)) else (some false)) else (some false)) else (some false))) = some true := H
 have A2 := Aside0.mk A20
 clear A20
 replace H := Option.bind_eq_some_iff.mp H
 obtain ⟨t318, A30, H⟩ := H
 replace H : (if t308 = 0 then (if t316 = 0 then (if (t310.length : Int) = 5 then (if 3 < (t310.length : Int) then (if ((rd_L1 t310 3).length : Int) = 1 then (if 0 < ((rd_L1 t310 3).length : Int) then (if (rd (rd_L1 t310 3) 0) = 4 then ((lockstepref02_Ints.f k t318 (([3, 3, 3, 4, (-1)] : List Int))).bind fun t327 => (if t327 = true then ((pdom_Over.f k t318 3 0).bind fun t328 => (if t328 = true then ((pdom_Shut.f k t302 t305).bind fun t329 => (some ((t329.length : Int) == 0))) else (some false))) else (some false))) else (some false)) else (none)) else (some false)) else (none)) else (some false)) else (some false)) else (some false)) = some true := H
 have A3 := Aside0.mk A30
 clear A30
 by_cases c4 : t308 = 0
 ·rw [if_pos c4] at H
  have c4b0 : (t308 == 0) = true := beq_iff_eq.mpr c4
  have c4b1 : (t308 != 0) = false := bne_eq_false_iff_eq.mpr c4
  clear c4
  by_cases c5 : t316 = 0
  ·rw [if_pos c5] at H
   have c5b0 : (t316 == 0) = true := beq_iff_eq.mpr c5
   have c5b1 : (t316 != 0) = false := bne_eq_false_iff_eq.mpr c5
   clear c5
   by_cases c6 : (t310.length : Int) = 5
   ·rw [if_pos c6] at H
    have c6b0 : ((t310.length : Int) == 5) = true := beq_iff_eq.mpr c6
    have c6b1 : ((t310.length : Int) != 5) = false := bne_eq_false_iff_eq.mpr c6
    clear c6
    by_cases c7 : 3 < (t310.length : Int)
    ·rw [if_pos c7] at H
     have c7b0 : decide (3 < (t310.length : Int)) = true := decide_eq_true c7
     have c7b1 : decide (3 < t310.length) = true := decide_eq_true (by omega)
     clear c7
     by_cases c8 : ((rd_L1 t310 3).length : Int) = 1
     ·rw [if_pos c8] at H
      have c8b0 : (((rd_L1 t310 3).length : Int) == 1) = true := beq_iff_eq.mpr c8
      have c8b1 : (((rd_L1 t310 3).length : Int) != 1) = false := bne_eq_false_iff_eq.mpr c8
      clear c8
      by_cases c9 : 0 < ((rd_L1 t310 3).length : Int)
      ·rw [if_pos c9] at H
       have c9b0 : decide (0 < ((rd_L1 t310 3).length : Int)) = true := decide_eq_true c9
       have c9b1 : decide (0 < (rd_L1 t310 3).length) = true := decide_eq_true (by omega)
       clear c9
       by_cases c10 : (rd (rd_L1 t310 3) 0) = 4
       ·rw [if_pos c10] at H
        have c10b0 : ((rd (rd_L1 t310 3) 0) == 4) = true := beq_iff_eq.mpr c10
        have c10b1 : ((rd (rd_L1 t310 3) 0) != 4) = false := bne_eq_false_iff_eq.mpr c10
        clear c10
        obtain ⟨y324, hy324⟩ : ∃ y_ : List Int, y_ = (([3, 3, 3, 4, (-1)] : List Int)) := ⟨_, rfl⟩
        replace H : ((lockstepref02_Ints.f k t318 y324).bind fun t327 => (if t327 = true then ((pdom_Over.f k t318 3 0).bind fun t328 => (if t328 = true then ((pdom_Shut.f k t302 t305).bind fun t329 => (some ((t329.length : Int) == 0))) else (some false))) else (some false))) = some true := by first | (rw [hy324]; with_reducible exact H) | (have H2_ := (Option.bind_some _ _).symm.trans H; rw [hy324]; with_reducible exact H2_) | (have H2_ := (Option.bind_some _ _).symm.trans H; with_reducible exact H2_) | with_reducible exact H | (rw [hy324]; exact H) | exact H
        have Ny324 := Aside0.mk hy324
        clear hy324
        replace H := Option.bind_eq_some_iff.mp H
        obtain ⟨t327, A110, H⟩ := H
        replace H : (if t327 = true then ((pdom_Over.f k t318 3 0).bind fun t328 => (if t328 = true then ((pdom_Shut.f k t302 t305).bind fun t329 => (some ((t329.length : Int) == 0))) else (some false))) else (some false)) = some true := H
        have A11 := Aside0.mk A110
        clear A110
        by_cases c12 : t327 = true
        ·subst c12
         have H1 : ((pdom_Over.f k t318 3 0).bind fun t328 => (if t328 = true then ((pdom_Shut.f k t302 t305).bind fun t329 => (some ((t329.length : Int) == 0))) else (some false))) = some true := by rw [if_pos rfl] at H; exact H
         clear H
         have H := H1
         clear H1
         replace H := Option.bind_eq_some_iff.mp H
         obtain ⟨t328, A130, H⟩ := H
         replace H : (if t328 = true then ((pdom_Shut.f k t302 t305).bind fun t329 => (some ((t329.length : Int) == 0))) else (some false)) = some true := H
         have A13 := Aside0.mk A130
         clear A130
         by_cases c14 : t328 = true
         ·subst c14
          have H1 : ((pdom_Shut.f k t302 t305).bind fun t329 => (some ((t329.length : Int) == 0))) = some true := by rw [if_pos rfl] at H; exact H
          clear H
          have H := H1
          clear H1
          replace H := Option.bind_eq_some_iff.mp H
          obtain ⟨t329, A150, H⟩ := H
          replace H : (some ((t329.length : Int) == 0)) = some true := H
          have A15 := Aside0.mk A150
          clear A150
          have HR_ := Aside0.mk (Option.some.inj H)
          clear H
          go_enter Try.func7, Try.ntmps7
          go_wp2_with (first | ((with_reducible refine gate_dst (N := 7) rfl ?_); (try (refine gate_guard (by rfl) ?_; dsimp only)); refine Kd.R_lit (Kd.int .i64) _ 3 ?hg (N := 7) ?hd (xs := ([1, 2] : List Int)) (inner := [.int .i64 1, .int .i64 2]) (ok := fun _ => True) (okp := fun _ => True) ?hr ?hp (fun _ hk => hk) trivial (Below.refl _ _) (Nat.le_refl _) (by simp) ?_; (case hd => rfl); (case hg => rfl); (case hr => first | (go_simp; done) | (go_simp; rfl)); (case hp => exact (Reps.one (show Kd.M (Kd.int .i64) _ _ _ 1 [.int .i64 1] from rfl) (Reps.one (show Kd.M (Kd.int .i64) _ _ _ 2 [.int .i64 2] from rfl) (Reps.none _ _)))); intro v291 w16 ho17 hb hg_ hnew_; clear hg_ hnew_; (first | rw [← Ny290.out] at ho17 | (simp only [Int.reduceToNat] at ho17; rw [← Ny290.out] at ho17)); have n0_ := Aside0.mk (Kd.R_lower ho17 (below_size (B_))); have n1_ := Aside0.mk (below_step (B_) hb); clear HB; have HO292 := n0_; have HB := n1_; clear n0_ n1_; clear hb ho17) | ((with_reducible refine gate_dst (N := 8) rfl ?_); (try (refine gate_guard (by rfl) ?_; dsimp only)); refine Kd.R_lit (Kd.int .i64) _ 3 ?hg (N := 8) ?hd (xs := ([3] : List Int)) (inner := [.int .i64 3]) (ok := fun _ => True) (okp := fun _ => True) ?hr ?hp (fun _ hk => hk) trivial (Below.refl _ _) (Nat.le_refl _) (by simp) ?_; (case hd => rfl); (case hg => rfl); (case hr => first | (go_simp; done) | (go_simp; rfl)); (case hp => exact (Reps.one (show Kd.M (Kd.int .i64) _ _ _ 3 [.int .i64 3] from rfl) (Reps.none _ _))); intro v294 w18 ho19 hb hg_ hnew_; clear hg_ hnew_; (first | rw [← Ny293.out] at ho19 | (simp only [Int.reduceToNat] at ho19; rw [← Ny293.out] at ho19)); have n0_ := Aside0.mk (Kd.R_elder' (by exact RX_ HO292.out) (Kd.R_base ho19) hb); have n1_ := Aside0.mk (Kd.R_lower (Kd.R_new' ho19 (Kd.R_lt (by exact RX_ HO292.out))) (below_size (B_))); have n2_ := Aside0.mk (below_step (B_) hb); clear HO292; clear HB; have HO292 := n0_; have HO295 := n1_; have HB := n2_; clear n0_ n1_ n2_; clear hb ho19) | ((with_reducible refine gate_dst (N := 9) rfl ?_); (try (refine gate_guard (by rfl) ?_; dsimp only)); refine Kd.R_lit (Kd.int .i64) _ 3 ?hg (N := 9) ?hd (xs := ([3] : List Int)) (inner := [.int .i64 3]) (ok := fun _ => True) (okp := fun _ => True) ?hr ?hp (fun _ hk => hk) trivial (Below.refl _ _) (Nat.le_refl _) (by simp) ?_; (case hd => rfl); (case hg => rfl); (case hr => first | (go_simp; done) | (go_simp; rfl)); (case hp => exact (Reps.one (show Kd.M (Kd.int .i64) _ _ _ 3 [.int .i64 3] from rfl) (Reps.none _ _))); intro v297 w20 ho21 hb hg_ hnew_; clear hg_ hnew_; (first | rw [← Ny296.out] at ho21 | (simp only [Int.reduceToNat] at ho21; rw [← Ny296.out] at ho21)); have n0_ := Aside0.mk (Kd.R_elder' (by exact RX_ HO292.out) (Kd.R_base ho21) hb); have n1_ := Aside0.mk (Kd.R_elder' (by exact RX_ HO295.out) (Kd.R_base ho21) hb); have n2_ := Aside0.mk (Kd.R_lower (Kd.R_new' (Kd.R_new' ho21 (Kd.R_lt (by exact RX_ HO292.out))) (Kd.R_lt (by exact RX_ HO295.out))) (below_size (B_))); have n3_ := Aside0.mk (below_step (B_) hb); clear HO292; clear HO295; clear HB; have HO292 := n0_; have HO295 := n1_; have HO298 := n2_; have HB := n3_; clear n0_ n1_ n2_ n3_; clear hb ho21; obtain ⟨Ao22, co22, eo22⟩ := Kd.R_slice HO292.out; subst eo22; obtain ⟨Ao23, co23, eo23⟩ := Kd.R_slice HO295.out; subst eo23; obtain ⟨Ao24, co24, eo24⟩ := Kd.R_slice HO298.out; subst eo24) | ((with_reducible refine gate_dst (N := 10) rfl ?_); (try (refine gate_guard (by rfl) ?_; dsimp only)); refine Kd.N_lit (Kd.slice 3 (Kd.int .i64)) _ 30 ?hg (N' := 10) ?hd (xs := ([y290, y293, y296, []] : List (List Int))) (inner := [.slice Ao22 y290.length co22, .slice Ao23 y293.length co23, .slice Ao24 y296.length co24, .slice none 0 0]) (ok := (fun _ => True)) (okp := (fun _ => True)) ?hr ?hp (fun _ hk => hk) ((show ∀ k_, w20.heap.size ≤ k_ → (fun _ => True) k_ from fun k_ hk => trivial) _ (Nat.le_refl _)) (Below.refl _ _) (Nat.le_refl _) (by simp) ?_; (case hd => rfl); (case hg => rfl); (case hr => first | (go_simp; done) | (go_simp; rfl)); (case hp => exact (Reps.one (show Kd.FK (Kd.slice 3 (Kd.int .i64)) _ _ y290 [.slice Ao22 y290.length co22] from (Kd.FK_slice_mk (Kd.R_reads' (Kd.R_mono (ok' := (fun _ => True)) (HO292.out) (fun k_ hk => trivial))).2.1 (Kd.R_F (Kd.R_mono (ok' := (fun _ => True)) (HO292.out) (fun k_ hk => trivial))))) (Reps.one (show Kd.FK (Kd.slice 3 (Kd.int .i64)) _ _ y293 [.slice Ao23 y293.length co23] from (Kd.FK_slice_mk (Kd.R_reads' (Kd.R_mono (ok' := (fun _ => True)) (HO295.out) (fun k_ hk => trivial))).2.1 (Kd.R_F (Kd.R_mono (ok' := (fun _ => True)) (HO295.out) (fun k_ hk => trivial))))) (Reps.one (show Kd.FK (Kd.slice 3 (Kd.int .i64)) _ _ y296 [.slice Ao24 y296.length co24] from (Kd.FK_slice_mk (Kd.R_reads' (Kd.R_mono (ok' := (fun _ => True)) (HO298.out) (fun k_ hk => trivial))).2.1 (Kd.R_F (Kd.R_mono (ok' := (fun _ => True)) (HO298.out) (fun k_ hk => trivial))))) (Reps.one (show Kd.FK (Kd.slice 3 (Kd.int .i64)) _ _ [] [.slice none 0 0] from (Kd.FK_slice_mk (Nat.le_refl _) (Kd.F_nil _ _ _))) (Reps.none _ _)))))); intro v300 w25 ho26 hb hg_ hnew_; clear hg_ hnew_; (first | rw [← Ny299.out] at ho26 | (simp only [Int.reduceToNat] at ho26; rw [← Ny299.out] at ho26)); have n0_ := Aside0.mk (Kd.N_lower ho26 (below_size (B_))); have n1_ := Aside0.mk (below_step (B_) hb); clear HB; clear HO292; clear HO295; clear HO298; have HO301 := n0_; have HB := n1_; clear n0_ n1_; clear hb ho26; obtain ⟨Ao27, co27, eo27⟩ := Kd.N_slice HO301.out; subst eo27) | ((with_reducible refine gate_callee (f := 9) rfl ?_); refine goesL_ (some 11) rfl rfl Try.func9 (by kernel_rfl) rfl #[.slice Ao27 y299.length co27] rfl (by (try simp only [List.map_toArray, List.map_cons, List.map_nil]); first | done | rfl | (simp only [List.length_drop, List.length_take]; rfl)) ?_; (with_reducible refine (graph_Make.calls k _ _ y299 t302 t305 t308 _ ?side1 ?side2 A1.out).mono ?_); (case side1 => repeat (first | exact (Kd.N_reads' HO301.out).2.2 | (with_reducible refine Kd.C_alloc ?_ _) | (with_reducible refine Kd.C_drewN ?_ _) | (with_reducible refine Kd.C_drew ?_))); (case side2 => exact (Kd.N_reads' HO301.out).2.1); rintro e w28 ⟨v303, v306, rfl, ho0, ho1, hb⟩; refine ⟨_, rfl, ?_⟩; have n0_ := Aside0.mk (Kd.N_mono (Kd.N_told (Kd.N_told (Kd.N_old (by (with_reducible repeat (first | apply Kd.N_alloc | apply Kd.N_drewN | apply Kd.N_drew)); exact HO301.out) hb) (Kd.N_base (Kd.S_N ho0))) (Kd.N_base (Kd.S_N ho1))) (fun _ h_ => h_.1)); have n1_ := Aside0.mk (Kd.N_lower (Kd.N_mono (ok' := fun k_ => some k_ ≠ (v306 : Value).ownBlock ∧ some k_ ≠ (.slice Ao27 y299.length co27 : Value).ownBlock) (Kd.S_N (Kd.S_bound ho0)) (fun k_ hk_ => ⟨hk_.1, (Kd.fresh' (Kd.N_lt (by (with_reducible repeat (first | apply Kd.N_alloc | apply Kd.N_drewN | apply Kd.N_drew)); exact HO301.out)) k_ hk_.2.1)⟩)) (below_size (B_))); have n2_ := Aside0.mk (Kd.N_lower (Kd.N_mono (ok' := fun k_ => some k_ ≠ (v303 : Value).ownBlock ∧ some k_ ≠ (.slice Ao27 y299.length co27 : Value).ownBlock) (Kd.S_N (Kd.S_bound ho1)) (fun k_ hk_ => ⟨hk_.1, (Kd.fresh' (Kd.N_lt (by (with_reducible repeat (first | apply Kd.N_alloc | apply Kd.N_drewN | apply Kd.N_drew)); exact HO301.out)) k_ hk_.2.1)⟩)) (below_size (B_))); have n3_ := Aside0.mk (below_step (B_) hb); clear HO301; clear HB; have HO301 := n0_; have HO304 := n1_; have HO307 := n2_; have HB := n3_; clear n0_ n1_ n2_ n3_; (try clear hb); (try clear hb2); (try clear hk); (try clear hi); (try clear ho0); (try clear ho1)) | ((with_reducible refine gate_dst (N := 1) rfl ?_); (try (refine gate_guard (by rfl) ?_; dsimp only)); refine box_event ?hg (N := 1) ?hd (cs := #[.slice none 0 0, .slice none 0 0]) (t := 26) ?hr ?_; (case hd => rfl); (case hg => rfl); (case hr => first | (go_simp; done) | (go_simp; rfl)); intro gb309 hg w29 hbox hb; have n0_ := Aside0.mk (Kd.N_below (Kd.N_elderB (by (with_reducible repeat (first | apply Kd.N_alloc | apply Kd.N_drewN | apply Kd.N_drew)); exact HO301.out) gb309 (Nat.le_of_eq hg.symm)) hb); have n1_ := Aside0.mk (Kd.N_below (Kd.N_elderB (by (with_reducible repeat (first | apply Kd.N_alloc | apply Kd.N_drewN | apply Kd.N_drew)); exact HO304.out) gb309 (Nat.le_of_eq hg.symm)) hb); have n2_ := Aside0.mk (Kd.N_below (Kd.N_elderB (by (with_reducible repeat (first | apply Kd.N_alloc | apply Kd.N_drewN | apply Kd.N_drew)); exact HO307.out) gb309 (Nat.le_of_eq hg.symm)) hb); have n3_ := Aside0.mk (below_step (B_) hb); have n4_ := Aside0.mk (hbox); have n5_ := Aside0.mk ((by rw [hg]; exact (below_size (B_)) : w.heap.size ≤ gb309)); have n6_ := Aside0.mk ((by rw [hg]; exact (below_size (B_)) : w.heap.size ≤ gb309)); clear HO301; clear HO304; clear HO307; clear HB; have HO301 := n0_; have HO304 := n1_; have HO307 := n2_; have HB := n3_; have BK309 := n4_; have GW309 := n5_; have GE309 := n6_; clear n0_ n1_ n2_ n3_ n4_ n5_ n6_; clear hb hbox hg; obtain ⟨Ao30, co30, eo30⟩ := Kd.N_slice HO304.out; subst eo30; have hcz31_0 : w29.cell? ⟨gb309, 0, none⟩ = some (.slice none 0 0) := (blk_cell BK309.out 0).trans rfl; have hcz31_1 : w29.cell? ⟨gb309, 1, none⟩ = some (.slice none 0 0) := (blk_cell BK309.out 1).trans rfl; have hfz31_0 := blk_frozen BK309.out 0; have hfz31_1 := blk_frozen BK309.out 1; obtain ⟨Ao32, co32, eo32⟩ := Kd.N_slice HO307.out; subst eo32) | ((with_reducible refine gate_callee (f := 11) rfl ?_); refine goesL_ (some 16) rfl rfl Try.func11 (by kernel_rfl) rfl #[.agg #[.slice Ao30 t302.length co30, .slice Ao32 t305.length co32]] rfl (by (try simp only [List.map_toArray, List.map_cons, List.map_nil]); first | done | rfl | (simp only [List.length_drop, List.length_take]; rfl)) ?_; (with_reducible refine (pdom_Exit.calls k _ _ t302 _ _ t305 t310 t313 t316 _ ?side1 ?side2 ?side3 ?side4 A2.out).mono ?_); (case side1 => refine (Kd.N_reads' (e := 30) (base := w.heap.size) (ok := fun k_ => ((some k_ ≠ (.slice Ao32 t305.length co32 : Value).ownBlock ∧ some k_ ≠ (.slice Ao27 y299.length co27 : Value).ownBlock) ∧ k_ ≠ gb309)) (n := t302.length) (c := co30) ?_).2.2; exact (by (with_reducible repeat (first | apply Kd.N_alloc | apply Kd.N_drewN | apply Kd.N_drew)); exact (Kd.N_mono (Kd.N_far (p := ⟨gb309, 1, none⟩) (Kd.N_far (p := ⟨gb309, 0, none⟩) (Kd.N_mono HO304.out (fun k_ hk => (⟨hk, hk.2⟩ : _ ∧ k_ ≠ gb309))) (fun _ hk => hk.2) (.slice Ao30 t302.length co30)) (fun _ hk => hk.2) (.slice Ao32 t305.length co32)) (fun _ h_ => h_.1)))); (case side2 => exact (Kd.N_reads' HO304.out).2.1); (case side3 => refine (Kd.N_reads' (e := 30) (base := w.heap.size) (ok := fun k_ => ((some k_ ≠ (.slice Ao30 t302.length co30 : Value).ownBlock ∧ some k_ ≠ (.slice Ao27 y299.length co27 : Value).ownBlock) ∧ k_ ≠ gb309)) (n := t305.length) (c := co32) ?_).2.2; exact (by (with_reducible repeat (first | apply Kd.N_alloc | apply Kd.N_drewN | apply Kd.N_drew)); exact (Kd.N_mono (Kd.N_far (p := ⟨gb309, 1, none⟩) (Kd.N_far (p := ⟨gb309, 0, none⟩) (Kd.N_mono HO307.out (fun k_ hk => (⟨hk, hk.2⟩ : _ ∧ k_ ≠ gb309))) (fun _ hk => hk.2) (.slice Ao30 t302.length co30)) (fun _ hk => hk.2) (.slice Ao32 t305.length co32)) (fun _ h_ => h_.1)))); (case side4 => exact (Kd.N_reads' HO307.out).2.1); rintro e w33 ⟨v311, v314, rfl, ho0, ho1, hb⟩; refine ⟨_, rfl, ?_⟩; have n0_ := Aside0.mk (Kd.N_mono (Kd.N_told (Kd.N_told (Kd.N_old (by (with_reducible repeat (first | apply Kd.N_alloc | apply Kd.N_drewN | apply Kd.N_drew)); exact (Kd.N_mono (Kd.N_far (p := ⟨gb309, 1, none⟩) (Kd.N_far (p := ⟨gb309, 0, none⟩) (Kd.N_mono HO301.out (fun k_ hk => (⟨hk, hk.2⟩ : _ ∧ k_ ≠ gb309))) (fun _ hk => hk.2) (.slice Ao30 t302.length co30)) (fun _ hk => hk.2) (.slice Ao32 t305.length co32)) (fun _ h_ => h_.1))) hb) (Kd.N_base (Kd.S_N ho0))) (Kd.N_base (Kd.S_N ho1))) (fun _ h_ => h_.1)); have n1_ := Aside0.mk (Kd.N_mono (Kd.N_told (Kd.N_told (Kd.N_old (by (with_reducible repeat (first | apply Kd.N_alloc | apply Kd.N_drewN | apply Kd.N_drew)); exact (Kd.N_mono (Kd.N_far (p := ⟨gb309, 1, none⟩) (Kd.N_far (p := ⟨gb309, 0, none⟩) (Kd.N_mono HO304.out (fun k_ hk => (⟨hk, hk.2⟩ : _ ∧ k_ ≠ gb309))) (fun _ hk => hk.2) (.slice Ao30 t302.length co30)) (fun _ hk => hk.2) (.slice Ao32 t305.length co32)) (fun _ h_ => h_.1))) hb) (Kd.N_base (Kd.S_N ho0))) (Kd.N_base (Kd.S_N ho1))) (fun _ h_ => h_.1)); have n2_ := Aside0.mk (Kd.N_mono (Kd.N_told (Kd.N_told (Kd.N_old (by (with_reducible repeat (first | apply Kd.N_alloc | apply Kd.N_drewN | apply Kd.N_drew)); exact (Kd.N_mono (Kd.N_far (p := ⟨gb309, 1, none⟩) (Kd.N_far (p := ⟨gb309, 0, none⟩) (Kd.N_mono HO307.out (fun k_ hk => (⟨hk, hk.2⟩ : _ ∧ k_ ≠ gb309))) (fun _ hk => hk.2) (.slice Ao30 t302.length co30)) (fun _ hk => hk.2) (.slice Ao32 t305.length co32)) (fun _ h_ => h_.1))) hb) (Kd.N_base (Kd.S_N ho0))) (Kd.N_base (Kd.S_N ho1))) (fun _ h_ => h_.1)); have n3_ := Aside0.mk (Kd.N_lower (Kd.N_mono (ok' := fun k_ => some k_ ≠ (v314 : Value).ownBlock ∧ some k_ ≠ (.slice Ao27 y299.length co27 : Value).ownBlock ∧ some k_ ≠ (.slice Ao30 t302.length co30 : Value).ownBlock ∧ some k_ ≠ (.slice Ao32 t305.length co32 : Value).ownBlock ∧ k_ ≠ gb309) (Kd.S_N (Kd.S_bound ho0)) (fun k_ hk_ => ⟨hk_.1, (Kd.fresh' (Kd.N_lt (by (with_reducible repeat (first | apply Kd.N_alloc | apply Kd.N_drewN | apply Kd.N_drew)); exact (Kd.N_mono (Kd.N_far (p := ⟨gb309, 1, none⟩) (Kd.N_far (p := ⟨gb309, 0, none⟩) (Kd.N_mono HO301.out (fun k_ hk => (⟨hk, hk.2⟩ : _ ∧ k_ ≠ gb309))) (fun _ hk => hk.2) (.slice Ao30 t302.length co30)) (fun _ hk => hk.2) (.slice Ao32 t305.length co32)) (fun _ h_ => h_.1)))) k_ hk_.2.1), (Kd.fresh' (Kd.N_lt (by (with_reducible repeat (first | apply Kd.N_alloc | apply Kd.N_drewN | apply Kd.N_drew)); exact (Kd.N_mono (Kd.N_far (p := ⟨gb309, 1, none⟩) (Kd.N_far (p := ⟨gb309, 0, none⟩) (Kd.N_mono HO304.out (fun k_ hk => (⟨hk, hk.2⟩ : _ ∧ k_ ≠ gb309))) (fun _ hk => hk.2) (.slice Ao30 t302.length co30)) (fun _ hk => hk.2) (.slice Ao32 t305.length co32)) (fun _ h_ => h_.1)))) k_ hk_.2.1), (Kd.fresh' (Kd.N_lt (by (with_reducible repeat (first | apply Kd.N_alloc | apply Kd.N_drewN | apply Kd.N_drew)); exact (Kd.N_mono (Kd.N_far (p := ⟨gb309, 1, none⟩) (Kd.N_far (p := ⟨gb309, 0, none⟩) (Kd.N_mono HO307.out (fun k_ hk => (⟨hk, hk.2⟩ : _ ∧ k_ ≠ gb309))) (fun _ hk => hk.2) (.slice Ao30 t302.length co30)) (fun _ hk => hk.2) (.slice Ao32 t305.length co32)) (fun _ h_ => h_.1)))) k_ hk_.2.1), (Kd.freshB (g := gb309) (o := .cells #[.slice Ao30 t302.length co30, .slice Ao32 t305.length co32] 26 (0, 0)) (by (with_reducible repeat (first | refine blk_drewN ?_ _ | refine blk_drew ?_ | refine blk_alloc ?_ _)); refine blk_put (cs := #[.slice Ao30 t302.length co30, .slice none 0 0]) ?_ 1 _ rfl; (with_reducible repeat (first | refine blk_drewN ?_ _ | refine blk_drew ?_ | refine blk_alloc ?_ _)); refine blk_put (cs := #[.slice none 0 0, .slice none 0 0]) ?_ 0 _ rfl; exact KX_ BK309.out) k_ hk_.2.1)⟩)) (below_size (B1_))); have n4_ := Aside0.mk (Kd.N_lower (Kd.N_mono (ok' := fun k_ => some k_ ≠ (v311 : Value).ownBlock ∧ some k_ ≠ (.slice Ao27 y299.length co27 : Value).ownBlock ∧ some k_ ≠ (.slice Ao30 t302.length co30 : Value).ownBlock ∧ some k_ ≠ (.slice Ao32 t305.length co32 : Value).ownBlock ∧ k_ ≠ gb309) (Kd.S_N (Kd.S_bound ho1)) (fun k_ hk_ => ⟨hk_.1, (Kd.fresh' (Kd.N_lt (by (with_reducible repeat (first | apply Kd.N_alloc | apply Kd.N_drewN | apply Kd.N_drew)); exact (Kd.N_mono (Kd.N_far (p := ⟨gb309, 1, none⟩) (Kd.N_far (p := ⟨gb309, 0, none⟩) (Kd.N_mono HO301.out (fun k_ hk => (⟨hk, hk.2⟩ : _ ∧ k_ ≠ gb309))) (fun _ hk => hk.2) (.slice Ao30 t302.length co30)) (fun _ hk => hk.2) (.slice Ao32 t305.length co32)) (fun _ h_ => h_.1)))) k_ hk_.2.1), (Kd.fresh' (Kd.N_lt (by (with_reducible repeat (first | apply Kd.N_alloc | apply Kd.N_drewN | apply Kd.N_drew)); exact (Kd.N_mono (Kd.N_far (p := ⟨gb309, 1, none⟩) (Kd.N_far (p := ⟨gb309, 0, none⟩) (Kd.N_mono HO304.out (fun k_ hk => (⟨hk, hk.2⟩ : _ ∧ k_ ≠ gb309))) (fun _ hk => hk.2) (.slice Ao30 t302.length co30)) (fun _ hk => hk.2) (.slice Ao32 t305.length co32)) (fun _ h_ => h_.1)))) k_ hk_.2.1), (Kd.fresh' (Kd.N_lt (by (with_reducible repeat (first | apply Kd.N_alloc | apply Kd.N_drewN | apply Kd.N_drew)); exact (Kd.N_mono (Kd.N_far (p := ⟨gb309, 1, none⟩) (Kd.N_far (p := ⟨gb309, 0, none⟩) (Kd.N_mono HO307.out (fun k_ hk => (⟨hk, hk.2⟩ : _ ∧ k_ ≠ gb309))) (fun _ hk => hk.2) (.slice Ao30 t302.length co30)) (fun _ hk => hk.2) (.slice Ao32 t305.length co32)) (fun _ h_ => h_.1)))) k_ hk_.2.1), (Kd.freshB (g := gb309) (o := .cells #[.slice Ao30 t302.length co30, .slice Ao32 t305.length co32] 26 (0, 0)) (by (with_reducible repeat (first | refine blk_drewN ?_ _ | refine blk_drew ?_ | refine blk_alloc ?_ _)); refine blk_put (cs := #[.slice Ao30 t302.length co30, .slice none 0 0]) ?_ 1 _ rfl; (with_reducible repeat (first | refine blk_drewN ?_ _ | refine blk_drew ?_ | refine blk_alloc ?_ _)); refine blk_put (cs := #[.slice none 0 0, .slice none 0 0]) ?_ 0 _ rfl; exact KX_ BK309.out) k_ hk_.2.1)⟩)) (below_size (B1_))); have n5_ := Aside0.mk (blk_below (g := gb309) (o := .cells #[.slice Ao30 t302.length co30, .slice Ao32 t305.length co32] 26 (0, 0)) (by (with_reducible repeat (first | refine blk_drewN ?_ _ | refine blk_drew ?_ | refine blk_alloc ?_ _)); refine blk_put (cs := #[.slice Ao30 t302.length co30, .slice none 0 0]) ?_ 1 _ rfl; (with_reducible repeat (first | refine blk_drewN ?_ _ | refine blk_drew ?_ | refine blk_alloc ?_ _)); refine blk_put (cs := #[.slice none 0 0, .slice none 0 0]) ?_ 0 _ rfl; exact KX_ BK309.out) hb); have n6_ := Aside0.mk (below_step (B1_) hb); clear HO301; clear HO304; clear HO307; clear BK309; clear HB; have HO301 := n0_; have HO304 := n1_; have HO307 := n2_; have HO312 := n3_; have HO315 := n4_; have BK309 := n5_; have HB := n6_; clear n0_ n1_ n2_ n3_ n4_ n5_ n6_; (try clear hb); (try clear hb2); (try clear hk); (try clear hi); (try clear ho0); (try clear ho1)) | ((with_reducible refine gate_dst (N := 3) rfl ?_); (try (refine gate_guard (by rfl) ?_; dsimp only)); refine box_event ?hg (N := 3) ?hd (cs := #[.slice none 0 0, .slice none 0 0]) (t := 26) ?hr ?_; (case hd => rfl); (case hg => rfl); (case hr => first | (go_simp; done) | (go_simp; rfl)); intro gb317 hg w34 hbox hb; have n0_ := Aside0.mk (Kd.N_below (Kd.N_elderB (by (with_reducible repeat (first | apply Kd.N_alloc | apply Kd.N_drewN | apply Kd.N_drew)); exact HO301.out) gb317 (Nat.le_of_eq hg.symm)) hb); have n1_ := Aside0.mk (Kd.N_below (Kd.N_elderB (by (with_reducible repeat (first | apply Kd.N_alloc | apply Kd.N_drewN | apply Kd.N_drew)); exact HO304.out) gb317 (Nat.le_of_eq hg.symm)) hb); have n2_ := Aside0.mk (Kd.N_below (Kd.N_elderB (by (with_reducible repeat (first | apply Kd.N_alloc | apply Kd.N_drewN | apply Kd.N_drew)); exact HO307.out) gb317 (Nat.le_of_eq hg.symm)) hb); have n3_ := Aside0.mk (Kd.N_below (Kd.N_elderB (by (with_reducible repeat (first | apply Kd.N_alloc | apply Kd.N_drewN | apply Kd.N_drew)); exact HO312.out) gb317 (Nat.le_of_eq hg.symm)) hb); have n4_ := Aside0.mk (Kd.N_below (Kd.N_elderB (by (with_reducible repeat (first | apply Kd.N_alloc | apply Kd.N_drewN | apply Kd.N_drew)); exact HO315.out) gb317 (Nat.le_of_eq hg.symm)) hb); have n5_ := Aside0.mk (blk_below (g := gb309) (o := .cells #[.slice Ao30 t302.length co30, .slice Ao32 t305.length co32] 26 (0, 0)) (by exact KX_ BK309.out) hb); have n6_ := Aside0.mk (below_step (B1_) hb); have n7_ := Aside0.mk (hbox); have n8_ := Aside0.mk ((by rw [hg]; exact (below_size (B1_)) : w.heap.size ≤ gb317)); have n9_ := Aside0.mk ((by rw [hg]; exact (below_size (B1_)) : w.heap.size ≤ gb317)); have n10_ := Aside0.mk ((by rw [hg]; exact Nat.ne_of_lt (blk_lt (g := gb309) (o := .cells #[.slice Ao30 t302.length co30, .slice Ao32 t305.length co32] 26 (0, 0)) (by exact KX_ BK309.out)) : gb309 ≠ gb317)); have n11_ := Aside0.mk ((by rw [hg]; exact Nat.ne_of_gt (blk_lt (g := gb309) (o := .cells #[.slice Ao30 t302.length co30, .slice Ao32 t305.length co32] 26 (0, 0)) (by exact KX_ BK309.out)) : gb317 ≠ gb309)); clear HO301; clear HO304; clear HO307; clear HO312; clear HO315; clear BK309; clear HB; have HO301 := n0_; have HO304 := n1_; have HO307 := n2_; have HO312 := n3_; have HO315 := n4_; have BK309 := n5_; have HB := n6_; have BK317 := n7_; have GW317 := n8_; have GE317 := n9_; have NB309_317 := n10_; have NB317_309 := n11_; clear n0_ n1_ n2_ n3_ n4_ n5_ n6_ n7_ n8_ n9_ n10_ n11_; clear hb hbox hg; obtain ⟨Ao35, co35, eo35⟩ := Kd.N_slice HO312.out; subst eo35; have hnb36 := NB317_309.out; have hnc36 := NB309_317.out; have hcz37_0 : w34.cell? ⟨gb317, 0, none⟩ = some (.slice none 0 0) := (blk_cell BK317.out 0).trans rfl; have hcz37_1 : w34.cell? ⟨gb317, 1, none⟩ = some (.slice none 0 0) := (blk_cell BK317.out 1).trans rfl; have hfz37_0 := blk_frozen BK317.out 0; have hfz37_1 := blk_frozen BK317.out 1; obtain ⟨Ao38, co38, eo38⟩ := Kd.N_slice HO315.out; subst eo38; have hcz39_0 : w34.cell? ⟨gb309, 0, none⟩ = some (.slice Ao30 t302.length co30) := (blk_cell BK309.out 0).trans rfl; have hcz39_1 : w34.cell? ⟨gb309, 1, none⟩ = some (.slice Ao32 t305.length co32) := (blk_cell BK309.out 1).trans rfl; have hfz39_0 := blk_frozen BK309.out 0; have hfz39_1 := blk_frozen BK309.out 1) | ((with_reducible refine gate_callee (f := 10) rfl ?_); refine goesL_ (some 20) rfl rfl Try.func10 (by kernel_rfl) rfl #[.agg #[.slice Ao30 t302.length co30, .slice Ao32 t305.length co32]] rfl (by (try simp only [List.map_toArray, List.map_cons, List.map_nil]); first | done | rfl | (simp only [List.length_drop, List.length_take]; rfl)) ?_; (with_reducible refine (pdom_Tree.calls k _ _ t302 _ _ t305 t318 _ ?side1 ?side2 ?side3 ?side4 A3.out).mono ?_); (case side1 => refine (Kd.N_reads' (e := 30) (base := w.heap.size) (ok := fun k_ => (((((some k_ ≠ (.slice Ao32 t305.length co32 : Value).ownBlock ∧ some k_ ≠ (.slice Ao27 y299.length co27 : Value).ownBlock) ∧ k_ ≠ gb309) ∧ some k_ ≠ (.slice Ao35 t310.length co35 : Value).ownBlock) ∧ some k_ ≠ (.slice Ao38 t313.length co38 : Value).ownBlock) ∧ k_ ≠ gb317)) (n := t302.length) (c := co30) ?_).2.2; exact (by (with_reducible repeat (first | apply Kd.N_alloc | apply Kd.N_drewN | apply Kd.N_drew)); exact (Kd.N_mono (Kd.N_far (p := ⟨gb317, 1, none⟩) (Kd.N_far (p := ⟨gb317, 0, none⟩) (Kd.N_mono HO304.out (fun k_ hk => (⟨hk, hk.2⟩ : _ ∧ k_ ≠ gb317))) (fun _ hk => hk.2) (.slice Ao35 t310.length co35)) (fun _ hk => hk.2) (.slice Ao38 t313.length co38)) (fun _ h_ => h_.1)))); (case side2 => exact (Kd.N_reads' HO304.out).2.1); (case side3 => refine (Kd.N_reads' (e := 30) (base := w.heap.size) (ok := fun k_ => (((((some k_ ≠ (.slice Ao30 t302.length co30 : Value).ownBlock ∧ some k_ ≠ (.slice Ao27 y299.length co27 : Value).ownBlock) ∧ k_ ≠ gb309) ∧ some k_ ≠ (.slice Ao35 t310.length co35 : Value).ownBlock) ∧ some k_ ≠ (.slice Ao38 t313.length co38 : Value).ownBlock) ∧ k_ ≠ gb317)) (n := t305.length) (c := co32) ?_).2.2; exact (by (with_reducible repeat (first | apply Kd.N_alloc | apply Kd.N_drewN | apply Kd.N_drew)); exact (Kd.N_mono (Kd.N_far (p := ⟨gb317, 1, none⟩) (Kd.N_far (p := ⟨gb317, 0, none⟩) (Kd.N_mono HO307.out (fun k_ hk => (⟨hk, hk.2⟩ : _ ∧ k_ ≠ gb317))) (fun _ hk => hk.2) (.slice Ao35 t310.length co35)) (fun _ hk => hk.2) (.slice Ao38 t313.length co38)) (fun _ h_ => h_.1)))); (case side4 => exact (Kd.N_reads' HO307.out).2.1); rintro e w40 ⟨v319, rfl, ho0, hb⟩; refine ⟨_, rfl, ?_⟩; have n0_ := Aside0.mk (Kd.N_elder' (by (with_reducible repeat (first | apply Kd.N_alloc | apply Kd.N_drewN | apply Kd.N_drew)); exact (Kd.N_mono (Kd.N_far (p := ⟨gb317, 1, none⟩) (Kd.N_far (p := ⟨gb317, 0, none⟩) (Kd.N_mono HO301.out (fun k_ hk => (⟨hk, hk.2⟩ : _ ∧ k_ ≠ gb317))) (fun _ hk => hk.2) (.slice Ao35 t310.length co35)) (fun _ hk => hk.2) (.slice Ao38 t313.length co38)) (fun _ h_ => h_.1))) (Kd.R_base ho0) hb); have n1_ := Aside0.mk (Kd.N_elder' (by (with_reducible repeat (first | apply Kd.N_alloc | apply Kd.N_drewN | apply Kd.N_drew)); exact (Kd.N_mono (Kd.N_far (p := ⟨gb317, 1, none⟩) (Kd.N_far (p := ⟨gb317, 0, none⟩) (Kd.N_mono HO304.out (fun k_ hk => (⟨hk, hk.2⟩ : _ ∧ k_ ≠ gb317))) (fun _ hk => hk.2) (.slice Ao35 t310.length co35)) (fun _ hk => hk.2) (.slice Ao38 t313.length co38)) (fun _ h_ => h_.1))) (Kd.R_base ho0) hb); have n2_ := Aside0.mk (Kd.N_elder' (by (with_reducible repeat (first | apply Kd.N_alloc | apply Kd.N_drewN | apply Kd.N_drew)); exact (Kd.N_mono (Kd.N_far (p := ⟨gb317, 1, none⟩) (Kd.N_far (p := ⟨gb317, 0, none⟩) (Kd.N_mono HO307.out (fun k_ hk => (⟨hk, hk.2⟩ : _ ∧ k_ ≠ gb317))) (fun _ hk => hk.2) (.slice Ao35 t310.length co35)) (fun _ hk => hk.2) (.slice Ao38 t313.length co38)) (fun _ h_ => h_.1))) (Kd.R_base ho0) hb); have n3_ := Aside0.mk (Kd.N_elder' (by (with_reducible repeat (first | apply Kd.N_alloc | apply Kd.N_drewN | apply Kd.N_drew)); exact (Kd.N_mono (Kd.N_far (p := ⟨gb317, 1, none⟩) (Kd.N_far (p := ⟨gb317, 0, none⟩) (Kd.N_mono HO312.out (fun k_ hk => (⟨hk, hk.2⟩ : _ ∧ k_ ≠ gb317))) (fun _ hk => hk.2) (.slice Ao35 t310.length co35)) (fun _ hk => hk.2) (.slice Ao38 t313.length co38)) (fun _ h_ => h_.1))) (Kd.R_base ho0) hb); have n4_ := Aside0.mk (Kd.N_elder' (by (with_reducible repeat (first | apply Kd.N_alloc | apply Kd.N_drewN | apply Kd.N_drew)); exact (Kd.N_mono (Kd.N_far (p := ⟨gb317, 1, none⟩) (Kd.N_far (p := ⟨gb317, 0, none⟩) (Kd.N_mono HO315.out (fun k_ hk => (⟨hk, hk.2⟩ : _ ∧ k_ ≠ gb317))) (fun _ hk => hk.2) (.slice Ao35 t310.length co35)) (fun _ hk => hk.2) (.slice Ao38 t313.length co38)) (fun _ h_ => h_.1))) (Kd.R_base ho0) hb); have n5_ := Aside0.mk (Kd.R_lower ho0 (below_size (B1_))); have n6_ := Aside0.mk (blk_below (g := gb309) (o := .cells #[.slice Ao30 t302.length co30, .slice Ao32 t305.length co32] 26 (0, 0)) (by (with_reducible repeat (first | refine blk_drewN ?_ _ | refine blk_drew ?_ | refine blk_alloc ?_ _)); refine blk_far ?_ NB309_317.out _; (with_reducible repeat (first | refine blk_drewN ?_ _ | refine blk_drew ?_ | refine blk_alloc ?_ _)); refine blk_far ?_ NB309_317.out _; exact KX_ BK309.out) hb); have n7_ := Aside0.mk (blk_below (g := gb317) (o := .cells #[.slice Ao35 t310.length co35, .slice Ao38 t313.length co38] 26 (0, 0)) (by (with_reducible repeat (first | refine blk_drewN ?_ _ | refine blk_drew ?_ | refine blk_alloc ?_ _)); refine blk_put (cs := #[.slice Ao35 t310.length co35, .slice none 0 0]) ?_ 1 _ rfl; (with_reducible repeat (first | refine blk_drewN ?_ _ | refine blk_drew ?_ | refine blk_alloc ?_ _)); refine blk_put (cs := #[.slice none 0 0, .slice none 0 0]) ?_ 0 _ rfl; exact KX_ BK317.out) hb); have n8_ := Aside0.mk (below_step (B1_) hb); clear HO301; clear HO304; clear HO307; clear HO312; clear HO315; clear BK309; clear BK317; clear HB; have HO301 := n0_; have HO304 := n1_; have HO307 := n2_; have HO312 := n3_; have HO315 := n4_; have HO320 := n5_; have BK309 := n6_; have BK317 := n7_; have HB := n8_; clear n0_ n1_ n2_ n3_ n4_ n5_ n6_ n7_ n8_; (try clear hb); (try clear hb2); (try clear hk); (try clear hi); (try clear ho0); have hcz41_0 : w40.cell? ⟨gb317, 0, none⟩ = some (.slice Ao35 t310.length co35) := (blk_cell BK317.out 0).trans rfl; have hcz41_1 : w40.cell? ⟨gb317, 1, none⟩ = some (.slice Ao38 t313.length co38) := (blk_cell BK317.out 1).trans rfl; have hfz41_0 := blk_frozen BK317.out 0; have hfz41_1 := blk_frozen BK317.out 1; have p321 : 0 ≤ (3 : Int) := (by omega); have q321 : 3 < (t310.length : Int) := D_; obtain ⟨ad321, A321_0, c321_0, e321, hx321_0, hl321_0, hi321_0⟩ := at_L1 (Kd.N_reads' HO312.out).2.2 3 p321 q321; cases e321; obtain ⟨ce321, hce321, hMe321, hcc321⟩ := Kd.N_get HO312.out [] 3 p321 (by first | exact q321 | exact D_ | (have e_ := (Kd.N_reads' HO312.out).1; omega)); obtain ⟨ua321_0, uc321_0, rfl, ul321_0, ge321_0⟩ := Kd.FK_slice_open hMe321; have hv321_0 := hcc321 0 _ rfl; rw [Nat.add_zero, show ((Kd.slice 3 (Kd.int .i64))).sz = 1 from rfl, Nat.mul_one] at hv321_0; replace hv321_0 := Option.some.inj (hv321_0.symm.trans hx321_0); injection hv321_0 with hva_ hvn_ hvc_; rw [hva_] at ge321_0; rw [hvc_] at ul321_0; have HL321_0 := Aside0.mk (show Kd.V (Kd.int .i64) 3 _ w.heap.size _ _ (rd_L1 t310 3) from Kd.V_mk ul321_0 ge321_0); clear hva_ hvn_ hvc_ ge321_0 ul321_0; clear hcc321 hce321; (try simp only [show (3 : Int).toNat = 3 from rfl, Nat.reduceMul, Nat.reduceEqDiff, Go.Addr.add, ↓reduceIte] at hx321_0); have qi321 : (3 < t310.length) = True := eq_true (by omega); (try rw [show ((3 : Int)).toNat = 3 from rfl] at hx321_0); have HR321_0 := Aside0.mk hi321_0; have HC321_0 := Aside0.mk hl321_0; clear hi321_0 hl321_0; replace p321 := eq_true p321; replace q321 := eq_true q321; have p322 : 0 ≤ (3 : Int) := (by omega); have q322 : 3 < (t310.length : Int) := D_; obtain ⟨ad322, A322_0, c322_0, e322, hx322_0, hl322_0, hi322_0⟩ := at_L1 (Kd.N_reads' HO312.out).2.2 3 p322 q322; obtain rfl : ad321 = ad322 := (by injection e322); obtain ⟨ce322, hce322, hMe322, hcc322⟩ := Kd.N_get HO312.out [] 3 p322 (by first | exact q322 | exact D_ | (have e_ := (Kd.N_reads' HO312.out).1; omega)); obtain ⟨ua322_0, uc322_0, rfl, ul322_0, ge322_0⟩ := Kd.FK_slice_open hMe322; have hv322_0 := hcc322 0 _ rfl; rw [Nat.add_zero, show ((Kd.slice 3 (Kd.int .i64))).sz = 1 from rfl, Nat.mul_one] at hv322_0; replace hv322_0 := Option.some.inj (hv322_0.symm.trans hx322_0); injection hv322_0 with hva_ hvn_ hvc_; rw [hva_] at ge322_0; rw [hvc_] at ul322_0; have HL322_0 := Aside0.mk (show Kd.V (Kd.int .i64) 3 _ w.heap.size _ _ (rd_L1 t310 3) from Kd.V_mk ul322_0 ge322_0); clear hva_ hvn_ hvc_ ge322_0 ul322_0; clear hcc322 hce322; (try simp only [show (3 : Int).toNat = 3 from rfl, Nat.reduceMul, Nat.reduceEqDiff, Go.Addr.add, ↓reduceIte] at hx322_0); have qi322 : (3 < t310.length) = True := eq_true (by omega); (try rw [show ((3 : Int)).toNat = 3 from rfl] at hx322_0); have HR322_0 := Aside0.mk hi322_0; have HC322_0 := Aside0.mk hl322_0; clear hi322_0 hl322_0; replace p322 := eq_true p322; replace q322 := eq_true q322; have ea_ := Option.some.inj (hx321_0.symm.trans hx322_0); injection ea_ with ea_ en_ ec_; subst ea_; subst ec_; clear en_; have p323 : 0 ≤ (0 : Int) := (by omega); have q323 : 0 < ((rd_L1 t310 3).length : Int) := D_; obtain ⟨ad323, e323, hx323_0⟩ := Kd.at_int (by repeat (first | (with_reducible exact HR322_0.out) | (with_reducible refine Kd.C_alloc ?_ _) | (with_reducible refine Kd.C_drewN ?_ _) | (with_reducible refine Kd.C_drew ?_) | exact HR322_0.out)) 0 p323 q323; cases e323; have qi323 : (0 < (rd_L1 t310 3).length) = True := eq_true (by omega); (try rw [show ((0 : Int)).toNat = 0 from rfl] at hx323_0); (try rw [Addr.add_zero'] at hx323_0); replace p323 := eq_true p323; replace q323 := eq_true q323) | ((with_reducible refine gate_dst (N := 52) rfl ?_); (try (refine gate_guard (by rfl) ?_; dsimp only)); refine Kd.R_lit (Kd.int .i64) _ 3 ?hg (N := 52) ?hd (xs := ([3, 3, 3, 4, (-1)] : List Int)) (inner := [.int .i64 3, .int .i64 3, .int .i64 3, .int .i64 4, .int .i64 (-1)]) (ok := fun _ => True) (okp := fun _ => True) ?hr ?hp (fun _ hk => hk) trivial (Below.refl _ _) (Nat.le_refl _) (by simp) ?_; (case hd => rfl); (case hg => rfl); (case hr => first | (go_simp; done) | (go_simp; rfl)); (case hp => exact (Reps.one (show Kd.M (Kd.int .i64) _ _ _ 3 [.int .i64 3] from rfl) (Reps.one (show Kd.M (Kd.int .i64) _ _ _ 3 [.int .i64 3] from rfl) (Reps.one (show Kd.M (Kd.int .i64) _ _ _ 3 [.int .i64 3] from rfl) (Reps.one (show Kd.M (Kd.int .i64) _ _ _ 4 [.int .i64 4] from rfl) (Reps.one (show Kd.M (Kd.int .i64) _ _ _ (-1) [.int .i64 (-1)] from rfl) (Reps.none _ _))))))); intro v325 w42 ho43 hb hg_ hnew_; clear hg_ hnew_; (first | rw [← Ny324.out] at ho43 | (simp only [Int.reduceToNat] at ho43; rw [← Ny324.out] at ho43)); have n0_ := Aside0.mk (Kd.N_elder' (by (with_reducible repeat (first | apply Kd.N_alloc | apply Kd.N_drewN | apply Kd.N_drew)); exact HO301.out) (Kd.R_base ho43) hb); have n1_ := Aside0.mk (Kd.N_elder' (by (with_reducible repeat (first | apply Kd.N_alloc | apply Kd.N_drewN | apply Kd.N_drew)); exact HO304.out) (Kd.R_base ho43) hb); have n2_ := Aside0.mk (Kd.N_elder' (by (with_reducible repeat (first | apply Kd.N_alloc | apply Kd.N_drewN | apply Kd.N_drew)); exact HO307.out) (Kd.R_base ho43) hb); have n3_ := Aside0.mk (Kd.N_elder' (by (with_reducible repeat (first | apply Kd.N_alloc | apply Kd.N_drewN | apply Kd.N_drew)); exact HO312.out) (Kd.R_base ho43) hb); have n4_ := Aside0.mk (Kd.N_elder' (by (with_reducible repeat (first | apply Kd.N_alloc | apply Kd.N_drewN | apply Kd.N_drew)); exact HO315.out) (Kd.R_base ho43) hb); have n5_ := Aside0.mk (Kd.R_elder' (by exact RX_ HO320.out) (Kd.R_base ho43) hb); have n6_ := Aside0.mk (Kd.V_elder' (by (with_reducible repeat (first | apply Kd.V_alloc | apply Kd.V_drewN | apply Kd.V_drew)); exact HL321_0.out) (Kd.R_base ho43) hb); have n7_ := Aside0.mk (Kd.V_elder' (by (with_reducible repeat (first | apply Kd.V_alloc | apply Kd.V_drewN | apply Kd.V_drew)); exact HL322_0.out) (Kd.R_base ho43) hb); have n8_ := Aside0.mk (Kd.R_lower (Kd.R_new' ho43 (Kd.R_lt (by exact RX_ HO320.out))) (below_size (B1_))); have n9_ := Aside0.mk (blk_below (g := gb309) (o := .cells #[.slice Ao30 t302.length co30, .slice Ao32 t305.length co32] 26 (0, 0)) (by exact KX_ BK309.out) hb); have n10_ := Aside0.mk (blk_below (g := gb317) (o := .cells #[.slice (some ad321) t310.length co35, .slice Ao38 t313.length co38] 26 (0, 0)) (by exact KX_ BK317.out) hb); have n11_ := Aside0.mk (Kd.C_below (by repeat (first | (with_reducible exact HR321_0.out) | (with_reducible refine Kd.C_alloc ?_ _) | (with_reducible refine Kd.C_drewN ?_ _) | (with_reducible refine Kd.C_drew ?_) | exact HR321_0.out)) hb); have n12_ := Aside0.mk (Kd.C_below (by repeat (first | (with_reducible exact HR322_0.out) | (with_reducible refine Kd.C_alloc ?_ _) | (with_reducible refine Kd.C_drewN ?_ _) | (with_reducible refine Kd.C_drew ?_) | exact HR322_0.out)) hb); have n13_ := Aside0.mk (below_step (B1_) hb); clear HO301; clear HO304; clear HO307; clear HO312; clear HO315; clear HO320; clear HL321_0; clear HL322_0; clear BK309; clear BK317; clear HR321_0; clear HR322_0; clear HB; have HO301 := n0_; have HO304 := n1_; have HO307 := n2_; have HO312 := n3_; have HO315 := n4_; have HO320 := n5_; have HL321_0 := n6_; have HL322_0 := n7_; have HO326 := n8_; have BK309 := n9_; have BK317 := n10_; have HR321_0 := n11_; have HR322_0 := n12_; have HB := n13_; clear n0_ n1_ n2_ n3_ n4_ n5_ n6_ n7_ n8_ n9_ n10_ n11_ n12_ n13_; clear hb ho43; obtain ⟨Ao44, co44, eo44⟩ := Kd.R_slice HO320.out; subst eo44; obtain ⟨Ao45, co45, eo45⟩ := Kd.R_slice HO326.out; subst eo45) | (go_at_call 16; (with_reducible refine (lockstepref02_Ints.calls k _ _ t318 _ _ y324 true _ ?side1 ?side2 ?side3 ?side4 A11.out).mono ?_); (case side1 => repeat (first | exact (Kd.R_reads' HO320.out).2.2 | (with_reducible refine Kd.C_alloc ?_ _) | (with_reducible refine Kd.C_drewN ?_ _) | (with_reducible refine Kd.C_drew ?_))); (case side2 => exact (Kd.R_reads' HO320.out).2.1); (case side3 => repeat (first | exact (Kd.R_reads' HO326.out).2.2 | (with_reducible refine Kd.C_alloc ?_ _) | (with_reducible refine Kd.C_drewN ?_ _) | (with_reducible refine Kd.C_drew ?_))); (case side4 => exact (Kd.R_reads' HO326.out).2.1); rintro e w' ⟨rfl, ⟨nd, rfl⟩⟩) | (go_at_call 13; (with_reducible refine (pdom_Over.calls k _ _ t318 3 0 true _ ?side1 ?side2 A13.out).mono ?_); (case side1 => repeat (first | exact (Kd.R_reads' HO320.out).2.2 | (with_reducible refine Kd.C_alloc ?_ _) | (with_reducible refine Kd.C_drewN ?_ _) | (with_reducible refine Kd.C_drew ?_))); (case side2 => exact (Kd.R_reads' HO320.out).2.1); rintro e w46 ⟨rfl, hb⟩; have n0_ := Aside0.mk (Kd.N_below (by (with_reducible repeat (first | apply Kd.N_alloc | apply Kd.N_drewN | apply Kd.N_drew)); exact HO301.out) hb); have n1_ := Aside0.mk (Kd.N_below (by (with_reducible repeat (first | apply Kd.N_alloc | apply Kd.N_drewN | apply Kd.N_drew)); exact HO304.out) hb); have n2_ := Aside0.mk (Kd.N_below (by (with_reducible repeat (first | apply Kd.N_alloc | apply Kd.N_drewN | apply Kd.N_drew)); exact HO307.out) hb); have n3_ := Aside0.mk (Kd.N_below (by (with_reducible repeat (first | apply Kd.N_alloc | apply Kd.N_drewN | apply Kd.N_drew)); exact HO312.out) hb); have n4_ := Aside0.mk (Kd.N_below (by (with_reducible repeat (first | apply Kd.N_alloc | apply Kd.N_drewN | apply Kd.N_drew)); exact HO315.out) hb); have n5_ := Aside0.mk (Kd.R_below (by exact RX_ HO320.out) hb); have n6_ := Aside0.mk (Kd.V_below (by (with_reducible repeat (first | apply Kd.V_alloc | apply Kd.V_drewN | apply Kd.V_drew)); exact HL321_0.out) hb); have n7_ := Aside0.mk (Kd.V_below (by (with_reducible repeat (first | apply Kd.V_alloc | apply Kd.V_drewN | apply Kd.V_drew)); exact HL322_0.out) hb); have n8_ := Aside0.mk (Kd.R_below (by exact RX_ HO326.out) hb); have n9_ := Aside0.mk (blk_below (g := gb309) (o := .cells #[.slice Ao30 t302.length co30, .slice Ao32 t305.length co32] 26 (0, 0)) (by exact KX_ BK309.out) hb); have n10_ := Aside0.mk (blk_below (g := gb317) (o := .cells #[.slice (some ad321) t310.length co35, .slice Ao38 t313.length co38] 26 (0, 0)) (by exact KX_ BK317.out) hb); have n11_ := Aside0.mk (Kd.C_below (by repeat (first | (with_reducible exact HR321_0.out) | (with_reducible refine Kd.C_alloc ?_ _) | (with_reducible refine Kd.C_drewN ?_ _) | (with_reducible refine Kd.C_drew ?_) | exact HR321_0.out)) hb); have n12_ := Aside0.mk (Kd.C_below (by repeat (first | (with_reducible exact HR322_0.out) | (with_reducible refine Kd.C_alloc ?_ _) | (with_reducible refine Kd.C_drewN ?_ _) | (with_reducible refine Kd.C_drew ?_) | exact HR322_0.out)) hb); have n13_ := Aside0.mk (below_step (B1_) hb); clear HO301; clear HO304; clear HO307; clear HO312; clear HO315; clear HO320; clear HL321_0; clear HL322_0; clear HO326; clear BK309; clear BK317; clear HR321_0; clear HR322_0; clear HB; have HO301 := n0_; have HO304 := n1_; have HO307 := n2_; have HO312 := n3_; have HO315 := n4_; have HO320 := n5_; have HL321_0 := n6_; have HL322_0 := n7_; have HO326 := n8_; have BK309 := n9_; have BK317 := n10_; have HR321_0 := n11_; have HR322_0 := n12_; have HB := n13_; clear n0_ n1_ n2_ n3_ n4_ n5_ n6_ n7_ n8_ n9_ n10_ n11_ n12_ n13_; (try clear hb); (try clear hb2); (try clear hk); (try clear hi); have hcz47_0 : w46.cell? ⟨gb309, 0, none⟩ = some (.slice Ao30 t302.length co30) := (blk_cell BK309.out 0).trans rfl; have hcz47_1 : w46.cell? ⟨gb309, 1, none⟩ = some (.slice Ao32 t305.length co32) := (blk_cell BK309.out 1).trans rfl; have hfz47_0 := blk_frozen BK309.out 0; have hfz47_1 := blk_frozen BK309.out 1) | (go_at_call 14; (with_reducible refine (pdom_Shut.calls k _ _ t302 _ _ t305 t329 _ ?side1 ?side2 ?side3 ?side4 A15.out).mono ?_); (case side1 => repeat (first | exact (Kd.N_reads' HO304.out).2.2 | (with_reducible refine Kd.C_alloc ?_ _) | (with_reducible refine Kd.C_drewN ?_ _) | (with_reducible refine Kd.C_drew ?_))); (case side2 => exact (Kd.N_reads' HO304.out).2.1); (case side3 => repeat (first | exact (Kd.N_reads' HO307.out).2.2 | (with_reducible refine Kd.C_alloc ?_ _) | (with_reducible refine Kd.C_drewN ?_ _) | (with_reducible refine Kd.C_drew ?_))); (case side4 => exact (Kd.N_reads' HO307.out).2.1); rintro e w48 ⟨v330, rfl, ho0, hb⟩; have n0_ := Aside0.mk (Kd.N_elder' (by (with_reducible repeat (first | apply Kd.N_alloc | apply Kd.N_drewN | apply Kd.N_drew)); exact HO301.out) (Kd.R_base ho0) hb); have n1_ := Aside0.mk (Kd.N_elder' (by (with_reducible repeat (first | apply Kd.N_alloc | apply Kd.N_drewN | apply Kd.N_drew)); exact HO304.out) (Kd.R_base ho0) hb); have n2_ := Aside0.mk (Kd.N_elder' (by (with_reducible repeat (first | apply Kd.N_alloc | apply Kd.N_drewN | apply Kd.N_drew)); exact HO307.out) (Kd.R_base ho0) hb); have n3_ := Aside0.mk (Kd.N_elder' (by (with_reducible repeat (first | apply Kd.N_alloc | apply Kd.N_drewN | apply Kd.N_drew)); exact HO312.out) (Kd.R_base ho0) hb); have n4_ := Aside0.mk (Kd.N_elder' (by (with_reducible repeat (first | apply Kd.N_alloc | apply Kd.N_drewN | apply Kd.N_drew)); exact HO315.out) (Kd.R_base ho0) hb); have n5_ := Aside0.mk (Kd.R_elder' (by exact RX_ HO320.out) (Kd.R_base ho0) hb); have n6_ := Aside0.mk (Kd.V_elder' (by (with_reducible repeat (first | apply Kd.V_alloc | apply Kd.V_drewN | apply Kd.V_drew)); exact HL321_0.out) (Kd.R_base ho0) hb); have n7_ := Aside0.mk (Kd.V_elder' (by (with_reducible repeat (first | apply Kd.V_alloc | apply Kd.V_drewN | apply Kd.V_drew)); exact HL322_0.out) (Kd.R_base ho0) hb); have n8_ := Aside0.mk (Kd.R_elder' (by exact RX_ HO326.out) (Kd.R_base ho0) hb); have n9_ := Aside0.mk (Kd.R_lower (Kd.R_new' (Kd.R_new' ho0 (Kd.R_lt (by exact RX_ HO320.out))) (Kd.R_lt (by exact RX_ HO326.out))) (below_size (B1_))); have n10_ := Aside0.mk (blk_below (g := gb309) (o := .cells #[.slice Ao30 t302.length co30, .slice Ao32 t305.length co32] 26 (0, 0)) (by exact KX_ BK309.out) hb); have n11_ := Aside0.mk (blk_below (g := gb317) (o := .cells #[.slice (some ad321) t310.length co35, .slice Ao38 t313.length co38] 26 (0, 0)) (by exact KX_ BK317.out) hb); have n12_ := Aside0.mk (Kd.C_below (by repeat (first | (with_reducible exact HR321_0.out) | (with_reducible refine Kd.C_alloc ?_ _) | (with_reducible refine Kd.C_drewN ?_ _) | (with_reducible refine Kd.C_drew ?_) | exact HR321_0.out)) hb); have n13_ := Aside0.mk (Kd.C_below (by repeat (first | (with_reducible exact HR322_0.out) | (with_reducible refine Kd.C_alloc ?_ _) | (with_reducible refine Kd.C_drewN ?_ _) | (with_reducible refine Kd.C_drew ?_) | exact HR322_0.out)) hb); have n14_ := Aside0.mk (below_step (B1_) hb); clear HO301; clear HO304; clear HO307; clear HO312; clear HO315; clear HO320; clear HL321_0; clear HL322_0; clear HO326; clear BK309; clear BK317; clear HR321_0; clear HR322_0; clear HB; have HO301 := n0_; have HO304 := n1_; have HO307 := n2_; have HO312 := n3_; have HO315 := n4_; have HO320 := n5_; have HL321_0 := n6_; have HL322_0 := n7_; have HO326 := n8_; have HO331 := n9_; have BK309 := n10_; have BK317 := n11_; have HR321_0 := n12_; have HR322_0 := n13_; have HB := n14_; clear n0_ n1_ n2_ n3_ n4_ n5_ n6_ n7_ n8_ n9_ n10_ n11_ n12_ n13_ n14_; (try clear hb); (try clear hb2); (try clear hk); (try clear hi); (try clear ho0); obtain ⟨Ao49, co49, eo49⟩ := Kd.R_slice HO331.out; subst eo49))
          go_ret
          exact ⟨by first | rfl | exact congrArg (fun b => Ending.returned (Value.bool b)) HR_.out | (simp [errW_none, errW_some] <;> rfl) | (simp [*, errW_none, errW_some] <;> rfl), B1_⟩
         replace c14 := Bool.eq_false_iff.mpr c14
         subst c14
         have H1 : (some false) = some true := by rw [if_neg (show ¬ (false = true) by decide)] at H; exact H
         clear H
         have H := H1
         clear H1
         exact absurd H (by simp)
        replace c12 := Bool.eq_false_iff.mpr c12
        subst c12
        have H1 : (some false) = some true := by rw [if_neg (show ¬ (false = true) by decide)] at H; exact H
        clear H
        have H := H1
        clear H1
        exact absurd H (by simp)
       rw [if_neg c10] at H
       have c10b0 : ((rd (rd_L1 t310 3) 0) == 4) = false := beq_eq_false_iff_ne.mpr c10
       have c10b1 : ((rd (rd_L1 t310 3) 0) != 4) = true := bne_iff_ne.mpr c10
       exact absurd H (by simp)
      rw [if_neg c9] at H
      exact absurd H (by simp)
     rw [if_neg c8] at H
     have c8b0 : (((rd_L1 t310 3).length : Int) == 1) = false := beq_eq_false_iff_ne.mpr c8
     have c8b1 : (((rd_L1 t310 3).length : Int) != 1) = true := bne_iff_ne.mpr c8
     exact absurd H (by simp)
    rw [if_neg c7] at H
    exact absurd H (by simp)
   rw [if_neg c6] at H
   have c6b0 : ((t310.length : Int) == 5) = false := beq_eq_false_iff_ne.mpr c6
   have c6b1 : ((t310.length : Int) != 5) = true := bne_iff_ne.mpr c6
   exact absurd H (by simp)
  rw [if_neg c5] at H
  have c5b0 : (t316 == 0) = false := beq_eq_false_iff_ne.mpr c5
  have c5b1 : (t316 != 0) = true := bne_iff_ne.mpr c5
  exact absurd H (by simp)
 rw [if_neg c4] at H
 have c4b0 : (t308 == 0) = false := beq_eq_false_iff_ne.mpr c4
 have c4b1 : (t308 != 0) = true := bne_iff_ne.mpr c4
 exact absurd H (by simp)


/-! ### lockstepref06_Small: function 8 -/
def lockstepref06_Small.l0 : Nat → List (List Int) → Int → Option (Bool)
 | 0, _, _ => none
 | k + 1, x0, x3 => if x3 < (x0.length : Int) then (if 0 ≤ x3 then (if ((rd_L1 x0 x3).length : Int) > 100 then (some false) else (if x3 > 100 then (some false) else (lockstepref06_Small.l0 k x0 (wrap64 (x3 + 1))))) else (none)) else (some true)
def lockstepref06_Small.f (k : Nat) (l0 : List (List Int)) : Option (Bool) := lockstepref06_Small.l0 k l0 0
theorem lockstepref06_Small.mono_l : ∀ k, (∀ y0 y1, LeO (lockstepref06_Small.l0 k y0 y1) (lockstepref06_Small.l0 (k + 1) y0 y1))
 | 0 => fun _ _ r h => by simp [lockstepref06_Small.l0] at h
 | k + 1 => by
  have ih0 := lockstepref06_Small.mono_l k
  ·intro y0 y1
   unfold lockstepref06_Small.l0
   repeat' first
   | (with_reducible exact ih0 _ _)
   | (with_reducible exact LeO.refl _)
   | (with_reducible exact LeO.none _)
   | (with_reducible refine LeO.ite ?_ ?_)
   | (with_reducible refine LeO.bind ?_ (fun _ => ?_))
   | exact ih0 _ _
   | exact LeO.none _
   | refine LeO.ite ?_ ?_
   | refine LeO.bind ?_ (fun _ => ?_)
theorem lockstepref06_Small.mono : ∀ a0 k, LeO (lockstepref06_Small.f k a0) (lockstepref06_Small.f (k + 1) a0) := by
 intro a0 k
 have ih0 := lockstepref06_Small.mono_l k
 unfold lockstepref06_Small.f
 repeat' first
  | (with_reducible exact ih0 _ _)
  | (with_reducible exact LeO.refl _)
  | (with_reducible exact LeO.none _)
  | (with_reducible refine LeO.ite ?_ ?_)
  | (with_reducible refine LeO.bind ?_ (fun _ => ?_))
  | exact ih0 _ _
  | exact LeO.none _
  | refine LeO.ite ?_ ?_
  | refine LeO.bind ?_ (fun _ => ?_)
set_option maxHeartbeats 8000000 in
set_option maxRecDepth 100000 in
theorem lockstepref06_Small.calls (k : Nat) (A0 : Option Addr) (c0 : Nat) (l0 : List (List Int)) (r : Bool) (w : World) (hr0 : Kd.C (Kd.slice 3 (Kd.int .i64)) w A0 l0.length l0) (hc0 : l0.length ≤ c0) (h : lockstepref06_Small.f k l0 = some r) :
 Calls Try.prog 8 #[.slice A0 l0.length c0] w fun e w' => e = .returned (.bool r) ∧ Drawn0 w w' := by
 have HR0 := Aside0.mk hr0
 have HC0 := Aside0.mk hc0
 clear hr0 hc0
 have H : (lockstepref06_Small.l0 k l0 0) = some r := h
 clear h
 have H' := Aside0.mk H
 clear H
 go_enter Try.func8, Try.ntmps8
 go_wp2
 go_loopg [3] k (fun kq v3 w' => ∃ (x3_1 : Int), v3 = .int .i64 x3_1 ∧ Aside0 (lockstepref06_Small.l0 kq l0 x3_1 = some r) ∧ Aside0 (kq ≤ k) ∧ Drawn0 w w')
 case atStart => exact ⟨(0), (by first | rfl | (simp; done) | (simp [*]; done)), H', ⟨Nat.le_refl _⟩, by repeat (first | exact Drawn0.refl _ | apply Drawn0.step)⟩
 case round =>
  clear H'
  obtain ⟨x3_1, rfl, HA, HK1, ⟨m1, rfl⟩⟩ := hrel
  cases gk with
  | zero => exact absurd HA.out (by simp [lockstepref06_Small.l0])
  | succ k1 =>
   have H := HA.out
   clear HA
   simp only [lockstepref06_Small.l0] at H
   by_cases c2 : x3_1 < (l0.length : Int)
   ·rw [if_pos c2] at H
    have c2b0 : decide (x3_1 < (l0.length : Int)) = true := decide_eq_true c2
    clear c2
    by_cases c3 : 0 ≤ x3_1
    ·rw [if_pos c3] at H
     have c3b0 : decide (0 ≤ x3_1) = true := decide_eq_true c3
     clear c3
     by_cases c4 : ((rd_L1 l0 x3_1).length : Int) > 100
     ·rw [if_pos c4] at H
      have c4b0 : decide (100 < ((rd_L1 l0 x3_1).length : Int)) = true := decide_eq_true c4
      have c4b1 : decide (100 < (rd_L1 l0 x3_1).length) = true := decide_eq_true (by omega)
      clear c4
      obtain rfl := Option.some.inj H
      have p332 : 0 ≤ (x3_1 : Int) := D_
      have q332 : x3_1 < (l0.length : Int) := D_
      obtain ⟨ad332, A332_0, c332_0, e332, hx332_0, hl332_0, hi332_0⟩ := at_L1 HR0.out x3_1 p332 q332
      cases e332
      have HR332_0 := Aside0.mk hi332_0
      have HC332_0 := Aside0.mk hl332_0
      clear hi332_0 hl332_0
      replace p332 := eq_true p332
      replace q332 := eq_true q332
      go_wp2
      go_ret
      exact ⟨by first | rfl | (simp; done) | (simp [*]; done), by repeat (first | exact Drawn0.refl _ | apply Drawn0.step)⟩
     rw [if_neg c4] at H
     have c4b0 : decide (100 < ((rd_L1 l0 x3_1).length : Int)) = false := decide_eq_false c4
     have c4b1 : decide (100 < (rd_L1 l0 x3_1).length) = false := decide_eq_false (by omega)
     clear c4
     by_cases c5 : x3_1 > 100
     ·rw [if_pos c5] at H
      have c5b0 : decide (100 < x3_1) = true := decide_eq_true c5
      clear c5
      obtain rfl := Option.some.inj H
      have p332 : 0 ≤ (x3_1 : Int) := D_
      have q332 : x3_1 < (l0.length : Int) := D_
      obtain ⟨ad332, A332_0, c332_0, e332, hx332_0, hl332_0, hi332_0⟩ := at_L1 HR0.out x3_1 p332 q332
      cases e332
      have HR332_0 := Aside0.mk hi332_0
      have HC332_0 := Aside0.mk hl332_0
      clear hi332_0 hl332_0
      replace p332 := eq_true p332
      replace q332 := eq_true q332
      go_wp2
      go_ret
      exact ⟨by first | rfl | (simp; done) | (simp [*]; done), by repeat (first | exact Drawn0.refl _ | apply Drawn0.step)⟩
     rw [if_neg c5] at H
     have c5b0 : decide (100 < x3_1) = false := decide_eq_false c5
     clear c5
     have H' := Aside0.mk H
     clear H
     have p332 : 0 ≤ (x3_1 : Int) := D_
     have q332 : x3_1 < (l0.length : Int) := D_
     obtain ⟨ad332, A332_0, c332_0, e332, hx332_0, hl332_0, hi332_0⟩ := at_L1 HR0.out x3_1 p332 q332
     cases e332
     have HR332_0 := Aside0.mk hi332_0
     have HC332_0 := Aside0.mk hl332_0
     clear hi332_0 hl332_0
     replace p332 := eq_true p332
     replace q332 := eq_true q332
     go_wp2
     go_roundg k1
     case measure => have := HK1.out; omega
     case rel => exact ⟨(wrap64 (x3_1 + 1)), (by first | rfl | (simp; done) | (simp [*]; done)), H', ⟨by have := HK1.out; omega⟩, by repeat (first | exact Drawn0.refl _ | apply Drawn0.step)⟩
    rw [if_neg c3] at H
    exact absurd H (by simp)
   rw [if_neg c2] at H
   have c2b0 : decide (x3_1 < (l0.length : Int)) = false := decide_eq_false c2
   clear c2
   obtain rfl := Option.some.inj H
   go_wp2
   go_ret
   exact ⟨by first | rfl | (simp; done) | (simp [*]; done), by repeat (first | exact Drawn0.refl _ | apply Drawn0.step)⟩


/-! ### lockstepref06_Has: function 15 -/
def lockstepref06_Has.l0 : Nat → List Int → Int → Int → Option (Bool)
 | 0, _, _, _ => none
 | k + 1, x0, x1, x5 => if x5 < (x0.length : Int) then (if 0 ≤ x5 then (if (rd x0 x5) = x1 then (some true) else (lockstepref06_Has.l0 k x0 x1 (wrap64 (x5 + 1)))) else (none)) else (some false)
def lockstepref06_Has.f (k : Nat) (l0 : List Int) (a1 : Int) : Option (Bool) := lockstepref06_Has.l0 k l0 a1 0
theorem lockstepref06_Has.mono_l : ∀ k, (∀ y0 y1 y2, LeO (lockstepref06_Has.l0 k y0 y1 y2) (lockstepref06_Has.l0 (k + 1) y0 y1 y2))
 | 0 => fun _ _ _ r h => by simp [lockstepref06_Has.l0] at h
 | k + 1 => by
  have ih0 := lockstepref06_Has.mono_l k
  ·intro y0 y1 y2
   unfold lockstepref06_Has.l0
   repeat' first
   | (with_reducible exact ih0 _ _ _)
   | (with_reducible exact LeO.refl _)
   | (with_reducible exact LeO.none _)
   | (with_reducible refine LeO.ite ?_ ?_)
   | (with_reducible refine LeO.bind ?_ (fun _ => ?_))
   | exact ih0 _ _ _
   | exact LeO.none _
   | refine LeO.ite ?_ ?_
   | refine LeO.bind ?_ (fun _ => ?_)
theorem lockstepref06_Has.mono : ∀ a0 a1 k, LeO (lockstepref06_Has.f k a0 a1) (lockstepref06_Has.f (k + 1) a0 a1) := by
 intro a0 a1 k
 have ih0 := lockstepref06_Has.mono_l k
 unfold lockstepref06_Has.f
 repeat' first
  | (with_reducible exact ih0 _ _ _)
  | (with_reducible exact LeO.refl _)
  | (with_reducible exact LeO.none _)
  | (with_reducible refine LeO.ite ?_ ?_)
  | (with_reducible refine LeO.bind ?_ (fun _ => ?_))
  | exact ih0 _ _ _
  | exact LeO.none _
  | refine LeO.ite ?_ ?_
  | refine LeO.bind ?_ (fun _ => ?_)
set_option maxHeartbeats 8000000 in
set_option maxRecDepth 100000 in
theorem lockstepref06_Has.calls (k : Nat) (A0 : Option Addr) (c0 : Nat) (l0 : List Int) (a1 : Int) (r : Bool) (w : World) (hr0 : Kd.C (Kd.int .i64) w A0 l0.length l0) (hc0 : l0.length ≤ c0) (h : lockstepref06_Has.f k l0 a1 = some r) :
 Calls Try.prog 15 #[.slice A0 l0.length c0, .int .i64 a1] w fun e w' => e = .returned (.bool r) ∧ Drawn0 w w' := by
 have HR0 := Aside0.mk hr0
 have HC0 := Aside0.mk hc0
 clear hr0 hc0
 have H : (lockstepref06_Has.l0 k l0 a1 0) = some r := h
 clear h
 have H' := Aside0.mk H
 clear H
 go_enter Try.func15, Try.ntmps15
 go_wp2
 go_loopg [5] k (fun kq v5 w' => ∃ (x5_1 : Int), v5 = .int .i64 x5_1 ∧ Aside0 (lockstepref06_Has.l0 kq l0 a1 x5_1 = some r) ∧ Aside0 (kq ≤ k) ∧ Drawn0 w w')
 case atStart => exact ⟨(0), (by first | rfl | (simp; done) | (simp [*]; done)), H', ⟨Nat.le_refl _⟩, by repeat (first | exact Drawn0.refl _ | apply Drawn0.step)⟩
 case round =>
  clear H'
  obtain ⟨x5_1, rfl, HA, HK1, ⟨m1, rfl⟩⟩ := hrel
  cases gk with
  | zero => exact absurd HA.out (by simp [lockstepref06_Has.l0])
  | succ k1 =>
   have H := HA.out
   clear HA
   simp only [lockstepref06_Has.l0] at H
   by_cases c3 : x5_1 < (l0.length : Int)
   ·rw [if_pos c3] at H
    have c3b0 : decide (x5_1 < (l0.length : Int)) = true := decide_eq_true c3
    clear c3
    by_cases c4 : 0 ≤ x5_1
    ·rw [if_pos c4] at H
     have c4b0 : decide (0 ≤ x5_1) = true := decide_eq_true c4
     clear c4
     by_cases c5 : (rd l0 x5_1) = a1
     ·rw [if_pos c5] at H
      have c5b0 : ((rd l0 x5_1) == a1) = true := beq_iff_eq.mpr c5
      have c5b1 : ((rd l0 x5_1) != a1) = false := bne_eq_false_iff_eq.mpr c5
      clear c5
      obtain rfl := Option.some.inj H
      have p379 : 0 ≤ (x5_1 : Int) := D_
      have q379 : x5_1 < (l0.length : Int) := D_
      obtain ⟨ad379, e379, hx379_0⟩ := Kd.at_int HR0.out x5_1 p379 q379
      cases e379
      replace p379 := eq_true p379
      replace q379 := eq_true q379
      go_wp2
      go_ret
      exact ⟨by first | rfl | (simp; done) | (simp [*]; done), by repeat (first | exact Drawn0.refl _ | apply Drawn0.step)⟩
     rw [if_neg c5] at H
     have c5b0 : ((rd l0 x5_1) == a1) = false := beq_eq_false_iff_ne.mpr c5
     have c5b1 : ((rd l0 x5_1) != a1) = true := bne_iff_ne.mpr c5
     have H' := Aside0.mk H
     clear H
     have p379 : 0 ≤ (x5_1 : Int) := D_
     have q379 : x5_1 < (l0.length : Int) := D_
     obtain ⟨ad379, e379, hx379_0⟩ := Kd.at_int HR0.out x5_1 p379 q379
     cases e379
     replace p379 := eq_true p379
     replace q379 := eq_true q379
     go_wp2
     go_roundg k1
     case measure => have := HK1.out; omega
     case rel => exact ⟨(wrap64 (x5_1 + 1)), (by first | rfl | (simp; done) | (simp [*]; done)), H', ⟨by have := HK1.out; omega⟩, by repeat (first | exact Drawn0.refl _ | apply Drawn0.step)⟩
    rw [if_neg c4] at H
    exact absurd H (by simp)
   rw [if_neg c3] at H
   have c3b0 : decide (x5_1 < (l0.length : Int)) = false := decide_eq_false c3
   clear c3
   obtain rfl := Option.some.inj H
   go_wp2
   go_ret
   exact ⟨by first | rfl | (simp; done) | (simp [*]; done), by repeat (first | exact Drawn0.refl _ | apply Drawn0.step)⟩

end Go.Proofs.Ytamlaebfpmbefaa.G
