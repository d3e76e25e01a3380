/- Printed by a program of this session (wip/tools/op.py, over the kit's print program): Go functions as plain Lean functions, each with a proof that the call answers so. Conditions: each theorem's own. -/
import Derived.Test.YtoekeknfeinphaaGx0
import Derived.Test.YtoekeknfeinphaaGx15
import Derived.Test.YtoekeknfeinphaaGx21
namespace Go.Proofs.Ytoekeknfeinphaa.G
open Go.Proofs.YtoekeknfeinphaaH
open Go.RowKit Go.Proofs.YtoekeknfeinphaaW.PrintWords Go.Proofs.YtoekeknfeinphaaW.PrintLast Go.Proofs.YtoekeknfeinphaaW.PrintMore
attribute [local go_sem] max2_int min2_int max_two min_two max_three min_three max_four min_four   -- for this text's walks alone
set_option linter.unusedVariables false
set_option linter.unusedSimpArgs false

/-! ### loop_Backs: function 22 -/
mutual
def loop_Backs.l0 : Nat → List Int → List (S48) → List (List Int) → Int → Int → Option ((List (S48)))
 | 0, _, _, _, _, _ => none
 | k + 1, x3, x4, x12, x13, x14 => if x14 < x13 then (if 0 ≤ x14 then (if x14 < (x12.length : Int) then (loop_Backs.l1 k x3 x4 x14 x12 x13 x14 (rd_L1 x12 x14) ((rd_L1 x12 x14).length : Int) 0) else (none)) else (none)) else (some x4)
def loop_Backs.l1 : Nat → List Int → List (S48) → Int → List (List Int) → Int → Int → List Int → Int → Int → Option ((List (S48)))
 | 0, _, _, _, _, _, _, _, _, _ => none
 | k + 1, x3, x4, x5, x12, x13, x14, x19, x20, x21 => if x21 < x20 then (if 0 ≤ x21 then (if x21 < (x19.length : Int) then ((dom_Over.f k x3 (rd x19 x21) x5).bind fun t265 => (if t265 = true then (if x4.length < 8796093022208 then (loop_Backs.l1 k x3 (x4 ++ [(⟨x5, rd x19 x21⟩ : S48)]) x5 x12 x13 x14 x19 x20 (wrap64 (x21 + 1))) else (none)) else (loop_Backs.l1 k x3 x4 x5 x12 x13 x14 x19 x20 (wrap64 (x21 + 1))))) else (none)) else (none)) else (loop_Backs.l0 k x3 x4 x12 x13 (wrap64 (x14 + 1)))
end
def loop_Backs.f (k : Nat) (l0_0 : List (List Int)) (l0_1 : List (List Int)) : Option ((List (S48))) := (dom_Tree.f k l0_0 l0_1 0).bind fun t260 => (loop_Backs.l0 k t260 ([] : List (S48)) l0_0 (l0_0.length : Int) 0)
theorem loop_Backs.mono_l : ∀ k, (∀ y0 y1 y2 y3 y4, LeO (loop_Backs.l0 k y0 y1 y2 y3 y4) (loop_Backs.l0 (k + 1) y0 y1 y2 y3 y4)) ∧ (∀ y0 y1 y2 y3 y4 y5 y6 y7 y8, LeO (loop_Backs.l1 k y0 y1 y2 y3 y4 y5 y6 y7 y8) (loop_Backs.l1 (k + 1) y0 y1 y2 y3 y4 y5 y6 y7 y8))
 | 0 => ⟨fun _ _ _ _ _ r h => by simp [loop_Backs.l0] at h, fun _ _ _ _ _ _ _ _ _ r h => by simp [loop_Backs.l1] at h⟩
 | k + 1 => by
  obtain ⟨ih0, ih1⟩ := loop_Backs.mono_l k
  refine ⟨?_, ?_⟩
  ·intro y0 y1 y2 y3 y4
   unfold loop_Backs.l0
   repeat' first
   | (with_reducible exact ih0 _ _ _ _ _)
   | (with_reducible exact ih1 _ _ _ _ _ _ _ _ _)
   | (with_reducible exact dom_Over.mono _ _ _ _)
   | (with_reducible exact dom_Tree.mono _ _ _ _)
   | (with_reducible exact LeO.refl _)
   | (with_reducible exact LeO.none _)
   | (with_reducible refine LeO.ite ?_ ?_)
   | (with_reducible refine LeO.bind ?_ (fun _ => ?_))
   | exact ih0 _ _ _ _ _
   | exact ih1 _ _ _ _ _ _ _ _ _
   | exact dom_Over.mono _ _ _ _
   | exact dom_Tree.mono _ _ _ _
   | exact LeO.none _
   | refine LeO.ite ?_ ?_
   | refine LeO.bind ?_ (fun _ => ?_)
  ·intro y0 y1 y2 y3 y4 y5 y6 y7 y8
   unfold loop_Backs.l1
   repeat' first
   | (with_reducible exact ih0 _ _ _ _ _)
   | (with_reducible exact ih1 _ _ _ _ _ _ _ _ _)
   | (with_reducible exact dom_Over.mono _ _ _ _)
   | (with_reducible exact dom_Tree.mono _ _ _ _)
   | (with_reducible exact LeO.refl _)
   | (with_reducible exact LeO.none _)
   | (with_reducible refine LeO.ite ?_ ?_)
   | (with_reducible refine LeO.bind ?_ (fun _ => ?_))
   | exact ih0 _ _ _ _ _
   | exact ih1 _ _ _ _ _ _ _ _ _
   | exact dom_Over.mono _ _ _ _
   | exact dom_Tree.mono _ _ _ _
   | exact LeO.none _
   | refine LeO.ite ?_ ?_
   | refine LeO.bind ?_ (fun _ => ?_)
theorem loop_Backs.mono : ∀ a0 a1 k, LeO (loop_Backs.f k a0 a1) (loop_Backs.f (k + 1) a0 a1) := by
 intro a0 a1 k
 obtain ⟨ih0, ih1⟩ := loop_Backs.mono_l k
 unfold loop_Backs.f
 repeat' first
  | (with_reducible exact ih0 _ _ _ _ _)
  | (with_reducible exact ih1 _ _ _ _ _ _ _ _ _)
  | (with_reducible exact dom_Over.mono _ _ _ _)
  | (with_reducible exact dom_Tree.mono _ _ _ _)
  | (with_reducible exact LeO.refl _)
  | (with_reducible exact LeO.none _)
  | (with_reducible refine LeO.ite ?_ ?_)
  | (with_reducible refine LeO.bind ?_ (fun _ => ?_))
  | exact ih0 _ _ _ _ _
  | exact ih1 _ _ _ _ _ _ _ _ _
  | exact dom_Over.mono _ _ _ _
  | exact dom_Tree.mono _ _ _ _
  | exact LeO.none _
  | refine LeO.ite ?_ ?_
  | refine LeO.bind ?_ (fun _ => ?_)
set_option maxHeartbeats 8000000 in
set_option maxRecDepth 100000 in
theorem loop_Backs.calls (k : Nat) (A0_0 : Option Addr) (c0_0 : Nat) (l0_0 : List (List Int)) (A0_1 : Option Addr) (c0_1 : Nat) (l0_1 : List (List Int)) (r : List (S48)) (w : World) (hr0_0 : Kd.C (Kd.slice 3 (Kd.int .i64)) w A0_0 l0_0.length l0_0) (hc0_0 : l0_0.length ≤ c0_0) (hr0_1 : Kd.C (Kd.slice 3 (Kd.int .i64)) w A0_1 l0_1.length l0_1) (hc0_1 : l0_1.length ≤ c0_1) (h : loop_Backs.f k l0_0 l0_1 = some r) :
 Calls Try.prog 22 #[.agg #[.slice A0_0 l0_0.length c0_0, .slice A0_1 l0_1.length c0_1]] w fun e w' => ∃ v0_ : Value, e = .returned (v0_) ∧ Kd.R k48 48 w' w.heap.size (fun _ => True) v0_ r ∧ Below w.heap.size w w' := by
 have hu26 := Try.underlying26
 have hu48 := Try.underlying48
 have HR0_0 := Aside0.mk hr0_0
 have HC0_0 := Aside0.mk hc0_0
 clear hr0_0 hc0_0
 have HR0_1 := Aside0.mk hr0_1
 have HC0_1 := Aside0.mk hc0_1
 clear hr0_1 hc0_1
 have HB := Aside0.mk (Below.refl w.heap.size w)
 have H : ((dom_Tree.f k l0_0 l0_1 0).bind fun t260 => (loop_Backs.l0 k t260 ([] : List (S48)) l0_0 (l0_0.length : Int) 0)) = some r := h
 clear h
 replace H := Option.bind_eq_some_iff.mp H
 obtain ⟨t260, A20, H⟩ := H
 replace H : (loop_Backs.l0 k t260 ([] : List (S48)) l0_0 (l0_0.length : Int) 0) = some r := H
 have A2 := Aside0.mk A20
 clear A20
 have H' := Aside0.mk H
 clear H
 go_enter Try.func22, Try.ntmps22
 go_wp2_with (first | ((with_reducible refine gate_dst (N := 1) rfl ?_); refine box_event ?hg (N := 1) ?hd (cs := #[.slice A0_0 l0_0.length c0_0, .slice A0_1 l0_1.length c0_1]) (t := 26) ?hr ?_; (case hd => rfl); (case hg => rfl); (case hr => first | (go_simp; done) | (go_simp; rfl)); intro gb259 hg w3 hbox hb; have n0_ := Aside0.mk (below_step (B_) hb); have n1_ := Aside0.mk (hbox); have n2_ := Aside0.mk ((by rw [hg]; exact (below_size (B_)) : w.heap.size ≤ gb259)); have n3_ := Aside0.mk ((by rw [hg]; exact (below_size (B_)) : w.heap.size ≤ gb259)); clear HB; have HB := n0_; have BK259 := n1_; have GW259 := n2_; have GE259 := n3_; clear n0_ n1_ n2_ n3_; clear hb hbox hg; have hcz4_0 : w3.cell? ⟨gb259, 0, none⟩ = some (.slice A0_0 l0_0.length c0_0) := (blk_cell BK259.out 0).trans rfl; have hcz4_1 : w3.cell? ⟨gb259, 1, none⟩ = some (.slice A0_1 l0_1.length c0_1) := (blk_cell BK259.out 1).trans rfl; have hfz4_0 := blk_frozen BK259.out 0; have hfz4_1 := blk_frozen BK259.out 1) | ((with_reducible refine gate_callee (f := 13) rfl ?_); refine goesL_ (some 10) rfl rfl Try.func13 (by kernel_rfl) rfl #[.agg #[.slice A0_0 l0_0.length c0_0, .slice A0_1 l0_1.length c0_1], .int .i64 0] rfl (by (try simp only [List.map_toArray, List.map_cons, List.map_nil]); first | done | rfl | (simp only [List.length_drop, List.length_take]; rfl)) ?_; (with_reducible refine (dom_Tree.calls k _ _ l0_0 _ _ l0_1 0 t260 _ ?side1 ?side2 ?side3 ?side4 A2.out).mono ?_); (case side1 => exact CX_ (Kd.C_below HR0_0.out HB.out)); (case side2 => exact HC0_0.out); (case side3 => exact CX_ (Kd.C_below HR0_1.out HB.out)); (case side4 => exact HC0_1.out); rintro e w5 ⟨v261, rfl, ho0, hb⟩; refine ⟨_, rfl, ?_⟩; have n0_ := Aside0.mk (Kd.R_lower ho0 (below_size (B1_))); have n1_ := Aside0.mk (blk_below (g := gb259) (o := .cells #[.slice A0_0 l0_0.length c0_0, .slice A0_1 l0_1.length c0_1] 26 (0, 0)) (by exact KX_ BK259.out) hb); have n2_ := Aside0.mk (below_step (B1_) hb); clear BK259; clear HB; have HO262 := n0_; have BK259 := n1_; have HB := n2_; clear n0_ n1_ n2_; (try clear hb); (try clear hb2); (try clear hk); (try clear hi); (try clear ho0); have hcz6_0 : w5.cell? ⟨gb259, 0, none⟩ = some (.slice A0_0 l0_0.length c0_0) := (blk_cell BK259.out 0).trans rfl; have hcz6_1 : w5.cell? ⟨gb259, 1, none⟩ = some (.slice A0_1 l0_1.length c0_1) := (blk_cell BK259.out 1).trans rfl; have hfz6_0 := blk_frozen BK259.out 0; have hfz6_1 := blk_frozen BK259.out 1))
 go_loopg [4, 14] k (fun kq v4 v14 w' => ∃ (x4_1 : List (S48)) (x14_1 : Int), v14 = .int .i64 x14_1 ∧ Aside0 (loop_Backs.l0 kq t260 x4_1 l0_0 (l0_0.length : Int) x14_1 = some r) ∧ Aside0 (kq ≤ k) ∧ Aside0 (Kd.R (Kd.int .i64) 3 w' w.heap.size (fun _ => True) v261 t260) ∧ Aside0 (Kd.R k48 48 w' w.heap.size (fun _ => True) v4 x4_1) ∧ Aside0 (w'.heap[gb259]? = some (.cells #[(.slice A0_0 l0_0.length c0_0), (.slice A0_1 l0_1.length c0_1)] 26 (0, 0))) ∧ Aside0 (Below w.heap.size w w'))
 case atStart => exact ⟨(([] : List (S48))), (0), (by first | rfl | (simp; done) | (simp [*]; done)), H', ⟨Nat.le_refl _⟩, ⟨by exact RM_ HO262.out⟩, ⟨by first | exact Kd.R_nil _ _ _ _ _ | exact Kd.N_nil _ _ _ _ _ | exact Kd.V_nil _ _ _ _ _ | exact Kd.Q_nil _ _ _ _ _ | exact Kd.S_nil _ _ _ _ _⟩, ⟨by exact KX_ BK259.out⟩, ⟨B1_⟩⟩
 case round =>
  clear H'
  try clear hcz4_0
  try clear hcz4_1
  try clear hcz6_0
  try clear hcz6_1
  try clear hfz4_0
  try clear hfz4_1
  try clear hfz6_0
  try clear hfz6_1
  obtain ⟨x4_1, x14_1, rfl, HA, HK1, HO_3, HO_4, BK259, HB⟩ := hrel
  cases gk with
  | zero => exact absurd HA.out (by simp [loop_Backs.l0])
  | succ k1 =>
   have H := HA.out
   clear HA
   simp only [loop_Backs.l0] at H
   by_cases c7 : x14_1 < (l0_0.length : Int)
   ·rw [if_pos c7] at H
    have c7b0 : decide (x14_1 < (l0_0.length : Int)) = true := decide_eq_true c7
    clear c7
    by_cases c8 : 0 ≤ x14_1
    ·rw [if_pos c8] at H
     have c8b0 : decide (0 ≤ x14_1) = true := decide_eq_true c8
     clear c8
     by_cases c9 : x14_1 < (l0_0.length : Int)
     ·rw [if_pos c9] at H
      have c9b0 : decide (x14_1 < (l0_0.length : Int)) = true := decide_eq_true c9
      clear c9
      have H' := Aside0.mk H
      clear H
      have p263 : 0 ≤ (x14_1 : Int) := D_
      have q263 : x14_1 < (l0_0.length : Int) := D_
      obtain ⟨ad263, A263_0, c263_0, e263, hx263_0, hl263_0, hi263_0⟩ := at_L1 HR0_0.out x14_1 p263 q263
      cases e263
      replace hx263_0 := (HB.out.cell (World.block_lt_of_cell? w _ hx263_0)).trans hx263_0
      have HR263_0 := Aside0.mk hi263_0
      have HC263_0 := Aside0.mk hl263_0
      clear hi263_0 hl263_0
      replace p263 := eq_true p263
      replace q263 := eq_true q263
      go_wp2
      go_loopg [4, 21] k1 (fun kq v4 v21 w' => ∃ (x4_2 : List (S48)) (x21_2 : Int), v21 = .int .i64 x21_2 ∧ Aside0 (loop_Backs.l1 kq t260 x4_2 x14_1 l0_0 (l0_0.length : Int) x14_1 (rd_L1 l0_0 x14_1) ((rd_L1 l0_0 x14_1).length : Int) x21_2 = some r) ∧ Aside0 (kq ≤ k1) ∧ Aside0 (Kd.R (Kd.int .i64) 3 w' w.heap.size (fun _ => True) v261 t260) ∧ Aside0 (Kd.R k48 48 w' w.heap.size (fun _ => True) v4 x4_2) ∧ Aside0 (w'.heap[gb259]? = some (.cells #[(.slice (some ad263) l0_0.length c0_0), (.slice A0_1 l0_1.length c0_1)] 26 (0, 0))) ∧ Aside0 (Below w.heap.size w w'))
      case atStart => exact ⟨(x4_1), (0), (by first | rfl | (simp; done) | (simp [*]; done)), H', ⟨Nat.le_refl _⟩, ⟨by exact RM_ HO_3.out⟩, ⟨by exact RM_ HO_4.out⟩, ⟨by exact KX_ BK259.out⟩, ⟨B1_⟩⟩
      case round =>
       clear H'
       try clear c7b0
       try clear c8b0
       try clear c9b0
       try clear hx263_0
       try clear p263
       try clear q263
       obtain ⟨x4_2, x21_2, rfl, HA, HK2, HO_3, HO_4, BK259, HB⟩ := hrel
       cases gk with
       | zero => exact absurd HA.out (by simp [loop_Backs.l1])
       | succ k2 =>
        have H := HA.out
        clear HA
        simp only [loop_Backs.l1] at H
        by_cases c10 : x21_2 < ((rd_L1 l0_0 x14_1).length : Int)
        ·rw [if_pos c10] at H
         have c10b0 : decide (x21_2 < ((rd_L1 l0_0 x14_1).length : Int)) = true := decide_eq_true c10
         clear c10
         by_cases c11 : 0 ≤ x21_2
         ·rw [if_pos c11] at H
          have c11b0 : decide (0 ≤ x21_2) = true := decide_eq_true c11
          clear c11
          by_cases c12 : x21_2 < ((rd_L1 l0_0 x14_1).length : Int)
          ·rw [if_pos c12] at H
           have c12b0 : decide (x21_2 < ((rd_L1 l0_0 x14_1).length : Int)) = true := decide_eq_true c12
           clear c12
           replace H := Option.bind_eq_some_iff.mp H
           obtain ⟨t265, A130, H⟩ := H
           replace H : (if t265 = true then (if x4_2.length < 8796093022208 then (loop_Backs.l1 k2 t260 (x4_2 ++ [(⟨x14_1, rd (rd_L1 l0_0 x14_1) x21_2⟩ : S48)]) x14_1 l0_0 (l0_0.length : Int) x14_1 (rd_L1 l0_0 x14_1) ((rd_L1 l0_0 x14_1).length : Int) (wrap64 (x21_2 + 1))) else (none)) else (loop_Backs.l1 k2 t260 x4_2 x14_1 l0_0 (l0_0.length : Int) x14_1 (rd_L1 l0_0 x14_1) ((rd_L1 l0_0 x14_1).length : Int) (wrap64 (x21_2 + 1)))) = some r := H
           have A13 := Aside0.mk A130
           clear A130
           by_cases c14 : t265 = true
           ·subst c14
            have H1 : (if x4_2.length < 8796093022208 then (loop_Backs.l1 k2 t260 (x4_2 ++ [(⟨x14_1, rd (rd_L1 l0_0 x14_1) x21_2⟩ : S48)]) x14_1 l0_0 (l0_0.length : Int) x14_1 (rd_L1 l0_0 x14_1) ((rd_L1 l0_0 x14_1).length : Int) (wrap64 (x21_2 + 1))) else (none)) = some r := by rw [if_pos rfl] at H; exact H
            clear H
            have H := H1
            clear H1
            by_cases c15 : x4_2.length < 8796093022208
            ·rw [if_pos c15] at H
             have LMc15 := Aside0.mk c15
             clear c15
             obtain ⟨y266, hy266⟩ : ∃ y_ : List (S48), y_ = (x4_2 ++ [(⟨x14_1, rd (rd_L1 l0_0 x14_1) x21_2⟩ : S48)]) := ⟨_, rfl⟩
             replace H : (loop_Backs.l1 k2 t260 y266 x14_1 l0_0 (l0_0.length : Int) x14_1 (rd_L1 l0_0 x14_1) ((rd_L1 l0_0 x14_1).length : Int) (wrap64 (x21_2 + 1))) = some r := by first | (rw [hy266]; with_reducible exact H) | (have H2_ := (Option.bind_some _ _).symm.trans H; rw [hy266]; with_reducible exact H2_) | (have H2_ := (Option.bind_some _ _).symm.trans H; with_reducible exact H2_) | with_reducible exact H | (rw [hy266]; exact H) | exact H
             have Ny266 := Aside0.mk hy266
             clear hy266
             have H' := Aside0.mk H
             clear H
             have p264 : 0 ≤ (x21_2 : Int) := D_
             have q264 : x21_2 < ((rd_L1 l0_0 x14_1).length : Int) := D_
             obtain ⟨ad264, e264, hx264_0⟩ := Kd.at_int HR263_0.out x21_2 p264 q264
             cases e264
             replace hx264_0 := (HB.out.cell (World.block_lt_of_cell? w _ hx264_0)).trans hx264_0
             replace p264 := eq_true p264
             replace q264 := eq_true q264
             obtain ⟨Ao16, co16, eo16⟩ := Kd.R_slice HO_3.out
             subst eo16
             go_wp2_with (first | ((with_reducible refine gate_callee (f := 15) rfl ?_); refine goesL_ (some 28) rfl rfl Try.func15 (by kernel_rfl) rfl #[.slice Ao16 t260.length co16, .int .i64 (rd (rd_L1 l0_0 x14_1) x21_2), .int .i64 x14_1] rfl (by (try simp only [List.map_toArray, List.map_cons, List.map_nil]); first | done | rfl | (simp only [List.length_drop, List.length_take]; rfl)) ?_; (with_reducible refine (dom_Over.calls k2 _ _ t260 (rd (rd_L1 l0_0 x14_1) x21_2) x14_1 true _ ?side1 ?side2 A13.out).mono ?_); (case side1 => repeat (first | exact (Kd.R_reads' HO_3.out).2.2 | (with_reducible refine Kd.C_alloc ?_ _) | (with_reducible refine Kd.C_drewN ?_ _) | (with_reducible refine Kd.C_drew ?_))); (case side2 => exact (Kd.R_reads' HO_3.out).2.1); rintro e w17 ⟨rfl, hb⟩; refine ⟨_, rfl, ?_⟩; have n0_ := Aside0.mk (Kd.R_below (by exact RX_ HO_3.out) hb); have n1_ := Aside0.mk (Kd.R_below (by exact RX_ HO_4.out) hb); have n2_ := Aside0.mk (blk_below (g := gb259) (o := .cells #[.slice (some ad263) l0_0.length c0_0, .slice A0_1 l0_1.length c0_1] 26 (0, 0)) (by exact KX_ BK259.out) hb); have n3_ := Aside0.mk (below_step (B1_) hb); clear HO_3; clear HO_4; clear BK259; clear HB; have HO_3 := n0_; have HO_4 := n1_; have BK259 := n2_; have HB := n3_; clear n0_ n1_ n2_ n3_; (try clear hb); (try clear hb2); (try clear hk); (try clear hi)) | ((with_reducible refine gate_builtin (b := .append) (xs := #[.tmp 29, .tmp 33]) rfl ?_); at_builtin; refine Kd.R_append k48 (w0 := w) w.heap.size rfl (.tmp 29) (.tmp 33) 45 48 (.agg #[(.int .i64 0), (.int .i64 0)]) 16 rfl Try.underlying45 info48 rfl (by decide) (by omega) u4 x4_2 (⟨x14_1, rd (rd_L1 l0_0 x14_1) x21_2⟩ : S48) [.int .i64 x14_1, .int .i64 (rd (rd_L1 l0_0 x14_1) x21_2)] (fun _ => True) (fun _ => False) rfl rfl ?aP (fun _ hk => hk.elim) ?aF ?aO ?aB ?aS ?aL ?_; (case aP => exact k48_mkM _ _ _ (⟨x14_1, rd (rd_L1 l0_0 x14_1) x21_2⟩ : S48)); (case aB => exact (B1_)); (case aF => exact (fun _ _ => trivial)); (case aO => exact (by exact RX_ HO_4.out)); (case aS => exact (below_size (B1_))); (case aL => have := LMc15.out; omega); intro v267 w18 ho hb hg hat; rw [← Ny266.out] at ho; have n0_ := Aside0.mk (Kd.R_over' (by exact RX_ HO_3.out) (Kd.R_typed (by exact RX_ HO_4.out)) (by decide) hg); have n1_ := Aside0.mk (blk_grown (g := gb259) (o := .cells #[.slice (some ad263) l0_0.length c0_0, .slice A0_1 l0_1.length c0_1] 26 (0, 0)) (by exact KX_ BK259.out) hg (Kd.R_ne HO_4.out BK259.out (by decide))); have n2_ := Aside0.mk (hb); have n3_ := Aside0.mk (ho); clear HO_3; clear BK259; clear HB; clear HO_4; have HO_3 := n0_; have BK259 := n1_; have HB := n2_; have HO268 := n3_; clear n0_ n1_ n2_ n3_; clear ho hb hg hat))
             go_roundg k2
             case measure => have := HK1.out; have := HK2.out; omega
             case rel => exact ⟨(y266), (wrap64 (x21_2 + 1)), (by first | rfl | (simp; done) | (simp [*]; done)), H', ⟨by have := HK1.out; have := HK2.out; omega⟩, ⟨by exact RM_ HO_3.out⟩, ⟨by exact RM_ HO268.out⟩, ⟨by exact KX_ BK259.out⟩, ⟨B1_⟩⟩
            rw [if_neg c15] at H
            exact absurd H (by simp)
           replace c14 := Bool.eq_false_iff.mpr c14
           subst c14
           have H1 : (loop_Backs.l1 k2 t260 x4_2 x14_1 l0_0 (l0_0.length : Int) x14_1 (rd_L1 l0_0 x14_1) ((rd_L1 l0_0 x14_1).length : Int) (wrap64 (x21_2 + 1))) = some r := by rw [if_neg (show ¬ (false = true) by decide)] at H; exact H
           clear H
           have H := H1
           clear H1
           have H' := Aside0.mk H
           clear H
           have p264 : 0 ≤ (x21_2 : Int) := D_
           have q264 : x21_2 < ((rd_L1 l0_0 x14_1).length : Int) := D_
           obtain ⟨ad264, e264, hx264_0⟩ := Kd.at_int HR263_0.out x21_2 p264 q264
           cases e264
           replace hx264_0 := (HB.out.cell (World.block_lt_of_cell? w _ hx264_0)).trans hx264_0
           replace p264 := eq_true p264
           replace q264 := eq_true q264
           obtain ⟨Ao19, co19, eo19⟩ := Kd.R_slice HO_3.out
           subst eo19
           go_wp2_with (first | ((with_reducible refine gate_callee (f := 15) rfl ?_); refine goesL_ (some 28) rfl rfl Try.func15 (by kernel_rfl) rfl #[.slice Ao19 t260.length co19, .int .i64 (rd (rd_L1 l0_0 x14_1) x21_2), .int .i64 x14_1] rfl (by (try simp only [List.map_toArray, List.map_cons, List.map_nil]); first | done | rfl | (simp only [List.length_drop, List.length_take]; rfl)) ?_; (with_reducible refine (dom_Over.calls k2 _ _ t260 (rd (rd_L1 l0_0 x14_1) x21_2) x14_1 false _ ?side1 ?side2 A13.out).mono ?_); (case side1 => repeat (first | exact (Kd.R_reads' HO_3.out).2.2 | (with_reducible refine Kd.C_alloc ?_ _) | (with_reducible refine Kd.C_drewN ?_ _) | (with_reducible refine Kd.C_drew ?_))); (case side2 => exact (Kd.R_reads' HO_3.out).2.1); rintro e w20 ⟨rfl, hb⟩; refine ⟨_, rfl, ?_⟩; have n0_ := Aside0.mk (Kd.R_below (by exact RX_ HO_3.out) hb); have n1_ := Aside0.mk (Kd.R_below (by exact RX_ HO_4.out) hb); have n2_ := Aside0.mk (blk_below (g := gb259) (o := .cells #[.slice (some ad263) l0_0.length c0_0, .slice A0_1 l0_1.length c0_1] 26 (0, 0)) (by exact KX_ BK259.out) hb); have n3_ := Aside0.mk (below_step (B1_) hb); clear HO_3; clear HO_4; clear BK259; clear HB; have HO_3 := n0_; have HO_4 := n1_; have BK259 := n2_; have HB := n3_; clear n0_ n1_ n2_ n3_; (try clear hb); (try clear hb2); (try clear hk); (try clear hi)))
           go_roundg k2
           case measure => have := HK1.out; have := HK2.out; omega
           case rel => exact ⟨(x4_2), (wrap64 (x21_2 + 1)), (by first | rfl | (simp; done) | (simp [*]; done)), H', ⟨by have := HK1.out; have := HK2.out; omega⟩, ⟨by exact RM_ HO_3.out⟩, ⟨by exact RM_ HO_4.out⟩, ⟨by exact KX_ BK259.out⟩, ⟨B1_⟩⟩
          rw [if_neg c12] at H
          exact absurd H (by simp)
         rw [if_neg c11] at H
         exact absurd H (by simp)
        rw [if_neg c10] at H
        have c10b0 : decide (x21_2 < ((rd_L1 l0_0 x14_1).length : Int)) = false := decide_eq_false c10
        clear c10
        have H' := Aside0.mk H
        clear H
        go_wp2
        go_roundg k2
        case measure => have := HK1.out; have := HK2.out; omega
        case rel => exact ⟨(x4_2), (wrap64 (x14_1 + 1)), (by first | rfl | (simp; done) | (simp [*]; done)), H', ⟨by have := HK1.out; have := HK2.out; omega⟩, ⟨by exact RM_ HO_3.out⟩, ⟨by exact RM_ HO_4.out⟩, ⟨by exact KX_ BK259.out⟩, ⟨B1_⟩⟩
     rw [if_neg c9] at H
     exact absurd H (by simp)
    rw [if_neg c8] at H
    exact absurd H (by simp)
   rw [if_neg c7] at H
   have c7b0 : decide (x14_1 < (l0_0.length : Int)) = false := decide_eq_false c7
   clear c7
   obtain rfl := Option.some.inj H
   go_wp2
   go_ret
   exact ⟨_, by first | rfl | (simp [errW_none, errW_some] <;> rfl) | (simp [*, errW_none, errW_some] <;> rfl), by exact RX_ HO_4.out, B1_⟩

end Go.Proofs.Ytoekeknfeinphaa.G
