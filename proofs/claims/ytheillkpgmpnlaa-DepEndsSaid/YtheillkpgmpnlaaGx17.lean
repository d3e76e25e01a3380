/- Printed by a program of this session (wip/tools/op.py, over the kit's print program): Go functions as plain Lean functions, each with a proof that the call answers so. Conditions: each theorem's own. -/
import Derived.Test.YtheillkpgmpnlaaGx0
import Derived.Test.YtheillkpgmpnlaaGx13
import Derived.Test.YtheillkpgmpnlaaGx15
import Derived.Test.YtheillkpgmpnlaaGx16
namespace Go.Proofs.Ytheillkpgmpnlaa.G
open Go.Proofs.YtheillkpgmpnlaaH
open Go.RowKit Go.Proofs.YtheillkpgmpnlaaW.PrintWords Go.Proofs.YtheillkpgmpnlaaW.PrintLast Go.Proofs.YtheillkpgmpnlaaW.PrintMore
attribute [local go_sem] max2_int min2_int max_two min_two max_three min_three max_four min_four   -- for this text's walks alone
set_option linter.unusedVariables false
set_option linter.unusedSimpArgs false

/-! ### dom_Tree: function 19 -/
mutual
def dom_Tree.l0 : Nat → Int → List Int → List Int → List Int → List Int → Int → Int → List (List Int) → List (List Int) → Option (List Int)
 | 0, _, _, _, _, _, _, _, _, _ => none
 | k + 1, x1, x5, x7, x8, x30, x31, x32, x213000, x213001 => if x32 < x31 then (if 0 ≤ x32 then (if x32 < (x30.length : Int) then (if 0 ≤ (rd x30 x32) then (if (rd x30 x32) < (x8.length : Int) then (dom_Tree.l0 k x1 x5 x7 (x8.set ((rd x30 x32) : Int).toNat x32) x30 x31 (wrap64 (x32 + 1)) x213000 x213001) else (none)) else (none)) else (none)) else (none)) else (if 0 ≤ x1 then (if x1 < (x7.length : Int) then (dom_Tree.l1 k x1 x5 (x7.set (x1 : Int).toNat x1) x8 x213000 x213001) else (none)) else (none))
def dom_Tree.l1 : Nat → Int → List Int → List Int → List Int → List (List Int) → List (List Int) → Option (List Int)
 | 0, _, _, _, _, _, _ => none
 | k + 1, x1, x5, x7, x8, x213000, x213001 => if 1 ≤ (x5.length : Int) then ((some (x5.drop 1 : List Int)).bind fun y228 => (dom_Tree.l2 k x1 x5 x7 x8 y228 (y228.length : Int) 0 x213000 x213001)) else (none)
def dom_Tree.l2 : Nat → Int → List Int → List Int → List Int → List Int → Int → Int → List (List Int) → List (List Int) → Option (List Int)
 | 0, _, _, _, _, _, _, _, _, _ => none
 | k + 1, x1, x5, x7, x8, x47, x48, x49, x213000, x213001 => if x49 < x48 then (if 0 ≤ x49 then (if x49 < (x47.length : Int) then (if 0 ≤ (rd x47 x49) then (if (rd x47 x49) < (x213001.length : Int) then (dom_Tree.l3 k x1 x5 x7 x8 (rd x47 x49) (-2) x47 x48 x49 (rd_L1 x213001 (rd x47 x49)) ((rd_L1 x213001 (rd x47 x49)).length : Int) 0 x213000 x213001) else (none)) else (none)) else (none)) else (none)) else (if 0 ≤ x1 then (if x1 < (x7.length : Int) then (some (x7.set (x1 : Int).toNat (-1))) else (none)) else (none))
def dom_Tree.l3 : Nat → Int → List Int → List Int → List Int → Int → Int → List Int → Int → Int → List Int → Int → Int → List (List Int) → List (List Int) → Option (List Int)
 | 0, _, _, _, _, _, _, _, _, _, _, _, _, _, _ => none
 | k + 1, x1, x5, x7, x8, x12, x13, x47, x48, x49, x57, x58, x59, x213000, x213001 => if x59 < x58 then (if 0 ≤ x59 then (if x59 < (x57.length : Int) then (if 0 ≤ (rd x57 x59) then (if (rd x57 x59) < (x7.length : Int) then (if (rd x7 (rd x57 x59)) = (-2) then (dom_Tree.l3 k x1 x5 x7 x8 x12 x13 x47 x48 x49 x57 x58 (wrap64 (x59 + 1)) x213000 x213001) else (if x13 = (-2) then (dom_Tree.l3 k x1 x5 x7 x8 x12 (rd x57 x59) x47 x48 x49 x57 x58 (wrap64 (x59 + 1)) x213000 x213001) else ((dom_meet.f k x7 x8 x13 (rd x57 x59)).bind fun t239 => (dom_Tree.l3 k x1 x5 x7 x8 x12 t239 x47 x48 x49 x57 x58 (wrap64 (x59 + 1)) x213000 x213001)))) else (none)) else (none)) else (none)) else (none)) else (if 0 ≤ x12 then (if x12 < (x7.length : Int) then (if (rd x7 x12) = x13 then (dom_Tree.l2 k x1 x5 x7 x8 x47 x48 (wrap64 (x49 + 1)) x213000 x213001) else (dom_Tree.l1 k x1 x5 (x7.set (x12 : Int).toNat x13) x8 x213000 x213001)) else (none)) else (none))
end
def dom_Tree.f (k : Nat) (l0_0 : List (List Int)) (l0_1 : List (List Int)) (a1 : Int) : Option (List Int) := (graph_Order.f k l0_0 l0_1 a1).bind fun t213 => (if (t213.length : Int) = 0 then (some ([] : List Int)) else ((slices_Repeat_int_int.f (([(-2)] : List Int)) (l0_0.length : Int)).bind fun t219 => (if 0 ≤ (l0_0.length : Int) then (if ((l0_0.length : Int) : Int).toNat ≤ 35184372088832 then (dom_Tree.l0 k a1 t213 t219 (List.replicate ((l0_0.length : Int) : Int).toNat 0) t213 (t213.length : Int) 0 l0_0 l0_1) else (none)) else (none))))
theorem dom_Tree.mono_l : ∀ k, (∀ y0 y1 y2 y3 y4 y5 y6 y7 y8, LeO (dom_Tree.l0 k y0 y1 y2 y3 y4 y5 y6 y7 y8) (dom_Tree.l0 (k + 1) y0 y1 y2 y3 y4 y5 y6 y7 y8)) ∧ (∀ y0 y1 y2 y3 y4 y5, LeO (dom_Tree.l1 k y0 y1 y2 y3 y4 y5) (dom_Tree.l1 (k + 1) y0 y1 y2 y3 y4 y5)) ∧ (∀ y0 y1 y2 y3 y4 y5 y6 y7 y8, LeO (dom_Tree.l2 k y0 y1 y2 y3 y4 y5 y6 y7 y8) (dom_Tree.l2 (k + 1) y0 y1 y2 y3 y4 y5 y6 y7 y8)) ∧ (∀ y0 y1 y2 y3 y4 y5 y6 y7 y8 y9 y10 y11 y12 y13, LeO (dom_Tree.l3 k y0 y1 y2 y3 y4 y5 y6 y7 y8 y9 y10 y11 y12 y13) (dom_Tree.l3 (k + 1) y0 y1 y2 y3 y4 y5 y6 y7 y8 y9 y10 y11 y12 y13))
 | 0 => ⟨fun _ _ _ _ _ _ _ _ _ r h => by simp [dom_Tree.l0] at h, fun _ _ _ _ _ _ r h => by simp [dom_Tree.l1] at h, fun _ _ _ _ _ _ _ _ _ r h => by simp [dom_Tree.l2] at h, fun _ _ _ _ _ _ _ _ _ _ _ _ _ _ r h => by simp [dom_Tree.l3] at h⟩
 | k + 1 => by
  obtain ⟨ih0, ih1, ih2, ih3⟩ := dom_Tree.mono_l k
  refine ⟨?_, ?_, ?_, ?_⟩
  ·intro y0 y1 y2 y3 y4 y5 y6 y7 y8
   unfold dom_Tree.l0
   repeat' (with_reducible first | exact ih0 _ _ _ _ _ _ _ _ _ | exact ih1 _ _ _ _ _ _ | exact ih2 _ _ _ _ _ _ _ _ _ | exact ih3 _ _ _ _ _ _ _ _ _ _ _ _ _ _ | exact dom_meet.mono _ _ _ _ _ | exact graph_Order.mono _ _ _ _ | exact LeO.refl _ | exact LeO.none _ | refine LeO.ite ?_ ?_ | refine LeO.bind ?_ (fun _ => ?_))
  ·intro y0 y1 y2 y3 y4 y5
   unfold dom_Tree.l1
   repeat' (with_reducible first | exact ih0 _ _ _ _ _ _ _ _ _ | exact ih1 _ _ _ _ _ _ | exact ih2 _ _ _ _ _ _ _ _ _ | exact ih3 _ _ _ _ _ _ _ _ _ _ _ _ _ _ | exact dom_meet.mono _ _ _ _ _ | exact graph_Order.mono _ _ _ _ | exact LeO.refl _ | exact LeO.none _ | refine LeO.ite ?_ ?_ | refine LeO.bind ?_ (fun _ => ?_))
  ·intro y0 y1 y2 y3 y4 y5 y6 y7 y8
   unfold dom_Tree.l2
   repeat' (with_reducible first | exact ih0 _ _ _ _ _ _ _ _ _ | exact ih1 _ _ _ _ _ _ | exact ih2 _ _ _ _ _ _ _ _ _ | exact ih3 _ _ _ _ _ _ _ _ _ _ _ _ _ _ | exact dom_meet.mono _ _ _ _ _ | exact graph_Order.mono _ _ _ _ | exact LeO.refl _ | exact LeO.none _ | refine LeO.ite ?_ ?_ | refine LeO.bind ?_ (fun _ => ?_))
  ·intro y0 y1 y2 y3 y4 y5 y6 y7 y8 y9 y10 y11 y12 y13
   unfold dom_Tree.l3
   repeat' (with_reducible first | exact ih0 _ _ _ _ _ _ _ _ _ | exact ih1 _ _ _ _ _ _ | exact ih2 _ _ _ _ _ _ _ _ _ | exact ih3 _ _ _ _ _ _ _ _ _ _ _ _ _ _ | exact dom_meet.mono _ _ _ _ _ | exact graph_Order.mono _ _ _ _ | exact LeO.refl _ | exact LeO.none _ | refine LeO.ite ?_ ?_ | refine LeO.bind ?_ (fun _ => ?_))
theorem dom_Tree.mono : ∀ a0 a1 a2 k, LeO (dom_Tree.f k a0 a1 a2) (dom_Tree.f (k + 1) a0 a1 a2) := by
 intro a0 a1 a2 k
 obtain ⟨ih0, ih1, ih2, ih3⟩ := dom_Tree.mono_l k
 unfold dom_Tree.f
 repeat' (with_reducible first | exact ih0 _ _ _ _ _ _ _ _ _ | exact ih1 _ _ _ _ _ _ | exact ih2 _ _ _ _ _ _ _ _ _ | exact ih3 _ _ _ _ _ _ _ _ _ _ _ _ _ _ | exact dom_meet.mono _ _ _ _ _ | exact graph_Order.mono _ _ _ _ | exact LeO.refl _ | exact LeO.none _ | refine LeO.ite ?_ ?_ | refine LeO.bind ?_ (fun _ => ?_))
set_option maxHeartbeats 8000000 in
set_option maxRecDepth 100000 in
theorem dom_Tree.calls (k : Nat) (A0_0 : Option Addr) (c0_0 : Nat) (l0_0 : List (List Int)) (A0_1 : Option Addr) (c0_1 : Nat) (l0_1 : List (List Int)) (a1 : Int) (r : List Int) (w : World) (hr0_0 : Kd.C (Kd.slice 3 (Kd.int .i64)) w A0_0 l0_0.length l0_0) (hc0_0 : l0_0.length ≤ c0_0) (hr0_1 : Kd.C (Kd.slice 3 (Kd.int .i64)) w A0_1 l0_1.length l0_1) (hc0_1 : l0_1.length ≤ c0_1) (h : dom_Tree.f k l0_0 l0_1 a1 = some r) :
 Calls Try.prog 19 #[.agg #[.slice A0_0 l0_0.length c0_0, .slice A0_1 l0_1.length c0_1], .int .i64 a1] w fun e w' => ∃ v0_ : Value, e = .returned (v0_) ∧ Kd.R (Kd.int .i64) 3 w' w.heap.size (fun _ => True) v0_ r ∧ Below w.heap.size w w' := by
 have hu26 := Try.underlying26
 have HR0_0 := Aside0.mk hr0_0
 have HC0_0 := Aside0.mk hc0_0
 clear hr0_0 hc0_0
 have HR0_1 := Aside0.mk hr0_1
 have HC0_1 := Aside0.mk hc0_1
 clear hr0_1 hc0_1
 have HB := A_ (Below.refl w.heap.size w)
 have H : ((graph_Order.f k l0_0 l0_1 a1).bind fun t213 => (if (t213.length : Int) = 0 then (some ([] : List Int)) else ((slices_Repeat_int_int.f (([(-2)] : List Int)) (l0_0.length : Int)).bind fun t219 => (if 0 ≤ (l0_0.length : Int) then (if ((l0_0.length : Int) : Int).toNat ≤ 35184372088832 then (dom_Tree.l0 k a1 t213 t219 (List.replicate ((l0_0.length : Int) : Int).toNat 0) t213 (t213.length : Int) 0 l0_0 l0_1) else (none)) else (none))))) = some r := h
 clear h
 have H' := Aside0.mk H
 clear H
 go_enter Try.func19, Try.ntmps19
 go_wp2_with (first | ((with_reducible refine gate_dst (N := 2) rfl ?_); refine box_event ?hg (N := 2) ?hd (cs := #[.slice A0_0 l0_0.length c0_0, .slice A0_1 l0_1.length c0_1]) (t := 26) ?hr ?_; (case hd => rfl); (case hg => rfl); (case hr => first | (go_simp; done) | (go_simp; rfl)); intro gb212 hg w3 hbox hb; have BK212 := A_ (hbox); have GW212 := A_ ((by rw [hg]; exact (below_size (B_)) : w.heap.size ≤ gb212)); have GE212 := A_ ((by rw [hg]; exact (below_size (B_)) : w.heap.size ≤ gb212)); replace HB := A_ (below_step (B_) hb); clear hb hbox hg))
 apply lab_enter 0; (case hf => rfl)
 have H := H'.out
 clear H'
 replace H := Option.bind_eq_some_iff.mp H
 obtain ⟨t213, A40, H⟩ := H
 try dsimp only at H
 have A4 := Aside0.mk A40
 clear A40
 by_cases c5 : (t213.length : Int) = 0
 ·rw [if_pos c5] at H
  have c5b0 : ((t213.length : Int) == 0) = true := beq_iff_eq.mpr c5
  have c5b1 : ((t213.length : Int) != 0) = false := bne_eq_false_iff_eq.mpr c5
  clear c5
  obtain rfl := Option.some.inj H
  have hcz6_0 : w3.cell? ⟨gb212, 0, none⟩ = some (.slice A0_0 l0_0.length c0_0) := (blk_cell BK212.out 0).trans rfl
  have hcz6_1 : w3.cell? ⟨gb212, 1, none⟩ = some (.slice A0_1 l0_1.length c0_1) := (blk_cell BK212.out 1).trans rfl
  have hfz6_0 := blk_frozen BK212.out 0
  have hfz6_1 := blk_frozen BK212.out 1
  go_wp2_with (first | ((with_reducible refine gate_callee (f := 36) rfl ?_); refine goesL_ (some 18) rfl rfl Try.func36 (by kernel_rfl) rfl #[.agg #[.slice A0_0 l0_0.length c0_0, .slice A0_1 l0_1.length c0_1], .int .i64 a1] rfl (by (try simp only [List.map_toArray, List.map_cons, List.map_nil]); first | done | rfl | (simp only [List.length_drop, List.length_take]; rfl)) ?_; (with_reducible refine (graph_Order.calls k _ _ l0_0 _ _ l0_1 a1 t213 _ ?side1 ?side2 ?side3 ?side4 A4.out).mono ?_); (case side1 => exact CX_ (Kd.C_below HR0_0.out HB.out)); (case side2 => exact HC0_0.out); (case side3 => exact CX_ (Kd.C_below HR0_1.out HB.out)); (case side4 => exact HC0_1.out); rintro e w7 ⟨v214, rfl, ho0, hb⟩; refine ⟨_, rfl, ?_⟩; have HO215 := A_ (Kd.R_lower ho0 (below_size (B1_))); replace BK212 := A_ (blk_below (g := gb212) (o := .cells #[.slice A0_0 l0_0.length c0_0, .slice A0_1 l0_1.length c0_1] 26 (0, 0)) (by exact KX_ BK212.out) hb); replace HB := A_ (below_step (B1_) hb); (try clear hb); (try clear hb2); (try clear hk); (try clear hi); (try clear ho0); obtain ⟨Ao8, co8, eo8⟩ := Kd.R_slice HO215.out; subst eo8))
  (try simp only [jumpg_ret, Exit.then, Exit.inBlock])
  go_ret
  exact ⟨_, by first | rfl | (simp [errW_none, errW_some] <;> rfl) | (simp [*, errW_none, errW_some] <;> rfl), by first | exact Kd.R_nil _ _ _ _ _ | exact Kd.N_nil _ _ _ _ _ | exact Kd.V_nil _ _ _ _ _ | exact Kd.Q_nil _ _ _ _ _ | exact Kd.S_nil _ _ _ _ _, B1_⟩
 rw [if_neg c5] at H
 have c5b0 : ((t213.length : Int) == 0) = false := beq_eq_false_iff_ne.mpr c5
 have c5b1 : ((t213.length : Int) != 0) = true := bne_iff_ne.mpr c5
 have c5b2 : ¬ (t213 = []) := fun h_ => c5 (by rw [h_]; rfl)
 obtain ⟨y216, hy216⟩ : ∃ y_ : List Int, y_ = (([(-2)] : List Int)) := ⟨_, rfl⟩
 replace H : ((slices_Repeat_int_int.f y216 (l0_0.length : Int)).bind fun t219 => (if 0 ≤ (l0_0.length : Int) then (if ((l0_0.length : Int) : Int).toNat ≤ 35184372088832 then (dom_Tree.l0 k a1 t213 t219 (List.replicate ((l0_0.length : Int) : Int).toNat 0) t213 (t213.length : Int) 0 l0_0 l0_1) else (none)) else (none))) = some r := by first | (rw [hy216]; with_reducible exact H) | (have H2_ := (Option.bind_some _ _).symm.trans H; rw [hy216]; with_reducible exact H2_) | (have H2_ := (Option.bind_some _ _).symm.trans H; with_reducible exact H2_) | with_reducible exact H | (rw [hy216]; exact H) | exact H
 have Ny216 := Aside0.mk hy216
 clear hy216
 replace H := Option.bind_eq_some_iff.mp H
 obtain ⟨t219, A90, H⟩ := H
 try dsimp only at H
 have A9 := Aside0.mk A90
 clear A90
 by_cases c10 : 0 ≤ (l0_0.length : Int)
 ·rw [if_pos c10] at H
  have c10b0 := eq_true c10
  have c10b1 : decide (0 ≤ (l0_0.length : Int)) = true := decide_eq_true c10
  clear c10
  by_cases c11 : ((l0_0.length : Int) : Int).toNat ≤ 35184372088832
  ·rw [if_pos c11] at H
   have c11b0 := eq_true c11
   have c11b1 : decide (((l0_0.length : Int) : Int).toNat ≤ 35184372088832) = true := decide_eq_true c11
   clear c11
   obtain ⟨y222, hy222⟩ : ∃ y_ : List Int, y_ = (List.replicate ((l0_0.length : Int) : Int).toNat 0) := ⟨_, rfl⟩
   replace H : (dom_Tree.l0 k a1 t213 t219 y222 t213 (t213.length : Int) 0 l0_0 l0_1) = some r := by first | (rw [hy222]; with_reducible exact H) | (have H2_ := (Option.bind_some _ _).symm.trans H; rw [hy222]; with_reducible exact H2_) | (have H2_ := (Option.bind_some _ _).symm.trans H; with_reducible exact H2_) | with_reducible exact H | (rw [hy222]; exact H) | exact H
   have Ny222 := Aside0.mk hy222
   clear hy222
   have H' := Aside0.mk H
   clear H
   have hcz12_0 : w3.cell? ⟨gb212, 0, none⟩ = some (.slice A0_0 l0_0.length c0_0) := (blk_cell BK212.out 0).trans rfl
   have hcz12_1 : w3.cell? ⟨gb212, 1, none⟩ = some (.slice A0_1 l0_1.length c0_1) := (blk_cell BK212.out 1).trans rfl
   have hfz12_0 := blk_frozen BK212.out 0
   have hfz12_1 := blk_frozen BK212.out 1
   try go_wp2_with (first | ((with_reducible refine gate_callee (f := 36) rfl ?_); refine goesL_ (some 18) rfl rfl Try.func36 (by kernel_rfl) rfl #[.agg #[.slice A0_0 l0_0.length c0_0, .slice A0_1 l0_1.length c0_1], .int .i64 a1] rfl (by (try simp only [List.map_toArray, List.map_cons, List.map_nil]); first | done | rfl | (simp only [List.length_drop, List.length_take]; rfl)) ?_; (with_reducible refine (graph_Order.calls k _ _ l0_0 _ _ l0_1 a1 t213 _ ?side1 ?side2 ?side3 ?side4 A4.out).mono ?_); (case side1 => exact CX_ (Kd.C_below HR0_0.out HB.out)); (case side2 => exact HC0_0.out); (case side3 => exact CX_ (Kd.C_below HR0_1.out HB.out)); (case side4 => exact HC0_1.out); rintro e w13 ⟨v214, rfl, ho0, hb⟩; refine ⟨_, rfl, ?_⟩; have HO215 := A_ (Kd.R_lower ho0 (below_size (B1_))); replace BK212 := A_ (blk_below (g := gb212) (o := .cells #[.slice A0_0 l0_0.length c0_0, .slice A0_1 l0_1.length c0_1] 26 (0, 0)) (by exact KX_ BK212.out) hb); replace HB := A_ (below_step (B1_) hb); (try clear hb); (try clear hb2); (try clear hk); (try clear hi); (try clear ho0); obtain ⟨Ao14, co14, eo14⟩ := Kd.R_slice HO215.out; subst eo14; have hcz15_0 : w13.cell? ⟨gb212, 0, none⟩ = some (.slice A0_0 l0_0.length c0_0) := (blk_cell BK212.out 0).trans rfl; have hcz15_1 : w13.cell? ⟨gb212, 1, none⟩ = some (.slice A0_1 l0_1.length c0_1) := (blk_cell BK212.out 1).trans rfl; have hfz15_0 := blk_frozen BK212.out 0; have hfz15_1 := blk_frozen BK212.out 1))
   have n0_ := A_ (Kd.R_drew HO215.out)
   have n1_ := A_ (blk_drew BK212.out)
   have n2_ := A_ (below_drew1 HB.out)
   clear HO215
   clear BK212
   clear HB
   have HO215 := n0_
   have BK212 := n1_
   have HB := n2_
   clear n0_ n1_ n2_
   refine start_ (n := 7) (S := fun w' => True) (ds := []) #[false, false, false, false, false, false, false] (by kernel_rfl) rfl rfl trivial (fun hHeld => ?_)
   generalize w13.drew = w16 at HO215 BK212 HB hHeld ⊢
   refine pure_ (i := 1) (N := some 26) (v := ?_) (a' := ?_) #[false, true, false, false, false, false, false] rfl rfl (by kernel_rfl) (fun _ _ _ h => h) (Or.inl ⟨by rfl, ?_⟩) ?_ ?_
   rotate_left
   ·intro w'
    go_simp
    with_reducible rfl
   rotate_left
   ·exact P_
   refine pure_ (i := 3) (N := some 28) (v := ?_) (a' := ?_) #[false, true, false, true, false, false, false] rfl rfl (by kernel_rfl) (fun _ _ _ h => h) (Or.inl ⟨by rfl, ?_⟩) ?_ ?_
   rotate_left
   ·intro w'
    go_simp
    with_reducible rfl
   rotate_left
   ·exact P_
   refine join_ (σ := Value × Value × Value) 1 #[true, true, true, true, true, true, false] (fun s_ => [(25, s_.1), (27, s_.2.1), (29, s_.2.2), (7, s_.2.1)]) (fun s_ w' => (Kd.R (Kd.int .i64) 3 w' w.heap.size (fun k_ => some k_ ≠ (s_.1 : Value).ownBlock ∧ some k_ ≠ (s_.2.1 : Value).ownBlock ∧ some k_ ≠ (s_.2.2 : Value).ownBlock) (.slice Ao14 t213.length co14) t213) ∧ (Kd.R (Kd.int .i64) 3 w' w.heap.size (fun k_ => some k_ ≠ (.slice Ao14 t213.length co14 : Value).ownBlock ∧ some k_ ≠ (s_.2.1 : Value).ownBlock ∧ some k_ ≠ (s_.2.2 : Value).ownBlock) s_.1 y216) ∧ (Kd.R (Kd.int .i64) 3 w' w.heap.size (fun k_ => some k_ ≠ (.slice Ao14 t213.length co14 : Value).ownBlock ∧ some k_ ≠ (s_.1 : Value).ownBlock ∧ some k_ ≠ (s_.2.2 : Value).ownBlock) s_.2.1 t219) ∧ (Kd.R (Kd.int .i64) 3 w' w.heap.size (fun k_ => some k_ ≠ (.slice Ao14 t213.length co14 : Value).ownBlock ∧ some k_ ≠ (s_.1 : Value).ownBlock ∧ some k_ ≠ (s_.2.1 : Value).ownBlock) s_.2.2 y222) ∧ (w'.heap[gb212]? = some (.cells #[.slice A0_0 l0_0.length c0_0, .slice A0_1 l0_1.length c0_1] 26 (0, 0))) ∧ (Below w.heap.size w w')) ?_ ?_
   rotate_left
   ·intro hCont
    refine two_ (i := 0) (j := 4) (Ni := some 25) (Nj := some 29) #[true, true, false, true, false, false, false] #[false, true, false, true, true, false, false] rfl rfl rfl rfl (by kernel_rfl) (by decide) (by decide) (fun K hK => ?_) (fun K hK => ?_)
    ·skip
     refine Kd.R_lit_step (Kd.int .i64) _ 3 ?hg (N := 25) ?hd (xs := ([(-2)] : List Int)) (inner := [.int .i64 (-2)]) (ok := fun _ => True) (okp := fun _ => True) ?hr ?hp (fun _ hk => hk) trivial (Below.refl _ _) (Nat.le_refl _) (by simp) ?_; (case hd => rfl); (case hg => rfl); (case hr => first | (go_simp; done) | (go_simp; rfl)); (case hp => exact (Reps.one (show Kd.M (Kd.int .i64) _ _ _ (-2) [.int .i64 (-2)] from rfl) (Reps.none _ _)))
     intro v217 w17 ho18 hb hg_ hnew_
     clear hg_ hnew_
     (first | rw [← Ny216.out] at ho18 | (simp only [Int.reduceToNat] at ho18; rw [← Ny216.out] at ho18))
     have n0_ := A_ (Kd.R_elder' (by exact RX_ HO215.out) (Kd.R_base ho18) hb)
     have n1_ := A_ (Kd.R_lower (Kd.R_new' ho18 (Kd.R_lt (by exact RX_ HO215.out))) (below_size (B1_)))
     have n2_ := A_ (blk_below (g := gb212) (o := .cells #[.slice A0_0 l0_0.length c0_0, .slice A0_1 l0_1.length c0_1] 26 (0, 0)) (by exact KX_ BK212.out) hb)
     have n3_ := A_ (below_step (B1_) hb)
     clear HO215
     clear BK212
     clear HB
     have HO215 := n0_
     have HO218 := n1_
     have BK212 := n2_
     have HB := n3_
     clear n0_ n1_ n2_ n3_
     clear hb ho18
     obtain ⟨Ao19, co19, eo19⟩ := Kd.R_slice HO218.out
     (first | subst eo19 | (injection eo19 with f1_ f2_ f3_; have f4_ := f1_.symm; have f5_ := f3_.symm; clear f1_ f2_ f3_; subst f4_; subst f5_))
     refine hK.out _ _ trivial (fun hHeld => ?_)
     clear hK K
     refine norm_ (a' := ?_) ?_ ?_
     rotate_left
     ·show Act.put _ (some 25) _ = _
      simp only [Act.put, List.setIfInBounds_toArray, List.set_cons_zero, List.set_cons_succ, i64_w, i32_w]
      rfl
     refine two_ (i := 2) (j := 4) (Ni := some 27) (Nj := some 29) #[true, true, true, true, false, false, false] #[true, true, false, true, true, false, false] rfl rfl rfl rfl (by kernel_rfl) (by decide) (by decide) (fun K hK => ?_) (fun K hK => ?_)
     ·skip
      refine goes_ Try.func37 (by kernel_rfl) rfl #[.slice Ao19 y216.length co19, .int .i64 (l0_0.length : Int)] (by rfl) rfl rfl (by (try simp only [List.map_toArray, List.map_cons, List.map_nil]); first | done | rfl | (simp only [List.length_drop, List.length_take]; rfl)) ?_
      with_reducible refine (slices_Repeat_int_int.calls _ _ y216 (l0_0.length : Int) t219 _ ?side1 ?side2 A9.out).mono ?_
      (case side1 => repeat (first | exact (Kd.R_reads' HO218.out).2.2 | (with_reducible refine Kd.C_alloc ?_ _) | (with_reducible refine Kd.C_drewN ?_ _) | (with_reducible refine Kd.C_drew ?_)))
      (case side2 => exact (Kd.R_reads' HO218.out).2.1)
      rintro e w20 ⟨v220, rfl, ho0, hb⟩
      refine ⟨_, rfl, ?_⟩
      have n0_ := A_ (Kd.R_elder' (by exact RX_ HO215.out) (Kd.R_base ho0) hb)
      have n1_ := A_ (Kd.R_elder' (by exact RX_ HO218.out) (Kd.R_base ho0) hb)
      have n2_ := A_ (Kd.R_lower (Kd.R_new' (Kd.R_new' ho0 (Kd.R_lt (by exact RX_ HO215.out))) (Kd.R_lt (by exact RX_ HO218.out))) (below_size (B1_)))
      have n3_ := A_ (blk_below (g := gb212) (o := .cells #[.slice A0_0 l0_0.length c0_0, .slice A0_1 l0_1.length c0_1] 26 (0, 0)) (by exact KX_ BK212.out) hb)
      have n4_ := A_ (below_step (B1_) hb)
      clear HO215
      clear HO218
      clear BK212
      clear HB
      have HO215 := n0_
      have HO218 := n1_
      have HO221 := n2_
      have BK212 := n3_
      have HB := n4_
      clear n0_ n1_ n2_ n3_ n4_
      (try clear hb)
      (try clear hb2)
      (try clear hk)
      (try clear hi)
      (try clear ho0)
      refine hK.out _ _ trivial (fun hHeld => ?_)
      clear hK K
      refine norm_ (a' := ?_) ?_ ?_
      rotate_left
      ·show Act.put _ (some 27) _ = _
       simp only [Act.put, List.setIfInBounds_toArray, List.set_cons_zero, List.set_cons_succ, i64_w, i32_w]
       rfl
      refine pure_ (i := 5) (N := some 7) (v := ?_) (a' := ?_) #[true, true, true, true, false, true, false] rfl rfl (by kernel_rfl) (fun _ _ _ h => h) (Or.inl ⟨by rfl, ?_⟩) ?_ ?_
      rotate_left
      ·intro w'
       go_simp
       with_reducible rfl
      rotate_left
      ·exact P_
      refine one_ (i := 4) (N := some 29) #[true, true, true, true, true, true, false] rfl rfl (by kernel_rfl) (by decide) (fun K hK => ?_)
      refine Kd.R_make_step (Kd.int .i64) _ 3 (by rfl) (N := 29) rfl 31 _ _ rfl (l0_0.length : Int) rfl rfl Try.underlying31 (.int .i64 0) 8 info3 rfl (by decide) (by omega) 0 (ok := fun _ => True) (okp := fun _ => True) rfl (fun _ hk => hk) trivial (D_) (Nat.le_trans (Nat.mul_le_mul_right _ (D_ : (l0_0.length : Int).toNat ≤ 35184372088832)) (by omega)) (Below.refl _ _) (Nat.le_refl _) ?_
      intro v223 w21 ho22 hb hg_ hnew_
      clear hg_ hnew_
      (first | rw [← Ny222.out] at ho22 | (simp only [Int.reduceToNat] at ho22; rw [← Ny222.out] at ho22))
      have n0_ := A_ (Kd.R_elder' (by exact RX_ HO215.out) (Kd.R_base ho22) hb)
      have n1_ := A_ (Kd.R_elder' (by exact RX_ HO218.out) (Kd.R_base ho22) hb)
      have n2_ := A_ (Kd.R_elder' (by exact RX_ HO221.out) (Kd.R_base ho22) hb)
      have n3_ := A_ (Kd.R_lower (Kd.R_new' (Kd.R_new' (Kd.R_new' ho22 (Kd.R_lt (by exact RX_ HO215.out))) (Kd.R_lt (by exact RX_ HO218.out))) (Kd.R_lt (by exact RX_ HO221.out))) (below_size (B1_)))
      have n4_ := A_ (blk_below (g := gb212) (o := .cells #[.slice A0_0 l0_0.length c0_0, .slice A0_1 l0_1.length c0_1] 26 (0, 0)) (by exact KX_ BK212.out) hb)
      have n5_ := A_ (below_step (B1_) hb)
      clear HO215
      clear HO218
      clear HO221
      clear BK212
      clear HB
      have HO215 := n0_
      have HO218 := n1_
      have HO221 := n2_
      have HO224 := n3_
      have BK212 := n4_
      have HB := n5_
      clear n0_ n1_ n2_ n3_ n4_ n5_
      clear hb ho22
      refine hK.out _ _ trivial (fun hHeld => ?_)
      clear hK K
      refine norm_ (a' := ?_) ?_ ?_
      rotate_left
      ·show Act.put _ (some 29) _ = _
       simp only [Act.put, List.setIfInBounds_toArray, List.set_cons_zero, List.set_cons_succ, i64_w, i32_w]
       rfl
      exact norm_ (by simp only [putAll, Act.put, List.setIfInBounds_toArray, List.set_cons_zero, List.set_cons_succ]) (hCont (.slice Ao19 y216.length co19, v220, v223) _ ⟨(by (with_reducible repeat (first | apply Kd.R_alloc | apply Kd.R_drewN | apply Kd.R_drew)); exact Kd.R_mono HO215.out (fun _ hk => by first | exact ⟨hk.1.1.2, ⟨hk.1.2, hk.2⟩⟩ | exact hk | exact ⟨hk.1, hk.2⟩ | simp_all)), (by (with_reducible repeat (first | apply Kd.R_alloc | apply Kd.R_drewN | apply Kd.R_drew)); exact Kd.R_mono HO218.out (fun _ hk => by first | exact ⟨hk.1.1.2, ⟨hk.1.2, hk.2⟩⟩ | exact hk | exact ⟨hk.1, hk.2⟩ | simp_all)), (by (with_reducible repeat (first | apply Kd.R_alloc | apply Kd.R_drewN | apply Kd.R_drew)); exact Kd.R_mono HO221.out (fun _ hk => by first | exact ⟨hk.1.1.2, ⟨hk.1.2, hk.2⟩⟩ | exact hk | exact ⟨hk.1, hk.2⟩ | simp_all)), (by (with_reducible repeat (first | apply Kd.R_alloc | apply Kd.R_drewN | apply Kd.R_drew)); exact Kd.R_mono HO224.out (fun _ hk => by first | exact ⟨hk.1.1.2, ⟨hk.1.2, hk.2⟩⟩ | exact hk | exact ⟨hk.1, hk.2⟩ | simp_all)), (by exact KX_ BK212.out), (B1_)⟩)
     ·skip
      refine Kd.R_make_step (Kd.int .i64) _ 3 (by rfl) (N := 29) rfl 31 _ _ rfl (l0_0.length : Int) rfl rfl Try.underlying31 (.int .i64 0) 8 info3 rfl (by decide) (by omega) 0 (ok := fun _ => True) (okp := fun _ => True) rfl (fun _ hk => hk) trivial (D_) (Nat.le_trans (Nat.mul_le_mul_right _ (D_ : (l0_0.length : Int).toNat ≤ 35184372088832)) (by omega)) (Below.refl _ _) (Nat.le_refl _) ?_
      intro v223 w19 ho20 hb hg_ hnew_
      clear hg_ hnew_
      (first | rw [← Ny222.out] at ho20 | (simp only [Int.reduceToNat] at ho20; rw [← Ny222.out] at ho20))
      have n0_ := A_ (Kd.R_elder' (by exact RX_ HO215.out) (Kd.R_base ho20) hb)
      have n1_ := A_ (Kd.R_elder' (by exact RX_ HO218.out) (Kd.R_base ho20) hb)
      have n2_ := A_ (Kd.R_lower (Kd.R_new' (Kd.R_new' ho20 (Kd.R_lt (by exact RX_ HO215.out))) (Kd.R_lt (by exact RX_ HO218.out))) (below_size (B1_)))
      have n3_ := A_ (blk_below (g := gb212) (o := .cells #[.slice A0_0 l0_0.length c0_0, .slice A0_1 l0_1.length c0_1] 26 (0, 0)) (by exact KX_ BK212.out) hb)
      have n4_ := A_ (below_step (B1_) hb)
      clear HO215
      clear HO218
      clear BK212
      clear HB
      have HO215 := n0_
      have HO218 := n1_
      have HO224 := n2_
      have BK212 := n3_
      have HB := n4_
      clear n0_ n1_ n2_ n3_ n4_
      clear hb ho20
      obtain ⟨Ao21, co21, eo21⟩ := Kd.R_slice HO218.out
      (first | subst eo21 | (injection eo21 with f1_ f2_ f3_; have f4_ := f1_.symm; have f5_ := f3_.symm; clear f1_ f2_ f3_; subst f4_; subst f5_))
      refine hK.out _ _ trivial (fun hHeld => ?_)
      clear hK K
      refine norm_ (a' := ?_) ?_ ?_
      rotate_left
      ·show Act.put _ (some 29) _ = _
       simp only [Act.put, List.setIfInBounds_toArray, List.set_cons_zero, List.set_cons_succ, i64_w, i32_w]
       rfl
      refine one_ (i := 2) (N := some 27) #[true, true, true, true, true, false, false] rfl rfl (by kernel_rfl) (by decide) (fun K hK => ?_)
      refine goes_ Try.func37 (by kernel_rfl) rfl #[.slice Ao21 y216.length co21, .int .i64 (l0_0.length : Int)] (by rfl) rfl rfl (by (try simp only [List.map_toArray, List.map_cons, List.map_nil]); first | done | rfl | (simp only [List.length_drop, List.length_take]; rfl)) ?_
      with_reducible refine (slices_Repeat_int_int.calls _ _ y216 (l0_0.length : Int) t219 _ ?side1 ?side2 A9.out).mono ?_
      (case side1 => repeat (first | exact (Kd.R_reads' HO218.out).2.2 | (with_reducible refine Kd.C_alloc ?_ _) | (with_reducible refine Kd.C_drewN ?_ _) | (with_reducible refine Kd.C_drew ?_)))
      (case side2 => exact (Kd.R_reads' HO218.out).2.1)
      rintro e w22 ⟨v220, rfl, ho0, hb⟩
      refine ⟨_, rfl, ?_⟩
      have n0_ := A_ (Kd.R_elder' (by exact RX_ HO215.out) (Kd.R_base ho0) hb)
      have n1_ := A_ (Kd.R_elder' (by exact RX_ HO218.out) (Kd.R_base ho0) hb)
      have n2_ := A_ (Kd.R_elder' (by exact RX_ HO224.out) (Kd.R_base ho0) hb)
      have n3_ := A_ (Kd.R_lower (Kd.R_new' (Kd.R_new' (Kd.R_new' ho0 (Kd.R_lt (by exact RX_ HO215.out))) (Kd.R_lt (by exact RX_ HO218.out))) (Kd.R_lt (by exact RX_ HO224.out))) (below_size (B1_)))
      have n4_ := A_ (blk_below (g := gb212) (o := .cells #[.slice A0_0 l0_0.length c0_0, .slice A0_1 l0_1.length c0_1] 26 (0, 0)) (by exact KX_ BK212.out) hb)
      have n5_ := A_ (below_step (B1_) hb)
      clear HO215
      clear HO218
      clear HO224
      clear BK212
      clear HB
      have HO215 := n0_
      have HO218 := n1_
      have HO224 := n2_
      have HO221 := n3_
      have BK212 := n4_
      have HB := n5_
      clear n0_ n1_ n2_ n3_ n4_ n5_
      (try clear hb)
      (try clear hb2)
      (try clear hk)
      (try clear hi)
      (try clear ho0)
      refine hK.out _ _ trivial (fun hHeld => ?_)
      clear hK K
      refine norm_ (a' := ?_) ?_ ?_
      rotate_left
      ·show Act.put _ (some 27) _ = _
       simp only [Act.put, List.setIfInBounds_toArray, List.set_cons_zero, List.set_cons_succ, i64_w, i32_w]
       rfl
      refine pure_ (i := 5) (N := some 7) (v := ?_) (a' := ?_) #[true, true, true, true, true, true, false] rfl rfl (by kernel_rfl) (fun _ _ _ h => h) (Or.inl ⟨by rfl, ?_⟩) ?_ ?_
      rotate_left
      ·intro w'
       go_simp
       with_reducible rfl
      rotate_left
      ·exact P_
      exact norm_ (by simp only [putAll, Act.put, List.setIfInBounds_toArray, List.set_cons_zero, List.set_cons_succ]) (hCont (.slice Ao21 y216.length co21, v220, v223) _ ⟨(by (with_reducible repeat (first | apply Kd.R_alloc | apply Kd.R_drewN | apply Kd.R_drew)); exact Kd.R_mono HO215.out (fun _ hk => by first | exact ⟨hk.1.1.2, ⟨hk.2, hk.1.2⟩⟩ | exact hk | exact ⟨hk.1, hk.2⟩ | simp_all)), (by (with_reducible repeat (first | apply Kd.R_alloc | apply Kd.R_drewN | apply Kd.R_drew)); exact Kd.R_mono HO218.out (fun _ hk => by first | exact ⟨hk.1.1.2, ⟨hk.2, hk.1.2⟩⟩ | exact hk | exact ⟨hk.1, hk.2⟩ | simp_all)), (by (with_reducible repeat (first | apply Kd.R_alloc | apply Kd.R_drewN | apply Kd.R_drew)); exact Kd.R_mono HO221.out (fun _ hk => by first | exact ⟨hk.1.1.2, ⟨hk.1.2, hk.2⟩⟩ | exact hk | exact ⟨hk.1, hk.2⟩ | simp_all)), (by (with_reducible repeat (first | apply Kd.R_alloc | apply Kd.R_drewN | apply Kd.R_drew)); exact Kd.R_mono HO224.out (fun _ hk => by first | exact ⟨hk.1.1.2, ⟨hk.1.2, hk.2⟩⟩ | exact hk | exact ⟨hk.1, hk.2⟩ | simp_all)), (by exact KX_ BK212.out), (B1_)⟩)
    ·skip
     refine Kd.R_make_step (Kd.int .i64) _ 3 (by rfl) (N := 29) rfl 31 _ _ rfl (l0_0.length : Int) rfl rfl Try.underlying31 (.int .i64 0) 8 info3 rfl (by decide) (by omega) 0 (ok := fun _ => True) (okp := fun _ => True) rfl (fun _ hk => hk) trivial (D_) (Nat.le_trans (Nat.mul_le_mul_right _ (D_ : (l0_0.length : Int).toNat ≤ 35184372088832)) (by omega)) (Below.refl _ _) (Nat.le_refl _) ?_
     intro v223 w17 ho18 hb hg_ hnew_
     clear hg_ hnew_
     (first | rw [← Ny222.out] at ho18 | (simp only [Int.reduceToNat] at ho18; rw [← Ny222.out] at ho18))
     have n0_ := A_ (Kd.R_elder' (by exact RX_ HO215.out) (Kd.R_base ho18) hb)
     have n1_ := A_ (Kd.R_lower (Kd.R_new' ho18 (Kd.R_lt (by exact RX_ HO215.out))) (below_size (B1_)))
     have n2_ := A_ (blk_below (g := gb212) (o := .cells #[.slice A0_0 l0_0.length c0_0, .slice A0_1 l0_1.length c0_1] 26 (0, 0)) (by exact KX_ BK212.out) hb)
     have n3_ := A_ (below_step (B1_) hb)
     clear HO215
     clear BK212
     clear HB
     have HO215 := n0_
     have HO224 := n1_
     have BK212 := n2_
     have HB := n3_
     clear n0_ n1_ n2_ n3_
     clear hb ho18
     refine hK.out _ _ trivial (fun hHeld => ?_)
     clear hK K
     refine norm_ (a' := ?_) ?_ ?_
     rotate_left
     ·show Act.put _ (some 29) _ = _
      simp only [Act.put, List.setIfInBounds_toArray, List.set_cons_zero, List.set_cons_succ, i64_w, i32_w]
      rfl
     refine one_ (i := 0) (N := some 25) #[true, true, false, true, true, false, false] rfl rfl (by kernel_rfl) (by decide) (fun K hK => ?_)
     refine Kd.R_lit_step (Kd.int .i64) _ 3 ?hg (N := 25) ?hd (xs := ([(-2)] : List Int)) (inner := [.int .i64 (-2)]) (ok := fun _ => True) (okp := fun _ => True) ?hr ?hp (fun _ hk => hk) trivial (Below.refl _ _) (Nat.le_refl _) (by simp) ?_; (case hd => rfl); (case hg => rfl); (case hr => first | (go_simp; done) | (go_simp; rfl)); (case hp => exact (Reps.one (show Kd.M (Kd.int .i64) _ _ _ (-2) [.int .i64 (-2)] from rfl) (Reps.none _ _)))
     intro v217 w19 ho20 hb hg_ hnew_
     clear hg_ hnew_
     (first | rw [← Ny216.out] at ho20 | (simp only [Int.reduceToNat] at ho20; rw [← Ny216.out] at ho20))
     have n0_ := A_ (Kd.R_elder' (by exact RX_ HO215.out) (Kd.R_base ho20) hb)
     have n1_ := A_ (Kd.R_elder' (by exact RX_ HO224.out) (Kd.R_base ho20) hb)
     have n2_ := A_ (Kd.R_lower (Kd.R_new' (Kd.R_new' ho20 (Kd.R_lt (by exact RX_ HO215.out))) (Kd.R_lt (by exact RX_ HO224.out))) (below_size (B1_)))
     have n3_ := A_ (blk_below (g := gb212) (o := .cells #[.slice A0_0 l0_0.length c0_0, .slice A0_1 l0_1.length c0_1] 26 (0, 0)) (by exact KX_ BK212.out) hb)
     have n4_ := A_ (below_step (B1_) hb)
     clear HO215
     clear HO224
     clear BK212
     clear HB
     have HO215 := n0_
     have HO224 := n1_
     have HO218 := n2_
     have BK212 := n3_
     have HB := n4_
     clear n0_ n1_ n2_ n3_ n4_
     clear hb ho20
     obtain ⟨Ao21, co21, eo21⟩ := Kd.R_slice HO218.out
     (first | subst eo21 | (injection eo21 with f1_ f2_ f3_; have f4_ := f1_.symm; have f5_ := f3_.symm; clear f1_ f2_ f3_; subst f4_; subst f5_))
     refine hK.out _ _ trivial (fun hHeld => ?_)
     clear hK K
     refine norm_ (a' := ?_) ?_ ?_
     rotate_left
     ·show Act.put _ (some 25) _ = _
      simp only [Act.put, List.setIfInBounds_toArray, List.set_cons_zero, List.set_cons_succ, i64_w, i32_w]
      rfl
     refine one_ (i := 2) (N := some 27) #[true, true, true, true, true, false, false] rfl rfl (by kernel_rfl) (by decide) (fun K hK => ?_)
     refine goes_ Try.func37 (by kernel_rfl) rfl #[.slice Ao21 y216.length co21, .int .i64 (l0_0.length : Int)] (by rfl) rfl rfl (by (try simp only [List.map_toArray, List.map_cons, List.map_nil]); first | done | rfl | (simp only [List.length_drop, List.length_take]; rfl)) ?_
     with_reducible refine (slices_Repeat_int_int.calls _ _ y216 (l0_0.length : Int) t219 _ ?side1 ?side2 A9.out).mono ?_
     (case side1 => repeat (first | exact (Kd.R_reads' HO218.out).2.2 | (with_reducible refine Kd.C_alloc ?_ _) | (with_reducible refine Kd.C_drewN ?_ _) | (with_reducible refine Kd.C_drew ?_)))
     (case side2 => exact (Kd.R_reads' HO218.out).2.1)
     rintro e w22 ⟨v220, rfl, ho0, hb⟩
     refine ⟨_, rfl, ?_⟩
     have n0_ := A_ (Kd.R_elder' (by exact RX_ HO215.out) (Kd.R_base ho0) hb)
     have n1_ := A_ (Kd.R_elder' (by exact RX_ HO224.out) (Kd.R_base ho0) hb)
     have n2_ := A_ (Kd.R_elder' (by exact RX_ HO218.out) (Kd.R_base ho0) hb)
     have n3_ := A_ (Kd.R_lower (Kd.R_new' (Kd.R_new' (Kd.R_new' ho0 (Kd.R_lt (by exact RX_ HO215.out))) (Kd.R_lt (by exact RX_ HO224.out))) (Kd.R_lt (by exact RX_ HO218.out))) (below_size (B1_)))
     have n4_ := A_ (blk_below (g := gb212) (o := .cells #[.slice A0_0 l0_0.length c0_0, .slice A0_1 l0_1.length c0_1] 26 (0, 0)) (by exact KX_ BK212.out) hb)
     have n5_ := A_ (below_step (B1_) hb)
     clear HO215
     clear HO224
     clear HO218
     clear BK212
     clear HB
     have HO215 := n0_
     have HO224 := n1_
     have HO218 := n2_
     have HO221 := n3_
     have BK212 := n4_
     have HB := n5_
     clear n0_ n1_ n2_ n3_ n4_ n5_
     (try clear hb)
     (try clear hb2)
     (try clear hk)
     (try clear hi)
     (try clear ho0)
     refine hK.out _ _ trivial (fun hHeld => ?_)
     clear hK K
     refine norm_ (a' := ?_) ?_ ?_
     rotate_left
     ·show Act.put _ (some 27) _ = _
      simp only [Act.put, List.setIfInBounds_toArray, List.set_cons_zero, List.set_cons_succ, i64_w, i32_w]
      rfl
     refine pure_ (i := 5) (N := some 7) (v := ?_) (a' := ?_) #[true, true, true, true, true, true, false] rfl rfl (by kernel_rfl) (fun _ _ _ h => h) (Or.inl ⟨by rfl, ?_⟩) ?_ ?_
     rotate_left
     ·intro w'
      go_simp
      with_reducible rfl
     rotate_left
     ·exact P_
     exact norm_ (by simp only [putAll, Act.put, List.setIfInBounds_toArray, List.set_cons_zero, List.set_cons_succ]) (hCont (.slice Ao21 y216.length co21, v220, v223) _ ⟨(by (with_reducible repeat (first | apply Kd.R_alloc | apply Kd.R_drewN | apply Kd.R_drew)); exact Kd.R_mono HO215.out (fun _ hk => by first | exact ⟨hk.1.2, ⟨hk.2, hk.1.1.2⟩⟩ | exact hk | exact ⟨hk.1, hk.2⟩ | simp_all)), (by (with_reducible repeat (first | apply Kd.R_alloc | apply Kd.R_drewN | apply Kd.R_drew)); exact Kd.R_mono HO218.out (fun _ hk => by first | exact ⟨hk.1.1.2, ⟨hk.2, hk.1.2⟩⟩ | exact hk | exact ⟨hk.1, hk.2⟩ | simp_all)), (by (with_reducible repeat (first | apply Kd.R_alloc | apply Kd.R_drewN | apply Kd.R_drew)); exact Kd.R_mono HO221.out (fun _ hk => by first | exact ⟨hk.1.1.2, ⟨hk.2, hk.1.2⟩⟩ | exact hk | exact ⟨hk.1, hk.2⟩ | simp_all)), (by (with_reducible repeat (first | apply Kd.R_alloc | apply Kd.R_drewN | apply Kd.R_drew)); exact Kd.R_mono HO224.out (fun _ hk => by first | exact ⟨hk.1.1.2, ⟨hk.1.2, hk.2⟩⟩ | exact hk | exact ⟨hk.1, hk.2⟩ | simp_all)), (by exact KX_ BK212.out), (B1_)⟩)
   rintro ⟨v217, v220, v223⟩ w23 ⟨h0_, h1_, h2_, h3_, h4_, h5_⟩
   have n0_ : Aside0 (Kd.R (Kd.int .i64) 3 w23 w.heap.size (fun k_ => some k_ ≠ (v217 : Value).ownBlock ∧ some k_ ≠ (v220 : Value).ownBlock ∧ some k_ ≠ (v223 : Value).ownBlock) (.slice Ao14 t213.length co14) t213) := ⟨h0_⟩
   have n1_ : Aside0 (Kd.R (Kd.int .i64) 3 w23 w.heap.size (fun k_ => some k_ ≠ (.slice Ao14 t213.length co14 : Value).ownBlock ∧ some k_ ≠ (v220 : Value).ownBlock ∧ some k_ ≠ (v223 : Value).ownBlock) v217 y216) := ⟨h1_⟩
   have n2_ : Aside0 (Kd.R (Kd.int .i64) 3 w23 w.heap.size (fun k_ => some k_ ≠ (.slice Ao14 t213.length co14 : Value).ownBlock ∧ some k_ ≠ (v217 : Value).ownBlock ∧ some k_ ≠ (v223 : Value).ownBlock) v220 t219) := ⟨h2_⟩
   have n3_ : Aside0 (Kd.R (Kd.int .i64) 3 w23 w.heap.size (fun k_ => some k_ ≠ (.slice Ao14 t213.length co14 : Value).ownBlock ∧ some k_ ≠ (v217 : Value).ownBlock ∧ some k_ ≠ (v220 : Value).ownBlock) v223 y222) := ⟨h3_⟩
   have n4_ : Aside0 (w23.heap[gb212]? = some (.cells #[.slice A0_0 l0_0.length c0_0, .slice A0_1 l0_1.length c0_1] 26 (0, 0))) := ⟨h4_⟩
   have n5_ : Aside0 (Below w.heap.size w w23) := ⟨h5_⟩
   clear HO215
   clear BK212
   clear HB
   clear h0_ h1_ h2_ h3_ h4_ h5_
   have HO215 := n0_
   have HO218 := n1_
   have HO221 := n2_
   have HO224 := n3_
   have BK212 := n4_
   have HB := n5_
   clear n0_ n1_ n2_ n3_ n4_ n5_
   have hHeld := trivial
   refine norm_ (a' := ?_) ?_ ?_
   rotate_left
   ·simp only [putAll, Act.put, List.setIfInBounds_toArray, List.set_cons_zero, List.set_cons_succ]
    rfl
   refine pure_ (i := 6) (N := some 8) (v := ?_) (a' := ?_) #[true, true, true, true, true, true, true] rfl rfl (by kernel_rfl) (fun _ _ _ h => h) (Or.inl ⟨by rfl, ?_⟩) ?_ ?_
   rotate_left
   ·intro w'
    go_simp
    with_reducible rfl
   rotate_left
   ·exact P_
   refine done_ (by kernel_rfl) ?_
   try go_wp2
   go_loopg [32] k (fun kq v32 w' => ∃ (x8_1 : List Int) (x32_1 : Int), v32 = .int .i64 x32_1 ∧ Aside0 (dom_Tree.l0 kq a1 t213 t219 x8_1 t213 (t213.length : Int) x32_1 l0_0 l0_1 = some r) ∧ Aside0 (kq ≤ k) ∧ Aside0 (Kd.R (Kd.int .i64) 3 w' w.heap.size (fun k_ => some k_ ≠ (v220 : Value).ownBlock ∧ some k_ ≠ (v223 : Value).ownBlock) (.slice Ao14 t213.length co14) t213) ∧ Aside0 (Kd.R (Kd.int .i64) 3 w' w.heap.size (fun k_ => some k_ ≠ ((.slice Ao14 t213.length co14) : Value).ownBlock ∧ some k_ ≠ (v223 : Value).ownBlock ∧ some k_ ≠ ((.slice Ao14 t213.length co14) : Value).ownBlock) v220 t219) ∧ Aside0 (Kd.R (Kd.int .i64) 3 w' w.heap.size (fun k_ => some k_ ≠ ((.slice Ao14 t213.length co14) : Value).ownBlock ∧ some k_ ≠ (v220 : Value).ownBlock ∧ some k_ ≠ ((.slice Ao14 t213.length co14) : Value).ownBlock) v223 x8_1) ∧ Aside0 (Kd.R (Kd.int .i64) 3 w' w.heap.size (fun k_ => some k_ ≠ (v220 : Value).ownBlock ∧ some k_ ≠ (v223 : Value).ownBlock) (.slice Ao14 t213.length co14) t213) ∧ Aside0 (w'.heap[gb212]? = some (.cells #[(.slice A0_0 l0_0.length c0_0), (.slice A0_1 l0_1.length c0_1)] 26 (0, 0))) ∧ Aside0 (Below w.heap.size w w'))
   case atStart => exact ⟨(y222), (0), (by first | rfl | (simp; done) | (simp [*]; done)), H', ⟨Nat.le_refl _⟩, ⟨by (with_reducible repeat (first | apply Kd.R_alloc | apply Kd.R_drewN | apply Kd.R_drew)); exact Kd.R_mono HO215.out (fun _ hk => by first | exact ⟨hk.2.1, hk.2.2⟩ | exact hk | exact ⟨hk.1, hk.2⟩ | simp_all)⟩, ⟨by (with_reducible repeat (first | apply Kd.R_alloc | apply Kd.R_drewN | apply Kd.R_drew)); exact Kd.R_mono HO221.out (fun _ hk => by first | exact ⟨hk.1, ⟨hk.2.2, hk.1⟩⟩ | exact hk | exact ⟨hk.1, hk.2⟩ | simp_all)⟩, ⟨by (with_reducible repeat (first | apply Kd.R_alloc | apply Kd.R_drewN | apply Kd.R_drew)); exact Kd.R_mono HO224.out (fun _ hk => by first | exact ⟨hk.1, ⟨hk.2.2, hk.1⟩⟩ | exact hk | exact ⟨hk.1, hk.2⟩ | simp_all)⟩, ⟨by (with_reducible repeat (first | apply Kd.R_alloc | apply Kd.R_drewN | apply Kd.R_drew)); exact Kd.R_mono HO215.out (fun _ hk => by first | exact ⟨hk.2.1, hk.2.2⟩ | exact hk | exact ⟨hk.1, hk.2⟩ | simp_all)⟩, ⟨by exact KX_ BK212.out⟩, ⟨B1_⟩⟩
   case round =>
    clear H'
    try clear c5
    try clear c5b0
    try clear c5b1
    try clear c5b2
    try clear c10b0
    try clear c10b1
    try clear c11b0
    try clear c11b1
    try clear hcz12_0
    try clear hcz12_1
    try clear hcz15_0
    try clear hcz15_1
    try clear hfz12_0
    try clear hfz12_1
    try clear hfz15_0
    try clear hfz15_1
    obtain ⟨x8_1, x32_1, rfl, HA, HK1, HO_5, HO_7, HO_8, HO_30, BK212, HB⟩ := hrel
    cases gk with
    | zero => exact absurd HA.out (by simp [dom_Tree.l0])
    | succ k1 =>
     have H := HA.out
     clear HA
     simp only [dom_Tree.l0] at H
     by_cases c24 : x32_1 < (t213.length : Int)
     ·rw [if_pos c24] at H
      have c24b0 : decide (x32_1 < (t213.length : Int)) = true := decide_eq_true c24
      clear c24
      by_cases c25 : 0 ≤ x32_1
      ·rw [if_pos c25] at H
       have c25b0 : decide (0 ≤ x32_1) = true := decide_eq_true c25
       clear c25
       by_cases c26 : x32_1 < (t213.length : Int)
       ·rw [if_pos c26] at H
        have c26b0 : decide (x32_1 < (t213.length : Int)) = true := decide_eq_true c26
        clear c26
        by_cases c27 : 0 ≤ (rd t213 x32_1)
        ·rw [if_pos c27] at H
         have c27b0 : decide (0 ≤ (rd t213 x32_1)) = true := decide_eq_true c27
         clear c27
         by_cases c28 : (rd t213 x32_1) < (x8_1.length : Int)
         ·rw [if_pos c28] at H
          have c28b0 : decide ((rd t213 x32_1) < (x8_1.length : Int)) = true := decide_eq_true c28
          clear c28
          obtain ⟨y226, hy226⟩ : ∃ y_ : List Int, y_ = (x8_1.set ((rd t213 x32_1) : Int).toNat x32_1) := ⟨_, rfl⟩
          replace H : (dom_Tree.l0 k1 a1 t213 t219 y226 t213 (t213.length : Int) (wrap64 (x32_1 + 1)) l0_0 l0_1) = some r := by first | (rw [hy226]; with_reducible exact H) | (have H2_ := (Option.bind_some _ _).symm.trans H; rw [hy226]; with_reducible exact H2_) | (have H2_ := (Option.bind_some _ _).symm.trans H; with_reducible exact H2_) | with_reducible exact H | (rw [hy226]; exact H) | exact H
          have Ny226 := Aside0.mk hy226
          clear hy226
          have H' := Aside0.mk H
          clear H
          have p225 : 0 ≤ (x32_1 : Int) := D_
          have q225 : x32_1 < (t213.length : Int) := D_
          obtain ⟨ad225, e225, hx225_0⟩ := Kd.at_int (Kd.R_reads' HO_30.out).2.2 x32_1 p225 q225
          cases e225
          replace p225 := eq_true p225
          replace q225 := eq_true q225
          have p29 : 0 ≤ ((rd t213 x32_1) : Int) := D_
          have q29 : ((rd t213 x32_1) : Int) < ((x8_1.length : Int) : Int) := D_
          obtain ⟨go29, co29, eo29, gb29, gl29, cl29, HG29⟩ := Kd.R_form HO_8.out (by omega)
          (first | cases eo29 | (injection eo29 with ea_ en_ ec_; (first | subst ea_ | (injection ea_ with ea_; subst ea_)); subst ec_; clear en_))
          have GB29 := Aside0.mk gb29
          have GG29 := Aside0.mk HG29
          clear gb29 gl29 HG29
          obtain ⟨hx29_0, hf29_0⟩ := Kd.R_celln 0 HO_8.out ((rd t213 x32_1) : Int) p29 q29
          replace p29 := eq_true p29
          replace q29 := eq_true q29
          have HP30 := Kd.R_putg HO_8.out ((rd t213 x32_1) : Int) x32_1
          go_wp2_with (first | ((with_reducible refine gate_store (t := 3) (p := 40) rfl ?_); refine store_event (t := 3) (p := 40) (v := ?vo_w31) (w1 := (wr.setCell ⟨go29, ((rd t213 x32_1) : Int).toNat, none⟩ (.int .i64 x32_1))) ?hg ?ho ?hn ?hr ?_; (case ho => rfl); (case hg => rfl); (case hn => rfl); (case hr => first | (go_simp; done) | (go_simp; rfl)); intro w31 hw; have hg : wr.grownBy w31 (some go29) := (by rw [hw]; exact HP30.2); have hp_ : Kd.R (Kd.int .i64) 3 w31 w.heap.size (fun k_ => some k_ ≠ (.slice (some ad225) t213.length co14 : Value).ownBlock ∧ some k_ ≠ (v220 : Value).ownBlock ∧ some k_ ≠ (.slice (some ad225) t213.length co14 : Value).ownBlock) (.slice (some ⟨go29, 0, none⟩) x8_1.length co29) y226 := (by rw [hw, Ny226.out]; exact HP30.1); clear HP30; replace HO_5 := A_ (Kd.R_after (v := (.slice (some ⟨go29, 0, none⟩) x8_1.length co29)) (v1 := (.slice (some ⟨go29, 0, none⟩) x8_1.length co29)) (ok := (fun k_ => some k_ ≠ (v220 : Value).ownBlock)) (by exact RX_ HO_5.out) hg (.inl rfl)); replace HO_7 := A_ (Kd.R_after (v := (.slice (some ⟨go29, 0, none⟩) x8_1.length co29)) (v1 := (.slice (some ⟨go29, 0, none⟩) x8_1.length co29)) (ok := (fun k_ => some k_ ≠ (.slice (some ad225) t213.length co14 : Value).ownBlock ∧ some k_ ≠ (.slice (some ad225) t213.length co14 : Value).ownBlock)) (by (with_reducible repeat (first | apply Kd.R_alloc | apply Kd.R_drewN | apply Kd.R_drew)); exact Kd.R_mono HO_7.out (fun _ hk => by first | exact ⟨⟨hk.1, hk.2.2⟩, hk.2.1⟩ | exact hk | exact ⟨hk.1, hk.2⟩ | simp_all)) hg (.inl rfl)); replace HO_30 := A_ (Kd.R_after (v := (.slice (some ⟨go29, 0, none⟩) x8_1.length co29)) (v1 := (.slice (some ⟨go29, 0, none⟩) x8_1.length co29)) (ok := (fun k_ => some k_ ≠ (v220 : Value).ownBlock)) (by exact RX_ HO_30.out) hg (.inl rfl)); replace BK212 := A_ (blk_grown (g := gb212) (o := .cells #[.slice A0_0 l0_0.length c0_0, .slice A0_1 l0_1.length c0_1] 26 (0, 0)) (by exact KX_ BK212.out) hg (Kd.R_ne HO_8.out BK212.out (by decide))); replace HO_8 := A_ (hp_); replace HB := A_ ((by rw [hw]; exact below_set (HB.out) GB29.out : Below w.heap.size w w31)); clear hg hw hp_))
          go_roundg k1
          case measure => have := HK1.out; omega
          case rel => exact ⟨(y226), (wrap64 (x32_1 + 1)), (by first | rfl | (simp; done) | (simp [*]; done)), H', ⟨by have := HK1.out; omega⟩, ⟨by exact RM_ HO_5.out⟩, ⟨by (with_reducible repeat (first | apply Kd.R_alloc | apply Kd.R_drewN | apply Kd.R_drew)); exact Kd.R_mono HO_7.out (fun _ hk => by first | exact ⟨hk.1.1, ⟨hk.2, hk.1.2⟩⟩ | exact hk | exact ⟨hk.1, hk.2⟩ | simp_all)⟩, ⟨by exact RM_ HO_8.out⟩, ⟨by exact RM_ HO_30.out⟩, ⟨by exact KX_ BK212.out⟩, ⟨B1_⟩⟩
         rw [if_neg c28] at H
         exact absurd H (by simp)
        rw [if_neg c27] at H
        exact absurd H (by simp)
       rw [if_neg c26] at H
       exact absurd H (by simp)
      rw [if_neg c25] at H
      exact absurd H (by simp)
     rw [if_neg c24] at H
     have c24b0 : decide (x32_1 < (t213.length : Int)) = false := decide_eq_false c24
     clear c24
     by_cases c32 : 0 ≤ a1
     ·rw [if_pos c32] at H
      have c32b0 : decide (0 ≤ a1) = true := decide_eq_true c32
      clear c32
      by_cases c33 : a1 < (t219.length : Int)
      ·rw [if_pos c33] at H
       have c33b0 : decide (a1 < (t219.length : Int)) = true := decide_eq_true c33
       clear c33
       obtain ⟨y227, hy227⟩ : ∃ y_ : List Int, y_ = (t219.set (a1 : Int).toNat a1) := ⟨_, rfl⟩
       replace H : (dom_Tree.l1 k1 a1 t213 y227 x8_1 l0_0 l0_1) = some r := by first | (rw [hy227]; with_reducible exact H) | (have H2_ := (Option.bind_some _ _).symm.trans H; rw [hy227]; with_reducible exact H2_) | (have H2_ := (Option.bind_some _ _).symm.trans H; with_reducible exact H2_) | with_reducible exact H | (rw [hy227]; exact H) | exact H
       have Ny227 := Aside0.mk hy227
       clear hy227
       have H' := Aside0.mk H
       clear H
       have p34 : 0 ≤ (a1 : Int) := D_
       have q34 : (a1 : Int) < ((t219.length : Int) : Int) := D_
       obtain ⟨go34, co34, eo34, gb34, gl34, cl34, HG34⟩ := Kd.R_form HO_7.out (by omega)
       (first | cases eo34 | (injection eo34 with ea_ en_ ec_; (first | subst ea_ | (injection ea_ with ea_; subst ea_)); subst ec_; clear en_))
       have GB34 := Aside0.mk gb34
       have GG34 := Aside0.mk HG34
       clear gb34 gl34 HG34
       obtain ⟨hx34_0, hf34_0⟩ := Kd.R_celln 0 HO_7.out (a1 : Int) p34 q34
       replace p34 := eq_true p34
       replace q34 := eq_true q34
       have HP35 := Kd.R_putg HO_7.out (a1 : Int) a1
       go_wp2_with (first | ((with_reducible refine gate_store (t := 3) (p := 45) rfl ?_); refine store_event (t := 3) (p := 45) (v := ?vo_w36) (w1 := (wr.setCell ⟨go34, (a1 : Int).toNat, none⟩ (.int .i64 a1))) ?hg ?ho ?hn ?hr ?_; (case ho => rfl); (case hg => rfl); (case hn => rfl); (case hr => first | (go_simp; done) | (go_simp; rfl)); intro w36 hw; have hg : wr.grownBy w36 (some go34) := (by rw [hw]; exact HP35.2); have hp_ : Kd.R (Kd.int .i64) 3 w36 w.heap.size (fun k_ => some k_ ≠ (.slice Ao14 t213.length co14 : Value).ownBlock ∧ some k_ ≠ (v223 : Value).ownBlock ∧ some k_ ≠ (.slice Ao14 t213.length co14 : Value).ownBlock) (.slice (some ⟨go34, 0, none⟩) t219.length co34) y227 := (by rw [hw, Ny227.out]; exact HP35.1); clear HP35; replace HO_5 := A_ (Kd.R_after (v := (.slice (some ⟨go34, 0, none⟩) t219.length co34)) (v1 := (.slice (some ⟨go34, 0, none⟩) t219.length co34)) (ok := (fun k_ => some k_ ≠ (v223 : Value).ownBlock)) (by (with_reducible repeat (first | apply Kd.R_alloc | apply Kd.R_drewN | apply Kd.R_drew)); exact Kd.R_mono HO_5.out (fun _ hk => by first | exact ⟨hk.2, hk.1⟩ | exact hk | exact ⟨hk.1, hk.2⟩ | simp_all)) hg (.inl rfl)); replace HO_8 := A_ (Kd.R_after (v := (.slice (some ⟨go34, 0, none⟩) t219.length co34)) (v1 := (.slice (some ⟨go34, 0, none⟩) t219.length co34)) (ok := (fun k_ => some k_ ≠ (.slice Ao14 t213.length co14 : Value).ownBlock ∧ some k_ ≠ (.slice Ao14 t213.length co14 : Value).ownBlock)) (by (with_reducible repeat (first | apply Kd.R_alloc | apply Kd.R_drewN | apply Kd.R_drew)); exact Kd.R_mono HO_8.out (fun _ hk => by first | exact ⟨⟨hk.1, hk.2.2⟩, hk.2.1⟩ | exact hk | exact ⟨hk.1, hk.2⟩ | simp_all)) hg (.inl rfl)); replace HO_30 := A_ (Kd.R_after (v := (.slice (some ⟨go34, 0, none⟩) t219.length co34)) (v1 := (.slice (some ⟨go34, 0, none⟩) t219.length co34)) (ok := (fun k_ => some k_ ≠ (v223 : Value).ownBlock)) (by (with_reducible repeat (first | apply Kd.R_alloc | apply Kd.R_drewN | apply Kd.R_drew)); exact Kd.R_mono HO_30.out (fun _ hk => by first | exact ⟨hk.2, hk.1⟩ | exact hk | exact ⟨hk.1, hk.2⟩ | simp_all)) hg (.inl rfl)); replace BK212 := A_ (blk_grown (g := gb212) (o := .cells #[.slice A0_0 l0_0.length c0_0, .slice A0_1 l0_1.length c0_1] 26 (0, 0)) (by exact KX_ BK212.out) hg (Kd.R_ne HO_7.out BK212.out (by decide))); replace HO_7 := A_ (hp_); replace HB := A_ ((by rw [hw]; exact below_set (HB.out) GB34.out : Below w.heap.size w w36)); clear hg hw hp_))
       go_step3
       go_step
       try go_step
       apply lab_ghost_at (l := 0) (I := fun (a0_ : Act) (kq_ : Nat) (a_ : Act) (w_ : World) => ∃ u4 u12 u13 u15 u46 u47 u48 u49 u50 u51 u52 u53 u54 u55 u56 u57 u58 u59 u60 u61 u62 u63 u64 u65 u66 u67 u68 u69 u70 u71 u72 u73 u74 u75 u76 u77 u78 u79 u80 u81 u82 u83 u84 u85 u86 u87 u88 u89 u90 u91 u92 u93 : Value, ((fun kq w' => ∃ (x7_2 : List Int), Aside0 (dom_Tree.l1 kq a1 t213 x7_2 x8_1 l0_0 l0_1 = some r) ∧ Aside0 (kq ≤ k1) ∧ Aside0 (Kd.R (Kd.int .i64) 3 w' w.heap.size (fun k_ => some k_ ≠ ((.slice (some ⟨go34, 0, none⟩) t219.length co34) : Value).ownBlock ∧ some k_ ≠ (v223 : Value).ownBlock) (.slice Ao14 t213.length co14) t213) ∧ Aside0 (Kd.R (Kd.int .i64) 3 w' w.heap.size (fun k_ => some k_ ≠ ((.slice Ao14 t213.length co14) : Value).ownBlock ∧ some k_ ≠ (v223 : Value).ownBlock) (.slice (some ⟨go34, 0, none⟩) t219.length co34) x7_2) ∧ Aside0 (Kd.R (Kd.int .i64) 3 w' w.heap.size (fun k_ => some k_ ≠ ((.slice Ao14 t213.length co14) : Value).ownBlock ∧ some k_ ≠ ((.slice (some ⟨go34, 0, none⟩) t219.length co34) : Value).ownBlock) v223 x8_1) ∧ Aside0 (w'.heap[gb212]? = some (.cells #[(.slice A0_0 l0_0.length c0_0), (.slice A0_1 l0_1.length c0_1)] 26 (0, 0))) ∧ Aside0 (Below w.heap.size w w')) kq_  w_) ∧ a_ = { tmps := ((((((((((((((((((((((((((((((((((((((((((((((((((((a0_.tmps.setIfInBounds 4 u4).setIfInBounds 12 u12).setIfInBounds 13 u13).setIfInBounds 15 u15).setIfInBounds 46 u46).setIfInBounds 47 u47).setIfInBounds 48 u48).setIfInBounds 49 u49).setIfInBounds 50 u50).setIfInBounds 51 u51).setIfInBounds 52 u52).setIfInBounds 53 u53).setIfInBounds 54 u54).setIfInBounds 55 u55).setIfInBounds 56 u56).setIfInBounds 57 u57).setIfInBounds 58 u58).setIfInBounds 59 u59).setIfInBounds 60 u60).setIfInBounds 61 u61).setIfInBounds 62 u62).setIfInBounds 63 u63).setIfInBounds 64 u64).setIfInBounds 65 u65).setIfInBounds 66 u66).setIfInBounds 67 u67).setIfInBounds 68 u68).setIfInBounds 69 u69).setIfInBounds 70 u70).setIfInBounds 71 u71).setIfInBounds 72 u72).setIfInBounds 73 u73).setIfInBounds 74 u74).setIfInBounds 75 u75).setIfInBounds 76 u76).setIfInBounds 77 u77).setIfInBounds 78 u78).setIfInBounds 79 u79).setIfInBounds 80 u80).setIfInBounds 81 u81).setIfInBounds 82 u82).setIfInBounds 83 u83).setIfInBounds 84 u84).setIfInBounds 85 u85).setIfInBounds 86 u86).setIfInBounds 87 u87).setIfInBounds 88 u88).setIfInBounds 89 u89).setIfInBounds 90 u90).setIfInBounds 91 u91).setIfInBounds 92 u92).setIfInBounds 93 u93), defers := a0_.defers }) (n₀ := k1); (case hf => rfl)
       case h₀ =>
        (repeat apply Exists.intro)
        refine ⟨?_, ?hfr⟩
        (case hfr => (try simp only [List.setIfInBounds_toArray, List.set_cons_zero, List.set_cons_succ]); rfl)
        exact ⟨(y227), H', ⟨Nat.le_refl _⟩, ⟨by (with_reducible repeat (first | apply Kd.R_alloc | apply Kd.R_drewN | apply Kd.R_drew)); exact Kd.R_mono HO_5.out (fun _ hk => by first | exact ⟨hk.2, hk.1⟩ | exact hk | exact ⟨hk.1, hk.2⟩ | simp_all)⟩, ⟨by (with_reducible repeat (first | apply Kd.R_alloc | apply Kd.R_drewN | apply Kd.R_drew)); exact Kd.R_mono HO_7.out (fun _ hk => by first | exact ⟨hk.1, hk.2.1⟩ | exact hk | exact ⟨hk.1, hk.2⟩ | simp_all)⟩, ⟨by (with_reducible repeat (first | apply Kd.R_alloc | apply Kd.R_drewN | apply Kd.R_drew)); exact Kd.R_mono HO_8.out (fun _ hk => by first | exact ⟨hk.1.1, hk.2⟩ | exact hk | exact ⟨hk.1, hk.2⟩ | simp_all)⟩, ⟨by exact KX_ BK212.out⟩, ⟨B1_⟩⟩
       intro gk _ wr hinv
       obtain ⟨u4, hinv⟩ := hinv
       obtain ⟨u12, hinv⟩ := hinv
       obtain ⟨u13, hinv⟩ := hinv
       obtain ⟨u15, hinv⟩ := hinv
       obtain ⟨u46, hinv⟩ := hinv
       obtain ⟨u47, hinv⟩ := hinv
       obtain ⟨u48, hinv⟩ := hinv
       obtain ⟨u49, hinv⟩ := hinv
       obtain ⟨u50, hinv⟩ := hinv
       obtain ⟨u51, hinv⟩ := hinv
       obtain ⟨u52, hinv⟩ := hinv
       obtain ⟨u53, hinv⟩ := hinv
       obtain ⟨u54, hinv⟩ := hinv
       obtain ⟨u55, hinv⟩ := hinv
       obtain ⟨u56, hinv⟩ := hinv
       obtain ⟨u57, hinv⟩ := hinv
       obtain ⟨u58, hinv⟩ := hinv
       obtain ⟨u59, hinv⟩ := hinv
       obtain ⟨u60, hinv⟩ := hinv
       obtain ⟨u61, hinv⟩ := hinv
       obtain ⟨u62, hinv⟩ := hinv
       obtain ⟨u63, hinv⟩ := hinv
       obtain ⟨u64, hinv⟩ := hinv
       obtain ⟨u65, hinv⟩ := hinv
       obtain ⟨u66, hinv⟩ := hinv
       obtain ⟨u67, hinv⟩ := hinv
       obtain ⟨u68, hinv⟩ := hinv
       obtain ⟨u69, hinv⟩ := hinv
       obtain ⟨u70, hinv⟩ := hinv
       obtain ⟨u71, hinv⟩ := hinv
       obtain ⟨u72, hinv⟩ := hinv
       obtain ⟨u73, hinv⟩ := hinv
       obtain ⟨u74, hinv⟩ := hinv
       obtain ⟨u75, hinv⟩ := hinv
       obtain ⟨u76, hinv⟩ := hinv
       obtain ⟨u77, hinv⟩ := hinv
       obtain ⟨u78, hinv⟩ := hinv
       obtain ⟨u79, hinv⟩ := hinv
       obtain ⟨u80, hinv⟩ := hinv
       obtain ⟨u81, hinv⟩ := hinv
       obtain ⟨u82, hinv⟩ := hinv
       obtain ⟨u83, hinv⟩ := hinv
       obtain ⟨u84, hinv⟩ := hinv
       obtain ⟨u85, hinv⟩ := hinv
       obtain ⟨u86, hinv⟩ := hinv
       obtain ⟨u87, hinv⟩ := hinv
       obtain ⟨u88, hinv⟩ := hinv
       obtain ⟨u89, hinv⟩ := hinv
       obtain ⟨u90, hinv⟩ := hinv
       obtain ⟨u91, hinv⟩ := hinv
       obtain ⟨u92, hinv⟩ := hinv
       obtain ⟨u93, hinv⟩ := hinv
       obtain ⟨hrel, ha⟩ := hinv; subst ha
       intro _ _ hJ_ hK_
       (try simp only [List.setIfInBounds_toArray, List.set_cons_zero, List.set_cons_succ])
       (try simp only [List.setIfInBounds_toArray, List.set_cons_zero, List.set_cons_succ] at hJ_)
       clear H'
       try clear c24b0
       try clear c32b0
       try clear c33b0
       try clear p34
       try clear q34
       try clear hx34_0
       try clear p34
       try clear q34
       obtain ⟨x7_2, HA, HK2, HO_5, HO_7, HO_8, BK212, HB⟩ := hrel
       have hl7_2 := (Kd.R_reads' HO_7.out).1
       rw [hl7_2] at HO_7
       (try simp only [hl7_2])
       (try simp only [hl7_2] at BK212)
       (try simp only [hl7_2] at HO_5)
       (try simp only [hl7_2] at HO_8)
       cases gk with
       | zero => exact absurd HA.out (by simp [dom_Tree.l1])
       | succ k2 =>
        have H := HA.out
        clear HA
        simp only [dom_Tree.l1] at H
        by_cases c37 : 1 ≤ (t213.length : Int)
        ·rw [if_pos c37] at H
         have c37b0 := eq_true c37
         have c37b1 : decide (1 ≤ (t213.length : Int)) = true := decide_eq_true c37
         clear c37
         obtain ⟨y228, hy228⟩ : ∃ y_ : List Int, y_ = (t213.drop 1) := ⟨_, rfl⟩
         replace H : (dom_Tree.l2 k2 a1 t213 x7_2 x8_1 y228 (y228.length : Int) 0 l0_0 l0_1) = some r := by first | (rw [hy228]; with_reducible exact H) | (have H2_ := (Option.bind_some _ _).symm.trans H; rw [hy228]; with_reducible exact H2_) | (have H2_ := (Option.bind_some _ _).symm.trans H; with_reducible exact H2_) | with_reducible exact H | (rw [hy228]; exact H) | exact H
         have Ny228 := Aside0.mk hy228
         clear hy228
         have H' := Aside0.mk H
         clear H
         have q38 : (1 : Int) ≤ ((t213.length : Int) : Int) := D_
         obtain ⟨i038, hi038, _, hsz38, _⟩ := info_parts info3
         have hroom38 : t213.length ≤ co14 := (Kd.R_reads' HO_5.out).2.1
         have hC38 : Kd.C (Kd.int .i64) _ Ao14 t213.length t213 := (Kd.R_reads' HO_5.out).2.2
         have hcut38 := cut_from (P := Try.prog) 31 3 .i64 Try.underlying31 hi038 1 hsz38 Ao14 t213.length co14 1 (by omega) q38
         have hr38 := Kd.C_drop (m := (1 : Int).toNat) (c := co14) hC38 (by omega) hroom38
         obtain ⟨A38, hA38⟩ : ∃ A1, A1 = (if co14 = (1 : Int).toNat then Ao14 else (Ao14 : Option Addr).map (·.add ((1 : Int).toNat * 1))) := ⟨_, rfl⟩
         obtain ⟨c38, hc38⟩ : ∃ c1, c1 = co14 - (1 : Int).toNat := ⟨_, rfl⟩
         have hy38 : y228.length = t213.length - (1 : Int).toNat := (by rw [Ny228.out, List.length_drop] <;> omega)
         rw [show (t213).drop (1 : Int).toNat = y228 from Ny228.out.symm] at hr38
         replace hr38 : Kd.C (Kd.int .i64) _ A38 y228.length y228 := (by rw [hA38]; exact hr38)
         rw [← hy38, ← hA38, ← hc38] at hcut38
         have HR231 := Aside0.mk hr38
         have HC231 := A_ (show y228.length ≤ c38 from by rw [hy38, hc38]; exact Nat.sub_le_sub_right hroom38 _)
         clear hr38 hC38 hroom38 hi038 hsz38 hc38
         have KY38 := Aside0.mk hy38
         have KA38 := Aside0.mk hA38
         clear hy38 hA38
         have KL38 := A_ (show 1 ≤ t213.length from by omega)
         replace q38 := eq_true q38
         go_wp2
         go_loopg [49] k2 (fun kq v49 w' => ∃ (x7_3 : List Int) (x49_3 : Int), v49 = .int .i64 x49_3 ∧ Aside0 (dom_Tree.l2 kq a1 t213 x7_3 x8_1 y228 (y228.length : Int) x49_3 l0_0 l0_1 = some r) ∧ Aside0 (kq ≤ k2) ∧ Aside0 (Kd.R (Kd.int .i64) 3 w' w.heap.size (fun k_ => some k_ ≠ ((.slice (some ⟨go34, 0, none⟩) x7_2.length co34) : Value).ownBlock ∧ some k_ ≠ (v223 : Value).ownBlock) (.slice Ao14 t213.length co14) t213) ∧ Aside0 (Kd.R (Kd.int .i64) 3 w' w.heap.size (fun k_ => some k_ ≠ ((.slice Ao14 t213.length co14) : Value).ownBlock ∧ some k_ ≠ (v223 : Value).ownBlock) (.slice (some ⟨go34, 0, none⟩) x7_2.length co34) x7_3) ∧ Aside0 (Kd.R (Kd.int .i64) 3 w' w.heap.size (fun k_ => some k_ ≠ ((.slice Ao14 t213.length co14) : Value).ownBlock ∧ some k_ ≠ ((.slice (some ⟨go34, 0, none⟩) x7_2.length co34) : Value).ownBlock) v223 x8_1) ∧ Aside0 (w'.heap[gb212]? = some (.cells #[(.slice A0_0 l0_0.length c0_0), (.slice A0_1 l0_1.length c0_1)] 26 (0, 0))) ∧ Aside0 (Kd.C (Kd.int .i64) w' A38 y228.length y228) ∧ Aside0 (Below w.heap.size w w'))
         case atStart => exact ⟨(x7_2), (0), (by first | rfl | (simp; done) | (simp [*]; done)), H', ⟨Nat.le_refl _⟩, ⟨by (try simp only [hl7_2]); exact RM_ HO_5.out⟩, ⟨by (try simp only [hl7_2]); exact RM_ HO_7.out⟩, ⟨by (try simp only [hl7_2]); exact RM_ HO_8.out⟩, ⟨by (try simp only [hl7_2]); exact KX_ BK212.out⟩, ⟨by repeat (first | (with_reducible exact HR231.out) | (with_reducible refine Kd.C_alloc ?_ _) | (with_reducible refine Kd.C_drewN ?_ _) | (with_reducible refine Kd.C_drew ?_) | exact HR231.out)⟩, ⟨B1_⟩⟩
         case round =>
          clear H'
          try clear c1
          try clear c37b0
          try clear c37b1
          try clear c38
          try clear q38
          try clear q38
          obtain ⟨x7_3, x49_3, rfl, HA, HK3, HO_5, HO_7, HO_8, BK212, HR231, HB⟩ := hrel
          have hl7_3 := (Kd.R_reads' HO_7.out).1
          rw [hl7_3] at HO_7
          (try simp only [hl7_3])
          (try simp only [hl7_3] at BK212)
          (try simp only [hl7_3] at HO_5)
          (try simp only [hl7_3] at HO_8)
          cases gk with
          | zero => exact absurd HA.out (by simp [dom_Tree.l2])
          | succ k3 =>
           have H := HA.out
           clear HA
           simp only [dom_Tree.l2] at H
           by_cases c39 : x49_3 < (y228.length : Int)
           ·rw [if_pos c39] at H
            have c39b0 : decide (x49_3 < (y228.length : Int)) = true := decide_eq_true c39
            clear c39
            by_cases c40 : 0 ≤ x49_3
            ·rw [if_pos c40] at H
             have c40b0 : decide (0 ≤ x49_3) = true := decide_eq_true c40
             clear c40
             by_cases c41 : x49_3 < (y228.length : Int)
             ·rw [if_pos c41] at H
              have c41b0 : decide (x49_3 < (y228.length : Int)) = true := decide_eq_true c41
              clear c41
              by_cases c42 : 0 ≤ (rd y228 x49_3)
              ·rw [if_pos c42] at H
               have c42b0 : decide (0 ≤ (rd y228 x49_3)) = true := decide_eq_true c42
               clear c42
               by_cases c43 : (rd y228 x49_3) < (l0_1.length : Int)
               ·rw [if_pos c43] at H
                have c43b0 : decide ((rd y228 x49_3) < (l0_1.length : Int)) = true := decide_eq_true c43
                clear c43
                have H' := Aside0.mk H
                clear H
                have p233 : 0 ≤ (x49_3 : Int) := D_
                have q233 : x49_3 < (y228.length : Int) := D_
                obtain ⟨ad233, e233, hx233_0⟩ := Kd.at_int HR231.out x49_3 p233 q233
                cases e233
                replace p233 := eq_true p233
                replace q233 := eq_true q233
                have hcz44_0 : wr.cell? ⟨gb212, 0, none⟩ = some (.slice A0_0 l0_0.length c0_0) := (blk_cell BK212.out 0).trans rfl
                have hcz44_1 : wr.cell? ⟨gb212, 1, none⟩ = some (.slice A0_1 l0_1.length c0_1) := (blk_cell BK212.out 1).trans rfl
                have hfz44_0 := blk_frozen BK212.out 0
                have hfz44_1 := blk_frozen BK212.out 1
                have p234 : 0 ≤ ((rd y228 x49_3) : Int) := D_
                have q234 : (rd y228 x49_3) < (l0_1.length : Int) := D_
                obtain ⟨ad234, A234_0, c234_0, e234, hx234_0, hl234_0, hi234_0⟩ := at_L1 HR0_1.out (rd y228 x49_3) p234 q234
                cases e234
                replace hx234_0 := (HB.out.cell (World.block_lt_of_cell? w _ hx234_0)).trans hx234_0
                have HR234_0 := Aside0.mk hi234_0
                have HC234_0 := Aside0.mk hl234_0
                clear hi234_0 hl234_0
                replace p234 := eq_true p234
                replace q234 := eq_true q234
                go_wp2
                go_loopg [13, 59] k3 (fun kq v13 v59 w' => ∃ (x13_4 : Int) (x59_4 : Int), v13 = .int .i64 x13_4 ∧ v59 = .int .i64 x59_4 ∧ Aside0 (dom_Tree.l3 kq a1 t213 x7_3 x8_1 (rd y228 x49_3) x13_4 y228 (y228.length : Int) x49_3 (rd_L1 l0_1 (rd y228 x49_3)) ((rd_L1 l0_1 (rd y228 x49_3)).length : Int) x59_4 l0_0 l0_1 = some r) ∧ Aside0 (kq ≤ k3) ∧ Aside0 (Kd.R (Kd.int .i64) 3 w' w.heap.size (fun k_ => some k_ ≠ ((.slice (some ⟨go34, 0, none⟩) x7_3.length co34) : Value).ownBlock ∧ some k_ ≠ (v223 : Value).ownBlock) (.slice Ao14 t213.length co14) t213) ∧ Aside0 (Kd.R (Kd.int .i64) 3 w' w.heap.size (fun k_ => some k_ ≠ ((.slice Ao14 t213.length co14) : Value).ownBlock ∧ some k_ ≠ (v223 : Value).ownBlock) (.slice (some ⟨go34, 0, none⟩) x7_3.length co34) x7_3) ∧ Aside0 (Kd.R (Kd.int .i64) 3 w' w.heap.size (fun k_ => some k_ ≠ ((.slice Ao14 t213.length co14) : Value).ownBlock ∧ some k_ ≠ ((.slice (some ⟨go34, 0, none⟩) x7_3.length co34) : Value).ownBlock) v223 x8_1) ∧ Aside0 (w'.heap[gb212]? = some (.cells #[(.slice A0_0 l0_0.length c0_0), (.slice (some ad234) l0_1.length c0_1)] 26 (0, 0))) ∧ Aside0 (Kd.C (Kd.int .i64) w' (some ad233) y228.length y228) ∧ Aside0 (Below w.heap.size w w'))
                case atStart => exact ⟨((-2)), (0), (by first | rfl | (simp; done) | (simp [*]; done)), (by first | rfl | (simp; done) | (simp [*]; done)), H', ⟨Nat.le_refl _⟩, ⟨by (try simp only [hl7_2]); (try simp only [hl7_3]); exact RM_ HO_5.out⟩, ⟨by (try simp only [hl7_2]); (try simp only [hl7_3]); exact RM_ HO_7.out⟩, ⟨by (try simp only [hl7_2]); (try simp only [hl7_3]); exact RM_ HO_8.out⟩, ⟨by (try simp only [hl7_2]); (try simp only [hl7_3]); exact KX_ BK212.out⟩, ⟨by repeat (first | (with_reducible exact HR231.out) | (with_reducible refine Kd.C_alloc ?_ _) | (with_reducible refine Kd.C_drewN ?_ _) | (with_reducible refine Kd.C_drew ?_) | exact HR231.out)⟩, ⟨B1_⟩⟩
                case round =>
                 clear H'
                 try clear c39b0
                 try clear c40b0
                 try clear c41b0
                 try clear c42b0
                 try clear c43b0
                 try clear hcz44_0
                 try clear hcz44_1
                 try clear hfz44_0
                 try clear hfz44_1
                 try clear hx233_0
                 try clear hx234_0
                 try clear p233
                 try clear p234
                 try clear q233
                 try clear q234
                 obtain ⟨x13_4, x59_4, rfl, rfl, HA, HK4, HO_5, HO_7, HO_8, BK212, HR231, HB⟩ := hrel
                 cases gk with
                 | zero => exact absurd HA.out (by simp [dom_Tree.l3])
                 | succ k4 =>
                  have H := HA.out
                  clear HA
                  simp only [dom_Tree.l3] at H
                  by_cases c45 : x59_4 < ((rd_L1 l0_1 (rd y228 x49_3)).length : Int)
                  ·rw [if_pos c45] at H
                   have c45b0 : decide (x59_4 < ((rd_L1 l0_1 (rd y228 x49_3)).length : Int)) = true := decide_eq_true c45
                   clear c45
                   by_cases c46 : 0 ≤ x59_4
                   ·rw [if_pos c46] at H
                    have c46b0 : decide (0 ≤ x59_4) = true := decide_eq_true c46
                    clear c46
                    by_cases c47 : x59_4 < ((rd_L1 l0_1 (rd y228 x49_3)).length : Int)
                    ·rw [if_pos c47] at H
                     have c47b0 : decide (x59_4 < ((rd_L1 l0_1 (rd y228 x49_3)).length : Int)) = true := decide_eq_true c47
                     clear c47
                     by_cases c48 : 0 ≤ (rd (rd_L1 l0_1 (rd y228 x49_3)) x59_4)
                     ·rw [if_pos c48] at H
                      have c48b0 : decide (0 ≤ (rd (rd_L1 l0_1 (rd y228 x49_3)) x59_4)) = true := decide_eq_true c48
                      clear c48
                      by_cases c49 : (rd (rd_L1 l0_1 (rd y228 x49_3)) x59_4) < (x7_3.length : Int)
                      ·rw [if_pos c49] at H
                       have c49b0 : decide ((rd (rd_L1 l0_1 (rd y228 x49_3)) x59_4) < (x7_3.length : Int)) = true := decide_eq_true c49
                       clear c49
                       by_cases c50 : (rd x7_3 (rd (rd_L1 l0_1 (rd y228 x49_3)) x59_4)) = (-2)
                       ·rw [if_pos c50] at H
                        have c50b0 : ((rd x7_3 (rd (rd_L1 l0_1 (rd y228 x49_3)) x59_4)) == (-2)) = true := beq_iff_eq.mpr c50
                        have c50b1 : ((rd x7_3 (rd (rd_L1 l0_1 (rd y228 x49_3)) x59_4)) != (-2)) = false := bne_eq_false_iff_eq.mpr c50
                        clear c50
                        have H' := Aside0.mk H
                        clear H
                        have p237 : 0 ≤ (x59_4 : Int) := D_
                        have q237 : x59_4 < ((rd_L1 l0_1 (rd y228 x49_3)).length : Int) := D_
                        obtain ⟨ad237, e237, hx237_0⟩ := Kd.at_int HR234_0.out x59_4 p237 q237
                        cases e237
                        replace hx237_0 := (HB.out.cell (World.block_lt_of_cell? w _ hx237_0)).trans hx237_0
                        replace p237 := eq_true p237
                        replace q237 := eq_true q237
                        have p238 : 0 ≤ ((rd (rd_L1 l0_1 (rd y228 x49_3)) x59_4) : Int) := D_
                        have q238 : (rd (rd_L1 l0_1 (rd y228 x49_3)) x59_4) < (x7_3.length : Int) := D_
                        obtain ⟨ad238, e238, hx238_0⟩ := Kd.at_int (Kd.R_reads' HO_7.out).2.2 (rd (rd_L1 l0_1 (rd y228 x49_3)) x59_4) p238 q238
                        obtain rfl : (⟨go34, 0, none⟩ : Addr) = ad238 := (by injection e238)
                        (first | simp only [add_plain] at hx238_0 | simp only [add_at] at hx238_0 | simp only [Addr.add, Nat.zero_add] at hx238_0 | skip)
                        replace p238 := eq_true p238
                        replace q238 := eq_true q238
                        go_wp2
                        go_roundg k4
                        case measure => have := HK1.out; have := HK2.out; have := HK3.out; have := HK4.out; omega
                        case rel => exact ⟨(x13_4), (wrap64 (x59_4 + 1)), (by first | rfl | (simp; done) | (simp [*]; done)), (by first | rfl | (simp; done) | (simp [*]; done)), H', ⟨by have := HK1.out; have := HK2.out; have := HK3.out; have := HK4.out; omega⟩, ⟨by (try simp only [hl7_2]); (try simp only [hl7_3]); exact RM_ HO_5.out⟩, ⟨by (try simp only [hl7_2]); (try simp only [hl7_3]); exact RM_ HO_7.out⟩, ⟨by (try simp only [hl7_2]); (try simp only [hl7_3]); exact RM_ HO_8.out⟩, ⟨by (try simp only [hl7_2]); (try simp only [hl7_3]); exact KX_ BK212.out⟩, ⟨by repeat (first | (with_reducible exact HR231.out) | (with_reducible refine Kd.C_alloc ?_ _) | (with_reducible refine Kd.C_drewN ?_ _) | (with_reducible refine Kd.C_drew ?_) | exact HR231.out)⟩, ⟨B1_⟩⟩
                       rw [if_neg c50] at H
                       have c50b0 : ((rd x7_3 (rd (rd_L1 l0_1 (rd y228 x49_3)) x59_4)) == (-2)) = false := beq_eq_false_iff_ne.mpr c50
                       have c50b1 : ((rd x7_3 (rd (rd_L1 l0_1 (rd y228 x49_3)) x59_4)) != (-2)) = true := bne_iff_ne.mpr c50
                       by_cases c51 : x13_4 = (-2)
                       ·rw [if_pos c51] at H
                        have c51b0 : (x13_4 == (-2)) = true := beq_iff_eq.mpr c51
                        have c51b1 : (x13_4 != (-2)) = false := bne_eq_false_iff_eq.mpr c51
                        clear c51
                        have H' := Aside0.mk H
                        clear H
                        have p237 : 0 ≤ (x59_4 : Int) := D_
                        have q237 : x59_4 < ((rd_L1 l0_1 (rd y228 x49_3)).length : Int) := D_
                        obtain ⟨ad237, e237, hx237_0⟩ := Kd.at_int HR234_0.out x59_4 p237 q237
                        cases e237
                        replace hx237_0 := (HB.out.cell (World.block_lt_of_cell? w _ hx237_0)).trans hx237_0
                        replace p237 := eq_true p237
                        replace q237 := eq_true q237
                        have p238 : 0 ≤ ((rd (rd_L1 l0_1 (rd y228 x49_3)) x59_4) : Int) := D_
                        have q238 : (rd (rd_L1 l0_1 (rd y228 x49_3)) x59_4) < (x7_3.length : Int) := D_
                        obtain ⟨ad238, e238, hx238_0⟩ := Kd.at_int (Kd.R_reads' HO_7.out).2.2 (rd (rd_L1 l0_1 (rd y228 x49_3)) x59_4) p238 q238
                        obtain rfl : (⟨go34, 0, none⟩ : Addr) = ad238 := (by injection e238)
                        (first | simp only [add_plain] at hx238_0 | simp only [add_at] at hx238_0 | simp only [Addr.add, Nat.zero_add] at hx238_0 | skip)
                        replace p238 := eq_true p238
                        replace q238 := eq_true q238
                        go_wp2
                        go_roundg k4
                        case measure => have := HK1.out; have := HK2.out; have := HK3.out; have := HK4.out; omega
                        case rel => exact ⟨(rd (rd_L1 l0_1 (rd y228 x49_3)) x59_4), (wrap64 (x59_4 + 1)), (by first | rfl | (simp; done) | (simp [*]; done)), (by first | rfl | (simp; done) | (simp [*]; done)), H', ⟨by have := HK1.out; have := HK2.out; have := HK3.out; have := HK4.out; omega⟩, ⟨by (try simp only [hl7_2]); (try simp only [hl7_3]); exact RM_ HO_5.out⟩, ⟨by (try simp only [hl7_2]); (try simp only [hl7_3]); exact RM_ HO_7.out⟩, ⟨by (try simp only [hl7_2]); (try simp only [hl7_3]); exact RM_ HO_8.out⟩, ⟨by (try simp only [hl7_2]); (try simp only [hl7_3]); exact KX_ BK212.out⟩, ⟨by repeat (first | (with_reducible exact HR231.out) | (with_reducible refine Kd.C_alloc ?_ _) | (with_reducible refine Kd.C_drewN ?_ _) | (with_reducible refine Kd.C_drew ?_) | exact HR231.out)⟩, ⟨B1_⟩⟩
                       rw [if_neg c51] at H
                       have c51b0 : (x13_4 == (-2)) = false := beq_eq_false_iff_ne.mpr c51
                       have c51b1 : (x13_4 != (-2)) = true := bne_iff_ne.mpr c51
                       replace H := Option.bind_eq_some_iff.mp H
                       obtain ⟨t239, A520, H⟩ := H
                       try dsimp only at H
                       have A52 := Aside0.mk A520
                       clear A520
                       have H' := Aside0.mk H
                       clear H
                       have p237 : 0 ≤ (x59_4 : Int) := D_
                       have q237 : x59_4 < ((rd_L1 l0_1 (rd y228 x49_3)).length : Int) := D_
                       obtain ⟨ad237, e237, hx237_0⟩ := Kd.at_int HR234_0.out x59_4 p237 q237
                       cases e237
                       replace hx237_0 := (HB.out.cell (World.block_lt_of_cell? w _ hx237_0)).trans hx237_0
                       replace p237 := eq_true p237
                       replace q237 := eq_true q237
                       have p238 : 0 ≤ ((rd (rd_L1 l0_1 (rd y228 x49_3)) x59_4) : Int) := D_
                       have q238 : (rd (rd_L1 l0_1 (rd y228 x49_3)) x59_4) < (x7_3.length : Int) := D_
                       obtain ⟨ad238, e238, hx238_0⟩ := Kd.at_int (Kd.R_reads' HO_7.out).2.2 (rd (rd_L1 l0_1 (rd y228 x49_3)) x59_4) p238 q238
                       obtain rfl : (⟨go34, 0, none⟩ : Addr) = ad238 := (by injection e238)
                       (first | simp only [add_plain] at hx238_0 | simp only [add_at] at hx238_0 | simp only [Addr.add, Nat.zero_add] at hx238_0 | skip)
                       replace p238 := eq_true p238
                       replace q238 := eq_true q238
                       obtain ⟨Ao53, co53, eo53⟩ := Kd.R_slice HO_8.out
                       subst eo53
                       go_wp2_with (first | ((with_reducible refine gate_callee (f := 38) rfl ?_); refine goesL_ (some 67) rfl rfl Try.func38 (by kernel_rfl) rfl #[.slice (some ⟨go34, 0, none⟩) x7_3.length co34, .slice Ao53 x8_1.length co53, .int .i64 x13_4, .int .i64 (rd (rd_L1 l0_1 (rd y228 x49_3)) x59_4)] rfl (by (try simp only [List.map_toArray, List.map_cons, List.map_nil]); first | done | rfl | (simp only [List.length_drop, List.length_take]; rfl)) ?_; (with_reducible refine (dom_meet.calls k4 _ _ x7_3 _ _ x8_1 x13_4 (rd (rd_L1 l0_1 (rd y228 x49_3)) x59_4) t239 _ ?side1 ?side2 ?side3 ?side4 A52.out).mono ?_); (case side1 => repeat (first | exact (Kd.R_reads' HO_7.out).2.2 | (with_reducible refine Kd.C_alloc ?_ _) | (with_reducible refine Kd.C_drewN ?_ _) | (with_reducible refine Kd.C_drew ?_))); (case side2 => exact (Kd.R_reads' HO_7.out).2.1); (case side3 => repeat (first | exact (Kd.R_reads' HO_8.out).2.2 | (with_reducible refine Kd.C_alloc ?_ _) | (with_reducible refine Kd.C_drewN ?_ _) | (with_reducible refine Kd.C_drew ?_))); (case side4 => exact (Kd.R_reads' HO_8.out).2.1); rintro e w' ⟨rfl, ⟨nd, rfl⟩⟩; refine ⟨_, rfl, ?_⟩))
                       go_roundg k4
                       case measure => have := HK1.out; have := HK2.out; have := HK3.out; have := HK4.out; omega
                       case rel => exact ⟨(t239), (wrap64 (x59_4 + 1)), (by first | rfl | (simp; done) | (simp [*]; done)), (by first | rfl | (simp; done) | (simp [*]; done)), H', ⟨by have := HK1.out; have := HK2.out; have := HK3.out; have := HK4.out; omega⟩, ⟨by (try simp only [hl7_2]); (try simp only [hl7_3]); exact RM_ HO_5.out⟩, ⟨by (try simp only [hl7_2]); (try simp only [hl7_3]); exact RM_ HO_7.out⟩, ⟨by (try simp only [hl7_2]); (try simp only [hl7_3]); exact RM_ HO_8.out⟩, ⟨by (try simp only [hl7_2]); (try simp only [hl7_3]); exact KX_ BK212.out⟩, ⟨by repeat (first | (with_reducible exact HR231.out) | (with_reducible refine Kd.C_alloc ?_ _) | (with_reducible refine Kd.C_drewN ?_ _) | (with_reducible refine Kd.C_drew ?_) | exact HR231.out)⟩, ⟨B1_⟩⟩
                      rw [if_neg c49] at H
                      exact absurd H (by simp)
                     rw [if_neg c48] at H
                     exact absurd H (by simp)
                    rw [if_neg c47] at H
                    exact absurd H (by simp)
                   rw [if_neg c46] at H
                   exact absurd H (by simp)
                  rw [if_neg c45] at H
                  have c45b0 : decide (x59_4 < ((rd_L1 l0_1 (rd y228 x49_3)).length : Int)) = false := decide_eq_false c45
                  clear c45
                  by_cases c54 : 0 ≤ (rd y228 x49_3)
                  ·rw [if_pos c54] at H
                   have c54b0 : decide (0 ≤ (rd y228 x49_3)) = true := decide_eq_true c54
                   clear c54
                   by_cases c55 : (rd y228 x49_3) < (x7_3.length : Int)
                   ·rw [if_pos c55] at H
                    have c55b0 : decide ((rd y228 x49_3) < (x7_3.length : Int)) = true := decide_eq_true c55
                    clear c55
                    by_cases c56 : (rd x7_3 (rd y228 x49_3)) = x13_4
                    ·rw [if_pos c56] at H
                     have c56b0 : ((rd x7_3 (rd y228 x49_3)) == x13_4) = true := beq_iff_eq.mpr c56
                     have c56b1 : ((rd x7_3 (rd y228 x49_3)) != x13_4) = false := bne_eq_false_iff_eq.mpr c56
                     clear c56
                     have H' := Aside0.mk H
                     clear H
                     have p235 : 0 ≤ ((rd y228 x49_3) : Int) := D_
                     have q235 : (rd y228 x49_3) < (x7_3.length : Int) := D_
                     obtain ⟨ad235, e235, hx235_0⟩ := Kd.at_int (Kd.R_reads' HO_7.out).2.2 (rd y228 x49_3) p235 q235
                     obtain rfl : (⟨go34, 0, none⟩ : Addr) = ad235 := (by injection e235)
                     (first | simp only [add_plain] at hx235_0 | simp only [add_at] at hx235_0 | simp only [Addr.add, Nat.zero_add] at hx235_0 | skip)
                     replace p235 := eq_true p235
                     replace q235 := eq_true q235
                     go_wp2
                     (try simp only [← hl7_3])
                     go_roundg k4
                     case measure => have := HK1.out; have := HK2.out; have := HK3.out; have := HK4.out; omega
                     case rel => exact ⟨(x7_3), (wrap64 (x49_3 + 1)), (by first | rfl | (simp; done) | (simp [*]; done)), H', ⟨by have := HK1.out; have := HK2.out; have := HK3.out; have := HK4.out; omega⟩, ⟨by (try simp only [hl7_2]); (try simp only [hl7_3]); exact RM_ HO_5.out⟩, ⟨by (try simp only [hl7_2]); (try simp only [hl7_3]); exact RM_ HO_7.out⟩, ⟨by (try simp only [hl7_2]); (try simp only [hl7_3]); exact RM_ HO_8.out⟩, ⟨by (try simp only [hl7_2]); (try simp only [hl7_3]); exact KX_ BK212.out⟩, ⟨by repeat (first | (with_reducible exact HR231.out) | (with_reducible refine Kd.C_alloc ?_ _) | (with_reducible refine Kd.C_drewN ?_ _) | (with_reducible refine Kd.C_drew ?_) | exact HR231.out)⟩, ⟨B1_⟩⟩
                    rw [if_neg c56] at H
                    have c56b0 : ((rd x7_3 (rd y228 x49_3)) == x13_4) = false := beq_eq_false_iff_ne.mpr c56
                    have c56b1 : ((rd x7_3 (rd y228 x49_3)) != x13_4) = true := bne_iff_ne.mpr c56
                    obtain ⟨y236, hy236⟩ : ∃ y_ : List Int, y_ = (x7_3.set ((rd y228 x49_3) : Int).toNat x13_4) := ⟨_, rfl⟩
                    replace H : (dom_Tree.l1 k4 a1 t213 y236 x8_1 l0_0 l0_1) = some r := by first | (rw [hy236]; with_reducible exact H) | (have H2_ := (Option.bind_some _ _).symm.trans H; rw [hy236]; with_reducible exact H2_) | (have H2_ := (Option.bind_some _ _).symm.trans H; with_reducible exact H2_) | with_reducible exact H | (rw [hy236]; exact H) | exact H
                    have Ny236 := Aside0.mk hy236
                    clear hy236
                    have H' := Aside0.mk H
                    clear H
                    have p235 : 0 ≤ ((rd y228 x49_3) : Int) := D_
                    have q235 : (rd y228 x49_3) < (x7_3.length : Int) := D_
                    obtain ⟨ad235, e235, hx235_0⟩ := Kd.at_int (Kd.R_reads' HO_7.out).2.2 (rd y228 x49_3) p235 q235
                    obtain rfl : (⟨go34, 0, none⟩ : Addr) = ad235 := (by injection e235)
                    (first | simp only [add_plain] at hx235_0 | simp only [add_at] at hx235_0 | simp only [Addr.add, Nat.zero_add] at hx235_0 | skip)
                    replace p235 := eq_true p235
                    replace q235 := eq_true q235
                    have p57 : 0 ≤ ((rd y228 x49_3) : Int) := D_
                    have q57 : ((rd y228 x49_3) : Int) < ((x7_3.length : Int) : Int) := D_
                    obtain ⟨hx57_0, hf57_0⟩ := Kd.R_celln 0 HO_7.out ((rd y228 x49_3) : Int) p57 q57
                    replace p57 := eq_true p57
                    replace q57 := eq_true q57
                    have HP58 := Kd.R_putg HO_7.out ((rd y228 x49_3) : Int) x13_4
                    go_wp2_with (first | ((with_reducible refine gate_store (t := 3) (p := 88) rfl ?_); refine store_event (t := 3) (p := 88) (v := ?vo_w59) (w1 := (wr.setCell ⟨go34, ((rd y228 x49_3) : Int).toNat, none⟩ (.int .i64 x13_4))) ?hg ?ho ?hn ?hr ?_; (case ho => rfl); (case hg => rfl); (case hn => rfl); (case hr => first | (go_simp; done) | (go_simp; rfl)); intro w59 hw; have hg : wr.grownBy w59 (some go34) := (by rw [hw]; exact HP58.2); have hp_ : Kd.R (Kd.int .i64) 3 w59 w.heap.size (fun k_ => some k_ ≠ (.slice Ao14 t213.length co14 : Value).ownBlock ∧ some k_ ≠ (v223 : Value).ownBlock) (.slice (some ⟨go34, 0, none⟩) x7_3.length co34) y236 := (by rw [hw, Ny236.out]; exact HP58.1); clear HP58; replace HO_8 := A_ (Kd.R_after (v := (.slice (some ⟨go34, 0, none⟩) x7_3.length co34)) (v1 := (.slice (some ⟨go34, 0, none⟩) x7_3.length co34)) (ok := (fun k_ => some k_ ≠ (.slice Ao14 t213.length co14 : Value).ownBlock)) (by exact RX_ HO_8.out) hg (.inl rfl)); replace BK212 := A_ (blk_grown (g := gb212) (o := .cells #[.slice A0_0 l0_0.length c0_0, .slice (some ad234) l0_1.length c0_1] 26 (0, 0)) (by exact KX_ BK212.out) hg (Kd.R_ne HO_7.out BK212.out (by decide))); replace HO_7 := A_ (hp_); replace HB := A_ ((by rw [hw]; exact below_set (HB.out) GB34.out : Below w.heap.size w w59)); replace HR231 := A_ ((show Kd.C (Kd.int .i64) w59 (some ad233) y228.length y228 from by rw [Ny228.out, KA38.out]; exact Kd.C_drop (m := 1) (c := co14) ((Kd.R_reads' (Kd.R_after (v := (.slice (some ⟨go34, 0, none⟩) x7_3.length co34)) (v1 := (.slice (some ⟨go34, 0, none⟩) x7_3.length co34)) (ok := (fun k_ => some k_ ≠ (v223 : Value).ownBlock)) (by (with_reducible repeat (first | apply Kd.R_alloc | apply Kd.R_drewN | apply Kd.R_drew)); exact Kd.R_mono HO_5.out (fun _ hk => by first | exact ⟨hk.2, hk.1⟩ | exact hk | exact ⟨hk.1, hk.2⟩ | simp_all)) hg (.inl rfl))).2.2) KL38.out ((Kd.R_reads' (Kd.R_after (v := (.slice (some ⟨go34, 0, none⟩) x7_3.length co34)) (v1 := (.slice (some ⟨go34, 0, none⟩) x7_3.length co34)) (ok := (fun k_ => some k_ ≠ (v223 : Value).ownBlock)) (by (with_reducible repeat (first | apply Kd.R_alloc | apply Kd.R_drewN | apply Kd.R_drew)); exact Kd.R_mono HO_5.out (fun _ hk => by first | exact ⟨hk.2, hk.1⟩ | exact hk | exact ⟨hk.1, hk.2⟩ | simp_all)) hg (.inl rfl))).2.1))); replace HO_5 := A_ (Kd.R_after (v := (.slice (some ⟨go34, 0, none⟩) x7_3.length co34)) (v1 := (.slice (some ⟨go34, 0, none⟩) x7_3.length co34)) (ok := (fun k_ => some k_ ≠ (v223 : Value).ownBlock)) (by (with_reducible repeat (first | apply Kd.R_alloc | apply Kd.R_drewN | apply Kd.R_drew)); exact Kd.R_mono HO_5.out (fun _ hk => by first | exact ⟨hk.2, hk.1⟩ | exact hk | exact ⟨hk.1, hk.2⟩ | simp_all)) hg (.inl rfl)); clear hg hw hp_))
                    (try simp only [← hl7_2, ← hl7_3])
                    go_step3
                    try simp only [jumpg_goto, Exit.then, Exit.inBlock]
                    go_step
                    go_roundg k4
                    case measure => have := HK1.out; have := HK2.out; have := HK3.out; have := HK4.out; omega
                    case rel => exact ⟨(y236), H', ⟨by have := HK1.out; have := HK2.out; have := HK3.out; have := HK4.out; omega⟩, ⟨by (try simp only [hl7_2]); (try simp only [hl7_3]); (with_reducible repeat (first | apply Kd.R_alloc | apply Kd.R_drewN | apply Kd.R_drew)); exact Kd.R_mono HO_5.out (fun _ hk => by first | exact ⟨hk.2, hk.1⟩ | exact hk | exact ⟨hk.1, hk.2⟩ | simp_all)⟩, ⟨by (try simp only [hl7_2]); (try simp only [hl7_3]); exact RM_ HO_7.out⟩, ⟨by (try simp only [hl7_2]); (try simp only [hl7_3]); exact RM_ HO_8.out⟩, ⟨by (try simp only [hl7_2]); (try simp only [hl7_3]); exact KX_ BK212.out⟩, ⟨B1_⟩⟩
                   rw [if_neg c55] at H
                   exact absurd H (by simp)
                  rw [if_neg c54] at H
                  exact absurd H (by simp)
               rw [if_neg c43] at H
               exact absurd H (by simp)
              rw [if_neg c42] at H
              exact absurd H (by simp)
             rw [if_neg c41] at H
             exact absurd H (by simp)
            rw [if_neg c40] at H
            exact absurd H (by simp)
           rw [if_neg c39] at H
           have c39b0 : decide (x49_3 < (y228.length : Int)) = false := decide_eq_false c39
           clear c39
           by_cases c60 : 0 ≤ a1
           ·rw [if_pos c60] at H
            have c60b0 : decide (0 ≤ a1) = true := decide_eq_true c60
            clear c60
            by_cases c61 : a1 < (x7_3.length : Int)
            ·rw [if_pos c61] at H
             have c61b0 : decide (a1 < (x7_3.length : Int)) = true := decide_eq_true c61
             clear c61
             obtain ⟨y232, hy232⟩ : ∃ y_ : List Int, y_ = (x7_3.set (a1 : Int).toNat (-1)) := ⟨_, rfl⟩
             replace H : (some y232) = some r := by first | (rw [hy232]; with_reducible exact H) | (have H2_ := (Option.bind_some _ _).symm.trans H; rw [hy232]; with_reducible exact H2_) | (have H2_ := (Option.bind_some _ _).symm.trans H; with_reducible exact H2_) | with_reducible exact H | (rw [hy232]; exact H) | exact H
             have Ny232 := Aside0.mk hy232
             clear hy232
             obtain rfl := Option.some.inj H
             have p62 : 0 ≤ (a1 : Int) := D_
             have q62 : (a1 : Int) < ((x7_3.length : Int) : Int) := D_
             obtain ⟨hx62_0, hf62_0⟩ := Kd.R_celln 0 HO_7.out (a1 : Int) p62 q62
             replace p62 := eq_true p62
             replace q62 := eq_true q62
             have HP63 := Kd.R_putg HO_7.out (a1 : Int) (-1)
             go_wp2_with (first | ((with_reducible refine gate_store (t := 3) (p := 92) rfl ?_); refine store_event (t := 3) (p := 92) (v := ?vo_w64) (w1 := (wr.setCell ⟨go34, (a1 : Int).toNat, none⟩ (.int .i64 (-1)))) ?hg ?ho ?hn ?hr ?_; (case ho => rfl); (case hg => rfl); (case hn => rfl); (case hr => first | (go_simp; done) | (go_simp; rfl)); intro w64 hw; have hg : wr.grownBy w64 (some go34) := (by rw [hw]; exact HP63.2); have hp_ : Kd.R (Kd.int .i64) 3 w64 w.heap.size (fun k_ => some k_ ≠ (.slice Ao14 t213.length co14 : Value).ownBlock ∧ some k_ ≠ (v223 : Value).ownBlock) (.slice (some ⟨go34, 0, none⟩) x7_3.length co34) y232 := (by rw [hw, Ny232.out]; exact HP63.1); clear HP63; replace HO_8 := A_ (Kd.R_after (v := (.slice (some ⟨go34, 0, none⟩) x7_3.length co34)) (v1 := (.slice (some ⟨go34, 0, none⟩) x7_3.length co34)) (ok := (fun k_ => some k_ ≠ (.slice Ao14 t213.length co14 : Value).ownBlock)) (by exact RX_ HO_8.out) hg (.inl rfl)); replace BK212 := A_ (blk_grown (g := gb212) (o := .cells #[.slice A0_0 l0_0.length c0_0, .slice A0_1 l0_1.length c0_1] 26 (0, 0)) (by exact KX_ BK212.out) hg (Kd.R_ne HO_7.out BK212.out (by decide))); replace HO_7 := A_ (hp_); replace HB := A_ ((by rw [hw]; exact below_set (HB.out) GB34.out : Below w.heap.size w w64)); replace HR231 := A_ ((show Kd.C (Kd.int .i64) w64 A38 y228.length y228 from by rw [Ny228.out, KA38.out]; exact Kd.C_drop (m := 1) (c := co14) ((Kd.R_reads' (Kd.R_after (v := (.slice (some ⟨go34, 0, none⟩) x7_3.length co34)) (v1 := (.slice (some ⟨go34, 0, none⟩) x7_3.length co34)) (ok := (fun k_ => some k_ ≠ (v223 : Value).ownBlock)) (by (with_reducible repeat (first | apply Kd.R_alloc | apply Kd.R_drewN | apply Kd.R_drew)); exact Kd.R_mono HO_5.out (fun _ hk => by first | exact ⟨hk.2, hk.1⟩ | exact hk | exact ⟨hk.1, hk.2⟩ | simp_all)) hg (.inl rfl))).2.2) KL38.out ((Kd.R_reads' (Kd.R_after (v := (.slice (some ⟨go34, 0, none⟩) x7_3.length co34)) (v1 := (.slice (some ⟨go34, 0, none⟩) x7_3.length co34)) (ok := (fun k_ => some k_ ≠ (v223 : Value).ownBlock)) (by (with_reducible repeat (first | apply Kd.R_alloc | apply Kd.R_drewN | apply Kd.R_drew)); exact Kd.R_mono HO_5.out (fun _ hk => by first | exact ⟨hk.2, hk.1⟩ | exact hk | exact ⟨hk.1, hk.2⟩ | simp_all)) hg (.inl rfl))).2.1))); replace HO_5 := A_ (Kd.R_after (v := (.slice (some ⟨go34, 0, none⟩) x7_3.length co34)) (v1 := (.slice (some ⟨go34, 0, none⟩) x7_3.length co34)) (ok := (fun k_ => some k_ ≠ (v223 : Value).ownBlock)) (by (with_reducible repeat (first | apply Kd.R_alloc | apply Kd.R_drewN | apply Kd.R_drew)); exact Kd.R_mono HO_5.out (fun _ hk => by first | exact ⟨hk.2, hk.1⟩ | exact hk | exact ⟨hk.1, hk.2⟩ | simp_all)) hg (.inl rfl)); clear hg hw hp_))
             (try simp only [jumpg_ret, Exit.then, Exit.inBlock])
             go_ret
             exact ⟨_, by first | rfl | (simp [errW_none, errW_some] <;> rfl) | (simp [*, errW_none, errW_some] <;> rfl), by (with_reducible repeat (first | apply Kd.R_alloc | apply Kd.R_drewN | apply Kd.R_drew)); exact Kd.R_mono HO_7.out (fun _ hk => trivial), B1_⟩
            rw [if_neg c61] at H
            exact absurd H (by simp)
           rw [if_neg c60] at H
           exact absurd H (by simp)
        rw [if_neg c37] at H
        exact absurd H (by simp)
      rw [if_neg c33] at H
      exact absurd H (by simp)
     rw [if_neg c32] at H
     exact absurd H (by simp)
  rw [if_neg c11] at H
  exact absurd H (by simp)
 rw [if_neg c10] at H
 exact absurd H (by simp)

end Go.Proofs.Ytheillkpgmpnlaa.G
