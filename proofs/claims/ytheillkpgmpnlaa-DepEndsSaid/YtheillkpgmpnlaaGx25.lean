/- Printed by a program of this session (wip/tools/op.py, over the kit's print program): Go functions as plain Lean functions, each with a proof that the call answers so. Conditions: each theorem's own. -/
import Derived.Test.YtheillkpgmpnlaaGx0
import Derived.Test.YtheillkpgmpnlaaGx11
import Derived.Test.YtheillkpgmpnlaaGx19
import Derived.Test.YtheillkpgmpnlaaGx20
import Derived.Test.YtheillkpgmpnlaaGx24
namespace Go.Proofs.Ytheillkpgmpnlaa.G
open Go.Proofs.YtheillkpgmpnlaaH
open Go.RowKit Go.Proofs.YtheillkpgmpnlaaW.PrintWords Go.Proofs.YtheillkpgmpnlaaW.PrintLast Go.Proofs.YtheillkpgmpnlaaW.PrintMore
attribute [local go_sem] max2_int min2_int max_two min_two max_three min_three max_four min_four   -- for this text's walks alone
set_option linter.unusedVariables false
set_option linter.unusedSimpArgs false

/-! ### dep_All: function 10 -/
mutual
def dep_All.l0 : Nat → List Int → List (S37) → List (List Int) → Int → Int → List (List Int) → List (List Int) → Option ((List (S37)))
 | 0, _, _, _, _, _, _, _ => none
 | k + 1, x5, x6, x21, x22, x23, x307000, x307001 => if x23 < x22 then (if 0 ≤ x23 then (if x23 < (x21.length : Int) then (if x23 < (x307000.length : Int) then (if ((rd_L1 x307000 x23).length : Int) < 2 then (dep_All.l0 k x5 x6 x21 x22 (wrap64 (x23 + 1)) x307000 x307001) else (dep_All.l1 k x5 x6 x23 x21 x22 x23 (rd_L1 x21 x23) ((rd_L1 x21 x23).length : Int) 0 x307000 x307001)) else (none)) else (none)) else (none)) else ((api_Dep_dep_compare.f x6).bind fun t310 => (some t310))
def dep_All.l1 : Nat → List Int → List (S37) → Int → List (List Int) → Int → Int → List Int → Int → Int → List (List Int) → List (List Int) → Option ((List (S37)))
 | 0, _, _, _, _, _, _, _, _, _, _, _ => none
 | k + 1, x5, x6, x7, x21, x22, x23, x35, x36, x37, x307000, x307001 => if x37 < x36 then (if 0 ≤ x37 then (if x37 < (x35.length : Int) then ((dep_up.f k x5 x7 (rd x35 x37)).bind fun t314 => (if x6.length + t314.length < 5864062014805 then (dep_All.l1 k x5 (x6 ++ t314) x7 x21 x22 x23 x35 x36 (wrap64 (x37 + 1)) x307000 x307001) else (none))) else (none)) else (none)) else (dep_All.l0 k x5 x6 x21 x22 (wrap64 (x23 + 1)) x307000 x307001)
end
def dep_All.f (k : Nat) (l0_0 : List (List Int)) (l0_1 : List (List Int)) : Option ((List (S37))) := (pdom_Exit.f k l0_0 l0_1).bind fun bt299 => (if bt299.2.2 = 0 then ((pdom_Tree.f k l0_0 l0_1).bind fun t307 => (dep_All.l0 k t307 ([] : List (S37)) l0_0 (l0_0.length : Int) 0 bt299.1 bt299.2.1)) else (some ([] : List (S37))))
theorem dep_All.mono_l : ∀ k, (∀ y0 y1 y2 y3 y4 y5 y6, LeO (dep_All.l0 k y0 y1 y2 y3 y4 y5 y6) (dep_All.l0 (k + 1) y0 y1 y2 y3 y4 y5 y6)) ∧ (∀ y0 y1 y2 y3 y4 y5 y6 y7 y8 y9 y10, LeO (dep_All.l1 k y0 y1 y2 y3 y4 y5 y6 y7 y8 y9 y10) (dep_All.l1 (k + 1) y0 y1 y2 y3 y4 y5 y6 y7 y8 y9 y10))
 | 0 => ⟨fun _ _ _ _ _ _ _ r h => by simp [dep_All.l0] at h, fun _ _ _ _ _ _ _ _ _ _ _ r h => by simp [dep_All.l1] at h⟩
 | k + 1 => by
  obtain ⟨ih0, ih1⟩ := dep_All.mono_l k
  refine ⟨?_, ?_⟩
  ·intro y0 y1 y2 y3 y4 y5 y6
   unfold dep_All.l0
   repeat' (with_reducible first | exact ih0 _ _ _ _ _ _ _ | exact ih1 _ _ _ _ _ _ _ _ _ _ _ | exact dep_up.mono _ _ _ _ | exact pdom_Exit.mono _ _ _ | exact pdom_Tree.mono _ _ _ | exact LeO.refl _ | exact LeO.none _ | refine LeO.ite ?_ ?_ | refine LeO.bind ?_ (fun _ => ?_))
  ·intro y0 y1 y2 y3 y4 y5 y6 y7 y8 y9 y10
   unfold dep_All.l1
   repeat' (with_reducible first | exact ih0 _ _ _ _ _ _ _ | exact ih1 _ _ _ _ _ _ _ _ _ _ _ | exact dep_up.mono _ _ _ _ | exact pdom_Exit.mono _ _ _ | exact pdom_Tree.mono _ _ _ | exact LeO.refl _ | exact LeO.none _ | refine LeO.ite ?_ ?_ | refine LeO.bind ?_ (fun _ => ?_))
theorem dep_All.mono : ∀ a0 a1 k, LeO (dep_All.f k a0 a1) (dep_All.f (k + 1) a0 a1) := by
 intro a0 a1 k
 obtain ⟨ih0, ih1⟩ := dep_All.mono_l k
 unfold dep_All.f
 repeat' (with_reducible first | exact ih0 _ _ _ _ _ _ _ | exact ih1 _ _ _ _ _ _ _ _ _ _ _ | exact dep_up.mono _ _ _ _ | exact pdom_Exit.mono _ _ _ | exact pdom_Tree.mono _ _ _ | exact LeO.refl _ | exact LeO.none _ | refine LeO.ite ?_ ?_ | refine LeO.bind ?_ (fun _ => ?_))
set_option maxHeartbeats 8000000 in
set_option maxRecDepth 100000 in
theorem dep_All.calls (k : Nat) (A0_0 : Option Addr) (c0_0 : Nat) (l0_0 : List (List Int)) (A0_1 : Option Addr) (c0_1 : Nat) (l0_1 : List (List Int)) (r : List (S37)) (w : World) (hr0_0 : Kd.C (Kd.slice 3 (Kd.int .i64)) w A0_0 l0_0.length l0_0) (hc0_0 : l0_0.length ≤ c0_0) (hr0_1 : Kd.C (Kd.slice 3 (Kd.int .i64)) w A0_1 l0_1.length l0_1) (hc0_1 : l0_1.length ≤ c0_1) (h : dep_All.f k l0_0 l0_1 = some r) :
 Calls Try.prog 10 #[.agg #[.slice A0_0 l0_0.length c0_0, .slice A0_1 l0_1.length c0_1]] w fun e w' => ∃ v0_ : Value, e = .returned (v0_) ∧ Kd.R k37 37 w' w.heap.size (fun _ => True) v0_ r ∧ Below w.heap.size w w' := by
 have hu26 := Try.underlying26
 have HR0_0 := Aside0.mk hr0_0
 have HC0_0 := Aside0.mk hc0_0
 clear hr0_0 hc0_0
 have HR0_1 := Aside0.mk hr0_1
 have HC0_1 := Aside0.mk hc0_1
 clear hr0_1 hc0_1
 have HB := A_ (Below.refl w.heap.size w)
 have H : ((pdom_Exit.f k l0_0 l0_1).bind fun bt299 => (if bt299.2.2 = 0 then ((pdom_Tree.f k l0_0 l0_1).bind fun t307 => (dep_All.l0 k t307 ([] : List (S37)) l0_0 (l0_0.length : Int) 0 bt299.1 bt299.2.1)) else (some ([] : List (S37))))) = some r := h
 clear h
 replace H := Option.bind_eq_some_iff.mp H
 obtain ⟨⟨t299, t302, t305⟩, A20, H⟩ := H
 try dsimp only at H
 have A2 := Aside0.mk A20
 clear A20
 by_cases c3 : t305 = 0
 ·rw [if_pos c3] at H
  have c3b0 : (t305 == 0) = true := beq_iff_eq.mpr c3
  have c3b1 : (t305 != 0) = false := bne_eq_false_iff_eq.mpr c3
  clear c3
  replace H := Option.bind_eq_some_iff.mp H
  obtain ⟨t307, A40, H⟩ := H
  try dsimp only at H
  have A4 := Aside0.mk A40
  clear A40
  have H' := Aside0.mk H
  clear H
  go_enter Try.func10, Try.ntmps10
  go_wp2_with (first | ((with_reducible refine gate_dst (N := 1) rfl ?_); refine box_event ?hg (N := 1) ?hd (cs := #[.slice A0_0 l0_0.length c0_0, .slice A0_1 l0_1.length c0_1]) (t := 26) ?hr ?_; (case hd => rfl); (case hg => rfl); (case hr => first | (go_simp; done) | (go_simp; rfl)); intro gb298 hg w5 hbox hb; have BK298 := A_ (hbox); have GW298 := A_ ((by rw [hg]; exact (below_size (B_)) : w.heap.size ≤ gb298)); have GE298 := A_ ((by rw [hg]; exact (below_size (B_)) : w.heap.size ≤ gb298)); replace HB := A_ (below_step (B_) hb); clear hb hbox hg; have hcz6_0 : w5.cell? ⟨gb298, 0, none⟩ = some (.slice A0_0 l0_0.length c0_0) := (blk_cell BK298.out 0).trans rfl; have hcz6_1 : w5.cell? ⟨gb298, 1, none⟩ = some (.slice A0_1 l0_1.length c0_1) := (blk_cell BK298.out 1).trans rfl; have hfz6_0 := blk_frozen BK298.out 0; have hfz6_1 := blk_frozen BK298.out 1) | ((with_reducible refine gate_callee (f := 21) rfl ?_); refine goesL_ (some 13) rfl rfl Try.func21 (by kernel_rfl) rfl #[.agg #[.slice A0_0 l0_0.length c0_0, .slice A0_1 l0_1.length c0_1]] rfl (by (try simp only [List.map_toArray, List.map_cons, List.map_nil]); first | done | rfl | (simp only [List.length_drop, List.length_take]; rfl)) ?_; (with_reducible refine (pdom_Exit.calls k _ _ l0_0 _ _ l0_1 t299 t302 t305 _ ?side1 ?side2 ?side3 ?side4 A2.out).mono ?_); (case side1 => exact CX_ (Kd.C_below HR0_0.out HB.out)); (case side2 => exact HC0_0.out); (case side3 => exact CX_ (Kd.C_below HR0_1.out HB.out)); (case side4 => exact HC0_1.out); rintro e w7 ⟨v300, v303, rfl, ho0, ho1, hb⟩; refine ⟨_, rfl, ?_⟩; have HO301 := A_ (Kd.S_lower ho0 (below_size (B1_))); have HO304 := A_ (Kd.S_lower ho1 (below_size (B1_))); replace BK298 := A_ (blk_below (g := gb298) (o := .cells #[.slice A0_0 l0_0.length c0_0, .slice A0_1 l0_1.length c0_1] 26 (0, 0)) (by exact KX_ BK298.out) hb); replace HB := A_ (below_step (B1_) hb); (try clear hb); (try clear hb2); (try clear hk); (try clear hi); (try clear ho0); (try clear ho1)) | ((with_reducible refine gate_dst (N := 3) rfl ?_); refine box_event ?hg (N := 3) ?hd (cs := #[.slice none 0 0, .slice none 0 0]) (t := 26) ?hr ?_; (case hd => rfl); (case hg => rfl); (case hr => first | (go_simp; done) | (go_simp; rfl)); intro gb306 hg w8 hbox hb; replace HO301 := A_ (Kd.S_below (by exact SX_ HO301.out) hb); replace HO304 := A_ (Kd.S_below (by exact SX_ HO304.out) hb); have BK306 := A_ (hbox); have GW306 := A_ ((by rw [hg]; exact (below_size (B1_)) : w.heap.size ≤ gb306)); have GE306 := A_ ((by rw [hg]; exact (below_size (B1_)) : w.heap.size ≤ gb306)); replace HB := A_ (below_step (B1_) hb); have NB298_306 := A_ ((by rw [hg]; exact Nat.ne_of_lt (blk_lt (g := gb298) (o := .cells #[.slice A0_0 l0_0.length c0_0, .slice A0_1 l0_1.length c0_1] 26 (0, 0)) (by exact KX_ BK298.out)) : gb298 ≠ gb306)); have NB306_298 := A_ ((by rw [hg]; exact Nat.ne_of_gt (blk_lt (g := gb298) (o := .cells #[.slice A0_0 l0_0.length c0_0, .slice A0_1 l0_1.length c0_1] 26 (0, 0)) (by exact KX_ BK298.out)) : gb306 ≠ gb298)); replace BK298 := A_ (blk_below (g := gb298) (o := .cells #[.slice A0_0 l0_0.length c0_0, .slice A0_1 l0_1.length c0_1] 26 (0, 0)) (by exact KX_ BK298.out) hb); clear hb hbox hg; obtain ⟨Ao9, co9, eo9⟩ := Kd.S_slice HO301.out; subst eo9; have hnb10 := NB306_298.out; have hnc10 := NB298_306.out; have hcz11_0 : w8.cell? ⟨gb306, 0, none⟩ = some (.slice none 0 0) := (blk_cell BK306.out 0).trans rfl; have hcz11_1 : w8.cell? ⟨gb306, 1, none⟩ = some (.slice none 0 0) := (blk_cell BK306.out 1).trans rfl; have hfz11_0 := blk_frozen BK306.out 0; have hfz11_1 := blk_frozen BK306.out 1; obtain ⟨Ao12, co12, eo12⟩ := Kd.S_slice HO304.out; subst eo12; have hcz13_0 : w8.cell? ⟨gb298, 0, none⟩ = some (.slice A0_0 l0_0.length c0_0) := (blk_cell BK298.out 0).trans rfl; have hcz13_1 : w8.cell? ⟨gb298, 1, none⟩ = some (.slice A0_1 l0_1.length c0_1) := (blk_cell BK298.out 1).trans rfl; have hfz13_0 := blk_frozen BK298.out 0; have hfz13_1 := blk_frozen BK298.out 1) | ((with_reducible refine gate_callee (f := 22) rfl ?_); refine goesL_ (some 19) rfl rfl Try.func22 (by kernel_rfl) rfl #[.agg #[.slice A0_0 l0_0.length c0_0, .slice A0_1 l0_1.length c0_1]] rfl (by (try simp only [List.map_toArray, List.map_cons, List.map_nil]); first | done | rfl | (simp only [List.length_drop, List.length_take]; rfl)) ?_; (with_reducible refine (pdom_Tree.calls k _ _ l0_0 _ _ l0_1 t307 _ ?side1 ?side2 ?side3 ?side4 A4.out).mono ?_); (case side1 => exact Kd.C_below HR0_0.out (B1_)); (case side2 => exact HC0_0.out); (case side3 => exact Kd.C_below HR0_1.out (B1_)); (case side4 => exact HC0_1.out); rintro e w14 ⟨v308, rfl, ho0, hb⟩; refine ⟨_, rfl, ?_⟩; replace HO301 := A_ (Kd.S_elder' (by (with_reducible repeat (first | apply Kd.S_alloc | apply Kd.S_drewN | apply Kd.S_drew)); exact (Kd.S_mono (Kd.S_far (p := ⟨gb306, 1, none⟩) (Kd.S_far (p := ⟨gb306, 0, none⟩) (Kd.S_types HO301.out BK306.out (by decide)) (fun _ hk => hk.2) (.slice Ao9 t299.length co9)) (fun _ hk => hk.2) (.slice Ao12 t302.length co12)) (fun _ h_ => h_.1))) (Kd.R_base ho0) hb); replace HO304 := A_ (Kd.S_elder' (by (with_reducible repeat (first | apply Kd.S_alloc | apply Kd.S_drewN | apply Kd.S_drew)); exact (Kd.S_mono (Kd.S_far (p := ⟨gb306, 1, none⟩) (Kd.S_far (p := ⟨gb306, 0, none⟩) (Kd.S_types HO304.out BK306.out (by decide)) (fun _ hk => hk.2) (.slice Ao9 t299.length co9)) (fun _ hk => hk.2) (.slice Ao12 t302.length co12)) (fun _ h_ => h_.1))) (Kd.R_base ho0) hb); have HO309 := A_ (Kd.R_lower ho0 (below_size (B1_))); replace BK298 := A_ (blk_below (g := gb298) (o := .cells #[.slice A0_0 l0_0.length c0_0, .slice A0_1 l0_1.length c0_1] 26 (0, 0)) (by (with_reducible repeat (first | refine blk_drewN ?_ _ | refine blk_drew ?_ | refine blk_alloc ?_ _)); refine blk_far ?_ NB298_306.out _; (with_reducible repeat (first | refine blk_drewN ?_ _ | refine blk_drew ?_ | refine blk_alloc ?_ _)); refine blk_far ?_ NB298_306.out _; exact KX_ BK298.out) hb); replace BK306 := A_ (blk_below (g := gb306) (o := .cells #[.slice Ao9 t299.length co9, .slice Ao12 t302.length co12] 26 (0, 0)) (by (with_reducible repeat (first | refine blk_drewN ?_ _ | refine blk_drew ?_ | refine blk_alloc ?_ _)); refine blk_put (cs := #[.slice Ao9 t299.length co9, .slice none 0 0]) ?_ 1 _ rfl; (with_reducible repeat (first | refine blk_drewN ?_ _ | refine blk_drew ?_ | refine blk_alloc ?_ _)); refine blk_put (cs := #[.slice none 0 0, .slice none 0 0]) ?_ 0 _ rfl; exact KX_ BK306.out) hb); replace HB := A_ (below_step (B1_) hb); (try clear hb); (try clear hb2); (try clear hk); (try clear hi); (try clear ho0); have hcz15_0 : w14.cell? ⟨gb298, 0, none⟩ = some (.slice A0_0 l0_0.length c0_0) := (blk_cell BK298.out 0).trans rfl; have hcz15_1 : w14.cell? ⟨gb298, 1, none⟩ = some (.slice A0_1 l0_1.length c0_1) := (blk_cell BK298.out 1).trans rfl; have hfz15_0 := blk_frozen BK298.out 0; have hfz15_1 := blk_frozen BK298.out 1))
  go_loopg [6, 23] k (fun kq v6 v23 w' => ∃ (x6_1 : List (S37)) (x23_1 : Int), v23 = .int .i64 x23_1 ∧ Aside0 (dep_All.l0 kq t307 x6_1 l0_0 (l0_0.length : Int) x23_1 t299 t302 = some r) ∧ Aside0 (kq ≤ k) ∧ Aside0 (Kd.R (Kd.int .i64) 3 w' w.heap.size (fun _ => True) v308 t307) ∧ Aside0 (Kd.R k37 37 w' w.heap.size (fun _ => True) v6 x6_1) ∧ Aside0 (Kd.S (Kd.slice 3 (Kd.int .i64)) 31 w' w.heap.size (fun k_ => some k_ ≠ (v308 : Value).ownBlock ∧ some k_ ≠ ((.slice Ao12 t302.length co12) : Value).ownBlock) (.slice Ao9 t299.length co9) t299) ∧ Aside0 (Kd.S (Kd.slice 3 (Kd.int .i64)) 31 w' w.heap.size (fun k_ => some k_ ≠ (v308 : Value).ownBlock ∧ some k_ ≠ ((.slice Ao9 t299.length co9) : Value).ownBlock) (.slice Ao12 t302.length co12) t302) ∧ Aside0 (w'.heap[gb298]? = some (.cells #[(.slice A0_0 l0_0.length c0_0), (.slice A0_1 l0_1.length c0_1)] 26 (0, 0))) ∧ Aside0 (w'.heap[gb306]? = some (.cells #[(.slice Ao9 t299.length co9), (.slice Ao12 t302.length co12)] 26 (0, 0))) ∧ Aside0 (Below w.heap.size w w'))
  case atStart => exact ⟨(([] : List (S37))), (0), (by first | rfl | (simp; done) | (simp [*]; done)), H', ⟨Nat.le_refl _⟩, ⟨by exact RM_ HO309.out⟩, ⟨by first | exact Kd.R_nil _ _ _ _ _ | exact Kd.N_nil _ _ _ _ _ | exact Kd.V_nil _ _ _ _ _ | exact Kd.Q_nil _ _ _ _ _ | exact Kd.S_nil _ _ _ _ _⟩, ⟨by (with_reducible repeat (first | apply Kd.S_alloc | apply Kd.S_drewN | apply Kd.S_drew)); exact Kd.S_mono HO301.out (fun _ hk => ⟨hk.2, hk.1⟩)⟩, ⟨by (with_reducible repeat (first | apply Kd.S_alloc | apply Kd.S_drewN | apply Kd.S_drew)); exact Kd.S_mono HO304.out (fun _ hk => ⟨hk.2, hk.1⟩)⟩, ⟨by exact KX_ BK298.out⟩, ⟨by exact KX_ BK306.out⟩, ⟨B1_⟩⟩
  case round =>
   clear H'
   try clear c3b0
   try clear c3b1
   try clear hcz11_0
   try clear hcz11_1
   try clear hcz13_0
   try clear hcz13_1
   try clear hcz15_0
   try clear hcz15_1
   try clear hcz6_0
   try clear hcz6_1
   try clear hfz11_0
   try clear hfz11_1
   try clear hfz13_0
   try clear hfz13_1
   try clear hfz15_0
   try clear hfz15_1
   try clear hfz6_0
   try clear hfz6_1
   obtain ⟨x6_1, x23_1, rfl, HA, HK1, HO_5, HO_6, HO_307000, HO_307001, BK298, BK306, HB⟩ := hrel
   cases gk with
   | zero => exact absurd HA.out (by simp [dep_All.l0])
   | succ k1 =>
    have H := HA.out
    clear HA
    simp only [dep_All.l0] at H
    by_cases c16 : x23_1 < (l0_0.length : Int)
    ·rw [if_pos c16] at H
     have c16b0 : decide (x23_1 < (l0_0.length : Int)) = true := decide_eq_true c16
     clear c16
     by_cases c17 : 0 ≤ x23_1
     ·rw [if_pos c17] at H
      have c17b0 : decide (0 ≤ x23_1) = true := decide_eq_true c17
      clear c17
      by_cases c18 : x23_1 < (l0_0.length : Int)
      ·rw [if_pos c18] at H
       have c18b0 : decide (x23_1 < (l0_0.length : Int)) = true := decide_eq_true c18
       clear c18
       by_cases c19 : x23_1 < (t299.length : Int)
       ·rw [if_pos c19] at H
        have c19b0 : decide (x23_1 < (t299.length : Int)) = true := decide_eq_true c19
        clear c19
        by_cases c20 : ((rd_L1 t299 x23_1).length : Int) < 2
        ·rw [if_pos c20] at H
         have c20b0 : decide (((rd_L1 t299 x23_1).length : Int) < 2) = true := decide_eq_true c20
         have c20b1 : decide ((rd_L1 t299 x23_1).length < 2) = true := decide_eq_true (by omega)
         clear c20
         have H' := Aside0.mk H
         clear H
         have p311 : 0 ≤ (x23_1 : Int) := D_
         have q311 : x23_1 < (l0_0.length : Int) := D_
         obtain ⟨ad311, A311_0, c311_0, e311, hx311_0, hl311_0, hi311_0⟩ := at_L1 HR0_0.out x23_1 p311 q311
         cases e311
         replace hx311_0 := (HB.out.cell (World.block_lt_of_cell? w _ hx311_0)).trans hx311_0
         have HR311_0 := Aside0.mk hi311_0
         have HC311_0 := Aside0.mk hl311_0
         clear hi311_0 hl311_0
         replace p311 := eq_true p311
         replace q311 := eq_true q311
         have hnb21 := NB306_298.out
         have hnc21 := NB298_306.out
         have hcz22_0 : wr.cell? ⟨gb306, 0, none⟩ = some (.slice Ao9 t299.length co9) := (blk_cell BK306.out 0).trans rfl
         have hcz22_1 : wr.cell? ⟨gb306, 1, none⟩ = some (.slice Ao12 t302.length co12) := (blk_cell BK306.out 1).trans rfl
         have hfz22_0 := blk_frozen BK306.out 0
         have hfz22_1 := blk_frozen BK306.out 1
         have p312 : 0 ≤ (x23_1 : Int) := D_
         have q312 : x23_1 < (t299.length : Int) := D_
         obtain ⟨ad312, A312_0, c312_0, e312, hx312_0, hl312_0, hi312_0⟩ := at_L1 (Kd.S_reads' HO_307000.out).2.2 x23_1 p312 q312
         cases e312
         obtain ⟨ce312, hce312, hMe312, hcc312⟩ := Kd.S_get HO_307000.out [] x23_1 p312 (by first | exact q312 | exact D_ | (have e_ := (Kd.S_reads' HO_307000.out).1; omega))
         obtain ⟨ve312_0, rfl, ge312_0⟩ := hMe312
         have hv312_0 := hcc312 0 _ rfl
         rw [Nat.add_zero, show ((Kd.slice 3 (Kd.int .i64))).sz = 1 from rfl, Nat.mul_one] at hv312_0
         replace hv312_0 := Option.some.inj (hv312_0.symm.trans hx312_0)
         rw [hv312_0] at ge312_0
         have HL312_0 := A_ (show Kd.R (Kd.int .i64) 3 _ _ _ _ (rd_L1 t299 x23_1) from ge312_0)
         clear hv312_0 ge312_0
         clear hcc312 hce312
         have HR312_0 := Aside0.mk hi312_0
         have HC312_0 := Aside0.mk hl312_0
         clear hi312_0 hl312_0
         replace p312 := eq_true p312
         replace q312 := eq_true q312
         go_wp2
         go_roundg k1
         case measure => have := HK1.out; omega
         case rel => exact ⟨(x6_1), (wrap64 (x23_1 + 1)), (by first | rfl | (simp; done) | (simp [*]; done)), H', ⟨by have := HK1.out; omega⟩, ⟨by exact RM_ HO_5.out⟩, ⟨by exact RM_ HO_6.out⟩, ⟨by exact SM_ HO_307000.out⟩, ⟨by exact SM_ HO_307001.out⟩, ⟨by exact KX_ BK298.out⟩, ⟨by exact KX_ BK306.out⟩, ⟨B1_⟩⟩
        rw [if_neg c20] at H
        have c20b0 : decide (((rd_L1 t299 x23_1).length : Int) < 2) = false := decide_eq_false c20
        have c20b1 : decide ((rd_L1 t299 x23_1).length < 2) = false := decide_eq_false (by omega)
        clear c20
        have H' := Aside0.mk H
        clear H
        have p311 : 0 ≤ (x23_1 : Int) := D_
        have q311 : x23_1 < (l0_0.length : Int) := D_
        obtain ⟨ad311, A311_0, c311_0, e311, hx311_0, hl311_0, hi311_0⟩ := at_L1 HR0_0.out x23_1 p311 q311
        cases e311
        replace hx311_0 := (HB.out.cell (World.block_lt_of_cell? w _ hx311_0)).trans hx311_0
        have HR311_0 := Aside0.mk hi311_0
        have HC311_0 := Aside0.mk hl311_0
        clear hi311_0 hl311_0
        replace p311 := eq_true p311
        replace q311 := eq_true q311
        have hnb23 := NB306_298.out
        have hnc23 := NB298_306.out
        have hcz24_0 : wr.cell? ⟨gb306, 0, none⟩ = some (.slice Ao9 t299.length co9) := (blk_cell BK306.out 0).trans rfl
        have hcz24_1 : wr.cell? ⟨gb306, 1, none⟩ = some (.slice Ao12 t302.length co12) := (blk_cell BK306.out 1).trans rfl
        have hfz24_0 := blk_frozen BK306.out 0
        have hfz24_1 := blk_frozen BK306.out 1
        have p312 : 0 ≤ (x23_1 : Int) := D_
        have q312 : x23_1 < (t299.length : Int) := D_
        obtain ⟨ad312, A312_0, c312_0, e312, hx312_0, hl312_0, hi312_0⟩ := at_L1 (Kd.S_reads' HO_307000.out).2.2 x23_1 p312 q312
        cases e312
        obtain ⟨ce312, hce312, hMe312, hcc312⟩ := Kd.S_get HO_307000.out [] x23_1 p312 (by first | exact q312 | exact D_ | (have e_ := (Kd.S_reads' HO_307000.out).1; omega))
        obtain ⟨ve312_0, rfl, ge312_0⟩ := hMe312
        have hv312_0 := hcc312 0 _ rfl
        rw [Nat.add_zero, show ((Kd.slice 3 (Kd.int .i64))).sz = 1 from rfl, Nat.mul_one] at hv312_0
        replace hv312_0 := Option.some.inj (hv312_0.symm.trans hx312_0)
        rw [hv312_0] at ge312_0
        have HL312_0 := A_ (show Kd.R (Kd.int .i64) 3 _ _ _ _ (rd_L1 t299 x23_1) from ge312_0)
        clear hv312_0 ge312_0
        clear hcc312 hce312
        have HR312_0 := Aside0.mk hi312_0
        have HC312_0 := Aside0.mk hl312_0
        clear hi312_0 hl312_0
        replace p312 := eq_true p312
        replace q312 := eq_true q312
        go_wp2
        go_loopg [6, 37] k1 (fun kq v6 v37 w' => ∃ (x6_2 : List (S37)) (x37_2 : Int), v37 = .int .i64 x37_2 ∧ Aside0 (dep_All.l1 kq t307 x6_2 x23_1 l0_0 (l0_0.length : Int) x23_1 (rd_L1 l0_0 x23_1) ((rd_L1 l0_0 x23_1).length : Int) x37_2 t299 t302 = some r) ∧ Aside0 (kq ≤ k1) ∧ Aside0 (Kd.R (Kd.int .i64) 3 w' w.heap.size (fun _ => True) v308 t307) ∧ Aside0 (Kd.R k37 37 w' w.heap.size (fun _ => True) v6 x6_2) ∧ Aside0 (Kd.S (Kd.slice 3 (Kd.int .i64)) 31 w' w.heap.size (fun k_ => some k_ ≠ (v308 : Value).ownBlock ∧ some k_ ≠ ((.slice Ao12 t302.length co12) : Value).ownBlock) (.slice (some ad312) t299.length co9) t299) ∧ Aside0 (Kd.S (Kd.slice 3 (Kd.int .i64)) 31 w' w.heap.size (fun k_ => some k_ ≠ (v308 : Value).ownBlock ∧ some k_ ≠ ((.slice (some ad312) t299.length co9) : Value).ownBlock) (.slice Ao12 t302.length co12) t302) ∧ Aside0 (w'.heap[gb298]? = some (.cells #[(.slice (some ad311) l0_0.length c0_0), (.slice A0_1 l0_1.length c0_1)] 26 (0, 0))) ∧ Aside0 (w'.heap[gb306]? = some (.cells #[(.slice (some ad312) t299.length co9), (.slice Ao12 t302.length co12)] 26 (0, 0))) ∧ Aside0 (Below w.heap.size w w'))
        case atStart => exact ⟨(x6_1), (0), (by first | rfl | (simp; done) | (simp [*]; done)), H', ⟨Nat.le_refl _⟩, ⟨by exact RM_ HO_5.out⟩, ⟨by exact RM_ HO_6.out⟩, ⟨by exact SM_ HO_307000.out⟩, ⟨by exact SM_ HO_307001.out⟩, ⟨by exact KX_ BK298.out⟩, ⟨by exact KX_ BK306.out⟩, ⟨B1_⟩⟩
        case round =>
         clear H'
         try clear c16b0
         try clear c17b0
         try clear c18b0
         try clear c19b0
         try clear c20b0
         try clear c20b1
         try clear hcz24_0
         try clear hcz24_1
         try clear hfz24_0
         try clear hfz24_1
         try clear hx311_0
         try clear hx312_0
         try clear p311
         try clear p312
         try clear q311
         try clear q312
         obtain ⟨x6_2, x37_2, rfl, HA, HK2, HO_5, HO_6, HO_307000, HO_307001, BK298, BK306, HB⟩ := hrel
         cases gk with
         | zero => exact absurd HA.out (by simp [dep_All.l1])
         | succ k2 =>
          have H := HA.out
          clear HA
          simp only [dep_All.l1] at H
          by_cases c25 : x37_2 < ((rd_L1 l0_0 x23_1).length : Int)
          ·rw [if_pos c25] at H
           have c25b0 : decide (x37_2 < ((rd_L1 l0_0 x23_1).length : Int)) = true := decide_eq_true c25
           clear c25
           by_cases c26 : 0 ≤ x37_2
           ·rw [if_pos c26] at H
            have c26b0 : decide (0 ≤ x37_2) = true := decide_eq_true c26
            clear c26
            by_cases c27 : x37_2 < ((rd_L1 l0_0 x23_1).length : Int)
            ·rw [if_pos c27] at H
             have c27b0 : decide (x37_2 < ((rd_L1 l0_0 x23_1).length : Int)) = true := decide_eq_true c27
             clear c27
             replace H := Option.bind_eq_some_iff.mp H
             obtain ⟨t314, A280, H⟩ := H
             try dsimp only at H
             have A28 := Aside0.mk A280
             clear A280
             by_cases c29 : x6_2.length + t314.length < 5864062014805
             ·rw [if_pos c29] at H
              have LMc29 := Aside0.mk c29
              clear c29
              obtain ⟨y317, hy317⟩ : ∃ y_ : List (S37), y_ = (x6_2 ++ t314) := ⟨_, rfl⟩
              replace H : (dep_All.l1 k2 t307 y317 x23_1 l0_0 (l0_0.length : Int) x23_1 (rd_L1 l0_0 x23_1) ((rd_L1 l0_0 x23_1).length : Int) (wrap64 (x37_2 + 1)) t299 t302) = some r := by first | (rw [hy317]; with_reducible exact H) | (have H2_ := (Option.bind_some _ _).symm.trans H; rw [hy317]; with_reducible exact H2_) | (have H2_ := (Option.bind_some _ _).symm.trans H; with_reducible exact H2_) | with_reducible exact H | (rw [hy317]; exact H) | exact H
              have Ny317 := Aside0.mk hy317
              clear hy317
              have H' := Aside0.mk H
              clear H
              have p313 : 0 ≤ (x37_2 : Int) := D_
              have q313 : x37_2 < ((rd_L1 l0_0 x23_1).length : Int) := D_
              obtain ⟨ad313, e313, hx313_0⟩ := Kd.at_int HR311_0.out x37_2 p313 q313
              cases e313
              replace hx313_0 := (HB.out.cell (World.block_lt_of_cell? w _ hx313_0)).trans hx313_0
              replace p313 := eq_true p313
              replace q313 := eq_true q313
              obtain ⟨Ao30, co30, eo30⟩ := Kd.R_slice HO_5.out
              subst eo30
              go_wp2_with (first | ((with_reducible refine gate_callee (f := 23) rfl ?_); refine goesL_ (some 45) rfl rfl Try.func23 (by kernel_rfl) rfl #[.slice Ao30 t307.length co30, .int .i64 x23_1, .int .i64 (rd (rd_L1 l0_0 x23_1) x37_2)] rfl (by (try simp only [List.map_toArray, List.map_cons, List.map_nil]); first | done | rfl | (simp only [List.length_drop, List.length_take]; rfl)) ?_; (with_reducible refine (dep_up.calls k2 _ _ t307 x23_1 (rd (rd_L1 l0_0 x23_1) x37_2) t314 _ ?side1 ?side2 A28.out).mono ?_); (case side1 => repeat (first | exact (Kd.R_reads' HO_5.out).2.2 | (with_reducible refine Kd.C_alloc ?_ _) | (with_reducible refine Kd.C_drewN ?_ _) | (with_reducible refine Kd.C_drew ?_))); (case side2 => exact (Kd.R_reads' HO_5.out).2.1); rintro e w31 ⟨v315, rfl, ho0, hb⟩; refine ⟨_, rfl, ?_⟩; replace HO_5 := A_ (Kd.R_below (by exact RX_ HO_5.out) hb); replace HO_307000 := A_ (Kd.S_below (by exact SX_ HO_307000.out) hb); replace HO_307001 := A_ (Kd.S_below (by exact SX_ HO_307001.out) hb); have HO316 := A_ (Kd.R_lower (Kd.R_new' ho0 (Kd.R_lt (by exact RX_ HO_6.out))) (below_size (B1_))); replace HO_6 := A_ (Kd.R_elder' (by exact RX_ HO_6.out) (Kd.R_base ho0) hb); replace BK298 := A_ (blk_below (g := gb298) (o := .cells #[.slice (some ad311) l0_0.length c0_0, .slice A0_1 l0_1.length c0_1] 26 (0, 0)) (by exact KX_ BK298.out) hb); replace BK306 := A_ (blk_below (g := gb306) (o := .cells #[.slice (some ad312) t299.length co9, .slice Ao12 t302.length co12] 26 (0, 0)) (by exact KX_ BK306.out) hb); replace HB := A_ (below_step (B1_) hb); (try clear hb); (try clear hb2); (try clear hk); (try clear hi); (try clear ho0); obtain ⟨Ao33, co33, eo33⟩ := Kd.R_slice HO316.out; subst eo33) | ((with_reducible refine gate_builtin (b := .append) (xs := #[.tmp 41, .tmp 45]) rfl ?_); at_builtin; refine Kd.R_append_rows k37 (w0 := w) w.heap.size rfl (.tmp 41) (.tmp 45) 28 37 (.agg #[(.int .i64 0), (.int .i64 0), (.int .i64 0)]) 24 rfl Try.underlying28 info37 rfl (by decide) (by omega) u6 x6_2 t314 _ _ _ (fun k_ => some k_ ≠ (.slice Ao33 t314.length co33 : Value).ownBlock) (fun _ => False) rfl rfl ?aO ?aR (fun _ _ h => h) (fun _ h => h.elim) ?aF ?aB ?aS ?aL ?_; (case aR => repeat (first | exact (Kd.R_reads' HO316.out).2.2 | (with_reducible refine Kd.C_alloc ?_ _) | (with_reducible refine Kd.C_drewN ?_ _) | (with_reducible refine Kd.C_drew ?_))); (case aB => exact (B1_)); (case aF => exact (fun k_ hk => Kd.fresh' (Kd.R_lt (by exact RX_ HO316.out)) k_ hk)); (case aO => exact (by (with_reducible repeat (first | apply Kd.R_alloc | apply Kd.R_drewN | apply Kd.R_drew)); exact Kd.R_mono HO_6.out (fun _ hk => by first | exact hk.2 | exact hk | exact ⟨hk.1, hk.2⟩ | simp_all))); (case aS => exact (below_size (B1_))); (case aL => have := LMc29.out; omega); intro v318 w32 ho hb hg hat; rw [← Ny317.out] at ho; replace HO_5 := A_ (Kd.R_over' (by exact RX_ HO_5.out) (Kd.R_typed (by exact RX_ HO_6.out)) (by decide) hg); replace HO_307000 := A_ (Kd.S_over' (by exact SX_ HO_307000.out) (Kd.R_typed (by exact RX_ HO_6.out)) (by decide) hg); replace HO_307001 := A_ (Kd.S_over' (by exact SX_ HO_307001.out) (Kd.R_typed (by exact RX_ HO_6.out)) (by decide) hg); replace BK298 := A_ (blk_grown (g := gb298) (o := .cells #[.slice (some ad311) l0_0.length c0_0, .slice A0_1 l0_1.length c0_1] 26 (0, 0)) (by exact KX_ BK298.out) hg (Kd.R_ne HO_6.out BK298.out (by decide))); replace BK306 := A_ (blk_grown (g := gb306) (o := .cells #[.slice (some ad312) t299.length co9, .slice Ao12 t302.length co12] 26 (0, 0)) (by exact KX_ BK306.out) hg (Kd.R_ne HO_6.out BK306.out (by decide))); replace HO316 := A_ (Kd.R_after (ok := (fun _ => True)) (by exact RX_ HO316.out) hg hat); replace HB := A_ (hb); have HO319 := A_ (ho); clear HO_6; clear ho hb hg hat))
              go_roundg k2
              case measure => have := HK1.out; have := HK2.out; omega
              case rel => exact ⟨(y317), (wrap64 (x37_2 + 1)), (by first | rfl | (simp; done) | (simp [*]; done)), H', ⟨by have := HK1.out; have := HK2.out; omega⟩, ⟨by exact RM_ HO_5.out⟩, ⟨by (with_reducible repeat (first | apply Kd.R_alloc | apply Kd.R_drewN | apply Kd.R_drew)); exact Kd.R_mono HO319.out (fun _ hk => trivial)⟩, ⟨by exact SM_ HO_307000.out⟩, ⟨by exact SM_ HO_307001.out⟩, ⟨by exact KX_ BK298.out⟩, ⟨by exact KX_ BK306.out⟩, ⟨B1_⟩⟩
             rw [if_neg c29] at H
             exact absurd H (by simp)
            rw [if_neg c27] at H
            exact absurd H (by simp)
           rw [if_neg c26] at H
           exact absurd H (by simp)
          rw [if_neg c25] at H
          have c25b0 : decide (x37_2 < ((rd_L1 l0_0 x23_1).length : Int)) = false := decide_eq_false c25
          clear c25
          have H' := Aside0.mk H
          clear H
          go_wp2
          go_roundg k2
          case measure => have := HK1.out; have := HK2.out; omega
          case rel => exact ⟨(x6_2), (wrap64 (x23_1 + 1)), (by first | rfl | (simp; done) | (simp [*]; done)), H', ⟨by have := HK1.out; have := HK2.out; omega⟩, ⟨by exact RM_ HO_5.out⟩, ⟨by exact RM_ HO_6.out⟩, ⟨by exact SM_ HO_307000.out⟩, ⟨by exact SM_ HO_307001.out⟩, ⟨by exact KX_ BK298.out⟩, ⟨by exact KX_ BK306.out⟩, ⟨B1_⟩⟩
       rw [if_neg c19] at H
       exact absurd H (by simp)
      rw [if_neg c18] at H
      exact absurd H (by simp)
     rw [if_neg c17] at H
     exact absurd H (by simp)
    rw [if_neg c16] at H
    have c16b0 : decide (x23_1 < (l0_0.length : Int)) = false := decide_eq_false c16
    clear c16
    replace H := Option.bind_eq_some_iff.mp H
    obtain ⟨t310, A340, H⟩ := H
    try dsimp only at H
    have A34 := Aside0.mk A340
    clear A340
    obtain rfl := Option.some.inj H
    obtain ⟨Ao35, co35, eo35⟩ := Kd.R_slice HO_6.out
    subst eo35
    go_wp2_with (first | ((with_reducible refine gate_callee (f := 24) rfl ?_); refine goesL_ (some 50) rfl rfl Try.func24 (by kernel_rfl) rfl #[.slice Ao35 x6_1.length co35, .func (.func 25) #[] #[]] rfl (by (try simp only [List.map_toArray, List.map_cons, List.map_nil]); first | done | rfl | (simp only [List.length_drop, List.length_take]; rfl)) ?_; (with_reducible refine (api_Dep_dep_compare.calls (fun k_ => some k_ = (.slice Ao35 x6_1.length co35 : Value).ownBlock) (.slice Ao35 x6_1.length co35) x6_1  t310 w _ ?side1 ?side2 A34.out).mono ?_); (case side1 => repeat (first | (with_reducible first | exact HB.out | apply below_alloc | apply pw_below_drewN | apply below_drew1 | refine below_set ?_ GE298.out | refine below_set ?_ GE306.out) | exact HB.out)); (case side2 => exact Kd.R_tight rfl HO_6.out); rintro e w36 ⟨rfl, hy0, hb, hkp⟩; refine ⟨_, rfl, ?_⟩; replace HO_5 := A_ (Kd.R_mono (ok' := fun k_ => True) (Kd.R_keptB ((Kd.R_apart' HO_5.out (Kd.R_typed HO_6.out) (by decide))) hkp (fun k_ hk_ hs_ => (hk_.2) hs_)) (fun k_ hk_ => trivial)); replace HO_307000 := A_ (Kd.S_mono (ok' := fun k_ => some k_ ≠ (v308 : Value).ownBlock ∧ some k_ ≠ (.slice Ao12 t302.length co12 : Value).ownBlock) (Kd.S_keptB ((Kd.S_apart' HO_307000.out (Kd.R_typed HO_6.out) (by decide))) hkp (fun k_ hk_ hs_ => (hk_.2) hs_)) (fun k_ hk_ => ⟨hk_.1.1.1, hk_.1.1.2⟩)); replace HO_307001 := A_ (Kd.S_mono (ok' := fun k_ => some k_ ≠ (v308 : Value).ownBlock ∧ some k_ ≠ (.slice Ao9 t299.length co9 : Value).ownBlock) (Kd.S_keptB ((Kd.S_apart' HO_307001.out (Kd.R_typed HO_6.out) (by decide))) hkp (fun k_ hk_ hs_ => (hk_.2) hs_)) (fun k_ hk_ => ⟨hk_.1.1.1, hk_.1.1.2⟩)); replace BK298 := A_ (blk_kept (by exact KX_ BK298.out) hkp (fun hs_ => (fun e_ => (Kd.R_ne HO_6.out BK298.out (by decide)) e_) hs_)); replace BK306 := A_ (blk_kept (by exact KX_ BK306.out) hkp (fun hs_ => (fun e_ => (Kd.R_ne HO_6.out BK306.out (by decide)) e_) hs_)); replace HO_6 := A_ (Kd.R_reok rfl hy0 (fun k_ e_ => HO_6.out.1 k_ e_)); replace HB := A_ (hb); (try clear hb); (try clear hkp); (try clear hy0)))
    go_ret
    exact ⟨_, by first | rfl | (simp [errW_none, errW_some] <;> rfl) | (simp [*, errW_none, errW_some] <;> rfl), by exact RX_ HO_6.out, B1_⟩
 rw [if_neg c3] at H
 have c3b0 : (t305 == 0) = false := beq_eq_false_iff_ne.mpr c3
 have c3b1 : (t305 != 0) = true := bne_iff_ne.mpr c3
 obtain rfl := Option.some.inj H
 go_enter Try.func10, Try.ntmps10
 go_wp2_with (first | ((with_reducible refine gate_dst (N := 1) rfl ?_); refine box_event ?hg (N := 1) ?hd (cs := #[.slice A0_0 l0_0.length c0_0, .slice A0_1 l0_1.length c0_1]) (t := 26) ?hr ?_; (case hd => rfl); (case hg => rfl); (case hr => first | (go_simp; done) | (go_simp; rfl)); intro gb298 hg w37 hbox hb; have BK298 := A_ (hbox); have GW298 := A_ ((by rw [hg]; exact (below_size (B_)) : w.heap.size ≤ gb298)); have GE298 := A_ ((by rw [hg]; exact (below_size (B_)) : w.heap.size ≤ gb298)); replace HB := A_ (below_step (B_) hb); clear hb hbox hg; have hcz38_0 : w37.cell? ⟨gb298, 0, none⟩ = some (.slice A0_0 l0_0.length c0_0) := (blk_cell BK298.out 0).trans rfl; have hcz38_1 : w37.cell? ⟨gb298, 1, none⟩ = some (.slice A0_1 l0_1.length c0_1) := (blk_cell BK298.out 1).trans rfl; have hfz38_0 := blk_frozen BK298.out 0; have hfz38_1 := blk_frozen BK298.out 1) | ((with_reducible refine gate_callee (f := 21) rfl ?_); refine goesL_ (some 13) rfl rfl Try.func21 (by kernel_rfl) rfl #[.agg #[.slice A0_0 l0_0.length c0_0, .slice A0_1 l0_1.length c0_1]] rfl (by (try simp only [List.map_toArray, List.map_cons, List.map_nil]); first | done | rfl | (simp only [List.length_drop, List.length_take]; rfl)) ?_; (with_reducible refine (pdom_Exit.calls k _ _ l0_0 _ _ l0_1 t299 t302 t305 _ ?side1 ?side2 ?side3 ?side4 A2.out).mono ?_); (case side1 => exact CX_ (Kd.C_below HR0_0.out HB.out)); (case side2 => exact HC0_0.out); (case side3 => exact CX_ (Kd.C_below HR0_1.out HB.out)); (case side4 => exact HC0_1.out); rintro e w39 ⟨v300, v303, rfl, ho0, ho1, hb⟩; refine ⟨_, rfl, ?_⟩; have HO301 := A_ (Kd.S_lower ho0 (below_size (B1_))); have HO304 := A_ (Kd.S_lower ho1 (below_size (B1_))); replace BK298 := A_ (blk_below (g := gb298) (o := .cells #[.slice A0_0 l0_0.length c0_0, .slice A0_1 l0_1.length c0_1] 26 (0, 0)) (by exact KX_ BK298.out) hb); replace HB := A_ (below_step (B1_) hb); (try clear hb); (try clear hb2); (try clear hk); (try clear hi); (try clear ho0); (try clear ho1)) | ((with_reducible refine gate_dst (N := 3) rfl ?_); refine box_event ?hg (N := 3) ?hd (cs := #[.slice none 0 0, .slice none 0 0]) (t := 26) ?hr ?_; (case hd => rfl); (case hg => rfl); (case hr => first | (go_simp; done) | (go_simp; rfl)); intro gb306 hg w40 hbox hb; replace HO301 := A_ (Kd.S_below (by exact SX_ HO301.out) hb); replace HO304 := A_ (Kd.S_below (by exact SX_ HO304.out) hb); have BK306 := A_ (hbox); have GW306 := A_ ((by rw [hg]; exact (below_size (B1_)) : w.heap.size ≤ gb306)); have GE306 := A_ ((by rw [hg]; exact (below_size (B1_)) : w.heap.size ≤ gb306)); replace HB := A_ (below_step (B1_) hb); have NB298_306 := A_ ((by rw [hg]; exact Nat.ne_of_lt (blk_lt (g := gb298) (o := .cells #[.slice A0_0 l0_0.length c0_0, .slice A0_1 l0_1.length c0_1] 26 (0, 0)) (by exact KX_ BK298.out)) : gb298 ≠ gb306)); have NB306_298 := A_ ((by rw [hg]; exact Nat.ne_of_gt (blk_lt (g := gb298) (o := .cells #[.slice A0_0 l0_0.length c0_0, .slice A0_1 l0_1.length c0_1] 26 (0, 0)) (by exact KX_ BK298.out)) : gb306 ≠ gb298)); replace BK298 := A_ (blk_below (g := gb298) (o := .cells #[.slice A0_0 l0_0.length c0_0, .slice A0_1 l0_1.length c0_1] 26 (0, 0)) (by exact KX_ BK298.out) hb); clear hb hbox hg; obtain ⟨Ao41, co41, eo41⟩ := Kd.S_slice HO301.out; subst eo41; have hnb42 := NB306_298.out; have hnc42 := NB298_306.out; have hcz43_0 : w40.cell? ⟨gb306, 0, none⟩ = some (.slice none 0 0) := (blk_cell BK306.out 0).trans rfl; have hcz43_1 : w40.cell? ⟨gb306, 1, none⟩ = some (.slice none 0 0) := (blk_cell BK306.out 1).trans rfl; have hfz43_0 := blk_frozen BK306.out 0; have hfz43_1 := blk_frozen BK306.out 1; obtain ⟨Ao44, co44, eo44⟩ := Kd.S_slice HO304.out; subst eo44))
 go_ret
 exact ⟨_, by first | rfl | (simp [errW_none, errW_some] <;> rfl) | (simp [*, errW_none, errW_some] <;> rfl), by first | exact Kd.R_nil _ _ _ _ _ | exact Kd.N_nil _ _ _ _ _ | exact Kd.V_nil _ _ _ _ _ | exact Kd.Q_nil _ _ _ _ _ | exact Kd.S_nil _ _ _ _ _, B1_⟩

end Go.Proofs.Ytheillkpgmpnlaa.G
