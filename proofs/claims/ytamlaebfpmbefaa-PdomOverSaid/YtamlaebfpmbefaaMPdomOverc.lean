/- Texts of this session, joined by wip/tools/merge.py. Conditions: each theorem's own. -/
import Derived.Test.YtamlaebfpmbefaaGx0
import Derived.Test.YtamlaebfpmbefaaMPdomOvere
import Derived.Test.YtamlaebfpmbefaaMPdomOverd
import Derived.Test.YtamlaebfpmbefaaGx19
import Derived.Test.YtamlaebfpmbefaaGx22
namespace Go.Proofs.Ytamlaebfpmbefaa.G
open Go.Proofs.YtamlaebfpmbefaaH
open Go.RowKit Go.Proofs.YtamlaebfpmbefaaW.PrintWords Go.Proofs.YtamlaebfpmbefaaW.PrintLast Go.Proofs.YtamlaebfpmbefaaW.PrintMore
attribute [local go_sem] max2_int min2_int max_two min_two max_three min_three max_four min_four   -- for this text's walks alone
set_option linter.unusedVariables false
set_option linter.unusedSimpArgs false

/-! ### graph_Turned: function 23 -/
def graph_Turned.f (k : Nat) (l0_0 : List (List Int)) (l0_1 : List (List Int)) : Option ((List (List Int)) × (List (List Int))) := (graph_May.f k l0_0 l0_1).bind fun t242 => (if t242 = true then ((graph_Make.f k l0_1).bind fun bt243 => (some (bt243.1, bt243.2.1))) else (some (([] : List (List Int)), ([] : List (List Int)))))
theorem graph_Turned.mono : ∀ a0 a1 k, LeO (graph_Turned.f k a0 a1) (graph_Turned.f (k + 1) a0 a1) := by
 intro a0 a1 k
 unfold graph_Turned.f
 repeat' first
  | (with_reducible exact graph_Make.mono _ _)
  | (with_reducible exact graph_May.mono _ _ _)
  | (with_reducible exact LeO.refl _)
  | (with_reducible exact LeO.none _)
  | (with_reducible refine LeO.ite ?_ ?_)
  | (with_reducible refine LeO.bind ?_ (fun _ => ?_))
  | exact graph_Make.mono _ _
  | exact graph_May.mono _ _ _
  | exact LeO.none _
  | refine LeO.ite ?_ ?_
  | refine LeO.bind ?_ (fun _ => ?_)
set_option maxHeartbeats 8000000 in
set_option maxRecDepth 100000 in
theorem graph_Turned.calls (k : Nat) (A0_0 : Option Addr) (c0_0 : Nat) (l0_0 : List (List Int)) (A0_1 : Option Addr) (c0_1 : Nat) (l0_1 : List (List Int)) (r1 : List (List Int)) (r2 : List (List Int)) (w : World) (hr0_0 : Kd.C (Kd.slice 3 (Kd.int .i64)) w A0_0 l0_0.length l0_0) (hc0_0 : l0_0.length ≤ c0_0) (hr0_1 : Kd.C (Kd.slice 3 (Kd.int .i64)) w A0_1 l0_1.length l0_1) (hc0_1 : l0_1.length ≤ c0_1) (h : graph_Turned.f k l0_0 l0_1 = some (r1, r2)) :
 Calls Try.prog 23 #[.agg #[.slice A0_0 l0_0.length c0_0, .slice A0_1 l0_1.length c0_1]] w fun e w' => ∃ v0_ v1_ : Value, e = .returned (.agg #[v0_, v1_]) ∧ Kd.S (Kd.slice 3 (Kd.int .i64)) 30 w' w.heap.size (fun k_ => some k_ ≠ (v1_ : Value).ownBlock) v0_ r1 ∧ Kd.S (Kd.slice 3 (Kd.int .i64)) 30 w' w.heap.size (fun k_ => some k_ ≠ (v0_ : Value).ownBlock) v1_ r2 ∧ Below w.heap.size w w' := by
 have hu26 := Try.underlying26
 have HR0_0 := Aside0.mk hr0_0
 have HC0_0 := Aside0.mk hc0_0
 clear hr0_0 hc0_0
 have HR0_1 := Aside0.mk hr0_1
 have HC0_1 := Aside0.mk hc0_1
 clear hr0_1 hc0_1
 have HB := Aside0.mk (Below.refl w.heap.size w)
 have H : ((graph_May.f k l0_0 l0_1).bind fun t242 => (if t242 = true then ((graph_Make.f k l0_1).bind fun bt243 => (some (bt243.1, bt243.2.1))) else (some (([] : List (List Int)), ([] : List (List Int)))))) = some (r1, r2) := h
 clear h
 replace H := Option.bind_eq_some_iff.mp H
 obtain ⟨t242, A20, H⟩ := H
 replace H : (if t242 = true then ((graph_Make.f k l0_1).bind fun bt243 => (some (bt243.1, bt243.2.1))) else (some (([] : List (List Int)), ([] : List (List Int))))) = some (r1, r2) := H
 have A2 := Aside0.mk A20
 clear A20
 by_cases c3 : t242 = true
 ·subst c3
  have H1 : ((graph_Make.f k l0_1).bind fun bt243 => (some (bt243.1, bt243.2.1))) = some (r1, r2) := by rw [if_pos rfl] at H; exact H
  clear H
  have H := H1
  clear H1
  replace H := Option.bind_eq_some_iff.mp H
  obtain ⟨⟨t243, t246, t249⟩, A40, H⟩ := H
  replace H : (some (t243, t246)) = some (r1, r2) := H
  have A4 := Aside0.mk A40
  clear A40
  simp only [Option.some.injEq, Prod.mk.injEq] at H
  obtain ⟨rfl, rfl⟩ := H
  go_enter Try.func23, Try.ntmps23
  go_wp2_with (first | ((with_reducible refine gate_dst (N := 1) rfl ?_); refine box_event ?hg (N := 1) ?hd (cs := #[.slice A0_0 l0_0.length c0_0, .slice A0_1 l0_1.length c0_1]) (t := 26) ?hr ?_; (case hd => rfl); (case hg => rfl); (case hr => first | (go_simp; done) | (go_simp; rfl)); intro gb240 hg w5 hbox hb; have n0_ := Aside0.mk (below_step (B_) hb); have n1_ := Aside0.mk (hbox); have n2_ := Aside0.mk ((by rw [hg]; exact (below_size (B_)) : w.heap.size ≤ gb240)); have n3_ := Aside0.mk ((by rw [hg]; exact (below_size (B_)) : w.heap.size ≤ gb240)); clear HB; have HB := n0_; have BK240 := n1_; have GW240 := n2_; have GE240 := n3_; clear n0_ n1_ n2_ n3_; clear hb hbox hg) | ((with_reducible refine gate_dst (N := 2) rfl ?_); refine box_event ?hg (N := 2) ?hd (cs := #[.slice none 0 0, .slice none 0 0]) (t := 26) ?hr ?_; (case hd => rfl); (case hg => rfl); (case hr => first | (go_simp; done) | (go_simp; rfl)); intro gb241 hg w6 hbox hb; have n0_ := Aside0.mk (blk_below (g := gb240) (o := .cells #[.slice A0_0 l0_0.length c0_0, .slice A0_1 l0_1.length c0_1] 26 (0, 0)) (by exact KX_ BK240.out) hb); have n1_ := Aside0.mk (below_step (B1_) hb); have n2_ := Aside0.mk (hbox); have n3_ := Aside0.mk ((by rw [hg]; exact (below_size (B1_)) : w.heap.size ≤ gb241)); have n4_ := Aside0.mk ((by rw [hg]; exact (below_size (B1_)) : w.heap.size ≤ gb241)); have n5_ := Aside0.mk ((by rw [hg]; exact Nat.ne_of_lt (blk_lt (g := gb240) (o := .cells #[.slice A0_0 l0_0.length c0_0, .slice A0_1 l0_1.length c0_1] 26 (0, 0)) (by exact KX_ BK240.out)) : gb240 ≠ gb241)); have n6_ := Aside0.mk ((by rw [hg]; exact Nat.ne_of_gt (blk_lt (g := gb240) (o := .cells #[.slice A0_0 l0_0.length c0_0, .slice A0_1 l0_1.length c0_1] 26 (0, 0)) (by exact KX_ BK240.out)) : gb241 ≠ gb240)); clear BK240; clear HB; have BK240 := n0_; have HB := n1_; have BK241 := n2_; have GW241 := n3_; have GE241 := n4_; have NB240_241 := n5_; have NB241_240 := n6_; clear n0_ n1_ n2_ n3_ n4_ n5_ n6_; clear hb hbox hg; have hnb7 := NB240_241.out; have hnc7 := NB241_240.out; have hcz8_0 : w6.cell? ⟨gb240, 0, none⟩ = some (.slice A0_0 l0_0.length c0_0) := (blk_cell BK240.out 0).trans rfl; have hcz8_1 : w6.cell? ⟨gb240, 1, none⟩ = some (.slice A0_1 l0_1.length c0_1) := (blk_cell BK240.out 1).trans rfl; have hfz8_0 := blk_frozen BK240.out 0; have hfz8_1 := blk_frozen BK240.out 1) | ((with_reducible refine gate_callee (f := 24) rfl ?_); refine goesL_ (some 6) rfl rfl Try.func24 (by kernel_rfl) rfl #[.agg #[.slice A0_0 l0_0.length c0_0, .slice A0_1 l0_1.length c0_1]] rfl (by (try simp only [List.map_toArray, List.map_cons, List.map_nil]); first | done | rfl | (simp only [List.length_drop, List.length_take]; rfl)) ?_; (with_reducible refine (graph_May.calls k _ _ l0_0 _ _ l0_1 true _ ?side1 ?side2 ?side3 ?side4 A2.out).mono ?_); (case side1 => exact CX_ (Kd.C_below HR0_0.out HB.out)); (case side2 => exact HC0_0.out); (case side3 => exact CX_ (Kd.C_below HR0_1.out HB.out)); (case side4 => exact HC0_1.out); rintro e w9 ⟨rfl, hb⟩; refine ⟨_, rfl, ?_⟩; have n0_ := Aside0.mk (blk_below (g := gb240) (o := .cells #[.slice A0_0 l0_0.length c0_0, .slice A0_1 l0_1.length c0_1] 26 (0, 0)) (by exact KX_ BK240.out) hb); have n1_ := Aside0.mk (blk_below (g := gb241) (o := .cells #[.slice none 0 0, .slice none 0 0] 26 (0, 0)) (by exact KX_ BK241.out) hb); have n2_ := Aside0.mk (below_step (B1_) hb); clear BK240; clear BK241; clear HB; have BK240 := n0_; have BK241 := n1_; have HB := n2_; clear n0_ n1_ n2_; (try clear hb); (try clear hb2); (try clear hk); (try clear hi); have hcz10_0 : w9.cell? ⟨gb240, 0, none⟩ = some (.slice A0_0 l0_0.length c0_0) := (blk_cell BK240.out 0).trans rfl; have hcz10_1 : w9.cell? ⟨gb240, 1, none⟩ = some (.slice A0_1 l0_1.length c0_1) := (blk_cell BK240.out 1).trans rfl; have hfz10_0 := blk_frozen BK240.out 0; have hfz10_1 := blk_frozen BK240.out 1) | ((with_reducible refine gate_callee (f := 9) rfl ?_); refine goesL_ (some 12) rfl rfl Try.func9 (by kernel_rfl) rfl #[.slice A0_1 l0_1.length c0_1] rfl (by (try simp only [List.map_toArray, List.map_cons, List.map_nil]); first | done | rfl | (simp only [List.length_drop, List.length_take]; rfl)) ?_; (with_reducible refine (graph_Make.calls k _ _ l0_1 t243 t246 t249 _ ?side1 ?side2 A4.out).mono ?_); (case side1 => exact CX_ (Kd.C_below HR0_1.out HB.out)); (case side2 => exact HC0_1.out); rintro e w11 ⟨v244, v247, rfl, ho0, ho1, hb⟩; refine ⟨_, rfl, ?_⟩; have n0_ := Aside0.mk (Kd.S_lower ho0 (below_size (B1_))); have n1_ := Aside0.mk (Kd.S_lower ho1 (below_size (B1_))); have n2_ := Aside0.mk (blk_below (g := gb240) (o := .cells #[.slice A0_0 l0_0.length c0_0, .slice A0_1 l0_1.length c0_1] 26 (0, 0)) (by exact KX_ BK240.out) hb); have n3_ := Aside0.mk (blk_below (g := gb241) (o := .cells #[.slice none 0 0, .slice none 0 0] 26 (0, 0)) (by exact KX_ BK241.out) hb); have n4_ := Aside0.mk (below_step (B1_) hb); clear BK240; clear BK241; clear HB; have HO245 := n0_; have HO248 := n1_; have BK240 := n2_; have BK241 := n3_; have HB := n4_; clear n0_ n1_ n2_ n3_ n4_; (try clear hb); (try clear hb2); (try clear hk); (try clear hi); (try clear ho0); (try clear ho1)) | ((with_reducible refine gate_dst (N := 3) rfl ?_); refine box_event ?hg (N := 3) ?hd (cs := #[.slice none 0 0, .slice none 0 0]) (t := 26) ?hr ?_; (case hd => rfl); (case hg => rfl); (case hr => first | (go_simp; done) | (go_simp; rfl)); intro gb250 hg w12 hbox hb; have n0_ := Aside0.mk (Kd.S_below (by exact SX_ HO245.out) hb); have n1_ := Aside0.mk (Kd.S_below (by exact SX_ HO248.out) hb); have n2_ := Aside0.mk (blk_below (g := gb240) (o := .cells #[.slice A0_0 l0_0.length c0_0, .slice A0_1 l0_1.length c0_1] 26 (0, 0)) (by exact KX_ BK240.out) hb); have n3_ := Aside0.mk (blk_below (g := gb241) (o := .cells #[.slice none 0 0, .slice none 0 0] 26 (0, 0)) (by exact KX_ BK241.out) hb); have n4_ := Aside0.mk (below_step (B1_) hb); have n5_ := Aside0.mk (hbox); have n6_ := Aside0.mk ((by rw [hg]; exact (below_size (B1_)) : w.heap.size ≤ gb250)); have n7_ := Aside0.mk ((by rw [hg]; exact (below_size (B1_)) : w.heap.size ≤ gb250)); have n8_ := Aside0.mk ((by rw [hg]; exact Nat.ne_of_lt (blk_lt (g := gb240) (o := .cells #[.slice A0_0 l0_0.length c0_0, .slice A0_1 l0_1.length c0_1] 26 (0, 0)) (by exact KX_ BK240.out)) : gb240 ≠ gb250)); have n9_ := Aside0.mk ((by rw [hg]; exact Nat.ne_of_gt (blk_lt (g := gb240) (o := .cells #[.slice A0_0 l0_0.length c0_0, .slice A0_1 l0_1.length c0_1] 26 (0, 0)) (by exact KX_ BK240.out)) : gb250 ≠ gb240)); have n10_ := Aside0.mk ((by rw [hg]; exact Nat.ne_of_lt (blk_lt (g := gb241) (o := .cells #[.slice none 0 0, .slice none 0 0] 26 (0, 0)) (by exact KX_ BK241.out)) : gb241 ≠ gb250)); have n11_ := Aside0.mk ((by rw [hg]; exact Nat.ne_of_gt (blk_lt (g := gb241) (o := .cells #[.slice none 0 0, .slice none 0 0] 26 (0, 0)) (by exact KX_ BK241.out)) : gb250 ≠ gb241)); clear HO245; clear HO248; clear BK240; clear BK241; clear HB; have HO245 := n0_; have HO248 := n1_; have BK240 := n2_; have BK241 := n3_; have HB := n4_; have BK250 := n5_; have GW250 := n6_; have GE250 := n7_; have NB240_250 := n8_; have NB250_240 := n9_; have NB241_250 := n10_; have NB250_241 := n11_; clear n0_ n1_ n2_ n3_ n4_ n5_ n6_ n7_ n8_ n9_ n10_ n11_; clear hb hbox hg; obtain ⟨Ao13, co13, eo13⟩ := Kd.S_slice HO245.out; subst eo13; have hnb14 := NB250_240.out; have hnc14 := NB240_250.out; have hnb15 := NB250_241.out; have hnc15 := NB241_250.out; have hcz16_0 : w12.cell? ⟨gb250, 0, none⟩ = some (.slice none 0 0) := (blk_cell BK250.out 0).trans rfl; have hcz16_1 : w12.cell? ⟨gb250, 1, none⟩ = some (.slice none 0 0) := (blk_cell BK250.out 1).trans rfl; have hfz16_0 := blk_frozen BK250.out 0; have hfz16_1 := blk_frozen BK250.out 1; obtain ⟨Ao17, co17, eo17⟩ := Kd.S_slice HO248.out; subst eo17; have hcz18_0 : w12.cell? ⟨gb241, 0, none⟩ = some (.slice none 0 0) := (blk_cell BK241.out 0).trans rfl; have hcz18_1 : w12.cell? ⟨gb241, 1, none⟩ = some (.slice none 0 0) := (blk_cell BK241.out 1).trans rfl; have hfz18_0 := blk_frozen BK241.out 0; have hfz18_1 := blk_frozen BK241.out 1))
  refine bodyPost_ret (results_cell_row rfl _ _ gb241 26 #[.slice Ao13 t243.length co13, .slice Ao17 t246.length co17] (0, 0) _ rfl (by (with_reducible repeat (first | refine blk_drewN ?_ _ | refine blk_drew ?_ | refine blk_alloc ?_ _)); refine blk_put (cs := #[.slice Ao13 t243.length co13, .slice none 0 0]) ?_ 1 _ rfl; (with_reducible repeat (first | refine blk_drewN ?_ _ | refine blk_drew ?_ | refine blk_alloc ?_ _)); refine blk_put (cs := #[.slice none 0 0, .slice none 0 0]) ?_ 0 _ rfl; (with_reducible repeat (first | refine blk_drewN ?_ _ | refine blk_drew ?_ | refine blk_alloc ?_ _)); refine blk_far ?_ NB241_250.out _; (with_reducible repeat (first | refine blk_drewN ?_ _ | refine blk_drew ?_ | refine blk_alloc ?_ _)); refine blk_far ?_ NB241_250.out _; exact KX_ BK241.out) Try.underlying26 rfl (by kernel_rfl)) rfl ?_
  exact ⟨_, _, by first | rfl | (simp [errW_none, errW_some] <;> rfl) | (simp [*, errW_none, errW_some] <;> rfl), by (with_reducible repeat (first | apply Kd.S_alloc | apply Kd.S_drewN | apply Kd.S_drew)); exact Kd.S_mono (Kd.S_far (p := ⟨gb241, 1, none⟩) (Kd.S_far (p := ⟨gb241, 0, none⟩) (Kd.S_far (p := ⟨gb250, 1, none⟩) (Kd.S_far (p := ⟨gb250, 0, none⟩) (Kd.S_types (Kd.S_types HO245.out BK250.out (by decide)) BK241.out (by decide)) (fun _ hk => hk.1.2) (.slice Ao13 t243.length co13)) (fun _ hk => hk.1.2) (.slice Ao17 t246.length co17)) (fun _ hk => hk.2) (.slice Ao13 t243.length co13)) (fun _ hk => hk.2) (.slice Ao17 t246.length co17)) (fun _ hk => hk.1.1), by (with_reducible repeat (first | apply Kd.S_alloc | apply Kd.S_drewN | apply Kd.S_drew)); exact Kd.S_mono (Kd.S_far (p := ⟨gb241, 1, none⟩) (Kd.S_far (p := ⟨gb241, 0, none⟩) (Kd.S_far (p := ⟨gb250, 1, none⟩) (Kd.S_far (p := ⟨gb250, 0, none⟩) (Kd.S_types (Kd.S_types HO248.out BK250.out (by decide)) BK241.out (by decide)) (fun _ hk => hk.1.2) (.slice Ao13 t243.length co13)) (fun _ hk => hk.1.2) (.slice Ao17 t246.length co17)) (fun _ hk => hk.2) (.slice Ao13 t243.length co13)) (fun _ hk => hk.2) (.slice Ao17 t246.length co17)) (fun _ hk => hk.1.1), B1_⟩
 replace c3 := Bool.eq_false_iff.mpr c3
 subst c3
 have H1 : (some (([] : List (List Int)), ([] : List (List Int)))) = some (r1, r2) := by rw [if_neg (show ¬ (false = true) by decide)] at H; exact H
 clear H
 have H := H1
 clear H1
 simp only [Option.some.injEq, Prod.mk.injEq] at H
 obtain ⟨rfl, rfl⟩ := H
 go_enter Try.func23, Try.ntmps23
 go_wp2_with (first | ((with_reducible refine gate_dst (N := 1) rfl ?_); refine box_event ?hg (N := 1) ?hd (cs := #[.slice A0_0 l0_0.length c0_0, .slice A0_1 l0_1.length c0_1]) (t := 26) ?hr ?_; (case hd => rfl); (case hg => rfl); (case hr => first | (go_simp; done) | (go_simp; rfl)); intro gb240 hg w19 hbox hb; have n0_ := Aside0.mk (below_step (B_) hb); have n1_ := Aside0.mk (hbox); have n2_ := Aside0.mk ((by rw [hg]; exact (below_size (B_)) : w.heap.size ≤ gb240)); have n3_ := Aside0.mk ((by rw [hg]; exact (below_size (B_)) : w.heap.size ≤ gb240)); clear HB; have HB := n0_; have BK240 := n1_; have GW240 := n2_; have GE240 := n3_; clear n0_ n1_ n2_ n3_; clear hb hbox hg) | ((with_reducible refine gate_dst (N := 2) rfl ?_); refine box_event ?hg (N := 2) ?hd (cs := #[.slice none 0 0, .slice none 0 0]) (t := 26) ?hr ?_; (case hd => rfl); (case hg => rfl); (case hr => first | (go_simp; done) | (go_simp; rfl)); intro gb241 hg w20 hbox hb; have n0_ := Aside0.mk (blk_below (g := gb240) (o := .cells #[.slice A0_0 l0_0.length c0_0, .slice A0_1 l0_1.length c0_1] 26 (0, 0)) (by exact KX_ BK240.out) hb); have n1_ := Aside0.mk (below_step (B1_) hb); have n2_ := Aside0.mk (hbox); have n3_ := Aside0.mk ((by rw [hg]; exact (below_size (B1_)) : w.heap.size ≤ gb241)); have n4_ := Aside0.mk ((by rw [hg]; exact (below_size (B1_)) : w.heap.size ≤ gb241)); have n5_ := Aside0.mk ((by rw [hg]; exact Nat.ne_of_lt (blk_lt (g := gb240) (o := .cells #[.slice A0_0 l0_0.length c0_0, .slice A0_1 l0_1.length c0_1] 26 (0, 0)) (by exact KX_ BK240.out)) : gb240 ≠ gb241)); have n6_ := Aside0.mk ((by rw [hg]; exact Nat.ne_of_gt (blk_lt (g := gb240) (o := .cells #[.slice A0_0 l0_0.length c0_0, .slice A0_1 l0_1.length c0_1] 26 (0, 0)) (by exact KX_ BK240.out)) : gb241 ≠ gb240)); clear BK240; clear HB; have BK240 := n0_; have HB := n1_; have BK241 := n2_; have GW241 := n3_; have GE241 := n4_; have NB240_241 := n5_; have NB241_240 := n6_; clear n0_ n1_ n2_ n3_ n4_ n5_ n6_; clear hb hbox hg; have hnb21 := NB240_241.out; have hnc21 := NB241_240.out; have hcz22_0 : w20.cell? ⟨gb240, 0, none⟩ = some (.slice A0_0 l0_0.length c0_0) := (blk_cell BK240.out 0).trans rfl; have hcz22_1 : w20.cell? ⟨gb240, 1, none⟩ = some (.slice A0_1 l0_1.length c0_1) := (blk_cell BK240.out 1).trans rfl; have hfz22_0 := blk_frozen BK240.out 0; have hfz22_1 := blk_frozen BK240.out 1) | ((with_reducible refine gate_callee (f := 24) rfl ?_); refine goesL_ (some 6) rfl rfl Try.func24 (by kernel_rfl) rfl #[.agg #[.slice A0_0 l0_0.length c0_0, .slice A0_1 l0_1.length c0_1]] rfl (by (try simp only [List.map_toArray, List.map_cons, List.map_nil]); first | done | rfl | (simp only [List.length_drop, List.length_take]; rfl)) ?_; (with_reducible refine (graph_May.calls k _ _ l0_0 _ _ l0_1 false _ ?side1 ?side2 ?side3 ?side4 A2.out).mono ?_); (case side1 => exact CX_ (Kd.C_below HR0_0.out HB.out)); (case side2 => exact HC0_0.out); (case side3 => exact CX_ (Kd.C_below HR0_1.out HB.out)); (case side4 => exact HC0_1.out); rintro e w23 ⟨rfl, hb⟩; refine ⟨_, rfl, ?_⟩; have n0_ := Aside0.mk (blk_below (g := gb240) (o := .cells #[.slice A0_0 l0_0.length c0_0, .slice A0_1 l0_1.length c0_1] 26 (0, 0)) (by exact KX_ BK240.out) hb); have n1_ := Aside0.mk (blk_below (g := gb241) (o := .cells #[.slice none 0 0, .slice none 0 0] 26 (0, 0)) (by exact KX_ BK241.out) hb); have n2_ := Aside0.mk (below_step (B1_) hb); clear BK240; clear BK241; clear HB; have BK240 := n0_; have BK241 := n1_; have HB := n2_; clear n0_ n1_ n2_; (try clear hb); (try clear hb2); (try clear hk); (try clear hi); have hcz24_0 : w23.cell? ⟨gb241, 0, none⟩ = some (.slice none 0 0) := (blk_cell BK241.out 0).trans rfl; have hcz24_1 : w23.cell? ⟨gb241, 1, none⟩ = some (.slice none 0 0) := (blk_cell BK241.out 1).trans rfl; have hfz24_0 := blk_frozen BK241.out 0; have hfz24_1 := blk_frozen BK241.out 1))
 refine bodyPost_ret (results_cell_row rfl _ _ gb241 26 #[.slice none 0 0, .slice none 0 0] (0, 0) _ rfl (by (with_reducible repeat (first | refine blk_drewN ?_ _ | refine blk_drew ?_ | refine blk_alloc ?_ _)); refine blk_put (cs := #[.slice none 0 0, .slice none 0 0]) ?_ 1 _ rfl; (with_reducible repeat (first | refine blk_drewN ?_ _ | refine blk_drew ?_ | refine blk_alloc ?_ _)); refine blk_put (cs := #[.slice none 0 0, .slice none 0 0]) ?_ 0 _ rfl; exact KX_ BK241.out) Try.underlying26 rfl (by kernel_rfl)) rfl ?_
 exact ⟨_, _, by first | rfl | (simp [errW_none, errW_some] <;> rfl) | (simp [*, errW_none, errW_some] <;> rfl), by first | exact Kd.S_nil _ _ _ _ _ | exact Kd.N_nil _ _ _ _ _ | exact Kd.V_nil _ _ _ _ _ | exact Kd.Q_nil _ _ _ _ _ | exact Kd.R_nil _ _ _ _ _, by first | exact Kd.S_nil _ _ _ _ _ | exact Kd.N_nil _ _ _ _ _ | exact Kd.V_nil _ _ _ _ _ | exact Kd.Q_nil _ _ _ _ _ | exact Kd.R_nil _ _ _ _ _, B1_⟩


/-! ### pdom_Tree: function 10 -/
def pdom_Tree.f (k : Nat) (l0_0 : List (List Int)) (l0_1 : List (List Int)) : Option (List Int) := (pdom_Exit.f k l0_0 l0_1).bind fun bt252 => (if bt252.2.2 = 0 then ((graph_Turned.f k bt252.1 bt252.2.1).bind fun bt260 => ((dom_Tree.f k bt260.1 bt260.2 (l0_0.length : Int)).bind fun t266 => (some t266))) else (some ([] : List Int)))
theorem pdom_Tree.mono : ∀ a0 a1 k, LeO (pdom_Tree.f k a0 a1) (pdom_Tree.f (k + 1) a0 a1) := by
 intro a0 a1 k
 unfold pdom_Tree.f
 repeat' first
  | (with_reducible exact dom_Tree.mono _ _ _ _)
  | (with_reducible exact graph_Turned.mono _ _ _)
  | (with_reducible exact pdom_Exit.mono _ _ _)
  | (with_reducible exact LeO.refl _)
  | (with_reducible exact LeO.none _)
  | (with_reducible refine LeO.ite ?_ ?_)
  | (with_reducible refine LeO.bind ?_ (fun _ => ?_))
  | exact dom_Tree.mono _ _ _ _
  | exact graph_Turned.mono _ _ _
  | exact pdom_Exit.mono _ _ _
  | exact LeO.none _
  | refine LeO.ite ?_ ?_
  | refine LeO.bind ?_ (fun _ => ?_)
set_option maxHeartbeats 8000000 in
set_option maxRecDepth 100000 in
theorem pdom_Tree.calls (k : Nat) (A0_0 : Option Addr) (c0_0 : Nat) (l0_0 : List (List Int)) (A0_1 : Option Addr) (c0_1 : Nat) (l0_1 : List (List Int)) (r : List Int) (w : World) (hr0_0 : Kd.C (Kd.slice 3 (Kd.int .i64)) w A0_0 l0_0.length l0_0) (hc0_0 : l0_0.length ≤ c0_0) (hr0_1 : Kd.C (Kd.slice 3 (Kd.int .i64)) w A0_1 l0_1.length l0_1) (hc0_1 : l0_1.length ≤ c0_1) (h : pdom_Tree.f k l0_0 l0_1 = some r) :
 Calls Try.prog 10 #[.agg #[.slice A0_0 l0_0.length c0_0, .slice A0_1 l0_1.length c0_1]] w fun e w' => ∃ v0_ : Value, e = .returned (v0_) ∧ Kd.R (Kd.int .i64) 3 w' w.heap.size (fun _ => True) v0_ r ∧ Below w.heap.size w w' := by
 have hu26 := Try.underlying26
 have HR0_0 := Aside0.mk hr0_0
 have HC0_0 := Aside0.mk hc0_0
 clear hr0_0 hc0_0
 have HR0_1 := Aside0.mk hr0_1
 have HC0_1 := Aside0.mk hc0_1
 clear hr0_1 hc0_1
 have HB := Aside0.mk (Below.refl w.heap.size w)
 have H : ((pdom_Exit.f k l0_0 l0_1).bind fun bt252 => (if bt252.2.2 = 0 then ((graph_Turned.f k bt252.1 bt252.2.1).bind fun bt260 => ((dom_Tree.f k bt260.1 bt260.2 (l0_0.length : Int)).bind fun t266 => (some t266))) else (some ([] : List Int)))) = some r := h
 clear h
 replace H := Option.bind_eq_some_iff.mp H
 obtain ⟨⟨t252, t255, t258⟩, A20, H⟩ := H
 replace H : (if t258 = 0 then ((graph_Turned.f k t252 t255).bind fun bt260 => ((dom_Tree.f k bt260.1 bt260.2 (l0_0.length : Int)).bind fun t266 => (some t266))) else (some ([] : List Int))) = some r := H
 have A2 := Aside0.mk A20
 clear A20
 by_cases c3 : t258 = 0
 ·rw [if_pos c3] at H
  have c3b0 : (t258 == 0) = true := beq_iff_eq.mpr c3
  have c3b1 : (t258 != 0) = false := bne_eq_false_iff_eq.mpr c3
  clear c3
  replace H := Option.bind_eq_some_iff.mp H
  obtain ⟨⟨t260, t263⟩, A40, H⟩ := H
  replace H : ((dom_Tree.f k t260 t263 (l0_0.length : Int)).bind fun t266 => (some t266)) = some r := H
  have A4 := Aside0.mk A40
  clear A40
  replace H := Option.bind_eq_some_iff.mp H
  obtain ⟨t266, A50, H⟩ := H
  replace H : (some t266) = some r := H
  have A5 := Aside0.mk A50
  clear A50
  obtain rfl := Option.some.inj H
  go_enter Try.func10, Try.ntmps10
  try go_wp2_with (first | ((with_reducible refine gate_dst (N := 1) rfl ?_); refine box_event ?hg (N := 1) ?hd (cs := #[.slice A0_0 l0_0.length c0_0, .slice A0_1 l0_1.length c0_1]) (t := 26) ?hr ?_; (case hd => rfl); (case hg => rfl); (case hr => first | (go_simp; done) | (go_simp; rfl)); intro gb251 hg w6 hbox hb; have n0_ := Aside0.mk (below_step (B_) hb); have n1_ := Aside0.mk (hbox); have n2_ := Aside0.mk ((by rw [hg]; exact (below_size (B_)) : w.heap.size ≤ gb251)); have n3_ := Aside0.mk ((by rw [hg]; exact (below_size (B_)) : w.heap.size ≤ gb251)); clear HB; have HB := n0_; have BK251 := n1_; have GW251 := n2_; have GE251 := n3_; clear n0_ n1_ n2_ n3_; clear hb hbox hg; have hcz7_0 : w6.cell? ⟨gb251, 0, none⟩ = some (.slice A0_0 l0_0.length c0_0) := (blk_cell BK251.out 0).trans rfl; have hcz7_1 : w6.cell? ⟨gb251, 1, none⟩ = some (.slice A0_1 l0_1.length c0_1) := (blk_cell BK251.out 1).trans rfl; have hfz7_0 := blk_frozen BK251.out 0; have hfz7_1 := blk_frozen BK251.out 1) | ((with_reducible refine gate_callee (f := 11) rfl ?_); refine goesL_ (some 7) rfl rfl Try.func11 (by kernel_rfl) rfl #[.agg #[.slice A0_0 l0_0.length c0_0, .slice A0_1 l0_1.length c0_1]] rfl (by (try simp only [List.map_toArray, List.map_cons, List.map_nil]); first | done | rfl | (simp only [List.length_drop, List.length_take]; rfl)) ?_; (with_reducible refine (pdom_Exit.calls k _ _ l0_0 _ _ l0_1 t252 t255 t258 _ ?side1 ?side2 ?side3 ?side4 A2.out).mono ?_); (case side1 => exact CX_ (Kd.C_below HR0_0.out HB.out)); (case side2 => exact HC0_0.out); (case side3 => exact CX_ (Kd.C_below HR0_1.out HB.out)); (case side4 => exact HC0_1.out); rintro e w8 ⟨v253, v256, rfl, ho0, ho1, hb⟩; refine ⟨_, rfl, ?_⟩; have n0_ := Aside0.mk (Kd.S_lower ho0 (below_size (B1_))); have n1_ := Aside0.mk (Kd.S_lower ho1 (below_size (B1_))); have n2_ := Aside0.mk (blk_below (g := gb251) (o := .cells #[.slice A0_0 l0_0.length c0_0, .slice A0_1 l0_1.length c0_1] 26 (0, 0)) (by exact KX_ BK251.out) hb); have n3_ := Aside0.mk (below_step (B1_) hb); clear BK251; clear HB; have HO254 := n0_; have HO257 := n1_; have BK251 := n2_; have HB := n3_; clear n0_ n1_ n2_ n3_; (try clear hb); (try clear hb2); (try clear hk); (try clear hi); (try clear ho0); (try clear ho1)) | ((with_reducible refine gate_dst (N := 3) rfl ?_); refine box_event ?hg (N := 3) ?hd (cs := #[.slice none 0 0, .slice none 0 0]) (t := 26) ?hr ?_; (case hd => rfl); (case hg => rfl); (case hr => first | (go_simp; done) | (go_simp; rfl)); intro gb259 hg w9 hbox hb; have n0_ := Aside0.mk (Kd.S_below (by exact SX_ HO254.out) hb); have n1_ := Aside0.mk (Kd.S_below (by exact SX_ HO257.out) hb); have n2_ := Aside0.mk (blk_below (g := gb251) (o := .cells #[.slice A0_0 l0_0.length c0_0, .slice A0_1 l0_1.length c0_1] 26 (0, 0)) (by exact KX_ BK251.out) hb); have n3_ := Aside0.mk (below_step (B1_) hb); have n4_ := Aside0.mk (hbox); have n5_ := Aside0.mk ((by rw [hg]; exact (below_size (B1_)) : w.heap.size ≤ gb259)); have n6_ := Aside0.mk ((by rw [hg]; exact (below_size (B1_)) : w.heap.size ≤ gb259)); have n7_ := Aside0.mk ((by rw [hg]; exact Nat.ne_of_lt (blk_lt (g := gb251) (o := .cells #[.slice A0_0 l0_0.length c0_0, .slice A0_1 l0_1.length c0_1] 26 (0, 0)) (by exact KX_ BK251.out)) : gb251 ≠ gb259)); have n8_ := Aside0.mk ((by rw [hg]; exact Nat.ne_of_gt (blk_lt (g := gb251) (o := .cells #[.slice A0_0 l0_0.length c0_0, .slice A0_1 l0_1.length c0_1] 26 (0, 0)) (by exact KX_ BK251.out)) : gb259 ≠ gb251)); clear HO254; clear HO257; clear BK251; clear HB; have HO254 := n0_; have HO257 := n1_; have BK251 := n2_; have HB := n3_; have BK259 := n4_; have GW259 := n5_; have GE259 := n6_; have NB251_259 := n7_; have NB259_251 := n8_; clear n0_ n1_ n2_ n3_ n4_ n5_ n6_ n7_ n8_; clear hb hbox hg; obtain ⟨Ao10, co10, eo10⟩ := Kd.S_slice HO254.out; subst eo10; have hnb11 := NB259_251.out; have hnc11 := NB251_259.out; have hcz12_0 : w9.cell? ⟨gb259, 0, none⟩ = some (.slice none 0 0) := (blk_cell BK259.out 0).trans rfl; have hcz12_1 : w9.cell? ⟨gb259, 1, none⟩ = some (.slice none 0 0) := (blk_cell BK259.out 1).trans rfl; have hfz12_0 := blk_frozen BK259.out 0; have hfz12_1 := blk_frozen BK259.out 1; obtain ⟨Ao13, co13, eo13⟩ := Kd.S_slice HO257.out; subst eo13))
  have n0_ : Aside0 (Kd.S (Kd.slice 3 (Kd.int .i64)) 30 ((w9.setCell ⟨gb259, 0, none⟩ (.slice Ao10 t252.length co10)).setCell ⟨gb259, 1, none⟩ (.slice Ao13 t255.length co13)) w.heap.size (fun k_ => some k_ ≠ (.slice Ao13 t255.length co13 : Value).ownBlock) (.slice Ao10 t252.length co10) t252) := ⟨by (with_reducible repeat (first | apply Kd.S_alloc | apply Kd.S_drewN | apply Kd.S_drew)); exact Kd.S_mono (Kd.S_far (p := ⟨gb259, 1, none⟩) (Kd.S_far (p := ⟨gb259, 0, none⟩) (Kd.S_types HO254.out BK259.out (by decide)) (fun _ hk => hk.2) (.slice Ao10 t252.length co10)) (fun _ hk => hk.2) (.slice Ao13 t255.length co13)) (fun _ hk => hk.1)⟩
  have n1_ : Aside0 (Kd.S (Kd.slice 3 (Kd.int .i64)) 30 ((w9.setCell ⟨gb259, 0, none⟩ (.slice Ao10 t252.length co10)).setCell ⟨gb259, 1, none⟩ (.slice Ao13 t255.length co13)) w.heap.size (fun k_ => some k_ ≠ (.slice Ao10 t252.length co10 : Value).ownBlock) (.slice Ao13 t255.length co13) t255) := ⟨by (with_reducible repeat (first | apply Kd.S_alloc | apply Kd.S_drewN | apply Kd.S_drew)); exact Kd.S_mono (Kd.S_far (p := ⟨gb259, 1, none⟩) (Kd.S_far (p := ⟨gb259, 0, none⟩) (Kd.S_types HO257.out BK259.out (by decide)) (fun _ hk => hk.2) (.slice Ao10 t252.length co10)) (fun _ hk => hk.2) (.slice Ao13 t255.length co13)) (fun _ hk => hk.1)⟩
  have n2_ : Aside0 (((w9.setCell ⟨gb259, 0, none⟩ (.slice Ao10 t252.length co10)).setCell ⟨gb259, 1, none⟩ (.slice Ao13 t255.length co13)).heap[gb251]? = some (.cells #[.slice A0_0 l0_0.length c0_0, .slice A0_1 l0_1.length c0_1] 26 (0, 0))) := ⟨by (with_reducible repeat (first | refine blk_drewN ?_ _ | refine blk_drew ?_ | refine blk_alloc ?_ _)); refine blk_far ?_ NB251_259.out _; (with_reducible repeat (first | refine blk_drewN ?_ _ | refine blk_drew ?_ | refine blk_alloc ?_ _)); refine blk_far ?_ NB251_259.out _; exact KX_ BK251.out⟩
  have n3_ : Aside0 (((w9.setCell ⟨gb259, 0, none⟩ (.slice Ao10 t252.length co10)).setCell ⟨gb259, 1, none⟩ (.slice Ao13 t255.length co13)).heap[gb259]? = some (.cells #[.slice Ao10 t252.length co10, .slice Ao13 t255.length co13] 26 (0, 0))) := ⟨by (with_reducible repeat (first | refine blk_drewN ?_ _ | refine blk_drew ?_ | refine blk_alloc ?_ _)); refine blk_put (cs := #[.slice Ao10 t252.length co10, .slice none 0 0]) ?_ 1 _ rfl; (with_reducible repeat (first | refine blk_drewN ?_ _ | refine blk_drew ?_ | refine blk_alloc ?_ _)); refine blk_put (cs := #[.slice none 0 0, .slice none 0 0]) ?_ 0 _ rfl; exact KX_ BK259.out⟩
  have n4_ : Aside0 (Below w.heap.size w ((w9.setCell ⟨gb259, 0, none⟩ (.slice Ao10 t252.length co10)).setCell ⟨gb259, 1, none⟩ (.slice Ao13 t255.length co13))) := ⟨B1_⟩
  (try clear HO254)
  (try clear HO257)
  (try clear BK251)
  (try clear BK259)
  (try clear HB)
  generalize ((w9.setCell ⟨gb259, 0, none⟩ (.slice Ao10 t252.length co10)).setCell ⟨gb259, 1, none⟩ (.slice Ao13 t255.length co13)) = w14 at n0_ n1_ n2_ n3_ n4_ ⊢
  have HO254 := n0_
  have HO257 := n1_
  have BK251 := n2_
  have BK259 := n3_
  have HB := n4_
  clear n0_ n1_ n2_ n3_ n4_
  have n0_ := Aside0.mk (Kd.S_drew HO254.out)
  have n1_ := Aside0.mk (Kd.S_drew HO257.out)
  have n2_ := Aside0.mk (blk_drew BK251.out)
  have n3_ := Aside0.mk (blk_drew BK259.out)
  have n4_ := Aside0.mk (below_drew1 HB.out)
  clear HO254
  clear HO257
  clear BK251
  clear BK259
  clear HB
  have HO254 := n0_
  have HO257 := n1_
  have BK251 := n2_
  have BK259 := n3_
  have HB := n4_
  clear n0_ n1_ n2_ n3_ n4_
  refine start_ (n := 7) (S := fun w' => w'.cell? ⟨gb259, 0, none⟩ = some (.slice Ao10 t252.length co10) ∧ w'.cell? ⟨gb259, 1, none⟩ = some (.slice Ao13 t255.length co13) ∧ w'.cell? ⟨gb251, 0, none⟩ = some (.slice A0_0 l0_0.length c0_0) ∧ w'.cell? ⟨gb251, 1, none⟩ = some (.slice A0_1 l0_1.length c0_1)) (ds := []) #[false, false, false, false, false, false, false] (by kernel_rfl) rfl rfl ⟨(blk_cell BK259.out 0).trans rfl, (blk_cell BK259.out 1).trans rfl, (blk_cell BK251.out 0).trans rfl, (blk_cell BK251.out 1).trans rfl⟩ (fun hHeld => ?_)
  generalize w14.drew = w15 at HO254 HO257 BK251 BK259 HB hHeld ⊢
  refine pure_ (i := 2) (N := some 14) (v := ?_) (a' := ?_) #[false, false, true, false, false, false, false] rfl rfl (by kernel_rfl) (fun _ _ _ h => h) (Or.inl ⟨by rfl, ?_⟩) ?_ ?_
  rotate_left
  ·intro w'
   go_simp
   with_reducible rfl
  rotate_left
  ·exact P_
  refine take_ (i := 0) (N := some 12) (v := ?_) (a' := ?_) #[true, false, true, false, false, false, false] rfl rfl (by kernel_rfl) (fun _ _ _ h => h) (Or.inl ⟨by rfl, ?_⟩) hHeld ?_ ?_
  rotate_left
  ·rintro w' ⟨s0, s1, s2, s3⟩
   go_simp
   with_reducible rfl
  rotate_left
  ·exact P_
  refine take_ (i := 3) (N := some 15) (v := ?_) (a' := ?_) #[true, false, true, true, false, false, false] rfl rfl (by kernel_rfl) (fun _ _ _ h => h) (Or.inl ⟨by rfl, ?_⟩) hHeld ?_ ?_
  rotate_left
  ·rintro w' ⟨s0, s1, s2, s3⟩
   go_simp
   with_reducible rfl
  rotate_left
  ·exact P_
  refine pure_ (i := 4) (N := some 16) (v := ?_) (a' := ?_) #[true, false, true, true, true, false, false] rfl rfl (by kernel_rfl) (fun _ _ _ h => h) (Or.inl ⟨by rfl, ?_⟩) ?_ ?_
  rotate_left
  ·intro w'
   go_simp
   with_reducible rfl
  rotate_left
  ·exact P_
  refine one_ (i := 1) (N := some 13) #[true, true, true, true, true, false, false] rfl rfl (by kernel_rfl) (by decide) (fun K hK => ?_)
  refine goes_ Try.func23 (by kernel_rfl) rfl #[.agg #[.slice Ao10 t252.length co10, .slice Ao13 t255.length co13]] (by rfl) rfl rfl (by (try simp only [List.map_toArray, List.map_cons, List.map_nil]); first | done | rfl | (simp only [List.length_drop, List.length_take]; rfl)) ?_
  with_reducible refine (graph_Turned.calls k _ _ t252 _ _ t255 t260 t263 _ ?side1 ?side2 ?side3 ?side4 A4.out).mono ?_
  (case side1 => repeat (first | exact (Kd.S_reads' HO254.out).2.2 | (with_reducible refine Kd.C_alloc ?_ _) | (with_reducible refine Kd.C_drewN ?_ _) | (with_reducible refine Kd.C_drew ?_)))
  (case side2 => exact (Kd.S_reads' HO254.out).2.1)
  (case side3 => repeat (first | exact (Kd.S_reads' HO257.out).2.2 | (with_reducible refine Kd.C_alloc ?_ _) | (with_reducible refine Kd.C_drewN ?_ _) | (with_reducible refine Kd.C_drew ?_)))
  (case side4 => exact (Kd.S_reads' HO257.out).2.1)
  rintro e w16 ⟨v261, v264, rfl, ho0, ho1, hb⟩
  refine ⟨_, rfl, ?_⟩
  have n0_ := Aside0.mk (Kd.S_mono (Kd.S_told (Kd.S_told (Kd.S_old (by exact SX_ HO254.out) hb) (Kd.S_base ho0)) (Kd.S_base ho1)) (fun _ h_ => h_.1))
  have n1_ := Aside0.mk (Kd.S_mono (Kd.S_told (Kd.S_told (Kd.S_old (by exact SX_ HO257.out) hb) (Kd.S_base ho0)) (Kd.S_base ho1)) (fun _ h_ => h_.1))
  have n2_ := Aside0.mk (Kd.S_lower (Kd.S_new' (Kd.S_new' ho0 (Kd.S_lt (by exact SX_ HO254.out))) (Kd.S_lt (by exact SX_ HO257.out))) (below_size (B1_)))
  have n3_ := Aside0.mk (Kd.S_lower (Kd.S_new' (Kd.S_new' ho1 (Kd.S_lt (by exact SX_ HO254.out))) (Kd.S_lt (by exact SX_ HO257.out))) (below_size (B1_)))
  have n4_ := Aside0.mk (blk_below (g := gb251) (o := .cells #[.slice A0_0 l0_0.length c0_0, .slice A0_1 l0_1.length c0_1] 26 (0, 0)) (by exact KX_ BK251.out) hb)
  have n5_ := Aside0.mk (blk_below (g := gb259) (o := .cells #[.slice Ao10 t252.length co10, .slice Ao13 t255.length co13] 26 (0, 0)) (by exact KX_ BK259.out) hb)
  have n6_ := Aside0.mk (below_step (B1_) hb)
  clear HO254
  clear HO257
  clear BK251
  clear BK259
  clear HB
  have HO254 := n0_
  have HO257 := n1_
  have HO262 := n2_
  have HO265 := n3_
  have BK251 := n4_
  have BK259 := n5_
  have HB := n6_
  clear n0_ n1_ n2_ n3_ n4_ n5_ n6_
  (try clear hb)
  (try clear hb2)
  (try clear hk)
  (try clear hi)
  (try clear ho0)
  (try clear ho1)
  obtain ⟨Ao17, co17, eo17⟩ := Kd.S_slice HO262.out
  (first | subst eo17 | (injection eo17 with f1_ f2_ f3_; have f4_ := f1_.symm; have f5_ := f3_.symm; clear f1_ f2_ f3_; subst f4_; subst f5_))
  obtain ⟨Ao18, co18, eo18⟩ := Kd.S_slice HO265.out
  (first | subst eo18 | (injection eo18 with f1_ f2_ f3_; have f4_ := f1_.symm; have f5_ := f3_.symm; clear f1_ f2_ f3_; subst f4_; subst f5_))
  refine hK.out _ _ ⟨(blk_cell BK259.out 0).trans rfl, (blk_cell BK259.out 1).trans rfl, (blk_cell BK251.out 0).trans rfl, (blk_cell BK251.out 1).trans rfl⟩ (fun hHeld => ?_)
  clear hK K
  refine norm_ (a' := ?_) ?_ ?_
  rotate_left
  ·show Act.put _ (some 13) _ = _
   simp only [Act.put, List.setIfInBounds_toArray, List.set_cons_zero, List.set_cons_succ, i64_w, i32_w]
   rfl
  refine one_ (i := 5) (N := some 17) #[true, true, true, true, true, true, false] rfl rfl (by kernel_rfl) (by decide) (fun K hK => ?_)
  refine goes_ Try.func22 (by kernel_rfl) rfl #[.agg #[.slice Ao17 t260.length co17, .slice Ao18 t263.length co18], .int .i64 (l0_0.length : Int)] (by rfl) rfl rfl (by (try simp only [List.map_toArray, List.map_cons, List.map_nil]); first | done | rfl | (simp only [List.length_drop, List.length_take]; rfl)) ?_
  with_reducible refine (dom_Tree.calls k _ _ t260 _ _ t263 (l0_0.length : Int) t266 _ ?side1 ?side2 ?side3 ?side4 A5.out).mono ?_
  (case side1 => repeat (first | exact (Kd.S_reads' HO262.out).2.2 | (with_reducible refine Kd.C_alloc ?_ _) | (with_reducible refine Kd.C_drewN ?_ _) | (with_reducible refine Kd.C_drew ?_)))
  (case side2 => exact (Kd.S_reads' HO262.out).2.1)
  (case side3 => repeat (first | exact (Kd.S_reads' HO265.out).2.2 | (with_reducible refine Kd.C_alloc ?_ _) | (with_reducible refine Kd.C_drewN ?_ _) | (with_reducible refine Kd.C_drew ?_)))
  (case side4 => exact (Kd.S_reads' HO265.out).2.1)
  rintro e w19 ⟨v267, rfl, ho0, hb⟩
  refine ⟨_, rfl, ?_⟩
  have n0_ := Aside0.mk (Kd.S_elder' (by exact SX_ HO254.out) (Kd.R_base ho0) hb)
  have n1_ := Aside0.mk (Kd.S_elder' (by exact SX_ HO257.out) (Kd.R_base ho0) hb)
  have n2_ := Aside0.mk (Kd.S_elder' (by exact SX_ HO262.out) (Kd.R_base ho0) hb)
  have n3_ := Aside0.mk (Kd.S_elder' (by exact SX_ HO265.out) (Kd.R_base ho0) hb)
  have n4_ := Aside0.mk (Kd.R_lower ho0 (below_size (B1_)))
  have n5_ := Aside0.mk (blk_below (g := gb251) (o := .cells #[.slice A0_0 l0_0.length c0_0, .slice A0_1 l0_1.length c0_1] 26 (0, 0)) (by exact KX_ BK251.out) hb)
  have n6_ := Aside0.mk (blk_below (g := gb259) (o := .cells #[.slice Ao10 t252.length co10, .slice Ao13 t255.length co13] 26 (0, 0)) (by exact KX_ BK259.out) hb)
  have n7_ := Aside0.mk (below_step (B1_) hb)
  clear HO254
  clear HO257
  clear HO262
  clear HO265
  clear BK251
  clear BK259
  clear HB
  have HO254 := n0_
  have HO257 := n1_
  have HO262 := n2_
  have HO265 := n3_
  have HO268 := n4_
  have BK251 := n5_
  have BK259 := n6_
  have HB := n7_
  clear n0_ n1_ n2_ n3_ n4_ n5_ n6_ n7_
  (try clear hb)
  (try clear hb2)
  (try clear hk)
  (try clear hi)
  (try clear ho0)
  refine hK.out _ _ ⟨(blk_cell BK259.out 0).trans rfl, (blk_cell BK259.out 1).trans rfl, (blk_cell BK251.out 0).trans rfl, (blk_cell BK251.out 1).trans rfl⟩ (fun hHeld => ?_)
  clear hK K
  refine norm_ (a' := ?_) ?_ ?_
  rotate_left
  ·show Act.put _ (some 17) _ = _
   simp only [Act.put, List.setIfInBounds_toArray, List.set_cons_zero, List.set_cons_succ, i64_w, i32_w]
   rfl
  refine pure_ (i := 6) (N := some 2) (v := ?_) (a' := ?_) #[true, true, true, true, true, true, true] rfl rfl (by kernel_rfl) (fun _ _ _ h => h) (Or.inl ⟨by rfl, ?_⟩) ?_ ?_
  rotate_left
  ·intro w'
   go_simp
   with_reducible rfl
  rotate_left
  ·exact P_
  refine done_ (by kernel_rfl) ?_
  try go_wp2
  go_ret
  exact ⟨_, by first | rfl | (simp [errW_none, errW_some] <;> rfl) | (simp [*, errW_none, errW_some] <;> rfl), by exact RX_ HO268.out, B1_⟩
 rw [if_neg c3] at H
 have c3b0 : (t258 == 0) = false := beq_eq_false_iff_ne.mpr c3
 have c3b1 : (t258 != 0) = true := bne_iff_ne.mpr c3
 obtain rfl := Option.some.inj H
 go_enter Try.func10, Try.ntmps10
 go_wp2_with (first | ((with_reducible refine gate_dst (N := 1) rfl ?_); refine box_event ?hg (N := 1) ?hd (cs := #[.slice A0_0 l0_0.length c0_0, .slice A0_1 l0_1.length c0_1]) (t := 26) ?hr ?_; (case hd => rfl); (case hg => rfl); (case hr => first | (go_simp; done) | (go_simp; rfl)); intro gb251 hg w20 hbox hb; have n0_ := Aside0.mk (below_step (B_) hb); have n1_ := Aside0.mk (hbox); have n2_ := Aside0.mk ((by rw [hg]; exact (below_size (B_)) : w.heap.size ≤ gb251)); have n3_ := Aside0.mk ((by rw [hg]; exact (below_size (B_)) : w.heap.size ≤ gb251)); clear HB; have HB := n0_; have BK251 := n1_; have GW251 := n2_; have GE251 := n3_; clear n0_ n1_ n2_ n3_; clear hb hbox hg; have hcz21_0 : w20.cell? ⟨gb251, 0, none⟩ = some (.slice A0_0 l0_0.length c0_0) := (blk_cell BK251.out 0).trans rfl; have hcz21_1 : w20.cell? ⟨gb251, 1, none⟩ = some (.slice A0_1 l0_1.length c0_1) := (blk_cell BK251.out 1).trans rfl; have hfz21_0 := blk_frozen BK251.out 0; have hfz21_1 := blk_frozen BK251.out 1) | ((with_reducible refine gate_callee (f := 11) rfl ?_); refine goesL_ (some 7) rfl rfl Try.func11 (by kernel_rfl) rfl #[.agg #[.slice A0_0 l0_0.length c0_0, .slice A0_1 l0_1.length c0_1]] rfl (by (try simp only [List.map_toArray, List.map_cons, List.map_nil]); first | done | rfl | (simp only [List.length_drop, List.length_take]; rfl)) ?_; (with_reducible refine (pdom_Exit.calls k _ _ l0_0 _ _ l0_1 t252 t255 t258 _ ?side1 ?side2 ?side3 ?side4 A2.out).mono ?_); (case side1 => exact CX_ (Kd.C_below HR0_0.out HB.out)); (case side2 => exact HC0_0.out); (case side3 => exact CX_ (Kd.C_below HR0_1.out HB.out)); (case side4 => exact HC0_1.out); rintro e w22 ⟨v253, v256, rfl, ho0, ho1, hb⟩; refine ⟨_, rfl, ?_⟩; have n0_ := Aside0.mk (Kd.S_lower ho0 (below_size (B1_))); have n1_ := Aside0.mk (Kd.S_lower ho1 (below_size (B1_))); have n2_ := Aside0.mk (blk_below (g := gb251) (o := .cells #[.slice A0_0 l0_0.length c0_0, .slice A0_1 l0_1.length c0_1] 26 (0, 0)) (by exact KX_ BK251.out) hb); have n3_ := Aside0.mk (below_step (B1_) hb); clear BK251; clear HB; have HO254 := n0_; have HO257 := n1_; have BK251 := n2_; have HB := n3_; clear n0_ n1_ n2_ n3_; (try clear hb); (try clear hb2); (try clear hk); (try clear hi); (try clear ho0); (try clear ho1)) | ((with_reducible refine gate_dst (N := 3) rfl ?_); refine box_event ?hg (N := 3) ?hd (cs := #[.slice none 0 0, .slice none 0 0]) (t := 26) ?hr ?_; (case hd => rfl); (case hg => rfl); (case hr => first | (go_simp; done) | (go_simp; rfl)); intro gb259 hg w23 hbox hb; have n0_ := Aside0.mk (Kd.S_below (by exact SX_ HO254.out) hb); have n1_ := Aside0.mk (Kd.S_below (by exact SX_ HO257.out) hb); have n2_ := Aside0.mk (blk_below (g := gb251) (o := .cells #[.slice A0_0 l0_0.length c0_0, .slice A0_1 l0_1.length c0_1] 26 (0, 0)) (by exact KX_ BK251.out) hb); have n3_ := Aside0.mk (below_step (B1_) hb); have n4_ := Aside0.mk (hbox); have n5_ := Aside0.mk ((by rw [hg]; exact (below_size (B1_)) : w.heap.size ≤ gb259)); have n6_ := Aside0.mk ((by rw [hg]; exact (below_size (B1_)) : w.heap.size ≤ gb259)); have n7_ := Aside0.mk ((by rw [hg]; exact Nat.ne_of_lt (blk_lt (g := gb251) (o := .cells #[.slice A0_0 l0_0.length c0_0, .slice A0_1 l0_1.length c0_1] 26 (0, 0)) (by exact KX_ BK251.out)) : gb251 ≠ gb259)); have n8_ := Aside0.mk ((by rw [hg]; exact Nat.ne_of_gt (blk_lt (g := gb251) (o := .cells #[.slice A0_0 l0_0.length c0_0, .slice A0_1 l0_1.length c0_1] 26 (0, 0)) (by exact KX_ BK251.out)) : gb259 ≠ gb251)); clear HO254; clear HO257; clear BK251; clear HB; have HO254 := n0_; have HO257 := n1_; have BK251 := n2_; have HB := n3_; have BK259 := n4_; have GW259 := n5_; have GE259 := n6_; have NB251_259 := n7_; have NB259_251 := n8_; clear n0_ n1_ n2_ n3_ n4_ n5_ n6_ n7_ n8_; clear hb hbox hg; obtain ⟨Ao24, co24, eo24⟩ := Kd.S_slice HO254.out; subst eo24; have hnb25 := NB259_251.out; have hnc25 := NB251_259.out; have hcz26_0 : w23.cell? ⟨gb259, 0, none⟩ = some (.slice none 0 0) := (blk_cell BK259.out 0).trans rfl; have hcz26_1 : w23.cell? ⟨gb259, 1, none⟩ = some (.slice none 0 0) := (blk_cell BK259.out 1).trans rfl; have hfz26_0 := blk_frozen BK259.out 0; have hfz26_1 := blk_frozen BK259.out 1; obtain ⟨Ao27, co27, eo27⟩ := Kd.S_slice HO257.out; subst eo27))
 go_ret
 exact ⟨_, by first | rfl | (simp [errW_none, errW_some] <;> rfl) | (simp [*, errW_none, errW_some] <;> rfl), by first | exact Kd.R_nil _ _ _ _ _ | exact Kd.N_nil _ _ _ _ _ | exact Kd.V_nil _ _ _ _ _ | exact Kd.Q_nil _ _ _ _ _ | exact Kd.S_nil _ _ _ _ _, B1_⟩


/-! ### dom_Meet: function 36 -/
def dom_Meet.l0 : Nat → List Int → Int → Int → Option (Int)
 | 0, _, _, _ => none
 | k + 1, x0, x1, x2 => if x1 = x2 then (some x1) else ((dom_depth.f k x0 x1).bind fun t278 => ((dom_depth.f k x0 x2).bind fun t279 => (if t278 ≥ t279 then (if 0 ≤ x1 then (if x1 < (x0.length : Int) then (dom_Meet.l0 k x0 (rd x0 x1) x2) else (none)) else (none)) else (if 0 ≤ x2 then (if x2 < (x0.length : Int) then (dom_Meet.l0 k x0 x1 (rd x0 x2)) else (none)) else (none)))))
def dom_Meet.f (k : Nat) (l0 : List Int) (a1 : Int) (a2 : Int) : Option (Int) := (dom_in.f k l0 (([a1, a2] : List Int))).bind fun t277 => (if t277 = true then (dom_Meet.l0 k l0 a1 a2) else (some (-2)))
theorem dom_Meet.mono_l : ∀ k, (∀ y0 y1 y2, LeO (dom_Meet.l0 k y0 y1 y2) (dom_Meet.l0 (k + 1) y0 y1 y2))
 | 0 => fun _ _ _ r h => by simp [dom_Meet.l0] at h
 | k + 1 => by
  have ih0 := dom_Meet.mono_l k
  ·intro y0 y1 y2
   unfold dom_Meet.l0
   repeat' first
   | (with_reducible exact ih0 _ _ _)
   | (with_reducible exact dom_depth.mono _ _ _)
   | (with_reducible exact dom_in.mono _ _ _)
   | (with_reducible exact LeO.refl _)
   | (with_reducible exact LeO.none _)
   | (with_reducible refine LeO.ite ?_ ?_)
   | (with_reducible refine LeO.bind ?_ (fun _ => ?_))
   | exact ih0 _ _ _
   | exact dom_depth.mono _ _ _
   | exact dom_in.mono _ _ _
   | exact LeO.none _
   | refine LeO.ite ?_ ?_
   | refine LeO.bind ?_ (fun _ => ?_)
theorem dom_Meet.mono : ∀ a0 a1 a2 k, LeO (dom_Meet.f k a0 a1 a2) (dom_Meet.f (k + 1) a0 a1 a2) := by
 intro a0 a1 a2 k
 have ih0 := dom_Meet.mono_l k
 unfold dom_Meet.f
 repeat' first
  | (with_reducible exact ih0 _ _ _)
  | (with_reducible exact dom_depth.mono _ _ _)
  | (with_reducible exact dom_in.mono _ _ _)
  | (with_reducible exact LeO.refl _)
  | (with_reducible exact LeO.none _)
  | (with_reducible refine LeO.ite ?_ ?_)
  | (with_reducible refine LeO.bind ?_ (fun _ => ?_))
  | exact ih0 _ _ _
  | exact dom_depth.mono _ _ _
  | exact dom_in.mono _ _ _
  | exact LeO.none _
  | refine LeO.ite ?_ ?_
  | refine LeO.bind ?_ (fun _ => ?_)
set_option maxHeartbeats 8000000 in
set_option maxRecDepth 100000 in
theorem dom_Meet.calls (k : Nat) (A0 : Option Addr) (c0 : Nat) (l0 : List Int) (a1 : Int) (a2 : Int) (r : Int) (w : World) (hr0 : Kd.C (Kd.int .i64) w A0 l0.length l0) (hc0 : l0.length ≤ c0) (h : dom_Meet.f k l0 a1 a2 = some r) :
 Calls Try.prog 36 #[.slice A0 l0.length c0, .int .i64 a1, .int .i64 a2] w fun e w' => e = .returned (.int .i64 r) ∧ Below w.heap.size w w' := by
 have HR0 := Aside0.mk hr0
 have HC0 := Aside0.mk hc0
 clear hr0 hc0
 have HB := Aside0.mk (Below.refl w.heap.size w)
 have H : ((dom_in.f k l0 (([a1, a2] : List Int))).bind fun t277 => (if t277 = true then (dom_Meet.l0 k l0 a1 a2) else (some (-2)))) = some r := h
 clear h
 obtain ⟨y274, hy274⟩ : ∃ y_ : List Int, y_ = (([a1, a2] : List Int)) := ⟨_, rfl⟩
 replace H : ((dom_in.f k l0 y274).bind fun t277 => (if t277 = true then (dom_Meet.l0 k l0 a1 a2) else (some (-2)))) = some r := by first | (rw [hy274]; with_reducible exact H) | (have H2_ := (Option.bind_some _ _).symm.trans H; rw [hy274]; with_reducible exact H2_) | (have H2_ := (Option.bind_some _ _).symm.trans H; with_reducible exact H2_) | with_reducible exact H | (rw [hy274]; exact H) | exact H
 have Ny274 := Aside0.mk hy274
 clear hy274
 replace H := Option.bind_eq_some_iff.mp H
 obtain ⟨t277, A40, H⟩ := H
 replace H : (if t277 = true then (dom_Meet.l0 k l0 a1 a2) else (some (-2))) = some r := H
 have A4 := Aside0.mk A40
 clear A40
 by_cases c5 : t277 = true
 ·subst c5
  have H1 : (dom_Meet.l0 k l0 a1 a2) = some r := by rw [if_pos rfl] at H; exact H
  clear H
  have H := H1
  clear H1
  have H' := Aside0.mk H
  clear H
  go_enter Try.func36, Try.ntmps36
  go_wp2_with (first | ((with_reducible refine gate_dst (N := 10) rfl ?_); refine Kd.R_lit (Kd.int .i64) _ 3 ?hg (N := 10) ?hd (xs := ([a1, a2] : List Int)) (inner := [.int .i64 a1, .int .i64 a2]) (ok := fun _ => True) (okp := fun _ => True) ?hr ?hp (fun _ hk => hk) trivial (Below.refl _ _) (Nat.le_refl _) (by simp) ?_; (case hd => rfl); (case hg => rfl); (case hr => first | (go_simp; done) | (go_simp; rfl)); (case hp => exact (Reps.one (show Kd.M (Kd.int .i64) _ _ _ a1 [.int .i64 a1] from rfl) (Reps.one (show Kd.M (Kd.int .i64) _ _ _ a2 [.int .i64 a2] from rfl) (Reps.none _ _)))); intro v275 w6 ho7 hb hg_ hnew_; clear hg_ hnew_; (first | rw [← Ny274.out] at ho7 | (simp only [Int.reduceToNat] at ho7; rw [← Ny274.out] at ho7)); have n0_ := Aside0.mk (Kd.R_lower ho7 (below_size (B_))); have n1_ := Aside0.mk (below_step (B_) hb); clear HB; have HO276 := n0_; have HB := n1_; clear n0_ n1_; clear hb ho7; obtain ⟨Ao8, co8, eo8⟩ := Kd.R_slice HO276.out; subst eo8) | ((with_reducible refine gate_callee (f := 35) rfl ?_); refine goesL_ (some 11) rfl rfl Try.func35 (by kernel_rfl) rfl #[.slice A0 l0.length c0, .slice Ao8 y274.length co8] rfl (by (try simp only [List.map_toArray, List.map_cons, List.map_nil]); first | done | rfl | (simp only [List.length_drop, List.length_take]; rfl)) ?_; (with_reducible refine (dom_in.calls k _ _ l0 _ _ y274 true _ ?side1 ?side2 ?side3 ?side4 A4.out).mono ?_); (case side1 => exact CX_ (Kd.C_below HR0.out HB.out)); (case side2 => exact HC0.out); (case side3 => repeat (first | exact (Kd.R_reads' HO276.out).2.2 | (with_reducible refine Kd.C_alloc ?_ _) | (with_reducible refine Kd.C_drewN ?_ _) | (with_reducible refine Kd.C_drew ?_))); (case side4 => exact (Kd.R_reads' HO276.out).2.1); rintro e w9 ⟨rfl, hb⟩; refine ⟨_, rfl, ?_⟩; have n0_ := Aside0.mk (Kd.R_below (by exact RX_ HO276.out) hb); have n1_ := Aside0.mk (below_step (B_) hb); clear HO276; clear HB; have HO276 := n0_; have HB := n1_; clear n0_ n1_; (try clear hb); (try clear hb2); (try clear hk); (try clear hi)))
  go_loopg [1, 2] k (fun kq v1 v2 w' => ∃ (x1_1 : Int) (x2_1 : Int), v1 = .int .i64 x1_1 ∧ v2 = .int .i64 x2_1 ∧ Aside0 (dom_Meet.l0 kq l0 x1_1 x2_1 = some r) ∧ Aside0 (kq ≤ k) ∧ Aside0 (Below w.heap.size w w'))
  case atStart => exact ⟨(a1), (a2), (by first | rfl | (simp; done) | (simp [*]; done)), (by first | rfl | (simp; done) | (simp [*]; done)), H', ⟨Nat.le_refl _⟩, ⟨B_⟩⟩
  case round =>
   clear H'
   try clear c5
   obtain ⟨x1_1, x2_1, rfl, rfl, HA, HK1, HB⟩ := hrel
   cases gk with
   | zero => exact absurd HA.out (by simp [dom_Meet.l0])
   | succ k1 =>
    have H := HA.out
    clear HA
    simp only [dom_Meet.l0] at H
    by_cases c10 : x1_1 = x2_1
    ·rw [if_pos c10] at H
     have c10b0 : (x1_1 == x2_1) = true := beq_iff_eq.mpr c10
     have c10b1 : (x1_1 != x2_1) = false := bne_eq_false_iff_eq.mpr c10
     clear c10
     obtain rfl := Option.some.inj H
     go_wp2
     go_ret
     exact ⟨by first | rfl | (simp [errW_none, errW_some] <;> rfl) | (simp [*, errW_none, errW_some] <;> rfl), B_⟩
    rw [if_neg c10] at H
    have c10b0 : (x1_1 == x2_1) = false := beq_eq_false_iff_ne.mpr c10
    have c10b1 : (x1_1 != x2_1) = true := bne_iff_ne.mpr c10
    replace H := Option.bind_eq_some_iff.mp H
    obtain ⟨t278, A110, H⟩ := H
    replace H : ((dom_depth.f k1 l0 x2_1).bind fun t279 => (if t278 ≥ t279 then (if 0 ≤ x1_1 then (if x1_1 < (l0.length : Int) then (dom_Meet.l0 k1 l0 (rd l0 x1_1) x2_1) else (none)) else (none)) else (if 0 ≤ x2_1 then (if x2_1 < (l0.length : Int) then (dom_Meet.l0 k1 l0 x1_1 (rd l0 x2_1)) else (none)) else (none)))) = some r := H
    have A11 := Aside0.mk A110
    clear A110
    replace H := Option.bind_eq_some_iff.mp H
    obtain ⟨t279, A120, H⟩ := H
    replace H : (if t278 ≥ t279 then (if 0 ≤ x1_1 then (if x1_1 < (l0.length : Int) then (dom_Meet.l0 k1 l0 (rd l0 x1_1) x2_1) else (none)) else (none)) else (if 0 ≤ x2_1 then (if x2_1 < (l0.length : Int) then (dom_Meet.l0 k1 l0 x1_1 (rd l0 x2_1)) else (none)) else (none))) = some r := H
    have A12 := Aside0.mk A120
    clear A120
    by_cases c13 : t278 ≥ t279
    ·rw [if_pos c13] at H
     have c13b0 : decide (t279 ≤ t278) = true := decide_eq_true c13
     clear c13
     by_cases c14 : 0 ≤ x1_1
     ·rw [if_pos c14] at H
      have c14b0 : decide (0 ≤ x1_1) = true := decide_eq_true c14
      clear c14
      by_cases c15 : x1_1 < (l0.length : Int)
      ·rw [if_pos c15] at H
       have c15b0 : decide (x1_1 < (l0.length : Int)) = true := decide_eq_true c15
       clear c15
       have H' := Aside0.mk H
       clear H
       go_wp2_with (first | ((with_reducible refine gate_callee (f := 42) rfl ?_); refine goesL_ (some 18) rfl rfl Try.func42 (by kernel_rfl) rfl #[.slice A0 l0.length c0, .int .i64 x1_1] rfl (by (try simp only [List.map_toArray, List.map_cons, List.map_nil]); first | done | rfl | (simp only [List.length_drop, List.length_take]; rfl)) ?_; (with_reducible refine (dom_depth.calls k1 _ _ l0 x1_1 t278 _ ?side1 ?side2 A11.out).mono ?_); (case side1 => exact CX_ (Kd.C_below HR0.out HB.out)); (case side2 => exact HC0.out); rintro e w' ⟨rfl, ⟨nd, rfl⟩⟩; refine ⟨_, rfl, ?_⟩) | ((with_reducible refine gate_callee (f := 42) rfl ?_); refine goesL_ (some 21) rfl rfl Try.func42 (by kernel_rfl) rfl #[.slice A0 l0.length c0, .int .i64 x2_1] rfl (by (try simp only [List.map_toArray, List.map_cons, List.map_nil]); first | done | rfl | (simp only [List.length_drop, List.length_take]; rfl)) ?_; (with_reducible refine (dom_depth.calls k1 _ _ l0 x2_1 t279 _ ?side1 ?side2 A12.out).mono ?_); (case side1 => repeat (first | exact (Kd.C_below HR0.out (B_)) | (with_reducible refine Kd.C_alloc ?_ _) | (with_reducible refine Kd.C_drewN ?_ _) | (with_reducible refine Kd.C_drew ?_))); (case side2 => exact HC0.out); rintro e w' ⟨rfl, ⟨nd, rfl⟩⟩; refine ⟨_, rfl, ?_⟩; have p280 : 0 ≤ (x1_1 : Int) := D_; have q280 : x1_1 < (l0.length : Int) := D_; obtain ⟨ad280, e280, hx280_0⟩ := Kd.at_int HR0.out x1_1 p280 q280; cases e280; replace hx280_0 := (HB.out.cell (World.block_lt_of_cell? w _ hx280_0)).trans hx280_0; replace p280 := eq_true p280; replace q280 := eq_true q280))
       go_roundg k1
       case measure => have := HK1.out; omega
       case rel => exact ⟨(rd l0 x1_1), (x2_1), (by first | rfl | (simp; done) | (simp [*]; done)), (by first | rfl | (simp; done) | (simp [*]; done)), H', ⟨by have := HK1.out; omega⟩, ⟨B_⟩⟩
      rw [if_neg c15] at H
      exact absurd H (by simp)
     rw [if_neg c14] at H
     exact absurd H (by simp)
    rw [if_neg c13] at H
    have c13b0 : decide (t279 ≤ t278) = false := decide_eq_false c13
    clear c13
    by_cases c16 : 0 ≤ x2_1
    ·rw [if_pos c16] at H
     have c16b0 : decide (0 ≤ x2_1) = true := decide_eq_true c16
     clear c16
     by_cases c17 : x2_1 < (l0.length : Int)
     ·rw [if_pos c17] at H
      have c17b0 : decide (x2_1 < (l0.length : Int)) = true := decide_eq_true c17
      clear c17
      have H' := Aside0.mk H
      clear H
      go_wp2_with (first | ((with_reducible refine gate_callee (f := 42) rfl ?_); refine goesL_ (some 18) rfl rfl Try.func42 (by kernel_rfl) rfl #[.slice A0 l0.length c0, .int .i64 x1_1] rfl (by (try simp only [List.map_toArray, List.map_cons, List.map_nil]); first | done | rfl | (simp only [List.length_drop, List.length_take]; rfl)) ?_; (with_reducible refine (dom_depth.calls k1 _ _ l0 x1_1 t278 _ ?side1 ?side2 A11.out).mono ?_); (case side1 => exact CX_ (Kd.C_below HR0.out HB.out)); (case side2 => exact HC0.out); rintro e w' ⟨rfl, ⟨nd, rfl⟩⟩; refine ⟨_, rfl, ?_⟩) | ((with_reducible refine gate_callee (f := 42) rfl ?_); refine goesL_ (some 21) rfl rfl Try.func42 (by kernel_rfl) rfl #[.slice A0 l0.length c0, .int .i64 x2_1] rfl (by (try simp only [List.map_toArray, List.map_cons, List.map_nil]); first | done | rfl | (simp only [List.length_drop, List.length_take]; rfl)) ?_; (with_reducible refine (dom_depth.calls k1 _ _ l0 x2_1 t279 _ ?side1 ?side2 A12.out).mono ?_); (case side1 => repeat (first | exact (Kd.C_below HR0.out (B_)) | (with_reducible refine Kd.C_alloc ?_ _) | (with_reducible refine Kd.C_drewN ?_ _) | (with_reducible refine Kd.C_drew ?_))); (case side2 => exact HC0.out); rintro e w' ⟨rfl, ⟨nd, rfl⟩⟩; refine ⟨_, rfl, ?_⟩; have p281 : 0 ≤ (x2_1 : Int) := D_; have q281 : x2_1 < (l0.length : Int) := D_; obtain ⟨ad281, e281, hx281_0⟩ := Kd.at_int HR0.out x2_1 p281 q281; cases e281; replace hx281_0 := (HB.out.cell (World.block_lt_of_cell? w _ hx281_0)).trans hx281_0; replace p281 := eq_true p281; replace q281 := eq_true q281))
      go_roundg k1
      case measure => have := HK1.out; omega
      case rel => exact ⟨(x1_1), (rd l0 x2_1), (by first | rfl | (simp; done) | (simp [*]; done)), (by first | rfl | (simp; done) | (simp [*]; done)), H', ⟨by have := HK1.out; omega⟩, ⟨B_⟩⟩
     rw [if_neg c17] at H
     exact absurd H (by simp)
    rw [if_neg c16] at H
    exact absurd H (by simp)
 replace c5 := Bool.eq_false_iff.mpr c5
 subst c5
 have H1 : (some (-2)) = some r := by rw [if_neg (show ¬ (false = true) by decide)] at H; exact H
 clear H
 have H := H1
 clear H1
 obtain rfl := Option.some.inj H
 go_enter Try.func36, Try.ntmps36
 go_wp2_with (first | ((with_reducible refine gate_dst (N := 10) rfl ?_); refine Kd.R_lit (Kd.int .i64) _ 3 ?hg (N := 10) ?hd (xs := ([a1, a2] : List Int)) (inner := [.int .i64 a1, .int .i64 a2]) (ok := fun _ => True) (okp := fun _ => True) ?hr ?hp (fun _ hk => hk) trivial (Below.refl _ _) (Nat.le_refl _) (by simp) ?_; (case hd => rfl); (case hg => rfl); (case hr => first | (go_simp; done) | (go_simp; rfl)); (case hp => exact (Reps.one (show Kd.M (Kd.int .i64) _ _ _ a1 [.int .i64 a1] from rfl) (Reps.one (show Kd.M (Kd.int .i64) _ _ _ a2 [.int .i64 a2] from rfl) (Reps.none _ _)))); intro v275 w18 ho19 hb hg_ hnew_; clear hg_ hnew_; (first | rw [← Ny274.out] at ho19 | (simp only [Int.reduceToNat] at ho19; rw [← Ny274.out] at ho19)); have n0_ := Aside0.mk (Kd.R_lower ho19 (below_size (B_))); have n1_ := Aside0.mk (below_step (B_) hb); clear HB; have HO276 := n0_; have HB := n1_; clear n0_ n1_; clear hb ho19; obtain ⟨Ao20, co20, eo20⟩ := Kd.R_slice HO276.out; subst eo20) | ((with_reducible refine gate_callee (f := 35) rfl ?_); refine goesL_ (some 11) rfl rfl Try.func35 (by kernel_rfl) rfl #[.slice A0 l0.length c0, .slice Ao20 y274.length co20] rfl (by (try simp only [List.map_toArray, List.map_cons, List.map_nil]); first | done | rfl | (simp only [List.length_drop, List.length_take]; rfl)) ?_; (with_reducible refine (dom_in.calls k _ _ l0 _ _ y274 false _ ?side1 ?side2 ?side3 ?side4 A4.out).mono ?_); (case side1 => exact CX_ (Kd.C_below HR0.out HB.out)); (case side2 => exact HC0.out); (case side3 => repeat (first | exact (Kd.R_reads' HO276.out).2.2 | (with_reducible refine Kd.C_alloc ?_ _) | (with_reducible refine Kd.C_drewN ?_ _) | (with_reducible refine Kd.C_drew ?_))); (case side4 => exact (Kd.R_reads' HO276.out).2.1); rintro e w21 ⟨rfl, hb⟩; refine ⟨_, rfl, ?_⟩; have n0_ := Aside0.mk (Kd.R_below (by exact RX_ HO276.out) hb); have n1_ := Aside0.mk (below_step (B_) hb); clear HO276; clear HB; have HO276 := n0_; have HB := n1_; clear n0_ n1_; (try clear hb); (try clear hb2); (try clear hk); (try clear hi)))
 go_ret
 exact ⟨by first | rfl | (simp [errW_none, errW_some] <;> rfl) | (simp [*, errW_none, errW_some] <;> rfl), B_⟩


/-! ### dom_Over: function 28 -/
def dom_Over.f (k : Nat) (l0 : List Int) (a1 : Int) (a2 : Int) : Option (Bool) := (dom_in.f k l0 (([a1, a2] : List Int))).bind fun t285 => (if t285 = true then ((dom_Meet.f k l0 a1 a2).bind fun t286 => (some (t286 == a1))) else (some false))
theorem dom_Over.mono : ∀ a0 a1 a2 k, LeO (dom_Over.f k a0 a1 a2) (dom_Over.f (k + 1) a0 a1 a2) := by
 intro a0 a1 a2 k
 unfold dom_Over.f
 repeat' first
  | (with_reducible exact dom_Meet.mono _ _ _ _)
  | (with_reducible exact dom_in.mono _ _ _)
  | (with_reducible exact LeO.refl _)
  | (with_reducible exact LeO.none _)
  | (with_reducible refine LeO.ite ?_ ?_)
  | (with_reducible refine LeO.bind ?_ (fun _ => ?_))
  | exact dom_Meet.mono _ _ _ _
  | exact dom_in.mono _ _ _
  | exact LeO.none _
  | refine LeO.ite ?_ ?_
  | refine LeO.bind ?_ (fun _ => ?_)
set_option maxHeartbeats 8000000 in
set_option maxRecDepth 100000 in
theorem dom_Over.calls (k : Nat) (A0 : Option Addr) (c0 : Nat) (l0 : List Int) (a1 : Int) (a2 : Int) (r : Bool) (w : World) (hr0 : Kd.C (Kd.int .i64) w A0 l0.length l0) (hc0 : l0.length ≤ c0) (h : dom_Over.f k l0 a1 a2 = some r) :
 Calls Try.prog 28 #[.slice A0 l0.length c0, .int .i64 a1, .int .i64 a2] w fun e w' => e = .returned (.bool r) ∧ Below w.heap.size w w' := by
 have HR0 := Aside0.mk hr0
 have HC0 := Aside0.mk hc0
 clear hr0 hc0
 have HB := Aside0.mk (Below.refl w.heap.size w)
 have H : ((dom_in.f k l0 (([a1, a2] : List Int))).bind fun t285 => (if t285 = true then ((dom_Meet.f k l0 a1 a2).bind fun t286 => (some (t286 == a1))) else (some false))) = some r := h
 clear h
 obtain ⟨y282, hy282⟩ : ∃ y_ : List Int, y_ = (([a1, a2] : List Int)) := ⟨_, rfl⟩
 replace H : ((dom_in.f k l0 y282).bind fun t285 => (if t285 = true then ((dom_Meet.f k l0 a1 a2).bind fun t286 => (some (t286 == a1))) else (some false))) = some r := by first | (rw [hy282]; with_reducible exact H) | (have H2_ := (Option.bind_some _ _).symm.trans H; rw [hy282]; with_reducible exact H2_) | (have H2_ := (Option.bind_some _ _).symm.trans H; with_reducible exact H2_) | with_reducible exact H | (rw [hy282]; exact H) | exact H
 have Ny282 := Aside0.mk hy282
 clear hy282
 replace H := Option.bind_eq_some_iff.mp H
 obtain ⟨t285, A40, H⟩ := H
 replace H : (if t285 = true then ((dom_Meet.f k l0 a1 a2).bind fun t286 => (some (t286 == a1))) else (some false)) = some r := H
 have A4 := Aside0.mk A40
 clear A40
 by_cases c5 : t285 = true
 ·subst c5
  have H1 : ((dom_Meet.f k l0 a1 a2).bind fun t286 => (some (t286 == a1))) = some r := by rw [if_pos rfl] at H; exact H
  clear H
  have H := H1
  clear H1
  replace H := Option.bind_eq_some_iff.mp H
  obtain ⟨t286, A60, H⟩ := H
  replace H : (some (t286 == a1)) = some r := H
  have A6 := Aside0.mk A60
  clear A60
  obtain rfl := Option.some.inj H
  go_enter Try.func28, Try.ntmps28
  go_wp2_with (first | ((with_reducible refine gate_dst (N := 10) rfl ?_); refine Kd.R_lit (Kd.int .i64) _ 3 ?hg (N := 10) ?hd (xs := ([a1, a2] : List Int)) (inner := [.int .i64 a1, .int .i64 a2]) (ok := fun _ => True) (okp := fun _ => True) ?hr ?hp (fun _ hk => hk) trivial (Below.refl _ _) (Nat.le_refl _) (by simp) ?_; (case hd => rfl); (case hg => rfl); (case hr => first | (go_simp; done) | (go_simp; rfl)); (case hp => exact (Reps.one (show Kd.M (Kd.int .i64) _ _ _ a1 [.int .i64 a1] from rfl) (Reps.one (show Kd.M (Kd.int .i64) _ _ _ a2 [.int .i64 a2] from rfl) (Reps.none _ _)))); intro v283 w7 ho8 hb hg_ hnew_; clear hg_ hnew_; (first | rw [← Ny282.out] at ho8 | (simp only [Int.reduceToNat] at ho8; rw [← Ny282.out] at ho8)); have n0_ := Aside0.mk (Kd.R_lower ho8 (below_size (B_))); have n1_ := Aside0.mk (below_step (B_) hb); clear HB; have HO284 := n0_; have HB := n1_; clear n0_ n1_; clear hb ho8; obtain ⟨Ao9, co9, eo9⟩ := Kd.R_slice HO284.out; subst eo9) | ((with_reducible refine gate_callee (f := 35) rfl ?_); refine goesL_ (some 11) rfl rfl Try.func35 (by kernel_rfl) rfl #[.slice A0 l0.length c0, .slice Ao9 y282.length co9] rfl (by (try simp only [List.map_toArray, List.map_cons, List.map_nil]); first | done | rfl | (simp only [List.length_drop, List.length_take]; rfl)) ?_; (with_reducible refine (dom_in.calls k _ _ l0 _ _ y282 true _ ?side1 ?side2 ?side3 ?side4 A4.out).mono ?_); (case side1 => exact CX_ (Kd.C_below HR0.out HB.out)); (case side2 => exact HC0.out); (case side3 => repeat (first | exact (Kd.R_reads' HO284.out).2.2 | (with_reducible refine Kd.C_alloc ?_ _) | (with_reducible refine Kd.C_drewN ?_ _) | (with_reducible refine Kd.C_drew ?_))); (case side4 => exact (Kd.R_reads' HO284.out).2.1); rintro e w10 ⟨rfl, hb⟩; refine ⟨_, rfl, ?_⟩; have n0_ := Aside0.mk (Kd.R_below (by exact RX_ HO284.out) hb); have n1_ := Aside0.mk (below_step (B_) hb); clear HO284; clear HB; have HO284 := n0_; have HB := n1_; clear n0_ n1_; (try clear hb); (try clear hb2); (try clear hk); (try clear hi)) | (go_at_call 36; (with_reducible refine (dom_Meet.calls k _ _ l0 a1 a2 t286 _ ?side1 ?side2 A6.out).mono ?_); (case side1 => exact CX_ (Kd.C_below HR0.out HB.out)); (case side2 => exact HC0.out); rintro e w11 ⟨rfl, hb⟩; have n0_ := Aside0.mk (Kd.R_below (by exact RX_ HO284.out) hb); have n1_ := Aside0.mk (below_step (B_) hb); clear HO284; clear HB; have HO284 := n0_; have HB := n1_; clear n0_ n1_; (try clear hb); (try clear hb2); (try clear hk); (try clear hi)))
  go_ret
  exact ⟨by first | rfl | (simp [errW_none, errW_some] <;> rfl) | (simp [*, errW_none, errW_some] <;> rfl), B_⟩
 replace c5 := Bool.eq_false_iff.mpr c5
 subst c5
 have H1 : (some false) = some r := by rw [if_neg (show ¬ (false = true) by decide)] at H; exact H
 clear H
 have H := H1
 clear H1
 obtain rfl := Option.some.inj H
 go_enter Try.func28, Try.ntmps28
 go_wp2_with (first | ((with_reducible refine gate_dst (N := 10) rfl ?_); refine Kd.R_lit (Kd.int .i64) _ 3 ?hg (N := 10) ?hd (xs := ([a1, a2] : List Int)) (inner := [.int .i64 a1, .int .i64 a2]) (ok := fun _ => True) (okp := fun _ => True) ?hr ?hp (fun _ hk => hk) trivial (Below.refl _ _) (Nat.le_refl _) (by simp) ?_; (case hd => rfl); (case hg => rfl); (case hr => first | (go_simp; done) | (go_simp; rfl)); (case hp => exact (Reps.one (show Kd.M (Kd.int .i64) _ _ _ a1 [.int .i64 a1] from rfl) (Reps.one (show Kd.M (Kd.int .i64) _ _ _ a2 [.int .i64 a2] from rfl) (Reps.none _ _)))); intro v283 w12 ho13 hb hg_ hnew_; clear hg_ hnew_; (first | rw [← Ny282.out] at ho13 | (simp only [Int.reduceToNat] at ho13; rw [← Ny282.out] at ho13)); have n0_ := Aside0.mk (Kd.R_lower ho13 (below_size (B_))); have n1_ := Aside0.mk (below_step (B_) hb); clear HB; have HO284 := n0_; have HB := n1_; clear n0_ n1_; clear hb ho13; obtain ⟨Ao14, co14, eo14⟩ := Kd.R_slice HO284.out; subst eo14) | ((with_reducible refine gate_callee (f := 35) rfl ?_); refine goesL_ (some 11) rfl rfl Try.func35 (by kernel_rfl) rfl #[.slice A0 l0.length c0, .slice Ao14 y282.length co14] rfl (by (try simp only [List.map_toArray, List.map_cons, List.map_nil]); first | done | rfl | (simp only [List.length_drop, List.length_take]; rfl)) ?_; (with_reducible refine (dom_in.calls k _ _ l0 _ _ y282 false _ ?side1 ?side2 ?side3 ?side4 A4.out).mono ?_); (case side1 => exact CX_ (Kd.C_below HR0.out HB.out)); (case side2 => exact HC0.out); (case side3 => repeat (first | exact (Kd.R_reads' HO284.out).2.2 | (with_reducible refine Kd.C_alloc ?_ _) | (with_reducible refine Kd.C_drewN ?_ _) | (with_reducible refine Kd.C_drew ?_))); (case side4 => exact (Kd.R_reads' HO284.out).2.1); rintro e w15 ⟨rfl, hb⟩; refine ⟨_, rfl, ?_⟩; have n0_ := Aside0.mk (Kd.R_below (by exact RX_ HO284.out) hb); have n1_ := Aside0.mk (below_step (B_) hb); clear HO284; clear HB; have HO284 := n0_; have HB := n1_; clear n0_ n1_; (try clear hb); (try clear hb2); (try clear hk); (try clear hi)))
 go_ret
 exact ⟨by first | rfl | (simp [errW_none, errW_some] <;> rfl) | (simp [*, errW_none, errW_some] <;> rfl), B_⟩

/-! ### pdom_Over: function 13 -/
def pdom_Over.f (k : Nat) (l0 : List Int) (a1 : Int) (a2 : Int) : Option (Bool) := (dom_Over.f k l0 a1 a2).bind fun t287 => (some t287)
theorem pdom_Over.mono : ∀ a0 a1 a2 k, LeO (pdom_Over.f k a0 a1 a2) (pdom_Over.f (k + 1) a0 a1 a2) := by
 intro a0 a1 a2 k
 unfold pdom_Over.f
 repeat' first
  | (with_reducible exact dom_Over.mono _ _ _ _)
  | (with_reducible exact LeO.refl _)
  | (with_reducible exact LeO.none _)
  | (with_reducible refine LeO.ite ?_ ?_)
  | (with_reducible refine LeO.bind ?_ (fun _ => ?_))
  | exact dom_Over.mono _ _ _ _
  | exact LeO.none _
  | refine LeO.ite ?_ ?_
  | refine LeO.bind ?_ (fun _ => ?_)
set_option maxHeartbeats 8000000 in
set_option maxRecDepth 100000 in
theorem pdom_Over.calls (k : Nat) (A0 : Option Addr) (c0 : Nat) (l0 : List Int) (a1 : Int) (a2 : Int) (r : Bool) (w : World) (hr0 : Kd.C (Kd.int .i64) w A0 l0.length l0) (hc0 : l0.length ≤ c0) (h : pdom_Over.f k l0 a1 a2 = some r) :
 Calls Try.prog 13 #[.slice A0 l0.length c0, .int .i64 a1, .int .i64 a2] w fun e w' => e = .returned (.bool r) ∧ Below w.heap.size w w' := by
 have HR0 := Aside0.mk hr0
 have HC0 := Aside0.mk hc0
 clear hr0 hc0
 have HB := Aside0.mk (Below.refl w.heap.size w)
 have H : ((dom_Over.f k l0 a1 a2).bind fun t287 => (some t287)) = some r := h
 clear h
 replace H := Option.bind_eq_some_iff.mp H
 obtain ⟨t287, A40, H⟩ := H
 replace H : (some t287) = some r := H
 have A4 := Aside0.mk A40
 clear A40
 obtain rfl := Option.some.inj H
 go_enter Try.func13, Try.ntmps13
 go_wp2_with (first | ((with_reducible refine gate_callee (f := 28) rfl ?_); refine goesL_ (some 10) rfl rfl Try.func28 (by kernel_rfl) rfl #[.slice A0 l0.length c0, .int .i64 a1, .int .i64 a2] rfl (by (try simp only [List.map_toArray, List.map_cons, List.map_nil]); first | done | rfl | (simp only [List.length_drop, List.length_take]; rfl)) ?_; (with_reducible refine (dom_Over.calls k _ _ l0 a1 a2 t287 _ ?side1 ?side2 A4.out).mono ?_); (case side1 => exact CX_ HR0.out); (case side2 => exact HC0.out); rintro e w5 ⟨rfl, hb⟩; refine ⟨_, rfl, ?_⟩; have n0_ := Aside0.mk (below_step (B_) hb); clear HB; have HB := n0_; clear n0_; (try clear hb); (try clear hb2); (try clear hk); (try clear hi)))
 go_ret
 exact ⟨by first | rfl | (simp [errW_none, errW_some] <;> rfl) | (simp [*, errW_none, errW_some] <;> rfl), B_⟩


/-! ### pdom_Shut: function 14 -/
-- needs HArr
def pdom_Shut.l0 : Nat → List (List Int) → List Bool → List Int → Int → Option (List Int)
 | 0, _, _, _, _ => none
 | k + 1, x0, m, o, i => if i < (x0.length : Int) then (if 0 ≤ i then (if i < 64 then (if rdOf false m i = true then (pdom_Shut.l0 k x0 m o (wrap64 (i + 1))) else (if o.length < 17592186044416 then (pdom_Shut.l0 k x0 m (o ++ [i]) (wrap64 (i + 1))) else none)) else none) else none) else some o
def pdom_Shut.f (k : Nat) (l0_0 : List (List Int)) (l0_1 : List (List Int)) : Option (List Int) := (graph_May.f k l0_0 l0_1).bind fun t => if t = true then ((pdom_ends.f k l0_0 l0_1).bind fun e => (pdom_back.f k l0_0 l0_1 e).bind fun m => pdom_Shut.l0 k l0_0 m [] 0) else some []
theorem pdom_Shut.mono_l : ∀ k y0 y1 y2 y3, LeO (pdom_Shut.l0 k y0 y1 y2 y3) (pdom_Shut.l0 (k + 1) y0 y1 y2 y3)
 | 0 => fun _ _ _ _ r h => by simp [pdom_Shut.l0] at h
 | k + 1 => by
  have ih0 := pdom_Shut.mono_l k
  intro y0 y1 y2 y3
  unfold pdom_Shut.l0
  repeat' first
   | (with_reducible exact ih0 _ _ _ _)
   | (with_reducible exact LeO.refl _)
   | (with_reducible exact LeO.none _)
   | (with_reducible refine LeO.ite ?_ ?_)
theorem pdom_Shut.mono : ∀ a0 a1 k, LeO (pdom_Shut.f k a0 a1) (pdom_Shut.f (k + 1) a0 a1) := by
 intro a0 a1 k
 unfold pdom_Shut.f
 exact LeO.bind (graph_May.mono _ _ _) (fun _ => LeO.ite (LeO.bind (pdom_ends.mono _ _ _) (fun _ => LeO.bind (pdom_back.mono _ _ _ _) (fun _ => pdom_Shut.mono_l _ _ _ _ _))) (LeO.refl _))
set_option maxHeartbeats 8000000 in
set_option maxRecDepth 100000 in
theorem pdom_Shut.calls (k : Nat) (A0_0 : Option Addr) (c0_0 : Nat) (l0_0 : List (List Int)) (A0_1 : Option Addr) (c0_1 : Nat) (l0_1 : List (List Int)) (r : List Int) (w : World) (hr0_0 : Kd.C (Kd.slice 3 (Kd.int .i64)) w A0_0 l0_0.length l0_0) (hc0_0 : l0_0.length ≤ c0_0) (hr0_1 : Kd.C (Kd.slice 3 (Kd.int .i64)) w A0_1 l0_1.length l0_1) (hc0_1 : l0_1.length ≤ c0_1) (h : pdom_Shut.f k l0_0 l0_1 = some r) :
 Calls Try.prog 14 #[.agg #[.slice A0_0 l0_0.length c0_0, .slice A0_1 l0_1.length c0_1]] w fun e w' => ∃ v0_ : Value, e = .returned (v0_) ∧ Kd.R (Kd.int .i64) 3 w' w.heap.size (fun _ => True) v0_ r ∧ Below w.heap.size w w' := by
 have HB := Aside0.mk (Below.refl w.heap.size w)
 have HR0_0 := Aside0.mk hr0_0
 have HC0_0 := Aside0.mk hc0_0
 have HR0_1 := Aside0.mk hr0_1
 have HC0_1 := Aside0.mk hc0_1
 have H : ((graph_May.f k l0_0 l0_1).bind fun t => if t = true then ((pdom_ends.f k l0_0 l0_1).bind fun e => (pdom_back.f k l0_0 l0_1 e).bind fun m => pdom_Shut.l0 k l0_0 m [] 0) else some []) = some r := h
 clear h hr0_0 hc0_0 hr0_1 hc0_1
 replace H := Option.bind_eq_some_iff.mp H
 obtain ⟨t1, A1_, H⟩ := H
 have A1 := Aside0.mk A1_
 clear A1_
 go_enter Try.func14, Try.ntmps14
 go_upto_region 1 with (first
  | ((with_reducible refine gate_dst (N := 1) rfl ?_); refine box_event ?hg (N := 1) ?hd (cs := #[.slice A0_0 l0_0.length c0_0, .slice A0_1 l0_1.length c0_1]) (t := 26) ?hr ?_; (case hd => rfl); (case hg => rfl); (case hr => first | (go_simp; done) | (go_simp; rfl)); intro g1 hg w1 hbox hb; have n0_ := Aside0.mk (below_step (B_) hb); have n1_ := Aside0.mk hbox; clear HB; have HB := n0_; have BK1 := n1_; clear n0_ n1_ hb hbox hg))
 have hcz1_0 : w1.cell? ⟨g1, 0, none⟩ = some (.slice A0_0 l0_0.length c0_0) := (blk_cell BK1.out 0).trans rfl
 have hcz1_1 : w1.cell? ⟨g1, 1, none⟩ = some (.slice A0_1 l0_1.length c0_1) := (blk_cell BK1.out 1).trans rfl
 by_cases c7 : t1 = true
 ·subst c7
  replace H : ((pdom_ends.f k l0_0 l0_1).bind fun e => (pdom_back.f k l0_0 l0_1 e).bind fun m => pdom_Shut.l0 k l0_0 m [] 0) = some r := by rw [if_pos rfl] at H; exact H
  replace H := Option.bind_eq_some_iff.mp H
  obtain ⟨e1, A2_, H⟩ := H
  replace H := Option.bind_eq_some_iff.mp H
  obtain ⟨m, A3_, H⟩ := H
  have A2 := Aside0.mk A2_
  have A3 := Aside0.mk A3_
  have HE := Aside0.mk (pdom_ends.len A2_)
  have HM := Aside0.mk ((pdom_back.len A3_).trans (pdom_ends.len A2_))
  clear A2_ A3_
  have H' := Aside0.mk H
  clear H
  go_wp2_with (first | (go_at_call 24; (with_reducible refine (graph_May.calls k _ _ l0_0 _ _ l0_1 true _ ?side1 ?side2 ?side3 ?side4 A1.out).mono ?_); (case side1 => exact Kd.C_below HR0_0.out (B_)); (case side2 => exact HC0_0.out); (case side3 => exact Kd.C_below HR0_1.out (B_)); (case side4 => exact HC0_1.out); rintro e w2 ⟨rfl, hb⟩; have n0_ := Aside0.mk (blk_below (g := g1) (o := .cells #[.slice A0_0 l0_0.length c0_0, .slice A0_1 l0_1.length c0_1] 26 (0, 0)) (by exact KX_ BK1.out) hb); have n1_ := Aside0.mk (below_step (B_) hb); clear BK1 HB hcz1_0 hcz1_1; have BK1 := n0_; have HB := n1_; clear n0_ n1_ hb; have hcz1_0 : w2.cell? ⟨g1, 0, none⟩ = some (.slice A0_0 l0_0.length c0_0) := (blk_cell BK1.out 0).trans rfl; have hcz1_1 : w2.cell? ⟨g1, 1, none⟩ = some (.slice A0_1 l0_1.length c0_1) := (blk_cell BK1.out 1).trans rfl))
  go_cut [3] (fun v3 wc => ∃ (g3 : Nat), v3 = .pointer (some ⟨g3, 0, none⟩) ∧ Aside0 (wc.heap[g1]? = some (.cells #[.slice A0_0 l0_0.length c0_0, .slice A0_1 l0_1.length c0_1] 26 (0, 0))) ∧ Aside0 (wc.heap[g3]? = some (.cells (AV m) 47 (0, 0))) ∧ Aside0 (Below w.heap.size w wc))
  case first =>
   have hsz_ : (AV m).size = 64 := (av_size m).trans HM.out
   have hal0 : ∀ o, (w2.drew.alloc o).cell? ⟨g1, 0, none⟩ = some (.slice A0_0 l0_0.length c0_0) := fun o => (blk_cell (blk_alloc (blk_drew BK1.out) o) 0).trans rfl
   have hal1 : ∀ o, (w2.drew.alloc o).cell? ⟨g1, 1, none⟩ = some (.slice A0_1 l0_1.length c0_1) := fun o => (blk_cell (blk_alloc (blk_drew BK1.out) o) 1).trans rfl
   have hal2 : ∀ o, (w2.alloc o).drew.cell? ⟨g1, 0, none⟩ = some (.slice A0_0 l0_0.length c0_0) := fun o => (blk_cell (blk_drew (blk_alloc BK1.out o)) 0).trans rfl
   have hal3 : ∀ o, (w2.alloc o).drew.cell? ⟨g1, 1, none⟩ = some (.slice A0_1 l0_1.length c0_1) := fun o => (blk_cell (blk_drew (blk_alloc BK1.out o)) 1).trans rfl
   go_region_with (first
    | (go_at_call 25; (with_reducible refine (pdom_ends.calls k _ _ l0_0 _ _ l0_1 e1 _ ?side1 ?side2 A2.out).mono ?_); (case side1 => exact Kd.C_below HR0_0.out (B_)); (case side2 => exact HC0_0.out); rintro e w3 ⟨rfl, hb⟩; (try (have m0_ := Aside0.mk (blk_below BK3.out hb); clear BK3; have BK3 := m0_; clear m0_)); (try (have m0_ := Aside0.mk (blk_below (blk_drew (blk_new _ _)) hb); have GE3 := Aside0.mk (below_size HB.out); have NB3 := Aside0.mk (Nat.ne_of_lt (blk_lt BK1.out)); have BK3 := m0_; clear m0_)); (try (have m0_ := Aside0.mk (blk_below (blk_new _ _) hb); have GE3 := Aside0.mk (below_size HB.out); have NB3 := Aside0.mk (Nat.ne_of_lt (blk_lt BK1.out)); have BK3 := m0_; clear m0_)); have n0_ := Aside0.mk (blk_below (g := g1) (o := (.cells #[.slice A0_0 l0_0.length c0_0, .slice A0_1 l0_1.length c0_1] 26 (0, 0))) (by exact KX_ BK1.out) hb); have n1_ := Aside0.mk (below_step (B_) hb); clear BK1 HB hcz1_0 hcz1_1; have BK1 := n0_; have HB := n1_; clear n0_ n1_ hb; have hcz1_0 : w3.cell? ⟨g1, 0, none⟩ = some (.slice A0_0 l0_0.length c0_0) := (blk_cell BK1.out 0).trans rfl; have hcz1_1 : w3.cell? ⟨g1, 1, none⟩ = some (.slice A0_1 l0_1.length c0_1) := (blk_cell BK1.out 1).trans rfl; have hbl0 : ∀ o, (w3.alloc o).cell? ⟨g1, 0, none⟩ = some (.slice A0_0 l0_0.length c0_0) := fun o => (blk_cell (blk_alloc BK1.out o) 0).trans rfl; have hbl1 : ∀ o, (w3.alloc o).cell? ⟨g1, 1, none⟩ = some (.slice A0_1 l0_1.length c0_1) := fun o => (blk_cell (blk_alloc BK1.out o) 1).trans rfl)
    | (go_at_call 26; (with_reducible refine (pdom_back.calls k _ _ l0_0 _ _ l0_1 e1 m _ ?side1 ?side2 ?side3 A3.out).mono ?_); (case side1 => exact Kd.C_below HR0_1.out (B_)); (case side2 => exact HC0_1.out); (case side3 => exact HE.out); rintro e w4 ⟨rfl, hb⟩; (try (have m0_ := Aside0.mk (blk_below BK3.out hb); clear BK3; have BK3 := m0_; clear m0_)); (try (have m0_ := Aside0.mk (blk_below (blk_drew (blk_new _ _)) hb); have GE3 := Aside0.mk (below_size HB.out); have NB3 := Aside0.mk (Nat.ne_of_lt (blk_lt BK1.out)); have BK3 := m0_; clear m0_)); (try (have m0_ := Aside0.mk (blk_below (blk_new _ _) hb); have GE3 := Aside0.mk (below_size HB.out); have NB3 := Aside0.mk (Nat.ne_of_lt (blk_lt BK1.out)); have BK3 := m0_; clear m0_)); have n0_ := Aside0.mk (blk_below (g := g1) (o := (.cells #[.slice A0_0 l0_0.length c0_0, .slice A0_1 l0_1.length c0_1] 26 (0, 0))) (by exact KX_ BK1.out) hb); have n1_ := Aside0.mk (below_step (B_) hb); clear BK1 HB hcz1_0 hcz1_1; have BK1 := n0_; have HB := n1_; clear n0_ n1_ hb; have hcz1_0 : w4.cell? ⟨g1, 0, none⟩ = some (.slice A0_0 l0_0.length c0_0) := (blk_cell BK1.out 0).trans rfl; have hcz1_1 : w4.cell? ⟨g1, 1, none⟩ = some (.slice A0_1 l0_1.length c0_1) := (blk_cell BK1.out 1).trans rfl)
    | (first | rw [av_cells (t := 47) (by first | exact blk_new _ _ | exact BK3.out) (by rw [HM.out]; rfl)] | rw [av_cells (g := w2.heap.size) (t := 47) BK3.out (by rw [HM.out]; rfl)]))
   all_goals ((try go_wp2); go_meet; (case rel => exact ⟨_, by first | rfl | (simp; done), ⟨blk_row (by exact KX_ BK1.out) (by first | exact NB3.out | exact Nat.ne_of_lt (blk_lt BK1.out)) _⟩, ⟨setRow_heap _ _ _ _ _ _ (by first | exact blk_new _ _ | exact BK3.out)⟩, ⟨below_setRow (B_) (by first | exact GE3.out | exact below_size HB.out) _⟩⟩))
  case rest =>
   clear BK1 HB hcz1_0 hcz1_1
   obtain ⟨g3, rfl, BK1, BK3, HB⟩ := hcut
   have hcz1_0 : wc.cell? ⟨g1, 0, none⟩ = some (.slice A0_0 l0_0.length c0_0) := (blk_cell BK1.out 0).trans rfl
   have hfz1_0 := blk_frozen BK1.out 0
   go_wp2
   go_loopg [4, 16] k (fun kq v4 v16 w' => ∃ (o : List Int) (i : Int), v16 = .int .i64 i ∧ Aside0 (pdom_Shut.l0 kq l0_0 m o i = some r) ∧ Aside0 (kq ≤ k) ∧ Aside0 (Kd.R (Kd.int .i64) 3 w' w.heap.size (fun _ => True) v4 o) ∧ Aside0 (w'.heap[g1]? = some (.cells #[.slice A0_0 l0_0.length c0_0, .slice A0_1 l0_1.length c0_1] 26 (0, 0))) ∧ Aside0 (w'.heap[g3]? = some (.cells (AV m) 47 (0, 0))) ∧ Aside0 (Below w.heap.size w w'))
   case atStart => exact ⟨[], 0, (by first | rfl | (simp; done) | (simp [*]; done)), H', ⟨Nat.le_refl _⟩, ⟨Kd.R_nil _ _ _ _ _⟩, ⟨KX_ BK1.out⟩, ⟨KX_ BK3.out⟩, ⟨B_⟩⟩
   case round =>
    clear H' BK1 BK3 HB hcz1_0 hfz1_0
    obtain ⟨o, i, rfl, HA, HK1, HO4, BK1, BK3, HB⟩ := hrel
    cases gk with
    | zero => exact absurd HA.out (by simp [pdom_Shut.l0])
    | succ k1 =>
     have H := HA.out
     clear HA
     simp only [pdom_Shut.l0] at H
     by_cases c6 : i < (l0_0.length : Int)
     ·rw [if_pos c6] at H
      have c6b0 : decide (i < (l0_0.length : Int)) = true := decide_eq_true c6
      clear c6
      by_cases c7 : 0 ≤ i
      ·rw [if_pos c7] at H
       have C7 := Aside0.mk c7
       have p7 := eq_true c7
       clear c7
       by_cases c8 : i < 64
       ·rw [if_pos c8] at H
        have C8 := Aside0.mk c8
        clear c8
        have q64 : (i < (64 : Int)) = True := eq_true C8.out
        have hx3 := av_cell BK3.out i (by rw [HM.out]; exact C8.out) C7.out
        by_cases c9 : rdOf false m i = true
        ·rw [if_pos c9] at H
         rw [c9] at hx3
         clear c9
         have H' := Aside0.mk H
         clear H
         go_wp2
         go_roundg k1
         case measure => have := HK1.out; omega
         case rel => exact ⟨_, (wrap64 (i + 1)), (by first | rfl | (simp; done) | (simp [*]; done)), H', ⟨by have := HK1.out; omega⟩, ⟨RX_ HO4.out⟩, ⟨KX_ BK1.out⟩, ⟨KX_ BK3.out⟩, ⟨B_⟩⟩
        rw [if_neg c9] at H
        rw [Bool.eq_false_iff.mpr c9] at hx3
        clear c9
        by_cases c10 : o.length < 17592186044416
        ·rw [if_pos c10] at H
         have LM := Aside0.mk c10
         clear c10
         have H' := Aside0.mk H
         clear H
         go_wp2_with (first
          | ((with_reducible refine gate_builtin (b := .append) (xs := #[.tmp 23, .tmp 25]) rfl ?_); at_builtin; refine Kd.R_append (Kd.int .i64) (w0 := w) w.heap.size rfl (.tmp 23) (.tmp 25) 30 3 (.int .i64 0) 8 rfl Try.underlying30 info3 rfl (by decide) (by omega) u4 o i [.int .i64 i] (fun _ => True) (fun _ => False) rfl rfl ?aP (fun _ hk => hk.elim) ?aF ?aO ?aB ?aS ?aL ?_; (case aP => exact rfl); (case aB => exact (B1_)); (case aF => exact (fun _ _ => trivial)); (case aO => exact (by exact RX_ HO4.out)); (case aS => exact (below_size (B1_))); (case aL => have := LM.out; omega); intro v5 w4 ho hb hg hat; have n0_ := Aside0.mk (blk_grown (g := g1) (o := (.cells #[.slice A0_0 l0_0.length c0_0, .slice A0_1 l0_1.length c0_1] 26 (0, 0))) (by exact KX_ BK1.out) hg (Kd.R_ne HO4.out BK1.out (by decide))); have n2_ := Aside0.mk (blk_grown (g := g3) (o := .cells (AV m) 47 (0, 0)) (by exact KX_ BK3.out) hg (Kd.R_ne HO4.out BK3.out (by decide))); have n3_ := Aside0.mk hb; have n4_ := Aside0.mk ho; clear BK1 BK3 HB HO4; have BK1 := n0_; have BK3 := n2_; have HB := n3_; have HO4 := n4_; clear n0_ n2_ n3_ n4_ ho hb hg hat hx3))
         go_roundg k1
         case measure => have := HK1.out; omega
         case rel => exact ⟨_, (wrap64 (i + 1)), (by first | rfl | (simp; done) | (simp [*]; done)), H', ⟨by have := HK1.out; omega⟩, ⟨RX_ HO4.out⟩, ⟨KX_ BK1.out⟩, ⟨KX_ BK3.out⟩, ⟨B_⟩⟩
        rw [if_neg c10] at H
        exact absurd H (by simp)
       rw [if_neg c8] at H
       exact absurd H (by simp)
      rw [if_neg c7] at H
      exact absurd H (by simp)
     rw [if_neg c6] at H
     have c6b0 : decide (i < (l0_0.length : Int)) = false := decide_eq_false c6
     clear c6
     obtain rfl := Option.some.inj H
     go_wp2
     go_ret
     exact ⟨_, by first | rfl | (simp; done), RX_ HO4.out, B_⟩
 replace c7 := Bool.eq_false_iff.mpr c7
 subst c7
 replace H : some [] = some r := by rw [if_neg (show ¬ (false = true) by decide)] at H; exact H
 obtain rfl := Option.some.inj H
 clear H
 go_wp2_with (first | (go_at_call 24; (with_reducible refine (graph_May.calls k _ _ l0_0 _ _ l0_1 false _ ?side1 ?side2 ?side3 ?side4 A1.out).mono ?_); (case side1 => exact Kd.C_below HR0_0.out (B_)); (case side2 => exact HC0_0.out); (case side3 => exact Kd.C_below HR0_1.out (B_)); (case side4 => exact HC0_1.out); rintro e w2 ⟨rfl, hb⟩; have n1_ := Aside0.mk (below_step (B_) hb); clear BK1 HB hcz1_0 hcz1_1; have HB := n1_; clear n1_ hb))
 go_ret
 exact ⟨_, rfl, Kd.R_nil _ _ _ _ _, B_⟩


/-! ### lockstepref02_Ints: function 16 -/
def lockstepref02_Ints.l0 : Nat → List Int → List Int → Int → Option (Bool)
 | 0, _, _, _ => none
 | k + 1, x0, x1, x5 => if x5 < (x0.length : Int) then (if 0 ≤ x5 then (if x5 < (x1.length : Int) then (if (rd x0 x5) = (rd x1 x5) then (lockstepref02_Ints.l0 k x0 x1 (wrap64 (x5 + 1))) else (some false)) else (none)) else (none)) else (some true)
def lockstepref02_Ints.f (k : Nat) (l0 : List Int) (l1 : List Int) : Option (Bool) := if (l0.length : Int) = (l1.length : Int) then (lockstepref02_Ints.l0 k l0 l1 0) else (some false)
theorem lockstepref02_Ints.mono_l : ∀ k, (∀ y0 y1 y2, LeO (lockstepref02_Ints.l0 k y0 y1 y2) (lockstepref02_Ints.l0 (k + 1) y0 y1 y2))
 | 0 => fun _ _ _ r h => by simp [lockstepref02_Ints.l0] at h
 | k + 1 => by
  have ih0 := lockstepref02_Ints.mono_l k
  ·intro y0 y1 y2
   unfold lockstepref02_Ints.l0
   repeat' first
   | (with_reducible exact ih0 _ _ _)
   | (with_reducible exact LeO.refl _)
   | (with_reducible exact LeO.none _)
   | (with_reducible refine LeO.ite ?_ ?_)
   | (with_reducible refine LeO.bind ?_ (fun _ => ?_))
   | exact ih0 _ _ _
   | exact LeO.none _
   | refine LeO.ite ?_ ?_
   | refine LeO.bind ?_ (fun _ => ?_)
theorem lockstepref02_Ints.mono : ∀ a0 a1 k, LeO (lockstepref02_Ints.f k a0 a1) (lockstepref02_Ints.f (k + 1) a0 a1) := by
 intro a0 a1 k
 have ih0 := lockstepref02_Ints.mono_l k
 unfold lockstepref02_Ints.f
 repeat' first
  | (with_reducible exact ih0 _ _ _)
  | (with_reducible exact LeO.refl _)
  | (with_reducible exact LeO.none _)
  | (with_reducible refine LeO.ite ?_ ?_)
  | (with_reducible refine LeO.bind ?_ (fun _ => ?_))
  | exact ih0 _ _ _
  | exact LeO.none _
  | refine LeO.ite ?_ ?_
  | refine LeO.bind ?_ (fun _ => ?_)
set_option maxHeartbeats 8000000 in
set_option maxRecDepth 100000 in
theorem lockstepref02_Ints.calls (k : Nat) (A0 : Option Addr) (c0 : Nat) (l0 : List Int) (A1 : Option Addr) (c1 : Nat) (l1 : List Int) (r : Bool) (w : World) (hr0 : Kd.C (Kd.int .i64) w A0 l0.length l0) (hc0 : l0.length ≤ c0) (hr1 : Kd.C (Kd.int .i64) w A1 l1.length l1) (hc1 : l1.length ≤ c1) (h : lockstepref02_Ints.f k l0 l1 = some r) :
 Calls Try.prog 16 #[.slice A0 l0.length c0, .slice A1 l1.length c1] w fun e w' => e = .returned (.bool r) ∧ Drawn0 w w' := by
 have HR0 := Aside0.mk hr0
 have HC0 := Aside0.mk hc0
 clear hr0 hc0
 have HR1 := Aside0.mk hr1
 have HC1 := Aside0.mk hc1
 clear hr1 hc1
 have H : (if (l0.length : Int) = (l1.length : Int) then (lockstepref02_Ints.l0 k l0 l1 0) else (some false)) = some r := h
 clear h
 by_cases c3 : (l0.length : Int) = (l1.length : Int)
 ·rw [if_pos c3] at H
  have c3b0 : ((l0.length : Int) == (l1.length : Int)) = true := beq_iff_eq.mpr c3
  have c3b1 : ((l0.length : Int) != (l1.length : Int)) = false := bne_eq_false_iff_eq.mpr c3
  have c3b2 : (l0.length == l1.length) = true := by first | simpa using c3 | (simp at c3 ⊢; omega)
  clear c3
  have H' := Aside0.mk H
  clear H
  go_enter Try.func16, Try.ntmps16
  go_wp2
  repeat (go_quiet (fail); try go_wp2)
  go_loopg [5] k (fun kq v5 w' => ∃ (x5_1 : Int), v5 = .int .i64 x5_1 ∧ Aside0 (lockstepref02_Ints.l0 kq l0 l1 x5_1 = some r) ∧ Aside0 (kq ≤ k) ∧ Drawn0 w w')
  case atStart => exact ⟨(0), (by first | rfl | (simp; done) | (simp [*]; done)), H', ⟨Nat.le_refl _⟩, by repeat (first | exact Drawn0.refl _ | apply Drawn0.step)⟩
  case round =>
   clear H'
   try clear c1
   try clear c3b0
   try clear c3b1
   try clear c3b2
   obtain ⟨x5_1, rfl, HA, HK1, ⟨m1, rfl⟩⟩ := hrel
   cases gk with
   | zero => exact absurd HA.out (by simp [lockstepref02_Ints.l0])
   | succ k1 =>
    have H := HA.out
    clear HA
    simp only [lockstepref02_Ints.l0] at H
    by_cases c4 : x5_1 < (l0.length : Int)
    ·rw [if_pos c4] at H
     have c4b0 : decide (x5_1 < (l0.length : Int)) = true := decide_eq_true c4
     clear c4
     by_cases c5 : 0 ≤ x5_1
     ·rw [if_pos c5] at H
      have c5b0 : decide (0 ≤ x5_1) = true := decide_eq_true c5
      clear c5
      by_cases c6 : x5_1 < (l1.length : Int)
      ·rw [if_pos c6] at H
       have c6b0 : decide (x5_1 < (l1.length : Int)) = true := decide_eq_true c6
       clear c6
       by_cases c7 : (rd l0 x5_1) = (rd l1 x5_1)
       ·rw [if_pos c7] at H
        have c7b0 : ((rd l0 x5_1) == (rd l1 x5_1)) = true := beq_iff_eq.mpr c7
        have c7b1 : ((rd l0 x5_1) != (rd l1 x5_1)) = false := bne_eq_false_iff_eq.mpr c7
        clear c7
        have H' := Aside0.mk H
        clear H
        have p288 : 0 ≤ (x5_1 : Int) := D_
        have q288 : x5_1 < (l0.length : Int) := D_
        obtain ⟨ad288, e288, hx288_0⟩ := Kd.at_int HR0.out x5_1 p288 q288
        cases e288
        replace p288 := eq_true p288
        replace q288 := eq_true q288
        have p289 : 0 ≤ (x5_1 : Int) := D_
        have q289 : x5_1 < (l1.length : Int) := D_
        obtain ⟨ad289, e289, hx289_0⟩ := Kd.at_int HR1.out x5_1 p289 q289
        cases e289
        replace p289 := eq_true p289
        replace q289 := eq_true q289
        go_wp2
        repeat (go_quiet (fail); try go_wp2)
        go_roundg k1
        case measure => have := HK1.out; omega
        case rel => exact ⟨(wrap64 (x5_1 + 1)), (by first | rfl | (simp; done) | (simp [*]; done)), H', ⟨by have := HK1.out; omega⟩, by repeat (first | exact Drawn0.refl _ | apply Drawn0.step)⟩
       rw [if_neg c7] at H
       have c7b0 : ((rd l0 x5_1) == (rd l1 x5_1)) = false := beq_eq_false_iff_ne.mpr c7
       have c7b1 : ((rd l0 x5_1) != (rd l1 x5_1)) = true := bne_iff_ne.mpr c7
       obtain rfl := Option.some.inj H
       have p288 : 0 ≤ (x5_1 : Int) := D_
       have q288 : x5_1 < (l0.length : Int) := D_
       obtain ⟨ad288, e288, hx288_0⟩ := Kd.at_int HR0.out x5_1 p288 q288
       cases e288
       replace p288 := eq_true p288
       replace q288 := eq_true q288
       have p289 : 0 ≤ (x5_1 : Int) := D_
       have q289 : x5_1 < (l1.length : Int) := D_
       obtain ⟨ad289, e289, hx289_0⟩ := Kd.at_int HR1.out x5_1 p289 q289
       cases e289
       replace p289 := eq_true p289
       replace q289 := eq_true q289
       go_wp2
       repeat (go_quiet (fail); try go_wp2)
       go_ret
       exact ⟨by first | rfl | (simp; done) | (simp [*]; done), by repeat (first | exact Drawn0.refl _ | apply Drawn0.step)⟩
      rw [if_neg c6] at H
      exact absurd H (by simp)
     rw [if_neg c5] at H
     exact absurd H (by simp)
    rw [if_neg c4] at H
    have c4b0 : decide (x5_1 < (l0.length : Int)) = false := decide_eq_false c4
    clear c4
    obtain rfl := Option.some.inj H
    go_wp2
    repeat (go_quiet (fail); try go_wp2)
    go_ret
    exact ⟨by first | rfl | (simp; done) | (simp [*]; done), by repeat (first | exact Drawn0.refl _ | apply Drawn0.step)⟩
 rw [if_neg c3] at H
 have c3b0 : ((l0.length : Int) == (l1.length : Int)) = false := beq_eq_false_iff_ne.mpr c3
 have c3b1 : ((l0.length : Int) != (l1.length : Int)) = true := bne_iff_ne.mpr c3
 have c3b2 : (l0.length == l1.length) = false := by first | simpa using c3 | (simp at c3 ⊢; omega)
 obtain rfl := Option.some.inj H
 go_enter Try.func16, Try.ntmps16
 go_wp2
 repeat (go_quiet (fail); try go_wp2)
 go_ret
 exact ⟨by first | rfl | (simp; done) | (simp [*]; done), by repeat (first | exact Drawn0.refl _ | apply Drawn0.step)⟩


/-! ### locksteplaw08_awake: function 7 -/
def locksteplaw08_awake.f (k : Nat)  : Option (Bool) := (graph_Make.f k (([(([1, 2] : List Int)), (([3] : List Int)), (([3] : List Int)), []] : List (List Int)))).bind fun bt302 => ((pdom_Exit.f k bt302.1 bt302.2.1).bind fun bt310 => ((pdom_Tree.f k bt302.1 bt302.2.1).bind fun t318 => (if bt302.2.2 = 0 then (if bt310.2.2 = 0 then (if (bt310.1.length : Int) = 5 then (if 3 < (bt310.1.length : Int) then (if ((rd_L1 bt310.1 3).length : Int) = 1 then (if 0 < ((rd_L1 bt310.1 3).length : Int) then (if (rd (rd_L1 bt310.1 3) 0) = 4 then ((lockstepref02_Ints.f k t318 (([3, 3, 3, 4, (-1)] : List Int))).bind fun t327 => (if t327 = true then ((pdom_Over.f k t318 3 0).bind fun t328 => (if t328 = true then ((pdom_Shut.f k bt302.1 bt302.2.1).bind fun t329 => (some ((t329.length : Int) == 0))) else (some false))) else (some false))) else (some false)) else (none)) else (some false)) else (none)) else (some false)) else (some false)) else (some false))))
theorem locksteplaw08_awake.mono : ∀ k, LeO (locksteplaw08_awake.f k ) (locksteplaw08_awake.f (k + 1) ) := by
 intro  k
 unfold locksteplaw08_awake.f
 repeat' first
  | (with_reducible exact graph_Make.mono _ _)
  | (with_reducible exact lockstepref02_Ints.mono _ _ _)
  | (with_reducible exact pdom_Exit.mono _ _ _)
  | (with_reducible exact pdom_Over.mono _ _ _ _)
  | (with_reducible exact pdom_Shut.mono _ _ _)
  | (with_reducible exact pdom_Tree.mono _ _ _)
  | (with_reducible exact LeO.refl _)
  | (with_reducible exact LeO.none _)
  | (with_reducible refine LeO.ite ?_ ?_)
  | (with_reducible refine LeO.bind ?_ (fun _ => ?_))
  | exact graph_Make.mono _ _
  | exact lockstepref02_Ints.mono _ _ _
  | exact pdom_Exit.mono _ _ _
  | exact pdom_Over.mono _ _ _ _
  | exact pdom_Shut.mono _ _ _
  | exact pdom_Tree.mono _ _ _
  | exact LeO.none _
  | refine LeO.ite ?_ ?_
  | refine LeO.bind ?_ (fun _ => ?_)
set_option maxHeartbeats 8000000 in
set_option maxRecDepth 100000 in
theorem locksteplaw08_awake.calls (k : Nat)  (w : World) (h : locksteplaw08_awake.f k  = some true) :
 Calls Try.prog 7 #[] w fun e w' => e = .returned (.bool true) ∧ Below w.heap.size w w' := by
 have hu26 := Try.underlying26
 have HB := Aside0.mk (Below.refl w.heap.size w)
 have H : ((graph_Make.f k (([(([1, 2] : List Int)), (([3] : List Int)), (([3] : List Int)), []] : List (List Int)))).bind fun bt302 => ((pdom_Exit.f k bt302.1 bt302.2.1).bind fun bt310 => ((pdom_Tree.f k bt302.1 bt302.2.1).bind fun t318 => (if bt302.2.2 = 0 then (if bt310.2.2 = 0 then (if (bt310.1.length : Int) = 5 then (if 3 < (bt310.1.length : Int) then (if ((rd_L1 bt310.1 3).length : Int) = 1 then (if 0 < ((rd_L1 bt310.1 3).length : Int) then (if (rd (rd_L1 bt310.1 3) 0) = 4 then ((lockstepref02_Ints.f k t318 (([3, 3, 3, 4, (-1)] : List Int))).bind fun t327 => (if t327 = true then ((pdom_Over.f k t318 3 0).bind fun t328 => (if t328 = true then ((pdom_Shut.f k bt302.1 bt302.2.1).bind fun t329 => (some ((t329.length : Int) == 0))) else (some false))) else (some false))) else (some false)) else (none)) else (some false)) else (none)) else (some false)) else (some false)) else (some false))))) = some true := h
 clear h
 obtain ⟨y290, hy290⟩ : ∃ y_ : List Int, y_ = (([1, 2] : List Int)) := ⟨_, rfl⟩
 replace H : ((graph_Make.f k (([y290, (([3] : List Int)), (([3] : List Int)), []] : List (List Int)))).bind fun bt302 => ((pdom_Exit.f k bt302.1 bt302.2.1).bind fun bt310 => ((pdom_Tree.f k bt302.1 bt302.2.1).bind fun t318 => (if bt302.2.2 = 0 then (if bt310.2.2 = 0 then (if (bt310.1.length : Int) = 5 then (if 3 < (bt310.1.length : Int) then (if ((rd_L1 bt310.1 3).length : Int) = 1 then (if 0 < ((rd_L1 bt310.1 3).length : Int) then (if (rd (rd_L1 bt310.1 3) 0) = 4 then ((lockstepref02_Ints.f k t318 (([3, 3, 3, 4, (-1)] : List Int))).bind fun t327 => (if t327 = true then ((pdom_Over.f k t318 3 0).bind fun t328 => (if t328 = true then ((pdom_Shut.f k bt302.1 bt302.2.1).bind fun t329 => (some ((t329.length : Int) == 0))) else (some false))) else (some false))) else (some false)) else (none)) else (some false)) else (none)) else (some false)) else (some false)) else (some false))))) = some true := by first | (rw [hy290]; with_reducible exact H) | (have H2_ := (Option.bind_some _ _).symm.trans H; rw [hy290]; with_reducible exact H2_) | (have H2_ := (Option.bind_some _ _).symm.trans H; with_reducible exact H2_) | with_reducible exact H | (rw [hy290]; exact H) | exact H
 have Ny290 := Aside0.mk hy290
 clear hy290
 obtain ⟨y293, hy293⟩ : ∃ y_ : List Int, y_ = (([3] : List Int)) := ⟨_, rfl⟩
 replace H : ((graph_Make.f k (([y290, y293, (([3] : List Int)), []] : List (List Int)))).bind fun bt302 => ((pdom_Exit.f k bt302.1 bt302.2.1).bind fun bt310 => ((pdom_Tree.f k bt302.1 bt302.2.1).bind fun t318 => (if bt302.2.2 = 0 then (if bt310.2.2 = 0 then (if (bt310.1.length : Int) = 5 then (if 3 < (bt310.1.length : Int) then (if ((rd_L1 bt310.1 3).length : Int) = 1 then (if 0 < ((rd_L1 bt310.1 3).length : Int) then (if (rd (rd_L1 bt310.1 3) 0) = 4 then ((lockstepref02_Ints.f k t318 (([3, 3, 3, 4, (-1)] : List Int))).bind fun t327 => (if t327 = true then ((pdom_Over.f k t318 3 0).bind fun t328 => (if t328 = true then ((pdom_Shut.f k bt302.1 bt302.2.1).bind fun t329 => (some ((t329.length : Int) == 0))) else (some false))) else (some false))) else (some false)) else (none)) else (some false)) else (none)) else (some false)) else (some false)) else (some false))))) = some true := by first | (rw [hy293]; with_reducible exact H) | (have H2_ := (Option.bind_some _ _).symm.trans H; rw [hy293]; with_reducible exact H2_) | (have H2_ := (Option.bind_some _ _).symm.trans H; with_reducible exact H2_) | with_reducible exact H | (rw [hy293]; exact H) | exact H
 have Ny293 := Aside0.mk hy293
 clear hy293
 obtain ⟨y296, hy296⟩ : ∃ y_ : List Int, y_ = (([3] : List Int)) := ⟨_, rfl⟩
 replace H : ((graph_Make.f k (([y290, y293, y296, []] : List (List Int)))).bind fun bt302 => ((pdom_Exit.f k bt302.1 bt302.2.1).bind fun bt310 => ((pdom_Tree.f k bt302.1 bt302.2.1).bind fun t318 => (if bt302.2.2 = 0 then (if bt310.2.2 = 0 then (if (bt310.1.length : Int) = 5 then (if 3 < (bt310.1.length : Int) then (if ((rd_L1 bt310.1 3).length : Int) = 1 then (if 0 < ((rd_L1 bt310.1 3).length : Int) then (if (rd (rd_L1 bt310.1 3) 0) = 4 then ((lockstepref02_Ints.f k t318 (([3, 3, 3, 4, (-1)] : List Int))).bind fun t327 => (if t327 = true then ((pdom_Over.f k t318 3 0).bind fun t328 => (if t328 = true then ((pdom_Shut.f k bt302.1 bt302.2.1).bind fun t329 => (some ((t329.length : Int) == 0))) else (some false))) else (some false))) else (some false)) else (none)) else (some false)) else (none)) else (some false)) else (some false)) else (some false))))) = some true := by first | (rw [hy296]; with_reducible exact H) | (have H2_ := (Option.bind_some _ _).symm.trans H; rw [hy296]; with_reducible exact H2_) | (have H2_ := (Option.bind_some _ _).symm.trans H; with_reducible exact H2_) | with_reducible exact H | (rw [hy296]; exact H) | exact H
 have Ny296 := Aside0.mk hy296
 clear hy296
 obtain ⟨y299, hy299⟩ : ∃ y_ : List (List Int), y_ = (([y290, y293, y296, []] : List (List Int))) := ⟨_, rfl⟩
 replace H : ((graph_Make.f k y299).bind fun bt302 => ((pdom_Exit.f k bt302.1 bt302.2.1).bind fun bt310 => ((pdom_Tree.f k bt302.1 bt302.2.1).bind fun t318 => (if bt302.2.2 = 0 then (if bt310.2.2 = 0 then (if (bt310.1.length : Int) = 5 then (if 3 < (bt310.1.length : Int) then (if ((rd_L1 bt310.1 3).length : Int) = 1 then (if 0 < ((rd_L1 bt310.1 3).length : Int) then (if (rd (rd_L1 bt310.1 3) 0) = 4 then ((lockstepref02_Ints.f k t318 (([3, 3, 3, 4, (-1)] : List Int))).bind fun t327 => (if t327 = true then ((pdom_Over.f k t318 3 0).bind fun t328 => (if t328 = true then ((pdom_Shut.f k bt302.1 bt302.2.1).bind fun t329 => (some ((t329.length : Int) == 0))) else (some false))) else (some false))) else (some false)) else (none)) else (some false)) else (none)) else (some false)) else (some false)) else (some false))))) = some true := by first | (rw [hy299]; with_reducible exact H) | (have H2_ := (Option.bind_some _ _).symm.trans H; rw [hy299]; with_reducible exact H2_) | (have H2_ := (Option.bind_some _ _).symm.trans H; with_reducible exact H2_) | with_reducible exact H | (rw [hy299]; exact H) | exact H
 have Ny299 := Aside0.mk hy299
 clear hy299
 replace H := Option.bind_eq_some_iff.mp H
 obtain ⟨⟨t302, t305, t308⟩, A10, H⟩ := H
 replace H : ((pdom_Exit.f k t302 t305).bind fun bt310 => ((pdom_Tree.f k t302 t305).bind fun t318 => (if t308 = 0 then (if bt310.2.2 = 0 then (if (bt310.1.length : Int) = 5 then (if 3 < (bt310.1.length : Int) then (if ((rd_L1 bt310.1 3).length : Int) = 1 then (if 0 < ((rd_L1 bt310.1 3).length : Int) then (if (rd (rd_L1 bt310.1 3) 0) = 4 then ((lockstepref02_Ints.f k t318 (([3, 3, 3, 4, (-1)] : List Int))).bind fun t327 => (if t327 = true then ((pdom_Over.f k t318 3 0).bind fun t328 => (if t328 = true then ((pdom_Shut.f k t302 t305).bind fun t329 => (some ((t329.length : Int) == 0))) else (some false))) else (some false))) else (some false)) else (none)) else (some false)) else (none)) else (some false)) else (some false)) else (some false)))) = some true := H
 have A1 := Aside0.mk A10
 clear A10
 replace H := Option.bind_eq_some_iff.mp H
 obtain ⟨⟨t310, t313, t316⟩, A20, H⟩ := H
 replace H : ((pdom_Tree.f k t302 t305).bind fun t318 => (if t308 = 0 then (if t316 = 0 then (if (t310.length : Int) = 5 then (if 3 < (t310.length : Int) then (if ((rd_L1 t310 3).length : Int) = 1 then (if 0 < ((rd_L1 t310 3).length : Int) then (if (rd (rd_L1 t310 3) 0) = 4 then ((lockstepref02_Ints.f k t318 (([3, 3, 3, 4, (-1)] : List Int))).bind fun t327 => (if t327 = true then ((pdom_Over.f k t318 3 0).bind fun t328 => (if t328 = true then ((pdom_Shut.f k t302 t305).bind fun t329 => (some ((t329.length : Int) == 0))) else (some false))) else (some false))) else (some false)) else (none)) else (some false)) else (none)) else (some false)) else (some false)) else (some false))) = some true := H
 have A2 := Aside0.mk A20
 clear A20
 replace H := Option.bind_eq_some_iff.mp H
 obtain ⟨t318, A30, H⟩ := H
 replace H : (if t308 = 0 then (if t316 = 0 then (if (t310.length : Int) = 5 then (if 3 < (t310.length : Int) then (if ((rd_L1 t310 3).length : Int) = 1 then (if 0 < ((rd_L1 t310 3).length : Int) then (if (rd (rd_L1 t310 3) 0) = 4 then ((lockstepref02_Ints.f k t318 (([3, 3, 3, 4, (-1)] : List Int))).bind fun t327 => (if t327 = true then ((pdom_Over.f k t318 3 0).bind fun t328 => (if t328 = true then ((pdom_Shut.f k t302 t305).bind fun t329 => (some ((t329.length : Int) == 0))) else (some false))) else (some false))) else (some false)) else (none)) else (some false)) else (none)) else (some false)) else (some false)) else (some false)) = some true := H
 have A3 := Aside0.mk A30
 clear A30
 by_cases c4 : t308 = 0
 ·rw [if_pos c4] at H
  have c4b0 : (t308 == 0) = true := beq_iff_eq.mpr c4
  have c4b1 : (t308 != 0) = false := bne_eq_false_iff_eq.mpr c4
  clear c4
  by_cases c5 : t316 = 0
  ·rw [if_pos c5] at H
   have c5b0 : (t316 == 0) = true := beq_iff_eq.mpr c5
   have c5b1 : (t316 != 0) = false := bne_eq_false_iff_eq.mpr c5
   clear c5
   by_cases c6 : (t310.length : Int) = 5
   ·rw [if_pos c6] at H
    have c6b0 : ((t310.length : Int) == 5) = true := beq_iff_eq.mpr c6
    have c6b1 : ((t310.length : Int) != 5) = false := bne_eq_false_iff_eq.mpr c6
    clear c6
    by_cases c7 : 3 < (t310.length : Int)
    ·rw [if_pos c7] at H
     have c7b0 : decide (3 < (t310.length : Int)) = true := decide_eq_true c7
     have c7b1 : decide (3 < t310.length) = true := decide_eq_true (by omega)
     clear c7
     by_cases c8 : ((rd_L1 t310 3).length : Int) = 1
     ·rw [if_pos c8] at H
      have c8b0 : (((rd_L1 t310 3).length : Int) == 1) = true := beq_iff_eq.mpr c8
      have c8b1 : (((rd_L1 t310 3).length : Int) != 1) = false := bne_eq_false_iff_eq.mpr c8
      clear c8
      by_cases c9 : 0 < ((rd_L1 t310 3).length : Int)
      ·rw [if_pos c9] at H
       have c9b0 : decide (0 < ((rd_L1 t310 3).length : Int)) = true := decide_eq_true c9
       have c9b1 : decide (0 < (rd_L1 t310 3).length) = true := decide_eq_true (by omega)
       clear c9
       by_cases c10 : (rd (rd_L1 t310 3) 0) = 4
       ·rw [if_pos c10] at H
        have c10b0 : ((rd (rd_L1 t310 3) 0) == 4) = true := beq_iff_eq.mpr c10
        have c10b1 : ((rd (rd_L1 t310 3) 0) != 4) = false := bne_eq_false_iff_eq.mpr c10
        clear c10
        obtain ⟨y324, hy324⟩ : ∃ y_ : List Int, y_ = (([3, 3, 3, 4, (-1)] : List Int)) := ⟨_, rfl⟩
        replace H : ((lockstepref02_Ints.f k t318 y324).bind fun t327 => (if t327 = true then ((pdom_Over.f k t318 3 0).bind fun t328 => (if t328 = true then ((pdom_Shut.f k t302 t305).bind fun t329 => (some ((t329.length : Int) == 0))) else (some false))) else (some false))) = some true := by first | (rw [hy324]; with_reducible exact H) | (have H2_ := (Option.bind_some _ _).symm.trans H; rw [hy324]; with_reducible exact H2_) | (have H2_ := (Option.bind_some _ _).symm.trans H; with_reducible exact H2_) | with_reducible exact H | (rw [hy324]; exact H) | exact H
        have Ny324 := Aside0.mk hy324
        clear hy324
        replace H := Option.bind_eq_some_iff.mp H
        obtain ⟨t327, A110, H⟩ := H
        replace H : (if t327 = true then ((pdom_Over.f k t318 3 0).bind fun t328 => (if t328 = true then ((pdom_Shut.f k t302 t305).bind fun t329 => (some ((t329.length : Int) == 0))) else (some false))) else (some false)) = some true := H
        have A11 := Aside0.mk A110
        clear A110
        by_cases c12 : t327 = true
        ·subst c12
         have H1 : ((pdom_Over.f k t318 3 0).bind fun t328 => (if t328 = true then ((pdom_Shut.f k t302 t305).bind fun t329 => (some ((t329.length : Int) == 0))) else (some false))) = some true := by rw [if_pos rfl] at H; exact H
         clear H
         have H := H1
         clear H1
         replace H := Option.bind_eq_some_iff.mp H
         obtain ⟨t328, A130, H⟩ := H
         replace H : (if t328 = true then ((pdom_Shut.f k t302 t305).bind fun t329 => (some ((t329.length : Int) == 0))) else (some false)) = some true := H
         have A13 := Aside0.mk A130
         clear A130
         by_cases c14 : t328 = true
         ·subst c14
          have H1 : ((pdom_Shut.f k t302 t305).bind fun t329 => (some ((t329.length : Int) == 0))) = some true := by rw [if_pos rfl] at H; exact H
          clear H
          have H := H1
          clear H1
          replace H := Option.bind_eq_some_iff.mp H
          obtain ⟨t329, A150, H⟩ := H
          replace H : (some ((t329.length : Int) == 0)) = some true := H
          have A15 := Aside0.mk A150
          clear A150
          have HR_ := Aside0.mk (Option.some.inj H)
          clear H
          go_enter Try.func7, Try.ntmps7
          go_wp2_with (first | ((with_reducible refine gate_dst (N := 7) rfl ?_); (try (refine gate_guard (by rfl) ?_; dsimp only)); refine Kd.R_lit (Kd.int .i64) _ 3 ?hg (N := 7) ?hd (xs := ([1, 2] : List Int)) (inner := [.int .i64 1, .int .i64 2]) (ok := fun _ => True) (okp := fun _ => True) ?hr ?hp (fun _ hk => hk) trivial (Below.refl _ _) (Nat.le_refl _) (by simp) ?_; (case hd => rfl); (case hg => rfl); (case hr => first | (go_simp; done) | (go_simp; rfl)); (case hp => exact (Reps.one (show Kd.M (Kd.int .i64) _ _ _ 1 [.int .i64 1] from rfl) (Reps.one (show Kd.M (Kd.int .i64) _ _ _ 2 [.int .i64 2] from rfl) (Reps.none _ _)))); intro v291 w16 ho17 hb hg_ hnew_; clear hg_ hnew_; (first | rw [← Ny290.out] at ho17 | (simp only [Int.reduceToNat] at ho17; rw [← Ny290.out] at ho17)); have n0_ := Aside0.mk (Kd.R_lower ho17 (below_size (B_))); have n1_ := Aside0.mk (below_step (B_) hb); clear HB; have HO292 := n0_; have HB := n1_; clear n0_ n1_; clear hb ho17) | ((with_reducible refine gate_dst (N := 8) rfl ?_); (try (refine gate_guard (by rfl) ?_; dsimp only)); refine Kd.R_lit (Kd.int .i64) _ 3 ?hg (N := 8) ?hd (xs := ([3] : List Int)) (inner := [.int .i64 3]) (ok := fun _ => True) (okp := fun _ => True) ?hr ?hp (fun _ hk => hk) trivial (Below.refl _ _) (Nat.le_refl _) (by simp) ?_; (case hd => rfl); (case hg => rfl); (case hr => first | (go_simp; done) | (go_simp; rfl)); (case hp => exact (Reps.one (show Kd.M (Kd.int .i64) _ _ _ 3 [.int .i64 3] from rfl) (Reps.none _ _))); intro v294 w18 ho19 hb hg_ hnew_; clear hg_ hnew_; (first | rw [← Ny293.out] at ho19 | (simp only [Int.reduceToNat] at ho19; rw [← Ny293.out] at ho19)); have n0_ := Aside0.mk (Kd.R_elder' (by exact RX_ HO292.out) (Kd.R_base ho19) hb); have n1_ := Aside0.mk (Kd.R_lower (Kd.R_new' ho19 (Kd.R_lt (by exact RX_ HO292.out))) (below_size (B_))); have n2_ := Aside0.mk (below_step (B_) hb); clear HO292; clear HB; have HO292 := n0_; have HO295 := n1_; have HB := n2_; clear n0_ n1_ n2_; clear hb ho19) | ((with_reducible refine gate_dst (N := 9) rfl ?_); (try (refine gate_guard (by rfl) ?_; dsimp only)); refine Kd.R_lit (Kd.int .i64) _ 3 ?hg (N := 9) ?hd (xs := ([3] : List Int)) (inner := [.int .i64 3]) (ok := fun _ => True) (okp := fun _ => True) ?hr ?hp (fun _ hk => hk) trivial (Below.refl _ _) (Nat.le_refl _) (by simp) ?_; (case hd => rfl); (case hg => rfl); (case hr => first | (go_simp; done) | (go_simp; rfl)); (case hp => exact (Reps.one (show Kd.M (Kd.int .i64) _ _ _ 3 [.int .i64 3] from rfl) (Reps.none _ _))); intro v297 w20 ho21 hb hg_ hnew_; clear hg_ hnew_; (first | rw [← Ny296.out] at ho21 | (simp only [Int.reduceToNat] at ho21; rw [← Ny296.out] at ho21)); have n0_ := Aside0.mk (Kd.R_elder' (by exact RX_ HO292.out) (Kd.R_base ho21) hb); have n1_ := Aside0.mk (Kd.R_elder' (by exact RX_ HO295.out) (Kd.R_base ho21) hb); have n2_ := Aside0.mk (Kd.R_lower (Kd.R_new' (Kd.R_new' ho21 (Kd.R_lt (by exact RX_ HO292.out))) (Kd.R_lt (by exact RX_ HO295.out))) (below_size (B_))); have n3_ := Aside0.mk (below_step (B_) hb); clear HO292; clear HO295; clear HB; have HO292 := n0_; have HO295 := n1_; have HO298 := n2_; have HB := n3_; clear n0_ n1_ n2_ n3_; clear hb ho21; obtain ⟨Ao22, co22, eo22⟩ := Kd.R_slice HO292.out; subst eo22; obtain ⟨Ao23, co23, eo23⟩ := Kd.R_slice HO295.out; subst eo23; obtain ⟨Ao24, co24, eo24⟩ := Kd.R_slice HO298.out; subst eo24) | ((with_reducible refine gate_dst (N := 10) rfl ?_); (try (refine gate_guard (by rfl) ?_; dsimp only)); refine Kd.N_lit (Kd.slice 3 (Kd.int .i64)) _ 30 ?hg (N' := 10) ?hd (xs := ([y290, y293, y296, []] : List (List Int))) (inner := [.slice Ao22 y290.length co22, .slice Ao23 y293.length co23, .slice Ao24 y296.length co24, .slice none 0 0]) (ok := (fun _ => True)) (okp := (fun _ => True)) ?hr ?hp (fun _ hk => hk) ((show ∀ k_, w20.heap.size ≤ k_ → (fun _ => True) k_ from fun k_ hk => trivial) _ (Nat.le_refl _)) (Below.refl _ _) (Nat.le_refl _) (by simp) ?_; (case hd => rfl); (case hg => rfl); (case hr => first | (go_simp; done) | (go_simp; rfl)); (case hp => exact (Reps.one (show Kd.FK (Kd.slice 3 (Kd.int .i64)) _ _ y290 [.slice Ao22 y290.length co22] from (Kd.FK_slice_mk (Kd.R_reads' (Kd.R_mono (ok' := (fun _ => True)) (HO292.out) (fun k_ hk => trivial))).2.1 (Kd.R_F (Kd.R_mono (ok' := (fun _ => True)) (HO292.out) (fun k_ hk => trivial))))) (Reps.one (show Kd.FK (Kd.slice 3 (Kd.int .i64)) _ _ y293 [.slice Ao23 y293.length co23] from (Kd.FK_slice_mk (Kd.R_reads' (Kd.R_mono (ok' := (fun _ => True)) (HO295.out) (fun k_ hk => trivial))).2.1 (Kd.R_F (Kd.R_mono (ok' := (fun _ => True)) (HO295.out) (fun k_ hk => trivial))))) (Reps.one (show Kd.FK (Kd.slice 3 (Kd.int .i64)) _ _ y296 [.slice Ao24 y296.length co24] from (Kd.FK_slice_mk (Kd.R_reads' (Kd.R_mono (ok' := (fun _ => True)) (HO298.out) (fun k_ hk => trivial))).2.1 (Kd.R_F (Kd.R_mono (ok' := (fun _ => True)) (HO298.out) (fun k_ hk => trivial))))) (Reps.one (show Kd.FK (Kd.slice 3 (Kd.int .i64)) _ _ [] [.slice none 0 0] from (Kd.FK_slice_mk (Nat.le_refl _) (Kd.F_nil _ _ _))) (Reps.none _ _)))))); intro v300 w25 ho26 hb hg_ hnew_; clear hg_ hnew_; (first | rw [← Ny299.out] at ho26 | (simp only [Int.reduceToNat] at ho26; rw [← Ny299.out] at ho26)); have n0_ := Aside0.mk (Kd.N_lower ho26 (below_size (B_))); have n1_ := Aside0.mk (below_step (B_) hb); clear HB; clear HO292; clear HO295; clear HO298; have HO301 := n0_; have HB := n1_; clear n0_ n1_; clear hb ho26; obtain ⟨Ao27, co27, eo27⟩ := Kd.N_slice HO301.out; subst eo27) | ((with_reducible refine gate_callee (f := 9) rfl ?_); refine goesL_ (some 11) rfl rfl Try.func9 (by kernel_rfl) rfl #[.slice Ao27 y299.length co27] rfl (by (try simp only [List.map_toArray, List.map_cons, List.map_nil]); first | done | rfl | (simp only [List.length_drop, List.length_take]; rfl)) ?_; (with_reducible refine (graph_Make.calls k _ _ y299 t302 t305 t308 _ ?side1 ?side2 A1.out).mono ?_); (case side1 => repeat (first | exact (Kd.N_reads' HO301.out).2.2 | (with_reducible refine Kd.C_alloc ?_ _) | (with_reducible refine Kd.C_drewN ?_ _) | (with_reducible refine Kd.C_drew ?_))); (case side2 => exact (Kd.N_reads' HO301.out).2.1); rintro e w28 ⟨v303, v306, rfl, ho0, ho1, hb⟩; refine ⟨_, rfl, ?_⟩; have n0_ := Aside0.mk (Kd.N_mono (Kd.N_told (Kd.N_told (Kd.N_old (by (with_reducible repeat (first | apply Kd.N_alloc | apply Kd.N_drewN | apply Kd.N_drew)); exact HO301.out) hb) (Kd.N_base (Kd.S_N ho0))) (Kd.N_base (Kd.S_N ho1))) (fun _ h_ => h_.1)); have n1_ := Aside0.mk (Kd.N_lower (Kd.N_mono (ok' := fun k_ => some k_ ≠ (v306 : Value).ownBlock ∧ some k_ ≠ (.slice Ao27 y299.length co27 : Value).ownBlock) (Kd.S_N (Kd.S_bound ho0)) (fun k_ hk_ => ⟨hk_.1, (Kd.fresh' (Kd.N_lt (by (with_reducible repeat (first | apply Kd.N_alloc | apply Kd.N_drewN | apply Kd.N_drew)); exact HO301.out)) k_ hk_.2.1)⟩)) (below_size (B_))); have n2_ := Aside0.mk (Kd.N_lower (Kd.N_mono (ok' := fun k_ => some k_ ≠ (v303 : Value).ownBlock ∧ some k_ ≠ (.slice Ao27 y299.length co27 : Value).ownBlock) (Kd.S_N (Kd.S_bound ho1)) (fun k_ hk_ => ⟨hk_.1, (Kd.fresh' (Kd.N_lt (by (with_reducible repeat (first | apply Kd.N_alloc | apply Kd.N_drewN | apply Kd.N_drew)); exact HO301.out)) k_ hk_.2.1)⟩)) (below_size (B_))); have n3_ := Aside0.mk (below_step (B_) hb); clear HO301; clear HB; have HO301 := n0_; have HO304 := n1_; have HO307 := n2_; have HB := n3_; clear n0_ n1_ n2_ n3_; (try clear hb); (try clear hb2); (try clear hk); (try clear hi); (try clear ho0); (try clear ho1)) | ((with_reducible refine gate_dst (N := 1) rfl ?_); (try (refine gate_guard (by rfl) ?_; dsimp only)); refine box_event ?hg (N := 1) ?hd (cs := #[.slice none 0 0, .slice none 0 0]) (t := 26) ?hr ?_; (case hd => rfl); (case hg => rfl); (case hr => first | (go_simp; done) | (go_simp; rfl)); intro gb309 hg w29 hbox hb; have n0_ := Aside0.mk (Kd.N_below (Kd.N_elderB (by (with_reducible repeat (first | apply Kd.N_alloc | apply Kd.N_drewN | apply Kd.N_drew)); exact HO301.out) gb309 (Nat.le_of_eq hg.symm)) hb); have n1_ := Aside0.mk (Kd.N_below (Kd.N_elderB (by (with_reducible repeat (first | apply Kd.N_alloc | apply Kd.N_drewN | apply Kd.N_drew)); exact HO304.out) gb309 (Nat.le_of_eq hg.symm)) hb); have n2_ := Aside0.mk (Kd.N_below (Kd.N_elderB (by (with_reducible repeat (first | apply Kd.N_alloc | apply Kd.N_drewN | apply Kd.N_drew)); exact HO307.out) gb309 (Nat.le_of_eq hg.symm)) hb); have n3_ := Aside0.mk (below_step (B_) hb); have n4_ := Aside0.mk (hbox); have n5_ := Aside0.mk ((by rw [hg]; exact (below_size (B_)) : w.heap.size ≤ gb309)); have n6_ := Aside0.mk ((by rw [hg]; exact (below_size (B_)) : w.heap.size ≤ gb309)); clear HO301; clear HO304; clear HO307; clear HB; have HO301 := n0_; have HO304 := n1_; have HO307 := n2_; have HB := n3_; have BK309 := n4_; have GW309 := n5_; have GE309 := n6_; clear n0_ n1_ n2_ n3_ n4_ n5_ n6_; clear hb hbox hg; obtain ⟨Ao30, co30, eo30⟩ := Kd.N_slice HO304.out; subst eo30; have hcz31_0 : w29.cell? ⟨gb309, 0, none⟩ = some (.slice none 0 0) := (blk_cell BK309.out 0).trans rfl; have hcz31_1 : w29.cell? ⟨gb309, 1, none⟩ = some (.slice none 0 0) := (blk_cell BK309.out 1).trans rfl; have hfz31_0 := blk_frozen BK309.out 0; have hfz31_1 := blk_frozen BK309.out 1; obtain ⟨Ao32, co32, eo32⟩ := Kd.N_slice HO307.out; subst eo32) | ((with_reducible refine gate_callee (f := 11) rfl ?_); refine goesL_ (some 16) rfl rfl Try.func11 (by kernel_rfl) rfl #[.agg #[.slice Ao30 t302.length co30, .slice Ao32 t305.length co32]] rfl (by (try simp only [List.map_toArray, List.map_cons, List.map_nil]); first | done | rfl | (simp only [List.length_drop, List.length_take]; rfl)) ?_; (with_reducible refine (pdom_Exit.calls k _ _ t302 _ _ t305 t310 t313 t316 _ ?side1 ?side2 ?side3 ?side4 A2.out).mono ?_); (case side1 => refine (Kd.N_reads' (e := 30) (base := w.heap.size) (ok := fun k_ => ((some k_ ≠ (.slice Ao32 t305.length co32 : Value).ownBlock ∧ some k_ ≠ (.slice Ao27 y299.length co27 : Value).ownBlock) ∧ k_ ≠ gb309)) (n := t302.length) (c := co30) ?_).2.2; exact (by (with_reducible repeat (first | apply Kd.N_alloc | apply Kd.N_drewN | apply Kd.N_drew)); exact (Kd.N_mono (Kd.N_far (p := ⟨gb309, 1, none⟩) (Kd.N_far (p := ⟨gb309, 0, none⟩) (Kd.N_mono HO304.out (fun k_ hk => (⟨hk, hk.2⟩ : _ ∧ k_ ≠ gb309))) (fun _ hk => hk.2) (.slice Ao30 t302.length co30)) (fun _ hk => hk.2) (.slice Ao32 t305.length co32)) (fun _ h_ => h_.1)))); (case side2 => exact (Kd.N_reads' HO304.out).2.1); (case side3 => refine (Kd.N_reads' (e := 30) (base := w.heap.size) (ok := fun k_ => ((some k_ ≠ (.slice Ao30 t302.length co30 : Value).ownBlock ∧ some k_ ≠ (.slice Ao27 y299.length co27 : Value).ownBlock) ∧ k_ ≠ gb309)) (n := t305.length) (c := co32) ?_).2.2; exact (by (with_reducible repeat (first | apply Kd.N_alloc | apply Kd.N_drewN | apply Kd.N_drew)); exact (Kd.N_mono (Kd.N_far (p := ⟨gb309, 1, none⟩) (Kd.N_far (p := ⟨gb309, 0, none⟩) (Kd.N_mono HO307.out (fun k_ hk => (⟨hk, hk.2⟩ : _ ∧ k_ ≠ gb309))) (fun _ hk => hk.2) (.slice Ao30 t302.length co30)) (fun _ hk => hk.2) (.slice Ao32 t305.length co32)) (fun _ h_ => h_.1)))); (case side4 => exact (Kd.N_reads' HO307.out).2.1); rintro e w33 ⟨v311, v314, rfl, ho0, ho1, hb⟩; refine ⟨_, rfl, ?_⟩; have n0_ := Aside0.mk (Kd.N_mono (Kd.N_told (Kd.N_told (Kd.N_old (by (with_reducible repeat (first | apply Kd.N_alloc | apply Kd.N_drewN | apply Kd.N_drew)); exact (Kd.N_mono (Kd.N_far (p := ⟨gb309, 1, none⟩) (Kd.N_far (p := ⟨gb309, 0, none⟩) (Kd.N_mono HO301.out (fun k_ hk => (⟨hk, hk.2⟩ : _ ∧ k_ ≠ gb309))) (fun _ hk => hk.2) (.slice Ao30 t302.length co30)) (fun _ hk => hk.2) (.slice Ao32 t305.length co32)) (fun _ h_ => h_.1))) hb) (Kd.N_base (Kd.S_N ho0))) (Kd.N_base (Kd.S_N ho1))) (fun _ h_ => h_.1)); have n1_ := Aside0.mk (Kd.N_mono (Kd.N_told (Kd.N_told (Kd.N_old (by (with_reducible repeat (first | apply Kd.N_alloc | apply Kd.N_drewN | apply Kd.N_drew)); exact (Kd.N_mono (Kd.N_far (p := ⟨gb309, 1, none⟩) (Kd.N_far (p := ⟨gb309, 0, none⟩) (Kd.N_mono HO304.out (fun k_ hk => (⟨hk, hk.2⟩ : _ ∧ k_ ≠ gb309))) (fun _ hk => hk.2) (.slice Ao30 t302.length co30)) (fun _ hk => hk.2) (.slice Ao32 t305.length co32)) (fun _ h_ => h_.1))) hb) (Kd.N_base (Kd.S_N ho0))) (Kd.N_base (Kd.S_N ho1))) (fun _ h_ => h_.1)); have n2_ := Aside0.mk (Kd.N_mono (Kd.N_told (Kd.N_told (Kd.N_old (by (with_reducible repeat (first | apply Kd.N_alloc | apply Kd.N_drewN | apply Kd.N_drew)); exact (Kd.N_mono (Kd.N_far (p := ⟨gb309, 1, none⟩) (Kd.N_far (p := ⟨gb309, 0, none⟩) (Kd.N_mono HO307.out (fun k_ hk => (⟨hk, hk.2⟩ : _ ∧ k_ ≠ gb309))) (fun _ hk => hk.2) (.slice Ao30 t302.length co30)) (fun _ hk => hk.2) (.slice Ao32 t305.length co32)) (fun _ h_ => h_.1))) hb) (Kd.N_base (Kd.S_N ho0))) (Kd.N_base (Kd.S_N ho1))) (fun _ h_ => h_.1)); have n3_ := Aside0.mk (Kd.N_lower (Kd.N_mono (ok' := fun k_ => some k_ ≠ (v314 : Value).ownBlock ∧ some k_ ≠ (.slice Ao27 y299.length co27 : Value).ownBlock ∧ some k_ ≠ (.slice Ao30 t302.length co30 : Value).ownBlock ∧ some k_ ≠ (.slice Ao32 t305.length co32 : Value).ownBlock ∧ k_ ≠ gb309) (Kd.S_N (Kd.S_bound ho0)) (fun k_ hk_ => ⟨hk_.1, (Kd.fresh' (Kd.N_lt (by (with_reducible repeat (first | apply Kd.N_alloc | apply Kd.N_drewN | apply Kd.N_drew)); exact (Kd.N_mono (Kd.N_far (p := ⟨gb309, 1, none⟩) (Kd.N_far (p := ⟨gb309, 0, none⟩) (Kd.N_mono HO301.out (fun k_ hk => (⟨hk, hk.2⟩ : _ ∧ k_ ≠ gb309))) (fun _ hk => hk.2) (.slice Ao30 t302.length co30)) (fun _ hk => hk.2) (.slice Ao32 t305.length co32)) (fun _ h_ => h_.1)))) k_ hk_.2.1), (Kd.fresh' (Kd.N_lt (by (with_reducible repeat (first | apply Kd.N_alloc | apply Kd.N_drewN | apply Kd.N_drew)); exact (Kd.N_mono (Kd.N_far (p := ⟨gb309, 1, none⟩) (Kd.N_far (p := ⟨gb309, 0, none⟩) (Kd.N_mono HO304.out (fun k_ hk => (⟨hk, hk.2⟩ : _ ∧ k_ ≠ gb309))) (fun _ hk => hk.2) (.slice Ao30 t302.length co30)) (fun _ hk => hk.2) (.slice Ao32 t305.length co32)) (fun _ h_ => h_.1)))) k_ hk_.2.1), (Kd.fresh' (Kd.N_lt (by (with_reducible repeat (first | apply Kd.N_alloc | apply Kd.N_drewN | apply Kd.N_drew)); exact (Kd.N_mono (Kd.N_far (p := ⟨gb309, 1, none⟩) (Kd.N_far (p := ⟨gb309, 0, none⟩) (Kd.N_mono HO307.out (fun k_ hk => (⟨hk, hk.2⟩ : _ ∧ k_ ≠ gb309))) (fun _ hk => hk.2) (.slice Ao30 t302.length co30)) (fun _ hk => hk.2) (.slice Ao32 t305.length co32)) (fun _ h_ => h_.1)))) k_ hk_.2.1), (Kd.freshB (g := gb309) (o := .cells #[.slice Ao30 t302.length co30, .slice Ao32 t305.length co32] 26 (0, 0)) (by (with_reducible repeat (first | refine blk_drewN ?_ _ | refine blk_drew ?_ | refine blk_alloc ?_ _)); refine blk_put (cs := #[.slice Ao30 t302.length co30, .slice none 0 0]) ?_ 1 _ rfl; (with_reducible repeat (first | refine blk_drewN ?_ _ | refine blk_drew ?_ | refine blk_alloc ?_ _)); refine blk_put (cs := #[.slice none 0 0, .slice none 0 0]) ?_ 0 _ rfl; exact KX_ BK309.out) k_ hk_.2.1)⟩)) (below_size (B1_))); have n4_ := Aside0.mk (Kd.N_lower (Kd.N_mono (ok' := fun k_ => some k_ ≠ (v311 : Value).ownBlock ∧ some k_ ≠ (.slice Ao27 y299.length co27 : Value).ownBlock ∧ some k_ ≠ (.slice Ao30 t302.length co30 : Value).ownBlock ∧ some k_ ≠ (.slice Ao32 t305.length co32 : Value).ownBlock ∧ k_ ≠ gb309) (Kd.S_N (Kd.S_bound ho1)) (fun k_ hk_ => ⟨hk_.1, (Kd.fresh' (Kd.N_lt (by (with_reducible repeat (first | apply Kd.N_alloc | apply Kd.N_drewN | apply Kd.N_drew)); exact (Kd.N_mono (Kd.N_far (p := ⟨gb309, 1, none⟩) (Kd.N_far (p := ⟨gb309, 0, none⟩) (Kd.N_mono HO301.out (fun k_ hk => (⟨hk, hk.2⟩ : _ ∧ k_ ≠ gb309))) (fun _ hk => hk.2) (.slice Ao30 t302.length co30)) (fun _ hk => hk.2) (.slice Ao32 t305.length co32)) (fun _ h_ => h_.1)))) k_ hk_.2.1), (Kd.fresh' (Kd.N_lt (by (with_reducible repeat (first | apply Kd.N_alloc | apply Kd.N_drewN | apply Kd.N_drew)); exact (Kd.N_mono (Kd.N_far (p := ⟨gb309, 1, none⟩) (Kd.N_far (p := ⟨gb309, 0, none⟩) (Kd.N_mono HO304.out (fun k_ hk => (⟨hk, hk.2⟩ : _ ∧ k_ ≠ gb309))) (fun _ hk => hk.2) (.slice Ao30 t302.length co30)) (fun _ hk => hk.2) (.slice Ao32 t305.length co32)) (fun _ h_ => h_.1)))) k_ hk_.2.1), (Kd.fresh' (Kd.N_lt (by (with_reducible repeat (first | apply Kd.N_alloc | apply Kd.N_drewN | apply Kd.N_drew)); exact (Kd.N_mono (Kd.N_far (p := ⟨gb309, 1, none⟩) (Kd.N_far (p := ⟨gb309, 0, none⟩) (Kd.N_mono HO307.out (fun k_ hk => (⟨hk, hk.2⟩ : _ ∧ k_ ≠ gb309))) (fun _ hk => hk.2) (.slice Ao30 t302.length co30)) (fun _ hk => hk.2) (.slice Ao32 t305.length co32)) (fun _ h_ => h_.1)))) k_ hk_.2.1), (Kd.freshB (g := gb309) (o := .cells #[.slice Ao30 t302.length co30, .slice Ao32 t305.length co32] 26 (0, 0)) (by (with_reducible repeat (first | refine blk_drewN ?_ _ | refine blk_drew ?_ | refine blk_alloc ?_ _)); refine blk_put (cs := #[.slice Ao30 t302.length co30, .slice none 0 0]) ?_ 1 _ rfl; (with_reducible repeat (first | refine blk_drewN ?_ _ | refine blk_drew ?_ | refine blk_alloc ?_ _)); refine blk_put (cs := #[.slice none 0 0, .slice none 0 0]) ?_ 0 _ rfl; exact KX_ BK309.out) k_ hk_.2.1)⟩)) (below_size (B1_))); have n5_ := Aside0.mk (blk_below (g := gb309) (o := .cells #[.slice Ao30 t302.length co30, .slice Ao32 t305.length co32] 26 (0, 0)) (by (with_reducible repeat (first | refine blk_drewN ?_ _ | refine blk_drew ?_ | refine blk_alloc ?_ _)); refine blk_put (cs := #[.slice Ao30 t302.length co30, .slice none 0 0]) ?_ 1 _ rfl; (with_reducible repeat (first | refine blk_drewN ?_ _ | refine blk_drew ?_ | refine blk_alloc ?_ _)); refine blk_put (cs := #[.slice none 0 0, .slice none 0 0]) ?_ 0 _ rfl; exact KX_ BK309.out) hb); have n6_ := Aside0.mk (below_step (B1_) hb); clear HO301; clear HO304; clear HO307; clear BK309; clear HB; have HO301 := n0_; have HO304 := n1_; have HO307 := n2_; have HO312 := n3_; have HO315 := n4_; have BK309 := n5_; have HB := n6_; clear n0_ n1_ n2_ n3_ n4_ n5_ n6_; (try clear hb); (try clear hb2); (try clear hk); (try clear hi); (try clear ho0); (try clear ho1)) | ((with_reducible refine gate_dst (N := 3) rfl ?_); (try (refine gate_guard (by rfl) ?_; dsimp only)); refine box_event ?hg (N := 3) ?hd (cs := #[.slice none 0 0, .slice none 0 0]) (t := 26) ?hr ?_; (case hd => rfl); (case hg => rfl); (case hr => first | (go_simp; done) | (go_simp; rfl)); intro gb317 hg w34 hbox hb; have n0_ := Aside0.mk (Kd.N_below (Kd.N_elderB (by (with_reducible repeat (first | apply Kd.N_alloc | apply Kd.N_drewN | apply Kd.N_drew)); exact HO301.out) gb317 (Nat.le_of_eq hg.symm)) hb); have n1_ := Aside0.mk (Kd.N_below (Kd.N_elderB (by (with_reducible repeat (first | apply Kd.N_alloc | apply Kd.N_drewN | apply Kd.N_drew)); exact HO304.out) gb317 (Nat.le_of_eq hg.symm)) hb); have n2_ := Aside0.mk (Kd.N_below (Kd.N_elderB (by (with_reducible repeat (first | apply Kd.N_alloc | apply Kd.N_drewN | apply Kd.N_drew)); exact HO307.out) gb317 (Nat.le_of_eq hg.symm)) hb); have n3_ := Aside0.mk (Kd.N_below (Kd.N_elderB (by (with_reducible repeat (first | apply Kd.N_alloc | apply Kd.N_drewN | apply Kd.N_drew)); exact HO312.out) gb317 (Nat.le_of_eq hg.symm)) hb); have n4_ := Aside0.mk (Kd.N_below (Kd.N_elderB (by (with_reducible repeat (first | apply Kd.N_alloc | apply Kd.N_drewN | apply Kd.N_drew)); exact HO315.out) gb317 (Nat.le_of_eq hg.symm)) hb); have n5_ := Aside0.mk (blk_below (g := gb309) (o := .cells #[.slice Ao30 t302.length co30, .slice Ao32 t305.length co32] 26 (0, 0)) (by exact KX_ BK309.out) hb); have n6_ := Aside0.mk (below_step (B1_) hb); have n7_ := Aside0.mk (hbox); have n8_ := Aside0.mk ((by rw [hg]; exact (below_size (B1_)) : w.heap.size ≤ gb317)); have n9_ := Aside0.mk ((by rw [hg]; exact (below_size (B1_)) : w.heap.size ≤ gb317)); have n10_ := Aside0.mk ((by rw [hg]; exact Nat.ne_of_lt (blk_lt (g := gb309) (o := .cells #[.slice Ao30 t302.length co30, .slice Ao32 t305.length co32] 26 (0, 0)) (by exact KX_ BK309.out)) : gb309 ≠ gb317)); have n11_ := Aside0.mk ((by rw [hg]; exact Nat.ne_of_gt (blk_lt (g := gb309) (o := .cells #[.slice Ao30 t302.length co30, .slice Ao32 t305.length co32] 26 (0, 0)) (by exact KX_ BK309.out)) : gb317 ≠ gb309)); clear HO301; clear HO304; clear HO307; clear HO312; clear HO315; clear BK309; clear HB; have HO301 := n0_; have HO304 := n1_; have HO307 := n2_; have HO312 := n3_; have HO315 := n4_; have BK309 := n5_; have HB := n6_; have BK317 := n7_; have GW317 := n8_; have GE317 := n9_; have NB309_317 := n10_; have NB317_309 := n11_; clear n0_ n1_ n2_ n3_ n4_ n5_ n6_ n7_ n8_ n9_ n10_ n11_; clear hb hbox hg; obtain ⟨Ao35, co35, eo35⟩ := Kd.N_slice HO312.out; subst eo35; have hnb36 := NB317_309.out; have hnc36 := NB309_317.out; have hcz37_0 : w34.cell? ⟨gb317, 0, none⟩ = some (.slice none 0 0) := (blk_cell BK317.out 0).trans rfl; have hcz37_1 : w34.cell? ⟨gb317, 1, none⟩ = some (.slice none 0 0) := (blk_cell BK317.out 1).trans rfl; have hfz37_0 := blk_frozen BK317.out 0; have hfz37_1 := blk_frozen BK317.out 1; obtain ⟨Ao38, co38, eo38⟩ := Kd.N_slice HO315.out; subst eo38; have hcz39_0 : w34.cell? ⟨gb309, 0, none⟩ = some (.slice Ao30 t302.length co30) := (blk_cell BK309.out 0).trans rfl; have hcz39_1 : w34.cell? ⟨gb309, 1, none⟩ = some (.slice Ao32 t305.length co32) := (blk_cell BK309.out 1).trans rfl; have hfz39_0 := blk_frozen BK309.out 0; have hfz39_1 := blk_frozen BK309.out 1) | ((with_reducible refine gate_callee (f := 10) rfl ?_); refine goesL_ (some 20) rfl rfl Try.func10 (by kernel_rfl) rfl #[.agg #[.slice Ao30 t302.length co30, .slice Ao32 t305.length co32]] rfl (by (try simp only [List.map_toArray, List.map_cons, List.map_nil]); first | done | rfl | (simp only [List.length_drop, List.length_take]; rfl)) ?_; (with_reducible refine (pdom_Tree.calls k _ _ t302 _ _ t305 t318 _ ?side1 ?side2 ?side3 ?side4 A3.out).mono ?_); (case side1 => refine (Kd.N_reads' (e := 30) (base := w.heap.size) (ok := fun k_ => (((((some k_ ≠ (.slice Ao32 t305.length co32 : Value).ownBlock ∧ some k_ ≠ (.slice Ao27 y299.length co27 : Value).ownBlock) ∧ k_ ≠ gb309) ∧ some k_ ≠ (.slice Ao35 t310.length co35 : Value).ownBlock) ∧ some k_ ≠ (.slice Ao38 t313.length co38 : Value).ownBlock) ∧ k_ ≠ gb317)) (n := t302.length) (c := co30) ?_).2.2; exact (by (with_reducible repeat (first | apply Kd.N_alloc | apply Kd.N_drewN | apply Kd.N_drew)); exact (Kd.N_mono (Kd.N_far (p := ⟨gb317, 1, none⟩) (Kd.N_far (p := ⟨gb317, 0, none⟩) (Kd.N_mono HO304.out (fun k_ hk => (⟨hk, hk.2⟩ : _ ∧ k_ ≠ gb317))) (fun _ hk => hk.2) (.slice Ao35 t310.length co35)) (fun _ hk => hk.2) (.slice Ao38 t313.length co38)) (fun _ h_ => h_.1)))); (case side2 => exact (Kd.N_reads' HO304.out).2.1); (case side3 => refine (Kd.N_reads' (e := 30) (base := w.heap.size) (ok := fun k_ => (((((some k_ ≠ (.slice Ao30 t302.length co30 : Value).ownBlock ∧ some k_ ≠ (.slice Ao27 y299.length co27 : Value).ownBlock) ∧ k_ ≠ gb309) ∧ some k_ ≠ (.slice Ao35 t310.length co35 : Value).ownBlock) ∧ some k_ ≠ (.slice Ao38 t313.length co38 : Value).ownBlock) ∧ k_ ≠ gb317)) (n := t305.length) (c := co32) ?_).2.2; exact (by (with_reducible repeat (first | apply Kd.N_alloc | apply Kd.N_drewN | apply Kd.N_drew)); exact (Kd.N_mono (Kd.N_far (p := ⟨gb317, 1, none⟩) (Kd.N_far (p := ⟨gb317, 0, none⟩) (Kd.N_mono HO307.out (fun k_ hk => (⟨hk, hk.2⟩ : _ ∧ k_ ≠ gb317))) (fun _ hk => hk.2) (.slice Ao35 t310.length co35)) (fun _ hk => hk.2) (.slice Ao38 t313.length co38)) (fun _ h_ => h_.1)))); (case side4 => exact (Kd.N_reads' HO307.out).2.1); rintro e w40 ⟨v319, rfl, ho0, hb⟩; refine ⟨_, rfl, ?_⟩; have n0_ := Aside0.mk (Kd.N_elder' (by (with_reducible repeat (first | apply Kd.N_alloc | apply Kd.N_drewN | apply Kd.N_drew)); exact (Kd.N_mono (Kd.N_far (p := ⟨gb317, 1, none⟩) (Kd.N_far (p := ⟨gb317, 0, none⟩) (Kd.N_mono HO301.out (fun k_ hk => (⟨hk, hk.2⟩ : _ ∧ k_ ≠ gb317))) (fun _ hk => hk.2) (.slice Ao35 t310.length co35)) (fun _ hk => hk.2) (.slice Ao38 t313.length co38)) (fun _ h_ => h_.1))) (Kd.R_base ho0) hb); have n1_ := Aside0.mk (Kd.N_elder' (by (with_reducible repeat (first | apply Kd.N_alloc | apply Kd.N_drewN | apply Kd.N_drew)); exact (Kd.N_mono (Kd.N_far (p := ⟨gb317, 1, none⟩) (Kd.N_far (p := ⟨gb317, 0, none⟩) (Kd.N_mono HO304.out (fun k_ hk => (⟨hk, hk.2⟩ : _ ∧ k_ ≠ gb317))) (fun _ hk => hk.2) (.slice Ao35 t310.length co35)) (fun _ hk => hk.2) (.slice Ao38 t313.length co38)) (fun _ h_ => h_.1))) (Kd.R_base ho0) hb); have n2_ := Aside0.mk (Kd.N_elder' (by (with_reducible repeat (first | apply Kd.N_alloc | apply Kd.N_drewN | apply Kd.N_drew)); exact (Kd.N_mono (Kd.N_far (p := ⟨gb317, 1, none⟩) (Kd.N_far (p := ⟨gb317, 0, none⟩) (Kd.N_mono HO307.out (fun k_ hk => (⟨hk, hk.2⟩ : _ ∧ k_ ≠ gb317))) (fun _ hk => hk.2) (.slice Ao35 t310.length co35)) (fun _ hk => hk.2) (.slice Ao38 t313.length co38)) (fun _ h_ => h_.1))) (Kd.R_base ho0) hb); have n3_ := Aside0.mk (Kd.N_elder' (by (with_reducible repeat (first | apply Kd.N_alloc | apply Kd.N_drewN | apply Kd.N_drew)); exact (Kd.N_mono (Kd.N_far (p := ⟨gb317, 1, none⟩) (Kd.N_far (p := ⟨gb317, 0, none⟩) (Kd.N_mono HO312.out (fun k_ hk => (⟨hk, hk.2⟩ : _ ∧ k_ ≠ gb317))) (fun _ hk => hk.2) (.slice Ao35 t310.length co35)) (fun _ hk => hk.2) (.slice Ao38 t313.length co38)) (fun _ h_ => h_.1))) (Kd.R_base ho0) hb); have n4_ := Aside0.mk (Kd.N_elder' (by (with_reducible repeat (first | apply Kd.N_alloc | apply Kd.N_drewN | apply Kd.N_drew)); exact (Kd.N_mono (Kd.N_far (p := ⟨gb317, 1, none⟩) (Kd.N_far (p := ⟨gb317, 0, none⟩) (Kd.N_mono HO315.out (fun k_ hk => (⟨hk, hk.2⟩ : _ ∧ k_ ≠ gb317))) (fun _ hk => hk.2) (.slice Ao35 t310.length co35)) (fun _ hk => hk.2) (.slice Ao38 t313.length co38)) (fun _ h_ => h_.1))) (Kd.R_base ho0) hb); have n5_ := Aside0.mk (Kd.R_lower ho0 (below_size (B1_))); have n6_ := Aside0.mk (blk_below (g := gb309) (o := .cells #[.slice Ao30 t302.length co30, .slice Ao32 t305.length co32] 26 (0, 0)) (by (with_reducible repeat (first | refine blk_drewN ?_ _ | refine blk_drew ?_ | refine blk_alloc ?_ _)); refine blk_far ?_ NB309_317.out _; (with_reducible repeat (first | refine blk_drewN ?_ _ | refine blk_drew ?_ | refine blk_alloc ?_ _)); refine blk_far ?_ NB309_317.out _; exact KX_ BK309.out) hb); have n7_ := Aside0.mk (blk_below (g := gb317) (o := .cells #[.slice Ao35 t310.length co35, .slice Ao38 t313.length co38] 26 (0, 0)) (by (with_reducible repeat (first | refine blk_drewN ?_ _ | refine blk_drew ?_ | refine blk_alloc ?_ _)); refine blk_put (cs := #[.slice Ao35 t310.length co35, .slice none 0 0]) ?_ 1 _ rfl; (with_reducible repeat (first | refine blk_drewN ?_ _ | refine blk_drew ?_ | refine blk_alloc ?_ _)); refine blk_put (cs := #[.slice none 0 0, .slice none 0 0]) ?_ 0 _ rfl; exact KX_ BK317.out) hb); have n8_ := Aside0.mk (below_step (B1_) hb); clear HO301; clear HO304; clear HO307; clear HO312; clear HO315; clear BK309; clear BK317; clear HB; have HO301 := n0_; have HO304 := n1_; have HO307 := n2_; have HO312 := n3_; have HO315 := n4_; have HO320 := n5_; have BK309 := n6_; have BK317 := n7_; have HB := n8_; clear n0_ n1_ n2_ n3_ n4_ n5_ n6_ n7_ n8_; (try clear hb); (try clear hb2); (try clear hk); (try clear hi); (try clear ho0); have hcz41_0 : w40.cell? ⟨gb317, 0, none⟩ = some (.slice Ao35 t310.length co35) := (blk_cell BK317.out 0).trans rfl; have hcz41_1 : w40.cell? ⟨gb317, 1, none⟩ = some (.slice Ao38 t313.length co38) := (blk_cell BK317.out 1).trans rfl; have hfz41_0 := blk_frozen BK317.out 0; have hfz41_1 := blk_frozen BK317.out 1; have p321 : 0 ≤ (3 : Int) := (by omega); have q321 : 3 < (t310.length : Int) := D_; obtain ⟨ad321, A321_0, c321_0, e321, hx321_0, hl321_0, hi321_0⟩ := at_L1 (Kd.N_reads' HO312.out).2.2 3 p321 q321; cases e321; obtain ⟨ce321, hce321, hMe321, hcc321⟩ := Kd.N_get HO312.out [] 3 p321 (by first | exact q321 | exact D_ | (have e_ := (Kd.N_reads' HO312.out).1; omega)); obtain ⟨ua321_0, uc321_0, rfl, ul321_0, ge321_0⟩ := Kd.FK_slice_open hMe321; have hv321_0 := hcc321 0 _ rfl; rw [Nat.add_zero, show ((Kd.slice 3 (Kd.int .i64))).sz = 1 from rfl, Nat.mul_one] at hv321_0; replace hv321_0 := Option.some.inj (hv321_0.symm.trans hx321_0); injection hv321_0 with hva_ hvn_ hvc_; rw [hva_] at ge321_0; rw [hvc_] at ul321_0; have HL321_0 := Aside0.mk (show Kd.V (Kd.int .i64) 3 _ w.heap.size _ _ (rd_L1 t310 3) from Kd.V_mk ul321_0 ge321_0); clear hva_ hvn_ hvc_ ge321_0 ul321_0; clear hcc321 hce321; (try simp only [show (3 : Int).toNat = 3 from rfl, Nat.reduceMul, Nat.reduceEqDiff, Go.Addr.add, ↓reduceIte] at hx321_0); have qi321 : (3 < t310.length) = True := eq_true (by omega); (try rw [show ((3 : Int)).toNat = 3 from rfl] at hx321_0); have HR321_0 := Aside0.mk hi321_0; have HC321_0 := Aside0.mk hl321_0; clear hi321_0 hl321_0; replace p321 := eq_true p321; replace q321 := eq_true q321; have p322 : 0 ≤ (3 : Int) := (by omega); have q322 : 3 < (t310.length : Int) := D_; obtain ⟨ad322, A322_0, c322_0, e322, hx322_0, hl322_0, hi322_0⟩ := at_L1 (Kd.N_reads' HO312.out).2.2 3 p322 q322; obtain rfl : ad321 = ad322 := (by injection e322); obtain ⟨ce322, hce322, hMe322, hcc322⟩ := Kd.N_get HO312.out [] 3 p322 (by first | exact q322 | exact D_ | (have e_ := (Kd.N_reads' HO312.out).1; omega)); obtain ⟨ua322_0, uc322_0, rfl, ul322_0, ge322_0⟩ := Kd.FK_slice_open hMe322; have hv322_0 := hcc322 0 _ rfl; rw [Nat.add_zero, show ((Kd.slice 3 (Kd.int .i64))).sz = 1 from rfl, Nat.mul_one] at hv322_0; replace hv322_0 := Option.some.inj (hv322_0.symm.trans hx322_0); injection hv322_0 with hva_ hvn_ hvc_; rw [hva_] at ge322_0; rw [hvc_] at ul322_0; have HL322_0 := Aside0.mk (show Kd.V (Kd.int .i64) 3 _ w.heap.size _ _ (rd_L1 t310 3) from Kd.V_mk ul322_0 ge322_0); clear hva_ hvn_ hvc_ ge322_0 ul322_0; clear hcc322 hce322; (try simp only [show (3 : Int).toNat = 3 from rfl, Nat.reduceMul, Nat.reduceEqDiff, Go.Addr.add, ↓reduceIte] at hx322_0); have qi322 : (3 < t310.length) = True := eq_true (by omega); (try rw [show ((3 : Int)).toNat = 3 from rfl] at hx322_0); have HR322_0 := Aside0.mk hi322_0; have HC322_0 := Aside0.mk hl322_0; clear hi322_0 hl322_0; replace p322 := eq_true p322; replace q322 := eq_true q322; have ea_ := Option.some.inj (hx321_0.symm.trans hx322_0); injection ea_ with ea_ en_ ec_; subst ea_; subst ec_; clear en_; have p323 : 0 ≤ (0 : Int) := (by omega); have q323 : 0 < ((rd_L1 t310 3).length : Int) := D_; obtain ⟨ad323, e323, hx323_0⟩ := Kd.at_int (by repeat (first | (with_reducible exact HR322_0.out) | (with_reducible refine Kd.C_alloc ?_ _) | (with_reducible refine Kd.C_drewN ?_ _) | (with_reducible refine Kd.C_drew ?_) | exact HR322_0.out)) 0 p323 q323; cases e323; have qi323 : (0 < (rd_L1 t310 3).length) = True := eq_true (by omega); (try rw [show ((0 : Int)).toNat = 0 from rfl] at hx323_0); (try rw [Addr.add_zero'] at hx323_0); replace p323 := eq_true p323; replace q323 := eq_true q323) | ((with_reducible refine gate_dst (N := 52) rfl ?_); (try (refine gate_guard (by rfl) ?_; dsimp only)); refine Kd.R_lit (Kd.int .i64) _ 3 ?hg (N := 52) ?hd (xs := ([3, 3, 3, 4, (-1)] : List Int)) (inner := [.int .i64 3, .int .i64 3, .int .i64 3, .int .i64 4, .int .i64 (-1)]) (ok := fun _ => True) (okp := fun _ => True) ?hr ?hp (fun _ hk => hk) trivial (Below.refl _ _) (Nat.le_refl _) (by simp) ?_; (case hd => rfl); (case hg => rfl); (case hr => first | (go_simp; done) | (go_simp; rfl)); (case hp => exact (Reps.one (show Kd.M (Kd.int .i64) _ _ _ 3 [.int .i64 3] from rfl) (Reps.one (show Kd.M (Kd.int .i64) _ _ _ 3 [.int .i64 3] from rfl) (Reps.one (show Kd.M (Kd.int .i64) _ _ _ 3 [.int .i64 3] from rfl) (Reps.one (show Kd.M (Kd.int .i64) _ _ _ 4 [.int .i64 4] from rfl) (Reps.one (show Kd.M (Kd.int .i64) _ _ _ (-1) [.int .i64 (-1)] from rfl) (Reps.none _ _))))))); intro v325 w42 ho43 hb hg_ hnew_; clear hg_ hnew_; (first | rw [← Ny324.out] at ho43 | (simp only [Int.reduceToNat] at ho43; rw [← Ny324.out] at ho43)); have n0_ := Aside0.mk (Kd.N_elder' (by (with_reducible repeat (first | apply Kd.N_alloc | apply Kd.N_drewN | apply Kd.N_drew)); exact HO301.out) (Kd.R_base ho43) hb); have n1_ := Aside0.mk (Kd.N_elder' (by (with_reducible repeat (first | apply Kd.N_alloc | apply Kd.N_drewN | apply Kd.N_drew)); exact HO304.out) (Kd.R_base ho43) hb); have n2_ := Aside0.mk (Kd.N_elder' (by (with_reducible repeat (first | apply Kd.N_alloc | apply Kd.N_drewN | apply Kd.N_drew)); exact HO307.out) (Kd.R_base ho43) hb); have n3_ := Aside0.mk (Kd.N_elder' (by (with_reducible repeat (first | apply Kd.N_alloc | apply Kd.N_drewN | apply Kd.N_drew)); exact HO312.out) (Kd.R_base ho43) hb); have n4_ := Aside0.mk (Kd.N_elder' (by (with_reducible repeat (first | apply Kd.N_alloc | apply Kd.N_drewN | apply Kd.N_drew)); exact HO315.out) (Kd.R_base ho43) hb); have n5_ := Aside0.mk (Kd.R_elder' (by exact RX_ HO320.out) (Kd.R_base ho43) hb); have n6_ := Aside0.mk (Kd.V_elder' (by (with_reducible repeat (first | apply Kd.V_alloc | apply Kd.V_drewN | apply Kd.V_drew)); exact HL321_0.out) (Kd.R_base ho43) hb); have n7_ := Aside0.mk (Kd.V_elder' (by (with_reducible repeat (first | apply Kd.V_alloc | apply Kd.V_drewN | apply Kd.V_drew)); exact HL322_0.out) (Kd.R_base ho43) hb); have n8_ := Aside0.mk (Kd.R_lower (Kd.R_new' ho43 (Kd.R_lt (by exact RX_ HO320.out))) (below_size (B1_))); have n9_ := Aside0.mk (blk_below (g := gb309) (o := .cells #[.slice Ao30 t302.length co30, .slice Ao32 t305.length co32] 26 (0, 0)) (by exact KX_ BK309.out) hb); have n10_ := Aside0.mk (blk_below (g := gb317) (o := .cells #[.slice (some ad321) t310.length co35, .slice Ao38 t313.length co38] 26 (0, 0)) (by exact KX_ BK317.out) hb); have n11_ := Aside0.mk (Kd.C_below (by repeat (first | (with_reducible exact HR321_0.out) | (with_reducible refine Kd.C_alloc ?_ _) | (with_reducible refine Kd.C_drewN ?_ _) | (with_reducible refine Kd.C_drew ?_) | exact HR321_0.out)) hb); have n12_ := Aside0.mk (Kd.C_below (by repeat (first | (with_reducible exact HR322_0.out) | (with_reducible refine Kd.C_alloc ?_ _) | (with_reducible refine Kd.C_drewN ?_ _) | (with_reducible refine Kd.C_drew ?_) | exact HR322_0.out)) hb); have n13_ := Aside0.mk (below_step (B1_) hb); clear HO301; clear HO304; clear HO307; clear HO312; clear HO315; clear HO320; clear HL321_0; clear HL322_0; clear BK309; clear BK317; clear HR321_0; clear HR322_0; clear HB; have HO301 := n0_; have HO304 := n1_; have HO307 := n2_; have HO312 := n3_; have HO315 := n4_; have HO320 := n5_; have HL321_0 := n6_; have HL322_0 := n7_; have HO326 := n8_; have BK309 := n9_; have BK317 := n10_; have HR321_0 := n11_; have HR322_0 := n12_; have HB := n13_; clear n0_ n1_ n2_ n3_ n4_ n5_ n6_ n7_ n8_ n9_ n10_ n11_ n12_ n13_; clear hb ho43; obtain ⟨Ao44, co44, eo44⟩ := Kd.R_slice HO320.out; subst eo44; obtain ⟨Ao45, co45, eo45⟩ := Kd.R_slice HO326.out; subst eo45) | (go_at_call 16; (with_reducible refine (lockstepref02_Ints.calls k _ _ t318 _ _ y324 true _ ?side1 ?side2 ?side3 ?side4 A11.out).mono ?_); (case side1 => repeat (first | exact (Kd.R_reads' HO320.out).2.2 | (with_reducible refine Kd.C_alloc ?_ _) | (with_reducible refine Kd.C_drewN ?_ _) | (with_reducible refine Kd.C_drew ?_))); (case side2 => exact (Kd.R_reads' HO320.out).2.1); (case side3 => repeat (first | exact (Kd.R_reads' HO326.out).2.2 | (with_reducible refine Kd.C_alloc ?_ _) | (with_reducible refine Kd.C_drewN ?_ _) | (with_reducible refine Kd.C_drew ?_))); (case side4 => exact (Kd.R_reads' HO326.out).2.1); rintro e w' ⟨rfl, ⟨nd, rfl⟩⟩) | (go_at_call 13; (with_reducible refine (pdom_Over.calls k _ _ t318 3 0 true _ ?side1 ?side2 A13.out).mono ?_); (case side1 => repeat (first | exact (Kd.R_reads' HO320.out).2.2 | (with_reducible refine Kd.C_alloc ?_ _) | (with_reducible refine Kd.C_drewN ?_ _) | (with_reducible refine Kd.C_drew ?_))); (case side2 => exact (Kd.R_reads' HO320.out).2.1); rintro e w46 ⟨rfl, hb⟩; have n0_ := Aside0.mk (Kd.N_below (by (with_reducible repeat (first | apply Kd.N_alloc | apply Kd.N_drewN | apply Kd.N_drew)); exact HO301.out) hb); have n1_ := Aside0.mk (Kd.N_below (by (with_reducible repeat (first | apply Kd.N_alloc | apply Kd.N_drewN | apply Kd.N_drew)); exact HO304.out) hb); have n2_ := Aside0.mk (Kd.N_below (by (with_reducible repeat (first | apply Kd.N_alloc | apply Kd.N_drewN | apply Kd.N_drew)); exact HO307.out) hb); have n3_ := Aside0.mk (Kd.N_below (by (with_reducible repeat (first | apply Kd.N_alloc | apply Kd.N_drewN | apply Kd.N_drew)); exact HO312.out) hb); have n4_ := Aside0.mk (Kd.N_below (by (with_reducible repeat (first | apply Kd.N_alloc | apply Kd.N_drewN | apply Kd.N_drew)); exact HO315.out) hb); have n5_ := Aside0.mk (Kd.R_below (by exact RX_ HO320.out) hb); have n6_ := Aside0.mk (Kd.V_below (by (with_reducible repeat (first | apply Kd.V_alloc | apply Kd.V_drewN | apply Kd.V_drew)); exact HL321_0.out) hb); have n7_ := Aside0.mk (Kd.V_below (by (with_reducible repeat (first | apply Kd.V_alloc | apply Kd.V_drewN | apply Kd.V_drew)); exact HL322_0.out) hb); have n8_ := Aside0.mk (Kd.R_below (by exact RX_ HO326.out) hb); have n9_ := Aside0.mk (blk_below (g := gb309) (o := .cells #[.slice Ao30 t302.length co30, .slice Ao32 t305.length co32] 26 (0, 0)) (by exact KX_ BK309.out) hb); have n10_ := Aside0.mk (blk_below (g := gb317) (o := .cells #[.slice (some ad321) t310.length co35, .slice Ao38 t313.length co38] 26 (0, 0)) (by exact KX_ BK317.out) hb); have n11_ := Aside0.mk (Kd.C_below (by repeat (first | (with_reducible exact HR321_0.out) | (with_reducible refine Kd.C_alloc ?_ _) | (with_reducible refine Kd.C_drewN ?_ _) | (with_reducible refine Kd.C_drew ?_) | exact HR321_0.out)) hb); have n12_ := Aside0.mk (Kd.C_below (by repeat (first | (with_reducible exact HR322_0.out) | (with_reducible refine Kd.C_alloc ?_ _) | (with_reducible refine Kd.C_drewN ?_ _) | (with_reducible refine Kd.C_drew ?_) | exact HR322_0.out)) hb); have n13_ := Aside0.mk (below_step (B1_) hb); clear HO301; clear HO304; clear HO307; clear HO312; clear HO315; clear HO320; clear HL321_0; clear HL322_0; clear HO326; clear BK309; clear BK317; clear HR321_0; clear HR322_0; clear HB; have HO301 := n0_; have HO304 := n1_; have HO307 := n2_; have HO312 := n3_; have HO315 := n4_; have HO320 := n5_; have HL321_0 := n6_; have HL322_0 := n7_; have HO326 := n8_; have BK309 := n9_; have BK317 := n10_; have HR321_0 := n11_; have HR322_0 := n12_; have HB := n13_; clear n0_ n1_ n2_ n3_ n4_ n5_ n6_ n7_ n8_ n9_ n10_ n11_ n12_ n13_; (try clear hb); (try clear hb2); (try clear hk); (try clear hi); have hcz47_0 : w46.cell? ⟨gb309, 0, none⟩ = some (.slice Ao30 t302.length co30) := (blk_cell BK309.out 0).trans rfl; have hcz47_1 : w46.cell? ⟨gb309, 1, none⟩ = some (.slice Ao32 t305.length co32) := (blk_cell BK309.out 1).trans rfl; have hfz47_0 := blk_frozen BK309.out 0; have hfz47_1 := blk_frozen BK309.out 1) | (go_at_call 14; (with_reducible refine (pdom_Shut.calls k _ _ t302 _ _ t305 t329 _ ?side1 ?side2 ?side3 ?side4 A15.out).mono ?_); (case side1 => repeat (first | exact (Kd.N_reads' HO304.out).2.2 | (with_reducible refine Kd.C_alloc ?_ _) | (with_reducible refine Kd.C_drewN ?_ _) | (with_reducible refine Kd.C_drew ?_))); (case side2 => exact (Kd.N_reads' HO304.out).2.1); (case side3 => repeat (first | exact (Kd.N_reads' HO307.out).2.2 | (with_reducible refine Kd.C_alloc ?_ _) | (with_reducible refine Kd.C_drewN ?_ _) | (with_reducible refine Kd.C_drew ?_))); (case side4 => exact (Kd.N_reads' HO307.out).2.1); rintro e w48 ⟨v330, rfl, ho0, hb⟩; have n0_ := Aside0.mk (Kd.N_elder' (by (with_reducible repeat (first | apply Kd.N_alloc | apply Kd.N_drewN | apply Kd.N_drew)); exact HO301.out) (Kd.R_base ho0) hb); have n1_ := Aside0.mk (Kd.N_elder' (by (with_reducible repeat (first | apply Kd.N_alloc | apply Kd.N_drewN | apply Kd.N_drew)); exact HO304.out) (Kd.R_base ho0) hb); have n2_ := Aside0.mk (Kd.N_elder' (by (with_reducible repeat (first | apply Kd.N_alloc | apply Kd.N_drewN | apply Kd.N_drew)); exact HO307.out) (Kd.R_base ho0) hb); have n3_ := Aside0.mk (Kd.N_elder' (by (with_reducible repeat (first | apply Kd.N_alloc | apply Kd.N_drewN | apply Kd.N_drew)); exact HO312.out) (Kd.R_base ho0) hb); have n4_ := Aside0.mk (Kd.N_elder' (by (with_reducible repeat (first | apply Kd.N_alloc | apply Kd.N_drewN | apply Kd.N_drew)); exact HO315.out) (Kd.R_base ho0) hb); have n5_ := Aside0.mk (Kd.R_elder' (by exact RX_ HO320.out) (Kd.R_base ho0) hb); have n6_ := Aside0.mk (Kd.V_elder' (by (with_reducible repeat (first | apply Kd.V_alloc | apply Kd.V_drewN | apply Kd.V_drew)); exact HL321_0.out) (Kd.R_base ho0) hb); have n7_ := Aside0.mk (Kd.V_elder' (by (with_reducible repeat (first | apply Kd.V_alloc | apply Kd.V_drewN | apply Kd.V_drew)); exact HL322_0.out) (Kd.R_base ho0) hb); have n8_ := Aside0.mk (Kd.R_elder' (by exact RX_ HO326.out) (Kd.R_base ho0) hb); have n9_ := Aside0.mk (Kd.R_lower (Kd.R_new' (Kd.R_new' ho0 (Kd.R_lt (by exact RX_ HO320.out))) (Kd.R_lt (by exact RX_ HO326.out))) (below_size (B1_))); have n10_ := Aside0.mk (blk_below (g := gb309) (o := .cells #[.slice Ao30 t302.length co30, .slice Ao32 t305.length co32] 26 (0, 0)) (by exact KX_ BK309.out) hb); have n11_ := Aside0.mk (blk_below (g := gb317) (o := .cells #[.slice (some ad321) t310.length co35, .slice Ao38 t313.length co38] 26 (0, 0)) (by exact KX_ BK317.out) hb); have n12_ := Aside0.mk (Kd.C_below (by repeat (first | (with_reducible exact HR321_0.out) | (with_reducible refine Kd.C_alloc ?_ _) | (with_reducible refine Kd.C_drewN ?_ _) | (with_reducible refine Kd.C_drew ?_) | exact HR321_0.out)) hb); have n13_ := Aside0.mk (Kd.C_below (by repeat (first | (with_reducible exact HR322_0.out) | (with_reducible refine Kd.C_alloc ?_ _) | (with_reducible refine Kd.C_drewN ?_ _) | (with_reducible refine Kd.C_drew ?_) | exact HR322_0.out)) hb); have n14_ := Aside0.mk (below_step (B1_) hb); clear HO301; clear HO304; clear HO307; clear HO312; clear HO315; clear HO320; clear HL321_0; clear HL322_0; clear HO326; clear BK309; clear BK317; clear HR321_0; clear HR322_0; clear HB; have HO301 := n0_; have HO304 := n1_; have HO307 := n2_; have HO312 := n3_; have HO315 := n4_; have HO320 := n5_; have HL321_0 := n6_; have HL322_0 := n7_; have HO326 := n8_; have HO331 := n9_; have BK309 := n10_; have BK317 := n11_; have HR321_0 := n12_; have HR322_0 := n13_; have HB := n14_; clear n0_ n1_ n2_ n3_ n4_ n5_ n6_ n7_ n8_ n9_ n10_ n11_ n12_ n13_ n14_; (try clear hb); (try clear hb2); (try clear hk); (try clear hi); (try clear ho0); obtain ⟨Ao49, co49, eo49⟩ := Kd.R_slice HO331.out; subst eo49))
          go_ret
          exact ⟨by first | rfl | exact congrArg (fun b => Ending.returned (Value.bool b)) HR_.out | (simp [errW_none, errW_some] <;> rfl) | (simp [*, errW_none, errW_some] <;> rfl), B1_⟩
         replace c14 := Bool.eq_false_iff.mpr c14
         subst c14
         have H1 : (some false) = some true := by rw [if_neg (show ¬ (false = true) by decide)] at H; exact H
         clear H
         have H := H1
         clear H1
         exact absurd H (by simp)
        replace c12 := Bool.eq_false_iff.mpr c12
        subst c12
        have H1 : (some false) = some true := by rw [if_neg (show ¬ (false = true) by decide)] at H; exact H
        clear H
        have H := H1
        clear H1
        exact absurd H (by simp)
       rw [if_neg c10] at H
       have c10b0 : ((rd (rd_L1 t310 3) 0) == 4) = false := beq_eq_false_iff_ne.mpr c10
       have c10b1 : ((rd (rd_L1 t310 3) 0) != 4) = true := bne_iff_ne.mpr c10
       exact absurd H (by simp)
      rw [if_neg c9] at H
      exact absurd H (by simp)
     rw [if_neg c8] at H
     have c8b0 : (((rd_L1 t310 3).length : Int) == 1) = false := beq_eq_false_iff_ne.mpr c8
     have c8b1 : (((rd_L1 t310 3).length : Int) != 1) = true := bne_iff_ne.mpr c8
     exact absurd H (by simp)
    rw [if_neg c7] at H
    exact absurd H (by simp)
   rw [if_neg c6] at H
   have c6b0 : ((t310.length : Int) == 5) = false := beq_eq_false_iff_ne.mpr c6
   have c6b1 : ((t310.length : Int) != 5) = true := bne_iff_ne.mpr c6
   exact absurd H (by simp)
  rw [if_neg c5] at H
  have c5b0 : (t316 == 0) = false := beq_eq_false_iff_ne.mpr c5
  have c5b1 : (t316 != 0) = true := bne_iff_ne.mpr c5
  exact absurd H (by simp)
 rw [if_neg c4] at H
 have c4b0 : (t308 == 0) = false := beq_eq_false_iff_ne.mpr c4
 have c4b1 : (t308 != 0) = true := bne_iff_ne.mpr c4
 exact absurd H (by simp)


/-! ### lockstepref06_Small: function 8 -/
def lockstepref06_Small.l0 : Nat → List (List Int) → Int → Option (Bool)
 | 0, _, _ => none
 | k + 1, x0, x3 => if x3 < (x0.length : Int) then (if 0 ≤ x3 then (if ((rd_L1 x0 x3).length : Int) > 100 then (some false) else (if x3 > 100 then (some false) else (lockstepref06_Small.l0 k x0 (wrap64 (x3 + 1))))) else (none)) else (some true)
def lockstepref06_Small.f (k : Nat) (l0 : List (List Int)) : Option (Bool) := lockstepref06_Small.l0 k l0 0
theorem lockstepref06_Small.mono_l : ∀ k, (∀ y0 y1, LeO (lockstepref06_Small.l0 k y0 y1) (lockstepref06_Small.l0 (k + 1) y0 y1))
 | 0 => fun _ _ r h => by simp [lockstepref06_Small.l0] at h
 | k + 1 => by
  have ih0 := lockstepref06_Small.mono_l k
  ·intro y0 y1
   unfold lockstepref06_Small.l0
   repeat' first
   | (with_reducible exact ih0 _ _)
   | (with_reducible exact LeO.refl _)
   | (with_reducible exact LeO.none _)
   | (with_reducible refine LeO.ite ?_ ?_)
   | (with_reducible refine LeO.bind ?_ (fun _ => ?_))
   | exact ih0 _ _
   | exact LeO.none _
   | refine LeO.ite ?_ ?_
   | refine LeO.bind ?_ (fun _ => ?_)
theorem lockstepref06_Small.mono : ∀ a0 k, LeO (lockstepref06_Small.f k a0) (lockstepref06_Small.f (k + 1) a0) := by
 intro a0 k
 have ih0 := lockstepref06_Small.mono_l k
 unfold lockstepref06_Small.f
 repeat' first
  | (with_reducible exact ih0 _ _)
  | (with_reducible exact LeO.refl _)
  | (with_reducible exact LeO.none _)
  | (with_reducible refine LeO.ite ?_ ?_)
  | (with_reducible refine LeO.bind ?_ (fun _ => ?_))
  | exact ih0 _ _
  | exact LeO.none _
  | refine LeO.ite ?_ ?_
  | refine LeO.bind ?_ (fun _ => ?_)
set_option maxHeartbeats 8000000 in
set_option maxRecDepth 100000 in
theorem lockstepref06_Small.calls (k : Nat) (A0 : Option Addr) (c0 : Nat) (l0 : List (List Int)) (r : Bool) (w : World) (hr0 : Kd.C (Kd.slice 3 (Kd.int .i64)) w A0 l0.length l0) (hc0 : l0.length ≤ c0) (h : lockstepref06_Small.f k l0 = some r) :
 Calls Try.prog 8 #[.slice A0 l0.length c0] w fun e w' => e = .returned (.bool r) ∧ Drawn0 w w' := by
 have HR0 := Aside0.mk hr0
 have HC0 := Aside0.mk hc0
 clear hr0 hc0
 have H : (lockstepref06_Small.l0 k l0 0) = some r := h
 clear h
 have H' := Aside0.mk H
 clear H
 go_enter Try.func8, Try.ntmps8
 go_wp2
 go_loopg [3] k (fun kq v3 w' => ∃ (x3_1 : Int), v3 = .int .i64 x3_1 ∧ Aside0 (lockstepref06_Small.l0 kq l0 x3_1 = some r) ∧ Aside0 (kq ≤ k) ∧ Drawn0 w w')
 case atStart => exact ⟨(0), (by first | rfl | (simp; done) | (simp [*]; done)), H', ⟨Nat.le_refl _⟩, by repeat (first | exact Drawn0.refl _ | apply Drawn0.step)⟩
 case round =>
  clear H'
  obtain ⟨x3_1, rfl, HA, HK1, ⟨m1, rfl⟩⟩ := hrel
  cases gk with
  | zero => exact absurd HA.out (by simp [lockstepref06_Small.l0])
  | succ k1 =>
   have H := HA.out
   clear HA
   simp only [lockstepref06_Small.l0] at H
   by_cases c2 : x3_1 < (l0.length : Int)
   ·rw [if_pos c2] at H
    have c2b0 : decide (x3_1 < (l0.length : Int)) = true := decide_eq_true c2
    clear c2
    by_cases c3 : 0 ≤ x3_1
    ·rw [if_pos c3] at H
     have c3b0 : decide (0 ≤ x3_1) = true := decide_eq_true c3
     clear c3
     by_cases c4 : ((rd_L1 l0 x3_1).length : Int) > 100
     ·rw [if_pos c4] at H
      have c4b0 : decide (100 < ((rd_L1 l0 x3_1).length : Int)) = true := decide_eq_true c4
      have c4b1 : decide (100 < (rd_L1 l0 x3_1).length) = true := decide_eq_true (by omega)
      clear c4
      obtain rfl := Option.some.inj H
      have p332 : 0 ≤ (x3_1 : Int) := D_
      have q332 : x3_1 < (l0.length : Int) := D_
      obtain ⟨ad332, A332_0, c332_0, e332, hx332_0, hl332_0, hi332_0⟩ := at_L1 HR0.out x3_1 p332 q332
      cases e332
      have HR332_0 := Aside0.mk hi332_0
      have HC332_0 := Aside0.mk hl332_0
      clear hi332_0 hl332_0
      replace p332 := eq_true p332
      replace q332 := eq_true q332
      go_wp2
      go_ret
      exact ⟨by first | rfl | (simp; done) | (simp [*]; done), by repeat (first | exact Drawn0.refl _ | apply Drawn0.step)⟩
     rw [if_neg c4] at H
     have c4b0 : decide (100 < ((rd_L1 l0 x3_1).length : Int)) = false := decide_eq_false c4
     have c4b1 : decide (100 < (rd_L1 l0 x3_1).length) = false := decide_eq_false (by omega)
     clear c4
     by_cases c5 : x3_1 > 100
     ·rw [if_pos c5] at H
      have c5b0 : decide (100 < x3_1) = true := decide_eq_true c5
      clear c5
      obtain rfl := Option.some.inj H
      have p332 : 0 ≤ (x3_1 : Int) := D_
      have q332 : x3_1 < (l0.length : Int) := D_
      obtain ⟨ad332, A332_0, c332_0, e332, hx332_0, hl332_0, hi332_0⟩ := at_L1 HR0.out x3_1 p332 q332
      cases e332
      have HR332_0 := Aside0.mk hi332_0
      have HC332_0 := Aside0.mk hl332_0
      clear hi332_0 hl332_0
      replace p332 := eq_true p332
      replace q332 := eq_true q332
      go_wp2
      go_ret
      exact ⟨by first | rfl | (simp; done) | (simp [*]; done), by repeat (first | exact Drawn0.refl _ | apply Drawn0.step)⟩
     rw [if_neg c5] at H
     have c5b0 : decide (100 < x3_1) = false := decide_eq_false c5
     clear c5
     have H' := Aside0.mk H
     clear H
     have p332 : 0 ≤ (x3_1 : Int) := D_
     have q332 : x3_1 < (l0.length : Int) := D_
     obtain ⟨ad332, A332_0, c332_0, e332, hx332_0, hl332_0, hi332_0⟩ := at_L1 HR0.out x3_1 p332 q332
     cases e332
     have HR332_0 := Aside0.mk hi332_0
     have HC332_0 := Aside0.mk hl332_0
     clear hi332_0 hl332_0
     replace p332 := eq_true p332
     replace q332 := eq_true q332
     go_wp2
     go_roundg k1
     case measure => have := HK1.out; omega
     case rel => exact ⟨(wrap64 (x3_1 + 1)), (by first | rfl | (simp; done) | (simp [*]; done)), H', ⟨by have := HK1.out; omega⟩, by repeat (first | exact Drawn0.refl _ | apply Drawn0.step)⟩
    rw [if_neg c3] at H
    exact absurd H (by simp)
   rw [if_neg c2] at H
   have c2b0 : decide (x3_1 < (l0.length : Int)) = false := decide_eq_false c2
   clear c2
   obtain rfl := Option.some.inj H
   go_wp2
   go_ret
   exact ⟨by first | rfl | (simp; done) | (simp [*]; done), by repeat (first | exact Drawn0.refl _ | apply Drawn0.step)⟩


/-! ### lockstepref06_Reach: function 12 -/
mutual
def lockstepref06_Reach.l0 : Nat → Int → List Bool → Int → List (List Int) → List (List Int) → Option (List Bool)
 | 0, _, _, _, _, _ => none
 | k + 1, x2, x7, x8, x334000, x334001 => if x8 < (x7.length : Int) then (lockstepref06_Reach.l1 k x2 x7 x8 0 x334000 x334001) else (some x7)
def lockstepref06_Reach.l1 : Nat → Int → List Bool → Int → Int → List (List Int) → List (List Int) → Option (List Bool)
 | 0, _, _, _, _, _, _ => none
 | k + 1, x2, x7, x8, x9, x334000, x334001 => if x9 < (x7.length : Int) then (lockstepref06_Reach.l2 k x2 x7 x8 x9 0 x334000 x334001) else (lockstepref06_Reach.l0 k x2 x7 (wrap64 (x8 + 1)) x334000 x334001)
def lockstepref06_Reach.l2 : Nat → Int → List Bool → Int → Int → Int → List (List Int) → List (List Int) → Option (List Bool)
 | 0, _, _, _, _, _, _, _ => none
 | k + 1, x2, x7, x8, x9, x10, x334000, x334001 => if 0 ≤ x9 then (if x9 < (x7.length : Int) then (if rdOf false x7 x9 = true then (if x9 < (x334000.length : Int) then (lockstepref06_Reach.j3 k x2 x7 x8 x9 x10 (decide (x10 < ((rd_L1 x334000 x9).length : Int))) x334000 x334001) else (none)) else (lockstepref06_Reach.j3 k x2 x7 x8 x9 x10 false x334000 x334001)) else (none)) else (none)
def lockstepref06_Reach.j3 : Nat → Int → List Bool → Int → Int → Int → Bool → List (List Int) → List (List Int) → Option (List Bool)
 | 0, _, _, _, _, _, _, _, _ => none
 | k + 1, x2, x7, x8, x9, x10, x47, x334000, x334001 => if x47 = true then (if 0 ≤ x9 then (if x9 < (x334000.length : Int) then (if 0 ≤ x10 then (if x10 < ((rd_L1 x334000 x9).length : Int) then (if (rd (rd_L1 x334000 x9) x10) = x2 then (lockstepref06_Reach.l2 k x2 x7 x8 x9 (wrap64 (x10 + 1)) x334000 x334001) else (if 0 ≤ (rd (rd_L1 x334000 x9) x10) then (if (rd (rd_L1 x334000 x9) x10) < (x7.length : Int) then (lockstepref06_Reach.l2 k x2 (x7.set ((rd (rd_L1 x334000 x9) x10) : Int).toNat true) x8 x9 (wrap64 (x10 + 1)) x334000 x334001) else (none)) else (none))) else (none)) else (none)) else (none)) else (none)) else (lockstepref06_Reach.l1 k x2 x7 x8 (wrap64 (x9 + 1)) x334000 x334001)
end
def lockstepref06_Reach.f (k : Nat) (l0_0 : List (List Int)) (l0_1 : List (List Int)) (a1 : Int) (a2 : Int) : Option (List Bool) := if 0 ≤ (l0_0.length : Int) then (if ((l0_0.length : Int) : Int).toNat ≤ 281474976710656 then ((some (List.replicate ((l0_0.length : Int) : Int).toNat false : List Bool)).bind fun y334 => (if a1 = a2 then (some y334) else (if 0 ≤ a1 then (if a1 < (y334.length : Int) then (lockstepref06_Reach.l0 k a2 (y334.set (a1 : Int).toNat true) 0 l0_0 l0_1) else (none)) else (none)))) else (none)) else (none)
theorem lockstepref06_Reach.mono_l : ∀ k, (∀ y0 y1 y2 y3 y4, LeO (lockstepref06_Reach.l0 k y0 y1 y2 y3 y4) (lockstepref06_Reach.l0 (k + 1) y0 y1 y2 y3 y4)) ∧ (∀ y0 y1 y2 y3 y4 y5, LeO (lockstepref06_Reach.l1 k y0 y1 y2 y3 y4 y5) (lockstepref06_Reach.l1 (k + 1) y0 y1 y2 y3 y4 y5)) ∧ (∀ y0 y1 y2 y3 y4 y5 y6, LeO (lockstepref06_Reach.l2 k y0 y1 y2 y3 y4 y5 y6) (lockstepref06_Reach.l2 (k + 1) y0 y1 y2 y3 y4 y5 y6)) ∧ (∀ y0 y1 y2 y3 y4 y5 y6 y7, LeO (lockstepref06_Reach.j3 k y0 y1 y2 y3 y4 y5 y6 y7) (lockstepref06_Reach.j3 (k + 1) y0 y1 y2 y3 y4 y5 y6 y7))
 | 0 => ⟨fun _ _ _ _ _ r h => by simp [lockstepref06_Reach.l0] at h, fun _ _ _ _ _ _ r h => by simp [lockstepref06_Reach.l1] at h, fun _ _ _ _ _ _ _ r h => by simp [lockstepref06_Reach.l2] at h, fun _ _ _ _ _ _ _ _ r h => by simp [lockstepref06_Reach.j3] at h⟩
 | k + 1 => by
  obtain ⟨ih0, ih1, ih2, ih3⟩ := lockstepref06_Reach.mono_l k
  refine ⟨?_, ?_, ?_, ?_⟩
  ·intro y0 y1 y2 y3 y4
   unfold lockstepref06_Reach.l0
   repeat' first
   | (with_reducible exact ih0 _ _ _ _ _)
   | (with_reducible exact ih1 _ _ _ _ _ _)
   | (with_reducible exact ih2 _ _ _ _ _ _ _)
   | (with_reducible exact ih3 _ _ _ _ _ _ _ _)
   | (with_reducible exact LeO.refl _)
   | (with_reducible exact LeO.none _)
   | (with_reducible refine LeO.ite ?_ ?_)
   | (with_reducible refine LeO.bind ?_ (fun _ => ?_))
   | exact ih0 _ _ _ _ _
   | exact ih1 _ _ _ _ _ _
   | exact ih2 _ _ _ _ _ _ _
   | exact ih3 _ _ _ _ _ _ _ _
   | exact LeO.none _
   | refine LeO.ite ?_ ?_
   | refine LeO.bind ?_ (fun _ => ?_)
  ·intro y0 y1 y2 y3 y4 y5
   unfold lockstepref06_Reach.l1
   repeat' first
   | (with_reducible exact ih0 _ _ _ _ _)
   | (with_reducible exact ih1 _ _ _ _ _ _)
   | (with_reducible exact ih2 _ _ _ _ _ _ _)
   | (with_reducible exact ih3 _ _ _ _ _ _ _ _)
   | (with_reducible exact LeO.refl _)
   | (with_reducible exact LeO.none _)
   | (with_reducible refine LeO.ite ?_ ?_)
   | (with_reducible refine LeO.bind ?_ (fun _ => ?_))
   | exact ih0 _ _ _ _ _
   | exact ih1 _ _ _ _ _ _
   | exact ih2 _ _ _ _ _ _ _
   | exact ih3 _ _ _ _ _ _ _ _
   | exact LeO.none _
   | refine LeO.ite ?_ ?_
   | refine LeO.bind ?_ (fun _ => ?_)
  ·intro y0 y1 y2 y3 y4 y5 y6
   unfold lockstepref06_Reach.l2
   repeat' first
   | (with_reducible exact ih0 _ _ _ _ _)
   | (with_reducible exact ih1 _ _ _ _ _ _)
   | (with_reducible exact ih2 _ _ _ _ _ _ _)
   | (with_reducible exact ih3 _ _ _ _ _ _ _ _)
   | (with_reducible exact LeO.refl _)
   | (with_reducible exact LeO.none _)
   | (with_reducible refine LeO.ite ?_ ?_)
   | (with_reducible refine LeO.bind ?_ (fun _ => ?_))
   | exact ih0 _ _ _ _ _
   | exact ih1 _ _ _ _ _ _
   | exact ih2 _ _ _ _ _ _ _
   | exact ih3 _ _ _ _ _ _ _ _
   | exact LeO.none _
   | refine LeO.ite ?_ ?_
   | refine LeO.bind ?_ (fun _ => ?_)
  ·intro y0 y1 y2 y3 y4 y5 y6 y7
   unfold lockstepref06_Reach.j3
   repeat' first
   | (with_reducible exact ih0 _ _ _ _ _)
   | (with_reducible exact ih1 _ _ _ _ _ _)
   | (with_reducible exact ih2 _ _ _ _ _ _ _)
   | (with_reducible exact ih3 _ _ _ _ _ _ _ _)
   | (with_reducible exact LeO.refl _)
   | (with_reducible exact LeO.none _)
   | (with_reducible refine LeO.ite ?_ ?_)
   | (with_reducible refine LeO.bind ?_ (fun _ => ?_))
   | exact ih0 _ _ _ _ _
   | exact ih1 _ _ _ _ _ _
   | exact ih2 _ _ _ _ _ _ _
   | exact ih3 _ _ _ _ _ _ _ _
   | exact LeO.none _
   | refine LeO.ite ?_ ?_
   | refine LeO.bind ?_ (fun _ => ?_)
theorem lockstepref06_Reach.mono : ∀ a0 a1 a2 a3 k, LeO (lockstepref06_Reach.f k a0 a1 a2 a3) (lockstepref06_Reach.f (k + 1) a0 a1 a2 a3) := by
 intro a0 a1 a2 a3 k
 obtain ⟨ih0, ih1, ih2, ih3⟩ := lockstepref06_Reach.mono_l k
 unfold lockstepref06_Reach.f
 repeat' first
  | (with_reducible exact ih0 _ _ _ _ _)
  | (with_reducible exact ih1 _ _ _ _ _ _)
  | (with_reducible exact ih2 _ _ _ _ _ _ _)
  | (with_reducible exact ih3 _ _ _ _ _ _ _ _)
  | (with_reducible exact LeO.refl _)
  | (with_reducible exact LeO.none _)
  | (with_reducible refine LeO.ite ?_ ?_)
  | (with_reducible refine LeO.bind ?_ (fun _ => ?_))
  | exact ih0 _ _ _ _ _
  | exact ih1 _ _ _ _ _ _
  | exact ih2 _ _ _ _ _ _ _
  | exact ih3 _ _ _ _ _ _ _ _
  | exact LeO.none _
  | refine LeO.ite ?_ ?_
  | refine LeO.bind ?_ (fun _ => ?_)
set_option maxHeartbeats 8000000 in
set_option maxRecDepth 100000 in
theorem lockstepref06_Reach.calls (k : Nat) (A0_0 : Option Addr) (c0_0 : Nat) (l0_0 : List (List Int)) (A0_1 : Option Addr) (c0_1 : Nat) (l0_1 : List (List Int)) (a1 : Int) (a2 : Int) (r : List Bool) (w : World) (hr0_0 : Kd.C (Kd.slice 3 (Kd.int .i64)) w A0_0 l0_0.length l0_0) (hc0_0 : l0_0.length ≤ c0_0) (hr0_1 : Kd.C (Kd.slice 3 (Kd.int .i64)) w A0_1 l0_1.length l0_1) (hc0_1 : l0_1.length ≤ c0_1) (h : lockstepref06_Reach.f k l0_0 l0_1 a1 a2 = some r) :
 Calls Try.prog 12 #[.agg #[.slice A0_0 l0_0.length c0_0, .slice A0_1 l0_1.length c0_1], .int .i64 a1, .int .i64 a2] w fun e w' => ∃ v0_ : Value, e = .returned (v0_) ∧ Kd.R Kd.bool 4 w' w.heap.size (fun _ => True) v0_ r ∧ Below w.heap.size w w' := by
 have hu26 := Try.underlying26
 have HR0_0 := Aside0.mk hr0_0
 have HC0_0 := Aside0.mk hc0_0
 clear hr0_0 hc0_0
 have HR0_1 := Aside0.mk hr0_1
 have HC0_1 := Aside0.mk hc0_1
 clear hr0_1 hc0_1
 have HB := Aside0.mk (Below.refl w.heap.size w)
 have H : (if 0 ≤ (l0_0.length : Int) then (if ((l0_0.length : Int) : Int).toNat ≤ 281474976710656 then ((some (List.replicate ((l0_0.length : Int) : Int).toNat false : List Bool)).bind fun y334 => (if a1 = a2 then (some y334) else (if 0 ≤ a1 then (if a1 < (y334.length : Int) then (lockstepref06_Reach.l0 k a2 (y334.set (a1 : Int).toNat true) 0 l0_0 l0_1) else (none)) else (none)))) else (none)) else (none)) = some r := h
 clear h
 by_cases c4 : 0 ≤ (l0_0.length : Int)
 ·rw [if_pos c4] at H
  have c4b0 := eq_true c4
  have c4b1 : decide (0 ≤ (l0_0.length : Int)) = true := decide_eq_true c4
  clear c4
  by_cases c5 : ((l0_0.length : Int) : Int).toNat ≤ 281474976710656
  ·rw [if_pos c5] at H
   have c5b0 := eq_true c5
   have c5b1 : decide (((l0_0.length : Int) : Int).toNat ≤ 281474976710656) = true := decide_eq_true c5
   clear c5
   obtain ⟨y334, hy334⟩ : ∃ y_ : List Bool, y_ = (List.replicate ((l0_0.length : Int) : Int).toNat false) := ⟨_, rfl⟩
   replace H : (if a1 = a2 then (some y334) else (if 0 ≤ a1 then (if a1 < (y334.length : Int) then (lockstepref06_Reach.l0 k a2 (y334.set (a1 : Int).toNat true) 0 l0_0 l0_1) else (none)) else (none))) = some r := by first | (rw [hy334]; with_reducible exact H) | (have H2_ := (Option.bind_some _ _).symm.trans H; rw [hy334]; with_reducible exact H2_) | (have H2_ := (Option.bind_some _ _).symm.trans H; with_reducible exact H2_) | with_reducible exact H | (rw [hy334]; exact H) | exact H
   have Ny334 := Aside0.mk hy334
   clear hy334
   by_cases c6 : a1 = a2
   ·rw [if_pos c6] at H
    have c6b0 : (a1 == a2) = true := beq_iff_eq.mpr c6
    have c6b1 : (a1 != a2) = false := bne_eq_false_iff_eq.mpr c6
    clear c6
    obtain rfl := Option.some.inj H
    go_enter Try.func12, Try.ntmps12
    go_wp2_with (first | ((with_reducible refine gate_dst (N := 3) rfl ?_); (try (refine gate_guard (by rfl) ?_; dsimp only)); refine box_event ?hg (N := 3) ?hd (cs := #[.slice A0_0 l0_0.length c0_0, .slice A0_1 l0_1.length c0_1]) (t := 26) ?hr ?_; (case hd => rfl); (case hg => rfl); (case hr => first | (go_simp; done) | (go_simp; rfl)); intro gb333 hg w7 hbox hb; have n0_ := Aside0.mk (below_step (B_) hb); have n1_ := Aside0.mk (hbox); have n2_ := Aside0.mk ((by rw [hg]; exact (below_size (B_)) : w.heap.size ≤ gb333)); have n3_ := Aside0.mk ((by rw [hg]; exact (below_size (B_)) : w.heap.size ≤ gb333)); clear HB; have HB := n0_; have BK333 := n1_; have GW333 := n2_; have GE333 := n3_; clear n0_ n1_ n2_ n3_; clear hb hbox hg; have hcz8_0 : w7.cell? ⟨gb333, 0, none⟩ = some (.slice A0_0 l0_0.length c0_0) := (blk_cell BK333.out 0).trans rfl; have hcz8_1 : w7.cell? ⟨gb333, 1, none⟩ = some (.slice A0_1 l0_1.length c0_1) := (blk_cell BK333.out 1).trans rfl; have hfz8_0 := blk_frozen BK333.out 0; have hfz8_1 := blk_frozen BK333.out 1) | ((with_reducible refine gate_dst (N := 14) rfl ?_); (try (refine gate_guard (by rfl) ?_; dsimp only)); refine Kd.R_make Kd.bool _ 4 rfl (N := 14) rfl 33 _ _ rfl (l0_0.length : Int) rfl rfl Try.underlying33 (.bool false) 1 info4 rfl (by decide) (by omega) false (ok := fun _ => True) (okp := fun _ => True) rfl (fun _ hk => hk) trivial (D_) (Nat.le_trans (Nat.mul_le_mul_right _ (D_ : (l0_0.length : Int).toNat ≤ 281474976710656)) (by omega)) (Below.refl _ _) (Nat.le_refl _) ?_; intro v335 w9 ho10 hb hg_ hnew_; clear hg_ hnew_; (first | rw [← Ny334.out] at ho10 | (simp only [Int.reduceToNat] at ho10; rw [← Ny334.out] at ho10)); have n0_ := Aside0.mk (Kd.R_lower ho10 (below_size (B1_))); have n1_ := Aside0.mk (blk_below (g := gb333) (o := .cells #[.slice A0_0 l0_0.length c0_0, .slice A0_1 l0_1.length c0_1] 26 (0, 0)) (by exact KX_ BK333.out) hb); have n2_ := Aside0.mk (below_step (B1_) hb); clear BK333; clear HB; have HO336 := n0_; have BK333 := n1_; have HB := n2_; clear n0_ n1_ n2_; clear hb ho10))
    go_ret
    exact ⟨_, by first | rfl | (simp [errW_none, errW_some] <;> rfl) | (simp [*, errW_none, errW_some] <;> rfl), by exact RX_ HO336.out, B1_⟩
   rw [if_neg c6] at H
   have c6b0 : (a1 == a2) = false := beq_eq_false_iff_ne.mpr c6
   have c6b1 : (a1 != a2) = true := bne_iff_ne.mpr c6
   by_cases c11 : 0 ≤ a1
   ·rw [if_pos c11] at H
    have c11b0 : decide (0 ≤ a1) = true := decide_eq_true c11
    clear c11
    by_cases c12 : a1 < (y334.length : Int)
    ·rw [if_pos c12] at H
     have c12b0 : decide (a1 < (y334.length : Int)) = true := decide_eq_true c12
     clear c12
     obtain ⟨y337, hy337⟩ : ∃ y_ : List Bool, y_ = (y334.set (a1 : Int).toNat true) := ⟨_, rfl⟩
     replace H : (lockstepref06_Reach.l0 k a2 y337 0 l0_0 l0_1) = some r := by first | (rw [hy337]; with_reducible exact H) | (have H2_ := (Option.bind_some _ _).symm.trans H; rw [hy337]; with_reducible exact H2_) | (have H2_ := (Option.bind_some _ _).symm.trans H; with_reducible exact H2_) | with_reducible exact H | (rw [hy337]; exact H) | exact H
     have Ny337 := Aside0.mk hy337
     clear hy337
     have H' := Aside0.mk H
     clear H
     go_enter Try.func12, Try.ntmps12
     go_wp2_with (first | ((with_reducible refine gate_dst (N := 3) rfl ?_); (try (refine gate_guard (by rfl) ?_; dsimp only)); refine box_event ?hg (N := 3) ?hd (cs := #[.slice A0_0 l0_0.length c0_0, .slice A0_1 l0_1.length c0_1]) (t := 26) ?hr ?_; (case hd => rfl); (case hg => rfl); (case hr => first | (go_simp; done) | (go_simp; rfl)); intro gb333 hg w14 hbox hb; have n0_ := Aside0.mk (below_step (B_) hb); have n1_ := Aside0.mk (hbox); have n2_ := Aside0.mk ((by rw [hg]; exact (below_size (B_)) : w.heap.size ≤ gb333)); have n3_ := Aside0.mk ((by rw [hg]; exact (below_size (B_)) : w.heap.size ≤ gb333)); clear HB; have HB := n0_; have BK333 := n1_; have GW333 := n2_; have GE333 := n3_; clear n0_ n1_ n2_ n3_; clear hb hbox hg; have hcz15_0 : w14.cell? ⟨gb333, 0, none⟩ = some (.slice A0_0 l0_0.length c0_0) := (blk_cell BK333.out 0).trans rfl; have hcz15_1 : w14.cell? ⟨gb333, 1, none⟩ = some (.slice A0_1 l0_1.length c0_1) := (blk_cell BK333.out 1).trans rfl; have hfz15_0 := blk_frozen BK333.out 0; have hfz15_1 := blk_frozen BK333.out 1) | ((with_reducible refine gate_dst (N := 14) rfl ?_); (try (refine gate_guard (by rfl) ?_; dsimp only)); refine Kd.R_make Kd.bool _ 4 rfl (N := 14) rfl 33 _ _ rfl (l0_0.length : Int) rfl rfl Try.underlying33 (.bool false) 1 info4 rfl (by decide) (by omega) false (ok := fun _ => True) (okp := fun _ => True) rfl (fun _ hk => hk) trivial (D_) (Nat.le_trans (Nat.mul_le_mul_right _ (D_ : (l0_0.length : Int).toNat ≤ 281474976710656)) (by omega)) (Below.refl _ _) (Nat.le_refl _) ?_; intro v335 w16 ho17 hb hg_ hnew_; clear hg_ hnew_; (first | rw [← Ny334.out] at ho17 | (simp only [Int.reduceToNat] at ho17; rw [← Ny334.out] at ho17)); have n0_ := Aside0.mk (Kd.R_lower ho17 (below_size (B1_))); have n1_ := Aside0.mk (blk_below (g := gb333) (o := .cells #[.slice A0_0 l0_0.length c0_0, .slice A0_1 l0_1.length c0_1] 26 (0, 0)) (by exact KX_ BK333.out) hb); have n2_ := Aside0.mk (below_step (B1_) hb); clear BK333; clear HB; have HO336 := n0_; have BK333 := n1_; have HB := n2_; clear n0_ n1_ n2_; clear hb ho17; have p13 : 0 ≤ (a1 : Int) := D_; have q13 : (a1 : Int) < ((y334.length : Int) : Int) := D_; obtain ⟨go13, co13, eo13, gb13, gl13, cl13, HG13⟩ := Kd.R_form HO336.out (by omega); (first | cases eo13 | (injection eo13 with ea_ en_ ec_; (first | subst ea_ | (injection ea_ with ea_; subst ea_)); subst ec_; clear en_)); have GB13 := Aside0.mk gb13; have GG13 := Aside0.mk HG13; clear gb13 gl13 HG13; obtain ⟨hx13_0, hf13_0⟩ := Kd.R_celln false HO336.out (a1 : Int) p13 q13; replace p13 := eq_true p13; replace q13 := eq_true q13; obtain ⟨hy18_, hz18_⟩ := Kd.R_celln false HO336.out (a1 : Int) (D_) (D_); have HP18 := Kd.R_putg HO336.out (a1 : Int) true) | ((with_reducible refine gate_store (t := 4) (p := 21) rfl ?_); refine store_event (t := 4) (p := 21) (v := ?vo_w19) (w1 := (w16.setCell ⟨go13, (a1 : Int).toNat, none⟩ (.bool true))) ?hg ?ho ?hn ?hr ?_; (case ho => rfl); (case hg => rfl); (case hn => rfl); (case hr => first | (go_simp; done) | (go_simp; rfl)); intro w19 hw; have hg : w16.grownBy w19 (some go13) := (by rw [hw]; exact HP18.2); have hp_ : Kd.R Kd.bool 4 w19 w.heap.size (fun _ => True) (.slice (some ⟨go13, 0, none⟩) y334.length co13) y337 := (by rw [hw, Ny337.out]; exact HP18.1); clear HP18; have n0_ := Aside0.mk (blk_grown (g := gb333) (o := .cells #[.slice A0_0 l0_0.length c0_0, .slice A0_1 l0_1.length c0_1] 26 (0, 0)) (by exact KX_ BK333.out) hg (Kd.R_ne HO336.out BK333.out (by decide))); have n1_ := Aside0.mk (hp_); have n2_ := Aside0.mk ((by rw [hw]; exact below_set (HB.out) GB13.out : Below w.heap.size w w19)); clear BK333; clear HO336; clear HB; have BK333 := n0_; have HO336 := n1_; have HB := n2_; clear n0_ n1_ n2_; clear hg hw hp_))
     go_loopg [8] k (fun kq v8 w' => ∃ (x7_1 : List Bool) (x8_1 : Int), v8 = .int .i64 x8_1 ∧ Aside0 (lockstepref06_Reach.l0 kq a2 x7_1 x8_1 l0_0 l0_1 = some r) ∧ Aside0 (kq ≤ k) ∧ Aside0 (Kd.R Kd.bool 4 w' w.heap.size (fun _ => True) (.slice (some ⟨go13, 0, none⟩) y334.length co13) x7_1) ∧ Aside0 (w'.heap[gb333]? = some (.cells #[(.slice A0_0 l0_0.length c0_0), (.slice A0_1 l0_1.length c0_1)] 26 (0, 0))) ∧ Aside0 (Below w.heap.size w w'))
     case atStart => exact ⟨(y337), (0), (by first | rfl | (simp; done) | (simp [*]; done)), H', ⟨Nat.le_refl _⟩, ⟨by exact RM_ HO336.out⟩, ⟨by exact KX_ BK333.out⟩, ⟨B1_⟩⟩
     case round =>
      clear H'
      try clear c4b0
      try clear c4b1
      try clear c5b0
      try clear c5b1
      try clear c6
      try clear c6b0
      try clear c6b1
      try clear c11b0
      try clear c12b0
      try clear p13
      try clear q13
      try clear hcz15_0
      try clear hcz15_1
      try clear hfz15_0
      try clear hfz15_1
      try clear hx13_0
      try clear p13
      try clear q13
      obtain ⟨x7_1, x8_1, rfl, HA, HK1, HO_7, BK333, HB⟩ := hrel
      have hl7_1 := (Kd.R_reads' HO_7.out).1
      rw [hl7_1] at HO_7
      (try simp only [hl7_1])
      (try simp only [hl7_1] at BK333)
      cases gk with
      | zero => exact absurd HA.out (by simp [lockstepref06_Reach.l0])
      | succ k1 =>
       have H := HA.out
       clear HA
       simp only [lockstepref06_Reach.l0] at H
       by_cases c20 : x8_1 < (x7_1.length : Int)
       ·rw [if_pos c20] at H
        have c20b0 : decide (x8_1 < (x7_1.length : Int)) = true := decide_eq_true c20
        clear c20
        have H' := Aside0.mk H
        clear H
        go_wp2
        go_loopg [9] k1 (fun kq v9 w' => ∃ (x7_2 : List Bool) (x9_2 : Int), v9 = .int .i64 x9_2 ∧ Aside0 (lockstepref06_Reach.l1 kq a2 x7_2 x8_1 x9_2 l0_0 l0_1 = some r) ∧ Aside0 (kq ≤ k1) ∧ Aside0 (Kd.R Kd.bool 4 w' w.heap.size (fun _ => True) (.slice (some ⟨go13, 0, none⟩) x7_1.length co13) x7_2) ∧ Aside0 (w'.heap[gb333]? = some (.cells #[(.slice A0_0 l0_0.length c0_0), (.slice A0_1 l0_1.length c0_1)] 26 (0, 0))) ∧ Aside0 (Below w.heap.size w w'))
        case atStart => exact ⟨(x7_1), (0), (by first | rfl | (simp; done) | (simp [*]; done)), H', ⟨Nat.le_refl _⟩, ⟨by (try simp only [hl7_1]); exact RM_ HO_7.out⟩, ⟨by (try simp only [hl7_1]); exact KX_ BK333.out⟩, ⟨B1_⟩⟩
        case round =>
         clear H'
         try clear c20b0
         obtain ⟨x7_2, x9_2, rfl, HA, HK2, HO_7, BK333, HB⟩ := hrel
         have hl7_2 := (Kd.R_reads' HO_7.out).1
         rw [hl7_2] at HO_7
         (try simp only [hl7_2])
         (try simp only [hl7_2] at BK333)
         cases gk with
         | zero => exact absurd HA.out (by simp [lockstepref06_Reach.l1])
         | succ k2 =>
          have H := HA.out
          clear HA
          simp only [lockstepref06_Reach.l1] at H
          by_cases c21 : x9_2 < (x7_2.length : Int)
          ·rw [if_pos c21] at H
           have c21b0 : decide (x9_2 < (x7_2.length : Int)) = true := decide_eq_true c21
           clear c21
           have H' := Aside0.mk H
           clear H
           go_wp2
           go_loopg [10] k2 (fun kq v10 w' => ∃ (x7_3 : List Bool) (x10_3 : Int), v10 = .int .i64 x10_3 ∧ Aside0 (lockstepref06_Reach.l2 kq a2 x7_3 x8_1 x9_2 x10_3 l0_0 l0_1 = some r) ∧ Aside0 (kq ≤ k2) ∧ Aside0 (Kd.R Kd.bool 4 w' w.heap.size (fun _ => True) (.slice (some ⟨go13, 0, none⟩) x7_2.length co13) x7_3) ∧ Aside0 (w'.heap[gb333]? = some (.cells #[(.slice A0_0 l0_0.length c0_0), (.slice A0_1 l0_1.length c0_1)] 26 (0, 0))) ∧ Aside0 (Below w.heap.size w w'))
           case atStart => exact ⟨(x7_2), (0), (by first | rfl | (simp; done) | (simp [*]; done)), H', ⟨Nat.le_refl _⟩, ⟨by (try simp only [hl7_1]); (try simp only [hl7_2]); exact RM_ HO_7.out⟩, ⟨by (try simp only [hl7_1]); (try simp only [hl7_2]); exact KX_ BK333.out⟩, ⟨B1_⟩⟩
           case round =>
            clear H'
            try clear c21b0
            obtain ⟨x7_3, x10_3, rfl, HA, HK3, HO_7, BK333, HB⟩ := hrel
            have hl7_3 := (Kd.R_reads' HO_7.out).1
            rw [hl7_3] at HO_7
            (try simp only [hl7_3])
            (try simp only [hl7_3] at BK333)
            cases gk with
            | zero => exact absurd HA.out (by simp [lockstepref06_Reach.l2])
            | succ k3 =>
             have H := HA.out
             clear HA
             simp only [lockstepref06_Reach.l2] at H
             have HC22 := Aside0.mk H
             clear H
             go_upto_region 12 with (fail)
             go_cut [47] (fun v47 wc => ∃ (kq : Nat) (x47_21 : Bool), v47 = .bool x47_21 ∧ Aside0 (lockstepref06_Reach.j3 kq a2 x7_3 x8_1 x9_2 x10_3 x47_21 l0_0 l0_1 = some r) ∧ Aside0 (kq ≤ k3) ∧ Aside0 (Kd.R Kd.bool 4 wc w.heap.size (fun _ => True) (.slice (some ⟨go13, 0, none⟩) x7_3.length co13) x7_3) ∧ Aside0 (wc.heap[gb333]? = some (.cells #[(.slice A0_0 l0_0.length c0_0), (.slice A0_1 l0_1.length c0_1)] 26 (0, 0))) ∧ Aside0 (Below w.heap.size w wc))
             case first =>
              have H := HC22.out
              clear HC22
              by_cases c23 : 0 ≤ x9_2
              ·rw [if_pos c23] at H
               have c23b0 : decide (0 ≤ x9_2) = true := decide_eq_true c23
               clear c23
               (first | rw [c23b0] | (simp only [i64_w, i32_w]; rw [c23b0]) | skip)
               by_cases c24 : x9_2 < (x7_3.length : Int)
               ·rw [if_pos c24] at H
                have c24b0 : decide (x9_2 < (x7_3.length : Int)) = true := decide_eq_true c24
                clear c24
                obtain ⟨bq25, hbq25⟩ : ∃ b_ : Bool, b_ = (rdOf false x7_3 x9_2) := ⟨_, rfl⟩
                replace H : (if bq25 = true then (if x9_2 < (l0_0.length : Int) then (lockstepref06_Reach.j3 k3 a2 x7_3 x8_1 x9_2 x10_3 (decide (x10_3 < ((rd_L1 l0_0 x9_2).length : Int))) l0_0 l0_1) else (none)) else (lockstepref06_Reach.j3 k3 a2 x7_3 x8_1 x9_2 x10_3 false l0_0 l0_1)) = some r := by rw [← hbq25] at H; exact H
                have Nbq25 := Aside0.mk hbq25
                clear hbq25
                by_cases c26 : bq25 = true
                ·subst c26
                 have H1 : (if x9_2 < (l0_0.length : Int) then (lockstepref06_Reach.j3 k3 a2 x7_3 x8_1 x9_2 x10_3 (decide (x10_3 < ((rd_L1 l0_0 x9_2).length : Int))) l0_0 l0_1) else (none)) = some r := by rw [if_pos rfl] at H; exact H
                 clear H
                 have H := H1
                 clear H1
                 by_cases c27 : x9_2 < (l0_0.length : Int)
                 ·rw [if_pos c27] at H
                  have c27b0 : decide (x9_2 < (l0_0.length : Int)) = true := decide_eq_true c27
                  clear c27
                  have H' := Aside0.mk H
                  clear H
                  have p338 : 0 ≤ (x9_2 : Int) := D_
                  have q338 : x9_2 < (x7_3.length : Int) := D_
                  obtain ⟨ad338, e338, hx338_0⟩ := Kd.at_bool (Kd.R_reads' HO_7.out).2.2 x9_2 p338 q338
                  (try rw [← Nbq25.out] at hx338_0)
                  obtain rfl : (⟨go13, 0, none⟩ : Addr) = ad338 := (by injection e338)
                  (first | simp only [add_plain] at hx338_0 | simp only [add_at] at hx338_0 | simp only [Addr.add, Nat.zero_add] at hx338_0 | skip)
                  replace p338 := eq_true p338
                  replace q338 := eq_true q338
                  have hcz28_0 : wr.cell? ⟨gb333, 0, none⟩ = some (.slice A0_0 l0_0.length c0_0) := (blk_cell BK333.out 0).trans rfl
                  have hcz28_1 : wr.cell? ⟨gb333, 1, none⟩ = some (.slice A0_1 l0_1.length c0_1) := (blk_cell BK333.out 1).trans rfl
                  have hfz28_0 := blk_frozen BK333.out 0
                  have hfz28_1 := blk_frozen BK333.out 1
                  have p339 : 0 ≤ (x9_2 : Int) := D_
                  have q339 : x9_2 < (l0_0.length : Int) := D_
                  obtain ⟨ad339, A339_0, c339_0, e339, hx339_0, hl339_0, hi339_0⟩ := at_L1 HR0_0.out x9_2 p339 q339
                  cases e339
                  replace hx339_0 := (HB.out.cell (World.block_lt_of_cell? w _ hx339_0)).trans hx339_0
                  have HR339_0 := Aside0.mk hi339_0
                  have HC339_0 := Aside0.mk hl339_0
                  clear hi339_0 hl339_0
                  replace p339 := eq_true p339
                  replace q339 := eq_true q339
                  go_wp2
                  go_meet
                  case rel => exact ⟨_, (decide (x10_3 < ((rd_L1 l0_0 x9_2).length : Int))), (by first | rfl | (simp; done) | (simp [*]; done)), H', ⟨by have := HK1.out; have := HK2.out; have := HK3.out; first | omega | exact Nat.le_refl _⟩, ⟨by (try simp only [hl7_1]); (try simp only [hl7_2]); (try simp only [hl7_3]); exact RM_ HO_7.out⟩, ⟨by (try simp only [hl7_1]); (try simp only [hl7_2]); (try simp only [hl7_3]); exact KX_ BK333.out⟩, ⟨B1_⟩⟩
                 rw [if_neg c27] at H
                 exact absurd H (by simp)
                replace c26 := Bool.eq_false_iff.mpr c26
                subst c26
                have H1 : (lockstepref06_Reach.j3 k3 a2 x7_3 x8_1 x9_2 x10_3 false l0_0 l0_1) = some r := by rw [if_neg (show ¬ (false = true) by decide)] at H; exact H
                clear H
                have H := H1
                clear H1
                have H' := Aside0.mk H
                clear H
                have p338 : 0 ≤ (x9_2 : Int) := D_
                have q338 : x9_2 < (x7_3.length : Int) := D_
                obtain ⟨ad338, e338, hx338_0⟩ := Kd.at_bool (Kd.R_reads' HO_7.out).2.2 x9_2 p338 q338
                (try rw [← Nbq25.out] at hx338_0)
                obtain rfl : (⟨go13, 0, none⟩ : Addr) = ad338 := (by injection e338)
                (first | simp only [add_plain] at hx338_0 | simp only [add_at] at hx338_0 | simp only [Addr.add, Nat.zero_add] at hx338_0 | skip)
                replace p338 := eq_true p338
                replace q338 := eq_true q338
                go_wp2
                go_meet
                case rel => exact ⟨_, (false), (by first | rfl | (simp; done) | (simp [*]; done)), H', ⟨by have := HK1.out; have := HK2.out; have := HK3.out; first | omega | exact Nat.le_refl _⟩, ⟨by (try simp only [hl7_1]); (try simp only [hl7_2]); (try simp only [hl7_3]); exact RM_ HO_7.out⟩, ⟨by (try simp only [hl7_1]); (try simp only [hl7_2]); (try simp only [hl7_3]); exact KX_ BK333.out⟩, ⟨B1_⟩⟩
               rw [if_neg c24] at H
               exact absurd H (by simp)
              rw [if_neg c23] at H
              exact absurd H (by simp)
             case rest =>
              clear HC22
              obtain ⟨kq, x47_21, rfl, HA, HJ21, HO_7, BK333, HB⟩ := hcut
              cases kq with
              | zero => exact absurd HA.out (by simp [lockstepref06_Reach.j3])
              | succ kj21 =>
               have H := HA.out
               clear HA
               simp only [lockstepref06_Reach.j3] at H
               by_cases c29 : x47_21 = true
               ·subst c29
                have H1 : (if 0 ≤ x9_2 then (if x9_2 < (l0_0.length : Int) then (if 0 ≤ x10_3 then (if x10_3 < ((rd_L1 l0_0 x9_2).length : Int) then (if (rd (rd_L1 l0_0 x9_2) x10_3) = a2 then (lockstepref06_Reach.l2 kj21 a2 x7_3 x8_1 x9_2 (wrap64 (x10_3 + 1)) l0_0 l0_1) else (if 0 ≤ (rd (rd_L1 l0_0 x9_2) x10_3) then (if (rd (rd_L1 l0_0 x9_2) x10_3) < (x7_3.length : Int) then (lockstepref06_Reach.l2 kj21 a2 (x7_3.set ((rd (rd_L1 l0_0 x9_2) x10_3) : Int).toNat true) x8_1 x9_2 (wrap64 (x10_3 + 1)) l0_0 l0_1) else (none)) else (none))) else (none)) else (none)) else (none)) else (none)) = some r := by rw [if_pos rfl] at H; exact H
                clear H
                have H := H1
                clear H1
                by_cases c30 : 0 ≤ x9_2
                ·rw [if_pos c30] at H
                 have c30b0 : decide (0 ≤ x9_2) = true := decide_eq_true c30
                 clear c30
                 by_cases c31 : x9_2 < (l0_0.length : Int)
                 ·rw [if_pos c31] at H
                  have c31b0 : decide (x9_2 < (l0_0.length : Int)) = true := decide_eq_true c31
                  clear c31
                  by_cases c32 : 0 ≤ x10_3
                  ·rw [if_pos c32] at H
                   have c32b0 : decide (0 ≤ x10_3) = true := decide_eq_true c32
                   clear c32
                   by_cases c33 : x10_3 < ((rd_L1 l0_0 x9_2).length : Int)
                   ·rw [if_pos c33] at H
                    have c33b0 : decide (x10_3 < ((rd_L1 l0_0 x9_2).length : Int)) = true := decide_eq_true c33
                    clear c33
                    by_cases c34 : (rd (rd_L1 l0_0 x9_2) x10_3) = a2
                    ·rw [if_pos c34] at H
                     have c34b0 : ((rd (rd_L1 l0_0 x9_2) x10_3) == a2) = true := beq_iff_eq.mpr c34
                     have c34b1 : ((rd (rd_L1 l0_0 x9_2) x10_3) != a2) = false := bne_eq_false_iff_eq.mpr c34
                     clear c34
                     have H' := Aside0.mk H
                     clear H
                     have hcz35_0 : wc.cell? ⟨gb333, 0, none⟩ = some (.slice A0_0 l0_0.length c0_0) := (blk_cell BK333.out 0).trans rfl
                     have hcz35_1 : wc.cell? ⟨gb333, 1, none⟩ = some (.slice A0_1 l0_1.length c0_1) := (blk_cell BK333.out 1).trans rfl
                     have hfz35_0 := blk_frozen BK333.out 0
                     have hfz35_1 := blk_frozen BK333.out 1
                     have p340 : 0 ≤ (x9_2 : Int) := D_
                     have q340 : x9_2 < (l0_0.length : Int) := D_
                     obtain ⟨ad340, A340_0, c340_0, e340, hx340_0, hl340_0, hi340_0⟩ := at_L1 HR0_0.out x9_2 p340 q340
                     cases e340
                     replace hx340_0 := (HB.out.cell (World.block_lt_of_cell? w _ hx340_0)).trans hx340_0
                     have HR340_0 := Aside0.mk hi340_0
                     have HC340_0 := Aside0.mk hl340_0
                     clear hi340_0 hl340_0
                     replace p340 := eq_true p340
                     replace q340 := eq_true q340
                     have p341 : 0 ≤ (x10_3 : Int) := D_
                     have q341 : x10_3 < ((rd_L1 l0_0 x9_2).length : Int) := D_
                     obtain ⟨ad341, e341, hx341_0⟩ := Kd.at_int HR340_0.out x10_3 p341 q341
                     cases e341
                     replace hx341_0 := (HB.out.cell (World.block_lt_of_cell? w _ hx341_0)).trans hx341_0
                     replace p341 := eq_true p341
                     replace q341 := eq_true q341
                     go_wp2
                     (try simp only [← hl7_3])
                     go_roundg kj21
                     case measure => have := HK1.out; have := HK2.out; have := HK3.out; have := HJ21.out; omega
                     case rel => exact ⟨(x7_3), (wrap64 (x10_3 + 1)), (by first | rfl | (simp; done) | (simp [*]; done)), H', ⟨by have := HK1.out; have := HK2.out; have := HK3.out; have := HJ21.out; omega⟩, ⟨by (try simp only [hl7_1]); (try simp only [hl7_2]); (try simp only [hl7_3]); exact RM_ HO_7.out⟩, ⟨by (try simp only [hl7_1]); (try simp only [hl7_2]); (try simp only [hl7_3]); exact KX_ BK333.out⟩, ⟨B1_⟩⟩
                    rw [if_neg c34] at H
                    have c34b0 : ((rd (rd_L1 l0_0 x9_2) x10_3) == a2) = false := beq_eq_false_iff_ne.mpr c34
                    have c34b1 : ((rd (rd_L1 l0_0 x9_2) x10_3) != a2) = true := bne_iff_ne.mpr c34
                    by_cases c36 : 0 ≤ (rd (rd_L1 l0_0 x9_2) x10_3)
                    ·rw [if_pos c36] at H
                     have c36b0 : decide (0 ≤ (rd (rd_L1 l0_0 x9_2) x10_3)) = true := decide_eq_true c36
                     clear c36
                     by_cases c37 : (rd (rd_L1 l0_0 x9_2) x10_3) < (x7_3.length : Int)
                     ·rw [if_pos c37] at H
                      have c37b0 : decide ((rd (rd_L1 l0_0 x9_2) x10_3) < (x7_3.length : Int)) = true := decide_eq_true c37
                      clear c37
                      obtain ⟨y344, hy344⟩ : ∃ y_ : List Bool, y_ = (x7_3.set ((rd (rd_L1 l0_0 x9_2) x10_3) : Int).toNat true) := ⟨_, rfl⟩
                      replace H : (lockstepref06_Reach.l2 kj21 a2 y344 x8_1 x9_2 (wrap64 (x10_3 + 1)) l0_0 l0_1) = some r := by first | (rw [hy344]; with_reducible exact H) | (have H2_ := (Option.bind_some _ _).symm.trans H; rw [hy344]; with_reducible exact H2_) | (have H2_ := (Option.bind_some _ _).symm.trans H; with_reducible exact H2_) | with_reducible exact H | (rw [hy344]; exact H) | exact H
                      have Ny344 := Aside0.mk hy344
                      clear hy344
                      have H' := Aside0.mk H
                      clear H
                      have hcz39_0 : wc.cell? ⟨gb333, 0, none⟩ = some (.slice A0_0 l0_0.length c0_0) := (blk_cell BK333.out 0).trans rfl
                      have hcz39_1 : wc.cell? ⟨gb333, 1, none⟩ = some (.slice A0_1 l0_1.length c0_1) := (blk_cell BK333.out 1).trans rfl
                      have hfz39_0 := blk_frozen BK333.out 0
                      have hfz39_1 := blk_frozen BK333.out 1
                      have p340 : 0 ≤ (x9_2 : Int) := D_
                      have q340 : x9_2 < (l0_0.length : Int) := D_
                      obtain ⟨ad340, A340_0, c340_0, e340, hx340_0, hl340_0, hi340_0⟩ := at_L1 HR0_0.out x9_2 p340 q340
                      cases e340
                      replace hx340_0 := (HB.out.cell (World.block_lt_of_cell? w _ hx340_0)).trans hx340_0
                      have HR340_0 := Aside0.mk hi340_0
                      have HC340_0 := Aside0.mk hl340_0
                      clear hi340_0 hl340_0
                      replace p340 := eq_true p340
                      replace q340 := eq_true q340
                      have p341 : 0 ≤ (x10_3 : Int) := D_
                      have q341 : x10_3 < ((rd_L1 l0_0 x9_2).length : Int) := D_
                      obtain ⟨ad341, e341, hx341_0⟩ := Kd.at_int HR340_0.out x10_3 p341 q341
                      cases e341
                      replace hx341_0 := (HB.out.cell (World.block_lt_of_cell? w _ hx341_0)).trans hx341_0
                      replace p341 := eq_true p341
                      replace q341 := eq_true q341
                      have p342 : 0 ≤ (x9_2 : Int) := D_
                      have q342 : x9_2 < (l0_0.length : Int) := D_
                      obtain ⟨ad342, A342_0, c342_0, e342, hx342_0, hl342_0, hi342_0⟩ := at_L1 HR0_0.out x9_2 p342 q342
                      obtain rfl : ad340 = ad342 := (by injection e342)
                      replace hx342_0 := (HB.out.cell (World.block_lt_of_cell? w _ hx342_0)).trans hx342_0
                      have HR342_0 := Aside0.mk hi342_0
                      have HC342_0 := Aside0.mk hl342_0
                      clear hi342_0 hl342_0
                      replace p342 := eq_true p342
                      replace q342 := eq_true q342
                      have ea_ := Option.some.inj (hx340_0.symm.trans hx342_0)
                      injection ea_ with ea_ en_ ec_
                      subst ea_
                      subst ec_
                      clear en_
                      have p343 : 0 ≤ (x10_3 : Int) := D_
                      have q343 : x10_3 < ((rd_L1 l0_0 x9_2).length : Int) := D_
                      obtain ⟨ad343, e343, hx343_0⟩ := Kd.at_int HR342_0.out x10_3 p343 q343
                      cases e343
                      replace hx343_0 := (HB.out.cell (World.block_lt_of_cell? w _ hx343_0)).trans hx343_0
                      replace p343 := eq_true p343
                      replace q343 := eq_true q343
                      have p38 : 0 ≤ ((rd (rd_L1 l0_0 x9_2) x10_3) : Int) := D_
                      have q38 : ((rd (rd_L1 l0_0 x9_2) x10_3) : Int) < ((x7_3.length : Int) : Int) := D_
                      obtain ⟨hx38_0, hf38_0⟩ := Kd.R_celln false HO_7.out ((rd (rd_L1 l0_0 x9_2) x10_3) : Int) p38 q38
                      replace p38 := eq_true p38
                      replace q38 := eq_true q38
                      have HP40 := Kd.R_putg HO_7.out ((rd (rd_L1 l0_0 x9_2) x10_3) : Int) true
                      go_wp2_with (first | ((with_reducible refine gate_store (t := 4) (p := 69) rfl ?_); refine store_event (t := 4) (p := 69) (v := ?vo_w41) (w1 := (wc.setCell ⟨go13, ((rd (rd_L1 l0_0 x9_2) x10_3) : Int).toNat, none⟩ (.bool true))) ?hg ?ho ?hn ?hr ?_; (case ho => rfl); (case hg => rfl); (case hn => rfl); (case hr => first | (go_simp; done) | (go_simp; rfl)); intro w41 hw; have hg : wc.grownBy w41 (some go13) := (by rw [hw]; exact HP40.2); have hp_ : Kd.R Kd.bool 4 w41 w.heap.size (fun _ => True) (.slice (some ⟨go13, 0, none⟩) x7_3.length co13) y344 := (by rw [hw, Ny344.out]; exact HP40.1); clear HP40; have n0_ := Aside0.mk (hp_); have n1_ := Aside0.mk (blk_grown (g := gb333) (o := .cells #[.slice (some ad340) l0_0.length c0_0, .slice A0_1 l0_1.length c0_1] 26 (0, 0)) (by exact KX_ BK333.out) hg (Kd.R_ne HO_7.out BK333.out (by decide))); have n2_ := Aside0.mk ((by rw [hw]; exact below_set (HB.out) GB13.out : Below w.heap.size w w41)); clear HO_7; clear BK333; clear HB; have HO_7 := n0_; have BK333 := n1_; have HB := n2_; clear n0_ n1_ n2_; clear hg hw hp_))
                      (try simp only [← hl7_3])
                      go_roundg kj21
                      case measure => have := HK1.out; have := HK2.out; have := HK3.out; have := HJ21.out; omega
                      case rel => exact ⟨(y344), (wrap64 (x10_3 + 1)), (by first | rfl | (simp; done) | (simp [*]; done)), H', ⟨by have := HK1.out; have := HK2.out; have := HK3.out; have := HJ21.out; omega⟩, ⟨by (try simp only [hl7_1]); (try simp only [hl7_2]); (try simp only [hl7_3]); exact RM_ HO_7.out⟩, ⟨by (try simp only [hl7_1]); (try simp only [hl7_2]); (try simp only [hl7_3]); exact KX_ BK333.out⟩, ⟨B1_⟩⟩
                     rw [if_neg c37] at H
                     exact absurd H (by simp)
                    rw [if_neg c36] at H
                    exact absurd H (by simp)
                   rw [if_neg c33] at H
                   exact absurd H (by simp)
                  rw [if_neg c32] at H
                  exact absurd H (by simp)
                 rw [if_neg c31] at H
                 exact absurd H (by simp)
                rw [if_neg c30] at H
                exact absurd H (by simp)
               replace c29 := Bool.eq_false_iff.mpr c29
               subst c29
               have H1 : (lockstepref06_Reach.l1 kj21 a2 x7_3 x8_1 (wrap64 (x9_2 + 1)) l0_0 l0_1) = some r := by rw [if_neg (show ¬ (false = true) by decide)] at H; exact H
               clear H
               have H := H1
               clear H1
               have H' := Aside0.mk H
               clear H
               go_wp2
               (try simp only [← hl7_2, ← hl7_3])
               go_roundg kj21
               case measure => have := HK1.out; have := HK2.out; have := HK3.out; have := HJ21.out; omega
               case rel => exact ⟨(x7_3), (wrap64 (x9_2 + 1)), (by first | rfl | (simp; done) | (simp [*]; done)), H', ⟨by have := HK1.out; have := HK2.out; have := HK3.out; have := HJ21.out; omega⟩, ⟨by (try simp only [hl7_1]); (try simp only [hl7_2]); (try simp only [hl7_3]); exact RM_ HO_7.out⟩, ⟨by (try simp only [hl7_1]); (try simp only [hl7_2]); (try simp only [hl7_3]); exact KX_ BK333.out⟩, ⟨B1_⟩⟩
          rw [if_neg c21] at H
          have c21b0 : decide (x9_2 < (x7_2.length : Int)) = false := decide_eq_false c21
          clear c21
          have H' := Aside0.mk H
          clear H
          go_wp2
          (try simp only [← hl7_1, ← hl7_2])
          go_roundg k2
          case measure => have := HK1.out; have := HK2.out; omega
          case rel => exact ⟨(x7_2), (wrap64 (x8_1 + 1)), (by first | rfl | (simp; done) | (simp [*]; done)), H', ⟨by have := HK1.out; have := HK2.out; omega⟩, ⟨by (try simp only [hl7_1]); (try simp only [hl7_2]); exact RM_ HO_7.out⟩, ⟨by (try simp only [hl7_1]); (try simp only [hl7_2]); exact KX_ BK333.out⟩, ⟨B1_⟩⟩
       rw [if_neg c20] at H
       have c20b0 : decide (x8_1 < (x7_1.length : Int)) = false := decide_eq_false c20
       clear c20
       obtain rfl := Option.some.inj H
       go_wp2
       go_ret
       exact ⟨_, by first | rfl | (simp [errW_none, errW_some] <;> rfl) | (simp [*, errW_none, errW_some] <;> rfl), by exact RX_ HO_7.out, B1_⟩
    rw [if_neg c12] at H
    exact absurd H (by simp)
   rw [if_neg c11] at H
   exact absurd H (by simp)
  rw [if_neg c5] at H
  exact absurd H (by simp)
 rw [if_neg c4] at H
 exact absurd H (by simp)

end Go.Proofs.Ytamlaebfpmbefaa.G
