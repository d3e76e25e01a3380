/- Texts of this session, joined by wip/tools/merge.py. Conditions: each theorem's own. -/
import Derived.Test.YtamlaebfpmbefaaGx0
import Derived.Test.YtamlaebfpmbefaaMPdomShutd
import Derived.Test.YtamlaebfpmbefaaMPdomShutc
import Derived.Test.YtamlaebfpmbefaaGx19
import Derived.Test.YtamlaebfpmbefaaGx22
namespace Go.Proofs.Ytamlaebfpmbefaa.G
open Go.Proofs.YtamlaebfpmbefaaH
open Go.RowKit Go.Proofs.YtamlaebfpmbefaaW.PrintWords Go.Proofs.YtamlaebfpmbefaaW.PrintLast Go.Proofs.YtamlaebfpmbefaaW.PrintMore
attribute [local go_sem] max2_int min2_int max_two min_two max_three min_three max_four min_four   -- for this text's walks alone
set_option linter.unusedVariables false
set_option linter.unusedSimpArgs false

/-! ### graph_Turned: function 23 -/
def graph_Turned.f (k : Nat) (l0_0 : List (List Int)) (l0_1 : List (List Int)) : Option ((List (List Int)) × (List (List Int))) := (graph_May.f k l0_0 l0_1).bind fun t242 => (if t242 = true then ((graph_Make.f k l0_1).bind fun bt243 => (some (bt243.1, bt243.2.1))) else (some (([] : List (List Int)), ([] : List (List Int)))))
theorem graph_Turned.mono : ∀ a0 a1 k, LeO (graph_Turned.f k a0 a1) (graph_Turned.f (k + 1) a0 a1) := by
 intro a0 a1 k
 unfold graph_Turned.f
 repeat' first
  | (with_reducible exact graph_Make.mono _ _)
  | (with_reducible exact graph_May.mono _ _ _)
  | (with_reducible exact LeO.refl _)
  | (with_reducible exact LeO.none _)
  | (with_reducible refine LeO.ite ?_ ?_)
  | (with_reducible refine LeO.bind ?_ (fun _ => ?_))
  | exact graph_Make.mono _ _
  | exact graph_May.mono _ _ _
  | exact LeO.none _
  | refine LeO.ite ?_ ?_
  | refine LeO.bind ?_ (fun _ => ?_)
set_option maxHeartbeats 8000000 in
set_option maxRecDepth 100000 in
theorem graph_Turned.calls (k : Nat) (A0_0 : Option Addr) (c0_0 : Nat) (l0_0 : List (List Int)) (A0_1 : Option Addr) (c0_1 : Nat) (l0_1 : List (List Int)) (r1 : List (List Int)) (r2 : List (List Int)) (w : World) (hr0_0 : Kd.C (Kd.slice 3 (Kd.int .i64)) w A0_0 l0_0.length l0_0) (hc0_0 : l0_0.length ≤ c0_0) (hr0_1 : Kd.C (Kd.slice 3 (Kd.int .i64)) w A0_1 l0_1.length l0_1) (hc0_1 : l0_1.length ≤ c0_1) (h : graph_Turned.f k l0_0 l0_1 = some (r1, r2)) :
 Calls Try.prog 23 #[.agg #[.slice A0_0 l0_0.length c0_0, .slice A0_1 l0_1.length c0_1]] w fun e w' => ∃ v0_ v1_ : Value, e = .returned (.agg #[v0_, v1_]) ∧ Kd.S (Kd.slice 3 (Kd.int .i64)) 30 w' w.heap.size (fun k_ => some k_ ≠ (v1_ : Value).ownBlock) v0_ r1 ∧ Kd.S (Kd.slice 3 (Kd.int .i64)) 30 w' w.heap.size (fun k_ => some k_ ≠ (v0_ : Value).ownBlock) v1_ r2 ∧ Below w.heap.size w w' := by
 have hu26 := Try.underlying26
 have HR0_0 := Aside0.mk hr0_0
 have HC0_0 := Aside0.mk hc0_0
 clear hr0_0 hc0_0
 have HR0_1 := Aside0.mk hr0_1
 have HC0_1 := Aside0.mk hc0_1
 clear hr0_1 hc0_1
 have HB := Aside0.mk (Below.refl w.heap.size w)
 have H : ((graph_May.f k l0_0 l0_1).bind fun t242 => (if t242 = true then ((graph_Make.f k l0_1).bind fun bt243 => (some (bt243.1, bt243.2.1))) else (some (([] : List (List Int)), ([] : List (List Int)))))) = some (r1, r2) := h
 clear h
 replace H := Option.bind_eq_some_iff.mp H
 obtain ⟨t242, A20, H⟩ := H
 replace H : (if t242 = true then ((graph_Make.f k l0_1).bind fun bt243 => (some (bt243.1, bt243.2.1))) else (some (([] : List (List Int)), ([] : List (List Int))))) = some (r1, r2) := H
 have A2 := Aside0.mk A20
 clear A20
 by_cases c3 : t242 = true
 ·subst c3
  have H1 : ((graph_Make.f k l0_1).bind fun bt243 => (some (bt243.1, bt243.2.1))) = some (r1, r2) := by rw [if_pos rfl] at H; exact H
  clear H
  have H := H1
  clear H1
  replace H := Option.bind_eq_some_iff.mp H
  obtain ⟨⟨t243, t246, t249⟩, A40, H⟩ := H
  replace H : (some (t243, t246)) = some (r1, r2) := H
  have A4 := Aside0.mk A40
  clear A40
  simp only [Option.some.injEq, Prod.mk.injEq] at H
  obtain ⟨rfl, rfl⟩ := H
  go_enter Try.func23, Try.ntmps23
  go_wp2_with (first | ((with_reducible refine gate_dst (N := 1) rfl ?_); refine box_event ?hg (N := 1) ?hd (cs := #[.slice A0_0 l0_0.length c0_0, .slice A0_1 l0_1.length c0_1]) (t := 26) ?hr ?_; (case hd => rfl); (case hg => rfl); (case hr => first | (go_simp; done) | (go_simp; rfl)); intro gb240 hg w5 hbox hb; have n0_ := Aside0.mk (below_step (B_) hb); have n1_ := Aside0.mk (hbox); have n2_ := Aside0.mk ((by rw [hg]; exact (below_size (B_)) : w.heap.size ≤ gb240)); have n3_ := Aside0.mk ((by rw [hg]; exact (below_size (B_)) : w.heap.size ≤ gb240)); clear HB; have HB := n0_; have BK240 := n1_; have GW240 := n2_; have GE240 := n3_; clear n0_ n1_ n2_ n3_; clear hb hbox hg) | ((with_reducible refine gate_dst (N := 2) rfl ?_); refine box_event ?hg (N := 2) ?hd (cs := #[.slice none 0 0, .slice none 0 0]) (t := 26) ?hr ?_; (case hd => rfl); (case hg => rfl); (case hr => first | (go_simp; done) | (go_simp; rfl)); intro gb241 hg w6 hbox hb; have n0_ := Aside0.mk (blk_below (g := gb240) (o := .cells #[.slice A0_0 l0_0.length c0_0, .slice A0_1 l0_1.length c0_1] 26 (0, 0)) (by exact KX_ BK240.out) hb); have n1_ := Aside0.mk (below_step (B1_) hb); have n2_ := Aside0.mk (hbox); have n3_ := Aside0.mk ((by rw [hg]; exact (below_size (B1_)) : w.heap.size ≤ gb241)); have n4_ := Aside0.mk ((by rw [hg]; exact (below_size (B1_)) : w.heap.size ≤ gb241)); have n5_ := Aside0.mk ((by rw [hg]; exact Nat.ne_of_lt (blk_lt (g := gb240) (o := .cells #[.slice A0_0 l0_0.length c0_0, .slice A0_1 l0_1.length c0_1] 26 (0, 0)) (by exact KX_ BK240.out)) : gb240 ≠ gb241)); have n6_ := Aside0.mk ((by rw [hg]; exact Nat.ne_of_gt (blk_lt (g := gb240) (o := .cells #[.slice A0_0 l0_0.length c0_0, .slice A0_1 l0_1.length c0_1] 26 (0, 0)) (by exact KX_ BK240.out)) : gb241 ≠ gb240)); clear BK240; clear HB; have BK240 := n0_; have HB := n1_; have BK241 := n2_; have GW241 := n3_; have GE241 := n4_; have NB240_241 := n5_; have NB241_240 := n6_; clear n0_ n1_ n2_ n3_ n4_ n5_ n6_; clear hb hbox hg; have hnb7 := NB240_241.out; have hnc7 := NB241_240.out; have hcz8_0 : w6.cell? ⟨gb240, 0, none⟩ = some (.slice A0_0 l0_0.length c0_0) := (blk_cell BK240.out 0).trans rfl; have hcz8_1 : w6.cell? ⟨gb240, 1, none⟩ = some (.slice A0_1 l0_1.length c0_1) := (blk_cell BK240.out 1).trans rfl; have hfz8_0 := blk_frozen BK240.out 0; have hfz8_1 := blk_frozen BK240.out 1) | ((with_reducible refine gate_callee (f := 24) rfl ?_); refine goesL_ (some 6) rfl rfl Try.func24 (by kernel_rfl) rfl #[.agg #[.slice A0_0 l0_0.length c0_0, .slice A0_1 l0_1.length c0_1]] rfl (by (try simp only [List.map_toArray, List.map_cons, List.map_nil]); first | done | rfl | (simp only [List.length_drop, List.length_take]; rfl)) ?_; (with_reducible refine (graph_May.calls k _ _ l0_0 _ _ l0_1 true _ ?side1 ?side2 ?side3 ?side4 A2.out).mono ?_); (case side1 => exact CX_ (Kd.C_below HR0_0.out HB.out)); (case side2 => exact HC0_0.out); (case side3 => exact CX_ (Kd.C_below HR0_1.out HB.out)); (case side4 => exact HC0_1.out); rintro e w9 ⟨rfl, hb⟩; refine ⟨_, rfl, ?_⟩; have n0_ := Aside0.mk (blk_below (g := gb240) (o := .cells #[.slice A0_0 l0_0.length c0_0, .slice A0_1 l0_1.length c0_1] 26 (0, 0)) (by exact KX_ BK240.out) hb); have n1_ := Aside0.mk (blk_below (g := gb241) (o := .cells #[.slice none 0 0, .slice none 0 0] 26 (0, 0)) (by exact KX_ BK241.out) hb); have n2_ := Aside0.mk (below_step (B1_) hb); clear BK240; clear BK241; clear HB; have BK240 := n0_; have BK241 := n1_; have HB := n2_; clear n0_ n1_ n2_; (try clear hb); (try clear hb2); (try clear hk); (try clear hi); have hcz10_0 : w9.cell? ⟨gb240, 0, none⟩ = some (.slice A0_0 l0_0.length c0_0) := (blk_cell BK240.out 0).trans rfl; have hcz10_1 : w9.cell? ⟨gb240, 1, none⟩ = some (.slice A0_1 l0_1.length c0_1) := (blk_cell BK240.out 1).trans rfl; have hfz10_0 := blk_frozen BK240.out 0; have hfz10_1 := blk_frozen BK240.out 1) | ((with_reducible refine gate_callee (f := 9) rfl ?_); refine goesL_ (some 12) rfl rfl Try.func9 (by kernel_rfl) rfl #[.slice A0_1 l0_1.length c0_1] rfl (by (try simp only [List.map_toArray, List.map_cons, List.map_nil]); first | done | rfl | (simp only [List.length_drop, List.length_take]; rfl)) ?_; (with_reducible refine (graph_Make.calls k _ _ l0_1 t243 t246 t249 _ ?side1 ?side2 A4.out).mono ?_); (case side1 => exact CX_ (Kd.C_below HR0_1.out HB.out)); (case side2 => exact HC0_1.out); rintro e w11 ⟨v244, v247, rfl, ho0, ho1, hb⟩; refine ⟨_, rfl, ?_⟩; have n0_ := Aside0.mk (Kd.S_lower ho0 (below_size (B1_))); have n1_ := Aside0.mk (Kd.S_lower ho1 (below_size (B1_))); have n2_ := Aside0.mk (blk_below (g := gb240) (o := .cells #[.slice A0_0 l0_0.length c0_0, .slice A0_1 l0_1.length c0_1] 26 (0, 0)) (by exact KX_ BK240.out) hb); have n3_ := Aside0.mk (blk_below (g := gb241) (o := .cells #[.slice none 0 0, .slice none 0 0] 26 (0, 0)) (by exact KX_ BK241.out) hb); have n4_ := Aside0.mk (below_step (B1_) hb); clear BK240; clear BK241; clear HB; have HO245 := n0_; have HO248 := n1_; have BK240 := n2_; have BK241 := n3_; have HB := n4_; clear n0_ n1_ n2_ n3_ n4_; (try clear hb); (try clear hb2); (try clear hk); (try clear hi); (try clear ho0); (try clear ho1)) | ((with_reducible refine gate_dst (N := 3) rfl ?_); refine box_event ?hg (N := 3) ?hd (cs := #[.slice none 0 0, .slice none 0 0]) (t := 26) ?hr ?_; (case hd => rfl); (case hg => rfl); (case hr => first | (go_simp; done) | (go_simp; rfl)); intro gb250 hg w12 hbox hb; have n0_ := Aside0.mk (Kd.S_below (by exact SX_ HO245.out) hb); have n1_ := Aside0.mk (Kd.S_below (by exact SX_ HO248.out) hb); have n2_ := Aside0.mk (blk_below (g := gb240) (o := .cells #[.slice A0_0 l0_0.length c0_0, .slice A0_1 l0_1.length c0_1] 26 (0, 0)) (by exact KX_ BK240.out) hb); have n3_ := Aside0.mk (blk_below (g := gb241) (o := .cells #[.slice none 0 0, .slice none 0 0] 26 (0, 0)) (by exact KX_ BK241.out) hb); have n4_ := Aside0.mk (below_step (B1_) hb); have n5_ := Aside0.mk (hbox); have n6_ := Aside0.mk ((by rw [hg]; exact (below_size (B1_)) : w.heap.size ≤ gb250)); have n7_ := Aside0.mk ((by rw [hg]; exact (below_size (B1_)) : w.heap.size ≤ gb250)); have n8_ := Aside0.mk ((by rw [hg]; exact Nat.ne_of_lt (blk_lt (g := gb240) (o := .cells #[.slice A0_0 l0_0.length c0_0, .slice A0_1 l0_1.length c0_1] 26 (0, 0)) (by exact KX_ BK240.out)) : gb240 ≠ gb250)); have n9_ := Aside0.mk ((by rw [hg]; exact Nat.ne_of_gt (blk_lt (g := gb240) (o := .cells #[.slice A0_0 l0_0.length c0_0, .slice A0_1 l0_1.length c0_1] 26 (0, 0)) (by exact KX_ BK240.out)) : gb250 ≠ gb240)); have n10_ := Aside0.mk ((by rw [hg]; exact Nat.ne_of_lt (blk_lt (g := gb241) (o := .cells #[.slice none 0 0, .slice none 0 0] 26 (0, 0)) (by exact KX_ BK241.out)) : gb241 ≠ gb250)); have n11_ := Aside0.mk ((by rw [hg]; exact Nat.ne_of_gt (blk_lt (g := gb241) (o := .cells #[.slice none 0 0, .slice none 0 0] 26 (0, 0)) (by exact KX_ BK241.out)) : gb250 ≠ gb241)); clear HO245; clear HO248; clear BK240; clear BK241; clear HB; have HO245 := n0_; have HO248 := n1_; have BK240 := n2_; have BK241 := n3_; have HB := n4_; have BK250 := n5_; have GW250 := n6_; have GE250 := n7_; have NB240_250 := n8_; have NB250_240 := n9_; have NB241_250 := n10_; have NB250_241 := n11_; clear n0_ n1_ n2_ n3_ n4_ n5_ n6_ n7_ n8_ n9_ n10_ n11_; clear hb hbox hg; obtain ⟨Ao13, co13, eo13⟩ := Kd.S_slice HO245.out; subst eo13; have hnb14 := NB250_240.out; have hnc14 := NB240_250.out; have hnb15 := NB250_241.out; have hnc15 := NB241_250.out; have hcz16_0 : w12.cell? ⟨gb250, 0, none⟩ = some (.slice none 0 0) := (blk_cell BK250.out 0).trans rfl; have hcz16_1 : w12.cell? ⟨gb250, 1, none⟩ = some (.slice none 0 0) := (blk_cell BK250.out 1).trans rfl; have hfz16_0 := blk_frozen BK250.out 0; have hfz16_1 := blk_frozen BK250.out 1; obtain ⟨Ao17, co17, eo17⟩ := Kd.S_slice HO248.out; subst eo17; have hcz18_0 : w12.cell? ⟨gb241, 0, none⟩ = some (.slice none 0 0) := (blk_cell BK241.out 0).trans rfl; have hcz18_1 : w12.cell? ⟨gb241, 1, none⟩ = some (.slice none 0 0) := (blk_cell BK241.out 1).trans rfl; have hfz18_0 := blk_frozen BK241.out 0; have hfz18_1 := blk_frozen BK241.out 1))
  refine bodyPost_ret (results_cell_row rfl _ _ gb241 26 #[.slice Ao13 t243.length co13, .slice Ao17 t246.length co17] (0, 0) _ rfl (by (with_reducible repeat (first | refine blk_drewN ?_ _ | refine blk_drew ?_ | refine blk_alloc ?_ _)); refine blk_put (cs := #[.slice Ao13 t243.length co13, .slice none 0 0]) ?_ 1 _ rfl; (with_reducible repeat (first | refine blk_drewN ?_ _ | refine blk_drew ?_ | refine blk_alloc ?_ _)); refine blk_put (cs := #[.slice none 0 0, .slice none 0 0]) ?_ 0 _ rfl; (with_reducible repeat (first | refine blk_drewN ?_ _ | refine blk_drew ?_ | refine blk_alloc ?_ _)); refine blk_far ?_ NB241_250.out _; (with_reducible repeat (first | refine blk_drewN ?_ _ | refine blk_drew ?_ | refine blk_alloc ?_ _)); refine blk_far ?_ NB241_250.out _; exact KX_ BK241.out) Try.underlying26 rfl (by kernel_rfl)) rfl ?_
  exact ⟨_, _, by first | rfl | (simp [errW_none, errW_some] <;> rfl) | (simp [*, errW_none, errW_some] <;> rfl), by (with_reducible repeat (first | apply Kd.S_alloc | apply Kd.S_drewN | apply Kd.S_drew)); exact Kd.S_mono (Kd.S_far (p := ⟨gb241, 1, none⟩) (Kd.S_far (p := ⟨gb241, 0, none⟩) (Kd.S_far (p := ⟨gb250, 1, none⟩) (Kd.S_far (p := ⟨gb250, 0, none⟩) (Kd.S_types (Kd.S_types HO245.out BK250.out (by decide)) BK241.out (by decide)) (fun _ hk => hk.1.2) (.slice Ao13 t243.length co13)) (fun _ hk => hk.1.2) (.slice Ao17 t246.length co17)) (fun _ hk => hk.2) (.slice Ao13 t243.length co13)) (fun _ hk => hk.2) (.slice Ao17 t246.length co17)) (fun _ hk => hk.1.1), by (with_reducible repeat (first | apply Kd.S_alloc | apply Kd.S_drewN | apply Kd.S_drew)); exact Kd.S_mono (Kd.S_far (p := ⟨gb241, 1, none⟩) (Kd.S_far (p := ⟨gb241, 0, none⟩) (Kd.S_far (p := ⟨gb250, 1, none⟩) (Kd.S_far (p := ⟨gb250, 0, none⟩) (Kd.S_types (Kd.S_types HO248.out BK250.out (by decide)) BK241.out (by decide)) (fun _ hk => hk.1.2) (.slice Ao13 t243.length co13)) (fun _ hk => hk.1.2) (.slice Ao17 t246.length co17)) (fun _ hk => hk.2) (.slice Ao13 t243.length co13)) (fun _ hk => hk.2) (.slice Ao17 t246.length co17)) (fun _ hk => hk.1.1), B1_⟩
 replace c3 := Bool.eq_false_iff.mpr c3
 subst c3
 have H1 : (some (([] : List (List Int)), ([] : List (List Int)))) = some (r1, r2) := by rw [if_neg (show ¬ (false = true) by decide)] at H; exact H
 clear H
 have H := H1
 clear H1
 simp only [Option.some.injEq, Prod.mk.injEq] at H
 obtain ⟨rfl, rfl⟩ := H
 go_enter Try.func23, Try.ntmps23
 go_wp2_with (first | ((with_reducible refine gate_dst (N := 1) rfl ?_); refine box_event ?hg (N := 1) ?hd (cs := #[.slice A0_0 l0_0.length c0_0, .slice A0_1 l0_1.length c0_1]) (t := 26) ?hr ?_; (case hd => rfl); (case hg => rfl); (case hr => first | (go_simp; done) | (go_simp; rfl)); intro gb240 hg w19 hbox hb; have n0_ := Aside0.mk (below_step (B_) hb); have n1_ := Aside0.mk (hbox); have n2_ := Aside0.mk ((by rw [hg]; exact (below_size (B_)) : w.heap.size ≤ gb240)); have n3_ := Aside0.mk ((by rw [hg]; exact (below_size (B_)) : w.heap.size ≤ gb240)); clear HB; have HB := n0_; have BK240 := n1_; have GW240 := n2_; have GE240 := n3_; clear n0_ n1_ n2_ n3_; clear hb hbox hg) | ((with_reducible refine gate_dst (N := 2) rfl ?_); refine box_event ?hg (N := 2) ?hd (cs := #[.slice none 0 0, .slice none 0 0]) (t := 26) ?hr ?_; (case hd => rfl); (case hg => rfl); (case hr => first | (go_simp; done) | (go_simp; rfl)); intro gb241 hg w20 hbox hb; have n0_ := Aside0.mk (blk_below (g := gb240) (o := .cells #[.slice A0_0 l0_0.length c0_0, .slice A0_1 l0_1.length c0_1] 26 (0, 0)) (by exact KX_ BK240.out) hb); have n1_ := Aside0.mk (below_step (B1_) hb); have n2_ := Aside0.mk (hbox); have n3_ := Aside0.mk ((by rw [hg]; exact (below_size (B1_)) : w.heap.size ≤ gb241)); have n4_ := Aside0.mk ((by rw [hg]; exact (below_size (B1_)) : w.heap.size ≤ gb241)); have n5_ := Aside0.mk ((by rw [hg]; exact Nat.ne_of_lt (blk_lt (g := gb240) (o := .cells #[.slice A0_0 l0_0.length c0_0, .slice A0_1 l0_1.length c0_1] 26 (0, 0)) (by exact KX_ BK240.out)) : gb240 ≠ gb241)); have n6_ := Aside0.mk ((by rw [hg]; exact Nat.ne_of_gt (blk_lt (g := gb240) (o := .cells #[.slice A0_0 l0_0.length c0_0, .slice A0_1 l0_1.length c0_1] 26 (0, 0)) (by exact KX_ BK240.out)) : gb241 ≠ gb240)); clear BK240; clear HB; have BK240 := n0_; have HB := n1_; have BK241 := n2_; have GW241 := n3_; have GE241 := n4_; have NB240_241 := n5_; have NB241_240 := n6_; clear n0_ n1_ n2_ n3_ n4_ n5_ n6_; clear hb hbox hg; have hnb21 := NB240_241.out; have hnc21 := NB241_240.out; have hcz22_0 : w20.cell? ⟨gb240, 0, none⟩ = some (.slice A0_0 l0_0.length c0_0) := (blk_cell BK240.out 0).trans rfl; have hcz22_1 : w20.cell? ⟨gb240, 1, none⟩ = some (.slice A0_1 l0_1.length c0_1) := (blk_cell BK240.out 1).trans rfl; have hfz22_0 := blk_frozen BK240.out 0; have hfz22_1 := blk_frozen BK240.out 1) | ((with_reducible refine gate_callee (f := 24) rfl ?_); refine goesL_ (some 6) rfl rfl Try.func24 (by kernel_rfl) rfl #[.agg #[.slice A0_0 l0_0.length c0_0, .slice A0_1 l0_1.length c0_1]] rfl (by (try simp only [List.map_toArray, List.map_cons, List.map_nil]); first | done | rfl | (simp only [List.length_drop, List.length_take]; rfl)) ?_; (with_reducible refine (graph_May.calls k _ _ l0_0 _ _ l0_1 false _ ?side1 ?side2 ?side3 ?side4 A2.out).mono ?_); (case side1 => exact CX_ (Kd.C_below HR0_0.out HB.out)); (case side2 => exact HC0_0.out); (case side3 => exact CX_ (Kd.C_below HR0_1.out HB.out)); (case side4 => exact HC0_1.out); rintro e w23 ⟨rfl, hb⟩; refine ⟨_, rfl, ?_⟩; have n0_ := Aside0.mk (blk_below (g := gb240) (o := .cells #[.slice A0_0 l0_0.length c0_0, .slice A0_1 l0_1.length c0_1] 26 (0, 0)) (by exact KX_ BK240.out) hb); have n1_ := Aside0.mk (blk_below (g := gb241) (o := .cells #[.slice none 0 0, .slice none 0 0] 26 (0, 0)) (by exact KX_ BK241.out) hb); have n2_ := Aside0.mk (below_step (B1_) hb); clear BK240; clear BK241; clear HB; have BK240 := n0_; have BK241 := n1_; have HB := n2_; clear n0_ n1_ n2_; (try clear hb); (try clear hb2); (try clear hk); (try clear hi); have hcz24_0 : w23.cell? ⟨gb241, 0, none⟩ = some (.slice none 0 0) := (blk_cell BK241.out 0).trans rfl; have hcz24_1 : w23.cell? ⟨gb241, 1, none⟩ = some (.slice none 0 0) := (blk_cell BK241.out 1).trans rfl; have hfz24_0 := blk_frozen BK241.out 0; have hfz24_1 := blk_frozen BK241.out 1))
 refine bodyPost_ret (results_cell_row rfl _ _ gb241 26 #[.slice none 0 0, .slice none 0 0] (0, 0) _ rfl (by (with_reducible repeat (first | refine blk_drewN ?_ _ | refine blk_drew ?_ | refine blk_alloc ?_ _)); refine blk_put (cs := #[.slice none 0 0, .slice none 0 0]) ?_ 1 _ rfl; (with_reducible repeat (first | refine blk_drewN ?_ _ | refine blk_drew ?_ | refine blk_alloc ?_ _)); refine blk_put (cs := #[.slice none 0 0, .slice none 0 0]) ?_ 0 _ rfl; exact KX_ BK241.out) Try.underlying26 rfl (by kernel_rfl)) rfl ?_
 exact ⟨_, _, by first | rfl | (simp [errW_none, errW_some] <;> rfl) | (simp [*, errW_none, errW_some] <;> rfl), by first | exact Kd.S_nil _ _ _ _ _ | exact Kd.N_nil _ _ _ _ _ | exact Kd.V_nil _ _ _ _ _ | exact Kd.Q_nil _ _ _ _ _ | exact Kd.R_nil _ _ _ _ _, by first | exact Kd.S_nil _ _ _ _ _ | exact Kd.N_nil _ _ _ _ _ | exact Kd.V_nil _ _ _ _ _ | exact Kd.Q_nil _ _ _ _ _ | exact Kd.R_nil _ _ _ _ _, B1_⟩


/-! ### pdom_Tree: function 10 -/
def pdom_Tree.f (k : Nat) (l0_0 : List (List Int)) (l0_1 : List (List Int)) : Option (List Int) := (pdom_Exit.f k l0_0 l0_1).bind fun bt252 => (if bt252.2.2 = 0 then ((graph_Turned.f k bt252.1 bt252.2.1).bind fun bt260 => ((dom_Tree.f k bt260.1 bt260.2 (l0_0.length : Int)).bind fun t266 => (some t266))) else (some ([] : List Int)))
theorem pdom_Tree.mono : ∀ a0 a1 k, LeO (pdom_Tree.f k a0 a1) (pdom_Tree.f (k + 1) a0 a1) := by
 intro a0 a1 k
 unfold pdom_Tree.f
 repeat' first
  | (with_reducible exact dom_Tree.mono _ _ _ _)
  | (with_reducible exact graph_Turned.mono _ _ _)
  | (with_reducible exact pdom_Exit.mono _ _ _)
  | (with_reducible exact LeO.refl _)
  | (with_reducible exact LeO.none _)
  | (with_reducible refine LeO.ite ?_ ?_)
  | (with_reducible refine LeO.bind ?_ (fun _ => ?_))
  | exact dom_Tree.mono _ _ _ _
  | exact graph_Turned.mono _ _ _
  | exact pdom_Exit.mono _ _ _
  | exact LeO.none _
  | refine LeO.ite ?_ ?_
  | refine LeO.bind ?_ (fun _ => ?_)
set_option maxHeartbeats 8000000 in
set_option maxRecDepth 100000 in
theorem pdom_Tree.calls (k : Nat) (A0_0 : Option Addr) (c0_0 : Nat) (l0_0 : List (List Int)) (A0_1 : Option Addr) (c0_1 : Nat) (l0_1 : List (List Int)) (r : List Int) (w : World) (hr0_0 : Kd.C (Kd.slice 3 (Kd.int .i64)) w A0_0 l0_0.length l0_0) (hc0_0 : l0_0.length ≤ c0_0) (hr0_1 : Kd.C (Kd.slice 3 (Kd.int .i64)) w A0_1 l0_1.length l0_1) (hc0_1 : l0_1.length ≤ c0_1) (h : pdom_Tree.f k l0_0 l0_1 = some r) :
 Calls Try.prog 10 #[.agg #[.slice A0_0 l0_0.length c0_0, .slice A0_1 l0_1.length c0_1]] w fun e w' => ∃ v0_ : Value, e = .returned (v0_) ∧ Kd.R (Kd.int .i64) 3 w' w.heap.size (fun _ => True) v0_ r ∧ Below w.heap.size w w' := by
 have hu26 := Try.underlying26
 have HR0_0 := Aside0.mk hr0_0
 have HC0_0 := Aside0.mk hc0_0
 clear hr0_0 hc0_0
 have HR0_1 := Aside0.mk hr0_1
 have HC0_1 := Aside0.mk hc0_1
 clear hr0_1 hc0_1
 have HB := Aside0.mk (Below.refl w.heap.size w)
 have H : ((pdom_Exit.f k l0_0 l0_1).bind fun bt252 => (if bt252.2.2 = 0 then ((graph_Turned.f k bt252.1 bt252.2.1).bind fun bt260 => ((dom_Tree.f k bt260.1 bt260.2 (l0_0.length : Int)).bind fun t266 => (some t266))) else (some ([] : List Int)))) = some r := h
 clear h
 replace H := Option.bind_eq_some_iff.mp H
 obtain ⟨⟨t252, t255, t258⟩, A20, H⟩ := H
 replace H : (if t258 = 0 then ((graph_Turned.f k t252 t255).bind fun bt260 => ((dom_Tree.f k bt260.1 bt260.2 (l0_0.length : Int)).bind fun t266 => (some t266))) else (some ([] : List Int))) = some r := H
 have A2 := Aside0.mk A20
 clear A20
 by_cases c3 : t258 = 0
 ·rw [if_pos c3] at H
  have c3b0 : (t258 == 0) = true := beq_iff_eq.mpr c3
  have c3b1 : (t258 != 0) = false := bne_eq_false_iff_eq.mpr c3
  clear c3
  replace H := Option.bind_eq_some_iff.mp H
  obtain ⟨⟨t260, t263⟩, A40, H⟩ := H
  replace H : ((dom_Tree.f k t260 t263 (l0_0.length : Int)).bind fun t266 => (some t266)) = some r := H
  have A4 := Aside0.mk A40
  clear A40
  replace H := Option.bind_eq_some_iff.mp H
  obtain ⟨t266, A50, H⟩ := H
  replace H : (some t266) = some r := H
  have A5 := Aside0.mk A50
  clear A50
  obtain rfl := Option.some.inj H
  go_enter Try.func10, Try.ntmps10
  try go_wp2_with (first | ((with_reducible refine gate_dst (N := 1) rfl ?_); refine box_event ?hg (N := 1) ?hd (cs := #[.slice A0_0 l0_0.length c0_0, .slice A0_1 l0_1.length c0_1]) (t := 26) ?hr ?_; (case hd => rfl); (case hg => rfl); (case hr => first | (go_simp; done) | (go_simp; rfl)); intro gb251 hg w6 hbox hb; have n0_ := Aside0.mk (below_step (B_) hb); have n1_ := Aside0.mk (hbox); have n2_ := Aside0.mk ((by rw [hg]; exact (below_size (B_)) : w.heap.size ≤ gb251)); have n3_ := Aside0.mk ((by rw [hg]; exact (below_size (B_)) : w.heap.size ≤ gb251)); clear HB; have HB := n0_; have BK251 := n1_; have GW251 := n2_; have GE251 := n3_; clear n0_ n1_ n2_ n3_; clear hb hbox hg; have hcz7_0 : w6.cell? ⟨gb251, 0, none⟩ = some (.slice A0_0 l0_0.length c0_0) := (blk_cell BK251.out 0).trans rfl; have hcz7_1 : w6.cell? ⟨gb251, 1, none⟩ = some (.slice A0_1 l0_1.length c0_1) := (blk_cell BK251.out 1).trans rfl; have hfz7_0 := blk_frozen BK251.out 0; have hfz7_1 := blk_frozen BK251.out 1) | ((with_reducible refine gate_callee (f := 11) rfl ?_); refine goesL_ (some 7) rfl rfl Try.func11 (by kernel_rfl) rfl #[.agg #[.slice A0_0 l0_0.length c0_0, .slice A0_1 l0_1.length c0_1]] rfl (by (try simp only [List.map_toArray, List.map_cons, List.map_nil]); first | done | rfl | (simp only [List.length_drop, List.length_take]; rfl)) ?_; (with_reducible refine (pdom_Exit.calls k _ _ l0_0 _ _ l0_1 t252 t255 t258 _ ?side1 ?side2 ?side3 ?side4 A2.out).mono ?_); (case side1 => exact CX_ (Kd.C_below HR0_0.out HB.out)); (case side2 => exact HC0_0.out); (case side3 => exact CX_ (Kd.C_below HR0_1.out HB.out)); (case side4 => exact HC0_1.out); rintro e w8 ⟨v253, v256, rfl, ho0, ho1, hb⟩; refine ⟨_, rfl, ?_⟩; have n0_ := Aside0.mk (Kd.S_lower ho0 (below_size (B1_))); have n1_ := Aside0.mk (Kd.S_lower ho1 (below_size (B1_))); have n2_ := Aside0.mk (blk_below (g := gb251) (o := .cells #[.slice A0_0 l0_0.length c0_0, .slice A0_1 l0_1.length c0_1] 26 (0, 0)) (by exact KX_ BK251.out) hb); have n3_ := Aside0.mk (below_step (B1_) hb); clear BK251; clear HB; have HO254 := n0_; have HO257 := n1_; have BK251 := n2_; have HB := n3_; clear n0_ n1_ n2_ n3_; (try clear hb); (try clear hb2); (try clear hk); (try clear hi); (try clear ho0); (try clear ho1)) | ((with_reducible refine gate_dst (N := 3) rfl ?_); refine box_event ?hg (N := 3) ?hd (cs := #[.slice none 0 0, .slice none 0 0]) (t := 26) ?hr ?_; (case hd => rfl); (case hg => rfl); (case hr => first | (go_simp; done) | (go_simp; rfl)); intro gb259 hg w9 hbox hb; have n0_ := Aside0.mk (Kd.S_below (by exact SX_ HO254.out) hb); have n1_ := Aside0.mk (Kd.S_below (by exact SX_ HO257.out) hb); have n2_ := Aside0.mk (blk_below (g := gb251) (o := .cells #[.slice A0_0 l0_0.length c0_0, .slice A0_1 l0_1.length c0_1] 26 (0, 0)) (by exact KX_ BK251.out) hb); have n3_ := Aside0.mk (below_step (B1_) hb); have n4_ := Aside0.mk (hbox); have n5_ := Aside0.mk ((by rw [hg]; exact (below_size (B1_)) : w.heap.size ≤ gb259)); have n6_ := Aside0.mk ((by rw [hg]; exact (below_size (B1_)) : w.heap.size ≤ gb259)); have n7_ := Aside0.mk ((by rw [hg]; exact Nat.ne_of_lt (blk_lt (g := gb251) (o := .cells #[.slice A0_0 l0_0.length c0_0, .slice A0_1 l0_1.length c0_1] 26 (0, 0)) (by exact KX_ BK251.out)) : gb251 ≠ gb259)); have n8_ := Aside0.mk ((by rw [hg]; exact Nat.ne_of_gt (blk_lt (g := gb251) (o := .cells #[.slice A0_0 l0_0.length c0_0, .slice A0_1 l0_1.length c0_1] 26 (0, 0)) (by exact KX_ BK251.out)) : gb259 ≠ gb251)); clear HO254; clear HO257; clear BK251; clear HB; have HO254 := n0_; have HO257 := n1_; have BK251 := n2_; have HB := n3_; have BK259 := n4_; have GW259 := n5_; have GE259 := n6_; have NB251_259 := n7_; have NB259_251 := n8_; clear n0_ n1_ n2_ n3_ n4_ n5_ n6_ n7_ n8_; clear hb hbox hg; obtain ⟨Ao10, co10, eo10⟩ := Kd.S_slice HO254.out; subst eo10; have hnb11 := NB259_251.out; have hnc11 := NB251_259.out; have hcz12_0 : w9.cell? ⟨gb259, 0, none⟩ = some (.slice none 0 0) := (blk_cell BK259.out 0).trans rfl; have hcz12_1 : w9.cell? ⟨gb259, 1, none⟩ = some (.slice none 0 0) := (blk_cell BK259.out 1).trans rfl; have hfz12_0 := blk_frozen BK259.out 0; have hfz12_1 := blk_frozen BK259.out 1; obtain ⟨Ao13, co13, eo13⟩ := Kd.S_slice HO257.out; subst eo13))
  have n0_ : Aside0 (Kd.S (Kd.slice 3 (Kd.int .i64)) 30 ((w9.setCell ⟨gb259, 0, none⟩ (.slice Ao10 t252.length co10)).setCell ⟨gb259, 1, none⟩ (.slice Ao13 t255.length co13)) w.heap.size (fun k_ => some k_ ≠ (.slice Ao13 t255.length co13 : Value).ownBlock) (.slice Ao10 t252.length co10) t252) := ⟨by (with_reducible repeat (first | apply Kd.S_alloc | apply Kd.S_drewN | apply Kd.S_drew)); exact Kd.S_mono (Kd.S_far (p := ⟨gb259, 1, none⟩) (Kd.S_far (p := ⟨gb259, 0, none⟩) (Kd.S_types HO254.out BK259.out (by decide)) (fun _ hk => hk.2) (.slice Ao10 t252.length co10)) (fun _ hk => hk.2) (.slice Ao13 t255.length co13)) (fun _ hk => hk.1)⟩
  have n1_ : Aside0 (Kd.S (Kd.slice 3 (Kd.int .i64)) 30 ((w9.setCell ⟨gb259, 0, none⟩ (.slice Ao10 t252.length co10)).setCell ⟨gb259, 1, none⟩ (.slice Ao13 t255.length co13)) w.heap.size (fun k_ => some k_ ≠ (.slice Ao10 t252.length co10 : Value).ownBlock) (.slice Ao13 t255.length co13) t255) := ⟨by (with_reducible repeat (first | apply Kd.S_alloc | apply Kd.S_drewN | apply Kd.S_drew)); exact Kd.S_mono (Kd.S_far (p := ⟨gb259, 1, none⟩) (Kd.S_far (p := ⟨gb259, 0, none⟩) (Kd.S_types HO257.out BK259.out (by decide)) (fun _ hk => hk.2) (.slice Ao10 t252.length co10)) (fun _ hk => hk.2) (.slice Ao13 t255.length co13)) (fun _ hk => hk.1)⟩
  have n2_ : Aside0 (((w9.setCell ⟨gb259, 0, none⟩ (.slice Ao10 t252.length co10)).setCell ⟨gb259, 1, none⟩ (.slice Ao13 t255.length co13)).heap[gb251]? = some (.cells #[.slice A0_0 l0_0.length c0_0, .slice A0_1 l0_1.length c0_1] 26 (0, 0))) := ⟨by (with_reducible repeat (first | refine blk_drewN ?_ _ | refine blk_drew ?_ | refine blk_alloc ?_ _)); refine blk_far ?_ NB251_259.out _; (with_reducible repeat (first | refine blk_drewN ?_ _ | refine blk_drew ?_ | refine blk_alloc ?_ _)); refine blk_far ?_ NB251_259.out _; exact KX_ BK251.out⟩
  have n3_ : Aside0 (((w9.setCell ⟨gb259, 0, none⟩ (.slice Ao10 t252.length co10)).setCell ⟨gb259, 1, none⟩ (.slice Ao13 t255.length co13)).heap[gb259]? = some (.cells #[.slice Ao10 t252.length co10, .slice Ao13 t255.length co13] 26 (0, 0))) := ⟨by (with_reducible repeat (first | refine blk_drewN ?_ _ | refine blk_drew ?_ | refine blk_alloc ?_ _)); refine blk_put (cs := #[.slice Ao10 t252.length co10, .slice none 0 0]) ?_ 1 _ rfl; (with_reducible repeat (first | refine blk_drewN ?_ _ | refine blk_drew ?_ | refine blk_alloc ?_ _)); refine blk_put (cs := #[.slice none 0 0, .slice none 0 0]) ?_ 0 _ rfl; exact KX_ BK259.out⟩
  have n4_ : Aside0 (Below w.heap.size w ((w9.setCell ⟨gb259, 0, none⟩ (.slice Ao10 t252.length co10)).setCell ⟨gb259, 1, none⟩ (.slice Ao13 t255.length co13))) := ⟨B1_⟩
  (try clear HO254)
  (try clear HO257)
  (try clear BK251)
  (try clear BK259)
  (try clear HB)
  generalize ((w9.setCell ⟨gb259, 0, none⟩ (.slice Ao10 t252.length co10)).setCell ⟨gb259, 1, none⟩ (.slice Ao13 t255.length co13)) = w14 at n0_ n1_ n2_ n3_ n4_ ⊢
  have HO254 := n0_
  have HO257 := n1_
  have BK251 := n2_
  have BK259 := n3_
  have HB := n4_
  clear n0_ n1_ n2_ n3_ n4_
  have n0_ := Aside0.mk (Kd.S_drew HO254.out)
  have n1_ := Aside0.mk (Kd.S_drew HO257.out)
  have n2_ := Aside0.mk (blk_drew BK251.out)
  have n3_ := Aside0.mk (blk_drew BK259.out)
  have n4_ := Aside0.mk (below_drew1 HB.out)
  clear HO254
  clear HO257
  clear BK251
  clear BK259
  clear HB
  have HO254 := n0_
  have HO257 := n1_
  have BK251 := n2_
  have BK259 := n3_
  have HB := n4_
  clear n0_ n1_ n2_ n3_ n4_
  refine start_ (n := 7) (S := fun w' => w'.cell? ⟨gb259, 0, none⟩ = some (.slice Ao10 t252.length co10) ∧ w'.cell? ⟨gb259, 1, none⟩ = some (.slice Ao13 t255.length co13) ∧ w'.cell? ⟨gb251, 0, none⟩ = some (.slice A0_0 l0_0.length c0_0) ∧ w'.cell? ⟨gb251, 1, none⟩ = some (.slice A0_1 l0_1.length c0_1)) (ds := []) #[false, false, false, false, false, false, false] (by kernel_rfl) rfl rfl ⟨(blk_cell BK259.out 0).trans rfl, (blk_cell BK259.out 1).trans rfl, (blk_cell BK251.out 0).trans rfl, (blk_cell BK251.out 1).trans rfl⟩ (fun hHeld => ?_)
  generalize w14.drew = w15 at HO254 HO257 BK251 BK259 HB hHeld ⊢
  refine pure_ (i := 2) (N := some 14) (v := ?_) (a' := ?_) #[false, false, true, false, false, false, false] rfl rfl (by kernel_rfl) (fun _ _ _ h => h) (Or.inl ⟨by rfl, ?_⟩) ?_ ?_
  rotate_left
  ·intro w'
   go_simp
   with_reducible rfl
  rotate_left
  ·exact P_
  refine take_ (i := 0) (N := some 12) (v := ?_) (a' := ?_) #[true, false, true, false, false, false, false] rfl rfl (by kernel_rfl) (fun _ _ _ h => h) (Or.inl ⟨by rfl, ?_⟩) hHeld ?_ ?_
  rotate_left
  ·rintro w' ⟨s0, s1, s2, s3⟩
   go_simp
   with_reducible rfl
  rotate_left
  ·exact P_
  refine take_ (i := 3) (N := some 15) (v := ?_) (a' := ?_) #[true, false, true, true, false, false, false] rfl rfl (by kernel_rfl) (fun _ _ _ h => h) (Or.inl ⟨by rfl, ?_⟩) hHeld ?_ ?_
  rotate_left
  ·rintro w' ⟨s0, s1, s2, s3⟩
   go_simp
   with_reducible rfl
  rotate_left
  ·exact P_
  refine pure_ (i := 4) (N := some 16) (v := ?_) (a' := ?_) #[true, false, true, true, true, false, false] rfl rfl (by kernel_rfl) (fun _ _ _ h => h) (Or.inl ⟨by rfl, ?_⟩) ?_ ?_
  rotate_left
  ·intro w'
   go_simp
   with_reducible rfl
  rotate_left
  ·exact P_
  refine one_ (i := 1) (N := some 13) #[true, true, true, true, true, false, false] rfl rfl (by kernel_rfl) (by decide) (fun K hK => ?_)
  refine goes_ Try.func23 (by kernel_rfl) rfl #[.agg #[.slice Ao10 t252.length co10, .slice Ao13 t255.length co13]] (by rfl) rfl rfl (by (try simp only [List.map_toArray, List.map_cons, List.map_nil]); first | done | rfl | (simp only [List.length_drop, List.length_take]; rfl)) ?_
  with_reducible refine (graph_Turned.calls k _ _ t252 _ _ t255 t260 t263 _ ?side1 ?side2 ?side3 ?side4 A4.out).mono ?_
  (case side1 => repeat (first | exact (Kd.S_reads' HO254.out).2.2 | (with_reducible refine Kd.C_alloc ?_ _) | (with_reducible refine Kd.C_drewN ?_ _) | (with_reducible refine Kd.C_drew ?_)))
  (case side2 => exact (Kd.S_reads' HO254.out).2.1)
  (case side3 => repeat (first | exact (Kd.S_reads' HO257.out).2.2 | (with_reducible refine Kd.C_alloc ?_ _) | (with_reducible refine Kd.C_drewN ?_ _) | (with_reducible refine Kd.C_drew ?_)))
  (case side4 => exact (Kd.S_reads' HO257.out).2.1)
  rintro e w16 ⟨v261, v264, rfl, ho0, ho1, hb⟩
  refine ⟨_, rfl, ?_⟩
  have n0_ := Aside0.mk (Kd.S_mono (Kd.S_told (Kd.S_told (Kd.S_old (by exact SX_ HO254.out) hb) (Kd.S_base ho0)) (Kd.S_base ho1)) (fun _ h_ => h_.1))
  have n1_ := Aside0.mk (Kd.S_mono (Kd.S_told (Kd.S_told (Kd.S_old (by exact SX_ HO257.out) hb) (Kd.S_base ho0)) (Kd.S_base ho1)) (fun _ h_ => h_.1))
  have n2_ := Aside0.mk (Kd.S_lower (Kd.S_new' (Kd.S_new' ho0 (Kd.S_lt (by exact SX_ HO254.out))) (Kd.S_lt (by exact SX_ HO257.out))) (below_size (B1_)))
  have n3_ := Aside0.mk (Kd.S_lower (Kd.S_new' (Kd.S_new' ho1 (Kd.S_lt (by exact SX_ HO254.out))) (Kd.S_lt (by exact SX_ HO257.out))) (below_size (B1_)))
  have n4_ := Aside0.mk (blk_below (g := gb251) (o := .cells #[.slice A0_0 l0_0.length c0_0, .slice A0_1 l0_1.length c0_1] 26 (0, 0)) (by exact KX_ BK251.out) hb)
  have n5_ := Aside0.mk (blk_below (g := gb259) (o := .cells #[.slice Ao10 t252.length co10, .slice Ao13 t255.length co13] 26 (0, 0)) (by exact KX_ BK259.out) hb)
  have n6_ := Aside0.mk (below_step (B1_) hb)
  clear HO254
  clear HO257
  clear BK251
  clear BK259
  clear HB
  have HO254 := n0_
  have HO257 := n1_
  have HO262 := n2_
  have HO265 := n3_
  have BK251 := n4_
  have BK259 := n5_
  have HB := n6_
  clear n0_ n1_ n2_ n3_ n4_ n5_ n6_
  (try clear hb)
  (try clear hb2)
  (try clear hk)
  (try clear hi)
  (try clear ho0)
  (try clear ho1)
  obtain ⟨Ao17, co17, eo17⟩ := Kd.S_slice HO262.out
  (first | subst eo17 | (injection eo17 with f1_ f2_ f3_; have f4_ := f1_.symm; have f5_ := f3_.symm; clear f1_ f2_ f3_; subst f4_; subst f5_))
  obtain ⟨Ao18, co18, eo18⟩ := Kd.S_slice HO265.out
  (first | subst eo18 | (injection eo18 with f1_ f2_ f3_; have f4_ := f1_.symm; have f5_ := f3_.symm; clear f1_ f2_ f3_; subst f4_; subst f5_))
  refine hK.out _ _ ⟨(blk_cell BK259.out 0).trans rfl, (blk_cell BK259.out 1).trans rfl, (blk_cell BK251.out 0).trans rfl, (blk_cell BK251.out 1).trans rfl⟩ (fun hHeld => ?_)
  clear hK K
  refine norm_ (a' := ?_) ?_ ?_
  rotate_left
  ·show Act.put _ (some 13) _ = _
   simp only [Act.put, List.setIfInBounds_toArray, List.set_cons_zero, List.set_cons_succ, i64_w, i32_w]
   rfl
  refine one_ (i := 5) (N := some 17) #[true, true, true, true, true, true, false] rfl rfl (by kernel_rfl) (by decide) (fun K hK => ?_)
  refine goes_ Try.func22 (by kernel_rfl) rfl #[.agg #[.slice Ao17 t260.length co17, .slice Ao18 t263.length co18], .int .i64 (l0_0.length : Int)] (by rfl) rfl rfl (by (try simp only [List.map_toArray, List.map_cons, List.map_nil]); first | done | rfl | (simp only [List.length_drop, List.length_take]; rfl)) ?_
  with_reducible refine (dom_Tree.calls k _ _ t260 _ _ t263 (l0_0.length : Int) t266 _ ?side1 ?side2 ?side3 ?side4 A5.out).mono ?_
  (case side1 => repeat (first | exact (Kd.S_reads' HO262.out).2.2 | (with_reducible refine Kd.C_alloc ?_ _) | (with_reducible refine Kd.C_drewN ?_ _) | (with_reducible refine Kd.C_drew ?_)))
  (case side2 => exact (Kd.S_reads' HO262.out).2.1)
  (case side3 => repeat (first | exact (Kd.S_reads' HO265.out).2.2 | (with_reducible refine Kd.C_alloc ?_ _) | (with_reducible refine Kd.C_drewN ?_ _) | (with_reducible refine Kd.C_drew ?_)))
  (case side4 => exact (Kd.S_reads' HO265.out).2.1)
  rintro e w19 ⟨v267, rfl, ho0, hb⟩
  refine ⟨_, rfl, ?_⟩
  have n0_ := Aside0.mk (Kd.S_elder' (by exact SX_ HO254.out) (Kd.R_base ho0) hb)
  have n1_ := Aside0.mk (Kd.S_elder' (by exact SX_ HO257.out) (Kd.R_base ho0) hb)
  have n2_ := Aside0.mk (Kd.S_elder' (by exact SX_ HO262.out) (Kd.R_base ho0) hb)
  have n3_ := Aside0.mk (Kd.S_elder' (by exact SX_ HO265.out) (Kd.R_base ho0) hb)
  have n4_ := Aside0.mk (Kd.R_lower ho0 (below_size (B1_)))
  have n5_ := Aside0.mk (blk_below (g := gb251) (o := .cells #[.slice A0_0 l0_0.length c0_0, .slice A0_1 l0_1.length c0_1] 26 (0, 0)) (by exact KX_ BK251.out) hb)
  have n6_ := Aside0.mk (blk_below (g := gb259) (o := .cells #[.slice Ao10 t252.length co10, .slice Ao13 t255.length co13] 26 (0, 0)) (by exact KX_ BK259.out) hb)
  have n7_ := Aside0.mk (below_step (B1_) hb)
  clear HO254
  clear HO257
  clear HO262
  clear HO265
  clear BK251
  clear BK259
  clear HB
  have HO254 := n0_
  have HO257 := n1_
  have HO262 := n2_
  have HO265 := n3_
  have HO268 := n4_
  have BK251 := n5_
  have BK259 := n6_
  have HB := n7_
  clear n0_ n1_ n2_ n3_ n4_ n5_ n6_ n7_
  (try clear hb)
  (try clear hb2)
  (try clear hk)
  (try clear hi)
  (try clear ho0)
  refine hK.out _ _ ⟨(blk_cell BK259.out 0).trans rfl, (blk_cell BK259.out 1).trans rfl, (blk_cell BK251.out 0).trans rfl, (blk_cell BK251.out 1).trans rfl⟩ (fun hHeld => ?_)
  clear hK K
  refine norm_ (a' := ?_) ?_ ?_
  rotate_left
  ·show Act.put _ (some 17) _ = _
   simp only [Act.put, List.setIfInBounds_toArray, List.set_cons_zero, List.set_cons_succ, i64_w, i32_w]
   rfl
  refine pure_ (i := 6) (N := some 2) (v := ?_) (a' := ?_) #[true, true, true, true, true, true, true] rfl rfl (by kernel_rfl) (fun _ _ _ h => h) (Or.inl ⟨by rfl, ?_⟩) ?_ ?_
  rotate_left
  ·intro w'
   go_simp
   with_reducible rfl
  rotate_left
  ·exact P_
  refine done_ (by kernel_rfl) ?_
  try go_wp2
  go_ret
  exact ⟨_, by first | rfl | (simp [errW_none, errW_some] <;> rfl) | (simp [*, errW_none, errW_some] <;> rfl), by exact RX_ HO268.out, B1_⟩
 rw [if_neg c3] at H
 have c3b0 : (t258 == 0) = false := beq_eq_false_iff_ne.mpr c3
 have c3b1 : (t258 != 0) = true := bne_iff_ne.mpr c3
 obtain rfl := Option.some.inj H
 go_enter Try.func10, Try.ntmps10
 go_wp2_with (first | ((with_reducible refine gate_dst (N := 1) rfl ?_); refine box_event ?hg (N := 1) ?hd (cs := #[.slice A0_0 l0_0.length c0_0, .slice A0_1 l0_1.length c0_1]) (t := 26) ?hr ?_; (case hd => rfl); (case hg => rfl); (case hr => first | (go_simp; done) | (go_simp; rfl)); intro gb251 hg w20 hbox hb; have n0_ := Aside0.mk (below_step (B_) hb); have n1_ := Aside0.mk (hbox); have n2_ := Aside0.mk ((by rw [hg]; exact (below_size (B_)) : w.heap.size ≤ gb251)); have n3_ := Aside0.mk ((by rw [hg]; exact (below_size (B_)) : w.heap.size ≤ gb251)); clear HB; have HB := n0_; have BK251 := n1_; have GW251 := n2_; have GE251 := n3_; clear n0_ n1_ n2_ n3_; clear hb hbox hg; have hcz21_0 : w20.cell? ⟨gb251, 0, none⟩ = some (.slice A0_0 l0_0.length c0_0) := (blk_cell BK251.out 0).trans rfl; have hcz21_1 : w20.cell? ⟨gb251, 1, none⟩ = some (.slice A0_1 l0_1.length c0_1) := (blk_cell BK251.out 1).trans rfl; have hfz21_0 := blk_frozen BK251.out 0; have hfz21_1 := blk_frozen BK251.out 1) | ((with_reducible refine gate_callee (f := 11) rfl ?_); refine goesL_ (some 7) rfl rfl Try.func11 (by kernel_rfl) rfl #[.agg #[.slice A0_0 l0_0.length c0_0, .slice A0_1 l0_1.length c0_1]] rfl (by (try simp only [List.map_toArray, List.map_cons, List.map_nil]); first | done | rfl | (simp only [List.length_drop, List.length_take]; rfl)) ?_; (with_reducible refine (pdom_Exit.calls k _ _ l0_0 _ _ l0_1 t252 t255 t258 _ ?side1 ?side2 ?side3 ?side4 A2.out).mono ?_); (case side1 => exact CX_ (Kd.C_below HR0_0.out HB.out)); (case side2 => exact HC0_0.out); (case side3 => exact CX_ (Kd.C_below HR0_1.out HB.out)); (case side4 => exact HC0_1.out); rintro e w22 ⟨v253, v256, rfl, ho0, ho1, hb⟩; refine ⟨_, rfl, ?_⟩; have n0_ := Aside0.mk (Kd.S_lower ho0 (below_size (B1_))); have n1_ := Aside0.mk (Kd.S_lower ho1 (below_size (B1_))); have n2_ := Aside0.mk (blk_below (g := gb251) (o := .cells #[.slice A0_0 l0_0.length c0_0, .slice A0_1 l0_1.length c0_1] 26 (0, 0)) (by exact KX_ BK251.out) hb); have n3_ := Aside0.mk (below_step (B1_) hb); clear BK251; clear HB; have HO254 := n0_; have HO257 := n1_; have BK251 := n2_; have HB := n3_; clear n0_ n1_ n2_ n3_; (try clear hb); (try clear hb2); (try clear hk); (try clear hi); (try clear ho0); (try clear ho1)) | ((with_reducible refine gate_dst (N := 3) rfl ?_); refine box_event ?hg (N := 3) ?hd (cs := #[.slice none 0 0, .slice none 0 0]) (t := 26) ?hr ?_; (case hd => rfl); (case hg => rfl); (case hr => first | (go_simp; done) | (go_simp; rfl)); intro gb259 hg w23 hbox hb; have n0_ := Aside0.mk (Kd.S_below (by exact SX_ HO254.out) hb); have n1_ := Aside0.mk (Kd.S_below (by exact SX_ HO257.out) hb); have n2_ := Aside0.mk (blk_below (g := gb251) (o := .cells #[.slice A0_0 l0_0.length c0_0, .slice A0_1 l0_1.length c0_1] 26 (0, 0)) (by exact KX_ BK251.out) hb); have n3_ := Aside0.mk (below_step (B1_) hb); have n4_ := Aside0.mk (hbox); have n5_ := Aside0.mk ((by rw [hg]; exact (below_size (B1_)) : w.heap.size ≤ gb259)); have n6_ := Aside0.mk ((by rw [hg]; exact (below_size (B1_)) : w.heap.size ≤ gb259)); have n7_ := Aside0.mk ((by rw [hg]; exact Nat.ne_of_lt (blk_lt (g := gb251) (o := .cells #[.slice A0_0 l0_0.length c0_0, .slice A0_1 l0_1.length c0_1] 26 (0, 0)) (by exact KX_ BK251.out)) : gb251 ≠ gb259)); have n8_ := Aside0.mk ((by rw [hg]; exact Nat.ne_of_gt (blk_lt (g := gb251) (o := .cells #[.slice A0_0 l0_0.length c0_0, .slice A0_1 l0_1.length c0_1] 26 (0, 0)) (by exact KX_ BK251.out)) : gb259 ≠ gb251)); clear HO254; clear HO257; clear BK251; clear HB; have HO254 := n0_; have HO257 := n1_; have BK251 := n2_; have HB := n3_; have BK259 := n4_; have GW259 := n5_; have GE259 := n6_; have NB251_259 := n7_; have NB259_251 := n8_; clear n0_ n1_ n2_ n3_ n4_ n5_ n6_ n7_ n8_; clear hb hbox hg; obtain ⟨Ao24, co24, eo24⟩ := Kd.S_slice HO254.out; subst eo24; have hnb25 := NB259_251.out; have hnc25 := NB251_259.out; have hcz26_0 : w23.cell? ⟨gb259, 0, none⟩ = some (.slice none 0 0) := (blk_cell BK259.out 0).trans rfl; have hcz26_1 : w23.cell? ⟨gb259, 1, none⟩ = some (.slice none 0 0) := (blk_cell BK259.out 1).trans rfl; have hfz26_0 := blk_frozen BK259.out 0; have hfz26_1 := blk_frozen BK259.out 1; obtain ⟨Ao27, co27, eo27⟩ := Kd.S_slice HO257.out; subst eo27))
 go_ret
 exact ⟨_, by first | rfl | (simp [errW_none, errW_some] <;> rfl) | (simp [*, errW_none, errW_some] <;> rfl), by first | exact Kd.R_nil _ _ _ _ _ | exact Kd.N_nil _ _ _ _ _ | exact Kd.V_nil _ _ _ _ _ | exact Kd.Q_nil _ _ _ _ _ | exact Kd.S_nil _ _ _ _ _, B1_⟩


/-! ### dom_Meet: function 36 -/
def dom_Meet.l0 : Nat → List Int → Int → Int → Option (Int)
 | 0, _, _, _ => none
 | k + 1, x0, x1, x2 => if x1 = x2 then (some x1) else ((dom_depth.f k x0 x1).bind fun t278 => ((dom_depth.f k x0 x2).bind fun t279 => (if t278 ≥ t279 then (if 0 ≤ x1 then (if x1 < (x0.length : Int) then (dom_Meet.l0 k x0 (rd x0 x1) x2) else (none)) else (none)) else (if 0 ≤ x2 then (if x2 < (x0.length : Int) then (dom_Meet.l0 k x0 x1 (rd x0 x2)) else (none)) else (none)))))
def dom_Meet.f (k : Nat) (l0 : List Int) (a1 : Int) (a2 : Int) : Option (Int) := (dom_in.f k l0 (([a1, a2] : List Int))).bind fun t277 => (if t277 = true then (dom_Meet.l0 k l0 a1 a2) else (some (-2)))
theorem dom_Meet.mono_l : ∀ k, (∀ y0 y1 y2, LeO (dom_Meet.l0 k y0 y1 y2) (dom_Meet.l0 (k + 1) y0 y1 y2))
 | 0 => fun _ _ _ r h => by simp [dom_Meet.l0] at h
 | k + 1 => by
  have ih0 := dom_Meet.mono_l k
  ·intro y0 y1 y2
   unfold dom_Meet.l0
   repeat' first
   | (with_reducible exact ih0 _ _ _)
   | (with_reducible exact dom_depth.mono _ _ _)
   | (with_reducible exact dom_in.mono _ _ _)
   | (with_reducible exact LeO.refl _)
   | (with_reducible exact LeO.none _)
   | (with_reducible refine LeO.ite ?_ ?_)
   | (with_reducible refine LeO.bind ?_ (fun _ => ?_))
   | exact ih0 _ _ _
   | exact dom_depth.mono _ _ _
   | exact dom_in.mono _ _ _
   | exact LeO.none _
   | refine LeO.ite ?_ ?_
   | refine LeO.bind ?_ (fun _ => ?_)
theorem dom_Meet.mono : ∀ a0 a1 a2 k, LeO (dom_Meet.f k a0 a1 a2) (dom_Meet.f (k + 1) a0 a1 a2) := by
 intro a0 a1 a2 k
 have ih0 := dom_Meet.mono_l k
 unfold dom_Meet.f
 repeat' first
  | (with_reducible exact ih0 _ _ _)
  | (with_reducible exact dom_depth.mono _ _ _)
  | (with_reducible exact dom_in.mono _ _ _)
  | (with_reducible exact LeO.refl _)
  | (with_reducible exact LeO.none _)
  | (with_reducible refine LeO.ite ?_ ?_)
  | (with_reducible refine LeO.bind ?_ (fun _ => ?_))
  | exact ih0 _ _ _
  | exact dom_depth.mono _ _ _
  | exact dom_in.mono _ _ _
  | exact LeO.none _
  | refine LeO.ite ?_ ?_
  | refine LeO.bind ?_ (fun _ => ?_)
set_option maxHeartbeats 8000000 in
set_option maxRecDepth 100000 in
theorem dom_Meet.calls (k : Nat) (A0 : Option Addr) (c0 : Nat) (l0 : List Int) (a1 : Int) (a2 : Int) (r : Int) (w : World) (hr0 : Kd.C (Kd.int .i64) w A0 l0.length l0) (hc0 : l0.length ≤ c0) (h : dom_Meet.f k l0 a1 a2 = some r) :
 Calls Try.prog 36 #[.slice A0 l0.length c0, .int .i64 a1, .int .i64 a2] w fun e w' => e = .returned (.int .i64 r) ∧ Below w.heap.size w w' := by
 have HR0 := Aside0.mk hr0
 have HC0 := Aside0.mk hc0
 clear hr0 hc0
 have HB := Aside0.mk (Below.refl w.heap.size w)
 have H : ((dom_in.f k l0 (([a1, a2] : List Int))).bind fun t277 => (if t277 = true then (dom_Meet.l0 k l0 a1 a2) else (some (-2)))) = some r := h
 clear h
 obtain ⟨y274, hy274⟩ : ∃ y_ : List Int, y_ = (([a1, a2] : List Int)) := ⟨_, rfl⟩
 replace H : ((dom_in.f k l0 y274).bind fun t277 => (if t277 = true then (dom_Meet.l0 k l0 a1 a2) else (some (-2)))) = some r := by first | (rw [hy274]; with_reducible exact H) | (have H2_ := (Option.bind_some _ _).symm.trans H; rw [hy274]; with_reducible exact H2_) | (have H2_ := (Option.bind_some _ _).symm.trans H; with_reducible exact H2_) | with_reducible exact H | (rw [hy274]; exact H) | exact H
 have Ny274 := Aside0.mk hy274
 clear hy274
 replace H := Option.bind_eq_some_iff.mp H
 obtain ⟨t277, A40, H⟩ := H
 replace H : (if t277 = true then (dom_Meet.l0 k l0 a1 a2) else (some (-2))) = some r := H
 have A4 := Aside0.mk A40
 clear A40
 by_cases c5 : t277 = true
 ·subst c5
  have H1 : (dom_Meet.l0 k l0 a1 a2) = some r := by rw [if_pos rfl] at H; exact H
  clear H
  have H := H1
  clear H1
  have H' := Aside0.mk H
  clear H
  go_enter Try.func36, Try.ntmps36
  go_wp2_with (first | ((with_reducible refine gate_dst (N := 10) rfl ?_); refine Kd.R_lit (Kd.int .i64) _ 3 ?hg (N := 10) ?hd (xs := ([a1, a2] : List Int)) (inner := [.int .i64 a1, .int .i64 a2]) (ok := fun _ => True) (okp := fun _ => True) ?hr ?hp (fun _ hk => hk) trivial (Below.refl _ _) (Nat.le_refl _) (by simp) ?_; (case hd => rfl); (case hg => rfl); (case hr => first | (go_simp; done) | (go_simp; rfl)); (case hp => exact (Reps.one (show Kd.M (Kd.int .i64) _ _ _ a1 [.int .i64 a1] from rfl) (Reps.one (show Kd.M (Kd.int .i64) _ _ _ a2 [.int .i64 a2] from rfl) (Reps.none _ _)))); intro v275 w6 ho7 hb hg_ hnew_; clear hg_ hnew_; (first | rw [← Ny274.out] at ho7 | (simp only [Int.reduceToNat] at ho7; rw [← Ny274.out] at ho7)); have n0_ := Aside0.mk (Kd.R_lower ho7 (below_size (B_))); have n1_ := Aside0.mk (below_step (B_) hb); clear HB; have HO276 := n0_; have HB := n1_; clear n0_ n1_; clear hb ho7; obtain ⟨Ao8, co8, eo8⟩ := Kd.R_slice HO276.out; subst eo8) | ((with_reducible refine gate_callee (f := 35) rfl ?_); refine goesL_ (some 11) rfl rfl Try.func35 (by kernel_rfl) rfl #[.slice A0 l0.length c0, .slice Ao8 y274.length co8] rfl (by (try simp only [List.map_toArray, List.map_cons, List.map_nil]); first | done | rfl | (simp only [List.length_drop, List.length_take]; rfl)) ?_; (with_reducible refine (dom_in.calls k _ _ l0 _ _ y274 true _ ?side1 ?side2 ?side3 ?side4 A4.out).mono ?_); (case side1 => exact CX_ (Kd.C_below HR0.out HB.out)); (case side2 => exact HC0.out); (case side3 => repeat (first | exact (Kd.R_reads' HO276.out).2.2 | (with_reducible refine Kd.C_alloc ?_ _) | (with_reducible refine Kd.C_drewN ?_ _) | (with_reducible refine Kd.C_drew ?_))); (case side4 => exact (Kd.R_reads' HO276.out).2.1); rintro e w9 ⟨rfl, hb⟩; refine ⟨_, rfl, ?_⟩; have n0_ := Aside0.mk (Kd.R_below (by exact RX_ HO276.out) hb); have n1_ := Aside0.mk (below_step (B_) hb); clear HO276; clear HB; have HO276 := n0_; have HB := n1_; clear n0_ n1_; (try clear hb); (try clear hb2); (try clear hk); (try clear hi)))
  go_loopg [1, 2] k (fun kq v1 v2 w' => ∃ (x1_1 : Int) (x2_1 : Int), v1 = .int .i64 x1_1 ∧ v2 = .int .i64 x2_1 ∧ Aside0 (dom_Meet.l0 kq l0 x1_1 x2_1 = some r) ∧ Aside0 (kq ≤ k) ∧ Aside0 (Below w.heap.size w w'))
  case atStart => exact ⟨(a1), (a2), (by first | rfl | (simp; done) | (simp [*]; done)), (by first | rfl | (simp; done) | (simp [*]; done)), H', ⟨Nat.le_refl _⟩, ⟨B_⟩⟩
  case round =>
   clear H'
   try clear c5
   obtain ⟨x1_1, x2_1, rfl, rfl, HA, HK1, HB⟩ := hrel
   cases gk with
   | zero => exact absurd HA.out (by simp [dom_Meet.l0])
   | succ k1 =>
    have H := HA.out
    clear HA
    simp only [dom_Meet.l0] at H
    by_cases c10 : x1_1 = x2_1
    ·rw [if_pos c10] at H
     have c10b0 : (x1_1 == x2_1) = true := beq_iff_eq.mpr c10
     have c10b1 : (x1_1 != x2_1) = false := bne_eq_false_iff_eq.mpr c10
     clear c10
     obtain rfl := Option.some.inj H
     go_wp2
     go_ret
     exact ⟨by first | rfl | (simp [errW_none, errW_some] <;> rfl) | (simp [*, errW_none, errW_some] <;> rfl), B_⟩
    rw [if_neg c10] at H
    have c10b0 : (x1_1 == x2_1) = false := beq_eq_false_iff_ne.mpr c10
    have c10b1 : (x1_1 != x2_1) = true := bne_iff_ne.mpr c10
    replace H := Option.bind_eq_some_iff.mp H
    obtain ⟨t278, A110, H⟩ := H
    replace H : ((dom_depth.f k1 l0 x2_1).bind fun t279 => (if t278 ≥ t279 then (if 0 ≤ x1_1 then (if x1_1 < (l0.length : Int) then (dom_Meet.l0 k1 l0 (rd l0 x1_1) x2_1) else (none)) else (none)) else (if 0 ≤ x2_1 then (if x2_1 < (l0.length : Int) then (dom_Meet.l0 k1 l0 x1_1 (rd l0 x2_1)) else (none)) else (none)))) = some r := H
    have A11 := Aside0.mk A110
    clear A110
    replace H := Option.bind_eq_some_iff.mp H
    obtain ⟨t279, A120, H⟩ := H
    replace H : (if t278 ≥ t279 then (if 0 ≤ x1_1 then (if x1_1 < (l0.length : Int) then (dom_Meet.l0 k1 l0 (rd l0 x1_1) x2_1) else (none)) else (none)) else (if 0 ≤ x2_1 then (if x2_1 < (l0.length : Int) then (dom_Meet.l0 k1 l0 x1_1 (rd l0 x2_1)) else (none)) else (none))) = some r := H
    have A12 := Aside0.mk A120
    clear A120
    by_cases c13 : t278 ≥ t279
    ·rw [if_pos c13] at H
     have c13b0 : decide (t279 ≤ t278) = true := decide_eq_true c13
     clear c13
     by_cases c14 : 0 ≤ x1_1
     ·rw [if_pos c14] at H
      have c14b0 : decide (0 ≤ x1_1) = true := decide_eq_true c14
      clear c14
      by_cases c15 : x1_1 < (l0.length : Int)
      ·rw [if_pos c15] at H
       have c15b0 : decide (x1_1 < (l0.length : Int)) = true := decide_eq_true c15
       clear c15
       have H' := Aside0.mk H
       clear H
       go_wp2_with (first | ((with_reducible refine gate_callee (f := 42) rfl ?_); refine goesL_ (some 18) rfl rfl Try.func42 (by kernel_rfl) rfl #[.slice A0 l0.length c0, .int .i64 x1_1] rfl (by (try simp only [List.map_toArray, List.map_cons, List.map_nil]); first | done | rfl | (simp only [List.length_drop, List.length_take]; rfl)) ?_; (with_reducible refine (dom_depth.calls k1 _ _ l0 x1_1 t278 _ ?side1 ?side2 A11.out).mono ?_); (case side1 => exact CX_ (Kd.C_below HR0.out HB.out)); (case side2 => exact HC0.out); rintro e w' ⟨rfl, ⟨nd, rfl⟩⟩; refine ⟨_, rfl, ?_⟩) | ((with_reducible refine gate_callee (f := 42) rfl ?_); refine goesL_ (some 21) rfl rfl Try.func42 (by kernel_rfl) rfl #[.slice A0 l0.length c0, .int .i64 x2_1] rfl (by (try simp only [List.map_toArray, List.map_cons, List.map_nil]); first | done | rfl | (simp only [List.length_drop, List.length_take]; rfl)) ?_; (with_reducible refine (dom_depth.calls k1 _ _ l0 x2_1 t279 _ ?side1 ?side2 A12.out).mono ?_); (case side1 => repeat (first | exact (Kd.C_below HR0.out (B_)) | (with_reducible refine Kd.C_alloc ?_ _) | (with_reducible refine Kd.C_drewN ?_ _) | (with_reducible refine Kd.C_drew ?_))); (case side2 => exact HC0.out); rintro e w' ⟨rfl, ⟨nd, rfl⟩⟩; refine ⟨_, rfl, ?_⟩; have p280 : 0 ≤ (x1_1 : Int) := D_; have q280 : x1_1 < (l0.length : Int) := D_; obtain ⟨ad280, e280, hx280_0⟩ := Kd.at_int HR0.out x1_1 p280 q280; cases e280; replace hx280_0 := (HB.out.cell (World.block_lt_of_cell? w _ hx280_0)).trans hx280_0; replace p280 := eq_true p280; replace q280 := eq_true q280))
       go_roundg k1
       case measure => have := HK1.out; omega
       case rel => exact ⟨(rd l0 x1_1), (x2_1), (by first | rfl | (simp; done) | (simp [*]; done)), (by first | rfl | (simp; done) | (simp [*]; done)), H', ⟨by have := HK1.out; omega⟩, ⟨B_⟩⟩
      rw [if_neg c15] at H
      exact absurd H (by simp)
     rw [if_neg c14] at H
     exact absurd H (by simp)
    rw [if_neg c13] at H
    have c13b0 : decide (t279 ≤ t278) = false := decide_eq_false c13
    clear c13
    by_cases c16 : 0 ≤ x2_1
    ·rw [if_pos c16] at H
     have c16b0 : decide (0 ≤ x2_1) = true := decide_eq_true c16
     clear c16
     by_cases c17 : x2_1 < (l0.length : Int)
     ·rw [if_pos c17] at H
      have c17b0 : decide (x2_1 < (l0.length : Int)) = true := decide_eq_true c17
      clear c17
      have H' := Aside0.mk H
      clear H
      go_wp2_with (first | ((with_reducible refine gate_callee (f := 42) rfl ?_); refine goesL_ (some 18) rfl rfl Try.func42 (by kernel_rfl) rfl #[.slice A0 l0.length c0, .int .i64 x1_1] rfl (by (try simp only [List.map_toArray, List.map_cons, List.map_nil]); first | done | rfl | (simp only [List.length_drop, List.length_take]; rfl)) ?_; (with_reducible refine (dom_depth.calls k1 _ _ l0 x1_1 t278 _ ?side1 ?side2 A11.out).mono ?_); (case side1 => exact CX_ (Kd.C_below HR0.out HB.out)); (case side2 => exact HC0.out); rintro e w' ⟨rfl, ⟨nd, rfl⟩⟩; refine ⟨_, rfl, ?_⟩) | ((with_reducible refine gate_callee (f := 42) rfl ?_); refine goesL_ (some 21) rfl rfl Try.func42 (by kernel_rfl) rfl #[.slice A0 l0.length c0, .int .i64 x2_1] rfl (by (try simp only [List.map_toArray, List.map_cons, List.map_nil]); first | done | rfl | (simp only [List.length_drop, List.length_take]; rfl)) ?_; (with_reducible refine (dom_depth.calls k1 _ _ l0 x2_1 t279 _ ?side1 ?side2 A12.out).mono ?_); (case side1 => repeat (first | exact (Kd.C_below HR0.out (B_)) | (with_reducible refine Kd.C_alloc ?_ _) | (with_reducible refine Kd.C_drewN ?_ _) | (with_reducible refine Kd.C_drew ?_))); (case side2 => exact HC0.out); rintro e w' ⟨rfl, ⟨nd, rfl⟩⟩; refine ⟨_, rfl, ?_⟩; have p281 : 0 ≤ (x2_1 : Int) := D_; have q281 : x2_1 < (l0.length : Int) := D_; obtain ⟨ad281, e281, hx281_0⟩ := Kd.at_int HR0.out x2_1 p281 q281; cases e281; replace hx281_0 := (HB.out.cell (World.block_lt_of_cell? w _ hx281_0)).trans hx281_0; replace p281 := eq_true p281; replace q281 := eq_true q281))
      go_roundg k1
      case measure => have := HK1.out; omega
      case rel => exact ⟨(x1_1), (rd l0 x2_1), (by first | rfl | (simp; done) | (simp [*]; done)), (by first | rfl | (simp; done) | (simp [*]; done)), H', ⟨by have := HK1.out; omega⟩, ⟨B_⟩⟩
     rw [if_neg c17] at H
     exact absurd H (by simp)
    rw [if_neg c16] at H
    exact absurd H (by simp)
 replace c5 := Bool.eq_false_iff.mpr c5
 subst c5
 have H1 : (some (-2)) = some r := by rw [if_neg (show ¬ (false = true) by decide)] at H; exact H
 clear H
 have H := H1
 clear H1
 obtain rfl := Option.some.inj H
 go_enter Try.func36, Try.ntmps36
 go_wp2_with (first | ((with_reducible refine gate_dst (N := 10) rfl ?_); refine Kd.R_lit (Kd.int .i64) _ 3 ?hg (N := 10) ?hd (xs := ([a1, a2] : List Int)) (inner := [.int .i64 a1, .int .i64 a2]) (ok := fun _ => True) (okp := fun _ => True) ?hr ?hp (fun _ hk => hk) trivial (Below.refl _ _) (Nat.le_refl _) (by simp) ?_; (case hd => rfl); (case hg => rfl); (case hr => first | (go_simp; done) | (go_simp; rfl)); (case hp => exact (Reps.one (show Kd.M (Kd.int .i64) _ _ _ a1 [.int .i64 a1] from rfl) (Reps.one (show Kd.M (Kd.int .i64) _ _ _ a2 [.int .i64 a2] from rfl) (Reps.none _ _)))); intro v275 w18 ho19 hb hg_ hnew_; clear hg_ hnew_; (first | rw [← Ny274.out] at ho19 | (simp only [Int.reduceToNat] at ho19; rw [← Ny274.out] at ho19)); have n0_ := Aside0.mk (Kd.R_lower ho19 (below_size (B_))); have n1_ := Aside0.mk (below_step (B_) hb); clear HB; have HO276 := n0_; have HB := n1_; clear n0_ n1_; clear hb ho19; obtain ⟨Ao20, co20, eo20⟩ := Kd.R_slice HO276.out; subst eo20) | ((with_reducible refine gate_callee (f := 35) rfl ?_); refine goesL_ (some 11) rfl rfl Try.func35 (by kernel_rfl) rfl #[.slice A0 l0.length c0, .slice Ao20 y274.length co20] rfl (by (try simp only [List.map_toArray, List.map_cons, List.map_nil]); first | done | rfl | (simp only [List.length_drop, List.length_take]; rfl)) ?_; (with_reducible refine (dom_in.calls k _ _ l0 _ _ y274 false _ ?side1 ?side2 ?side3 ?side4 A4.out).mono ?_); (case side1 => exact CX_ (Kd.C_below HR0.out HB.out)); (case side2 => exact HC0.out); (case side3 => repeat (first | exact (Kd.R_reads' HO276.out).2.2 | (with_reducible refine Kd.C_alloc ?_ _) | (with_reducible refine Kd.C_drewN ?_ _) | (with_reducible refine Kd.C_drew ?_))); (case side4 => exact (Kd.R_reads' HO276.out).2.1); rintro e w21 ⟨rfl, hb⟩; refine ⟨_, rfl, ?_⟩; have n0_ := Aside0.mk (Kd.R_below (by exact RX_ HO276.out) hb); have n1_ := Aside0.mk (below_step (B_) hb); clear HO276; clear HB; have HO276 := n0_; have HB := n1_; clear n0_ n1_; (try clear hb); (try clear hb2); (try clear hk); (try clear hi)))
 go_ret
 exact ⟨by first | rfl | (simp [errW_none, errW_some] <;> rfl) | (simp [*, errW_none, errW_some] <;> rfl), B_⟩


/-! ### dom_Over: function 28 -/
def dom_Over.f (k : Nat) (l0 : List Int) (a1 : Int) (a2 : Int) : Option (Bool) := (dom_in.f k l0 (([a1, a2] : List Int))).bind fun t285 => (if t285 = true then ((dom_Meet.f k l0 a1 a2).bind fun t286 => (some (t286 == a1))) else (some false))
theorem dom_Over.mono : ∀ a0 a1 a2 k, LeO (dom_Over.f k a0 a1 a2) (dom_Over.f (k + 1) a0 a1 a2) := by
 intro a0 a1 a2 k
 unfold dom_Over.f
 repeat' first
  | (with_reducible exact dom_Meet.mono _ _ _ _)
  | (with_reducible exact dom_in.mono _ _ _)
  | (with_reducible exact LeO.refl _)
  | (with_reducible exact LeO.none _)
  | (with_reducible refine LeO.ite ?_ ?_)
  | (with_reducible refine LeO.bind ?_ (fun _ => ?_))
  | exact dom_Meet.mono _ _ _ _
  | exact dom_in.mono _ _ _
  | exact LeO.none _
  | refine LeO.ite ?_ ?_
  | refine LeO.bind ?_ (fun _ => ?_)
set_option maxHeartbeats 8000000 in
set_option maxRecDepth 100000 in
theorem dom_Over.calls (k : Nat) (A0 : Option Addr) (c0 : Nat) (l0 : List Int) (a1 : Int) (a2 : Int) (r : Bool) (w : World) (hr0 : Kd.C (Kd.int .i64) w A0 l0.length l0) (hc0 : l0.length ≤ c0) (h : dom_Over.f k l0 a1 a2 = some r) :
 Calls Try.prog 28 #[.slice A0 l0.length c0, .int .i64 a1, .int .i64 a2] w fun e w' => e = .returned (.bool r) ∧ Below w.heap.size w w' := by
 have HR0 := Aside0.mk hr0
 have HC0 := Aside0.mk hc0
 clear hr0 hc0
 have HB := Aside0.mk (Below.refl w.heap.size w)
 have H : ((dom_in.f k l0 (([a1, a2] : List Int))).bind fun t285 => (if t285 = true then ((dom_Meet.f k l0 a1 a2).bind fun t286 => (some (t286 == a1))) else (some false))) = some r := h
 clear h
 obtain ⟨y282, hy282⟩ : ∃ y_ : List Int, y_ = (([a1, a2] : List Int)) := ⟨_, rfl⟩
 replace H : ((dom_in.f k l0 y282).bind fun t285 => (if t285 = true then ((dom_Meet.f k l0 a1 a2).bind fun t286 => (some (t286 == a1))) else (some false))) = some r := by first | (rw [hy282]; with_reducible exact H) | (have H2_ := (Option.bind_some _ _).symm.trans H; rw [hy282]; with_reducible exact H2_) | (have H2_ := (Option.bind_some _ _).symm.trans H; with_reducible exact H2_) | with_reducible exact H | (rw [hy282]; exact H) | exact H
 have Ny282 := Aside0.mk hy282
 clear hy282
 replace H := Option.bind_eq_some_iff.mp H
 obtain ⟨t285, A40, H⟩ := H
 replace H : (if t285 = true then ((dom_Meet.f k l0 a1 a2).bind fun t286 => (some (t286 == a1))) else (some false)) = some r := H
 have A4 := Aside0.mk A40
 clear A40
 by_cases c5 : t285 = true
 ·subst c5
  have H1 : ((dom_Meet.f k l0 a1 a2).bind fun t286 => (some (t286 == a1))) = some r := by rw [if_pos rfl] at H; exact H
  clear H
  have H := H1
  clear H1
  replace H := Option.bind_eq_some_iff.mp H
  obtain ⟨t286, A60, H⟩ := H
  replace H : (some (t286 == a1)) = some r := H
  have A6 := Aside0.mk A60
  clear A60
  obtain rfl := Option.some.inj H
  go_enter Try.func28, Try.ntmps28
  go_wp2_with (first | ((with_reducible refine gate_dst (N := 10) rfl ?_); refine Kd.R_lit (Kd.int .i64) _ 3 ?hg (N := 10) ?hd (xs := ([a1, a2] : List Int)) (inner := [.int .i64 a1, .int .i64 a2]) (ok := fun _ => True) (okp := fun _ => True) ?hr ?hp (fun _ hk => hk) trivial (Below.refl _ _) (Nat.le_refl _) (by simp) ?_; (case hd => rfl); (case hg => rfl); (case hr => first | (go_simp; done) | (go_simp; rfl)); (case hp => exact (Reps.one (show Kd.M (Kd.int .i64) _ _ _ a1 [.int .i64 a1] from rfl) (Reps.one (show Kd.M (Kd.int .i64) _ _ _ a2 [.int .i64 a2] from rfl) (Reps.none _ _)))); intro v283 w7 ho8 hb hg_ hnew_; clear hg_ hnew_; (first | rw [← Ny282.out] at ho8 | (simp only [Int.reduceToNat] at ho8; rw [← Ny282.out] at ho8)); have n0_ := Aside0.mk (Kd.R_lower ho8 (below_size (B_))); have n1_ := Aside0.mk (below_step (B_) hb); clear HB; have HO284 := n0_; have HB := n1_; clear n0_ n1_; clear hb ho8; obtain ⟨Ao9, co9, eo9⟩ := Kd.R_slice HO284.out; subst eo9) | ((with_reducible refine gate_callee (f := 35) rfl ?_); refine goesL_ (some 11) rfl rfl Try.func35 (by kernel_rfl) rfl #[.slice A0 l0.length c0, .slice Ao9 y282.length co9] rfl (by (try simp only [List.map_toArray, List.map_cons, List.map_nil]); first | done | rfl | (simp only [List.length_drop, List.length_take]; rfl)) ?_; (with_reducible refine (dom_in.calls k _ _ l0 _ _ y282 true _ ?side1 ?side2 ?side3 ?side4 A4.out).mono ?_); (case side1 => exact CX_ (Kd.C_below HR0.out HB.out)); (case side2 => exact HC0.out); (case side3 => repeat (first | exact (Kd.R_reads' HO284.out).2.2 | (with_reducible refine Kd.C_alloc ?_ _) | (with_reducible refine Kd.C_drewN ?_ _) | (with_reducible refine Kd.C_drew ?_))); (case side4 => exact (Kd.R_reads' HO284.out).2.1); rintro e w10 ⟨rfl, hb⟩; refine ⟨_, rfl, ?_⟩; have n0_ := Aside0.mk (Kd.R_below (by exact RX_ HO284.out) hb); have n1_ := Aside0.mk (below_step (B_) hb); clear HO284; clear HB; have HO284 := n0_; have HB := n1_; clear n0_ n1_; (try clear hb); (try clear hb2); (try clear hk); (try clear hi)) | (go_at_call 36; (with_reducible refine (dom_Meet.calls k _ _ l0 a1 a2 t286 _ ?side1 ?side2 A6.out).mono ?_); (case side1 => exact CX_ (Kd.C_below HR0.out HB.out)); (case side2 => exact HC0.out); rintro e w11 ⟨rfl, hb⟩; have n0_ := Aside0.mk (Kd.R_below (by exact RX_ HO284.out) hb); have n1_ := Aside0.mk (below_step (B_) hb); clear HO284; clear HB; have HO284 := n0_; have HB := n1_; clear n0_ n1_; (try clear hb); (try clear hb2); (try clear hk); (try clear hi)))
  go_ret
  exact ⟨by first | rfl | (simp [errW_none, errW_some] <;> rfl) | (simp [*, errW_none, errW_some] <;> rfl), B_⟩
 replace c5 := Bool.eq_false_iff.mpr c5
 subst c5
 have H1 : (some false) = some r := by rw [if_neg (show ¬ (false = true) by decide)] at H; exact H
 clear H
 have H := H1
 clear H1
 obtain rfl := Option.some.inj H
 go_enter Try.func28, Try.ntmps28
 go_wp2_with (first | ((with_reducible refine gate_dst (N := 10) rfl ?_); refine Kd.R_lit (Kd.int .i64) _ 3 ?hg (N := 10) ?hd (xs := ([a1, a2] : List Int)) (inner := [.int .i64 a1, .int .i64 a2]) (ok := fun _ => True) (okp := fun _ => True) ?hr ?hp (fun _ hk => hk) trivial (Below.refl _ _) (Nat.le_refl _) (by simp) ?_; (case hd => rfl); (case hg => rfl); (case hr => first | (go_simp; done) | (go_simp; rfl)); (case hp => exact (Reps.one (show Kd.M (Kd.int .i64) _ _ _ a1 [.int .i64 a1] from rfl) (Reps.one (show Kd.M (Kd.int .i64) _ _ _ a2 [.int .i64 a2] from rfl) (Reps.none _ _)))); intro v283 w12 ho13 hb hg_ hnew_; clear hg_ hnew_; (first | rw [← Ny282.out] at ho13 | (simp only [Int.reduceToNat] at ho13; rw [← Ny282.out] at ho13)); have n0_ := Aside0.mk (Kd.R_lower ho13 (below_size (B_))); have n1_ := Aside0.mk (below_step (B_) hb); clear HB; have HO284 := n0_; have HB := n1_; clear n0_ n1_; clear hb ho13; obtain ⟨Ao14, co14, eo14⟩ := Kd.R_slice HO284.out; subst eo14) | ((with_reducible refine gate_callee (f := 35) rfl ?_); refine goesL_ (some 11) rfl rfl Try.func35 (by kernel_rfl) rfl #[.slice A0 l0.length c0, .slice Ao14 y282.length co14] rfl (by (try simp only [List.map_toArray, List.map_cons, List.map_nil]); first | done | rfl | (simp only [List.length_drop, List.length_take]; rfl)) ?_; (with_reducible refine (dom_in.calls k _ _ l0 _ _ y282 false _ ?side1 ?side2 ?side3 ?side4 A4.out).mono ?_); (case side1 => exact CX_ (Kd.C_below HR0.out HB.out)); (case side2 => exact HC0.out); (case side3 => repeat (first | exact (Kd.R_reads' HO284.out).2.2 | (with_reducible refine Kd.C_alloc ?_ _) | (with_reducible refine Kd.C_drewN ?_ _) | (with_reducible refine Kd.C_drew ?_))); (case side4 => exact (Kd.R_reads' HO284.out).2.1); rintro e w15 ⟨rfl, hb⟩; refine ⟨_, rfl, ?_⟩; have n0_ := Aside0.mk (Kd.R_below (by exact RX_ HO284.out) hb); have n1_ := Aside0.mk (below_step (B_) hb); clear HO284; clear HB; have HO284 := n0_; have HB := n1_; clear n0_ n1_; (try clear hb); (try clear hb2); (try clear hk); (try clear hi)))
 go_ret
 exact ⟨by first | rfl | (simp [errW_none, errW_some] <;> rfl) | (simp [*, errW_none, errW_some] <;> rfl), B_⟩

/-! ### pdom_Over: function 13 -/
def pdom_Over.f (k : Nat) (l0 : List Int) (a1 : Int) (a2 : Int) : Option (Bool) := (dom_Over.f k l0 a1 a2).bind fun t287 => (some t287)
theorem pdom_Over.mono : ∀ a0 a1 a2 k, LeO (pdom_Over.f k a0 a1 a2) (pdom_Over.f (k + 1) a0 a1 a2) := by
 intro a0 a1 a2 k
 unfold pdom_Over.f
 repeat' first
  | (with_reducible exact dom_Over.mono _ _ _ _)
  | (with_reducible exact LeO.refl _)
  | (with_reducible exact LeO.none _)
  | (with_reducible refine LeO.ite ?_ ?_)
  | (with_reducible refine LeO.bind ?_ (fun _ => ?_))
  | exact dom_Over.mono _ _ _ _
  | exact LeO.none _
  | refine LeO.ite ?_ ?_
  | refine LeO.bind ?_ (fun _ => ?_)
set_option maxHeartbeats 8000000 in
set_option maxRecDepth 100000 in
theorem pdom_Over.calls (k : Nat) (A0 : Option Addr) (c0 : Nat) (l0 : List Int) (a1 : Int) (a2 : Int) (r : Bool) (w : World) (hr0 : Kd.C (Kd.int .i64) w A0 l0.length l0) (hc0 : l0.length ≤ c0) (h : pdom_Over.f k l0 a1 a2 = some r) :
 Calls Try.prog 13 #[.slice A0 l0.length c0, .int .i64 a1, .int .i64 a2] w fun e w' => e = .returned (.bool r) ∧ Below w.heap.size w w' := by
 have HR0 := Aside0.mk hr0
 have HC0 := Aside0.mk hc0
 clear hr0 hc0
 have HB := Aside0.mk (Below.refl w.heap.size w)
 have H : ((dom_Over.f k l0 a1 a2).bind fun t287 => (some t287)) = some r := h
 clear h
 replace H := Option.bind_eq_some_iff.mp H
 obtain ⟨t287, A40, H⟩ := H
 replace H : (some t287) = some r := H
 have A4 := Aside0.mk A40
 clear A40
 obtain rfl := Option.some.inj H
 go_enter Try.func13, Try.ntmps13
 go_wp2_with (first | ((with_reducible refine gate_callee (f := 28) rfl ?_); refine goesL_ (some 10) rfl rfl Try.func28 (by kernel_rfl) rfl #[.slice A0 l0.length c0, .int .i64 a1, .int .i64 a2] rfl (by (try simp only [List.map_toArray, List.map_cons, List.map_nil]); first | done | rfl | (simp only [List.length_drop, List.length_take]; rfl)) ?_; (with_reducible refine (dom_Over.calls k _ _ l0 a1 a2 t287 _ ?side1 ?side2 A4.out).mono ?_); (case side1 => exact CX_ HR0.out); (case side2 => exact HC0.out); rintro e w5 ⟨rfl, hb⟩; refine ⟨_, rfl, ?_⟩; have n0_ := Aside0.mk (below_step (B_) hb); clear HB; have HB := n0_; clear n0_; (try clear hb); (try clear hb2); (try clear hk); (try clear hi)))
 go_ret
 exact ⟨by first | rfl | (simp [errW_none, errW_some] <;> rfl) | (simp [*, errW_none, errW_some] <;> rfl), B_⟩


/-! ### lockstepref02_Ints: function 16 -/
def lockstepref02_Ints.l0 : Nat → List Int → List Int → Int → Option (Bool)
 | 0, _, _, _ => none
 | k + 1, x0, x1, x5 => if x5 < (x0.length : Int) then (if 0 ≤ x5 then (if x5 < (x1.length : Int) then (if (rd x0 x5) = (rd x1 x5) then (lockstepref02_Ints.l0 k x0 x1 (wrap64 (x5 + 1))) else (some false)) else (none)) else (none)) else (some true)
def lockstepref02_Ints.f (k : Nat) (l0 : List Int) (l1 : List Int) : Option (Bool) := if (l0.length : Int) = (l1.length : Int) then (lockstepref02_Ints.l0 k l0 l1 0) else (some false)
theorem lockstepref02_Ints.mono_l : ∀ k, (∀ y0 y1 y2, LeO (lockstepref02_Ints.l0 k y0 y1 y2) (lockstepref02_Ints.l0 (k + 1) y0 y1 y2))
 | 0 => fun _ _ _ r h => by simp [lockstepref02_Ints.l0] at h
 | k + 1 => by
  have ih0 := lockstepref02_Ints.mono_l k
  ·intro y0 y1 y2
   unfold lockstepref02_Ints.l0
   repeat' first
   | (with_reducible exact ih0 _ _ _)
   | (with_reducible exact LeO.refl _)
   | (with_reducible exact LeO.none _)
   | (with_reducible refine LeO.ite ?_ ?_)
   | (with_reducible refine LeO.bind ?_ (fun _ => ?_))
   | exact ih0 _ _ _
   | exact LeO.none _
   | refine LeO.ite ?_ ?_
   | refine LeO.bind ?_ (fun _ => ?_)
theorem lockstepref02_Ints.mono : ∀ a0 a1 k, LeO (lockstepref02_Ints.f k a0 a1) (lockstepref02_Ints.f (k + 1) a0 a1) := by
 intro a0 a1 k
 have ih0 := lockstepref02_Ints.mono_l k
 unfold lockstepref02_Ints.f
 repeat' first
  | (with_reducible exact ih0 _ _ _)
  | (with_reducible exact LeO.refl _)
  | (with_reducible exact LeO.none _)
  | (with_reducible refine LeO.ite ?_ ?_)
  | (with_reducible refine LeO.bind ?_ (fun _ => ?_))
  | exact ih0 _ _ _
  | exact LeO.none _
  | refine LeO.ite ?_ ?_
  | refine LeO.bind ?_ (fun _ => ?_)
set_option maxHeartbeats 8000000 in
set_option maxRecDepth 100000 in
theorem lockstepref02_Ints.calls (k : Nat) (A0 : Option Addr) (c0 : Nat) (l0 : List Int) (A1 : Option Addr) (c1 : Nat) (l1 : List Int) (r : Bool) (w : World) (hr0 : Kd.C (Kd.int .i64) w A0 l0.length l0) (hc0 : l0.length ≤ c0) (hr1 : Kd.C (Kd.int .i64) w A1 l1.length l1) (hc1 : l1.length ≤ c1) (h : lockstepref02_Ints.f k l0 l1 = some r) :
 Calls Try.prog 16 #[.slice A0 l0.length c0, .slice A1 l1.length c1] w fun e w' => e = .returned (.bool r) ∧ Drawn0 w w' := by
 have HR0 := Aside0.mk hr0
 have HC0 := Aside0.mk hc0
 clear hr0 hc0
 have HR1 := Aside0.mk hr1
 have HC1 := Aside0.mk hc1
 clear hr1 hc1
 have H : (if (l0.length : Int) = (l1.length : Int) then (lockstepref02_Ints.l0 k l0 l1 0) else (some false)) = some r := h
 clear h
 by_cases c3 : (l0.length : Int) = (l1.length : Int)
 ·rw [if_pos c3] at H
  have c3b0 : ((l0.length : Int) == (l1.length : Int)) = true := beq_iff_eq.mpr c3
  have c3b1 : ((l0.length : Int) != (l1.length : Int)) = false := bne_eq_false_iff_eq.mpr c3
  have c3b2 : (l0.length == l1.length) = true := by first | simpa using c3 | (simp at c3 ⊢; omega)
  clear c3
  have H' := Aside0.mk H
  clear H
  go_enter Try.func16, Try.ntmps16
  go_wp2
  repeat (go_quiet (fail); try go_wp2)
  go_loopg [5] k (fun kq v5 w' => ∃ (x5_1 : Int), v5 = .int .i64 x5_1 ∧ Aside0 (lockstepref02_Ints.l0 kq l0 l1 x5_1 = some r) ∧ Aside0 (kq ≤ k) ∧ Drawn0 w w')
  case atStart => exact ⟨(0), (by first | rfl | (simp; done) | (simp [*]; done)), H', ⟨Nat.le_refl _⟩, by repeat (first | exact Drawn0.refl _ | apply Drawn0.step)⟩
  case round =>
   clear H'
   try clear c1
   try clear c3b0
   try clear c3b1
   try clear c3b2
   obtain ⟨x5_1, rfl, HA, HK1, ⟨m1, rfl⟩⟩ := hrel
   cases gk with
   | zero => exact absurd HA.out (by simp [lockstepref02_Ints.l0])
   | succ k1 =>
    have H := HA.out
    clear HA
    simp only [lockstepref02_Ints.l0] at H
    by_cases c4 : x5_1 < (l0.length : Int)
    ·rw [if_pos c4] at H
     have c4b0 : decide (x5_1 < (l0.length : Int)) = true := decide_eq_true c4
     clear c4
     by_cases c5 : 0 ≤ x5_1
     ·rw [if_pos c5] at H
      have c5b0 : decide (0 ≤ x5_1) = true := decide_eq_true c5
      clear c5
      by_cases c6 : x5_1 < (l1.length : Int)
      ·rw [if_pos c6] at H
       have c6b0 : decide (x5_1 < (l1.length : Int)) = true := decide_eq_true c6
       clear c6
       by_cases c7 : (rd l0 x5_1) = (rd l1 x5_1)
       ·rw [if_pos c7] at H
        have c7b0 : ((rd l0 x5_1) == (rd l1 x5_1)) = true := beq_iff_eq.mpr c7
        have c7b1 : ((rd l0 x5_1) != (rd l1 x5_1)) = false := bne_eq_false_iff_eq.mpr c7
        clear c7
        have H' := Aside0.mk H
        clear H
        have p288 : 0 ≤ (x5_1 : Int) := D_
        have q288 : x5_1 < (l0.length : Int) := D_
        obtain ⟨ad288, e288, hx288_0⟩ := Kd.at_int HR0.out x5_1 p288 q288
        cases e288
        replace p288 := eq_true p288
        replace q288 := eq_true q288
        have p289 : 0 ≤ (x5_1 : Int) := D_
        have q289 : x5_1 < (l1.length : Int) := D_
        obtain ⟨ad289, e289, hx289_0⟩ := Kd.at_int HR1.out x5_1 p289 q289
        cases e289
        replace p289 := eq_true p289
        replace q289 := eq_true q289
        go_wp2
        repeat (go_quiet (fail); try go_wp2)
        go_roundg k1
        case measure => have := HK1.out; omega
        case rel => exact ⟨(wrap64 (x5_1 + 1)), (by first | rfl | (simp; done) | (simp [*]; done)), H', ⟨by have := HK1.out; omega⟩, by repeat (first | exact Drawn0.refl _ | apply Drawn0.step)⟩
       rw [if_neg c7] at H
       have c7b0 : ((rd l0 x5_1) == (rd l1 x5_1)) = false := beq_eq_false_iff_ne.mpr c7
       have c7b1 : ((rd l0 x5_1) != (rd l1 x5_1)) = true := bne_iff_ne.mpr c7
       obtain rfl := Option.some.inj H
       have p288 : 0 ≤ (x5_1 : Int) := D_
       have q288 : x5_1 < (l0.length : Int) := D_
       obtain ⟨ad288, e288, hx288_0⟩ := Kd.at_int HR0.out x5_1 p288 q288
       cases e288
       replace p288 := eq_true p288
       replace q288 := eq_true q288
       have p289 : 0 ≤ (x5_1 : Int) := D_
       have q289 : x5_1 < (l1.length : Int) := D_
       obtain ⟨ad289, e289, hx289_0⟩ := Kd.at_int HR1.out x5_1 p289 q289
       cases e289
       replace p289 := eq_true p289
       replace q289 := eq_true q289
       go_wp2
       repeat (go_quiet (fail); try go_wp2)
       go_ret
       exact ⟨by first | rfl | (simp; done) | (simp [*]; done), by repeat (first | exact Drawn0.refl _ | apply Drawn0.step)⟩
      rw [if_neg c6] at H
      exact absurd H (by simp)
     rw [if_neg c5] at H
     exact absurd H (by simp)
    rw [if_neg c4] at H
    have c4b0 : decide (x5_1 < (l0.length : Int)) = false := decide_eq_false c4
    clear c4
    obtain rfl := Option.some.inj H
    go_wp2
    repeat (go_quiet (fail); try go_wp2)
    go_ret
    exact ⟨by first | rfl | (simp; done) | (simp [*]; done), by repeat (first | exact Drawn0.refl _ | apply Drawn0.step)⟩
 rw [if_neg c3] at H
 have c3b0 : ((l0.length : Int) == (l1.length : Int)) = false := beq_eq_false_iff_ne.mpr c3
 have c3b1 : ((l0.length : Int) != (l1.length : Int)) = true := bne_iff_ne.mpr c3
 have c3b2 : (l0.length == l1.length) = false := by first | simpa using c3 | (simp at c3 ⊢; omega)
 obtain rfl := Option.some.inj H
 go_enter Try.func16, Try.ntmps16
 go_wp2
 repeat (go_quiet (fail); try go_wp2)
 go_ret
 exact ⟨by first | rfl | (simp; done) | (simp [*]; done), by repeat (first | exact Drawn0.refl _ | apply Drawn0.step)⟩


/-! ### locksteplaw08_awake: function 7 -/
def locksteplaw08_awake.f (k : Nat)  : Option (Bool) := (graph_Make.f k (([(([1, 2] : List Int)), (([3] : List Int)), (([3] : List Int)), []] : List (List Int)))).bind fun bt302 => ((pdom_Exit.f k bt302.1 bt302.2.1).bind fun bt310 => ((pdom_Tree.f k bt302.1 bt302.2.1).bind fun t318 => (if bt302.2.2 = 0 then (if bt310.2.2 = 0 then (if (bt310.1.length : Int) = 5 then (if 3 < (bt310.1.length : Int) then (if ((rd_L1 bt310.1 3).length : Int) = 1 then (if 0 < ((rd_L1 bt310.1 3).length : Int) then (if (rd (rd_L1 bt310.1 3) 0) = 4 then ((lockstepref02_Ints.f k t318 (([3, 3, 3, 4, (-1)] : List Int))).bind fun t327 => (if t327 = true then ((pdom_Over.f k t318 3 0).bind fun t328 => (if t328 = true then ((pdom_Shut.f k bt302.1 bt302.2.1).bind fun t329 => (some ((t329.length : Int) == 0))) else (some false))) else (some false))) else (some false)) else (none)) else (some false)) else (none)) else (some false)) else (some false)) else (some false))))
theorem locksteplaw08_awake.mono : ∀ k, LeO (locksteplaw08_awake.f k ) (locksteplaw08_awake.f (k + 1) ) := by
 intro  k
 unfold locksteplaw08_awake.f
 repeat' first
  | (with_reducible exact graph_Make.mono _ _)
  | (with_reducible exact lockstepref02_Ints.mono _ _ _)
  | (with_reducible exact pdom_Exit.mono _ _ _)
  | (with_reducible exact pdom_Over.mono _ _ _ _)
  | (with_reducible exact pdom_Shut.mono _ _ _)
  | (with_reducible exact pdom_Tree.mono _ _ _)
  | (with_reducible exact LeO.refl _)
  | (with_reducible exact LeO.none _)
  | (with_reducible refine LeO.ite ?_ ?_)
  | (with_reducible refine LeO.bind ?_ (fun _ => ?_))
  | exact graph_Make.mono _ _
  | exact lockstepref02_Ints.mono _ _ _
  | exact pdom_Exit.mono _ _ _
  | exact pdom_Over.mono _ _ _ _
  | exact pdom_Shut.mono _ _ _
  | exact pdom_Tree.mono _ _ _
  | exact LeO.none _
  | refine LeO.ite ?_ ?_
  | refine LeO.bind ?_ (fun _ => ?_)
set_option maxHeartbeats 8000000 in
set_option maxRecDepth 100000 in
theorem locksteplaw08_awake.calls (k : Nat)  (w : World) (h : locksteplaw08_awake.f k  = some true) :
 Calls Try.prog 7 #[] w fun e w' => e = .returned (.bool true) ∧ Below w.heap.size w w' := by
 have hu26 := Try.underlying26
 have HB := Aside0.mk (Below.refl w.heap.size w)
 have H : ((graph_Make.f k (([(([1, 2] : List Int)), (([3] : List Int)), (([3] : List Int)), []] : List (List Int)))).bind fun bt302 => ((pdom_Exit.f k bt302.1 bt302.2.1).bind fun bt310 => ((pdom_Tree.f k bt302.1 bt302.2.1).bind fun t318 => (if bt302.2.2 = 0 then (if bt310.2.2 = 0 then (if (bt310.1.length : Int) = 5 then (if 3 < (bt310.1.length : Int) then (if ((rd_L1 bt310.1 3).length : Int) = 1 then (if 0 < ((rd_L1 bt310.1 3).length : Int) then (if (rd (rd_L1 bt310.1 3) 0) = 4 then ((lockstepref02_Ints.f k t318 (([3, 3, 3, 4, (-1)] : List Int))).bind fun t327 => (if t327 = true then ((pdom_Over.f k t318 3 0).bind fun t328 => (if t328 = true then ((pdom_Shut.f k bt302.1 bt302.2.1).bind fun t329 => (some ((t329.length : Int) == 0))) else (some false))) else (some false))) else (some false)) else (none)) else (some false)) else (none)) else (some false)) else (some false)) else (some false))))) = some true := h
 clear h
 obtain ⟨y290, hy290⟩ : ∃ y_ : List Int, y_ = (([1, 2] : List Int)) := ⟨_, rfl⟩
 replace H : ((graph_Make.f k (([y290, (([3] : List Int)), (([3] : List Int)), []] : List (List Int)))).bind fun bt302 => ((pdom_Exit.f k bt302.1 bt302.2.1).bind fun bt310 => ((pdom_Tree.f k bt302.1 bt302.2.1).bind fun t318 => (if bt302.2.2 = 0 then (if bt310.2.2 = 0 then (if (bt310.1.length : Int) = 5 then (if 3 < (bt310.1.length : Int) then (if ((rd_L1 bt310.1 3).length : Int) = 1 then (if 0 < ((rd_L1 bt310.1 3).length : Int) then (if (rd (rd_L1 bt310.1 3) 0) = 4 then ((lockstepref02_Ints.f k t318 (([3, 3, 3, 4, (-1)] : List Int))).bind fun t327 => (if t327 = true then ((pdom_Over.f k t318 3 0).bind fun t328 => (if t328 = true then ((pdom_Shut.f k bt302.1 bt302.2.1).bind fun t329 => (some ((t329.length : Int) == 0))) else (some false))) else (some false))) else (some false)) else (none)) else (some false)) else (none)) else (some false)) else (some false)) else (some false))))) = some true := by first | (rw [hy290]; with_reducible exact H) | (have H2_ := (Option.bind_some _ _).symm.trans H; rw [hy290]; with_reducible exact H2_) | (have H2_ := (Option.bind_some _ _).symm.trans H; with_reducible exact H2_) | with_reducible exact H | (rw [hy290]; exact H) | exact H
 have Ny290 := Aside0.mk hy290
 clear hy290
 obtain ⟨y293, hy293⟩ : ∃ y_ : List Int, y_ = (([3] : List Int)) := ⟨_, rfl⟩
 replace H : ((graph_Make.f k (([y290, y293, (([3] : List Int)), []] : List (List Int)))).bind fun bt302 => ((pdom_Exit.f k bt302.1 bt302.2.1).bind fun bt310 => ((pdom_Tree.f k bt302.1 bt302.2.1).bind fun t318 => (if bt302.2.2 = 0 then (if bt310.2.2 = 0 then (if (bt310.1.length : Int) = 5 then (if 3 < (bt310.1.length : Int) then (if ((rd_L1 bt310.1 3).length : Int) = 1 then (if 0 < ((rd_L1 bt310.1 3).length : Int) then (if (rd (rd_L1 bt310.1 3) 0) = 4 then ((lockstepref02_Ints.f k t318 (([3, 3, 3, 4, (-1)] : List Int))).bind fun t327 => (if t327 = true then ((pdom_Over.f k t318 3 0).bind fun t328 => (if t328 = true then ((pdom_Shut.f k bt302.1 bt302.2.1).bind fun t329 => (some ((t329.length : Int) == 0))) else (some false))) else (some false))) else (some false)) else (none)) else (some false)) else (none)) else (some false)) else (some false)) else (some false))))) = some true := by first | (rw [hy293]; with_reducible exact H) | (have H2_ := (Option.bind_some _ _).symm.trans H; rw [hy293]; with_reducible exact H2_) | (have H2_ := (Option.bind_some _ _).symm.trans H; with_reducible exact H2_) | with_reducible exact H | (rw [hy293]; exact H) | exact H
 have Ny293 := Aside0.mk hy293
 clear hy293
 obtain ⟨y296, hy296⟩ : ∃ y_ : List Int, y_ = (([3] : List Int)) := ⟨_, rfl⟩
 replace H : ((graph_Make.f k (([y290, y293, y296, []] : List (List Int)))).bind fun bt302 => ((pdom_Exit.f k bt302.1 bt302.2.1).bind fun bt310 => ((pdom_Tree.f k bt302.1 bt302.2.1).bind fun t318 => (if bt302.2.2 = 0 then (if bt310.2.2 = 0 then (if (bt310.1.length : Int) = 5 then (if 3 < (bt310.1.length : Int) then (if ((rd_L1 bt310.1 3).length : Int) = 1 then (if 0 < ((rd_L1 bt310.1 3).length : Int) then (if (rd (rd_L1 bt310.1 3) 0) = 4 then ((lockstepref02_Ints.f k t318 (([3, 3, 3, 4, (-1)] : List Int))).bind fun t327 => (if t327 = true then ((pdom_Over.f k t318 3 0).bind fun t328 => (if t328 = true then ((pdom_Shut.f k bt302.1 bt302.2.1).bind fun t329 => (some ((t329.length : Int) == 0))) else (some false))) else (some false))) else (some false)) else (none)) else (some false)) else (none)) else (some false)) else (some false)) else (some false))))) = some true := by first | (rw [hy296]; with_reducible exact H) | (have H2_ := (Option.bind_some _ _).symm.trans H; rw [hy296]; with_reducible exact H2_) | (have H2_ := (Option.bind_some _ _).symm.trans H; with_reducible exact H2_) | with_reducible exact H | (rw [hy296]; exact H) | exact H
 have Ny296 := Aside0.mk hy296
 clear hy296
 obtain ⟨y299, hy299⟩ : ∃ y_ : List (List Int), y_ = (([y290, y293, y296, []] : List (List Int))) := ⟨_, rfl⟩
 replace H : ((graph_Make.f k y299).bind fun bt302 => ((pdom_Exit.f k bt302.1 bt302.2.1).bind fun bt310 => ((pdom_Tree.f k bt302.1 bt302.2.1).bind fun t318 => (if bt302.2.2 = 0 then (if bt310.2.2 = 0 then (if (bt310.1.length : Int) = 5 then (if 3 < (bt310.1.length : Int) then (if ((rd_L1 bt310.1 3).length : Int) = 1 then (if 0 < ((rd_L1 bt310.1 3).length : Int) then (if (rd (rd_L1 bt310.1 3) 0) = 4 then ((lockstepref02_Ints.f k t318 (([3, 3, 3, 4, (-1)] : List Int))).bind fun t327 => (if t327 = true then ((pdom_Over.f k t318 3 0).bind fun t328 => (if t328 = true then ((pdom_Shut.f k bt302.1 bt302.2.1).bind fun t329 => (some ((t329.length : Int) == 0))) else (some false))) else (some false))) else (some false)) else (none)) else (some false)) else (none)) else (some false)) else (some false)) else (some false))))) = some true := by first | (rw [hy299]; with_reducible exact H) | (have H2_ := (Option.bind_some _ _).symm.trans H; rw [hy299]; with_reducible exact H2_) | (have H2_ := (Option.bind_some _ _).symm.trans H; with_reducible exact H2_) | with_reducible exact H | (rw [hy299]; exact H) | exact H
 have Ny299 := Aside0.mk hy299
 clear hy299
 replace H := Option.bind_eq_some_iff.mp H
 obtain ⟨⟨t302, t305, t308⟩, A10, H⟩ := H
 replace H : ((pdom_Exit.f k t302 t305).bind fun bt310 => ((pdom_Tree.f k t302 t305).bind fun t318 => (if t308 = 0 then (if bt310.2.2 = 0 then (if (bt310.1.length : Int) = 5 then (if 3 < (bt310.1.length : Int) then (if ((rd_L1 bt310.1 3).length : Int) = 1 then (if 0 < ((rd_L1 bt310.1 3).length : Int) then (if (rd (rd_L1 bt310.1 3) 0) = 4 then ((lockstepref02_Ints.f k t318 (([3, 3, 3, 4, (-1)] : List Int))).bind fun t327 => (if t327 = true then ((pdom_Over.f k t318 3 0).bind fun t328 => (if t328 = true then ((pdom_Shut.f k t302 t305).bind fun t329 => (some ((t329.length : Int) == 0))) else (some false))) else (some false))) else (some false)) else (none)) else (some false)) else (none)) else (some false)) else (some false)) else (some false)))) = some true := H
 have A1 := Aside0.mk A10
 clear A10
 replace H := Option.bind_eq_some_iff.mp H
 obtain ⟨⟨t310, t313, t316⟩, A20, H⟩ := H
 replace H : ((pdom_Tree.f k t302 t305).bind fun t318 => (if t308 = 0 then (if t316 = 0 then (if (t310.length : Int) = 5 then (if 3 < (t310.length : Int) then (if ((rd_L1 t310 3).length : Int) = 1 then (if 0 < ((rd_L1 t310 3).length : Int) then (if (rd (rd_L1 t310 3) 0) = 4 then ((lockstepref02_Ints.f k t318 (([3, 3, 3, 4, (-1)] : List Int))).bind fun t327 => (if t327 = true then ((pdom_Over.f k t318 3 0).bind fun t328 => (if t328 = true then ((pdom_Shut.f k t302 t305).bind fun t329 => (some ((t329.length : Int) == 0))) else (some false))) else (some false))) else (some false)) else (none)) else (some false)) else (none)) else (some false)) else (some false)) else (some false))) = some true := H
 have A2 := Aside0.mk A20
 clear A20
 replace H := Option.bind_eq_some_iff.mp H
 obtain ⟨t318, A30, H⟩ := H
 replace H : (if t308 = 0 then (if t316 = 0 then (if (t310.length : Int) = 5 then (if 3 < (t310.length : Int) then (if ((rd_L1 t310 3).length : Int) = 1 then (if 0 < ((rd_L1 t310 3).length : Int) then (if (rd (rd_L1 t310 3) 0) = 4 then ((lockstepref02_Ints.f k t318 (([3, 3, 3, 4, (-1)] : List Int))).bind fun t327 => (if t327 = true then ((pdom_Over.f k t318 3 0).bind fun t328 => (if t328 = true then ((pdom_Shut.f k t302 t305).bind fun t329 => (some ((t329.length : Int) == 0))) else (some false))) else (some false))) else (some false)) else (none)) else (some false)) else (none)) else (some false)) else (some false)) else (some false)) = some true := H
 have A3 := Aside0.mk A30
 clear A30
 by_cases c4 : t308 = 0
 ·rw [if_pos c4] at H
  have c4b0 : (t308 == 0) = true := beq_iff_eq.mpr c4
  have c4b1 : (t308 != 0) = false := bne_eq_false_iff_eq.mpr c4
  clear c4
  by_cases c5 : t316 = 0
  ·rw [if_pos c5] at H
   have c5b0 : (t316 == 0) = true := beq_iff_eq.mpr c5
   have c5b1 : (t316 != 0) = false := bne_eq_false_iff_eq.mpr c5
   clear c5
   by_cases c6 : (t310.length : Int) = 5
   ·rw [if_pos c6] at H
    have c6b0 : ((t310.length : Int) == 5) = true := beq_iff_eq.mpr c6
    have c6b1 : ((t310.length : Int) != 5) = false := bne_eq_false_iff_eq.mpr c6
    clear c6
    by_cases c7 : 3 < (t310.length : Int)
    ·rw [if_pos c7] at H
     have c7b0 : decide (3 < (t310.length : Int)) = true := decide_eq_true c7
     have c7b1 : decide (3 < t310.length) = true := decide_eq_true (by omega)
     clear c7
     by_cases c8 : ((rd_L1 t310 3).length : Int) = 1
     ·rw [if_pos c8] at H
      have c8b0 : (((rd_L1 t310 3).length : Int) == 1) = true := beq_iff_eq.mpr c8
      have c8b1 : (((rd_L1 t310 3).length : Int) != 1) = false := bne_eq_false_iff_eq.mpr c8
      clear c8
      by_cases c9 : 0 < ((rd_L1 t310 3).length : Int)
      ·rw [if_pos c9] at H
       have c9b0 : decide (0 < ((rd_L1 t310 3).length : Int)) = true := decide_eq_true c9
       have c9b1 : decide (0 < (rd_L1 t310 3).length) = true := decide_eq_true (by omega)
       clear c9
       by_cases c10 : (rd (rd_L1 t310 3) 0) = 4
       ·rw [if_pos c10] at H
        have c10b0 : ((rd (rd_L1 t310 3) 0) == 4) = true := beq_iff_eq.mpr c10
        have c10b1 : ((rd (rd_L1 t310 3) 0) != 4) = false := bne_eq_false_iff_eq.mpr c10
        clear c10
        obtain ⟨y324, hy324⟩ : ∃ y_ : List Int, y_ = (([3, 3, 3, 4, (-1)] : List Int)) := ⟨_, rfl⟩
        replace H : ((lockstepref02_Ints.f k t318 y324).bind fun t327 => (if t327 = true then ((pdom_Over.f k t318 3 0).bind fun t328 => (if t328 = true then ((pdom_Shut.f k t302 t305).bind fun t329 => (some ((t329.length : Int) == 0))) else (some false))) else (some false))) = some true := by first | (rw [hy324]; with_reducible exact H) | (have H2_ := (Option.bind_some _ _).symm.trans H; rw [hy324]; with_reducible exact H2_) | (have H2_ := (Option.bind_some _ _).symm.trans H; with_reducible exact H2_) | with_reducible exact H | (rw [hy324]; exact H) | exact H
        have Ny324 := Aside0.mk hy324
        clear hy324
        replace H := Option.bind_eq_some_iff.mp H
        obtain ⟨t327, A110, H⟩ := H
        replace H : (if t327 = true then ((pdom_Over.f k t318 3 0).bind fun t328 => (if t328 = true then ((pdom_Shut.f k t302 t305).bind fun t329 => (some ((t329.length : Int) == 0))) else (some false))) else (some false)) = some true := H
        have A11 := Aside0.mk A110
        clear A110
        by_cases c12 : t327 = true
        ·subst c12
         have H1 : ((pdom_Over.f k t318 3 0).bind fun t328 => (if t328 = true then ((pdom_Shut.f k t302 t305).bind fun t329 => (some ((t329.length : Int) == 0))) else (some false))) = some true := by rw [if_pos rfl] at H; exact H
         clear H
         have H := H1
         clear H1
         replace H := Option.bind_eq_some_iff.mp H
         obtain ⟨t328, A130, H⟩ := H
         replace H : (if t328 = true then ((pdom_Shut.f k t302 t305).bind fun t329 => (some ((t329.length : Int) == 0))) else (some false)) = some true := H
         have A13 := Aside0.mk A130
         clear A130
         by_cases c14 : t328 = true
         ·subst c14
          have H1 : ((pdom_Shut.f k t302 t305).bind fun t329 => (some ((t329.length : Int) == 0))) = some true := by rw [if_pos rfl] at H; exact H
          clear H
          have H := H1
          clear H1
          replace H := Option.bind_eq_some_iff.mp H
          obtain ⟨t329, A150, H⟩ := H
          replace H : (some ((t329.length : Int) == 0)) = some true := H
          have A15 := Aside0.mk A150
          clear A150
          have HR_ := Aside0.mk (Option.some.inj H)
          clear H
          go_enter Try.func7, Try.ntmps7
          go_wp2_with (first | ((with_reducible refine gate_dst (N := 7) rfl ?_); (try (refine gate_guard (by rfl) ?_; dsimp only)); refine Kd.R_lit (Kd.int .i64) _ 3 ?hg (N := 7) ?hd (xs := ([1, 2] : List Int)) (inner := [.int .i64 1, .int .i64 2]) (ok := fun _ => True) (okp := fun _ => True) ?hr ?hp (fun _ hk => hk) trivial (Below.refl _ _) (Nat.le_refl _) (by simp) ?_; (case hd => rfl); (case hg => rfl); (case hr => first | (go_simp; done) | (go_simp; rfl)); (case hp => exact (Reps.one (show Kd.M (Kd.int .i64) _ _ _ 1 [.int .i64 1] from rfl) (Reps.one (show Kd.M (Kd.int .i64) _ _ _ 2 [.int .i64 2] from rfl) (Reps.none _ _)))); intro v291 w16 ho17 hb hg_ hnew_; clear hg_ hnew_; (first | rw [← Ny290.out] at ho17 | (simp only [Int.reduceToNat] at ho17; rw [← Ny290.out] at ho17)); have n0_ := Aside0.mk (Kd.R_lower ho17 (below_size (B_))); have n1_ := Aside0.mk (below_step (B_) hb); clear HB; have HO292 := n0_; have HB := n1_; clear n0_ n1_; clear hb ho17) | ((with_reducible refine gate_dst (N := 8) rfl ?_); (try (refine gate_guard (by rfl) ?_; dsimp only)); refine Kd.R_lit (Kd.int .i64) _ 3 ?hg (N := 8) ?hd (xs := ([3] : List Int)) (inner := [.int .i64 3]) (ok := fun _ => True) (okp := fun _ => True) ?hr ?hp (fun _ hk => hk) trivial (Below.refl _ _) (Nat.le_refl _) (by simp) ?_; (case hd => rfl); (case hg => rfl); (case hr => first | (go_simp; done) | (go_simp; rfl)); (case hp => exact (Reps.one (show Kd.M (Kd.int .i64) _ _ _ 3 [.int .i64 3] from rfl) (Reps.none _ _))); intro v294 w18 ho19 hb hg_ hnew_; clear hg_ hnew_; (first | rw [← Ny293.out] at ho19 | (simp only [Int.reduceToNat] at ho19; rw [← Ny293.out] at ho19)); have n0_ := Aside0.mk (Kd.R_elder' (by exact RX_ HO292.out) (Kd.R_base ho19) hb); have n1_ := Aside0.mk (Kd.R_lower (Kd.R_new' ho19 (Kd.R_lt (by exact RX_ HO292.out))) (below_size (B_))); have n2_ := Aside0.mk (below_step (B_) hb); clear HO292; clear HB; have HO292 := n0_; have HO295 := n1_; have HB := n2_; clear n0_ n1_ n2_; clear hb ho19) | ((with_reducible refine gate_dst (N := 9) rfl ?_); (try (refine gate_guard (by rfl) ?_; dsimp only)); refine Kd.R_lit (Kd.int .i64) _ 3 ?hg (N := 9) ?hd (xs := ([3] : List Int)) (inner := [.int .i64 3]) (ok := fun _ => True) (okp := fun _ => True) ?hr ?hp (fun _ hk => hk) trivial (Below.refl _ _) (Nat.le_refl _) (by simp) ?_; (case hd => rfl); (case hg => rfl); (case hr => first | (go_simp; done) | (go_simp; rfl)); (case hp => exact (Reps.one (show Kd.M (Kd.int .i64) _ _ _ 3 [.int .i64 3] from rfl) (Reps.none _ _))); intro v297 w20 ho21 hb hg_ hnew_; clear hg_ hnew_; (first | rw [← Ny296.out] at ho21 | (simp only [Int.reduceToNat] at ho21; rw [← Ny296.out] at ho21)); have n0_ := Aside0.mk (Kd.R_elder' (by exact RX_ HO292.out) (Kd.R_base ho21) hb); have n1_ := Aside0.mk (Kd.R_elder' (by exact RX_ HO295.out) (Kd.R_base ho21) hb); have n2_ := Aside0.mk (Kd.R_lower (Kd.R_new' (Kd.R_new' ho21 (Kd.R_lt (by exact RX_ HO292.out))) (Kd.R_lt (by exact RX_ HO295.out))) (below_size (B_))); have n3_ := Aside0.mk (below_step (B_) hb); clear HO292; clear HO295; clear HB; have HO292 := n0_; have HO295 := n1_; have HO298 := n2_; have HB := n3_; clear n0_ n1_ n2_ n3_; clear hb ho21; obtain ⟨Ao22, co22, eo22⟩ := Kd.R_slice HO292.out; subst eo22; obtain ⟨Ao23, co23, eo23⟩ := Kd.R_slice HO295.out; subst eo23; obtain ⟨Ao24, co24, eo24⟩ := Kd.R_slice HO298.out; subst eo24) | ((with_reducible refine gate_dst (N := 10) rfl ?_); (try (refine gate_guard (by rfl) ?_; dsimp only)); refine Kd.N_lit (Kd.slice 3 (Kd.int .i64)) _ 30 ?hg (N' := 10) ?hd (xs := ([y290, y293, y296, []] : List (List Int))) (inner := [.slice Ao22 y290.length co22, .slice Ao23 y293.length co23, .slice Ao24 y296.length co24, .slice none 0 0]) (ok := (fun _ => True)) (okp := (fun _ => True)) ?hr ?hp (fun _ hk => hk) ((show ∀ k_, w20.heap.size ≤ k_ → (fun _ => True) k_ from fun k_ hk => trivial) _ (Nat.le_refl _)) (Below.refl _ _) (Nat.le_refl _) (by simp) ?_; (case hd => rfl); (case hg => rfl); (case hr => first | (go_simp; done) | (go_simp; rfl)); (case hp => exact (Reps.one (show Kd.FK (Kd.slice 3 (Kd.int .i64)) _ _ y290 [.slice Ao22 y290.length co22] from (Kd.FK_slice_mk (Kd.R_reads' (Kd.R_mono (ok' := (fun _ => True)) (HO292.out) (fun k_ hk => trivial))).2.1 (Kd.R_F (Kd.R_mono (ok' := (fun _ => True)) (HO292.out) (fun k_ hk => trivial))))) (Reps.one (show Kd.FK (Kd.slice 3 (Kd.int .i64)) _ _ y293 [.slice Ao23 y293.length co23] from (Kd.FK_slice_mk (Kd.R_reads' (Kd.R_mono (ok' := (fun _ => True)) (HO295.out) (fun k_ hk => trivial))).2.1 (Kd.R_F (Kd.R_mono (ok' := (fun _ => True)) (HO295.out) (fun k_ hk => trivial))))) (Reps.one (show Kd.FK (Kd.slice 3 (Kd.int .i64)) _ _ y296 [.slice Ao24 y296.length co24] from (Kd.FK_slice_mk (Kd.R_reads' (Kd.R_mono (ok' := (fun _ => True)) (HO298.out) (fun k_ hk => trivial))).2.1 (Kd.R_F (Kd.R_mono (ok' := (fun _ => True)) (HO298.out) (fun k_ hk => trivial))))) (Reps.one (show Kd.FK (Kd.slice 3 (Kd.int .i64)) _ _ [] [.slice none 0 0] from (Kd.FK_slice_mk (Nat.le_refl _) (Kd.F_nil _ _ _))) (Reps.none _ _)))))); intro v300 w25 ho26 hb hg_ hnew_; clear hg_ hnew_; (first | rw [← Ny299.out] at ho26 | (simp only [Int.reduceToNat] at ho26; rw [← Ny299.out] at ho26)); have n0_ := Aside0.mk (Kd.N_lower ho26 (below_size (B_))); have n1_ := Aside0.mk (below_step (B_) hb); clear HB; clear HO292; clear HO295; clear HO298; have HO301 := n0_; have HB := n1_; clear n0_ n1_; clear hb ho26; obtain ⟨Ao27, co27, eo27⟩ := Kd.N_slice HO301.out; subst eo27) | ((with_reducible refine gate_callee (f := 9) rfl ?_); refine goesL_ (some 11) rfl rfl Try.func9 (by kernel_rfl) rfl #[.slice Ao27 y299.length co27] rfl (by (try simp only [List.map_toArray, List.map_cons, List.map_nil]); first | done | rfl | (simp only [List.length_drop, List.length_take]; rfl)) ?_; (with_reducible refine (graph_Make.calls k _ _ y299 t302 t305 t308 _ ?side1 ?side2 A1.out).mono ?_); (case side1 => repeat (first | exact (Kd.N_reads' HO301.out).2.2 | (with_reducible refine Kd.C_alloc ?_ _) | (with_reducible refine Kd.C_drewN ?_ _) | (with_reducible refine Kd.C_drew ?_))); (case side2 => exact (Kd.N_reads' HO301.out).2.1); rintro e w28 ⟨v303, v306, rfl, ho0, ho1, hb⟩; refine ⟨_, rfl, ?_⟩; have n0_ := Aside0.mk (Kd.N_mono (Kd.N_told (Kd.N_told (Kd.N_old (by (with_reducible repeat (first | apply Kd.N_alloc | apply Kd.N_drewN | apply Kd.N_drew)); exact HO301.out) hb) (Kd.N_base (Kd.S_N ho0))) (Kd.N_base (Kd.S_N ho1))) (fun _ h_ => h_.1)); have n1_ := Aside0.mk (Kd.N_lower (Kd.N_mono (ok' := fun k_ => some k_ ≠ (v306 : Value).ownBlock ∧ some k_ ≠ (.slice Ao27 y299.length co27 : Value).ownBlock) (Kd.S_N (Kd.S_bound ho0)) (fun k_ hk_ => ⟨hk_.1, (Kd.fresh' (Kd.N_lt (by (with_reducible repeat (first | apply Kd.N_alloc | apply Kd.N_drewN | apply Kd.N_drew)); exact HO301.out)) k_ hk_.2.1)⟩)) (below_size (B_))); have n2_ := Aside0.mk (Kd.N_lower (Kd.N_mono (ok' := fun k_ => some k_ ≠ (v303 : Value).ownBlock ∧ some k_ ≠ (.slice Ao27 y299.length co27 : Value).ownBlock) (Kd.S_N (Kd.S_bound ho1)) (fun k_ hk_ => ⟨hk_.1, (Kd.fresh' (Kd.N_lt (by (with_reducible repeat (first | apply Kd.N_alloc | apply Kd.N_drewN | apply Kd.N_drew)); exact HO301.out)) k_ hk_.2.1)⟩)) (below_size (B_))); have n3_ := Aside0.mk (below_step (B_) hb); clear HO301; clear HB; have HO301 := n0_; have HO304 := n1_; have HO307 := n2_; have HB := n3_; clear n0_ n1_ n2_ n3_; (try clear hb); (try clear hb2); (try clear hk); (try clear hi); (try clear ho0); (try clear ho1)) | ((with_reducible refine gate_dst (N := 1) rfl ?_); (try (refine gate_guard (by rfl) ?_; dsimp only)); refine box_event ?hg (N := 1) ?hd (cs := #[.slice none 0 0, .slice none 0 0]) (t := 26) ?hr ?_; (case hd => rfl); (case hg => rfl); (case hr => first | (go_simp; done) | (go_simp; rfl)); intro gb309 hg w29 hbox hb; have n0_ := Aside0.mk (Kd.N_below (Kd.N_elderB (by (with_reducible repeat (first | apply Kd.N_alloc | apply Kd.N_drewN | apply Kd.N_drew)); exact HO301.out) gb309 (Nat.le_of_eq hg.symm)) hb); have n1_ := Aside0.mk (Kd.N_below (Kd.N_elderB (by (with_reducible repeat (first | apply Kd.N_alloc | apply Kd.N_drewN | apply Kd.N_drew)); exact HO304.out) gb309 (Nat.le_of_eq hg.symm)) hb); have n2_ := Aside0.mk (Kd.N_below (Kd.N_elderB (by (with_reducible repeat (first | apply Kd.N_alloc | apply Kd.N_drewN | apply Kd.N_drew)); exact HO307.out) gb309 (Nat.le_of_eq hg.symm)) hb); have n3_ := Aside0.mk (below_step (B_) hb); have n4_ := Aside0.mk (hbox); have n5_ := Aside0.mk ((by rw [hg]; exact (below_size (B_)) : w.heap.size ≤ gb309)); have n6_ := Aside0.mk ((by rw [hg]; exact (below_size (B_)) : w.heap.size ≤ gb309)); clear HO301; clear HO304; clear HO307; clear HB; have HO301 := n0_; have HO304 := n1_; have HO307 := n2_; have HB := n3_; have BK309 := n4_; have GW309 := n5_; have GE309 := n6_; clear n0_ n1_ n2_ n3_ n4_ n5_ n6_; clear hb hbox hg; obtain ⟨Ao30, co30, eo30⟩ := Kd.N_slice HO304.out; subst eo30; have hcz31_0 : w29.cell? ⟨gb309, 0, none⟩ = some (.slice none 0 0) := (blk_cell BK309.out 0).trans rfl; have hcz31_1 : w29.cell? ⟨gb309, 1, none⟩ = some (.slice none 0 0) := (blk_cell BK309.out 1).trans rfl; have hfz31_0 := blk_frozen BK309.out 0; have hfz31_1 := blk_frozen BK309.out 1; obtain ⟨Ao32, co32, eo32⟩ := Kd.N_slice HO307.out; subst eo32) | ((with_reducible refine gate_callee (f := 11) rfl ?_); refine goesL_ (some 16) rfl rfl Try.func11 (by kernel_rfl) rfl #[.agg #[.slice Ao30 t302.length co30, .slice Ao32 t305.length co32]] rfl (by (try simp only [List.map_toArray, List.map_cons, List.map_nil]); first | done | rfl | (simp only [List.length_drop, List.length_take]; rfl)) ?_; (with_reducible refine (pdom_Exit.calls k _ _ t302 _ _ t305 t310 t313 t316 _ ?side1 ?side2 ?side3 ?side4 A2.out).mono ?_); (case side1 => refine (Kd.N_reads' (e := 30) (base := w.heap.size) (ok := fun k_ => ((some k_ ≠ (.slice Ao32 t305.length co32 : Value).ownBlock ∧ some k_ ≠ (.slice Ao27 y299.length co27 : Value).ownBlock) ∧ k_ ≠ gb309)) (n := t302.length) (c := co30) ?_).2.2; exact (by (with_reducible repeat (first | apply Kd.N_alloc | apply Kd.N_drewN | apply Kd.N_drew)); exact (Kd.N_mono (Kd.N_far (p := ⟨gb309, 1, none⟩) (Kd.N_far (p := ⟨gb309, 0, none⟩) (Kd.N_mono HO304.out (fun k_ hk => (⟨hk, hk.2⟩ : _ ∧ k_ ≠ gb309))) (fun _ hk => hk.2) (.slice Ao30 t302.length co30)) (fun _ hk => hk.2) (.slice Ao32 t305.length co32)) (fun _ h_ => h_.1)))); (case side2 => exact (Kd.N_reads' HO304.out).2.1); (case side3 => refine (Kd.N_reads' (e := 30) (base := w.heap.size) (ok := fun k_ => ((some k_ ≠ (.slice Ao30 t302.length co30 : Value).ownBlock ∧ some k_ ≠ (.slice Ao27 y299.length co27 : Value).ownBlock) ∧ k_ ≠ gb309)) (n := t305.length) (c := co32) ?_).2.2; exact (by (with_reducible repeat (first | apply Kd.N_alloc | apply Kd.N_drewN | apply Kd.N_drew)); exact (Kd.N_mono (Kd.N_far (p := ⟨gb309, 1, none⟩) (Kd.N_far (p := ⟨gb309, 0, none⟩) (Kd.N_mono HO307.out (fun k_ hk => (⟨hk, hk.2⟩ : _ ∧ k_ ≠ gb309))) (fun _ hk => hk.2) (.slice Ao30 t302.length co30)) (fun _ hk => hk.2) (.slice Ao32 t305.length co32)) (fun _ h_ => h_.1)))); (case side4 => exact (Kd.N_reads' HO307.out).2.1); rintro e w33 ⟨v311, v314, rfl, ho0, ho1, hb⟩; refine ⟨_, rfl, ?_⟩; have n0_ := Aside0.mk (Kd.N_mono (Kd.N_told (Kd.N_told (Kd.N_old (by (with_reducible repeat (first | apply Kd.N_alloc | apply Kd.N_drewN | apply Kd.N_drew)); exact (Kd.N_mono (Kd.N_far (p := ⟨gb309, 1, none⟩) (Kd.N_far (p := ⟨gb309, 0, none⟩) (Kd.N_mono HO301.out (fun k_ hk => (⟨hk, hk.2⟩ : _ ∧ k_ ≠ gb309))) (fun _ hk => hk.2) (.slice Ao30 t302.length co30)) (fun _ hk => hk.2) (.slice Ao32 t305.length co32)) (fun _ h_ => h_.1))) hb) (Kd.N_base (Kd.S_N ho0))) (Kd.N_base (Kd.S_N ho1))) (fun _ h_ => h_.1)); have n1_ := Aside0.mk (Kd.N_mono (Kd.N_told (Kd.N_told (Kd.N_old (by (with_reducible repeat (first | apply Kd.N_alloc | apply Kd.N_drewN | apply Kd.N_drew)); exact (Kd.N_mono (Kd.N_far (p := ⟨gb309, 1, none⟩) (Kd.N_far (p := ⟨gb309, 0, none⟩) (Kd.N_mono HO304.out (fun k_ hk => (⟨hk, hk.2⟩ : _ ∧ k_ ≠ gb309))) (fun _ hk => hk.2) (.slice Ao30 t302.length co30)) (fun _ hk => hk.2) (.slice Ao32 t305.length co32)) (fun _ h_ => h_.1))) hb) (Kd.N_base (Kd.S_N ho0))) (Kd.N_base (Kd.S_N ho1))) (fun _ h_ => h_.1)); have n2_ := Aside0.mk (Kd.N_mono (Kd.N_told (Kd.N_told (Kd.N_old (by (with_reducible repeat (first | apply Kd.N_alloc | apply Kd.N_drewN | apply Kd.N_drew)); exact (Kd.N_mono (Kd.N_far (p := ⟨gb309, 1, none⟩) (Kd.N_far (p := ⟨gb309, 0, none⟩) (Kd.N_mono HO307.out (fun k_ hk => (⟨hk, hk.2⟩ : _ ∧ k_ ≠ gb309))) (fun _ hk => hk.2) (.slice Ao30 t302.length co30)) (fun _ hk => hk.2) (.slice Ao32 t305.length co32)) (fun _ h_ => h_.1))) hb) (Kd.N_base (Kd.S_N ho0))) (Kd.N_base (Kd.S_N ho1))) (fun _ h_ => h_.1)); have n3_ := Aside0.mk (Kd.N_lower (Kd.N_mono (ok' := fun k_ => some k_ ≠ (v314 : Value).ownBlock ∧ some k_ ≠ (.slice Ao27 y299.length co27 : Value).ownBlock ∧ some k_ ≠ (.slice Ao30 t302.length co30 : Value).ownBlock ∧ some k_ ≠ (.slice Ao32 t305.length co32 : Value).ownBlock ∧ k_ ≠ gb309) (Kd.S_N (Kd.S_bound ho0)) (fun k_ hk_ => ⟨hk_.1, (Kd.fresh' (Kd.N_lt (by (with_reducible repeat (first | apply Kd.N_alloc | apply Kd.N_drewN | apply Kd.N_drew)); exact (Kd.N_mono (Kd.N_far (p := ⟨gb309, 1, none⟩) (Kd.N_far (p := ⟨gb309, 0, none⟩) (Kd.N_mono HO301.out (fun k_ hk => (⟨hk, hk.2⟩ : _ ∧ k_ ≠ gb309))) (fun _ hk => hk.2) (.slice Ao30 t302.length co30)) (fun _ hk => hk.2) (.slice Ao32 t305.length co32)) (fun _ h_ => h_.1)))) k_ hk_.2.1), (Kd.fresh' (Kd.N_lt (by (with_reducible repeat (first | apply Kd.N_alloc | apply Kd.N_drewN | apply Kd.N_drew)); exact (Kd.N_mono (Kd.N_far (p := ⟨gb309, 1, none⟩) (Kd.N_far (p := ⟨gb309, 0, none⟩) (Kd.N_mono HO304.out (fun k_ hk => (⟨hk, hk.2⟩ : _ ∧ k_ ≠ gb309))) (fun _ hk => hk.2) (.slice Ao30 t302.length co30)) (fun _ hk => hk.2) (.slice Ao32 t305.length co32)) (fun _ h_ => h_.1)))) k_ hk_.2.1), (Kd.fresh' (Kd.N_lt (by (with_reducible repeat (first | apply Kd.N_alloc | apply Kd.N_drewN | apply Kd.N_drew)); exact (Kd.N_mono (Kd.N_far (p := ⟨gb309, 1, none⟩) (Kd.N_far (p := ⟨gb309, 0, none⟩) (Kd.N_mono HO307.out (fun k_ hk => (⟨hk, hk.2⟩ : _ ∧ k_ ≠ gb309))) (fun _ hk => hk.2) (.slice Ao30 t302.length co30)) (fun _ hk => hk.2) (.slice Ao32 t305.length co32)) (fun _ h_ => h_.1)))) k_ hk_.2.1), (Kd.freshB (g := gb309) (o := .cells #[.slice Ao30 t302.length co30, .slice Ao32 t305.length co32] 26 (0, 0)) (by (with_reducible repeat (first | refine blk_drewN ?_ _ | refine blk_drew ?_ | refine blk_alloc ?_ _)); refine blk_put (cs := #[.slice Ao30 t302.length co30, .slice none 0 0]) ?_ 1 _ rfl; (with_reducible repeat (first | refine blk_drewN ?_ _ | refine blk_drew ?_ | refine blk_alloc ?_ _)); refine blk_put (cs := #[.slice none 0 0, .slice none 0 0]) ?_ 0 _ rfl; exact KX_ BK309.out) k_ hk_.2.1)⟩)) (below_size (B1_))); have n4_ := Aside0.mk (Kd.N_lower (Kd.N_mono (ok' := fun k_ => some k_ ≠ (v311 : Value).ownBlock ∧ some k_ ≠ (.slice Ao27 y299.length co27 : Value).ownBlock ∧ some k_ ≠ (.slice Ao30 t302.length co30 : Value).ownBlock ∧ some k_ ≠ (.slice Ao32 t305.length co32 : Value).ownBlock ∧ k_ ≠ gb309) (Kd.S_N (Kd.S_bound ho1)) (fun k_ hk_ => ⟨hk_.1, (Kd.fresh' (Kd.N_lt (by (with_reducible repeat (first | apply Kd.N_alloc | apply Kd.N_drewN | apply Kd.N_drew)); exact (Kd.N_mono (Kd.N_far (p := ⟨gb309, 1, none⟩) (Kd.N_far (p := ⟨gb309, 0, none⟩) (Kd.N_mono HO301.out (fun k_ hk => (⟨hk, hk.2⟩ : _ ∧ k_ ≠ gb309))) (fun _ hk => hk.2) (.slice Ao30 t302.length co30)) (fun _ hk => hk.2) (.slice Ao32 t305.length co32)) (fun _ h_ => h_.1)))) k_ hk_.2.1), (Kd.fresh' (Kd.N_lt (by (with_reducible repeat (first | apply Kd.N_alloc | apply Kd.N_drewN | apply Kd.N_drew)); exact (Kd.N_mono (Kd.N_far (p := ⟨gb309, 1, none⟩) (Kd.N_far (p := ⟨gb309, 0, none⟩) (Kd.N_mono HO304.out (fun k_ hk => (⟨hk, hk.2⟩ : _ ∧ k_ ≠ gb309))) (fun _ hk => hk.2) (.slice Ao30 t302.length co30)) (fun _ hk => hk.2) (.slice Ao32 t305.length co32)) (fun _ h_ => h_.1)))) k_ hk_.2.1), (Kd.fresh' (Kd.N_lt (by (with_reducible repeat (first | apply Kd.N_alloc | apply Kd.N_drewN | apply Kd.N_drew)); exact (Kd.N_mono (Kd.N_far (p := ⟨gb309, 1, none⟩) (Kd.N_far (p := ⟨gb309, 0, none⟩) (Kd.N_mono HO307.out (fun k_ hk => (⟨hk, hk.2⟩ : _ ∧ k_ ≠ gb309))) (fun _ hk => hk.2) (.slice Ao30 t302.length co30)) (fun _ hk => hk.2) (.slice Ao32 t305.length co32)) (fun _ h_ => h_.1)))) k_ hk_.2.1), (Kd.freshB (g := gb309) (o := .cells #[.slice Ao30 t302.length co30, .slice Ao32 t305.length co32] 26 (0, 0)) (by (with_reducible repeat (first | refine blk_drewN ?_ _ | refine blk_drew ?_ | refine blk_alloc ?_ _)); refine blk_put (cs := #[.slice Ao30 t302.length co30, .slice none 0 0]) ?_ 1 _ rfl; (with_reducible repeat (first | refine blk_drewN ?_ _ | refine blk_drew ?_ | refine blk_alloc ?_ _)); refine blk_put (cs := #[.slice none 0 0, .slice none 0 0]) ?_ 0 _ rfl; exact KX_ BK309.out) k_ hk_.2.1)⟩)) (below_size (B1_))); have n5_ := Aside0.mk (blk_below (g := gb309) (o := .cells #[.slice Ao30 t302.length co30, .slice Ao32 t305.length co32] 26 (0, 0)) (by (with_reducible repeat (first | refine blk_drewN ?_ _ | refine blk_drew ?_ | refine blk_alloc ?_ _)); refine blk_put (cs := #[.slice Ao30 t302.length co30, .slice none 0 0]) ?_ 1 _ rfl; (with_reducible repeat (first | refine blk_drewN ?_ _ | refine blk_drew ?_ | refine blk_alloc ?_ _)); refine blk_put (cs := #[.slice none 0 0, .slice none 0 0]) ?_ 0 _ rfl; exact KX_ BK309.out) hb); have n6_ := Aside0.mk (below_step (B1_) hb); clear HO301; clear HO304; clear HO307; clear BK309; clear HB; have HO301 := n0_; have HO304 := n1_; have HO307 := n2_; have HO312 := n3_; have HO315 := n4_; have BK309 := n5_; have HB := n6_; clear n0_ n1_ n2_ n3_ n4_ n5_ n6_; (try clear hb); (try clear hb2); (try clear hk); (try clear hi); (try clear ho0); (try clear ho1)) | ((with_reducible refine gate_dst (N := 3) rfl ?_); (try (refine gate_guard (by rfl) ?_; dsimp only)); refine box_event ?hg (N := 3) ?hd (cs := #[.slice none 0 0, .slice none 0 0]) (t := 26) ?hr ?_; (case hd => rfl); (case hg => rfl); (case hr => first | (go_simp; done) | (go_simp; rfl)); intro gb317 hg w34 hbox hb; have n0_ := Aside0.mk (Kd.N_below (Kd.N_elderB (by (with_reducible repeat (first | apply Kd.N_alloc | apply Kd.N_drewN | apply Kd.N_drew)); exact HO301.out) gb317 (Nat.le_of_eq hg.symm)) hb); have n1_ := Aside0.mk (Kd.N_below (Kd.N_elderB (by (with_reducible repeat (first | apply Kd.N_alloc | apply Kd.N_drewN | apply Kd.N_drew)); exact HO304.out) gb317 (Nat.le_of_eq hg.symm)) hb); have n2_ := Aside0.mk (Kd.N_below (Kd.N_elderB (by (with_reducible repeat (first | apply Kd.N_alloc | apply Kd.N_drewN | apply Kd.N_drew)); exact HO307.out) gb317 (Nat.le_of_eq hg.symm)) hb); have n3_ := Aside0.mk (Kd.N_below (Kd.N_elderB (by (with_reducible repeat (first | apply Kd.N_alloc | apply Kd.N_drewN | apply Kd.N_drew)); exact HO312.out) gb317 (Nat.le_of_eq hg.symm)) hb); have n4_ := Aside0.mk (Kd.N_below (Kd.N_elderB (by (with_reducible repeat (first | apply Kd.N_alloc | apply Kd.N_drewN | apply Kd.N_drew)); exact HO315.out) gb317 (Nat.le_of_eq hg.symm)) hb); have n5_ := Aside0.mk (blk_below (g := gb309) (o := .cells #[.slice Ao30 t302.length co30, .slice Ao32 t305.length co32] 26 (0, 0)) (by exact KX_ BK309.out) hb); have n6_ := Aside0.mk (below_step (B1_) hb); have n7_ := Aside0.mk (hbox); have n8_ := Aside0.mk ((by rw [hg]; exact (below_size (B1_)) : w.heap.size ≤ gb317)); have n9_ := Aside0.mk ((by rw [hg]; exact (below_size (B1_)) : w.heap.size ≤ gb317)); have n10_ := Aside0.mk ((by rw [hg]; exact Nat.ne_of_lt (blk_lt (g := gb309) (o := .cells #[.slice Ao30 t302.length co30, .slice Ao32 t305.length co32] 26 (0, 0)) (by exact KX_ BK309.out)) : gb309 ≠ gb317)); have n11_ := Aside0.mk ((by rw [hg]; exact Nat.ne_of_gt (blk_lt (g := gb309) (o := .cells #[.slice Ao30 t302.length co30, .slice Ao32 t305.length co32] 26 (0, 0)) (by exact KX_ BK309.out)) : gb317 ≠ gb309)); clear HO301; clear HO304; clear HO307; clear HO312; clear HO315; clear BK309; clear HB; have HO301 := n0_; have HO304 := n1_; have HO307 := n2_; have HO312 := n3_; have HO315 := n4_; have BK309 := n5_; have HB := n6_; have BK317 := n7_; have GW317 := n8_; have GE317 := n9_; have NB309_317 := n10_; have NB317_309 := n11_; clear n0_ n1_ n2_ n3_ n4_ n5_ n6_ n7_ n8_ n9_ n10_ n11_; clear hb hbox hg; obtain ⟨Ao35, co35, eo35⟩ := Kd.N_slice HO312.out; subst eo35; have hnb36 := NB317_309.out; have hnc36 := NB309_317.out; have hcz37_0 : w34.cell? ⟨gb317, 0, none⟩ = some (.slice none 0 0) := (blk_cell BK317.out 0).trans rfl; have hcz37_1 : w34.cell? ⟨gb317, 1, none⟩ = some (.slice none 0 0) := (blk_cell BK317.out 1).trans rfl; have hfz37_0 := blk_frozen BK317.out 0; have hfz37_1 := blk_frozen BK317.out 1; obtain ⟨Ao38, co38, eo38⟩ := Kd.N_slice HO315.out; subst eo38; have hcz39_0 : w34.cell? ⟨gb309, 0, none⟩ = some (.slice Ao30 t302.length co30) := (blk_cell BK309.out 0).trans rfl; have hcz39_1 : w34.cell? ⟨gb309, 1, none⟩ = some (.slice Ao32 t305.length co32) := (blk_cell BK309.out 1).trans rfl; have hfz39_0 := blk_frozen BK309.out 0; have hfz39_1 := blk_frozen BK309.out 1) | ((with_reducible refine gate_callee (f := 10) rfl ?_); refine goesL_ (some 20) rfl rfl Try.func10 (by kernel_rfl) rfl #[.agg #[.slice Ao30 t302.length co30, .slice Ao32 t305.length co32]] rfl (by (try simp only [List.map_toArray, List.map_cons, List.map_nil]); first | done | rfl | (simp only [List.length_drop, List.length_take]; rfl)) ?_; (with_reducible refine (pdom_Tree.calls k _ _ t302 _ _ t305 t318 _ ?side1 ?side2 ?side3 ?side4 A3.out).mono ?_); (case side1 => refine (Kd.N_reads' (e := 30) (base := w.heap.size) (ok := fun k_ => (((((some k_ ≠ (.slice Ao32 t305.length co32 : Value).ownBlock ∧ some k_ ≠ (.slice Ao27 y299.length co27 : Value).ownBlock) ∧ k_ ≠ gb309) ∧ some k_ ≠ (.slice Ao35 t310.length co35 : Value).ownBlock) ∧ some k_ ≠ (.slice Ao38 t313.length co38 : Value).ownBlock) ∧ k_ ≠ gb317)) (n := t302.length) (c := co30) ?_).2.2; exact (by (with_reducible repeat (first | apply Kd.N_alloc | apply Kd.N_drewN | apply Kd.N_drew)); exact (Kd.N_mono (Kd.N_far (p := ⟨gb317, 1, none⟩) (Kd.N_far (p := ⟨gb317, 0, none⟩) (Kd.N_mono HO304.out (fun k_ hk => (⟨hk, hk.2⟩ : _ ∧ k_ ≠ gb317))) (fun _ hk => hk.2) (.slice Ao35 t310.length co35)) (fun _ hk => hk.2) (.slice Ao38 t313.length co38)) (fun _ h_ => h_.1)))); (case side2 => exact (Kd.N_reads' HO304.out).2.1); (case side3 => refine (Kd.N_reads' (e := 30) (base := w.heap.size) (ok := fun k_ => (((((some k_ ≠ (.slice Ao30 t302.length co30 : Value).ownBlock ∧ some k_ ≠ (.slice Ao27 y299.length co27 : Value).ownBlock) ∧ k_ ≠ gb309) ∧ some k_ ≠ (.slice Ao35 t310.length co35 : Value).ownBlock) ∧ some k_ ≠ (.slice Ao38 t313.length co38 : Value).ownBlock) ∧ k_ ≠ gb317)) (n := t305.length) (c := co32) ?_).2.2; exact (by (with_reducible repeat (first | apply Kd.N_alloc | apply Kd.N_drewN | apply Kd.N_drew)); exact (Kd.N_mono (Kd.N_far (p := ⟨gb317, 1, none⟩) (Kd.N_far (p := ⟨gb317, 0, none⟩) (Kd.N_mono HO307.out (fun k_ hk => (⟨hk, hk.2⟩ : _ ∧ k_ ≠ gb317))) (fun _ hk => hk.2) (.slice Ao35 t310.length co35)) (fun _ hk => hk.2) (.slice Ao38 t313.length co38)) (fun _ h_ => h_.1)))); (case side4 => exact (Kd.N_reads' HO307.out).2.1); rintro e w40 ⟨v319, rfl, ho0, hb⟩; refine ⟨_, rfl, ?_⟩; have n0_ := Aside0.mk (Kd.N_elder' (by (with_reducible repeat (first | apply Kd.N_alloc | apply Kd.N_drewN | apply Kd.N_drew)); exact (Kd.N_mono (Kd.N_far (p := ⟨gb317, 1, none⟩) (Kd.N_far (p := ⟨gb317, 0, none⟩) (Kd.N_mono HO301.out (fun k_ hk => (⟨hk, hk.2⟩ : _ ∧ k_ ≠ gb317))) (fun _ hk => hk.2) (.slice Ao35 t310.length co35)) (fun _ hk => hk.2) (.slice Ao38 t313.length co38)) (fun _ h_ => h_.1))) (Kd.R_base ho0) hb); have n1_ := Aside0.mk (Kd.N_elder' (by (with_reducible repeat (first | apply Kd.N_alloc | apply Kd.N_drewN | apply Kd.N_drew)); exact (Kd.N_mono (Kd.N_far (p := ⟨gb317, 1, none⟩) (Kd.N_far (p := ⟨gb317, 0, none⟩) (Kd.N_mono HO304.out (fun k_ hk => (⟨hk, hk.2⟩ : _ ∧ k_ ≠ gb317))) (fun _ hk => hk.2) (.slice Ao35 t310.length co35)) (fun _ hk => hk.2) (.slice Ao38 t313.length co38)) (fun _ h_ => h_.1))) (Kd.R_base ho0) hb); have n2_ := Aside0.mk (Kd.N_elder' (by (with_reducible repeat (first | apply Kd.N_alloc | apply Kd.N_drewN | apply Kd.N_drew)); exact (Kd.N_mono (Kd.N_far (p := ⟨gb317, 1, none⟩) (Kd.N_far (p := ⟨gb317, 0, none⟩) (Kd.N_mono HO307.out (fun k_ hk => (⟨hk, hk.2⟩ : _ ∧ k_ ≠ gb317))) (fun _ hk => hk.2) (.slice Ao35 t310.length co35)) (fun _ hk => hk.2) (.slice Ao38 t313.length co38)) (fun _ h_ => h_.1))) (Kd.R_base ho0) hb); have n3_ := Aside0.mk (Kd.N_elder' (by (with_reducible repeat (first | apply Kd.N_alloc | apply Kd.N_drewN | apply Kd.N_drew)); exact (Kd.N_mono (Kd.N_far (p := ⟨gb317, 1, none⟩) (Kd.N_far (p := ⟨gb317, 0, none⟩) (Kd.N_mono HO312.out (fun k_ hk => (⟨hk, hk.2⟩ : _ ∧ k_ ≠ gb317))) (fun _ hk => hk.2) (.slice Ao35 t310.length co35)) (fun _ hk => hk.2) (.slice Ao38 t313.length co38)) (fun _ h_ => h_.1))) (Kd.R_base ho0) hb); have n4_ := Aside0.mk (Kd.N_elder' (by (with_reducible repeat (first | apply Kd.N_alloc | apply Kd.N_drewN | apply Kd.N_drew)); exact (Kd.N_mono (Kd.N_far (p := ⟨gb317, 1, none⟩) (Kd.N_far (p := ⟨gb317, 0, none⟩) (Kd.N_mono HO315.out (fun k_ hk => (⟨hk, hk.2⟩ : _ ∧ k_ ≠ gb317))) (fun _ hk => hk.2) (.slice Ao35 t310.length co35)) (fun _ hk => hk.2) (.slice Ao38 t313.length co38)) (fun _ h_ => h_.1))) (Kd.R_base ho0) hb); have n5_ := Aside0.mk (Kd.R_lower ho0 (below_size (B1_))); have n6_ := Aside0.mk (blk_below (g := gb309) (o := .cells #[.slice Ao30 t302.length co30, .slice Ao32 t305.length co32] 26 (0, 0)) (by (with_reducible repeat (first | refine blk_drewN ?_ _ | refine blk_drew ?_ | refine blk_alloc ?_ _)); refine blk_far ?_ NB309_317.out _; (with_reducible repeat (first | refine blk_drewN ?_ _ | refine blk_drew ?_ | refine blk_alloc ?_ _)); refine blk_far ?_ NB309_317.out _; exact KX_ BK309.out) hb); have n7_ := Aside0.mk (blk_below (g := gb317) (o := .cells #[.slice Ao35 t310.length co35, .slice Ao38 t313.length co38] 26 (0, 0)) (by (with_reducible repeat (first | refine blk_drewN ?_ _ | refine blk_drew ?_ | refine blk_alloc ?_ _)); refine blk_put (cs := #[.slice Ao35 t310.length co35, .slice none 0 0]) ?_ 1 _ rfl; (with_reducible repeat (first | refine blk_drewN ?_ _ | refine blk_drew ?_ | refine blk_alloc ?_ _)); refine blk_put (cs := #[.slice none 0 0, .slice none 0 0]) ?_ 0 _ rfl; exact KX_ BK317.out) hb); have n8_ := Aside0.mk (below_step (B1_) hb); clear HO301; clear HO304; clear HO307; clear HO312; clear HO315; clear BK309; clear BK317; clear HB; have HO301 := n0_; have HO304 := n1_; have HO307 := n2_; have HO312 := n3_; have HO315 := n4_; have HO320 := n5_; have BK309 := n6_; have BK317 := n7_; have HB := n8_; clear n0_ n1_ n2_ n3_ n4_ n5_ n6_ n7_ n8_; (try clear hb); (try clear hb2); (try clear hk); (try clear hi); (try clear ho0); have hcz41_0 : w40.cell? ⟨gb317, 0, none⟩ = some (.slice Ao35 t310.length co35) := (blk_cell BK317.out 0).trans rfl; have hcz41_1 : w40.cell? ⟨gb317, 1, none⟩ = some (.slice Ao38 t313.length co38) := (blk_cell BK317.out 1).trans rfl; have hfz41_0 := blk_frozen BK317.out 0; have hfz41_1 := blk_frozen BK317.out 1; have p321 : 0 ≤ (3 : Int) := (by omega); have q321 : 3 < (t310.length : Int) := D_; obtain ⟨ad321, A321_0, c321_0, e321, hx321_0, hl321_0, hi321_0⟩ := at_L1 (Kd.N_reads' HO312.out).2.2 3 p321 q321; cases e321; obtain ⟨ce321, hce321, hMe321, hcc321⟩ := Kd.N_get HO312.out [] 3 p321 (by first | exact q321 | exact D_ | (have e_ := (Kd.N_reads' HO312.out).1; omega)); obtain ⟨ua321_0, uc321_0, rfl, ul321_0, ge321_0⟩ := Kd.FK_slice_open hMe321; have hv321_0 := hcc321 0 _ rfl; rw [Nat.add_zero, show ((Kd.slice 3 (Kd.int .i64))).sz = 1 from rfl, Nat.mul_one] at hv321_0; replace hv321_0 := Option.some.inj (hv321_0.symm.trans hx321_0); injection hv321_0 with hva_ hvn_ hvc_; rw [hva_] at ge321_0; rw [hvc_] at ul321_0; have HL321_0 := Aside0.mk (show Kd.V (Kd.int .i64) 3 _ w.heap.size _ _ (rd_L1 t310 3) from Kd.V_mk ul321_0 ge321_0); clear hva_ hvn_ hvc_ ge321_0 ul321_0; clear hcc321 hce321; (try simp only [show (3 : Int).toNat = 3 from rfl, Nat.reduceMul, Nat.reduceEqDiff, Go.Addr.add, ↓reduceIte] at hx321_0); have qi321 : (3 < t310.length) = True := eq_true (by omega); (try rw [show ((3 : Int)).toNat = 3 from rfl] at hx321_0); have HR321_0 := Aside0.mk hi321_0; have HC321_0 := Aside0.mk hl321_0; clear hi321_0 hl321_0; replace p321 := eq_true p321; replace q321 := eq_true q321; have p322 : 0 ≤ (3 : Int) := (by omega); have q322 : 3 < (t310.length : Int) := D_; obtain ⟨ad322, A322_0, c322_0, e322, hx322_0, hl322_0, hi322_0⟩ := at_L1 (Kd.N_reads' HO312.out).2.2 3 p322 q322; obtain rfl : ad321 = ad322 := (by injection e322); obtain ⟨ce322, hce322, hMe322, hcc322⟩ := Kd.N_get HO312.out [] 3 p322 (by first | exact q322 | exact D_ | (have e_ := (Kd.N_reads' HO312.out).1; omega)); obtain ⟨ua322_0, uc322_0, rfl, ul322_0, ge322_0⟩ := Kd.FK_slice_open hMe322; have hv322_0 := hcc322 0 _ rfl; rw [Nat.add_zero, show ((Kd.slice 3 (Kd.int .i64))).sz = 1 from rfl, Nat.mul_one] at hv322_0; replace hv322_0 := Option.some.inj (hv322_0.symm.trans hx322_0); injection hv322_0 with hva_ hvn_ hvc_; rw [hva_] at ge322_0; rw [hvc_] at ul322_0; have HL322_0 := Aside0.mk (show Kd.V (Kd.int .i64) 3 _ w.heap.size _ _ (rd_L1 t310 3) from Kd.V_mk ul322_0 ge322_0); clear hva_ hvn_ hvc_ ge322_0 ul322_0; clear hcc322 hce322; (try simp only [show (3 : Int).toNat = 3 from rfl, Nat.reduceMul, Nat.reduceEqDiff, Go.Addr.add, ↓reduceIte] at hx322_0); have qi322 : (3 < t310.length) = True := eq_true (by omega); (try rw [show ((3 : Int)).toNat = 3 from rfl] at hx322_0); have HR322_0 := Aside0.mk hi322_0; have HC322_0 := Aside0.mk hl322_0; clear hi322_0 hl322_0; replace p322 := eq_true p322; replace q322 := eq_true q322; have ea_ := Option.some.inj (hx321_0.symm.trans hx322_0); injection ea_ with ea_ en_ ec_; subst ea_; subst ec_; clear en_; have p323 : 0 ≤ (0 : Int) := (by omega); have q323 : 0 < ((rd_L1 t310 3).length : Int) := D_; obtain ⟨ad323, e323, hx323_0⟩ := Kd.at_int (by repeat (first | (with_reducible exact HR322_0.out) | (with_reducible refine Kd.C_alloc ?_ _) | (with_reducible refine Kd.C_drewN ?_ _) | (with_reducible refine Kd.C_drew ?_) | exact HR322_0.out)) 0 p323 q323; cases e323; have qi323 : (0 < (rd_L1 t310 3).length) = True := eq_true (by omega); (try rw [show ((0 : Int)).toNat = 0 from rfl] at hx323_0); (try rw [Addr.add_zero'] at hx323_0); replace p323 := eq_true p323; replace q323 := eq_true q323) | ((with_reducible refine gate_dst (N := 52) rfl ?_); (try (refine gate_guard (by rfl) ?_; dsimp only)); refine Kd.R_lit (Kd.int .i64) _ 3 ?hg (N := 52) ?hd (xs := ([3, 3, 3, 4, (-1)] : List Int)) (inner := [.int .i64 3, .int .i64 3, .int .i64 3, .int .i64 4, .int .i64 (-1)]) (ok := fun _ => True) (okp := fun _ => True) ?hr ?hp (fun _ hk => hk) trivial (Below.refl _ _) (Nat.le_refl _) (by simp) ?_; (case hd => rfl); (case hg => rfl); (case hr => first | (go_simp; done) | (go_simp; rfl)); (case hp => exact (Reps.one (show Kd.M (Kd.int .i64) _ _ _ 3 [.int .i64 3] from rfl) (Reps.one (show Kd.M (Kd.int .i64) _ _ _ 3 [.int .i64 3] from rfl) (Reps.one (show Kd.M (Kd.int .i64) _ _ _ 3 [.int .i64 3] from rfl) (Reps.one (show Kd.M (Kd.int .i64) _ _ _ 4 [.int .i64 4] from rfl) (Reps.one (show Kd.M (Kd.int .i64) _ _ _ (-1) [.int .i64 (-1)] from rfl) (Reps.none _ _))))))); intro v325 w42 ho43 hb hg_ hnew_; clear hg_ hnew_; (first | rw [← Ny324.out] at ho43 | (simp only [Int.reduceToNat] at ho43; rw [← Ny324.out] at ho43)); have n0_ := Aside0.mk (Kd.N_elder' (by (with_reducible repeat (first | apply Kd.N_alloc | apply Kd.N_drewN | apply Kd.N_drew)); exact HO301.out) (Kd.R_base ho43) hb); have n1_ := Aside0.mk (Kd.N_elder' (by (with_reducible repeat (first | apply Kd.N_alloc | apply Kd.N_drewN | apply Kd.N_drew)); exact HO304.out) (Kd.R_base ho43) hb); have n2_ := Aside0.mk (Kd.N_elder' (by (with_reducible repeat (first | apply Kd.N_alloc | apply Kd.N_drewN | apply Kd.N_drew)); exact HO307.out) (Kd.R_base ho43) hb); have n3_ := Aside0.mk (Kd.N_elder' (by (with_reducible repeat (first | apply Kd.N_alloc | apply Kd.N_drewN | apply Kd.N_drew)); exact HO312.out) (Kd.R_base ho43) hb); have n4_ := Aside0.mk (Kd.N_elder' (by (with_reducible repeat (first | apply Kd.N_alloc | apply Kd.N_drewN | apply Kd.N_drew)); exact HO315.out) (Kd.R_base ho43) hb); have n5_ := Aside0.mk (Kd.R_elder' (by exact RX_ HO320.out) (Kd.R_base ho43) hb); have n6_ := Aside0.mk (Kd.V_elder' (by (with_reducible repeat (first | apply Kd.V_alloc | apply Kd.V_drewN | apply Kd.V_drew)); exact HL321_0.out) (Kd.R_base ho43) hb); have n7_ := Aside0.mk (Kd.V_elder' (by (with_reducible repeat (first | apply Kd.V_alloc | apply Kd.V_drewN | apply Kd.V_drew)); exact HL322_0.out) (Kd.R_base ho43) hb); have n8_ := Aside0.mk (Kd.R_lower (Kd.R_new' ho43 (Kd.R_lt (by exact RX_ HO320.out))) (below_size (B1_))); have n9_ := Aside0.mk (blk_below (g := gb309) (o := .cells #[.slice Ao30 t302.length co30, .slice Ao32 t305.length co32] 26 (0, 0)) (by exact KX_ BK309.out) hb); have n10_ := Aside0.mk (blk_below (g := gb317) (o := .cells #[.slice (some ad321) t310.length co35, .slice Ao38 t313.length co38] 26 (0, 0)) (by exact KX_ BK317.out) hb); have n11_ := Aside0.mk (Kd.C_below (by repeat (first | (with_reducible exact HR321_0.out) | (with_reducible refine Kd.C_alloc ?_ _) | (with_reducible refine Kd.C_drewN ?_ _) | (with_reducible refine Kd.C_drew ?_) | exact HR321_0.out)) hb); have n12_ := Aside0.mk (Kd.C_below (by repeat (first | (with_reducible exact HR322_0.out) | (with_reducible refine Kd.C_alloc ?_ _) | (with_reducible refine Kd.C_drewN ?_ _) | (with_reducible refine Kd.C_drew ?_) | exact HR322_0.out)) hb); have n13_ := Aside0.mk (below_step (B1_) hb); clear HO301; clear HO304; clear HO307; clear HO312; clear HO315; clear HO320; clear HL321_0; clear HL322_0; clear BK309; clear BK317; clear HR321_0; clear HR322_0; clear HB; have HO301 := n0_; have HO304 := n1_; have HO307 := n2_; have HO312 := n3_; have HO315 := n4_; have HO320 := n5_; have HL321_0 := n6_; have HL322_0 := n7_; have HO326 := n8_; have BK309 := n9_; have BK317 := n10_; have HR321_0 := n11_; have HR322_0 := n12_; have HB := n13_; clear n0_ n1_ n2_ n3_ n4_ n5_ n6_ n7_ n8_ n9_ n10_ n11_ n12_ n13_; clear hb ho43; obtain ⟨Ao44, co44, eo44⟩ := Kd.R_slice HO320.out; subst eo44; obtain ⟨Ao45, co45, eo45⟩ := Kd.R_slice HO326.out; subst eo45) | (go_at_call 16; (with_reducible refine (lockstepref02_Ints.calls k _ _ t318 _ _ y324 true _ ?side1 ?side2 ?side3 ?side4 A11.out).mono ?_); (case side1 => repeat (first | exact (Kd.R_reads' HO320.out).2.2 | (with_reducible refine Kd.C_alloc ?_ _) | (with_reducible refine Kd.C_drewN ?_ _) | (with_reducible refine Kd.C_drew ?_))); (case side2 => exact (Kd.R_reads' HO320.out).2.1); (case side3 => repeat (first | exact (Kd.R_reads' HO326.out).2.2 | (with_reducible refine Kd.C_alloc ?_ _) | (with_reducible refine Kd.C_drewN ?_ _) | (with_reducible refine Kd.C_drew ?_))); (case side4 => exact (Kd.R_reads' HO326.out).2.1); rintro e w' ⟨rfl, ⟨nd, rfl⟩⟩) | (go_at_call 13; (with_reducible refine (pdom_Over.calls k _ _ t318 3 0 true _ ?side1 ?side2 A13.out).mono ?_); (case side1 => repeat (first | exact (Kd.R_reads' HO320.out).2.2 | (with_reducible refine Kd.C_alloc ?_ _) | (with_reducible refine Kd.C_drewN ?_ _) | (with_reducible refine Kd.C_drew ?_))); (case side2 => exact (Kd.R_reads' HO320.out).2.1); rintro e w46 ⟨rfl, hb⟩; have n0_ := Aside0.mk (Kd.N_below (by (with_reducible repeat (first | apply Kd.N_alloc | apply Kd.N_drewN | apply Kd.N_drew)); exact HO301.out) hb); have n1_ := Aside0.mk (Kd.N_below (by (with_reducible repeat (first | apply Kd.N_alloc | apply Kd.N_drewN | apply Kd.N_drew)); exact HO304.out) hb); have n2_ := Aside0.mk (Kd.N_below (by (with_reducible repeat (first | apply Kd.N_alloc | apply Kd.N_drewN | apply Kd.N_drew)); exact HO307.out) hb); have n3_ := Aside0.mk (Kd.N_below (by (with_reducible repeat (first | apply Kd.N_alloc | apply Kd.N_drewN | apply Kd.N_drew)); exact HO312.out) hb); have n4_ := Aside0.mk (Kd.N_below (by (with_reducible repeat (first | apply Kd.N_alloc | apply Kd.N_drewN | apply Kd.N_drew)); exact HO315.out) hb); have n5_ := Aside0.mk (Kd.R_below (by exact RX_ HO320.out) hb); have n6_ := Aside0.mk (Kd.V_below (by (with_reducible repeat (first | apply Kd.V_alloc | apply Kd.V_drewN | apply Kd.V_drew)); exact HL321_0.out) hb); have n7_ := Aside0.mk (Kd.V_below (by (with_reducible repeat (first | apply Kd.V_alloc | apply Kd.V_drewN | apply Kd.V_drew)); exact HL322_0.out) hb); have n8_ := Aside0.mk (Kd.R_below (by exact RX_ HO326.out) hb); have n9_ := Aside0.mk (blk_below (g := gb309) (o := .cells #[.slice Ao30 t302.length co30, .slice Ao32 t305.length co32] 26 (0, 0)) (by exact KX_ BK309.out) hb); have n10_ := Aside0.mk (blk_below (g := gb317) (o := .cells #[.slice (some ad321) t310.length co35, .slice Ao38 t313.length co38] 26 (0, 0)) (by exact KX_ BK317.out) hb); have n11_ := Aside0.mk (Kd.C_below (by repeat (first | (with_reducible exact HR321_0.out) | (with_reducible refine Kd.C_alloc ?_ _) | (with_reducible refine Kd.C_drewN ?_ _) | (with_reducible refine Kd.C_drew ?_) | exact HR321_0.out)) hb); have n12_ := Aside0.mk (Kd.C_below (by repeat (first | (with_reducible exact HR322_0.out) | (with_reducible refine Kd.C_alloc ?_ _) | (with_reducible refine Kd.C_drewN ?_ _) | (with_reducible refine Kd.C_drew ?_) | exact HR322_0.out)) hb); have n13_ := Aside0.mk (below_step (B1_) hb); clear HO301; clear HO304; clear HO307; clear HO312; clear HO315; clear HO320; clear HL321_0; clear HL322_0; clear HO326; clear BK309; clear BK317; clear HR321_0; clear HR322_0; clear HB; have HO301 := n0_; have HO304 := n1_; have HO307 := n2_; have HO312 := n3_; have HO315 := n4_; have HO320 := n5_; have HL321_0 := n6_; have HL322_0 := n7_; have HO326 := n8_; have BK309 := n9_; have BK317 := n10_; have HR321_0 := n11_; have HR322_0 := n12_; have HB := n13_; clear n0_ n1_ n2_ n3_ n4_ n5_ n6_ n7_ n8_ n9_ n10_ n11_ n12_ n13_; (try clear hb); (try clear hb2); (try clear hk); (try clear hi); have hcz47_0 : w46.cell? ⟨gb309, 0, none⟩ = some (.slice Ao30 t302.length co30) := (blk_cell BK309.out 0).trans rfl; have hcz47_1 : w46.cell? ⟨gb309, 1, none⟩ = some (.slice Ao32 t305.length co32) := (blk_cell BK309.out 1).trans rfl; have hfz47_0 := blk_frozen BK309.out 0; have hfz47_1 := blk_frozen BK309.out 1) | (go_at_call 14; (with_reducible refine (pdom_Shut.calls k _ _ t302 _ _ t305 t329 _ ?side1 ?side2 ?side3 ?side4 A15.out).mono ?_); (case side1 => repeat (first | exact (Kd.N_reads' HO304.out).2.2 | (with_reducible refine Kd.C_alloc ?_ _) | (with_reducible refine Kd.C_drewN ?_ _) | (with_reducible refine Kd.C_drew ?_))); (case side2 => exact (Kd.N_reads' HO304.out).2.1); (case side3 => repeat (first | exact (Kd.N_reads' HO307.out).2.2 | (with_reducible refine Kd.C_alloc ?_ _) | (with_reducible refine Kd.C_drewN ?_ _) | (with_reducible refine Kd.C_drew ?_))); (case side4 => exact (Kd.N_reads' HO307.out).2.1); rintro e w48 ⟨v330, rfl, ho0, hb⟩; have n0_ := Aside0.mk (Kd.N_elder' (by (with_reducible repeat (first | apply Kd.N_alloc | apply Kd.N_drewN | apply Kd.N_drew)); exact HO301.out) (Kd.R_base ho0) hb); have n1_ := Aside0.mk (Kd.N_elder' (by (with_reducible repeat (first | apply Kd.N_alloc | apply Kd.N_drewN | apply Kd.N_drew)); exact HO304.out) (Kd.R_base ho0) hb); have n2_ := Aside0.mk (Kd.N_elder' (by (with_reducible repeat (first | apply Kd.N_alloc | apply Kd.N_drewN | apply Kd.N_drew)); exact HO307.out) (Kd.R_base ho0) hb); have n3_ := Aside0.mk (Kd.N_elder' (by (with_reducible repeat (first | apply Kd.N_alloc | apply Kd.N_drewN | apply Kd.N_drew)); exact HO312.out) (Kd.R_base ho0) hb); have n4_ := Aside0.mk (Kd.N_elder' (by (with_reducible repeat (first | apply Kd.N_alloc | apply Kd.N_drewN | apply Kd.N_drew)); exact HO315.out) (Kd.R_base ho0) hb); have n5_ := Aside0.mk (Kd.R_elder' (by exact RX_ HO320.out) (Kd.R_base ho0) hb); have n6_ := Aside0.mk (Kd.V_elder' (by (with_reducible repeat (first | apply Kd.V_alloc | apply Kd.V_drewN | apply Kd.V_drew)); exact HL321_0.out) (Kd.R_base ho0) hb); have n7_ := Aside0.mk (Kd.V_elder' (by (with_reducible repeat (first | apply Kd.V_alloc | apply Kd.V_drewN | apply Kd.V_drew)); exact HL322_0.out) (Kd.R_base ho0) hb); have n8_ := Aside0.mk (Kd.R_elder' (by exact RX_ HO326.out) (Kd.R_base ho0) hb); have n9_ := Aside0.mk (Kd.R_lower (Kd.R_new' (Kd.R_new' ho0 (Kd.R_lt (by exact RX_ HO320.out))) (Kd.R_lt (by exact RX_ HO326.out))) (below_size (B1_))); have n10_ := Aside0.mk (blk_below (g := gb309) (o := .cells #[.slice Ao30 t302.length co30, .slice Ao32 t305.length co32] 26 (0, 0)) (by exact KX_ BK309.out) hb); have n11_ := Aside0.mk (blk_below (g := gb317) (o := .cells #[.slice (some ad321) t310.length co35, .slice Ao38 t313.length co38] 26 (0, 0)) (by exact KX_ BK317.out) hb); have n12_ := Aside0.mk (Kd.C_below (by repeat (first | (with_reducible exact HR321_0.out) | (with_reducible refine Kd.C_alloc ?_ _) | (with_reducible refine Kd.C_drewN ?_ _) | (with_reducible refine Kd.C_drew ?_) | exact HR321_0.out)) hb); have n13_ := Aside0.mk (Kd.C_below (by repeat (first | (with_reducible exact HR322_0.out) | (with_reducible refine Kd.C_alloc ?_ _) | (with_reducible refine Kd.C_drewN ?_ _) | (with_reducible refine Kd.C_drew ?_) | exact HR322_0.out)) hb); have n14_ := Aside0.mk (below_step (B1_) hb); clear HO301; clear HO304; clear HO307; clear HO312; clear HO315; clear HO320; clear HL321_0; clear HL322_0; clear HO326; clear BK309; clear BK317; clear HR321_0; clear HR322_0; clear HB; have HO301 := n0_; have HO304 := n1_; have HO307 := n2_; have HO312 := n3_; have HO315 := n4_; have HO320 := n5_; have HL321_0 := n6_; have HL322_0 := n7_; have HO326 := n8_; have HO331 := n9_; have BK309 := n10_; have BK317 := n11_; have HR321_0 := n12_; have HR322_0 := n13_; have HB := n14_; clear n0_ n1_ n2_ n3_ n4_ n5_ n6_ n7_ n8_ n9_ n10_ n11_ n12_ n13_ n14_; (try clear hb); (try clear hb2); (try clear hk); (try clear hi); (try clear ho0); obtain ⟨Ao49, co49, eo49⟩ := Kd.R_slice HO331.out; subst eo49))
          go_ret
          exact ⟨by first | rfl | exact congrArg (fun b => Ending.returned (Value.bool b)) HR_.out | (simp [errW_none, errW_some] <;> rfl) | (simp [*, errW_none, errW_some] <;> rfl), B1_⟩
         replace c14 := Bool.eq_false_iff.mpr c14
         subst c14
         have H1 : (some false) = some true := by rw [if_neg (show ¬ (false = true) by decide)] at H; exact H
         clear H
         have H := H1
         clear H1
         exact absurd H (by simp)
        replace c12 := Bool.eq_false_iff.mpr c12
        subst c12
        have H1 : (some false) = some true := by rw [if_neg (show ¬ (false = true) by decide)] at H; exact H
        clear H
        have H := H1
        clear H1
        exact absurd H (by simp)
       rw [if_neg c10] at H
       have c10b0 : ((rd (rd_L1 t310 3) 0) == 4) = false := beq_eq_false_iff_ne.mpr c10
       have c10b1 : ((rd (rd_L1 t310 3) 0) != 4) = true := bne_iff_ne.mpr c10
       exact absurd H (by simp)
      rw [if_neg c9] at H
      exact absurd H (by simp)
     rw [if_neg c8] at H
     have c8b0 : (((rd_L1 t310 3).length : Int) == 1) = false := beq_eq_false_iff_ne.mpr c8
     have c8b1 : (((rd_L1 t310 3).length : Int) != 1) = true := bne_iff_ne.mpr c8
     exact absurd H (by simp)
    rw [if_neg c7] at H
    exact absurd H (by simp)
   rw [if_neg c6] at H
   have c6b0 : ((t310.length : Int) == 5) = false := beq_eq_false_iff_ne.mpr c6
   have c6b1 : ((t310.length : Int) != 5) = true := bne_iff_ne.mpr c6
   exact absurd H (by simp)
  rw [if_neg c5] at H
  have c5b0 : (t316 == 0) = false := beq_eq_false_iff_ne.mpr c5
  have c5b1 : (t316 != 0) = true := bne_iff_ne.mpr c5
  exact absurd H (by simp)
 rw [if_neg c4] at H
 have c4b0 : (t308 == 0) = false := beq_eq_false_iff_ne.mpr c4
 have c4b1 : (t308 != 0) = true := bne_iff_ne.mpr c4
 exact absurd H (by simp)


/-! ### lockstepref06_Small: function 8 -/
def lockstepref06_Small.l0 : Nat → List (List Int) → Int → Option (Bool)
 | 0, _, _ => none
 | k + 1, x0, x3 => if x3 < (x0.length : Int) then (if 0 ≤ x3 then (if ((rd_L1 x0 x3).length : Int) > 100 then (some false) else (if x3 > 100 then (some false) else (lockstepref06_Small.l0 k x0 (wrap64 (x3 + 1))))) else (none)) else (some true)
def lockstepref06_Small.f (k : Nat) (l0 : List (List Int)) : Option (Bool) := lockstepref06_Small.l0 k l0 0
theorem lockstepref06_Small.mono_l : ∀ k, (∀ y0 y1, LeO (lockstepref06_Small.l0 k y0 y1) (lockstepref06_Small.l0 (k + 1) y0 y1))
 | 0 => fun _ _ r h => by simp [lockstepref06_Small.l0] at h
 | k + 1 => by
  have ih0 := lockstepref06_Small.mono_l k
  ·intro y0 y1
   unfold lockstepref06_Small.l0
   repeat' first
   | (with_reducible exact ih0 _ _)
   | (with_reducible exact LeO.refl _)
   | (with_reducible exact LeO.none _)
   | (with_reducible refine LeO.ite ?_ ?_)
   | (with_reducible refine LeO.bind ?_ (fun _ => ?_))
   | exact ih0 _ _
   | exact LeO.none _
   | refine LeO.ite ?_ ?_
   | refine LeO.bind ?_ (fun _ => ?_)
theorem lockstepref06_Small.mono : ∀ a0 k, LeO (lockstepref06_Small.f k a0) (lockstepref06_Small.f (k + 1) a0) := by
 intro a0 k
 have ih0 := lockstepref06_Small.mono_l k
 unfold lockstepref06_Small.f
 repeat' first
  | (with_reducible exact ih0 _ _)
  | (with_reducible exact LeO.refl _)
  | (with_reducible exact LeO.none _)
  | (with_reducible refine LeO.ite ?_ ?_)
  | (with_reducible refine LeO.bind ?_ (fun _ => ?_))
  | exact ih0 _ _
  | exact LeO.none _
  | refine LeO.ite ?_ ?_
  | refine LeO.bind ?_ (fun _ => ?_)
set_option maxHeartbeats 8000000 in
set_option maxRecDepth 100000 in
theorem lockstepref06_Small.calls (k : Nat) (A0 : Option Addr) (c0 : Nat) (l0 : List (List Int)) (r : Bool) (w : World) (hr0 : Kd.C (Kd.slice 3 (Kd.int .i64)) w A0 l0.length l0) (hc0 : l0.length ≤ c0) (h : lockstepref06_Small.f k l0 = some r) :
 Calls Try.prog 8 #[.slice A0 l0.length c0] w fun e w' => e = .returned (.bool r) ∧ Drawn0 w w' := by
 have HR0 := Aside0.mk hr0
 have HC0 := Aside0.mk hc0
 clear hr0 hc0
 have H : (lockstepref06_Small.l0 k l0 0) = some r := h
 clear h
 have H' := Aside0.mk H
 clear H
 go_enter Try.func8, Try.ntmps8
 go_wp2
 go_loopg [3] k (fun kq v3 w' => ∃ (x3_1 : Int), v3 = .int .i64 x3_1 ∧ Aside0 (lockstepref06_Small.l0 kq l0 x3_1 = some r) ∧ Aside0 (kq ≤ k) ∧ Drawn0 w w')
 case atStart => exact ⟨(0), (by first | rfl | (simp; done) | (simp [*]; done)), H', ⟨Nat.le_refl _⟩, by repeat (first | exact Drawn0.refl _ | apply Drawn0.step)⟩
 case round =>
  clear H'
  obtain ⟨x3_1, rfl, HA, HK1, ⟨m1, rfl⟩⟩ := hrel
  cases gk with
  | zero => exact absurd HA.out (by simp [lockstepref06_Small.l0])
  | succ k1 =>
   have H := HA.out
   clear HA
   simp only [lockstepref06_Small.l0] at H
   by_cases c2 : x3_1 < (l0.length : Int)
   ·rw [if_pos c2] at H
    have c2b0 : decide (x3_1 < (l0.length : Int)) = true := decide_eq_true c2
    clear c2
    by_cases c3 : 0 ≤ x3_1
    ·rw [if_pos c3] at H
     have c3b0 : decide (0 ≤ x3_1) = true := decide_eq_true c3
     clear c3
     by_cases c4 : ((rd_L1 l0 x3_1).length : Int) > 100
     ·rw [if_pos c4] at H
      have c4b0 : decide (100 < ((rd_L1 l0 x3_1).length : Int)) = true := decide_eq_true c4
      have c4b1 : decide (100 < (rd_L1 l0 x3_1).length) = true := decide_eq_true (by omega)
      clear c4
      obtain rfl := Option.some.inj H
      have p332 : 0 ≤ (x3_1 : Int) := D_
      have q332 : x3_1 < (l0.length : Int) := D_
      obtain ⟨ad332, A332_0, c332_0, e332, hx332_0, hl332_0, hi332_0⟩ := at_L1 HR0.out x3_1 p332 q332
      cases e332
      have HR332_0 := Aside0.mk hi332_0
      have HC332_0 := Aside0.mk hl332_0
      clear hi332_0 hl332_0
      replace p332 := eq_true p332
      replace q332 := eq_true q332
      go_wp2
      go_ret
      exact ⟨by first | rfl | (simp; done) | (simp [*]; done), by repeat (first | exact Drawn0.refl _ | apply Drawn0.step)⟩
     rw [if_neg c4] at H
     have c4b0 : decide (100 < ((rd_L1 l0 x3_1).length : Int)) = false := decide_eq_false c4
     have c4b1 : decide (100 < (rd_L1 l0 x3_1).length) = false := decide_eq_false (by omega)
     clear c4
     by_cases c5 : x3_1 > 100
     ·rw [if_pos c5] at H
      have c5b0 : decide (100 < x3_1) = true := decide_eq_true c5
      clear c5
      obtain rfl := Option.some.inj H
      have p332 : 0 ≤ (x3_1 : Int) := D_
      have q332 : x3_1 < (l0.length : Int) := D_
      obtain ⟨ad332, A332_0, c332_0, e332, hx332_0, hl332_0, hi332_0⟩ := at_L1 HR0.out x3_1 p332 q332
      cases e332
      have HR332_0 := Aside0.mk hi332_0
      have HC332_0 := Aside0.mk hl332_0
      clear hi332_0 hl332_0
      replace p332 := eq_true p332
      replace q332 := eq_true q332
      go_wp2
      go_ret
      exact ⟨by first | rfl | (simp; done) | (simp [*]; done), by repeat (first | exact Drawn0.refl _ | apply Drawn0.step)⟩
     rw [if_neg c5] at H
     have c5b0 : decide (100 < x3_1) = false := decide_eq_false c5
     clear c5
     have H' := Aside0.mk H
     clear H
     have p332 : 0 ≤ (x3_1 : Int) := D_
     have q332 : x3_1 < (l0.length : Int) := D_
     obtain ⟨ad332, A332_0, c332_0, e332, hx332_0, hl332_0, hi332_0⟩ := at_L1 HR0.out x3_1 p332 q332
     cases e332
     have HR332_0 := Aside0.mk hi332_0
     have HC332_0 := Aside0.mk hl332_0
     clear hi332_0 hl332_0
     replace p332 := eq_true p332
     replace q332 := eq_true q332
     go_wp2
     go_roundg k1
     case measure => have := HK1.out; omega
     case rel => exact ⟨(wrap64 (x3_1 + 1)), (by first | rfl | (simp; done) | (simp [*]; done)), H', ⟨by have := HK1.out; omega⟩, by repeat (first | exact Drawn0.refl _ | apply Drawn0.step)⟩
    rw [if_neg c3] at H
    exact absurd H (by simp)
   rw [if_neg c2] at H
   have c2b0 : decide (x3_1 < (l0.length : Int)) = false := decide_eq_false c2
   clear c2
   obtain rfl := Option.some.inj H
   go_wp2
   go_ret
   exact ⟨by first | rfl | (simp; done) | (simp [*]; done), by repeat (first | exact Drawn0.refl _ | apply Drawn0.step)⟩


/-! ### lockstepref06_Has: function 15 -/
def lockstepref06_Has.l0 : Nat → List Int → Int → Int → Option (Bool)
 | 0, _, _, _ => none
 | k + 1, x0, x1, x5 => if x5 < (x0.length : Int) then (if 0 ≤ x5 then (if (rd x0 x5) = x1 then (some true) else (lockstepref06_Has.l0 k x0 x1 (wrap64 (x5 + 1)))) else (none)) else (some false)
def lockstepref06_Has.f (k : Nat) (l0 : List Int) (a1 : Int) : Option (Bool) := lockstepref06_Has.l0 k l0 a1 0
theorem lockstepref06_Has.mono_l : ∀ k, (∀ y0 y1 y2, LeO (lockstepref06_Has.l0 k y0 y1 y2) (lockstepref06_Has.l0 (k + 1) y0 y1 y2))
 | 0 => fun _ _ _ r h => by simp [lockstepref06_Has.l0] at h
 | k + 1 => by
  have ih0 := lockstepref06_Has.mono_l k
  ·intro y0 y1 y2
   unfold lockstepref06_Has.l0
   repeat' first
   | (with_reducible exact ih0 _ _ _)
   | (with_reducible exact LeO.refl _)
   | (with_reducible exact LeO.none _)
   | (with_reducible refine LeO.ite ?_ ?_)
   | (with_reducible refine LeO.bind ?_ (fun _ => ?_))
   | exact ih0 _ _ _
   | exact LeO.none _
   | refine LeO.ite ?_ ?_
   | refine LeO.bind ?_ (fun _ => ?_)
theorem lockstepref06_Has.mono : ∀ a0 a1 k, LeO (lockstepref06_Has.f k a0 a1) (lockstepref06_Has.f (k + 1) a0 a1) := by
 intro a0 a1 k
 have ih0 := lockstepref06_Has.mono_l k
 unfold lockstepref06_Has.f
 repeat' first
  | (with_reducible exact ih0 _ _ _)
  | (with_reducible exact LeO.refl _)
  | (with_reducible exact LeO.none _)
  | (with_reducible refine LeO.ite ?_ ?_)
  | (with_reducible refine LeO.bind ?_ (fun _ => ?_))
  | exact ih0 _ _ _
  | exact LeO.none _
  | refine LeO.ite ?_ ?_
  | refine LeO.bind ?_ (fun _ => ?_)
set_option maxHeartbeats 8000000 in
set_option maxRecDepth 100000 in
theorem lockstepref06_Has.calls (k : Nat) (A0 : Option Addr) (c0 : Nat) (l0 : List Int) (a1 : Int) (r : Bool) (w : World) (hr0 : Kd.C (Kd.int .i64) w A0 l0.length l0) (hc0 : l0.length ≤ c0) (h : lockstepref06_Has.f k l0 a1 = some r) :
 Calls Try.prog 15 #[.slice A0 l0.length c0, .int .i64 a1] w fun e w' => e = .returned (.bool r) ∧ Drawn0 w w' := by
 have HR0 := Aside0.mk hr0
 have HC0 := Aside0.mk hc0
 clear hr0 hc0
 have H : (lockstepref06_Has.l0 k l0 a1 0) = some r := h
 clear h
 have H' := Aside0.mk H
 clear H
 go_enter Try.func15, Try.ntmps15
 go_wp2
 go_loopg [5] k (fun kq v5 w' => ∃ (x5_1 : Int), v5 = .int .i64 x5_1 ∧ Aside0 (lockstepref06_Has.l0 kq l0 a1 x5_1 = some r) ∧ Aside0 (kq ≤ k) ∧ Drawn0 w w')
 case atStart => exact ⟨(0), (by first | rfl | (simp; done) | (simp [*]; done)), H', ⟨Nat.le_refl _⟩, by repeat (first | exact Drawn0.refl _ | apply Drawn0.step)⟩
 case round =>
  clear H'
  obtain ⟨x5_1, rfl, HA, HK1, ⟨m1, rfl⟩⟩ := hrel
  cases gk with
  | zero => exact absurd HA.out (by simp [lockstepref06_Has.l0])
  | succ k1 =>
   have H := HA.out
   clear HA
   simp only [lockstepref06_Has.l0] at H
   by_cases c3 : x5_1 < (l0.length : Int)
   ·rw [if_pos c3] at H
    have c3b0 : decide (x5_1 < (l0.length : Int)) = true := decide_eq_true c3
    clear c3
    by_cases c4 : 0 ≤ x5_1
    ·rw [if_pos c4] at H
     have c4b0 : decide (0 ≤ x5_1) = true := decide_eq_true c4
     clear c4
     by_cases c5 : (rd l0 x5_1) = a1
     ·rw [if_pos c5] at H
      have c5b0 : ((rd l0 x5_1) == a1) = true := beq_iff_eq.mpr c5
      have c5b1 : ((rd l0 x5_1) != a1) = false := bne_eq_false_iff_eq.mpr c5
      clear c5
      obtain rfl := Option.some.inj H
      have p379 : 0 ≤ (x5_1 : Int) := D_
      have q379 : x5_1 < (l0.length : Int) := D_
      obtain ⟨ad379, e379, hx379_0⟩ := Kd.at_int HR0.out x5_1 p379 q379
      cases e379
      replace p379 := eq_true p379
      replace q379 := eq_true q379
      go_wp2
      go_ret
      exact ⟨by first | rfl | (simp; done) | (simp [*]; done), by repeat (first | exact Drawn0.refl _ | apply Drawn0.step)⟩
     rw [if_neg c5] at H
     have c5b0 : ((rd l0 x5_1) == a1) = false := beq_eq_false_iff_ne.mpr c5
     have c5b1 : ((rd l0 x5_1) != a1) = true := bne_iff_ne.mpr c5
     have H' := Aside0.mk H
     clear H
     have p379 : 0 ≤ (x5_1 : Int) := D_
     have q379 : x5_1 < (l0.length : Int) := D_
     obtain ⟨ad379, e379, hx379_0⟩ := Kd.at_int HR0.out x5_1 p379 q379
     cases e379
     replace p379 := eq_true p379
     replace q379 := eq_true q379
     go_wp2
     go_roundg k1
     case measure => have := HK1.out; omega
     case rel => exact ⟨(wrap64 (x5_1 + 1)), (by first | rfl | (simp; done) | (simp [*]; done)), H', ⟨by have := HK1.out; omega⟩, by repeat (first | exact Drawn0.refl _ | apply Drawn0.step)⟩
    rw [if_neg c4] at H
    exact absurd H (by simp)
   rw [if_neg c3] at H
   have c3b0 : decide (x5_1 < (l0.length : Int)) = false := decide_eq_false c3
   clear c3
   obtain rfl := Option.some.inj H
   go_wp2
   go_ret
   exact ⟨by first | rfl | (simp; done) | (simp [*]; done), by repeat (first | exact Drawn0.refl _ | apply Drawn0.step)⟩


/-! ### locksteplaw08_PdomShut: function 6 -/
mutual
def locksteplaw08_PdomShut.j0 : Nat → List (List Int) → Bool → Option (Bool)
 | 0, _, _ => none
 | k + 1, x0, x25 => if x25 = true then (some true) else ((graph_Make.f k x0).bind fun bt479 => (if bt479.2.2 = 0 then ((pdom_Shut.f k bt479.1 bt479.2.1).bind fun t490 => (locksteplaw08_PdomShut.l0 k x0 t490 0 bt479.1 bt479.2.1)) else ((pdom_Shut.f k bt479.1 bt479.2.1).bind fun t487 => (some ((t487.length : Int) == 0)))))
def locksteplaw08_PdomShut.l0 : Nat → List (List Int) → List Int → Int → List (List Int) → List (List Int) → Option (Bool)
 | 0, _, _, _, _, _ => none
 | k + 1, x0, x5, x6, x487000, x487001 => if x6 < (x0.length : Int) then ((lockstepref06_Has.f k x5 x6).bind fun t493 => (if 0 ≤ x6 then (locksteplaw08_PdomShut.l1 k x0 x5 x6 t493 (decide (((rd_L1 x0 x6).length : Int) > 0)) 0 x487000 x487001) else (none))) else ((pdom_Exit.f k x487000 x487001).bind fun bt499 => (locksteplaw08_PdomShut.l2 k x0 x5 bt499.2.2 0 0 bt499.1 bt499.2.1))
def locksteplaw08_PdomShut.l1 : Nat → List (List Int) → List Int → Int → Bool → Bool → Int → List (List Int) → List (List Int) → Option (Bool)
 | 0, _, _, _, _, _, _, _, _ => none
 | k + 1, x0, x5, x6, x7, x8, x9, x487000, x487001 => if 0 ≤ x6 then (if x6 < (x0.length : Int) then (if x9 < ((rd_L1 x0 x6).length : Int) then (if x8 = true then (if 0 ≤ x9 then ((lockstepref06_Has.f k x5 (rd (rd_L1 x0 x6) x9)).bind fun t498 => (locksteplaw08_PdomShut.l1 k x0 x5 x6 x7 t498 (wrap64 (x9 + 1)) x487000 x487001)) else (none)) else (locksteplaw08_PdomShut.l1 k x0 x5 x6 x7 false (wrap64 (x9 + 1)) x487000 x487001)) else (if (x7 != x8) = true then (some false) else (locksteplaw08_PdomShut.l0 k x0 x5 (wrap64 (x6 + 1)) x487000 x487001))) else (none)) else (none)
def locksteplaw08_PdomShut.l2 : Nat → List (List Int) → List Int → Int → Int → Int → List (List Int) → List (List Int) → Option (Bool)
 | 0, _, _, _, _, _, _, _ => none
 | k + 1, x0, x5, x11, x12, x13, x507000, x507001 => if x13 < (x0.length : Int) then (locksteplaw08_PdomShut.j4 k x0 x5 x11 x12 x13 (x11 == 0) x507000 x507001) else (locksteplaw08_PdomShut.j4 k x0 x5 x11 x12 x13 false x507000 x507001)
def locksteplaw08_PdomShut.j4 : Nat → List (List Int) → List Int → Int → Int → Int → Bool → List (List Int) → List (List Int) → Option (Bool)
 | 0, _, _, _, _, _, _, _, _ => none
 | k + 1, x0, x5, x11, x12, x13, x90, x507000, x507001 => if x90 = true then (if 0 ≤ x13 then (if x13 < (x507000.length : Int) then (if x13 < (x0.length : Int) then (if ((rd_L1 x507000 x13).length : Int) > ((rd_L1 x0 x13).length : Int) then (locksteplaw08_PdomShut.l2 k x0 x5 x11 (wrap64 (x12 + 1)) (wrap64 (x13 + 1)) x507000 x507001) else (locksteplaw08_PdomShut.l2 k x0 x5 x11 x12 (wrap64 (x13 + 1)) x507000 x507001)) else (none)) else (none)) else (none)) else (locksteplaw08_PdomShut.l3 k x0 x5 x11 x12 0 0)
def locksteplaw08_PdomShut.l3 : Nat → List (List Int) → List Int → Int → Int → Int → Int → Option (Bool)
 | 0, _, _, _, _, _, _ => none
 | k + 1, x0, x5, x11, x12, x14, x15 => if x15 < (x0.length : Int) then (if 0 ≤ x15 then (if ((rd_L1 x0 x15).length : Int) = 0 then (locksteplaw08_PdomShut.l3 k x0 x5 x11 x12 (wrap64 (x14 + 1)) (wrap64 (x15 + 1))) else (locksteplaw08_PdomShut.l3 k x0 x5 x11 x12 x14 (wrap64 (x15 + 1)))) else (none)) else (if x11 = 0 then (if (x5.length : Int) > 0 then (some true) else (some (x12 == x14))) else (some false))
end
def locksteplaw08_PdomShut.f (k : Nat) (l0 : List (List Int)) : Option (Bool) := (locksteplaw08_awake.f k).bind fun t477 => (if t477 = true then (if (l0.length : Int) > 16 then (locksteplaw08_PdomShut.j0 k l0 true) else ((lockstepref06_Small.f k l0).bind fun t478 => (locksteplaw08_PdomShut.j0 k l0 (!t478)))) else (some false))
theorem locksteplaw08_PdomShut.mono_l : ∀ k, (∀ y0 y1, LeO (locksteplaw08_PdomShut.j0 k y0 y1) (locksteplaw08_PdomShut.j0 (k + 1) y0 y1)) ∧ (∀ y0 y1 y2 y3 y4, LeO (locksteplaw08_PdomShut.l0 k y0 y1 y2 y3 y4) (locksteplaw08_PdomShut.l0 (k + 1) y0 y1 y2 y3 y4)) ∧ (∀ y0 y1 y2 y3 y4 y5 y6 y7, LeO (locksteplaw08_PdomShut.l1 k y0 y1 y2 y3 y4 y5 y6 y7) (locksteplaw08_PdomShut.l1 (k + 1) y0 y1 y2 y3 y4 y5 y6 y7)) ∧ (∀ y0 y1 y2 y3 y4 y5 y6, LeO (locksteplaw08_PdomShut.l2 k y0 y1 y2 y3 y4 y5 y6) (locksteplaw08_PdomShut.l2 (k + 1) y0 y1 y2 y3 y4 y5 y6)) ∧ (∀ y0 y1 y2 y3 y4 y5 y6 y7, LeO (locksteplaw08_PdomShut.j4 k y0 y1 y2 y3 y4 y5 y6 y7) (locksteplaw08_PdomShut.j4 (k + 1) y0 y1 y2 y3 y4 y5 y6 y7)) ∧ (∀ y0 y1 y2 y3 y4 y5, LeO (locksteplaw08_PdomShut.l3 k y0 y1 y2 y3 y4 y5) (locksteplaw08_PdomShut.l3 (k + 1) y0 y1 y2 y3 y4 y5))
 | 0 => ⟨fun _ _ r h => by simp [locksteplaw08_PdomShut.j0] at h, fun _ _ _ _ _ r h => by simp [locksteplaw08_PdomShut.l0] at h, fun _ _ _ _ _ _ _ _ r h => by simp [locksteplaw08_PdomShut.l1] at h, fun _ _ _ _ _ _ _ r h => by simp [locksteplaw08_PdomShut.l2] at h, fun _ _ _ _ _ _ _ _ r h => by simp [locksteplaw08_PdomShut.j4] at h, fun _ _ _ _ _ _ r h => by simp [locksteplaw08_PdomShut.l3] at h⟩
 | k + 1 => by
  obtain ⟨ih0, ih1, ih2, ih3, ih4, ih5⟩ := locksteplaw08_PdomShut.mono_l k
  refine ⟨?_, ?_, ?_, ?_, ?_, ?_⟩
  ·intro y0 y1
   unfold locksteplaw08_PdomShut.j0
   repeat' first
   | (with_reducible exact ih0 _ _)
   | (with_reducible exact ih1 _ _ _ _ _)
   | (with_reducible exact ih2 _ _ _ _ _ _ _ _)
   | (with_reducible exact ih3 _ _ _ _ _ _ _)
   | (with_reducible exact ih4 _ _ _ _ _ _ _ _)
   | (with_reducible exact ih5 _ _ _ _ _ _)
   | (with_reducible exact graph_Make.mono _ _)
   | (with_reducible exact locksteplaw08_awake.mono _)
   | (with_reducible exact lockstepref06_Has.mono _ _ _)
   | (with_reducible exact lockstepref06_Small.mono _ _)
   | (with_reducible exact pdom_Exit.mono _ _ _)
   | (with_reducible exact pdom_Shut.mono _ _ _)
   | (with_reducible exact LeO.refl _)
   | (with_reducible exact LeO.none _)
   | (with_reducible refine LeO.ite ?_ ?_)
   | (with_reducible refine LeO.bind ?_ (fun _ => ?_))
   | exact ih0 _ _
   | exact ih1 _ _ _ _ _
   | exact ih2 _ _ _ _ _ _ _ _
   | exact ih3 _ _ _ _ _ _ _
   | exact ih4 _ _ _ _ _ _ _ _
   | exact ih5 _ _ _ _ _ _
   | exact graph_Make.mono _ _
   | exact locksteplaw08_awake.mono _
   | exact lockstepref06_Has.mono _ _ _
   | exact lockstepref06_Small.mono _ _
   | exact pdom_Exit.mono _ _ _
   | exact pdom_Shut.mono _ _ _
   | exact LeO.none _
   | refine LeO.ite ?_ ?_
   | refine LeO.bind ?_ (fun _ => ?_)
  ·intro y0 y1 y2 y3 y4
   unfold locksteplaw08_PdomShut.l0
   repeat' first
   | (with_reducible exact ih0 _ _)
   | (with_reducible exact ih1 _ _ _ _ _)
   | (with_reducible exact ih2 _ _ _ _ _ _ _ _)
   | (with_reducible exact ih3 _ _ _ _ _ _ _)
   | (with_reducible exact ih4 _ _ _ _ _ _ _ _)
   | (with_reducible exact ih5 _ _ _ _ _ _)
   | (with_reducible exact graph_Make.mono _ _)
   | (with_reducible exact locksteplaw08_awake.mono _)
   | (with_reducible exact lockstepref06_Has.mono _ _ _)
   | (with_reducible exact lockstepref06_Small.mono _ _)
   | (with_reducible exact pdom_Exit.mono _ _ _)
   | (with_reducible exact pdom_Shut.mono _ _ _)
   | (with_reducible exact LeO.refl _)
   | (with_reducible exact LeO.none _)
   | (with_reducible refine LeO.ite ?_ ?_)
   | (with_reducible refine LeO.bind ?_ (fun _ => ?_))
   | exact ih0 _ _
   | exact ih1 _ _ _ _ _
   | exact ih2 _ _ _ _ _ _ _ _
   | exact ih3 _ _ _ _ _ _ _
   | exact ih4 _ _ _ _ _ _ _ _
   | exact ih5 _ _ _ _ _ _
   | exact graph_Make.mono _ _
   | exact locksteplaw08_awake.mono _
   | exact lockstepref06_Has.mono _ _ _
   | exact lockstepref06_Small.mono _ _
   | exact pdom_Exit.mono _ _ _
   | exact pdom_Shut.mono _ _ _
   | exact LeO.none _
   | refine LeO.ite ?_ ?_
   | refine LeO.bind ?_ (fun _ => ?_)
  ·intro y0 y1 y2 y3 y4 y5 y6 y7
   unfold locksteplaw08_PdomShut.l1
   repeat' first
   | (with_reducible exact ih0 _ _)
   | (with_reducible exact ih1 _ _ _ _ _)
   | (with_reducible exact ih2 _ _ _ _ _ _ _ _)
   | (with_reducible exact ih3 _ _ _ _ _ _ _)
   | (with_reducible exact ih4 _ _ _ _ _ _ _ _)
   | (with_reducible exact ih5 _ _ _ _ _ _)
   | (with_reducible exact graph_Make.mono _ _)
   | (with_reducible exact locksteplaw08_awake.mono _)
   | (with_reducible exact lockstepref06_Has.mono _ _ _)
   | (with_reducible exact lockstepref06_Small.mono _ _)
   | (with_reducible exact pdom_Exit.mono _ _ _)
   | (with_reducible exact pdom_Shut.mono _ _ _)
   | (with_reducible exact LeO.refl _)
   | (with_reducible exact LeO.none _)
   | (with_reducible refine LeO.ite ?_ ?_)
   | (with_reducible refine LeO.bind ?_ (fun _ => ?_))
   | exact ih0 _ _
   | exact ih1 _ _ _ _ _
   | exact ih2 _ _ _ _ _ _ _ _
   | exact ih3 _ _ _ _ _ _ _
   | exact ih4 _ _ _ _ _ _ _ _
   | exact ih5 _ _ _ _ _ _
   | exact graph_Make.mono _ _
   | exact locksteplaw08_awake.mono _
   | exact lockstepref06_Has.mono _ _ _
   | exact lockstepref06_Small.mono _ _
   | exact pdom_Exit.mono _ _ _
   | exact pdom_Shut.mono _ _ _
   | exact LeO.none _
   | refine LeO.ite ?_ ?_
   | refine LeO.bind ?_ (fun _ => ?_)
  ·intro y0 y1 y2 y3 y4 y5 y6
   unfold locksteplaw08_PdomShut.l2
   repeat' first
   | (with_reducible exact ih0 _ _)
   | (with_reducible exact ih1 _ _ _ _ _)
   | (with_reducible exact ih2 _ _ _ _ _ _ _ _)
   | (with_reducible exact ih3 _ _ _ _ _ _ _)
   | (with_reducible exact ih4 _ _ _ _ _ _ _ _)
   | (with_reducible exact ih5 _ _ _ _ _ _)
   | (with_reducible exact graph_Make.mono _ _)
   | (with_reducible exact locksteplaw08_awake.mono _)
   | (with_reducible exact lockstepref06_Has.mono _ _ _)
   | (with_reducible exact lockstepref06_Small.mono _ _)
   | (with_reducible exact pdom_Exit.mono _ _ _)
   | (with_reducible exact pdom_Shut.mono _ _ _)
   | (with_reducible exact LeO.refl _)
   | (with_reducible exact LeO.none _)
   | (with_reducible refine LeO.ite ?_ ?_)
   | (with_reducible refine LeO.bind ?_ (fun _ => ?_))
   | exact ih0 _ _
   | exact ih1 _ _ _ _ _
   | exact ih2 _ _ _ _ _ _ _ _
   | exact ih3 _ _ _ _ _ _ _
   | exact ih4 _ _ _ _ _ _ _ _
   | exact ih5 _ _ _ _ _ _
   | exact graph_Make.mono _ _
   | exact locksteplaw08_awake.mono _
   | exact lockstepref06_Has.mono _ _ _
   | exact lockstepref06_Small.mono _ _
   | exact pdom_Exit.mono _ _ _
   | exact pdom_Shut.mono _ _ _
   | exact LeO.none _
   | refine LeO.ite ?_ ?_
   | refine LeO.bind ?_ (fun _ => ?_)
  ·intro y0 y1 y2 y3 y4 y5 y6 y7
   unfold locksteplaw08_PdomShut.j4
   repeat' first
   | (with_reducible exact ih0 _ _)
   | (with_reducible exact ih1 _ _ _ _ _)
   | (with_reducible exact ih2 _ _ _ _ _ _ _ _)
   | (with_reducible exact ih3 _ _ _ _ _ _ _)
   | (with_reducible exact ih4 _ _ _ _ _ _ _ _)
   | (with_reducible exact ih5 _ _ _ _ _ _)
   | (with_reducible exact graph_Make.mono _ _)
   | (with_reducible exact locksteplaw08_awake.mono _)
   | (with_reducible exact lockstepref06_Has.mono _ _ _)
   | (with_reducible exact lockstepref06_Small.mono _ _)
   | (with_reducible exact pdom_Exit.mono _ _ _)
   | (with_reducible exact pdom_Shut.mono _ _ _)
   | (with_reducible exact LeO.refl _)
   | (with_reducible exact LeO.none _)
   | (with_reducible refine LeO.ite ?_ ?_)
   | (with_reducible refine LeO.bind ?_ (fun _ => ?_))
   | exact ih0 _ _
   | exact ih1 _ _ _ _ _
   | exact ih2 _ _ _ _ _ _ _ _
   | exact ih3 _ _ _ _ _ _ _
   | exact ih4 _ _ _ _ _ _ _ _
   | exact ih5 _ _ _ _ _ _
   | exact graph_Make.mono _ _
   | exact locksteplaw08_awake.mono _
   | exact lockstepref06_Has.mono _ _ _
   | exact lockstepref06_Small.mono _ _
   | exact pdom_Exit.mono _ _ _
   | exact pdom_Shut.mono _ _ _
   | exact LeO.none _
   | refine LeO.ite ?_ ?_
   | refine LeO.bind ?_ (fun _ => ?_)
  ·intro y0 y1 y2 y3 y4 y5
   unfold locksteplaw08_PdomShut.l3
   repeat' first
   | (with_reducible exact ih0 _ _)
   | (with_reducible exact ih1 _ _ _ _ _)
   | (with_reducible exact ih2 _ _ _ _ _ _ _ _)
   | (with_reducible exact ih3 _ _ _ _ _ _ _)
   | (with_reducible exact ih4 _ _ _ _ _ _ _ _)
   | (with_reducible exact ih5 _ _ _ _ _ _)
   | (with_reducible exact graph_Make.mono _ _)
   | (with_reducible exact locksteplaw08_awake.mono _)
   | (with_reducible exact lockstepref06_Has.mono _ _ _)
   | (with_reducible exact lockstepref06_Small.mono _ _)
   | (with_reducible exact pdom_Exit.mono _ _ _)
   | (with_reducible exact pdom_Shut.mono _ _ _)
   | (with_reducible exact LeO.refl _)
   | (with_reducible exact LeO.none _)
   | (with_reducible refine LeO.ite ?_ ?_)
   | (with_reducible refine LeO.bind ?_ (fun _ => ?_))
   | exact ih0 _ _
   | exact ih1 _ _ _ _ _
   | exact ih2 _ _ _ _ _ _ _ _
   | exact ih3 _ _ _ _ _ _ _
   | exact ih4 _ _ _ _ _ _ _ _
   | exact ih5 _ _ _ _ _ _
   | exact graph_Make.mono _ _
   | exact locksteplaw08_awake.mono _
   | exact lockstepref06_Has.mono _ _ _
   | exact lockstepref06_Small.mono _ _
   | exact pdom_Exit.mono _ _ _
   | exact pdom_Shut.mono _ _ _
   | exact LeO.none _
   | refine LeO.ite ?_ ?_
   | refine LeO.bind ?_ (fun _ => ?_)
theorem locksteplaw08_PdomShut.mono : ∀ a0 k, LeO (locksteplaw08_PdomShut.f k a0) (locksteplaw08_PdomShut.f (k + 1) a0) := by
 intro a0 k
 obtain ⟨ih0, ih1, ih2, ih3, ih4, ih5⟩ := locksteplaw08_PdomShut.mono_l k
 unfold locksteplaw08_PdomShut.f
 repeat' first
  | (with_reducible exact ih0 _ _)
  | (with_reducible exact ih1 _ _ _ _ _)
  | (with_reducible exact ih2 _ _ _ _ _ _ _ _)
  | (with_reducible exact ih3 _ _ _ _ _ _ _)
  | (with_reducible exact ih4 _ _ _ _ _ _ _ _)
  | (with_reducible exact ih5 _ _ _ _ _ _)
  | (with_reducible exact graph_Make.mono _ _)
  | (with_reducible exact locksteplaw08_awake.mono _)
  | (with_reducible exact lockstepref06_Has.mono _ _ _)
  | (with_reducible exact lockstepref06_Small.mono _ _)
  | (with_reducible exact pdom_Exit.mono _ _ _)
  | (with_reducible exact pdom_Shut.mono _ _ _)
  | (with_reducible exact LeO.refl _)
  | (with_reducible exact LeO.none _)
  | (with_reducible refine LeO.ite ?_ ?_)
  | (with_reducible refine LeO.bind ?_ (fun _ => ?_))
  | exact ih0 _ _
  | exact ih1 _ _ _ _ _
  | exact ih2 _ _ _ _ _ _ _ _
  | exact ih3 _ _ _ _ _ _ _
  | exact ih4 _ _ _ _ _ _ _ _
  | exact ih5 _ _ _ _ _ _
  | exact graph_Make.mono _ _
  | exact locksteplaw08_awake.mono _
  | exact lockstepref06_Has.mono _ _ _
  | exact lockstepref06_Small.mono _ _
  | exact pdom_Exit.mono _ _ _
  | exact pdom_Shut.mono _ _ _
  | exact LeO.none _
  | refine LeO.ite ?_ ?_
  | refine LeO.bind ?_ (fun _ => ?_)
set_option maxHeartbeats 8000000 in
set_option maxRecDepth 100000 in
theorem locksteplaw08_PdomShut.calls (k : Nat) (A0 : Option Addr) (c0 : Nat) (l0 : List (List Int)) (w : World) (hr0 : Kd.C (Kd.slice 3 (Kd.int .i64)) w A0 l0.length l0) (hc0 : l0.length ≤ c0) (h : locksteplaw08_PdomShut.f k l0 = some true) :
 Calls Try.prog 6 #[.slice A0 l0.length c0] w fun e w' => e = .returned (.bool true) ∧ Below w.heap.size w w' := by
 have hu26 := Try.underlying26
 have HR0 := Aside0.mk hr0
 have HC0 := Aside0.mk hc0
 clear hr0 hc0
 have HB := Aside0.mk (Below.refl w.heap.size w)
 have H : ((locksteplaw08_awake.f k).bind fun t477 => (if t477 = true then (if (l0.length : Int) > 16 then (locksteplaw08_PdomShut.j0 k l0 true) else ((lockstepref06_Small.f k l0).bind fun t478 => (locksteplaw08_PdomShut.j0 k l0 (!t478)))) else (some false))) = some true := h
 clear h
 replace H := Option.bind_eq_some_iff.mp H
 obtain ⟨t477, A20, H⟩ := H
 replace H : (if t477 = true then (if (l0.length : Int) > 16 then (locksteplaw08_PdomShut.j0 k l0 true) else ((lockstepref06_Small.f k l0).bind fun t478 => (locksteplaw08_PdomShut.j0 k l0 (!t478)))) else (some false)) = some true := H
 have A2 := Aside0.mk A20
 clear A20
 by_cases c3 : t477 = true
 ·subst c3
  have H1 : (if (l0.length : Int) > 16 then (locksteplaw08_PdomShut.j0 k l0 true) else ((lockstepref06_Small.f k l0).bind fun t478 => (locksteplaw08_PdomShut.j0 k l0 (!t478)))) = some true := by rw [if_pos rfl] at H; exact H
  clear H
  have H := H1
  clear H1
  have HC4 := Aside0.mk H
  clear H
  go_enter Try.func6, Try.ntmps6
  go_upto_region 3 with (first | (go_at_call 7; (with_reducible refine (locksteplaw08_awake.calls k   _ A2.out).mono ?_); rintro e w5 ⟨rfl, hb⟩; have n0_ := Aside0.mk (below_step (B_) hb); clear HB; have HB := n0_; clear n0_; (try clear hb); (try clear hb2); (try clear hk); (try clear hi)))
  repeat (go_quiet (first | (go_at_call 7; (with_reducible refine (locksteplaw08_awake.calls k   _ A2.out).mono ?_); rintro e w5 ⟨rfl, hb⟩; have n0_ := Aside0.mk (below_step (B_) hb); clear HB; have HB := n0_; clear n0_; (try clear hb); (try clear hb2); (try clear hk); (try clear hi))); go_upto_region 3 with (first | (go_at_call 7; (with_reducible refine (locksteplaw08_awake.calls k   _ A2.out).mono ?_); rintro e w5 ⟨rfl, hb⟩; have n0_ := Aside0.mk (below_step (B_) hb); clear HB; have HB := n0_; clear n0_; (try clear hb); (try clear hb2); (try clear hk); (try clear hi))))
  (try simp only [Act.put, List.setIfInBounds_toArray, List.set_cons_zero, List.set_cons_succ])
  go_cut [25] (fun v25 wc => ∃ (kq : Nat) (x25_3 : Bool), v25 = .bool x25_3 ∧ Aside0 (locksteplaw08_PdomShut.j0 kq l0 x25_3 = some true) ∧ Aside0 (kq ≤ k) ∧ Aside0 (Below w.heap.size w wc))
  case first =>
   have H := HC4.out
   clear HC4
   by_cases c6 : (l0.length : Int) > 16
   ·rw [if_pos c6] at H
    have c6b0 : decide (16 < (l0.length : Int)) = true := decide_eq_true c6
    have c6b1 : decide (16 < l0.length) = true := decide_eq_true (by omega)
    clear c6
    (first | rw [c6b0] | (simp only [i64_w, i32_w]; rw [c6b0]) | skip)
    have H' := Aside0.mk H
    clear H
    go_wp2
    repeat (go_quiet (fail); try go_wp2)
    go_meet
    case rel => exact ⟨_, (true), (by first | rfl | exact congrArg (fun b => Ending.returned (Value.bool b)) HR_.out | (simp; done) | (simp [*]; done)), H', ⟨by first | omega | exact Nat.le_refl _⟩, ⟨B_⟩⟩
   rw [if_neg c6] at H
   have c6b0 : decide (16 < (l0.length : Int)) = false := decide_eq_false c6
   have c6b1 : decide (16 < l0.length) = false := decide_eq_false (by omega)
   clear c6
   (first | rw [c6b0] | (simp only [i64_w, i32_w]; rw [c6b0]) | skip)
   replace H := Option.bind_eq_some_iff.mp H
   obtain ⟨t478, A70, H⟩ := H
   replace H : (locksteplaw08_PdomShut.j0 k l0 (!t478)) = some true := H
   have A7 := Aside0.mk A70
   clear A70
   have H' := Aside0.mk H
   clear H
   go_wp2_with (first | (go_at_call 8; (with_reducible refine (lockstepref06_Small.calls k _ _ l0 t478 _ ?side1 ?side2 A7.out).mono ?_); (case side1 => exact CX_ (Kd.C_below HR0.out HB.out)); (case side2 => exact HC0.out); rintro e w' ⟨rfl, ⟨nd, rfl⟩⟩; (try first | exact ⟨rfl, _, World.drewN_drewN _ _ _⟩ | exact ⟨rfl, _, Eq.trans (World.drewN_drewN _ _ _) (congrArg (World.drewN _) (Nat.add_assoc _ _ _))⟩)))
   repeat (go_quiet (first | (go_at_call 8; (with_reducible refine (lockstepref06_Small.calls k _ _ l0 t478 _ ?side1 ?side2 A7.out).mono ?_); (case side1 => exact CX_ (Kd.C_below HR0.out HB.out)); (case side2 => exact HC0.out); rintro e w' ⟨rfl, ⟨nd, rfl⟩⟩; (try first | exact ⟨rfl, _, World.drewN_drewN _ _ _⟩ | exact ⟨rfl, _, Eq.trans (World.drewN_drewN _ _ _) (congrArg (World.drewN _) (Nat.add_assoc _ _ _))⟩))); try go_wp2_with (first | (go_at_call 8; (with_reducible refine (lockstepref06_Small.calls k _ _ l0 t478 _ ?side1 ?side2 A7.out).mono ?_); (case side1 => exact CX_ (Kd.C_below HR0.out HB.out)); (case side2 => exact HC0.out); rintro e w' ⟨rfl, ⟨nd, rfl⟩⟩; (try first | exact ⟨rfl, _, World.drewN_drewN _ _ _⟩ | exact ⟨rfl, _, Eq.trans (World.drewN_drewN _ _ _) (congrArg (World.drewN _) (Nat.add_assoc _ _ _))⟩))))
   go_meet
   case rel => exact ⟨_, (!t478), (by first | rfl | exact congrArg (fun b => Ending.returned (Value.bool b)) HR_.out | (simp; done) | (simp [*]; done)), H', ⟨by first | omega | exact Nat.le_refl _⟩, ⟨B_⟩⟩
  case rest =>
   clear HC4
   try clear c3
   obtain ⟨kq, x25_3, rfl, HA, HJ3, HB⟩ := hcut
   cases kq with
   | zero => exact absurd HA.out (by simp [locksteplaw08_PdomShut.j0])
   | succ kj3 =>
    have H := HA.out
    clear HA
    simp only [locksteplaw08_PdomShut.j0] at H
    by_cases c8 : x25_3 = true
    ·subst c8
     have H1 : (some true) = some true := rfl
     clear H
     have H := H1
     clear H1
     clear H
     go_wp2
     repeat (go_quiet (fail); try go_wp2)
     go_ret
     exact ⟨by first | rfl | exact congrArg (fun b => Ending.returned (Value.bool b)) HR_.out | (simp [errW_none, errW_some] <;> rfl) | (simp [*, errW_none, errW_some] <;> rfl), B_⟩
    replace c8 := Bool.eq_false_iff.mpr c8
    subst c8
    have H1 : ((graph_Make.f kj3 l0).bind fun bt479 => (if bt479.2.2 = 0 then ((pdom_Shut.f kj3 bt479.1 bt479.2.1).bind fun t490 => (locksteplaw08_PdomShut.l0 kj3 l0 t490 0 bt479.1 bt479.2.1)) else ((pdom_Shut.f kj3 bt479.1 bt479.2.1).bind fun t487 => (some ((t487.length : Int) == 0))))) = some true := by rw [if_neg (show ¬ (false = true) by decide)] at H; exact H
    clear H
    have H := H1
    clear H1
    replace H := Option.bind_eq_some_iff.mp H
    obtain ⟨⟨t479, t482, t485⟩, A90, H⟩ := H
    replace H : (if t485 = 0 then ((pdom_Shut.f kj3 t479 t482).bind fun t490 => (locksteplaw08_PdomShut.l0 kj3 l0 t490 0 t479 t482)) else ((pdom_Shut.f kj3 t479 t482).bind fun t487 => (some ((t487.length : Int) == 0)))) = some true := H
    have A9 := Aside0.mk A90
    clear A90
    by_cases c10 : t485 = 0
    ·rw [if_pos c10] at H
     have c10b0 : (t485 == 0) = true := beq_iff_eq.mpr c10
     have c10b1 : (t485 != 0) = false := bne_eq_false_iff_eq.mpr c10
     clear c10
     replace H := Option.bind_eq_some_iff.mp H
     obtain ⟨t490, A110, H⟩ := H
     replace H : (locksteplaw08_PdomShut.l0 kj3 l0 t490 0 t479 t482) = some true := H
     have A11 := Aside0.mk A110
     clear A110
     have H' := Aside0.mk H
     clear H
     go_wp2_with (first | (go_at_call 9; (with_reducible refine (graph_Make.calls kj3 _ _ l0 t479 t482 t485 _ ?side1 ?side2 A9.out).mono ?_); (case side1 => exact CX_ (Kd.C_below HR0.out HB.out)); (case side2 => exact HC0.out); rintro e w12 ⟨v480, v483, rfl, ho0, ho1, hb⟩; have n0_ := Aside0.mk (Kd.S_lower ho0 (below_size (B_))); have n1_ := Aside0.mk (Kd.S_lower ho1 (below_size (B_))); have n2_ := Aside0.mk (below_step (B_) hb); clear HB; have HO481 := n0_; have HO484 := n1_; have HB := n2_; clear n0_ n1_ n2_; (try clear hb); (try clear hb2); (try clear hk); (try clear hi); (try clear ho0); (try clear ho1)) | ((with_reducible refine gate_dst (N := 3) rfl ?_); (try (refine gate_guard (by rfl) ?_; dsimp only)); refine box_event ?hg (N := 3) ?hd (cs := #[.slice none 0 0, .slice none 0 0]) (t := 26) ?hr ?_; (case hd => rfl); (case hg => rfl); (case hr => first | (go_simp; done) | (go_simp; rfl)); intro gb486 hg w13 hbox hb; have n0_ := Aside0.mk (Kd.S_below (by exact SX_ HO481.out) hb); have n1_ := Aside0.mk (Kd.S_below (by exact SX_ HO484.out) hb); have n2_ := Aside0.mk (below_step (B_) hb); have n3_ := Aside0.mk (hbox); have n4_ := Aside0.mk ((by rw [hg]; exact (below_size (B_)) : w.heap.size ≤ gb486)); have n5_ := Aside0.mk ((by rw [hg]; exact (below_size (B_)) : w.heap.size ≤ gb486)); clear HO481; clear HO484; clear HB; have HO481 := n0_; have HO484 := n1_; have HB := n2_; have BK486 := n3_; have GW486 := n4_; have GE486 := n5_; clear n0_ n1_ n2_ n3_ n4_ n5_; clear hb hbox hg; obtain ⟨Ao14, co14, eo14⟩ := Kd.S_slice HO481.out; subst eo14; have hcz15_0 : w13.cell? ⟨gb486, 0, none⟩ = some (.slice none 0 0) := (blk_cell BK486.out 0).trans rfl; have hcz15_1 : w13.cell? ⟨gb486, 1, none⟩ = some (.slice none 0 0) := (blk_cell BK486.out 1).trans rfl; have hfz15_0 := blk_frozen BK486.out 0; have hfz15_1 := blk_frozen BK486.out 1; obtain ⟨Ao16, co16, eo16⟩ := Kd.S_slice HO484.out; subst eo16) | (go_at_call 14; (with_reducible refine (pdom_Shut.calls kj3 _ _ t479 _ _ t482 t490 _ ?side1 ?side2 ?side3 ?side4 A11.out).mono ?_); (case side1 => refine (Kd.S_reads' (e := 30) (base := w.heap.size) (ok := fun k_ => some k_ ≠ (.slice Ao16 t482.length co16 : Value).ownBlock) (n := t479.length) (c := co14) ?_).2.2; exact (by (with_reducible repeat (first | apply Kd.S_alloc | apply Kd.S_drewN | apply Kd.S_drew)); exact (Kd.S_mono (Kd.S_far (p := ⟨gb486, 1, none⟩) (Kd.S_far (p := ⟨gb486, 0, none⟩) (Kd.S_types HO481.out BK486.out (by decide)) (fun _ hk => hk.2) (.slice Ao14 t479.length co14)) (fun _ hk => hk.2) (.slice Ao16 t482.length co16)) (fun _ h_ => h_.1)))); (case side2 => exact (Kd.S_reads' HO481.out).2.1); (case side3 => refine (Kd.S_reads' (e := 30) (base := w.heap.size) (ok := fun k_ => some k_ ≠ (.slice Ao14 t479.length co14 : Value).ownBlock) (n := t482.length) (c := co16) ?_).2.2; exact (by (with_reducible repeat (first | apply Kd.S_alloc | apply Kd.S_drewN | apply Kd.S_drew)); exact (Kd.S_mono (Kd.S_far (p := ⟨gb486, 1, none⟩) (Kd.S_far (p := ⟨gb486, 0, none⟩) (Kd.S_types HO484.out BK486.out (by decide)) (fun _ hk => hk.2) (.slice Ao14 t479.length co14)) (fun _ hk => hk.2) (.slice Ao16 t482.length co16)) (fun _ h_ => h_.1)))); (case side4 => exact (Kd.S_reads' HO484.out).2.1); rintro e w17 ⟨v491, rfl, ho0, hb⟩; have n0_ := Aside0.mk (Kd.S_elder' (by (with_reducible repeat (first | apply Kd.S_alloc | apply Kd.S_drewN | apply Kd.S_drew)); exact (Kd.S_mono (Kd.S_far (p := ⟨gb486, 1, none⟩) (Kd.S_far (p := ⟨gb486, 0, none⟩) (Kd.S_types HO481.out BK486.out (by decide)) (fun _ hk => hk.2) (.slice Ao14 t479.length co14)) (fun _ hk => hk.2) (.slice Ao16 t482.length co16)) (fun _ h_ => h_.1))) (Kd.R_base ho0) hb); have n1_ := Aside0.mk (Kd.S_elder' (by (with_reducible repeat (first | apply Kd.S_alloc | apply Kd.S_drewN | apply Kd.S_drew)); exact (Kd.S_mono (Kd.S_far (p := ⟨gb486, 1, none⟩) (Kd.S_far (p := ⟨gb486, 0, none⟩) (Kd.S_types HO484.out BK486.out (by decide)) (fun _ hk => hk.2) (.slice Ao14 t479.length co14)) (fun _ hk => hk.2) (.slice Ao16 t482.length co16)) (fun _ h_ => h_.1))) (Kd.R_base ho0) hb); have n2_ := Aside0.mk (Kd.R_lower ho0 (below_size (B1_))); have n3_ := Aside0.mk (blk_below (g := gb486) (o := .cells #[.slice Ao14 t479.length co14, .slice Ao16 t482.length co16] 26 (0, 0)) (by (with_reducible repeat (first | refine blk_drewN ?_ _ | refine blk_drew ?_ | refine blk_alloc ?_ _)); refine blk_put (cs := #[.slice Ao14 t479.length co14, .slice none 0 0]) ?_ 1 _ rfl; (with_reducible repeat (first | refine blk_drewN ?_ _ | refine blk_drew ?_ | refine blk_alloc ?_ _)); refine blk_put (cs := #[.slice none 0 0, .slice none 0 0]) ?_ 0 _ rfl; exact KX_ BK486.out) hb); have n4_ := Aside0.mk (below_step (B1_) hb); clear HO481; clear HO484; clear BK486; clear HB; have HO481 := n0_; have HO484 := n1_; have HO492 := n2_; have BK486 := n3_; have HB := n4_; clear n0_ n1_ n2_ n3_ n4_; (try clear hb); (try clear hb2); (try clear hk); (try clear hi); (try clear ho0)))
     repeat (go_quiet (first | (go_at_call 9; (with_reducible refine (graph_Make.calls kj3 _ _ l0 t479 t482 t485 _ ?side1 ?side2 A9.out).mono ?_); (case side1 => exact CX_ (Kd.C_below HR0.out HB.out)); (case side2 => exact HC0.out); rintro e w12 ⟨v480, v483, rfl, ho0, ho1, hb⟩; have n0_ := Aside0.mk (Kd.S_lower ho0 (below_size (B_))); have n1_ := Aside0.mk (Kd.S_lower ho1 (below_size (B_))); have n2_ := Aside0.mk (below_step (B_) hb); clear HB; have HO481 := n0_; have HO484 := n1_; have HB := n2_; clear n0_ n1_ n2_; (try clear hb); (try clear hb2); (try clear hk); (try clear hi); (try clear ho0); (try clear ho1)) | ((with_reducible refine gate_dst (N := 3) rfl ?_); (try (refine gate_guard (by rfl) ?_; dsimp only)); refine box_event ?hg (N := 3) ?hd (cs := #[.slice none 0 0, .slice none 0 0]) (t := 26) ?hr ?_; (case hd => rfl); (case hg => rfl); (case hr => first | (go_simp; done) | (go_simp; rfl)); intro gb486 hg w13 hbox hb; have n0_ := Aside0.mk (Kd.S_below (by exact SX_ HO481.out) hb); have n1_ := Aside0.mk (Kd.S_below (by exact SX_ HO484.out) hb); have n2_ := Aside0.mk (below_step (B_) hb); have n3_ := Aside0.mk (hbox); have n4_ := Aside0.mk ((by rw [hg]; exact (below_size (B_)) : w.heap.size ≤ gb486)); have n5_ := Aside0.mk ((by rw [hg]; exact (below_size (B_)) : w.heap.size ≤ gb486)); clear HO481; clear HO484; clear HB; have HO481 := n0_; have HO484 := n1_; have HB := n2_; have BK486 := n3_; have GW486 := n4_; have GE486 := n5_; clear n0_ n1_ n2_ n3_ n4_ n5_; clear hb hbox hg; obtain ⟨Ao14, co14, eo14⟩ := Kd.S_slice HO481.out; subst eo14; have hcz15_0 : w13.cell? ⟨gb486, 0, none⟩ = some (.slice none 0 0) := (blk_cell BK486.out 0).trans rfl; have hcz15_1 : w13.cell? ⟨gb486, 1, none⟩ = some (.slice none 0 0) := (blk_cell BK486.out 1).trans rfl; have hfz15_0 := blk_frozen BK486.out 0; have hfz15_1 := blk_frozen BK486.out 1; obtain ⟨Ao16, co16, eo16⟩ := Kd.S_slice HO484.out; subst eo16) | (go_at_call 14; (with_reducible refine (pdom_Shut.calls kj3 _ _ t479 _ _ t482 t490 _ ?side1 ?side2 ?side3 ?side4 A11.out).mono ?_); (case side1 => refine (Kd.S_reads' (e := 30) (base := w.heap.size) (ok := fun k_ => some k_ ≠ (.slice Ao16 t482.length co16 : Value).ownBlock) (n := t479.length) (c := co14) ?_).2.2; exact (by (with_reducible repeat (first | apply Kd.S_alloc | apply Kd.S_drewN | apply Kd.S_drew)); exact (Kd.S_mono (Kd.S_far (p := ⟨gb486, 1, none⟩) (Kd.S_far (p := ⟨gb486, 0, none⟩) (Kd.S_types HO481.out BK486.out (by decide)) (fun _ hk => hk.2) (.slice Ao14 t479.length co14)) (fun _ hk => hk.2) (.slice Ao16 t482.length co16)) (fun _ h_ => h_.1)))); (case side2 => exact (Kd.S_reads' HO481.out).2.1); (case side3 => refine (Kd.S_reads' (e := 30) (base := w.heap.size) (ok := fun k_ => some k_ ≠ (.slice Ao14 t479.length co14 : Value).ownBlock) (n := t482.length) (c := co16) ?_).2.2; exact (by (with_reducible repeat (first | apply Kd.S_alloc | apply Kd.S_drewN | apply Kd.S_drew)); exact (Kd.S_mono (Kd.S_far (p := ⟨gb486, 1, none⟩) (Kd.S_far (p := ⟨gb486, 0, none⟩) (Kd.S_types HO484.out BK486.out (by decide)) (fun _ hk => hk.2) (.slice Ao14 t479.length co14)) (fun _ hk => hk.2) (.slice Ao16 t482.length co16)) (fun _ h_ => h_.1)))); (case side4 => exact (Kd.S_reads' HO484.out).2.1); rintro e w17 ⟨v491, rfl, ho0, hb⟩; have n0_ := Aside0.mk (Kd.S_elder' (by (with_reducible repeat (first | apply Kd.S_alloc | apply Kd.S_drewN | apply Kd.S_drew)); exact (Kd.S_mono (Kd.S_far (p := ⟨gb486, 1, none⟩) (Kd.S_far (p := ⟨gb486, 0, none⟩) (Kd.S_types HO481.out BK486.out (by decide)) (fun _ hk => hk.2) (.slice Ao14 t479.length co14)) (fun _ hk => hk.2) (.slice Ao16 t482.length co16)) (fun _ h_ => h_.1))) (Kd.R_base ho0) hb); have n1_ := Aside0.mk (Kd.S_elder' (by (with_reducible repeat (first | apply Kd.S_alloc | apply Kd.S_drewN | apply Kd.S_drew)); exact (Kd.S_mono (Kd.S_far (p := ⟨gb486, 1, none⟩) (Kd.S_far (p := ⟨gb486, 0, none⟩) (Kd.S_types HO484.out BK486.out (by decide)) (fun _ hk => hk.2) (.slice Ao14 t479.length co14)) (fun _ hk => hk.2) (.slice Ao16 t482.length co16)) (fun _ h_ => h_.1))) (Kd.R_base ho0) hb); have n2_ := Aside0.mk (Kd.R_lower ho0 (below_size (B1_))); have n3_ := Aside0.mk (blk_below (g := gb486) (o := .cells #[.slice Ao14 t479.length co14, .slice Ao16 t482.length co16] 26 (0, 0)) (by (with_reducible repeat (first | refine blk_drewN ?_ _ | refine blk_drew ?_ | refine blk_alloc ?_ _)); refine blk_put (cs := #[.slice Ao14 t479.length co14, .slice none 0 0]) ?_ 1 _ rfl; (with_reducible repeat (first | refine blk_drewN ?_ _ | refine blk_drew ?_ | refine blk_alloc ?_ _)); refine blk_put (cs := #[.slice none 0 0, .slice none 0 0]) ?_ 0 _ rfl; exact KX_ BK486.out) hb); have n4_ := Aside0.mk (below_step (B1_) hb); clear HO481; clear HO484; clear BK486; clear HB; have HO481 := n0_; have HO484 := n1_; have HO492 := n2_; have BK486 := n3_; have HB := n4_; clear n0_ n1_ n2_ n3_ n4_; (try clear hb); (try clear hb2); (try clear hk); (try clear hi); (try clear ho0))); try go_wp2_with (first | (go_at_call 9; (with_reducible refine (graph_Make.calls kj3 _ _ l0 t479 t482 t485 _ ?side1 ?side2 A9.out).mono ?_); (case side1 => exact CX_ (Kd.C_below HR0.out HB.out)); (case side2 => exact HC0.out); rintro e w12 ⟨v480, v483, rfl, ho0, ho1, hb⟩; have n0_ := Aside0.mk (Kd.S_lower ho0 (below_size (B_))); have n1_ := Aside0.mk (Kd.S_lower ho1 (below_size (B_))); have n2_ := Aside0.mk (below_step (B_) hb); clear HB; have HO481 := n0_; have HO484 := n1_; have HB := n2_; clear n0_ n1_ n2_; (try clear hb); (try clear hb2); (try clear hk); (try clear hi); (try clear ho0); (try clear ho1)) | ((with_reducible refine gate_dst (N := 3) rfl ?_); (try (refine gate_guard (by rfl) ?_; dsimp only)); refine box_event ?hg (N := 3) ?hd (cs := #[.slice none 0 0, .slice none 0 0]) (t := 26) ?hr ?_; (case hd => rfl); (case hg => rfl); (case hr => first | (go_simp; done) | (go_simp; rfl)); intro gb486 hg w13 hbox hb; have n0_ := Aside0.mk (Kd.S_below (by exact SX_ HO481.out) hb); have n1_ := Aside0.mk (Kd.S_below (by exact SX_ HO484.out) hb); have n2_ := Aside0.mk (below_step (B_) hb); have n3_ := Aside0.mk (hbox); have n4_ := Aside0.mk ((by rw [hg]; exact (below_size (B_)) : w.heap.size ≤ gb486)); have n5_ := Aside0.mk ((by rw [hg]; exact (below_size (B_)) : w.heap.size ≤ gb486)); clear HO481; clear HO484; clear HB; have HO481 := n0_; have HO484 := n1_; have HB := n2_; have BK486 := n3_; have GW486 := n4_; have GE486 := n5_; clear n0_ n1_ n2_ n3_ n4_ n5_; clear hb hbox hg; obtain ⟨Ao14, co14, eo14⟩ := Kd.S_slice HO481.out; subst eo14; have hcz15_0 : w13.cell? ⟨gb486, 0, none⟩ = some (.slice none 0 0) := (blk_cell BK486.out 0).trans rfl; have hcz15_1 : w13.cell? ⟨gb486, 1, none⟩ = some (.slice none 0 0) := (blk_cell BK486.out 1).trans rfl; have hfz15_0 := blk_frozen BK486.out 0; have hfz15_1 := blk_frozen BK486.out 1; obtain ⟨Ao16, co16, eo16⟩ := Kd.S_slice HO484.out; subst eo16) | (go_at_call 14; (with_reducible refine (pdom_Shut.calls kj3 _ _ t479 _ _ t482 t490 _ ?side1 ?side2 ?side3 ?side4 A11.out).mono ?_); (case side1 => refine (Kd.S_reads' (e := 30) (base := w.heap.size) (ok := fun k_ => some k_ ≠ (.slice Ao16 t482.length co16 : Value).ownBlock) (n := t479.length) (c := co14) ?_).2.2; exact (by (with_reducible repeat (first | apply Kd.S_alloc | apply Kd.S_drewN | apply Kd.S_drew)); exact (Kd.S_mono (Kd.S_far (p := ⟨gb486, 1, none⟩) (Kd.S_far (p := ⟨gb486, 0, none⟩) (Kd.S_types HO481.out BK486.out (by decide)) (fun _ hk => hk.2) (.slice Ao14 t479.length co14)) (fun _ hk => hk.2) (.slice Ao16 t482.length co16)) (fun _ h_ => h_.1)))); (case side2 => exact (Kd.S_reads' HO481.out).2.1); (case side3 => refine (Kd.S_reads' (e := 30) (base := w.heap.size) (ok := fun k_ => some k_ ≠ (.slice Ao14 t479.length co14 : Value).ownBlock) (n := t482.length) (c := co16) ?_).2.2; exact (by (with_reducible repeat (first | apply Kd.S_alloc | apply Kd.S_drewN | apply Kd.S_drew)); exact (Kd.S_mono (Kd.S_far (p := ⟨gb486, 1, none⟩) (Kd.S_far (p := ⟨gb486, 0, none⟩) (Kd.S_types HO484.out BK486.out (by decide)) (fun _ hk => hk.2) (.slice Ao14 t479.length co14)) (fun _ hk => hk.2) (.slice Ao16 t482.length co16)) (fun _ h_ => h_.1)))); (case side4 => exact (Kd.S_reads' HO484.out).2.1); rintro e w17 ⟨v491, rfl, ho0, hb⟩; have n0_ := Aside0.mk (Kd.S_elder' (by (with_reducible repeat (first | apply Kd.S_alloc | apply Kd.S_drewN | apply Kd.S_drew)); exact (Kd.S_mono (Kd.S_far (p := ⟨gb486, 1, none⟩) (Kd.S_far (p := ⟨gb486, 0, none⟩) (Kd.S_types HO481.out BK486.out (by decide)) (fun _ hk => hk.2) (.slice Ao14 t479.length co14)) (fun _ hk => hk.2) (.slice Ao16 t482.length co16)) (fun _ h_ => h_.1))) (Kd.R_base ho0) hb); have n1_ := Aside0.mk (Kd.S_elder' (by (with_reducible repeat (first | apply Kd.S_alloc | apply Kd.S_drewN | apply Kd.S_drew)); exact (Kd.S_mono (Kd.S_far (p := ⟨gb486, 1, none⟩) (Kd.S_far (p := ⟨gb486, 0, none⟩) (Kd.S_types HO484.out BK486.out (by decide)) (fun _ hk => hk.2) (.slice Ao14 t479.length co14)) (fun _ hk => hk.2) (.slice Ao16 t482.length co16)) (fun _ h_ => h_.1))) (Kd.R_base ho0) hb); have n2_ := Aside0.mk (Kd.R_lower ho0 (below_size (B1_))); have n3_ := Aside0.mk (blk_below (g := gb486) (o := .cells #[.slice Ao14 t479.length co14, .slice Ao16 t482.length co16] 26 (0, 0)) (by (with_reducible repeat (first | refine blk_drewN ?_ _ | refine blk_drew ?_ | refine blk_alloc ?_ _)); refine blk_put (cs := #[.slice Ao14 t479.length co14, .slice none 0 0]) ?_ 1 _ rfl; (with_reducible repeat (first | refine blk_drewN ?_ _ | refine blk_drew ?_ | refine blk_alloc ?_ _)); refine blk_put (cs := #[.slice none 0 0, .slice none 0 0]) ?_ 0 _ rfl; exact KX_ BK486.out) hb); have n4_ := Aside0.mk (below_step (B1_) hb); clear HO481; clear HO484; clear BK486; clear HB; have HO481 := n0_; have HO484 := n1_; have HO492 := n2_; have BK486 := n3_; have HB := n4_; clear n0_ n1_ n2_ n3_ n4_; (try clear hb); (try clear hb2); (try clear hk); (try clear hi); (try clear ho0))))
     go_loopg [6] kj3 (fun kq v6 w' => ∃ (x6_2 : Int), v6 = .int .i64 x6_2 ∧ Aside0 (locksteplaw08_PdomShut.l0 kq l0 t490 x6_2 t479 t482 = some true) ∧ Aside0 (kq ≤ kj3) ∧ Aside0 (Kd.R (Kd.int .i64) 3 w' w.heap.size (fun _ => True) v491 t490) ∧ Aside0 (Kd.S (Kd.slice 3 (Kd.int .i64)) 30 w' w.heap.size (fun k_ => some k_ ≠ (v491 : Value).ownBlock ∧ some k_ ≠ ((.slice Ao16 t482.length co16) : Value).ownBlock) (.slice Ao14 t479.length co14) t479) ∧ Aside0 (Kd.S (Kd.slice 3 (Kd.int .i64)) 30 w' w.heap.size (fun k_ => some k_ ≠ (v491 : Value).ownBlock ∧ some k_ ≠ ((.slice Ao14 t479.length co14) : Value).ownBlock) (.slice Ao16 t482.length co16) t482) ∧ Aside0 (w'.heap[gb486]? = some (.cells #[(.slice Ao14 t479.length co14), (.slice Ao16 t482.length co16)] 26 (0, 0))) ∧ Aside0 (Below w.heap.size w w'))
     case atStart => exact ⟨(0), (by first | rfl | exact congrArg (fun b => Ending.returned (Value.bool b)) HR_.out | (simp; done) | (simp [*]; done)), H', ⟨Nat.le_refl _⟩, ⟨by exact RM_ HO492.out⟩, ⟨by (with_reducible repeat (first | apply Kd.S_alloc | apply Kd.S_drewN | apply Kd.S_drew)); exact Kd.S_mono HO481.out (fun _ hk => ⟨hk.2, hk.1⟩)⟩, ⟨by (with_reducible repeat (first | apply Kd.S_alloc | apply Kd.S_drewN | apply Kd.S_drew)); exact Kd.S_mono HO484.out (fun _ hk => ⟨hk.2, hk.1⟩)⟩, ⟨by exact KX_ BK486.out⟩, ⟨B1_⟩⟩
     case round =>
      clear H'
      try clear c8
      try clear c10b0
      try clear c10b1
      try clear hcz15_0
      try clear hcz15_1
      try clear hfz15_0
      try clear hfz15_1
      obtain ⟨x6_2, rfl, HA, HK2, HO_5, HO_487000, HO_487001, BK486, HB⟩ := hrel
      cases gk with
      | zero => exact absurd HA.out (by simp [locksteplaw08_PdomShut.l0])
      | succ k2 =>
       have H := HA.out
       clear HA
       simp only [locksteplaw08_PdomShut.l0] at H
       by_cases c18 : x6_2 < (l0.length : Int)
       ·rw [if_pos c18] at H
        have c18b0 : decide (x6_2 < (l0.length : Int)) = true := decide_eq_true c18
        clear c18
        replace H := Option.bind_eq_some_iff.mp H
        obtain ⟨t493, A190, H⟩ := H
        replace H : (if 0 ≤ x6_2 then (locksteplaw08_PdomShut.l1 k2 l0 t490 x6_2 t493 (decide (((rd_L1 l0 x6_2).length : Int) > 0)) 0 t479 t482) else (none)) = some true := H
        have A19 := Aside0.mk A190
        clear A190
        by_cases c20 : 0 ≤ x6_2
        ·rw [if_pos c20] at H
         have c20b0 : decide (0 ≤ x6_2) = true := decide_eq_true c20
         clear c20
         have H' := Aside0.mk H
         clear H
         obtain ⟨Ao21, co21, eo21⟩ := Kd.R_slice HO_5.out
         subst eo21
         go_wp2_with (first | (go_at_call 15; (with_reducible refine (lockstepref06_Has.calls k2 _ _ t490 x6_2 t493 _ ?side1 ?side2 A19.out).mono ?_); (case side1 => repeat (first | exact (Kd.R_reads' HO_5.out).2.2 | (with_reducible refine Kd.C_alloc ?_ _) | (with_reducible refine Kd.C_drewN ?_ _) | (with_reducible refine Kd.C_drew ?_))); (case side2 => exact (Kd.R_reads' HO_5.out).2.1); rintro e w' ⟨rfl, ⟨nd, rfl⟩⟩; (try first | exact ⟨rfl, _, World.drewN_drewN _ _ _⟩ | exact ⟨rfl, _, Eq.trans (World.drewN_drewN _ _ _) (congrArg (World.drewN _) (Nat.add_assoc _ _ _))⟩); have p494 : 0 ≤ (x6_2 : Int) := D_; have q494 : x6_2 < (l0.length : Int) := D_; obtain ⟨ad494, A494_0, c494_0, e494, hx494_0, hl494_0, hi494_0⟩ := at_L1 HR0.out x6_2 p494 q494; cases e494; replace hx494_0 := (HB.out.cell (World.block_lt_of_cell? w _ hx494_0)).trans hx494_0; have HR494_0 := Aside0.mk hi494_0; have HC494_0 := Aside0.mk hl494_0; clear hi494_0 hl494_0; replace p494 := eq_true p494; replace q494 := eq_true q494))
         repeat (go_quiet (first | (go_at_call 15; (with_reducible refine (lockstepref06_Has.calls k2 _ _ t490 x6_2 t493 _ ?side1 ?side2 A19.out).mono ?_); (case side1 => repeat (first | exact (Kd.R_reads' HO_5.out).2.2 | (with_reducible refine Kd.C_alloc ?_ _) | (with_reducible refine Kd.C_drewN ?_ _) | (with_reducible refine Kd.C_drew ?_))); (case side2 => exact (Kd.R_reads' HO_5.out).2.1); rintro e w' ⟨rfl, ⟨nd, rfl⟩⟩; (try first | exact ⟨rfl, _, World.drewN_drewN _ _ _⟩ | exact ⟨rfl, _, Eq.trans (World.drewN_drewN _ _ _) (congrArg (World.drewN _) (Nat.add_assoc _ _ _))⟩); have p494 : 0 ≤ (x6_2 : Int) := D_; have q494 : x6_2 < (l0.length : Int) := D_; obtain ⟨ad494, A494_0, c494_0, e494, hx494_0, hl494_0, hi494_0⟩ := at_L1 HR0.out x6_2 p494 q494; cases e494; replace hx494_0 := (HB.out.cell (World.block_lt_of_cell? w _ hx494_0)).trans hx494_0; have HR494_0 := Aside0.mk hi494_0; have HC494_0 := Aside0.mk hl494_0; clear hi494_0 hl494_0; replace p494 := eq_true p494; replace q494 := eq_true q494)); try go_wp2_with (first | (go_at_call 15; (with_reducible refine (lockstepref06_Has.calls k2 _ _ t490 x6_2 t493 _ ?side1 ?side2 A19.out).mono ?_); (case side1 => repeat (first | exact (Kd.R_reads' HO_5.out).2.2 | (with_reducible refine Kd.C_alloc ?_ _) | (with_reducible refine Kd.C_drewN ?_ _) | (with_reducible refine Kd.C_drew ?_))); (case side2 => exact (Kd.R_reads' HO_5.out).2.1); rintro e w' ⟨rfl, ⟨nd, rfl⟩⟩; (try first | exact ⟨rfl, _, World.drewN_drewN _ _ _⟩ | exact ⟨rfl, _, Eq.trans (World.drewN_drewN _ _ _) (congrArg (World.drewN _) (Nat.add_assoc _ _ _))⟩); have p494 : 0 ≤ (x6_2 : Int) := D_; have q494 : x6_2 < (l0.length : Int) := D_; obtain ⟨ad494, A494_0, c494_0, e494, hx494_0, hl494_0, hi494_0⟩ := at_L1 HR0.out x6_2 p494 q494; cases e494; replace hx494_0 := (HB.out.cell (World.block_lt_of_cell? w _ hx494_0)).trans hx494_0; have HR494_0 := Aside0.mk hi494_0; have HC494_0 := Aside0.mk hl494_0; clear hi494_0 hl494_0; replace p494 := eq_true p494; replace q494 := eq_true q494)))
         go_loopg [8, 9] k2 (fun kq v8 v9 w' => ∃ (x8_3 : Bool) (x9_3 : Int), v8 = .bool x8_3 ∧ v9 = .int .i64 x9_3 ∧ Aside0 (locksteplaw08_PdomShut.l1 kq l0 t490 x6_2 t493 x8_3 x9_3 t479 t482 = some true) ∧ Aside0 (kq ≤ k2) ∧ Aside0 (Kd.R (Kd.int .i64) 3 w' w.heap.size (fun _ => True) (.slice Ao21 t490.length co21) t490) ∧ Aside0 (Kd.S (Kd.slice 3 (Kd.int .i64)) 30 w' w.heap.size (fun k_ => some k_ ≠ ((.slice Ao21 t490.length co21) : Value).ownBlock ∧ some k_ ≠ ((.slice Ao16 t482.length co16) : Value).ownBlock) (.slice Ao14 t479.length co14) t479) ∧ Aside0 (Kd.S (Kd.slice 3 (Kd.int .i64)) 30 w' w.heap.size (fun k_ => some k_ ≠ ((.slice Ao21 t490.length co21) : Value).ownBlock ∧ some k_ ≠ ((.slice Ao14 t479.length co14) : Value).ownBlock) (.slice Ao16 t482.length co16) t482) ∧ Aside0 (w'.heap[gb486]? = some (.cells #[(.slice Ao14 t479.length co14), (.slice Ao16 t482.length co16)] 26 (0, 0))) ∧ Aside0 (Below w.heap.size w w'))
         case atStart => exact ⟨(decide (((rd_L1 l0 x6_2).length : Int) > 0)), (0), (by first | rfl | exact congrArg (fun b => Ending.returned (Value.bool b)) HR_.out | (simp; done) | (simp [*]; done)), (by first | rfl | exact congrArg (fun b => Ending.returned (Value.bool b)) HR_.out | (simp; done) | (simp [*]; done)), H', ⟨Nat.le_refl _⟩, ⟨by exact RM_ HO_5.out⟩, ⟨by exact SM_ HO_487000.out⟩, ⟨by exact SM_ HO_487001.out⟩, ⟨by exact KX_ BK486.out⟩, ⟨B1_⟩⟩
         case round =>
          clear H'
          try clear c18b0
          try clear c20b0
          try clear hx494_0
          try clear p494
          try clear q494
          obtain ⟨x8_3, x9_3, rfl, rfl, HA, HK3, HO_5, HO_487000, HO_487001, BK486, HB⟩ := hrel
          cases gk with
          | zero => exact absurd HA.out (by simp [locksteplaw08_PdomShut.l1])
          | succ k3 =>
           have H := HA.out
           clear HA
           simp only [locksteplaw08_PdomShut.l1] at H
           by_cases c22 : 0 ≤ x6_2
           ·rw [if_pos c22] at H
            have c22b0 : decide (0 ≤ x6_2) = true := decide_eq_true c22
            clear c22
            by_cases c23 : x6_2 < (l0.length : Int)
            ·rw [if_pos c23] at H
             have c23b0 : decide (x6_2 < (l0.length : Int)) = true := decide_eq_true c23
             clear c23
             by_cases c24 : x9_3 < ((rd_L1 l0 x6_2).length : Int)
             ·rw [if_pos c24] at H
              have c24b0 : decide (x9_3 < ((rd_L1 l0 x6_2).length : Int)) = true := decide_eq_true c24
              clear c24
              by_cases c25 : x8_3 = true
              ·subst c25
               have H1 : (if 0 ≤ x9_3 then ((lockstepref06_Has.f k3 t490 (rd (rd_L1 l0 x6_2) x9_3)).bind fun t498 => (locksteplaw08_PdomShut.l1 k3 l0 t490 x6_2 t493 t498 (wrap64 (x9_3 + 1)) t479 t482)) else (none)) = some true := by rw [if_pos rfl] at H; exact H
               clear H
               have H := H1
               clear H1
               by_cases c26 : 0 ≤ x9_3
               ·rw [if_pos c26] at H
                have c26b0 : decide (0 ≤ x9_3) = true := decide_eq_true c26
                clear c26
                replace H := Option.bind_eq_some_iff.mp H
                obtain ⟨t498, A270, H⟩ := H
                replace H : (locksteplaw08_PdomShut.l1 k3 l0 t490 x6_2 t493 t498 (wrap64 (x9_3 + 1)) t479 t482) = some true := H
                have A27 := Aside0.mk A270
                clear A270
                have H' := Aside0.mk H
                clear H
                have p495 : 0 ≤ (x6_2 : Int) := D_
                have q495 : x6_2 < (l0.length : Int) := D_
                obtain ⟨ad495, A495_0, c495_0, e495, hx495_0, hl495_0, hi495_0⟩ := at_L1 HR0.out x6_2 p495 q495
                obtain rfl : ad494 = ad495 := (by injection e495)
                replace hx495_0 := (HB.out.cell (World.block_lt_of_cell? w _ hx495_0)).trans hx495_0
                have HR495_0 := Aside0.mk hi495_0
                have HC495_0 := Aside0.mk hl495_0
                clear hi495_0 hl495_0
                replace p495 := eq_true p495
                replace q495 := eq_true q495
                have p496 : 0 ≤ (x6_2 : Int) := D_
                have q496 : x6_2 < (l0.length : Int) := D_
                obtain ⟨ad496, A496_0, c496_0, e496, hx496_0, hl496_0, hi496_0⟩ := at_L1 HR0.out x6_2 p496 q496
                obtain rfl : ad494 = ad496 := (by injection e496)
                replace hx496_0 := (HB.out.cell (World.block_lt_of_cell? w _ hx496_0)).trans hx496_0
                have HR496_0 := Aside0.mk hi496_0
                have HC496_0 := Aside0.mk hl496_0
                clear hi496_0 hl496_0
                replace p496 := eq_true p496
                replace q496 := eq_true q496
                have ea_ := Option.some.inj (hx495_0.symm.trans hx496_0)
                injection ea_ with ea_ en_ ec_
                subst ea_
                subst ec_
                clear en_
                have p497 : 0 ≤ (x9_3 : Int) := D_
                have q497 : x9_3 < ((rd_L1 l0 x6_2).length : Int) := D_
                obtain ⟨ad497, e497, hx497_0⟩ := Kd.at_int HR496_0.out x9_3 p497 q497
                cases e497
                replace hx497_0 := (HB.out.cell (World.block_lt_of_cell? w _ hx497_0)).trans hx497_0
                replace p497 := eq_true p497
                replace q497 := eq_true q497
                go_wp2_with (first | (go_at_call 15; (with_reducible refine (lockstepref06_Has.calls k3 _ _ t490 (rd (rd_L1 l0 x6_2) x9_3) t498 _ ?side1 ?side2 A27.out).mono ?_); (case side1 => repeat (first | exact (Kd.R_reads' HO_5.out).2.2 | (with_reducible refine Kd.C_alloc ?_ _) | (with_reducible refine Kd.C_drewN ?_ _) | (with_reducible refine Kd.C_drew ?_))); (case side2 => exact (Kd.R_reads' HO_5.out).2.1); rintro e w' ⟨rfl, ⟨nd, rfl⟩⟩; (try first | exact ⟨rfl, _, World.drewN_drewN _ _ _⟩ | exact ⟨rfl, _, Eq.trans (World.drewN_drewN _ _ _) (congrArg (World.drewN _) (Nat.add_assoc _ _ _))⟩)))
                repeat (go_quiet (first | (go_at_call 15; (with_reducible refine (lockstepref06_Has.calls k3 _ _ t490 (rd (rd_L1 l0 x6_2) x9_3) t498 _ ?side1 ?side2 A27.out).mono ?_); (case side1 => repeat (first | exact (Kd.R_reads' HO_5.out).2.2 | (with_reducible refine Kd.C_alloc ?_ _) | (with_reducible refine Kd.C_drewN ?_ _) | (with_reducible refine Kd.C_drew ?_))); (case side2 => exact (Kd.R_reads' HO_5.out).2.1); rintro e w' ⟨rfl, ⟨nd, rfl⟩⟩; (try first | exact ⟨rfl, _, World.drewN_drewN _ _ _⟩ | exact ⟨rfl, _, Eq.trans (World.drewN_drewN _ _ _) (congrArg (World.drewN _) (Nat.add_assoc _ _ _))⟩))); try go_wp2_with (first | (go_at_call 15; (with_reducible refine (lockstepref06_Has.calls k3 _ _ t490 (rd (rd_L1 l0 x6_2) x9_3) t498 _ ?side1 ?side2 A27.out).mono ?_); (case side1 => repeat (first | exact (Kd.R_reads' HO_5.out).2.2 | (with_reducible refine Kd.C_alloc ?_ _) | (with_reducible refine Kd.C_drewN ?_ _) | (with_reducible refine Kd.C_drew ?_))); (case side2 => exact (Kd.R_reads' HO_5.out).2.1); rintro e w' ⟨rfl, ⟨nd, rfl⟩⟩; (try first | exact ⟨rfl, _, World.drewN_drewN _ _ _⟩ | exact ⟨rfl, _, Eq.trans (World.drewN_drewN _ _ _) (congrArg (World.drewN _) (Nat.add_assoc _ _ _))⟩))))
                go_roundg k3
                case measure => have := HJ3.out; have := HK2.out; have := HK3.out; omega
                case rel => exact ⟨(t498), (wrap64 (x9_3 + 1)), (by first | rfl | exact congrArg (fun b => Ending.returned (Value.bool b)) HR_.out | (simp; done) | (simp [*]; done)), (by first | rfl | exact congrArg (fun b => Ending.returned (Value.bool b)) HR_.out | (simp; done) | (simp [*]; done)), H', ⟨by have := HJ3.out; have := HK2.out; have := HK3.out; omega⟩, ⟨by exact RM_ HO_5.out⟩, ⟨by exact SM_ HO_487000.out⟩, ⟨by exact SM_ HO_487001.out⟩, ⟨by exact KX_ BK486.out⟩, ⟨B1_⟩⟩
               rw [if_neg c26] at H
               exact absurd H (by simp)
              replace c25 := Bool.eq_false_iff.mpr c25
              subst c25
              have H1 : (locksteplaw08_PdomShut.l1 k3 l0 t490 x6_2 t493 false (wrap64 (x9_3 + 1)) t479 t482) = some true := by rw [if_neg (show ¬ (false = true) by decide)] at H; exact H
              clear H
              have H := H1
              clear H1
              have H' := Aside0.mk H
              clear H
              have p495 : 0 ≤ (x6_2 : Int) := D_
              have q495 : x6_2 < (l0.length : Int) := D_
              obtain ⟨ad495, A495_0, c495_0, e495, hx495_0, hl495_0, hi495_0⟩ := at_L1 HR0.out x6_2 p495 q495
              obtain rfl : ad494 = ad495 := (by injection e495)
              replace hx495_0 := (HB.out.cell (World.block_lt_of_cell? w _ hx495_0)).trans hx495_0
              have HR495_0 := Aside0.mk hi495_0
              have HC495_0 := Aside0.mk hl495_0
              clear hi495_0 hl495_0
              replace p495 := eq_true p495
              replace q495 := eq_true q495
              go_wp2
              repeat (go_quiet (fail); try go_wp2)
              go_roundg k3
              case measure => have := HJ3.out; have := HK2.out; have := HK3.out; omega
              case rel => exact ⟨(false), (wrap64 (x9_3 + 1)), (by first | rfl | exact congrArg (fun b => Ending.returned (Value.bool b)) HR_.out | (simp; done) | (simp [*]; done)), (by first | rfl | exact congrArg (fun b => Ending.returned (Value.bool b)) HR_.out | (simp; done) | (simp [*]; done)), H', ⟨by have := HJ3.out; have := HK2.out; have := HK3.out; omega⟩, ⟨by exact RM_ HO_5.out⟩, ⟨by exact SM_ HO_487000.out⟩, ⟨by exact SM_ HO_487001.out⟩, ⟨by exact KX_ BK486.out⟩, ⟨B1_⟩⟩
             rw [if_neg c24] at H
             have c24b0 : decide (x9_3 < ((rd_L1 l0 x6_2).length : Int)) = false := decide_eq_false c24
             clear c24
             by_cases c28 : (t493 != x8_3) = true
             ·rw [if_pos c28] at H
              have c28b0 : (t493 != x8_3) = true := c28
              (try (have c28b1 : decide (t493 = x8_3) = false := by simpa using c28))
              (try (have c28b2 : (t493 == x8_3) = false := by simpa using c28))
              (try (have c28b3 : ¬ (t493 = x8_3) := by simpa using c28))
              clear c28
              exact absurd H (by simp)
             rw [if_neg c28] at H
             have c28b0 : (t493 != x8_3) = false := by simpa using c28
             (try (have c28b1 : decide (t493 = x8_3) = true := by simpa using c28))
             (try (have c28b2 : (t493 == x8_3) = true := by simpa using c28))
             clear c28
             have H' := Aside0.mk H
             clear H
             have p495 : 0 ≤ (x6_2 : Int) := D_
             have q495 : x6_2 < (l0.length : Int) := D_
             obtain ⟨ad495, A495_0, c495_0, e495, hx495_0, hl495_0, hi495_0⟩ := at_L1 HR0.out x6_2 p495 q495
             obtain rfl : ad494 = ad495 := (by injection e495)
             replace hx495_0 := (HB.out.cell (World.block_lt_of_cell? w _ hx495_0)).trans hx495_0
             have HR495_0 := Aside0.mk hi495_0
             have HC495_0 := Aside0.mk hl495_0
             clear hi495_0 hl495_0
             replace p495 := eq_true p495
             replace q495 := eq_true q495
             go_wp2
             repeat (go_quiet (fail); try go_wp2)
             go_roundg k3
             case measure => have := HJ3.out; have := HK2.out; have := HK3.out; omega
             case rel => exact ⟨(wrap64 (x6_2 + 1)), (by first | rfl | exact congrArg (fun b => Ending.returned (Value.bool b)) HR_.out | (simp; done) | (simp [*]; done)), H', ⟨by have := HJ3.out; have := HK2.out; have := HK3.out; omega⟩, ⟨by exact RM_ HO_5.out⟩, ⟨by exact SM_ HO_487000.out⟩, ⟨by exact SM_ HO_487001.out⟩, ⟨by exact KX_ BK486.out⟩, ⟨B1_⟩⟩
            rw [if_neg c23] at H
            exact absurd H (by simp)
           rw [if_neg c22] at H
           exact absurd H (by simp)
        rw [if_neg c20] at H
        exact absurd H (by simp)
       rw [if_neg c18] at H
       have c18b0 : decide (x6_2 < (l0.length : Int)) = false := decide_eq_false c18
       clear c18
       replace H := Option.bind_eq_some_iff.mp H
       obtain ⟨⟨t499, t502, t505⟩, A290, H⟩ := H
       replace H : (locksteplaw08_PdomShut.l2 k2 l0 t490 t505 0 0 t499 t502) = some true := H
       have A29 := Aside0.mk A290
       clear A290
       have H' := Aside0.mk H
       clear H
       have hcz30_0 : wr.cell? ⟨gb486, 0, none⟩ = some (.slice Ao14 t479.length co14) := (blk_cell BK486.out 0).trans rfl
       have hcz30_1 : wr.cell? ⟨gb486, 1, none⟩ = some (.slice Ao16 t482.length co16) := (blk_cell BK486.out 1).trans rfl
       have hfz30_0 := blk_frozen BK486.out 0
       have hfz30_1 := blk_frozen BK486.out 1
       go_wp2_with (first | (go_at_call 11; (with_reducible refine (pdom_Exit.calls k2 _ _ t479 _ _ t482 t499 t502 t505 _ ?side1 ?side2 ?side3 ?side4 A29.out).mono ?_); (case side1 => repeat (first | exact (Kd.S_reads' HO_487000.out).2.2 | (with_reducible refine Kd.C_alloc ?_ _) | (with_reducible refine Kd.C_drewN ?_ _) | (with_reducible refine Kd.C_drew ?_))); (case side2 => exact (Kd.S_reads' HO_487000.out).2.1); (case side3 => repeat (first | exact (Kd.S_reads' HO_487001.out).2.2 | (with_reducible refine Kd.C_alloc ?_ _) | (with_reducible refine Kd.C_drewN ?_ _) | (with_reducible refine Kd.C_drew ?_))); (case side4 => exact (Kd.S_reads' HO_487001.out).2.1); rintro e w31 ⟨v500, v503, rfl, ho0, ho1, hb⟩; have n0_ := Aside0.mk (Kd.R_below (by exact RX_ HO_5.out) hb); have n1_ := Aside0.mk (Kd.S_mono (Kd.S_told (Kd.S_told (Kd.S_old (by exact SX_ HO_487000.out) hb) (Kd.S_base ho0)) (Kd.S_base ho1)) (fun _ h_ => h_.1)); have n2_ := Aside0.mk (Kd.S_mono (Kd.S_told (Kd.S_told (Kd.S_old (by exact SX_ HO_487001.out) hb) (Kd.S_base ho0)) (Kd.S_base ho1)) (fun _ h_ => h_.1)); have n3_ := Aside0.mk (Kd.S_lower (Kd.S_new' (Kd.S_new' (Kd.S_new' ho0 (Kd.R_lt (by exact RX_ HO_5.out))) (Kd.S_lt (by exact SX_ HO_487000.out))) (Kd.S_lt (by exact SX_ HO_487001.out))) (below_size (B1_))); have n4_ := Aside0.mk (Kd.S_lower (Kd.S_new' (Kd.S_new' (Kd.S_new' ho1 (Kd.R_lt (by exact RX_ HO_5.out))) (Kd.S_lt (by exact SX_ HO_487000.out))) (Kd.S_lt (by exact SX_ HO_487001.out))) (below_size (B1_))); have n5_ := Aside0.mk (blk_below (g := gb486) (o := .cells #[.slice Ao14 t479.length co14, .slice Ao16 t482.length co16] 26 (0, 0)) (by exact KX_ BK486.out) hb); have n6_ := Aside0.mk (below_step (B1_) hb); clear HO_5; clear HO_487000; clear HO_487001; clear BK486; clear HB; have HO_5 := n0_; have HO_487000 := n1_; have HO_487001 := n2_; have HO501 := n3_; have HO504 := n4_; have BK486 := n5_; have HB := n6_; clear n0_ n1_ n2_ n3_ n4_ n5_ n6_; (try clear hb); (try clear hb2); (try clear hk); (try clear hi); (try clear ho0); (try clear ho1)) | ((with_reducible refine gate_dst (N := 10) rfl ?_); (try (refine gate_guard (by rfl) ?_; dsimp only)); refine box_event ?hg (N := 10) ?hd (cs := #[.slice none 0 0, .slice none 0 0]) (t := 26) ?hr ?_; (case hd => rfl); (case hg => rfl); (case hr => first | (go_simp; done) | (go_simp; rfl)); intro gb506 hg w32 hbox hb; have n0_ := Aside0.mk (Kd.R_below (by exact RX_ HO_5.out) hb); have n1_ := Aside0.mk (Kd.S_below (by exact SX_ HO_487000.out) hb); have n2_ := Aside0.mk (Kd.S_below (by exact SX_ HO_487001.out) hb); have n3_ := Aside0.mk (Kd.S_below (by exact SX_ HO501.out) hb); have n4_ := Aside0.mk (Kd.S_below (by exact SX_ HO504.out) hb); have n5_ := Aside0.mk (blk_below (g := gb486) (o := .cells #[.slice Ao14 t479.length co14, .slice Ao16 t482.length co16] 26 (0, 0)) (by exact KX_ BK486.out) hb); have n6_ := Aside0.mk (below_step (B1_) hb); have n7_ := Aside0.mk (hbox); have n8_ := Aside0.mk ((by rw [hg]; exact (below_size (B1_)) : w.heap.size ≤ gb506)); have n9_ := Aside0.mk ((by rw [hg]; exact (below_size (B1_)) : w.heap.size ≤ gb506)); have n10_ := Aside0.mk ((by rw [hg]; exact Nat.ne_of_lt (blk_lt (g := gb486) (o := .cells #[.slice Ao14 t479.length co14, .slice Ao16 t482.length co16] 26 (0, 0)) (by exact KX_ BK486.out)) : gb486 ≠ gb506)); have n11_ := Aside0.mk ((by rw [hg]; exact Nat.ne_of_gt (blk_lt (g := gb486) (o := .cells #[.slice Ao14 t479.length co14, .slice Ao16 t482.length co16] 26 (0, 0)) (by exact KX_ BK486.out)) : gb506 ≠ gb486)); clear HO_5; clear HO_487000; clear HO_487001; clear HO501; clear HO504; clear BK486; clear HB; have HO_5 := n0_; have HO_487000 := n1_; have HO_487001 := n2_; have HO501 := n3_; have HO504 := n4_; have BK486 := n5_; have HB := n6_; have BK506 := n7_; have GW506 := n8_; have GE506 := n9_; have NB486_506 := n10_; have NB506_486 := n11_; clear n0_ n1_ n2_ n3_ n4_ n5_ n6_ n7_ n8_ n9_ n10_ n11_; clear hb hbox hg; obtain ⟨Ao33, co33, eo33⟩ := Kd.S_slice HO501.out; subst eo33; have hnb34 := NB506_486.out; have hnc34 := NB486_506.out; have hcz35_0 : w32.cell? ⟨gb506, 0, none⟩ = some (.slice none 0 0) := (blk_cell BK506.out 0).trans rfl; have hcz35_1 : w32.cell? ⟨gb506, 1, none⟩ = some (.slice none 0 0) := (blk_cell BK506.out 1).trans rfl; have hfz35_0 := blk_frozen BK506.out 0; have hfz35_1 := blk_frozen BK506.out 1; obtain ⟨Ao36, co36, eo36⟩ := Kd.S_slice HO504.out; subst eo36))
       repeat (go_quiet (first | (go_at_call 11; (with_reducible refine (pdom_Exit.calls k2 _ _ t479 _ _ t482 t499 t502 t505 _ ?side1 ?side2 ?side3 ?side4 A29.out).mono ?_); (case side1 => repeat (first | exact (Kd.S_reads' HO_487000.out).2.2 | (with_reducible refine Kd.C_alloc ?_ _) | (with_reducible refine Kd.C_drewN ?_ _) | (with_reducible refine Kd.C_drew ?_))); (case side2 => exact (Kd.S_reads' HO_487000.out).2.1); (case side3 => repeat (first | exact (Kd.S_reads' HO_487001.out).2.2 | (with_reducible refine Kd.C_alloc ?_ _) | (with_reducible refine Kd.C_drewN ?_ _) | (with_reducible refine Kd.C_drew ?_))); (case side4 => exact (Kd.S_reads' HO_487001.out).2.1); rintro e w31 ⟨v500, v503, rfl, ho0, ho1, hb⟩; have n0_ := Aside0.mk (Kd.R_below (by exact RX_ HO_5.out) hb); have n1_ := Aside0.mk (Kd.S_mono (Kd.S_told (Kd.S_told (Kd.S_old (by exact SX_ HO_487000.out) hb) (Kd.S_base ho0)) (Kd.S_base ho1)) (fun _ h_ => h_.1)); have n2_ := Aside0.mk (Kd.S_mono (Kd.S_told (Kd.S_told (Kd.S_old (by exact SX_ HO_487001.out) hb) (Kd.S_base ho0)) (Kd.S_base ho1)) (fun _ h_ => h_.1)); have n3_ := Aside0.mk (Kd.S_lower (Kd.S_new' (Kd.S_new' (Kd.S_new' ho0 (Kd.R_lt (by exact RX_ HO_5.out))) (Kd.S_lt (by exact SX_ HO_487000.out))) (Kd.S_lt (by exact SX_ HO_487001.out))) (below_size (B1_))); have n4_ := Aside0.mk (Kd.S_lower (Kd.S_new' (Kd.S_new' (Kd.S_new' ho1 (Kd.R_lt (by exact RX_ HO_5.out))) (Kd.S_lt (by exact SX_ HO_487000.out))) (Kd.S_lt (by exact SX_ HO_487001.out))) (below_size (B1_))); have n5_ := Aside0.mk (blk_below (g := gb486) (o := .cells #[.slice Ao14 t479.length co14, .slice Ao16 t482.length co16] 26 (0, 0)) (by exact KX_ BK486.out) hb); have n6_ := Aside0.mk (below_step (B1_) hb); clear HO_5; clear HO_487000; clear HO_487001; clear BK486; clear HB; have HO_5 := n0_; have HO_487000 := n1_; have HO_487001 := n2_; have HO501 := n3_; have HO504 := n4_; have BK486 := n5_; have HB := n6_; clear n0_ n1_ n2_ n3_ n4_ n5_ n6_; (try clear hb); (try clear hb2); (try clear hk); (try clear hi); (try clear ho0); (try clear ho1)) | ((with_reducible refine gate_dst (N := 10) rfl ?_); (try (refine gate_guard (by rfl) ?_; dsimp only)); refine box_event ?hg (N := 10) ?hd (cs := #[.slice none 0 0, .slice none 0 0]) (t := 26) ?hr ?_; (case hd => rfl); (case hg => rfl); (case hr => first | (go_simp; done) | (go_simp; rfl)); intro gb506 hg w32 hbox hb; have n0_ := Aside0.mk (Kd.R_below (by exact RX_ HO_5.out) hb); have n1_ := Aside0.mk (Kd.S_below (by exact SX_ HO_487000.out) hb); have n2_ := Aside0.mk (Kd.S_below (by exact SX_ HO_487001.out) hb); have n3_ := Aside0.mk (Kd.S_below (by exact SX_ HO501.out) hb); have n4_ := Aside0.mk (Kd.S_below (by exact SX_ HO504.out) hb); have n5_ := Aside0.mk (blk_below (g := gb486) (o := .cells #[.slice Ao14 t479.length co14, .slice Ao16 t482.length co16] 26 (0, 0)) (by exact KX_ BK486.out) hb); have n6_ := Aside0.mk (below_step (B1_) hb); have n7_ := Aside0.mk (hbox); have n8_ := Aside0.mk ((by rw [hg]; exact (below_size (B1_)) : w.heap.size ≤ gb506)); have n9_ := Aside0.mk ((by rw [hg]; exact (below_size (B1_)) : w.heap.size ≤ gb506)); have n10_ := Aside0.mk ((by rw [hg]; exact Nat.ne_of_lt (blk_lt (g := gb486) (o := .cells #[.slice Ao14 t479.length co14, .slice Ao16 t482.length co16] 26 (0, 0)) (by exact KX_ BK486.out)) : gb486 ≠ gb506)); have n11_ := Aside0.mk ((by rw [hg]; exact Nat.ne_of_gt (blk_lt (g := gb486) (o := .cells #[.slice Ao14 t479.length co14, .slice Ao16 t482.length co16] 26 (0, 0)) (by exact KX_ BK486.out)) : gb506 ≠ gb486)); clear HO_5; clear HO_487000; clear HO_487001; clear HO501; clear HO504; clear BK486; clear HB; have HO_5 := n0_; have HO_487000 := n1_; have HO_487001 := n2_; have HO501 := n3_; have HO504 := n4_; have BK486 := n5_; have HB := n6_; have BK506 := n7_; have GW506 := n8_; have GE506 := n9_; have NB486_506 := n10_; have NB506_486 := n11_; clear n0_ n1_ n2_ n3_ n4_ n5_ n6_ n7_ n8_ n9_ n10_ n11_; clear hb hbox hg; obtain ⟨Ao33, co33, eo33⟩ := Kd.S_slice HO501.out; subst eo33; have hnb34 := NB506_486.out; have hnc34 := NB486_506.out; have hcz35_0 : w32.cell? ⟨gb506, 0, none⟩ = some (.slice none 0 0) := (blk_cell BK506.out 0).trans rfl; have hcz35_1 : w32.cell? ⟨gb506, 1, none⟩ = some (.slice none 0 0) := (blk_cell BK506.out 1).trans rfl; have hfz35_0 := blk_frozen BK506.out 0; have hfz35_1 := blk_frozen BK506.out 1; obtain ⟨Ao36, co36, eo36⟩ := Kd.S_slice HO504.out; subst eo36)); try go_wp2_with (first | (go_at_call 11; (with_reducible refine (pdom_Exit.calls k2 _ _ t479 _ _ t482 t499 t502 t505 _ ?side1 ?side2 ?side3 ?side4 A29.out).mono ?_); (case side1 => repeat (first | exact (Kd.S_reads' HO_487000.out).2.2 | (with_reducible refine Kd.C_alloc ?_ _) | (with_reducible refine Kd.C_drewN ?_ _) | (with_reducible refine Kd.C_drew ?_))); (case side2 => exact (Kd.S_reads' HO_487000.out).2.1); (case side3 => repeat (first | exact (Kd.S_reads' HO_487001.out).2.2 | (with_reducible refine Kd.C_alloc ?_ _) | (with_reducible refine Kd.C_drewN ?_ _) | (with_reducible refine Kd.C_drew ?_))); (case side4 => exact (Kd.S_reads' HO_487001.out).2.1); rintro e w31 ⟨v500, v503, rfl, ho0, ho1, hb⟩; have n0_ := Aside0.mk (Kd.R_below (by exact RX_ HO_5.out) hb); have n1_ := Aside0.mk (Kd.S_mono (Kd.S_told (Kd.S_told (Kd.S_old (by exact SX_ HO_487000.out) hb) (Kd.S_base ho0)) (Kd.S_base ho1)) (fun _ h_ => h_.1)); have n2_ := Aside0.mk (Kd.S_mono (Kd.S_told (Kd.S_told (Kd.S_old (by exact SX_ HO_487001.out) hb) (Kd.S_base ho0)) (Kd.S_base ho1)) (fun _ h_ => h_.1)); have n3_ := Aside0.mk (Kd.S_lower (Kd.S_new' (Kd.S_new' (Kd.S_new' ho0 (Kd.R_lt (by exact RX_ HO_5.out))) (Kd.S_lt (by exact SX_ HO_487000.out))) (Kd.S_lt (by exact SX_ HO_487001.out))) (below_size (B1_))); have n4_ := Aside0.mk (Kd.S_lower (Kd.S_new' (Kd.S_new' (Kd.S_new' ho1 (Kd.R_lt (by exact RX_ HO_5.out))) (Kd.S_lt (by exact SX_ HO_487000.out))) (Kd.S_lt (by exact SX_ HO_487001.out))) (below_size (B1_))); have n5_ := Aside0.mk (blk_below (g := gb486) (o := .cells #[.slice Ao14 t479.length co14, .slice Ao16 t482.length co16] 26 (0, 0)) (by exact KX_ BK486.out) hb); have n6_ := Aside0.mk (below_step (B1_) hb); clear HO_5; clear HO_487000; clear HO_487001; clear BK486; clear HB; have HO_5 := n0_; have HO_487000 := n1_; have HO_487001 := n2_; have HO501 := n3_; have HO504 := n4_; have BK486 := n5_; have HB := n6_; clear n0_ n1_ n2_ n3_ n4_ n5_ n6_; (try clear hb); (try clear hb2); (try clear hk); (try clear hi); (try clear ho0); (try clear ho1)) | ((with_reducible refine gate_dst (N := 10) rfl ?_); (try (refine gate_guard (by rfl) ?_; dsimp only)); refine box_event ?hg (N := 10) ?hd (cs := #[.slice none 0 0, .slice none 0 0]) (t := 26) ?hr ?_; (case hd => rfl); (case hg => rfl); (case hr => first | (go_simp; done) | (go_simp; rfl)); intro gb506 hg w32 hbox hb; have n0_ := Aside0.mk (Kd.R_below (by exact RX_ HO_5.out) hb); have n1_ := Aside0.mk (Kd.S_below (by exact SX_ HO_487000.out) hb); have n2_ := Aside0.mk (Kd.S_below (by exact SX_ HO_487001.out) hb); have n3_ := Aside0.mk (Kd.S_below (by exact SX_ HO501.out) hb); have n4_ := Aside0.mk (Kd.S_below (by exact SX_ HO504.out) hb); have n5_ := Aside0.mk (blk_below (g := gb486) (o := .cells #[.slice Ao14 t479.length co14, .slice Ao16 t482.length co16] 26 (0, 0)) (by exact KX_ BK486.out) hb); have n6_ := Aside0.mk (below_step (B1_) hb); have n7_ := Aside0.mk (hbox); have n8_ := Aside0.mk ((by rw [hg]; exact (below_size (B1_)) : w.heap.size ≤ gb506)); have n9_ := Aside0.mk ((by rw [hg]; exact (below_size (B1_)) : w.heap.size ≤ gb506)); have n10_ := Aside0.mk ((by rw [hg]; exact Nat.ne_of_lt (blk_lt (g := gb486) (o := .cells #[.slice Ao14 t479.length co14, .slice Ao16 t482.length co16] 26 (0, 0)) (by exact KX_ BK486.out)) : gb486 ≠ gb506)); have n11_ := Aside0.mk ((by rw [hg]; exact Nat.ne_of_gt (blk_lt (g := gb486) (o := .cells #[.slice Ao14 t479.length co14, .slice Ao16 t482.length co16] 26 (0, 0)) (by exact KX_ BK486.out)) : gb506 ≠ gb486)); clear HO_5; clear HO_487000; clear HO_487001; clear HO501; clear HO504; clear BK486; clear HB; have HO_5 := n0_; have HO_487000 := n1_; have HO_487001 := n2_; have HO501 := n3_; have HO504 := n4_; have BK486 := n5_; have HB := n6_; have BK506 := n7_; have GW506 := n8_; have GE506 := n9_; have NB486_506 := n10_; have NB506_486 := n11_; clear n0_ n1_ n2_ n3_ n4_ n5_ n6_ n7_ n8_ n9_ n10_ n11_; clear hb hbox hg; obtain ⟨Ao33, co33, eo33⟩ := Kd.S_slice HO501.out; subst eo33; have hnb34 := NB506_486.out; have hnc34 := NB486_506.out; have hcz35_0 : w32.cell? ⟨gb506, 0, none⟩ = some (.slice none 0 0) := (blk_cell BK506.out 0).trans rfl; have hcz35_1 : w32.cell? ⟨gb506, 1, none⟩ = some (.slice none 0 0) := (blk_cell BK506.out 1).trans rfl; have hfz35_0 := blk_frozen BK506.out 0; have hfz35_1 := blk_frozen BK506.out 1; obtain ⟨Ao36, co36, eo36⟩ := Kd.S_slice HO504.out; subst eo36)))
       go_loopg [12, 13] k2 (fun kq v12 v13 w' => ∃ (x12_3 : Int) (x13_3 : Int), v12 = .int .i64 x12_3 ∧ v13 = .int .i64 x13_3 ∧ Aside0 (locksteplaw08_PdomShut.l2 kq l0 t490 t505 x12_3 x13_3 t499 t502 = some true) ∧ Aside0 (kq ≤ k2) ∧ Aside0 (Kd.R (Kd.int .i64) 3 w' w.heap.size (fun _ => True) v491 t490) ∧ Aside0 (Kd.S (Kd.slice 3 (Kd.int .i64)) 30 w' w.heap.size (fun k_ => some k_ ≠ (v491 : Value).ownBlock ∧ some k_ ≠ ((.slice Ao16 t482.length co16) : Value).ownBlock ∧ some k_ ≠ ((.slice Ao33 t499.length co33) : Value).ownBlock ∧ some k_ ≠ ((.slice Ao36 t502.length co36) : Value).ownBlock) (.slice Ao14 t479.length co14) t479) ∧ Aside0 (Kd.S (Kd.slice 3 (Kd.int .i64)) 30 w' w.heap.size (fun k_ => some k_ ≠ (v491 : Value).ownBlock ∧ some k_ ≠ ((.slice Ao14 t479.length co14) : Value).ownBlock ∧ some k_ ≠ ((.slice Ao33 t499.length co33) : Value).ownBlock ∧ some k_ ≠ ((.slice Ao36 t502.length co36) : Value).ownBlock) (.slice Ao16 t482.length co16) t482) ∧ Aside0 (Kd.S (Kd.slice 3 (Kd.int .i64)) 30 w' w.heap.size (fun k_ => some k_ ≠ (v491 : Value).ownBlock ∧ some k_ ≠ ((.slice Ao14 t479.length co14) : Value).ownBlock ∧ some k_ ≠ ((.slice Ao16 t482.length co16) : Value).ownBlock ∧ some k_ ≠ ((.slice Ao36 t502.length co36) : Value).ownBlock) (.slice Ao33 t499.length co33) t499) ∧ Aside0 (Kd.S (Kd.slice 3 (Kd.int .i64)) 30 w' w.heap.size (fun k_ => some k_ ≠ (v491 : Value).ownBlock ∧ some k_ ≠ ((.slice Ao14 t479.length co14) : Value).ownBlock ∧ some k_ ≠ ((.slice Ao16 t482.length co16) : Value).ownBlock ∧ some k_ ≠ ((.slice Ao33 t499.length co33) : Value).ownBlock) (.slice Ao36 t502.length co36) t502) ∧ Aside0 (w'.heap[gb486]? = some (.cells #[(.slice Ao14 t479.length co14), (.slice Ao16 t482.length co16)] 26 (0, 0))) ∧ Aside0 (w'.heap[gb506]? = some (.cells #[(.slice Ao33 t499.length co33), (.slice Ao36 t502.length co36)] 26 (0, 0))) ∧ Aside0 (Below w.heap.size w w'))
       case atStart => exact ⟨(0), (0), (by first | rfl | exact congrArg (fun b => Ending.returned (Value.bool b)) HR_.out | (simp; done) | (simp [*]; done)), (by first | rfl | exact congrArg (fun b => Ending.returned (Value.bool b)) HR_.out | (simp; done) | (simp [*]; done)), H', ⟨Nat.le_refl _⟩, ⟨by (with_reducible repeat (first | apply Kd.R_alloc | apply Kd.R_drewN | apply Kd.R_drew)); exact Kd.R_mono (Kd.R_far (p := ⟨gb506, 1, none⟩) (Kd.R_far (p := ⟨gb506, 0, none⟩) (Kd.R_types HO_5.out BK506.out (by decide)) (fun _ hk => hk.2) (.slice Ao33 t499.length co33)) (fun _ hk => hk.2) (.slice Ao36 t502.length co36)) (fun _ hk => trivial)⟩, ⟨by (with_reducible repeat (first | apply Kd.S_alloc | apply Kd.S_drewN | apply Kd.S_drew)); exact Kd.S_mono (Kd.S_far (p := ⟨gb506, 1, none⟩) (Kd.S_far (p := ⟨gb506, 0, none⟩) (Kd.S_types HO_487000.out BK506.out (by decide)) (fun _ hk => hk.2) (.slice Ao33 t499.length co33)) (fun _ hk => hk.2) (.slice Ao36 t502.length co36)) (fun _ hk => ⟨hk.1.1.1.1, ⟨hk.1.1.1.2, ⟨hk.1.1.2, hk.1.2⟩⟩⟩)⟩, ⟨by (with_reducible repeat (first | apply Kd.S_alloc | apply Kd.S_drewN | apply Kd.S_drew)); exact Kd.S_mono (Kd.S_far (p := ⟨gb506, 1, none⟩) (Kd.S_far (p := ⟨gb506, 0, none⟩) (Kd.S_types HO_487001.out BK506.out (by decide)) (fun _ hk => hk.2) (.slice Ao33 t499.length co33)) (fun _ hk => hk.2) (.slice Ao36 t502.length co36)) (fun _ hk => ⟨hk.1.1.1.1, ⟨hk.1.1.1.2, ⟨hk.1.1.2, hk.1.2⟩⟩⟩)⟩, ⟨by (with_reducible repeat (first | apply Kd.S_alloc | apply Kd.S_drewN | apply Kd.S_drew)); exact Kd.S_mono (Kd.S_far (p := ⟨gb506, 1, none⟩) (Kd.S_far (p := ⟨gb506, 0, none⟩) (Kd.S_types HO501.out BK506.out (by decide)) (fun _ hk => hk.2) (.slice Ao33 t499.length co33)) (fun _ hk => hk.2) (.slice Ao36 t502.length co36)) (fun _ hk => ⟨hk.1.1.1.2, ⟨hk.1.1.2, ⟨hk.1.2, hk.1.1.1.1⟩⟩⟩)⟩, ⟨by (with_reducible repeat (first | apply Kd.S_alloc | apply Kd.S_drewN | apply Kd.S_drew)); exact Kd.S_mono (Kd.S_far (p := ⟨gb506, 1, none⟩) (Kd.S_far (p := ⟨gb506, 0, none⟩) (Kd.S_types HO504.out BK506.out (by decide)) (fun _ hk => hk.2) (.slice Ao33 t499.length co33)) (fun _ hk => hk.2) (.slice Ao36 t502.length co36)) (fun _ hk => ⟨hk.1.1.1.2, ⟨hk.1.1.2, ⟨hk.1.2, hk.1.1.1.1⟩⟩⟩)⟩, ⟨by (with_reducible repeat (first | refine blk_drewN ?_ _ | refine blk_drew ?_ | refine blk_alloc ?_ _)); refine blk_far ?_ NB486_506.out _; (with_reducible repeat (first | refine blk_drewN ?_ _ | refine blk_drew ?_ | refine blk_alloc ?_ _)); refine blk_far ?_ NB486_506.out _; exact KX_ BK486.out⟩, ⟨by (with_reducible repeat (first | refine blk_drewN ?_ _ | refine blk_drew ?_ | refine blk_alloc ?_ _)); refine blk_put (cs := #[.slice Ao33 t499.length co33, .slice none 0 0]) ?_ 1 _ rfl; (with_reducible repeat (first | refine blk_drewN ?_ _ | refine blk_drew ?_ | refine blk_alloc ?_ _)); refine blk_put (cs := #[.slice none 0 0, .slice none 0 0]) ?_ 0 _ rfl; exact KX_ BK506.out⟩, ⟨B1_⟩⟩
       case round =>
        clear H'
        try clear c18b0
        try clear hcz30_0
        try clear hcz30_1
        try clear hcz35_0
        try clear hcz35_1
        try clear hfz30_0
        try clear hfz30_1
        try clear hfz35_0
        try clear hfz35_1
        obtain ⟨x12_3, x13_3, rfl, rfl, HA, HK3, HO_5, HO_487000, HO_487001, HO_507000, HO_507001, BK486, BK506, HB⟩ := hrel
        cases gk with
        | zero => exact absurd HA.out (by simp [locksteplaw08_PdomShut.l2])
        | succ k3 =>
         have H := HA.out
         clear HA
         simp only [locksteplaw08_PdomShut.l2] at H
         have HC37 := Aside0.mk H
         clear H
         go_upto_region 23 with (fail)
         repeat (go_quiet (fail); go_upto_region 23 with (fail))
         go_cut [90] (fun v90 wc => ∃ (kq : Nat) (x90_36 : Bool), v90 = .bool x90_36 ∧ Aside0 (locksteplaw08_PdomShut.j4 kq l0 t490 t505 x12_3 x13_3 x90_36 t499 t502 = some true) ∧ Aside0 (kq ≤ k3) ∧ Aside0 (Kd.R (Kd.int .i64) 3 wc w.heap.size (fun _ => True) v491 t490) ∧ Aside0 (Kd.S (Kd.slice 3 (Kd.int .i64)) 30 wc w.heap.size (fun k_ => some k_ ≠ (v491 : Value).ownBlock ∧ some k_ ≠ ((.slice Ao16 t482.length co16) : Value).ownBlock ∧ some k_ ≠ ((.slice Ao33 t499.length co33) : Value).ownBlock ∧ some k_ ≠ ((.slice Ao36 t502.length co36) : Value).ownBlock) (.slice Ao14 t479.length co14) t479) ∧ Aside0 (Kd.S (Kd.slice 3 (Kd.int .i64)) 30 wc w.heap.size (fun k_ => some k_ ≠ (v491 : Value).ownBlock ∧ some k_ ≠ ((.slice Ao14 t479.length co14) : Value).ownBlock ∧ some k_ ≠ ((.slice Ao33 t499.length co33) : Value).ownBlock ∧ some k_ ≠ ((.slice Ao36 t502.length co36) : Value).ownBlock) (.slice Ao16 t482.length co16) t482) ∧ Aside0 (Kd.S (Kd.slice 3 (Kd.int .i64)) 30 wc w.heap.size (fun k_ => some k_ ≠ (v491 : Value).ownBlock ∧ some k_ ≠ ((.slice Ao14 t479.length co14) : Value).ownBlock ∧ some k_ ≠ ((.slice Ao16 t482.length co16) : Value).ownBlock ∧ some k_ ≠ ((.slice Ao36 t502.length co36) : Value).ownBlock) (.slice Ao33 t499.length co33) t499) ∧ Aside0 (Kd.S (Kd.slice 3 (Kd.int .i64)) 30 wc w.heap.size (fun k_ => some k_ ≠ (v491 : Value).ownBlock ∧ some k_ ≠ ((.slice Ao14 t479.length co14) : Value).ownBlock ∧ some k_ ≠ ((.slice Ao16 t482.length co16) : Value).ownBlock ∧ some k_ ≠ ((.slice Ao33 t499.length co33) : Value).ownBlock) (.slice Ao36 t502.length co36) t502) ∧ Aside0 (wc.heap[gb486]? = some (.cells #[(.slice Ao14 t479.length co14), (.slice Ao16 t482.length co16)] 26 (0, 0))) ∧ Aside0 (wc.heap[gb506]? = some (.cells #[(.slice Ao33 t499.length co33), (.slice Ao36 t502.length co36)] 26 (0, 0))) ∧ Aside0 (Below w.heap.size w wc))
         case first =>
          have H := HC37.out
          clear HC37
          by_cases c38 : x13_3 < (l0.length : Int)
          ·rw [if_pos c38] at H
           have c38b0 : decide (x13_3 < (l0.length : Int)) = true := decide_eq_true c38
           clear c38
           (first | rw [c38b0] | (simp only [i64_w, i32_w]; rw [c38b0]) | skip)
           have H' := Aside0.mk H
           clear H
           go_wp2
           repeat (go_quiet (fail); try go_wp2)
           go_meet
           case rel => exact ⟨_, ((t505 == 0)), (by first | rfl | exact congrArg (fun b => Ending.returned (Value.bool b)) HR_.out | (simp; done) | (simp [*]; done)), H', ⟨by have := HJ3.out; have := HK2.out; have := HK3.out; first | omega | exact Nat.le_refl _⟩, ⟨by exact RM_ HO_5.out⟩, ⟨by exact SM_ HO_487000.out⟩, ⟨by exact SM_ HO_487001.out⟩, ⟨by exact SM_ HO_507000.out⟩, ⟨by exact SM_ HO_507001.out⟩, ⟨by exact KX_ BK486.out⟩, ⟨by exact KX_ BK506.out⟩, ⟨B1_⟩⟩
          rw [if_neg c38] at H
          have c38b0 : decide (x13_3 < (l0.length : Int)) = false := decide_eq_false c38
          clear c38
          (first | rw [c38b0] | (simp only [i64_w, i32_w]; rw [c38b0]) | skip)
          have H' := Aside0.mk H
          clear H
          go_wp2
          repeat (go_quiet (fail); try go_wp2)
          go_meet
          case rel => exact ⟨_, (false), (by first | rfl | exact congrArg (fun b => Ending.returned (Value.bool b)) HR_.out | (simp; done) | (simp [*]; done)), H', ⟨by have := HJ3.out; have := HK2.out; have := HK3.out; first | omega | exact Nat.le_refl _⟩, ⟨by exact RM_ HO_5.out⟩, ⟨by exact SM_ HO_487000.out⟩, ⟨by exact SM_ HO_487001.out⟩, ⟨by exact SM_ HO_507000.out⟩, ⟨by exact SM_ HO_507001.out⟩, ⟨by exact KX_ BK486.out⟩, ⟨by exact KX_ BK506.out⟩, ⟨B1_⟩⟩
         case rest =>
          clear HC37
          obtain ⟨kq, x90_36, rfl, HA, HJ36, HO_5, HO_487000, HO_487001, HO_507000, HO_507001, BK486, BK506, HB⟩ := hcut
          cases kq with
          | zero => exact absurd HA.out (by simp [locksteplaw08_PdomShut.j4])
          | succ kj36 =>
           have H := HA.out
           clear HA
           simp only [locksteplaw08_PdomShut.j4] at H
           by_cases c39 : x90_36 = true
           ·subst c39
            have H1 : (if 0 ≤ x13_3 then (if x13_3 < (t499.length : Int) then (if x13_3 < (l0.length : Int) then (if ((rd_L1 t499 x13_3).length : Int) > ((rd_L1 l0 x13_3).length : Int) then (locksteplaw08_PdomShut.l2 kj36 l0 t490 t505 (wrap64 (x12_3 + 1)) (wrap64 (x13_3 + 1)) t499 t502) else (locksteplaw08_PdomShut.l2 kj36 l0 t490 t505 x12_3 (wrap64 (x13_3 + 1)) t499 t502)) else (none)) else (none)) else (none)) = some true := by rw [if_pos rfl] at H; exact H
            clear H
            have H := H1
            clear H1
            by_cases c40 : 0 ≤ x13_3
            ·rw [if_pos c40] at H
             have c40b0 : decide (0 ≤ x13_3) = true := decide_eq_true c40
             clear c40
             by_cases c41 : x13_3 < (t499.length : Int)
             ·rw [if_pos c41] at H
              have c41b0 : decide (x13_3 < (t499.length : Int)) = true := decide_eq_true c41
              clear c41
              by_cases c42 : x13_3 < (l0.length : Int)
              ·rw [if_pos c42] at H
               have c42b0 : decide (x13_3 < (l0.length : Int)) = true := decide_eq_true c42
               clear c42
               by_cases c43 : ((rd_L1 t499 x13_3).length : Int) > ((rd_L1 l0 x13_3).length : Int)
               ·rw [if_pos c43] at H
                have c43b0 : decide (((rd_L1 l0 x13_3).length : Int) < ((rd_L1 t499 x13_3).length : Int)) = true := decide_eq_true c43
                have c43b1 : decide ((rd_L1 l0 x13_3).length < (rd_L1 t499 x13_3).length) = true := decide_eq_true (Int.ofNat_lt.mp c43)
                clear c43
                have H' := Aside0.mk H
                clear H
                have hnb44 := NB506_486.out
                have hnc44 := NB486_506.out
                have hcz45_0 : wc.cell? ⟨gb506, 0, none⟩ = some (.slice Ao33 t499.length co33) := (blk_cell BK506.out 0).trans rfl
                have hcz45_1 : wc.cell? ⟨gb506, 1, none⟩ = some (.slice Ao36 t502.length co36) := (blk_cell BK506.out 1).trans rfl
                have hfz45_0 := blk_frozen BK506.out 0
                have hfz45_1 := blk_frozen BK506.out 1
                have p507 : 0 ≤ (x13_3 : Int) := D_
                have q507 : x13_3 < (t499.length : Int) := D_
                obtain ⟨ad507, A507_0, c507_0, e507, hx507_0, hl507_0, hi507_0⟩ := at_L1 (Kd.S_reads' HO_507000.out).2.2 x13_3 p507 q507
                cases e507
                obtain ⟨ce507, hce507, hMe507, hcc507⟩ := Kd.S_get HO_507000.out [] x13_3 p507 (by first | exact q507 | exact D_ | (have e_ := (Kd.S_reads' HO_507000.out).1; omega))
                obtain ⟨ve507_0, rfl, ge507_0⟩ := hMe507
                have hv507_0 := hcc507 0 _ rfl
                rw [Nat.add_zero, show ((Kd.slice 3 (Kd.int .i64))).sz = 1 from rfl, Nat.mul_one] at hv507_0
                replace hv507_0 := Option.some.inj (hv507_0.symm.trans hx507_0)
                rw [hv507_0] at ge507_0
                have HL507_0 := Aside0.mk (show Kd.R (Kd.int .i64) 3 _ _ _ _ (rd_L1 t499 x13_3) from ge507_0)
                clear hv507_0 ge507_0
                clear hcc507 hce507
                have HR507_0 := Aside0.mk hi507_0
                have HC507_0 := Aside0.mk hl507_0
                clear hi507_0 hl507_0
                replace p507 := eq_true p507
                replace q507 := eq_true q507
                have p508 : 0 ≤ (x13_3 : Int) := D_
                have q508 : x13_3 < (l0.length : Int) := D_
                obtain ⟨ad508, A508_0, c508_0, e508, hx508_0, hl508_0, hi508_0⟩ := at_L1 HR0.out x13_3 p508 q508
                cases e508
                replace hx508_0 := (HB.out.cell (World.block_lt_of_cell? w _ hx508_0)).trans hx508_0
                have HR508_0 := Aside0.mk hi508_0
                have HC508_0 := Aside0.mk hl508_0
                clear hi508_0 hl508_0
                replace p508 := eq_true p508
                replace q508 := eq_true q508
                go_wp2
                repeat (go_quiet (fail); try go_wp2)
                go_roundg kj36
                case measure => have := HJ3.out; have := HK2.out; have := HK3.out; have := HJ36.out; omega
                case rel => exact ⟨(wrap64 (x12_3 + 1)), (wrap64 (x13_3 + 1)), (by first | rfl | exact congrArg (fun b => Ending.returned (Value.bool b)) HR_.out | (simp; done) | (simp [*]; done)), (by first | rfl | exact congrArg (fun b => Ending.returned (Value.bool b)) HR_.out | (simp; done) | (simp [*]; done)), H', ⟨by have := HJ3.out; have := HK2.out; have := HK3.out; have := HJ36.out; omega⟩, ⟨by exact RM_ HO_5.out⟩, ⟨by exact SM_ HO_487000.out⟩, ⟨by exact SM_ HO_487001.out⟩, ⟨by exact SM_ HO_507000.out⟩, ⟨by exact SM_ HO_507001.out⟩, ⟨by exact KX_ BK486.out⟩, ⟨by exact KX_ BK506.out⟩, ⟨B1_⟩⟩
               rw [if_neg c43] at H
               have c43b0 : decide (((rd_L1 l0 x13_3).length : Int) < ((rd_L1 t499 x13_3).length : Int)) = false := decide_eq_false c43
               have c43b1 : decide ((rd_L1 l0 x13_3).length < (rd_L1 t499 x13_3).length) = false := decide_eq_false (fun h => c43 (Int.ofNat_lt.mpr h))
               clear c43
               have H' := Aside0.mk H
               clear H
               have hnb46 := NB506_486.out
               have hnc46 := NB486_506.out
               have hcz47_0 : wc.cell? ⟨gb506, 0, none⟩ = some (.slice Ao33 t499.length co33) := (blk_cell BK506.out 0).trans rfl
               have hcz47_1 : wc.cell? ⟨gb506, 1, none⟩ = some (.slice Ao36 t502.length co36) := (blk_cell BK506.out 1).trans rfl
               have hfz47_0 := blk_frozen BK506.out 0
               have hfz47_1 := blk_frozen BK506.out 1
               have p507 : 0 ≤ (x13_3 : Int) := D_
               have q507 : x13_3 < (t499.length : Int) := D_
               obtain ⟨ad507, A507_0, c507_0, e507, hx507_0, hl507_0, hi507_0⟩ := at_L1 (Kd.S_reads' HO_507000.out).2.2 x13_3 p507 q507
               cases e507
               obtain ⟨ce507, hce507, hMe507, hcc507⟩ := Kd.S_get HO_507000.out [] x13_3 p507 (by first | exact q507 | exact D_ | (have e_ := (Kd.S_reads' HO_507000.out).1; omega))
               obtain ⟨ve507_0, rfl, ge507_0⟩ := hMe507
               have hv507_0 := hcc507 0 _ rfl
               rw [Nat.add_zero, show ((Kd.slice 3 (Kd.int .i64))).sz = 1 from rfl, Nat.mul_one] at hv507_0
               replace hv507_0 := Option.some.inj (hv507_0.symm.trans hx507_0)
               rw [hv507_0] at ge507_0
               have HL507_0 := Aside0.mk (show Kd.R (Kd.int .i64) 3 _ _ _ _ (rd_L1 t499 x13_3) from ge507_0)
               clear hv507_0 ge507_0
               clear hcc507 hce507
               have HR507_0 := Aside0.mk hi507_0
               have HC507_0 := Aside0.mk hl507_0
               clear hi507_0 hl507_0
               replace p507 := eq_true p507
               replace q507 := eq_true q507
               have p508 : 0 ≤ (x13_3 : Int) := D_
               have q508 : x13_3 < (l0.length : Int) := D_
               obtain ⟨ad508, A508_0, c508_0, e508, hx508_0, hl508_0, hi508_0⟩ := at_L1 HR0.out x13_3 p508 q508
               cases e508
               replace hx508_0 := (HB.out.cell (World.block_lt_of_cell? w _ hx508_0)).trans hx508_0
               have HR508_0 := Aside0.mk hi508_0
               have HC508_0 := Aside0.mk hl508_0
               clear hi508_0 hl508_0
               replace p508 := eq_true p508
               replace q508 := eq_true q508
               go_wp2
               repeat (go_quiet (fail); try go_wp2)
               go_roundg kj36
               case measure => have := HJ3.out; have := HK2.out; have := HK3.out; have := HJ36.out; omega
               case rel => exact ⟨(x12_3), (wrap64 (x13_3 + 1)), (by first | rfl | exact congrArg (fun b => Ending.returned (Value.bool b)) HR_.out | (simp; done) | (simp [*]; done)), (by first | rfl | exact congrArg (fun b => Ending.returned (Value.bool b)) HR_.out | (simp; done) | (simp [*]; done)), H', ⟨by have := HJ3.out; have := HK2.out; have := HK3.out; have := HJ36.out; omega⟩, ⟨by exact RM_ HO_5.out⟩, ⟨by exact SM_ HO_487000.out⟩, ⟨by exact SM_ HO_487001.out⟩, ⟨by exact SM_ HO_507000.out⟩, ⟨by exact SM_ HO_507001.out⟩, ⟨by exact KX_ BK486.out⟩, ⟨by exact KX_ BK506.out⟩, ⟨B1_⟩⟩
              rw [if_neg c42] at H
              exact absurd H (by simp)
             rw [if_neg c41] at H
             exact absurd H (by simp)
            rw [if_neg c40] at H
            exact absurd H (by simp)
           replace c39 := Bool.eq_false_iff.mpr c39
           subst c39
           have H1 : (locksteplaw08_PdomShut.l3 kj36 l0 t490 t505 x12_3 0 0) = some true := by rw [if_neg (show ¬ (false = true) by decide)] at H; exact H
           clear H
           have H := H1
           clear H1
           have H' := Aside0.mk H
           clear H
           go_wp2
           repeat (go_quiet (fail); try go_wp2)
           go_loopg [14, 15] kj36 (fun kq v14 v15 w' => ∃ (x14_5 : Int) (x15_5 : Int), v14 = .int .i64 x14_5 ∧ v15 = .int .i64 x15_5 ∧ Aside0 (locksteplaw08_PdomShut.l3 kq l0 t490 t505 x12_3 x14_5 x15_5 = some true) ∧ Aside0 (kq ≤ kj36) ∧ Aside0 (Kd.R (Kd.int .i64) 3 w' w.heap.size (fun _ => True) v491 t490) ∧ Aside0 (Kd.S (Kd.slice 3 (Kd.int .i64)) 30 w' w.heap.size (fun k_ => some k_ ≠ (v491 : Value).ownBlock ∧ some k_ ≠ ((.slice Ao16 t482.length co16) : Value).ownBlock ∧ some k_ ≠ ((.slice Ao33 t499.length co33) : Value).ownBlock ∧ some k_ ≠ ((.slice Ao36 t502.length co36) : Value).ownBlock) (.slice Ao14 t479.length co14) t479) ∧ Aside0 (Kd.S (Kd.slice 3 (Kd.int .i64)) 30 w' w.heap.size (fun k_ => some k_ ≠ (v491 : Value).ownBlock ∧ some k_ ≠ ((.slice Ao14 t479.length co14) : Value).ownBlock ∧ some k_ ≠ ((.slice Ao33 t499.length co33) : Value).ownBlock ∧ some k_ ≠ ((.slice Ao36 t502.length co36) : Value).ownBlock) (.slice Ao16 t482.length co16) t482) ∧ Aside0 (Kd.S (Kd.slice 3 (Kd.int .i64)) 30 w' w.heap.size (fun k_ => some k_ ≠ (v491 : Value).ownBlock ∧ some k_ ≠ ((.slice Ao14 t479.length co14) : Value).ownBlock ∧ some k_ ≠ ((.slice Ao16 t482.length co16) : Value).ownBlock ∧ some k_ ≠ ((.slice Ao36 t502.length co36) : Value).ownBlock) (.slice Ao33 t499.length co33) t499) ∧ Aside0 (Kd.S (Kd.slice 3 (Kd.int .i64)) 30 w' w.heap.size (fun k_ => some k_ ≠ (v491 : Value).ownBlock ∧ some k_ ≠ ((.slice Ao14 t479.length co14) : Value).ownBlock ∧ some k_ ≠ ((.slice Ao16 t482.length co16) : Value).ownBlock ∧ some k_ ≠ ((.slice Ao33 t499.length co33) : Value).ownBlock) (.slice Ao36 t502.length co36) t502) ∧ Aside0 (w'.heap[gb486]? = some (.cells #[(.slice Ao14 t479.length co14), (.slice Ao16 t482.length co16)] 26 (0, 0))) ∧ Aside0 (w'.heap[gb506]? = some (.cells #[(.slice Ao33 t499.length co33), (.slice Ao36 t502.length co36)] 26 (0, 0))) ∧ Aside0 (Below w.heap.size w w'))
           case atStart => exact ⟨(0), (0), (by first | rfl | exact congrArg (fun b => Ending.returned (Value.bool b)) HR_.out | (simp; done) | (simp [*]; done)), (by first | rfl | exact congrArg (fun b => Ending.returned (Value.bool b)) HR_.out | (simp; done) | (simp [*]; done)), H', ⟨Nat.le_refl _⟩, ⟨by exact RM_ HO_5.out⟩, ⟨by exact SM_ HO_487000.out⟩, ⟨by exact SM_ HO_487001.out⟩, ⟨by exact SM_ HO_507000.out⟩, ⟨by exact SM_ HO_507001.out⟩, ⟨by exact KX_ BK486.out⟩, ⟨by exact KX_ BK506.out⟩, ⟨B1_⟩⟩
           case round =>
            clear H'
            try clear c39
            obtain ⟨x14_5, x15_5, rfl, rfl, HA, HK5, HO_5, HO_487000, HO_487001, HO_507000, HO_507001, BK486, BK506, HB⟩ := hrel
            cases gk with
            | zero => exact absurd HA.out (by simp [locksteplaw08_PdomShut.l3])
            | succ k5 =>
             have H := HA.out
             clear HA
             simp only [locksteplaw08_PdomShut.l3] at H
             by_cases c48 : x15_5 < (l0.length : Int)
             ·rw [if_pos c48] at H
              have c48b0 : decide (x15_5 < (l0.length : Int)) = true := decide_eq_true c48
              clear c48
              by_cases c49 : 0 ≤ x15_5
              ·rw [if_pos c49] at H
               have c49b0 : decide (0 ≤ x15_5) = true := decide_eq_true c49
               clear c49
               by_cases c50 : ((rd_L1 l0 x15_5).length : Int) = 0
               ·rw [if_pos c50] at H
                have c50b0 : (((rd_L1 l0 x15_5).length : Int) == 0) = true := beq_iff_eq.mpr c50
                have c50b1 : (((rd_L1 l0 x15_5).length : Int) != 0) = false := bne_eq_false_iff_eq.mpr c50
                clear c50
                have H' := Aside0.mk H
                clear H
                have p509 : 0 ≤ (x15_5 : Int) := D_
                have q509 : x15_5 < (l0.length : Int) := D_
                obtain ⟨ad509, A509_0, c509_0, e509, hx509_0, hl509_0, hi509_0⟩ := at_L1 HR0.out x15_5 p509 q509
                cases e509
                replace hx509_0 := (HB.out.cell (World.block_lt_of_cell? w _ hx509_0)).trans hx509_0
                have HR509_0 := Aside0.mk hi509_0
                have HC509_0 := Aside0.mk hl509_0
                clear hi509_0 hl509_0
                replace p509 := eq_true p509
                replace q509 := eq_true q509
                go_wp2
                repeat (go_quiet (fail); try go_wp2)
                go_roundg k5
                case measure => have := HJ3.out; have := HK2.out; have := HK3.out; have := HJ36.out; have := HK5.out; omega
                case rel => exact ⟨(wrap64 (x14_5 + 1)), (wrap64 (x15_5 + 1)), (by first | rfl | exact congrArg (fun b => Ending.returned (Value.bool b)) HR_.out | (simp; done) | (simp [*]; done)), (by first | rfl | exact congrArg (fun b => Ending.returned (Value.bool b)) HR_.out | (simp; done) | (simp [*]; done)), H', ⟨by have := HJ3.out; have := HK2.out; have := HK3.out; have := HJ36.out; have := HK5.out; omega⟩, ⟨by exact RM_ HO_5.out⟩, ⟨by exact SM_ HO_487000.out⟩, ⟨by exact SM_ HO_487001.out⟩, ⟨by exact SM_ HO_507000.out⟩, ⟨by exact SM_ HO_507001.out⟩, ⟨by exact KX_ BK486.out⟩, ⟨by exact KX_ BK506.out⟩, ⟨B1_⟩⟩
               rw [if_neg c50] at H
               have c50b0 : (((rd_L1 l0 x15_5).length : Int) == 0) = false := beq_eq_false_iff_ne.mpr c50
               have c50b1 : (((rd_L1 l0 x15_5).length : Int) != 0) = true := bne_iff_ne.mpr c50
               have c50b2 : ¬ ((rd_L1 l0 x15_5) = []) := fun h_ => c50 (by rw [h_]; rfl)
               have H' := Aside0.mk H
               clear H
               have p509 : 0 ≤ (x15_5 : Int) := D_
               have q509 : x15_5 < (l0.length : Int) := D_
               obtain ⟨ad509, A509_0, c509_0, e509, hx509_0, hl509_0, hi509_0⟩ := at_L1 HR0.out x15_5 p509 q509
               cases e509
               replace hx509_0 := (HB.out.cell (World.block_lt_of_cell? w _ hx509_0)).trans hx509_0
               have HR509_0 := Aside0.mk hi509_0
               have HC509_0 := Aside0.mk hl509_0
               clear hi509_0 hl509_0
               replace p509 := eq_true p509
               replace q509 := eq_true q509
               go_wp2
               repeat (go_quiet (fail); try go_wp2)
               go_roundg k5
               case measure => have := HJ3.out; have := HK2.out; have := HK3.out; have := HJ36.out; have := HK5.out; omega
               case rel => exact ⟨(x14_5), (wrap64 (x15_5 + 1)), (by first | rfl | exact congrArg (fun b => Ending.returned (Value.bool b)) HR_.out | (simp; done) | (simp [*]; done)), (by first | rfl | exact congrArg (fun b => Ending.returned (Value.bool b)) HR_.out | (simp; done) | (simp [*]; done)), H', ⟨by have := HJ3.out; have := HK2.out; have := HK3.out; have := HJ36.out; have := HK5.out; omega⟩, ⟨by exact RM_ HO_5.out⟩, ⟨by exact SM_ HO_487000.out⟩, ⟨by exact SM_ HO_487001.out⟩, ⟨by exact SM_ HO_507000.out⟩, ⟨by exact SM_ HO_507001.out⟩, ⟨by exact KX_ BK486.out⟩, ⟨by exact KX_ BK506.out⟩, ⟨B1_⟩⟩
              rw [if_neg c49] at H
              exact absurd H (by simp)
             rw [if_neg c48] at H
             have c48b0 : decide (x15_5 < (l0.length : Int)) = false := decide_eq_false c48
             clear c48
             by_cases c51 : t505 = 0
             ·rw [if_pos c51] at H
              have c51b0 : (t505 == 0) = true := beq_iff_eq.mpr c51
              have c51b1 : (t505 != 0) = false := bne_eq_false_iff_eq.mpr c51
              clear c51
              by_cases c52 : (t490.length : Int) > 0
              ·rw [if_pos c52] at H
               have c52b0 : decide (0 < (t490.length : Int)) = true := decide_eq_true c52
               have c52b1 : decide (0 < t490.length) = true := decide_eq_true (by omega)
               clear c52
               clear H
               obtain ⟨Ao53, co53, eo53⟩ := Kd.R_slice HO_5.out
               subst eo53
               go_wp2
               repeat (go_quiet (fail); try go_wp2)
               go_ret
               exact ⟨by first | rfl | exact congrArg (fun b => Ending.returned (Value.bool b)) HR_.out | (simp [errW_none, errW_some] <;> rfl) | (simp [*, errW_none, errW_some] <;> rfl), B1_⟩
              rw [if_neg c52] at H
              have c52b0 : decide (0 < (t490.length : Int)) = false := decide_eq_false c52
              have c52b1 : decide (0 < t490.length) = false := decide_eq_false (by omega)
              clear c52
              have HR_ := Aside0.mk (Option.some.inj H)
              clear H
              obtain ⟨Ao54, co54, eo54⟩ := Kd.R_slice HO_5.out
              subst eo54
              go_wp2
              repeat (go_quiet (fail); try go_wp2)
              go_ret
              exact ⟨by first | rfl | exact congrArg (fun b => Ending.returned (Value.bool b)) HR_.out | (simp [errW_none, errW_some] <;> rfl) | (simp [*, errW_none, errW_some] <;> rfl), B1_⟩
             rw [if_neg c51] at H
             have c51b0 : (t505 == 0) = false := beq_eq_false_iff_ne.mpr c51
             have c51b1 : (t505 != 0) = true := bne_iff_ne.mpr c51
             exact absurd H (by simp)
    rw [if_neg c10] at H
    have c10b0 : (t485 == 0) = false := beq_eq_false_iff_ne.mpr c10
    have c10b1 : (t485 != 0) = true := bne_iff_ne.mpr c10
    replace H := Option.bind_eq_some_iff.mp H
    obtain ⟨t487, A550, H⟩ := H
    replace H : (some ((t487.length : Int) == 0)) = some true := H
    have A55 := Aside0.mk A550
    clear A550
    have HR_ := Aside0.mk (Option.some.inj H)
    clear H
    go_wp2_with (first | (go_at_call 9; (with_reducible refine (graph_Make.calls kj3 _ _ l0 t479 t482 t485 _ ?side1 ?side2 A9.out).mono ?_); (case side1 => exact CX_ (Kd.C_below HR0.out HB.out)); (case side2 => exact HC0.out); rintro e w56 ⟨v480, v483, rfl, ho0, ho1, hb⟩; have n0_ := Aside0.mk (Kd.S_lower ho0 (below_size (B_))); have n1_ := Aside0.mk (Kd.S_lower ho1 (below_size (B_))); have n2_ := Aside0.mk (below_step (B_) hb); clear HB; have HO481 := n0_; have HO484 := n1_; have HB := n2_; clear n0_ n1_ n2_; (try clear hb); (try clear hb2); (try clear hk); (try clear hi); (try clear ho0); (try clear ho1)) | ((with_reducible refine gate_dst (N := 3) rfl ?_); (try (refine gate_guard (by rfl) ?_; dsimp only)); refine box_event ?hg (N := 3) ?hd (cs := #[.slice none 0 0, .slice none 0 0]) (t := 26) ?hr ?_; (case hd => rfl); (case hg => rfl); (case hr => first | (go_simp; done) | (go_simp; rfl)); intro gb486 hg w57 hbox hb; have n0_ := Aside0.mk (Kd.S_below (by exact SX_ HO481.out) hb); have n1_ := Aside0.mk (Kd.S_below (by exact SX_ HO484.out) hb); have n2_ := Aside0.mk (below_step (B_) hb); have n3_ := Aside0.mk (hbox); have n4_ := Aside0.mk ((by rw [hg]; exact (below_size (B_)) : w.heap.size ≤ gb486)); have n5_ := Aside0.mk ((by rw [hg]; exact (below_size (B_)) : w.heap.size ≤ gb486)); clear HO481; clear HO484; clear HB; have HO481 := n0_; have HO484 := n1_; have HB := n2_; have BK486 := n3_; have GW486 := n4_; have GE486 := n5_; clear n0_ n1_ n2_ n3_ n4_ n5_; clear hb hbox hg; obtain ⟨Ao58, co58, eo58⟩ := Kd.S_slice HO481.out; subst eo58; have hcz59_0 : w57.cell? ⟨gb486, 0, none⟩ = some (.slice none 0 0) := (blk_cell BK486.out 0).trans rfl; have hcz59_1 : w57.cell? ⟨gb486, 1, none⟩ = some (.slice none 0 0) := (blk_cell BK486.out 1).trans rfl; have hfz59_0 := blk_frozen BK486.out 0; have hfz59_1 := blk_frozen BK486.out 1; obtain ⟨Ao60, co60, eo60⟩ := Kd.S_slice HO484.out; subst eo60) | (go_at_call 14; (with_reducible refine (pdom_Shut.calls kj3 _ _ t479 _ _ t482 t487 _ ?side1 ?side2 ?side3 ?side4 A55.out).mono ?_); (case side1 => refine (Kd.S_reads' (e := 30) (base := w.heap.size) (ok := fun k_ => some k_ ≠ (.slice Ao60 t482.length co60 : Value).ownBlock) (n := t479.length) (c := co58) ?_).2.2; exact (by (with_reducible repeat (first | apply Kd.S_alloc | apply Kd.S_drewN | apply Kd.S_drew)); exact (Kd.S_mono (Kd.S_far (p := ⟨gb486, 1, none⟩) (Kd.S_far (p := ⟨gb486, 0, none⟩) (Kd.S_types HO481.out BK486.out (by decide)) (fun _ hk => hk.2) (.slice Ao58 t479.length co58)) (fun _ hk => hk.2) (.slice Ao60 t482.length co60)) (fun _ h_ => h_.1)))); (case side2 => exact (Kd.S_reads' HO481.out).2.1); (case side3 => refine (Kd.S_reads' (e := 30) (base := w.heap.size) (ok := fun k_ => some k_ ≠ (.slice Ao58 t479.length co58 : Value).ownBlock) (n := t482.length) (c := co60) ?_).2.2; exact (by (with_reducible repeat (first | apply Kd.S_alloc | apply Kd.S_drewN | apply Kd.S_drew)); exact (Kd.S_mono (Kd.S_far (p := ⟨gb486, 1, none⟩) (Kd.S_far (p := ⟨gb486, 0, none⟩) (Kd.S_types HO484.out BK486.out (by decide)) (fun _ hk => hk.2) (.slice Ao58 t479.length co58)) (fun _ hk => hk.2) (.slice Ao60 t482.length co60)) (fun _ h_ => h_.1)))); (case side4 => exact (Kd.S_reads' HO484.out).2.1); rintro e w61 ⟨v488, rfl, ho0, hb⟩; have n0_ := Aside0.mk (Kd.S_elder' (by (with_reducible repeat (first | apply Kd.S_alloc | apply Kd.S_drewN | apply Kd.S_drew)); exact (Kd.S_mono (Kd.S_far (p := ⟨gb486, 1, none⟩) (Kd.S_far (p := ⟨gb486, 0, none⟩) (Kd.S_types HO481.out BK486.out (by decide)) (fun _ hk => hk.2) (.slice Ao58 t479.length co58)) (fun _ hk => hk.2) (.slice Ao60 t482.length co60)) (fun _ h_ => h_.1))) (Kd.R_base ho0) hb); have n1_ := Aside0.mk (Kd.S_elder' (by (with_reducible repeat (first | apply Kd.S_alloc | apply Kd.S_drewN | apply Kd.S_drew)); exact (Kd.S_mono (Kd.S_far (p := ⟨gb486, 1, none⟩) (Kd.S_far (p := ⟨gb486, 0, none⟩) (Kd.S_types HO484.out BK486.out (by decide)) (fun _ hk => hk.2) (.slice Ao58 t479.length co58)) (fun _ hk => hk.2) (.slice Ao60 t482.length co60)) (fun _ h_ => h_.1))) (Kd.R_base ho0) hb); have n2_ := Aside0.mk (Kd.R_lower ho0 (below_size (B1_))); have n3_ := Aside0.mk (blk_below (g := gb486) (o := .cells #[.slice Ao58 t479.length co58, .slice Ao60 t482.length co60] 26 (0, 0)) (by (with_reducible repeat (first | refine blk_drewN ?_ _ | refine blk_drew ?_ | refine blk_alloc ?_ _)); refine blk_put (cs := #[.slice Ao58 t479.length co58, .slice none 0 0]) ?_ 1 _ rfl; (with_reducible repeat (first | refine blk_drewN ?_ _ | refine blk_drew ?_ | refine blk_alloc ?_ _)); refine blk_put (cs := #[.slice none 0 0, .slice none 0 0]) ?_ 0 _ rfl; exact KX_ BK486.out) hb); have n4_ := Aside0.mk (below_step (B1_) hb); clear HO481; clear HO484; clear BK486; clear HB; have HO481 := n0_; have HO484 := n1_; have HO489 := n2_; have BK486 := n3_; have HB := n4_; clear n0_ n1_ n2_ n3_ n4_; (try clear hb); (try clear hb2); (try clear hk); (try clear hi); (try clear ho0); obtain ⟨Ao62, co62, eo62⟩ := Kd.R_slice HO489.out; subst eo62))
    repeat (go_quiet (first | (go_at_call 9; (with_reducible refine (graph_Make.calls kj3 _ _ l0 t479 t482 t485 _ ?side1 ?side2 A9.out).mono ?_); (case side1 => exact CX_ (Kd.C_below HR0.out HB.out)); (case side2 => exact HC0.out); rintro e w56 ⟨v480, v483, rfl, ho0, ho1, hb⟩; have n0_ := Aside0.mk (Kd.S_lower ho0 (below_size (B_))); have n1_ := Aside0.mk (Kd.S_lower ho1 (below_size (B_))); have n2_ := Aside0.mk (below_step (B_) hb); clear HB; have HO481 := n0_; have HO484 := n1_; have HB := n2_; clear n0_ n1_ n2_; (try clear hb); (try clear hb2); (try clear hk); (try clear hi); (try clear ho0); (try clear ho1)) | ((with_reducible refine gate_dst (N := 3) rfl ?_); (try (refine gate_guard (by rfl) ?_; dsimp only)); refine box_event ?hg (N := 3) ?hd (cs := #[.slice none 0 0, .slice none 0 0]) (t := 26) ?hr ?_; (case hd => rfl); (case hg => rfl); (case hr => first | (go_simp; done) | (go_simp; rfl)); intro gb486 hg w57 hbox hb; have n0_ := Aside0.mk (Kd.S_below (by exact SX_ HO481.out) hb); have n1_ := Aside0.mk (Kd.S_below (by exact SX_ HO484.out) hb); have n2_ := Aside0.mk (below_step (B_) hb); have n3_ := Aside0.mk (hbox); have n4_ := Aside0.mk ((by rw [hg]; exact (below_size (B_)) : w.heap.size ≤ gb486)); have n5_ := Aside0.mk ((by rw [hg]; exact (below_size (B_)) : w.heap.size ≤ gb486)); clear HO481; clear HO484; clear HB; have HO481 := n0_; have HO484 := n1_; have HB := n2_; have BK486 := n3_; have GW486 := n4_; have GE486 := n5_; clear n0_ n1_ n2_ n3_ n4_ n5_; clear hb hbox hg; obtain ⟨Ao58, co58, eo58⟩ := Kd.S_slice HO481.out; subst eo58; have hcz59_0 : w57.cell? ⟨gb486, 0, none⟩ = some (.slice none 0 0) := (blk_cell BK486.out 0).trans rfl; have hcz59_1 : w57.cell? ⟨gb486, 1, none⟩ = some (.slice none 0 0) := (blk_cell BK486.out 1).trans rfl; have hfz59_0 := blk_frozen BK486.out 0; have hfz59_1 := blk_frozen BK486.out 1; obtain ⟨Ao60, co60, eo60⟩ := Kd.S_slice HO484.out; subst eo60) | (go_at_call 14; (with_reducible refine (pdom_Shut.calls kj3 _ _ t479 _ _ t482 t487 _ ?side1 ?side2 ?side3 ?side4 A55.out).mono ?_); (case side1 => refine (Kd.S_reads' (e := 30) (base := w.heap.size) (ok := fun k_ => some k_ ≠ (.slice Ao60 t482.length co60 : Value).ownBlock) (n := t479.length) (c := co58) ?_).2.2; exact (by (with_reducible repeat (first | apply Kd.S_alloc | apply Kd.S_drewN | apply Kd.S_drew)); exact (Kd.S_mono (Kd.S_far (p := ⟨gb486, 1, none⟩) (Kd.S_far (p := ⟨gb486, 0, none⟩) (Kd.S_types HO481.out BK486.out (by decide)) (fun _ hk => hk.2) (.slice Ao58 t479.length co58)) (fun _ hk => hk.2) (.slice Ao60 t482.length co60)) (fun _ h_ => h_.1)))); (case side2 => exact (Kd.S_reads' HO481.out).2.1); (case side3 => refine (Kd.S_reads' (e := 30) (base := w.heap.size) (ok := fun k_ => some k_ ≠ (.slice Ao58 t479.length co58 : Value).ownBlock) (n := t482.length) (c := co60) ?_).2.2; exact (by (with_reducible repeat (first | apply Kd.S_alloc | apply Kd.S_drewN | apply Kd.S_drew)); exact (Kd.S_mono (Kd.S_far (p := ⟨gb486, 1, none⟩) (Kd.S_far (p := ⟨gb486, 0, none⟩) (Kd.S_types HO484.out BK486.out (by decide)) (fun _ hk => hk.2) (.slice Ao58 t479.length co58)) (fun _ hk => hk.2) (.slice Ao60 t482.length co60)) (fun _ h_ => h_.1)))); (case side4 => exact (Kd.S_reads' HO484.out).2.1); rintro e w61 ⟨v488, rfl, ho0, hb⟩; have n0_ := Aside0.mk (Kd.S_elder' (by (with_reducible repeat (first | apply Kd.S_alloc | apply Kd.S_drewN | apply Kd.S_drew)); exact (Kd.S_mono (Kd.S_far (p := ⟨gb486, 1, none⟩) (Kd.S_far (p := ⟨gb486, 0, none⟩) (Kd.S_types HO481.out BK486.out (by decide)) (fun _ hk => hk.2) (.slice Ao58 t479.length co58)) (fun _ hk => hk.2) (.slice Ao60 t482.length co60)) (fun _ h_ => h_.1))) (Kd.R_base ho0) hb); have n1_ := Aside0.mk (Kd.S_elder' (by (with_reducible repeat (first | apply Kd.S_alloc | apply Kd.S_drewN | apply Kd.S_drew)); exact (Kd.S_mono (Kd.S_far (p := ⟨gb486, 1, none⟩) (Kd.S_far (p := ⟨gb486, 0, none⟩) (Kd.S_types HO484.out BK486.out (by decide)) (fun _ hk => hk.2) (.slice Ao58 t479.length co58)) (fun _ hk => hk.2) (.slice Ao60 t482.length co60)) (fun _ h_ => h_.1))) (Kd.R_base ho0) hb); have n2_ := Aside0.mk (Kd.R_lower ho0 (below_size (B1_))); have n3_ := Aside0.mk (blk_below (g := gb486) (o := .cells #[.slice Ao58 t479.length co58, .slice Ao60 t482.length co60] 26 (0, 0)) (by (with_reducible repeat (first | refine blk_drewN ?_ _ | refine blk_drew ?_ | refine blk_alloc ?_ _)); refine blk_put (cs := #[.slice Ao58 t479.length co58, .slice none 0 0]) ?_ 1 _ rfl; (with_reducible repeat (first | refine blk_drewN ?_ _ | refine blk_drew ?_ | refine blk_alloc ?_ _)); refine blk_put (cs := #[.slice none 0 0, .slice none 0 0]) ?_ 0 _ rfl; exact KX_ BK486.out) hb); have n4_ := Aside0.mk (below_step (B1_) hb); clear HO481; clear HO484; clear BK486; clear HB; have HO481 := n0_; have HO484 := n1_; have HO489 := n2_; have BK486 := n3_; have HB := n4_; clear n0_ n1_ n2_ n3_ n4_; (try clear hb); (try clear hb2); (try clear hk); (try clear hi); (try clear ho0); obtain ⟨Ao62, co62, eo62⟩ := Kd.R_slice HO489.out; subst eo62)); try go_wp2_with (first | (go_at_call 9; (with_reducible refine (graph_Make.calls kj3 _ _ l0 t479 t482 t485 _ ?side1 ?side2 A9.out).mono ?_); (case side1 => exact CX_ (Kd.C_below HR0.out HB.out)); (case side2 => exact HC0.out); rintro e w56 ⟨v480, v483, rfl, ho0, ho1, hb⟩; have n0_ := Aside0.mk (Kd.S_lower ho0 (below_size (B_))); have n1_ := Aside0.mk (Kd.S_lower ho1 (below_size (B_))); have n2_ := Aside0.mk (below_step (B_) hb); clear HB; have HO481 := n0_; have HO484 := n1_; have HB := n2_; clear n0_ n1_ n2_; (try clear hb); (try clear hb2); (try clear hk); (try clear hi); (try clear ho0); (try clear ho1)) | ((with_reducible refine gate_dst (N := 3) rfl ?_); (try (refine gate_guard (by rfl) ?_; dsimp only)); refine box_event ?hg (N := 3) ?hd (cs := #[.slice none 0 0, .slice none 0 0]) (t := 26) ?hr ?_; (case hd => rfl); (case hg => rfl); (case hr => first | (go_simp; done) | (go_simp; rfl)); intro gb486 hg w57 hbox hb; have n0_ := Aside0.mk (Kd.S_below (by exact SX_ HO481.out) hb); have n1_ := Aside0.mk (Kd.S_below (by exact SX_ HO484.out) hb); have n2_ := Aside0.mk (below_step (B_) hb); have n3_ := Aside0.mk (hbox); have n4_ := Aside0.mk ((by rw [hg]; exact (below_size (B_)) : w.heap.size ≤ gb486)); have n5_ := Aside0.mk ((by rw [hg]; exact (below_size (B_)) : w.heap.size ≤ gb486)); clear HO481; clear HO484; clear HB; have HO481 := n0_; have HO484 := n1_; have HB := n2_; have BK486 := n3_; have GW486 := n4_; have GE486 := n5_; clear n0_ n1_ n2_ n3_ n4_ n5_; clear hb hbox hg; obtain ⟨Ao58, co58, eo58⟩ := Kd.S_slice HO481.out; subst eo58; have hcz59_0 : w57.cell? ⟨gb486, 0, none⟩ = some (.slice none 0 0) := (blk_cell BK486.out 0).trans rfl; have hcz59_1 : w57.cell? ⟨gb486, 1, none⟩ = some (.slice none 0 0) := (blk_cell BK486.out 1).trans rfl; have hfz59_0 := blk_frozen BK486.out 0; have hfz59_1 := blk_frozen BK486.out 1; obtain ⟨Ao60, co60, eo60⟩ := Kd.S_slice HO484.out; subst eo60) | (go_at_call 14; (with_reducible refine (pdom_Shut.calls kj3 _ _ t479 _ _ t482 t487 _ ?side1 ?side2 ?side3 ?side4 A55.out).mono ?_); (case side1 => refine (Kd.S_reads' (e := 30) (base := w.heap.size) (ok := fun k_ => some k_ ≠ (.slice Ao60 t482.length co60 : Value).ownBlock) (n := t479.length) (c := co58) ?_).2.2; exact (by (with_reducible repeat (first | apply Kd.S_alloc | apply Kd.S_drewN | apply Kd.S_drew)); exact (Kd.S_mono (Kd.S_far (p := ⟨gb486, 1, none⟩) (Kd.S_far (p := ⟨gb486, 0, none⟩) (Kd.S_types HO481.out BK486.out (by decide)) (fun _ hk => hk.2) (.slice Ao58 t479.length co58)) (fun _ hk => hk.2) (.slice Ao60 t482.length co60)) (fun _ h_ => h_.1)))); (case side2 => exact (Kd.S_reads' HO481.out).2.1); (case side3 => refine (Kd.S_reads' (e := 30) (base := w.heap.size) (ok := fun k_ => some k_ ≠ (.slice Ao58 t479.length co58 : Value).ownBlock) (n := t482.length) (c := co60) ?_).2.2; exact (by (with_reducible repeat (first | apply Kd.S_alloc | apply Kd.S_drewN | apply Kd.S_drew)); exact (Kd.S_mono (Kd.S_far (p := ⟨gb486, 1, none⟩) (Kd.S_far (p := ⟨gb486, 0, none⟩) (Kd.S_types HO484.out BK486.out (by decide)) (fun _ hk => hk.2) (.slice Ao58 t479.length co58)) (fun _ hk => hk.2) (.slice Ao60 t482.length co60)) (fun _ h_ => h_.1)))); (case side4 => exact (Kd.S_reads' HO484.out).2.1); rintro e w61 ⟨v488, rfl, ho0, hb⟩; have n0_ := Aside0.mk (Kd.S_elder' (by (with_reducible repeat (first | apply Kd.S_alloc | apply Kd.S_drewN | apply Kd.S_drew)); exact (Kd.S_mono (Kd.S_far (p := ⟨gb486, 1, none⟩) (Kd.S_far (p := ⟨gb486, 0, none⟩) (Kd.S_types HO481.out BK486.out (by decide)) (fun _ hk => hk.2) (.slice Ao58 t479.length co58)) (fun _ hk => hk.2) (.slice Ao60 t482.length co60)) (fun _ h_ => h_.1))) (Kd.R_base ho0) hb); have n1_ := Aside0.mk (Kd.S_elder' (by (with_reducible repeat (first | apply Kd.S_alloc | apply Kd.S_drewN | apply Kd.S_drew)); exact (Kd.S_mono (Kd.S_far (p := ⟨gb486, 1, none⟩) (Kd.S_far (p := ⟨gb486, 0, none⟩) (Kd.S_types HO484.out BK486.out (by decide)) (fun _ hk => hk.2) (.slice Ao58 t479.length co58)) (fun _ hk => hk.2) (.slice Ao60 t482.length co60)) (fun _ h_ => h_.1))) (Kd.R_base ho0) hb); have n2_ := Aside0.mk (Kd.R_lower ho0 (below_size (B1_))); have n3_ := Aside0.mk (blk_below (g := gb486) (o := .cells #[.slice Ao58 t479.length co58, .slice Ao60 t482.length co60] 26 (0, 0)) (by (with_reducible repeat (first | refine blk_drewN ?_ _ | refine blk_drew ?_ | refine blk_alloc ?_ _)); refine blk_put (cs := #[.slice Ao58 t479.length co58, .slice none 0 0]) ?_ 1 _ rfl; (with_reducible repeat (first | refine blk_drewN ?_ _ | refine blk_drew ?_ | refine blk_alloc ?_ _)); refine blk_put (cs := #[.slice none 0 0, .slice none 0 0]) ?_ 0 _ rfl; exact KX_ BK486.out) hb); have n4_ := Aside0.mk (below_step (B1_) hb); clear HO481; clear HO484; clear BK486; clear HB; have HO481 := n0_; have HO484 := n1_; have HO489 := n2_; have BK486 := n3_; have HB := n4_; clear n0_ n1_ n2_ n3_ n4_; (try clear hb); (try clear hb2); (try clear hk); (try clear hi); (try clear ho0); obtain ⟨Ao62, co62, eo62⟩ := Kd.R_slice HO489.out; subst eo62)))
    go_ret
    exact ⟨by first | rfl | exact congrArg (fun b => Ending.returned (Value.bool b)) HR_.out | (simp [errW_none, errW_some] <;> rfl) | (simp [*, errW_none, errW_some] <;> rfl), B1_⟩
 replace c3 := Bool.eq_false_iff.mpr c3
 subst c3
 have H1 : (some false) = some true := by rw [if_neg (show ¬ (false = true) by decide)] at H; exact H
 clear H
 have H := H1
 clear H1
 exact absurd H (by simp)

/-- THE ONE PURE STATEMENT of locksteplaw08_PdomShut: yours. -/
def locksteplaw08_PdomShut.Pure : Prop := ∀ (l0 : List (List Int)), RowsOk .i64 l0 → ∃ k, locksteplaw08_PdomShut.f k l0 = some true
theorem locksteplaw08_PdomShut.walk (P : locksteplaw08_PdomShut.Pure) (a0 : Option Addr) (cap0 : Nat) (l0 : List (List Int)) (w : World) (w0 : Kd.C (Kd.slice 3 (Kd.int .i64)) w a0 l0.length l0) (y0 : l0.length ≤ cap0) (m0 : RowsOk .i64 l0) :
 Calls Try.prog 6 #[.slice a0 l0.length cap0] w fun e w' => e = .returned (.bool true) ∧ Below w.heap.size w w' := by
 obtain ⟨k, h⟩ := P l0 m0
 refine (locksteplaw08_PdomShut.calls k _ _ l0 w w0 y0 h).mono ?_
 rintro e w' ⟨rfl, hd⟩
 exact ⟨rfl, hd⟩

end Go.Proofs.Ytamlaebfpmbefaa.G
namespace Go.Proofs.Ytamlaebfpmbefaa.GP
open Go.RowKit Go.Proofs.Ytamlaebfpmbefaa.G Go.Proofs.YtamlaebfpmbefaaW.PrintWords

/-- With enough rounds the answer is v. -/
def Ev {α : Type} (f : Nat → Option α) (v : α) : Prop := ∃ K, ∀ k, K ≤ k → f k = some v
theorem Ev.succ {α : Type} {f : Nat → Option α} {v : α} (h : Ev (fun k => f (k + 1)) v) : Ev f v := by
  obtain ⟨K, h⟩ := h
  refine ⟨K + 1, fun k hk => ?_⟩
  obtain ⟨m, rfl⟩ : ∃ m, k = m + 1 := ⟨k - 1, by omega⟩
  exact h m (by omega)
theorem Ev.bind {α β : Type} {g : Nat → Option α} {h : Nat → α → Option β} {a : α} {r : β} (h1 : Ev g a) (h2 : Ev (fun k => h k a) r) : Ev (fun k => (g k).bind (fun t => h k t)) r := by
  obtain ⟨K1, h1⟩ := h1
  obtain ⟨K2, h2⟩ := h2
  refine ⟨K1 + K2, fun k hk => ?_⟩
  simp only [h1 k (by omega), Option.bind_some]
  exact h2 k (by omega)
theorem Ev.pure {α : Type} {v : α} : Ev (fun _ => some v) v := ⟨0, fun _ _ => rfl⟩
theorem Ev.ifp {α : Type} {c : Prop} [Decidable c] {a b : Nat → Option α} {v : α} (h : c) (H : Ev a v) : Ev (fun k => if c then a k else b k) v := by
  simp only [if_pos h]; exact H
theorem Ev.ifn {α : Type} {c : Prop} [Decidable c] {a b : Nat → Option α} {v : α} (h : ¬ c) (H : Ev b v) : Ev (fun k => if c then a k else b k) v := by
  simp only [if_neg h]; exact H
theorem Ev.at {α : Type} {f : Nat → Option α} {v : α} (h : Ev f v) : ∃ k, f k = some v := by
  obtain ⟨K, h⟩ := h; exact ⟨K, h K (Nat.le_refl _)⟩
theorem Ev.of_eq {α : Type} {f : Nat → Option α} {v w : α} (h : Ev f v) (e : v = w) : Ev f w := e ▸ h
theorem Ev.of_at {α : Type} {f : Nat → Option α} {v : α} (m : ∀ k, LeO (f k) (f (k + 1))) {K : Nat} (h : f K = some v) : Ev f v := by
  refine ⟨K, fun k hk => ?_⟩
  obtain ⟨d, rfl⟩ : ∃ d, k = K + d := ⟨k - K, by omega⟩
  clear hk
  induction d with
  | zero => exact h
  | succ d ih => exact m _ _ ih

theorem wrap_nat {i : Nat} (h : i < 9223372036854775807) : wrap64 ((i : Int) + 1) = ((i + 1 : Nat) : Int) := by unfold wrap64; omega
theorem wrap_id {x : Int} (h : -9223372036854775808 ≤ x) (h' : x ≤ 9223372036854775807) : wrap64 x = x := by unfold wrap64; omega

/-- Numbers as blocks' numbers. -/
def up (l : List Nat) : List Int := l.map (fun n : Nat => (n : Int))
def up2 (S : List (List Nat)) : List (List Int) := S.map up
@[simp] theorem up_length (l : List Nat) : (up l).length = l.length := by simp [up]
@[simp] theorem up2_length (S : List (List Nat)) : (up2 S).length = S.length := by simp [up2]
@[simp] theorem up_nil : up [] = [] := rfl
@[simp] theorem up2_nil : up2 [] = [] := rfl
theorem up_append (a b : List Nat) : up (a ++ b) = up a ++ up b := by simp [up]
theorem up_inj {a b : List Nat} (h : up a = up b) : a = b := by
  induction a generalizing b with
  | nil => cases b with
    | nil => rfl
    | cons y b => simp [up] at h
  | cons x a ih => cases b with
    | nil => simp [up] at h
    | cons y b =>
      simp only [up, List.map_cons, List.cons.injEq] at h
      rw [show x = y by omega, ih h.2]
theorem up2_inj {a b : List (List Nat)} (h : up2 a = up2 b) : a = b := by
  induction a generalizing b with
  | nil => cases b with
    | nil => rfl
    | cons y b => simp [up2] at h
  | cons x a ih => cases b with
    | nil => simp [up2] at h
    | cons y b =>
      simp only [up2, List.map_cons, List.cons.injEq] at h
      rw [up_inj h.1, ih h.2]
theorem rd_up (l : List Nat) (i : Nat) : rd (up l) (i : Int) = ((l.getD i 0 : Nat) : Int) := by
  simp only [rd, up, Int.toNat_natCast, List.getD_eq_getElem?_getD, List.getElem?_map]
  cases l[i]? <;> rfl
theorem rdL_up (S : List (List Nat)) (i : Nat) : rd_L1 (up2 S) (i : Int) = up (S.getD i []) := by
  simp only [rd_L1, up2, Int.toNat_natCast, List.getD_eq_getElem?_getD, List.getElem?_map]
  cases S[i]? <;> rfl
theorem getD_mem {α : Type} {l : List α} {i : Nat} {d : α} (h : i < l.length) : l.getD i d ∈ l := by
  rw [List.getD_eq_getElem?_getD, List.getElem?_eq_getElem h]; exact List.getElem_mem h
theorem drop_getD {α : Type} (l : List α) (i : Nat) (d : α) (h : i < l.length) : l.drop i = l.getD i d :: l.drop (i + 1) := by
  rw [List.drop_eq_getElem_cons h, List.getD_eq_getElem?_getD, List.getElem?_eq_getElem h]; rfl
theorem take_getD {α : Type} (l : List α) (i : Nat) (d : α) (h : i < l.length) : l.take (i + 1) = l.take i ++ [l.getD i d] := by
  rw [List.take_succ_eq_append_getElem h, List.getD_eq_getElem?_getD, List.getElem?_eq_getElem h]; rfl
theorem getD_map_range {α : Type} (n : Nat) (f : Nat → α) (i : Nat) (d : α) (h : i < n) : ((List.range n).map f).getD i d = f i := by
  rw [List.getD_eq_getElem?_getD, List.getElem?_map, List.getElem?_range h]; rfl
theorem set_map_range {α : Type} (n : Nat) (f g : Nat → α) (i : Nat) (v : α) (hv : g i = v) (he : ∀ j, j ≠ i → g j = f j) : ((List.range n).map f).set i v = (List.range n).map g := by
  apply List.ext_getElem
  · simp
  · intro j h1 h2
    simp only [List.getElem_set, List.getElem_map, List.getElem_range]
    split
    · next e => rw [← e, hv]
    · next e => rw [he j (fun h => e h.symm)]
theorem self_map_range {α : Type} (l : List α) (d : α) : l = (List.range l.length).map (fun i => l.getD i d) := by
  apply List.ext_getElem
  · simp
  · intro j h1 h2
    simp only [List.getElem_map, List.getElem_range, List.getD_eq_getElem?_getD, List.getElem?_eq_getElem h1]; rfl
theorem ext_getD {α : Type} {a b : List α} (d : α) (hl : a.length = b.length) (h : ∀ i, i < a.length → a.getD i d = b.getD i d) : a = b := by
  rw [self_map_range a d, self_map_range b d, hl]
  exact List.map_congr_left (fun i hi => h i (by have := List.mem_range.mp hi; omega))
end Go.Proofs.Ytamlaebfpmbefaa.GP
