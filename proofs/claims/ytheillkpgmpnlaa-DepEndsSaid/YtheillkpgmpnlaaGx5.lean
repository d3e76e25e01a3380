/- Printed by a program of this session (wip/tools/op.py, over the kit's print program): Go functions as plain Lean functions, each with a proof that the call answers so. Conditions: each theorem's own. -/
import Derived.Test.YtheillkpgmpnlaaGx0
import Derived.Test.YtheillkpgmpnlaaGx2
import Derived.Test.YtheillkpgmpnlaaGx3
import Derived.Test.YtheillkpgmpnlaaGx4
namespace Go.Proofs.Ytheillkpgmpnlaa.G
open Go.Proofs.YtheillkpgmpnlaaH
open Go.RowKit Go.Proofs.YtheillkpgmpnlaaW.PrintWords Go.Proofs.YtheillkpgmpnlaaW.PrintLast Go.Proofs.YtheillkpgmpnlaaW.PrintMore
attribute [local go_sem] max2_int min2_int max_two min_two max_three min_three max_four min_four   -- for this text's walks alone
set_option linter.unusedVariables false
set_option linter.unusedSimpArgs false

/-! ### graph_Make: function 15 -/
mutual
def graph_Make.j0 : Nat → List (List Int) → Bool → Int → Option ((List (List Int)) × (List (List Int)) × Int)
 | 0, _, _, _ => none
 | k + 1, x0, x20, x128000 => if x20 = true then (some (([] : List (List Int)), ([] : List (List Int)), 5)) else (if 0 ≤ x128000 then (if (x128000 : Int).toNat ≤ 11728124029610 then (graph_Make.l0 k (([] : List (List Int))) x0 (x0.length : Int) 0) else (none)) else (none))
def graph_Make.l0 : Nat → List (List Int) → List (List Int) → Int → Int → Option ((List (List Int)) × (List (List Int)) × Int)
 | 0, _, _, _, _ => none
 | k + 1, x5, x24, x25, x26 => if x26 < x25 then (if 0 ≤ x26 then (if x26 < (x24.length : Int) then ((slices_Clone_int_int.f (rd_L1 x24 x26)).bind fun t133 => (if x5.length < 5864062014805 then (graph_Make.l0 k (x5 ++ [t133]) x24 x25 (wrap64 (x26 + 1))) else (none))) else (none)) else (none)) else ((graph_preds.f k x5).bind fun t139 => (some (x5, t139, 0)))
end
def graph_Make.f (k : Nat) (l0 : List (List Int)) : Option ((List (List Int)) × (List (List Int)) × Int) := if (l0.length : Int) < 1 then (graph_Make.j0 k l0 true (l0.length : Int)) else (if (l0.length : Int) > 64 then (graph_Make.j0 k l0 true (l0.length : Int)) else ((slices_ContainsFunc_int_int_graph_Make_1.f k l0 (l0.length : Int)).bind fun t128 => (graph_Make.j0 k l0 t128 (l0.length : Int))))
theorem graph_Make.mono_l : ∀ k, (∀ y0 y1 y2, LeO (graph_Make.j0 k y0 y1 y2) (graph_Make.j0 (k + 1) y0 y1 y2)) ∧ (∀ y0 y1 y2 y3, LeO (graph_Make.l0 k y0 y1 y2 y3) (graph_Make.l0 (k + 1) y0 y1 y2 y3))
 | 0 => ⟨fun _ _ _ r h => by simp [graph_Make.j0] at h, fun _ _ _ _ r h => by simp [graph_Make.l0] at h⟩
 | k + 1 => by
  obtain ⟨ih0, ih1⟩ := graph_Make.mono_l k
  refine ⟨?_, ?_⟩
  ·intro y0 y1 y2
   unfold graph_Make.j0
   repeat' (with_reducible first | exact ih0 _ _ _ | exact ih1 _ _ _ _ | exact graph_preds.mono _ _ | exact slices_ContainsFunc_int_int_graph_Make_1.mono _ _ _ | exact LeO.refl _ | exact LeO.none _ | refine LeO.ite ?_ ?_ | refine LeO.bind ?_ (fun _ => ?_))
  ·intro y0 y1 y2 y3
   unfold graph_Make.l0
   repeat' (with_reducible first | exact ih0 _ _ _ | exact ih1 _ _ _ _ | exact graph_preds.mono _ _ | exact slices_ContainsFunc_int_int_graph_Make_1.mono _ _ _ | exact LeO.refl _ | exact LeO.none _ | refine LeO.ite ?_ ?_ | refine LeO.bind ?_ (fun _ => ?_))
theorem graph_Make.mono : ∀ a0 k, LeO (graph_Make.f k a0) (graph_Make.f (k + 1) a0) := by
 intro a0 k
 obtain ⟨ih0, ih1⟩ := graph_Make.mono_l k
 unfold graph_Make.f
 repeat' (with_reducible first | exact ih0 _ _ _ | exact ih1 _ _ _ _ | exact graph_preds.mono _ _ | exact slices_ContainsFunc_int_int_graph_Make_1.mono _ _ _ | exact LeO.refl _ | exact LeO.none _ | refine LeO.ite ?_ ?_ | refine LeO.bind ?_ (fun _ => ?_))
set_option maxHeartbeats 8000000 in
set_option maxRecDepth 100000 in
theorem graph_Make.calls (k : Nat) (A0 : Option Addr) (c0 : Nat) (l0 : List (List Int)) (r1 : List (List Int)) (r2 : List (List Int)) (r3 : Int) (w : World) (hr0 : Kd.C (Kd.slice 3 (Kd.int .i64)) w A0 l0.length l0) (hc0 : l0.length ≤ c0) (h : graph_Make.f k l0 = some (r1, r2, r3)) :
 Calls Try.prog 15 #[.slice A0 l0.length c0] w fun e w' => ∃ v0_ v1_ : Value, e = .returned (.tuple #[.agg #[v0_, v1_], .int .i64 r3]) ∧ Kd.S (Kd.slice 3 (Kd.int .i64)) 31 w' w.heap.size (fun k_ => some k_ ≠ (v1_ : Value).ownBlock) v0_ r1 ∧ Kd.S (Kd.slice 3 (Kd.int .i64)) 31 w' w.heap.size (fun k_ => some k_ ≠ (v0_ : Value).ownBlock) v1_ r2 ∧ Below w.heap.size w w' := by
 have hu26 := Try.underlying26
 have HR0 := Aside0.mk hr0
 have HC0 := Aside0.mk hc0
 clear hr0 hc0
 have HB := A_ (Below.refl w.heap.size w)
 have H : (if (l0.length : Int) < 1 then (graph_Make.j0 k l0 true (l0.length : Int)) else (if (l0.length : Int) > 64 then (graph_Make.j0 k l0 true (l0.length : Int)) else ((slices_ContainsFunc_int_int_graph_Make_1.f k l0 (l0.length : Int)).bind fun t128 => (graph_Make.j0 k l0 t128 (l0.length : Int))))) = some (r1, r2, r3) := h
 clear h
 have HC2 := Aside0.mk H
 clear H
 go_enter Try.func15, Try.ntmps15
 go_upto_region 2 with (first | ((with_reducible refine gate_dst (N := 2) rfl ?_); refine box_event ?hg (N := 2) ?hd (cs := #[.slice none 0 0, .slice none 0 0]) (t := 26) ?hr ?_; (case hd => rfl); (case hg => rfl); (case hr => first | (go_simp; done) | (go_simp; rfl)); intro gb126 hg w3 hbox hb; have BK126 := A_ (hbox); have GW126 := A_ ((by rw [hg]; exact (below_size (B_)) : w.heap.size ≤ gb126)); have GE126 := A_ ((by rw [hg]; exact (below_size (B_)) : w.heap.size ≤ gb126)); replace HB := A_ (below_step (B_) hb); clear hb hbox hg) | ((with_reducible refine gate_dst (N := 4) rfl ?_); refine box_event ?hg (N := 4) ?hd (cs := #[.int .i64 0]) (t := 3) ?hr ?_; (case hd => rfl); (case hg => rfl); (case hr => first | (go_simp; done) | (go_simp; rfl)); intro gb127 hg w4 hbox hb; have BK127 := A_ (hbox); have GW127 := A_ ((by rw [hg]; exact (below_size (B1_)) : w.heap.size ≤ gb127)); have GE127 := A_ ((by rw [hg]; exact (below_size (B1_)) : w.heap.size ≤ gb127)); replace HB := A_ (below_step (B1_) hb); have NB126_127 := A_ ((by rw [hg]; exact Nat.ne_of_lt (blk_lt (g := gb126) (o := .cells #[.slice none 0 0, .slice none 0 0] 26 (0, 0)) (by exact KX_ BK126.out)) : gb126 ≠ gb127)); have NB127_126 := A_ ((by rw [hg]; exact Nat.ne_of_gt (blk_lt (g := gb126) (o := .cells #[.slice none 0 0, .slice none 0 0] 26 (0, 0)) (by exact KX_ BK126.out)) : gb127 ≠ gb126)); replace BK126 := A_ (blk_below (g := gb126) (o := .cells #[.slice none 0 0, .slice none 0 0] 26 (0, 0)) (by exact KX_ BK126.out) hb); clear hb hbox hg; have hnb5 := NB127_126.out; have hnc5 := NB126_127.out; have hcz6_0 : w4.cell? ⟨gb127, 0, none⟩ = some (.int .i64 0) := (blk_cell BK127.out 0).trans rfl; have hfz6_0 := blk_frozen BK127.out 0))
 (try simp only [Act.put, List.setIfInBounds_toArray, List.set_cons_zero, List.set_cons_succ])
 go_cut [20] (fun v20 wc => ∃ (kq : Nat) (x20_1 : Bool), v20 = .bool x20_1 ∧ Aside0 (graph_Make.j0 kq l0 x20_1 (l0.length : Int) = some (r1, r2, r3)) ∧ Aside0 (kq ≤ k) ∧ Aside0 (wc.heap[gb126]? = some (.cells #[(.slice none 0 0), (.slice none 0 0)] 26 (0, 0))) ∧ Aside0 (wc.heap[gb127]? = some (.cells #[.int .i64 (l0.length : Int)] 3 (0, 0))) ∧ Aside0 (Below w.heap.size w wc))
 case first =>
  have H := HC2.out
  clear HC2
  by_cases c7 : (l0.length : Int) < 1
  ·rw [if_pos c7] at H
   have c7b0 : decide ((l0.length : Int) < 1) = true := decide_eq_true c7
   have c7b1 : decide (l0.length < 1) = true := decide_eq_true (by omega)
   clear c7
   (first | rw [c7b0] | (simp only [i64_w, i32_w]; rw [c7b0]) | skip)
   have H' := Aside0.mk H
   clear H
   have hnb8 := NB127_126.out
   have hnc8 := NB126_127.out
   have hcz9_0 : w4.cell? ⟨gb127, 0, none⟩ = some (.int .i64 0) := (blk_cell BK127.out 0).trans rfl
   have hfz9_0 := blk_frozen BK127.out 0
   go_wp2
   go_meet
   case rel => exact ⟨_, (true), (by first | rfl | (simp; done) | (simp [*]; done)), H', ⟨by first | omega | exact Nat.le_refl _⟩, ⟨by (with_reducible repeat (first | refine blk_drewN ?_ _ | refine blk_drew ?_ | refine blk_alloc ?_ _)); refine blk_far ?_ NB126_127.out _; exact KX_ BK126.out⟩, ⟨by (with_reducible repeat (first | refine blk_drewN ?_ _ | refine blk_drew ?_ | refine blk_alloc ?_ _)); refine blk_put (cs := #[.int .i64 0]) ?_ 0 _ rfl; exact KX_ BK127.out⟩, ⟨B1_⟩⟩
  rw [if_neg c7] at H
  have c7b0 : decide ((l0.length : Int) < 1) = false := decide_eq_false c7
  have c7b1 : decide (l0.length < 1) = false := decide_eq_false (by omega)
  clear c7
  (first | rw [c7b0] | (simp only [i64_w, i32_w]; rw [c7b0]) | skip)
  by_cases c10 : (l0.length : Int) > 64
  ·rw [if_pos c10] at H
   have c10b0 : decide (64 < (l0.length : Int)) = true := decide_eq_true c10
   have c10b1 : decide (64 < l0.length) = true := decide_eq_true (by omega)
   clear c10
   have H' := Aside0.mk H
   clear H
   have hnb11 := NB127_126.out
   have hnc11 := NB126_127.out
   have hcz12_0 : w4.cell? ⟨gb127, 0, none⟩ = some (.int .i64 0) := (blk_cell BK127.out 0).trans rfl
   have hfz12_0 := blk_frozen BK127.out 0
   go_wp2
   go_meet
   case rel => exact ⟨_, (true), (by first | rfl | (simp; done) | (simp [*]; done)), H', ⟨by first | omega | exact Nat.le_refl _⟩, ⟨by (with_reducible repeat (first | refine blk_drewN ?_ _ | refine blk_drew ?_ | refine blk_alloc ?_ _)); refine blk_far ?_ NB126_127.out _; exact KX_ BK126.out⟩, ⟨by (with_reducible repeat (first | refine blk_drewN ?_ _ | refine blk_drew ?_ | refine blk_alloc ?_ _)); refine blk_put (cs := #[.int .i64 0]) ?_ 0 _ rfl; exact KX_ BK127.out⟩, ⟨B1_⟩⟩
  rw [if_neg c10] at H
  have c10b0 : decide (64 < (l0.length : Int)) = false := decide_eq_false c10
  have c10b1 : decide (64 < l0.length) = false := decide_eq_false (by omega)
  clear c10
  replace H := Option.bind_eq_some_iff.mp H
  obtain ⟨t128, A130, H⟩ := H
  try dsimp only at H
  have A13 := Aside0.mk A130
  clear A130
  have H' := Aside0.mk H
  clear H
  have hnb14 := NB127_126.out
  have hnc14 := NB126_127.out
  have hcz15_0 : w4.cell? ⟨gb127, 0, none⟩ = some (.int .i64 0) := (blk_cell BK127.out 0).trans rfl
  have hfz15_0 := blk_frozen BK127.out 0
  go_wp2_with (first | (go_at_call 31; (with_reducible refine (slices_ContainsFunc_int_int_graph_Make_1.calls k _ _ l0 gb127 (l0.length : Int) t128 _ ?side1 ?side2 ?side3 A13.out).mono ?_); (case side1 => exact Kd.C_below HR0.out (B1_)); (case side2 => exact HC0.out); (case side3 => exact (blk_cell (show _ = some (Obj.cells #[.int .i64 (l0.length : Int)] 3 (0, 0)) from (by (with_reducible repeat (first | refine blk_drewN ?_ _ | refine blk_drew ?_ | refine blk_alloc ?_ _)); refine blk_put (cs := #[.int .i64 0]) ?_ 0 _ rfl; exact KX_ BK127.out)) 0).trans rfl); rintro e w' ⟨rfl, ⟨nd, rfl⟩⟩))
  go_meet
  case rel => exact ⟨_, (t128), (by first | rfl | (simp; done) | (simp [*]; done)), H', ⟨by first | omega | exact Nat.le_refl _⟩, ⟨by (with_reducible repeat (first | refine blk_drewN ?_ _ | refine blk_drew ?_ | refine blk_alloc ?_ _)); refine blk_far ?_ NB126_127.out _; exact KX_ BK126.out⟩, ⟨by (with_reducible repeat (first | refine blk_drewN ?_ _ | refine blk_drew ?_ | refine blk_alloc ?_ _)); refine blk_put (cs := #[.int .i64 0]) ?_ 0 _ rfl; exact KX_ BK127.out⟩, ⟨B1_⟩⟩
 case rest =>
  clear HC2
  try clear hcz6_0
  try clear hfz6_0
  obtain ⟨kq, x20_1, rfl, HA, HJ1, BK126, BK127, HB⟩ := hcut
  cases kq with
  | zero => exact absurd HA.out (by simp [graph_Make.j0])
  | succ kj1 =>
   have H := HA.out
   clear HA
   simp only [graph_Make.j0] at H
   by_cases c16 : x20_1 = true
   ·subst c16
    have H1 : (some (([] : List (List Int)), ([] : List (List Int)), 5)) = some (r1, r2, r3) := by rw [if_pos rfl] at H; exact H
    clear H
    have H := H1
    clear H1
    simp only [Option.some.injEq, Prod.mk.injEq] at H
    obtain ⟨rfl, rfl, rfl⟩ := H
    have hnb17 := NB126_127.out
    have hnc17 := NB127_126.out
    have hcz18_0 : wc.cell? ⟨gb126, 0, none⟩ = some (.slice none 0 0) := (blk_cell BK126.out 0).trans rfl
    have hcz18_1 : wc.cell? ⟨gb126, 1, none⟩ = some (.slice none 0 0) := (blk_cell BK126.out 1).trans rfl
    have hfz18_0 := blk_frozen BK126.out 0
    have hfz18_1 := blk_frozen BK126.out 1
    go_wp2
    refine bodyPost_ret (results_ct rfl _ _ gb126 26 #[.slice none 0 0, .slice none 0 0] (0, 0) _ rfl (by (with_reducible repeat (first | refine blk_drewN ?_ _ | refine blk_drew ?_ | refine blk_alloc ?_ _)); refine blk_put (cs := #[.slice none 0 0, .slice none 0 0]) ?_ 1 _ rfl; (with_reducible repeat (first | refine blk_drewN ?_ _ | refine blk_drew ?_ | refine blk_alloc ?_ _)); refine blk_put (cs := #[.slice none 0 0, .slice none 0 0]) ?_ 0 _ rfl; exact KX_ BK126.out) Try.underlying26 rfl (by kernel_rfl)) rfl ?_
    exact ⟨_, _, by first | rfl | (simp [errW_none, errW_some] <;> rfl) | (simp [*, errW_none, errW_some] <;> rfl), by first | exact Kd.S_nil _ _ _ _ _ | exact Kd.N_nil _ _ _ _ _ | exact Kd.V_nil _ _ _ _ _ | exact Kd.Q_nil _ _ _ _ _ | exact Kd.R_nil _ _ _ _ _, by first | exact Kd.S_nil _ _ _ _ _ | exact Kd.N_nil _ _ _ _ _ | exact Kd.V_nil _ _ _ _ _ | exact Kd.Q_nil _ _ _ _ _ | exact Kd.R_nil _ _ _ _ _, B1_⟩
   replace c16 := Bool.eq_false_iff.mpr c16
   subst c16
   have H1 : (if 0 ≤ (l0.length : Int) then (if ((l0.length : Int) : Int).toNat ≤ 11728124029610 then (graph_Make.l0 kj1 (([] : List (List Int))) l0 (l0.length : Int) 0) else (none)) else (none)) = some (r1, r2, r3) := by rw [if_neg (show ¬ (false = true) by decide)] at H; exact H
   clear H
   have H := H1
   clear H1
   by_cases c19 : 0 ≤ (l0.length : Int)
   ·rw [if_pos c19] at H
    have c19b0 := eq_true c19
    have c19b1 : decide (0 ≤ (l0.length : Int)) = true := decide_eq_true c19
    clear c19
    by_cases c20 : ((l0.length : Int) : Int).toNat ≤ 11728124029610
    ·rw [if_pos c20] at H
     have c20b0 := eq_true c20
     have c20b1 : decide (((l0.length : Int) : Int).toNat ≤ 11728124029610) = true := decide_eq_true c20
     clear c20
     obtain ⟨y129, hy129⟩ : ∃ y_ : List (List Int), y_ = (([] : List (List Int))) := ⟨_, rfl⟩
     replace H : (graph_Make.l0 kj1 y129 l0 (l0.length : Int) 0) = some (r1, r2, r3) := by first | (rw [hy129]; with_reducible exact H) | (have H2_ := (Option.bind_some _ _).symm.trans H; rw [hy129]; with_reducible exact H2_) | (have H2_ := (Option.bind_some _ _).symm.trans H; with_reducible exact H2_) | with_reducible exact H | (rw [hy129]; exact H) | exact H
     have Ny129 := Aside0.mk hy129
     clear hy129
     have H' := Aside0.mk H
     clear H
     have hnb21 := NB127_126.out
     have hnc21 := NB126_127.out
     have hcz22_0 : wc.cell? ⟨gb127, 0, none⟩ = some (.int .i64 (l0.length : Int)) := (blk_cell BK127.out 0).trans rfl
     have hfz22_0 := blk_frozen BK127.out 0
     go_wp2_with (first | ((with_reducible refine gate_dst (N := 23) rfl ?_); refine Kd0.S_make0 (Kd.slice 3 (Kd.int .i64)) _ 31 rfl (N := 23) rfl 22 _ _ rfl (l0.length : Int) rfl rfl Try.underlying22 (.slice none 0 0) 24 info31 rfl (by decide) (by omega) [] (ok := fun _ => True) (okp := fun _ => True) ⟨_, rfl, Kd.R_nil _ _ _ _ _⟩ (fun _ hk => hk) trivial (D_) (Nat.le_trans (Nat.mul_le_mul_right _ (D_ : (l0.length : Int).toNat ≤ 11728124029610)) (by omega)) (Below.refl _ _) (Nat.le_refl _) ?_; intro v130 w23 ho24 hb hg_ hnew_; clear hg_ hnew_; (first | rw [← Ny129.out] at ho24 | (simp only [Int.reduceToNat] at ho24; rw [← Ny129.out] at ho24)); have HO131 := A_ (Kd.S_lower (Kd.S_newB ho24 (g := gb127) (o := .cells #[.int .i64 (l0.length : Int)] 3 (0, 0)) (by exact KX_ BK127.out)) (below_size (B1_))); replace BK126 := A_ (blk_below (g := gb126) (o := .cells #[.slice none 0 0, .slice none 0 0] 26 (0, 0)) (by exact KX_ BK126.out) hb); replace BK127 := A_ (blk_below (g := gb127) (o := .cells #[.int .i64 (l0.length : Int)] 3 (0, 0)) (by exact KX_ BK127.out) hb); replace HB := A_ (below_step (B1_) hb); clear hb ho24))
     go_loopg [5, 26] kj1 (fun kq v5 v26 w' => ∃ (x5_2 : List (List Int)) (x26_2 : Int), v26 = .int .i64 x26_2 ∧ Aside0 (graph_Make.l0 kq x5_2 l0 (l0.length : Int) x26_2 = some (r1, r2, r3)) ∧ Aside0 (kq ≤ kj1) ∧ Aside0 (Kd.S (Kd.slice 3 (Kd.int .i64)) 31 w' w.heap.size (fun k_ => k_ ≠ gb127) v5 x5_2) ∧ Aside0 (w'.heap[gb126]? = some (.cells #[(.slice none 0 0), (.slice none 0 0)] 26 (0, 0))) ∧ Aside0 (w'.heap[gb127]? = some (.cells #[.int .i64 (l0.length : Int)] 3 (0, 0))) ∧ Aside0 (Below w.heap.size w w'))
     case atStart => exact ⟨(y129), (0), (by first | rfl | (simp; done) | (simp [*]; done)), H', ⟨Nat.le_refl _⟩, ⟨by (with_reducible repeat (first | apply Kd.S_alloc | apply Kd.S_drewN | apply Kd.S_drew)); exact Kd.S_mono HO131.out (fun _ hk => hk.2)⟩, ⟨by exact KX_ BK126.out⟩, ⟨by exact KX_ BK127.out⟩, ⟨B1_⟩⟩
     case round =>
      clear H'
      try clear c16
      try clear c19b0
      try clear c19b1
      try clear c20b0
      try clear c20b1
      try clear hcz22_0
      try clear hfz22_0
      obtain ⟨x5_2, x26_2, rfl, HA, HK2, HO_5, BK126, BK127, HB⟩ := hrel
      cases gk with
      | zero => exact absurd HA.out (by simp [graph_Make.l0])
      | succ k2 =>
       have H := HA.out
       clear HA
       simp only [graph_Make.l0] at H
       by_cases c25 : x26_2 < (l0.length : Int)
       ·rw [if_pos c25] at H
        have c25b0 : decide (x26_2 < (l0.length : Int)) = true := decide_eq_true c25
        clear c25
        by_cases c26 : 0 ≤ x26_2
        ·rw [if_pos c26] at H
         have c26b0 : decide (0 ≤ x26_2) = true := decide_eq_true c26
         clear c26
         by_cases c27 : x26_2 < (l0.length : Int)
         ·rw [if_pos c27] at H
          have c27b0 : decide (x26_2 < (l0.length : Int)) = true := decide_eq_true c27
          clear c27
          replace H := Option.bind_eq_some_iff.mp H
          obtain ⟨t133, A280, H⟩ := H
          try dsimp only at H
          have A28 := Aside0.mk A280
          clear A280
          by_cases c29 : x5_2.length < 5864062014805
          ·rw [if_pos c29] at H
           have LMc29 := Aside0.mk c29
           clear c29
           obtain ⟨y136, hy136⟩ : ∃ y_ : List (List Int), y_ = (x5_2 ++ [t133]) := ⟨_, rfl⟩
           replace H : (graph_Make.l0 k2 y136 l0 (l0.length : Int) (wrap64 (x26_2 + 1))) = some (r1, r2, r3) := by first | (rw [hy136]; with_reducible exact H) | (have H2_ := (Option.bind_some _ _).symm.trans H; rw [hy136]; with_reducible exact H2_) | (have H2_ := (Option.bind_some _ _).symm.trans H; with_reducible exact H2_) | with_reducible exact H | (rw [hy136]; exact H) | exact H
           have Ny136 := Aside0.mk hy136
           clear hy136
           have H' := Aside0.mk H
           clear H
           have p132 : 0 ≤ (x26_2 : Int) := D_
           have q132 : x26_2 < (l0.length : Int) := D_
           obtain ⟨ad132, A132_0, c132_0, e132, hx132_0, hl132_0, hi132_0⟩ := at_L1 HR0.out x26_2 p132 q132
           cases e132
           replace hx132_0 := (HB.out.cell (World.block_lt_of_cell? w _ hx132_0)).trans hx132_0
           have HR132_0 := Aside0.mk hi132_0
           have HC132_0 := Aside0.mk hl132_0
           clear hi132_0 hl132_0
           replace p132 := eq_true p132
           replace q132 := eq_true q132
           go_wp2_with (first | ((with_reducible refine gate_callee (f := 34) rfl ?_); refine goesL_ (some 32) rfl rfl Try.func34 (by kernel_rfl) rfl #[.slice A132_0 (rd_L1 l0 x26_2).length c132_0] rfl (by (try simp only [List.map_toArray, List.map_cons, List.map_nil]); first | done | rfl | (simp only [List.length_drop, List.length_take]; rfl)) ?_; (with_reducible refine (slices_Clone_int_int.calls _ _ (rd_L1 l0 x26_2) t133 _ ?side1 ?side2 A28.out).mono ?_); (case side1 => exact CX_ (Kd.C_below HR132_0.out HB.out)); (case side2 => exact HC132_0.out); rintro e w30 ⟨v134, rfl, ho0, hb⟩; refine ⟨_, rfl, ?_⟩; replace HO_5 := A_ (Kd.S_elder' (by exact SX_ HO_5.out) (Kd.R_base ho0) hb); have HO135 := A_ (Kd.R_lower (Kd.R_newB ho0 (g := gb127) (o := .cells #[.int .i64 (l0.length : Int)] 3 (0, 0)) (by exact KX_ BK127.out)) (below_size (B1_))); replace BK126 := A_ (blk_below (g := gb126) (o := .cells #[.slice none 0 0, .slice none 0 0] 26 (0, 0)) (by exact KX_ BK126.out) hb); replace BK127 := A_ (blk_below (g := gb127) (o := .cells #[.int .i64 (l0.length : Int)] 3 (0, 0)) (by exact KX_ BK127.out) hb); replace HB := A_ (below_step (B1_) hb); (try clear hb); (try clear hb2); (try clear hk); (try clear hi); (try clear ho0); obtain ⟨Ao32, co32, eo32⟩ := Kd.R_slice HO135.out; subst eo32) | ((with_reducible refine gate_builtin (b := .append) (xs := #[.tmp 30, .tmp 33]) rfl ?_); at_builtin; refine Kd.S_append (Kd.slice 3 (Kd.int .i64)) (w0 := w) w.heap.size rfl (.tmp 30) (.tmp 33) 22 31 (.slice none 0 0) 24 rfl Try.underlying22 info31 rfl (by decide) (by omega) u5 x5_2 t133 [.slice Ao32 t133.length co32] (fun k_ => k_ ≠ gb127) (fun k_ => some k_ = (.slice Ao32 t133.length co32 : Value).ownBlock) rfl rfl ?aP (fun k_ hk_ => ((Kd.R_mono (ok' := fun k_ => ((fun k_ => k_ ≠ gb127)) k_ ∧ some k_ ≠ (u5 : Value).ownBlock) (Kd.R_apart' (HO135.out) (Kd.S_typed HO_5.out) (by decide)) (fun k_ hk => ⟨hk.1.2, hk.2⟩))).1 k_ hk_.symm) ?aF ?aO ?aB ?aS ?aL ?_; (case aP => exact Kd.M_row (Kd.R_mono (Kd.R_tight rfl (Kd.R_mono (ok' := fun k_ => ((fun k_ => k_ ≠ gb127)) k_ ∧ some k_ ≠ (u5 : Value).ownBlock) (Kd.R_apart' (HO135.out) (Kd.S_typed HO_5.out) (by decide)) (fun k_ hk => ⟨hk.1.2, hk.2⟩))) (fun _ h_ => h_))); (case aB => exact (B1_)); (case aF => exact (fun k_ hk => Kd.freshB (g := gb127) (o := .cells #[.int .i64 (l0.length : Int)] 3 (0, 0)) (by exact KX_ BK127.out) k_ hk)); (case aO => exact (by (with_reducible repeat (first | apply Kd.S_alloc | apply Kd.S_drewN | apply Kd.S_drew)); exact Kd.S_mono HO_5.out (fun k_ hk => ⟨hk.1, fun e_ => hk.2 e_⟩))); (case aS => exact (below_size (B1_))); (case aL => have := LMc29.out; omega); intro v137 w31 ho hb hg hat; rw [← Ny136.out] at ho; replace BK126 := A_ (blk_grown (g := gb126) (o := .cells #[.slice none 0 0, .slice none 0 0] 26 (0, 0)) (by exact KX_ BK126.out) hg (Kd.S_ne HO_5.out BK126.out (by decide))); replace BK127 := A_ (blk_grown (g := gb127) (o := .cells #[.int .i64 (l0.length : Int)] 3 (0, 0)) (by exact KX_ BK127.out) hg (Kd.S_ne HO_5.out BK127.out (by decide))); replace HB := A_ (hb); have HO138 := A_ (ho); clear HO_5 HO135; clear ho hb hg hat))
           go_roundg k2
           case measure => have := HJ1.out; have := HK2.out; omega
           case rel => exact ⟨(y136), (wrap64 (x26_2 + 1)), (by first | rfl | (simp; done) | (simp [*]; done)), H', ⟨by have := HJ1.out; have := HK2.out; omega⟩, ⟨by exact SM_ HO138.out⟩, ⟨by exact KX_ BK126.out⟩, ⟨by exact KX_ BK127.out⟩, ⟨B1_⟩⟩
          rw [if_neg c29] at H
          exact absurd H (by simp)
         rw [if_neg c27] at H
         exact absurd H (by simp)
        rw [if_neg c26] at H
        exact absurd H (by simp)
       rw [if_neg c25] at H
       have c25b0 : decide (x26_2 < (l0.length : Int)) = false := decide_eq_false c25
       clear c25
       replace H := Option.bind_eq_some_iff.mp H
       obtain ⟨t139, A330, H⟩ := H
       try dsimp only at H
       have A33 := Aside0.mk A330
       clear A330
       simp only [Option.some.injEq, Prod.mk.injEq] at H
       obtain ⟨rfl, rfl, rfl⟩ := H
       obtain ⟨Ao34, co34, eo34⟩ := Kd.S_slice HO_5.out
       subst eo34
       go_wp2_with (first | ((with_reducible refine gate_callee (f := 35) rfl ?_); refine goesL_ (some 38) rfl rfl Try.func35 (by kernel_rfl) rfl #[.slice Ao34 x5_2.length co34] rfl (by (try simp only [List.map_toArray, List.map_cons, List.map_nil]); first | done | rfl | (simp only [List.length_drop, List.length_take]; rfl)) ?_; (with_reducible refine (graph_preds.calls k2 _ _ x5_2 t139 _ ?side1 ?side2 A33.out).mono ?_); (case side1 => repeat (first | exact (Kd.S_reads' HO_5.out).2.2 | (with_reducible refine Kd.C_alloc ?_ _) | (with_reducible refine Kd.C_drewN ?_ _) | (with_reducible refine Kd.C_drew ?_))); (case side2 => exact (Kd.S_reads' HO_5.out).2.1); rintro e w35 ⟨v140, rfl, ho0, hb⟩; refine ⟨_, rfl, ?_⟩; have HO141 := A_ (Kd.S_lower (Kd.S_newB (Kd.S_new' ho0 (Kd.S_lt (by exact SX_ HO_5.out))) (g := gb127) (o := .cells #[.int .i64 (l0.length : Int)] 3 (0, 0)) (by exact KX_ BK127.out)) (below_size (B1_))); replace HO_5 := A_ (Kd.S_elder' (by exact SX_ HO_5.out) (Kd.S_base ho0) hb); replace BK126 := A_ (blk_below (g := gb126) (o := .cells #[.slice none 0 0, .slice none 0 0] 26 (0, 0)) (by exact KX_ BK126.out) hb); replace BK127 := A_ (blk_below (g := gb127) (o := .cells #[.int .i64 (l0.length : Int)] 3 (0, 0)) (by exact KX_ BK127.out) hb); replace HB := A_ (below_step (B1_) hb); (try clear hb); (try clear hb2); (try clear hk); (try clear hi); (try clear ho0); obtain ⟨Ao36, co36, eo36⟩ := Kd.S_slice HO141.out; subst eo36; have hnb37 := NB126_127.out; have hnc37 := NB127_126.out; have hcz38_0 : w35.cell? ⟨gb126, 0, none⟩ = some (.slice none 0 0) := (blk_cell BK126.out 0).trans rfl; have hcz38_1 : w35.cell? ⟨gb126, 1, none⟩ = some (.slice none 0 0) := (blk_cell BK126.out 1).trans rfl; have hfz38_0 := blk_frozen BK126.out 0; have hfz38_1 := blk_frozen BK126.out 1))
       refine bodyPost_ret (results_ct rfl _ _ gb126 26 #[.slice Ao34 x5_2.length co34, .slice Ao36 t139.length co36] (0, 0) _ rfl (by (with_reducible repeat (first | refine blk_drewN ?_ _ | refine blk_drew ?_ | refine blk_alloc ?_ _)); refine blk_put (cs := #[.slice Ao34 x5_2.length co34, .slice none 0 0]) ?_ 1 _ rfl; (with_reducible repeat (first | refine blk_drewN ?_ _ | refine blk_drew ?_ | refine blk_alloc ?_ _)); refine blk_put (cs := #[.slice none 0 0, .slice none 0 0]) ?_ 0 _ rfl; exact KX_ BK126.out) Try.underlying26 rfl (by kernel_rfl)) rfl ?_
       exact ⟨_, _, by first | rfl | (simp [errW_none, errW_some] <;> rfl) | (simp [*, errW_none, errW_some] <;> rfl), by (with_reducible repeat (first | apply Kd.S_alloc | apply Kd.S_drewN | apply Kd.S_drew)); exact Kd.S_mono (Kd.S_far (p := ⟨gb126, 1, none⟩) (Kd.S_far (p := ⟨gb126, 0, none⟩) (Kd.S_types HO_5.out BK126.out (by decide)) (fun _ hk => hk.2) (.slice Ao34 x5_2.length co34)) (fun _ hk => hk.2) (.slice Ao36 t139.length co36)) (fun _ hk => hk.1.2), by (with_reducible repeat (first | apply Kd.S_alloc | apply Kd.S_drewN | apply Kd.S_drew)); exact Kd.S_mono (Kd.S_far (p := ⟨gb126, 1, none⟩) (Kd.S_far (p := ⟨gb126, 0, none⟩) (Kd.S_types HO141.out BK126.out (by decide)) (fun _ hk => hk.2) (.slice Ao34 x5_2.length co34)) (fun _ hk => hk.2) (.slice Ao36 t139.length co36)) (fun _ hk => hk.1.1.2), B1_⟩
    rw [if_neg c20] at H
    exact absurd H (by simp)
   rw [if_neg c19] at H
   exact absurd H (by simp)

end Go.Proofs.Ytheillkpgmpnlaa.G
