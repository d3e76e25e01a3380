/- Printed by a program of this session (wip/tools/op.py, over the kit's print program): Go functions as plain Lean functions, each with a proof that the call answers so. Conditions: each theorem's own. -/
import Derived.Test.YtheillkpgmpnlaaGx0
import Derived.Test.YtheillkpgmpnlaaGx8
import Derived.Test.YtheillkpgmpnlaaGx12
namespace Go.Proofs.Ytheillkpgmpnlaa.G
open Go.Proofs.YtheillkpgmpnlaaH
open Go.RowKit Go.Proofs.YtheillkpgmpnlaaW.PrintWords Go.Proofs.YtheillkpgmpnlaaW.PrintLast Go.Proofs.YtheillkpgmpnlaaW.PrintMore
attribute [local go_sem] max2_int min2_int max_two min_two max_three min_three max_four min_four   -- for this text's walks alone
set_option linter.unusedVariables false
set_option linter.unusedSimpArgs false

/-! ### graph_Order: function 36 -/
mutual
def graph_Order.j0 : Nat → Int → Bool → List (List Int) → List (List Int) → Option (List Int)
 | 0, _, _, _, _ => none
 | k + 1, x1, x24, x171000, x171001 => if x24 = true then (some ([] : List Int)) else (if 0 ≤ x1 then (if x1 < 64 then (graph_Order.l0 k ((List.replicate 64 false).set (x1 : Int).toNat true) (List.replicate 64 0) ([] : List Int) (([x1] : List Int)) x171000 x171001) else (none)) else (none))
def graph_Order.l0 : Nat → List Bool → List Int → List Int → List Int → List (List Int) → List (List Int) → Option (List Int)
 | 0, _, _, _, _, _, _ => none
 | k + 1, x5, x6, x7, x8, x171000, x171001 => if 0 ≤ (wrap64 ((x8.length : Int) - 1)) then (if (wrap64 ((x8.length : Int) - 1)) < (x8.length : Int) then (graph_Order.l1 k x5 x6 x7 x8 (rd x8 (wrap64 ((x8.length : Int) - 1))) x171000 x171001) else (none)) else (none)
def graph_Order.l1 : Nat → List Bool → List Int → List Int → List Int → Int → List (List Int) → List (List Int) → Option (List Int)
 | 0, _, _, _, _, _, _, _ => none
 | k + 1, x5, x6, x7, x8, x9, x171000, x171001 => if 0 ≤ x9 then (if x9 < 64 then (if x9 < (x171000.length : Int) then (if (rd x6 x9) < ((rd_L1 x171000 x9).length : Int) then (if 0 ≤ (rd x6 x9) then ((some (x6.set (x9 : Int).toNat (wrap64 ((rd x6 x9) + 1)) : List Int)).bind fun y191 => (if 0 ≤ (rd (rd_L1 x171000 x9) (rd x6 x9)) then (if (rd (rd_L1 x171000 x9) (rd x6 x9)) < 64 then (if (rdOf false x5 (rd (rd_L1 x171000 x9) (rd x6 x9)) = true) then (graph_Order.l1 k x5 y191 x7 x8 x9 x171000 x171001) else (if x8.length < 17592186044416 then (graph_Order.l0 k (x5.set ((rd (rd_L1 x171000 x9) (rd x6 x9)) : Int).toNat true) y191 x7 (x8 ++ [rd (rd_L1 x171000 x9) (rd x6 x9)]) x171000 x171001) else (none))) else (none)) else (none))) else (none)) else (if x7.length < 17592186044416 then ((some (x7 ++ [x9] : List Int)).bind fun y197 => (if 0 ≤ (wrap64 ((x8.length : Int) - 1)) then (if (wrap64 ((x8.length : Int) - 1)) ≤ (x8.length : Int) then ((some (x8.take ((wrap64 ((x8.length : Int) - 1)) : Int).toNat : List Int)).bind fun y200 => (if (y200.length : Int) > 0 then (graph_Order.l0 k x5 x6 y197 y200 x171000 x171001) else ((slices_Reverse_int_int.f k y197).bind fun t203 => (some t203)))) else (none)) else (none))) else (none))) else (none)) else (none)) else (none)
end
def graph_Order.f (k : Nat) (l0_0 : List (List Int)) (l0_1 : List (List Int)) (a1 : Int) : Option (List Int) := (graph_May.f k l0_0 l0_1).bind fun t171 => (if t171 = true then (if a1 < 0 then (graph_Order.j0 k a1 true l0_0 l0_1) else (graph_Order.j0 k a1 (decide (a1 ≥ (l0_0.length : Int))) l0_0 l0_1)) else (graph_Order.j0 k a1 true l0_0 l0_1))
theorem graph_Order.mono_l : ∀ k, (∀ y0 y1 y2 y3, LeO (graph_Order.j0 k y0 y1 y2 y3) (graph_Order.j0 (k + 1) y0 y1 y2 y3)) ∧ (∀ y0 y1 y2 y3 y4 y5, LeO (graph_Order.l0 k y0 y1 y2 y3 y4 y5) (graph_Order.l0 (k + 1) y0 y1 y2 y3 y4 y5)) ∧ (∀ y0 y1 y2 y3 y4 y5 y6, LeO (graph_Order.l1 k y0 y1 y2 y3 y4 y5 y6) (graph_Order.l1 (k + 1) y0 y1 y2 y3 y4 y5 y6))
 | 0 => ⟨fun _ _ _ _ r h => by simp [graph_Order.j0] at h, fun _ _ _ _ _ _ r h => by simp [graph_Order.l0] at h, fun _ _ _ _ _ _ _ r h => by simp [graph_Order.l1] at h⟩
 | k + 1 => by
  obtain ⟨ih0, ih1, ih2⟩ := graph_Order.mono_l k
  refine ⟨?_, ?_, ?_⟩
  ·intro y0 y1 y2 y3
   unfold graph_Order.j0
   repeat' (with_reducible first | exact ih0 _ _ _ _ | exact ih1 _ _ _ _ _ _ | exact ih2 _ _ _ _ _ _ _ | exact graph_May.mono _ _ _ | exact slices_Reverse_int_int.mono _ _ | exact LeO.refl _ | exact LeO.none _ | refine LeO.ite ?_ ?_ | refine LeO.bind ?_ (fun _ => ?_))
  ·intro y0 y1 y2 y3 y4 y5
   unfold graph_Order.l0
   repeat' (with_reducible first | exact ih0 _ _ _ _ | exact ih1 _ _ _ _ _ _ | exact ih2 _ _ _ _ _ _ _ | exact graph_May.mono _ _ _ | exact slices_Reverse_int_int.mono _ _ | exact LeO.refl _ | exact LeO.none _ | refine LeO.ite ?_ ?_ | refine LeO.bind ?_ (fun _ => ?_))
  ·intro y0 y1 y2 y3 y4 y5 y6
   unfold graph_Order.l1
   repeat' (with_reducible first | exact ih0 _ _ _ _ | exact ih1 _ _ _ _ _ _ | exact ih2 _ _ _ _ _ _ _ | exact graph_May.mono _ _ _ | exact slices_Reverse_int_int.mono _ _ | exact LeO.refl _ | exact LeO.none _ | refine LeO.ite ?_ ?_ | refine LeO.bind ?_ (fun _ => ?_))
theorem graph_Order.mono : ∀ a0 a1 a2 k, LeO (graph_Order.f k a0 a1 a2) (graph_Order.f (k + 1) a0 a1 a2) := by
 intro a0 a1 a2 k
 obtain ⟨ih0, ih1, ih2⟩ := graph_Order.mono_l k
 unfold graph_Order.f
 repeat' (with_reducible first | exact ih0 _ _ _ _ | exact ih1 _ _ _ _ _ _ | exact ih2 _ _ _ _ _ _ _ | exact graph_May.mono _ _ _ | exact slices_Reverse_int_int.mono _ _ | exact LeO.refl _ | exact LeO.none _ | refine LeO.ite ?_ ?_ | refine LeO.bind ?_ (fun _ => ?_))
set_option maxHeartbeats 8000000 in
set_option maxRecDepth 100000 in
theorem graph_Order.calls (k : Nat) (A0_0 : Option Addr) (c0_0 : Nat) (l0_0 : List (List Int)) (A0_1 : Option Addr) (c0_1 : Nat) (l0_1 : List (List Int)) (a1 : Int) (r : List Int) (w : World) (hr0_0 : Kd.C (Kd.slice 3 (Kd.int .i64)) w A0_0 l0_0.length l0_0) (hc0_0 : l0_0.length ≤ c0_0) (hr0_1 : Kd.C (Kd.slice 3 (Kd.int .i64)) w A0_1 l0_1.length l0_1) (hc0_1 : l0_1.length ≤ c0_1) (h : graph_Order.f k l0_0 l0_1 a1 = some r) :
 Calls Try.prog 36 #[.agg #[.slice A0_0 l0_0.length c0_0, .slice A0_1 l0_1.length c0_1], .int .i64 a1] w fun e w' => ∃ v0_ : Value, e = .returned (v0_) ∧ Kd.R (Kd.int .i64) 3 w' w.heap.size (fun _ => True) v0_ r ∧ Below w.heap.size w w' := by
 have hu26 := Try.underlying26
 have HR0_0 := Aside0.mk hr0_0
 have HC0_0 := Aside0.mk hc0_0
 clear hr0_0 hc0_0
 have HR0_1 := Aside0.mk hr0_1
 have HC0_1 := Aside0.mk hc0_1
 clear hr0_1 hc0_1
 have HB := A_ (Below.refl w.heap.size w)
 have H : ((graph_May.f k l0_0 l0_1).bind fun t171 => (if t171 = true then (if a1 < 0 then (graph_Order.j0 k a1 true l0_0 l0_1) else (graph_Order.j0 k a1 (decide (a1 ≥ (l0_0.length : Int))) l0_0 l0_1)) else (graph_Order.j0 k a1 true l0_0 l0_1))) = some r := h
 clear h
 have H' := Aside0.mk H
 clear H
 go_enter Try.func36, Try.ntmps36
 iterate 4 (try go_wp2_with (first | ((with_reducible refine gate_dst (N := 2) rfl ?_); (try (refine gate_guard (by rfl) ?_; dsimp only)); refine box_event ?hg (N := 2) ?hd (cs := #[.slice A0_0 l0_0.length c0_0, .slice A0_1 l0_1.length c0_1]) (t := 26) ?hr ?_; (case hd => rfl); (case hg => rfl); (case hr => first | (go_simp; done) | (go_simp; rfl)); intro gb170 hg w3 hbox hb; have BK170 := A_ (hbox); have GW170 := A_ ((by rw [hg]; exact (below_size (B_)) : w.heap.size ≤ gb170)); have GE170 := A_ ((by rw [hg]; exact (below_size (B_)) : w.heap.size ≤ gb170)); replace HB := A_ (below_step (B_) hb); clear hb hbox hg)); try go_quiet (fail))
 apply lab_enter 0; (case hf => rfl)
 have H := H'.out
 clear H'
 have HC4 := Aside0.mk H
 clear H
 go_upto_region 1 with (fail)
 repeat (go_quiet (fail); go_upto_region 1 with (fail))
 go_cut [24] (fun v24 wc => ∃ (kq : Nat) (x24_3 : Bool), v24 = .bool x24_3 ∧ Aside0 (graph_Order.j0 kq a1 x24_3 l0_0 l0_1 = some r) ∧ Aside0 (kq ≤ k) ∧ Aside0 (wc.heap[gb170]? = some (.cells #[(.slice A0_0 l0_0.length c0_0), (.slice A0_1 l0_1.length c0_1)] 26 (0, 0))) ∧ Aside0 (Below w.heap.size w wc))
 case first =>
  have H := HC4.out
  clear HC4
  replace H := Option.bind_eq_some_iff.mp H
  obtain ⟨t171, A50, H⟩ := H
  try dsimp only at H
  have A5 := Aside0.mk A50
  clear A50
  by_cases c6 : t171 = true
  ·subst c6
   have H1 : (if a1 < 0 then (graph_Order.j0 k a1 true l0_0 l0_1) else (graph_Order.j0 k a1 (decide (a1 ≥ (l0_0.length : Int))) l0_0 l0_1)) = some r := by rw [if_pos rfl] at H; exact H
   clear H
   have H := H1
   clear H1
   by_cases c7 : a1 < 0
   ·rw [if_pos c7] at H
    have c7b0 : decide (a1 < 0) = true := decide_eq_true c7
    clear c7
    (first | rw [c7b0] | (simp only [i64_w, i32_w]; rw [c7b0]) | skip)
    have H' := Aside0.mk H
    clear H
    have hcz8_0 : w3.cell? ⟨gb170, 0, none⟩ = some (.slice A0_0 l0_0.length c0_0) := (blk_cell BK170.out 0).trans rfl
    have hcz8_1 : w3.cell? ⟨gb170, 1, none⟩ = some (.slice A0_1 l0_1.length c0_1) := (blk_cell BK170.out 1).trans rfl
    have hfz8_0 := blk_frozen BK170.out 0
    have hfz8_1 := blk_frozen BK170.out 1
    iterate 4 (try go_wp2_with (first | (go_at_call 41; (with_reducible refine (graph_May.calls k _ _ l0_0 _ _ l0_1 true _ ?side1 ?side2 ?side3 ?side4 A5.out).mono ?_); (case side1 => exact CX_ (Kd.C_below HR0_0.out HB.out)); (case side2 => exact HC0_0.out); (case side3 => exact CX_ (Kd.C_below HR0_1.out HB.out)); (case side4 => exact HC0_1.out); rintro e w9 ⟨rfl, hb⟩; replace BK170 := A_ (blk_below (g := gb170) (o := .cells #[.slice A0_0 l0_0.length c0_0, .slice A0_1 l0_1.length c0_1] 26 (0, 0)) (by exact KX_ BK170.out) hb); replace HB := A_ (below_step (B1_) hb); (try clear hb); (try clear hb2); (try clear hk); (try clear hi))); try go_quiet (fail))
    go_meet
    case rel => exact ⟨_, (true), (by first | rfl | (simp; done) | (simp [*]; done)), H', ⟨by first | omega | exact Nat.le_refl _⟩, ⟨by exact KX_ BK170.out⟩, ⟨B1_⟩⟩
   rw [if_neg c7] at H
   have c7b0 : decide (a1 < 0) = false := decide_eq_false c7
   clear c7
   (first | rw [c7b0] | (simp only [i64_w, i32_w]; rw [c7b0]) | skip)
   have H' := Aside0.mk H
   clear H
   have hcz10_0 : w3.cell? ⟨gb170, 0, none⟩ = some (.slice A0_0 l0_0.length c0_0) := (blk_cell BK170.out 0).trans rfl
   have hcz10_1 : w3.cell? ⟨gb170, 1, none⟩ = some (.slice A0_1 l0_1.length c0_1) := (blk_cell BK170.out 1).trans rfl
   have hfz10_0 := blk_frozen BK170.out 0
   have hfz10_1 := blk_frozen BK170.out 1
   iterate 4 (try go_wp2_with (first | (go_at_call 41; (with_reducible refine (graph_May.calls k _ _ l0_0 _ _ l0_1 true _ ?side1 ?side2 ?side3 ?side4 A5.out).mono ?_); (case side1 => exact CX_ (Kd.C_below HR0_0.out HB.out)); (case side2 => exact HC0_0.out); (case side3 => exact CX_ (Kd.C_below HR0_1.out HB.out)); (case side4 => exact HC0_1.out); rintro e w11 ⟨rfl, hb⟩; replace BK170 := A_ (blk_below (g := gb170) (o := .cells #[.slice A0_0 l0_0.length c0_0, .slice A0_1 l0_1.length c0_1] 26 (0, 0)) (by exact KX_ BK170.out) hb); replace HB := A_ (below_step (B1_) hb); (try clear hb); (try clear hb2); (try clear hk); (try clear hi); have hcz12_0 : w11.cell? ⟨gb170, 0, none⟩ = some (.slice A0_0 l0_0.length c0_0) := (blk_cell BK170.out 0).trans rfl; have hcz12_1 : w11.cell? ⟨gb170, 1, none⟩ = some (.slice A0_1 l0_1.length c0_1) := (blk_cell BK170.out 1).trans rfl; have hfz12_0 := blk_frozen BK170.out 0; have hfz12_1 := blk_frozen BK170.out 1)); try go_quiet (fail))
   go_meet
   case rel => exact ⟨_, (decide (a1 ≥ (l0_0.length : Int))), (by first | rfl | (simp; done) | (simp [*]; done)), H', ⟨by first | omega | exact Nat.le_refl _⟩, ⟨by exact KX_ BK170.out⟩, ⟨B1_⟩⟩
  replace c6 := Bool.eq_false_iff.mpr c6
  subst c6
  have H1 : (graph_Order.j0 k a1 true l0_0 l0_1) = some r := by rw [if_neg (show ¬ (false = true) by decide)] at H; exact H
  clear H
  have H := H1
  clear H1
  have H' := Aside0.mk H
  clear H
  have hcz13_0 : w3.cell? ⟨gb170, 0, none⟩ = some (.slice A0_0 l0_0.length c0_0) := (blk_cell BK170.out 0).trans rfl
  have hcz13_1 : w3.cell? ⟨gb170, 1, none⟩ = some (.slice A0_1 l0_1.length c0_1) := (blk_cell BK170.out 1).trans rfl
  have hfz13_0 := blk_frozen BK170.out 0
  have hfz13_1 := blk_frozen BK170.out 1
  iterate 4 (try go_wp2_with (first | (go_at_call 41; (with_reducible refine (graph_May.calls k _ _ l0_0 _ _ l0_1 false _ ?side1 ?side2 ?side3 ?side4 A5.out).mono ?_); (case side1 => exact CX_ (Kd.C_below HR0_0.out HB.out)); (case side2 => exact HC0_0.out); (case side3 => exact CX_ (Kd.C_below HR0_1.out HB.out)); (case side4 => exact HC0_1.out); rintro e w14 ⟨rfl, hb⟩; replace BK170 := A_ (blk_below (g := gb170) (o := .cells #[.slice A0_0 l0_0.length c0_0, .slice A0_1 l0_1.length c0_1] 26 (0, 0)) (by exact KX_ BK170.out) hb); replace HB := A_ (below_step (B1_) hb); (try clear hb); (try clear hb2); (try clear hk); (try clear hi))); try go_quiet (fail))
  go_meet
  case rel => exact ⟨_, (true), (by first | rfl | (simp; done) | (simp [*]; done)), H', ⟨by first | omega | exact Nat.le_refl _⟩, ⟨by exact KX_ BK170.out⟩, ⟨B1_⟩⟩
 case rest =>
  clear HC4
  obtain ⟨kq, x24_3, rfl, HA, HJ3, BK170, HB⟩ := hcut
  cases kq with
  | zero => exact absurd HA.out (by simp [graph_Order.j0])
  | succ kj3 =>
   have H := HA.out
   clear HA
   simp only [graph_Order.j0] at H
   by_cases c15 : x24_3 = true
   ·subst c15
    have H1 : (some ([] : List Int)) = some r := by rw [if_pos rfl] at H; exact H
    clear H
    have H := H1
    clear H1
    obtain rfl := Option.some.inj H
    go_wp2
    repeat (go_quiet (fail); try go_wp2)
    (try simp only [jumpg_ret, Exit.then, Exit.inBlock])
    go_ret
    exact ⟨_, by first | rfl | (simp [errW_none, errW_some] <;> rfl) | (simp [*, errW_none, errW_some] <;> rfl), by first | exact Kd.R_nil _ _ _ _ _ | exact Kd.N_nil _ _ _ _ _ | exact Kd.V_nil _ _ _ _ _ | exact Kd.Q_nil _ _ _ _ _ | exact Kd.S_nil _ _ _ _ _, B1_⟩
   replace c15 := Bool.eq_false_iff.mpr c15
   subst c15
   have H1 : (if 0 ≤ a1 then (if a1 < 64 then (graph_Order.l0 kj3 ((List.replicate 64 false).set (a1 : Int).toNat true) (List.replicate 64 0) ([] : List Int) (([a1] : List Int)) l0_0 l0_1) else (none)) else (none)) = some r := by rw [if_neg (show ¬ (false = true) by decide)] at H; exact H
   clear H
   have H := H1
   clear H1
   obtain ⟨y172, hy172⟩ : ∃ y_ : List Bool, y_ = (List.replicate 64 false) := ⟨_, rfl⟩
   replace H : (if 0 ≤ a1 then (if a1 < 64 then (graph_Order.l0 kj3 (y172.set (a1 : Int).toNat true) (List.replicate 64 0) ([] : List Int) (([a1] : List Int)) l0_0 l0_1) else (none)) else (none)) = some r := by first | (rw [hy172]; with_reducible exact H) | (have H2_ := (Option.bind_some _ _).symm.trans H; rw [hy172]; with_reducible exact H2_) | (have H2_ := (Option.bind_some _ _).symm.trans H; with_reducible exact H2_) | with_reducible exact H | (rw [hy172]; exact H) | exact H
   have Ny172 := Aside0.mk hy172
   clear hy172
   obtain ⟨y176, hy176⟩ : ∃ y_ : List Int, y_ = (List.replicate 64 0) := ⟨_, rfl⟩
   replace H : (if 0 ≤ a1 then (if a1 < 64 then (graph_Order.l0 kj3 (y172.set (a1 : Int).toNat true) y176 ([] : List Int) (([a1] : List Int)) l0_0 l0_1) else (none)) else (none)) = some r := by first | (rw [hy176]; with_reducible exact H) | (have H2_ := (Option.bind_some _ _).symm.trans H; rw [hy176]; with_reducible exact H2_) | (have H2_ := (Option.bind_some _ _).symm.trans H; with_reducible exact H2_) | with_reducible exact H | (rw [hy176]; exact H) | exact H
   have Ny176 := Aside0.mk hy176
   clear hy176
   obtain ⟨y180, hy180⟩ : ∃ y_ : List Int, y_ = (([a1] : List Int)) := ⟨_, rfl⟩
   replace H : (if 0 ≤ a1 then (if a1 < 64 then (graph_Order.l0 kj3 (y172.set (a1 : Int).toNat true) y176 ([] : List Int) y180 l0_0 l0_1) else (none)) else (none)) = some r := by first | (rw [hy180]; with_reducible exact H) | (have H2_ := (Option.bind_some _ _).symm.trans H; rw [hy180]; with_reducible exact H2_) | (have H2_ := (Option.bind_some _ _).symm.trans H; with_reducible exact H2_) | with_reducible exact H | (rw [hy180]; exact H) | exact H
   have Ny180 := Aside0.mk hy180
   clear hy180
   by_cases c16 : 0 ≤ a1
   ·rw [if_pos c16] at H
    have c16b0 : decide (0 ≤ a1) = true := decide_eq_true c16
    clear c16
    by_cases c17 : a1 < 64
    ·rw [if_pos c17] at H
     have c17b0 : decide (a1 < 64) = true := decide_eq_true c17
     clear c17
     obtain ⟨y183, hy183⟩ : ∃ y_ : List Bool, y_ = (y172.set (a1 : Int).toNat true) := ⟨_, rfl⟩
     replace H : (graph_Order.l0 kj3 y183 y176 ([] : List Int) y180 l0_0 l0_1) = some r := by first | (rw [hy183]; with_reducible exact H) | (have H2_ := (Option.bind_some _ _).symm.trans H; rw [hy183]; with_reducible exact H2_) | (have H2_ := (Option.bind_some _ _).symm.trans H; with_reducible exact H2_) | with_reducible exact H | (rw [hy183]; exact H) | exact H
     have Ny183 := Aside0.mk hy183
     clear hy183
     have H' := Aside0.mk H
     clear H
     iterate 4 (try go_wp2_with (first | ((with_reducible refine gate_dst (N := 5) rfl ?_); (try (refine gate_guard (by rfl) ?_; dsimp only)); refine Kd0.R_alloc Kd.bool _ 61 rfl (N := 5) rfl 64 false (.bool false) ?hr rfl (by decide) rfl (ok := fun _ => True) trivial (Below.refl _ _) (Nat.le_refl _) (by decide) ?_; (case hr => first | (go_simp; done) | (go_simp; rfl) | (go_simp; kernel_rfl)); intro goA175 hge_ w19 ho20 hb hg_ hnew_; have GBA175 := A_ (Nat.le_trans (below_size (B1_)) hge_ : w.heap.size ≤ goA175); clear hge_; clear hg_ hnew_; (first | rw [← Ny172.out] at ho20 | (simp only [Int.reduceToNat] at ho20; rw [← Ny172.out] at ho20)); have HO174 := A_ (Kd.R_lower ho20 (below_size (B1_))); replace BK170 := A_ (blk_below (g := gb170) (o := .cells #[.slice A0_0 l0_0.length c0_0, .slice A0_1 l0_1.length c0_1] 26 (0, 0)) (by exact KX_ BK170.out) hb); replace HB := A_ (below_step (B1_) hb); clear hb ho20) | ((with_reducible refine gate_dst (N := 6) rfl ?_); (try (refine gate_guard (by rfl) ?_; dsimp only)); refine Kd0.R_alloc (Kd.int .i64) _ 76 rfl (N := 6) rfl 64 0 (.int .i64 0) ?hr rfl (by decide) rfl (ok := fun _ => True) trivial (Below.refl _ _) (Nat.le_refl _) (by decide) ?_; (case hr => first | (go_simp; done) | (go_simp; rfl) | (go_simp; kernel_rfl)); intro goA179 hge_ w21 ho22 hb hg_ hnew_; have GBA179 := A_ (Nat.le_trans (below_size (B1_)) hge_ : w.heap.size ≤ goA179); clear hge_; clear hg_ hnew_; (first | rw [← Ny176.out] at ho22 | (simp only [Int.reduceToNat] at ho22; rw [← Ny176.out] at ho22)); replace HO174 := A_ (Kd.R_below (by exact RX_ HO174.out) hb); have HO178 := A_ (Kd.R_lower ho22 (below_size (B1_))); replace BK170 := A_ (blk_below (g := gb170) (o := .cells #[.slice A0_0 l0_0.length c0_0, .slice A0_1 l0_1.length c0_1] 26 (0, 0)) (by exact KX_ BK170.out) hb); replace HB := A_ (below_step (B1_) hb); clear hb ho22) | ((with_reducible refine gate_dst (N := 26) rfl ?_); (try (refine gate_guard (by rfl) ?_; dsimp only)); refine Kd.R_lit (Kd.int .i64) _ 3 ?hg (N := 26) ?hd (xs := ([a1] : List Int)) (inner := [.int .i64 a1]) (ok := fun _ => True) (okp := fun _ => True) ?hr ?hp (fun _ hk => hk) trivial (Below.refl _ _) (Nat.le_refl _) (by simp) ?_; (case hd => rfl); (case hg => rfl); (case hr => first | (go_simp; done) | (go_simp; rfl)); (case hp => exact (Reps.one (show Kd.M (Kd.int .i64) _ _ _ a1 [.int .i64 a1] from rfl) (Reps.none _ _))); intro v181 w23 ho24 hb hg_ hnew_; clear hg_ hnew_; (first | rw [← Ny180.out] at ho24 | (simp only [Int.reduceToNat] at ho24; rw [← Ny180.out] at ho24)); replace HO174 := A_ (Kd.R_below (by exact RX_ HO174.out) hb); replace HO178 := A_ (Kd.R_below (by exact RX_ HO178.out) hb); have HO182 := A_ (Kd.R_lower ho24 (below_size (B1_))); replace BK170 := A_ (blk_below (g := gb170) (o := .cells #[.slice A0_0 l0_0.length c0_0, .slice A0_1 l0_1.length c0_1] 26 (0, 0)) (by exact KX_ BK170.out) hb); replace HB := A_ (below_step (B1_) hb); clear hb ho24; have p18 : 0 ≤ (a1 : Int) := D_; have q18 : (a1 : Int) < (64 : Int) := D_; obtain ⟨hx18_0, hf18_0⟩ := Kd.R_celln false HO174.out (a1 : Int) p18 q18; replace p18 := eq_true p18; replace q18 := eq_true q18; obtain ⟨hy25_, hz25_⟩ := Kd.R_celln false HO174.out (a1 : Int) (D_) (D_); have HP25 := Kd.R_putg HO174.out (a1 : Int) true) | ((with_reducible refine gate_store (t := 4) (p := 28) rfl ?_); (try (rw [drewN_self w23]; generalize hq_ : World.drewN w23 _ = w23; have n0_ := A_ (Kd.R_at hq_ HO174.out); have n1_ := A_ (Kd.R_at hq_ HO178.out); have n2_ := A_ (Kd.R_at hq_ HO182.out); have n3_ := A_ (blk_at hq_ BK170.out); have n4_ := A_ (below_at hq_ HB.out); clear hq_ HO174 HO178 HO182 BK170 HB; have HO174 := n0_; have HO178 := n1_; have HO182 := n2_; have BK170 := n3_; have HB := n4_; clear n0_ n1_ n2_ n3_ n4_; (try (obtain ⟨hy25_, hz25_⟩ := Kd.R_celln false HO174.out (a1 : Int) (D_) (D_))); (try (obtain ⟨hcx_, hcf_⟩ := Kd.R_celln false HO174.out (a1 : Int) (D_) (by first | exact D_ | (have z_ : (a1 : Int) < (64 : Int) := D_; exact z_)))); (try (have HP25 := Kd.R_putg HO174.out (a1 : Int) true)))); refine store_event (t := 4) (p := 28) (v := ?vo_w26) (w1 := (w23.setCell ⟨goA175, (a1 : Int).toNat, none⟩ (.bool true))) ?hg ?ho ?hn ?hr ?_; (case ho => rfl); (case hg => rfl); (case hn => rfl); (case hr => first | (go_simp; done) | (go_simp; rfl)); intro w26 hw; have hg : w23.grownBy w26 (some goA175) := (by rw [hw]; exact HP25.2); have hp_ : Kd.R Kd.bool 61 w26 w.heap.size (fun _ => True) (.slice (some ⟨goA175, 0, none⟩) 64 64) y183 := (by rw [hw, Ny183.out]; exact HP25.1); clear HP25; replace BK170 := A_ (blk_grown (g := gb170) (o := .cells #[.slice A0_0 l0_0.length c0_0, .slice A0_1 l0_1.length c0_1] 26 (0, 0)) (by exact KX_ BK170.out) hg (Kd.R_ne HO174.out BK170.out (by decide))); replace HO178 := A_ (Kd.R_over' (v := (.slice (some ⟨goA175, 0, none⟩) 64 64)) (by exact RX_ HO178.out) (Kd.R_typed HO174.out) (by decide) hg); replace HO182 := A_ (Kd.R_over' (v := (.slice (some ⟨goA175, 0, none⟩) 64 64)) (by exact RX_ HO182.out) (Kd.R_typed HO174.out) (by decide) hg); replace HO174 := A_ (hp_); replace HB := A_ ((by rw [hw]; exact below_set (HB.out) GBA175.out : Below w.heap.size w w26)); clear hg hw hp_)); try go_quiet (fail))
     go_step3
     go_step
     try go_step
     apply lab_ghost_at (l := 0) (I := fun (a0_ : Act) (kq_ : Nat) (a_ : Act) (w_ : World) => ∃ u4 u7 u8 u9 u10 u29 u30 u31 u32 u33 u34 u35 u36 u37 u38 u39 u40 u41 u42 u43 u44 u45 u46 u47 u48 u49 u50 u51 u52 u53 u54 u55 u56 u57 u58 u59 u60 u61 u62 u63 u64 u65 u66 u67 u68 u69 u70 u71 u72 u73 u74 u75 u76 u77 u78 u79 u80 u81 u82 u83 u84 : Value, ((fun kq v7 v8 w' => ∃ (x5_2 : List Bool) (x6_2 : List Int) (x7_2 : List Int) (x8_2 : List Int), Aside0 (graph_Order.l0 kq x5_2 x6_2 x7_2 x8_2 l0_0 l0_1 = some r) ∧ Aside0 (kq ≤ kj3) ∧ Aside0 (Kd.R Kd.bool 61 w' w.heap.size (fun _ => True) (.slice (some ⟨goA175, 0, none⟩) 64 64) x5_2) ∧ Aside0 (Kd.R (Kd.int .i64) 76 w' w.heap.size (fun _ => True) (.slice (some ⟨goA179, 0, none⟩) 64 64) x6_2) ∧ Aside0 (Kd.R (Kd.int .i64) 3 w' w.heap.size (fun k_ => some k_ ≠ (v8 : Value).ownBlock) v7 x7_2) ∧ Aside0 (Kd.R (Kd.int .i64) 3 w' w.heap.size (fun k_ => some k_ ≠ (v7 : Value).ownBlock) v8 x8_2) ∧ Aside0 (w'.heap[gb170]? = some (.cells #[(.slice A0_0 l0_0.length c0_0), (.slice A0_1 l0_1.length c0_1)] 26 (0, 0))) ∧ Aside0 (Below w.heap.size w w')) kq_ u7 u8 w_) ∧ a_ = { tmps := (((((((((((((((((((((((((((((((((((((((((((((((((((((((((((((a0_.tmps.setIfInBounds 4 u4).setIfInBounds 7 u7).setIfInBounds 8 u8).setIfInBounds 9 u9).setIfInBounds 10 u10).setIfInBounds 29 u29).setIfInBounds 30 u30).setIfInBounds 31 u31).setIfInBounds 32 u32).setIfInBounds 33 u33).setIfInBounds 34 u34).setIfInBounds 35 u35).setIfInBounds 36 u36).setIfInBounds 37 u37).setIfInBounds 38 u38).setIfInBounds 39 u39).setIfInBounds 40 u40).setIfInBounds 41 u41).setIfInBounds 42 u42).setIfInBounds 43 u43).setIfInBounds 44 u44).setIfInBounds 45 u45).setIfInBounds 46 u46).setIfInBounds 47 u47).setIfInBounds 48 u48).setIfInBounds 49 u49).setIfInBounds 50 u50).setIfInBounds 51 u51).setIfInBounds 52 u52).setIfInBounds 53 u53).setIfInBounds 54 u54).setIfInBounds 55 u55).setIfInBounds 56 u56).setIfInBounds 57 u57).setIfInBounds 58 u58).setIfInBounds 59 u59).setIfInBounds 60 u60).setIfInBounds 61 u61).setIfInBounds 62 u62).setIfInBounds 63 u63).setIfInBounds 64 u64).setIfInBounds 65 u65).setIfInBounds 66 u66).setIfInBounds 67 u67).setIfInBounds 68 u68).setIfInBounds 69 u69).setIfInBounds 70 u70).setIfInBounds 71 u71).setIfInBounds 72 u72).setIfInBounds 73 u73).setIfInBounds 74 u74).setIfInBounds 75 u75).setIfInBounds 76 u76).setIfInBounds 77 u77).setIfInBounds 78 u78).setIfInBounds 79 u79).setIfInBounds 80 u80).setIfInBounds 81 u81).setIfInBounds 82 u82).setIfInBounds 83 u83).setIfInBounds 84 u84), defers := a0_.defers }) (n₀ := kj3); (case hf => rfl)
     case h₀ =>
      (repeat apply Exists.intro)
      refine ⟨?_, ?hfr⟩
      (case hfr => (try simp only [List.setIfInBounds_toArray, List.set_cons_zero, List.set_cons_succ]); rfl)
      exact ⟨(y183), (y176), (([] : List Int)), (y180), H', ⟨Nat.le_refl _⟩, ⟨by exact RM_ HO174.out⟩, ⟨by exact RM_ HO178.out⟩, ⟨by first | exact Kd.R_nil _ _ _ _ _ | exact Kd.N_nil _ _ _ _ _ | exact Kd.V_nil _ _ _ _ _ | exact Kd.Q_nil _ _ _ _ _ | exact Kd.S_nil _ _ _ _ _⟩, ⟨by (with_reducible repeat (first | apply Kd.R_alloc | apply Kd.R_drewN | apply Kd.R_drew)); exact Kd.R_mono HO182.out (fun _ hk => (by simp [Value.ownBlock]))⟩, ⟨by exact KX_ BK170.out⟩, ⟨B1_⟩⟩
     intro gk _ wr hinv
     obtain ⟨u4, hinv⟩ := hinv
     obtain ⟨u7, hinv⟩ := hinv
     obtain ⟨u8, hinv⟩ := hinv
     obtain ⟨u9, hinv⟩ := hinv
     obtain ⟨u10, hinv⟩ := hinv
     obtain ⟨u29, hinv⟩ := hinv
     obtain ⟨u30, hinv⟩ := hinv
     obtain ⟨u31, hinv⟩ := hinv
     obtain ⟨u32, hinv⟩ := hinv
     obtain ⟨u33, hinv⟩ := hinv
     obtain ⟨u34, hinv⟩ := hinv
     obtain ⟨u35, hinv⟩ := hinv
     obtain ⟨u36, hinv⟩ := hinv
     obtain ⟨u37, hinv⟩ := hinv
     obtain ⟨u38, hinv⟩ := hinv
     obtain ⟨u39, hinv⟩ := hinv
     obtain ⟨u40, hinv⟩ := hinv
     obtain ⟨u41, hinv⟩ := hinv
     obtain ⟨u42, hinv⟩ := hinv
     obtain ⟨u43, hinv⟩ := hinv
     obtain ⟨u44, hinv⟩ := hinv
     obtain ⟨u45, hinv⟩ := hinv
     obtain ⟨u46, hinv⟩ := hinv
     obtain ⟨u47, hinv⟩ := hinv
     obtain ⟨u48, hinv⟩ := hinv
     obtain ⟨u49, hinv⟩ := hinv
     obtain ⟨u50, hinv⟩ := hinv
     obtain ⟨u51, hinv⟩ := hinv
     obtain ⟨u52, hinv⟩ := hinv
     obtain ⟨u53, hinv⟩ := hinv
     obtain ⟨u54, hinv⟩ := hinv
     obtain ⟨u55, hinv⟩ := hinv
     obtain ⟨u56, hinv⟩ := hinv
     obtain ⟨u57, hinv⟩ := hinv
     obtain ⟨u58, hinv⟩ := hinv
     obtain ⟨u59, hinv⟩ := hinv
     obtain ⟨u60, hinv⟩ := hinv
     obtain ⟨u61, hinv⟩ := hinv
     obtain ⟨u62, hinv⟩ := hinv
     obtain ⟨u63, hinv⟩ := hinv
     obtain ⟨u64, hinv⟩ := hinv
     obtain ⟨u65, hinv⟩ := hinv
     obtain ⟨u66, hinv⟩ := hinv
     obtain ⟨u67, hinv⟩ := hinv
     obtain ⟨u68, hinv⟩ := hinv
     obtain ⟨u69, hinv⟩ := hinv
     obtain ⟨u70, hinv⟩ := hinv
     obtain ⟨u71, hinv⟩ := hinv
     obtain ⟨u72, hinv⟩ := hinv
     obtain ⟨u73, hinv⟩ := hinv
     obtain ⟨u74, hinv⟩ := hinv
     obtain ⟨u75, hinv⟩ := hinv
     obtain ⟨u76, hinv⟩ := hinv
     obtain ⟨u77, hinv⟩ := hinv
     obtain ⟨u78, hinv⟩ := hinv
     obtain ⟨u79, hinv⟩ := hinv
     obtain ⟨u80, hinv⟩ := hinv
     obtain ⟨u81, hinv⟩ := hinv
     obtain ⟨u82, hinv⟩ := hinv
     obtain ⟨u83, hinv⟩ := hinv
     obtain ⟨u84, hinv⟩ := hinv
     obtain ⟨hrel, ha⟩ := hinv; subst ha
     intro _ _ hJ_ hK_
     (try simp only [List.setIfInBounds_toArray, List.set_cons_zero, List.set_cons_succ])
     (try simp only [List.setIfInBounds_toArray, List.set_cons_zero, List.set_cons_succ] at hJ_)
     clear H'
     try clear c15
     try clear c16b0
     try clear c17b0
     try clear p18
     try clear q18
     try clear hx18_0
     try clear p18
     try clear q18
     obtain ⟨x5_2, x6_2, x7_2, x8_2, HA, HK2, HO_5, HO_6, HO_7, HO_8, BK170, HB⟩ := hrel
     cases gk with
     | zero => exact absurd HA.out (by simp [graph_Order.l0])
     | succ k2 =>
      have H := HA.out
      clear HA
      simp only [graph_Order.l0] at H
      obtain ⟨ji27, hji27⟩ : ∃ j_ : Int, (wrap64 ((x8_2.length : Int) - 1)) = j_ := ⟨_, rfl⟩
      replace H : (if 0 ≤ (ji27) then (if (ji27) < (x8_2.length : Int) then (graph_Order.l1 k2 x5_2 x6_2 x7_2 x8_2 (rd x8_2 (ji27)) l0_0 l0_1) else (none)) else (none)) = some r := by first | (rw [hji27] at H; exact H) | (simp only [hji27] at H ⊢; exact H)
      have hji27w : (IntKind.i64.wrap ((x8_2.length : Int) - 1)) = ji27 := (i64_w _).trans hji27
      by_cases c28 : 0 ≤ (ji27)
      ·rw [if_pos c28] at H
       have c28b0 : decide (0 ≤ (ji27)) = true := decide_eq_true c28
       clear c28
       by_cases c29 : (ji27) < (x8_2.length : Int)
       ·rw [if_pos c29] at H
        have c29b0 : decide ((ji27) < (x8_2.length : Int)) = true := decide_eq_true c29
        clear c29
        have H' := Aside0.mk H
        clear H
        obtain ⟨Ao30, co30, eo30⟩ := Kd.R_slice HO_8.out
        subst eo30
        have p184 : 0 ≤ ((ji27) : Int) := D_
        have q184 : (ji27) < (x8_2.length : Int) := D_
        obtain ⟨ad184, e184, hx184_0⟩ := Kd.at_int (Kd.R_reads' HO_8.out).2.2 (ji27) p184 q184
        cases e184
        replace p184 := eq_true p184
        replace q184 := eq_true q184
        go_wp2
        repeat (go_quiet (fail); try go_wp2)
        go_loopg [8] k2 (fun kq v8 w' => ∃ (x5_3 : List Bool) (x6_3 : List Int) (x8_3 : List Int), Aside0 (graph_Order.l1 kq x5_3 x6_3 x7_2 x8_3 (rd x8_2 (ji27)) l0_0 l0_1 = some r) ∧ Aside0 (kq ≤ k2) ∧ Aside0 (Kd.R Kd.bool 61 w' w.heap.size (fun _ => True) (.slice (some ⟨goA175, 0, none⟩) 64 64) x5_3) ∧ Aside0 (Kd.R (Kd.int .i64) 76 w' w.heap.size (fun _ => True) (.slice (some ⟨goA179, 0, none⟩) 64 64) x6_3) ∧ Aside0 (Kd.R (Kd.int .i64) 3 w' w.heap.size (fun k_ => some k_ ≠ (v8 : Value).ownBlock) u7 x7_2) ∧ Aside0 (Kd.R (Kd.int .i64) 3 w' w.heap.size (fun k_ => some k_ ≠ (u7 : Value).ownBlock) v8 x8_3) ∧ Aside0 (w'.heap[gb170]? = some (.cells #[(.slice A0_0 l0_0.length c0_0), (.slice A0_1 l0_1.length c0_1)] 26 (0, 0))) ∧ Aside0 (Below w.heap.size w w'))
        case atStart => exact ⟨(x5_2), (x6_2), (x8_2), H', ⟨Nat.le_refl _⟩, ⟨by exact RM_ HO_5.out⟩, ⟨by exact RM_ HO_6.out⟩, ⟨by exact RM_ HO_7.out⟩, ⟨by exact RM_ HO_8.out⟩, ⟨by exact KX_ BK170.out⟩, ⟨B1_⟩⟩
        case round =>
         clear H'
         try clear c28b0
         try clear c29b0
         try clear hx184_0
         try clear p184
         try clear q184
         obtain ⟨x5_3, x6_3, x8_3, HA, HK3, HO_5, HO_6, HO_7, HO_8, BK170, HB⟩ := hrel
         cases gk with
         | zero => exact absurd HA.out (by simp [graph_Order.l1])
         | succ k3 =>
          have H := HA.out
          clear HA
          simp only [graph_Order.l1] at H
          by_cases c31 : 0 ≤ (rd x8_2 (ji27))
          ·rw [if_pos c31] at H
           have c31b0 : decide (0 ≤ (rd x8_2 (ji27))) = true := decide_eq_true c31
           clear c31
           by_cases c32 : (rd x8_2 (ji27)) < 64
           ·rw [if_pos c32] at H
            have c32b0 : decide ((rd x8_2 (ji27)) < 64) = true := decide_eq_true c32
            clear c32
            by_cases c33 : (rd x8_2 (ji27)) < (l0_0.length : Int)
            ·rw [if_pos c33] at H
             have c33b0 : decide ((rd x8_2 (ji27)) < (l0_0.length : Int)) = true := decide_eq_true c33
             clear c33
             by_cases c34 : (rd x6_3 (rd x8_2 (ji27))) < ((rd_L1 l0_0 (rd x8_2 (ji27))).length : Int)
             ·rw [if_pos c34] at H
              have c34b0 : decide ((rd x6_3 (rd x8_2 (ji27))) < ((rd_L1 l0_0 (rd x8_2 (ji27))).length : Int)) = true := decide_eq_true c34
              clear c34
              by_cases c35 : 0 ≤ (rd x6_3 (rd x8_2 (ji27)))
              ·rw [if_pos c35] at H
               have c35b0 : decide (0 ≤ (rd x6_3 (rd x8_2 (ji27)))) = true := decide_eq_true c35
               clear c35
               obtain ⟨y191, hy191⟩ : ∃ y_ : List Int, y_ = (x6_3.set ((rd x8_2 (ji27)) : Int).toNat (wrap64 ((rd x6_3 (rd x8_2 (ji27))) + 1))) := ⟨_, rfl⟩
               replace H : (if 0 ≤ (rd (rd_L1 l0_0 (rd x8_2 (ji27))) (rd x6_3 (rd x8_2 (ji27)))) then (if (rd (rd_L1 l0_0 (rd x8_2 (ji27))) (rd x6_3 (rd x8_2 (ji27)))) < 64 then (if (rdOf false x5_3 (rd (rd_L1 l0_0 (rd x8_2 (ji27))) (rd x6_3 (rd x8_2 (ji27)))) = true) then (graph_Order.l1 k3 x5_3 y191 x7_2 x8_3 (rd x8_2 (ji27)) l0_0 l0_1) else (if x8_3.length < 17592186044416 then (graph_Order.l0 k3 (x5_3.set ((rd (rd_L1 l0_0 (rd x8_2 (ji27))) (rd x6_3 (rd x8_2 (ji27)))) : Int).toNat true) y191 x7_2 (x8_3 ++ [rd (rd_L1 l0_0 (rd x8_2 (ji27))) (rd x6_3 (rd x8_2 (ji27)))]) l0_0 l0_1) else (none))) else (none)) else (none)) = some r := by first | (rw [hy191]; with_reducible exact H) | (have H2_ := (Option.bind_some _ _).symm.trans H; rw [hy191]; with_reducible exact H2_) | (have H2_ := (Option.bind_some _ _).symm.trans H; with_reducible exact H2_) | with_reducible exact H | (rw [hy191]; exact H) | exact H
               have Ny191 := Aside0.mk hy191
               clear hy191
               by_cases c37 : 0 ≤ (rd (rd_L1 l0_0 (rd x8_2 (ji27))) (rd x6_3 (rd x8_2 (ji27))))
               ·rw [if_pos c37] at H
                have c37b0 : decide (0 ≤ (rd (rd_L1 l0_0 (rd x8_2 (ji27))) (rd x6_3 (rd x8_2 (ji27))))) = true := decide_eq_true c37
                clear c37
                by_cases c38 : (rd (rd_L1 l0_0 (rd x8_2 (ji27))) (rd x6_3 (rd x8_2 (ji27)))) < 64
                ·rw [if_pos c38] at H
                 have c38b0 : decide ((rd (rd_L1 l0_0 (rd x8_2 (ji27))) (rd x6_3 (rd x8_2 (ji27)))) < 64) = true := decide_eq_true c38
                 clear c38
                 obtain ⟨bq39, hbq39⟩ : ∃ b_ : Bool, b_ = (rdOf false x5_3 (rd (rd_L1 l0_0 (rd x8_2 (ji27))) (rd x6_3 (rd x8_2 (ji27))))) := ⟨_, rfl⟩
                 replace H : (if (bq39 = true) then (graph_Order.l1 k3 x5_3 y191 x7_2 x8_3 (rd x8_2 (ji27)) l0_0 l0_1) else (if x8_3.length < 17592186044416 then (graph_Order.l0 k3 (x5_3.set ((rd (rd_L1 l0_0 (rd x8_2 (ji27))) (rd x6_3 (rd x8_2 (ji27)))) : Int).toNat true) y191 x7_2 (x8_3 ++ [rd (rd_L1 l0_0 (rd x8_2 (ji27))) (rd x6_3 (rd x8_2 (ji27)))]) l0_0 l0_1) else (none))) = some r := by rw [← hbq39] at H; exact H
                 have Nbq39 := Aside0.mk hbq39
                 clear hbq39
                 by_cases c40 : (bq39 = true)
                 ·subst c40
                  have H1 : (graph_Order.l1 k3 x5_3 y191 x7_2 x8_3 (rd x8_2 (ji27)) l0_0 l0_1) = some r := by rw [if_pos rfl] at H; exact H
                  clear H
                  have H := H1
                  clear H1
                  have H' := Aside0.mk H
                  clear H
                  have p185 : 0 ≤ ((rd x8_2 (ji27)) : Int) := D_
                  have ql185 : (((rd x8_2 (ji27)) : Int) < (64 : Int)) = True := eq_true (D_)
                  have q185 : (rd x8_2 (ji27)) < (x6_3.length : Int) := (by have h_ : ((rd x8_2 (ji27)) : Int) < (64 : Int) := D_; have e_ := (Kd.R_reads' HO_6.out).1; omega)
                  obtain ⟨ad185, e185, hx185_0⟩ := Kd.at_int (Kd.R_reads' HO_6.out).2.2 (rd x8_2 (ji27)) p185 q185
                  obtain rfl : (⟨goA179, 0, none⟩ : Addr) = ad185 := (by injection e185)
                  (first | simp only [add_plain] at hx185_0 | simp only [add_at] at hx185_0 | simp only [Addr.add, Nat.zero_add] at hx185_0 | skip)
                  replace p185 := eq_true p185
                  replace q185 := eq_true q185
                  have hcz41_0 : wr.cell? ⟨gb170, 0, none⟩ = some (.slice A0_0 l0_0.length c0_0) := (blk_cell BK170.out 0).trans rfl
                  have hcz41_1 : wr.cell? ⟨gb170, 1, none⟩ = some (.slice A0_1 l0_1.length c0_1) := (blk_cell BK170.out 1).trans rfl
                  have hfz41_0 := blk_frozen BK170.out 0
                  have hfz41_1 := blk_frozen BK170.out 1
                  have p186 : 0 ≤ ((rd x8_2 (ji27)) : Int) := D_
                  have q186 : (rd x8_2 (ji27)) < (l0_0.length : Int) := D_
                  obtain ⟨ad186, A186_0, c186_0, e186, hx186_0, hl186_0, hi186_0⟩ := at_L1 HR0_0.out (rd x8_2 (ji27)) p186 q186
                  cases e186
                  replace hx186_0 := (HB.out.cell (World.block_lt_of_cell? w _ hx186_0)).trans hx186_0
                  have HR186_0 := Aside0.mk hi186_0
                  have HC186_0 := Aside0.mk hl186_0
                  clear hi186_0 hl186_0
                  replace p186 := eq_true p186
                  replace q186 := eq_true q186
                  have p187 : 0 ≤ ((rd x8_2 (ji27)) : Int) := D_
                  have q187 : (rd x8_2 (ji27)) < (l0_0.length : Int) := D_
                  obtain ⟨ad187, A187_0, c187_0, e187, hx187_0, hl187_0, hi187_0⟩ := at_L1 HR0_0.out (rd x8_2 (ji27)) p187 q187
                  obtain rfl : ad186 = ad187 := (by injection e187)
                  replace hx187_0 := (HB.out.cell (World.block_lt_of_cell? w _ hx187_0)).trans hx187_0
                  have HR187_0 := Aside0.mk hi187_0
                  have HC187_0 := Aside0.mk hl187_0
                  clear hi187_0 hl187_0
                  replace p187 := eq_true p187
                  replace q187 := eq_true q187
                  have ea_ := Option.some.inj (hx186_0.symm.trans hx187_0)
                  injection ea_ with ea_ en_ ec_
                  subst ea_
                  subst ec_
                  clear en_
                  have p188 : 0 ≤ ((rd x8_2 (ji27)) : Int) := D_
                  have ql188 : (((rd x8_2 (ji27)) : Int) < (64 : Int)) = True := eq_true (D_)
                  have q188 : (rd x8_2 (ji27)) < (x6_3.length : Int) := (by have h_ : ((rd x8_2 (ji27)) : Int) < (64 : Int) := D_; have e_ := (Kd.R_reads' HO_6.out).1; omega)
                  obtain ⟨ad188, e188, hx188_0⟩ := Kd.at_int (Kd.R_reads' HO_6.out).2.2 (rd x8_2 (ji27)) p188 q188
                  obtain rfl : (⟨goA179, 0, none⟩ : Addr) = ad188 := (by injection e188)
                  (first | simp only [add_plain] at hx188_0 | simp only [add_at] at hx188_0 | simp only [Addr.add, Nat.zero_add] at hx188_0 | skip)
                  replace p188 := eq_true p188
                  replace q188 := eq_true q188
                  have p189 : 0 ≤ ((rd x6_3 (rd x8_2 (ji27))) : Int) := D_
                  have q189 : (rd x6_3 (rd x8_2 (ji27))) < ((rd_L1 l0_0 (rd x8_2 (ji27))).length : Int) := D_
                  obtain ⟨ad189, e189, hx189_0⟩ := Kd.at_int HR187_0.out (rd x6_3 (rd x8_2 (ji27))) p189 q189
                  cases e189
                  replace hx189_0 := (HB.out.cell (World.block_lt_of_cell? w _ hx189_0)).trans hx189_0
                  replace p189 := eq_true p189
                  replace q189 := eq_true q189
                  have p190 : 0 ≤ ((rd x8_2 (ji27)) : Int) := D_
                  have ql190 : (((rd x8_2 (ji27)) : Int) < (64 : Int)) = True := eq_true (D_)
                  have q190 : (rd x8_2 (ji27)) < (x6_3.length : Int) := (by have h_ : ((rd x8_2 (ji27)) : Int) < (64 : Int) := D_; have e_ := (Kd.R_reads' HO_6.out).1; omega)
                  obtain ⟨ad190, e190, hx190_0⟩ := Kd.at_int (Kd.R_reads' HO_6.out).2.2 (rd x8_2 (ji27)) p190 q190
                  obtain rfl : (⟨goA179, 0, none⟩ : Addr) = ad190 := (by injection e190)
                  (first | simp only [add_plain] at hx190_0 | simp only [add_at] at hx190_0 | simp only [Addr.add, Nat.zero_add] at hx190_0 | skip)
                  replace p190 := eq_true p190
                  replace q190 := eq_true q190
                  have p36 : 0 ≤ ((rd x8_2 (ji27)) : Int) := D_
                  have q36 : ((rd x8_2 (ji27)) : Int) < (64 : Int) := D_
                  obtain ⟨hx36_0, hf36_0⟩ := Kd.R_celln 0 HO_6.out ((rd x8_2 (ji27)) : Int) p36 q36
                  replace p36 := eq_true p36
                  replace q36 := eq_true q36
                  have HP42 := Kd.R_putg HO_6.out ((rd x8_2 (ji27)) : Int) (wrap64 ((rd x6_3 (rd x8_2 (ji27))) + 1))
                  iterate 4 (try go_wp2_with (first | ((with_reducible refine gate_store (t := 3) (p := 59) rfl ?_); (try (rw [drewN_self wr]; generalize hq_ : World.drewN wr _ = wr; have n0_ := A_ (Kd.R_at hq_ HO_5.out); have n1_ := A_ (Kd.R_at hq_ HO_6.out); have n2_ := A_ (Kd.R_at hq_ HO_7.out); have n3_ := A_ (Kd.R_at hq_ HO_8.out); have n4_ := A_ (blk_at hq_ BK170.out); have n5_ := A_ (below_at hq_ HB.out); clear hq_ HO_5 HO_6 HO_7 HO_8 BK170 HB; have HO_5 := n0_; have HO_6 := n1_; have HO_7 := n2_; have HO_8 := n3_; have BK170 := n4_; have HB := n5_; clear n0_ n1_ n2_ n3_ n4_ n5_; (try (obtain ⟨hcx_, hcf_⟩ := Kd.R_celln 0 HO_6.out ((rd x8_2 (ji27)) : Int) (D_) (by first | exact D_ | (have z_ : ((rd x8_2 (ji27)) : Int) < (64 : Int) := D_; exact z_)))); (try (have HP42 := Kd.R_putg HO_6.out ((rd x8_2 (ji27)) : Int) (wrap64 ((rd x6_3 (rd x8_2 (ji27))) + 1)))))); refine store_event (t := 3) (p := 59) (v := ?vo_w43) (w1 := (wr.setCell ⟨goA179, ((rd x8_2 (ji27)) : Int).toNat, none⟩ (.int .i64 (wrap64 ((rd x6_3 (rd x8_2 (ji27))) + 1))))) ?hg ?ho ?hn ?hr ?_; (case ho => rfl); (case hg => rfl); (case hn => rfl); (case hr => first | (go_simp; done) | (go_simp; rfl)); intro w43 hw; have hg : wr.grownBy w43 (some goA179) := (by rw [hw]; exact HP42.2); have hp_ : Kd.R (Kd.int .i64) 76 w43 w.heap.size (fun _ => True) (.slice (some ⟨goA179, 0, none⟩) 64 64) y191 := (by rw [hw, Ny191.out]; exact HP42.1); clear HP42; replace HO_5 := A_ (Kd.R_over' (v := (.slice (some ⟨goA179, 0, none⟩) 64 64)) (by exact RX_ HO_5.out) (Kd.R_typed HO_6.out) (by decide) hg); replace HO_7 := A_ (Kd.R_over' (v := (.slice (some ⟨goA179, 0, none⟩) 64 64)) (by exact RX_ HO_7.out) (Kd.R_typed HO_6.out) (by decide) hg); replace HO_8 := A_ (Kd.R_over' (v := (.slice (some ⟨goA179, 0, none⟩) 64 64)) (by exact RX_ HO_8.out) (Kd.R_typed HO_6.out) (by decide) hg); replace BK170 := A_ (blk_grown (g := gb170) (o := .cells #[.slice (some ad186) l0_0.length c0_0, .slice A0_1 l0_1.length c0_1] 26 (0, 0)) (by exact KX_ BK170.out) hg (Kd.R_ne HO_6.out BK170.out (by decide))); replace HO_6 := A_ (hp_); replace HB := A_ ((by rw [hw]; exact below_set (HB.out) GBA179.out : Below w.heap.size w w43)); clear hg hw hp_; have p192 : 0 ≤ ((rd (rd_L1 l0_0 (rd x8_2 (ji27))) (rd x6_3 (rd x8_2 (ji27)))) : Int) := D_; have ql192 : (((rd (rd_L1 l0_0 (rd x8_2 (ji27))) (rd x6_3 (rd x8_2 (ji27)))) : Int) < (64 : Int)) = True := eq_true (D_); have q192 : (rd (rd_L1 l0_0 (rd x8_2 (ji27))) (rd x6_3 (rd x8_2 (ji27)))) < (x5_3.length : Int) := (by have h_ : ((rd (rd_L1 l0_0 (rd x8_2 (ji27))) (rd x6_3 (rd x8_2 (ji27)))) : Int) < (64 : Int) := D_; have e_ := (Kd.R_reads' HO_5.out).1; omega); obtain ⟨ad192, e192, hx192_0⟩ := Kd.at_bool (Kd.R_reads' HO_5.out).2.2 (rd (rd_L1 l0_0 (rd x8_2 (ji27))) (rd x6_3 (rd x8_2 (ji27)))) p192 q192; (try rw [← Nbq39.out] at hx192_0); obtain rfl : (⟨goA175, 0, none⟩ : Addr) = ad192 := (by injection e192); (first | simp only [add_plain] at hx192_0 | simp only [add_at] at hx192_0 | simp only [Addr.add, Nat.zero_add] at hx192_0 | skip); replace p192 := eq_true p192; replace q192 := eq_true q192)); try go_quiet (fail))
                  go_roundg k3
                  case measure => have := HJ3.out; have := HK2.out; have := HK3.out; omega
                  case rel => exact ⟨(x5_3), (y191), (x8_3), H', ⟨by have := HJ3.out; have := HK2.out; have := HK3.out; omega⟩, ⟨by exact RM_ HO_5.out⟩, ⟨by exact RM_ HO_6.out⟩, ⟨by exact RM_ HO_7.out⟩, ⟨by exact RM_ HO_8.out⟩, ⟨by exact KX_ BK170.out⟩, ⟨B1_⟩⟩
                 replace c40 := Bool.eq_false_iff.mpr c40
                 subst c40
                 have H1 : (if x8_3.length < 17592186044416 then (graph_Order.l0 k3 (x5_3.set ((rd (rd_L1 l0_0 (rd x8_2 (ji27))) (rd x6_3 (rd x8_2 (ji27)))) : Int).toNat true) y191 x7_2 (x8_3 ++ [rd (rd_L1 l0_0 (rd x8_2 (ji27))) (rd x6_3 (rd x8_2 (ji27)))]) l0_0 l0_1) else (none)) = some r := by rw [if_neg (show ¬ (false = true) by decide)] at H; exact H
                 clear H
                 have H := H1
                 clear H1
                 obtain ⟨y193, hy193⟩ : ∃ y_ : List Bool, y_ = (x5_3.set ((rd (rd_L1 l0_0 (rd x8_2 (ji27))) (rd x6_3 (rd x8_2 (ji27)))) : Int).toNat true) := ⟨_, rfl⟩
                 replace H : (if x8_3.length < 17592186044416 then (graph_Order.l0 k3 y193 y191 x7_2 (x8_3 ++ [rd (rd_L1 l0_0 (rd x8_2 (ji27))) (rd x6_3 (rd x8_2 (ji27)))]) l0_0 l0_1) else (none)) = some r := by first | (rw [hy193]; with_reducible exact H) | (have H2_ := (Option.bind_some _ _).symm.trans H; rw [hy193]; with_reducible exact H2_) | (have H2_ := (Option.bind_some _ _).symm.trans H; with_reducible exact H2_) | with_reducible exact H | (rw [hy193]; exact H) | exact H
                 have Ny193 := Aside0.mk hy193
                 clear hy193
                 by_cases c45 : x8_3.length < 17592186044416
                 ·rw [if_pos c45] at H
                  have LMc45 := Aside0.mk c45
                  clear c45
                  obtain ⟨y194, hy194⟩ : ∃ y_ : List Int, y_ = (x8_3 ++ [rd (rd_L1 l0_0 (rd x8_2 (ji27))) (rd x6_3 (rd x8_2 (ji27)))]) := ⟨_, rfl⟩
                  replace H : (graph_Order.l0 k3 y193 y191 x7_2 y194 l0_0 l0_1) = some r := by first | (rw [hy194]; with_reducible exact H) | (have H2_ := (Option.bind_some _ _).symm.trans H; rw [hy194]; with_reducible exact H2_) | (have H2_ := (Option.bind_some _ _).symm.trans H; with_reducible exact H2_) | with_reducible exact H | (rw [hy194]; exact H) | exact H
                  have Ny194 := Aside0.mk hy194
                  clear hy194
                  have H' := Aside0.mk H
                  clear H
                  have p185 : 0 ≤ ((rd x8_2 (ji27)) : Int) := D_
                  have ql185 : (((rd x8_2 (ji27)) : Int) < (64 : Int)) = True := eq_true (D_)
                  have q185 : (rd x8_2 (ji27)) < (x6_3.length : Int) := (by have h_ : ((rd x8_2 (ji27)) : Int) < (64 : Int) := D_; have e_ := (Kd.R_reads' HO_6.out).1; omega)
                  obtain ⟨ad185, e185, hx185_0⟩ := Kd.at_int (Kd.R_reads' HO_6.out).2.2 (rd x8_2 (ji27)) p185 q185
                  obtain rfl : (⟨goA179, 0, none⟩ : Addr) = ad185 := (by injection e185)
                  (first | simp only [add_plain] at hx185_0 | simp only [add_at] at hx185_0 | simp only [Addr.add, Nat.zero_add] at hx185_0 | skip)
                  replace p185 := eq_true p185
                  replace q185 := eq_true q185
                  have hcz46_0 : wr.cell? ⟨gb170, 0, none⟩ = some (.slice A0_0 l0_0.length c0_0) := (blk_cell BK170.out 0).trans rfl
                  have hcz46_1 : wr.cell? ⟨gb170, 1, none⟩ = some (.slice A0_1 l0_1.length c0_1) := (blk_cell BK170.out 1).trans rfl
                  have hfz46_0 := blk_frozen BK170.out 0
                  have hfz46_1 := blk_frozen BK170.out 1
                  have p186 : 0 ≤ ((rd x8_2 (ji27)) : Int) := D_
                  have q186 : (rd x8_2 (ji27)) < (l0_0.length : Int) := D_
                  obtain ⟨ad186, A186_0, c186_0, e186, hx186_0, hl186_0, hi186_0⟩ := at_L1 HR0_0.out (rd x8_2 (ji27)) p186 q186
                  cases e186
                  replace hx186_0 := (HB.out.cell (World.block_lt_of_cell? w _ hx186_0)).trans hx186_0
                  have HR186_0 := Aside0.mk hi186_0
                  have HC186_0 := Aside0.mk hl186_0
                  clear hi186_0 hl186_0
                  replace p186 := eq_true p186
                  replace q186 := eq_true q186
                  have p187 : 0 ≤ ((rd x8_2 (ji27)) : Int) := D_
                  have q187 : (rd x8_2 (ji27)) < (l0_0.length : Int) := D_
                  obtain ⟨ad187, A187_0, c187_0, e187, hx187_0, hl187_0, hi187_0⟩ := at_L1 HR0_0.out (rd x8_2 (ji27)) p187 q187
                  obtain rfl : ad186 = ad187 := (by injection e187)
                  replace hx187_0 := (HB.out.cell (World.block_lt_of_cell? w _ hx187_0)).trans hx187_0
                  have HR187_0 := Aside0.mk hi187_0
                  have HC187_0 := Aside0.mk hl187_0
                  clear hi187_0 hl187_0
                  replace p187 := eq_true p187
                  replace q187 := eq_true q187
                  have ea_ := Option.some.inj (hx186_0.symm.trans hx187_0)
                  injection ea_ with ea_ en_ ec_
                  subst ea_
                  subst ec_
                  clear en_
                  have p188 : 0 ≤ ((rd x8_2 (ji27)) : Int) := D_
                  have ql188 : (((rd x8_2 (ji27)) : Int) < (64 : Int)) = True := eq_true (D_)
                  have q188 : (rd x8_2 (ji27)) < (x6_3.length : Int) := (by have h_ : ((rd x8_2 (ji27)) : Int) < (64 : Int) := D_; have e_ := (Kd.R_reads' HO_6.out).1; omega)
                  obtain ⟨ad188, e188, hx188_0⟩ := Kd.at_int (Kd.R_reads' HO_6.out).2.2 (rd x8_2 (ji27)) p188 q188
                  obtain rfl : (⟨goA179, 0, none⟩ : Addr) = ad188 := (by injection e188)
                  (first | simp only [add_plain] at hx188_0 | simp only [add_at] at hx188_0 | simp only [Addr.add, Nat.zero_add] at hx188_0 | skip)
                  replace p188 := eq_true p188
                  replace q188 := eq_true q188
                  have p189 : 0 ≤ ((rd x6_3 (rd x8_2 (ji27))) : Int) := D_
                  have q189 : (rd x6_3 (rd x8_2 (ji27))) < ((rd_L1 l0_0 (rd x8_2 (ji27))).length : Int) := D_
                  obtain ⟨ad189, e189, hx189_0⟩ := Kd.at_int HR187_0.out (rd x6_3 (rd x8_2 (ji27))) p189 q189
                  cases e189
                  replace hx189_0 := (HB.out.cell (World.block_lt_of_cell? w _ hx189_0)).trans hx189_0
                  replace p189 := eq_true p189
                  replace q189 := eq_true q189
                  have p190 : 0 ≤ ((rd x8_2 (ji27)) : Int) := D_
                  have ql190 : (((rd x8_2 (ji27)) : Int) < (64 : Int)) = True := eq_true (D_)
                  have q190 : (rd x8_2 (ji27)) < (x6_3.length : Int) := (by have h_ : ((rd x8_2 (ji27)) : Int) < (64 : Int) := D_; have e_ := (Kd.R_reads' HO_6.out).1; omega)
                  obtain ⟨ad190, e190, hx190_0⟩ := Kd.at_int (Kd.R_reads' HO_6.out).2.2 (rd x8_2 (ji27)) p190 q190
                  obtain rfl : (⟨goA179, 0, none⟩ : Addr) = ad190 := (by injection e190)
                  (first | simp only [add_plain] at hx190_0 | simp only [add_at] at hx190_0 | simp only [Addr.add, Nat.zero_add] at hx190_0 | skip)
                  replace p190 := eq_true p190
                  replace q190 := eq_true q190
                  have p36 : 0 ≤ ((rd x8_2 (ji27)) : Int) := D_
                  have q36 : ((rd x8_2 (ji27)) : Int) < (64 : Int) := D_
                  obtain ⟨hx36_0, hf36_0⟩ := Kd.R_celln 0 HO_6.out ((rd x8_2 (ji27)) : Int) p36 q36
                  replace p36 := eq_true p36
                  replace q36 := eq_true q36
                  have HP47 := Kd.R_putg HO_6.out ((rd x8_2 (ji27)) : Int) (wrap64 ((rd x6_3 (rd x8_2 (ji27))) + 1))
                  iterate 4 (try go_wp2_with (first | ((with_reducible refine gate_store (t := 3) (p := 59) rfl ?_); (try (rw [drewN_self wr]; generalize hq_ : World.drewN wr _ = wr; have n0_ := A_ (Kd.R_at hq_ HO_5.out); have n1_ := A_ (Kd.R_at hq_ HO_6.out); have n2_ := A_ (Kd.R_at hq_ HO_7.out); have n3_ := A_ (Kd.R_at hq_ HO_8.out); have n4_ := A_ (blk_at hq_ BK170.out); have n5_ := A_ (below_at hq_ HB.out); clear hq_ HO_5 HO_6 HO_7 HO_8 BK170 HB; have HO_5 := n0_; have HO_6 := n1_; have HO_7 := n2_; have HO_8 := n3_; have BK170 := n4_; have HB := n5_; clear n0_ n1_ n2_ n3_ n4_ n5_; (try (obtain ⟨hcx_, hcf_⟩ := Kd.R_celln 0 HO_6.out ((rd x8_2 (ji27)) : Int) (D_) (by first | exact D_ | (have z_ : ((rd x8_2 (ji27)) : Int) < (64 : Int) := D_; exact z_)))); (try (have HP47 := Kd.R_putg HO_6.out ((rd x8_2 (ji27)) : Int) (wrap64 ((rd x6_3 (rd x8_2 (ji27))) + 1)))))); refine store_event (t := 3) (p := 59) (v := ?vo_w48) (w1 := (wr.setCell ⟨goA179, ((rd x8_2 (ji27)) : Int).toNat, none⟩ (.int .i64 (wrap64 ((rd x6_3 (rd x8_2 (ji27))) + 1))))) ?hg ?ho ?hn ?hr ?_; (case ho => rfl); (case hg => rfl); (case hn => rfl); (case hr => first | (go_simp; done) | (go_simp; rfl)); intro w48 hw; have hg : wr.grownBy w48 (some goA179) := (by rw [hw]; exact HP47.2); have hp_ : Kd.R (Kd.int .i64) 76 w48 w.heap.size (fun _ => True) (.slice (some ⟨goA179, 0, none⟩) 64 64) y191 := (by rw [hw, Ny191.out]; exact HP47.1); clear HP47; replace HO_5 := A_ (Kd.R_over' (v := (.slice (some ⟨goA179, 0, none⟩) 64 64)) (by exact RX_ HO_5.out) (Kd.R_typed HO_6.out) (by decide) hg); replace HO_7 := A_ (Kd.R_over' (v := (.slice (some ⟨goA179, 0, none⟩) 64 64)) (by exact RX_ HO_7.out) (Kd.R_typed HO_6.out) (by decide) hg); replace HO_8 := A_ (Kd.R_over' (v := (.slice (some ⟨goA179, 0, none⟩) 64 64)) (by exact RX_ HO_8.out) (Kd.R_typed HO_6.out) (by decide) hg); replace BK170 := A_ (blk_grown (g := gb170) (o := .cells #[.slice (some ad186) l0_0.length c0_0, .slice A0_1 l0_1.length c0_1] 26 (0, 0)) (by exact KX_ BK170.out) hg (Kd.R_ne HO_6.out BK170.out (by decide))); replace HO_6 := A_ (hp_); replace HB := A_ ((by rw [hw]; exact below_set (HB.out) GBA179.out : Below w.heap.size w w48)); clear hg hw hp_; have p192 : 0 ≤ ((rd (rd_L1 l0_0 (rd x8_2 (ji27))) (rd x6_3 (rd x8_2 (ji27)))) : Int) := D_; have ql192 : (((rd (rd_L1 l0_0 (rd x8_2 (ji27))) (rd x6_3 (rd x8_2 (ji27)))) : Int) < (64 : Int)) = True := eq_true (D_); have q192 : (rd (rd_L1 l0_0 (rd x8_2 (ji27))) (rd x6_3 (rd x8_2 (ji27)))) < (x5_3.length : Int) := (by have h_ : ((rd (rd_L1 l0_0 (rd x8_2 (ji27))) (rd x6_3 (rd x8_2 (ji27)))) : Int) < (64 : Int) := D_; have e_ := (Kd.R_reads' HO_5.out).1; omega); obtain ⟨ad192, e192, hx192_0⟩ := Kd.at_bool (Kd.R_reads' HO_5.out).2.2 (rd (rd_L1 l0_0 (rd x8_2 (ji27))) (rd x6_3 (rd x8_2 (ji27)))) p192 q192; (try rw [← Nbq39.out] at hx192_0); obtain rfl : (⟨goA175, 0, none⟩ : Addr) = ad192 := (by injection e192); (first | simp only [add_plain] at hx192_0 | simp only [add_at] at hx192_0 | simp only [Addr.add, Nat.zero_add] at hx192_0 | skip); replace p192 := eq_true p192; replace q192 := eq_true q192; have p44 : 0 ≤ ((rd (rd_L1 l0_0 (rd x8_2 (ji27))) (rd x6_3 (rd x8_2 (ji27)))) : Int) := D_; have q44 : ((rd (rd_L1 l0_0 (rd x8_2 (ji27))) (rd x6_3 (rd x8_2 (ji27)))) : Int) < (64 : Int) := D_; obtain ⟨hx44_0, hf44_0⟩ := Kd.R_celln false HO_5.out ((rd (rd_L1 l0_0 (rd x8_2 (ji27))) (rd x6_3 (rd x8_2 (ji27)))) : Int) p44 q44; replace p44 := eq_true p44; replace q44 := eq_true q44; obtain ⟨hy49_, hz49_⟩ := Kd.R_celln false HO_5.out ((rd (rd_L1 l0_0 (rd x8_2 (ji27))) (rd x6_3 (rd x8_2 (ji27)))) : Int) (D_) (D_); have HP49 := Kd.R_putg HO_5.out ((rd (rd_L1 l0_0 (rd x8_2 (ji27))) (rd x6_3 (rd x8_2 (ji27)))) : Int) true) | ((with_reducible refine gate_store (t := 4) (p := 65) rfl ?_); (try (rw [drewN_self w48]; generalize hq_ : World.drewN w48 _ = w48; have n0_ := A_ (Kd.R_at hq_ HO_5.out); have n1_ := A_ (Kd.R_at hq_ HO_6.out); have n2_ := A_ (Kd.R_at hq_ HO_7.out); have n3_ := A_ (Kd.R_at hq_ HO_8.out); have n4_ := A_ (blk_at hq_ BK170.out); have n5_ := A_ (below_at hq_ HB.out); clear hq_ HO_5 HO_6 HO_7 HO_8 BK170 HB; have HO_5 := n0_; have HO_6 := n1_; have HO_7 := n2_; have HO_8 := n3_; have BK170 := n4_; have HB := n5_; clear n0_ n1_ n2_ n3_ n4_ n5_; (try (obtain ⟨hy49_, hz49_⟩ := Kd.R_celln false HO_5.out ((rd (rd_L1 l0_0 (rd x8_2 (ji27))) (rd x6_3 (rd x8_2 (ji27)))) : Int) (D_) (D_))); (try (have HP49 := Kd.R_putg HO_5.out ((rd (rd_L1 l0_0 (rd x8_2 (ji27))) (rd x6_3 (rd x8_2 (ji27)))) : Int) true)))); refine store_event (t := 4) (p := 65) (v := ?vo_w50) (w1 := (w48.setCell ⟨goA175, ((rd (rd_L1 l0_0 (rd x8_2 (ji27))) (rd x6_3 (rd x8_2 (ji27)))) : Int).toNat, none⟩ (.bool true))) ?hg ?ho ?hn ?hr ?_; (case ho => rfl); (case hg => rfl); (case hn => rfl); (case hr => first | (go_simp; done) | (go_simp; rfl)); intro w50 hw; have hg : w48.grownBy w50 (some goA175) := (by rw [hw]; exact HP49.2); have hp_ : Kd.R Kd.bool 61 w50 w.heap.size (fun _ => True) (.slice (some ⟨goA175, 0, none⟩) 64 64) y193 := (by rw [hw, Ny193.out]; exact HP49.1); clear HP49; replace HO_6 := A_ (Kd.R_over' (v := (.slice (some ⟨goA175, 0, none⟩) 64 64)) (by exact RX_ HO_6.out) (Kd.R_typed HO_5.out) (by decide) hg); replace HO_7 := A_ (Kd.R_over' (v := (.slice (some ⟨goA175, 0, none⟩) 64 64)) (by exact RX_ HO_7.out) (Kd.R_typed HO_5.out) (by decide) hg); replace HO_8 := A_ (Kd.R_over' (v := (.slice (some ⟨goA175, 0, none⟩) 64 64)) (by exact RX_ HO_8.out) (Kd.R_typed HO_5.out) (by decide) hg); replace BK170 := A_ (blk_grown (g := gb170) (o := .cells #[.slice (some ad186) l0_0.length c0_0, .slice A0_1 l0_1.length c0_1] 26 (0, 0)) (by exact KX_ BK170.out) hg (Kd.R_ne HO_5.out BK170.out (by decide))); replace HO_5 := A_ (hp_); replace HB := A_ ((by rw [hw]; exact below_set (HB.out) GBA175.out : Below w.heap.size w w50)); clear hg hw hp_) | ((with_reducible refine gate_builtin (b := .append) (xs := #[.tmp 66, .tmp 68]) rfl ?_); (try (refine gate_guard (by rfl) ?_; dsimp only)); at_builtin; refine Kd.R_append (Kd.int .i64) (w0 := w) w.heap.size rfl (.tmp 66) (.tmp 68) 31 3 (.int .i64 0) 8 rfl Try.underlying31 info3 rfl (by decide) (by omega) u8 x8_3 (rd (rd_L1 l0_0 (rd x8_2 (ji27))) (rd x6_3 (rd x8_2 (ji27)))) [.int .i64 (rd (rd_L1 l0_0 (rd x8_2 (ji27))) (rd x6_3 (rd x8_2 (ji27))))] (fun k_ => some k_ ≠ (u7 : Value).ownBlock) (fun _ => False) rfl rfl ?aP (fun _ hk => hk.elim) ?aF ?aO ?aB ?aS ?aL ?_; (case aP => exact rfl); (case aB => exact (B1_)); (case aF => exact (fun k_ hk => Kd.fresh' (Kd.R_lt (by exact RX_ HO_7.out)) k_ hk)); (case aO => exact (by exact RX_ HO_8.out)); (case aS => exact (below_size (B1_))); (case aL => have := LMc45.out; omega); intro v195 w51 ho hb hg hat; rw [← Ny194.out] at ho; replace HO_5 := A_ (Kd.R_over' (by exact RX_ HO_5.out) (Kd.R_typed (by exact RX_ HO_8.out)) (by decide) hg); replace HO_6 := A_ (Kd.R_over' (by exact RX_ HO_6.out) (Kd.R_typed (by exact RX_ HO_8.out)) (by decide) hg); replace HO_7 := A_ (Kd.R_after (ok := (fun _ => True)) (by (with_reducible repeat (first | apply Kd.R_alloc | apply Kd.R_drewN | apply Kd.R_drew)); exact Kd.R_mono HO_7.out (fun _ hk => by first | exact ⟨trivial, hk⟩ | exact hk | exact ⟨hk.1, hk.2⟩ | simp_all)) hg hat); replace BK170 := A_ (blk_grown (g := gb170) (o := .cells #[.slice (some ad186) l0_0.length c0_0, .slice A0_1 l0_1.length c0_1] 26 (0, 0)) (by exact KX_ BK170.out) hg (Kd.R_ne HO_8.out BK170.out (by decide))); replace HB := A_ (hb); have HO196 := A_ (ho); clear HO_8; clear ho hb hg hat)); try go_quiet (fail))
                  go_step3
                  try simp only [jumpg_goto, Exit.then, Exit.inBlock]
                  go_step
                  go_roundg k3
                  case measure => have := HJ3.out; have := HK2.out; have := HK3.out; omega
                  case rel => exact ⟨(y193), (y191), (x7_2), (y194), H', ⟨by have := HJ3.out; have := HK2.out; have := HK3.out; omega⟩, ⟨by exact RM_ HO_5.out⟩, ⟨by exact RM_ HO_6.out⟩, ⟨by (with_reducible repeat (first | apply Kd.R_alloc | apply Kd.R_drewN | apply Kd.R_drew)); exact Kd.R_mono HO_7.out (fun _ hk => by first | exact hk.2 | exact hk | exact ⟨hk.1, hk.2⟩ | simp_all)⟩, ⟨by exact RM_ HO196.out⟩, ⟨by exact KX_ BK170.out⟩, ⟨B1_⟩⟩
                 rw [if_neg c45] at H
                 exact absurd H (by simp)
                rw [if_neg c38] at H
                exact absurd H (by simp)
               rw [if_neg c37] at H
               exact absurd H (by simp)
              rw [if_neg c35] at H
              exact absurd H (by simp)
             rw [if_neg c34] at H
             have c34b0 : decide ((rd x6_3 (rd x8_2 (ji27))) < ((rd_L1 l0_0 (rd x8_2 (ji27))).length : Int)) = false := decide_eq_false c34
             clear c34
             by_cases c52 : x7_2.length < 17592186044416
             ·rw [if_pos c52] at H
              have LMc52 := Aside0.mk c52
              clear c52
              obtain ⟨y197, hy197⟩ : ∃ y_ : List Int, y_ = (x7_2 ++ [(rd x8_2 (ji27))]) := ⟨_, rfl⟩
              replace H : (if 0 ≤ (wrap64 ((x8_3.length : Int) - 1)) then (if (wrap64 ((x8_3.length : Int) - 1)) ≤ (x8_3.length : Int) then ((some (x8_3.take ((wrap64 ((x8_3.length : Int) - 1)) : Int).toNat : List Int)).bind fun y200 => (if (y200.length : Int) > 0 then (graph_Order.l0 k3 x5_3 x6_3 y197 y200 l0_0 l0_1) else ((slices_Reverse_int_int.f k3 y197).bind fun t203 => (some t203)))) else (none)) else (none)) = some r := by first | (rw [hy197]; with_reducible exact H) | (have H2_ := (Option.bind_some _ _).symm.trans H; rw [hy197]; with_reducible exact H2_) | (have H2_ := (Option.bind_some _ _).symm.trans H; with_reducible exact H2_) | with_reducible exact H | (rw [hy197]; exact H) | exact H
              have Ny197 := Aside0.mk hy197
              clear hy197
              obtain ⟨ji53, hji53⟩ : ∃ j_ : Int, (wrap64 ((x8_3.length : Int) - 1)) = j_ := ⟨_, rfl⟩
              replace H : (if 0 ≤ (ji53) then (if (ji53) ≤ (x8_3.length : Int) then ((some (x8_3.take ((ji53) : Int).toNat : List Int)).bind fun y200 => (if (y200.length : Int) > 0 then (graph_Order.l0 k3 x5_3 x6_3 y197 y200 l0_0 l0_1) else ((slices_Reverse_int_int.f k3 y197).bind fun t203 => (some t203)))) else (none)) else (none)) = some r := by first | (rw [hji53] at H; exact H) | (simp only [hji53] at H ⊢; exact H)
              have hji53w : (IntKind.i64.wrap ((x8_3.length : Int) - 1)) = ji53 := (i64_w _).trans hji53
              by_cases c54 : 0 ≤ (ji53)
              ·rw [if_pos c54] at H
               have c54b0 := eq_true c54
               have c54b1 : decide (0 ≤ (ji53)) = true := decide_eq_true c54
               clear c54
               by_cases c55 : (ji53) ≤ (x8_3.length : Int)
               ·rw [if_pos c55] at H
                have c55b0 := eq_true c55
                have c55b1 : decide ((ji53) ≤ (x8_3.length : Int)) = true := decide_eq_true c55
                clear c55
                obtain ⟨y200, hy200⟩ : ∃ y_ : List Int, y_ = (x8_3.take ((ji53) : Int).toNat) := ⟨_, rfl⟩
                replace H : (if (y200.length : Int) > 0 then (graph_Order.l0 k3 x5_3 x6_3 y197 y200 l0_0 l0_1) else ((slices_Reverse_int_int.f k3 y197).bind fun t203 => (some t203))) = some r := by first | (rw [hy200]; with_reducible exact H) | (have H2_ := (Option.bind_some _ _).symm.trans H; rw [hy200]; with_reducible exact H2_) | (have H2_ := (Option.bind_some _ _).symm.trans H; with_reducible exact H2_) | with_reducible exact H | (rw [hy200]; exact H) | exact H
                have Ny200 := Aside0.mk hy200
                clear hy200
                by_cases c56 : (y200.length : Int) > 0
                ·rw [if_pos c56] at H
                 have c56b0 : decide (0 < (y200.length : Int)) = true := decide_eq_true c56
                 have c56b1 : decide (0 < y200.length) = true := decide_eq_true (by omega)
                 clear c56
                 have H' := Aside0.mk H
                 clear H
                 have p185 : 0 ≤ ((rd x8_2 (ji27)) : Int) := D_
                 have ql185 : (((rd x8_2 (ji27)) : Int) < (64 : Int)) = True := eq_true (D_)
                 have q185 : (rd x8_2 (ji27)) < (x6_3.length : Int) := (by have h_ : ((rd x8_2 (ji27)) : Int) < (64 : Int) := D_; have e_ := (Kd.R_reads' HO_6.out).1; omega)
                 obtain ⟨ad185, e185, hx185_0⟩ := Kd.at_int (Kd.R_reads' HO_6.out).2.2 (rd x8_2 (ji27)) p185 q185
                 obtain rfl : (⟨goA179, 0, none⟩ : Addr) = ad185 := (by injection e185)
                 (first | simp only [add_plain] at hx185_0 | simp only [add_at] at hx185_0 | simp only [Addr.add, Nat.zero_add] at hx185_0 | skip)
                 replace p185 := eq_true p185
                 replace q185 := eq_true q185
                 have hcz57_0 : wr.cell? ⟨gb170, 0, none⟩ = some (.slice A0_0 l0_0.length c0_0) := (blk_cell BK170.out 0).trans rfl
                 have hcz57_1 : wr.cell? ⟨gb170, 1, none⟩ = some (.slice A0_1 l0_1.length c0_1) := (blk_cell BK170.out 1).trans rfl
                 have hfz57_0 := blk_frozen BK170.out 0
                 have hfz57_1 := blk_frozen BK170.out 1
                 have p186 : 0 ≤ ((rd x8_2 (ji27)) : Int) := D_
                 have q186 : (rd x8_2 (ji27)) < (l0_0.length : Int) := D_
                 obtain ⟨ad186, A186_0, c186_0, e186, hx186_0, hl186_0, hi186_0⟩ := at_L1 HR0_0.out (rd x8_2 (ji27)) p186 q186
                 cases e186
                 replace hx186_0 := (HB.out.cell (World.block_lt_of_cell? w _ hx186_0)).trans hx186_0
                 have HR186_0 := Aside0.mk hi186_0
                 have HC186_0 := Aside0.mk hl186_0
                 clear hi186_0 hl186_0
                 replace p186 := eq_true p186
                 replace q186 := eq_true q186
                 iterate 4 (try go_wp2_with (first | ((with_reducible refine gate_builtin (b := .append) (xs := #[.tmp 70, .tmp 72]) rfl ?_); (try (refine gate_guard (by rfl) ?_; dsimp only)); at_builtin; refine Kd.R_append (Kd.int .i64) (w0 := w) w.heap.size rfl (.tmp 70) (.tmp 72) 31 3 (.int .i64 0) 8 rfl Try.underlying31 info3 rfl (by decide) (by omega) u7 x7_2 (rd x8_2 (ji27)) [.int .i64 (rd x8_2 (ji27))] (fun k_ => some k_ ≠ (u8 : Value).ownBlock) (fun _ => False) rfl rfl ?aP (fun _ hk => hk.elim) ?aF ?aO ?aB ?aS ?aL ?_; (case aP => exact rfl); (case aB => exact (B1_)); (case aF => exact (fun k_ hk => Kd.fresh' (Kd.R_lt (by exact RX_ HO_8.out)) k_ hk)); (case aO => exact (by exact RX_ HO_7.out)); (case aS => exact (below_size (B1_))); (case aL => have := LMc52.out; omega); intro v198 w58 ho hb hg hat; rw [← Ny197.out] at ho; replace HO_5 := A_ (Kd.R_over' (by exact RX_ HO_5.out) (Kd.R_typed (by exact RX_ HO_7.out)) (by decide) hg); replace HO_6 := A_ (Kd.R_over' (by exact RX_ HO_6.out) (Kd.R_typed (by exact RX_ HO_7.out)) (by decide) hg); replace HO_8 := A_ (Kd.R_after (ok := (fun _ => True)) (by (with_reducible repeat (first | apply Kd.R_alloc | apply Kd.R_drewN | apply Kd.R_drew)); exact Kd.R_mono HO_8.out (fun _ hk => by first | exact ⟨trivial, hk⟩ | exact hk | exact ⟨hk.1, hk.2⟩ | simp_all)) hg hat); replace BK170 := A_ (blk_grown (g := gb170) (o := .cells #[.slice (some ad186) l0_0.length c0_0, .slice A0_1 l0_1.length c0_1] 26 (0, 0)) (by exact KX_ BK170.out) hg (Kd.R_ne HO_7.out BK170.out (by decide))); replace HB := A_ (hb); have HO199 := A_ (ho); clear HO_7; clear ho hb hg hat; obtain ⟨Ao59, co59, eo59⟩ := Kd.R_slice HO_8.out; subst eo59; have q60 : ((ji53) : Int) ≤ ((x8_3.length : Int) : Int) := D_; obtain ⟨i060, hi060, _, hsz60, _⟩ := info_parts info3; have hcut60 := cut_to (P := Try.prog) 31 3 .i64 Try.underlying31 hi060 Ao59 x8_3.length co59 (ji53) (D_) q60 (Kd.R_reads' HO_8.out).2.1; have hr60 := Kd.R_take (m := ((ji53) : Int).toNat) HO_8.out (by omega); have hy60 : y200.length = ((ji53) : Int).toNat := (by rw [Ny200.out, List.length_take]; omega); rw [← Ny200.out] at hr60; rw [← hy60] at hr60 hcut60; clear hy60 hi060 hsz60 HO_8; have HO202 := Aside0.mk hr60; clear hr60; replace q60 := eq_true q60)); try go_quiet (fail))
                 go_step3
                 try simp only [jumpg_goto, Exit.then, Exit.inBlock]
                 go_step
                 go_roundg k3
                 case measure => have := HJ3.out; have := HK2.out; have := HK3.out; omega
                 case rel => exact ⟨(x5_3), (x6_3), (y197), (y200), H', ⟨by have := HJ3.out; have := HK2.out; have := HK3.out; omega⟩, ⟨by exact RM_ HO_5.out⟩, ⟨by exact RM_ HO_6.out⟩, ⟨by exact RM_ HO199.out⟩, ⟨by (with_reducible repeat (first | apply Kd.R_alloc | apply Kd.R_drewN | apply Kd.R_drew)); exact Kd.R_mono HO202.out (fun _ hk => by first | exact hk.2 | exact hk | exact ⟨hk.1, hk.2⟩ | simp_all)⟩, ⟨by exact KX_ BK170.out⟩, ⟨B1_⟩⟩
                rw [if_neg c56] at H
                have c56b0 : decide (0 < (y200.length : Int)) = false := decide_eq_false c56
                have c56b1 : decide (0 < y200.length) = false := decide_eq_false (by omega)
                clear c56
                replace H := Option.bind_eq_some_iff.mp H
                obtain ⟨t203, A610, H⟩ := H
                try dsimp only at H
                have A61 := Aside0.mk A610
                clear A610
                obtain rfl := Option.some.inj H
                have p185 : 0 ≤ ((rd x8_2 (ji27)) : Int) := D_
                have ql185 : (((rd x8_2 (ji27)) : Int) < (64 : Int)) = True := eq_true (D_)
                have q185 : (rd x8_2 (ji27)) < (x6_3.length : Int) := (by have h_ : ((rd x8_2 (ji27)) : Int) < (64 : Int) := D_; have e_ := (Kd.R_reads' HO_6.out).1; omega)
                obtain ⟨ad185, e185, hx185_0⟩ := Kd.at_int (Kd.R_reads' HO_6.out).2.2 (rd x8_2 (ji27)) p185 q185
                obtain rfl : (⟨goA179, 0, none⟩ : Addr) = ad185 := (by injection e185)
                (first | simp only [add_plain] at hx185_0 | simp only [add_at] at hx185_0 | simp only [Addr.add, Nat.zero_add] at hx185_0 | skip)
                replace p185 := eq_true p185
                replace q185 := eq_true q185
                have hcz62_0 : wr.cell? ⟨gb170, 0, none⟩ = some (.slice A0_0 l0_0.length c0_0) := (blk_cell BK170.out 0).trans rfl
                have hcz62_1 : wr.cell? ⟨gb170, 1, none⟩ = some (.slice A0_1 l0_1.length c0_1) := (blk_cell BK170.out 1).trans rfl
                have hfz62_0 := blk_frozen BK170.out 0
                have hfz62_1 := blk_frozen BK170.out 1
                have p186 : 0 ≤ ((rd x8_2 (ji27)) : Int) := D_
                have q186 : (rd x8_2 (ji27)) < (l0_0.length : Int) := D_
                obtain ⟨ad186, A186_0, c186_0, e186, hx186_0, hl186_0, hi186_0⟩ := at_L1 HR0_0.out (rd x8_2 (ji27)) p186 q186
                cases e186
                replace hx186_0 := (HB.out.cell (World.block_lt_of_cell? w _ hx186_0)).trans hx186_0
                have HR186_0 := Aside0.mk hi186_0
                have HC186_0 := Aside0.mk hl186_0
                clear hi186_0 hl186_0
                replace p186 := eq_true p186
                replace q186 := eq_true q186
                iterate 4 (try go_wp2_with (first | ((with_reducible refine gate_builtin (b := .append) (xs := #[.tmp 70, .tmp 72]) rfl ?_); (try (refine gate_guard (by rfl) ?_; dsimp only)); at_builtin; refine Kd.R_append (Kd.int .i64) (w0 := w) w.heap.size rfl (.tmp 70) (.tmp 72) 31 3 (.int .i64 0) 8 rfl Try.underlying31 info3 rfl (by decide) (by omega) u7 x7_2 (rd x8_2 (ji27)) [.int .i64 (rd x8_2 (ji27))] (fun k_ => some k_ ≠ (u8 : Value).ownBlock) (fun _ => False) rfl rfl ?aP (fun _ hk => hk.elim) ?aF ?aO ?aB ?aS ?aL ?_; (case aP => exact rfl); (case aB => exact (B1_)); (case aF => exact (fun k_ hk => Kd.fresh' (Kd.R_lt (by exact RX_ HO_8.out)) k_ hk)); (case aO => exact (by exact RX_ HO_7.out)); (case aS => exact (below_size (B1_))); (case aL => have := LMc52.out; omega); intro v198 w63 ho hb hg hat; rw [← Ny197.out] at ho; replace HO_5 := A_ (Kd.R_over' (by exact RX_ HO_5.out) (Kd.R_typed (by exact RX_ HO_7.out)) (by decide) hg); replace HO_6 := A_ (Kd.R_over' (by exact RX_ HO_6.out) (Kd.R_typed (by exact RX_ HO_7.out)) (by decide) hg); replace HO_8 := A_ (Kd.R_after (ok := (fun _ => True)) (by (with_reducible repeat (first | apply Kd.R_alloc | apply Kd.R_drewN | apply Kd.R_drew)); exact Kd.R_mono HO_8.out (fun _ hk => by first | exact ⟨trivial, hk⟩ | exact hk | exact ⟨hk.1, hk.2⟩ | simp_all)) hg hat); replace BK170 := A_ (blk_grown (g := gb170) (o := .cells #[.slice (some ad186) l0_0.length c0_0, .slice A0_1 l0_1.length c0_1] 26 (0, 0)) (by exact KX_ BK170.out) hg (Kd.R_ne HO_7.out BK170.out (by decide))); replace HB := A_ (hb); have HO199 := A_ (ho); clear HO_7; clear ho hb hg hat; obtain ⟨Ao64, co64, eo64⟩ := Kd.R_slice HO_8.out; subst eo64; have q65 : ((ji53) : Int) ≤ ((x8_3.length : Int) : Int) := D_; obtain ⟨i065, hi065, _, hsz65, _⟩ := info_parts info3; have hcut65 := cut_to (P := Try.prog) 31 3 .i64 Try.underlying31 hi065 Ao64 x8_3.length co64 (ji53) (D_) q65 (Kd.R_reads' HO_8.out).2.1; have hr65 := Kd.R_take (m := ((ji53) : Int).toNat) HO_8.out (by omega); have hy65 : y200.length = ((ji53) : Int).toNat := (by rw [Ny200.out, List.length_take]; omega); rw [← Ny200.out] at hr65; rw [← hy65] at hr65 hcut65; clear hy65 hi065 hsz65 HO_8; have HO202 := Aside0.mk hr65; clear hr65; replace q65 := eq_true q65; obtain ⟨Ao66, co66, eo66⟩ := Kd.R_slice HO199.out; subst eo66) | (go_at_call 55; (with_reducible refine (slices_Reverse_int_int.calls k3 (fun k_ => some k_ = (.slice Ao66 y197.length co66 : Value).ownBlock) (.slice Ao66 y197.length co66) y197 t203 w _ ?side1 ?side2 A61.out).mono ?_); (case side1 => repeat (first | (with_reducible first | exact HB.out | apply below_alloc | apply pw_below_drewN | apply below_drew1 | refine below_set ?_ GE170.out) | exact HB.out)); (case side2 => exact Kd.R_tight rfl HO199.out); rintro e w67 ⟨rfl, hy0, hb, hkp⟩; replace HO_5 := A_ (Kd.R_mono (ok' := fun k_ => True) (Kd.R_keptB ((Kd.R_apart' HO_5.out (Kd.R_typed HO199.out) (by decide))) hkp (fun k_ hk_ hs_ => (hk_.2) hs_)) (fun k_ hk_ => trivial)); replace HO_6 := A_ (Kd.R_mono (ok' := fun k_ => True) (Kd.R_keptB ((Kd.R_apart' HO_6.out (Kd.R_typed HO199.out) (by decide))) hkp (fun k_ hk_ hs_ => (hk_.2) hs_)) (fun k_ hk_ => trivial)); replace HO202 := A_ (Kd.R_mono (ok' := fun k_ => some k_ ≠ (.slice Ao66 y197.length co66 : Value).ownBlock) (Kd.R_keptB (HO202.out) hkp (fun k_ hk_ hs_ => (hk_.2) hs_)) (fun k_ hk_ => hk_.1.2)); replace BK170 := A_ (blk_kept (by exact KX_ BK170.out) hkp (fun hs_ => (fun e_ => (Kd.R_ne HO199.out BK170.out (by decide)) e_) hs_)); replace HO199 := A_ (Kd.R_reok rfl hy0 (fun k_ e_ => HO199.out.1 k_ e_)); replace HB := A_ (hb); (try clear hb); (try clear hkp); (try clear hy0))); try go_quiet (fail))
                (try simp only [jumpg_ret, Exit.then, Exit.inBlock])
                go_ret
                exact ⟨_, by first | rfl | (simp [errW_none, errW_some] <;> rfl) | (simp only [← hji27, ← hji53]; first | rfl | (simp [errW_none, errW_some] <;> rfl)) | (simp [*, errW_none, errW_some] <;> rfl), by (with_reducible repeat (first | apply Kd.R_alloc | apply Kd.R_drewN | apply Kd.R_drew)); exact Kd.R_mono HO199.out (fun _ hk => trivial), B1_⟩
               rw [if_neg c55] at H
               exact absurd H (by simp)
              rw [if_neg c54] at H
              exact absurd H (by simp)
             rw [if_neg c52] at H
             exact absurd H (by simp)
            rw [if_neg c33] at H
            exact absurd H (by simp)
           rw [if_neg c32] at H
           exact absurd H (by simp)
          rw [if_neg c31] at H
          exact absurd H (by simp)
       rw [if_neg c29] at H
       exact absurd H (by simp)
      rw [if_neg c28] at H
      exact absurd H (by simp)
    rw [if_neg c17] at H
    exact absurd H (by simp)
   rw [if_neg c16] at H
   exact absurd H (by simp)

end Go.Proofs.Ytheillkpgmpnlaa.G
