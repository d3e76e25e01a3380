/- Printed by a program of this session (wip/tools/op.py, over the kit's print program): Go functions as plain Lean functions, each with a proof that the call answers so. Conditions: each theorem's own. -/
import Derived.Test.YtheillkpgmpnlaaGx0
import Derived.Test.YtheillkpgmpnlaaGx25
namespace Go.Proofs.Ytheillkpgmpnlaa.G
open Go.Proofs.YtheillkpgmpnlaaH
open Go.RowKit Go.Proofs.YtheillkpgmpnlaaW.PrintWords Go.Proofs.YtheillkpgmpnlaaW.PrintLast Go.Proofs.YtheillkpgmpnlaaW.PrintMore
attribute [local go_sem] max2_int min2_int max_two min_two max_three min_three max_four min_four   -- for this text's walks alone
set_option linter.unusedVariables false
set_option linter.unusedSimpArgs false

/-! ### dep_Of: function 16 -/
def dep_Of.l0 : Nat → Int → List (S37) → List (S37) → Int → Int → Option ((List (S37)))
 | 0, _, _, _, _, _ => none
 | k + 1, x1, x5, x9, x10, x11 => if x11 < x10 then (if 0 ≤ x11 then (if x11 < (x9.length : Int) then (if ((rd_T37 x9 x11).f0) = x1 then (if x5.length < 5864062014805 then (dep_Of.l0 k x1 (x5 ++ [(⟨(rd_T37 x9 x11).f0, (rd_T37 x9 x11).f1, (rd_T37 x9 x11).f2⟩ : S37)]) x9 x10 (wrap64 (x11 + 1))) else (none)) else (dep_Of.l0 k x1 x5 x9 x10 (wrap64 (x11 + 1)))) else (none)) else (none)) else (some x5)
def dep_Of.f (k : Nat) (l0_0 : List (List Int)) (l0_1 : List (List Int)) (a1 : Int) : Option ((List (S37))) := (dep_All.f k l0_0 l0_1).bind fun t362 => (dep_Of.l0 k a1 ([] : List (S37)) t362 (t362.length : Int) 0)
theorem dep_Of.mono_l : ∀ k, (∀ y0 y1 y2 y3 y4, LeO (dep_Of.l0 k y0 y1 y2 y3 y4) (dep_Of.l0 (k + 1) y0 y1 y2 y3 y4))
 | 0 => fun _ _ _ _ _ r h => by simp [dep_Of.l0] at h
 | k + 1 => by
  have ih0 := dep_Of.mono_l k
  ·intro y0 y1 y2 y3 y4
   unfold dep_Of.l0
   repeat' (with_reducible first | exact ih0 _ _ _ _ _ | exact dep_All.mono _ _ _ | exact LeO.refl _ | exact LeO.none _ | refine LeO.ite ?_ ?_ | refine LeO.bind ?_ (fun _ => ?_))
theorem dep_Of.mono : ∀ a0 a1 a2 k, LeO (dep_Of.f k a0 a1 a2) (dep_Of.f (k + 1) a0 a1 a2) := by
 intro a0 a1 a2 k
 have ih0 := dep_Of.mono_l k
 unfold dep_Of.f
 repeat' (with_reducible first | exact ih0 _ _ _ _ _ | exact dep_All.mono _ _ _ | exact LeO.refl _ | exact LeO.none _ | refine LeO.ite ?_ ?_ | refine LeO.bind ?_ (fun _ => ?_))
set_option maxHeartbeats 8000000 in
set_option maxRecDepth 100000 in
theorem dep_Of.calls (k : Nat) (A0_0 : Option Addr) (c0_0 : Nat) (l0_0 : List (List Int)) (A0_1 : Option Addr) (c0_1 : Nat) (l0_1 : List (List Int)) (a1 : Int) (r : List (S37)) (w : World) (hr0_0 : Kd.C (Kd.slice 3 (Kd.int .i64)) w A0_0 l0_0.length l0_0) (hc0_0 : l0_0.length ≤ c0_0) (hr0_1 : Kd.C (Kd.slice 3 (Kd.int .i64)) w A0_1 l0_1.length l0_1) (hc0_1 : l0_1.length ≤ c0_1) (h : dep_Of.f k l0_0 l0_1 a1 = some r) :
 Calls Try.prog 16 #[.agg #[.slice A0_0 l0_0.length c0_0, .slice A0_1 l0_1.length c0_1], .int .i64 a1] w fun e w' => ∃ v0_ : Value, e = .returned (v0_) ∧ Kd.R k37 37 w' w.heap.size (fun _ => True) v0_ r ∧ Below w.heap.size w w' := by
 have hu26 := Try.underlying26
 have hu37 := Try.underlying37
 have HR0_0 := Aside0.mk hr0_0
 have HC0_0 := Aside0.mk hc0_0
 clear hr0_0 hc0_0
 have HR0_1 := Aside0.mk hr0_1
 have HC0_1 := Aside0.mk hc0_1
 clear hr0_1 hc0_1
 have HB := A_ (Below.refl w.heap.size w)
 have H : ((dep_All.f k l0_0 l0_1).bind fun t362 => (dep_Of.l0 k a1 ([] : List (S37)) t362 (t362.length : Int) 0)) = some r := h
 clear h
 replace H := Option.bind_eq_some_iff.mp H
 obtain ⟨t362, A30, H⟩ := H
 try dsimp only at H
 have A3 := Aside0.mk A30
 clear A30
 have H' := Aside0.mk H
 clear H
 go_enter Try.func16, Try.ntmps16
 go_wp2_with (first | ((with_reducible refine gate_dst (N := 2) rfl ?_); refine box_event ?hg (N := 2) ?hd (cs := #[.slice A0_0 l0_0.length c0_0, .slice A0_1 l0_1.length c0_1]) (t := 26) ?hr ?_; (case hd => rfl); (case hg => rfl); (case hr => first | (go_simp; done) | (go_simp; rfl)); intro gb361 hg w4 hbox hb; have BK361 := A_ (hbox); have GW361 := A_ ((by rw [hg]; exact (below_size (B_)) : w.heap.size ≤ gb361)); have GE361 := A_ ((by rw [hg]; exact (below_size (B_)) : w.heap.size ≤ gb361)); replace HB := A_ (below_step (B_) hb); clear hb hbox hg; have hcz5_0 : w4.cell? ⟨gb361, 0, none⟩ = some (.slice A0_0 l0_0.length c0_0) := (blk_cell BK361.out 0).trans rfl; have hcz5_1 : w4.cell? ⟨gb361, 1, none⟩ = some (.slice A0_1 l0_1.length c0_1) := (blk_cell BK361.out 1).trans rfl; have hfz5_0 := blk_frozen BK361.out 0; have hfz5_1 := blk_frozen BK361.out 1) | ((with_reducible refine gate_callee (f := 10) rfl ?_); refine goesL_ (some 9) rfl rfl Try.func10 (by kernel_rfl) rfl #[.agg #[.slice A0_0 l0_0.length c0_0, .slice A0_1 l0_1.length c0_1]] rfl (by (try simp only [List.map_toArray, List.map_cons, List.map_nil]); first | done | rfl | (simp only [List.length_drop, List.length_take]; rfl)) ?_; (with_reducible refine (dep_All.calls k _ _ l0_0 _ _ l0_1 t362 _ ?side1 ?side2 ?side3 ?side4 A3.out).mono ?_); (case side1 => exact CX_ (Kd.C_below HR0_0.out HB.out)); (case side2 => exact HC0_0.out); (case side3 => exact CX_ (Kd.C_below HR0_1.out HB.out)); (case side4 => exact HC0_1.out); rintro e w6 ⟨v363, rfl, ho0, hb⟩; refine ⟨_, rfl, ?_⟩; have HO364 := A_ (Kd.R_lower ho0 (below_size (B1_))); replace BK361 := A_ (blk_below (g := gb361) (o := .cells #[.slice A0_0 l0_0.length c0_0, .slice A0_1 l0_1.length c0_1] 26 (0, 0)) (by exact KX_ BK361.out) hb); replace HB := A_ (below_step (B1_) hb); (try clear hb); (try clear hb2); (try clear hk); (try clear hi); (try clear ho0); obtain ⟨Ao7, co7, eo7⟩ := Kd.R_slice HO364.out; subst eo7))
 go_loopg [5, 11] k (fun kq v5 v11 w' => ∃ (x5_1 : List (S37)) (x11_1 : Int), v11 = .int .i64 x11_1 ∧ Aside0 (dep_Of.l0 kq a1 x5_1 t362 (t362.length : Int) x11_1 = some r) ∧ Aside0 (kq ≤ k) ∧ Aside0 (Kd.R k37 37 w' w.heap.size (fun k_ => some k_ ≠ ((.slice Ao7 t362.length co7) : Value).ownBlock) v5 x5_1) ∧ Aside0 (Kd.R k37 37 w' w.heap.size (fun k_ => some k_ ≠ (v5 : Value).ownBlock) (.slice Ao7 t362.length co7) t362) ∧ Aside0 (w'.heap[gb361]? = some (.cells #[(.slice A0_0 l0_0.length c0_0), (.slice A0_1 l0_1.length c0_1)] 26 (0, 0))) ∧ Aside0 (Below w.heap.size w w'))
 case atStart => exact ⟨(([] : List (S37))), (0), (by first | rfl | (simp; done) | (simp [*]; done)), H', ⟨Nat.le_refl _⟩, ⟨by first | exact Kd.R_nil _ _ _ _ _ | exact Kd.N_nil _ _ _ _ _ | exact Kd.V_nil _ _ _ _ _ | exact Kd.Q_nil _ _ _ _ _ | exact Kd.S_nil _ _ _ _ _⟩, ⟨by (with_reducible repeat (first | apply Kd.R_alloc | apply Kd.R_drewN | apply Kd.R_drew)); exact Kd.R_mono HO364.out (fun _ hk => (by simp [Value.ownBlock]))⟩, ⟨by exact KX_ BK361.out⟩, ⟨B1_⟩⟩
 case round =>
  clear H'
  try clear hcz5_0
  try clear hcz5_1
  try clear hfz5_0
  try clear hfz5_1
  obtain ⟨x5_1, x11_1, rfl, HA, HK1, HO_5, HO_9, BK361, HB⟩ := hrel
  cases gk with
  | zero => exact absurd HA.out (by simp [dep_Of.l0])
  | succ k1 =>
   have H := HA.out
   clear HA
   simp only [dep_Of.l0] at H
   by_cases c8 : x11_1 < (t362.length : Int)
   ·rw [if_pos c8] at H
    have c8b0 : decide (x11_1 < (t362.length : Int)) = true := decide_eq_true c8
    clear c8
    by_cases c9 : 0 ≤ x11_1
    ·rw [if_pos c9] at H
     have c9b0 : decide (0 ≤ x11_1) = true := decide_eq_true c9
     clear c9
     by_cases c10 : x11_1 < (t362.length : Int)
     ·rw [if_pos c10] at H
      have c10b0 : decide (x11_1 < (t362.length : Int)) = true := decide_eq_true c10
      clear c10
      by_cases c11 : ((rd_T37 t362 x11_1).f0) = a1
      ·rw [if_pos c11] at H
       have c11b0 : (((rd_T37 t362 x11_1).f0) == a1) = true := beq_iff_eq.mpr c11
       have c11b1 : (((rd_T37 t362 x11_1).f0) != a1) = false := bne_eq_false_iff_eq.mpr c11
       clear c11
       by_cases c12 : x5_1.length < 5864062014805
       ·rw [if_pos c12] at H
        have LMc12 := Aside0.mk c12
        clear c12
        obtain ⟨y367, hy367⟩ : ∃ y_ : List (S37), y_ = (x5_1 ++ [(⟨(rd_T37 t362 x11_1).f0, (rd_T37 t362 x11_1).f1, (rd_T37 t362 x11_1).f2⟩ : S37)]) := ⟨_, rfl⟩
        replace H : (dep_Of.l0 k1 a1 y367 t362 (t362.length : Int) (wrap64 (x11_1 + 1))) = some r := by first | (rw [hy367]; with_reducible exact H) | (have H2_ := (Option.bind_some _ _).symm.trans H; rw [hy367]; with_reducible exact H2_) | (have H2_ := (Option.bind_some _ _).symm.trans H; with_reducible exact H2_) | with_reducible exact H | (rw [hy367]; exact H) | exact H
        have Ny367 := Aside0.mk hy367
        clear hy367
        have H' := Aside0.mk H
        clear H
        have p365 : 0 ≤ (x11_1 : Int) := D_
        have q365 : x11_1 < (t362.length : Int) := D_
        obtain ⟨ad365, e365, hx365_0, hx365_1, hx365_2⟩ := at_T37 (Kd.R_reads' HO_9.out).2.2 x11_1 p365 q365
        cases e365
        replace p365 := eq_true p365
        replace q365 := eq_true q365
        go_wp2_with (first | ((with_reducible refine gate_dst (N := 7) rfl ?_); refine box_event ?hg (N := 7) ?hd (cs := #[.int .i64 0, .int .i64 0, .int .i64 0]) (t := 37) ?hr ?_; (case hd => rfl); (case hg => rfl); (case hr => first | (go_simp; done) | (go_simp; rfl)); intro gb366 hg w13 hbox hb; replace HO_5 := A_ (Kd.R_below (Kd.R_elderB (by exact RX_ HO_5.out) gb366 (Nat.le_of_eq hg.symm)) hb); replace HO_9 := A_ (Kd.R_below (Kd.R_elderB (by exact RX_ HO_9.out) gb366 (Nat.le_of_eq hg.symm)) hb); have BK366 := A_ (hbox); have GW366 := A_ ((by rw [hg]; exact (below_size (B1_)) : w.heap.size ≤ gb366)); have GE366 := A_ ((by rw [hg]; exact (below_size (B1_)) : w.heap.size ≤ gb366)); replace HB := A_ (below_step (B1_) hb); have NB361_366 := A_ ((by rw [hg]; exact Nat.ne_of_lt (blk_lt (g := gb361) (o := .cells #[.slice A0_0 l0_0.length c0_0, .slice A0_1 l0_1.length c0_1] 26 (0, 0)) (by exact KX_ BK361.out)) : gb361 ≠ gb366)); have NB366_361 := A_ ((by rw [hg]; exact Nat.ne_of_gt (blk_lt (g := gb361) (o := .cells #[.slice A0_0 l0_0.length c0_0, .slice A0_1 l0_1.length c0_1] 26 (0, 0)) (by exact KX_ BK361.out)) : gb366 ≠ gb361)); replace BK361 := A_ (blk_below (g := gb361) (o := .cells #[.slice A0_0 l0_0.length c0_0, .slice A0_1 l0_1.length c0_1] 26 (0, 0)) (by exact KX_ BK361.out) hb); clear hb hbox hg; have hnb14 := NB366_361.out; have hnc14 := NB361_366.out; have hcz15_0 : w13.cell? ⟨gb366, 0, none⟩ = some (.int .i64 0) := (blk_cell BK366.out 0).trans rfl; have hcz15_1 : w13.cell? ⟨gb366, 1, none⟩ = some (.int .i64 0) := (blk_cell BK366.out 1).trans rfl; have hcz15_2 : w13.cell? ⟨gb366, 2, none⟩ = some (.int .i64 0) := (blk_cell BK366.out 2).trans rfl; have hfz15_0 := blk_frozen BK366.out 0; have hfz15_1 := blk_frozen BK366.out 1; have hfz15_2 := blk_frozen BK366.out 2) | ((with_reducible refine gate_builtin (b := .append) (xs := #[.tmp 19, .tmp 21]) rfl ?_); at_builtin; refine Kd.R_append k37 (w0 := w) w.heap.size rfl (.tmp 19) (.tmp 21) 28 37 (.agg #[(.int .i64 0), (.int .i64 0), (.int .i64 0)]) 24 rfl Try.underlying28 info37 rfl (by decide) (by omega) u5 x5_1 (⟨(rd_T37 t362 x11_1).f0, (rd_T37 t362 x11_1).f1, (rd_T37 t362 x11_1).f2⟩ : S37) [.int .i64 ((rd_T37 t362 x11_1).f0), .int .i64 ((rd_T37 t362 x11_1).f1), .int .i64 ((rd_T37 t362 x11_1).f2)] (fun k_ => some k_ ≠ (.slice (some ad365) t362.length co7 : Value).ownBlock ∧ k_ ≠ gb366) (fun _ => False) rfl (by first | (go_simp; done) | (go_simp; rfl)) ?aP (fun _ hk => hk.elim) ?aF ?aO ?aB ?aS ?aL ?_; (case aP => exact k37_mkM _ _ _ (⟨(rd_T37 t362 x11_1).f0, (rd_T37 t362 x11_1).f1, (rd_T37 t362 x11_1).f2⟩ : S37)); (case aB => exact (B1_)); (case aF => exact (fun k_ hk => ⟨Kd.fresh' (Kd.R_lt (by (with_reducible repeat (first | apply Kd.R_alloc | apply Kd.R_drewN | apply Kd.R_drew)); exact (Kd.R_mono (Kd.R_far (p := ⟨gb366, 2, none⟩) (Kd.R_far (p := ⟨gb366, 1, none⟩) (Kd.R_far (p := ⟨gb366, 0, none⟩) (Kd.R_mono HO_9.out (fun k_ hk => (⟨hk, hk.2⟩ : _ ∧ k_ ≠ gb366))) (fun _ hk => hk.2) (.int .i64 ((rd_T37 t362 x11_1).f0))) (fun _ hk => hk.2) (.int .i64 ((rd_T37 t362 x11_1).f1))) (fun _ hk => hk.2) (.int .i64 ((rd_T37 t362 x11_1).f2))) (fun _ h_ => h_.1)))) k_ hk, Kd.freshB (g := gb366) (o := .cells #[.int .i64 ((rd_T37 t362 x11_1).f0), .int .i64 ((rd_T37 t362 x11_1).f1), .int .i64 ((rd_T37 t362 x11_1).f2)] 37 (0, 0)) (by (with_reducible repeat (first | refine blk_drewN ?_ _ | refine blk_drew ?_ | refine blk_alloc ?_ _)); refine blk_put (cs := #[.int .i64 ((rd_T37 t362 x11_1).f0), .int .i64 ((rd_T37 t362 x11_1).f1), .int .i64 0]) ?_ 2 _ rfl; (with_reducible repeat (first | refine blk_drewN ?_ _ | refine blk_drew ?_ | refine blk_alloc ?_ _)); refine blk_put (cs := #[.int .i64 ((rd_T37 t362 x11_1).f0), .int .i64 0, .int .i64 0]) ?_ 1 _ rfl; (with_reducible repeat (first | refine blk_drewN ?_ _ | refine blk_drew ?_ | refine blk_alloc ?_ _)); refine blk_put (cs := #[.int .i64 0, .int .i64 0, .int .i64 0]) ?_ 0 _ rfl; exact KX_ BK366.out) k_ hk⟩)); (case aO => exact (by (with_reducible repeat (first | apply Kd.R_alloc | apply Kd.R_drewN | apply Kd.R_drew)); exact Kd.R_mono (Kd.R_far (p := ⟨gb366, 2, none⟩) (Kd.R_far (p := ⟨gb366, 1, none⟩) (Kd.R_far (p := ⟨gb366, 0, none⟩) (Kd.R_mono HO_5.out (fun k_ hk => (⟨hk, hk.2⟩ : _ ∧ k_ ≠ gb366))) (fun _ hk => hk.2) (.int .i64 ((rd_T37 t362 x11_1).f0))) (fun _ hk => hk.2) (.int .i64 ((rd_T37 t362 x11_1).f1))) (fun _ hk => hk.2) (.int .i64 ((rd_T37 t362 x11_1).f2))) (fun _ hk => ⟨hk.1.1, hk.1.2⟩))); (case aS => exact (below_size (B1_))); (case aL => have := LMc12.out; omega); intro v368 w16 ho hb hg hat; rw [← Ny367.out] at ho; replace HO_9 := A_ (Kd.R_after (ok := (fun k_ => k_ ≠ gb366)) (by (with_reducible repeat (first | apply Kd.R_alloc | apply Kd.R_drewN | apply Kd.R_drew)); exact Kd.R_mono (Kd.R_far (p := ⟨gb366, 2, none⟩) (Kd.R_far (p := ⟨gb366, 1, none⟩) (Kd.R_far (p := ⟨gb366, 0, none⟩) (Kd.R_mono HO_9.out (fun k_ hk => (⟨hk, hk.2⟩ : _ ∧ k_ ≠ gb366))) (fun _ hk => hk.2) (.int .i64 ((rd_T37 t362 x11_1).f0))) (fun _ hk => hk.2) (.int .i64 ((rd_T37 t362 x11_1).f1))) (fun _ hk => hk.2) (.int .i64 ((rd_T37 t362 x11_1).f2))) (fun _ hk => ⟨hk.1.2, hk.1.1⟩)) hg hat); replace BK361 := A_ (blk_grown (g := gb361) (o := .cells #[.slice A0_0 l0_0.length c0_0, .slice A0_1 l0_1.length c0_1] 26 (0, 0)) (by (with_reducible repeat (first | refine blk_drewN ?_ _ | refine blk_drew ?_ | refine blk_alloc ?_ _)); refine blk_far ?_ NB361_366.out _; (with_reducible repeat (first | refine blk_drewN ?_ _ | refine blk_drew ?_ | refine blk_alloc ?_ _)); refine blk_far ?_ NB361_366.out _; (with_reducible repeat (first | refine blk_drewN ?_ _ | refine blk_drew ?_ | refine blk_alloc ?_ _)); refine blk_far ?_ NB361_366.out _; exact KX_ BK361.out) hg (Kd.R_ne HO_5.out BK361.out (by decide))); replace BK366 := A_ (blk_grown (g := gb366) (o := .cells #[.int .i64 ((rd_T37 t362 x11_1).f0), .int .i64 ((rd_T37 t362 x11_1).f1), .int .i64 ((rd_T37 t362 x11_1).f2)] 37 (0, 0)) (by (with_reducible repeat (first | refine blk_drewN ?_ _ | refine blk_drew ?_ | refine blk_alloc ?_ _)); refine blk_put (cs := #[.int .i64 ((rd_T37 t362 x11_1).f0), .int .i64 ((rd_T37 t362 x11_1).f1), .int .i64 0]) ?_ 2 _ rfl; (with_reducible repeat (first | refine blk_drewN ?_ _ | refine blk_drew ?_ | refine blk_alloc ?_ _)); refine blk_put (cs := #[.int .i64 ((rd_T37 t362 x11_1).f0), .int .i64 0, .int .i64 0]) ?_ 1 _ rfl; (with_reducible repeat (first | refine blk_drewN ?_ _ | refine blk_drew ?_ | refine blk_alloc ?_ _)); refine blk_put (cs := #[.int .i64 0, .int .i64 0, .int .i64 0]) ?_ 0 _ rfl; exact KX_ BK366.out) hg (Kd.R_away HO_5.out (fun _ hk => hk.2))); replace HB := A_ (hb); have HO369 := A_ (ho); clear HO_5; clear ho hb hg hat))
        go_roundg k1
        case measure => have := HK1.out; omega
        case rel => exact ⟨(y367), (wrap64 (x11_1 + 1)), (by first | rfl | (simp; done) | (simp [*]; done)), H', ⟨by have := HK1.out; omega⟩, ⟨by (with_reducible repeat (first | apply Kd.R_alloc | apply Kd.R_drewN | apply Kd.R_drew)); exact Kd.R_mono HO369.out (fun _ hk => by first | exact hk.1 | exact hk | exact ⟨hk.1, hk.2⟩ | simp_all)⟩, ⟨by (with_reducible repeat (first | apply Kd.R_alloc | apply Kd.R_drewN | apply Kd.R_drew)); exact Kd.R_mono HO_9.out (fun _ hk => by first | exact hk.2 | exact hk | exact ⟨hk.1, hk.2⟩ | simp_all)⟩, ⟨by exact KX_ BK361.out⟩, ⟨B1_⟩⟩
       rw [if_neg c12] at H
       exact absurd H (by simp)
      rw [if_neg c11] at H
      have c11b0 : (((rd_T37 t362 x11_1).f0) == a1) = false := beq_eq_false_iff_ne.mpr c11
      have c11b1 : (((rd_T37 t362 x11_1).f0) != a1) = true := bne_iff_ne.mpr c11
      have H' := Aside0.mk H
      clear H
      have p365 : 0 ≤ (x11_1 : Int) := D_
      have q365 : x11_1 < (t362.length : Int) := D_
      obtain ⟨ad365, e365, hx365_0, hx365_1, hx365_2⟩ := at_T37 (Kd.R_reads' HO_9.out).2.2 x11_1 p365 q365
      cases e365
      replace p365 := eq_true p365
      replace q365 := eq_true q365
      go_wp2_with (first | ((with_reducible refine gate_dst (N := 7) rfl ?_); refine box_event ?hg (N := 7) ?hd (cs := #[.int .i64 0, .int .i64 0, .int .i64 0]) (t := 37) ?hr ?_; (case hd => rfl); (case hg => rfl); (case hr => first | (go_simp; done) | (go_simp; rfl)); intro gb366 hg w17 hbox hb; replace HO_5 := A_ (Kd.R_below (Kd.R_elderB (by exact RX_ HO_5.out) gb366 (Nat.le_of_eq hg.symm)) hb); replace HO_9 := A_ (Kd.R_below (Kd.R_elderB (by exact RX_ HO_9.out) gb366 (Nat.le_of_eq hg.symm)) hb); have BK366 := A_ (hbox); have GW366 := A_ ((by rw [hg]; exact (below_size (B1_)) : w.heap.size ≤ gb366)); have GE366 := A_ ((by rw [hg]; exact (below_size (B1_)) : w.heap.size ≤ gb366)); replace HB := A_ (below_step (B1_) hb); have NB361_366 := A_ ((by rw [hg]; exact Nat.ne_of_lt (blk_lt (g := gb361) (o := .cells #[.slice A0_0 l0_0.length c0_0, .slice A0_1 l0_1.length c0_1] 26 (0, 0)) (by exact KX_ BK361.out)) : gb361 ≠ gb366)); have NB366_361 := A_ ((by rw [hg]; exact Nat.ne_of_gt (blk_lt (g := gb361) (o := .cells #[.slice A0_0 l0_0.length c0_0, .slice A0_1 l0_1.length c0_1] 26 (0, 0)) (by exact KX_ BK361.out)) : gb366 ≠ gb361)); replace BK361 := A_ (blk_below (g := gb361) (o := .cells #[.slice A0_0 l0_0.length c0_0, .slice A0_1 l0_1.length c0_1] 26 (0, 0)) (by exact KX_ BK361.out) hb); clear hb hbox hg; have hnb18 := NB366_361.out; have hnc18 := NB361_366.out; have hcz19_0 : w17.cell? ⟨gb366, 0, none⟩ = some (.int .i64 0) := (blk_cell BK366.out 0).trans rfl; have hcz19_1 : w17.cell? ⟨gb366, 1, none⟩ = some (.int .i64 0) := (blk_cell BK366.out 1).trans rfl; have hcz19_2 : w17.cell? ⟨gb366, 2, none⟩ = some (.int .i64 0) := (blk_cell BK366.out 2).trans rfl; have hfz19_0 := blk_frozen BK366.out 0; have hfz19_1 := blk_frozen BK366.out 1; have hfz19_2 := blk_frozen BK366.out 2))
      go_roundg k1
      case measure => have := HK1.out; omega
      case rel => exact ⟨(x5_1), (wrap64 (x11_1 + 1)), (by first | rfl | (simp; done) | (simp [*]; done)), H', ⟨by have := HK1.out; omega⟩, ⟨by (with_reducible repeat (first | apply Kd.R_alloc | apply Kd.R_drewN | apply Kd.R_drew)); exact Kd.R_mono (Kd.R_far (p := ⟨gb366, 2, none⟩) (Kd.R_far (p := ⟨gb366, 1, none⟩) (Kd.R_far (p := ⟨gb366, 0, none⟩) (Kd.R_mono HO_5.out (fun k_ hk => (⟨hk, hk.2⟩ : _ ∧ k_ ≠ gb366))) (fun _ hk => hk.2) (.int .i64 ((rd_T37 t362 x11_1).f0))) (fun _ hk => hk.2) (.int .i64 ((rd_T37 t362 x11_1).f1))) (fun _ hk => hk.2) (.int .i64 ((rd_T37 t362 x11_1).f2))) (fun _ hk => hk.1.1)⟩, ⟨by (with_reducible repeat (first | apply Kd.R_alloc | apply Kd.R_drewN | apply Kd.R_drew)); exact Kd.R_mono (Kd.R_far (p := ⟨gb366, 2, none⟩) (Kd.R_far (p := ⟨gb366, 1, none⟩) (Kd.R_far (p := ⟨gb366, 0, none⟩) (Kd.R_mono HO_9.out (fun k_ hk => (⟨hk, hk.2⟩ : _ ∧ k_ ≠ gb366))) (fun _ hk => hk.2) (.int .i64 ((rd_T37 t362 x11_1).f0))) (fun _ hk => hk.2) (.int .i64 ((rd_T37 t362 x11_1).f1))) (fun _ hk => hk.2) (.int .i64 ((rd_T37 t362 x11_1).f2))) (fun _ hk => hk.1.1)⟩, ⟨by (with_reducible repeat (first | refine blk_drewN ?_ _ | refine blk_drew ?_ | refine blk_alloc ?_ _)); refine blk_far ?_ NB361_366.out _; (with_reducible repeat (first | refine blk_drewN ?_ _ | refine blk_drew ?_ | refine blk_alloc ?_ _)); refine blk_far ?_ NB361_366.out _; (with_reducible repeat (first | refine blk_drewN ?_ _ | refine blk_drew ?_ | refine blk_alloc ?_ _)); refine blk_far ?_ NB361_366.out _; exact KX_ BK361.out⟩, ⟨B1_⟩⟩
     rw [if_neg c10] at H
     exact absurd H (by simp)
    rw [if_neg c9] at H
    exact absurd H (by simp)
   rw [if_neg c8] at H
   have c8b0 : decide (x11_1 < (t362.length : Int)) = false := decide_eq_false c8
   clear c8
   obtain rfl := Option.some.inj H
   go_wp2
   go_ret
   exact ⟨_, by first | rfl | (simp [errW_none, errW_some] <;> rfl) | (simp [*, errW_none, errW_some] <;> rfl), by (with_reducible repeat (first | apply Kd.R_alloc | apply Kd.R_drewN | apply Kd.R_drew)); exact Kd.R_mono HO_5.out (fun _ hk => trivial), B1_⟩

end Go.Proofs.Ytheillkpgmpnlaa.G
