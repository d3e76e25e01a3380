/- Printed by a program of this session (wip/tools/op.py, over the kit's print program): Go functions as plain Lean functions, each with a proof that the call answers so. Conditions: each theorem's own. -/
import Derived.Test.YtoekeknfeinphaaGx0
import Derived.Test.YtoekeknfeinphaaGx3
import Derived.Test.YtoekeknfeinphaaGx21
namespace Go.Proofs.Ytoekeknfeinphaa.G
open Go.Proofs.YtoekeknfeinphaaH
open Go.RowKit Go.Proofs.YtoekeknfeinphaaW.PrintWords Go.Proofs.YtoekeknfeinphaaW.PrintLast Go.Proofs.YtoekeknfeinphaaW.PrintMore
attribute [local go_sem] max2_int min2_int max_two min_two max_three min_three max_four min_four   -- for this text's walks alone
set_option linter.unusedVariables false
set_option linter.unusedSimpArgs false

/-! ### loop_body: function 41 -/
mutual
def loop_body.l0 : Nat → List Int → List Bool → List Int → List (List Int) → List (List Int) → Option (List Int)
 | 0, _, _, _, _, _ => none
 | k + 1, x1, x9, x10, x270000, x270001 => if (x10.length : Int) > 0 then (if 0 ≤ (wrap64 ((x10.length : Int) - 1)) then (if (wrap64 ((x10.length : Int) - 1)) < (x10.length : Int) then (if (wrap64 ((x10.length : Int) - 1)) ≤ (x10.length : Int) then ((some (x10.take ((wrap64 ((x10.length : Int) - 1)) : Int).toNat : List Int)).bind fun y279 => (if 0 ≤ (rd x10 (wrap64 ((x10.length : Int) - 1))) then (if (rd x10 (wrap64 ((x10.length : Int) - 1))) < 64 then (if rdOf false x9 (rd x10 (wrap64 ((x10.length : Int) - 1))) = true then (loop_body.l0 k x1 x9 y279 x270000 x270001) else ((dom_Over.f k x1 (rd x10 (wrap64 ((x10.length : Int) - 1))) (rd x10 (wrap64 ((x10.length : Int) - 1)))).bind fun t283 => (if t283 = true then (if (rd x10 (wrap64 ((x10.length : Int) - 1))) < (x270001.length : Int) then (if y279.length + (rd_L1 x270001 (rd x10 (wrap64 ((x10.length : Int) - 1)))).length < 17592186044416 then (loop_body.l0 k x1 (x9.set ((rd x10 (wrap64 ((x10.length : Int) - 1))) : Int).toNat true) (y279 ++ (rd_L1 x270001 (rd x10 (wrap64 ((x10.length : Int) - 1))))) x270000 x270001) else (none)) else (none)) else (loop_body.l0 k x1 x9 y279 x270000 x270001)))) else (none)) else (none))) else (none)) else (none)) else (none)) else (loop_body.l1 k x9 ([] : List Int) (x270000.length : Int) 0)
def loop_body.l1 : Nat → List Bool → List Int → Int → Int → Option (List Int)
 | 0, _, _, _, _ => none
 | k + 1, x9, x12, x53, x54 => if x54 < x53 then (if 0 ≤ x54 then (if x54 < 64 then (if rdOf false x9 x54 = true then (if x12.length < 17592186044416 then (loop_body.l1 k x9 (x12 ++ [x54]) x53 (wrap64 (x54 + 1))) else (none)) else (loop_body.l1 k x9 x12 x53 (wrap64 (x54 + 1)))) else (none)) else (none)) else (some x12)
end
def loop_body.f (k : Nat) (l0_0 : List (List Int)) (l0_1 : List (List Int)) (l1 : List Int) (a2 : Int) (l3 : List Int) : Option (List Int) := if 0 ≤ a2 then (if a2 < 64 then ((slices_Clone_int_int.f l3).bind fun t275 => (loop_body.l0 k l1 ((List.replicate 64 false).set (a2 : Int).toNat true) t275 l0_0 l0_1)) else (none)) else (none)
theorem loop_body.mono_l : ∀ k, (∀ y0 y1 y2 y3 y4, LeO (loop_body.l0 k y0 y1 y2 y3 y4) (loop_body.l0 (k + 1) y0 y1 y2 y3 y4)) ∧ (∀ y0 y1 y2 y3, LeO (loop_body.l1 k y0 y1 y2 y3) (loop_body.l1 (k + 1) y0 y1 y2 y3))
 | 0 => ⟨fun _ _ _ _ _ r h => by simp [loop_body.l0] at h, fun _ _ _ _ r h => by simp [loop_body.l1] at h⟩
 | k + 1 => by
  obtain ⟨ih0, ih1⟩ := loop_body.mono_l k
  refine ⟨?_, ?_⟩
  ·intro y0 y1 y2 y3 y4
   unfold loop_body.l0
   repeat' first
   | (with_reducible exact ih0 _ _ _ _ _)
   | (with_reducible exact ih1 _ _ _ _)
   | (with_reducible exact dom_Over.mono _ _ _ _)
   | (with_reducible exact LeO.refl _)
   | (with_reducible exact LeO.none _)
   | (with_reducible refine LeO.ite ?_ ?_)
   | (with_reducible refine LeO.bind ?_ (fun _ => ?_))
   | exact ih0 _ _ _ _ _
   | exact ih1 _ _ _ _
   | exact dom_Over.mono _ _ _ _
   | exact LeO.none _
   | refine LeO.ite ?_ ?_
   | refine LeO.bind ?_ (fun _ => ?_)
  ·intro y0 y1 y2 y3
   unfold loop_body.l1
   repeat' first
   | (with_reducible exact ih0 _ _ _ _ _)
   | (with_reducible exact ih1 _ _ _ _)
   | (with_reducible exact dom_Over.mono _ _ _ _)
   | (with_reducible exact LeO.refl _)
   | (with_reducible exact LeO.none _)
   | (with_reducible refine LeO.ite ?_ ?_)
   | (with_reducible refine LeO.bind ?_ (fun _ => ?_))
   | exact ih0 _ _ _ _ _
   | exact ih1 _ _ _ _
   | exact dom_Over.mono _ _ _ _
   | exact LeO.none _
   | refine LeO.ite ?_ ?_
   | refine LeO.bind ?_ (fun _ => ?_)
theorem loop_body.mono : ∀ a0 a1 a2 a3 a4 k, LeO (loop_body.f k a0 a1 a2 a3 a4) (loop_body.f (k + 1) a0 a1 a2 a3 a4) := by
 intro a0 a1 a2 a3 a4 k
 obtain ⟨ih0, ih1⟩ := loop_body.mono_l k
 unfold loop_body.f
 repeat' first
  | (with_reducible exact ih0 _ _ _ _ _)
  | (with_reducible exact ih1 _ _ _ _)
  | (with_reducible exact dom_Over.mono _ _ _ _)
  | (with_reducible exact LeO.refl _)
  | (with_reducible exact LeO.none _)
  | (with_reducible refine LeO.ite ?_ ?_)
  | (with_reducible refine LeO.bind ?_ (fun _ => ?_))
  | exact ih0 _ _ _ _ _
  | exact ih1 _ _ _ _
  | exact dom_Over.mono _ _ _ _
  | exact LeO.none _
  | refine LeO.ite ?_ ?_
  | refine LeO.bind ?_ (fun _ => ?_)
set_option maxHeartbeats 8000000 in
set_option maxRecDepth 100000 in
theorem loop_body.calls (k : Nat) (A0_0 : Option Addr) (c0_0 : Nat) (l0_0 : List (List Int)) (A0_1 : Option Addr) (c0_1 : Nat) (l0_1 : List (List Int)) (A1 : Option Addr) (c1 : Nat) (l1 : List Int) (a2 : Int) (A3 : Option Addr) (c3 : Nat) (l3 : List Int) (r : List Int) (w : World) (hr0_0 : Kd.C (Kd.slice 3 (Kd.int .i64)) w A0_0 l0_0.length l0_0) (hc0_0 : l0_0.length ≤ c0_0) (hr0_1 : Kd.C (Kd.slice 3 (Kd.int .i64)) w A0_1 l0_1.length l0_1) (hc0_1 : l0_1.length ≤ c0_1) (hr1 : Kd.C (Kd.int .i64) w A1 l1.length l1) (hc1 : l1.length ≤ c1) (hr3 : Kd.C (Kd.int .i64) w A3 l3.length l3) (hc3 : l3.length ≤ c3) (h : loop_body.f k l0_0 l0_1 l1 a2 l3 = some r) :
 Calls Try.prog 41 #[.agg #[.slice A0_0 l0_0.length c0_0, .slice A0_1 l0_1.length c0_1], .slice A1 l1.length c1, .int .i64 a2, .slice A3 l3.length c3] w fun e w' => ∃ v0_ : Value, e = .returned (v0_) ∧ Kd.R (Kd.int .i64) 3 w' w.heap.size (fun _ => True) v0_ r ∧ Below w.heap.size w w' := by
 have hu26 := Try.underlying26
 have HR0_0 := Aside0.mk hr0_0
 have HC0_0 := Aside0.mk hc0_0
 clear hr0_0 hc0_0
 have HR0_1 := Aside0.mk hr0_1
 have HC0_1 := Aside0.mk hc0_1
 clear hr0_1 hc0_1
 have HR1 := Aside0.mk hr1
 have HC1 := Aside0.mk hc1
 clear hr1 hc1
 have HR3 := Aside0.mk hr3
 have HC3 := Aside0.mk hc3
 clear hr3 hc3
 have HB := Aside0.mk (Below.refl w.heap.size w)
 have H : (if 0 ≤ a2 then (if a2 < 64 then ((slices_Clone_int_int.f l3).bind fun t275 => (loop_body.l0 k l1 ((List.replicate 64 false).set (a2 : Int).toNat true) t275 l0_0 l0_1)) else (none)) else (none)) = some r := h
 clear h
 have H' := Aside0.mk H
 clear H
 go_enter Try.func41, Try.ntmps41
 go_wp2_with (first | ((with_reducible refine gate_dst (N := 4) rfl ?_); refine box_event ?hg (N := 4) ?hd (cs := #[.slice A0_0 l0_0.length c0_0, .slice A0_1 l0_1.length c0_1]) (t := 26) ?hr ?_; (case hd => rfl); (case hg => rfl); (case hr => first | (go_simp; done) | (go_simp; rfl)); intro gb269 hg w5 hbox hb; have n0_ := Aside0.mk (below_step (B_) hb); have n1_ := Aside0.mk (hbox); have n2_ := Aside0.mk ((by rw [hg]; exact (below_size (B_)) : w.heap.size ≤ gb269)); have n3_ := Aside0.mk ((by rw [hg]; exact (below_size (B_)) : w.heap.size ≤ gb269)); clear HB; have HB := n0_; have BK269 := n1_; have GW269 := n2_; have GE269 := n3_; clear n0_ n1_ n2_ n3_; clear hb hbox hg))
 apply lab_enter 0; (case hf => rfl)
 have H := H'.out
 clear H'
 obtain ⟨y270, hy270⟩ : ∃ y_ : List Bool, y_ = (List.replicate 64 false) := ⟨_, rfl⟩
 replace H : (if 0 ≤ a2 then (if a2 < 64 then ((slices_Clone_int_int.f l3).bind fun t275 => (loop_body.l0 k l1 (y270.set (a2 : Int).toNat true) t275 l0_0 l0_1)) else (none)) else (none)) = some r := by first | (rw [hy270]; with_reducible exact H) | (have H2_ := (Option.bind_some _ _).symm.trans H; rw [hy270]; with_reducible exact H2_) | (have H2_ := (Option.bind_some _ _).symm.trans H; with_reducible exact H2_) | with_reducible exact H | (rw [hy270]; exact H) | exact H
 have Ny270 := Aside0.mk hy270
 clear hy270
 by_cases c6 : 0 ≤ a2
 ·rw [if_pos c6] at H
  have c6b0 : decide (0 ≤ a2) = true := decide_eq_true c6
  clear c6
  by_cases c7 : a2 < 64
  ·rw [if_pos c7] at H
   have c7b0 : decide (a2 < 64) = true := decide_eq_true c7
   clear c7
   obtain ⟨y274, hy274⟩ : ∃ y_ : List Bool, y_ = (y270.set (a2 : Int).toNat true) := ⟨_, rfl⟩
   replace H : ((slices_Clone_int_int.f l3).bind fun t275 => (loop_body.l0 k l1 y274 t275 l0_0 l0_1)) = some r := by first | (rw [hy274]; with_reducible exact H) | (have H2_ := (Option.bind_some _ _).symm.trans H; rw [hy274]; with_reducible exact H2_) | (have H2_ := (Option.bind_some _ _).symm.trans H; with_reducible exact H2_) | with_reducible exact H | (rw [hy274]; exact H) | exact H
   have Ny274 := Aside0.mk hy274
   clear hy274
   replace H := Option.bind_eq_some_iff.mp H
   obtain ⟨t275, A90, H⟩ := H
   replace H : (loop_body.l0 k l1 y274 t275 l0_0 l0_1) = some r := H
   have A9 := Aside0.mk A90
   clear A90
   have H' := Aside0.mk H
   clear H
   go_wp2_with (first | ((with_reducible refine gate_dst (N := 9) rfl ?_); refine Kd0.R_alloc Kd.bool _ 63 rfl (N := 9) rfl 64 false (.bool false) ?hr rfl (by decide) rfl (ok := fun _ => True) trivial (Below.refl _ _) (Nat.le_refl _) (by decide) ?_; (case hr => first | (go_simp; done) | (go_simp; rfl) | (go_simp; kernel_rfl)); intro goA273 hge_ w10 ho11 hb hg_ hnew_; have GBA273 := Aside0.mk (Nat.le_trans (below_size (B1_)) hge_ : w.heap.size ≤ goA273); clear hge_; clear hg_ hnew_; (first | rw [← Ny270.out] at ho11 | (simp only [Int.reduceToNat] at ho11; rw [← Ny270.out] at ho11)); have n0_ := Aside0.mk (Kd.R_lower ho11 (below_size (B1_))); have n1_ := Aside0.mk (blk_below (g := gb269) (o := .cells #[.slice A0_0 l0_0.length c0_0, .slice A0_1 l0_1.length c0_1] 26 (0, 0)) (by exact KX_ BK269.out) hb); have n2_ := Aside0.mk (below_step (B1_) hb); clear BK269; clear HB; have HO272 := n0_; have BK269 := n1_; have HB := n2_; clear n0_ n1_ n2_; clear hb ho11; have p8 : 0 ≤ (a2 : Int) := D_; have q8 : (a2 : Int) < (64 : Int) := D_; obtain ⟨hx8_0, hf8_0⟩ := Kd.R_celln false HO272.out (a2 : Int) p8 q8; replace p8 := eq_true p8; replace q8 := eq_true q8; obtain ⟨hy12_, hz12_⟩ := Kd.R_celln false HO272.out (a2 : Int) (D_) (D_); have HP12 := Kd.R_putg HO272.out (a2 : Int) true) | ((with_reducible refine gate_store (t := 4) (p := 15) rfl ?_); refine store_event (t := 4) (p := 15) (v := ?vo_w13) (w1 := (w10.setCell ⟨goA273, (a2 : Int).toNat, none⟩ (.bool true))) ?hg ?ho ?hn ?hr ?_; (case ho => rfl); (case hg => rfl); (case hn => rfl); (case hr => first | (go_simp; done) | (go_simp; rfl)); intro w13 hw; have hg : w10.grownBy w13 (some goA273) := (by rw [hw]; exact HP12.2); have hp_ : Kd.R Kd.bool 63 w13 w.heap.size (fun _ => True) (.slice (some ⟨goA273, 0, none⟩) 64 64) y274 := (by rw [hw, Ny274.out]; exact HP12.1); clear HP12; have n0_ := Aside0.mk (blk_grown (g := gb269) (o := .cells #[.slice A0_0 l0_0.length c0_0, .slice A0_1 l0_1.length c0_1] 26 (0, 0)) (by exact KX_ BK269.out) hg (Kd.R_ne HO272.out BK269.out (by decide))); have n1_ := Aside0.mk (hp_); have n2_ := Aside0.mk ((by rw [hw]; exact below_set (HB.out) GBA273.out : Below w.heap.size w w13)); clear BK269; clear HO272; clear HB; have BK269 := n0_; have HO272 := n1_; have HB := n2_; clear n0_ n1_ n2_; clear hg hw hp_) | ((with_reducible refine gate_callee (f := 31) rfl ?_); refine goesL_ (some 17) rfl rfl Try.func31 (by kernel_rfl) rfl #[.slice A3 l3.length c3] rfl (by (try simp only [List.map_toArray, List.map_cons, List.map_nil]); first | done | rfl | (simp only [List.length_drop, List.length_take]; rfl)) ?_; (with_reducible refine (slices_Clone_int_int.calls _ _ l3 t275 _ ?side1 ?side2 A9.out).mono ?_); (case side1 => exact CX_ (Kd.C_below HR3.out HB.out)); (case side2 => exact HC3.out); rintro e w14 ⟨v276, rfl, ho0, hb⟩; refine ⟨_, rfl, ?_⟩; have n0_ := Aside0.mk (Kd.R_below (by exact RX_ HO272.out) hb); have n1_ := Aside0.mk (Kd.R_lower ho0 (below_size (B1_))); have n2_ := Aside0.mk (blk_below (g := gb269) (o := .cells #[.slice A0_0 l0_0.length c0_0, .slice A0_1 l0_1.length c0_1] 26 (0, 0)) (by exact KX_ BK269.out) hb); have n3_ := Aside0.mk (below_step (B1_) hb); clear HO272; clear BK269; clear HB; have HO272 := n0_; have HO277 := n1_; have BK269 := n2_; have HB := n3_; clear n0_ n1_ n2_ n3_; (try clear hb); (try clear hb2); (try clear hk); (try clear hi); (try clear ho0)))
   go_step3
   go_step
   try go_step
   apply lab_ghost_at (l := 0) (I := fun (a0_ : Act) (kq_ : Nat) (a_ : Act) (w_ : World) => ∃ u8 u10 u11 u12 u13 u18 u19 u20 u21 u22 u23 u24 u25 u26 u27 u28 u29 u30 u31 u32 u33 u34 u35 u36 u37 u38 u39 u40 u41 u42 u43 u44 u45 u46 u47 u48 u49 u50 u51 u52 u53 u54 u55 u56 u57 u58 u59 u60 u61 u62 u63 u64 u65 : Value, ((fun kq v10 w' => ∃ (x9_1 : List Bool) (x10_1 : List Int), Aside0 (loop_body.l0 kq l1 x9_1 x10_1 l0_0 l0_1 = some r) ∧ Aside0 (kq ≤ k) ∧ Aside0 (Kd.R Kd.bool 63 w' w.heap.size (fun _ => True) (.slice (some ⟨goA273, 0, none⟩) 64 64) x9_1) ∧ Aside0 (Kd.R (Kd.int .i64) 3 w' w.heap.size (fun _ => True) v10 x10_1) ∧ Aside0 (w'.heap[gb269]? = some (.cells #[(.slice A0_0 l0_0.length c0_0), (.slice A0_1 l0_1.length c0_1)] 26 (0, 0))) ∧ Aside0 (Below w.heap.size w w')) kq_ u10 w_) ∧ a_ = { tmps := (((((((((((((((((((((((((((((((((((((((((((((((((((((a0_.tmps.setIfInBounds 8 u8).setIfInBounds 10 u10).setIfInBounds 11 u11).setIfInBounds 12 u12).setIfInBounds 13 u13).setIfInBounds 18 u18).setIfInBounds 19 u19).setIfInBounds 20 u20).setIfInBounds 21 u21).setIfInBounds 22 u22).setIfInBounds 23 u23).setIfInBounds 24 u24).setIfInBounds 25 u25).setIfInBounds 26 u26).setIfInBounds 27 u27).setIfInBounds 28 u28).setIfInBounds 29 u29).setIfInBounds 30 u30).setIfInBounds 31 u31).setIfInBounds 32 u32).setIfInBounds 33 u33).setIfInBounds 34 u34).setIfInBounds 35 u35).setIfInBounds 36 u36).setIfInBounds 37 u37).setIfInBounds 38 u38).setIfInBounds 39 u39).setIfInBounds 40 u40).setIfInBounds 41 u41).setIfInBounds 42 u42).setIfInBounds 43 u43).setIfInBounds 44 u44).setIfInBounds 45 u45).setIfInBounds 46 u46).setIfInBounds 47 u47).setIfInBounds 48 u48).setIfInBounds 49 u49).setIfInBounds 50 u50).setIfInBounds 51 u51).setIfInBounds 52 u52).setIfInBounds 53 u53).setIfInBounds 54 u54).setIfInBounds 55 u55).setIfInBounds 56 u56).setIfInBounds 57 u57).setIfInBounds 58 u58).setIfInBounds 59 u59).setIfInBounds 60 u60).setIfInBounds 61 u61).setIfInBounds 62 u62).setIfInBounds 63 u63).setIfInBounds 64 u64).setIfInBounds 65 u65), defers := a0_.defers }) (n₀ := k); (case hf => rfl)
   case h₀ =>
    (repeat apply Exists.intro)
    refine ⟨?_, ?hfr⟩
    (case hfr => (try simp only [List.setIfInBounds_toArray, List.set_cons_zero, List.set_cons_succ]); rfl)
    exact ⟨(y274), (t275), H', ⟨Nat.le_refl _⟩, ⟨by exact RM_ HO272.out⟩, ⟨by exact RM_ HO277.out⟩, ⟨by exact KX_ BK269.out⟩, ⟨B1_⟩⟩
   intro gk _ wr hinv
   obtain ⟨u8, hinv⟩ := hinv
   obtain ⟨u10, hinv⟩ := hinv
   obtain ⟨u11, hinv⟩ := hinv
   obtain ⟨u12, hinv⟩ := hinv
   obtain ⟨u13, hinv⟩ := hinv
   obtain ⟨u18, hinv⟩ := hinv
   obtain ⟨u19, hinv⟩ := hinv
   obtain ⟨u20, hinv⟩ := hinv
   obtain ⟨u21, hinv⟩ := hinv
   obtain ⟨u22, hinv⟩ := hinv
   obtain ⟨u23, hinv⟩ := hinv
   obtain ⟨u24, hinv⟩ := hinv
   obtain ⟨u25, hinv⟩ := hinv
   obtain ⟨u26, hinv⟩ := hinv
   obtain ⟨u27, hinv⟩ := hinv
   obtain ⟨u28, hinv⟩ := hinv
   obtain ⟨u29, hinv⟩ := hinv
   obtain ⟨u30, hinv⟩ := hinv
   obtain ⟨u31, hinv⟩ := hinv
   obtain ⟨u32, hinv⟩ := hinv
   obtain ⟨u33, hinv⟩ := hinv
   obtain ⟨u34, hinv⟩ := hinv
   obtain ⟨u35, hinv⟩ := hinv
   obtain ⟨u36, hinv⟩ := hinv
   obtain ⟨u37, hinv⟩ := hinv
   obtain ⟨u38, hinv⟩ := hinv
   obtain ⟨u39, hinv⟩ := hinv
   obtain ⟨u40, hinv⟩ := hinv
   obtain ⟨u41, hinv⟩ := hinv
   obtain ⟨u42, hinv⟩ := hinv
   obtain ⟨u43, hinv⟩ := hinv
   obtain ⟨u44, hinv⟩ := hinv
   obtain ⟨u45, hinv⟩ := hinv
   obtain ⟨u46, hinv⟩ := hinv
   obtain ⟨u47, hinv⟩ := hinv
   obtain ⟨u48, hinv⟩ := hinv
   obtain ⟨u49, hinv⟩ := hinv
   obtain ⟨u50, hinv⟩ := hinv
   obtain ⟨u51, hinv⟩ := hinv
   obtain ⟨u52, hinv⟩ := hinv
   obtain ⟨u53, hinv⟩ := hinv
   obtain ⟨u54, hinv⟩ := hinv
   obtain ⟨u55, hinv⟩ := hinv
   obtain ⟨u56, hinv⟩ := hinv
   obtain ⟨u57, hinv⟩ := hinv
   obtain ⟨u58, hinv⟩ := hinv
   obtain ⟨u59, hinv⟩ := hinv
   obtain ⟨u60, hinv⟩ := hinv
   obtain ⟨u61, hinv⟩ := hinv
   obtain ⟨u62, hinv⟩ := hinv
   obtain ⟨u63, hinv⟩ := hinv
   obtain ⟨u64, hinv⟩ := hinv
   obtain ⟨u65, hinv⟩ := hinv
   obtain ⟨hrel, ha⟩ := hinv; subst ha
   intro _ _ hJ_ hK_
   (try simp only [List.setIfInBounds_toArray, List.set_cons_zero, List.set_cons_succ])
   (try simp only [List.setIfInBounds_toArray, List.set_cons_zero, List.set_cons_succ] at hJ_)
   clear H'
   try clear c1
   try clear c3
   try clear c6b0
   try clear c7b0
   try clear p8
   try clear q8
   try clear hx8_0
   try clear p8
   try clear q8
   obtain ⟨x9_1, x10_1, HA, HK1, HO_9, HO_10, BK269, HB⟩ := hrel
   cases gk with
   | zero => exact absurd HA.out (by simp [loop_body.l0])
   | succ k1 =>
    have H := HA.out
    clear HA
    simp only [loop_body.l0] at H
    by_cases c15 : (x10_1.length : Int) > 0
    ·rw [if_pos c15] at H
     have c15b0 : decide (0 < (x10_1.length : Int)) = true := decide_eq_true c15
     have c15b1 : decide (0 < x10_1.length) = true := decide_eq_true (by omega)
     clear c15
     obtain ⟨ji16, hji16⟩ : ∃ j_ : Int, (wrap64 ((x10_1.length : Int) - 1)) = j_ := ⟨_, rfl⟩
     replace H : (if 0 ≤ (ji16) then (if (ji16) < (x10_1.length : Int) then (if (ji16) ≤ (x10_1.length : Int) then ((some (x10_1.take ((ji16) : Int).toNat : List Int)).bind fun y279 => (if 0 ≤ (rd x10_1 (ji16)) then (if (rd x10_1 (ji16)) < 64 then (if rdOf false x9_1 (rd x10_1 (ji16)) = true then (loop_body.l0 k1 l1 x9_1 y279 l0_0 l0_1) else ((dom_Over.f k1 l1 (rd x10_1 (ji16)) (rd x10_1 (ji16))).bind fun t283 => (if t283 = true then (if (rd x10_1 (ji16)) < (l0_1.length : Int) then (if y279.length + (rd_L1 l0_1 (rd x10_1 (ji16))).length < 17592186044416 then (loop_body.l0 k1 l1 (x9_1.set ((rd x10_1 (ji16)) : Int).toNat true) (y279 ++ (rd_L1 l0_1 (rd x10_1 (ji16)))) l0_0 l0_1) else (none)) else (none)) else (loop_body.l0 k1 l1 x9_1 y279 l0_0 l0_1)))) else (none)) else (none))) else (none)) else (none)) else (none)) = some r := by first | (rw [hji16] at H; exact H) | (simp only [hji16] at H ⊢; exact H)
     have hji16w : (IntKind.i64.wrap ((x10_1.length : Int) - 1)) = ji16 := (i64_w _).trans hji16
     by_cases c17 : 0 ≤ (ji16)
     ·rw [if_pos c17] at H
      have c17b0 : decide (0 ≤ (ji16)) = true := decide_eq_true c17
      clear c17
      by_cases c18 : (ji16) < (x10_1.length : Int)
      ·rw [if_pos c18] at H
       have c18b0 : decide ((ji16) < (x10_1.length : Int)) = true := decide_eq_true c18
       clear c18
       by_cases c19 : (ji16) ≤ (x10_1.length : Int)
       ·rw [if_pos c19] at H
        have c19b0 := eq_true c19
        have c19b1 : decide ((ji16) ≤ (x10_1.length : Int)) = true := decide_eq_true c19
        clear c19
        obtain ⟨y279, hy279⟩ : ∃ y_ : List Int, y_ = (x10_1.take ((ji16) : Int).toNat) := ⟨_, rfl⟩
        replace H : (if 0 ≤ (rd x10_1 (ji16)) then (if (rd x10_1 (ji16)) < 64 then (if rdOf false x9_1 (rd x10_1 (ji16)) = true then (loop_body.l0 k1 l1 x9_1 y279 l0_0 l0_1) else ((dom_Over.f k1 l1 (rd x10_1 (ji16)) (rd x10_1 (ji16))).bind fun t283 => (if t283 = true then (if (rd x10_1 (ji16)) < (l0_1.length : Int) then (if y279.length + (rd_L1 l0_1 (rd x10_1 (ji16))).length < 17592186044416 then (loop_body.l0 k1 l1 (x9_1.set ((rd x10_1 (ji16)) : Int).toNat true) (y279 ++ (rd_L1 l0_1 (rd x10_1 (ji16)))) l0_0 l0_1) else (none)) else (none)) else (loop_body.l0 k1 l1 x9_1 y279 l0_0 l0_1)))) else (none)) else (none)) = some r := by first | (rw [hy279]; with_reducible exact H) | (have H2_ := (Option.bind_some _ _).symm.trans H; rw [hy279]; with_reducible exact H2_) | (have H2_ := (Option.bind_some _ _).symm.trans H; with_reducible exact H2_) | with_reducible exact H | (rw [hy279]; exact H) | exact H
        have Ny279 := Aside0.mk hy279
        clear hy279
        by_cases c20 : 0 ≤ (rd x10_1 (ji16))
        ·rw [if_pos c20] at H
         have c20b0 : decide (0 ≤ (rd x10_1 (ji16))) = true := decide_eq_true c20
         clear c20
         by_cases c21 : (rd x10_1 (ji16)) < 64
         ·rw [if_pos c21] at H
          have c21b0 : decide ((rd x10_1 (ji16)) < 64) = true := decide_eq_true c21
          clear c21
          obtain ⟨bq22, hbq22⟩ : ∃ b_ : Bool, b_ = (rdOf false x9_1 (rd x10_1 (ji16))) := ⟨_, rfl⟩
          replace H : (if bq22 = true then (loop_body.l0 k1 l1 x9_1 y279 l0_0 l0_1) else ((dom_Over.f k1 l1 (rd x10_1 (ji16)) (rd x10_1 (ji16))).bind fun t283 => (if t283 = true then (if (rd x10_1 (ji16)) < (l0_1.length : Int) then (if y279.length + (rd_L1 l0_1 (rd x10_1 (ji16))).length < 17592186044416 then (loop_body.l0 k1 l1 (x9_1.set ((rd x10_1 (ji16)) : Int).toNat true) (y279 ++ (rd_L1 l0_1 (rd x10_1 (ji16)))) l0_0 l0_1) else (none)) else (none)) else (loop_body.l0 k1 l1 x9_1 y279 l0_0 l0_1)))) = some r := by rw [← hbq22] at H; exact H
          have Nbq22 := Aside0.mk hbq22
          clear hbq22
          by_cases c23 : bq22 = true
          ·subst c23
           have H1 : (loop_body.l0 k1 l1 x9_1 y279 l0_0 l0_1) = some r := by rw [if_pos rfl] at H; exact H
           clear H
           have H := H1
           clear H1
           have H' := Aside0.mk H
           clear H
           obtain ⟨Ao24, co24, eo24⟩ := Kd.R_slice HO_10.out
           subst eo24
           have p278 : 0 ≤ ((ji16) : Int) := D_
           have q278 : (ji16) < (x10_1.length : Int) := D_
           obtain ⟨ad278, e278, hx278_0⟩ := Kd.at_int (Kd.R_reads' HO_10.out).2.2 (ji16) p278 q278
           cases e278
           replace p278 := eq_true p278
           replace q278 := eq_true q278
           have q25 : ((ji16) : Int) ≤ ((x10_1.length : Int) : Int) := D_
           obtain ⟨i025, hi025, _, hsz25, _⟩ := info_parts info3
           have hcut25 := cut_to (P := Try.prog) 31 3 .i64 Try.underlying31 hi025 (some ad278) x10_1.length co24 (ji16) (D_) q25 (Kd.R_reads' HO_10.out).2.1
           have hr25 := Kd.R_take (m := ((ji16) : Int).toNat) HO_10.out (by omega)
           have hy25 : y279.length = ((ji16) : Int).toNat := (by rw [Ny279.out, List.length_take]; omega)
           rw [← Ny279.out] at hr25
           rw [← hy25] at hr25 hcut25
           clear hy25 hi025 hsz25 HO_10
           have HO281 := Aside0.mk hr25
           clear hr25
           replace q25 := eq_true q25
           have p282 : 0 ≤ ((rd x10_1 (ji16)) : Int) := D_
           have ql282 : (((rd x10_1 (ji16)) : Int) < (64 : Int)) = True := eq_true (D_)
           have q282 : (rd x10_1 (ji16)) < (x9_1.length : Int) := (by have h_ : ((rd x10_1 (ji16)) : Int) < (64 : Int) := D_; have e_ := (Kd.R_reads' HO_9.out).1; omega)
           obtain ⟨ad282, e282, hx282_0⟩ := Kd.at_bool (Kd.R_reads' HO_9.out).2.2 (rd x10_1 (ji16)) p282 q282
           (try rw [← Nbq22.out] at hx282_0)
           obtain rfl : (⟨goA273, 0, none⟩ : Addr) = ad282 := (by injection e282)
           (first | simp only [add_plain] at hx282_0 | simp only [add_at] at hx282_0 | simp only [Addr.add, Nat.zero_add] at hx282_0 | skip)
           replace p282 := eq_true p282
           replace q282 := eq_true q282
           go_wp2
           go_step3
           try simp only [jumpg_goto, Exit.then, Exit.inBlock]
           go_step
           go_roundg k1
           case measure => have := HK1.out; omega
           case rel => exact ⟨(x9_1), (y279), H', ⟨by have := HK1.out; omega⟩, ⟨by exact RM_ HO_9.out⟩, ⟨by exact RM_ HO281.out⟩, ⟨by exact KX_ BK269.out⟩, ⟨B1_⟩⟩
          replace c23 := Bool.eq_false_iff.mpr c23
          subst c23
          have H1 : ((dom_Over.f k1 l1 (rd x10_1 (ji16)) (rd x10_1 (ji16))).bind fun t283 => (if t283 = true then (if (rd x10_1 (ji16)) < (l0_1.length : Int) then (if y279.length + (rd_L1 l0_1 (rd x10_1 (ji16))).length < 17592186044416 then (loop_body.l0 k1 l1 (x9_1.set ((rd x10_1 (ji16)) : Int).toNat true) (y279 ++ (rd_L1 l0_1 (rd x10_1 (ji16)))) l0_0 l0_1) else (none)) else (none)) else (loop_body.l0 k1 l1 x9_1 y279 l0_0 l0_1))) = some r := by rw [if_neg (show ¬ (false = true) by decide)] at H; exact H
          clear H
          have H := H1
          clear H1
          replace H := Option.bind_eq_some_iff.mp H
          obtain ⟨t283, A260, H⟩ := H
          replace H : (if t283 = true then (if (rd x10_1 (ji16)) < (l0_1.length : Int) then (if y279.length + (rd_L1 l0_1 (rd x10_1 (ji16))).length < 17592186044416 then (loop_body.l0 k1 l1 (x9_1.set ((rd x10_1 (ji16)) : Int).toNat true) (y279 ++ (rd_L1 l0_1 (rd x10_1 (ji16)))) l0_0 l0_1) else (none)) else (none)) else (loop_body.l0 k1 l1 x9_1 y279 l0_0 l0_1)) = some r := H
          have A26 := Aside0.mk A260
          clear A260
          by_cases c27 : t283 = true
          ·subst c27
           have H1 : (if (rd x10_1 (ji16)) < (l0_1.length : Int) then (if y279.length + (rd_L1 l0_1 (rd x10_1 (ji16))).length < 17592186044416 then (loop_body.l0 k1 l1 (x9_1.set ((rd x10_1 (ji16)) : Int).toNat true) (y279 ++ (rd_L1 l0_1 (rd x10_1 (ji16)))) l0_0 l0_1) else (none)) else (none)) = some r := by rw [if_pos rfl] at H; exact H
           clear H
           have H := H1
           clear H1
           obtain ⟨y284, hy284⟩ : ∃ y_ : List Bool, y_ = (x9_1.set ((rd x10_1 (ji16)) : Int).toNat true) := ⟨_, rfl⟩
           replace H : (if (rd x10_1 (ji16)) < (l0_1.length : Int) then (if y279.length + (rd_L1 l0_1 (rd x10_1 (ji16))).length < 17592186044416 then (loop_body.l0 k1 l1 y284 (y279 ++ (rd_L1 l0_1 (rd x10_1 (ji16)))) l0_0 l0_1) else (none)) else (none)) = some r := by first | (rw [hy284]; with_reducible exact H) | (have H2_ := (Option.bind_some _ _).symm.trans H; rw [hy284]; with_reducible exact H2_) | (have H2_ := (Option.bind_some _ _).symm.trans H; with_reducible exact H2_) | with_reducible exact H | (rw [hy284]; exact H) | exact H
           have Ny284 := Aside0.mk hy284
           clear hy284
           by_cases c29 : (rd x10_1 (ji16)) < (l0_1.length : Int)
           ·rw [if_pos c29] at H
            have c29b0 : decide ((rd x10_1 (ji16)) < (l0_1.length : Int)) = true := decide_eq_true c29
            clear c29
            by_cases c30 : y279.length + (rd_L1 l0_1 (rd x10_1 (ji16))).length < 17592186044416
            ·rw [if_pos c30] at H
             have LMc30 := Aside0.mk c30
             clear c30
             obtain ⟨y286, hy286⟩ : ∃ y_ : List Int, y_ = (y279 ++ (rd_L1 l0_1 (rd x10_1 (ji16)))) := ⟨_, rfl⟩
             replace H : (loop_body.l0 k1 l1 y284 y286 l0_0 l0_1) = some r := by first | (rw [hy286]; with_reducible exact H) | (have H2_ := (Option.bind_some _ _).symm.trans H; rw [hy286]; with_reducible exact H2_) | (have H2_ := (Option.bind_some _ _).symm.trans H; with_reducible exact H2_) | with_reducible exact H | (rw [hy286]; exact H) | exact H
             have Ny286 := Aside0.mk hy286
             clear hy286
             have H' := Aside0.mk H
             clear H
             obtain ⟨Ao31, co31, eo31⟩ := Kd.R_slice HO_10.out
             subst eo31
             have p278 : 0 ≤ ((ji16) : Int) := D_
             have q278 : (ji16) < (x10_1.length : Int) := D_
             obtain ⟨ad278, e278, hx278_0⟩ := Kd.at_int (Kd.R_reads' HO_10.out).2.2 (ji16) p278 q278
             cases e278
             replace p278 := eq_true p278
             replace q278 := eq_true q278
             have q32 : ((ji16) : Int) ≤ ((x10_1.length : Int) : Int) := D_
             obtain ⟨i032, hi032, _, hsz32, _⟩ := info_parts info3
             have hcut32 := cut_to (P := Try.prog) 31 3 .i64 Try.underlying31 hi032 (some ad278) x10_1.length co31 (ji16) (D_) q32 (Kd.R_reads' HO_10.out).2.1
             have hr32 := Kd.R_take (m := ((ji16) : Int).toNat) HO_10.out (by omega)
             have hy32 : y279.length = ((ji16) : Int).toNat := (by rw [Ny279.out, List.length_take]; omega)
             rw [← Ny279.out] at hr32
             rw [← hy32] at hr32 hcut32
             clear hy32 hi032 hsz32 HO_10
             have HO281 := Aside0.mk hr32
             clear hr32
             replace q32 := eq_true q32
             have p282 : 0 ≤ ((rd x10_1 (ji16)) : Int) := D_
             have ql282 : (((rd x10_1 (ji16)) : Int) < (64 : Int)) = True := eq_true (D_)
             have q282 : (rd x10_1 (ji16)) < (x9_1.length : Int) := (by have h_ : ((rd x10_1 (ji16)) : Int) < (64 : Int) := D_; have e_ := (Kd.R_reads' HO_9.out).1; omega)
             obtain ⟨ad282, e282, hx282_0⟩ := Kd.at_bool (Kd.R_reads' HO_9.out).2.2 (rd x10_1 (ji16)) p282 q282
             (try rw [← Nbq22.out] at hx282_0)
             obtain rfl : (⟨goA273, 0, none⟩ : Addr) = ad282 := (by injection e282)
             (first | simp only [add_plain] at hx282_0 | simp only [add_at] at hx282_0 | simp only [Addr.add, Nat.zero_add] at hx282_0 | skip)
             replace p282 := eq_true p282
             replace q282 := eq_true q282
             go_wp2_with (first | (go_at_call 15; (with_reducible refine (dom_Over.calls k1 _ _ l1 (rd x10_1 (ji16)) (rd x10_1 (ji16)) true _ ?side1 ?side2 A26.out).mono ?_); (case side1 => exact CX_ (Kd.C_below HR1.out HB.out)); (case side2 => exact HC1.out); rintro e w33 ⟨rfl, hb⟩; have n0_ := Aside0.mk (Kd.R_below (by exact RX_ HO_9.out) hb); have n1_ := Aside0.mk (Kd.R_below (by exact RX_ HO281.out) hb); have n2_ := Aside0.mk (blk_below (g := gb269) (o := .cells #[.slice A0_0 l0_0.length c0_0, .slice A0_1 l0_1.length c0_1] 26 (0, 0)) (by exact KX_ BK269.out) hb); have n3_ := Aside0.mk (below_step (B1_) hb); clear HO_9; clear HO281; clear BK269; clear HB; have HO_9 := n0_; have HO281 := n1_; have BK269 := n2_; have HB := n3_; clear n0_ n1_ n2_ n3_; (try clear hb); (try clear hb2); (try clear hk); (try clear hi); have p28 : 0 ≤ ((rd x10_1 (ji16)) : Int) := D_; have q28 : ((rd x10_1 (ji16)) : Int) < (64 : Int) := D_; obtain ⟨hx28_0, hf28_0⟩ := Kd.R_celln false HO_9.out ((rd x10_1 (ji16)) : Int) p28 q28; replace p28 := eq_true p28; replace q28 := eq_true q28; obtain ⟨hy34_, hz34_⟩ := Kd.R_celln false HO_9.out ((rd x10_1 (ji16)) : Int) (D_) (D_); have HP34 := Kd.R_putg HO_9.out ((rd x10_1 (ji16)) : Int) true) | ((with_reducible refine gate_store (t := 4) (p := 43) rfl ?_); refine store_event (t := 4) (p := 43) (v := ?vo_w35) (w1 := (w33.setCell ⟨goA273, ((rd x10_1 (ji16)) : Int).toNat, none⟩ (.bool true))) ?hg ?ho ?hn ?hr ?_; (case ho => rfl); (case hg => rfl); (case hn => rfl); (case hr => first | (go_simp; done) | (go_simp; rfl)); intro w35 hw; have hg : w33.grownBy w35 (some goA273) := (by rw [hw]; exact HP34.2); have hp_ : Kd.R Kd.bool 63 w35 w.heap.size (fun _ => True) (.slice (some ⟨goA273, 0, none⟩) 64 64) y284 := (by rw [hw, Ny284.out]; exact HP34.1); clear HP34; have n0_ := Aside0.mk (hp_); have n1_ := Aside0.mk (Kd.R_over' (v := (.slice (some ⟨goA273, 0, none⟩) 64 64)) (by exact RX_ HO281.out) (Kd.R_typed HO_9.out) (by decide) hg); have n2_ := Aside0.mk (blk_grown (g := gb269) (o := .cells #[.slice A0_0 l0_0.length c0_0, .slice A0_1 l0_1.length c0_1] 26 (0, 0)) (by exact KX_ BK269.out) hg (Kd.R_ne HO_9.out BK269.out (by decide))); have n3_ := Aside0.mk ((by rw [hw]; exact below_set (HB.out) GBA273.out : Below w.heap.size w w35)); clear HO_9; clear HO281; clear BK269; clear HB; have HO_9 := n0_; have HO281 := n1_; have BK269 := n2_; have HB := n3_; clear n0_ n1_ n2_ n3_; clear hg hw hp_; have hcz36_0 : w35.cell? ⟨gb269, 0, none⟩ = some (.slice A0_0 l0_0.length c0_0) := (blk_cell BK269.out 0).trans rfl; have hcz36_1 : w35.cell? ⟨gb269, 1, none⟩ = some (.slice A0_1 l0_1.length c0_1) := (blk_cell BK269.out 1).trans rfl; have hfz36_0 := blk_frozen BK269.out 0; have hfz36_1 := blk_frozen BK269.out 1; have p285 : 0 ≤ ((rd x10_1 (ji16)) : Int) := D_; have q285 : (rd x10_1 (ji16)) < (l0_1.length : Int) := D_; obtain ⟨ad285, A285_0, c285_0, e285, hx285_0, hl285_0, hi285_0⟩ := at_L1 HR0_1.out (rd x10_1 (ji16)) p285 q285; cases e285; replace hx285_0 := (HB.out.cell (World.block_lt_of_cell? w _ hx285_0)).trans hx285_0; have HR285_0 := Aside0.mk hi285_0; have HC285_0 := Aside0.mk hl285_0; clear hi285_0 hl285_0; replace p285 := eq_true p285; replace q285 := eq_true q285) | ((with_reducible refine gate_builtin (b := .append) (xs := #[.tmp 44, .tmp 49]) rfl ?_); at_builtin; refine Kd.R_append_rows (Kd.int .i64) (w0 := w) w.heap.size rfl (.tmp 44) (.tmp 49) 31 3 (.int .i64 0) 8 rfl Try.underlying31 info3 rfl (by decide) (by omega) (.slice (some ad278) y279.length co31) y279 (rd_L1 l0_1 (rd x10_1 (ji16))) _ _ _ (fun _ => True) (fun _ => False) rfl rfl ?aO ?aR (fun _ _ h => h) (fun _ h => h.elim) ?aF ?aB ?aS ?aL ?_; (case aR => exact CX_ (Kd.C_below HR285_0.out HB.out)); (case aB => exact (B1_)); (case aF => exact (fun _ _ => trivial)); (case aO => exact (by exact RX_ HO281.out)); (case aS => exact (below_size (B1_))); (case aL => have := LMc30.out; omega); intro v287 w37 ho hb hg hat; rw [← Ny286.out] at ho; have n0_ := Aside0.mk (Kd.R_over' (by exact RX_ HO_9.out) (Kd.R_typed (by exact RX_ HO281.out)) (by decide) hg); have n1_ := Aside0.mk (blk_grown (g := gb269) (o := .cells #[.slice A0_0 l0_0.length c0_0, .slice (some ad285) l0_1.length c0_1] 26 (0, 0)) (by exact KX_ BK269.out) hg (Kd.R_ne HO281.out BK269.out (by decide))); have n2_ := Aside0.mk (hb); have n3_ := Aside0.mk (ho); clear HO_9; clear BK269; clear HB; clear HO281; have HO_9 := n0_; have BK269 := n1_; have HB := n2_; have HO288 := n3_; clear n0_ n1_ n2_ n3_; clear ho hb hg hat))
             go_step3
             try simp only [jumpg_goto, Exit.then, Exit.inBlock]
             go_step
             go_roundg k1
             case measure => have := HK1.out; omega
             case rel => exact ⟨(y284), (y286), H', ⟨by have := HK1.out; omega⟩, ⟨by exact RM_ HO_9.out⟩, ⟨by exact RM_ HO288.out⟩, ⟨by exact KX_ BK269.out⟩, ⟨B1_⟩⟩
            rw [if_neg c30] at H
            exact absurd H (by simp)
           rw [if_neg c29] at H
           exact absurd H (by simp)
          replace c27 := Bool.eq_false_iff.mpr c27
          subst c27
          have H1 : (loop_body.l0 k1 l1 x9_1 y279 l0_0 l0_1) = some r := by rw [if_neg (show ¬ (false = true) by decide)] at H; exact H
          clear H
          have H := H1
          clear H1
          have H' := Aside0.mk H
          clear H
          obtain ⟨Ao38, co38, eo38⟩ := Kd.R_slice HO_10.out
          subst eo38
          have p278 : 0 ≤ ((ji16) : Int) := D_
          have q278 : (ji16) < (x10_1.length : Int) := D_
          obtain ⟨ad278, e278, hx278_0⟩ := Kd.at_int (Kd.R_reads' HO_10.out).2.2 (ji16) p278 q278
          cases e278
          replace p278 := eq_true p278
          replace q278 := eq_true q278
          have q39 : ((ji16) : Int) ≤ ((x10_1.length : Int) : Int) := D_
          obtain ⟨i039, hi039, _, hsz39, _⟩ := info_parts info3
          have hcut39 := cut_to (P := Try.prog) 31 3 .i64 Try.underlying31 hi039 (some ad278) x10_1.length co38 (ji16) (D_) q39 (Kd.R_reads' HO_10.out).2.1
          have hr39 := Kd.R_take (m := ((ji16) : Int).toNat) HO_10.out (by omega)
          have hy39 : y279.length = ((ji16) : Int).toNat := (by rw [Ny279.out, List.length_take]; omega)
          rw [← Ny279.out] at hr39
          rw [← hy39] at hr39 hcut39
          clear hy39 hi039 hsz39 HO_10
          have HO281 := Aside0.mk hr39
          clear hr39
          replace q39 := eq_true q39
          have p282 : 0 ≤ ((rd x10_1 (ji16)) : Int) := D_
          have ql282 : (((rd x10_1 (ji16)) : Int) < (64 : Int)) = True := eq_true (D_)
          have q282 : (rd x10_1 (ji16)) < (x9_1.length : Int) := (by have h_ : ((rd x10_1 (ji16)) : Int) < (64 : Int) := D_; have e_ := (Kd.R_reads' HO_9.out).1; omega)
          obtain ⟨ad282, e282, hx282_0⟩ := Kd.at_bool (Kd.R_reads' HO_9.out).2.2 (rd x10_1 (ji16)) p282 q282
          (try rw [← Nbq22.out] at hx282_0)
          obtain rfl : (⟨goA273, 0, none⟩ : Addr) = ad282 := (by injection e282)
          (first | simp only [add_plain] at hx282_0 | simp only [add_at] at hx282_0 | simp only [Addr.add, Nat.zero_add] at hx282_0 | skip)
          replace p282 := eq_true p282
          replace q282 := eq_true q282
          go_wp2_with (first | (go_at_call 15; (with_reducible refine (dom_Over.calls k1 _ _ l1 (rd x10_1 (ji16)) (rd x10_1 (ji16)) false _ ?side1 ?side2 A26.out).mono ?_); (case side1 => exact CX_ (Kd.C_below HR1.out HB.out)); (case side2 => exact HC1.out); rintro e w40 ⟨rfl, hb⟩; have n0_ := Aside0.mk (Kd.R_below (by exact RX_ HO_9.out) hb); have n1_ := Aside0.mk (Kd.R_below (by exact RX_ HO281.out) hb); have n2_ := Aside0.mk (blk_below (g := gb269) (o := .cells #[.slice A0_0 l0_0.length c0_0, .slice A0_1 l0_1.length c0_1] 26 (0, 0)) (by exact KX_ BK269.out) hb); have n3_ := Aside0.mk (below_step (B1_) hb); clear HO_9; clear HO281; clear BK269; clear HB; have HO_9 := n0_; have HO281 := n1_; have BK269 := n2_; have HB := n3_; clear n0_ n1_ n2_ n3_; (try clear hb); (try clear hb2); (try clear hk); (try clear hi)))
          go_step3
          try simp only [jumpg_goto, Exit.then, Exit.inBlock]
          go_step
          go_roundg k1
          case measure => have := HK1.out; omega
          case rel => exact ⟨(x9_1), (y279), H', ⟨by have := HK1.out; omega⟩, ⟨by exact RM_ HO_9.out⟩, ⟨by exact RM_ HO281.out⟩, ⟨by exact KX_ BK269.out⟩, ⟨B1_⟩⟩
         rw [if_neg c21] at H
         exact absurd H (by simp)
        rw [if_neg c20] at H
        exact absurd H (by simp)
       rw [if_neg c19] at H
       exact absurd H (by simp)
      rw [if_neg c18] at H
      exact absurd H (by simp)
     rw [if_neg c17] at H
     exact absurd H (by simp)
    rw [if_neg c15] at H
    have c15b0 : decide (0 < (x10_1.length : Int)) = false := decide_eq_false c15
    have c15b1 : decide (0 < x10_1.length) = false := decide_eq_false (by omega)
    clear c15
    have H' := Aside0.mk H
    clear H
    obtain ⟨Ao41, co41, eo41⟩ := Kd.R_slice HO_10.out
    subst eo41
    have hcz42_0 : wr.cell? ⟨gb269, 0, none⟩ = some (.slice A0_0 l0_0.length c0_0) := (blk_cell BK269.out 0).trans rfl
    have hcz42_1 : wr.cell? ⟨gb269, 1, none⟩ = some (.slice A0_1 l0_1.length c0_1) := (blk_cell BK269.out 1).trans rfl
    have hfz42_0 := blk_frozen BK269.out 0
    have hfz42_1 := blk_frozen BK269.out 1
    go_wp2
    go_loopg [12, 54] k1 (fun kq v12 v54 w' => ∃ (x12_2 : List Int) (x54_2 : Int), v54 = .int .i64 x54_2 ∧ Aside0 (loop_body.l1 kq x9_1 x12_2 (l0_0.length : Int) x54_2 = some r) ∧ Aside0 (kq ≤ k1) ∧ Aside0 (Kd.R Kd.bool 63 w' w.heap.size (fun _ => True) (.slice (some ⟨goA273, 0, none⟩) 64 64) x9_1) ∧ Aside0 (Kd.R (Kd.int .i64) 3 w' w.heap.size (fun _ => True) v12 x12_2) ∧ Aside0 (w'.heap[gb269]? = some (.cells #[(.slice A0_0 l0_0.length c0_0), (.slice A0_1 l0_1.length c0_1)] 26 (0, 0))) ∧ Aside0 (Below w.heap.size w w'))
    case atStart => exact ⟨(([] : List Int)), (0), (by first | rfl | (simp; done) | (simp [*]; done)), H', ⟨Nat.le_refl _⟩, ⟨by exact RM_ HO_9.out⟩, ⟨by first | exact Kd.R_nil _ _ _ _ _ | exact Kd.N_nil _ _ _ _ _ | exact Kd.V_nil _ _ _ _ _ | exact Kd.Q_nil _ _ _ _ _ | exact Kd.S_nil _ _ _ _ _⟩, ⟨by exact KX_ BK269.out⟩, ⟨B1_⟩⟩
    case round =>
     clear H'
     try clear c15b0
     try clear c15b1
     try clear hcz42_0
     try clear hcz42_1
     try clear hfz42_0
     try clear hfz42_1
     obtain ⟨x12_2, x54_2, rfl, HA, HK2, HO_9, HO_12, BK269, HB⟩ := hrel
     cases gk with
     | zero => exact absurd HA.out (by simp [loop_body.l1])
     | succ k2 =>
      have H := HA.out
      clear HA
      simp only [loop_body.l1] at H
      by_cases c43 : x54_2 < (l0_0.length : Int)
      ·rw [if_pos c43] at H
       have c43b0 : decide (x54_2 < (l0_0.length : Int)) = true := decide_eq_true c43
       clear c43
       by_cases c44 : 0 ≤ x54_2
       ·rw [if_pos c44] at H
        have c44b0 : decide (0 ≤ x54_2) = true := decide_eq_true c44
        clear c44
        by_cases c45 : x54_2 < 64
        ·rw [if_pos c45] at H
         have c45b0 : decide (x54_2 < 64) = true := decide_eq_true c45
         clear c45
         obtain ⟨bq46, hbq46⟩ : ∃ b_ : Bool, b_ = (rdOf false x9_1 x54_2) := ⟨_, rfl⟩
         replace H : (if bq46 = true then (if x12_2.length < 17592186044416 then (loop_body.l1 k2 x9_1 (x12_2 ++ [x54_2]) (l0_0.length : Int) (wrap64 (x54_2 + 1))) else (none)) else (loop_body.l1 k2 x9_1 x12_2 (l0_0.length : Int) (wrap64 (x54_2 + 1)))) = some r := by rw [← hbq46] at H; exact H
         have Nbq46 := Aside0.mk hbq46
         clear hbq46
         by_cases c47 : bq46 = true
         ·subst c47
          have H1 : (if x12_2.length < 17592186044416 then (loop_body.l1 k2 x9_1 (x12_2 ++ [x54_2]) (l0_0.length : Int) (wrap64 (x54_2 + 1))) else (none)) = some r := by rw [if_pos rfl] at H; exact H
          clear H
          have H := H1
          clear H1
          by_cases c48 : x12_2.length < 17592186044416
          ·rw [if_pos c48] at H
           have LMc48 := Aside0.mk c48
           clear c48
           obtain ⟨y290, hy290⟩ : ∃ y_ : List Int, y_ = (x12_2 ++ [x54_2]) := ⟨_, rfl⟩
           replace H : (loop_body.l1 k2 x9_1 y290 (l0_0.length : Int) (wrap64 (x54_2 + 1))) = some r := by first | (rw [hy290]; with_reducible exact H) | (have H2_ := (Option.bind_some _ _).symm.trans H; rw [hy290]; with_reducible exact H2_) | (have H2_ := (Option.bind_some _ _).symm.trans H; with_reducible exact H2_) | with_reducible exact H | (rw [hy290]; exact H) | exact H
           have Ny290 := Aside0.mk hy290
           clear hy290
           have H' := Aside0.mk H
           clear H
           have p289 : 0 ≤ (x54_2 : Int) := D_
           have ql289 : ((x54_2 : Int) < (64 : Int)) = True := eq_true (D_)
           have q289 : x54_2 < (x9_1.length : Int) := (by have h_ : (x54_2 : Int) < (64 : Int) := D_; have e_ := (Kd.R_reads' HO_9.out).1; omega)
           obtain ⟨ad289, e289, hx289_0⟩ := Kd.at_bool (Kd.R_reads' HO_9.out).2.2 x54_2 p289 q289
           (try rw [← Nbq46.out] at hx289_0)
           obtain rfl : (⟨goA273, 0, none⟩ : Addr) = ad289 := (by injection e289)
           (first | simp only [add_plain] at hx289_0 | simp only [add_at] at hx289_0 | simp only [Addr.add, Nat.zero_add] at hx289_0 | skip)
           replace p289 := eq_true p289
           replace q289 := eq_true q289
           go_wp2_with (first | ((with_reducible refine gate_builtin (b := .append) (xs := #[.tmp 60, .tmp 62]) rfl ?_); at_builtin; refine Kd.R_append (Kd.int .i64) (w0 := w) w.heap.size rfl (.tmp 60) (.tmp 62) 31 3 (.int .i64 0) 8 rfl Try.underlying31 info3 rfl (by decide) (by omega) u12 x12_2 x54_2 [.int .i64 x54_2] (fun _ => True) (fun _ => False) rfl rfl ?aP (fun _ hk => hk.elim) ?aF ?aO ?aB ?aS ?aL ?_; (case aP => exact rfl); (case aB => exact (B1_)); (case aF => exact (fun _ _ => trivial)); (case aO => exact (by exact RX_ HO_12.out)); (case aS => exact (below_size (B1_))); (case aL => have := LMc48.out; omega); intro v291 w49 ho hb hg hat; rw [← Ny290.out] at ho; have n0_ := Aside0.mk (Kd.R_over' (by exact RX_ HO_9.out) (Kd.R_typed (by exact RX_ HO_12.out)) (by decide) hg); have n1_ := Aside0.mk (blk_grown (g := gb269) (o := .cells #[.slice A0_0 l0_0.length c0_0, .slice A0_1 l0_1.length c0_1] 26 (0, 0)) (by exact KX_ BK269.out) hg (Kd.R_ne HO_12.out BK269.out (by decide))); have n2_ := Aside0.mk (hb); have n3_ := Aside0.mk (ho); clear HO_9; clear BK269; clear HB; clear HO_12; have HO_9 := n0_; have BK269 := n1_; have HB := n2_; have HO292 := n3_; clear n0_ n1_ n2_ n3_; clear ho hb hg hat))
           go_roundg k2
           case measure => have := HK1.out; have := HK2.out; omega
           case rel => exact ⟨(y290), (wrap64 (x54_2 + 1)), (by first | rfl | (simp; done) | (simp [*]; done)), H', ⟨by have := HK1.out; have := HK2.out; omega⟩, ⟨by exact RM_ HO_9.out⟩, ⟨by exact RM_ HO292.out⟩, ⟨by exact KX_ BK269.out⟩, ⟨B1_⟩⟩
          rw [if_neg c48] at H
          exact absurd H (by simp)
         replace c47 := Bool.eq_false_iff.mpr c47
         subst c47
         have H1 : (loop_body.l1 k2 x9_1 x12_2 (l0_0.length : Int) (wrap64 (x54_2 + 1))) = some r := by rw [if_neg (show ¬ (false = true) by decide)] at H; exact H
         clear H
         have H := H1
         clear H1
         have H' := Aside0.mk H
         clear H
         have p289 : 0 ≤ (x54_2 : Int) := D_
         have ql289 : ((x54_2 : Int) < (64 : Int)) = True := eq_true (D_)
         have q289 : x54_2 < (x9_1.length : Int) := (by have h_ : (x54_2 : Int) < (64 : Int) := D_; have e_ := (Kd.R_reads' HO_9.out).1; omega)
         obtain ⟨ad289, e289, hx289_0⟩ := Kd.at_bool (Kd.R_reads' HO_9.out).2.2 x54_2 p289 q289
         (try rw [← Nbq46.out] at hx289_0)
         obtain rfl : (⟨goA273, 0, none⟩ : Addr) = ad289 := (by injection e289)
         (first | simp only [add_plain] at hx289_0 | simp only [add_at] at hx289_0 | simp only [Addr.add, Nat.zero_add] at hx289_0 | skip)
         replace p289 := eq_true p289
         replace q289 := eq_true q289
         go_wp2
         go_roundg k2
         case measure => have := HK1.out; have := HK2.out; omega
         case rel => exact ⟨(x12_2), (wrap64 (x54_2 + 1)), (by first | rfl | (simp; done) | (simp [*]; done)), H', ⟨by have := HK1.out; have := HK2.out; omega⟩, ⟨by exact RM_ HO_9.out⟩, ⟨by exact RM_ HO_12.out⟩, ⟨by exact KX_ BK269.out⟩, ⟨B1_⟩⟩
        rw [if_neg c45] at H
        exact absurd H (by simp)
       rw [if_neg c44] at H
       exact absurd H (by simp)
      rw [if_neg c43] at H
      have c43b0 : decide (x54_2 < (l0_0.length : Int)) = false := decide_eq_false c43
      clear c43
      obtain rfl := Option.some.inj H
      go_wp2
      (try simp only [jumpg_ret, Exit.then, Exit.inBlock])
      go_ret
      exact ⟨_, by first | rfl | (simp [errW_none, errW_some] <;> rfl) | (simp [*, errW_none, errW_some] <;> rfl), by exact RX_ HO_12.out, B1_⟩
  rw [if_neg c7] at H
  exact absurd H (by simp)
 rw [if_neg c6] at H
 exact absurd H (by simp)

end Go.Proofs.Ytoekeknfeinphaa.G
