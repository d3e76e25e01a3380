/- Printed by a program of this session (wip/tools/op.py, over the kit's print program): Go functions as plain Lean functions, each with a proof that the call answers so. Conditions: each theorem's own. -/
import Derived.Test.YtheillkpgmpnlaaHSort
import Derived.Test.YtheillkpgmpnlaaSrf
import Derived.Test.YtheillkpgmpnlaaGx0
import Derived.Test.YtheillkpgmpnlaaGx21
import Derived.Test.YtheillkpgmpnlaaGx22
import Derived.Test.YtheillkpgmpnlaaGx23
namespace Go.Proofs.Ytheillkpgmpnlaa.G
open Go.Proofs.YtheillkpgmpnlaaH
open Go.RowKit Go.Proofs.YtheillkpgmpnlaaW.PrintWords Go.Proofs.YtheillkpgmpnlaaW.PrintLast Go.Proofs.YtheillkpgmpnlaaW.PrintMore
attribute [local go_sem] max2_int min2_int max_two min_two max_three min_three max_four min_four   -- for this text's walks alone
set_option linter.unusedVariables false
set_option linter.unusedSimpArgs false

/-! ### api_Dep_dep_compare: function 9000685 -/
-- needs HSort
-- needs Srf
set_option maxHeartbeats 8000000 in
set_option maxRecDepth 100000 in
theorem dep_compare.lays (k : Nat) (a0_0 : Int) (a0_1 : Int) (a0_2 : Int) (a1_0 : Int) (a1_1 : Int) (a1_2 : Int) (r : Int) (w : World) (h : dep_compare.f k a0_0 a0_1 a0_2 a1_0 a1_1 a1_2 = some r) :
 Calls Try.prog 25 #[.agg #[.int .i64 a0_0, .int .i64 a0_1, .int .i64 a0_2], .agg #[.int .i64 a1_0, .int .i64 a1_1, .int .i64 a1_2]] w fun e w' => e = .returned (.int .i64 r) ∧ Gn w w' := by
 have hu37 := Try.underlying37
 have HB := A_ (Below.refl w.heap.size w)
 have HG := A_ (Gn.refl w)
 have H : ((cmp_Compare_int.f a0_0 a1_0).bind fun t279 => ((cmp_Compare_int.f a0_1 a1_1).bind fun t280 => ((cmp_Compare_int.f a0_2 a1_2).bind fun t281 => ((cmp_Or_int.f k (([t279, t280, t281] : List Int))).bind fun t285 => (some t285))))) = some r := h
 clear h
 replace H := Option.bind_eq_some_iff.mp H
 obtain ⟨t279, A30, H⟩ := H
 try dsimp only at H
 have A3 := Aside0.mk A30
 clear A30
 replace H := Option.bind_eq_some_iff.mp H
 obtain ⟨t280, A40, H⟩ := H
 try dsimp only at H
 have A4 := Aside0.mk A40
 clear A40
 replace H := Option.bind_eq_some_iff.mp H
 obtain ⟨t281, A50, H⟩ := H
 try dsimp only at H
 have A5 := Aside0.mk A50
 clear A50
 obtain ⟨y282, hy282⟩ : ∃ y_ : List Int, y_ = (([t279, t280, t281] : List Int)) := ⟨_, rfl⟩
 replace H : ((cmp_Or_int.f k y282).bind fun t285 => (some t285)) = some r := by first | (rw [hy282]; with_reducible exact H) | (have H2_ := (Option.bind_some _ _).symm.trans H; rw [hy282]; with_reducible exact H2_) | (have H2_ := (Option.bind_some _ _).symm.trans H; with_reducible exact H2_) | with_reducible exact H | (rw [hy282]; exact H) | exact H
 have Ny282 := Aside0.mk hy282
 clear hy282
 replace H := Option.bind_eq_some_iff.mp H
 obtain ⟨t285, A60, H⟩ := H
 try dsimp only at H
 have A6 := Aside0.mk A60
 clear A60
 obtain rfl := Option.some.inj H
 go_enter Try.func25, Try.ntmps25
 try go_wp2_with (first | ((with_reducible refine gate_dst (N := 2) rfl ?_); refine box_eventD ?hg (N := 2) ?hd (cs := #[.int .i64 a0_0, .int .i64 a0_1, .int .i64 a0_2]) (t := 37) ?hr ?_; (case hd => rfl); (case hg => rfl); (case hr => first | (go_simp; done) | (go_simp; rfl)); intro gb277 hg w7 hbox hb hgn; replace HG := A_ (HG.out.trans hgn); clear hgn; have BK277 := A_ (hbox); have GW277 := A_ ((by rw [hg]; exact (below_size (B_)) : w.heap.size ≤ gb277)); have GE277 := A_ ((by rw [hg]; exact (below_size (B_)) : w.heap.size ≤ gb277)); replace HB := A_ (below_step (B_) hb); clear hb hbox hg) | ((with_reducible refine gate_dst (N := 3) rfl ?_); refine box_eventD ?hg (N := 3) ?hd (cs := #[.int .i64 a1_0, .int .i64 a1_1, .int .i64 a1_2]) (t := 37) ?hr ?_; (case hd => rfl); (case hg => rfl); (case hr => first | (go_simp; done) | (go_simp; rfl)); intro gb278 hg w8 hbox hb hgn; replace HG := A_ (HG.out.trans hgn); clear hgn; have BK278 := A_ (hbox); have GW278 := A_ ((by rw [hg]; exact (below_size (B1_)) : w.heap.size ≤ gb278)); have GE278 := A_ ((by rw [hg]; exact (below_size (B1_)) : w.heap.size ≤ gb278)); replace HB := A_ (below_step (B1_) hb); have NB277_278 := A_ ((by rw [hg]; exact Nat.ne_of_lt (blk_lt (g := gb277) (o := .cells #[.int .i64 a0_0, .int .i64 a0_1, .int .i64 a0_2] 37 (0, 0)) (by exact KX_ BK277.out)) : gb277 ≠ gb278)); have NB278_277 := A_ ((by rw [hg]; exact Nat.ne_of_gt (blk_lt (g := gb277) (o := .cells #[.int .i64 a0_0, .int .i64 a0_1, .int .i64 a0_2] 37 (0, 0)) (by exact KX_ BK277.out)) : gb278 ≠ gb277)); replace BK277 := A_ (blk_below (g := gb277) (o := .cells #[.int .i64 a0_0, .int .i64 a0_1, .int .i64 a0_2] 37 (0, 0)) (by exact KX_ BK277.out) hb); clear hb hbox hg))
 have n0_ := A_ (blk_drew BK277.out)
 have n1_ := A_ (blk_drew BK278.out)
 have n2_ := A_ (below_drew1 HB.out)
 replace HG := A_ (HG.out.drew)
 clear BK277
 clear BK278
 clear HB
 have BK277 := n0_
 have BK278 := n1_
 have HB := n2_
 clear n0_ n1_ n2_
 refine start_ (n := 18) (S := fun w' => w'.cell? ⟨gb277, 0, none⟩ = some (.int .i64 a0_0) ∧ w'.cell? ⟨gb277, 1, none⟩ = some (.int .i64 a0_1) ∧ w'.cell? ⟨gb277, 2, none⟩ = some (.int .i64 a0_2) ∧ w'.cell? ⟨gb278, 0, none⟩ = some (.int .i64 a1_0) ∧ w'.cell? ⟨gb278, 1, none⟩ = some (.int .i64 a1_1) ∧ w'.cell? ⟨gb278, 2, none⟩ = some (.int .i64 a1_2)) (ds := []) #[false, false, false, false, false, false, false, false, false, false, false, false, false, false, false, false, false, false] (by kernel_rfl) rfl rfl ⟨(blk_cell BK277.out 0).trans rfl, (blk_cell BK277.out 1).trans rfl, (blk_cell BK277.out 2).trans rfl, (blk_cell BK278.out 0).trans rfl, (blk_cell BK278.out 1).trans rfl, (blk_cell BK278.out 2).trans rfl⟩ (fun hHeld => ?_); refine with_tabW dep_compare.tab1 dep_compare.bits1 (fun HT_ HW_ => ?_)
 generalize w8.drew = w9 at BK277 BK278 HB HG hHeld ⊢
 refine pure_ (i := 0) (N := some 5) (v := ?_) (a' := ?_) #[true, false, false, false, false, false, false, false, false, false, false, false, false, false, false, false, false, false] rfl rfl (any_of HT_.out (by kernel_rfl)) (fun _ _ _ h => h) (Or.inl ⟨by rfl, ?_⟩) ?_ ?_
 rotate_left
 ·intro w'
  go_simp
  with_reducible rfl
 rotate_left
 ·exact P_
 refine pure_ (i := 2) (N := some 7) (v := ?_) (a' := ?_) #[true, false, true, false, false, false, false, false, false, false, false, false, false, false, false, false, false, false] rfl rfl (any_of HT_.out (by kernel_rfl)) (fun _ _ _ h => h) (Or.inl ⟨by rfl, ?_⟩) ?_ ?_
 rotate_left
 ·intro w'
  go_simp
  with_reducible rfl
 rotate_left
 ·exact P_
 refine pure_ (i := 5) (N := some 10) (v := ?_) (a' := ?_) #[true, false, true, false, false, true, false, false, false, false, false, false, false, false, false, false, false, false] rfl rfl (any_of HT_.out (by kernel_rfl)) (fun _ _ _ h => h) (Or.inl ⟨by rfl, ?_⟩) ?_ ?_
 rotate_left
 ·intro w'
  go_simp
  with_reducible rfl
 rotate_left
 ·exact P_
 refine pure_ (i := 7) (N := some 12) (v := ?_) (a' := ?_) #[true, false, true, false, false, true, false, true, false, false, false, false, false, false, false, false, false, false] rfl rfl (any_of HT_.out (by kernel_rfl)) (fun _ _ _ h => h) (Or.inl ⟨by rfl, ?_⟩) ?_ ?_
 rotate_left
 ·intro w'
  go_simp
  with_reducible rfl
 rotate_left
 ·exact P_
 refine pure_ (i := 10) (N := some 15) (v := ?_) (a' := ?_) #[true, false, true, false, false, true, false, true, false, false, true, false, false, false, false, false, false, false] rfl rfl (any_of HT_.out (by kernel_rfl)) (fun _ _ _ h => h) (Or.inl ⟨by rfl, ?_⟩) ?_ ?_
 rotate_left
 ·intro w'
  go_simp
  with_reducible rfl
 rotate_left
 ·exact P_
 refine pure_ (i := 12) (N := some 17) (v := ?_) (a' := ?_) #[true, false, true, false, false, true, false, true, false, false, true, false, true, false, false, false, false, false] rfl rfl (any_of HT_.out (by kernel_rfl)) (fun _ _ _ h => h) (Or.inl ⟨by rfl, ?_⟩) ?_ ?_
 rotate_left
 ·intro w'
  go_simp
  with_reducible rfl
 rotate_left
 ·exact P_
 refine take_ (i := 1) (N := some 6) (v := ?_) (a' := ?_) #[true, true, true, false, false, true, false, true, false, false, true, false, true, false, false, false, false, false] rfl rfl (take_ofW HT_.out HW_.out (by kernel_rfl)) (fun _ _ _ h => h) (Or.inl ⟨by rfl, ?_⟩) hHeld ?_ ?_
 rotate_left
 ·rintro w' ⟨s0, s1, s2, s3, s4, s5⟩
  go_simp
  with_reducible rfl
 rotate_left
 ·exact P_
 refine take_ (i := 3) (N := some 8) (v := ?_) (a' := ?_) #[true, true, true, true, false, true, false, true, false, false, true, false, true, false, false, false, false, false] rfl rfl (take_ofW HT_.out HW_.out (by kernel_rfl)) (fun _ _ _ h => h) (Or.inl ⟨by rfl, ?_⟩) hHeld ?_ ?_
 rotate_left
 ·rintro w' ⟨s0, s1, s2, s3, s4, s5⟩
  go_simp
  with_reducible rfl
 rotate_left
 ·exact P_
 refine take_ (i := 6) (N := some 11) (v := ?_) (a' := ?_) #[true, true, true, true, false, true, true, true, false, false, true, false, true, false, false, false, false, false] rfl rfl (take_ofW HT_.out HW_.out (by kernel_rfl)) (fun _ _ _ h => h) (Or.inl ⟨by rfl, ?_⟩) hHeld ?_ ?_
 rotate_left
 ·rintro w' ⟨s0, s1, s2, s3, s4, s5⟩
  go_simp
  with_reducible rfl
 rotate_left
 ·exact P_
 refine take_ (i := 8) (N := some 13) (v := ?_) (a' := ?_) #[true, true, true, true, false, true, true, true, true, false, true, false, true, false, false, false, false, false] rfl rfl (take_ofW HT_.out HW_.out (by kernel_rfl)) (fun _ _ _ h => h) (Or.inl ⟨by rfl, ?_⟩) hHeld ?_ ?_
 rotate_left
 ·rintro w' ⟨s0, s1, s2, s3, s4, s5⟩
  go_simp
  with_reducible rfl
 rotate_left
 ·exact P_
 refine take_ (i := 11) (N := some 16) (v := ?_) (a' := ?_) #[true, true, true, true, false, true, true, true, true, false, true, true, true, false, false, false, false, false] rfl rfl (take_ofW HT_.out HW_.out (by kernel_rfl)) (fun _ _ _ h => h) (Or.inl ⟨by rfl, ?_⟩) hHeld ?_ ?_
 rotate_left
 ·rintro w' ⟨s0, s1, s2, s3, s4, s5⟩
  go_simp
  with_reducible rfl
 rotate_left
 ·exact P_
 refine take_ (i := 13) (N := some 18) (v := ?_) (a' := ?_) #[true, true, true, true, false, true, true, true, true, false, true, true, true, true, false, false, false, false] rfl rfl (take_ofW HT_.out HW_.out (by kernel_rfl)) (fun _ _ _ h => h) (Or.inl ⟨by rfl, ?_⟩) hHeld ?_ ?_
 rotate_left
 ·rintro w' ⟨s0, s1, s2, s3, s4, s5⟩
  go_simp
  with_reducible rfl
 rotate_left
 ·exact P_
 refine one_ (i := 4) (N := some 9) #[true, true, true, true, true, true, true, true, true, false, true, true, true, true, false, false, false, false] rfl rfl (one_of HT_.out (by kernel_rfl)) (by decide) (fun K hK => ?_)
 refine goes_ Try.func49 (by kernel_rfl) rfl #[.int .i64 a0_0, .int .i64 a1_0] (by rfl) rfl rfl (by (try simp only [List.map_toArray, List.map_cons, List.map_nil]); first | done | rfl | (simp only [List.length_drop, List.length_take]; rfl)) ?_
 with_reducible refine (cmp_Compare_int.calls a0_0 a1_0 t279 _ A3.out).mono ?_
 rintro e w' ⟨rfl, ⟨nd, rfl⟩⟩
 replace HG := A_ (HG.out.drewN nd)
 refine ⟨_, rfl, ?_⟩
 refine hK.out _ _ ⟨(blk_cell BK277.out 0).trans rfl, (blk_cell BK277.out 1).trans rfl, (blk_cell BK277.out 2).trans rfl, (blk_cell BK278.out 0).trans rfl, (blk_cell BK278.out 1).trans rfl, (blk_cell BK278.out 2).trans rfl⟩ (fun hHeld => ?_)
 clear hK K
 refine norm_ (a' := ?_) ?_ ?_
 rotate_left
 ·show Act.put _ (some 9) _ = _
  simp only [Act.put, List.setIfInBounds_toArray, List.set_cons_zero, List.set_cons_succ, i64_w, i32_w]
  rfl
 refine one_ (i := 9) (N := some 14) #[true, true, true, true, true, true, true, true, true, true, true, true, true, true, false, false, false, false] rfl rfl (one_of HT_.out (by kernel_rfl)) (by decide) (fun K hK => ?_)
 refine goes_ Try.func49 (by kernel_rfl) rfl #[.int .i64 a0_1, .int .i64 a1_1] (by rfl) rfl rfl (by (try simp only [List.map_toArray, List.map_cons, List.map_nil]); first | done | rfl | (simp only [List.length_drop, List.length_take]; rfl)) ?_
 with_reducible refine (cmp_Compare_int.calls a0_1 a1_1 t280 _ A4.out).mono ?_
 rintro e w' ⟨rfl, ⟨nd, rfl⟩⟩
 replace HG := A_ (HG.out.drewN nd)
 refine ⟨_, rfl, ?_⟩
 refine hK.out _ _ ⟨(blk_cell BK277.out 0).trans rfl, (blk_cell BK277.out 1).trans rfl, (blk_cell BK277.out 2).trans rfl, (blk_cell BK278.out 0).trans rfl, (blk_cell BK278.out 1).trans rfl, (blk_cell BK278.out 2).trans rfl⟩ (fun hHeld => ?_)
 clear hK K
 refine norm_ (a' := ?_) ?_ ?_
 rotate_left
 ·show Act.put _ (some 14) _ = _
  simp only [Act.put, List.setIfInBounds_toArray, List.set_cons_zero, List.set_cons_succ, i64_w, i32_w]
  rfl
 refine one_ (i := 14) (N := some 19) #[true, true, true, true, true, true, true, true, true, true, true, true, true, true, true, false, false, false] rfl rfl (one_of HT_.out (by kernel_rfl)) (by decide) (fun K hK => ?_)
 refine goes_ Try.func49 (by kernel_rfl) rfl #[.int .i64 a0_2, .int .i64 a1_2] (by rfl) rfl rfl (by (try simp only [List.map_toArray, List.map_cons, List.map_nil]); first | done | rfl | (simp only [List.length_drop, List.length_take]; rfl)) ?_
 with_reducible refine (cmp_Compare_int.calls a0_2 a1_2 t281 _ A5.out).mono ?_
 rintro e w' ⟨rfl, ⟨nd, rfl⟩⟩
 replace HG := A_ (HG.out.drewN nd)
 refine ⟨_, rfl, ?_⟩
 refine hK.out _ _ ⟨(blk_cell BK277.out 0).trans rfl, (blk_cell BK277.out 1).trans rfl, (blk_cell BK277.out 2).trans rfl, (blk_cell BK278.out 0).trans rfl, (blk_cell BK278.out 1).trans rfl, (blk_cell BK278.out 2).trans rfl⟩ (fun hHeld => ?_)
 clear hK K
 refine norm_ (a' := ?_) ?_ ?_
 rotate_left
 ·show Act.put _ (some 19) _ = _
  simp only [Act.put, List.setIfInBounds_toArray, List.set_cons_zero, List.set_cons_succ, i64_w, i32_w]
  rfl
 refine one_ (i := 15) (N := some 20) #[true, true, true, true, true, true, true, true, true, true, true, true, true, true, true, true, false, false] rfl rfl (one_of HT_.out (by kernel_rfl)) (by decide) (fun K hK => ?_)
 refine lit_stepD ?hg (N := 20) ?hd [t279, t280, t281] ?hr ?_; (case hd => rfl); (case hg => rfl); (case hr => first | (go_simp; done) | (go_simp; rfl))
 intro v283 w10 ho11 hb hgn
 replace HG := A_ (HG.out.trans hgn)
 clear hgn
 (first | rw [← Ny282.out] at ho11 | (simp only [Int.reduceToNat] at ho11; rw [← Ny282.out] at ho11))
 have n0_ := A_ (Kd.R_lower ho11 (below_size (B1_)))
 have n1_ := A_ (blk_below (g := gb277) (o := .cells #[.int .i64 a0_0, .int .i64 a0_1, .int .i64 a0_2] 37 (0, 0)) (by exact KX_ BK277.out) hb)
 have n2_ := A_ (blk_below (g := gb278) (o := .cells #[.int .i64 a1_0, .int .i64 a1_1, .int .i64 a1_2] 37 (0, 0)) (by exact KX_ BK278.out) hb)
 have n3_ := A_ (below_step (B1_) hb)
 clear BK277
 clear BK278
 clear HB
 have HO284 := n0_
 have BK277 := n1_
 have BK278 := n2_
 have HB := n3_
 clear n0_ n1_ n2_ n3_
 clear hb ho11
 obtain ⟨Ao12, co12, eo12⟩ := Kd.R_slice HO284.out
 (first | subst eo12 | (injection eo12 with f1_ f2_ f3_; have f4_ := f1_.symm; have f5_ := f3_.symm; clear f1_ f2_ f3_; subst f4_; subst f5_))
 refine hK.out _ _ ⟨(blk_cell BK277.out 0).trans rfl, (blk_cell BK277.out 1).trans rfl, (blk_cell BK277.out 2).trans rfl, (blk_cell BK278.out 0).trans rfl, (blk_cell BK278.out 1).trans rfl, (blk_cell BK278.out 2).trans rfl⟩ (fun hHeld => ?_)
 clear hK K
 refine norm_ (a' := ?_) ?_ ?_
 rotate_left
 ·show Act.put _ (some 20) _ = _
  simp only [Act.put, List.setIfInBounds_toArray, List.set_cons_zero, List.set_cons_succ, i64_w, i32_w]
  rfl
 refine one_ (i := 16) (N := some 21) #[true, true, true, true, true, true, true, true, true, true, true, true, true, true, true, true, true, false] rfl rfl (one_of HT_.out (by kernel_rfl)) (by decide) (fun K hK => ?_)
 refine goes_ Try.func48 (by kernel_rfl) rfl #[.slice Ao12 y282.length co12] (by rfl) rfl rfl (by (try simp only [List.map_toArray, List.map_cons, List.map_nil]); first | done | rfl | (simp only [List.length_drop, List.length_take]; rfl)) ?_
 with_reducible refine (cmp_Or_int.calls k _ _ y282 t285 _ ?side1 ?side2 A6.out).mono ?_
 (case side1 => repeat (first | exact (Kd.R_reads' HO284.out).2.2 | (with_reducible refine Kd.C_alloc ?_ _) | (with_reducible refine Kd.C_drewN ?_ _) | (with_reducible refine Kd.C_drew ?_)))
 (case side2 => exact (Kd.R_reads' HO284.out).2.1)
 rintro e w' ⟨rfl, ⟨nd, rfl⟩⟩
 replace HG := A_ (HG.out.drewN nd)
 refine ⟨_, rfl, ?_⟩
 refine hK.out _ _ ⟨(blk_cell BK277.out 0).trans rfl, (blk_cell BK277.out 1).trans rfl, (blk_cell BK277.out 2).trans rfl, (blk_cell BK278.out 0).trans rfl, (blk_cell BK278.out 1).trans rfl, (blk_cell BK278.out 2).trans rfl⟩ (fun hHeld => ?_)
 clear hK K
 refine norm_ (a' := ?_) ?_ ?_
 rotate_left
 ·show Act.put _ (some 21) _ = _
  simp only [Act.put, List.setIfInBounds_toArray, List.set_cons_zero, List.set_cons_succ, i64_w, i32_w]
  rfl
 refine pure_ (i := 17) (N := some 4) (v := ?_) (a' := ?_) #[true, true, true, true, true, true, true, true, true, true, true, true, true, true, true, true, true, true] rfl rfl (any_of HT_.out (by kernel_rfl)) (fun _ _ _ h => h) (Or.inl ⟨by rfl, ?_⟩) ?_ ?_
 rotate_left
 ·intro w'
  go_simp
  with_reducible rfl
 rotate_left
 ·exact P_
 refine done_ (done_of HT_.out (by kernel_rfl)) ?_
 try go_wp2
 go_ret
 exact ⟨by first | rfl | (simp [errW_none, errW_some] <;> rfl) | (simp [*, errW_none, errW_some] <;> rfl), HG.out⟩
open Go Go.Sort Go.Proofs.YtheillkpgmpnlaaW.PrintWords.Kd in
instance : Inhabited S37 := ⟨z37⟩
open Go Go.Sort Go.Proofs.YtheillkpgmpnlaaW.PrintWords.Kd in
def dep_enc (x : S37) : List Value := [.int .i64 x.f0, .int .i64 x.f1, .int .i64 x.f2]
open Go Go.Sort Go.Proofs.YtheillkpgmpnlaaW.PrintWords.Kd in
theorem dep_flat_len (xs : List S37) : (xs.flatMap dep_enc).length = xs.length * 3 := by
  induction xs with
  | nil => rfl
  | cons x xs ih => rw [List.flatMap_cons, List.length_append, ih, List.length_cons]; simp only [dep_enc, List.length_cons, List.length_nil]; omega
open Go Go.Sort Go.Proofs.YtheillkpgmpnlaaW.PrintWords.Kd in
theorem dep_flat_get : ∀ (xs : List S37) (t : Nat), (xs.flatMap dep_enc)[t]? = (xs[t / 3]?).bind fun x => (dep_enc x)[t % 3]?
  | [], t => by simp
  | x :: xs, t => by
    rw [List.flatMap_cons, List.getElem?_append]
    by_cases h : t < 3
    · rw [if_pos (by simpa [dep_enc] using h), Nat.div_eq_of_lt h, Nat.mod_eq_of_lt h]; rfl
    · rw [if_neg (by simpa [dep_enc] using h), dep_flat_get xs]
      obtain ⟨s, rfl⟩ : ∃ s, t = s + 3 := ⟨t - 3, by omega⟩
      rw [show (dep_enc x).length = 3 from rfl, Nat.add_sub_cancel, Nat.add_div_right _ (by omega), Nat.add_mod_right]; rfl
open Go Go.Sort Go.Proofs.YtheillkpgmpnlaaW.PrintWords.Kd in
theorem dep_flatK (xs : List S37) : flatK dep_enc 3 xs.toArray = (xs.flatMap dep_enc).toArray := by
  apply Array.ext_getElem?
  intro t
  rw [show (xs.flatMap dep_enc).toArray[t]? = (xs.flatMap dep_enc)[t]? by simp, dep_flat_get]
  simp only [flatK, Array.getElem?_map]
  by_cases h : t < xs.length * 3
  · have h1 : t / 3 < xs.length := by omega
    have h2 : t % 3 < 3 := Nat.mod_lt _ (by omega)
    have e3 : (dep_enc xs[t / 3]).length = 3 := rfl
    simp [h, h1, List.getElem?_eq_getElem (show t % 3 < (dep_enc xs[t / 3]).length by rw [e3]; exact h2)]
  · have h1 : ¬ t / 3 < xs.length := by omega
    simp [h, h1]
open Go Go.Sort Go.Proofs.YtheillkpgmpnlaaW.PrintWords.Kd in
theorem dep_of_reps {R : S37 → List Value → Prop} (hR : ∀ x cs, R x cs → cs = dep_enc x) : ∀ (xs : List S37) (inner : List Value), Reps R 3 xs inner → inner = xs.flatMap dep_enc := by
  intro xs inner h
  obtain ⟨h1, h2⟩ := h
  apply List.ext_getElem?
  intro t
  rw [dep_flat_get]
  by_cases h : t < xs.length * 3
  · have h3 : t / 3 < xs.length := by omega
    have h4 := hR _ _ (h2 (t / 3) xs[t / 3] (List.getElem?_eq_getElem h3))
    rw [List.getElem?_eq_getElem h3, Option.bind_some, ← h4, List.getElem?_take, if_pos (Nat.mod_lt _ (by omega)), List.getElem?_drop]
    congr 1; omega
  · rw [List.getElem?_eq_none (by omega), List.getElem?_eq_none (by omega)]; rfl
open Go Go.Sort Go.Proofs.YtheillkpgmpnlaaW.PrintWords.Kd in
theorem dep_reps {R : S37 → List Value → Prop} (hR : ∀ x, R x (dep_enc x)) (xs : List S37) : Reps R 3 xs (xs.flatMap dep_enc) := by
  refine ⟨dep_flat_len xs, fun j p hj => ?_⟩
  have e : ((xs.flatMap dep_enc).drop (j * 3)).take 3 = dep_enc p := by
    apply List.ext_getElem?
    intro t
    rw [List.getElem?_take]
    by_cases h : t < 3
    · rw [if_pos h, List.getElem?_drop, dep_flat_get, show (j * 3 + t) / 3 = j by omega, show (j * 3 + t) % 3 = t by omega, hj]; rfl
    · rw [if_neg h, List.getElem?_eq_none (by simp [dep_enc]; omega)]
  rw [e]; exact hR p
open Go Go.Sort Go.Proofs.YtheillkpgmpnlaaW.PrintWords.Kd in
theorem dep_own {w : World} {e base : Nat} {ok : Nat → Prop} {v : Value} {xs : List S37} (h : Kd.R k37 e w base ok v xs) : w.ownsRow base e 3 v xs.length (xs.flatMap dep_enc) := by
  obtain ⟨_, inner, ho, hr⟩ := h
  rw [← dep_of_reps (fun x cs hx => k37_openM hx) xs inner hr]; exact ho
open Go Go.Sort Go.Proofs.YtheillkpgmpnlaaW.PrintWords.Kd in
theorem dep_R {w : World} {e base : Nat} {ok : Nat → Prop} {v : Value} {xs : List S37} (hok : ∀ k, v.ownBlock = some k → ok k) (h : w.ownsRow base e 3 v xs.length (xs.flatMap dep_enc)) : Kd.R k37 e w base ok v xs :=
  ⟨hok, _, h, dep_reps (fun x => k37_mkM _ _ _ x) xs⟩
open Go Go.Sort Go.Proofs.YtheillkpgmpnlaaW.PrintWords.Kd in
def cmpI (a b : Int) : Int := if a < b then -1 else if a > b then 1 else 0
open Go Go.Sort Go.Proofs.YtheillkpgmpnlaaW.PrintWords.Kd in
def dep_cmp (x y : S37) : Int := if cmpI x.f0 y.f0 ≠ 0 then cmpI x.f0 y.f0 else if cmpI x.f1 y.f1 ≠ 0 then cmpI x.f1 y.f1 else cmpI x.f2 y.f2
open Go Go.Sort Go.Proofs.YtheillkpgmpnlaaW.PrintWords.Kd in
theorem cmpI_ok (a b : Int) : cmp_Compare_int.f a b = some (cmpI a b) := by
  unfold cmp_Compare_int.f cmp_isNaN_int.f cmpI
  simp
  split
  · rfl
  · split <;> rfl
open Go Go.Sort Go.Proofs.YtheillkpgmpnlaaW.PrintWords.Kd in
theorem or3_ok (a b c : Int) : cmp_Or_int.f 5 [a, b, c] = some (if a ≠ 0 then a else if b ≠ 0 then b else c) := by
  have w1 : wrap64 1 = 1 := by decide +kernel
  have w2 : wrap64 2 = 2 := by decide +kernel
  have w3 : wrap64 3 = 3 := by decide +kernel
  by_cases ha : a = 0
  · by_cases hb : b = 0
    · by_cases hc : c = 0
      · subst ha hb hc; simp [cmp_Or_int.f, cmp_Or_int.l0, Go.Proofs.YtheillkpgmpnlaaW.PrintWords.rd, w1, w2, w3]
      · subst ha hb; simp [cmp_Or_int.f, cmp_Or_int.l0, Go.Proofs.YtheillkpgmpnlaaW.PrintWords.rd, w1, w2, w3, hc]
    · subst ha; simp [cmp_Or_int.f, cmp_Or_int.l0, Go.Proofs.YtheillkpgmpnlaaW.PrintWords.rd, w1, w2, w3, hb]
  · simp [cmp_Or_int.f, cmp_Or_int.l0, Go.Proofs.YtheillkpgmpnlaaW.PrintWords.rd, w1, w2, w3, ha]
open Go Go.Sort Go.Proofs.YtheillkpgmpnlaaW.PrintWords.Kd in
theorem dep_cmp_ok (x y : S37) : dep_compare.f 5 x.f0 x.f1 x.f2 y.f0 y.f1 y.f2 = some (dep_cmp x y) := by
  unfold dep_compare.f
  rw [cmpI_ok, cmpI_ok, cmpI_ok]
  simp only [Option.bind_some]
  rw [or3_ok]; rfl
open Go Go.Sort Go.Proofs.YtheillkpgmpnlaaW.PrintWords.Kd in
def dlt (x y : S37) : Bool := decide (x.f0 < y.f0 ∨ (x.f0 = y.f0 ∧ (x.f1 < y.f1 ∨ (x.f1 = y.f1 ∧ x.f2 < y.f2))))
open Go Go.Sort Go.Proofs.YtheillkpgmpnlaaW.PrintWords.Kd in
theorem dep_lt (x y : S37) : ltOf dep_cmp x y = dlt x y := by
  unfold ltOf dlt
  refine decide_eq_decide.mpr ?_
  unfold dep_cmp cmpI
  by_cases h1 : x.f0 < y.f0
  · simp [h1]
  · by_cases h2 : x.f0 > y.f0
    · have h3 : ¬ x.f0 = y.f0 := by omega
      simp [h1, h2, h3]
    · have h3 : x.f0 = y.f0 := by omega
      by_cases h4 : x.f1 < y.f1
      · simp [h3, h4]
      · by_cases h5 : x.f1 > y.f1
        · have h6 : ¬ x.f1 = y.f1 := by omega
          simp [h3, h4, h5, h6]
        · have h6 : x.f1 = y.f1 := by omega
          by_cases h7 : x.f2 < y.f2
          · simp [h3, h6, h7]
          · by_cases h8 : x.f2 > y.f2
            · simp [h3, h6, h7, h8]
            · simp [h3, h6, h7, h8]
open Go Go.Sort Go.Proofs.YtheillkpgmpnlaaW.PrintWords.Kd in
theorem dlt_true {x y : S37} : dlt x y = true ↔ (x.f0 < y.f0 ∨ (x.f0 = y.f0 ∧ (x.f1 < y.f1 ∨ (x.f1 = y.f1 ∧ x.f2 < y.f2)))) := by unfold dlt; exact decide_eq_true_iff
open Go Go.Sort Go.Proofs.YtheillkpgmpnlaaW.PrintWords.Kd in
theorem dlt_false {x y : S37} : dlt x y = false ↔ ¬ (x.f0 < y.f0 ∨ (x.f0 = y.f0 ∧ (x.f1 < y.f1 ∨ (x.f1 = y.f1 ∧ x.f2 < y.f2)))) := by unfold dlt; exact decide_eq_false_iff_not
open Go Go.Sort Go.Proofs.YtheillkpgmpnlaaW.PrintWords.Kd in
theorem dep_swo : SWO (ltOf dep_cmp) := by
  refine ⟨fun x => ?_, fun x y z h1 h2 => ?_, fun x y z h1 h2 => ?_⟩
  · rw [dep_lt, dlt_false]; omega
  · rw [dep_lt, dlt_true] at *; omega
  · rw [dep_lt, dlt_false] at *; omega
open Go Go.Sort Go.Proofs.YtheillkpgmpnlaaW.PrintWords.Kd in
theorem dep_total (x y : S37) (h1 : ltOf dep_cmp x y = false) (h2 : ltOf dep_cmp y x = false) : x = y := by
  rw [dep_lt, dlt_false] at h1 h2
  obtain ⟨a, b, c⟩ := x; obtain ⟨p, q, r⟩ := y
  simp only at h1 h2
  have e1 : a = p := by omega
  have e2 : b = q := by omega
  have e3 : c = r := by omega
  rw [e1, e2, e3]
theorem dep_le {x y : S37} : (!dlt y x) = true ↔ ¬ (y.f0 < x.f0 ∨ (y.f0 = x.f0 ∧ (y.f1 < x.f1 ∨ (y.f1 = x.f1 ∧ y.f2 < x.f2)))) := by rw [Bool.not_eq_true', dlt_false]
theorem dep_le_total (a b : S37) : (!dlt b a) = true ∨ (!dlt a b) = true := by rw [dep_le, dep_le]; omega
theorem dep_le_trans (a b c : S37) (h1 : (!dlt b a) = true) (h2 : (!dlt c b) = true) : (!dlt c a) = true := by rw [dep_le] at *; omega
theorem dep_le_anti (a b : S37) (h1 : (!dlt b a) = true) (h2 : (!dlt a b) = true) : a = b := by
  rw [dep_le] at h1 h2
  obtain ⟨a, c, d⟩ := a; obtain ⟨p, q, r⟩ := b
  simp only at h1 h2
  have e1 : a = p := by omega
  have e2 : c = q := by omega
  have e3 : d = r := by omega
  rw [e1, e2, e3]
open Go Go.Sort Go.Proofs.YtheillkpgmpnlaaW.PrintWords.Kd in
def api_Dep_dep_compare.f (l0 : List S37) : Option (List S37) := if l0.length < 4611686018427387904 then some (isort (fun x y => !dlt y x) l0) else none
open Go Go.Sort Go.Proofs.YtheillkpgmpnlaaW.PrintWords.Kd in
theorem api_Dep_dep_compare.calls (P0_ : Nat → Prop) (u9000_ : Value) (l0 : List S37) (r : List S37) (w0 w : World) (hB : Below w0.heap.size w0 w) (ho0 : Kd.R k37 37 w w0.heap.size P0_ u9000_ l0) (h : api_Dep_dep_compare.f l0 = some r) :
 Calls Try.prog 24 #[u9000_, .func (.func 25) #[] #[]] w fun e w' => e = .returned (.tuple #[]) ∧ Kd.R k37 37 w' w0.heap.size (fun k_ => (P0_ k_ ∨ w.heap.size ≤ k_)) u9000_ r ∧ Below w0.heap.size w0 w' ∧ Kept w w' (fun k_ => P0_ k_) := by
  unfold api_Dep_dep_compare.f at h
  by_cases hl : l0.length < 4611686018427387904
  · rw [if_pos hl] at h
    obtain rfl := Option.some.inj h
    rw [← msort (le := fun x y : S37 => !dlt y x) dep_le_total dep_le_trans dep_le_anti l0]
    have ho := dep_own ho0
    have hok := ho0.1
    rcases ho.2 with ⟨rfl, h0⟩ | ⟨g, cap, cur, rfl, hg, _⟩
    · obtain rfl : l0 = [] := List.length_eq_zero_iff.mp h0
      refine (AnyF.slices_SortFunc_none { Try.laysSF with } none 0 _ w).mono ?_
      rintro e w' ⟨rfl, rfl⟩
      exact ⟨rfl, R_mono (by simpa using ho0) (fun k hk => .inl hk), hB, Kept.refl _ _⟩
    · obtain ⟨hh, hg2⟩ := own_holds ho
      have hH : HoldsK dep_enc 3 w g 0 l0.toArray := by
        unfold HoldsK; rw [dep_flatK]; exact hh
      have hcmp : CmpLays Try.prog 25 #[] dep_enc 3 dep_cmp g 0 l0.toArray.size w := by
        intro m os dk _ x y
        exact dep_compare.lays 5 x.f0 x.f1 x.f2 y.f0 y.f1 y.f2 (dep_cmp x y) _ (dep_cmp_ok x y)
      have eg : ∀ args w, (callFunc 25 args).run Try.prog w = .ok (.enter 25 args) w := enters_of Try.func25 (by kernel_rfl) rfl
      have hcon := AnyQ.slices_SortFunc_total Try.laysSF 3 Try.isAgg37 Try.sizeOf37 dep_enc (fun _ => rfl) (fun x v hv => by simp [dep_enc] at hv; rcases hv with rfl | rfl | rfl <;> rfl) dep_cmp dep_swo 25 #[] g 0 cap l0.toArray w eg hcmp hH hg2 (by simpa using hl) dep_total
      change Calls Try.prog 24 _ _ _ at hcon
      refine Calls.mono (by simpa using hcon) ?_
      rintro e w' ⟨rfl, n, os, rfl⟩
      have e1 : (fun x y => !ltOf dep_cmp y x) = fun x y => !dlt y x := by funext x y; rw [dep_lt]
      rw [e1]
      have hlen : (l0.mergeSort fun x y => !dlt y x).length = l0.length := by simp
      have ew : sortWorldK dep_enc 3 w g 0 n (l0.mergeSort fun x y => !dlt y x).toArray os = sorted_ w g n ((l0.mergeSort fun x y => !dlt y x).flatMap dep_enc) os := by
        unfold sortWorldK putRowK sorted_; rw [dep_flatK]
      rw [ew]
      have hgr := sorted_grown w g n ((l0.mergeSort fun x y => !dlt y x).flatMap dep_enc) os
      have hown := sorted_own ho n ((l0.mergeSort fun x y => !dlt y x).flatMap dep_enc) (by rw [dep_flat_len, dep_flat_len, hlen]) os
      refine ⟨rfl, dep_R (fun k hk => .inl (hok k hk)) (by rw [hlen]; exact hown), hB.grown hgr hB.size (fun k hk => by injection hk with hk; rw [← hk]; exact hg), hgr.size, fun i hi hn => hgr.block i hi (fun e => hn (hok i ?_))⟩
      injection e with e
      rw [e]; rfl
  · rw [if_neg hl] at h; cases h

end Go.Proofs.Ytheillkpgmpnlaa.G
