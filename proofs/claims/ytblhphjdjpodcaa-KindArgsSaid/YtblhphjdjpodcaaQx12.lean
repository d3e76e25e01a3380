/- Printed by a program of this session (wip/tools/op.py, over the kit's print program): Go functions as plain Lean functions, each with a proof that the call answers so. Conditions: each theorem's own. -/
import Derived.Test.YtblhphjdjpodcaaQx0
import Derived.Test.YtblhphjdjpodcaaQx3
import Derived.Test.YtblhphjdjpodcaaQx9
import Derived.Test.YtblhphjdjpodcaaQx10
import Derived.Test.YtblhphjdjpodcaaQx11
namespace Go.Proofs.Ytblhphjdjpodcaa.Q
open Go.Proofs.YtblhphjdjpodcaaH
open Go.RowKit Go.Proofs.YtblhphjdjpodcaaW.PrintWords Go.Proofs.YtblhphjdjpodcaaW.PrintLast Go.Proofs.YtblhphjdjpodcaaW.PrintMore
attribute [local go_sem] max2_int min2_int max_two min_two max_three min_three max_four min_four   -- for this text's walks alone
set_option linter.unusedVariables false
set_option linter.unusedSimpArgs false

/-! ### locksteplaw03_awake: function 9 -/
def locksteplaw03_awake.f (k : Nat)  : Option (Bool) := (some (([1, 2] : List Int) : List Int)).bind fun y130 => ((kind_Gives.f k 1 8 16 3 y130 0).bind fun bt134 => ((kind_May.f k 1 8 16 3 y130 0).bind fun t136 => (if t136 = true then (if bt134.1 = 8 then (if bt134.2 = 16 then ((kind_May.f k 1 16 16 3 y130 0).bind fun t137 => (if t137 = true then (some false) else ((kind_Shape.f 64 2).bind fun t138 => (if t138 = true then ((kind_Shape.f 64 4).bind fun t139 => (if t139 = true then (some false) else ((kind_Pure.f 1).bind fun t140 => (if t140 = true then ((kind_Pure.f 4).bind fun t141 => (some (!t141))) else (some false))))) else (some false))))) else (some false)) else (some false)) else (some false))))
theorem locksteplaw03_awake.mono : ∀ k, LeO (locksteplaw03_awake.f k ) (locksteplaw03_awake.f (k + 1) ) := by
 intro  k
 unfold locksteplaw03_awake.f
 repeat' first
  | (with_reducible exact kind_Gives.mono _ _ _ _ _ _ _)
  | (with_reducible exact kind_May.mono _ _ _ _ _ _ _)
  | (with_reducible exact LeO.refl _)
  | (with_reducible exact LeO.none _)
  | (with_reducible refine LeO.ite ?_ ?_)
  | (with_reducible refine LeO.bind ?_ (fun _ => ?_))
  | exact kind_Gives.mono _ _ _ _ _ _ _
  | exact kind_May.mono _ _ _ _ _ _ _
  | exact LeO.none _
  | refine LeO.ite ?_ ?_
  | refine LeO.bind ?_ (fun _ => ?_)
set_option maxHeartbeats 8000000 in
set_option maxRecDepth 100000 in
theorem locksteplaw03_awake.calls (k : Nat)  (w : World) (h : locksteplaw03_awake.f k  = some true) :
 Calls Try.prog 9 #[] w fun e w' => e = .returned (.bool true) ∧ Below w.heap.size w w' := by
 have hu27 := Try.underlying27
 have HB := Aside0.mk (Below.refl w.heap.size w)
 have H : ((some (([1, 2] : List Int) : List Int)).bind fun y130 => ((kind_Gives.f k 1 8 16 3 y130 0).bind fun bt134 => ((kind_May.f k 1 8 16 3 y130 0).bind fun t136 => (if t136 = true then (if bt134.1 = 8 then (if bt134.2 = 16 then ((kind_May.f k 1 16 16 3 y130 0).bind fun t137 => (if t137 = true then (some false) else ((kind_Shape.f 64 2).bind fun t138 => (if t138 = true then ((kind_Shape.f 64 4).bind fun t139 => (if t139 = true then (some false) else ((kind_Pure.f 1).bind fun t140 => (if t140 = true then ((kind_Pure.f 4).bind fun t141 => (some (!t141))) else (some false))))) else (some false))))) else (some false)) else (some false)) else (some false))))) = some true := h
 clear h
 obtain ⟨y130, hy130⟩ : ∃ y_ : List Int, y_ = (([1, 2] : List Int)) := ⟨_, rfl⟩
 replace H : ((kind_Gives.f k 1 8 16 3 y130 0).bind fun bt134 => ((kind_May.f k 1 8 16 3 y130 0).bind fun t136 => (if t136 = true then (if bt134.1 = 8 then (if bt134.2 = 16 then ((kind_May.f k 1 16 16 3 y130 0).bind fun t137 => (if t137 = true then (some false) else ((kind_Shape.f 64 2).bind fun t138 => (if t138 = true then ((kind_Shape.f 64 4).bind fun t139 => (if t139 = true then (some false) else ((kind_Pure.f 1).bind fun t140 => (if t140 = true then ((kind_Pure.f 4).bind fun t141 => (some (!t141))) else (some false))))) else (some false))))) else (some false)) else (some false)) else (some false)))) = some true := by first | (rw [hy130]; with_reducible exact H) | (have H2_ := (Option.bind_some _ _).symm.trans H; rw [hy130]; with_reducible exact H2_) | (have H2_ := (Option.bind_some _ _).symm.trans H; with_reducible exact H2_) | with_reducible exact H | (rw [hy130]; exact H) | exact H
 have Ny130 := Aside0.mk hy130
 clear hy130
 replace H := Option.bind_eq_some_iff.mp H
 obtain ⟨⟨t134, t135⟩, A10, H⟩ := H
 replace H : ((kind_May.f k 1 8 16 3 y130 0).bind fun t136 => (if t136 = true then (if t134 = 8 then (if t135 = 16 then ((kind_May.f k 1 16 16 3 y130 0).bind fun t137 => (if t137 = true then (some false) else ((kind_Shape.f 64 2).bind fun t138 => (if t138 = true then ((kind_Shape.f 64 4).bind fun t139 => (if t139 = true then (some false) else ((kind_Pure.f 1).bind fun t140 => (if t140 = true then ((kind_Pure.f 4).bind fun t141 => (some (!t141))) else (some false))))) else (some false))))) else (some false)) else (some false)) else (some false))) = some true := H
 have A1 := Aside0.mk A10
 clear A10
 replace H := Option.bind_eq_some_iff.mp H
 obtain ⟨t136, A20, H⟩ := H
 replace H : (if t136 = true then (if t134 = 8 then (if t135 = 16 then ((kind_May.f k 1 16 16 3 y130 0).bind fun t137 => (if t137 = true then (some false) else ((kind_Shape.f 64 2).bind fun t138 => (if t138 = true then ((kind_Shape.f 64 4).bind fun t139 => (if t139 = true then (some false) else ((kind_Pure.f 1).bind fun t140 => (if t140 = true then ((kind_Pure.f 4).bind fun t141 => (some (!t141))) else (some false))))) else (some false))))) else (some false)) else (some false)) else (some false)) = some true := H
 have A2 := Aside0.mk A20
 clear A20
 by_cases c3 : t136 = true
 ·subst c3
  have H1 : (if t134 = 8 then (if t135 = 16 then ((kind_May.f k 1 16 16 3 y130 0).bind fun t137 => (if t137 = true then (some false) else ((kind_Shape.f 64 2).bind fun t138 => (if t138 = true then ((kind_Shape.f 64 4).bind fun t139 => (if t139 = true then (some false) else ((kind_Pure.f 1).bind fun t140 => (if t140 = true then ((kind_Pure.f 4).bind fun t141 => (some (!t141))) else (some false))))) else (some false))))) else (some false)) else (some false)) = some true := by rw [if_pos rfl] at H; exact H
  clear H
  have H := H1
  clear H1
  by_cases c4 : t134 = 8
  ·rw [if_pos c4] at H
   have c4b0 : (t134 == 8) = true := beq_iff_eq.mpr c4
   have c4b1 : (t134 != 8) = false := bne_eq_false_iff_eq.mpr c4
   clear c4
   by_cases c5 : t135 = 16
   ·rw [if_pos c5] at H
    have c5b0 : (t135 == 16) = true := beq_iff_eq.mpr c5
    have c5b1 : (t135 != 16) = false := bne_eq_false_iff_eq.mpr c5
    clear c5
    replace H := Option.bind_eq_some_iff.mp H
    obtain ⟨t137, A60, H⟩ := H
    replace H : (if t137 = true then (some false) else ((kind_Shape.f 64 2).bind fun t138 => (if t138 = true then ((kind_Shape.f 64 4).bind fun t139 => (if t139 = true then (some false) else ((kind_Pure.f 1).bind fun t140 => (if t140 = true then ((kind_Pure.f 4).bind fun t141 => (some (!t141))) else (some false))))) else (some false)))) = some true := H
    have A6 := Aside0.mk A60
    clear A60
    by_cases c7 : t137 = true
    ·subst c7
     have H1 : (some false) = some true := by rw [if_pos rfl] at H; exact H
     clear H
     have H := H1
     clear H1
     exact absurd H (by simp)
    replace c7 := Bool.eq_false_iff.mpr c7
    subst c7
    have H1 : ((kind_Shape.f 64 2).bind fun t138 => (if t138 = true then ((kind_Shape.f 64 4).bind fun t139 => (if t139 = true then (some false) else ((kind_Pure.f 1).bind fun t140 => (if t140 = true then ((kind_Pure.f 4).bind fun t141 => (some (!t141))) else (some false))))) else (some false))) = some true := by rw [if_neg (show ¬ (false = true) by decide)] at H; exact H
    clear H
    have H := H1
    clear H1
    replace H := Option.bind_eq_some_iff.mp H
    obtain ⟨t138, A80, H⟩ := H
    replace H : (if t138 = true then ((kind_Shape.f 64 4).bind fun t139 => (if t139 = true then (some false) else ((kind_Pure.f 1).bind fun t140 => (if t140 = true then ((kind_Pure.f 4).bind fun t141 => (some (!t141))) else (some false))))) else (some false)) = some true := H
    have A8 := Aside0.mk A80
    clear A80
    by_cases c9 : t138 = true
    ·subst c9
     have H1 : ((kind_Shape.f 64 4).bind fun t139 => (if t139 = true then (some false) else ((kind_Pure.f 1).bind fun t140 => (if t140 = true then ((kind_Pure.f 4).bind fun t141 => (some (!t141))) else (some false))))) = some true := by rw [if_pos rfl] at H; exact H
     clear H
     have H := H1
     clear H1
     replace H := Option.bind_eq_some_iff.mp H
     obtain ⟨t139, A100, H⟩ := H
     replace H : (if t139 = true then (some false) else ((kind_Pure.f 1).bind fun t140 => (if t140 = true then ((kind_Pure.f 4).bind fun t141 => (some (!t141))) else (some false)))) = some true := H
     have A10 := Aside0.mk A100
     clear A100
     by_cases c11 : t139 = true
     ·subst c11
      have H1 : (some false) = some true := by rw [if_pos rfl] at H; exact H
      clear H
      have H := H1
      clear H1
      exact absurd H (by simp)
     replace c11 := Bool.eq_false_iff.mpr c11
     subst c11
     have H1 : ((kind_Pure.f 1).bind fun t140 => (if t140 = true then ((kind_Pure.f 4).bind fun t141 => (some (!t141))) else (some false))) = some true := by rw [if_neg (show ¬ (false = true) by decide)] at H; exact H
     clear H
     have H := H1
     clear H1
     replace H := Option.bind_eq_some_iff.mp H
     obtain ⟨t140, A120, H⟩ := H
     replace H : (if t140 = true then ((kind_Pure.f 4).bind fun t141 => (some (!t141))) else (some false)) = some true := H
     have A12 := Aside0.mk A120
     clear A120
     by_cases c13 : t140 = true
     ·subst c13
      have H1 : ((kind_Pure.f 4).bind fun t141 => (some (!t141))) = some true := by rw [if_pos rfl] at H; exact H
      clear H
      have H := H1
      clear H1
      replace H := Option.bind_eq_some_iff.mp H
      obtain ⟨t141, A140, H⟩ := H
      replace H : (some (!t141)) = some true := H
      have A14 := Aside0.mk A140
      clear A140
      have HR_ := Aside0.mk (Option.some.inj H)
      clear H
      go_enter Try.func9, Try.ntmps9
      go_wp2_with (first | ((with_reducible refine gate_dst (N := 5) rfl ?_); refine Kd.R_lit (Kd.int .i64) _ 3 ?hg (N := 5) ?hd (xs := ([1, 2] : List Int)) (inner := [.int .i64 1, .int .i64 2]) (ok := fun _ => True) (okp := fun _ => True) ?hr ?hp (fun _ hk => hk) trivial (Below.refl _ _) (Nat.le_refl _) (by simp) ?_; (case hd => rfl); (case hg => rfl); (case hr => first | (go_simp; done) | (go_simp; rfl)); (case hp => exact (Reps.one (show Kd.M (Kd.int .i64) _ _ _ 1 [.int .i64 1] from rfl) (Reps.one (show Kd.M (Kd.int .i64) _ _ _ 2 [.int .i64 2] from rfl) (Reps.none _ _)))); intro v131 w15 ho16 hb hg_ hnew_; clear hg_ hnew_; (first | rw [← Ny130.out] at ho16 | (simp only [Int.reduceToNat] at ho16; rw [← Ny130.out] at ho16)); have n0_ := Aside0.mk (Kd.R_lower ho16 (below_size (B_))); have n1_ := Aside0.mk (below_step (B_) hb); clear HB; have HO132 := n0_; have HB := n1_; clear n0_ n1_; clear hb ho16; obtain ⟨Ao17, co17, eo17⟩ := Kd.R_slice HO132.out; subst eo17) | ((with_reducible refine gate_dst (N := 1) rfl ?_); refine box_event ?hg (N := 1) ?hd (cs := #[.int .i64 0, .int .i64 0, .int .i64 0, .int .i64 0, .slice none 0 0, .int .u64 0]) (t := 27) ?hr ?_; (case hd => rfl); (case hg => rfl); (case hr => first | (go_simp; done) | (go_simp; rfl)); intro gb133 hg w18 hbox hb; have n0_ := Aside0.mk (Kd.R_below (by (with_reducible repeat (first | apply Kd.R_alloc | apply Kd.R_drewN | apply Kd.R_drew)); exact HO132.out) hb); have n1_ := Aside0.mk (below_step (B_) hb); have n2_ := Aside0.mk (hbox); have n3_ := Aside0.mk ((by rw [hg]; exact (below_size (B_)) : w.heap.size ≤ gb133)); have n4_ := Aside0.mk ((by rw [hg]; exact (below_size (B_)) : w.heap.size ≤ gb133)); clear HO132; clear HB; have HO132 := n0_; have HB := n1_; have BK133 := n2_; have GW133 := n3_; have GE133 := n4_; clear n0_ n1_ n2_ n3_ n4_; clear hb hbox hg; have hcz19_0 : w18.cell? ⟨gb133, 0, none⟩ = some (.int .i64 0) := (blk_cell BK133.out 0).trans rfl; have hcz19_1 : w18.cell? ⟨gb133, 1, none⟩ = some (.int .i64 0) := (blk_cell BK133.out 1).trans rfl; have hcz19_2 : w18.cell? ⟨gb133, 2, none⟩ = some (.int .i64 0) := (blk_cell BK133.out 2).trans rfl; have hcz19_3 : w18.cell? ⟨gb133, 3, none⟩ = some (.int .i64 0) := (blk_cell BK133.out 3).trans rfl; have hcz19_4 : w18.cell? ⟨gb133, 4, none⟩ = some (.slice none 0 0) := (blk_cell BK133.out 4).trans rfl; have hcz19_5 : w18.cell? ⟨gb133, 5, none⟩ = some (.int .u64 0) := (blk_cell BK133.out 5).trans rfl; have hfz19_0 := blk_frozen BK133.out 0; have hfz19_1 := blk_frozen BK133.out 1; have hfz19_2 := blk_frozen BK133.out 2; have hfz19_3 := blk_frozen BK133.out 3; have hfz19_4 := blk_frozen BK133.out 4; have hfz19_5 := blk_frozen BK133.out 5) | ((with_reducible refine gate_callee (f := 12) rfl ?_); refine goesL_ (some 9) rfl rfl Try.func12 (by kernel_rfl) rfl #[.agg #[.int .i64 1, .int .i64 8, .int .i64 16, .int .i64 3, .slice Ao17 y130.length co17, .int .u64 0]] rfl (by (try simp only [List.map_toArray, List.map_cons, List.map_nil]); first | done | rfl | (simp only [List.length_drop, List.length_take]; rfl)) ?_; (with_reducible refine (kind_Gives.calls k 1 8 16 3 _ _ y130 0 t134 t135 _ ?side1 ?side2 A1.out).mono ?_); (case side1 => refine (Kd.R_reads' (e := 3) (base := w.heap.size) (ok := fun k_ => True) (n := y130.length) (c := co17) ?_).2.2; exact (by (with_reducible repeat (first | apply Kd.R_alloc | apply Kd.R_drewN | apply Kd.R_drew)); exact (Kd.R_mono (Kd.R_far (p := ⟨gb133, 5, none⟩) (Kd.R_far (p := ⟨gb133, 4, none⟩) (Kd.R_far (p := ⟨gb133, 3, none⟩) (Kd.R_far (p := ⟨gb133, 2, none⟩) (Kd.R_far (p := ⟨gb133, 1, none⟩) (Kd.R_far (p := ⟨gb133, 0, none⟩) (Kd.R_types HO132.out BK133.out (by decide)) (fun _ hk => hk.2) (.int .i64 1)) (fun _ hk => hk.2) (.int .i64 8)) (fun _ hk => hk.2) (.int .i64 16)) (fun _ hk => hk.2) (.int .i64 3)) (fun _ hk => hk.2) (.slice Ao17 y130.length co17)) (fun _ hk => hk.2) (.int .u64 0)) (fun _ h_ => h_.1)))); (case side2 => exact (Kd.R_reads' HO132.out).2.1); rintro e w20 ⟨rfl, hb⟩; refine ⟨_, rfl, ?_⟩; have n0_ := Aside0.mk (Kd.R_below (by (with_reducible repeat (first | apply Kd.R_alloc | apply Kd.R_drewN | apply Kd.R_drew)); exact (Kd.R_mono (Kd.R_far (p := ⟨gb133, 5, none⟩) (Kd.R_far (p := ⟨gb133, 4, none⟩) (Kd.R_far (p := ⟨gb133, 3, none⟩) (Kd.R_far (p := ⟨gb133, 2, none⟩) (Kd.R_far (p := ⟨gb133, 1, none⟩) (Kd.R_far (p := ⟨gb133, 0, none⟩) (Kd.R_types HO132.out BK133.out (by decide)) (fun _ hk => hk.2) (.int .i64 1)) (fun _ hk => hk.2) (.int .i64 8)) (fun _ hk => hk.2) (.int .i64 16)) (fun _ hk => hk.2) (.int .i64 3)) (fun _ hk => hk.2) (.slice Ao17 y130.length co17)) (fun _ hk => hk.2) (.int .u64 0)) (fun _ h_ => h_.1))) hb); have n1_ := Aside0.mk (blk_below (g := gb133) (o := .cells #[.int .i64 1, .int .i64 8, .int .i64 16, .int .i64 3, .slice Ao17 y130.length co17, .int .u64 0] 27 (0, 0)) (by (with_reducible repeat (first | refine blk_drewN ?_ _ | refine blk_drew ?_ | refine blk_alloc ?_ _)); refine blk_put (cs := #[.int .i64 1, .int .i64 8, .int .i64 16, .int .i64 3, .slice Ao17 y130.length co17, .int .u64 0]) ?_ 5 _ rfl; (with_reducible repeat (first | refine blk_drewN ?_ _ | refine blk_drew ?_ | refine blk_alloc ?_ _)); refine blk_put (cs := #[.int .i64 1, .int .i64 8, .int .i64 16, .int .i64 3, .slice none 0 0, .int .u64 0]) ?_ 4 _ rfl; (with_reducible repeat (first | refine blk_drewN ?_ _ | refine blk_drew ?_ | refine blk_alloc ?_ _)); refine blk_put (cs := #[.int .i64 1, .int .i64 8, .int .i64 16, .int .i64 0, .slice none 0 0, .int .u64 0]) ?_ 3 _ rfl; (with_reducible repeat (first | refine blk_drewN ?_ _ | refine blk_drew ?_ | refine blk_alloc ?_ _)); refine blk_put (cs := #[.int .i64 1, .int .i64 8, .int .i64 0, .int .i64 0, .slice none 0 0, .int .u64 0]) ?_ 2 _ rfl; (with_reducible repeat (first | refine blk_drewN ?_ _ | refine blk_drew ?_ | refine blk_alloc ?_ _)); refine blk_put (cs := #[.int .i64 1, .int .i64 0, .int .i64 0, .int .i64 0, .slice none 0 0, .int .u64 0]) ?_ 1 _ rfl; (with_reducible repeat (first | refine blk_drewN ?_ _ | refine blk_drew ?_ | refine blk_alloc ?_ _)); refine blk_put (cs := #[.int .i64 0, .int .i64 0, .int .i64 0, .int .i64 0, .slice none 0 0, .int .u64 0]) ?_ 0 _ rfl; (with_reducible repeat (first | refine blk_drewN ?_ _ | refine blk_drew ?_ | refine blk_alloc ?_ _)); exact BK133.out) hb); have n2_ := Aside0.mk (below_step (B1_) hb); clear HO132; clear BK133; clear HB; have HO132 := n0_; have BK133 := n1_; have HB := n2_; clear n0_ n1_ n2_; (try clear hb); (try clear hb2); (try clear hk); (try clear hi); have hcz21_0 : w20.cell? ⟨gb133, 0, none⟩ = some (.int .i64 1) := (blk_cell BK133.out 0).trans rfl; have hcz21_1 : w20.cell? ⟨gb133, 1, none⟩ = some (.int .i64 8) := (blk_cell BK133.out 1).trans rfl; have hcz21_2 : w20.cell? ⟨gb133, 2, none⟩ = some (.int .i64 16) := (blk_cell BK133.out 2).trans rfl; have hcz21_3 : w20.cell? ⟨gb133, 3, none⟩ = some (.int .i64 3) := (blk_cell BK133.out 3).trans rfl; have hcz21_4 : w20.cell? ⟨gb133, 4, none⟩ = some (.slice Ao17 y130.length co17) := (blk_cell BK133.out 4).trans rfl; have hcz21_5 : w20.cell? ⟨gb133, 5, none⟩ = some (.int .u64 0) := (blk_cell BK133.out 5).trans rfl; have hfz21_0 := blk_frozen BK133.out 0; have hfz21_1 := blk_frozen BK133.out 1; have hfz21_2 := blk_frozen BK133.out 2; have hfz21_3 := blk_frozen BK133.out 3; have hfz21_4 := blk_frozen BK133.out 4; have hfz21_5 := blk_frozen BK133.out 5) | ((with_reducible refine gate_callee (f := 11) rfl ?_); refine goesL_ (some 13) rfl rfl Try.func11 (by kernel_rfl) rfl #[.agg #[.int .i64 1, .int .i64 8, .int .i64 16, .int .i64 3, .slice Ao17 y130.length co17, .int .u64 0]] rfl (by (try simp only [List.map_toArray, List.map_cons, List.map_nil]); first | done | rfl | (simp only [List.length_drop, List.length_take]; rfl)) ?_; (with_reducible refine (kind_May.calls k 1 8 16 3 _ _ y130 0 true _ ?side1 ?side2 A2.out).mono ?_); (case side1 => repeat (first | exact (Kd.R_reads' HO132.out).2.2 | (with_reducible refine Kd.C_alloc ?_ _) | (with_reducible refine Kd.C_drewN ?_ _) | (with_reducible refine Kd.C_drew ?_))); (case side2 => exact (Kd.R_reads' HO132.out).2.1); rintro e w22 ⟨rfl, hb⟩; refine ⟨_, rfl, ?_⟩; have n0_ := Aside0.mk (Kd.R_below (by (with_reducible repeat (first | apply Kd.R_alloc | apply Kd.R_drewN | apply Kd.R_drew)); exact HO132.out) hb); have n1_ := Aside0.mk (blk_below (g := gb133) (o := .cells #[.int .i64 1, .int .i64 8, .int .i64 16, .int .i64 3, .slice Ao17 y130.length co17, .int .u64 0] 27 (0, 0)) (by (with_reducible repeat (first | refine blk_drewN ?_ _ | refine blk_drew ?_ | refine blk_alloc ?_ _)); exact BK133.out) hb); have n2_ := Aside0.mk (below_step (B1_) hb); clear HO132; clear BK133; clear HB; have HO132 := n0_; have BK133 := n1_; have HB := n2_; clear n0_ n1_ n2_; (try clear hb); (try clear hb2); (try clear hk); (try clear hi); have hcz23_0 : w22.cell? ⟨gb133, 0, none⟩ = some (.int .i64 1) := (blk_cell BK133.out 0).trans rfl; have hcz23_1 : w22.cell? ⟨gb133, 1, none⟩ = some (.int .i64 8) := (blk_cell BK133.out 1).trans rfl; have hcz23_2 : w22.cell? ⟨gb133, 2, none⟩ = some (.int .i64 16) := (blk_cell BK133.out 2).trans rfl; have hcz23_3 : w22.cell? ⟨gb133, 3, none⟩ = some (.int .i64 3) := (blk_cell BK133.out 3).trans rfl; have hcz23_4 : w22.cell? ⟨gb133, 4, none⟩ = some (.slice Ao17 y130.length co17) := (blk_cell BK133.out 4).trans rfl; have hcz23_5 : w22.cell? ⟨gb133, 5, none⟩ = some (.int .u64 0) := (blk_cell BK133.out 5).trans rfl; have hfz23_0 := blk_frozen BK133.out 0; have hfz23_1 := blk_frozen BK133.out 1; have hfz23_2 := blk_frozen BK133.out 2; have hfz23_3 := blk_frozen BK133.out 3; have hfz23_4 := blk_frozen BK133.out 4; have hfz23_5 := blk_frozen BK133.out 5) | (go_at_call 11; (with_reducible refine (kind_May.calls k 1 16 16 3 _ _ y130 0 false _ ?side1 ?side2 A6.out).mono ?_); (case side1 => refine (Kd.R_reads' (e := 3) (base := w.heap.size) (ok := fun k_ => True) (n := y130.length) (c := co17) ?_).2.2; exact (by (with_reducible repeat (first | apply Kd.R_alloc | apply Kd.R_drewN | apply Kd.R_drew)); exact (Kd.R_mono (Kd.R_far (p := ⟨gb133, 1, none⟩) (Kd.R_types HO132.out BK133.out (by decide)) (fun _ hk => hk.2) (.int .i64 16)) (fun _ h_ => h_.1)))); (case side2 => exact (Kd.R_reads' HO132.out).2.1); rintro e w24 ⟨rfl, hb⟩; have n0_ := Aside0.mk (Kd.R_below (by (with_reducible repeat (first | apply Kd.R_alloc | apply Kd.R_drewN | apply Kd.R_drew)); exact (Kd.R_mono (Kd.R_far (p := ⟨gb133, 1, none⟩) (Kd.R_types HO132.out BK133.out (by decide)) (fun _ hk => hk.2) (.int .i64 16)) (fun _ h_ => h_.1))) hb); have n1_ := Aside0.mk (blk_below (g := gb133) (o := .cells #[.int .i64 1, .int .i64 16, .int .i64 16, .int .i64 3, .slice Ao17 y130.length co17, .int .u64 0] 27 (0, 0)) (by (with_reducible repeat (first | refine blk_drewN ?_ _ | refine blk_drew ?_ | refine blk_alloc ?_ _)); refine blk_put (cs := #[.int .i64 1, .int .i64 8, .int .i64 16, .int .i64 3, .slice Ao17 y130.length co17, .int .u64 0]) ?_ 1 _ rfl; (with_reducible repeat (first | refine blk_drewN ?_ _ | refine blk_drew ?_ | refine blk_alloc ?_ _)); exact BK133.out) hb); have n2_ := Aside0.mk (below_step (B1_) hb); clear HO132; clear BK133; clear HB; have HO132 := n0_; have BK133 := n1_; have HB := n2_; clear n0_ n1_ n2_; (try clear hb); (try clear hb2); (try clear hk); (try clear hi)) | (go_at_call 10; (with_reducible refine (kind_Shape.calls 64 2 true _ A8.out).mono ?_); rintro e w' ⟨rfl, ⟨nd, rfl⟩⟩) | (go_at_call 10; (with_reducible refine (kind_Shape.calls 64 4 false _ A10.out).mono ?_); rintro e w' ⟨rfl, ⟨nd, rfl⟩⟩) | (go_at_call 19; (with_reducible refine (kind_Pure.calls 1 true _ A12.out).mono ?_); rintro e w' ⟨rfl, ⟨nd, rfl⟩⟩) | (go_at_call 19; (with_reducible refine (kind_Pure.calls 4 t141 _ A14.out).mono ?_); rintro e w' ⟨rfl, ⟨nd, rfl⟩⟩))
      go_ret
      exact ⟨by first | rfl | exact congrArg (fun b => Ending.returned (Value.bool b)) HR_.out | (simp [errW_none, errW_some] <;> rfl) | (simp [*, errW_none, errW_some] <;> rfl), B1_⟩
     replace c13 := Bool.eq_false_iff.mpr c13
     subst c13
     have H1 : (some false) = some true := by rw [if_neg (show ¬ (false = true) by decide)] at H; exact H
     clear H
     have H := H1
     clear H1
     exact absurd H (by simp)
    replace c9 := Bool.eq_false_iff.mpr c9
    subst c9
    have H1 : (some false) = some true := by rw [if_neg (show ¬ (false = true) by decide)] at H; exact H
    clear H
    have H := H1
    clear H1
    exact absurd H (by simp)
   rw [if_neg c5] at H
   have c5b0 : (t135 == 16) = false := beq_eq_false_iff_ne.mpr c5
   have c5b1 : (t135 != 16) = true := bne_iff_ne.mpr c5
   exact absurd H (by simp)
  rw [if_neg c4] at H
  have c4b0 : (t134 == 8) = false := beq_eq_false_iff_ne.mpr c4
  have c4b1 : (t134 != 8) = true := bne_iff_ne.mpr c4
  exact absurd H (by simp)
 replace c3 := Bool.eq_false_iff.mpr c3
 subst c3
 have H1 : (some false) = some true := by rw [if_neg (show ¬ (false = true) by decide)] at H; exact H
 clear H
 have H := H1
 clear H1
 exact absurd H (by simp)

end Go.Proofs.Ytblhphjdjpodcaa.Q
