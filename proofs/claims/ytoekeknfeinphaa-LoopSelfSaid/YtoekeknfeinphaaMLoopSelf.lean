/- Texts of this session, joined by wip/tools/merge.py. Conditions: each theorem's own. -/
import Derived.Test.YtoekeknfeinphaaGx0
import Derived.Test.YtoekeknfeinphaaMLoopSelfb
import Derived.Test.YtoekeknfeinphaaMLoopSelfc
import Derived.Test.YtoekeknfeinphaaGx22
import Derived.Test.YtoekeknfeinphaaGx23
import Derived.Test.YtoekeknfeinphaaGx24
import Derived.Test.YtoekeknfeinphaaHRows
import Derived.Test.YtoekeknfeinphaaRows
import Derived.WalkKit
import Derived.ProofKit
import Derived.OpenShut
import Derived.ShutString
import Derived.ChangeOld
import Derived.Below
import Derived.SizedLaws
import Derived.ChangeSlices
namespace Go.Proofs.Ytoekeknfeinphaa.G
open Go.Proofs.YtoekeknfeinphaaH
open Go.RowKit Go.Proofs.YtoekeknfeinphaaW.PrintWords Go.Proofs.YtoekeknfeinphaaW.PrintLast Go.Proofs.YtoekeknfeinphaaW.PrintMore
attribute [local go_sem] max2_int min2_int max_two min_two max_three min_three max_four min_four   -- for this text's walks alone
set_option linter.unusedVariables false
set_option linter.unusedSimpArgs false

/-! ### lockstepref06_Reach: function 14 -/
mutual
def lockstepref06_Reach.l0 : Nat → Int → List Bool → Int → List (List Int) → List (List Int) → Option (List Bool)
 | 0, _, _, _, _, _ => none
 | k + 1, x2, x7, x8, x421000, x421001 => if x8 < (x7.length : Int) then (lockstepref06_Reach.l1 k x2 x7 x8 0 x421000 x421001) else (some x7)
def lockstepref06_Reach.l1 : Nat → Int → List Bool → Int → Int → List (List Int) → List (List Int) → Option (List Bool)
 | 0, _, _, _, _, _, _ => none
 | k + 1, x2, x7, x8, x9, x421000, x421001 => if x9 < (x7.length : Int) then (lockstepref06_Reach.l2 k x2 x7 x8 x9 0 x421000 x421001) else (lockstepref06_Reach.l0 k x2 x7 (wrap64 (x8 + 1)) x421000 x421001)
def lockstepref06_Reach.l2 : Nat → Int → List Bool → Int → Int → Int → List (List Int) → List (List Int) → Option (List Bool)
 | 0, _, _, _, _, _, _, _ => none
 | k + 1, x2, x7, x8, x9, x10, x421000, x421001 => if 0 ≤ x9 then (if x9 < (x7.length : Int) then (if rdOf false x7 x9 = true then (if x9 < (x421000.length : Int) then (lockstepref06_Reach.j3 k x2 x7 x8 x9 x10 (decide (x10 < ((rd_L1 x421000 x9).length : Int))) x421000 x421001) else (none)) else (lockstepref06_Reach.j3 k x2 x7 x8 x9 x10 false x421000 x421001)) else (none)) else (none)
def lockstepref06_Reach.j3 : Nat → Int → List Bool → Int → Int → Int → Bool → List (List Int) → List (List Int) → Option (List Bool)
 | 0, _, _, _, _, _, _, _, _ => none
 | k + 1, x2, x7, x8, x9, x10, x47, x421000, x421001 => if x47 = true then (if 0 ≤ x9 then (if x9 < (x421000.length : Int) then (if 0 ≤ x10 then (if x10 < ((rd_L1 x421000 x9).length : Int) then (if (rd (rd_L1 x421000 x9) x10) = x2 then (lockstepref06_Reach.l2 k x2 x7 x8 x9 (wrap64 (x10 + 1)) x421000 x421001) else (if 0 ≤ (rd (rd_L1 x421000 x9) x10) then (if (rd (rd_L1 x421000 x9) x10) < (x7.length : Int) then (lockstepref06_Reach.l2 k x2 (x7.set ((rd (rd_L1 x421000 x9) x10) : Int).toNat true) x8 x9 (wrap64 (x10 + 1)) x421000 x421001) else (none)) else (none))) else (none)) else (none)) else (none)) else (none)) else (lockstepref06_Reach.l1 k x2 x7 x8 (wrap64 (x9 + 1)) x421000 x421001)
end
def lockstepref06_Reach.f (k : Nat) (l0_0 : List (List Int)) (l0_1 : List (List Int)) (a1 : Int) (a2 : Int) : Option (List Bool) := if 0 ≤ (l0_0.length : Int) then (if ((l0_0.length : Int) : Int).toNat ≤ 281474976710656 then ((some (List.replicate ((l0_0.length : Int) : Int).toNat false : List Bool)).bind fun y421 => (if a1 = a2 then (some y421) else (if 0 ≤ a1 then (if a1 < (y421.length : Int) then (lockstepref06_Reach.l0 k a2 (y421.set (a1 : Int).toNat true) 0 l0_0 l0_1) else (none)) else (none)))) else (none)) else (none)
theorem lockstepref06_Reach.mono_l : ∀ k, (∀ y0 y1 y2 y3 y4, LeO (lockstepref06_Reach.l0 k y0 y1 y2 y3 y4) (lockstepref06_Reach.l0 (k + 1) y0 y1 y2 y3 y4)) ∧ (∀ y0 y1 y2 y3 y4 y5, LeO (lockstepref06_Reach.l1 k y0 y1 y2 y3 y4 y5) (lockstepref06_Reach.l1 (k + 1) y0 y1 y2 y3 y4 y5)) ∧ (∀ y0 y1 y2 y3 y4 y5 y6, LeO (lockstepref06_Reach.l2 k y0 y1 y2 y3 y4 y5 y6) (lockstepref06_Reach.l2 (k + 1) y0 y1 y2 y3 y4 y5 y6)) ∧ (∀ y0 y1 y2 y3 y4 y5 y6 y7, LeO (lockstepref06_Reach.j3 k y0 y1 y2 y3 y4 y5 y6 y7) (lockstepref06_Reach.j3 (k + 1) y0 y1 y2 y3 y4 y5 y6 y7))
 | 0 => ⟨fun _ _ _ _ _ r h => by simp [lockstepref06_Reach.l0] at h, fun _ _ _ _ _ _ r h => by simp [lockstepref06_Reach.l1] at h, fun _ _ _ _ _ _ _ r h => by simp [lockstepref06_Reach.l2] at h, fun _ _ _ _ _ _ _ _ r h => by simp [lockstepref06_Reach.j3] at h⟩
 | k + 1 => by
  obtain ⟨ih0, ih1, ih2, ih3⟩ := lockstepref06_Reach.mono_l k
  refine ⟨?_, ?_, ?_, ?_⟩
  ·intro y0 y1 y2 y3 y4
   unfold lockstepref06_Reach.l0
   repeat' first
   | (with_reducible exact ih0 _ _ _ _ _)
   | (with_reducible exact ih1 _ _ _ _ _ _)
   | (with_reducible exact ih2 _ _ _ _ _ _ _)
   | (with_reducible exact ih3 _ _ _ _ _ _ _ _)
   | (with_reducible exact LeO.refl _)
   | (with_reducible exact LeO.none _)
   | (with_reducible refine LeO.ite ?_ ?_)
   | (with_reducible refine LeO.bind ?_ (fun _ => ?_))
   | exact ih0 _ _ _ _ _
   | exact ih1 _ _ _ _ _ _
   | exact ih2 _ _ _ _ _ _ _
   | exact ih3 _ _ _ _ _ _ _ _
   | exact LeO.none _
   | refine LeO.ite ?_ ?_
   | refine LeO.bind ?_ (fun _ => ?_)
  ·intro y0 y1 y2 y3 y4 y5
   unfold lockstepref06_Reach.l1
   repeat' first
   | (with_reducible exact ih0 _ _ _ _ _)
   | (with_reducible exact ih1 _ _ _ _ _ _)
   | (with_reducible exact ih2 _ _ _ _ _ _ _)
   | (with_reducible exact ih3 _ _ _ _ _ _ _ _)
   | (with_reducible exact LeO.refl _)
   | (with_reducible exact LeO.none _)
   | (with_reducible refine LeO.ite ?_ ?_)
   | (with_reducible refine LeO.bind ?_ (fun _ => ?_))
   | exact ih0 _ _ _ _ _
   | exact ih1 _ _ _ _ _ _
   | exact ih2 _ _ _ _ _ _ _
   | exact ih3 _ _ _ _ _ _ _ _
   | exact LeO.none _
   | refine LeO.ite ?_ ?_
   | refine LeO.bind ?_ (fun _ => ?_)
  ·intro y0 y1 y2 y3 y4 y5 y6
   unfold lockstepref06_Reach.l2
   repeat' first
   | (with_reducible exact ih0 _ _ _ _ _)
   | (with_reducible exact ih1 _ _ _ _ _ _)
   | (with_reducible exact ih2 _ _ _ _ _ _ _)
   | (with_reducible exact ih3 _ _ _ _ _ _ _ _)
   | (with_reducible exact LeO.refl _)
   | (with_reducible exact LeO.none _)
   | (with_reducible refine LeO.ite ?_ ?_)
   | (with_reducible refine LeO.bind ?_ (fun _ => ?_))
   | exact ih0 _ _ _ _ _
   | exact ih1 _ _ _ _ _ _
   | exact ih2 _ _ _ _ _ _ _
   | exact ih3 _ _ _ _ _ _ _ _
   | exact LeO.none _
   | refine LeO.ite ?_ ?_
   | refine LeO.bind ?_ (fun _ => ?_)
  ·intro y0 y1 y2 y3 y4 y5 y6 y7
   unfold lockstepref06_Reach.j3
   repeat' first
   | (with_reducible exact ih0 _ _ _ _ _)
   | (with_reducible exact ih1 _ _ _ _ _ _)
   | (with_reducible exact ih2 _ _ _ _ _ _ _)
   | (with_reducible exact ih3 _ _ _ _ _ _ _ _)
   | (with_reducible exact LeO.refl _)
   | (with_reducible exact LeO.none _)
   | (with_reducible refine LeO.ite ?_ ?_)
   | (with_reducible refine LeO.bind ?_ (fun _ => ?_))
   | exact ih0 _ _ _ _ _
   | exact ih1 _ _ _ _ _ _
   | exact ih2 _ _ _ _ _ _ _
   | exact ih3 _ _ _ _ _ _ _ _
   | exact LeO.none _
   | refine LeO.ite ?_ ?_
   | refine LeO.bind ?_ (fun _ => ?_)
theorem lockstepref06_Reach.mono : ∀ a0 a1 a2 a3 k, LeO (lockstepref06_Reach.f k a0 a1 a2 a3) (lockstepref06_Reach.f (k + 1) a0 a1 a2 a3) := by
 intro a0 a1 a2 a3 k
 obtain ⟨ih0, ih1, ih2, ih3⟩ := lockstepref06_Reach.mono_l k
 unfold lockstepref06_Reach.f
 repeat' first
  | (with_reducible exact ih0 _ _ _ _ _)
  | (with_reducible exact ih1 _ _ _ _ _ _)
  | (with_reducible exact ih2 _ _ _ _ _ _ _)
  | (with_reducible exact ih3 _ _ _ _ _ _ _ _)
  | (with_reducible exact LeO.refl _)
  | (with_reducible exact LeO.none _)
  | (with_reducible refine LeO.ite ?_ ?_)
  | (with_reducible refine LeO.bind ?_ (fun _ => ?_))
  | exact ih0 _ _ _ _ _
  | exact ih1 _ _ _ _ _ _
  | exact ih2 _ _ _ _ _ _ _
  | exact ih3 _ _ _ _ _ _ _ _
  | exact LeO.none _
  | refine LeO.ite ?_ ?_
  | refine LeO.bind ?_ (fun _ => ?_)
set_option maxHeartbeats 8000000 in
set_option maxRecDepth 100000 in
theorem lockstepref06_Reach.calls (k : Nat) (A0_0 : Option Addr) (c0_0 : Nat) (l0_0 : List (List Int)) (A0_1 : Option Addr) (c0_1 : Nat) (l0_1 : List (List Int)) (a1 : Int) (a2 : Int) (r : List Bool) (w : World) (hr0_0 : Kd.C (Kd.slice 3 (Kd.int .i64)) w A0_0 l0_0.length l0_0) (hc0_0 : l0_0.length ≤ c0_0) (hr0_1 : Kd.C (Kd.slice 3 (Kd.int .i64)) w A0_1 l0_1.length l0_1) (hc0_1 : l0_1.length ≤ c0_1) (h : lockstepref06_Reach.f k l0_0 l0_1 a1 a2 = some r) :
 Calls Try.prog 14 #[.agg #[.slice A0_0 l0_0.length c0_0, .slice A0_1 l0_1.length c0_1], .int .i64 a1, .int .i64 a2] w fun e w' => ∃ v0_ : Value, e = .returned (v0_) ∧ Kd.R Kd.bool 4 w' w.heap.size (fun _ => True) v0_ r ∧ Below w.heap.size w w' := by
 have hu26 := Try.underlying26
 have HR0_0 := Aside0.mk hr0_0
 have HC0_0 := Aside0.mk hc0_0
 clear hr0_0 hc0_0
 have HR0_1 := Aside0.mk hr0_1
 have HC0_1 := Aside0.mk hc0_1
 clear hr0_1 hc0_1
 have HB := Aside0.mk (Below.refl w.heap.size w)
 have H : (if 0 ≤ (l0_0.length : Int) then (if ((l0_0.length : Int) : Int).toNat ≤ 281474976710656 then ((some (List.replicate ((l0_0.length : Int) : Int).toNat false : List Bool)).bind fun y421 => (if a1 = a2 then (some y421) else (if 0 ≤ a1 then (if a1 < (y421.length : Int) then (lockstepref06_Reach.l0 k a2 (y421.set (a1 : Int).toNat true) 0 l0_0 l0_1) else (none)) else (none)))) else (none)) else (none)) = some r := h
 clear h
 by_cases c4 : 0 ≤ (l0_0.length : Int)
 ·rw [if_pos c4] at H
  have c4b0 := eq_true c4
  have c4b1 : decide (0 ≤ (l0_0.length : Int)) = true := decide_eq_true c4
  clear c4
  by_cases c5 : ((l0_0.length : Int) : Int).toNat ≤ 281474976710656
  ·rw [if_pos c5] at H
   have c5b0 := eq_true c5
   have c5b1 : decide (((l0_0.length : Int) : Int).toNat ≤ 281474976710656) = true := decide_eq_true c5
   clear c5
   obtain ⟨y421, hy421⟩ : ∃ y_ : List Bool, y_ = (List.replicate ((l0_0.length : Int) : Int).toNat false) := ⟨_, rfl⟩
   replace H : (if a1 = a2 then (some y421) else (if 0 ≤ a1 then (if a1 < (y421.length : Int) then (lockstepref06_Reach.l0 k a2 (y421.set (a1 : Int).toNat true) 0 l0_0 l0_1) else (none)) else (none))) = some r := by first | (rw [hy421]; with_reducible exact H) | (have H2_ := (Option.bind_some _ _).symm.trans H; rw [hy421]; with_reducible exact H2_) | (have H2_ := (Option.bind_some _ _).symm.trans H; with_reducible exact H2_) | with_reducible exact H | (rw [hy421]; exact H) | exact H
   have Ny421 := Aside0.mk hy421
   clear hy421
   by_cases c6 : a1 = a2
   ·rw [if_pos c6] at H
    have c6b0 : (a1 == a2) = true := beq_iff_eq.mpr c6
    have c6b1 : (a1 != a2) = false := bne_eq_false_iff_eq.mpr c6
    clear c6
    obtain rfl := Option.some.inj H
    go_enter Try.func14, Try.ntmps14
    go_wp2_with (first | ((with_reducible refine gate_dst (N := 3) rfl ?_); (try (refine gate_guard (by rfl) ?_; dsimp only)); refine box_event ?hg (N := 3) ?hd (cs := #[.slice A0_0 l0_0.length c0_0, .slice A0_1 l0_1.length c0_1]) (t := 26) ?hr ?_; (case hd => rfl); (case hg => rfl); (case hr => first | (go_simp; done) | (go_simp; rfl)); intro gb420 hg w7 hbox hb; have n0_ := Aside0.mk (below_step (B_) hb); have n1_ := Aside0.mk (hbox); have n2_ := Aside0.mk ((by rw [hg]; exact (below_size (B_)) : w.heap.size ≤ gb420)); have n3_ := Aside0.mk ((by rw [hg]; exact (below_size (B_)) : w.heap.size ≤ gb420)); clear HB; have HB := n0_; have BK420 := n1_; have GW420 := n2_; have GE420 := n3_; clear n0_ n1_ n2_ n3_; clear hb hbox hg; have hcz8_0 : w7.cell? ⟨gb420, 0, none⟩ = some (.slice A0_0 l0_0.length c0_0) := (blk_cell BK420.out 0).trans rfl; have hcz8_1 : w7.cell? ⟨gb420, 1, none⟩ = some (.slice A0_1 l0_1.length c0_1) := (blk_cell BK420.out 1).trans rfl; have hfz8_0 := blk_frozen BK420.out 0; have hfz8_1 := blk_frozen BK420.out 1) | ((with_reducible refine gate_dst (N := 14) rfl ?_); (try (refine gate_guard (by rfl) ?_; dsimp only)); refine Kd.R_make Kd.bool _ 4 rfl (N := 14) rfl 33 _ _ rfl (l0_0.length : Int) rfl rfl Try.underlying33 (.bool false) 1 info4 rfl (by decide) (by omega) false (ok := fun _ => True) (okp := fun _ => True) rfl (fun _ hk => hk) trivial (D_) (Nat.le_trans (Nat.mul_le_mul_right _ (D_ : (l0_0.length : Int).toNat ≤ 281474976710656)) (by omega)) (Below.refl _ _) (Nat.le_refl _) ?_; intro v422 w9 ho10 hb hg_ hnew_; clear hg_ hnew_; (first | rw [← Ny421.out] at ho10 | (simp only [Int.reduceToNat] at ho10; rw [← Ny421.out] at ho10)); have n0_ := Aside0.mk (Kd.R_lower ho10 (below_size (B1_))); have n1_ := Aside0.mk (blk_below (g := gb420) (o := .cells #[.slice A0_0 l0_0.length c0_0, .slice A0_1 l0_1.length c0_1] 26 (0, 0)) (by exact KX_ BK420.out) hb); have n2_ := Aside0.mk (below_step (B1_) hb); clear BK420; clear HB; have HO423 := n0_; have BK420 := n1_; have HB := n2_; clear n0_ n1_ n2_; clear hb ho10))
    go_ret
    exact ⟨_, by first | rfl | (simp [errW_none, errW_some] <;> rfl) | (simp [*, errW_none, errW_some] <;> rfl), by exact RX_ HO423.out, B1_⟩
   rw [if_neg c6] at H
   have c6b0 : (a1 == a2) = false := beq_eq_false_iff_ne.mpr c6
   have c6b1 : (a1 != a2) = true := bne_iff_ne.mpr c6
   by_cases c11 : 0 ≤ a1
   ·rw [if_pos c11] at H
    have c11b0 : decide (0 ≤ a1) = true := decide_eq_true c11
    clear c11
    by_cases c12 : a1 < (y421.length : Int)
    ·rw [if_pos c12] at H
     have c12b0 : decide (a1 < (y421.length : Int)) = true := decide_eq_true c12
     clear c12
     obtain ⟨y424, hy424⟩ : ∃ y_ : List Bool, y_ = (y421.set (a1 : Int).toNat true) := ⟨_, rfl⟩
     replace H : (lockstepref06_Reach.l0 k a2 y424 0 l0_0 l0_1) = some r := by first | (rw [hy424]; with_reducible exact H) | (have H2_ := (Option.bind_some _ _).symm.trans H; rw [hy424]; with_reducible exact H2_) | (have H2_ := (Option.bind_some _ _).symm.trans H; with_reducible exact H2_) | with_reducible exact H | (rw [hy424]; exact H) | exact H
     have Ny424 := Aside0.mk hy424
     clear hy424
     have H' := Aside0.mk H
     clear H
     go_enter Try.func14, Try.ntmps14
     go_wp2_with (first | ((with_reducible refine gate_dst (N := 3) rfl ?_); (try (refine gate_guard (by rfl) ?_; dsimp only)); refine box_event ?hg (N := 3) ?hd (cs := #[.slice A0_0 l0_0.length c0_0, .slice A0_1 l0_1.length c0_1]) (t := 26) ?hr ?_; (case hd => rfl); (case hg => rfl); (case hr => first | (go_simp; done) | (go_simp; rfl)); intro gb420 hg w14 hbox hb; have n0_ := Aside0.mk (below_step (B_) hb); have n1_ := Aside0.mk (hbox); have n2_ := Aside0.mk ((by rw [hg]; exact (below_size (B_)) : w.heap.size ≤ gb420)); have n3_ := Aside0.mk ((by rw [hg]; exact (below_size (B_)) : w.heap.size ≤ gb420)); clear HB; have HB := n0_; have BK420 := n1_; have GW420 := n2_; have GE420 := n3_; clear n0_ n1_ n2_ n3_; clear hb hbox hg; have hcz15_0 : w14.cell? ⟨gb420, 0, none⟩ = some (.slice A0_0 l0_0.length c0_0) := (blk_cell BK420.out 0).trans rfl; have hcz15_1 : w14.cell? ⟨gb420, 1, none⟩ = some (.slice A0_1 l0_1.length c0_1) := (blk_cell BK420.out 1).trans rfl; have hfz15_0 := blk_frozen BK420.out 0; have hfz15_1 := blk_frozen BK420.out 1) | ((with_reducible refine gate_dst (N := 14) rfl ?_); (try (refine gate_guard (by rfl) ?_; dsimp only)); refine Kd.R_make Kd.bool _ 4 rfl (N := 14) rfl 33 _ _ rfl (l0_0.length : Int) rfl rfl Try.underlying33 (.bool false) 1 info4 rfl (by decide) (by omega) false (ok := fun _ => True) (okp := fun _ => True) rfl (fun _ hk => hk) trivial (D_) (Nat.le_trans (Nat.mul_le_mul_right _ (D_ : (l0_0.length : Int).toNat ≤ 281474976710656)) (by omega)) (Below.refl _ _) (Nat.le_refl _) ?_; intro v422 w16 ho17 hb hg_ hnew_; clear hg_ hnew_; (first | rw [← Ny421.out] at ho17 | (simp only [Int.reduceToNat] at ho17; rw [← Ny421.out] at ho17)); have n0_ := Aside0.mk (Kd.R_lower ho17 (below_size (B1_))); have n1_ := Aside0.mk (blk_below (g := gb420) (o := .cells #[.slice A0_0 l0_0.length c0_0, .slice A0_1 l0_1.length c0_1] 26 (0, 0)) (by exact KX_ BK420.out) hb); have n2_ := Aside0.mk (below_step (B1_) hb); clear BK420; clear HB; have HO423 := n0_; have BK420 := n1_; have HB := n2_; clear n0_ n1_ n2_; clear hb ho17; have p13 : 0 ≤ (a1 : Int) := D_; have q13 : (a1 : Int) < ((y421.length : Int) : Int) := D_; obtain ⟨go13, co13, eo13, gb13, gl13, cl13, HG13⟩ := Kd.R_form HO423.out (by omega); (first | cases eo13 | (injection eo13 with ea_ en_ ec_; (first | subst ea_ | (injection ea_ with ea_; subst ea_)); subst ec_; clear en_)); have GB13 := Aside0.mk gb13; have GG13 := Aside0.mk HG13; clear gb13 gl13 HG13; obtain ⟨hx13_0, hf13_0⟩ := Kd.R_celln false HO423.out (a1 : Int) p13 q13; replace p13 := eq_true p13; replace q13 := eq_true q13; obtain ⟨hy18_, hz18_⟩ := Kd.R_celln false HO423.out (a1 : Int) (D_) (D_); have HP18 := Kd.R_putg HO423.out (a1 : Int) true) | ((with_reducible refine gate_store (t := 4) (p := 21) rfl ?_); refine store_event (t := 4) (p := 21) (v := ?vo_w19) (w1 := (w16.setCell ⟨go13, (a1 : Int).toNat, none⟩ (.bool true))) ?hg ?ho ?hn ?hr ?_; (case ho => rfl); (case hg => rfl); (case hn => rfl); (case hr => first | (go_simp; done) | (go_simp; rfl)); intro w19 hw; have hg : w16.grownBy w19 (some go13) := (by rw [hw]; exact HP18.2); have hp_ : Kd.R Kd.bool 4 w19 w.heap.size (fun _ => True) (.slice (some ⟨go13, 0, none⟩) y421.length co13) y424 := (by rw [hw, Ny424.out]; exact HP18.1); clear HP18; have n0_ := Aside0.mk (blk_grown (g := gb420) (o := .cells #[.slice A0_0 l0_0.length c0_0, .slice A0_1 l0_1.length c0_1] 26 (0, 0)) (by exact KX_ BK420.out) hg (Kd.R_ne HO423.out BK420.out (by decide))); have n1_ := Aside0.mk (hp_); have n2_ := Aside0.mk ((by rw [hw]; exact below_set (HB.out) GB13.out : Below w.heap.size w w19)); clear BK420; clear HO423; clear HB; have BK420 := n0_; have HO423 := n1_; have HB := n2_; clear n0_ n1_ n2_; clear hg hw hp_))
     go_loopg [8] k (fun kq v8 w' => ∃ (x7_1 : List Bool) (x8_1 : Int), v8 = .int .i64 x8_1 ∧ Aside0 (lockstepref06_Reach.l0 kq a2 x7_1 x8_1 l0_0 l0_1 = some r) ∧ Aside0 (kq ≤ k) ∧ Aside0 (Kd.R Kd.bool 4 w' w.heap.size (fun _ => True) (.slice (some ⟨go13, 0, none⟩) y421.length co13) x7_1) ∧ Aside0 (w'.heap[gb420]? = some (.cells #[(.slice A0_0 l0_0.length c0_0), (.slice A0_1 l0_1.length c0_1)] 26 (0, 0))) ∧ Aside0 (Below w.heap.size w w'))
     case atStart => exact ⟨(y424), (0), (by first | rfl | (simp; done) | (simp [*]; done)), H', ⟨Nat.le_refl _⟩, ⟨by exact RM_ HO423.out⟩, ⟨by exact KX_ BK420.out⟩, ⟨B1_⟩⟩
     case round =>
      clear H'
      try clear c4b0
      try clear c4b1
      try clear c5b0
      try clear c5b1
      try clear c6
      try clear c6b0
      try clear c6b1
      try clear c11b0
      try clear c12b0
      try clear p13
      try clear q13
      try clear hcz15_0
      try clear hcz15_1
      try clear hfz15_0
      try clear hfz15_1
      try clear hx13_0
      try clear p13
      try clear q13
      obtain ⟨x7_1, x8_1, rfl, HA, HK1, HO_7, BK420, HB⟩ := hrel
      have hl7_1 := (Kd.R_reads' HO_7.out).1
      rw [hl7_1] at HO_7
      (try simp only [hl7_1])
      (try simp only [hl7_1] at BK420)
      cases gk with
      | zero => exact absurd HA.out (by simp [lockstepref06_Reach.l0])
      | succ k1 =>
       have H := HA.out
       clear HA
       simp only [lockstepref06_Reach.l0] at H
       by_cases c20 : x8_1 < (x7_1.length : Int)
       ·rw [if_pos c20] at H
        have c20b0 : decide (x8_1 < (x7_1.length : Int)) = true := decide_eq_true c20
        clear c20
        have H' := Aside0.mk H
        clear H
        go_wp2
        go_loopg [9] k1 (fun kq v9 w' => ∃ (x7_2 : List Bool) (x9_2 : Int), v9 = .int .i64 x9_2 ∧ Aside0 (lockstepref06_Reach.l1 kq a2 x7_2 x8_1 x9_2 l0_0 l0_1 = some r) ∧ Aside0 (kq ≤ k1) ∧ Aside0 (Kd.R Kd.bool 4 w' w.heap.size (fun _ => True) (.slice (some ⟨go13, 0, none⟩) x7_1.length co13) x7_2) ∧ Aside0 (w'.heap[gb420]? = some (.cells #[(.slice A0_0 l0_0.length c0_0), (.slice A0_1 l0_1.length c0_1)] 26 (0, 0))) ∧ Aside0 (Below w.heap.size w w'))
        case atStart => exact ⟨(x7_1), (0), (by first | rfl | (simp; done) | (simp [*]; done)), H', ⟨Nat.le_refl _⟩, ⟨by (try simp only [hl7_1]); exact RM_ HO_7.out⟩, ⟨by (try simp only [hl7_1]); exact KX_ BK420.out⟩, ⟨B1_⟩⟩
        case round =>
         clear H'
         try clear c20b0
         obtain ⟨x7_2, x9_2, rfl, HA, HK2, HO_7, BK420, HB⟩ := hrel
         have hl7_2 := (Kd.R_reads' HO_7.out).1
         rw [hl7_2] at HO_7
         (try simp only [hl7_2])
         (try simp only [hl7_2] at BK420)
         cases gk with
         | zero => exact absurd HA.out (by simp [lockstepref06_Reach.l1])
         | succ k2 =>
          have H := HA.out
          clear HA
          simp only [lockstepref06_Reach.l1] at H
          by_cases c21 : x9_2 < (x7_2.length : Int)
          ·rw [if_pos c21] at H
           have c21b0 : decide (x9_2 < (x7_2.length : Int)) = true := decide_eq_true c21
           clear c21
           have H' := Aside0.mk H
           clear H
           go_wp2
           go_loopg [10] k2 (fun kq v10 w' => ∃ (x7_3 : List Bool) (x10_3 : Int), v10 = .int .i64 x10_3 ∧ Aside0 (lockstepref06_Reach.l2 kq a2 x7_3 x8_1 x9_2 x10_3 l0_0 l0_1 = some r) ∧ Aside0 (kq ≤ k2) ∧ Aside0 (Kd.R Kd.bool 4 w' w.heap.size (fun _ => True) (.slice (some ⟨go13, 0, none⟩) x7_2.length co13) x7_3) ∧ Aside0 (w'.heap[gb420]? = some (.cells #[(.slice A0_0 l0_0.length c0_0), (.slice A0_1 l0_1.length c0_1)] 26 (0, 0))) ∧ Aside0 (Below w.heap.size w w'))
           case atStart => exact ⟨(x7_2), (0), (by first | rfl | (simp; done) | (simp [*]; done)), H', ⟨Nat.le_refl _⟩, ⟨by (try simp only [hl7_1]); (try simp only [hl7_2]); exact RM_ HO_7.out⟩, ⟨by (try simp only [hl7_1]); (try simp only [hl7_2]); exact KX_ BK420.out⟩, ⟨B1_⟩⟩
           case round =>
            clear H'
            try clear c21b0
            obtain ⟨x7_3, x10_3, rfl, HA, HK3, HO_7, BK420, HB⟩ := hrel
            have hl7_3 := (Kd.R_reads' HO_7.out).1
            rw [hl7_3] at HO_7
            (try simp only [hl7_3])
            (try simp only [hl7_3] at BK420)
            cases gk with
            | zero => exact absurd HA.out (by simp [lockstepref06_Reach.l2])
            | succ k3 =>
             have H := HA.out
             clear HA
             simp only [lockstepref06_Reach.l2] at H
             have HC22 := Aside0.mk H
             clear H
             go_upto_region 12 with (fail)
             go_cut [47] (fun v47 wc => ∃ (kq : Nat) (x47_21 : Bool), v47 = .bool x47_21 ∧ Aside0 (lockstepref06_Reach.j3 kq a2 x7_3 x8_1 x9_2 x10_3 x47_21 l0_0 l0_1 = some r) ∧ Aside0 (kq ≤ k3) ∧ Aside0 (Kd.R Kd.bool 4 wc w.heap.size (fun _ => True) (.slice (some ⟨go13, 0, none⟩) x7_3.length co13) x7_3) ∧ Aside0 (wc.heap[gb420]? = some (.cells #[(.slice A0_0 l0_0.length c0_0), (.slice A0_1 l0_1.length c0_1)] 26 (0, 0))) ∧ Aside0 (Below w.heap.size w wc))
             case first =>
              have H := HC22.out
              clear HC22
              by_cases c23 : 0 ≤ x9_2
              ·rw [if_pos c23] at H
               have c23b0 : decide (0 ≤ x9_2) = true := decide_eq_true c23
               clear c23
               (first | rw [c23b0] | (simp only [i64_w, i32_w]; rw [c23b0]) | skip)
               by_cases c24 : x9_2 < (x7_3.length : Int)
               ·rw [if_pos c24] at H
                have c24b0 : decide (x9_2 < (x7_3.length : Int)) = true := decide_eq_true c24
                clear c24
                obtain ⟨bq25, hbq25⟩ : ∃ b_ : Bool, b_ = (rdOf false x7_3 x9_2) := ⟨_, rfl⟩
                replace H : (if bq25 = true then (if x9_2 < (l0_0.length : Int) then (lockstepref06_Reach.j3 k3 a2 x7_3 x8_1 x9_2 x10_3 (decide (x10_3 < ((rd_L1 l0_0 x9_2).length : Int))) l0_0 l0_1) else (none)) else (lockstepref06_Reach.j3 k3 a2 x7_3 x8_1 x9_2 x10_3 false l0_0 l0_1)) = some r := by rw [← hbq25] at H; exact H
                have Nbq25 := Aside0.mk hbq25
                clear hbq25
                by_cases c26 : bq25 = true
                ·subst c26
                 have H1 : (if x9_2 < (l0_0.length : Int) then (lockstepref06_Reach.j3 k3 a2 x7_3 x8_1 x9_2 x10_3 (decide (x10_3 < ((rd_L1 l0_0 x9_2).length : Int))) l0_0 l0_1) else (none)) = some r := by rw [if_pos rfl] at H; exact H
                 clear H
                 have H := H1
                 clear H1
                 by_cases c27 : x9_2 < (l0_0.length : Int)
                 ·rw [if_pos c27] at H
                  have c27b0 : decide (x9_2 < (l0_0.length : Int)) = true := decide_eq_true c27
                  clear c27
                  have H' := Aside0.mk H
                  clear H
                  have p425 : 0 ≤ (x9_2 : Int) := D_
                  have q425 : x9_2 < (x7_3.length : Int) := D_
                  obtain ⟨ad425, e425, hx425_0⟩ := Kd.at_bool (Kd.R_reads' HO_7.out).2.2 x9_2 p425 q425
                  (try rw [← Nbq25.out] at hx425_0)
                  obtain rfl : (⟨go13, 0, none⟩ : Addr) = ad425 := (by injection e425)
                  (first | simp only [add_plain] at hx425_0 | simp only [add_at] at hx425_0 | simp only [Addr.add, Nat.zero_add] at hx425_0 | skip)
                  replace p425 := eq_true p425
                  replace q425 := eq_true q425
                  have hcz28_0 : wr.cell? ⟨gb420, 0, none⟩ = some (.slice A0_0 l0_0.length c0_0) := (blk_cell BK420.out 0).trans rfl
                  have hcz28_1 : wr.cell? ⟨gb420, 1, none⟩ = some (.slice A0_1 l0_1.length c0_1) := (blk_cell BK420.out 1).trans rfl
                  have hfz28_0 := blk_frozen BK420.out 0
                  have hfz28_1 := blk_frozen BK420.out 1
                  have p426 : 0 ≤ (x9_2 : Int) := D_
                  have q426 : x9_2 < (l0_0.length : Int) := D_
                  obtain ⟨ad426, A426_0, c426_0, e426, hx426_0, hl426_0, hi426_0⟩ := at_L1 HR0_0.out x9_2 p426 q426
                  cases e426
                  replace hx426_0 := (HB.out.cell (World.block_lt_of_cell? w _ hx426_0)).trans hx426_0
                  have HR426_0 := Aside0.mk hi426_0
                  have HC426_0 := Aside0.mk hl426_0
                  clear hi426_0 hl426_0
                  replace p426 := eq_true p426
                  replace q426 := eq_true q426
                  go_wp2
                  go_meet
                  case rel => exact ⟨_, (decide (x10_3 < ((rd_L1 l0_0 x9_2).length : Int))), (by first | rfl | (simp; done) | (simp [*]; done)), H', ⟨by have := HK1.out; have := HK2.out; have := HK3.out; first | omega | exact Nat.le_refl _⟩, ⟨by (try simp only [hl7_1]); (try simp only [hl7_2]); (try simp only [hl7_3]); exact RM_ HO_7.out⟩, ⟨by (try simp only [hl7_1]); (try simp only [hl7_2]); (try simp only [hl7_3]); exact KX_ BK420.out⟩, ⟨B1_⟩⟩
                 rw [if_neg c27] at H
                 exact absurd H (by simp)
                replace c26 := Bool.eq_false_iff.mpr c26
                subst c26
                have H1 : (lockstepref06_Reach.j3 k3 a2 x7_3 x8_1 x9_2 x10_3 false l0_0 l0_1) = some r := by rw [if_neg (show ¬ (false = true) by decide)] at H; exact H
                clear H
                have H := H1
                clear H1
                have H' := Aside0.mk H
                clear H
                have p425 : 0 ≤ (x9_2 : Int) := D_
                have q425 : x9_2 < (x7_3.length : Int) := D_
                obtain ⟨ad425, e425, hx425_0⟩ := Kd.at_bool (Kd.R_reads' HO_7.out).2.2 x9_2 p425 q425
                (try rw [← Nbq25.out] at hx425_0)
                obtain rfl : (⟨go13, 0, none⟩ : Addr) = ad425 := (by injection e425)
                (first | simp only [add_plain] at hx425_0 | simp only [add_at] at hx425_0 | simp only [Addr.add, Nat.zero_add] at hx425_0 | skip)
                replace p425 := eq_true p425
                replace q425 := eq_true q425
                go_wp2
                go_meet
                case rel => exact ⟨_, (false), (by first | rfl | (simp; done) | (simp [*]; done)), H', ⟨by have := HK1.out; have := HK2.out; have := HK3.out; first | omega | exact Nat.le_refl _⟩, ⟨by (try simp only [hl7_1]); (try simp only [hl7_2]); (try simp only [hl7_3]); exact RM_ HO_7.out⟩, ⟨by (try simp only [hl7_1]); (try simp only [hl7_2]); (try simp only [hl7_3]); exact KX_ BK420.out⟩, ⟨B1_⟩⟩
               rw [if_neg c24] at H
               exact absurd H (by simp)
              rw [if_neg c23] at H
              exact absurd H (by simp)
             case rest =>
              clear HC22
              obtain ⟨kq, x47_21, rfl, HA, HJ21, HO_7, BK420, HB⟩ := hcut
              cases kq with
              | zero => exact absurd HA.out (by simp [lockstepref06_Reach.j3])
              | succ kj21 =>
               have H := HA.out
               clear HA
               simp only [lockstepref06_Reach.j3] at H
               by_cases c29 : x47_21 = true
               ·subst c29
                have H1 : (if 0 ≤ x9_2 then (if x9_2 < (l0_0.length : Int) then (if 0 ≤ x10_3 then (if x10_3 < ((rd_L1 l0_0 x9_2).length : Int) then (if (rd (rd_L1 l0_0 x9_2) x10_3) = a2 then (lockstepref06_Reach.l2 kj21 a2 x7_3 x8_1 x9_2 (wrap64 (x10_3 + 1)) l0_0 l0_1) else (if 0 ≤ (rd (rd_L1 l0_0 x9_2) x10_3) then (if (rd (rd_L1 l0_0 x9_2) x10_3) < (x7_3.length : Int) then (lockstepref06_Reach.l2 kj21 a2 (x7_3.set ((rd (rd_L1 l0_0 x9_2) x10_3) : Int).toNat true) x8_1 x9_2 (wrap64 (x10_3 + 1)) l0_0 l0_1) else (none)) else (none))) else (none)) else (none)) else (none)) else (none)) = some r := by rw [if_pos rfl] at H; exact H
                clear H
                have H := H1
                clear H1
                by_cases c30 : 0 ≤ x9_2
                ·rw [if_pos c30] at H
                 have c30b0 : decide (0 ≤ x9_2) = true := decide_eq_true c30
                 clear c30
                 by_cases c31 : x9_2 < (l0_0.length : Int)
                 ·rw [if_pos c31] at H
                  have c31b0 : decide (x9_2 < (l0_0.length : Int)) = true := decide_eq_true c31
                  clear c31
                  by_cases c32 : 0 ≤ x10_3
                  ·rw [if_pos c32] at H
                   have c32b0 : decide (0 ≤ x10_3) = true := decide_eq_true c32
                   clear c32
                   by_cases c33 : x10_3 < ((rd_L1 l0_0 x9_2).length : Int)
                   ·rw [if_pos c33] at H
                    have c33b0 : decide (x10_3 < ((rd_L1 l0_0 x9_2).length : Int)) = true := decide_eq_true c33
                    clear c33
                    by_cases c34 : (rd (rd_L1 l0_0 x9_2) x10_3) = a2
                    ·rw [if_pos c34] at H
                     have c34b0 : ((rd (rd_L1 l0_0 x9_2) x10_3) == a2) = true := beq_iff_eq.mpr c34
                     have c34b1 : ((rd (rd_L1 l0_0 x9_2) x10_3) != a2) = false := bne_eq_false_iff_eq.mpr c34
                     clear c34
                     have H' := Aside0.mk H
                     clear H
                     have hcz35_0 : wc.cell? ⟨gb420, 0, none⟩ = some (.slice A0_0 l0_0.length c0_0) := (blk_cell BK420.out 0).trans rfl
                     have hcz35_1 : wc.cell? ⟨gb420, 1, none⟩ = some (.slice A0_1 l0_1.length c0_1) := (blk_cell BK420.out 1).trans rfl
                     have hfz35_0 := blk_frozen BK420.out 0
                     have hfz35_1 := blk_frozen BK420.out 1
                     have p427 : 0 ≤ (x9_2 : Int) := D_
                     have q427 : x9_2 < (l0_0.length : Int) := D_
                     obtain ⟨ad427, A427_0, c427_0, e427, hx427_0, hl427_0, hi427_0⟩ := at_L1 HR0_0.out x9_2 p427 q427
                     cases e427
                     replace hx427_0 := (HB.out.cell (World.block_lt_of_cell? w _ hx427_0)).trans hx427_0
                     have HR427_0 := Aside0.mk hi427_0
                     have HC427_0 := Aside0.mk hl427_0
                     clear hi427_0 hl427_0
                     replace p427 := eq_true p427
                     replace q427 := eq_true q427
                     have p428 : 0 ≤ (x10_3 : Int) := D_
                     have q428 : x10_3 < ((rd_L1 l0_0 x9_2).length : Int) := D_
                     obtain ⟨ad428, e428, hx428_0⟩ := Kd.at_int HR427_0.out x10_3 p428 q428
                     cases e428
                     replace hx428_0 := (HB.out.cell (World.block_lt_of_cell? w _ hx428_0)).trans hx428_0
                     replace p428 := eq_true p428
                     replace q428 := eq_true q428
                     go_wp2
                     (try simp only [← hl7_3])
                     go_roundg kj21
                     case measure => have := HK1.out; have := HK2.out; have := HK3.out; have := HJ21.out; omega
                     case rel => exact ⟨(x7_3), (wrap64 (x10_3 + 1)), (by first | rfl | (simp; done) | (simp [*]; done)), H', ⟨by have := HK1.out; have := HK2.out; have := HK3.out; have := HJ21.out; omega⟩, ⟨by (try simp only [hl7_1]); (try simp only [hl7_2]); (try simp only [hl7_3]); exact RM_ HO_7.out⟩, ⟨by (try simp only [hl7_1]); (try simp only [hl7_2]); (try simp only [hl7_3]); exact KX_ BK420.out⟩, ⟨B1_⟩⟩
                    rw [if_neg c34] at H
                    have c34b0 : ((rd (rd_L1 l0_0 x9_2) x10_3) == a2) = false := beq_eq_false_iff_ne.mpr c34
                    have c34b1 : ((rd (rd_L1 l0_0 x9_2) x10_3) != a2) = true := bne_iff_ne.mpr c34
                    by_cases c36 : 0 ≤ (rd (rd_L1 l0_0 x9_2) x10_3)
                    ·rw [if_pos c36] at H
                     have c36b0 : decide (0 ≤ (rd (rd_L1 l0_0 x9_2) x10_3)) = true := decide_eq_true c36
                     clear c36
                     by_cases c37 : (rd (rd_L1 l0_0 x9_2) x10_3) < (x7_3.length : Int)
                     ·rw [if_pos c37] at H
                      have c37b0 : decide ((rd (rd_L1 l0_0 x9_2) x10_3) < (x7_3.length : Int)) = true := decide_eq_true c37
                      clear c37
                      obtain ⟨y431, hy431⟩ : ∃ y_ : List Bool, y_ = (x7_3.set ((rd (rd_L1 l0_0 x9_2) x10_3) : Int).toNat true) := ⟨_, rfl⟩
                      replace H : (lockstepref06_Reach.l2 kj21 a2 y431 x8_1 x9_2 (wrap64 (x10_3 + 1)) l0_0 l0_1) = some r := by first | (rw [hy431]; with_reducible exact H) | (have H2_ := (Option.bind_some _ _).symm.trans H; rw [hy431]; with_reducible exact H2_) | (have H2_ := (Option.bind_some _ _).symm.trans H; with_reducible exact H2_) | with_reducible exact H | (rw [hy431]; exact H) | exact H
                      have Ny431 := Aside0.mk hy431
                      clear hy431
                      have H' := Aside0.mk H
                      clear H
                      have hcz39_0 : wc.cell? ⟨gb420, 0, none⟩ = some (.slice A0_0 l0_0.length c0_0) := (blk_cell BK420.out 0).trans rfl
                      have hcz39_1 : wc.cell? ⟨gb420, 1, none⟩ = some (.slice A0_1 l0_1.length c0_1) := (blk_cell BK420.out 1).trans rfl
                      have hfz39_0 := blk_frozen BK420.out 0
                      have hfz39_1 := blk_frozen BK420.out 1
                      have p427 : 0 ≤ (x9_2 : Int) := D_
                      have q427 : x9_2 < (l0_0.length : Int) := D_
                      obtain ⟨ad427, A427_0, c427_0, e427, hx427_0, hl427_0, hi427_0⟩ := at_L1 HR0_0.out x9_2 p427 q427
                      cases e427
                      replace hx427_0 := (HB.out.cell (World.block_lt_of_cell? w _ hx427_0)).trans hx427_0
                      have HR427_0 := Aside0.mk hi427_0
                      have HC427_0 := Aside0.mk hl427_0
                      clear hi427_0 hl427_0
                      replace p427 := eq_true p427
                      replace q427 := eq_true q427
                      have p428 : 0 ≤ (x10_3 : Int) := D_
                      have q428 : x10_3 < ((rd_L1 l0_0 x9_2).length : Int) := D_
                      obtain ⟨ad428, e428, hx428_0⟩ := Kd.at_int HR427_0.out x10_3 p428 q428
                      cases e428
                      replace hx428_0 := (HB.out.cell (World.block_lt_of_cell? w _ hx428_0)).trans hx428_0
                      replace p428 := eq_true p428
                      replace q428 := eq_true q428
                      have p429 : 0 ≤ (x9_2 : Int) := D_
                      have q429 : x9_2 < (l0_0.length : Int) := D_
                      obtain ⟨ad429, A429_0, c429_0, e429, hx429_0, hl429_0, hi429_0⟩ := at_L1 HR0_0.out x9_2 p429 q429
                      obtain rfl : ad427 = ad429 := (by injection e429)
                      replace hx429_0 := (HB.out.cell (World.block_lt_of_cell? w _ hx429_0)).trans hx429_0
                      have HR429_0 := Aside0.mk hi429_0
                      have HC429_0 := Aside0.mk hl429_0
                      clear hi429_0 hl429_0
                      replace p429 := eq_true p429
                      replace q429 := eq_true q429
                      have ea_ := Option.some.inj (hx427_0.symm.trans hx429_0)
                      injection ea_ with ea_ en_ ec_
                      subst ea_
                      subst ec_
                      clear en_
                      have p430 : 0 ≤ (x10_3 : Int) := D_
                      have q430 : x10_3 < ((rd_L1 l0_0 x9_2).length : Int) := D_
                      obtain ⟨ad430, e430, hx430_0⟩ := Kd.at_int HR429_0.out x10_3 p430 q430
                      cases e430
                      replace hx430_0 := (HB.out.cell (World.block_lt_of_cell? w _ hx430_0)).trans hx430_0
                      replace p430 := eq_true p430
                      replace q430 := eq_true q430
                      have p38 : 0 ≤ ((rd (rd_L1 l0_0 x9_2) x10_3) : Int) := D_
                      have q38 : ((rd (rd_L1 l0_0 x9_2) x10_3) : Int) < ((x7_3.length : Int) : Int) := D_
                      obtain ⟨hx38_0, hf38_0⟩ := Kd.R_celln false HO_7.out ((rd (rd_L1 l0_0 x9_2) x10_3) : Int) p38 q38
                      replace p38 := eq_true p38
                      replace q38 := eq_true q38
                      have HP40 := Kd.R_putg HO_7.out ((rd (rd_L1 l0_0 x9_2) x10_3) : Int) true
                      go_wp2_with (first | ((with_reducible refine gate_store (t := 4) (p := 69) rfl ?_); refine store_event (t := 4) (p := 69) (v := ?vo_w41) (w1 := (wc.setCell ⟨go13, ((rd (rd_L1 l0_0 x9_2) x10_3) : Int).toNat, none⟩ (.bool true))) ?hg ?ho ?hn ?hr ?_; (case ho => rfl); (case hg => rfl); (case hn => rfl); (case hr => first | (go_simp; done) | (go_simp; rfl)); intro w41 hw; have hg : wc.grownBy w41 (some go13) := (by rw [hw]; exact HP40.2); have hp_ : Kd.R Kd.bool 4 w41 w.heap.size (fun _ => True) (.slice (some ⟨go13, 0, none⟩) x7_3.length co13) y431 := (by rw [hw, Ny431.out]; exact HP40.1); clear HP40; have n0_ := Aside0.mk (hp_); have n1_ := Aside0.mk (blk_grown (g := gb420) (o := .cells #[.slice (some ad427) l0_0.length c0_0, .slice A0_1 l0_1.length c0_1] 26 (0, 0)) (by exact KX_ BK420.out) hg (Kd.R_ne HO_7.out BK420.out (by decide))); have n2_ := Aside0.mk ((by rw [hw]; exact below_set (HB.out) GB13.out : Below w.heap.size w w41)); clear HO_7; clear BK420; clear HB; have HO_7 := n0_; have BK420 := n1_; have HB := n2_; clear n0_ n1_ n2_; clear hg hw hp_))
                      (try simp only [← hl7_3])
                      go_roundg kj21
                      case measure => have := HK1.out; have := HK2.out; have := HK3.out; have := HJ21.out; omega
                      case rel => exact ⟨(y431), (wrap64 (x10_3 + 1)), (by first | rfl | (simp; done) | (simp [*]; done)), H', ⟨by have := HK1.out; have := HK2.out; have := HK3.out; have := HJ21.out; omega⟩, ⟨by (try simp only [hl7_1]); (try simp only [hl7_2]); (try simp only [hl7_3]); exact RM_ HO_7.out⟩, ⟨by (try simp only [hl7_1]); (try simp only [hl7_2]); (try simp only [hl7_3]); exact KX_ BK420.out⟩, ⟨B1_⟩⟩
                     rw [if_neg c37] at H
                     exact absurd H (by simp)
                    rw [if_neg c36] at H
                    exact absurd H (by simp)
                   rw [if_neg c33] at H
                   exact absurd H (by simp)
                  rw [if_neg c32] at H
                  exact absurd H (by simp)
                 rw [if_neg c31] at H
                 exact absurd H (by simp)
                rw [if_neg c30] at H
                exact absurd H (by simp)
               replace c29 := Bool.eq_false_iff.mpr c29
               subst c29
               have H1 : (lockstepref06_Reach.l1 kj21 a2 x7_3 x8_1 (wrap64 (x9_2 + 1)) l0_0 l0_1) = some r := by rw [if_neg (show ¬ (false = true) by decide)] at H; exact H
               clear H
               have H := H1
               clear H1
               have H' := Aside0.mk H
               clear H
               go_wp2
               (try simp only [← hl7_2, ← hl7_3])
               go_roundg kj21
               case measure => have := HK1.out; have := HK2.out; have := HK3.out; have := HJ21.out; omega
               case rel => exact ⟨(x7_3), (wrap64 (x9_2 + 1)), (by first | rfl | (simp; done) | (simp [*]; done)), H', ⟨by have := HK1.out; have := HK2.out; have := HK3.out; have := HJ21.out; omega⟩, ⟨by (try simp only [hl7_1]); (try simp only [hl7_2]); (try simp only [hl7_3]); exact RM_ HO_7.out⟩, ⟨by (try simp only [hl7_1]); (try simp only [hl7_2]); (try simp only [hl7_3]); exact KX_ BK420.out⟩, ⟨B1_⟩⟩
          rw [if_neg c21] at H
          have c21b0 : decide (x9_2 < (x7_2.length : Int)) = false := decide_eq_false c21
          clear c21
          have H' := Aside0.mk H
          clear H
          go_wp2
          (try simp only [← hl7_1, ← hl7_2])
          go_roundg k2
          case measure => have := HK1.out; have := HK2.out; omega
          case rel => exact ⟨(x7_2), (wrap64 (x8_1 + 1)), (by first | rfl | (simp; done) | (simp [*]; done)), H', ⟨by have := HK1.out; have := HK2.out; omega⟩, ⟨by (try simp only [hl7_1]); (try simp only [hl7_2]); exact RM_ HO_7.out⟩, ⟨by (try simp only [hl7_1]); (try simp only [hl7_2]); exact KX_ BK420.out⟩, ⟨B1_⟩⟩
       rw [if_neg c20] at H
       have c20b0 : decide (x8_1 < (x7_1.length : Int)) = false := decide_eq_false c20
       clear c20
       obtain rfl := Option.some.inj H
       go_wp2
       go_ret
       exact ⟨_, by first | rfl | (simp [errW_none, errW_some] <;> rfl) | (simp [*, errW_none, errW_some] <;> rfl), by exact RX_ HO_7.out, B1_⟩
    rw [if_neg c12] at H
    exact absurd H (by simp)
   rw [if_neg c11] at H
   exact absurd H (by simp)
  rw [if_neg c5] at H
  exact absurd H (by simp)
 rw [if_neg c4] at H
 exact absurd H (by simp)


/-! ### lockstepref06_Small: function 10 -/
def lockstepref06_Small.l0 : Nat → List (List Int) → Int → Option (Bool)
 | 0, _, _ => none
 | k + 1, x0, x3 => if x3 < (x0.length : Int) then (if 0 ≤ x3 then (if ((rd_L1 x0 x3).length : Int) > 100 then (some false) else (if x3 > 100 then (some false) else (lockstepref06_Small.l0 k x0 (wrap64 (x3 + 1))))) else (none)) else (some true)
def lockstepref06_Small.f (k : Nat) (l0 : List (List Int)) : Option (Bool) := lockstepref06_Small.l0 k l0 0
theorem lockstepref06_Small.mono_l : ∀ k, (∀ y0 y1, LeO (lockstepref06_Small.l0 k y0 y1) (lockstepref06_Small.l0 (k + 1) y0 y1))
 | 0 => fun _ _ r h => by simp [lockstepref06_Small.l0] at h
 | k + 1 => by
  have ih0 := lockstepref06_Small.mono_l k
  ·intro y0 y1
   unfold lockstepref06_Small.l0
   repeat' first
   | (with_reducible exact ih0 _ _)
   | (with_reducible exact LeO.refl _)
   | (with_reducible exact LeO.none _)
   | (with_reducible refine LeO.ite ?_ ?_)
   | (with_reducible refine LeO.bind ?_ (fun _ => ?_))
   | exact ih0 _ _
   | exact LeO.none _
   | refine LeO.ite ?_ ?_
   | refine LeO.bind ?_ (fun _ => ?_)
theorem lockstepref06_Small.mono : ∀ a0 k, LeO (lockstepref06_Small.f k a0) (lockstepref06_Small.f (k + 1) a0) := by
 intro a0 k
 have ih0 := lockstepref06_Small.mono_l k
 unfold lockstepref06_Small.f
 repeat' first
  | (with_reducible exact ih0 _ _)
  | (with_reducible exact LeO.refl _)
  | (with_reducible exact LeO.none _)
  | (with_reducible refine LeO.ite ?_ ?_)
  | (with_reducible refine LeO.bind ?_ (fun _ => ?_))
  | exact ih0 _ _
  | exact LeO.none _
  | refine LeO.ite ?_ ?_
  | refine LeO.bind ?_ (fun _ => ?_)
set_option maxHeartbeats 8000000 in
set_option maxRecDepth 100000 in
theorem lockstepref06_Small.calls (k : Nat) (A0 : Option Addr) (c0 : Nat) (l0 : List (List Int)) (r : Bool) (w : World) (hr0 : Kd.C (Kd.slice 3 (Kd.int .i64)) w A0 l0.length l0) (hc0 : l0.length ≤ c0) (h : lockstepref06_Small.f k l0 = some r) :
 Calls Try.prog 10 #[.slice A0 l0.length c0] w fun e w' => e = .returned (.bool r) ∧ Drawn0 w w' := by
 have HR0 := Aside0.mk hr0
 have HC0 := Aside0.mk hc0
 clear hr0 hc0
 have H : (lockstepref06_Small.l0 k l0 0) = some r := h
 clear h
 have H' := Aside0.mk H
 clear H
 go_enter Try.func10, Try.ntmps10
 go_wp2
 go_loopg [3] k (fun kq v3 w' => ∃ (x3_1 : Int), v3 = .int .i64 x3_1 ∧ Aside0 (lockstepref06_Small.l0 kq l0 x3_1 = some r) ∧ Aside0 (kq ≤ k) ∧ Drawn0 w w')
 case atStart => exact ⟨(0), (by first | rfl | (simp; done) | (simp [*]; done)), H', ⟨Nat.le_refl _⟩, by repeat (first | exact Drawn0.refl _ | apply Drawn0.step)⟩
 case round =>
  clear H'
  obtain ⟨x3_1, rfl, HA, HK1, ⟨m1, rfl⟩⟩ := hrel
  cases gk with
  | zero => exact absurd HA.out (by simp [lockstepref06_Small.l0])
  | succ k1 =>
   have H := HA.out
   clear HA
   simp only [lockstepref06_Small.l0] at H
   by_cases c2 : x3_1 < (l0.length : Int)
   ·rw [if_pos c2] at H
    have c2b0 : decide (x3_1 < (l0.length : Int)) = true := decide_eq_true c2
    clear c2
    by_cases c3 : 0 ≤ x3_1
    ·rw [if_pos c3] at H
     have c3b0 : decide (0 ≤ x3_1) = true := decide_eq_true c3
     clear c3
     by_cases c4 : ((rd_L1 l0 x3_1).length : Int) > 100
     ·rw [if_pos c4] at H
      have c4b0 : decide (100 < ((rd_L1 l0 x3_1).length : Int)) = true := decide_eq_true c4
      have c4b1 : decide (100 < (rd_L1 l0 x3_1).length) = true := decide_eq_true (by omega)
      clear c4
      obtain rfl := Option.some.inj H
      have p101 : 0 ≤ (x3_1 : Int) := D_
      have q101 : x3_1 < (l0.length : Int) := D_
      obtain ⟨ad101, A101_0, c101_0, e101, hx101_0, hl101_0, hi101_0⟩ := at_L1 HR0.out x3_1 p101 q101
      cases e101
      have HR101_0 := Aside0.mk hi101_0
      have HC101_0 := Aside0.mk hl101_0
      clear hi101_0 hl101_0
      replace p101 := eq_true p101
      replace q101 := eq_true q101
      go_wp2
      go_ret
      exact ⟨by first | rfl | (simp; done) | (simp [*]; done), by repeat (first | exact Drawn0.refl _ | apply Drawn0.step)⟩
     rw [if_neg c4] at H
     have c4b0 : decide (100 < ((rd_L1 l0 x3_1).length : Int)) = false := decide_eq_false c4
     have c4b1 : decide (100 < (rd_L1 l0 x3_1).length) = false := decide_eq_false (by omega)
     clear c4
     by_cases c5 : x3_1 > 100
     ·rw [if_pos c5] at H
      have c5b0 : decide (100 < x3_1) = true := decide_eq_true c5
      clear c5
      obtain rfl := Option.some.inj H
      have p101 : 0 ≤ (x3_1 : Int) := D_
      have q101 : x3_1 < (l0.length : Int) := D_
      obtain ⟨ad101, A101_0, c101_0, e101, hx101_0, hl101_0, hi101_0⟩ := at_L1 HR0.out x3_1 p101 q101
      cases e101
      have HR101_0 := Aside0.mk hi101_0
      have HC101_0 := Aside0.mk hl101_0
      clear hi101_0 hl101_0
      replace p101 := eq_true p101
      replace q101 := eq_true q101
      go_wp2
      go_ret
      exact ⟨by first | rfl | (simp; done) | (simp [*]; done), by repeat (first | exact Drawn0.refl _ | apply Drawn0.step)⟩
     rw [if_neg c5] at H
     have c5b0 : decide (100 < x3_1) = false := decide_eq_false c5
     clear c5
     have H' := Aside0.mk H
     clear H
     have p101 : 0 ≤ (x3_1 : Int) := D_
     have q101 : x3_1 < (l0.length : Int) := D_
     obtain ⟨ad101, A101_0, c101_0, e101, hx101_0, hl101_0, hi101_0⟩ := at_L1 HR0.out x3_1 p101 q101
     cases e101
     have HR101_0 := Aside0.mk hi101_0
     have HC101_0 := Aside0.mk hl101_0
     clear hi101_0 hl101_0
     replace p101 := eq_true p101
     replace q101 := eq_true q101
     go_wp2
     go_roundg k1
     case measure => have := HK1.out; omega
     case rel => exact ⟨(wrap64 (x3_1 + 1)), (by first | rfl | (simp; done) | (simp [*]; done)), H', ⟨by have := HK1.out; omega⟩, by repeat (first | exact Drawn0.refl _ | apply Drawn0.step)⟩
    rw [if_neg c3] at H
    exact absurd H (by simp)
   rw [if_neg c2] at H
   have c2b0 : decide (x3_1 < (l0.length : Int)) = false := decide_eq_false c2
   clear c2
   obtain rfl := Option.some.inj H
   go_wp2
   go_ret
   exact ⟨by first | rfl | (simp; done) | (simp [*]; done), by repeat (first | exact Drawn0.refl _ | apply Drawn0.step)⟩

-- NOT PRINTED: function 48 (slices_IndexFunc_int_int_48)

-- NOT PRINTED: function 28 (slices_ContainsFunc_int_int_28)

end Go.Proofs.Ytoekeknfeinphaa.G
namespace Go.Proofs.Ytoekeknfeinphaa.GP
open Go.RowKit Go.Proofs.Ytoekeknfeinphaa.G Go.Proofs.YtoekeknfeinphaaW.PrintWords

theorem awake_ok : locksteplaw10_awake.f 100 = some true := by decide +kernel
theorem awake_ev : Ev (fun k => locksteplaw10_awake.f k) true := Ev.of_at (fun k => locksteplaw10_awake.mono k) awake_ok

theorem small_l0 (d : Nat) : ∀ (i : Nat) (s : List (List Int)), s.length ≤ big → i ≤ s.length → s.length - i = d → i ≤ 101 →
    ∃ b, Ev (fun k => lockstepref06_Small.l0 k s (i : Int)) b ∧ (b = true → s.length ≤ 101 ∧ ∀ l ∈ s.drop i, l.length ≤ 100) := by
  induction d with
  | zero =>
    intro i s hb hi hd h1
    refine ⟨true, Ev.succ ?_, fun _ => ⟨by omega, by rw [List.drop_of_length_le (by omega)]; simp⟩⟩
    simp only [lockstepref06_Small.l0]
    exact Ev.ifn (by omega) Ev.pure
  | succ d ih =>
    intro i s hb hi hd h1
    have hbb : big = 9223372036854775807 := rfl
    have hrd : rd_L1 s (i : Int) = s.getD i [] := by simp [rd_L1]
    by_cases hc : ((s.getD i []).length : Int) > 100
    · refine ⟨false, Ev.succ ?_, fun h => by cases h⟩
      simp only [lockstepref06_Small.l0]
      refine Ev.ifp (by omega) (Ev.ifp (by omega) (Ev.ifp (by rw [hrd]; exact hc) Ev.pure))
    · by_cases hc2 : (i : Int) > 100
      · refine ⟨false, Ev.succ ?_, fun h => by cases h⟩
        simp only [lockstepref06_Small.l0]
        refine Ev.ifp (by omega) (Ev.ifp (by omega) (Ev.ifn (by rw [hrd]; exact hc) (Ev.ifp hc2 Ev.pure)))
      · obtain ⟨b, he, hb'⟩ := ih (i + 1) s hb (by omega) (by omega) (by omega)
        refine ⟨b, Ev.succ ?_, fun h => ⟨(hb' h).1, ?_⟩⟩
        · simp only [lockstepref06_Small.l0]
          refine Ev.ifp (by omega) (Ev.ifp (by omega) (Ev.ifn (by rw [hrd]; exact hc) (Ev.ifn hc2 ?_)))
          rw [wrap_nat (by omega)]; exact he
        · rw [drop_getD s i [] (by omega)]
          intro l hl
          rcases List.mem_cons.mp hl with e | e
          · subst e; omega
          · exact (hb' h).2 l e
theorem small_ev (s : List (List Int)) (hb : s.length ≤ big) : ∃ b, Ev (fun k => lockstepref06_Small.f k s) b ∧ (b = true → s.length ≤ 101 ∧ ∀ l ∈ s, l.length ≤ 100) := by
  obtain ⟨b, h1, h2⟩ := small_l0 s.length 0 s hb (by omega) (by omega) (by omega)
  exact ⟨b, by unfold lockstepref06_Small.f; simpa using h1, by simpa using h2⟩

/-! #### Reach -/
def rbn (n : Nat) (s : Sn) : List Bool := (List.range n).map s
@[simp] theorem rbn_length (n : Nat) (s : Sn) : (rbn n s).length = n := by simp [rbn]
theorem rd_rbn (n : Nat) (s : Sn) {y : Nat} (h : y < n) : rdOf false (rbn n s) (y : Int) = s y := by
  simp only [rdOf, Int.toNat_natCast, rbn]; exact getD_map_range _ _ _ _ h
theorem set_rbn (n : Nat) (s : Sn) (y : Nat) : (rbn n s).set y true = rbn n (upd s y) :=
  set_map_range _ _ _ _ _ (by simp [upd]) (fun j hj => by simp [upd, hj])
/-- No way leads out of it. -/
def Closed (S : List (List Nat)) (w : Int) (C : Nat → Prop) : Prop := ∀ a, C a → ∀ y ∈ S.getD a [], (y : Int) ≠ w → C y
def Sub (S : List (List Nat)) (w : Int) (X Y : Sn) : Prop := (∀ z, X z = true → Y z = true) ∧ ∀ C, Closed S w C → (∀ z, X z = true → C z) → ∀ z, Y z = true → C z
theorem Sub.refl (S : List (List Nat)) (w : Int) (X : Sn) : Sub S w X X := ⟨fun _ h => h, fun _ _ h => h⟩
theorem Sub.trans {S : List (List Nat)} {w : Int} {X Y Z : Sn} (h1 : Sub S w X Y) (h2 : Sub S w Y Z) : Sub S w X Z :=
  ⟨fun z h => h2.1 z (h1.1 z h), fun C hC h => h2.2 C hC (h1.2 C hC h)⟩

theorem reach_l2 {S : List (List Nat)} (h : Gr S) (P : List (List Int)) (w : Int) (t i : Nat) (hi : i < S.length) (v : List Bool) (d : Nat) :
    ∀ (j : Nat) (X : Sn), (S.getD i []).length - j = d → j ≤ (S.getD i []).length →
    (∀ Y, Sub S w X Y → (X i = true → ∀ y ∈ (S.getD i []).drop j, (y : Int) ≠ w → Y y = true) → Ev (fun k => lockstepref06_Reach.l1 k w (rbn S.length Y) (t : Int) ((i + 1 : Nat) : Int) (up2 S) P) v) →
    Ev (fun k => lockstepref06_Reach.l2 k w (rbn S.length X) (t : Int) (i : Int) (j : Int) (up2 S) P) v := by
  have hle := h.le
  have hdeg := gr_len h hi
  induction d with
  | zero =>
    intro j X hd hj hK
    have hK' := hK X (Sub.refl _ _ _) (fun _ y hy => by rw [List.drop_of_length_le (by omega)] at hy; cases hy)
    have hj3 : Ev (fun k => lockstepref06_Reach.j3 k w (rbn S.length X) (t : Int) (i : Int) (j : Int) false (up2 S) P) v := by
      refine Ev.succ ?_; simp only [lockstepref06_Reach.j3]
      refine Ev.ifn (by decide) ?_
      rw [wrap_nat (by omega)]; exact hK'
    refine Ev.succ ?_; simp only [lockstepref06_Reach.l2]
    rw [rd_rbn _ _ hi, rdL_up, up_length]
    refine Ev.ifp (by omega) (Ev.ifp (by rw [rbn_length]; omega) ?_)
    by_cases hX : X i = true
    · refine Ev.ifp hX (Ev.ifp (by rw [up2_length]; omega) ?_)
      rw [decide_eq_false (by omega)]; exact hj3
    · exact Ev.ifn hX hj3
  | succ d ih =>
    intro j X hd hj hK
    have hj1 : j < (S.getD i []).length := by omega
    have hy := (h.row i hi).2 _ (getD_mem (d := 0) hj1)
    refine Ev.succ ?_; simp only [lockstepref06_Reach.l2]
    rw [rd_rbn _ _ hi, rdL_up, up_length]
    refine Ev.ifp (by omega) (Ev.ifp (by rw [rbn_length]; omega) ?_)
    by_cases hX : X i = true
    · refine Ev.ifp hX (Ev.ifp (by rw [up2_length]; omega) ?_)
      rw [decide_eq_true (by omega)]
      refine Ev.succ ?_; simp only [lockstepref06_Reach.j3]
      rw [rdL_up, up_length, rd_up]
      have hdr := drop_getD (S.getD i []) j 0 hj1
      have hmem : (S.getD i []).getD j 0 ∈ S.getD i [] := getD_mem hj1
      generalize (S.getD i []).getD j 0 = y at hy hdr hmem
      rw [hdr] at hK
      refine Ev.ifp trivial (Ev.ifp (by omega) (Ev.ifp (by rw [up2_length]; omega) (Ev.ifp (by omega) (Ev.ifp (by omega) ?_))))
      by_cases hw : (y : Int) = w
      · refine Ev.ifp hw ?_
        rw [wrap_nat (by omega)]
        refine ih (j + 1) X (by omega) (by omega) (fun Y hY hYi => hK Y hY (fun hXi z hz hzw => ?_))
        rcases List.mem_cons.mp hz with e | e
        · subst e; exact absurd hw hzw
        · exact hYi hXi z e hzw
      · refine Ev.ifn hw (Ev.ifp (by omega) (Ev.ifp (by rw [rbn_length]; omega) ?_))
        rw [wrap_nat (by omega), Int.toNat_natCast, set_rbn]
        have hs : Sub S w X (upd X y) := ⟨fun z hz => upd_true.mpr (.inr hz), fun C hC hXC z hz => by
          rcases upd_true.mp hz with e | e
          · subst e; exact hC i (hXC i hX) z hmem hw
          · exact hXC z e⟩
        refine ih (j + 1) (upd X y) (by omega) (by omega) (fun Y hY hYi => hK Y (hs.trans hY) (fun hXi z hz hzw => ?_))
        rcases List.mem_cons.mp hz with e | e
        · subst e; exact hY.1 z (upd_self _ _)
        · exact hYi (upd_true.mpr (.inr hXi)) z e hzw
    · refine Ev.ifn hX ?_
      refine Ev.succ ?_; simp only [lockstepref06_Reach.j3]
      refine Ev.ifn (by decide) ?_
      rw [wrap_nat (by omega)]; exact hK X (Sub.refl _ _ _) (fun hXi => absurd hXi hX)
theorem reach_l1 {S : List (List Nat)} (h : Gr S) (P : List (List Int)) (w : Int) (t : Nat) (ht : t < S.length) (v : List Bool) (d : Nat) :
    ∀ (i : Nat) (X : Sn), S.length - i = d → i ≤ S.length →
    (∀ Y, Sub S w X Y → (∀ a, i ≤ a → a < S.length → X a = true → ∀ y ∈ S.getD a [], (y : Int) ≠ w → Y y = true) → Ev (fun k => lockstepref06_Reach.l0 k w (rbn S.length Y) ((t + 1 : Nat) : Int) (up2 S) P) v) →
    Ev (fun k => lockstepref06_Reach.l1 k w (rbn S.length X) (t : Int) (i : Int) (up2 S) P) v := by
  have hle := h.le
  induction d with
  | zero =>
    intro i X hd hi hK
    refine Ev.succ ?_; simp only [lockstepref06_Reach.l1]
    refine Ev.ifn (by rw [rbn_length]; omega) ?_
    rw [wrap_nat (by omega)]
    exact hK X (Sub.refl _ _ _) (fun a h1 h2 => by omega)
  | succ d ih =>
    intro i X hd hi hK
    refine Ev.succ ?_; simp only [lockstepref06_Reach.l1]
    refine Ev.ifp (by rw [rbn_length]; omega) ?_
    refine reach_l2 h P w t i (by omega) v _ 0 X rfl (by omega) (fun Y hY hYi => ?_)
    refine ih (i + 1) Y (by omega) (by omega) (fun Z hZ hZi => hK Z (hY.trans hZ) (fun a h1 h2 hXa y hy hyw => ?_))
    by_cases e : a = i
    · subst e
      exact hZ.1 y (hYi hXa y (by simpa using hy) hyw)
    · exact hZi a (by omega) h2 (hY.1 a hXa) y hy hyw
noncomputable def rchb (S : List (List Nat)) (w : Int) (r : Nat) : Sn := fun z => @decide (Rch S w r z) (Classical.propDecidable _)
theorem rchb_true {S : List (List Nat)} {w : Int} {r z : Nat} : rchb S w r z = true ↔ Rch S w r z := by unfold rchb; exact @decide_eq_true_iff _ (Classical.propDecidable _)
theorem rch_closed (S : List (List Nat)) (w : Int) (r : Nat) : Closed S w (Rch S w r) := fun _ ha _ hy hw => .step ha hy hw
theorem closed_eq {S : List (List Nat)} {w : Int} {r : Nat} {X : Sn} (hr : X r = true) (hX : ∀ z, X z = true → Rch S w r z) (hc : Closed S w (fun z => X z = true)) : X = rchb S w r := by
  funext z
  have e : X z = true ↔ rchb S w r z = true := by
    rw [rchb_true]
    refine ⟨hX z, fun hz => ?_⟩
    induction hz with
    | base _ => exact hr
    | @step a y _ hy hw ih => exact hc a ih y hy hw
  cases h1 : X z <;> cases h2 : rchb S w r z
  · rfl
  · rw [h1, h2] at e; exact absurd (e.mpr rfl) (by decide)
  · rw [h1, h2] at e; exact absurd (e.mp rfl) (by decide)
  · rfl
theorem reach_l0 {S : List (List Nat)} (h : Gr S) (P : List (List Int)) (w : Int) (r : Nat) (hr : r < S.length) (d : Nat) :
    ∀ (t : Nat) (X : Sn), S.length - t = d → t ≤ S.length → X r = true → (∀ z, X z = true → Rch S w r z) → (Closed S w (fun z => X z = true) ∨ t + 1 + cnt S.length X ≤ S.length) →
    Ev (fun k => lockstepref06_Reach.l0 k w (rbn S.length X) (t : Int) (up2 S) P) (rbn S.length (rchb S w r)) := by
  have hle := h.le
  induction d with
  | zero =>
    intro t X hd ht hXr hX hI
    refine Ev.succ ?_; simp only [lockstepref06_Reach.l0]
    refine Ev.ifn (by rw [rbn_length]; omega) ?_
    rcases hI with hc | hc
    · rw [closed_eq hXr hX hc]; exact Ev.pure
    · omega
  | succ d ih =>
    intro t X hd ht hXr hX hI
    refine Ev.succ ?_; simp only [lockstepref06_Reach.l0]
    refine Ev.ifp (by rw [rbn_length]; omega) ?_
    refine reach_l1 h P w t (by omega) _ _ 0 X rfl (by omega) (fun Y hY hYa => ?_)
    refine ih (t + 1) Y (by omega) (by omega) (hY.1 r hXr) (hY.2 _ (rch_closed S w r) hX) ?_
    by_cases hc : Closed S w (fun z => X z = true)
    · refine .inl (fun a ha y hy hw => ?_)
      exact hY.1 y (hc a (hY.2 _ hc (fun _ hz => hz) a ha) y hy hw)
    · right
      rcases hI with hc' | hI
      · exact absurd hc' hc
      · have : ∃ a y, X a = true ∧ y ∈ S.getD a [] ∧ (y : Int) ≠ w ∧ X y = false := by
          refine Classical.byContradiction (fun hn => hc (fun a ha y hy hw => ?_))
          cases hq : X y with
          | true => exact hq
          | false => exact absurd ⟨a, y, ha, hy, hw, hq⟩ hn
        obtain ⟨a, y, ha, hy, hw, hq⟩ := this
        have haS := (hX a ha).lt h hr
        have := cnt_lt hY.1 ((h.row a haS).2 y hy) hq (hYa a (Nat.zero_le _) haS ha y hy hw)
        omega
theorem reach_ok {S : List (List Nat)} (h : Gr S) (P : List (List Int)) (w : Int) (r : Nat) (hr : r < S.length) : Ev (fun k => lockstepref06_Reach.f k (up2 S) P (r : Int) w) (rbn S.length (rchb S w r)) := by
  have hle := h.le
  unfold lockstepref06_Reach.f
  have e0 : List.replicate (((up2 S).length : Int)).toNat false = rbn S.length none' := by
    rw [up2_length, Int.toNat_natCast]
    apply List.ext_getElem
    · simp
    · intro j h1 h2; simp [rbn, none']
  refine Ev.ifp (by omega) (Ev.ifp (by rw [up2_length]; omega) ?_)
  rw [e0]
  simp only [Option.bind_some]
  by_cases hw : (r : Int) = w
  · refine Ev.ifp hw (Ev.pure.of_eq ?_)
    congr 1
    funext z
    cases hq : rchb S w r z with
    | false => rfl
    | true =>
      have h1 := rchb_true.mp hq
      exfalso
      induction h1 with
      | base h2 => exact h2 hw
      | step h1 _ _ ih => exact ih (rchb_true.mpr h1)
  · refine Ev.ifn hw (Ev.ifp (by omega) (Ev.ifp (by rw [rbn_length]; omega) ?_))
    rw [Int.toNat_natCast, set_rbn]
    have hu := cnt_upd (n := S.length) (s := none') hr rfl
    rw [cnt_none] at hu
    refine reach_l0 h P w r hr S.length 0 (upd none' r) (by omega) (by omega) (upd_self _ _) (fun z hz => ?_) (.inr (by omega))
    rcases upd_true.mp hz with e | e
    · subst e; exact .base hw
    · cases e
section
variable {S : List (List Nat)} {r : Nat} {at_ par : Nat → Nat}
theorem Gd.small (hD : Gd S r at_ par) : (dtl S r).length ≤ 1000 := by rw [dtl_length]; have := hD.gr.le; omega
theorem Gd.over_ev (hD : Gd S r at_ par) {a b : Nat} (ha : a < S.length) (hb : b < S.length) {v : Bool} (h : v = true ↔ Dm S r a b) : Ev (fun k => dom_Over.f k (dtl S r) (a : Int) (b : Int)) v :=
  (over_ok _ hD.small _ _).of_eq (hD.over_eq ha hb v h)
open Classical in
theorem Gd.over_ev' (hD : Gd S r at_ par) {a b : Nat} (ha : a < S.length) (hb : b < S.length) : Ev (fun k => dom_Over.f k (dtl S r) (a : Int) (b : Int)) (decide (Dm S r a b)) :=
  hD.over_ev ha hb decide_eq_true_iff
theorem Gd.meet_ev (hD : Gd S r at_ par) {a b : Nat} (ha : Rch S (-1) r a) (hb : Rch S (-1) r b) : ∃ m : Nat, Ev (fun k => dom_Meet.f k (dtl S r) (a : Int) (b : Int)) (m : Int) ∧ Dm S r m a ∧ Dm S r m b ∧ ∀ c, Dm S r c a → Dm S r c b → Dm S r c m := by
  obtain ⟨m, h1, h2⟩ := hD.meet ha hb
  exact ⟨m, (meet_ok _ hD.small _ _).of_eq h1, h2⟩
theorem Gd.meet_no_ev (hD : Gd S r at_ par) {a b : Nat} (ha : a < S.length) (hb : b < S.length) (h : ¬ (Rch S (-1) r a ∧ Rch S (-1) r b)) : Ev (fun k => dom_Meet.f k (dtl S r) (a : Int) (b : Int)) (-2) :=
  (meet_ok _ hD.small _ _).of_eq (hD.meet_no ha hb h)
end
theorem root_mod {a : Int} {n : Nat} (h : (Lit.int .u8 a).wf = true) (hn : 0 < n) : Int.tmod (wrap64 a) (n : Int) = ((a.toNat % n : Nat) : Int) ∧ a.toNat % n < n := by
  have h0 : 0 ≤ a ∧ a < 256 := by simp [Lit.wf, IntKind.min, IntKind.max, IntKind.signed, IntKind.bits] at h; omega
  refine ⟨?_, Nat.mod_lt _ hn⟩
  rw [wrap_id (by omega) (by omega)]
  obtain ⟨m, rfl⟩ : ∃ m : Nat, a = (m : Int) := ⟨a.toNat, by omega⟩
  rw [Int.toNat_natCast, Int.ofNat_tmod]
theorem order_nil (r : Int) : Ev (fun k => graph_Order.f k [] [] r) [] := order_no r (may_bad (s := []) (by simp) (by simp) (by decide) [])
theorem tree_nil (r : Int) : Ev (fun k => dom_Tree.f k [] [] r) [] := tree_no (order_nil r)

theorem getD_lt {S : List (List Nat)} {a y : Nat} (h : y ∈ S.getD a []) : a < S.length := by
  by_cases h1 : a < S.length
  · exact h1
  · rw [List.getD_eq_getElem?_getD, List.getElem?_eq_none (by omega)] at h; simp at h
theorem Rch.head {S : List (List Nat)} {w : Int} {a y b : Nat} (ha : (a : Int) ≠ w) (hy : y ∈ S.getD a []) (h : Rch S w y b) : Rch S w a b := Rch.trans (.step (.base ha) hy h.first) h

/-! #### the ways back -/
open Classical in
noncomputable def dmb (S : List (List Nat)) (a b : Nat) : Bool := decide (Dm S 0 a b)
theorem dmb_true {S : List (List Nat)} {a b : Nat} : dmb S a b = true ↔ Dm S 0 a b := by simp [dmb]
/-- The ways back from a block, of the first m of its ways. -/
noncomputable def rowb (S : List (List Nat)) (i m : Nat) : List S48 := (((S.getD i []).take m).filter fun b => dmb S b i).map fun b : Nat => (⟨(i : Int), (b : Int)⟩ : S48)
noncomputable def bkt (S : List (List Nat)) : Nat → List S48
  | 0 => []
  | i + 1 => bkt S i ++ rowb S i (S.getD i []).length
noncomputable def bks (S : List (List Nat)) : List S48 := bkt S S.length
theorem rowb_len {S : List (List Nat)} (hG : Gr S) {i : Nat} (hi : i < S.length) (m : Nat) : (rowb S i m).length ≤ 64 := by
  unfold rowb
  rw [List.length_map]
  have h1 := List.length_filter_le (fun b => dmb S b i) ((S.getD i []).take m)
  have h2 : ((S.getD i []).take m).length ≤ (S.getD i []).length := by rw [List.length_take]; omega
  have h3 := gr_len hG hi
  omega
theorem bkt_len {S : List (List Nat)} (hG : Gr S) : ∀ i, i ≤ S.length → (bkt S i).length ≤ 64 * i
  | 0, _ => by simp [bkt]
  | i + 1, hi => by
    have h1 := bkt_len hG i (by omega)
    have h2 := rowb_len hG (i := i) (by omega) (S.getD i []).length
    rw [bkt, List.length_append]; omega
theorem rowb_mem {S : List (List Nat)} {i m : Nat} {x : S48} (h : x ∈ rowb S i m) : ∃ b : Nat, x = ⟨(i : Int), (b : Int)⟩ ∧ b ∈ S.getD i [] ∧ Dm S 0 b i := by
  unfold rowb at h
  obtain ⟨b, hb, rfl⟩ := List.mem_map.mp h
  obtain ⟨h1, h2⟩ := List.mem_filter.mp hb
  exact ⟨b, rfl, List.mem_of_mem_take h1, dmb_true.mp h2⟩
theorem bkt_mem {S : List (List Nat)} {x : S48} : ∀ i, x ∈ bkt S i → ∃ a b : Nat, a < i ∧ x = ⟨(a : Int), (b : Int)⟩ ∧ Bck S a b
  | 0, h => by simp [bkt] at h
  | i + 1, h => by
    rw [bkt] at h
    rcases List.mem_append.mp h with h | h
    · obtain ⟨a, b, h1, h2, h3⟩ := bkt_mem i h; exact ⟨a, b, by omega, h2, h3⟩
    · obtain ⟨b, h1, h2, h3⟩ := rowb_mem h; exact ⟨i, b, by omega, h1, h2, h3⟩
theorem bkt_in {S : List (List Nat)} {a b : Nat} (h : Bck S a b) : ∀ i, a < i → (⟨(a : Int), (b : Int)⟩ : S48) ∈ bkt S i
  | 0, hi => by omega
  | i + 1, hi => by
    rw [bkt]
    by_cases e : a = i
    · subst e
      refine List.mem_append.mpr (.inr ?_)
      unfold rowb
      rw [List.take_length]
      exact List.mem_map.mpr ⟨b, List.mem_filter.mpr ⟨h.1, dmb_true.mpr h.2⟩, rfl⟩
    · exact List.mem_append.mpr (.inl (bkt_in h i (by omega)))
theorem bks_mem {S : List (List Nat)} {a b : Nat} : (⟨(a : Int), (b : Int)⟩ : S48) ∈ bks S ↔ Bck S a b := by
  constructor
  · intro h
    obtain ⟨a', b', _, e, h2⟩ := bkt_mem _ h
    injection e with e1 e2
    rw [show a = a' by omega, show b = b' by omega]; exact h2
  · intro h; exact bkt_in h _ (getD_lt h.1)
section
variable {S : List (List Nat)} {at_ par : Nat → Nat}
theorem over_dmb (hD : Gd S 0 at_ par) {a b : Nat} (ha : a < S.length) (hb : b < S.length) : Ev (fun k => dom_Over.f k (dtl S 0) (a : Int) (b : Int)) (dmb S a b) := hD.over_ev ha hb dmb_true
theorem backs_l1 (hD : Gd S 0 at_ par) {i : Nat} (hi : i < S.length) (v : List S48) (H : Ev (fun k => loop_Backs.l0 k (dtl S 0) (bkt S (i + 1)) (up2 S) (S.length : Int) ((i + 1 : Nat) : Int)) v) (d : Nat) : ∀ m, m ≤ (S.getD i []).length → (S.getD i []).length - m = d →
    Ev (fun k => loop_Backs.l1 k (dtl S 0) (bkt S i ++ rowb S i m) (i : Int) (up2 S) (S.length : Int) (i : Int) (up (S.getD i [])) ((S.getD i []).length : Int) (m : Int)) v := by
  have hG := hD.gr
  have hle := hG.le
  have hrl := gr_len hG hi
  have hbl := bkt_len hG i (by omega)
  induction d with
  | zero =>
    intro m hm hd
    obtain rfl : m = (S.getD i []).length := by omega
    refine Ev.succ ?_; simp only [loop_Backs.l1]
    refine Ev.ifn (by omega) ?_
    rw [wrap_nat (by omega)]; exact H
  | succ d ih =>
    intro m hm hd
    have hml : m < (S.getD i []).length := by omega
    have hy := (hG.row i hi).2 _ (getD_mem (d := 0) hml)
    have h2 := rowb_len hG hi m
    have hn := ih (m + 1) (by omega) (by omega)
    have hs : rowb S i (m + 1) = rowb S i m ++ (if dmb S ((S.getD i []).getD m 0) i = true then [⟨(i : Int), (((S.getD i []).getD m 0 : Nat) : Int)⟩] else []) := by
      unfold rowb
      rw [take_getD _ m 0 hml, List.filter_append, List.map_append]
      cases e : dmb S ((S.getD i []).getD m 0) i with
      | true => rw [List.filter_cons_of_pos (p := fun b => dmb S b i) e]; rfl
      | false => rw [List.filter_cons_of_neg (p := fun b => dmb S b i) (show ¬ dmb S _ i = true by rw [e]; decide)]; simp
    rw [hs] at hn
    refine Ev.succ ?_; simp only [loop_Backs.l1]
    rw [rd_up, wrap_nat (by omega), up_length]
    refine Ev.ifp (by omega) (Ev.ifp (by omega) (Ev.ifp (by omega) (Ev.bind (over_dmb hD hy hi) ?_)))
    cases e : dmb S ((S.getD i []).getD m 0) i with
    | true =>
      rw [e, if_pos rfl, ← List.append_assoc] at hn
      exact Ev.ifp rfl (Ev.ifp (by rw [List.length_append]; omega) hn)
    | false =>
      rw [e, if_neg (by decide), List.append_nil] at hn
      exact Ev.ifn (by decide) hn
theorem backs_l0 (hD : Gd S 0 at_ par) (d : Nat) : ∀ i, i ≤ S.length → S.length - i = d → Ev (fun k => loop_Backs.l0 k (dtl S 0) (bkt S i) (up2 S) (S.length : Int) (i : Int)) (bks S) := by
  induction d with
  | zero =>
    intro i hi hd
    obtain rfl : i = S.length := by omega
    refine Ev.succ ?_; simp only [loop_Backs.l0]
    exact Ev.ifn (by omega) Ev.pure
  | succ d ih =>
    intro i hi hd
    have h := backs_l1 hD (i := i) (by omega) (bks S) (ih (i + 1) (by omega) (by omega)) _ 0 (Nat.zero_le _) rfl
    rw [show rowb S i 0 = [] by simp [rowb], List.append_nil] at h
    refine Ev.succ ?_; simp only [loop_Backs.l0]
    rw [rdL_up, up_length]
    exact Ev.ifp (by omega) (Ev.ifp (by omega) (Ev.ifp (by rw [up2_length]; omega) h))
theorem tree_ok0 (hG : Gr S) : Ev (fun k => dom_Tree.f k (up2 S) (up2 (pr S)) 0) (dtl S 0) := by
  have := tree_ok hG (r := 0) hG.pos
  exact this
theorem backs_ok (hG : Gr S) : Ev (fun k => loop_Backs.f k (up2 S) (up2 (pr S))) (bks S) := by
  obtain ⟨at_, par, hD⟩ := gd_ex hG hG.pos
  unfold loop_Backs.f
  refine Ev.bind (tree_ok0 hG) ?_
  rw [up2_length]
  exact backs_l0 hD S.length 0 (Nat.zero_le _) rfl
end
/-! #### no graph: no tree, no ways back -/
theorem overT_nil (a b : Int) : overT [] a b = false := by
  unfold overT
  rw [show inT [] [a, b] = false from rfl]; rfl
theorem over_nil (a b : Int) : Ev (fun k => dom_Over.f k [] a b) false := (over_ok [] (by simp) a b).of_eq (overT_nil a b)
theorem backs_no_l1 (s : List (List Int)) (i : Nat) (hi : (i : Int) < 9223372036854775807) (r : List Int) (hr : r.length ≤ big) (H : Ev (fun k => loop_Backs.l0 k [] [] s (s.length : Int) ((i + 1 : Nat) : Int)) []) (d : Nat) : ∀ m, m ≤ r.length → r.length - m = d →
    Ev (fun k => loop_Backs.l1 k [] [] (i : Int) s (s.length : Int) (i : Int) r (r.length : Int) (m : Int)) [] := by
  have hbb : big = 9223372036854775807 := rfl
  induction d with
  | zero =>
    intro m hm hd
    refine Ev.succ ?_; simp only [loop_Backs.l1]
    refine Ev.ifn (by omega) ?_
    rw [wrap_nat (by omega)]; exact H
  | succ d ih =>
    intro m hm hd
    refine Ev.succ ?_; simp only [loop_Backs.l1]
    refine Ev.ifp (by omega) (Ev.ifp (by omega) (Ev.ifp (by omega) (Ev.bind (over_nil _ _) (Ev.ifn (by decide) ?_))))
    rw [wrap_nat (i := m) (by omega)]
    exact ih (m + 1) (by omega) (by omega)
theorem backs_no_l0 (s : List (List Int)) (hb : s.length ≤ big) (hr : ∀ l ∈ s, l.length ≤ big) (d : Nat) : ∀ i, i ≤ s.length → s.length - i = d → Ev (fun k => loop_Backs.l0 k [] [] s (s.length : Int) (i : Int)) [] := by
  have hbb : big = 9223372036854775807 := rfl
  induction d with
  | zero =>
    intro i hi hd
    refine Ev.succ ?_; simp only [loop_Backs.l0]
    exact Ev.ifn (by omega) Ev.pure
  | succ d ih =>
    intro i hi hd
    refine Ev.succ ?_; simp only [loop_Backs.l0]
    rw [show rd_L1 s (i : Int) = s.getD i [] by simp [rd_L1]]
    have hrow := hr _ (getD_mem (l := s) (i := i) (d := []) (by omega))
    refine Ev.ifp (by omega) (Ev.ifp (by omega) (Ev.ifp (by omega) ?_))
    exact backs_no_l1 s i (by omega) _ hrow (ih (i + 1) (by omega) (by omega)) _ 0 (Nat.zero_le _) rfl
theorem backs_no {s p : List (List Int)} (hb : s.length ≤ big) (hr : ∀ l ∈ s, l.length ≤ big) (hm : Ev (fun k => graph_May.f k s p) false) : Ev (fun k => loop_Backs.f k s p) [] := by
  unfold loop_Backs.f
  exact Ev.bind (tree_no (order_no 0 hm)) (backs_no_l0 s hb hr s.length 0 (Nat.zero_le _) rfl)

/-! #### where the ways back to a head come from -/
noncomputable def lat (S : List (List Nat)) (i h : Nat) : List Nat := (List.range i).filter fun a => decide (h ∈ S.getD a []) && dmb S h a
noncomputable def lats (S : List (List Nat)) (h : Nat) : List Nat := lat S S.length h
theorem mem_lats {S : List (List Nat)} {h a : Nat} : a ∈ lats S h ↔ Bck S a h := by
  unfold lats lat Bck
  rw [List.mem_filter, List.mem_range, Bool.and_eq_true, decide_eq_true_eq, dmb_true]
  exact ⟨fun h => h.2, fun h => ⟨getD_lt h.1, h⟩⟩
theorem lat_len {S : List (List Nat)} {i h : Nat} : (lat S i h).length ≤ i := by
  have := List.length_filter_le (fun a => decide (h ∈ S.getD a []) && dmb S h a) (List.range i)
  rw [List.length_range] at this; exact this
theorem nodup_pick {l : List Nat} (hn : l.Nodup) (p : Nat → Bool) (x : Nat) : (l.filter p).filter (fun b => decide (b = x)) = if x ∈ l ∧ p x = true then [x] else [] := by
  induction l with
  | nil => simp
  | cons a l ih =>
    have hn' := List.nodup_cons.mp hn
    have ih := ih hn'.2
    by_cases hpa : p a = true
    · rw [List.filter_cons_of_pos hpa]
      by_cases e : a = x
      · subst e
        rw [List.filter_cons_of_pos (by simp), ih, if_neg (fun h => hn'.1 h.1), if_pos ⟨List.mem_cons_self .., hpa⟩]
      · rw [List.filter_cons_of_neg (by simpa using e), ih]
        by_cases h2 : x ∈ l ∧ p x = true
        · rw [if_pos h2, if_pos ⟨List.mem_cons_of_mem _ h2.1, h2.2⟩]
        · rw [if_neg h2, if_neg (fun h => h2 ⟨(List.mem_cons.mp h.1).resolve_left (fun e2 => e e2.symm), h.2⟩)]
    · rw [List.filter_cons_of_neg hpa, ih]
      by_cases h2 : x ∈ l ∧ p x = true
      · rw [if_pos h2, if_pos ⟨List.mem_cons_of_mem _ h2.1, h2.2⟩]
      · rw [if_neg h2, if_neg (fun h => h2 ⟨(List.mem_cons.mp h.1).resolve_left (fun e2 => by subst e2; exact hpa h.2), h.2⟩)]
theorem from_rowb {S : List (List Nat)} (hG : Gr S) {i : Nat} (hi : i < S.length) (h : Nat) : fromOf (rowb S i (S.getD i []).length) (h : Int) = if h ∈ S.getD i [] ∧ dmb S h i = true then [(i : Int)] else [] := by
  unfold rowb fromOf
  rw [List.take_length, List.filter_map]
  have e : ((fun b : S48 => b.f1 == (h : Int)) ∘ fun b : Nat => (⟨(i : Int), (b : Int)⟩ : S48)) = fun b => decide (b = h) := by
    funext b
    show ((b : Int) == (h : Int)) = decide (b = h)
    by_cases e : b = h
    · subst e; simp
    · rw [decide_eq_false e]; simp; omega
  rw [e, nodup_pick (gr_nodup hG hi) (fun b => dmb S b i) h]
  split <;> rfl
theorem from_append (a b : List S48) (h : Int) : fromOf (a ++ b) h = fromOf a h ++ fromOf b h := by unfold fromOf; rw [List.filter_append, List.map_append]
theorem from_bkt {S : List (List Nat)} (hG : Gr S) (h : Nat) : ∀ i, i ≤ S.length → fromOf (bkt S i) (h : Int) = up (lat S i h)
  | 0, _ => by simp [bkt, fromOf, lat, up]
  | i + 1, hi => by
    rw [bkt, from_append, from_bkt hG h i (by omega), from_rowb hG (by omega)]
    unfold lat
    rw [List.range_succ, List.filter_append, up_append]
    congr 1
    by_cases e : h ∈ S.getD i [] ∧ dmb S h i = true
    · rw [if_pos e, List.filter_cons_of_pos (by rw [Bool.and_eq_true, decide_eq_true_eq]; exact e)]; rfl
    · rw [if_neg e, List.filter_cons_of_neg (by rw [Bool.and_eq_true, decide_eq_true_eq]; exact e)]; rfl
theorem from_bks {S : List (List Nat)} (hG : Gr S) (h : Nat) : fromOf (bks S) (h : Int) = up (lats S h) := from_bkt hG h S.length (Nat.le_refl _)

/-! #### a loop's blocks -/
open Classical in
noncomputable def lpb (S : List (List Nat)) (h : Nat) : Sn := fun x => decide (Lp S h x)
theorem lpb_true {S : List (List Nat)} {h x : Nat} : lpb S h x = true ↔ Lp S h x := by simp [lpb]
/-- What going back from the ways' ends has come to. -/
structure Lb (S : List (List Nat)) (h : Nat) (m : Sn) (st : List Nat) : Prop where
  lt : ∀ y, m y = true → y < S.length
  hd : m h = true
  slt : ∀ y ∈ st, y < S.length
  stk : ∀ y ∈ st, y = h ∨ ∃ l, Bck S l h ∧ Rch S (h : Int) y l
  sound : ∀ y, m y = true → Lp S h y
  frm : ∀ l, Bck S l h → m l = true ∨ l ∈ st
  clo : ∀ a, m a = true → a ≠ h → ∀ p, a ∈ S.getD p [] → Rch S (-1) 0 p → m p = true ∨ p ∈ st
theorem Lb.all {S : List (List Nat)} {h : Nat} {m : Sn} (hB : Lb S h m []) : m = lpb S h := by
  funext x
  have hh : m x = true ↔ lpb S h x = true := by
    rw [lpb_true]
    refine ⟨hB.sound x, fun hx => ?_⟩
    rcases hx with rfl | ⟨h1, l, h2, h3⟩
    · exact hB.hd
    · have hl : m l = true := (hB.frm l h2).resolve_right (by simp)
      have key : ∀ z, Rch S (h : Int) x z → m z = true → m x = true := by
        intro z hz
        induction hz with
        | base _ => exact fun hm => hm
        | @step a y ha hy hw ih =>
          intro hm
          exact ih ((hB.clo y hm (fun e => hw (by rw [e])) a hy (h1.trans ha.any)).resolve_right (by simp))
      exact key l h3 hl
  cases e : m x with
  | true => exact (hh.mp e).symm
  | false => cases e2 : lpb S h x with
    | true => rw [hh.mpr e2] at e; cases e
    | false => rfl
section
variable {S : List (List Nat)} {at_ par : Nat → Nat}
theorem body_l1 (hG : Gr S) (m : Sn) (d : Nat) : ∀ i, i ≤ S.length → S.length - i = d → Ev (fun k => loop_body.l1 k (rb m) (up ((List.range i).filter m)) (S.length : Int) (i : Int)) (up ((List.range S.length).filter m)) := by
  have hle := hG.le
  induction d with
  | zero =>
    intro i hi hd
    obtain rfl : i = S.length := by omega
    refine Ev.succ ?_; simp only [loop_body.l1]
    exact Ev.ifn (by omega) Ev.pure
  | succ d ih =>
    intro i hi hd
    have h1 := List.length_filter_le m (List.range i)
    rw [List.length_range] at h1
    have h2 := ih (i + 1) (by omega) (by omega)
    rw [List.range_succ, List.filter_append] at h2
    refine Ev.succ ?_; simp only [loop_body.l1]
    refine Ev.ifp (by omega) (Ev.ifp (by omega) (Ev.ifp (by omega) ?_))
    rw [rd_rb _ (by omega), wrap_nat (by omega), ← up_snoc]
    cases e : m i with
    | true =>
      rw [List.filter_cons_of_pos e] at h2
      exact Ev.ifp rfl (Ev.ifp (by rw [up_length]; omega) h2)
    | false =>
      rw [List.filter_cons_of_neg (by simp [e]), List.filter_nil, List.append_nil] at h2
      exact Ev.ifn (by decide) h2
theorem body_l0 (hD : Gd S 0 at_ par) {h : Nat} (hh : h < S.length) (M : Nat) : ∀ (m : Sn) (st : List Nat), Lb S h m st → st.length + 65 * cnt S.length m ≤ M → M ≤ 100000 →
    Ev (fun k => loop_body.l0 k (dtl S 0) (rb m) (up st) (up2 S) (up2 (pr S))) (up ((List.range S.length).filter (lpb S h))) := by
  have hG := hD.gr
  have hle := hG.le
  induction M with
  | zero =>
    intro m st hB hM _
    obtain rfl : st = [] := List.length_eq_zero_iff.mp (by omega)
    refine Ev.succ ?_; simp only [loop_body.l0]
    refine Ev.ifn (by simp) ?_
    rw [up2_length, ← hB.all]
    exact body_l1 hG m S.length 0 (Nat.zero_le _) rfl
  | succ M ih =>
    intro m st hB hM hC
    rcases List.eq_nil_or_concat st with rfl | ⟨st0, x, rfl⟩
    · refine Ev.succ ?_; simp only [loop_body.l0]
      refine Ev.ifn (by simp) ?_
      rw [up2_length, ← hB.all]
      exact body_l1 hG m S.length 0 (Nat.zero_le _) rfl
    · rw [List.concat_eq_append] at *
      have hl : (st0 ++ [x]).length = st0.length + 1 := by simp
      have hx := hB.slt x (by simp)
      have e1 : wrap64 (((up (st0 ++ [x])).length : Int) - 1) = (st0.length : Int) := by rw [up_length, hl, wrap_id (by omega) (by omega)]; omega
      have hsl : ∀ y ∈ st0, y < S.length := fun y hy => hB.slt y (List.mem_append.mpr (.inl hy))
      have hsk : ∀ y ∈ st0, y = h ∨ ∃ l, Bck S l h ∧ Rch S (h : Int) y l := fun y hy => hB.stk y (List.mem_append.mpr (.inl hy))
      have dropx : (m x = true ∨ ¬ Rch S (-1) 0 x) → Lb S h m st0 := by
        intro hc
        have hkeep : ∀ p, (Rch S (-1) 0 p) → (m p = true ∨ p ∈ st0 ++ [x]) → m p = true ∨ p ∈ st0 := by
          intro p hp h1
          rcases h1 with h1 | h1
          · exact .inl h1
          · rcases List.mem_append.mp h1 with h1 | h1
            · exact .inr h1
            · have e := List.mem_singleton.mp h1
              subst e
              exact .inl (hc.resolve_right (fun h2 => h2 hp))
        exact ⟨hB.lt, hB.hd, hsl, hsk, hB.sound, fun l h1 => hkeep l h1.2.1 (hB.frm l h1), fun a ha hne p hp hr => hkeep p hr (hB.clo a ha hne p hp hr)⟩
      refine Ev.succ ?_; simp only [loop_body.l0]
      rw [e1, rd_snoc]
      refine Ev.ifp (by rw [up_length]; omega) (Ev.ifp (by omega) (Ev.ifp (by rw [up_length]; omega) (Ev.ifp (by rw [up_length]; omega) ?_)))
      rw [up_snoc, Int.toNat_natCast, List.take_left' (by simp)]
      simp only [Option.bind_some]
      refine Ev.ifp (by omega) (Ev.ifp (by omega) ?_)
      rw [rd_rb _ (by omega)]
      rw [hl] at hM
      cases e : m x with
      | true => exact Ev.ifp rfl (ih m st0 (dropx (.inl e)) (by omega) (by omega))
      | false =>
        refine Ev.ifn (by decide) (Ev.bind (over_dmb hD hx hx) ?_)
        by_cases hr : Rch S (-1) 0 x
        · have hu := cnt_upd (n := S.length) hx e
          have hpl := gr_len (gr_pr hG) (i := x) (by rw [pr_length]; exact hx)
          have hxh : x ≠ h := by rintro rfl; rw [hB.hd] at e; cases e
          obtain ⟨l, hl1, hl2⟩ := (hB.stk x (by simp)).resolve_left hxh
          refine Ev.ifp (dmb_true.mpr (dm_refl hr)) (Ev.ifp (by rw [up2_length, pr_length]; omega) ?_)
          rw [rdL_up, Int.toNat_natCast, set_rb, ← up_append, up_length, up_length]
          refine Ev.ifp (by omega) (ih (upd m x) (st0 ++ (pr S).getD x []) ?_ (by rw [List.length_append]; omega) (by omega))
          have hup : ∀ y, m y = true → upd m x y = true := fun y hy => upd_true.mpr (.inr hy)
          have hkeep : ∀ p, (m p = true ∨ p ∈ st0 ++ [x]) → upd m x p = true ∨ p ∈ st0 ++ (pr S).getD x [] := by
            intro p h1
            rcases h1 with h1 | h1
            · exact .inl (hup p h1)
            · rcases List.mem_append.mp h1 with h1 | h1
              · exact .inr (List.mem_append.mpr (.inl h1))
              · exact .inl (upd_true.mpr (.inl (List.mem_singleton.mp h1)))
          refine ⟨fun y hy => ?_, hup h hB.hd, fun y hy => ?_, fun y hy => ?_, fun y hy => ?_, fun l h1 => hkeep l (hB.frm l h1), fun a ha hne p hp hrp => ?_⟩
          · rcases upd_true.mp hy with rfl | hy
            · exact hx
            · exact hB.lt y hy
          · rcases List.mem_append.mp hy with hy | hy
            · exact hsl y hy
            · exact ((mem_pr hx).mp hy).1
          · rcases List.mem_append.mp hy with hy | hy
            · exact hsk y hy
            · by_cases e2 : y = h
              · exact .inl e2
              · exact .inr ⟨l, hl1, Rch.head (by omega) ((mem_pr hx).mp hy).2 hl2⟩
          · rcases upd_true.mp hy with rfl | hy
            · exact .inr ⟨hr, l, hl1, hl2⟩
            · exact hB.sound y hy
          · rcases upd_true.mp ha with rfl | ha
            · exact .inr (List.mem_append.mpr (.inr ((mem_pr hx).mpr ⟨getD_lt hp, hp⟩)))
            · exact hkeep p (hB.clo a ha hne p hp hrp)
        · refine Ev.ifn (fun hc => hr (dmb_true.mp hc).1) (ih m st0 (dropx (.inr hr)) (by omega) (by omega))
theorem body_ok (hD : Gd S 0 at_ par) {h : Nat} (hh : h < S.length) : Ev (fun k => loop_body.f k (up2 S) (up2 (pr S)) (dtl S 0) (h : Int) (up (lats S h))) (up ((List.range S.length).filter (lpb S h))) := by
  have hle := hD.gr.le
  have hll : (lats S h).length ≤ S.length := lat_len
  unfold loop_body.f
  refine Ev.ifp (by omega) (Ev.ifp (by omega) ?_)
  rw [clone_ok _ (by rw [up_length]; omega)]
  simp only [Option.bind_some]
  have e0 : List.replicate 64 false = rb none' := by
    apply List.ext_getElem
    · simp [rb]
    · intro j h1 h2; rw [List.getElem_replicate]; simp [rb, none']
  rw [e0, Int.toNat_natCast, set_rb]
  have hu := cnt_upd (n := S.length) (s := none') hh rfl
  rw [cnt_none] at hu
  refine body_l0 hD hh (64 + 65 * 64) (upd none' h) (lats S h) ?_ (by omega) (by omega)
  refine ⟨fun y hy => ?_, upd_self _ _, fun y hy => getD_lt (mem_lats.mp hy).1, fun y hy => ?_, fun y hy => ?_, fun l h1 => .inr (mem_lats.mpr h1), fun a ha hne => ?_⟩
  · rcases upd_true.mp hy with rfl | hy
    · exact hh
    · cases hy
  · by_cases e : y = h
    · exact .inl e
    · exact .inr ⟨y, mem_lats.mp hy, .base (by omega)⟩
  · rcases upd_true.mp hy with rfl | hy
    · exact .inl rfl
    · cases hy
  · rcases upd_true.mp ha with rfl | ha
    · exact absurd rfl hne
    · cases ha

/-! #### the loops -/
noncomputable def lp1 (S : List (List Nat)) (h : Nat) : S43 := ⟨(h : Int), up ((List.range S.length).filter (lpb S h))⟩
noncomputable def hds (S : List (List Nat)) (i : Nat) : List Nat := (List.range i).filter fun h => decide (0 < (lats S h).length)
noncomputable def lps (S : List (List Nat)) : List S43 := (hds S S.length).map (lp1 S)
theorem hds_len {i : Nat} : (hds S i).length ≤ i := by
  have := List.length_filter_le (fun h => decide (0 < (lats S h).length)) (List.range i)
  rw [List.length_range] at this; exact this
theorem all_l1 (hD : Gd S 0 at_ par) (d : Nat) : ∀ i, i ≤ S.length → S.length - i = d →
    Ev (fun k => loop_All.l1 k (bks S) (dtl S 0) ((hds S i).map (lp1 S)) (S.length : Int) (i : Int) (up2 S) (up2 (pr S))) (lps S) := by
  have hG := hD.gr
  have hle := hG.le
  induction d with
  | zero =>
    intro i hi hd
    obtain rfl : i = S.length := by omega
    refine Ev.succ ?_; simp only [loop_All.l1]
    exact Ev.ifn (by omega) Ev.pure
  | succ d ih =>
    intro i hi hd
    have hn := ih (i + 1) (by omega) (by omega)
    have hl := hds_len (S := S) (i := i)
    have e : hds S (i + 1) = hds S i ++ (if 0 < (lats S i).length then [i] else []) := by
      unfold hds
      rw [List.range_succ, List.filter_append]
      by_cases e : 0 < (lats S i).length
      · rw [if_pos e, List.filter_cons_of_pos (by simpa using e)]; rfl
      · rw [if_neg e, List.filter_cons_of_neg (by simpa using e)]; rfl
    rw [e] at hn
    refine Ev.succ ?_; simp only [loop_All.l1]
    rw [from_bks hG, up_length, wrap_nat (by omega)]
    refine Ev.ifp (by omega) (Ev.ifp (by omega) ?_)
    by_cases e2 : 0 < (lats S i).length
    · rw [if_pos e2, List.map_append] at hn
      exact Ev.ifp (by omega) (Ev.bind (body_ok hD (by omega)) (Ev.ifp (by rw [List.length_map]; omega) hn))
    · rw [if_neg e2, List.append_nil] at hn
      exact Ev.ifn (by omega) hn
theorem bks_okb (hG : Gr S) : (bks S).all okb = true := by
  have hle := hG.le
  refine List.all_eq_true.mpr (fun x hx => ?_)
  obtain ⟨a, b, h1, rfl, h2⟩ := bkt_mem _ hx
  have h3 := (hG.row a h1).2 b h2.1
  simp only [okb, decide_eq_true_eq]
  omega
theorem all_ok (hG : Gr S) : Ev (fun k => loop_All.f k (up2 S) (up2 (pr S))) (lps S) := by
  have hle := hG.le
  obtain ⟨at_, par, hD⟩ := gd_ex hG hG.pos
  have hl := bkt_len hG S.length (Nat.le_refl _)
  unfold loop_All.f
  refine Ev.bind (tree_ok0 hG) (Ev.bind (backs_ok hG) (Ev.ifp ⟨bks_okb hG, ?_⟩ ?_))
  · show (bkt S S.length).length ≤ 4096; omega
  · rw [up2_length]
    exact all_l1 hD S.length 0 (Nat.zero_le _) rfl
end
theorem all_no_l1 (s p : List (List Int)) (hb : s.length ≤ big) (d : Nat) : ∀ i, i ≤ s.length → s.length - i = d → Ev (fun k => loop_All.l1 k [] [] [] (s.length : Int) (i : Int) s p) [] := by
  have hbb : big = 9223372036854775807 := rfl
  induction d with
  | zero =>
    intro i hi hd
    refine Ev.succ ?_; simp only [loop_All.l1]
    exact Ev.ifn (by omega) Ev.pure
  | succ d ih =>
    intro i hi hd
    refine Ev.succ ?_; simp only [loop_All.l1]
    rw [wrap_nat (by omega)]
    exact Ev.ifp (by omega) (Ev.ifp (by omega) (Ev.ifn (by simp [fromOf]) (ih (i + 1) (by omega) (by omega))))
theorem all_no {s p : List (List Int)} (hb : s.length ≤ big) (hr : ∀ l ∈ s, l.length ≤ big) (hm : Ev (fun k => graph_May.f k s p) false) : Ev (fun k => loop_All.f k s p) [] := by
  unfold loop_All.f
  exact Ev.bind (tree_no (order_no 0 hm)) (Ev.bind (backs_no hb hr hm) (Ev.ifp ⟨rfl, by simp⟩ (all_no_l1 s p hb s.length 0 (Nat.zero_le _) rfl)))

/-! #### how deep a block lies -/
theorem index_l0i (x : Int) (l : List Int) (hb : l.length ≤ big) (d : Nat) : ∀ i, i ≤ l.length → l.length - i = d → (∀ j, j < i → l.getD j 0 ≠ x) →
    ∃ r : Int, Ev (fun k => slices_Index_int_int.l0 k l x (l.length : Int) (i : Int)) r ∧ ((r = -1 ∧ x ∉ l) ∨ ∃ j : Nat, r = (j : Int) ∧ j < l.length ∧ l.getD j 0 = x ∧ ∀ q, q < j → l.getD q 0 ≠ x) := by
  have hbb : big = 9223372036854775807 := rfl
  induction d with
  | zero =>
    intro i hi hd hn
    refine ⟨-1, Ev.succ ?_, .inl ⟨rfl, fun hm => ?_⟩⟩
    · simp only [slices_Index_int_int.l0]
      exact Ev.ifn (by omega) Ev.pure
    · obtain ⟨j, hj, e⟩ := List.getElem_of_mem hm
      refine hn j (by omega) ?_
      rw [List.getD_eq_getElem?_getD, List.getElem?_eq_getElem hj]; exact e
  | succ d ih =>
    intro i hi hd hn
    have hrd : rd l (i : Int) = l.getD i 0 := by simp [rd]
    by_cases e : l.getD i 0 = x
    · refine ⟨(i : Int), Ev.succ ?_, .inr ⟨i, rfl, by omega, e, hn⟩⟩
      simp only [slices_Index_int_int.l0]
      rw [hrd]
      exact Ev.ifp (by omega) (Ev.ifp (by omega) (Ev.ifp (by omega) (Ev.ifp e.symm Ev.pure)))
    · obtain ⟨r, h1, h2⟩ := ih (i + 1) (by omega) (by omega) (fun j hj => by
        by_cases e2 : j = i
        · rw [e2]; exact e
        · exact hn j (by omega))
      refine ⟨r, Ev.succ ?_, h2⟩
      simp only [slices_Index_int_int.l0]
      rw [hrd, wrap_nat (by omega)]
      exact Ev.ifp (by omega) (Ev.ifp (by omega) (Ev.ifp (by omega) (Ev.ifn (fun e2 => e e2.symm) h1)))
theorem index_i (x : Int) (l : List Int) (hb : l.length ≤ big) :
    ∃ r : Int, Ev (fun k => slices_Index_int_int.f k l x) r ∧ ((r = -1 ∧ x ∉ l) ∨ ∃ j : Nat, r = (j : Int) ∧ j < l.length ∧ l.getD j 0 = x ∧ ∀ q, q < j → l.getD q 0 ≠ x) := by
  unfold slices_Index_int_int.f
  exact index_l0i x l hb l.length 0 (Nat.zero_le _) rfl (fun j hj => by omega)
theorem contains_i (l : List Int) (hb : l.length ≤ big) (x : Int) : Ev (fun k => slices_Contains_int_int.f k l x) (decide (x ∈ l)) := by
  obtain ⟨r, h1, h2⟩ := index_i x l hb
  unfold slices_Contains_int_int.f
  refine Ev.bind h1 (Ev.pure.of_eq ?_)
  rcases h2 with ⟨e, h3⟩ | ⟨j, e, h3, h4, _⟩
  · rw [e, decide_eq_false h3]; rfl
  · have hm : x ∈ l := by rw [← h4]; exact getD_mem h3
    rw [e, decide_eq_true hm]; exact decide_eq_true (by omega)
/-- How many of the loops have a block. -/
def lpdep (ls : List S43) (x : Int) : Nat := (ls.filter fun l => decide (x ∈ l.f1)).length
theorem ldepth_l0 (x : Int) (ls : List S43) (hb : ls.length ≤ 1000) (hr : ∀ l ∈ ls, l.f1.length ≤ big) (d : Nat) : ∀ i, i ≤ ls.length → ls.length - i = d →
    Ev (fun k => loop_Depth.l0 k x (lpdep (ls.take i) x : Int) ls (ls.length : Int) (i : Int)) (lpdep ls x : Int) := by
  induction d with
  | zero =>
    intro i hi hd
    obtain rfl : i = ls.length := by omega
    rw [List.take_length]
    refine Ev.succ ?_; simp only [loop_Depth.l0]
    exact Ev.ifn (by omega) Ev.pure
  | succ d ih =>
    intro i hi hd
    have hil : i < ls.length := by omega
    have hrd : rd_T43 ls (i : Int) = ls[i] := by simp [rd_T43, hil]
    have hn := ih (i + 1) (by omega) (by omega)
    have hle : lpdep (ls.take i) x ≤ i := by
      have h1 := List.length_filter_le (fun l : S43 => decide (x ∈ l.f1)) (ls.take i)
      have h2 := List.length_take_le i ls
      unfold lpdep; omega
    have e : lpdep (ls.take (i + 1)) x = lpdep (ls.take i) x + if x ∈ ls[i].f1 then 1 else 0 := by
      unfold lpdep
      rw [List.take_succ_eq_append_getElem hil, List.filter_append, List.length_append]
      by_cases h : x ∈ ls[i].f1
      · rw [List.filter_cons_of_pos (by simpa using h), if_pos h]; rfl
      · rw [List.filter_cons_of_neg (by simpa using h), if_neg h]; rfl
    rw [e] at hn
    refine Ev.succ ?_; simp only [loop_Depth.l0]
    rw [hrd, wrap_nat (by omega), wrap_nat (by omega)]
    refine Ev.ifp (by omega) (Ev.ifp (by omega) (Ev.ifp (by omega) (Ev.bind (contains_i _ (hr _ (List.getElem_mem hil)) x) ?_)))
    by_cases h : x ∈ ls[i].f1
    · rw [if_pos h] at hn; exact Ev.ifp (decide_eq_true h) hn
    · rw [if_neg h] at hn; exact Ev.ifn (by rw [decide_eq_false h]; decide) hn
theorem lps_len {S : List (List Nat)} : (lps S).length ≤ S.length := by unfold lps; rw [List.length_map]; exact hds_len
theorem lps_mem {S : List (List Nat)} {l : S43} (h : l ∈ lps S) : ∃ h : Nat, h < S.length ∧ 0 < (lats S h).length ∧ l = lp1 S h := by
  unfold lps at h
  obtain ⟨q, hq, rfl⟩ := List.mem_map.mp h
  obtain ⟨h1, h2⟩ := List.mem_filter.mp hq
  exact ⟨q, List.mem_range.mp h1, by simpa using h2, rfl⟩
theorem lp1_len {S : List (List Nat)} (h : Nat) : (lp1 S h).f1.length ≤ S.length := by
  show (up ((List.range S.length).filter (lpb S h))).length ≤ S.length
  have := List.length_filter_le (lpb S h) (List.range S.length)
  rw [List.length_range] at this; rw [up_length]; exact this
theorem ldepth_ok {S : List (List Nat)} (hG : Gr S) (x : Int) : Ev (fun k => loop_Depth.f k (up2 S) (up2 (pr S)) x) (lpdep (lps S) x : Int) := by
  have hle := hG.le
  have hl := lps_len (S := S)
  unfold loop_Depth.f
  refine Ev.bind (all_ok hG) ?_
  have hbb : big = 9223372036854775807 := rfl
  exact ldepth_l0 x (lps S) (by omega) (fun l h => by obtain ⟨q, _, _, rfl⟩ := lps_mem h; have := lp1_len (S := S) q; omega) _ 0 (Nat.zero_le _) rfl
theorem ldepth_no {s p : List (List Int)} (hb : s.length ≤ big) (hr : ∀ l ∈ s, l.length ≤ big) (hm : Ev (fun k => graph_May.f k s p) false) (x : Int) : Ev (fun k => loop_Depth.f k s p x) 0 := by
  unfold loop_Depth.f
  exact Ev.bind (all_no hb hr hm) (ldepth_l0 x [] (by simp) (by simp) 0 0 (Nat.zero_le _) rfl)

theorem getD_up (l : List Nat) (j : Nat) : (up l).getD j 0 = ((l.getD j 0 : Nat) : Int) := by
  have := rd_up l j
  simpa [rd] using this
section
variable {S : List (List Nat)} {at_ par : Nat → Nat}
theorem index_at (hG : Gr S) (ha : Places (dfs S 0) at_) {y : Nat} (hy : y ∈ dfs S 0) : Ev (fun k => slices_Index_int_int.f k (up (dfs S 0)) (y : Int)) (at_ y : Int) := by
  have hbb : big = 9223372036854775807 := rfl
  have hle := hG.le
  have hl := dfs_len hG (r := 0) hG.pos
  obtain ⟨r, h1, h2⟩ := index_i (y : Int) (up (dfs S 0)) (by rw [up_length]; omega)
  refine h1.of_eq ?_
  rcases h2 with ⟨_, h3⟩ | ⟨j, e, h3, h4, _⟩
  · exact absurd (List.mem_map.mpr ⟨y, hy, rfl⟩) h3
  · rw [up_length] at h3
    rw [getD_up] at h4
    rw [e, ← ha j h3, show (dfs S 0).getD j 0 = y by omega]
/-- From a place of the order on each block stands ahead of those at which it goes on. -/
def Fq (S : List (List Nat)) (at_ : Nat → Nat) (i : Nat) : Prop := ∀ q, i ≤ q → q < (dfs S 0).length → ∀ y ∈ S.getD ((dfs S 0).getD q 0) [], q < at_ y
open Classical in
theorem for_l1 (hG : Gr S) (ha : Places (dfs S 0) at_) {i : Nat} (hi : i < (dfs S 0).length)
    (H : Ev (fun k => loop_forward.l0 k (up (dfs S 0)) (up (dfs S 0)) ((dfs S 0).length : Int) ((i + 1 : Nat) : Int) (up2 S) (up2 (pr S))) (decide (Fq S at_ (i + 1)))) (d : Nat) :
    ∀ m, m ≤ (S.getD ((dfs S 0).getD i 0) []).length → (S.getD ((dfs S 0).getD i 0) []).length - m = d →
    Ev (fun k => loop_forward.l1 k (up (dfs S 0)) (i : Int) (up (dfs S 0)) ((dfs S 0).length : Int) (i : Int) (up (S.getD ((dfs S 0).getD i 0) [])) ((S.getD ((dfs S 0).getD i 0) []).length : Int) (m : Int) (up2 S) (up2 (pr S)))
      (decide ((∀ y ∈ (S.getD ((dfs S 0).getD i 0) []).drop m, i < at_ y) ∧ Fq S at_ (i + 1))) := by
  have hle := hG.le
  have hl := dfs_len hG (r := 0) hG.pos
  have hx := dfs_lt hG (r := 0) hG.pos _ (getD_mem (d := 0) hi)
  have hxr := (dfs_mem hG hG.pos _).mp (getD_mem (d := 0) hi)
  generalize hxe : (dfs S 0).getD i 0 = x at hx hxr
  have hrl := gr_len hG hx
  induction d with
  | zero =>
    intro m hm hd
    obtain rfl : m = (S.getD x []).length := by omega
    refine Ev.succ ?_; simp only [loop_forward.l1]
    rw [wrap_nat (i := i) (by omega)]
    refine Ev.ifn (by omega) (H.of_eq (decide_eq_decide.mpr ⟨fun h => ⟨fun y hy => ?_, h⟩, fun h => h.2⟩))
    rw [List.drop_length] at hy; cases hy
  | succ d ih =>
    intro m hm hd
    have hml : m < (S.getD x []).length := by omega
    have hn := ih (m + 1) (by omega) (by omega)
    have hy := getD_mem (d := 0) hml
    have hyd : (S.getD x []).getD m 0 ∈ dfs S 0 := (dfs_mem hG hG.pos _).mpr (.step hxr hy (by omega))
    refine Ev.succ ?_; simp only [loop_forward.l1]
    rw [rd_up, wrap_nat (i := m) (by omega), up_length, drop_getD _ m 0 hml]
    refine Ev.ifp (by omega) (Ev.ifp (by omega) (Ev.ifp (by omega) (Ev.bind (index_at hG ha hyd) ?_)))
    by_cases e : at_ ((S.getD x []).getD m 0) ≤ i
    · refine Ev.ifp (by omega) (Ev.pure.of_eq (decide_eq_false (fun h => ?_)).symm)
      have := h.1 _ (List.mem_cons_self ..); omega
    · refine Ev.ifn (by omega) (hn.of_eq (decide_eq_decide.mpr ⟨fun h => ⟨fun y hy => ?_, h.2⟩, fun h => ⟨fun y hy => h.1 y (List.mem_cons_of_mem _ hy), h.2⟩⟩))
      rcases List.mem_cons.mp hy with e2 | e2
      · rw [e2]; omega
      · exact h.1 y e2
open Classical in
theorem for_l0 (hG : Gr S) (ha : Places (dfs S 0) at_) (d : Nat) : ∀ i, i ≤ (dfs S 0).length → (dfs S 0).length - i = d →
    Ev (fun k => loop_forward.l0 k (up (dfs S 0)) (up (dfs S 0)) ((dfs S 0).length : Int) (i : Int) (up2 S) (up2 (pr S))) (decide (Fq S at_ i)) := by
  have hle := hG.le
  have hl := dfs_len hG (r := 0) hG.pos
  induction d with
  | zero =>
    intro i hi hd
    obtain rfl : i = (dfs S 0).length := by omega
    obtain ⟨t, ht⟩ := dfs_head hG 0
    refine Ev.succ ?_; simp only [loop_forward.l0]
    refine Ev.ifn (by omega) (Ev.pure.of_eq ?_)
    rw [up_length, decide_eq_true (by rw [ht]; simp), decide_eq_true]
    intro q h1 h2; omega
  | succ d ih =>
    intro i hi hd
    have hil : i < (dfs S 0).length := by omega
    have hx := dfs_lt hG (r := 0) hG.pos _ (getD_mem (d := 0) hil)
    have h := for_l1 hG ha hil (ih (i + 1) (by omega) (by omega)) _ 0 (Nat.zero_le _) rfl
    rw [List.drop_zero] at h
    refine Ev.succ ?_; simp only [loop_forward.l0]
    rw [rd_up, rdL_up, up_length, up_length]
    refine Ev.ifp (by omega) (Ev.ifp (by omega) (Ev.ifp (by omega) (Ev.ifp (by omega) (Ev.ifp (by rw [up2_length]; omega) (h.of_eq (decide_eq_decide.mpr ?_))))))
    constructor
    · rintro ⟨h1, h2⟩ q hq1 hq2 y hy
      by_cases e : q = i
      · subst e; exact h1 y hy
      · exact h2 q (by omega) hq2 y hy
    · intro h1
      exact ⟨fun y hy => h1 i (Nat.le_refl _) hil y hy, fun q hq1 hq2 y hy => h1 q (by omega) hq2 y hy⟩
end
open Classical in
noncomputable def acb (S : List (List Nat)) : Bool := decide (Ac S 0)
theorem acb_true {S : List (List Nat)} : acb S = true ↔ Ac S 0 := by simp [acb]
theorem acb_false {S : List (List Nat)} : acb S = false ↔ ¬ Ac S 0 := by simp [acb]
theorem for_ok {S : List (List Nat)} (hG : Gr S) : Ev (fun k => loop_forward.f k (up2 S) (up2 (pr S))) (acb S) := by
  obtain ⟨at_, ha⟩ := places_ex hG hG.pos
  have ho := order_ok hG (r := 0) hG.pos
  unfold loop_forward.f
  refine Ev.bind ho ?_
  rw [up_length]
  refine (for_l0 hG ha (dfs S 0).length 0 (Nat.zero_le _) rfl).of_eq (decide_eq_decide.mpr ?_)
  rw [ac_fw hG hG.pos ha]
  constructor
  · intro h x hx y hy
    obtain ⟨j, hj, e⟩ := mem_at ((dfs_mem hG hG.pos x).mpr hx)
    have := h j (Nat.zero_le _) hj y (by rw [e]; exact hy)
    rw [← e, ha j hj]; exact this
  · intro h q _ hq y hy
    have := h _ ((dfs_mem hG hG.pos _).mp (getD_mem (d := 0) hq)) y hy
    rw [ha q hq] at this; exact this
theorem for_no {s p : List (List Int)} (hm : Ev (fun k => graph_May.f k s p) false) : Ev (fun k => loop_forward.f k s p) false := by
  unfold loop_forward.f
  refine Ev.bind (order_no 0 hm) (Ev.succ ?_)
  simp only [loop_forward.l0]
  exact Ev.ifn (by simp) Ev.pure
theorem forward_ok {S : List (List Nat)} (hG : Gr S) : Ev (fun k => loop_Forward.f k (up2 S) (up2 (pr S))) (acb S) := by
  unfold loop_Forward.f; exact Ev.bind (for_ok hG) Ev.pure
theorem forward_no {s p : List (List Int)} (hm : Ev (fun k => graph_May.f k s p) false) : Ev (fun k => loop_Forward.f k s p) false := by
  unfold loop_Forward.f; exact Ev.bind (for_no hm) Ev.pure

/-! #### without the ways back -/
noncomputable def nb (S : List (List Nat)) : List (List Nat) := (List.range S.length).map fun a => (S.getD a []).filter fun b => !dmb S b a
@[simp] theorem nb_length (S : List (List Nat)) : (nb S).length = S.length := by simp [nb]
theorem nb_get {S : List (List Nat)} {a : Nat} (h : a < S.length) : (nb S).getD a [] = (S.getD a []).filter fun b => !dmb S b a := getD_map_range _ _ _ _ h
theorem nb_mem {S : List (List Nat)} {a b : Nat} : b ∈ (nb S).getD a [] ↔ b ∈ S.getD a [] ∧ ¬ Dm S 0 b a := by
  constructor
  · intro h
    have ha := getD_lt h
    rw [nb_length] at ha
    rw [nb_get ha] at h
    obtain ⟨h1, h2⟩ := List.mem_filter.mp h
    exact ⟨h1, fun hd => by rw [dmb_true.mpr hd] at h2; cases h2⟩
  · rintro ⟨h1, h2⟩
    rw [nb_get (getD_lt h1)]
    refine List.mem_filter.mpr ⟨h1, ?_⟩
    cases e : dmb S b a with
    | true => exact absurd (dmb_true.mp e) h2
    | false => rfl
theorem gr_nb {S : List (List Nat)} (hG : Gr S) : Gr (nb S) := by
  refine ⟨by rw [nb_length]; exact hG.pos, by rw [nb_length]; exact hG.le, fun i hi => ?_⟩
  rw [nb_length] at hi ⊢
  rw [nb_get hi]
  exact ⟨(hG.row i hi).1.filter _, fun y hy => (hG.row i hi).2 y (List.mem_filter.mp hy).1⟩
theorem index_2 {ls : List S48} (hb : ls.length ≤ big) (x y : Int) (d : Nat) : ∀ i, i ≤ ls.length → ls.length - i = d → (∀ j, j < i → ls[j]? ≠ some ⟨x, y⟩) →
    ∃ r : Int, Ev (fun k => slices_Index_2_int_2_int.l0 k ls (ls.length : Int) (i : Int) x y) r ∧ ((r = -1 ∧ (⟨x, y⟩ : S48) ∉ ls) ∨ (0 ≤ r ∧ (⟨x, y⟩ : S48) ∈ ls)) := by
  have hbb : big = 9223372036854775807 := rfl
  induction d with
  | zero =>
    intro i hi hd hn
    refine ⟨-1, Ev.succ ?_, .inl ⟨rfl, fun hm => ?_⟩⟩
    · simp only [slices_Index_2_int_2_int.l0]
      exact Ev.ifn (by omega) Ev.pure
    · obtain ⟨j, hj, e⟩ := List.getElem_of_mem hm
      exact hn j (by omega) (by rw [List.getElem?_eq_getElem hj, e])
  | succ d ih =>
    intro i hi hd hn
    have hil : i < ls.length := by omega
    have hrd : rd_T48 ls (i : Int) = ls[i] := by simp [rd_T48, hil]
    by_cases e : ls[i] = ⟨x, y⟩
    · refine ⟨(i : Int), Ev.succ ?_, .inr ⟨by omega, by rw [← e]; exact List.getElem_mem hil⟩⟩
      simp only [slices_Index_2_int_2_int.l0]
      rw [hrd, e]
      exact Ev.ifp (by omega) (Ev.ifp (by omega) (Ev.ifp (by omega) (Ev.ifp (by simp) Ev.pure)))
    · obtain ⟨r, h1, h2⟩ := ih (i + 1) (by omega) (by omega) (fun j hj => by
        by_cases e2 : j = i
        · subst e2; rw [List.getElem?_eq_getElem hil]; exact fun h => e (by injection h)
        · exact hn j (by omega))
      refine ⟨r, Ev.succ ?_, h2⟩
      simp only [slices_Index_2_int_2_int.l0]
      rw [hrd, wrap_nat (by omega)]
      refine Ev.ifp (by omega) (Ev.ifp (by omega) (Ev.ifp (by omega) (Ev.ifn (fun hc => e ?_) h1)))
      rw [Bool.and_eq_true, beq_iff_eq, beq_iff_eq] at hc
      obtain ⟨c1, c2⟩ := hc
      cases hq : ls[i] with
      | mk q1 q2 => rw [hq] at c1 c2; rw [c1, c2]
theorem contains_2 {ls : List S48} (hb : ls.length ≤ big) (x y : Int) {v : Bool} (h : v = true ↔ (⟨x, y⟩ : S48) ∈ ls) : Ev (fun k => slices_Contains_2_int_2_int.f k ls x y) v := by
  obtain ⟨r, h1, h2⟩ := index_2 hb x y ls.length 0 (Nat.zero_le _) rfl (fun j hj => by omega)
  unfold slices_Contains_2_int_2_int.f
  refine Ev.bind (show Ev (fun k => slices_Index_2_int_2_int.f k ls x y) r from by unfold slices_Index_2_int_2_int.f; exact h1) (Ev.pure.of_eq ?_)
  rcases h2 with ⟨e, h3⟩ | ⟨e, h3⟩
  · cases v with
    | true => exact absurd (h.mp rfl) h3
    | false => rw [e]; rfl
  · rw [h.mpr h3]; exact decide_eq_true (by omega)
/-- The rows told so far. -/
noncomputable def nbI (S : List (List Nat)) (i m : Nat) : List (List Nat) := (List.range S.length).map fun j => if j < i then (S.getD j []).filter (fun b => !dmb S b j) else if j = i then ((S.getD j []).take m).filter (fun b => !dmb S b j) else []
theorem nbI_next {S : List (List Nat)} {i : Nat} : nbI S i (S.getD i []).length = nbI S (i + 1) 0 := by
  refine List.map_congr_left (fun j _ => ?_)
  by_cases e1 : j < i
  · rw [if_pos e1, if_pos (by omega)]
  · by_cases e2 : j = i
    · subst e2; rw [if_neg e1, if_pos rfl, if_pos (by omega), List.take_length]
    · rw [if_neg e1, if_neg e2, if_neg (by omega)]
      split
      · rw [List.take_zero]; rfl
      · rfl
theorem red_l1 {S : List (List Nat)} (hG : Gr S) {i : Nat} (hi : i < S.length) (v : Bool) (H : Ev (fun k => loop_Reducible.l0 k (bks S) (up2 (nbI S (i + 1) 0)) (up2 S) (S.length : Int) ((i + 1 : Nat) : Int)) v) (d : Nat) : ∀ m, m ≤ (S.getD i []).length → (S.getD i []).length - m = d →
    Ev (fun k => loop_Reducible.l1 k (bks S) (up2 (nbI S i m)) (i : Int) (up2 S) (S.length : Int) (i : Int) (up (S.getD i [])) ((S.getD i []).length : Int) (m : Int)) v := by
  have hle := hG.le
  have hrl := gr_len hG hi
  have hbb : big = 9223372036854775807 := rfl
  have hbl : (bks S).length ≤ 64 * S.length := bkt_len hG S.length (Nat.le_refl _)
  induction d with
  | zero =>
    intro m hm hd
    obtain rfl : m = (S.getD i []).length := by omega
    refine Ev.succ ?_; simp only [loop_Reducible.l1]
    rw [wrap_nat (i := i) (by omega), nbI_next]
    exact Ev.ifn (by omega) H
  | succ d ih =>
    intro m hm hd
    have hml : m < (S.getD i []).length := by omega
    have hn := ih (m + 1) (by omega) (by omega)
    have hy := getD_mem (d := 0) hml
    have hc : dmb S ((S.getD i []).getD m 0) i = true ↔ (⟨(i : Int), (((S.getD i []).getD m 0 : Nat) : Int)⟩ : S48) ∈ bks S := by
      rw [bks_mem, dmb_true]; exact ⟨fun h => ⟨hy, h⟩, fun h => h.2⟩
    have hrow : (nbI S i m).getD i [] = ((S.getD i []).take m).filter (fun b => !dmb S b i) := by
      unfold nbI
      rw [getD_map_range _ _ _ _ hi, if_neg (by omega), if_pos rfl]
    have hrl2 : (((S.getD i []).take m).filter (fun b => !dmb S b i)).length ≤ 64 := by
      have h1 := List.length_filter_le (fun b => !dmb S b i) ((S.getD i []).take m)
      have h2 : ((S.getD i []).take m).length ≤ (S.getD i []).length := by rw [List.length_take]; omega
      omega
    have hset : ∀ l : List Nat, (up2 (nbI S i m)).set i (up l) = up2 ((List.range S.length).map fun j => if j = i then l else if j < i then (S.getD j []).filter (fun b => !dmb S b j) else []) := by
      intro l
      unfold up2 nbI
      rw [← List.map_set]
      congr 1
      refine set_map_range _ _ _ _ _ (by rw [if_pos rfl]) (fun j hj => ?_)
      rw [if_neg hj, if_neg hj]
    have hnx : ∀ l : List Nat, l = ((S.getD i []).take (m + 1)).filter (fun b => !dmb S b i) → ((List.range S.length).map fun j => if j = i then l else if j < i then (S.getD j []).filter (fun b => !dmb S b j) else []) = nbI S i (m + 1) := by
      intro l hl
      refine List.map_congr_left (fun j _ => ?_)
      by_cases e1 : j = i
      · subst e1; rw [if_pos rfl, if_neg (by omega), if_pos rfl, hl]
      · rw [if_neg e1, if_neg e1]
    refine Ev.succ ?_; simp only [loop_Reducible.l1]
    rw [rd_up, rdL_up, hrow, wrap_nat (i := m) (by omega), up_length, up_length]
    refine Ev.ifp (by omega) (Ev.ifp (by omega) (Ev.ifp (by omega) (Ev.bind (contains_2 (by omega) _ _ hc) ?_)))
    cases e : dmb S ((S.getD i []).getD m 0) i with
    | true =>
      have e2 : nbI S i (m + 1) = nbI S i m := by
        refine List.map_congr_left (fun j _ => ?_)
        by_cases e1 : j < i
        · rw [if_pos e1, if_pos e1]
        · rw [if_neg e1, if_neg e1]
          by_cases e3 : j = i
          · subst e3
            rw [if_pos rfl, if_pos rfl, take_getD _ m 0 hml, List.filter_append, List.filter_cons_of_neg (p := fun b => !dmb S b j) (by show ¬ (!dmb S _ j) = true; rw [e]; decide), List.filter_nil, List.append_nil]
          · rw [if_neg e3, if_neg e3]
      rw [e2] at hn
      exact Ev.ifp rfl hn
    | false =>
      refine Ev.ifn (by decide) (Ev.ifp (by omega) (Ev.ifp (by rw [up2_length]; simp [nbI]; omega) (Ev.ifp (by omega) ?_)))
      rw [Int.toNat_natCast, ← up_snoc, hset, hnx]
      · exact hn
      · rw [take_getD _ m 0 hml, List.filter_append, List.filter_cons_of_pos (p := fun b => !dmb S b i) (by show (!dmb S _ i) = true; rw [e]; rfl), List.filter_nil]
theorem red_l0 {S : List (List Nat)} (hG : Gr S) (d : Nat) : ∀ i, i ≤ S.length → S.length - i = d → Ev (fun k => loop_Reducible.l0 k (bks S) (up2 (nbI S i 0)) (up2 S) (S.length : Int) (i : Int)) (acb (nb S)) := by
  have hle := hG.le
  induction d with
  | zero =>
    intro i hi hd
    obtain rfl : i = S.length := by omega
    have e : nbI S S.length 0 = nb S := by
      refine List.map_congr_left (fun j hj => ?_)
      rw [if_pos (List.mem_range.mp hj)]
    rw [e]
    refine Ev.succ ?_; simp only [loop_Reducible.l0]
    exact Ev.ifn (by omega) (Ev.bind (make_ok (gr_nb hG)) (Ev.bind (for_ok (gr_nb hG)) Ev.pure))
  | succ d ih =>
    intro i hi hd
    have h := red_l1 hG (i := i) (by omega) _ (ih (i + 1) (by omega) (by omega)) _ 0 (Nat.zero_le _) rfl
    refine Ev.succ ?_; simp only [loop_Reducible.l0]
    rw [rdL_up, up_length]
    exact Ev.ifp (by omega) (Ev.ifp (by omega) (Ev.ifp (by rw [up2_length]; omega) h))
theorem red_ok {S : List (List Nat)} (hG : Gr S) : Ev (fun k => loop_Reducible.f k (up2 S) (up2 (pr S))) (acb (nb S)) := by
  have hle := hG.le
  have h := red_l0 hG S.length 0 (Nat.zero_le _) rfl
  have e : up2 (nbI S 0 0) = List.replicate S.length [] := by
    apply List.ext_getElem
    · simp [nbI]
    · intro j h1 h2; simp [nbI, up2, up]
  rw [e] at h
  unfold loop_Reducible.f
  refine Ev.bind (may_ok hG _) (Ev.ifp (by simp) (Ev.bind (backs_ok hG) ?_))
  rw [up2_length, Int.toNat_natCast]
  exact Ev.ifp (by omega) (Ev.ifp (by omega) h)
theorem red_no {s p : List (List Int)} (hm : Ev (fun k => graph_May.f k s p) false) : Ev (fun k => loop_Reducible.f k s p) false := by
  unfold loop_Reducible.f
  exact Ev.bind hm (Ev.ifn (by decide) Ev.pure)
theorem may_nil : Ev (fun k => graph_May.f k [] []) false := may_bad (s := []) (by simp) (by simp) (by decide) []

theorem self_l3 (x0 s p : List (List Int)) {ls : List S43} {bs : List S48} (hls : ls.length ≤ 64) (_ : bs.length ≤ 4096) {q i : Nat} (hq : q < ls.length) (hi : i < bs.length) (hbd : ls[q].f1.length ≤ 64) (fd : Bool) (v : Bool)
    (H : Ev (fun k => locksteplaw10_LoopSelf.l2 k x0 ls bs (i : Int) (fd || (decide (ls[q].f0 = bs[i].f1) && decide (bs[i].f0 ∈ ls[q].f1))) ((q + 1 : Nat) : Int) s p) v) (d : Nat) : ∀ (m : Nat) (b : Bool), m ≤ ls[q].f1.length → ls[q].f1.length - m = d → ((b = true ∨ bs[i].f0 ∈ ls[q].f1.drop m) ↔ bs[i].f0 ∈ ls[q].f1) →
    Ev (fun k => locksteplaw10_LoopSelf.l3 k x0 ls bs (i : Int) fd (q : Int) b (m : Int) s p) v := by
  have hr1 : rd_T43 ls (q : Int) = ls[q] := by simp [rd_T43, hq]
  have hr2 : rd_T48 bs (i : Int) = bs[i] := by simp [rd_T48, hi]
  induction d with
  | zero =>
    intro m b hm hd hb
    rw [List.drop_of_length_le (by omega)] at hb
    have hb : b = decide (bs[i].f0 ∈ ls[q].f1) := by
      cases b with
      | true => exact (decide_eq_true (hb.mp (.inl rfl))).symm
      | false => exact (decide_eq_false (fun h => by rcases hb.mpr h with h | h <;> cases h)).symm
    refine Ev.succ ?_; simp only [locksteplaw10_LoopSelf.l3]
    rw [hr1, hr2, wrap_nat (i := q) (by omega)]
    refine Ev.ifp (by omega) (Ev.ifp (by omega) (Ev.ifn (by omega) ?_))
    cases fd with
    | true => rw [Bool.true_or] at H; exact Ev.ifp rfl H
    | false =>
      refine Ev.ifn (by decide) (Ev.ifp (by omega) (Ev.ifp (by omega) ?_))
      rw [← hb, Bool.false_or] at H
      by_cases e : ls[q].f0 = bs[i].f1
      · rw [decide_eq_true e, Bool.true_and] at H; exact Ev.ifp e H
      · rw [decide_eq_false e, Bool.false_and] at H; exact Ev.ifn e H
  | succ d ih =>
    intro m b hm hd hb
    have hml : m < ls[q].f1.length := by omega
    rw [drop_getD _ m 0 hml] at hb
    refine Ev.succ ?_; simp only [locksteplaw10_LoopSelf.l3]
    rw [hr1, hr2, wrap_nat (i := m) (by omega)]
    refine Ev.ifp (by omega) (Ev.ifp (by omega) (Ev.ifp (by omega) ?_))
    cases b with
    | true => exact Ev.ifp rfl (ih (m + 1) true (by omega) (by omega) ⟨fun _ => hb.mp (.inl rfl), fun _ => .inl rfl⟩)
    | false =>
      refine Ev.ifn (by decide) (Ev.ifp (by omega) (Ev.ifp (by omega) (Ev.ifp (by omega) ?_)))
      rw [show rd ls[q].f1 (m : Int) = ls[q].f1.getD m 0 by simp [rd]]
      refine ih (m + 1) _ (by omega) (by omega) (Iff.trans ?_ hb)
      rw [beq_iff_eq, List.mem_cons]
      constructor
      · rintro (h | h)
        · exact .inr (.inl h.symm)
        · exact .inr (.inr h)
      · rintro (h | h | h)
        · cases h
        · exact .inl h.symm
        · exact .inr h
theorem self_l2 (x0 s p : List (List Int)) {ls : List S43} {bs : List S48} (hls : ls.length ≤ 64) (hbs : bs.length ≤ 4096) (hbd : ∀ l ∈ ls, l.f1.length ≤ 64) {i : Nat} (hi : i < bs.length)
    (H : Ev (fun k => locksteplaw10_LoopSelf.l1 k x0 ls bs ((i + 1 : Nat) : Int) s p) true) (d : Nat) : ∀ (q : Nat) (fd : Bool), q ≤ ls.length → ls.length - q = d → (fd = true ∨ ∃ l ∈ ls.drop q, l.f0 = bs[i].f1 ∧ bs[i].f0 ∈ l.f1) →
    Ev (fun k => locksteplaw10_LoopSelf.l2 k x0 ls bs (i : Int) fd (q : Int) s p) true := by
  induction d with
  | zero =>
    intro q fd hq hd hf
    rw [List.drop_of_length_le (by omega)] at hf
    have hf : fd = true := hf.resolve_right (by rintro ⟨l, hl, _⟩; cases hl)
    subst hf
    refine Ev.succ ?_; simp only [locksteplaw10_LoopSelf.l2]
    rw [wrap_nat (by omega)]
    exact Ev.ifn (by omega) (Ev.ifp trivial H)
  | succ d ih =>
    intro q fd hq hd hf
    have hql : q < ls.length := by omega
    refine Ev.succ ?_; simp only [locksteplaw10_LoopSelf.l2]
    refine Ev.ifp (by omega) ?_
    refine self_l3 x0 s p hls hbs hql hi (hbd _ (List.getElem_mem hql)) fd true ?_ _ 0 false (Nat.zero_le _) rfl ⟨fun h => by simpa using h, fun h => .inr (by simpa using h)⟩
    refine ih (q + 1) _ (by omega) (by omega) ?_
    rw [List.drop_eq_getElem_cons hql] at hf
    rw [Bool.or_eq_true, Bool.and_eq_true, decide_eq_true_eq, decide_eq_true_eq]
    rcases hf with h | ⟨l, hl, h1⟩
    · exact .inl (.inl h)
    · rcases List.mem_cons.mp hl with e | e
      · subst e; exact .inl (.inr h1)
      · exact .inr ⟨l, e, h1⟩
section
variable {S : List (List Nat)}
theorem lp1_in (hG : Gr S) {a b : Nat} (h : Bck S a b) : lp1 S b ∈ lps S := by
  have ha := getD_lt h.1
  have hb := (hG.row a ha).2 b h.1
  unfold lps
  refine List.mem_map.mpr ⟨b, List.mem_filter.mpr ⟨List.mem_range.mpr hb, decide_eq_true ?_⟩, rfl⟩
  exact List.length_pos_of_mem (mem_lats.mpr h)
theorem mem_body {h x : Nat} : (x : Int) ∈ (lp1 S h).f1 ↔ x < S.length ∧ Lp S h x := by
  show (x : Int) ∈ up ((List.range S.length).filter (lpb S h)) ↔ _
  simp only [up, List.mem_map, List.mem_filter, List.mem_range, lpb_true]
  constructor
  · rintro ⟨y, hy, e⟩; rw [show x = y by omega]; exact hy
  · intro h; exact ⟨x, h, rfl⟩
theorem bck_lp {a b : Nat} (h : Bck S a b) : Lp S b a := by
  by_cases e : a = b
  · exact .inl e
  · exact .inr ⟨h.2.1, a, h, .base (by omega)⟩
theorem self_dep (hG : Gr S) {x : Nat} (hr : Rch S (-1) 0 x) (hx : x ∈ S.getD x []) : 0 < lpdep (lps S) (x : Int) := by
  have hb : Bck S x x := ⟨hx, dm_refl hr⟩
  refine List.length_pos_of_mem (a := lp1 S x) (List.mem_filter.mpr ⟨lp1_in hG hb, decide_eq_true ?_⟩)
  exact mem_body.mpr ⟨getD_lt hx, .inl rfl⟩
theorem self_l5 (hG : Gr S) {x i : Nat} (hx : x < S.length) (hr : Rch S (-1) 0 x) (H : Ev (fun k => locksteplaw10_LoopSelf.l4 k (up2 S) (up (dfs S 0)) ((i + 1 : Nat) : Int) (up2 S) (up2 (pr S))) true) (hi : i < (dfs S 0).length) (d : Nat) : ∀ m, m ≤ (S.getD x []).length → (S.getD x []).length - m = d →
    Ev (fun k => locksteplaw10_LoopSelf.l5 k (up2 S) (up (dfs S 0)) (i : Int) (x : Int) (m : Int) (up2 S) (up2 (pr S))) true := by
  have hle := hG.le
  have hl := dfs_len hG (r := 0) hG.pos
  have hrl := gr_len hG hx
  induction d with
  | zero =>
    intro m hm hd
    refine Ev.succ ?_; simp only [locksteplaw10_LoopSelf.l5]
    rw [rdL_up, up_length, wrap_nat (i := i) (by omega)]
    exact Ev.ifp (by omega) (Ev.ifp (by rw [up2_length]; omega) (Ev.ifn (by omega) H))
  | succ d ih =>
    intro m hm hd
    have hml : m < (S.getD x []).length := by omega
    have hn := ih (m + 1) (by omega) (by omega)
    refine Ev.succ ?_; simp only [locksteplaw10_LoopSelf.l5]
    rw [rdL_up, up_length, rd_up, wrap_nat (i := m) (by omega)]
    refine Ev.ifp (by omega) (Ev.ifp (by rw [up2_length]; omega) (Ev.ifp (by omega) (Ev.ifp (by omega) ?_)))
    by_cases e : (S.getD x []).getD m 0 = x
    · have hm2 : x ∈ S.getD x [] := by
        have := getD_mem (l := S.getD x []) (d := 0) hml
        rw [e] at this; exact this
      have h1 := self_dep hG hr hm2
      exact Ev.ifp (by omega) (Ev.bind (ldepth_ok hG _) (Ev.ifn (by omega) hn))
    · exact Ev.ifn (by omega) hn
theorem self_l4 (hG : Gr S) (d : Nat) : ∀ i, i ≤ (dfs S 0).length → (dfs S 0).length - i = d → Ev (fun k => locksteplaw10_LoopSelf.l4 k (up2 S) (up (dfs S 0)) (i : Int) (up2 S) (up2 (pr S))) true := by
  have hle := hG.le
  have hl := dfs_len hG (r := 0) hG.pos
  induction d with
  | zero =>
    intro i hi hd
    refine Ev.succ ?_; simp only [locksteplaw10_LoopSelf.l4]
    rw [up_length]
    exact Ev.ifn (by omega) Ev.pure
  | succ d ih =>
    intro i hi hd
    have hil : i < (dfs S 0).length := by omega
    have hx := dfs_lt hG (r := 0) hG.pos _ (getD_mem (d := 0) hil)
    have hxr := (dfs_mem hG hG.pos _).mp (getD_mem (d := 0) hil)
    refine Ev.succ ?_; simp only [locksteplaw10_LoopSelf.l4]
    rw [rd_up, up_length]
    exact Ev.ifp (by omega) (Ev.ifp (by omega) (self_l5 hG hx hxr (ih (i + 1) (by omega) (by omega)) hil _ 0 (Nat.zero_le _) rfl))
theorem self_l1 (hG : Gr S) (d : Nat) : ∀ i, i ≤ (bks S).length → (bks S).length - i = d → Ev (fun k => locksteplaw10_LoopSelf.l1 k (up2 S) (lps S) (bks S) (i : Int) (up2 S) (up2 (pr S))) true := by
  have hle := hG.le
  have hbl : (bks S).length ≤ 64 * S.length := bkt_len hG S.length (Nat.le_refl _)
  have hll := lps_len (S := S)
  induction d with
  | zero =>
    intro i hi hd
    refine Ev.succ ?_; simp only [locksteplaw10_LoopSelf.l1]
    exact Ev.ifn (by omega) (Ev.bind (order_ok hG hG.pos) (self_l4 hG _ 0 (Nat.zero_le _) rfl))
  | succ d ih =>
    intro i hi hd
    have hil : i < (bks S).length := by omega
    refine Ev.succ ?_; simp only [locksteplaw10_LoopSelf.l1]
    refine Ev.ifp (by omega) (self_l2 (up2 S) (up2 S) (up2 (pr S)) (by omega) (by omega) (fun l h => ?_) hil (ih (i + 1) (by omega) (by omega)) _ 0 false (Nat.zero_le _) rfl (.inr ?_))
    · obtain ⟨q, _, _, rfl⟩ := lps_mem h
      have := lp1_len (S := S) q; omega
    · obtain ⟨a, b, h1, h2, h3⟩ := bkt_mem _ (List.getElem_mem hil : (bks S)[i] ∈ bks S)
      rw [h2, List.drop_zero]
      exact ⟨lp1 S b, lp1_in hG h3, rfl, mem_body.mpr ⟨h1, bck_lp h3⟩⟩
end
theorem self_l0 (s : List (List Int)) (hs : s.length ≤ 16) (d : Nat) : ∀ i, i ≤ s.length → s.length - i = d → (∀ j, j < i → (s.getD j []).length ≤ 100) → Ev (fun k => locksteplaw10_LoopSelf.l0 k s (i : Int)) true := by
  have hbb : big = 9223372036854775807 := rfl
  induction d with
  | zero =>
    intro i hi hd hr
    have hr2 : ∀ l ∈ s, l.length ≤ big := by
      intro l hl
      obtain ⟨j, hj, rfl⟩ := List.getElem_of_mem hl
      have := hr j (by omega)
      rw [List.getD_eq_getElem?_getD, List.getElem?_eq_getElem hj, Option.getD_some] at this; omega
    refine Ev.succ ?_; simp only [locksteplaw10_LoopSelf.l0]
    refine Ev.ifn (by omega) ?_
    cases hg : goodb s with
    | false => exact Ev.bind (make_bad (by omega) hr2 hg) (Ev.ifn (by decide) Ev.pure)
    | true =>
      obtain ⟨S, h, rfl⟩ := good_gr hg
      exact Ev.bind (make_ok h) (Ev.ifp rfl (Ev.bind (all_ok h) (Ev.bind (backs_ok h) (self_l1 h _ 0 (Nat.zero_le _) rfl))))
  | succ d ih =>
    intro i hi hd hr
    refine Ev.succ ?_; simp only [locksteplaw10_LoopSelf.l0]
    rw [show rd_L1 s (i : Int) = s.getD i [] by simp [rd_L1], wrap_nat (by omega)]
    refine Ev.ifp (by omega) (Ev.ifp (by omega) ?_)
    by_cases hc : ((s.getD i []).length : Int) > 100
    · exact Ev.ifp hc Ev.pure
    · refine Ev.ifn hc (ih (i + 1) (by omega) (by omega) (fun j hj => ?_))
      by_cases e : j = i
      · subst e; omega
      · exact hr j (by omega)
theorem loopSelf : locksteplaw10_LoopSelf.Pure := by
  intro l0 hrow
  refine Ev.at ?_
  unfold locksteplaw10_LoopSelf.f
  refine Ev.bind awake_ev (Ev.ifp rfl ?_)
  by_cases h16 : (l0.length : Int) > 16
  · exact Ev.ifp h16 Ev.pure
  · exact Ev.ifn h16 (self_l0 l0 (by omega) _ 0 (Nat.zero_le _) rfl (fun j hj => by omega))
end Go.Proofs.Ytoekeknfeinphaa.GP
namespace Go.Proofs.Ytoekeknfeinphaa.Pure
theorem LoopSelf : Go.Proofs.Ytoekeknfeinphaa.G.locksteplaw10_LoopSelf.Pure := GP.loopSelf
end Go.Proofs.Ytoekeknfeinphaa.Pure
namespace Go.Proofs.Ytoekeknfeinphaa.loopSelf
open Go.Proofs.YtoekeknfeinphaaH Go.Proofs.Ytoekeknfeinphaa.G
open Go.ChangeShapes Go.WideShapes Go.ChangeAt Go.RowKit
open Go.ChangeMaps (open_string shut_string)
set_option linter.unusedVariables false
theorem own : ownKnob Try.prog.godebug = none := by kernel_rfl
theorem laidOut : laidOutB Try.prog = true := by kernel_rfl
def IsRow (k : IntKind) (w : World) (a : Option Addr) (len cap : Nat) (zs : List Int) : Prop :=
  (a = none ∧ len = 0 ∧ cap = 0 ∧ zs = []) ∨
  ∃ x, a = some x ∧ len ≤ cap ∧ cap ≤ maxLen ∧ zs.length = cap ∧ (∀ i, i < zs.length → w.cell? (x.add i) = some (.int k (zs.getD i 0))) ∧ ∀ n ∈ zs, (Lit.int k n).wf = true
set_option maxRecDepth 100000 in
theorem lifted (os : Os) (started : os.Started) (H : Type) (enc : TypeId × Value → H) :
    ReturnsInHanded {} Try.checked os 7 .any (Rows.loopSelfSpec.pre6 enc Try.prog Try.f7 Rows.loopSelfRow.domain false) (Rows.loopSelfSpec.post enc Try.prog Try.f7 false true false false) := by
  refine returnsInHanded_of_change_sized (C := Try.checked) own started (by kernel_rfl) Try.func7
    (ChangeSpec.witness6 (enc := enc) (C := Try.checked) false ⟨#[], #[.slice none 0 0], []⟩ 8 (by kernel_rfl) (by kernel_rfl) (by kernel_rfl) (by kernel_rfl)) ?_
  intro W base args ds gs before hval0 hW hcnd hsz0 _
  have hsz : (DataW.weightsEach Try.prog (Try.f7.params.toList ++ Rows.loopSelfSpec.plain.varTypes Try.prog) (ds ++ gs)).all (· ≤ reachBytes) = true := hsz0
  have hval : ∀ (j : Nat) t v, Try.f7.params[j]? = some t → args[j]? = some v → Value.okWide Try.prog W .any base t v := hval0
  have hW' := hW
  obtain ⟨p, q, hA0, hV, rfl, hfz, hnd⟩ := hW
  have hA : DataW.TrodAll enc Try.prog W 0 (fun _ => true) true Try.f7.params.toList args.toList ds p := hA0
  rw [Try.params7] at hA hval hsz
  obtain ⟨v0, vs0, d0, ds0, p0, q0, hargs, rfl, rfl, h0, r0⟩ := trodAll_cons hA
  obtain ⟨rfl, rfl, rfl⟩ := trodAll_nil r0
  obtain rfl : args = #[v0] := by cases args; simp_all
  obtain ⟨rfl, rfl⟩ := trodVars_none hV
  obtain ⟨a0, len0, cap0, rfl⟩ := okWide_slice Try.underlying22 (hval 0 22 v0 rfl rfl)
  have k0 := h0
  have lt0 : ∀ x ∈ p0, x.block < W.heap.size := by obtain ⟨m, hm⟩ := k0; exact DataW.trod_lt m _ _ _ hm
  obtain ⟨l0, rfl, w0, y0, m0⟩ := C_of_rows Try.underlying22 Try.underlying31 Try.underlying3 (by kernel_rfl) (by kernel_rfl) h0
  clear hA0 hval0 hsz0 hsz
  refine (G.locksteplaw10_LoopSelf.walk Pure.LoopSelf a0 cap0 l0 W w0 y0 m0).mono fun e W' ⟨he, bel⟩ => ?_
  subst he
  exact ⟨_, rfl, _, _, _, [], _, [], hW', trodAll_mk1 (shut_bool Try.underlying4 _), (trodAll_cons_mk (Below.trod laidOut (by kernel_rfl) (of_decide_eq_true (by kernel_rfl)) k0 bel lt0) trodAll_mk0), rfl, bel.frame _, fun h => by cases h⟩
theorem over : Rows.loopSelfRow.holds Try.pinned (OpenSpec.ofChange Rows.loopSelfSpec) :=
  OpenClaim.holds_of_wide 7 Try.f7 rfl rfl rfl rfl rfl rfl rfl ⟨rfl, rfl, rfl, rfl, rfl⟩ rfl rfl rfl rfl rfl (by kernel_rfl) Try.func7 (by kernel_rfl)
    (of_decide_eq_true (by kernel_rfl)) (by unfold Func.isWrapper; first | (rw [if_pos (by decide +kernel)]; kernel_rfl) | (rw [if_neg (by decide +kernel)]; exact ⟨rfl, rfl⟩))
    (fun os started H enc _ => lifted os started H enc)
theorem proved : Rows.LoopSelfSaid := over
#print axioms proved
end Go.Proofs.Ytoekeknfeinphaa.loopSelf
namespace Go.Proofs.Ytoekeknfeinphaa
/-- The row, under a short name, for the claim. -/
theorem loopSelf_holds : Rows.LoopSelfSaid := loopSelf.proved
end Go.Proofs.Ytoekeknfeinphaa
