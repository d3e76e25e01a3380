/- Texts of this session, joined by wip/tools/merge.py. Conditions: each theorem's own. -/
import Derived.Test.YtheillkpgmpnlaaGx0
import Derived.Test.YtheillkpgmpnlaaMDepFrontierb
import Derived.Test.YtheillkpgmpnlaaMDepFrontierc
import Derived.Test.YtheillkpgmpnlaaHRows
import Derived.Test.YtheillkpgmpnlaaRows
import Derived.WalkKit
import Derived.ProofKit
import Derived.OpenShut
import Derived.ShutString
import Derived.ChangeOld
import Derived.Below
import Derived.SizedLaws
import Derived.ChangeSlices
namespace Go.Proofs.Ytheillkpgmpnlaa.G
open Go.Proofs.YtheillkpgmpnlaaH
open Go.RowKit Go.Proofs.YtheillkpgmpnlaaW.PrintWords Go.Proofs.YtheillkpgmpnlaaW.PrintLast Go.Proofs.YtheillkpgmpnlaaW.PrintMore
attribute [local go_sem] max2_int min2_int max_two min_two max_three min_three max_four min_four   -- for this text's walks alone
set_option linter.unusedVariables false
set_option linter.unusedSimpArgs false

/-! ### lockstepref06_Reach: function 17 -/
mutual
def lockstepref06_Reach.l0 : Nat → Int → List Bool → Int → List (List Int) → List (List Int) → Option (List Bool)
 | 0, _, _, _, _, _ => none
 | k + 1, x2, x7, x8, x409000, x409001 => if x8 < (x7.length : Int) then (lockstepref06_Reach.l1 k x2 x7 x8 0 x409000 x409001) else (some x7)
def lockstepref06_Reach.l1 : Nat → Int → List Bool → Int → Int → List (List Int) → List (List Int) → Option (List Bool)
 | 0, _, _, _, _, _, _ => none
 | k + 1, x2, x7, x8, x9, x409000, x409001 => if x9 < (x7.length : Int) then (lockstepref06_Reach.l2 k x2 x7 x8 x9 0 x409000 x409001) else (lockstepref06_Reach.l0 k x2 x7 (wrap64 (x8 + 1)) x409000 x409001)
def lockstepref06_Reach.l2 : Nat → Int → List Bool → Int → Int → Int → List (List Int) → List (List Int) → Option (List Bool)
 | 0, _, _, _, _, _, _, _ => none
 | k + 1, x2, x7, x8, x9, x10, x409000, x409001 => if 0 ≤ x9 then (if x9 < (x7.length : Int) then (if rdOf false x7 x9 = true then (if x9 < (x409000.length : Int) then (lockstepref06_Reach.j3 k x2 x7 x8 x9 x10 (decide (x10 < ((rd_L1 x409000 x9).length : Int))) x409000 x409001) else (none)) else (lockstepref06_Reach.j3 k x2 x7 x8 x9 x10 false x409000 x409001)) else (none)) else (none)
def lockstepref06_Reach.j3 : Nat → Int → List Bool → Int → Int → Int → Bool → List (List Int) → List (List Int) → Option (List Bool)
 | 0, _, _, _, _, _, _, _, _ => none
 | k + 1, x2, x7, x8, x9, x10, x47, x409000, x409001 => if x47 = true then (if 0 ≤ x9 then (if x9 < (x409000.length : Int) then (if 0 ≤ x10 then (if x10 < ((rd_L1 x409000 x9).length : Int) then (if (rd (rd_L1 x409000 x9) x10) = x2 then (lockstepref06_Reach.l2 k x2 x7 x8 x9 (wrap64 (x10 + 1)) x409000 x409001) else (if 0 ≤ (rd (rd_L1 x409000 x9) x10) then (if (rd (rd_L1 x409000 x9) x10) < (x7.length : Int) then (lockstepref06_Reach.l2 k x2 (x7.set ((rd (rd_L1 x409000 x9) x10) : Int).toNat true) x8 x9 (wrap64 (x10 + 1)) x409000 x409001) else (none)) else (none))) else (none)) else (none)) else (none)) else (none)) else (lockstepref06_Reach.l1 k x2 x7 x8 (wrap64 (x9 + 1)) x409000 x409001)
end
def lockstepref06_Reach.f (k : Nat) (l0_0 : List (List Int)) (l0_1 : List (List Int)) (a1 : Int) (a2 : Int) : Option (List Bool) := if 0 ≤ (l0_0.length : Int) then (if ((l0_0.length : Int) : Int).toNat ≤ 281474976710656 then ((some (List.replicate ((l0_0.length : Int) : Int).toNat false : List Bool)).bind fun y409 => (if a1 = a2 then (some y409) else (if 0 ≤ a1 then (if a1 < (y409.length : Int) then (lockstepref06_Reach.l0 k a2 (y409.set (a1 : Int).toNat true) 0 l0_0 l0_1) else (none)) else (none)))) else (none)) else (none)
theorem lockstepref06_Reach.mono_l : ∀ k, (∀ y0 y1 y2 y3 y4, LeO (lockstepref06_Reach.l0 k y0 y1 y2 y3 y4) (lockstepref06_Reach.l0 (k + 1) y0 y1 y2 y3 y4)) ∧ (∀ y0 y1 y2 y3 y4 y5, LeO (lockstepref06_Reach.l1 k y0 y1 y2 y3 y4 y5) (lockstepref06_Reach.l1 (k + 1) y0 y1 y2 y3 y4 y5)) ∧ (∀ y0 y1 y2 y3 y4 y5 y6, LeO (lockstepref06_Reach.l2 k y0 y1 y2 y3 y4 y5 y6) (lockstepref06_Reach.l2 (k + 1) y0 y1 y2 y3 y4 y5 y6)) ∧ (∀ y0 y1 y2 y3 y4 y5 y6 y7, LeO (lockstepref06_Reach.j3 k y0 y1 y2 y3 y4 y5 y6 y7) (lockstepref06_Reach.j3 (k + 1) y0 y1 y2 y3 y4 y5 y6 y7))
 | 0 => ⟨fun _ _ _ _ _ r h => by simp [lockstepref06_Reach.l0] at h, fun _ _ _ _ _ _ r h => by simp [lockstepref06_Reach.l1] at h, fun _ _ _ _ _ _ _ r h => by simp [lockstepref06_Reach.l2] at h, fun _ _ _ _ _ _ _ _ r h => by simp [lockstepref06_Reach.j3] at h⟩
 | k + 1 => by
  obtain ⟨ih0, ih1, ih2, ih3⟩ := lockstepref06_Reach.mono_l k
  refine ⟨?_, ?_, ?_, ?_⟩
  ·intro y0 y1 y2 y3 y4
   unfold lockstepref06_Reach.l0
   repeat' (with_reducible first | exact ih0 _ _ _ _ _ | exact ih1 _ _ _ _ _ _ | exact ih2 _ _ _ _ _ _ _ | exact ih3 _ _ _ _ _ _ _ _ | exact LeO.refl _ | exact LeO.none _ | refine LeO.ite ?_ ?_ | refine LeO.bind ?_ (fun _ => ?_))
  ·intro y0 y1 y2 y3 y4 y5
   unfold lockstepref06_Reach.l1
   repeat' (with_reducible first | exact ih0 _ _ _ _ _ | exact ih1 _ _ _ _ _ _ | exact ih2 _ _ _ _ _ _ _ | exact ih3 _ _ _ _ _ _ _ _ | exact LeO.refl _ | exact LeO.none _ | refine LeO.ite ?_ ?_ | refine LeO.bind ?_ (fun _ => ?_))
  ·intro y0 y1 y2 y3 y4 y5 y6
   unfold lockstepref06_Reach.l2
   repeat' (with_reducible first | exact ih0 _ _ _ _ _ | exact ih1 _ _ _ _ _ _ | exact ih2 _ _ _ _ _ _ _ | exact ih3 _ _ _ _ _ _ _ _ | exact LeO.refl _ | exact LeO.none _ | refine LeO.ite ?_ ?_ | refine LeO.bind ?_ (fun _ => ?_))
  ·intro y0 y1 y2 y3 y4 y5 y6 y7
   unfold lockstepref06_Reach.j3
   repeat' (with_reducible first | exact ih0 _ _ _ _ _ | exact ih1 _ _ _ _ _ _ | exact ih2 _ _ _ _ _ _ _ | exact ih3 _ _ _ _ _ _ _ _ | exact LeO.refl _ | exact LeO.none _ | refine LeO.ite ?_ ?_ | refine LeO.bind ?_ (fun _ => ?_))
theorem lockstepref06_Reach.mono : ∀ a0 a1 a2 a3 k, LeO (lockstepref06_Reach.f k a0 a1 a2 a3) (lockstepref06_Reach.f (k + 1) a0 a1 a2 a3) := by
 intro a0 a1 a2 a3 k
 obtain ⟨ih0, ih1, ih2, ih3⟩ := lockstepref06_Reach.mono_l k
 unfold lockstepref06_Reach.f
 repeat' (with_reducible first | exact ih0 _ _ _ _ _ | exact ih1 _ _ _ _ _ _ | exact ih2 _ _ _ _ _ _ _ | exact ih3 _ _ _ _ _ _ _ _ | exact LeO.refl _ | exact LeO.none _ | refine LeO.ite ?_ ?_ | refine LeO.bind ?_ (fun _ => ?_))
set_option maxHeartbeats 8000000 in
set_option maxRecDepth 100000 in
theorem lockstepref06_Reach.calls (k : Nat) (A0_0 : Option Addr) (c0_0 : Nat) (l0_0 : List (List Int)) (A0_1 : Option Addr) (c0_1 : Nat) (l0_1 : List (List Int)) (a1 : Int) (a2 : Int) (r : List Bool) (w : World) (hr0_0 : Kd.C (Kd.slice 3 (Kd.int .i64)) w A0_0 l0_0.length l0_0) (hc0_0 : l0_0.length ≤ c0_0) (hr0_1 : Kd.C (Kd.slice 3 (Kd.int .i64)) w A0_1 l0_1.length l0_1) (hc0_1 : l0_1.length ≤ c0_1) (h : lockstepref06_Reach.f k l0_0 l0_1 a1 a2 = some r) :
 Calls Try.prog 17 #[.agg #[.slice A0_0 l0_0.length c0_0, .slice A0_1 l0_1.length c0_1], .int .i64 a1, .int .i64 a2] w fun e w' => ∃ v0_ : Value, e = .returned (v0_) ∧ Kd.R Kd.bool 4 w' w.heap.size (fun _ => True) v0_ r ∧ Below w.heap.size w w' := by
 have hu26 := Try.underlying26
 have HR0_0 := Aside0.mk hr0_0
 have HC0_0 := Aside0.mk hc0_0
 clear hr0_0 hc0_0
 have HR0_1 := Aside0.mk hr0_1
 have HC0_1 := Aside0.mk hc0_1
 clear hr0_1 hc0_1
 have HB := A_ (Below.refl w.heap.size w)
 have H : (if 0 ≤ (l0_0.length : Int) then (if ((l0_0.length : Int) : Int).toNat ≤ 281474976710656 then ((some (List.replicate ((l0_0.length : Int) : Int).toNat false : List Bool)).bind fun y409 => (if a1 = a2 then (some y409) else (if 0 ≤ a1 then (if a1 < (y409.length : Int) then (lockstepref06_Reach.l0 k a2 (y409.set (a1 : Int).toNat true) 0 l0_0 l0_1) else (none)) else (none)))) else (none)) else (none)) = some r := h
 clear h
 by_cases c4 : 0 ≤ (l0_0.length : Int)
 ·rw [if_pos c4] at H
  have c4b0 := eq_true c4
  have c4b1 : decide (0 ≤ (l0_0.length : Int)) = true := decide_eq_true c4
  clear c4
  by_cases c5 : ((l0_0.length : Int) : Int).toNat ≤ 281474976710656
  ·rw [if_pos c5] at H
   have c5b0 := eq_true c5
   have c5b1 : decide (((l0_0.length : Int) : Int).toNat ≤ 281474976710656) = true := decide_eq_true c5
   clear c5
   obtain ⟨y409, hy409⟩ : ∃ y_ : List Bool, y_ = (List.replicate ((l0_0.length : Int) : Int).toNat false) := ⟨_, rfl⟩
   replace H : (if a1 = a2 then (some y409) else (if 0 ≤ a1 then (if a1 < (y409.length : Int) then (lockstepref06_Reach.l0 k a2 (y409.set (a1 : Int).toNat true) 0 l0_0 l0_1) else (none)) else (none))) = some r := by first | (rw [hy409]; with_reducible exact H) | (have H2_ := (Option.bind_some _ _).symm.trans H; rw [hy409]; with_reducible exact H2_) | (have H2_ := (Option.bind_some _ _).symm.trans H; with_reducible exact H2_) | with_reducible exact H | (rw [hy409]; exact H) | exact H
   have Ny409 := Aside0.mk hy409
   clear hy409
   by_cases c6 : a1 = a2
   ·rw [if_pos c6] at H
    have c6b0 : (a1 == a2) = true := beq_iff_eq.mpr c6
    have c6b1 : (a1 != a2) = false := bne_eq_false_iff_eq.mpr c6
    clear c6
    obtain rfl := Option.some.inj H
    go_enter Try.func17, Try.ntmps17
    go_wp2_with (first | ((with_reducible refine gate_dst (N := 3) rfl ?_); (try (refine gate_guard (by rfl) ?_; dsimp only)); refine box_event ?hg (N := 3) ?hd (cs := #[.slice A0_0 l0_0.length c0_0, .slice A0_1 l0_1.length c0_1]) (t := 26) ?hr ?_; (case hd => rfl); (case hg => rfl); (case hr => first | (go_simp; done) | (go_simp; rfl)); intro gb408 hg w7 hbox hb; have BK408 := A_ (hbox); have GW408 := A_ ((by rw [hg]; exact (below_size (B_)) : w.heap.size ≤ gb408)); have GE408 := A_ ((by rw [hg]; exact (below_size (B_)) : w.heap.size ≤ gb408)); replace HB := A_ (below_step (B_) hb); clear hb hbox hg; have hcz8_0 : w7.cell? ⟨gb408, 0, none⟩ = some (.slice A0_0 l0_0.length c0_0) := (blk_cell BK408.out 0).trans rfl; have hcz8_1 : w7.cell? ⟨gb408, 1, none⟩ = some (.slice A0_1 l0_1.length c0_1) := (blk_cell BK408.out 1).trans rfl; have hfz8_0 := blk_frozen BK408.out 0; have hfz8_1 := blk_frozen BK408.out 1) | ((with_reducible refine gate_dst (N := 14) rfl ?_); (try (refine gate_guard (by rfl) ?_; dsimp only)); refine Kd.R_make Kd.bool _ 4 rfl (N := 14) rfl 40 _ _ rfl (l0_0.length : Int) rfl rfl Try.underlying40 (.bool false) 1 info4 rfl (by decide) (by omega) false (ok := fun _ => True) (okp := fun _ => True) rfl (fun _ hk => hk) trivial (D_) (Nat.le_trans (Nat.mul_le_mul_right _ (D_ : (l0_0.length : Int).toNat ≤ 281474976710656)) (by omega)) (Below.refl _ _) (Nat.le_refl _) ?_; intro v410 w9 ho10 hb hg_ hnew_; clear hg_ hnew_; (first | rw [← Ny409.out] at ho10 | (simp only [Int.reduceToNat] at ho10; rw [← Ny409.out] at ho10)); have HO411 := A_ (Kd.R_lower ho10 (below_size (B1_))); replace BK408 := A_ (blk_below (g := gb408) (o := .cells #[.slice A0_0 l0_0.length c0_0, .slice A0_1 l0_1.length c0_1] 26 (0, 0)) (by exact KX_ BK408.out) hb); replace HB := A_ (below_step (B1_) hb); clear hb ho10))
    go_ret
    exact ⟨_, by first | rfl | (simp [errW_none, errW_some] <;> rfl) | (simp [*, errW_none, errW_some] <;> rfl), by exact RX_ HO411.out, B1_⟩
   rw [if_neg c6] at H
   have c6b0 : (a1 == a2) = false := beq_eq_false_iff_ne.mpr c6
   have c6b1 : (a1 != a2) = true := bne_iff_ne.mpr c6
   by_cases c11 : 0 ≤ a1
   ·rw [if_pos c11] at H
    have c11b0 : decide (0 ≤ a1) = true := decide_eq_true c11
    clear c11
    by_cases c12 : a1 < (y409.length : Int)
    ·rw [if_pos c12] at H
     have c12b0 : decide (a1 < (y409.length : Int)) = true := decide_eq_true c12
     clear c12
     obtain ⟨y412, hy412⟩ : ∃ y_ : List Bool, y_ = (y409.set (a1 : Int).toNat true) := ⟨_, rfl⟩
     replace H : (lockstepref06_Reach.l0 k a2 y412 0 l0_0 l0_1) = some r := by first | (rw [hy412]; with_reducible exact H) | (have H2_ := (Option.bind_some _ _).symm.trans H; rw [hy412]; with_reducible exact H2_) | (have H2_ := (Option.bind_some _ _).symm.trans H; with_reducible exact H2_) | with_reducible exact H | (rw [hy412]; exact H) | exact H
     have Ny412 := Aside0.mk hy412
     clear hy412
     have H' := Aside0.mk H
     clear H
     go_enter Try.func17, Try.ntmps17
     go_wp2_with (first | ((with_reducible refine gate_dst (N := 3) rfl ?_); (try (refine gate_guard (by rfl) ?_; dsimp only)); refine box_event ?hg (N := 3) ?hd (cs := #[.slice A0_0 l0_0.length c0_0, .slice A0_1 l0_1.length c0_1]) (t := 26) ?hr ?_; (case hd => rfl); (case hg => rfl); (case hr => first | (go_simp; done) | (go_simp; rfl)); intro gb408 hg w14 hbox hb; have BK408 := A_ (hbox); have GW408 := A_ ((by rw [hg]; exact (below_size (B_)) : w.heap.size ≤ gb408)); have GE408 := A_ ((by rw [hg]; exact (below_size (B_)) : w.heap.size ≤ gb408)); replace HB := A_ (below_step (B_) hb); clear hb hbox hg; have hcz15_0 : w14.cell? ⟨gb408, 0, none⟩ = some (.slice A0_0 l0_0.length c0_0) := (blk_cell BK408.out 0).trans rfl; have hcz15_1 : w14.cell? ⟨gb408, 1, none⟩ = some (.slice A0_1 l0_1.length c0_1) := (blk_cell BK408.out 1).trans rfl; have hfz15_0 := blk_frozen BK408.out 0; have hfz15_1 := blk_frozen BK408.out 1) | ((with_reducible refine gate_dst (N := 14) rfl ?_); (try (refine gate_guard (by rfl) ?_; dsimp only)); refine Kd.R_make Kd.bool _ 4 rfl (N := 14) rfl 40 _ _ rfl (l0_0.length : Int) rfl rfl Try.underlying40 (.bool false) 1 info4 rfl (by decide) (by omega) false (ok := fun _ => True) (okp := fun _ => True) rfl (fun _ hk => hk) trivial (D_) (Nat.le_trans (Nat.mul_le_mul_right _ (D_ : (l0_0.length : Int).toNat ≤ 281474976710656)) (by omega)) (Below.refl _ _) (Nat.le_refl _) ?_; intro v410 w16 ho17 hb hg_ hnew_; clear hg_ hnew_; (first | rw [← Ny409.out] at ho17 | (simp only [Int.reduceToNat] at ho17; rw [← Ny409.out] at ho17)); have HO411 := A_ (Kd.R_lower ho17 (below_size (B1_))); replace BK408 := A_ (blk_below (g := gb408) (o := .cells #[.slice A0_0 l0_0.length c0_0, .slice A0_1 l0_1.length c0_1] 26 (0, 0)) (by exact KX_ BK408.out) hb); replace HB := A_ (below_step (B1_) hb); clear hb ho17; have p13 : 0 ≤ (a1 : Int) := D_; have q13 : (a1 : Int) < ((y409.length : Int) : Int) := D_; obtain ⟨go13, co13, eo13, gb13, gl13, cl13, HG13⟩ := Kd.R_form HO411.out (by omega); (first | cases eo13 | (injection eo13 with ea_ en_ ec_; (first | subst ea_ | (injection ea_ with ea_; subst ea_)); subst ec_; clear en_)); have GB13 := Aside0.mk gb13; have GG13 := Aside0.mk HG13; clear gb13 gl13 HG13; obtain ⟨hx13_0, hf13_0⟩ := Kd.R_celln false HO411.out (a1 : Int) p13 q13; replace p13 := eq_true p13; replace q13 := eq_true q13; obtain ⟨hy18_, hz18_⟩ := Kd.R_celln false HO411.out (a1 : Int) (D_) (D_); have HP18 := Kd.R_putg HO411.out (a1 : Int) true) | ((with_reducible refine gate_store (t := 4) (p := 21) rfl ?_); refine store_event (t := 4) (p := 21) (v := ?vo_w19) (w1 := (w16.setCell ⟨go13, (a1 : Int).toNat, none⟩ (.bool true))) ?hg ?ho ?hn ?hr ?_; (case ho => rfl); (case hg => rfl); (case hn => rfl); (case hr => first | (go_simp; done) | (go_simp; rfl)); intro w19 hw; have hg : w16.grownBy w19 (some go13) := (by rw [hw]; exact HP18.2); have hp_ : Kd.R Kd.bool 4 w19 w.heap.size (fun _ => True) (.slice (some ⟨go13, 0, none⟩) y409.length co13) y412 := (by rw [hw, Ny412.out]; exact HP18.1); clear HP18; replace BK408 := A_ (blk_grown (g := gb408) (o := .cells #[.slice A0_0 l0_0.length c0_0, .slice A0_1 l0_1.length c0_1] 26 (0, 0)) (by exact KX_ BK408.out) hg (Kd.R_ne HO411.out BK408.out (by decide))); replace HO411 := A_ (hp_); replace HB := A_ ((by rw [hw]; exact below_set (HB.out) GB13.out : Below w.heap.size w w19)); clear hg hw hp_))
     go_loopg [8] k (fun kq v8 w' => ∃ (x7_1 : List Bool) (x8_1 : Int), v8 = .int .i64 x8_1 ∧ Aside0 (lockstepref06_Reach.l0 kq a2 x7_1 x8_1 l0_0 l0_1 = some r) ∧ Aside0 (kq ≤ k) ∧ Aside0 (Kd.R Kd.bool 4 w' w.heap.size (fun _ => True) (.slice (some ⟨go13, 0, none⟩) y409.length co13) x7_1) ∧ Aside0 (w'.heap[gb408]? = some (.cells #[(.slice A0_0 l0_0.length c0_0), (.slice A0_1 l0_1.length c0_1)] 26 (0, 0))) ∧ Aside0 (Below w.heap.size w w'))
     case atStart => exact ⟨(y412), (0), (by first | rfl | (simp; done) | (simp [*]; done)), H', ⟨Nat.le_refl _⟩, ⟨by exact RM_ HO411.out⟩, ⟨by exact KX_ BK408.out⟩, ⟨B1_⟩⟩
     case round =>
      clear H'
      try clear c4b0
      try clear c4b1
      try clear c5b0
      try clear c5b1
      try clear c6
      try clear c6b0
      try clear c6b1
      try clear c11b0
      try clear c12b0
      try clear p13
      try clear q13
      try clear hcz15_0
      try clear hcz15_1
      try clear hfz15_0
      try clear hfz15_1
      try clear hx13_0
      try clear p13
      try clear q13
      obtain ⟨x7_1, x8_1, rfl, HA, HK1, HO_7, BK408, HB⟩ := hrel
      have hl7_1 := (Kd.R_reads' HO_7.out).1
      rw [hl7_1] at HO_7
      (try simp only [hl7_1])
      (try simp only [hl7_1] at BK408)
      cases gk with
      | zero => exact absurd HA.out (by simp [lockstepref06_Reach.l0])
      | succ k1 =>
       have H := HA.out
       clear HA
       simp only [lockstepref06_Reach.l0] at H
       by_cases c20 : x8_1 < (x7_1.length : Int)
       ·rw [if_pos c20] at H
        have c20b0 : decide (x8_1 < (x7_1.length : Int)) = true := decide_eq_true c20
        clear c20
        have H' := Aside0.mk H
        clear H
        go_wp2
        go_loopg [9] k1 (fun kq v9 w' => ∃ (x7_2 : List Bool) (x9_2 : Int), v9 = .int .i64 x9_2 ∧ Aside0 (lockstepref06_Reach.l1 kq a2 x7_2 x8_1 x9_2 l0_0 l0_1 = some r) ∧ Aside0 (kq ≤ k1) ∧ Aside0 (Kd.R Kd.bool 4 w' w.heap.size (fun _ => True) (.slice (some ⟨go13, 0, none⟩) x7_1.length co13) x7_2) ∧ Aside0 (w'.heap[gb408]? = some (.cells #[(.slice A0_0 l0_0.length c0_0), (.slice A0_1 l0_1.length c0_1)] 26 (0, 0))) ∧ Aside0 (Below w.heap.size w w'))
        case atStart => exact ⟨(x7_1), (0), (by first | rfl | (simp; done) | (simp [*]; done)), H', ⟨Nat.le_refl _⟩, ⟨by (try simp only [hl7_1]); exact RM_ HO_7.out⟩, ⟨by (try simp only [hl7_1]); exact KX_ BK408.out⟩, ⟨B1_⟩⟩
        case round =>
         clear H'
         try clear c20b0
         obtain ⟨x7_2, x9_2, rfl, HA, HK2, HO_7, BK408, HB⟩ := hrel
         have hl7_2 := (Kd.R_reads' HO_7.out).1
         rw [hl7_2] at HO_7
         (try simp only [hl7_2])
         (try simp only [hl7_2] at BK408)
         cases gk with
         | zero => exact absurd HA.out (by simp [lockstepref06_Reach.l1])
         | succ k2 =>
          have H := HA.out
          clear HA
          simp only [lockstepref06_Reach.l1] at H
          by_cases c21 : x9_2 < (x7_2.length : Int)
          ·rw [if_pos c21] at H
           have c21b0 : decide (x9_2 < (x7_2.length : Int)) = true := decide_eq_true c21
           clear c21
           have H' := Aside0.mk H
           clear H
           go_wp2
           go_loopg [10] k2 (fun kq v10 w' => ∃ (x7_3 : List Bool) (x10_3 : Int), v10 = .int .i64 x10_3 ∧ Aside0 (lockstepref06_Reach.l2 kq a2 x7_3 x8_1 x9_2 x10_3 l0_0 l0_1 = some r) ∧ Aside0 (kq ≤ k2) ∧ Aside0 (Kd.R Kd.bool 4 w' w.heap.size (fun _ => True) (.slice (some ⟨go13, 0, none⟩) x7_2.length co13) x7_3) ∧ Aside0 (w'.heap[gb408]? = some (.cells #[(.slice A0_0 l0_0.length c0_0), (.slice A0_1 l0_1.length c0_1)] 26 (0, 0))) ∧ Aside0 (Below w.heap.size w w'))
           case atStart => exact ⟨(x7_2), (0), (by first | rfl | (simp; done) | (simp [*]; done)), H', ⟨Nat.le_refl _⟩, ⟨by (try simp only [hl7_1]); (try simp only [hl7_2]); exact RM_ HO_7.out⟩, ⟨by (try simp only [hl7_1]); (try simp only [hl7_2]); exact KX_ BK408.out⟩, ⟨B1_⟩⟩
           case round =>
            clear H'
            try clear c21b0
            obtain ⟨x7_3, x10_3, rfl, HA, HK3, HO_7, BK408, HB⟩ := hrel
            have hl7_3 := (Kd.R_reads' HO_7.out).1
            rw [hl7_3] at HO_7
            (try simp only [hl7_3])
            (try simp only [hl7_3] at BK408)
            cases gk with
            | zero => exact absurd HA.out (by simp [lockstepref06_Reach.l2])
            | succ k3 =>
             have H := HA.out
             clear HA
             simp only [lockstepref06_Reach.l2] at H
             have HC22 := Aside0.mk H
             clear H
             go_upto_region 12 with (fail)
             go_cut [47] (fun v47 wc => ∃ (kq : Nat) (x47_21 : Bool), v47 = .bool x47_21 ∧ Aside0 (lockstepref06_Reach.j3 kq a2 x7_3 x8_1 x9_2 x10_3 x47_21 l0_0 l0_1 = some r) ∧ Aside0 (kq ≤ k3) ∧ Aside0 (Kd.R Kd.bool 4 wc w.heap.size (fun _ => True) (.slice (some ⟨go13, 0, none⟩) x7_3.length co13) x7_3) ∧ Aside0 (wc.heap[gb408]? = some (.cells #[(.slice A0_0 l0_0.length c0_0), (.slice A0_1 l0_1.length c0_1)] 26 (0, 0))) ∧ Aside0 (Below w.heap.size w wc))
             case first =>
              have H := HC22.out
              clear HC22
              by_cases c23 : 0 ≤ x9_2
              ·rw [if_pos c23] at H
               have c23b0 : decide (0 ≤ x9_2) = true := decide_eq_true c23
               clear c23
               (first | rw [c23b0] | (simp only [i64_w, i32_w]; rw [c23b0]) | skip)
               by_cases c24 : x9_2 < (x7_3.length : Int)
               ·rw [if_pos c24] at H
                have c24b0 : decide (x9_2 < (x7_3.length : Int)) = true := decide_eq_true c24
                clear c24
                obtain ⟨bq25, hbq25⟩ : ∃ b_ : Bool, b_ = (rdOf false x7_3 x9_2) := ⟨_, rfl⟩
                replace H : (if bq25 = true then (if x9_2 < (l0_0.length : Int) then (lockstepref06_Reach.j3 k3 a2 x7_3 x8_1 x9_2 x10_3 (decide (x10_3 < ((rd_L1 l0_0 x9_2).length : Int))) l0_0 l0_1) else (none)) else (lockstepref06_Reach.j3 k3 a2 x7_3 x8_1 x9_2 x10_3 false l0_0 l0_1)) = some r := by rw [← hbq25] at H; exact H
                have Nbq25 := Aside0.mk hbq25
                clear hbq25
                by_cases c26 : bq25 = true
                ·subst c26
                 have H1 : (if x9_2 < (l0_0.length : Int) then (lockstepref06_Reach.j3 k3 a2 x7_3 x8_1 x9_2 x10_3 (decide (x10_3 < ((rd_L1 l0_0 x9_2).length : Int))) l0_0 l0_1) else (none)) = some r := by rw [if_pos rfl] at H; exact H
                 clear H
                 have H := H1
                 clear H1
                 by_cases c27 : x9_2 < (l0_0.length : Int)
                 ·rw [if_pos c27] at H
                  have c27b0 : decide (x9_2 < (l0_0.length : Int)) = true := decide_eq_true c27
                  clear c27
                  have H' := Aside0.mk H
                  clear H
                  have p413 : 0 ≤ (x9_2 : Int) := D_
                  have q413 : x9_2 < (x7_3.length : Int) := D_
                  obtain ⟨ad413, e413, hx413_0⟩ := Kd.at_bool (Kd.R_reads' HO_7.out).2.2 x9_2 p413 q413
                  (try rw [← Nbq25.out] at hx413_0)
                  obtain rfl : (⟨go13, 0, none⟩ : Addr) = ad413 := (by injection e413)
                  (first | simp only [add_plain] at hx413_0 | simp only [add_at] at hx413_0 | simp only [Addr.add, Nat.zero_add] at hx413_0 | skip)
                  replace p413 := eq_true p413
                  replace q413 := eq_true q413
                  have hcz28_0 : wr.cell? ⟨gb408, 0, none⟩ = some (.slice A0_0 l0_0.length c0_0) := (blk_cell BK408.out 0).trans rfl
                  have hcz28_1 : wr.cell? ⟨gb408, 1, none⟩ = some (.slice A0_1 l0_1.length c0_1) := (blk_cell BK408.out 1).trans rfl
                  have hfz28_0 := blk_frozen BK408.out 0
                  have hfz28_1 := blk_frozen BK408.out 1
                  have p414 : 0 ≤ (x9_2 : Int) := D_
                  have q414 : x9_2 < (l0_0.length : Int) := D_
                  obtain ⟨ad414, A414_0, c414_0, e414, hx414_0, hl414_0, hi414_0⟩ := at_L1 HR0_0.out x9_2 p414 q414
                  cases e414
                  replace hx414_0 := (HB.out.cell (World.block_lt_of_cell? w _ hx414_0)).trans hx414_0
                  have HR414_0 := Aside0.mk hi414_0
                  have HC414_0 := Aside0.mk hl414_0
                  clear hi414_0 hl414_0
                  replace p414 := eq_true p414
                  replace q414 := eq_true q414
                  go_wp2
                  go_meet
                  case rel => exact ⟨_, (decide (x10_3 < ((rd_L1 l0_0 x9_2).length : Int))), (by first | rfl | (simp; done) | (simp [*]; done)), H', ⟨by have := HK1.out; have := HK2.out; have := HK3.out; first | omega | exact Nat.le_refl _⟩, ⟨by (try simp only [hl7_1]); (try simp only [hl7_2]); (try simp only [hl7_3]); exact RM_ HO_7.out⟩, ⟨by (try simp only [hl7_1]); (try simp only [hl7_2]); (try simp only [hl7_3]); exact KX_ BK408.out⟩, ⟨B1_⟩⟩
                 rw [if_neg c27] at H
                 exact absurd H (by simp)
                replace c26 := Bool.eq_false_iff.mpr c26
                subst c26
                have H1 : (lockstepref06_Reach.j3 k3 a2 x7_3 x8_1 x9_2 x10_3 false l0_0 l0_1) = some r := by rw [if_neg (show ¬ (false = true) by decide)] at H; exact H
                clear H
                have H := H1
                clear H1
                have H' := Aside0.mk H
                clear H
                have p413 : 0 ≤ (x9_2 : Int) := D_
                have q413 : x9_2 < (x7_3.length : Int) := D_
                obtain ⟨ad413, e413, hx413_0⟩ := Kd.at_bool (Kd.R_reads' HO_7.out).2.2 x9_2 p413 q413
                (try rw [← Nbq25.out] at hx413_0)
                obtain rfl : (⟨go13, 0, none⟩ : Addr) = ad413 := (by injection e413)
                (first | simp only [add_plain] at hx413_0 | simp only [add_at] at hx413_0 | simp only [Addr.add, Nat.zero_add] at hx413_0 | skip)
                replace p413 := eq_true p413
                replace q413 := eq_true q413
                go_wp2
                go_meet
                case rel => exact ⟨_, (false), (by first | rfl | (simp; done) | (simp [*]; done)), H', ⟨by have := HK1.out; have := HK2.out; have := HK3.out; first | omega | exact Nat.le_refl _⟩, ⟨by (try simp only [hl7_1]); (try simp only [hl7_2]); (try simp only [hl7_3]); exact RM_ HO_7.out⟩, ⟨by (try simp only [hl7_1]); (try simp only [hl7_2]); (try simp only [hl7_3]); exact KX_ BK408.out⟩, ⟨B1_⟩⟩
               rw [if_neg c24] at H
               exact absurd H (by simp)
              rw [if_neg c23] at H
              exact absurd H (by simp)
             case rest =>
              clear HC22
              obtain ⟨kq, x47_21, rfl, HA, HJ21, HO_7, BK408, HB⟩ := hcut
              cases kq with
              | zero => exact absurd HA.out (by simp [lockstepref06_Reach.j3])
              | succ kj21 =>
               have H := HA.out
               clear HA
               simp only [lockstepref06_Reach.j3] at H
               by_cases c29 : x47_21 = true
               ·subst c29
                have H1 : (if 0 ≤ x9_2 then (if x9_2 < (l0_0.length : Int) then (if 0 ≤ x10_3 then (if x10_3 < ((rd_L1 l0_0 x9_2).length : Int) then (if (rd (rd_L1 l0_0 x9_2) x10_3) = a2 then (lockstepref06_Reach.l2 kj21 a2 x7_3 x8_1 x9_2 (wrap64 (x10_3 + 1)) l0_0 l0_1) else (if 0 ≤ (rd (rd_L1 l0_0 x9_2) x10_3) then (if (rd (rd_L1 l0_0 x9_2) x10_3) < (x7_3.length : Int) then (lockstepref06_Reach.l2 kj21 a2 (x7_3.set ((rd (rd_L1 l0_0 x9_2) x10_3) : Int).toNat true) x8_1 x9_2 (wrap64 (x10_3 + 1)) l0_0 l0_1) else (none)) else (none))) else (none)) else (none)) else (none)) else (none)) = some r := by rw [if_pos rfl] at H; exact H
                clear H
                have H := H1
                clear H1
                by_cases c30 : 0 ≤ x9_2
                ·rw [if_pos c30] at H
                 have c30b0 : decide (0 ≤ x9_2) = true := decide_eq_true c30
                 clear c30
                 by_cases c31 : x9_2 < (l0_0.length : Int)
                 ·rw [if_pos c31] at H
                  have c31b0 : decide (x9_2 < (l0_0.length : Int)) = true := decide_eq_true c31
                  clear c31
                  by_cases c32 : 0 ≤ x10_3
                  ·rw [if_pos c32] at H
                   have c32b0 : decide (0 ≤ x10_3) = true := decide_eq_true c32
                   clear c32
                   by_cases c33 : x10_3 < ((rd_L1 l0_0 x9_2).length : Int)
                   ·rw [if_pos c33] at H
                    have c33b0 : decide (x10_3 < ((rd_L1 l0_0 x9_2).length : Int)) = true := decide_eq_true c33
                    clear c33
                    by_cases c34 : (rd (rd_L1 l0_0 x9_2) x10_3) = a2
                    ·rw [if_pos c34] at H
                     have c34b0 : ((rd (rd_L1 l0_0 x9_2) x10_3) == a2) = true := beq_iff_eq.mpr c34
                     have c34b1 : ((rd (rd_L1 l0_0 x9_2) x10_3) != a2) = false := bne_eq_false_iff_eq.mpr c34
                     clear c34
                     have H' := Aside0.mk H
                     clear H
                     have hcz35_0 : wc.cell? ⟨gb408, 0, none⟩ = some (.slice A0_0 l0_0.length c0_0) := (blk_cell BK408.out 0).trans rfl
                     have hcz35_1 : wc.cell? ⟨gb408, 1, none⟩ = some (.slice A0_1 l0_1.length c0_1) := (blk_cell BK408.out 1).trans rfl
                     have hfz35_0 := blk_frozen BK408.out 0
                     have hfz35_1 := blk_frozen BK408.out 1
                     have p415 : 0 ≤ (x9_2 : Int) := D_
                     have q415 : x9_2 < (l0_0.length : Int) := D_
                     obtain ⟨ad415, A415_0, c415_0, e415, hx415_0, hl415_0, hi415_0⟩ := at_L1 HR0_0.out x9_2 p415 q415
                     cases e415
                     replace hx415_0 := (HB.out.cell (World.block_lt_of_cell? w _ hx415_0)).trans hx415_0
                     have HR415_0 := Aside0.mk hi415_0
                     have HC415_0 := Aside0.mk hl415_0
                     clear hi415_0 hl415_0
                     replace p415 := eq_true p415
                     replace q415 := eq_true q415
                     have p416 : 0 ≤ (x10_3 : Int) := D_
                     have q416 : x10_3 < ((rd_L1 l0_0 x9_2).length : Int) := D_
                     obtain ⟨ad416, e416, hx416_0⟩ := Kd.at_int HR415_0.out x10_3 p416 q416
                     cases e416
                     replace hx416_0 := (HB.out.cell (World.block_lt_of_cell? w _ hx416_0)).trans hx416_0
                     replace p416 := eq_true p416
                     replace q416 := eq_true q416
                     go_wp2
                     (try simp only [← hl7_3])
                     go_roundg kj21
                     case measure => have := HK1.out; have := HK2.out; have := HK3.out; have := HJ21.out; omega
                     case rel => exact ⟨(x7_3), (wrap64 (x10_3 + 1)), (by first | rfl | (simp; done) | (simp [*]; done)), H', ⟨by have := HK1.out; have := HK2.out; have := HK3.out; have := HJ21.out; omega⟩, ⟨by (try simp only [hl7_1]); (try simp only [hl7_2]); (try simp only [hl7_3]); exact RM_ HO_7.out⟩, ⟨by (try simp only [hl7_1]); (try simp only [hl7_2]); (try simp only [hl7_3]); exact KX_ BK408.out⟩, ⟨B1_⟩⟩
                    rw [if_neg c34] at H
                    have c34b0 : ((rd (rd_L1 l0_0 x9_2) x10_3) == a2) = false := beq_eq_false_iff_ne.mpr c34
                    have c34b1 : ((rd (rd_L1 l0_0 x9_2) x10_3) != a2) = true := bne_iff_ne.mpr c34
                    by_cases c36 : 0 ≤ (rd (rd_L1 l0_0 x9_2) x10_3)
                    ·rw [if_pos c36] at H
                     have c36b0 : decide (0 ≤ (rd (rd_L1 l0_0 x9_2) x10_3)) = true := decide_eq_true c36
                     clear c36
                     by_cases c37 : (rd (rd_L1 l0_0 x9_2) x10_3) < (x7_3.length : Int)
                     ·rw [if_pos c37] at H
                      have c37b0 : decide ((rd (rd_L1 l0_0 x9_2) x10_3) < (x7_3.length : Int)) = true := decide_eq_true c37
                      clear c37
                      obtain ⟨y419, hy419⟩ : ∃ y_ : List Bool, y_ = (x7_3.set ((rd (rd_L1 l0_0 x9_2) x10_3) : Int).toNat true) := ⟨_, rfl⟩
                      replace H : (lockstepref06_Reach.l2 kj21 a2 y419 x8_1 x9_2 (wrap64 (x10_3 + 1)) l0_0 l0_1) = some r := by first | (rw [hy419]; with_reducible exact H) | (have H2_ := (Option.bind_some _ _).symm.trans H; rw [hy419]; with_reducible exact H2_) | (have H2_ := (Option.bind_some _ _).symm.trans H; with_reducible exact H2_) | with_reducible exact H | (rw [hy419]; exact H) | exact H
                      have Ny419 := Aside0.mk hy419
                      clear hy419
                      have H' := Aside0.mk H
                      clear H
                      have hcz39_0 : wc.cell? ⟨gb408, 0, none⟩ = some (.slice A0_0 l0_0.length c0_0) := (blk_cell BK408.out 0).trans rfl
                      have hcz39_1 : wc.cell? ⟨gb408, 1, none⟩ = some (.slice A0_1 l0_1.length c0_1) := (blk_cell BK408.out 1).trans rfl
                      have hfz39_0 := blk_frozen BK408.out 0
                      have hfz39_1 := blk_frozen BK408.out 1
                      have p415 : 0 ≤ (x9_2 : Int) := D_
                      have q415 : x9_2 < (l0_0.length : Int) := D_
                      obtain ⟨ad415, A415_0, c415_0, e415, hx415_0, hl415_0, hi415_0⟩ := at_L1 HR0_0.out x9_2 p415 q415
                      cases e415
                      replace hx415_0 := (HB.out.cell (World.block_lt_of_cell? w _ hx415_0)).trans hx415_0
                      have HR415_0 := Aside0.mk hi415_0
                      have HC415_0 := Aside0.mk hl415_0
                      clear hi415_0 hl415_0
                      replace p415 := eq_true p415
                      replace q415 := eq_true q415
                      have p416 : 0 ≤ (x10_3 : Int) := D_
                      have q416 : x10_3 < ((rd_L1 l0_0 x9_2).length : Int) := D_
                      obtain ⟨ad416, e416, hx416_0⟩ := Kd.at_int HR415_0.out x10_3 p416 q416
                      cases e416
                      replace hx416_0 := (HB.out.cell (World.block_lt_of_cell? w _ hx416_0)).trans hx416_0
                      replace p416 := eq_true p416
                      replace q416 := eq_true q416
                      have p417 : 0 ≤ (x9_2 : Int) := D_
                      have q417 : x9_2 < (l0_0.length : Int) := D_
                      obtain ⟨ad417, A417_0, c417_0, e417, hx417_0, hl417_0, hi417_0⟩ := at_L1 HR0_0.out x9_2 p417 q417
                      obtain rfl : ad415 = ad417 := (by injection e417)
                      replace hx417_0 := (HB.out.cell (World.block_lt_of_cell? w _ hx417_0)).trans hx417_0
                      have HR417_0 := Aside0.mk hi417_0
                      have HC417_0 := Aside0.mk hl417_0
                      clear hi417_0 hl417_0
                      replace p417 := eq_true p417
                      replace q417 := eq_true q417
                      have ea_ := Option.some.inj (hx415_0.symm.trans hx417_0)
                      injection ea_ with ea_ en_ ec_
                      subst ea_
                      subst ec_
                      clear en_
                      have p418 : 0 ≤ (x10_3 : Int) := D_
                      have q418 : x10_3 < ((rd_L1 l0_0 x9_2).length : Int) := D_
                      obtain ⟨ad418, e418, hx418_0⟩ := Kd.at_int HR417_0.out x10_3 p418 q418
                      cases e418
                      replace hx418_0 := (HB.out.cell (World.block_lt_of_cell? w _ hx418_0)).trans hx418_0
                      replace p418 := eq_true p418
                      replace q418 := eq_true q418
                      have p38 : 0 ≤ ((rd (rd_L1 l0_0 x9_2) x10_3) : Int) := D_
                      have q38 : ((rd (rd_L1 l0_0 x9_2) x10_3) : Int) < ((x7_3.length : Int) : Int) := D_
                      obtain ⟨hx38_0, hf38_0⟩ := Kd.R_celln false HO_7.out ((rd (rd_L1 l0_0 x9_2) x10_3) : Int) p38 q38
                      replace p38 := eq_true p38
                      replace q38 := eq_true q38
                      have HP40 := Kd.R_putg HO_7.out ((rd (rd_L1 l0_0 x9_2) x10_3) : Int) true
                      go_wp2_with (first | ((with_reducible refine gate_store (t := 4) (p := 69) rfl ?_); refine store_event (t := 4) (p := 69) (v := ?vo_w41) (w1 := (wc.setCell ⟨go13, ((rd (rd_L1 l0_0 x9_2) x10_3) : Int).toNat, none⟩ (.bool true))) ?hg ?ho ?hn ?hr ?_; (case ho => rfl); (case hg => rfl); (case hn => rfl); (case hr => first | (go_simp; done) | (go_simp; rfl)); intro w41 hw; have hg : wc.grownBy w41 (some go13) := (by rw [hw]; exact HP40.2); have hp_ : Kd.R Kd.bool 4 w41 w.heap.size (fun _ => True) (.slice (some ⟨go13, 0, none⟩) x7_3.length co13) y419 := (by rw [hw, Ny419.out]; exact HP40.1); clear HP40; replace BK408 := A_ (blk_grown (g := gb408) (o := .cells #[.slice (some ad415) l0_0.length c0_0, .slice A0_1 l0_1.length c0_1] 26 (0, 0)) (by exact KX_ BK408.out) hg (Kd.R_ne HO_7.out BK408.out (by decide))); replace HO_7 := A_ (hp_); replace HB := A_ ((by rw [hw]; exact below_set (HB.out) GB13.out : Below w.heap.size w w41)); clear hg hw hp_))
                      (try simp only [← hl7_3])
                      go_roundg kj21
                      case measure => have := HK1.out; have := HK2.out; have := HK3.out; have := HJ21.out; omega
                      case rel => exact ⟨(y419), (wrap64 (x10_3 + 1)), (by first | rfl | (simp; done) | (simp [*]; done)), H', ⟨by have := HK1.out; have := HK2.out; have := HK3.out; have := HJ21.out; omega⟩, ⟨by (try simp only [hl7_1]); (try simp only [hl7_2]); (try simp only [hl7_3]); exact RM_ HO_7.out⟩, ⟨by (try simp only [hl7_1]); (try simp only [hl7_2]); (try simp only [hl7_3]); exact KX_ BK408.out⟩, ⟨B1_⟩⟩
                     rw [if_neg c37] at H
                     exact absurd H (by simp)
                    rw [if_neg c36] at H
                    exact absurd H (by simp)
                   rw [if_neg c33] at H
                   exact absurd H (by simp)
                  rw [if_neg c32] at H
                  exact absurd H (by simp)
                 rw [if_neg c31] at H
                 exact absurd H (by simp)
                rw [if_neg c30] at H
                exact absurd H (by simp)
               replace c29 := Bool.eq_false_iff.mpr c29
               subst c29
               have H1 : (lockstepref06_Reach.l1 kj21 a2 x7_3 x8_1 (wrap64 (x9_2 + 1)) l0_0 l0_1) = some r := by rw [if_neg (show ¬ (false = true) by decide)] at H; exact H
               clear H
               have H := H1
               clear H1
               have H' := Aside0.mk H
               clear H
               go_wp2
               (try simp only [← hl7_2, ← hl7_3])
               go_roundg kj21
               case measure => have := HK1.out; have := HK2.out; have := HK3.out; have := HJ21.out; omega
               case rel => exact ⟨(x7_3), (wrap64 (x9_2 + 1)), (by first | rfl | (simp; done) | (simp [*]; done)), H', ⟨by have := HK1.out; have := HK2.out; have := HK3.out; have := HJ21.out; omega⟩, ⟨by (try simp only [hl7_1]); (try simp only [hl7_2]); (try simp only [hl7_3]); exact RM_ HO_7.out⟩, ⟨by (try simp only [hl7_1]); (try simp only [hl7_2]); (try simp only [hl7_3]); exact KX_ BK408.out⟩, ⟨B1_⟩⟩
          rw [if_neg c21] at H
          have c21b0 : decide (x9_2 < (x7_2.length : Int)) = false := decide_eq_false c21
          clear c21
          have H' := Aside0.mk H
          clear H
          go_wp2
          (try simp only [← hl7_1, ← hl7_2])
          go_roundg k2
          case measure => have := HK1.out; have := HK2.out; omega
          case rel => exact ⟨(x7_2), (wrap64 (x8_1 + 1)), (by first | rfl | (simp; done) | (simp [*]; done)), H', ⟨by have := HK1.out; have := HK2.out; omega⟩, ⟨by (try simp only [hl7_1]); (try simp only [hl7_2]); exact RM_ HO_7.out⟩, ⟨by (try simp only [hl7_1]); (try simp only [hl7_2]); exact KX_ BK408.out⟩, ⟨B1_⟩⟩
       rw [if_neg c20] at H
       have c20b0 : decide (x8_1 < (x7_1.length : Int)) = false := decide_eq_false c20
       clear c20
       obtain rfl := Option.some.inj H
       go_wp2
       go_ret
       exact ⟨_, by first | rfl | (simp [errW_none, errW_some] <;> rfl) | (simp [*, errW_none, errW_some] <;> rfl), by exact RX_ HO_7.out, B1_⟩
    rw [if_neg c12] at H
    exact absurd H (by simp)
   rw [if_neg c11] at H
   exact absurd H (by simp)
  rw [if_neg c5] at H
  exact absurd H (by simp)
 rw [if_neg c4] at H
 exact absurd H (by simp)

end Go.Proofs.Ytheillkpgmpnlaa.G
namespace Go.Proofs.Ytheillkpgmpnlaa.GP
open Go.RowKit Go.Proofs.Ytheillkpgmpnlaa.G Go.Proofs.YtheillkpgmpnlaaW.PrintWords

theorem awake_ok : locksteplaw09_awake.f 100 = some true := by decide +kernel
theorem awake_ev : Ev (fun k => locksteplaw09_awake.f k) true := Ev.of_at (fun k => locksteplaw09_awake.mono k) awake_ok

theorem small_l0 (d : Nat) : ∀ (i : Nat) (s : List (List Int)), s.length ≤ big → i ≤ s.length → s.length - i = d → i ≤ 101 →
    ∃ b, Ev (fun k => lockstepref06_Small.l0 k s (i : Int)) b ∧ (b = true → s.length ≤ 101 ∧ ∀ l ∈ s.drop i, l.length ≤ 100) := by
  induction d with
  | zero =>
    intro i s hb hi hd h1
    refine ⟨true, Ev.succ ?_, fun _ => ⟨by omega, by rw [List.drop_of_length_le (by omega)]; simp⟩⟩
    simp only [lockstepref06_Small.l0]
    exact Ev.ifn (by omega) Ev.pure
  | succ d ih =>
    intro i s hb hi hd h1
    have hbb : big = 9223372036854775807 := rfl
    have hrd : rd_L1 s (i : Int) = s.getD i [] := by simp [rd_L1]
    by_cases hc : ((s.getD i []).length : Int) > 100
    · refine ⟨false, Ev.succ ?_, fun h => by cases h⟩
      simp only [lockstepref06_Small.l0]
      refine Ev.ifp (by omega) (Ev.ifp (by omega) (Ev.ifp (by rw [hrd]; exact hc) Ev.pure))
    · by_cases hc2 : (i : Int) > 100
      · refine ⟨false, Ev.succ ?_, fun h => by cases h⟩
        simp only [lockstepref06_Small.l0]
        refine Ev.ifp (by omega) (Ev.ifp (by omega) (Ev.ifn (by rw [hrd]; exact hc) (Ev.ifp hc2 Ev.pure)))
      · obtain ⟨b, he, hb'⟩ := ih (i + 1) s hb (by omega) (by omega) (by omega)
        refine ⟨b, Ev.succ ?_, fun h => ⟨(hb' h).1, ?_⟩⟩
        · simp only [lockstepref06_Small.l0]
          refine Ev.ifp (by omega) (Ev.ifp (by omega) (Ev.ifn (by rw [hrd]; exact hc) (Ev.ifn hc2 ?_)))
          rw [wrap_nat (by omega)]; exact he
        · rw [drop_getD s i [] (by omega)]
          intro l hl
          rcases List.mem_cons.mp hl with e | e
          · subst e; omega
          · exact (hb' h).2 l e
theorem small_ev (s : List (List Int)) (hb : s.length ≤ big) : ∃ b, Ev (fun k => lockstepref06_Small.f k s) b ∧ (b = true → s.length ≤ 101 ∧ ∀ l ∈ s, l.length ≤ 100) := by
  obtain ⟨b, h1, h2⟩ := small_l0 s.length 0 s hb (by omega) (by omega) (by omega)
  exact ⟨b, by unfold lockstepref06_Small.f; simpa using h1, by simpa using h2⟩

/-! #### Reach -/
def rbn (n : Nat) (s : Sn) : List Bool := (List.range n).map s
@[simp] theorem rbn_length (n : Nat) (s : Sn) : (rbn n s).length = n := by simp [rbn]
theorem rd_rbn (n : Nat) (s : Sn) {y : Nat} (h : y < n) : rdOf false (rbn n s) (y : Int) = s y := by
  simp only [rdOf, Int.toNat_natCast, rbn]; exact getD_map_range _ _ _ _ h
theorem set_rbn (n : Nat) (s : Sn) (y : Nat) : (rbn n s).set y true = rbn n (upd s y) :=
  set_map_range _ _ _ _ _ (by simp [upd]) (fun j hj => by simp [upd, hj])
/-- No way leads out of it. -/
def Closed (S : List (List Nat)) (w : Int) (C : Nat → Prop) : Prop := ∀ a, C a → ∀ y ∈ S.getD a [], (y : Int) ≠ w → C y
def Sub (S : List (List Nat)) (w : Int) (X Y : Sn) : Prop := (∀ z, X z = true → Y z = true) ∧ ∀ C, Closed S w C → (∀ z, X z = true → C z) → ∀ z, Y z = true → C z
theorem Sub.refl (S : List (List Nat)) (w : Int) (X : Sn) : Sub S w X X := ⟨fun _ h => h, fun _ _ h => h⟩
theorem Sub.trans {S : List (List Nat)} {w : Int} {X Y Z : Sn} (h1 : Sub S w X Y) (h2 : Sub S w Y Z) : Sub S w X Z :=
  ⟨fun z h => h2.1 z (h1.1 z h), fun C hC h => h2.2 C hC (h1.2 C hC h)⟩

theorem reach_l2 {S : List (List Nat)} (h : Gr S) (P : List (List Int)) (w : Int) (t i : Nat) (hi : i < S.length) (v : List Bool) (d : Nat) :
    ∀ (j : Nat) (X : Sn), (S.getD i []).length - j = d → j ≤ (S.getD i []).length →
    (∀ Y, Sub S w X Y → (X i = true → ∀ y ∈ (S.getD i []).drop j, (y : Int) ≠ w → Y y = true) → Ev (fun k => lockstepref06_Reach.l1 k w (rbn S.length Y) (t : Int) ((i + 1 : Nat) : Int) (up2 S) P) v) →
    Ev (fun k => lockstepref06_Reach.l2 k w (rbn S.length X) (t : Int) (i : Int) (j : Int) (up2 S) P) v := by
  have hle := h.le
  have hdeg := gr_len h hi
  induction d with
  | zero =>
    intro j X hd hj hK
    have hK' := hK X (Sub.refl _ _ _) (fun _ y hy => by rw [List.drop_of_length_le (by omega)] at hy; cases hy)
    have hj3 : Ev (fun k => lockstepref06_Reach.j3 k w (rbn S.length X) (t : Int) (i : Int) (j : Int) false (up2 S) P) v := by
      refine Ev.succ ?_; simp only [lockstepref06_Reach.j3]
      refine Ev.ifn (by decide) ?_
      rw [wrap_nat (by omega)]; exact hK'
    refine Ev.succ ?_; simp only [lockstepref06_Reach.l2]
    rw [rd_rbn _ _ hi, rdL_up, up_length]
    refine Ev.ifp (by omega) (Ev.ifp (by rw [rbn_length]; omega) ?_)
    by_cases hX : X i = true
    · refine Ev.ifp hX (Ev.ifp (by rw [up2_length]; omega) ?_)
      rw [decide_eq_false (by omega)]; exact hj3
    · exact Ev.ifn hX hj3
  | succ d ih =>
    intro j X hd hj hK
    have hj1 : j < (S.getD i []).length := by omega
    have hy := (h.row i hi).2 _ (getD_mem (d := 0) hj1)
    refine Ev.succ ?_; simp only [lockstepref06_Reach.l2]
    rw [rd_rbn _ _ hi, rdL_up, up_length]
    refine Ev.ifp (by omega) (Ev.ifp (by rw [rbn_length]; omega) ?_)
    by_cases hX : X i = true
    · refine Ev.ifp hX (Ev.ifp (by rw [up2_length]; omega) ?_)
      rw [decide_eq_true (by omega)]
      refine Ev.succ ?_; simp only [lockstepref06_Reach.j3]
      rw [rdL_up, up_length, rd_up]
      have hdr := drop_getD (S.getD i []) j 0 hj1
      have hmem : (S.getD i []).getD j 0 ∈ S.getD i [] := getD_mem hj1
      generalize (S.getD i []).getD j 0 = y at hy hdr hmem
      rw [hdr] at hK
      refine Ev.ifp trivial (Ev.ifp (by omega) (Ev.ifp (by rw [up2_length]; omega) (Ev.ifp (by omega) (Ev.ifp (by omega) ?_))))
      by_cases hw : (y : Int) = w
      · refine Ev.ifp hw ?_
        rw [wrap_nat (by omega)]
        refine ih (j + 1) X (by omega) (by omega) (fun Y hY hYi => hK Y hY (fun hXi z hz hzw => ?_))
        rcases List.mem_cons.mp hz with e | e
        · subst e; exact absurd hw hzw
        · exact hYi hXi z e hzw
      · refine Ev.ifn hw (Ev.ifp (by omega) (Ev.ifp (by rw [rbn_length]; omega) ?_))
        rw [wrap_nat (by omega), Int.toNat_natCast, set_rbn]
        have hs : Sub S w X (upd X y) := ⟨fun z hz => upd_true.mpr (.inr hz), fun C hC hXC z hz => by
          rcases upd_true.mp hz with e | e
          · subst e; exact hC i (hXC i hX) z hmem hw
          · exact hXC z e⟩
        refine ih (j + 1) (upd X y) (by omega) (by omega) (fun Y hY hYi => hK Y (hs.trans hY) (fun hXi z hz hzw => ?_))
        rcases List.mem_cons.mp hz with e | e
        · subst e; exact hY.1 z (upd_self _ _)
        · exact hYi (upd_true.mpr (.inr hXi)) z e hzw
    · refine Ev.ifn hX ?_
      refine Ev.succ ?_; simp only [lockstepref06_Reach.j3]
      refine Ev.ifn (by decide) ?_
      rw [wrap_nat (by omega)]; exact hK X (Sub.refl _ _ _) (fun hXi => absurd hXi hX)
theorem reach_l1 {S : List (List Nat)} (h : Gr S) (P : List (List Int)) (w : Int) (t : Nat) (ht : t < S.length) (v : List Bool) (d : Nat) :
    ∀ (i : Nat) (X : Sn), S.length - i = d → i ≤ S.length →
    (∀ Y, Sub S w X Y → (∀ a, i ≤ a → a < S.length → X a = true → ∀ y ∈ S.getD a [], (y : Int) ≠ w → Y y = true) → Ev (fun k => lockstepref06_Reach.l0 k w (rbn S.length Y) ((t + 1 : Nat) : Int) (up2 S) P) v) →
    Ev (fun k => lockstepref06_Reach.l1 k w (rbn S.length X) (t : Int) (i : Int) (up2 S) P) v := by
  have hle := h.le
  induction d with
  | zero =>
    intro i X hd hi hK
    refine Ev.succ ?_; simp only [lockstepref06_Reach.l1]
    refine Ev.ifn (by rw [rbn_length]; omega) ?_
    rw [wrap_nat (by omega)]
    exact hK X (Sub.refl _ _ _) (fun a h1 h2 => by omega)
  | succ d ih =>
    intro i X hd hi hK
    refine Ev.succ ?_; simp only [lockstepref06_Reach.l1]
    refine Ev.ifp (by rw [rbn_length]; omega) ?_
    refine reach_l2 h P w t i (by omega) v _ 0 X rfl (by omega) (fun Y hY hYi => ?_)
    refine ih (i + 1) Y (by omega) (by omega) (fun Z hZ hZi => hK Z (hY.trans hZ) (fun a h1 h2 hXa y hy hyw => ?_))
    by_cases e : a = i
    · subst e
      exact hZ.1 y (hYi hXa y (by simpa using hy) hyw)
    · exact hZi a (by omega) h2 (hY.1 a hXa) y hy hyw
noncomputable def rchb (S : List (List Nat)) (w : Int) (r : Nat) : Sn := fun z => @decide (Rch S w r z) (Classical.propDecidable _)
theorem rchb_true {S : List (List Nat)} {w : Int} {r z : Nat} : rchb S w r z = true ↔ Rch S w r z := by unfold rchb; exact @decide_eq_true_iff _ (Classical.propDecidable _)
theorem rch_closed (S : List (List Nat)) (w : Int) (r : Nat) : Closed S w (Rch S w r) := fun _ ha _ hy hw => .step ha hy hw
theorem closed_eq {S : List (List Nat)} {w : Int} {r : Nat} {X : Sn} (hr : X r = true) (hX : ∀ z, X z = true → Rch S w r z) (hc : Closed S w (fun z => X z = true)) : X = rchb S w r := by
  funext z
  have e : X z = true ↔ rchb S w r z = true := by
    rw [rchb_true]
    refine ⟨hX z, fun hz => ?_⟩
    induction hz with
    | base _ => exact hr
    | @step a y _ hy hw ih => exact hc a ih y hy hw
  cases h1 : X z <;> cases h2 : rchb S w r z
  · rfl
  · rw [h1, h2] at e; exact absurd (e.mpr rfl) (by decide)
  · rw [h1, h2] at e; exact absurd (e.mp rfl) (by decide)
  · rfl
theorem reach_l0 {S : List (List Nat)} (h : Gr S) (P : List (List Int)) (w : Int) (r : Nat) (hr : r < S.length) (d : Nat) :
    ∀ (t : Nat) (X : Sn), S.length - t = d → t ≤ S.length → X r = true → (∀ z, X z = true → Rch S w r z) → (Closed S w (fun z => X z = true) ∨ t + 1 + cnt S.length X ≤ S.length) →
    Ev (fun k => lockstepref06_Reach.l0 k w (rbn S.length X) (t : Int) (up2 S) P) (rbn S.length (rchb S w r)) := by
  have hle := h.le
  induction d with
  | zero =>
    intro t X hd ht hXr hX hI
    refine Ev.succ ?_; simp only [lockstepref06_Reach.l0]
    refine Ev.ifn (by rw [rbn_length]; omega) ?_
    rcases hI with hc | hc
    · rw [closed_eq hXr hX hc]; exact Ev.pure
    · omega
  | succ d ih =>
    intro t X hd ht hXr hX hI
    refine Ev.succ ?_; simp only [lockstepref06_Reach.l0]
    refine Ev.ifp (by rw [rbn_length]; omega) ?_
    refine reach_l1 h P w t (by omega) _ _ 0 X rfl (by omega) (fun Y hY hYa => ?_)
    refine ih (t + 1) Y (by omega) (by omega) (hY.1 r hXr) (hY.2 _ (rch_closed S w r) hX) ?_
    by_cases hc : Closed S w (fun z => X z = true)
    · refine .inl (fun a ha y hy hw => ?_)
      exact hY.1 y (hc a (hY.2 _ hc (fun _ hz => hz) a ha) y hy hw)
    · right
      rcases hI with hc' | hI
      · exact absurd hc' hc
      · have : ∃ a y, X a = true ∧ y ∈ S.getD a [] ∧ (y : Int) ≠ w ∧ X y = false := by
          refine Classical.byContradiction (fun hn => hc (fun a ha y hy hw => ?_))
          cases hq : X y with
          | true => exact hq
          | false => exact absurd ⟨a, y, ha, hy, hw, hq⟩ hn
        obtain ⟨a, y, ha, hy, hw, hq⟩ := this
        have haS := (hX a ha).lt h hr
        have := cnt_lt hY.1 ((h.row a haS).2 y hy) hq (hYa a (Nat.zero_le _) haS ha y hy hw)
        omega
theorem reach_ok {S : List (List Nat)} (h : Gr S) (P : List (List Int)) (w : Int) (r : Nat) (hr : r < S.length) : Ev (fun k => lockstepref06_Reach.f k (up2 S) P (r : Int) w) (rbn S.length (rchb S w r)) := by
  have hle := h.le
  unfold lockstepref06_Reach.f
  have e0 : List.replicate (((up2 S).length : Int)).toNat false = rbn S.length none' := by
    rw [up2_length, Int.toNat_natCast]
    apply List.ext_getElem
    · simp
    · intro j h1 h2; simp [rbn, none']
  refine Ev.ifp (by omega) (Ev.ifp (by rw [up2_length]; omega) ?_)
  rw [e0]
  simp only [Option.bind_some]
  by_cases hw : (r : Int) = w
  · refine Ev.ifp hw (Ev.pure.of_eq ?_)
    congr 1
    funext z
    cases hq : rchb S w r z with
    | false => rfl
    | true =>
      have h1 := rchb_true.mp hq
      exfalso
      induction h1 with
      | base h2 => exact h2 hw
      | step h1 _ _ ih => exact ih (rchb_true.mpr h1)
  · refine Ev.ifn hw (Ev.ifp (by omega) (Ev.ifp (by rw [rbn_length]; omega) ?_))
    rw [Int.toNat_natCast, set_rbn]
    have hu := cnt_upd (n := S.length) (s := none') hr rfl
    rw [cnt_none] at hu
    refine reach_l0 h P w r hr S.length 0 (upd none' r) (by omega) (by omega) (upd_self _ _) (fun z hz => ?_) (.inr (by omega))
    rcases upd_true.mp hz with e | e
    · subst e; exact .base hw
    · cases e
section
variable {S : List (List Nat)} {r : Nat} {at_ par : Nat → Nat}
theorem Gd.small (hD : Gd S r at_ par) : (dtl S r).length ≤ 1000 := by rw [dtl_length]; have := hD.gr.le; omega
theorem Gd.over_ev (hD : Gd S r at_ par) {a b : Nat} (ha : a < S.length) (hb : b < S.length) {v : Bool} (h : v = true ↔ Dm S r a b) : Ev (fun k => dom_Over.f k (dtl S r) (a : Int) (b : Int)) v :=
  (over_ok _ hD.small _ _).of_eq (hD.over_eq ha hb v h)
open Classical in
theorem Gd.over_ev' (hD : Gd S r at_ par) {a b : Nat} (ha : a < S.length) (hb : b < S.length) : Ev (fun k => dom_Over.f k (dtl S r) (a : Int) (b : Int)) (decide (Dm S r a b)) :=
  hD.over_ev ha hb decide_eq_true_iff
theorem Gd.meet_ev (hD : Gd S r at_ par) {a b : Nat} (ha : Rch S (-1) r a) (hb : Rch S (-1) r b) : ∃ m : Nat, Ev (fun k => dom_Meet.f k (dtl S r) (a : Int) (b : Int)) (m : Int) ∧ Dm S r m a ∧ Dm S r m b ∧ ∀ c, Dm S r c a → Dm S r c b → Dm S r c m := by
  obtain ⟨m, h1, h2⟩ := hD.meet ha hb
  exact ⟨m, (meet_ok _ hD.small _ _).of_eq h1, h2⟩
theorem Gd.meet_no_ev (hD : Gd S r at_ par) {a b : Nat} (ha : a < S.length) (hb : b < S.length) (h : ¬ (Rch S (-1) r a ∧ Rch S (-1) r b)) : Ev (fun k => dom_Meet.f k (dtl S r) (a : Int) (b : Int)) (-2) :=
  (meet_ok _ hD.small _ _).of_eq (hD.meet_no ha hb h)
end
theorem root_mod {a : Int} {n : Nat} (h : (Lit.int .u8 a).wf = true) (hn : 0 < n) : Int.tmod (wrap64 a) (n : Int) = ((a.toNat % n : Nat) : Int) ∧ a.toNat % n < n := by
  have h0 : 0 ≤ a ∧ a < 256 := by simp [Lit.wf, IntKind.min, IntKind.max, IntKind.signed, IntKind.bits] at h; omega
  refine ⟨?_, Nat.mod_lt _ hn⟩
  rw [wrap_id (by omega) (by omega)]
  obtain ⟨m, rfl⟩ : ∃ m : Nat, a = (m : Int) := ⟨a.toNat, by omega⟩
  rw [Int.toNat_natCast, Int.ofNat_tmod]
theorem order_nil (r : Int) : Ev (fun k => graph_Order.f k [] [] r) [] := order_no r (may_bad (s := []) (by simp) (by simp) (by decide) [])
theorem tree_nil (r : Int) : Ev (fun k => dom_Tree.f k [] [] r) [] := tree_no (order_nil r)

theorem cu (d : Array Int) (hs : ∀ i j, i ≤ j → j < d.size → d[i]! ≤ d[j]!) : ∀ m, m ≤ d.size → (Go.Lib.compactUpTo d m).Pairwise (· < ·) ∧ ∀ y, y ∈ Go.Lib.compactUpTo d m ↔ ∃ j, j < m ∧ y = d[j]!
  | 0, _ => ⟨by simp [Go.Lib.compactUpTo], fun y => by simp [Go.Lib.compactUpTo]⟩
  | m + 1, hm => by
    obtain ⟨h1, h2⟩ := cu d hs m (by omega)
    rw [Go.Lib.compactUpTo_succ]
    by_cases hk : Go.Lib.keeps d m = true
    · rw [if_pos hk]
      simp only [Go.Lib.keeps, decide_eq_true_eq] at hk
      refine ⟨List.pairwise_append.mpr ⟨h1, List.pairwise_singleton .., fun a ha b hb => ?_⟩, fun y => ?_⟩
      · obtain ⟨j, hj, rfl⟩ := (h2 a).mp ha
        rw [List.mem_singleton] at hb
        subst hb
        have e1 := hs j (m - 1) (by omega) (by omega)
        have e2 := hs (m - 1) m (by omega) (by omega)
        have e3 : d[m]! ≠ d[m - 1]! := hk.resolve_left (by omega)
        omega
      · rw [List.mem_append, h2, List.mem_singleton]
        constructor
        · rintro (⟨j, hj, e⟩ | e)
          · exact ⟨j, by omega, e⟩
          · exact ⟨m, by omega, e⟩
        · rintro ⟨j, hj, e⟩
          by_cases h : j = m
          · subst h; exact .inr e
          · exact .inl ⟨j, by omega, e⟩
    · rw [if_neg hk, List.append_nil]
      simp only [Go.Lib.keeps, decide_eq_true_eq] at hk
      have hk0 : ¬ m = 0 := fun e => hk (.inl e)
      have hk1 : d[m]! = d[m - 1]! := Classical.byContradiction (fun e => hk (.inr e))
      refine ⟨h1, fun y => ?_⟩
      rw [h2]
      constructor
      · rintro ⟨j, hj, e⟩; exact ⟨j, by omega, e⟩
      · rintro ⟨j, hj, e⟩
        by_cases h : j = m
        · subst h; exact ⟨j - 1, by omega, by rw [e, hk1]⟩
        · exact ⟨j, by omega, e⟩
theorem compact_sorted (zs : List Int) (hs : zs.Pairwise (· ≤ ·)) : (Go.Lib.compact zs).Pairwise (· < ·) ∧ ∀ y, y ∈ Go.Lib.compact zs ↔ y ∈ zs := by
  have h := cu zs.toArray (fun i j hij hj => by
    have hj : j < zs.length := by simpa using hj
    by_cases e : i = j
    · subst e; exact Int.le_refl _
    · have := List.pairwise_iff_getElem.mp hs i j (by omega) hj (by omega)
      simpa [hj, show i < zs.length by omega] using this) zs.length (by simp)
  refine ⟨h.1, fun y => (h.2 y).trans ?_⟩
  constructor
  · rintro ⟨j, hj, rfl⟩
    have : zs.toArray[j]! = zs[j] := by simp [hj]
    rw [this]; exact List.getElem_mem hj
  · intro hy
    obtain ⟨j, hj, rfl⟩ := List.getElem_of_mem hy
    exact ⟨j, hj, by simp [hj]⟩
abbrev leI : Int → Int → Bool := fun x y => decide (x ≤ y)
theorem isort_le (l : List Int) : (Go.Proofs.YtheillkpgmpnlaaH.isort leI l).Pairwise (· ≤ ·) := by
  have := Go.Proofs.YtheillkpgmpnlaaH.isort_pw (le := leI) (fun a b => by simp only [leI, decide_eq_true_eq]; omega) (fun a b c h1 h2 => by simp only [leI, decide_eq_true_eq] at *; omega) l
  exact this.imp (fun h => of_decide_eq_true h)
open Classical in
noncomputable def dmb (S : List (List Nat)) (a b : Nat) : Bool := decide (Dm S 0 a b)
theorem dmb_true {S : List (List Nat)} {a b : Nat} : dmb S a b = true ↔ Dm S 0 a b := by simp [dmb]
noncomputable def pf (S : List (List Nat)) (x : Nat) : Nat → Bool := fun b => decide (b = x) || !dmb S x b
noncomputable def rowf (S : List (List Nat)) (x a m : Nat) : List Nat := ((S.getD a []).take m).filter (pf S x)
noncomputable def raw (S : List (List Nat)) (x : Nat) : Nat → List Nat
  | 0 => []
  | a + 1 => raw S x a ++ if dmb S x a = true then rowf S x a (S.getD a []).length else []
/-- A block's frontier. -/
noncomputable def fro (S : List (List Nat)) (x : Nat) : List Int := if dmb S x x = true then Go.Lib.compact (Go.Proofs.YtheillkpgmpnlaaH.isort leI (up (raw S x S.length))) else []
section
variable {S : List (List Nat)} {at_ par : Nat → Nat}
theorem rowf_len (hG : Gr S) {x a : Nat} (ha : a < S.length) (m : Nat) : (rowf S x a m).length ≤ 64 := by
  unfold rowf
  have h1 := List.length_filter_le (pf S x) ((S.getD a []).take m)
  have h2 : ((S.getD a []).take m).length ≤ (S.getD a []).length := by rw [List.length_take]; omega
  have h3 := gr_len hG ha
  omega
theorem raw_len (hG : Gr S) (x : Nat) : ∀ a, a ≤ S.length → (raw S x a).length ≤ 64 * a
  | 0, _ => by simp [raw]
  | a + 1, ha => by
    have h1 := raw_len hG x a (by omega)
    have h2 := rowf_len hG (x := x) (a := a) (by omega) (S.getD a []).length
    rw [raw, List.length_append]
    split
    · omega
    · simp; omega
theorem raw_mem (hG : Gr S) {x y : Nat} : ∀ n, n ≤ S.length → (y ∈ raw S x n ↔ ∃ a, a < n ∧ Dm S 0 x a ∧ y ∈ S.getD a [] ∧ (y = x ∨ ¬ Dm S 0 x y))
  | 0, _ => by simp [raw]
  | n + 1, hn => by
    have hp : ∀ y, pf S x y = true ↔ (y = x ∨ ¬ Dm S 0 x y) := by
      intro y
      unfold pf
      rw [Bool.or_eq_true, decide_eq_true_eq, Bool.not_eq_true', ← Bool.not_eq_true, dmb_true]
    rw [raw, List.mem_append, raw_mem hG n (by omega)]
    have h2 : (y ∈ if dmb S x n = true then rowf S x n (S.getD n []).length else []) ↔ Dm S 0 x n ∧ y ∈ S.getD n [] ∧ (y = x ∨ ¬ Dm S 0 x y) := by
      by_cases h : dmb S x n = true
      · rw [if_pos h]
        unfold rowf
        rw [List.take_length, List.mem_filter, hp]
        exact ⟨fun h2 => ⟨dmb_true.mp h, h2⟩, fun h2 => h2.2⟩
      · rw [if_neg h]
        exact ⟨fun h2 => absurd h2 (by simp), fun h2 => absurd (dmb_true.mpr h2.1) h⟩
    rw [h2]
    constructor
    · rintro (⟨a, ha, h3⟩ | h3)
      · exact ⟨a, by omega, h3⟩
      · exact ⟨n, by omega, h3⟩
    · rintro ⟨a, ha, h3⟩
      by_cases e : a = n
      · subst e; exact .inr h3
      · exact .inl ⟨a, by omega, h3⟩
theorem over_dmb (hD : Gd S 0 at_ par) {a b : Nat} (ha : a < S.length) (hb : b < S.length) : Ev (fun k => dom_Over.f k (dtl S 0) (a : Int) (b : Int)) (dmb S a b) := hD.over_ev ha hb dmb_true
theorem front_l1 (hD : Gd S 0 at_ par) {x a : Nat} (hx : x < S.length) (ha : a < S.length) (pre : List Nat) (hpre : pre.length ≤ 4096) (v : List Int) (H : Ev (fun k => dep_Frontier.l0 k (x : Int) (dtl S 0) (up (pre ++ rowf S x a (S.getD a []).length)) (up2 S) (S.length : Int) ((a + 1 : Nat) : Int)) v) (d : Nat) : ∀ m, m ≤ (S.getD a []).length → (S.getD a []).length - m = d →
    Ev (fun k => dep_Frontier.l1 k (x : Int) (dtl S 0) (up (pre ++ rowf S x a m)) (up2 S) (S.length : Int) (a : Int) (up (S.getD a [])) ((S.getD a []).length : Int) (m : Int)) v := by
  have hG := hD.gr
  have hle := hG.le
  have hrl := gr_len hG ha
  induction d with
  | zero =>
    intro m hm hd
    obtain rfl : m = (S.getD a []).length := by omega
    refine Ev.succ ?_; simp only [dep_Frontier.l1]
    rw [wrap_nat (i := a) (by omega)]
    exact Ev.ifn (by omega) H
  | succ d ih =>
    intro m hm hd
    have hml : m < (S.getD a []).length := by omega
    have hy := (hG.row a ha).2 _ (getD_mem (d := 0) hml)
    have h2 := rowf_len hG (x := x) ha m
    have hn := ih (m + 1) (by omega) (by omega)
    have hs : rowf S x a (m + 1) = rowf S x a m ++ (if pf S x ((S.getD a []).getD m 0) = true then [(S.getD a []).getD m 0] else []) := by
      unfold rowf
      rw [take_getD _ m 0 hml, List.filter_append]
      cases e : pf S x ((S.getD a []).getD m 0) with
      | true => rw [List.filter_cons_of_pos e]; rfl
      | false => rw [List.filter_cons_of_neg (by rw [e]; decide)]; simp
    rw [hs, ← List.append_assoc] at hn
    have hlen : (up (pre ++ rowf S x a m)).length < 17592186044416 := by rw [up_length, List.length_append]; omega
    refine Ev.succ ?_; simp only [dep_Frontier.l1]
    rw [rd_up, wrap_nat (i := m) (by omega), up_length]
    refine Ev.ifp (by omega) (Ev.ifp (by omega) (Ev.ifp (by omega) ?_))
    by_cases e1 : (S.getD a []).getD m 0 = x
    · rw [if_pos (by unfold pf; rw [decide_eq_true e1]; rfl)] at hn
      refine Ev.ifp (by omega) (Ev.ifp hlen ?_)
      rw [← up_snoc]; exact hn
    · refine Ev.ifn (by omega) (Ev.bind (over_dmb hD hx hy) ?_)
      cases e2 : dmb S x ((S.getD a []).getD m 0) with
      | true =>
        rw [if_neg (by unfold pf; rw [decide_eq_false e1, e2]; decide), List.append_nil] at hn
        exact Ev.ifp rfl hn
      | false =>
        rw [if_pos (by unfold pf; rw [e2]; simp)] at hn
        refine Ev.ifn (by decide) (Ev.ifp hlen ?_)
        rw [← up_snoc]; exact hn
theorem front_l0 (hD : Gd S 0 at_ par) {x : Nat} (hx : x < S.length) (d : Nat) : ∀ a, a ≤ S.length → S.length - a = d →
    Ev (fun k => dep_Frontier.l0 k (x : Int) (dtl S 0) (up (raw S x a)) (up2 S) (S.length : Int) (a : Int)) (Go.Lib.compact (Go.Proofs.YtheillkpgmpnlaaH.isort leI (up (raw S x S.length)))) := by
  have hG := hD.gr
  have hle := hG.le
  induction d with
  | zero =>
    intro a ha hd
    obtain rfl : a = S.length := by omega
    have hl := raw_len hG x S.length (Nat.le_refl _)
    have hl2 : (Go.Proofs.YtheillkpgmpnlaaH.isort leI (up (raw S x S.length))).length = (raw S x S.length).length := by rw [(Go.Proofs.YtheillkpgmpnlaaH.isort_perm leI _).length_eq, up_length]
    refine Ev.succ ?_; simp only [dep_Frontier.l0]
    refine Ev.ifn (by omega) ?_
    have e1 : slices_Sort_int_int.f (up (raw S x S.length)) = some (Go.Proofs.YtheillkpgmpnlaaH.isort leI (up (raw S x S.length))) := by
      unfold slices_Sort_int_int.f; rw [if_pos (by rw [up_length]; omega)]
    have e2 : slices_Compact_int_int.f (Go.Proofs.YtheillkpgmpnlaaH.isort leI (up (raw S x S.length))) = some (Go.Lib.compact (Go.Proofs.YtheillkpgmpnlaaH.isort leI (up (raw S x S.length)))) := by
      unfold slices_Compact_int_int.f; rw [if_pos (by omega)]
    rw [e1]
    simp only [Option.bind_some]
    rw [e2]
    exact Ev.pure
  | succ d ih =>
    intro a ha hd
    have hal : a < S.length := by omega
    have hn := ih (a + 1) (by omega) (by omega)
    rw [raw] at hn
    have hl := raw_len hG x a (by omega)
    refine Ev.succ ?_; simp only [dep_Frontier.l0]
    rw [wrap_nat (by omega), rdL_up, up_length]
    refine Ev.ifp (by omega) (Ev.ifp (by omega) (Ev.ifp (by rw [up2_length]; omega) (Ev.bind (over_dmb hD hx hal) ?_)))
    cases e : dmb S x a with
    | true =>
      rw [if_pos e] at hn
      have h := front_l1 hD hx hal (raw S x a) (by omega) _ hn _ 0 (Nat.zero_le _) rfl
      rw [show rowf S x a 0 = [] by simp [rowf], List.append_nil] at h
      exact Ev.ifp rfl h
    | false =>
      rw [if_neg (by rw [e]; decide), List.append_nil] at hn
      exact Ev.ifn (by decide) hn
theorem front_ok (hG : Gr S) {x : Nat} (hx : x < S.length) : Ev (fun k => dep_Frontier.f k (up2 S) (up2 (pr S)) (x : Int)) (fro S x) := by
  obtain ⟨at_, par, hD⟩ := gd_ex hG hG.pos
  unfold dep_Frontier.f fro
  refine Ev.bind (tree_ok hG (r := 0) hG.pos) (Ev.bind (over_dmb hD hx hx) ?_)
  rw [up2_length]
  cases e : dmb S x x with
  | true => exact Ev.ifp rfl (by rw [if_pos rfl]; exact front_l0 hD hx S.length 0 (Nat.zero_le _) rfl)
  | false => exact Ev.ifn (by decide) (by rw [if_neg (by decide)]; exact Ev.pure)
theorem fro_pw (x : Nat) : (fro S x).Pairwise (· < ·) := by
  unfold fro
  split
  · exact (compact_sorted _ (isort_le _)).1
  · exact .nil
theorem fro_mem (hG : Gr S) {x : Nat} {y : Int} : y ∈ fro S x ↔ ∃ b : Nat, y = (b : Int) ∧ ∃ a, Dm S 0 x a ∧ b ∈ S.getD a [] ∧ (b = x ∨ ¬ Dm S 0 x b) := by
  unfold fro
  by_cases h : dmb S x x = true
  · rw [if_pos h, (compact_sorted _ (isort_le _)).2, (Go.Proofs.YtheillkpgmpnlaaH.isort_perm leI _).mem_iff]
    simp only [up, List.mem_map, raw_mem hG S.length (Nat.le_refl _)]
    constructor
    · rintro ⟨b, ⟨a, _, h1⟩, rfl⟩; exact ⟨b, rfl, a, h1⟩
    · rintro ⟨b, rfl, a, h1⟩
      refine ⟨b, ⟨a, ?_, h1⟩, rfl⟩
      exact h1.1.1.lt hG hG.pos
  · rw [if_neg h]
    refine ⟨fun h1 => absurd h1 (by simp), ?_⟩
    rintro ⟨b, _, a, h1, _⟩
    exact absurd (dmb_true.mpr (dm_refl (dm_rch h1))) h
/-- Two ways from apart lead to a block: it is in a frontier. -/
theorem fro_two (hG : Gr S) {p q b : Nat} (hne : p ≠ q) (hp : Rch S (-1) 0 p) (hq : Rch S (-1) 0 q) (h1 : b ∈ S.getD p []) (h2 : b ∈ S.getD q []) : (b : Int) ∈ fro S p ∨ (b : Int) ∈ fro S q := by
  obtain ⟨at_, par, hD⟩ := gd_ex hG hG.pos
  by_cases c1 : b = p ∨ ¬ Dm S 0 p b
  · exact .inl ((fro_mem hG).mpr ⟨b, rfl, p, dm_refl hp, h1, c1⟩)
  · by_cases c2 : b = q ∨ ¬ Dm S 0 q b
    · exact .inr ((fro_mem hG).mpr ⟨b, rfl, q, dm_refl hq, h2, c2⟩)
    · exfalso
      have a1 : b ≠ p ∧ Dm S 0 p b := ⟨fun e => c1 (.inl e), Classical.byContradiction (fun e => c1 (.inr e))⟩
      have a2 : b ≠ q ∧ Dm S 0 q b := ⟨fun e => c2 (.inl e), Classical.byContradiction (fun e => c2 (.inr e))⟩
      have key : ∀ u v : Nat, u ≠ v → Rch S (-1) 0 u → b ∈ S.getD u [] → b ≠ v → Dm S 0 v b → Dm S 0 u v → False := by
        intro u v huv hu hub hbv hvb huv2
        have h3 : ¬ Dm S 0 v u := fun hc => huv (dm_antisymm hD.pl huv2 hc)
        have h4 : Rch S (v : Int) 0 u := Classical.byContradiction (fun hn => h3 ⟨hu, hn⟩)
        exact hvb.2 (.step h4 hub (by omega))
      rcases dm_line a1.2 a2.2 with h | h
      · exact key p q hne hp h1 a2.1 a2.2 h
      · exact key q p (fun e => hne e.symm) hq h2 a1.1 a1.2 h
theorem lf_l3 (hD : Gd S 0 at_ par) (s : Sn) {b : Nat} (hb : b < S.length) (hs : ∀ x, x < S.length → ∀ c : Nat, (c : Int) ∈ fro S x → s c = true)
    (H : Ev (fun k => locksteplaw09_DepFrontier.l2 k (up2 S) (dtl S 0) (rbn S.length s) ((b + 1 : Nat) : Int) (up2 S) (up2 (pr S))) true) (d : Nat) : ∀ m, m ≤ ((pr S).getD b []).length → ((pr S).getD b []).length - m = d →
    Ev (fun k => locksteplaw09_DepFrontier.l3 k (up2 S) (dtl S 0) (rbn S.length s) (b : Int) (((((pr S).getD b []).take m).filter fun p => dmb S p p).length : Int) (m : Int) (up2 S) (up2 (pr S))) true := by
  have hG := hD.gr
  have hle := hG.le
  have hrl := gr_len (gr_pr hG) (i := b) (by rw [pr_length]; exact hb)
  induction d with
  | zero =>
    intro m hm hd
    obtain rfl : m = ((pr S).getD b []).length := by omega
    rw [List.take_length]
    have hfl := List.length_filter_le (fun p => dmb S p p) ((pr S).getD b [])
    refine Ev.succ ?_; simp only [locksteplaw09_DepFrontier.l3]
    rw [rdL_up, up_length, wrap_nat (i := b) (by omega), rd_rbn _ _ hb]
    refine Ev.ifp (by omega) (Ev.ifp (by rw [up2_length, pr_length]; omega) (Ev.ifn (by omega) ?_))
    by_cases hc : 2 ≤ (((pr S).getD b []).filter fun p => dmb S p p).length
    · refine Ev.ifp (by omega) (Ev.ifp (by rw [rbn_length]; omega) (Ev.ifp ?_ H))
      have hnd : (((pr S).getD b []).filter fun p => dmb S p p).Nodup := (gr_nodup (gr_pr hG) (i := b) (by rw [pr_length]; exact hb)).filter _
      cases hl : (((pr S).getD b []).filter fun p => dmb S p p) with
      | nil => rw [hl] at hc; simp at hc
      | cons p l =>
        cases l with
        | nil => rw [hl] at hc; simp at hc
        | cons q l =>
          rw [hl] at hnd
          have hpq : p ≠ q := fun e => (List.nodup_cons.mp hnd).1 (by rw [e]; exact List.mem_cons_self ..)
          have mp : p ∈ (((pr S).getD b []).filter fun p => dmb S p p) := by rw [hl]; exact List.mem_cons_self ..
          have mq : q ∈ (((pr S).getD b []).filter fun p => dmb S p p) := by rw [hl]; exact List.mem_cons_of_mem _ (List.mem_cons_self ..)
          obtain ⟨p1, p2⟩ := List.mem_filter.mp mp
          obtain ⟨q1, q2⟩ := List.mem_filter.mp mq
          have p3 := (mem_pr hb).mp p1
          have q3 := (mem_pr hb).mp q1
          rcases fro_two hG hpq (dmb_true.mp p2).1 (dmb_true.mp q2).1 p3.2 q3.2 with h | h
          · exact hs p p3.1 b h
          · exact hs q q3.1 b h
    · exact Ev.ifn (by omega) H
  | succ d ih =>
    intro m hm hd
    have hml : m < ((pr S).getD b []).length := by omega
    have hn := ih (m + 1) (by omega) (by omega)
    have hp := ((mem_pr hb).mp (getD_mem (d := 0) hml)).1
    have hfl := List.length_filter_le (fun p => dmb S p p) (((pr S).getD b []).take m)
    have htl : (((pr S).getD b []).take m).length ≤ m := List.length_take_le m _
    rw [take_getD _ m 0 hml, List.filter_append, List.length_append] at hn
    refine Ev.succ ?_; simp only [locksteplaw09_DepFrontier.l3]
    rw [rdL_up, up_length, rd_up, wrap_nat (i := m) (by omega), wrap_nat (by omega)]
    refine Ev.ifp (by omega) (Ev.ifp (by rw [up2_length, pr_length]; omega) (Ev.ifp (by omega) (Ev.ifp (by omega) (Ev.bind (over_dmb hD hp hp) ?_))))
    cases e : dmb S (((pr S).getD b []).getD m 0) (((pr S).getD b []).getD m 0) with
    | true => rw [List.filter_cons_of_pos (p := fun p => dmb S p p) e] at hn; exact Ev.ifp rfl hn
    | false => rw [List.filter_cons_of_neg (p := fun p => dmb S p p) (by show ¬ dmb S _ _ = true; rw [e]; decide)] at hn; exact Ev.ifn (by decide) hn
theorem lf_l2 (hD : Gd S 0 at_ par) (s : Sn) (hs : ∀ x, x < S.length → ∀ c : Nat, (c : Int) ∈ fro S x → s c = true) (d : Nat) : ∀ b, b ≤ S.length → S.length - b = d →
    Ev (fun k => locksteplaw09_DepFrontier.l2 k (up2 S) (dtl S 0) (rbn S.length s) (b : Int) (up2 S) (up2 (pr S))) true := by
  induction d with
  | zero =>
    intro b hb hd
    refine Ev.succ ?_; simp only [locksteplaw09_DepFrontier.l2]
    exact Ev.ifn (by rw [up2_length]; omega) Ev.pure
  | succ d ih =>
    intro b hb hd
    refine Ev.succ ?_; simp only [locksteplaw09_DepFrontier.l2]
    exact Ev.ifp (by rw [up2_length]; omega) (lf_l3 hD s (by omega) hs (ih (b + 1) (by omega) (by omega)) _ 0 (Nat.zero_le _) rfl)
theorem lf_l1 (hD : Gd S 0 at_ par) {x : Nat} (hx : x < S.length)
    (H : ∀ s : Sn, (∀ u, u < x + 1 → ∀ c : Nat, (c : Int) ∈ fro S u → s c = true) → Ev (fun k => locksteplaw09_DepFrontier.l0 k (up2 S) (dtl S 0) (rbn S.length s) ((x + 1 : Nat) : Int) (up2 S) (up2 (pr S))) true) (hfl : (fro S x).length ≤ 4096) (d : Nat) : ∀ (m : Nat) (s : Sn), m ≤ (fro S x).length → (fro S x).length - m = d →
    (∀ u, u < x → ∀ c : Nat, (c : Int) ∈ fro S u → s c = true) → (∀ c : Nat, (c : Int) ∈ (fro S x).take m → s c = true) →
    Ev (fun k => locksteplaw09_DepFrontier.l1 k (up2 S) (dtl S 0) (rbn S.length s) (x : Int) (fro S x) (m : Int) (up2 S) (up2 (pr S))) true := by
  have hG := hD.gr
  have hle := hG.le
  induction d with
  | zero =>
    intro m s hm hd h1 h2
    obtain rfl : m = (fro S x).length := by omega
    rw [List.take_length] at h2
    refine Ev.succ ?_; simp only [locksteplaw09_DepFrontier.l1]
    rw [wrap_nat (i := x) (by omega)]
    refine Ev.ifn (by omega) (H s (fun u hu c hc => ?_))
    by_cases e : u = x
    · subst e; exact h2 c hc
    · exact h1 u (by omega) c hc
  | succ d ih =>
    intro m s hm hd h1 h2
    have hml : m < (fro S x).length := by omega
    obtain ⟨b, hb, a, ha1, ha2, ha3⟩ := (fro_mem hG).mp (getD_mem (l := fro S x) (d := 0) hml)
    have hbl := (hG.row a (ha1.1.lt hG hG.pos)).2 b ha2
    have hrd : rd (fro S x) (m : Int) = (b : Int) := by rw [show rd (fro S x) (m : Int) = (fro S x).getD m 0 by simp [rd]]; exact hb
    have hset : Ev (fun k => if (0 : Int) ≤ (b : Int) then (if (b : Int) < ((rbn S.length s).length : Int) then (locksteplaw09_DepFrontier.l1 k (up2 S) (dtl S 0) ((rbn S.length s).set (b : Int).toNat true) (x : Int) (fro S x) ((m + 1 : Nat) : Int) (up2 S) (up2 (pr S))) else none) else none) true := by
      refine Ev.ifp (by omega) (Ev.ifp (by rw [rbn_length]; omega) ?_)
      rw [Int.toNat_natCast, set_rbn]
      refine ih (m + 1) (upd s b) (by omega) (by omega) (fun u hu c hc => upd_true.mpr (.inr (h1 u hu c hc))) (fun c hc => ?_)
      rw [take_getD _ m 0 hml, List.mem_append, List.mem_singleton, hb] at hc
      rcases hc with hc | hc
      · exact upd_true.mpr (.inr (h2 c hc))
      · exact upd_true.mpr (.inl (by omega))
    have hcont : Ev (fun k => if (m : Int) > 0 then (if 0 ≤ wrap64 ((m : Int) - 1) then (if wrap64 ((m : Int) - 1) < ((fro S x).length : Int) then (if (b : Int) ≤ rd (fro S x) (wrap64 ((m : Int) - 1)) then (some false) else (if (0 : Int) ≤ (b : Int) then (if (b : Int) < ((rbn S.length s).length : Int) then (locksteplaw09_DepFrontier.l1 k (up2 S) (dtl S 0) ((rbn S.length s).set (b : Int).toNat true) (x : Int) (fro S x) ((m + 1 : Nat) : Int) (up2 S) (up2 (pr S))) else none) else none)) else none) else none) else (if (0 : Int) ≤ (b : Int) then (if (b : Int) < ((rbn S.length s).length : Int) then (locksteplaw09_DepFrontier.l1 k (up2 S) (dtl S 0) ((rbn S.length s).set (b : Int).toNat true) (x : Int) (fro S x) ((m + 1 : Nat) : Int) (up2 S) (up2 (pr S))) else none) else none)) true := by
      by_cases h0 : m = 0
      · exact Ev.ifn (by omega) hset
      · have ew : wrap64 ((m : Int) - 1) = ((m - 1 : Nat) : Int) := by rw [wrap_id (by omega) (by omega)]; omega
        rw [ew]
        refine Ev.ifp (by omega) (Ev.ifp (by omega) (Ev.ifp (by omega) (Ev.ifn ?_ hset)))
        have hlt := List.pairwise_iff_getElem.mp (fro_pw (S := S) x) (m - 1) m (by omega) hml (by omega)
        have e1 : rd (fro S x) ((m - 1 : Nat) : Int) = (fro S x)[m - 1]'(by omega) := by simp [rd, show m - 1 < (fro S x).length by omega]
        have e2 : (fro S x)[m] = (b : Int) := by rw [← hb]; simp [hml]
        rw [e1]; omega
    refine Ev.succ ?_; simp only [locksteplaw09_DepFrontier.l1]
    rw [hrd, wrap_nat (i := m) (by omega)]
    refine Ev.ifp (by omega) (Ev.ifp (by omega) ?_)
    by_cases e : b = x
    · exact Ev.ifp (by omega) hcont
    · refine Ev.ifn (by omega) (Ev.bind (over_dmb hD hx hbl) (Ev.ifn ?_ hcont))
      rw [dmb_true]; exact ha3.resolve_left e
theorem fro_len (hG : Gr S) (x : Nat) : (fro S x).length ≤ 4096 := by
  have hle := hG.le
  unfold fro
  split
  · have h1 := raw_len hG x S.length (Nat.le_refl _)
    have h2 := Go.Lib.compact_length_le (Go.Proofs.YtheillkpgmpnlaaH.isort leI (up (raw S x S.length)))
    rw [(Go.Proofs.YtheillkpgmpnlaaH.isort_perm leI _).length_eq, up_length] at h2
    omega
  · simp
theorem lf_l0 (hD : Gd S 0 at_ par) (d : Nat) : ∀ (x : Nat) (s : Sn), x ≤ S.length → S.length - x = d → (∀ u, u < x → ∀ c : Nat, (c : Int) ∈ fro S u → s c = true) →
    Ev (fun k => locksteplaw09_DepFrontier.l0 k (up2 S) (dtl S 0) (rbn S.length s) (x : Int) (up2 S) (up2 (pr S))) true := by
  induction d with
  | zero =>
    intro x s hx hd hs
    obtain rfl : x = S.length := by omega
    refine Ev.succ ?_; simp only [locksteplaw09_DepFrontier.l0]
    exact Ev.ifn (by rw [up2_length]; omega) (lf_l2 hD s hs _ 0 (Nat.zero_le _) rfl)
  | succ d ih =>
    intro x s hx hd hs
    refine Ev.succ ?_; simp only [locksteplaw09_DepFrontier.l0]
    refine Ev.ifp (by rw [up2_length]; omega) (Ev.bind (front_ok hD.gr (by omega)) ?_)
    exact lf_l1 hD (by omega) (fun s2 h2 => ih (x + 1) s2 (by omega) (by omega) h2) (fro_len hD.gr x) _ 0 s (Nat.zero_le _) rfl hs (fun c hc => by rw [List.take_zero] at hc; cases hc)
end
theorem overT_nil (a b : Int) : overT [] a b = false := by
  unfold overT
  rw [show inT [] [a, b] = false from rfl]; rfl
theorem front_nil : Ev (fun k => dep_Frontier.f k [] [] 0) [] := by
  unfold dep_Frontier.f
  exact Ev.bind (tree_nil 0) (Ev.bind ((over_ok [] (by simp) 0 0).of_eq (overT_nil 0 0)) (Ev.ifn (by decide) Ev.pure))
theorem depFrontier : locksteplaw09_DepFrontier.Pure := by
  intro l0 hrow
  refine Ev.at ?_
  have hbb : big = 9223372036854775807 := rfl
  have hml : maxLen ≤ big := by decide
  have hb : l0.length ≤ big := Nat.le_trans hrow.1 hml
  unfold locksteplaw09_DepFrontier.f
  refine Ev.bind awake_ev (Ev.ifp rfl ?_)
  have ht : Ev (fun k => locksteplaw09_DepFrontier.j0 k l0 true) true := by
    refine Ev.succ ?_; simp only [locksteplaw09_DepFrontier.j0]; exact Ev.ifp trivial Ev.pure
  by_cases h16 : (l0.length : Int) > 14
  · exact Ev.ifp h16 ht
  · refine Ev.ifn h16 ?_
    obtain ⟨b, h1, h2⟩ := small_ev l0 hb
    refine Ev.bind h1 ?_
    cases b with
    | false => exact ht
    | true =>
      have hr : ∀ l ∈ l0, l.length ≤ big := fun l hl => by have := (h2 rfl).2 l hl; omega
      refine Ev.succ ?_; simp only [locksteplaw09_DepFrontier.j0]
      refine Ev.ifn (by decide) ?_
      cases hg : goodb l0 with
      | false => exact Ev.bind (make_bad hb hr hg) (Ev.ifn (by decide) (Ev.bind front_nil Ev.pure))
      | true =>
        obtain ⟨S, h, rfl⟩ := good_gr hg
        obtain ⟨at_, par, hD⟩ := gd_ex h h.pos
        rw [up2_length] at h16
        refine Ev.bind (make_ok h) (Ev.ifp rfl (Ev.bind (tree_ok h (r := 0) h.pos) ?_))
        rw [up2_length, Int.toNat_natCast]
        refine Ev.ifp (by omega) (Ev.ifp (by omega) ?_)
        have h3 := lf_l0 hD _ 0 none' (Nat.zero_le _) rfl (fun u hu => by omega)
        have e : rbn S.length none' = List.replicate S.length false := by
          apply List.ext_getElem
          · simp [rbn]
          · intro j j1 j2; simp [rbn, none']
        rw [e] at h3
        exact h3
end Go.Proofs.Ytheillkpgmpnlaa.GP
namespace Go.Proofs.Ytheillkpgmpnlaa.Pure
theorem DepFrontier : Go.Proofs.Ytheillkpgmpnlaa.G.locksteplaw09_DepFrontier.Pure := GP.depFrontier
end Go.Proofs.Ytheillkpgmpnlaa.Pure
namespace Go.Proofs.Ytheillkpgmpnlaa.depFrontier
open Go.Proofs.YtheillkpgmpnlaaH Go.Proofs.Ytheillkpgmpnlaa.G
open Go.ChangeShapes Go.WideShapes Go.ChangeAt Go.RowKit
open Go.ChangeMaps (open_string shut_string)
set_option linter.unusedVariables false
theorem own : ownKnob Try.prog.godebug = none := by kernel_rfl
theorem laidOut : laidOutB Try.prog = true := by kernel_rfl
def IsRow (k : IntKind) (w : World) (a : Option Addr) (len cap : Nat) (zs : List Int) : Prop :=
  (a = none ∧ len = 0 ∧ cap = 0 ∧ zs = []) ∨
  ∃ x, a = some x ∧ len ≤ cap ∧ cap ≤ maxLen ∧ zs.length = cap ∧ (∀ i, i < zs.length → w.cell? (x.add i) = some (.int k (zs.getD i 0))) ∧ ∀ n ∈ zs, (Lit.int k n).wf = true
set_option maxRecDepth 100000 in
theorem lifted (os : Os) (started : os.Started) (H : Type) (enc : TypeId × Value → H) :
    ReturnsInHanded {} Try.checked os 6 .any (Rows.depFrontierSpec.pre6 enc Try.prog Try.f6 Rows.depFrontierRow.domain false) (Rows.depFrontierSpec.post enc Try.prog Try.f6 false true false false) := by
  refine returnsInHanded_of_change_sized (C := Try.checked) own started (by kernel_rfl) Try.func6
    (ChangeSpec.witness6 (enc := enc) (C := Try.checked) false ⟨#[], #[.slice none 0 0], []⟩ 8 (by kernel_rfl) (by kernel_rfl) (by kernel_rfl) (by kernel_rfl)) ?_
  intro W base args ds gs before hval0 hW hcnd hsz0 _
  have hsz : (DataW.weightsEach Try.prog (Try.f6.params.toList ++ Rows.depFrontierSpec.plain.varTypes Try.prog) (ds ++ gs)).all (· ≤ reachBytes) = true := hsz0
  have hval : ∀ (j : Nat) t v, Try.f6.params[j]? = some t → args[j]? = some v → Value.okWide Try.prog W .any base t v := hval0
  have hW' := hW
  obtain ⟨p, q, hA0, hV, rfl, hfz, hnd⟩ := hW
  have hA : DataW.TrodAll enc Try.prog W 0 (fun _ => true) true Try.f6.params.toList args.toList ds p := hA0
  rw [Try.params6] at hA hval hsz
  obtain ⟨v0, vs0, d0, ds0, p0, q0, hargs, rfl, rfl, h0, r0⟩ := trodAll_cons hA
  obtain ⟨rfl, rfl, rfl⟩ := trodAll_nil r0
  obtain rfl : args = #[v0] := by cases args; simp_all
  obtain ⟨rfl, rfl⟩ := trodVars_none hV
  obtain ⟨a0, len0, cap0, rfl⟩ := okWide_slice Try.underlying22 (hval 0 22 v0 rfl rfl)
  have k0 := h0
  have lt0 : ∀ x ∈ p0, x.block < W.heap.size := by obtain ⟨m, hm⟩ := k0; exact DataW.trod_lt m _ _ _ hm
  obtain ⟨l0, rfl, w0, y0, m0⟩ := C_of_rows Try.underlying22 Try.underlying31 Try.underlying3 (by kernel_rfl) (by kernel_rfl) h0
  clear hA0 hval0 hsz0 hsz
  refine (G.locksteplaw09_DepFrontier.walk Pure.DepFrontier a0 cap0 l0 W w0 y0 m0).mono fun e W' ⟨he, bel⟩ => ?_
  subst he
  exact ⟨_, rfl, _, _, _, [], _, [], hW', trodAll_mk1 (shut_bool Try.underlying4 _), (trodAll_cons_mk (Below.trod laidOut (by kernel_rfl) (of_decide_eq_true (by kernel_rfl)) k0 bel lt0) trodAll_mk0), rfl, bel.frame _, fun h => by cases h⟩
theorem over : Rows.depFrontierRow.holds Try.pinned (OpenSpec.ofChange Rows.depFrontierSpec) :=
  OpenClaim.holds_of_wide 6 Try.f6 rfl rfl rfl rfl rfl rfl rfl ⟨rfl, rfl, rfl, rfl, rfl⟩ rfl rfl rfl rfl rfl (by kernel_rfl) Try.func6 (by kernel_rfl)
    (of_decide_eq_true (by kernel_rfl)) (by unfold Func.isWrapper; first | (rw [if_pos (by decide +kernel)]; kernel_rfl) | (rw [if_neg (by decide +kernel)]; exact ⟨rfl, rfl⟩))
    (fun os started H enc _ => lifted os started H enc)
theorem proved : Rows.DepFrontierSaid := over
#print axioms proved
end Go.Proofs.Ytheillkpgmpnlaa.depFrontier
namespace Go.Proofs.Ytheillkpgmpnlaa
/-- The row, under a short name, for the claim. -/
theorem depFrontier_holds : Rows.DepFrontierSaid := depFrontier.proved
end Go.Proofs.Ytheillkpgmpnlaa
