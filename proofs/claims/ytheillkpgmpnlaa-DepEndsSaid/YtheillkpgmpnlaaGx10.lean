/- Printed by a program of this session (wip/tools/op.py, over the kit's print program): Go functions as plain Lean functions, each with a proof that the call answers so. Conditions: each theorem's own. -/
import Derived.Test.YtheillkpgmpnlaaHArr
import Derived.Test.YtheillkpgmpnlaaGx0
namespace Go.Proofs.Ytheillkpgmpnlaa.G
open Go.Proofs.YtheillkpgmpnlaaH
open Go.RowKit Go.Proofs.YtheillkpgmpnlaaW.PrintWords Go.Proofs.YtheillkpgmpnlaaW.PrintLast Go.Proofs.YtheillkpgmpnlaaW.PrintMore
attribute [local go_sem] max2_int min2_int max_two min_two max_three min_three max_four min_four   -- for this text's walks alone
set_option linter.unusedVariables false
set_option linter.unusedSimpArgs false

/-! ### pdom_missing: function 44 -/
-- needs HArr
def pdom_missing.l0 : Nat → List (List Int) → List Bool → Int → Option Int
 | 0, _, _, _ => none
 | k + 1, x0, m, i => if i < (x0.length : Int) then (if 0 ≤ i then (if i < 64 then (if rdOf false m i = true then (pdom_missing.l0 k x0 m (wrap64 (i + 1))) else some i) else none) else none) else some (x0.length : Int)
def pdom_missing.f (k : Nat) (l0_0 : List (List Int)) (l0_1 : List (List Int)) (l1 : List Bool) : Option Int := pdom_missing.l0 k l0_0 l1 0
theorem pdom_missing.mono_l : ∀ k y0 y1 y2, LeO (pdom_missing.l0 k y0 y1 y2) (pdom_missing.l0 (k + 1) y0 y1 y2)
 | 0 => fun _ _ _ r h => by simp [pdom_missing.l0] at h
 | k + 1 => by
  have ih0 := pdom_missing.mono_l k
  intro y0 y1 y2
  unfold pdom_missing.l0
  repeat' (with_reducible first | exact ih0 _ _ _ | exact LeO.refl _ | exact LeO.none _ | refine LeO.ite ?_ ?_)
theorem pdom_missing.mono : ∀ a0 a1 a2 k, LeO (pdom_missing.f k a0 a1 a2) (pdom_missing.f (k + 1) a0 a1 a2) := fun _ _ _ k => pdom_missing.mono_l k _ _ _
set_option maxHeartbeats 8000000 in
set_option maxRecDepth 100000 in
theorem pdom_missing.calls (k : Nat) (A0_0 : Option Addr) (c0_0 : Nat) (l0_0 : List (List Int)) (A0_1 : Option Addr) (c0_1 : Nat) (l0_1 : List (List Int)) (l1 : List Bool) (r : Int) (w : World) (hl1 : l1.length = 64) (h : pdom_missing.f k l0_0 l0_1 l1 = some r) :
 Calls Try.prog 44 #[.agg #[.slice A0_0 l0_0.length c0_0, .slice A0_1 l0_1.length c0_1], .agg (AV l1)] w fun e w' => e = .returned (.int .i64 r) ∧ Below w.heap.size w w' := by
 have HB := A_ (Below.refl w.heap.size w)
 have HM := Aside0.mk hl1
 have H : (pdom_missing.l0 k l0_0 l1 0) = some r := h
 clear h hl1
 have H' := Aside0.mk H
 clear H
 go_enter Try.func44, Try.ntmps44
 go_wp2_with (first
  | ((with_reducible refine gate_dst (N := 2) rfl ?_); refine box_event ?hg (N := 2) ?hd (cs := #[.slice A0_0 l0_0.length c0_0, .slice A0_1 l0_1.length c0_1]) (t := 26) ?hr ?_; (case hd => rfl); (case hg => rfl); (case hr => first | (go_simp; done) | (go_simp; rfl)); intro g1 hg w1 hbox hb; have n0_ := A_ (below_step (B_) hb); have n1_ := Aside0.mk hbox; clear HB; have HB := n0_; have BK1 := n1_; clear n0_ n1_ hb hbox hg)
  | ((with_reducible refine gate_dst (N := 3) rfl ?_); refine box_event ?hg (N := 3) ?hd (cs := AV l1) (t := 62) ?hr ?_; (case hd => rfl); (case hg => rfl); (case hr => first | (go_simp; done) | (go_simp; rfl) | (go_simp; kernel_rfl)); intro g2 hg w2 hbox hb; have n0_ := A_ (blk_below BK1.out hb); have n1_ := A_ (below_step (B_) hb); have n2_ := Aside0.mk hbox; clear BK1 HB; have BK1 := n0_; have HB := n1_; have BK2 := n2_; clear n0_ n1_ n2_ hb hbox hg; have hcz1_0 : w2.cell? ⟨g1, 0, none⟩ = some (.slice A0_0 l0_0.length c0_0) := (blk_cell BK1.out 0).trans rfl; have hfz1_0 := blk_frozen BK1.out 0))
 go_loopg [9] k (fun kq v9 w' => ∃ (i : Int), v9 = .int .i64 i ∧ Aside0 (pdom_missing.l0 kq l0_0 l1 i = some r) ∧ Aside0 (kq ≤ k) ∧ Aside0 (w'.heap[g1]? = some (.cells #[.slice A0_0 l0_0.length c0_0, .slice A0_1 l0_1.length c0_1] 26 (0, 0))) ∧ Aside0 (w'.heap[g2]? = some (.cells (AV l1) 62 (0, 0))) ∧ Aside0 (Below w.heap.size w w'))
 case atStart => exact ⟨0, (by first | rfl | (simp; done) | (simp [*]; done)), H', ⟨Nat.le_refl _⟩, ⟨KX_ BK1.out⟩, ⟨KX_ BK2.out⟩, ⟨B_⟩⟩
 case round =>
  clear H'
  obtain ⟨i, rfl, HA, HK1, BK1, BK2, HB⟩ := hrel
  cases gk with
  | zero => exact absurd HA.out (by simp [pdom_missing.l0])
  | succ k1 =>
   have H := HA.out
   clear HA
   simp only [pdom_missing.l0] at H
   have hcz1_0 : wr.cell? ⟨g1, 0, none⟩ = some (.slice A0_0 l0_0.length c0_0) := (blk_cell BK1.out 0).trans rfl
   have hfz1_0 := blk_frozen BK1.out 0
   by_cases c6 : i < (l0_0.length : Int)
   ·rw [if_pos c6] at H
    have c6b0 : decide (i < (l0_0.length : Int)) = true := decide_eq_true c6
    clear c6
    by_cases c7 : 0 ≤ i
    ·rw [if_pos c7] at H
     have C7 := Aside0.mk c7
     have p7 := eq_true c7
     clear c7
     by_cases c8 : i < 64
     ·rw [if_pos c8] at H
      have C8 := Aside0.mk c8
      clear c8
      have q64 : (i < (64 : Int)) = True := eq_true C8.out
      have hx3 := av_cell BK2.out i (by rw [HM.out]; exact C8.out) C7.out
      by_cases c9 : rdOf false l1 i = true
      ·rw [if_pos c9] at H
       rw [c9] at hx3
       clear c9
       have H' := Aside0.mk H
       clear H
       go_wp2
       go_roundg k1
       case measure => have := HK1.out; omega
       case rel => exact ⟨(wrap64 (i + 1)), (by first | rfl | (simp; done) | (simp [*]; done)), H', ⟨by have := HK1.out; omega⟩, ⟨KX_ BK1.out⟩, ⟨KX_ BK2.out⟩, ⟨B_⟩⟩
      rw [if_neg c9] at H
      rw [Bool.eq_false_iff.mpr c9] at hx3
      clear c9
      obtain rfl := Option.some.inj H
      go_wp2
      go_ret
      exact ⟨by first | rfl | (simp; done) | (simp [*]; done), B_⟩
     rw [if_neg c8] at H
     exact absurd H (by simp)
    rw [if_neg c7] at H
    exact absurd H (by simp)
   rw [if_neg c6] at H
   have c6b0 : decide (i < (l0_0.length : Int)) = false := decide_eq_false c6
   clear c6
   obtain rfl := Option.some.inj H
   go_wp2
   go_ret
   exact ⟨by first | rfl | (simp; done) | (simp [*]; done), B_⟩

end Go.Proofs.Ytheillkpgmpnlaa.G
