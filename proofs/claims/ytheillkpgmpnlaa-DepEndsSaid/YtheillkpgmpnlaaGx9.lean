/- Printed by a program of this session (wip/tools/op.py, over the kit's print program): Go functions as plain Lean functions, each with a proof that the call answers so. Conditions: each theorem's own. -/
import Derived.Test.YtheillkpgmpnlaaHArr
import Derived.Test.YtheillkpgmpnlaaGx0
namespace Go.Proofs.Ytheillkpgmpnlaa.G
open Go.Proofs.YtheillkpgmpnlaaH
open Go.RowKit Go.Proofs.YtheillkpgmpnlaaW.PrintWords Go.Proofs.YtheillkpgmpnlaaW.PrintLast Go.Proofs.YtheillkpgmpnlaaW.PrintMore
attribute [local go_sem] max2_int min2_int max_two min_two max_three min_three max_four min_four   -- for this text's walks alone
set_option linter.unusedVariables false
set_option linter.unusedSimpArgs false

/-! ### pdom_back: function 43 -/
-- needs HArr
mutual
def pdom_back.l0 : Nat → List (List Int) → List (List Int) → List Bool → List Int → Int → Option (List Bool)
 | 0, _, _, _, _, _ => none
 | k + 1, x0, p, m, st, i => if i < (x0.length : Int) then (if 0 ≤ i then (if i < 64 then (if rdOf false m i = true then (if st.length < 17592186044416 then (pdom_back.l0 k x0 p m (st ++ [i]) (wrap64 (i + 1))) else none) else (pdom_back.l0 k x0 p m st (wrap64 (i + 1)))) else none) else none) else (pdom_back.l1 k p m st)
def pdom_back.l1 : Nat → List (List Int) → List Bool → List Int → Option (List Bool)
 | 0, _, _, _ => none
 | k + 1, p, m, st => if (st.length : Int) > 0 then (if 0 ≤ wrap64 ((st.length : Int) - 1) then (if wrap64 ((st.length : Int) - 1) < (st.length : Int) then (if 0 ≤ rd st (wrap64 ((st.length : Int) - 1)) then (if rd st (wrap64 ((st.length : Int) - 1)) < (p.length : Int) then (pdom_back.l2 k p m (st.take (wrap64 ((st.length : Int) - 1)).toNat) (rd_L1 p (rd st (wrap64 ((st.length : Int) - 1)))) 0) else none) else none) else none) else none) else some m
def pdom_back.l2 : Nat → List (List Int) → List Bool → List Int → List Int → Int → Option (List Bool)
 | 0, _, _, _, _, _ => none
 | k + 1, p, m, st, row, j => if j < (row.length : Int) then (if 0 ≤ j then (if 0 ≤ rd row j then (if rd row j < 64 then (if rdOf false m (rd row j) = true then (pdom_back.l2 k p m st row (wrap64 (j + 1))) else (if st.length < 17592186044416 then (pdom_back.l2 k p (m.set (rd row j).toNat true) (st ++ [rd row j]) row (wrap64 (j + 1))) else none)) else none) else none) else none) else (pdom_back.l1 k p m st)
end
def pdom_back.f (k : Nat) (l0_0 : List (List Int)) (l0_1 : List (List Int)) (l1 : List Bool) : Option (List Bool) := pdom_back.l0 k l0_0 l0_1 l1 [] 0
theorem pdom_back.mono_l : ∀ k, (∀ y0 y1 y2 y3 y4, LeO (pdom_back.l0 k y0 y1 y2 y3 y4) (pdom_back.l0 (k + 1) y0 y1 y2 y3 y4)) ∧ (∀ y0 y1 y2, LeO (pdom_back.l1 k y0 y1 y2) (pdom_back.l1 (k + 1) y0 y1 y2)) ∧ (∀ y0 y1 y2 y3 y4, LeO (pdom_back.l2 k y0 y1 y2 y3 y4) (pdom_back.l2 (k + 1) y0 y1 y2 y3 y4))
 | 0 => ⟨fun _ _ _ _ _ r h => by simp [pdom_back.l0] at h, fun _ _ _ r h => by simp [pdom_back.l1] at h, fun _ _ _ _ _ r h => by simp [pdom_back.l2] at h⟩
 | k + 1 => by
  obtain ⟨ih0, ih1, ih2⟩ := pdom_back.mono_l k
  refine ⟨?_, ?_, ?_⟩
  · intro y0 y1 y2 y3 y4
    unfold pdom_back.l0
    repeat' (with_reducible first | exact ih0 _ _ _ _ _ | exact ih1 _ _ _ | exact LeO.none _ | refine LeO.ite ?_ ?_)
  · intro y0 y1 y2
    unfold pdom_back.l1
    repeat' (with_reducible first | exact ih2 _ _ _ _ _ | exact LeO.refl _ | exact LeO.none _ | refine LeO.ite ?_ ?_)
  · intro y0 y1 y2 y3 y4
    unfold pdom_back.l2
    repeat' (with_reducible first | exact ih2 _ _ _ _ _ | exact ih1 _ _ _ | exact LeO.none _ | refine LeO.ite ?_ ?_)
theorem pdom_back.mono : ∀ a0 a1 a2 k, LeO (pdom_back.f k a0 a1 a2) (pdom_back.f (k + 1) a0 a1 a2) := fun _ _ _ k => (pdom_back.mono_l k).1 _ _ _ _ _
theorem pdom_back.len_l : ∀ k, (∀ y0 y1 y2 y3 y4 r, pdom_back.l0 k y0 y1 y2 y3 y4 = some r → r.length = y2.length) ∧ (∀ y0 y1 y2 r, pdom_back.l1 k y0 y1 y2 = some r → r.length = y1.length) ∧ (∀ y0 y1 y2 y3 y4 r, pdom_back.l2 k y0 y1 y2 y3 y4 = some r → r.length = y1.length)
 | 0 => ⟨fun _ _ _ _ _ r h => by simp [pdom_back.l0] at h, fun _ _ _ r h => by simp [pdom_back.l1] at h, fun _ _ _ _ _ r h => by simp [pdom_back.l2] at h⟩
 | k + 1 => by
  obtain ⟨ih0, ih1, ih2⟩ := pdom_back.len_l k
  refine ⟨?_, ?_, ?_⟩
  · intro y0 y1 y2 y3 y4 r h
    simp only [pdom_back.l0] at h
    repeat' split at h
    all_goals first | exact ih0 _ _ _ _ _ _ h | exact ih1 _ _ _ _ h | cases h
  · intro y0 y1 y2 r h
    simp only [pdom_back.l1] at h
    repeat' split at h
    all_goals first | exact ih2 _ _ _ _ _ _ h | (cases h; rfl) | cases h
  · intro y0 y1 y2 y3 y4 r h
    simp only [pdom_back.l2] at h
    repeat' split at h
    all_goals first | exact ih2 _ _ _ _ _ _ h | (have := ih2 _ _ _ _ _ _ h; simpa using this) | exact ih1 _ _ _ _ h | cases h
theorem pdom_back.len {k : Nat} {a0 a1 : List (List Int)} {a2 r : List Bool} (h : pdom_back.f k a0 a1 a2 = some r) : r.length = a2.length := (pdom_back.len_l k).1 _ _ _ _ _ _ h
set_option maxHeartbeats 8000000 in
set_option maxRecDepth 100000 in
theorem pdom_back.calls (k : Nat) (A0_0 : Option Addr) (c0_0 : Nat) (l0_0 : List (List Int)) (A0_1 : Option Addr) (c0_1 : Nat) (l0_1 : List (List Int)) (l1 : List Bool) (r : List Bool) (w : World) (hr0_1 : Kd.C (Kd.slice 3 (Kd.int .i64)) w A0_1 l0_1.length l0_1) (hc0_1 : l0_1.length ≤ c0_1) (hl1 : l1.length = 64) (h : pdom_back.f k l0_0 l0_1 l1 = some r) :
 Calls Try.prog 43 #[.agg #[.slice A0_0 l0_0.length c0_0, .slice A0_1 l0_1.length c0_1], .agg (AV l1)] w fun e w' => e = .returned (.agg (AV r)) ∧ Below w.heap.size w w' := by
 have HB := A_ (Below.refl w.heap.size w)
 have HR0_1 := Aside0.mk hr0_1
 have HC0_1 := Aside0.mk hc0_1
 have HL1 := Aside0.mk hl1
 have H : (pdom_back.l0 k l0_0 l0_1 l1 [] 0) = some r := h
 clear h hl1 hr0_1 hc0_1
 have H' := Aside0.mk H
 clear H
 go_enter Try.func43, Try.ntmps43
 go_wp2_with (first
  | ((with_reducible refine gate_dst (N := 2) rfl ?_); refine box_event ?hg (N := 2) ?hd (cs := #[.slice A0_0 l0_0.length c0_0, .slice A0_1 l0_1.length c0_1]) (t := 26) ?hr ?_; (case hd => rfl); (case hg => rfl); (case hr => first | (go_simp; done) | (go_simp; rfl)); intro g1 hg w1 hbox hb; have n0_ := A_ (below_step (B_) hb); have n1_ := Aside0.mk hbox; clear HB; have HB := n0_; have BK1 := n1_; clear n0_ n1_ hb hbox hg)
  | ((with_reducible refine gate_dst (N := 3) rfl ?_); refine box_event ?hg (N := 3) ?hd (cs := AV l1) (t := 62) ?hr ?_; (case hd => rfl); (case hg => rfl); (case hr => first | (go_simp; done) | (go_simp; rfl) | (go_simp; kernel_rfl)); intro g2 hg w2 hbox hb; have n0_ := A_ (blk_below BK1.out hb); have n1_ := A_ (below_step (B_) hb); have n2_ := Aside0.mk hbox; have n3_ := A_ ((by rw [hg]; exact (below_size (B_)) : w.heap.size ≤ g2)); have n4_ := A_ ((by rw [hg]; exact Nat.ne_of_lt (blk_lt BK1.out) : g1 ≠ g2)); clear BK1 HB; have BK1 := n0_; have HB := n1_; have BK2 := n2_; have GE2 := n3_; have NB1_2 := n4_; clear n0_ n1_ n2_ n3_ n4_ hb hbox hg)
  | ((with_reducible refine gate_dst (N := 4) rfl ?_); refine box_event ?hg (N := 4) ?hd (cs := AV (List.replicate 64 false)) (t := 62) ?hr ?_; (case hd => rfl); (case hg => rfl); (case hr => first | (go_simp; done) | (go_simp; rfl) | (go_simp; kernel_rfl)); intro g3 hg w3 hbox hb; have n0_ := A_ (blk_below BK1.out hb); have n1_ := A_ (below_step (B_) hb); have n2_ := Aside0.mk hbox; have n3_ := A_ ((by rw [hg]; exact (below_size (B_)) : w.heap.size ≤ g3)); have n4_ := A_ ((by rw [hg]; exact (Nat.ne_of_lt (blk_lt BK2.out)).symm : g3 ≠ g2)); have n6_ := A_ (blk_below BK2.out hb); clear BK1 BK2 HB; have BK1 := n0_; have HB := n1_; have BK3 := n2_; have GE3 := n3_; have NB3_2 := n4_; have BK2 := n6_; clear n0_ n1_ n2_ n3_ n4_ n6_ hb hbox hg; have hcz1_0 : w3.cell? ⟨g1, 0, none⟩ = some (.slice A0_0 l0_0.length c0_0) := (blk_cell BK1.out 0).trans rfl; have hfz1_0 := blk_frozen BK1.out 0))
 go_loopg [5, 13] k (fun kq v5 v13 w' => ∃ (st : List Int) (i : Int), v13 = .int .i64 i ∧ Aside0 (pdom_back.l0 kq l0_0 l0_1 l1 st i = some r) ∧ Aside0 (kq ≤ k) ∧ Aside0 (Kd.R (Kd.int .i64) 3 w' w.heap.size (fun _ => True) v5 st) ∧ Aside0 (w'.heap[g1]? = some (.cells #[.slice A0_0 l0_0.length c0_0, .slice A0_1 l0_1.length c0_1] 26 (0, 0))) ∧ Aside0 (w'.heap[g2]? = some (.cells (AV l1) 62 (0, 0))) ∧ Aside0 (w'.heap[g3]? = some (.cells (AV (List.replicate 64 false)) 62 (0, 0))) ∧ Aside0 (Below w.heap.size w w'))
 case atStart => exact ⟨[], 0, (by first | rfl | (simp; done) | (simp [*]; done)), H', ⟨Nat.le_refl _⟩, ⟨Kd.R_nil _ _ _ _ _⟩, ⟨KX_ BK1.out⟩, ⟨KX_ BK2.out⟩, ⟨KX_ BK3.out⟩, ⟨B_⟩⟩
 case round =>
  clear H'
  obtain ⟨st, i, rfl, HA, HK1, HO5, BK1, BK2, BK3, HB⟩ := hrel
  cases gk with
  | zero => exact absurd HA.out (by simp [pdom_back.l0])
  | succ k1 =>
   have H := HA.out
   clear HA
   simp only [pdom_back.l0] at H
   by_cases c6 : i < (l0_0.length : Int)
   ·rw [if_pos c6] at H
    have c6b0 : decide (i < (l0_0.length : Int)) = true := decide_eq_true c6
    clear c6
    by_cases c7 : 0 ≤ i
    ·rw [if_pos c7] at H
     have C7 := Aside0.mk c7
     have p7 := eq_true c7
     clear c7
     by_cases c8 : i < 64
     ·rw [if_pos c8] at H
      have C8 := Aside0.mk c8
      clear c8
      have q64 : (i < (64 : Int)) = True := eq_true C8.out
      have hx3 := av_cell BK2.out i (by rw [HL1.out]; exact C8.out) C7.out
      by_cases c9 : rdOf false l1 i = true
      ·rw [if_pos c9] at H
       rw [c9] at hx3
       clear c9
       by_cases c10 : st.length < 17592186044416
       ·rw [if_pos c10] at H
        have LM := Aside0.mk c10
        clear c10
        have H' := Aside0.mk H
        clear H
        go_wp2_with (first
         | ((with_reducible refine gate_builtin (b := .append) (xs := #[.tmp 19, .tmp 21]) rfl ?_); at_builtin; refine Kd.R_append (Kd.int .i64) (w0 := w) w.heap.size rfl (.tmp 19) (.tmp 21) 31 3 (.int .i64 0) 8 rfl Try.underlying31 info3 rfl (by decide) (by omega) u5 st i [.int .i64 i] (fun _ => True) (fun _ => False) rfl rfl ?aP (fun _ hk => hk.elim) ?aF ?aO ?aB ?aS ?aL ?_; (case aP => exact rfl); (case aB => exact (B1_)); (case aF => exact (fun _ _ => trivial)); (case aO => exact (by exact RX_ HO5.out)); (case aS => exact (below_size (B1_))); (case aL => have := LM.out; omega); intro v5 w4 ho hb hg hat; have n0_ := A_ (blk_grown (g := g1) (o := .cells #[.slice A0_0 l0_0.length c0_0, .slice A0_1 l0_1.length c0_1] 26 (0, 0)) (by exact KX_ BK1.out) hg (Kd.R_ne HO5.out BK1.out (by decide))); have n1_ := A_ (blk_grown (g := g2) (o := .cells (AV l1) 62 (0, 0)) (by exact KX_ BK2.out) hg (Kd.R_ne HO5.out BK2.out (by decide))); have n2_ := A_ (blk_grown (g := g3) (o := .cells (AV (List.replicate 64 false)) 62 (0, 0)) (by exact KX_ BK3.out) hg (Kd.R_ne HO5.out BK3.out (by decide))); have n3_ := Aside0.mk hb; have n4_ := Aside0.mk ho; clear BK1 BK2 BK3 HB HO5; have BK1 := n0_; have BK2 := n1_; have BK3 := n2_; have HB := n3_; have HO5 := n4_; clear n0_ n1_ n2_ n3_ n4_ ho hb hg hat hx3))
        go_roundg k1
        case measure => have := HK1.out; omega
        case rel => exact ⟨_, (wrap64 (i + 1)), (by first | rfl | (simp; done) | (simp [*]; done)), H', ⟨by have := HK1.out; omega⟩, ⟨RX_ HO5.out⟩, ⟨KX_ BK1.out⟩, ⟨KX_ BK2.out⟩, ⟨KX_ BK3.out⟩, ⟨B_⟩⟩
       rw [if_neg c10] at H
       exact absurd H (by simp)
      rw [if_neg c9] at H
      rw [Bool.eq_false_iff.mpr c9] at hx3
      clear c9
      have H' := Aside0.mk H
      clear H
      go_wp2
      go_roundg k1
      case measure => have := HK1.out; omega
      case rel => exact ⟨_, (wrap64 (i + 1)), (by first | rfl | (simp; done) | (simp [*]; done)), H', ⟨by have := HK1.out; omega⟩, ⟨RX_ HO5.out⟩, ⟨KX_ BK1.out⟩, ⟨KX_ BK2.out⟩, ⟨KX_ BK3.out⟩, ⟨B_⟩⟩
     rw [if_neg c8] at H
     exact absurd H (by simp)
    rw [if_neg c7] at H
    exact absurd H (by simp)
   rw [if_neg c6] at H
   have c6b0 : decide (i < (l0_0.length : Int)) = false := decide_eq_false c6
   clear c6
   have H' := Aside0.mk H
   clear H
   go_wp2
   go_loopg [5] k1 (fun kq v5 w' => ∃ (st : List Int) (m : List Bool), Aside0 (pdom_back.l1 kq l0_1 m st = some r) ∧ Aside0 (kq ≤ k1) ∧ Aside0 (m.length = 64) ∧ Aside0 (Kd.R (Kd.int .i64) 3 w' w.heap.size (fun _ => True) v5 st) ∧ Aside0 (w'.heap[g1]? = some (.cells #[.slice A0_0 l0_0.length c0_0, .slice A0_1 l0_1.length c0_1] 26 (0, 0))) ∧ Aside0 (w'.heap[g2]? = some (.cells (AV m) 62 (0, 0))) ∧ Aside0 (w'.heap[g3]? = some (.cells (AV (List.replicate 64 false)) 62 (0, 0))) ∧ Aside0 (Below w.heap.size w w'))
   case atStart => exact ⟨st, l1, H', ⟨Nat.le_refl _⟩, HL1, ⟨RX_ HO5.out⟩, ⟨KX_ BK1.out⟩, ⟨KX_ BK2.out⟩, ⟨KX_ BK3.out⟩, ⟨B_⟩⟩
   case round =>
    clear H' HO5 BK1 BK2 BK3 HB
    obtain ⟨st, m, HA, HK2, HM, HO5, BK1, BK2, BK3, HB⟩ := hrel
    cases gk with
    | zero => exact absurd HA.out (by simp [pdom_back.l1])
    | succ k2 =>
     have H := HA.out
     clear HA
     simp only [pdom_back.l1] at H
     obtain ⟨Ao5, co5, eo5⟩ := Kd.R_slice HO5.out
     subst eo5
     by_cases c11 : (st.length : Int) > 0
     ·rw [if_pos c11] at H
      have c11b0 : decide (0 < (st.length : Int)) = true := decide_eq_true c11
      have c11b1 : decide (0 < st.length) = true := decide_eq_true (by omega)
      clear c11
      obtain ⟨ji, hji⟩ : ∃ j_ : Int, (wrap64 ((st.length : Int) - 1)) = j_ := ⟨_, rfl⟩
      rw [hji] at H
      have hjiw : (IntKind.i64.wrap ((st.length : Int) - 1)) = ji := (i64_w _).trans hji
      by_cases c12 : 0 ≤ ji
      ·rw [if_pos c12] at H
       by_cases c13 : ji < (st.length : Int)
       ·rw [if_pos c13] at H
        obtain ⟨ad5, e5, hx5_0⟩ := Kd.at_int (Kd.R_reads' HO5.out).2.2 ji c12 c13
        cases e5
        obtain ⟨x, hx_⟩ : ∃ x_ : Int, rd st ji = x_ := ⟨_, rfl⟩
        rw [hx_] at H hx5_0
        by_cases c14 : 0 ≤ x
        ·rw [if_pos c14] at H
         by_cases c15 : x < (l0_1.length : Int)
         ·rw [if_pos c15] at H
          obtain ⟨ad6, A6_0, c6_0, e6, hx6_0, hl6_0, hi6_0⟩ := at_L1 HR0_1.out x c14 c15
          cases e6
          replace hx6_0 := (HB.out.cell (World.block_lt_of_cell? w _ hx6_0)).trans hx6_0
          have HR6 := Aside0.mk hi6_0
          have HC6 := Aside0.mk hl6_0
          clear hi6_0 hl6_0
          have p12 := eq_true c12
          have p13 := eq_true c13
          have p14 := eq_true c14
          have p15 := eq_true c15
          have C12 := Aside0.mk c12
          have C13 := Aside0.mk c13
          clear c12 c13 c14 c15
          obtain ⟨st2, hst2⟩ : ∃ s_ : List Int, s_ = st.take ji.toNat := ⟨_, rfl⟩
          rw [← hst2] at H
          have hy5 : st2.length = ji.toNat := (by rw [hst2, List.length_take]; have := C13.out; omega)
          obtain ⟨i05, hi05, _, hsz5, _⟩ := info_parts info3
          have hcut5 := cut_to (P := Try.prog) 31 3 .i64 Try.underlying31 hi05 (some ad5) st.length co5 ji C12.out (Int.le_of_lt C13.out) (Kd.R_reads' HO5.out).2.1
          have hr5 := Kd.R_take (m := ji.toNat) HO5.out (by have := C13.out; omega)
          rw [← hst2] at hr5
          clear hi05 hsz5 HO5
          have HO5 := Aside0.mk hr5
          clear hr5
          have hcz1_0 : wr.cell? ⟨g1, 0, none⟩ = some (.slice A0_0 l0_0.length c0_0) := (blk_cell BK1.out 0).trans rfl
          have hcz1_1 : wr.cell? ⟨g1, 1, none⟩ = some (.slice (some ad6) l0_1.length c0_1) := (blk_cell BK1.out 1).trans rfl
          have hfz1_0 := blk_frozen BK1.out 0
          have hfz1_1 := blk_frozen BK1.out 1
          have H' := Aside0.mk H
          have HJ := Aside0.mk hji
          have HST := Aside0.mk hst2
          have HY := Aside0.mk hy5
          clear H hst2
          go_wp2
          go_loopg [5, 44] k2 (fun kq v5 v44 w' => ∃ (st : List Int) (m : List Bool) (j : Int), v44 = .int .i64 j ∧ Aside0 (pdom_back.l2 kq l0_1 m st (rd_L1 l0_1 x) j = some r) ∧ Aside0 (kq ≤ k2) ∧ Aside0 (m.length = 64) ∧ Aside0 (Kd.R (Kd.int .i64) 3 w' w.heap.size (fun _ => True) v5 st) ∧ Aside0 (w'.heap[g1]? = some (.cells #[.slice A0_0 l0_0.length c0_0, .slice (some ad6) l0_1.length c0_1] 26 (0, 0))) ∧ Aside0 (w'.heap[g2]? = some (.cells (AV m) 62 (0, 0))) ∧ Aside0 (w'.heap[g3]? = some (.cells (AV (List.replicate 64 false)) 62 (0, 0))) ∧ Aside0 (Below w.heap.size w w'))
          case atStart => exact ⟨st2, m, 0, (by first | rfl | (simp; done) | (simp [*]; done)), H', ⟨Nat.le_refl _⟩, HM, ⟨RX_ HO5.out⟩, ⟨KX_ BK1.out⟩, ⟨KX_ BK2.out⟩, ⟨KX_ BK3.out⟩, ⟨B_⟩⟩
          case round =>
           clear H' HO5 BK1 BK2 BK3 HB HM hcz1_0 hcz1_1 hfz1_0 hfz1_1 hx5_0 hcut5 hjiw hji p12 p13 p14 p15 c11b0 c11b1 hy5 hx6_0
           obtain ⟨st3, m, j, rfl, HA, HK3, HM, HO5, BK1, BK2, BK3, HB⟩ := hrel
           cases gk with
           | zero => exact absurd HA.out (by simp [pdom_back.l2])
           | succ k3 =>
            have H := HA.out
            clear HA
            simp only [pdom_back.l2] at H
            by_cases c20 : j < ((rd_L1 l0_1 x).length : Int)
            ·rw [if_pos c20] at H
             have c20b0 : decide (j < ((rd_L1 l0_1 x).length : Int)) = true := decide_eq_true c20
             by_cases c21 : 0 ≤ j
             ·rw [if_pos c21] at H
              obtain ⟨ad7, e7, hx7_0⟩ := Kd.at_int HR6.out j c21 c20
              cases e7
              replace hx7_0 := (HB.out.cell (World.block_lt_of_cell? w _ hx7_0)).trans hx7_0
              obtain ⟨y, hy_⟩ : ∃ x_ : Int, rd (rd_L1 l0_1 x) j = x_ := ⟨_, rfl⟩
              rw [hy_] at H hx7_0
              have p20 := eq_true c20
              have p21 := eq_true c21
              clear c20 c21
              by_cases c22 : 0 ≤ y
              ·rw [if_pos c22] at H
               by_cases c23 : y < 64
               ·rw [if_pos c23] at H
                have C22 := Aside0.mk c22
                have C23 := Aside0.mk c23
                have p22 := eq_true c22
                have p23 : (y < (64 : Int)) = True := eq_true c23
                clear c22 c23
                have hx3 := av_cell BK2.out y (by rw [HM.out]; exact C23.out) C22.out
                have hf3 := blk_frozen BK2.out y.toNat
                by_cases c24 : rdOf false m y = true
                ·rw [if_pos c24] at H
                 rw [c24] at hx3
                 clear c24
                 have H' := Aside0.mk H
                 clear H
                 go_wp2
                 go_roundg k3
                 case measure => have := HK1.out; have := HK2.out; have := HK3.out; omega
                 case rel => exact ⟨_, _, (wrap64 (j + 1)), (by first | rfl | (simp; done) | (simp [*]; done)), H', ⟨by have := HK3.out; omega⟩, HM, ⟨RX_ HO5.out⟩, ⟨KX_ BK1.out⟩, ⟨KX_ BK2.out⟩, ⟨KX_ BK3.out⟩, ⟨B_⟩⟩
                rw [if_neg c24] at H
                rw [Bool.eq_false_iff.mpr c24] at hx3
                clear c24
                by_cases c25 : st3.length < 17592186044416
                ·rw [if_pos c25] at H
                 have LM := Aside0.mk c25
                 clear c25
                 have H' := Aside0.mk H
                 clear H
                 go_wp2_with (first
                  | ((with_reducible refine gate_store (t := 4) (p := 53) rfl ?_); refine store_event (t := 4) (p := 53) (v := ?vo) (w1 := (wr.setCell ⟨g2, y.toNat, none⟩ (.bool true))) ?hg ?ho ?hn ?hr ?_; (case ho => rfl); (case hg => rfl); (case hn => rfl); (case hr => first | (go_simp; done) | (go_simp; rfl)); intro w5 hw; have n0_ := A_ (by rw [hw]; exact blk_far BK1.out NB1_2.out _ : w5.heap[g1]? = some (.cells #[.slice A0_0 l0_0.length c0_0, .slice (some ad6) l0_1.length c0_1] 26 (0, 0))); have n1_ := A_ (by rw [hw]; exact av_put BK2.out y true : w5.heap[g2]? = some (.cells (AV (m.set y.toNat true)) 62 (0, 0))); have n2_ := A_ (by rw [hw]; exact blk_far BK3.out NB3_2.out _ : w5.heap[g3]? = some (.cells (AV (List.replicate 64 false)) 62 (0, 0))); have n3_ := A_ ((by rw [hw]; exact below_set HB.out GE2.out : Below w.heap.size w w5)); have n4_ := A_ (by rw [hw]; exact Kd.R_mono (Kd.R_far (p := ⟨g2, y.toNat, none⟩) (Kd.R_types HO5.out BK2.out (by decide)) (fun _ hk => hk.2) _) (fun _ h => h.1) : Kd.R (Kd.int .i64) 3 w5 w.heap.size (fun _ => True) u5 st3); clear BK1 BK2 BK3 HB HO5; have BK1 := n0_; have BK2 := n1_; have BK3 := n2_; have HB := n3_; have HO5 := n4_; clear n0_ n1_ n2_ n3_ n4_ hw hx3 hf3)
                  | ((with_reducible refine gate_builtin (b := .append) (xs := #[.tmp 54, .tmp 56]) rfl ?_); at_builtin; refine Kd.R_append (Kd.int .i64) (w0 := w) w.heap.size rfl (.tmp 54) (.tmp 56) 31 3 (.int .i64 0) 8 rfl Try.underlying31 info3 rfl (by decide) (by omega) u5 st3 y [.int .i64 y] (fun _ => True) (fun _ => False) rfl rfl ?aP (fun _ hk => hk.elim) ?aF ?aO ?aB ?aS ?aL ?_; (case aP => exact rfl); (case aB => exact (B1_)); (case aF => exact (fun _ _ => trivial)); (case aO => exact (by exact RX_ HO5.out)); (case aS => exact (below_size (B1_))); (case aL => have := LM.out; omega); intro v5 w6 ho hb hg hat; have n0_ := A_ (blk_grown (g := g1) (o := .cells #[.slice A0_0 l0_0.length c0_0, .slice (some ad6) l0_1.length c0_1] 26 (0, 0)) (by exact KX_ BK1.out) hg (Kd.R_ne HO5.out BK1.out (by decide))); have n1_ := A_ (blk_grown (g := g2) (o := .cells (AV (m.set y.toNat true)) 62 (0, 0)) (by exact KX_ BK2.out) hg (Kd.R_ne HO5.out BK2.out (by decide))); have n2_ := A_ (blk_grown (g := g3) (o := .cells (AV (List.replicate 64 false)) 62 (0, 0)) (by exact KX_ BK3.out) hg (Kd.R_ne HO5.out BK3.out (by decide))); have n3_ := Aside0.mk hb; have n4_ := Aside0.mk ho; clear BK1 BK2 BK3 HB HO5; have BK1 := n0_; have BK2 := n1_; have BK3 := n2_; have HB := n3_; have HO5 := n4_; clear n0_ n1_ n2_ n3_ n4_ ho hb hg hat))
                 go_roundg k3
                 case measure => have := HK1.out; have := HK2.out; have := HK3.out; omega
                 case rel => exact ⟨_, _, (wrap64 (j + 1)), (by first | rfl | (simp; done) | (simp [*]; done)), H', ⟨by have := HK3.out; omega⟩, ⟨by simp [HM.out]⟩, ⟨RX_ HO5.out⟩, ⟨KX_ BK1.out⟩, ⟨KX_ BK2.out⟩, ⟨KX_ BK3.out⟩, ⟨B_⟩⟩
                rw [if_neg c25] at H
                exact absurd H (by simp)
               rw [if_neg c23] at H
               exact absurd H (by simp)
              rw [if_neg c22] at H
              exact absurd H (by simp)
             rw [if_neg c21] at H
             exact absurd H (by simp)
            rw [if_neg c20] at H
            have c20b0 : decide (j < ((rd_L1 l0_1 x).length : Int)) = false := decide_eq_false c20
            clear c20
            have H' := Aside0.mk H
            clear H
            go_wp2
            go_roundg k3
            case measure => have := HK1.out; have := HK2.out; have := HK3.out; omega
            case rel => exact ⟨_, _, H', ⟨by have := HK2.out; have := HK3.out; omega⟩, HM, ⟨RX_ HO5.out⟩, ⟨KX_ BK1.out⟩, ⟨KX_ BK2.out⟩, ⟨KX_ BK3.out⟩, ⟨B_⟩⟩
         rw [if_neg c15] at H
         exact absurd H (by simp)
        rw [if_neg c14] at H
        exact absurd H (by simp)
       rw [if_neg c13] at H
       exact absurd H (by simp)
      rw [if_neg c12] at H
      exact absurd H (by simp)
     rw [if_neg c11] at H
     have c11b0 : decide (0 < (st.length : Int)) = false := decide_eq_false c11
     have c11b1 : decide (0 < st.length) = false := decide_eq_false (by omega)
     clear c11
     obtain rfl := Option.some.inj H
     go_wp2_with (first
      | ((with_reducible refine gate_dst (N := 59) rfl ?_); refine av_load (g := g2) rfl 62 _ rfl ?hx BK2.out Try.underlying62 ?hi ?_; (case hx => first | (go_simp; done) | (go_simp; rfl)); (case hi => rw [HM.out]; kernel_rfl))
      | ((with_reducible refine gate_store (t := 62) (p := 4) rfl ?_); refine av_store (g := g3) (l' := m) rfl 62 _ _ rfl rfl ?hx ?hy BK3.out ?hi ?hl ?_; (case hx => first | (go_simp; done) | (go_simp; rfl)); (case hy => first | (go_simp; done) | (go_simp; rfl)); (case hi => rw [HM.out]; kernel_rfl); (case hl => rw [HM.out]; simp); intro w5 hw; have n2_ := A_ (by rw [hw]; exact av_stored BK3.out : w5.heap[g3]? = some (.cells (AV m) 62 (0, 0))); have n3_ := A_ ((by rw [hw]; exact below_setRow HB.out GE3.out _ : Below w.heap.size w w5)); clear BK1 BK2 BK3 HB; have BK3 := n2_; have HB := n3_; clear n2_ n3_ hw))
     (try simp only [Exit.inBlock, Exit.then])
     refine bodyPost_ret (results_cell_row rfl _ _ g3 _ _ _ _ (by first | (go_simp; done) | (go_simp; rfl) | rfl) BK3.out Try.underlying62 rfl (by rw [av_size, HM.out]; kernel_rfl)) rfl ?_
     exact ⟨rfl, B_⟩

end Go.Proofs.Ytheillkpgmpnlaa.G
