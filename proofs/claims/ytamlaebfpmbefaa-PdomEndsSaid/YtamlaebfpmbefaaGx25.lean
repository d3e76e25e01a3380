/- Printed by a program of this session (wip/tools/op.py, over the kit's print program): Go functions as plain Lean functions, each with a proof that the call answers so. Conditions: each theorem's own. -/
import Derived.Test.YtamlaebfpmbefaaHArr
import Derived.Test.YtamlaebfpmbefaaGx0
import Derived.Test.YtamlaebfpmbefaaGx7
import Derived.Test.YtamlaebfpmbefaaGx8
namespace Go.Proofs.Ytamlaebfpmbefaa.G
open Go.Proofs.YtamlaebfpmbefaaH
open Go.RowKit Go.Proofs.YtamlaebfpmbefaaW.PrintWords Go.Proofs.YtamlaebfpmbefaaW.PrintLast Go.Proofs.YtamlaebfpmbefaaW.PrintMore
attribute [local go_sem] max2_int min2_int max_two min_two max_three min_three max_four min_four   -- for this text's walks alone
set_option linter.unusedVariables false
set_option linter.unusedSimpArgs false

/-! ### pdom_Shut: function 14 -/
-- needs HArr
def pdom_Shut.l0 : Nat → List (List Int) → List Bool → List Int → Int → Option (List Int)
 | 0, _, _, _, _ => none
 | k + 1, x0, m, o, i => if i < (x0.length : Int) then (if 0 ≤ i then (if i < 64 then (if rdOf false m i = true then (pdom_Shut.l0 k x0 m o (wrap64 (i + 1))) else (if o.length < 17592186044416 then (pdom_Shut.l0 k x0 m (o ++ [i]) (wrap64 (i + 1))) else none)) else none) else none) else some o
def pdom_Shut.f (k : Nat) (l0_0 : List (List Int)) (l0_1 : List (List Int)) : Option (List Int) := (graph_May.f k l0_0 l0_1).bind fun t => if t = true then ((pdom_ends.f k l0_0 l0_1).bind fun e => (pdom_back.f k l0_0 l0_1 e).bind fun m => pdom_Shut.l0 k l0_0 m [] 0) else some []
theorem pdom_Shut.mono_l : ∀ k y0 y1 y2 y3, LeO (pdom_Shut.l0 k y0 y1 y2 y3) (pdom_Shut.l0 (k + 1) y0 y1 y2 y3)
 | 0 => fun _ _ _ _ r h => by simp [pdom_Shut.l0] at h
 | k + 1 => by
  have ih0 := pdom_Shut.mono_l k
  intro y0 y1 y2 y3
  unfold pdom_Shut.l0
  repeat' first
   | (with_reducible exact ih0 _ _ _ _)
   | (with_reducible exact LeO.refl _)
   | (with_reducible exact LeO.none _)
   | (with_reducible refine LeO.ite ?_ ?_)
theorem pdom_Shut.mono : ∀ a0 a1 k, LeO (pdom_Shut.f k a0 a1) (pdom_Shut.f (k + 1) a0 a1) := by
 intro a0 a1 k
 unfold pdom_Shut.f
 exact LeO.bind (graph_May.mono _ _ _) (fun _ => LeO.ite (LeO.bind (pdom_ends.mono _ _ _) (fun _ => LeO.bind (pdom_back.mono _ _ _ _) (fun _ => pdom_Shut.mono_l _ _ _ _ _))) (LeO.refl _))
set_option maxHeartbeats 8000000 in
set_option maxRecDepth 100000 in
theorem pdom_Shut.calls (k : Nat) (A0_0 : Option Addr) (c0_0 : Nat) (l0_0 : List (List Int)) (A0_1 : Option Addr) (c0_1 : Nat) (l0_1 : List (List Int)) (r : List Int) (w : World) (hr0_0 : Kd.C (Kd.slice 3 (Kd.int .i64)) w A0_0 l0_0.length l0_0) (hc0_0 : l0_0.length ≤ c0_0) (hr0_1 : Kd.C (Kd.slice 3 (Kd.int .i64)) w A0_1 l0_1.length l0_1) (hc0_1 : l0_1.length ≤ c0_1) (h : pdom_Shut.f k l0_0 l0_1 = some r) :
 Calls Try.prog 14 #[.agg #[.slice A0_0 l0_0.length c0_0, .slice A0_1 l0_1.length c0_1]] w fun e w' => ∃ v0_ : Value, e = .returned (v0_) ∧ Kd.R (Kd.int .i64) 3 w' w.heap.size (fun _ => True) v0_ r ∧ Below w.heap.size w w' := by
 have HB := Aside0.mk (Below.refl w.heap.size w)
 have HR0_0 := Aside0.mk hr0_0
 have HC0_0 := Aside0.mk hc0_0
 have HR0_1 := Aside0.mk hr0_1
 have HC0_1 := Aside0.mk hc0_1
 have H : ((graph_May.f k l0_0 l0_1).bind fun t => if t = true then ((pdom_ends.f k l0_0 l0_1).bind fun e => (pdom_back.f k l0_0 l0_1 e).bind fun m => pdom_Shut.l0 k l0_0 m [] 0) else some []) = some r := h
 clear h hr0_0 hc0_0 hr0_1 hc0_1
 replace H := Option.bind_eq_some_iff.mp H
 obtain ⟨t1, A1_, H⟩ := H
 have A1 := Aside0.mk A1_
 clear A1_
 go_enter Try.func14, Try.ntmps14
 go_upto_region 1 with (first
  | ((with_reducible refine gate_dst (N := 1) rfl ?_); refine box_event ?hg (N := 1) ?hd (cs := #[.slice A0_0 l0_0.length c0_0, .slice A0_1 l0_1.length c0_1]) (t := 26) ?hr ?_; (case hd => rfl); (case hg => rfl); (case hr => first | (go_simp; done) | (go_simp; rfl)); intro g1 hg w1 hbox hb; have n0_ := Aside0.mk (below_step (B_) hb); have n1_ := Aside0.mk hbox; clear HB; have HB := n0_; have BK1 := n1_; clear n0_ n1_ hb hbox hg))
 have hcz1_0 : w1.cell? ⟨g1, 0, none⟩ = some (.slice A0_0 l0_0.length c0_0) := (blk_cell BK1.out 0).trans rfl
 have hcz1_1 : w1.cell? ⟨g1, 1, none⟩ = some (.slice A0_1 l0_1.length c0_1) := (blk_cell BK1.out 1).trans rfl
 by_cases c7 : t1 = true
 ·subst c7
  replace H : ((pdom_ends.f k l0_0 l0_1).bind fun e => (pdom_back.f k l0_0 l0_1 e).bind fun m => pdom_Shut.l0 k l0_0 m [] 0) = some r := by rw [if_pos rfl] at H; exact H
  replace H := Option.bind_eq_some_iff.mp H
  obtain ⟨e1, A2_, H⟩ := H
  replace H := Option.bind_eq_some_iff.mp H
  obtain ⟨m, A3_, H⟩ := H
  have A2 := Aside0.mk A2_
  have A3 := Aside0.mk A3_
  have HE := Aside0.mk (pdom_ends.len A2_)
  have HM := Aside0.mk ((pdom_back.len A3_).trans (pdom_ends.len A2_))
  clear A2_ A3_
  have H' := Aside0.mk H
  clear H
  go_wp2_with (first | (go_at_call 24; (with_reducible refine (graph_May.calls k _ _ l0_0 _ _ l0_1 true _ ?side1 ?side2 ?side3 ?side4 A1.out).mono ?_); (case side1 => exact Kd.C_below HR0_0.out (B_)); (case side2 => exact HC0_0.out); (case side3 => exact Kd.C_below HR0_1.out (B_)); (case side4 => exact HC0_1.out); rintro e w2 ⟨rfl, hb⟩; have n0_ := Aside0.mk (blk_below (g := g1) (o := .cells #[.slice A0_0 l0_0.length c0_0, .slice A0_1 l0_1.length c0_1] 26 (0, 0)) (by exact KX_ BK1.out) hb); have n1_ := Aside0.mk (below_step (B_) hb); clear BK1 HB hcz1_0 hcz1_1; have BK1 := n0_; have HB := n1_; clear n0_ n1_ hb; have hcz1_0 : w2.cell? ⟨g1, 0, none⟩ = some (.slice A0_0 l0_0.length c0_0) := (blk_cell BK1.out 0).trans rfl; have hcz1_1 : w2.cell? ⟨g1, 1, none⟩ = some (.slice A0_1 l0_1.length c0_1) := (blk_cell BK1.out 1).trans rfl))
  go_cut [3] (fun v3 wc => ∃ (g3 : Nat), v3 = .pointer (some ⟨g3, 0, none⟩) ∧ Aside0 (wc.heap[g1]? = some (.cells #[.slice A0_0 l0_0.length c0_0, .slice A0_1 l0_1.length c0_1] 26 (0, 0))) ∧ Aside0 (wc.heap[g3]? = some (.cells (AV m) 47 (0, 0))) ∧ Aside0 (Below w.heap.size w wc))
  case first =>
   have hsz_ : (AV m).size = 64 := (av_size m).trans HM.out
   have hal0 : ∀ o, (w2.drew.alloc o).cell? ⟨g1, 0, none⟩ = some (.slice A0_0 l0_0.length c0_0) := fun o => (blk_cell (blk_alloc (blk_drew BK1.out) o) 0).trans rfl
   have hal1 : ∀ o, (w2.drew.alloc o).cell? ⟨g1, 1, none⟩ = some (.slice A0_1 l0_1.length c0_1) := fun o => (blk_cell (blk_alloc (blk_drew BK1.out) o) 1).trans rfl
   have hal2 : ∀ o, (w2.alloc o).drew.cell? ⟨g1, 0, none⟩ = some (.slice A0_0 l0_0.length c0_0) := fun o => (blk_cell (blk_drew (blk_alloc BK1.out o)) 0).trans rfl
   have hal3 : ∀ o, (w2.alloc o).drew.cell? ⟨g1, 1, none⟩ = some (.slice A0_1 l0_1.length c0_1) := fun o => (blk_cell (blk_drew (blk_alloc BK1.out o)) 1).trans rfl
   go_region_with (first
    | (go_at_call 25; (with_reducible refine (pdom_ends.calls k _ _ l0_0 _ _ l0_1 e1 _ ?side1 ?side2 A2.out).mono ?_); (case side1 => exact Kd.C_below HR0_0.out (B_)); (case side2 => exact HC0_0.out); rintro e w3 ⟨rfl, hb⟩; (try (have m0_ := Aside0.mk (blk_below BK3.out hb); clear BK3; have BK3 := m0_; clear m0_)); (try (have m0_ := Aside0.mk (blk_below (blk_drew (blk_new _ _)) hb); have GE3 := Aside0.mk (below_size HB.out); have NB3 := Aside0.mk (Nat.ne_of_lt (blk_lt BK1.out)); have BK3 := m0_; clear m0_)); (try (have m0_ := Aside0.mk (blk_below (blk_new _ _) hb); have GE3 := Aside0.mk (below_size HB.out); have NB3 := Aside0.mk (Nat.ne_of_lt (blk_lt BK1.out)); have BK3 := m0_; clear m0_)); have n0_ := Aside0.mk (blk_below (g := g1) (o := (.cells #[.slice A0_0 l0_0.length c0_0, .slice A0_1 l0_1.length c0_1] 26 (0, 0))) (by exact KX_ BK1.out) hb); have n1_ := Aside0.mk (below_step (B_) hb); clear BK1 HB hcz1_0 hcz1_1; have BK1 := n0_; have HB := n1_; clear n0_ n1_ hb; have hcz1_0 : w3.cell? ⟨g1, 0, none⟩ = some (.slice A0_0 l0_0.length c0_0) := (blk_cell BK1.out 0).trans rfl; have hcz1_1 : w3.cell? ⟨g1, 1, none⟩ = some (.slice A0_1 l0_1.length c0_1) := (blk_cell BK1.out 1).trans rfl; have hbl0 : ∀ o, (w3.alloc o).cell? ⟨g1, 0, none⟩ = some (.slice A0_0 l0_0.length c0_0) := fun o => (blk_cell (blk_alloc BK1.out o) 0).trans rfl; have hbl1 : ∀ o, (w3.alloc o).cell? ⟨g1, 1, none⟩ = some (.slice A0_1 l0_1.length c0_1) := fun o => (blk_cell (blk_alloc BK1.out o) 1).trans rfl)
    | (go_at_call 26; (with_reducible refine (pdom_back.calls k _ _ l0_0 _ _ l0_1 e1 m _ ?side1 ?side2 ?side3 A3.out).mono ?_); (case side1 => exact Kd.C_below HR0_1.out (B_)); (case side2 => exact HC0_1.out); (case side3 => exact HE.out); rintro e w4 ⟨rfl, hb⟩; (try (have m0_ := Aside0.mk (blk_below BK3.out hb); clear BK3; have BK3 := m0_; clear m0_)); (try (have m0_ := Aside0.mk (blk_below (blk_drew (blk_new _ _)) hb); have GE3 := Aside0.mk (below_size HB.out); have NB3 := Aside0.mk (Nat.ne_of_lt (blk_lt BK1.out)); have BK3 := m0_; clear m0_)); (try (have m0_ := Aside0.mk (blk_below (blk_new _ _) hb); have GE3 := Aside0.mk (below_size HB.out); have NB3 := Aside0.mk (Nat.ne_of_lt (blk_lt BK1.out)); have BK3 := m0_; clear m0_)); have n0_ := Aside0.mk (blk_below (g := g1) (o := (.cells #[.slice A0_0 l0_0.length c0_0, .slice A0_1 l0_1.length c0_1] 26 (0, 0))) (by exact KX_ BK1.out) hb); have n1_ := Aside0.mk (below_step (B_) hb); clear BK1 HB hcz1_0 hcz1_1; have BK1 := n0_; have HB := n1_; clear n0_ n1_ hb; have hcz1_0 : w4.cell? ⟨g1, 0, none⟩ = some (.slice A0_0 l0_0.length c0_0) := (blk_cell BK1.out 0).trans rfl; have hcz1_1 : w4.cell? ⟨g1, 1, none⟩ = some (.slice A0_1 l0_1.length c0_1) := (blk_cell BK1.out 1).trans rfl)
    | (first | rw [av_cells (t := 47) (by first | exact blk_new _ _ | exact BK3.out) (by rw [HM.out]; rfl)] | rw [av_cells (g := w2.heap.size) (t := 47) BK3.out (by rw [HM.out]; rfl)]))
   all_goals ((try go_wp2); go_meet; (case rel => exact ⟨_, by first | rfl | (simp; done), ⟨blk_row (by exact KX_ BK1.out) (by first | exact NB3.out | exact Nat.ne_of_lt (blk_lt BK1.out)) _⟩, ⟨setRow_heap _ _ _ _ _ _ (by first | exact blk_new _ _ | exact BK3.out)⟩, ⟨below_setRow (B_) (by first | exact GE3.out | exact below_size HB.out) _⟩⟩))
  case rest =>
   clear BK1 HB hcz1_0 hcz1_1
   obtain ⟨g3, rfl, BK1, BK3, HB⟩ := hcut
   have hcz1_0 : wc.cell? ⟨g1, 0, none⟩ = some (.slice A0_0 l0_0.length c0_0) := (blk_cell BK1.out 0).trans rfl
   have hfz1_0 := blk_frozen BK1.out 0
   go_wp2
   go_loopg [4, 16] k (fun kq v4 v16 w' => ∃ (o : List Int) (i : Int), v16 = .int .i64 i ∧ Aside0 (pdom_Shut.l0 kq l0_0 m o i = some r) ∧ Aside0 (kq ≤ k) ∧ Aside0 (Kd.R (Kd.int .i64) 3 w' w.heap.size (fun _ => True) v4 o) ∧ Aside0 (w'.heap[g1]? = some (.cells #[.slice A0_0 l0_0.length c0_0, .slice A0_1 l0_1.length c0_1] 26 (0, 0))) ∧ Aside0 (w'.heap[g3]? = some (.cells (AV m) 47 (0, 0))) ∧ Aside0 (Below w.heap.size w w'))
   case atStart => exact ⟨[], 0, (by first | rfl | (simp; done) | (simp [*]; done)), H', ⟨Nat.le_refl _⟩, ⟨Kd.R_nil _ _ _ _ _⟩, ⟨KX_ BK1.out⟩, ⟨KX_ BK3.out⟩, ⟨B_⟩⟩
   case round =>
    clear H' BK1 BK3 HB hcz1_0 hfz1_0
    obtain ⟨o, i, rfl, HA, HK1, HO4, BK1, BK3, HB⟩ := hrel
    cases gk with
    | zero => exact absurd HA.out (by simp [pdom_Shut.l0])
    | succ k1 =>
     have H := HA.out
     clear HA
     simp only [pdom_Shut.l0] at H
     by_cases c6 : i < (l0_0.length : Int)
     ·rw [if_pos c6] at H
      have c6b0 : decide (i < (l0_0.length : Int)) = true := decide_eq_true c6
      clear c6
      by_cases c7 : 0 ≤ i
      ·rw [if_pos c7] at H
       have C7 := Aside0.mk c7
       have p7 := eq_true c7
       clear c7
       by_cases c8 : i < 64
       ·rw [if_pos c8] at H
        have C8 := Aside0.mk c8
        clear c8
        have q64 : (i < (64 : Int)) = True := eq_true C8.out
        have hx3 := av_cell BK3.out i (by rw [HM.out]; exact C8.out) C7.out
        by_cases c9 : rdOf false m i = true
        ·rw [if_pos c9] at H
         rw [c9] at hx3
         clear c9
         have H' := Aside0.mk H
         clear H
         go_wp2
         go_roundg k1
         case measure => have := HK1.out; omega
         case rel => exact ⟨_, (wrap64 (i + 1)), (by first | rfl | (simp; done) | (simp [*]; done)), H', ⟨by have := HK1.out; omega⟩, ⟨RX_ HO4.out⟩, ⟨KX_ BK1.out⟩, ⟨KX_ BK3.out⟩, ⟨B_⟩⟩
        rw [if_neg c9] at H
        rw [Bool.eq_false_iff.mpr c9] at hx3
        clear c9
        by_cases c10 : o.length < 17592186044416
        ·rw [if_pos c10] at H
         have LM := Aside0.mk c10
         clear c10
         have H' := Aside0.mk H
         clear H
         go_wp2_with (first
          | ((with_reducible refine gate_builtin (b := .append) (xs := #[.tmp 23, .tmp 25]) rfl ?_); at_builtin; refine Kd.R_append (Kd.int .i64) (w0 := w) w.heap.size rfl (.tmp 23) (.tmp 25) 30 3 (.int .i64 0) 8 rfl Try.underlying30 info3 rfl (by decide) (by omega) u4 o i [.int .i64 i] (fun _ => True) (fun _ => False) rfl rfl ?aP (fun _ hk => hk.elim) ?aF ?aO ?aB ?aS ?aL ?_; (case aP => exact rfl); (case aB => exact (B1_)); (case aF => exact (fun _ _ => trivial)); (case aO => exact (by exact RX_ HO4.out)); (case aS => exact (below_size (B1_))); (case aL => have := LM.out; omega); intro v5 w4 ho hb hg hat; have n0_ := Aside0.mk (blk_grown (g := g1) (o := (.cells #[.slice A0_0 l0_0.length c0_0, .slice A0_1 l0_1.length c0_1] 26 (0, 0))) (by exact KX_ BK1.out) hg (Kd.R_ne HO4.out BK1.out (by decide))); have n2_ := Aside0.mk (blk_grown (g := g3) (o := .cells (AV m) 47 (0, 0)) (by exact KX_ BK3.out) hg (Kd.R_ne HO4.out BK3.out (by decide))); have n3_ := Aside0.mk hb; have n4_ := Aside0.mk ho; clear BK1 BK3 HB HO4; have BK1 := n0_; have BK3 := n2_; have HB := n3_; have HO4 := n4_; clear n0_ n2_ n3_ n4_ ho hb hg hat hx3))
         go_roundg k1
         case measure => have := HK1.out; omega
         case rel => exact ⟨_, (wrap64 (i + 1)), (by first | rfl | (simp; done) | (simp [*]; done)), H', ⟨by have := HK1.out; omega⟩, ⟨RX_ HO4.out⟩, ⟨KX_ BK1.out⟩, ⟨KX_ BK3.out⟩, ⟨B_⟩⟩
        rw [if_neg c10] at H
        exact absurd H (by simp)
       rw [if_neg c8] at H
       exact absurd H (by simp)
      rw [if_neg c7] at H
      exact absurd H (by simp)
     rw [if_neg c6] at H
     have c6b0 : decide (i < (l0_0.length : Int)) = false := decide_eq_false c6
     clear c6
     obtain rfl := Option.some.inj H
     go_wp2
     go_ret
     exact ⟨_, by first | rfl | (simp; done), RX_ HO4.out, B_⟩
 replace c7 := Bool.eq_false_iff.mpr c7
 subst c7
 replace H : some [] = some r := by rw [if_neg (show ¬ (false = true) by decide)] at H; exact H
 obtain rfl := Option.some.inj H
 clear H
 go_wp2_with (first | (go_at_call 24; (with_reducible refine (graph_May.calls k _ _ l0_0 _ _ l0_1 false _ ?side1 ?side2 ?side3 ?side4 A1.out).mono ?_); (case side1 => exact Kd.C_below HR0_0.out (B_)); (case side2 => exact HC0_0.out); (case side3 => exact Kd.C_below HR0_1.out (B_)); (case side4 => exact HC0_1.out); rintro e w2 ⟨rfl, hb⟩; have n1_ := Aside0.mk (below_step (B_) hb); clear BK1 HB hcz1_0 hcz1_1; have HB := n1_; clear n1_ hb))
 go_ret
 exact ⟨_, rfl, Kd.R_nil _ _ _ _ _, B_⟩

end Go.Proofs.Ytamlaebfpmbefaa.G
