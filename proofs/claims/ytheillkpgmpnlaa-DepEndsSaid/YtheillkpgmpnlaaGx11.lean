/- Printed by a program of this session (wip/tools/op.py, over the kit's print program): Go functions as plain Lean functions, each with a proof that the call answers so. Conditions: each theorem's own. -/
import Derived.Test.YtheillkpgmpnlaaHArr
import Derived.Test.YtheillkpgmpnlaaGx0
import Derived.Test.YtheillkpgmpnlaaGx5
import Derived.Test.YtheillkpgmpnlaaGx8
import Derived.Test.YtheillkpgmpnlaaGx9
import Derived.Test.YtheillkpgmpnlaaGx10
namespace Go.Proofs.Ytheillkpgmpnlaa.G
open Go.Proofs.YtheillkpgmpnlaaH
open Go.RowKit Go.Proofs.YtheillkpgmpnlaaW.PrintWords Go.Proofs.YtheillkpgmpnlaaW.PrintLast Go.Proofs.YtheillkpgmpnlaaW.PrintMore
attribute [local go_sem] max2_int min2_int max_two min_two max_three min_three max_four min_four   -- for this text's walks alone
set_option linter.unusedVariables false
set_option linter.unusedSimpArgs false

/-! ### pdom_Exit: function 21 -/
-- needs HArr
def pdom_Exit.l1 : Nat → List (List Int) → List Bool → List (List Int) → Int → Option (List (List Int) × List (List Int) × Int)
 | 0, _, _, _, _ => none
 | k + 1, s, out, x, i => if i < (s.length : Int) then (if 0 ≤ i then (if i < (x.length : Int) then (if i < 64 then (if (rd_L1 x i).length + (rd_L1 s i).length < 17592186044416 then (if rdOf false out i = true then (if (rd_L1 (x.set i.toNat (rd_L1 x i ++ rd_L1 s i)) i).length < 17592186044416 then (pdom_Exit.l1 k s out ((x.set i.toNat (rd_L1 x i ++ rd_L1 s i)).set i.toNat (rd_L1 (x.set i.toNat (rd_L1 x i ++ rd_L1 s i)) i ++ [(s.length : Int)])) (wrap64 (i + 1))) else none) else (pdom_Exit.l1 k s out (x.set i.toNat (rd_L1 x i ++ rd_L1 s i)) (wrap64 (i + 1)))) else none) else none) else none) else none) else (graph_Make.f k x)
def pdom_Exit.l0 : Nat → List (List Int) → List (List Int) → List Bool → List Bool → Option (List (List Int) × List (List Int) × Int)
 | 0, _, _, _, _ => none
 | k + 1, s, p, out, m => (pdom_missing.f k s p m).bind fun i => if i < (s.length : Int) then (if 0 ≤ i then (if i < 64 then ((pdom_back.f k s p (m.set i.toNat true)).bind fun m2 => pdom_Exit.l0 k s p (out.set i.toNat true) m2) else none) else none) else (if 0 ≤ wrap64 ((s.length : Int) + 1) then (if (wrap64 ((s.length : Int) + 1)).toNat ≤ 11728124029610 then (pdom_Exit.l1 k s out (List.replicate (wrap64 ((s.length : Int) + 1)).toNat []) 0) else none) else none)
def pdom_Exit.f (k : Nat) (l0_0 : List (List Int)) (l0_1 : List (List Int)) : Option (List (List Int) × List (List Int) × Int) := (graph_May.f k l0_0 l0_1).bind fun t => if t = true then (if (l0_0.length : Int) ≥ 64 then some ([], [], 5) else ((pdom_ends.f k l0_0 l0_1).bind fun out => (pdom_back.f k l0_0 l0_1 out).bind fun m => pdom_Exit.l0 k l0_0 l0_1 out m)) else some ([], [], 5)
theorem pdom_Exit.mono_l1 : ∀ k y0 y1 y2 y3, LeO (pdom_Exit.l1 k y0 y1 y2 y3) (pdom_Exit.l1 (k + 1) y0 y1 y2 y3)
 | 0 => fun _ _ _ _ r h => by simp [pdom_Exit.l1] at h
 | k + 1 => by
  have ih0 := pdom_Exit.mono_l1 k
  intro y0 y1 y2 y3
  unfold pdom_Exit.l1
  repeat' (with_reducible first | exact ih0 _ _ _ _ | exact graph_Make.mono _ _ | exact LeO.refl _ | exact LeO.none _ | refine LeO.ite ?_ ?_)
theorem pdom_Exit.mono_l0 : ∀ k y0 y1 y2 y3, LeO (pdom_Exit.l0 k y0 y1 y2 y3) (pdom_Exit.l0 (k + 1) y0 y1 y2 y3)
 | 0 => fun _ _ _ _ r h => by simp [pdom_Exit.l0] at h
 | k + 1 => by
  have ih0 := pdom_Exit.mono_l0 k
  intro y0 y1 y2 y3
  unfold pdom_Exit.l0
  repeat' (with_reducible first | exact ih0 _ _ _ _ | exact pdom_Exit.mono_l1 _ _ _ _ _ | exact pdom_missing.mono _ _ _ _ | exact pdom_back.mono _ _ _ _ | exact LeO.none _ | refine LeO.ite ?_ ?_ | refine LeO.bind ?_ (fun _ => ?_))
theorem pdom_Exit.mono : ∀ a0 a1 k, LeO (pdom_Exit.f k a0 a1) (pdom_Exit.f (k + 1) a0 a1) := by
 intro a0 a1 k
 unfold pdom_Exit.f
 exact LeO.bind (graph_May.mono _ _ _) (fun _ => LeO.ite (LeO.ite (LeO.refl _) (LeO.bind (pdom_ends.mono _ _ _) (fun _ => LeO.bind (pdom_back.mono _ _ _ _) (fun _ => pdom_Exit.mono_l0 _ _ _ _ _)))) (LeO.refl _))
set_option maxHeartbeats 8000000 in
set_option maxRecDepth 100000 in
theorem pdom_Exit.calls (k : Nat) (A0_0 : Option Addr) (c0_0 : Nat) (l0_0 : List (List Int)) (A0_1 : Option Addr) (c0_1 : Nat) (l0_1 : List (List Int)) (r1 : List (List Int)) (r2 : List (List Int)) (r3 : Int) (w : World) (hr0_0 : Kd.C (Kd.slice 3 (Kd.int .i64)) w A0_0 l0_0.length l0_0) (hc0_0 : l0_0.length ≤ c0_0) (hr0_1 : Kd.C (Kd.slice 3 (Kd.int .i64)) w A0_1 l0_1.length l0_1) (hc0_1 : l0_1.length ≤ c0_1) (h : pdom_Exit.f k l0_0 l0_1 = some (r1, r2, r3)) :
 Calls Try.prog 21 #[.agg #[.slice A0_0 l0_0.length c0_0, .slice A0_1 l0_1.length c0_1]] w fun e w' => ∃ v0_ v1_ : Value, e = .returned (.tuple #[.agg #[v0_, v1_], .int .i64 r3]) ∧ Kd.S (Kd.slice 3 (Kd.int .i64)) 31 w' w.heap.size (fun k_ => some k_ ≠ (v1_ : Value).ownBlock) v0_ r1 ∧ Kd.S (Kd.slice 3 (Kd.int .i64)) 31 w' w.heap.size (fun k_ => some k_ ≠ (v0_ : Value).ownBlock) v1_ r2 ∧ Below w.heap.size w w' := by
 have HB := A_ (Below.refl w.heap.size w)
 have HR0_0 := Aside0.mk hr0_0
 have HC0_0 := Aside0.mk hc0_0
 have HR0_1 := Aside0.mk hr0_1
 have HC0_1 := Aside0.mk hc0_1
 have H : ((graph_May.f k l0_0 l0_1).bind fun t => if t = true then (if (l0_0.length : Int) ≥ 64 then some ([], [], 5) else ((pdom_ends.f k l0_0 l0_1).bind fun out => (pdom_back.f k l0_0 l0_1 out).bind fun m => pdom_Exit.l0 k l0_0 l0_1 out m)) else some ([], [], 5)) = some (r1, r2, r3) := h
 clear h hr0_0 hc0_0 hr0_1 hc0_1
 have H' := Aside0.mk H
 clear H
 go_enter Try.func21, Try.ntmps21
 go_wp2_with (first
  | ((with_reducible refine gate_dst (N := 1) rfl ?_); refine box_event ?hg (N := 1) ?hd (cs := #[.slice A0_0 l0_0.length c0_0, .slice A0_1 l0_1.length c0_1]) (t := 26) ?hr ?_; (case hd => rfl); (case hg => rfl); (case hr => first | (go_simp; done) | (go_simp; rfl)); intro g1 hg w1 hbox hb; have n0_ := A_ (below_step (B_) hb); have n1_ := Aside0.mk hbox; clear HB; have HB := n0_; have BK1 := n1_; clear n0_ n1_ hb hbox hg)
  | ((with_reducible refine gate_dst (N := 2) rfl ?_); refine box_event ?hg (N := 2) ?hd (cs := #[.slice none 0 0, .slice none 0 0]) (t := 26) ?hr ?_; (case hd => rfl); (case hg => rfl); (case hr => first | (go_simp; done) | (go_simp; rfl)); intro g2 hg w2 hbox hb; have n0_ := A_ (blk_below BK1.out hb); have n1_ := A_ (below_step (B_) hb); have n2_ := Aside0.mk hbox; have GE2 := A_ ((by rw [hg]; exact (below_size (B_)) : w.heap.size ≤ g2)); have NB1_2 := A_ ((by rw [hg]; exact Nat.ne_of_lt (blk_lt BK1.out) : g1 ≠ g2)); clear BK1 HB; have BK1 := n0_; have HB := n1_; have BK2 := n2_; clear n0_ n1_ n2_ hb hbox hg))
 apply lab_enter 0; (case hf => rfl)
 have H := H'.out
 clear H'
 replace H := Option.bind_eq_some_iff.mp H
 obtain ⟨t1, A1_, H⟩ := H
 have A1 := Aside0.mk A1_
 clear A1_
 have hcz1_0 : w2.cell? ⟨g1, 0, none⟩ = some (.slice A0_0 l0_0.length c0_0) := (blk_cell BK1.out 0).trans rfl
 have hcz1_1 : w2.cell? ⟨g1, 1, none⟩ = some (.slice A0_1 l0_1.length c0_1) := (blk_cell BK1.out 1).trans rfl
 have hfz1_0 := blk_frozen BK1.out 0
 have hfz1_1 := blk_frozen BK1.out 1
 by_cases c7 : t1 = true
 ·subst c7
  rw [if_pos rfl] at H
  by_cases c8 : (l0_0.length : Int) ≥ 64
  ·rw [if_pos c8] at H
   have c8b0 : decide (64 ≤ (l0_0.length : Int)) = true := decide_eq_true c8
   have c8b1 : decide (64 ≤ l0_0.length) = true := decide_eq_true (by omega)
   clear c8
   simp only [Option.some.injEq, Prod.mk.injEq] at H
   obtain ⟨rfl, rfl, rfl⟩ := H
   go_wp2_with (first | (go_at_call 41; (with_reducible refine (graph_May.calls k _ _ l0_0 _ _ l0_1 true _ ?side1 ?side2 ?side3 ?side4 A1.out).mono ?_); (case side1 => exact Kd.C_below HR0_0.out (B_)); (case side2 => exact HC0_0.out); (case side3 => exact Kd.C_below HR0_1.out (B_)); (case side4 => exact HC0_1.out); rintro e w3 ⟨rfl, hb⟩; clear hcz1_0 hcz1_1 hfz1_0 hfz1_1; have n0_ := A_ (blk_below (g := g1) (o := (.cells #[.slice A0_0 l0_0.length c0_0, .slice A0_1 l0_1.length c0_1] 26 (0, 0))) (by exact KX_ BK1.out) hb); have n1_ := A_ (blk_below (g := g2) (o := (.cells #[.slice none 0 0, .slice none 0 0] 26 (0, 0))) (by exact KX_ BK2.out) hb); have nb_ := A_ (below_step (B_) hb); clear BK1 BK2 HB; have BK1 := n0_; have BK2 := n1_; have HB := nb_; clear n0_ n1_ nb_ hb; have hcz1_0 : w3.cell? ⟨g1, 0, none⟩ = some (.slice A0_0 l0_0.length c0_0) := (blk_cell BK1.out 0).trans rfl; have hcz1_1 : w3.cell? ⟨g1, 1, none⟩ = some (.slice A0_1 l0_1.length c0_1) := (blk_cell BK1.out 1).trans rfl; have hfz1_0 := blk_frozen BK1.out 0; have hfz1_1 := blk_frozen BK1.out 1; have hcz2_0 : w3.cell? ⟨g2, 0, none⟩ = some (.slice none 0 0) := (blk_cell BK2.out 0).trans rfl; have hcz2_1 : w3.cell? ⟨g2, 1, none⟩ = some (.slice none 0 0) := (blk_cell BK2.out 1).trans rfl; have hfz2_0 := blk_frozen BK2.out 0; have hfz2_1 := blk_frozen BK2.out 1))
   (try simp only [jumpg_ret, Exit.then, Exit.inBlock])
   refine bodyPost_ret (results_ct rfl _ _ g2 26 #[.slice none 0 0, .slice none 0 0] (0, 0) _ rfl (blk_put (cs := #[.slice none 0 0, .slice none 0 0]) (blk_put (cs := #[.slice none 0 0, .slice none 0 0]) BK2.out 0 _ rfl) 1 _ rfl) Try.underlying26 rfl (by kernel_rfl)) rfl ?_
   exact ⟨_, _, by first | rfl | (simp; done), Kd.S_nil _ _ _ _ _, Kd.S_nil _ _ _ _ _, B1_⟩
  rw [if_neg c8] at H
  have c8b0 : decide (64 ≤ (l0_0.length : Int)) = false := decide_eq_false c8
  have c8b1 : decide (64 ≤ l0_0.length) = false := decide_eq_false (by omega)
  have C8 := Aside0.mk c8
  clear c8
  replace H := Option.bind_eq_some_iff.mp H
  obtain ⟨out, A2_, H⟩ := H
  replace H := Option.bind_eq_some_iff.mp H
  obtain ⟨m, A3_, H⟩ := H
  have A2 := Aside0.mk A2_
  have A3 := Aside0.mk A3_
  have HE := A_ (pdom_ends.len A2_)
  have HM := A_ ((pdom_back.len A3_).trans (pdom_ends.len A2_))
  clear A2_ A3_
  have H' := Aside0.mk H
  clear H
  go_wp2_with (first
   | (go_at_call 41; (with_reducible refine (graph_May.calls k _ _ l0_0 _ _ l0_1 true _ ?side1 ?side2 ?side3 ?side4 A1.out).mono ?_); (case side1 => exact Kd.C_below HR0_0.out (B_)); (case side2 => exact HC0_0.out); (case side3 => exact Kd.C_below HR0_1.out (B_)); (case side4 => exact HC0_1.out); rintro e w3 ⟨rfl, hb⟩; clear hcz1_0 hcz1_1 hfz1_0 hfz1_1; have n0_ := A_ (blk_below (g := g1) (o := (.cells #[.slice A0_0 l0_0.length c0_0, .slice A0_1 l0_1.length c0_1] 26 (0, 0))) (by exact KX_ BK1.out) hb); have n1_ := A_ (blk_below (g := g2) (o := (.cells #[.slice none 0 0, .slice none 0 0] 26 (0, 0))) (by exact KX_ BK2.out) hb); have nb_ := A_ (below_step (B_) hb); clear BK1 BK2 HB; have BK1 := n0_; have BK2 := n1_; have HB := nb_; clear n0_ n1_ nb_ hb; have hcz1_0 : w3.cell? ⟨g1, 0, none⟩ = some (.slice A0_0 l0_0.length c0_0) := (blk_cell BK1.out 0).trans rfl; have hcz1_1 : w3.cell? ⟨g1, 1, none⟩ = some (.slice A0_1 l0_1.length c0_1) := (blk_cell BK1.out 1).trans rfl; have hfz1_0 := blk_frozen BK1.out 0; have hfz1_1 := blk_frozen BK1.out 1)
   | (go_at_call 42; (with_reducible refine (pdom_ends.calls k _ _ l0_0 _ _ l0_1 out _ ?side1 ?side2 A2.out).mono ?_); (case side1 => exact Kd.C_below HR0_0.out (B_)); (case side2 => exact HC0_0.out); rintro e w4 ⟨rfl, hb⟩; clear hcz1_0 hcz1_1 hfz1_0 hfz1_1; have n0_ := A_ (blk_below (g := g1) (o := (.cells #[.slice A0_0 l0_0.length c0_0, .slice A0_1 l0_1.length c0_1] 26 (0, 0))) (by exact KX_ BK1.out) hb); have n1_ := A_ (blk_below (g := g2) (o := (.cells #[.slice none 0 0, .slice none 0 0] 26 (0, 0))) (by exact KX_ BK2.out) hb); have nb_ := A_ (below_step (B_) hb); clear BK1 BK2 HB; have BK1 := n0_; have BK2 := n1_; have HB := nb_; clear n0_ n1_ nb_ hb; have hcz1_0 : w4.cell? ⟨g1, 0, none⟩ = some (.slice A0_0 l0_0.length c0_0) := (blk_cell BK1.out 0).trans rfl; have hcz1_1 : w4.cell? ⟨g1, 1, none⟩ = some (.slice A0_1 l0_1.length c0_1) := (blk_cell BK1.out 1).trans rfl; have hfz1_0 := blk_frozen BK1.out 0; have hfz1_1 := blk_frozen BK1.out 1)
   | ((with_reducible refine gate_dst (N := 5) rfl ?_); refine box_event ?hg (N := 5) ?hd (cs := AV (List.replicate 64 false)) (t := 62) ?hr ?_; (case hd => rfl); (case hg => rfl); (case hr => first | (go_simp; done) | (go_simp; rfl) | (go_simp; kernel_rfl)); intro g5 hg w5 hbox hb; clear hcz1_0 hcz1_1 hfz1_0 hfz1_1; have n0_ := A_ (blk_below (g := g1) (o := (.cells #[.slice A0_0 l0_0.length c0_0, .slice A0_1 l0_1.length c0_1] 26 (0, 0))) (by exact KX_ BK1.out) hb); have n1_ := A_ (blk_below (g := g2) (o := (.cells #[.slice none 0 0, .slice none 0 0] 26 (0, 0))) (by exact KX_ BK2.out) hb); have nb_ := A_ (below_step (B_) hb); have nn_ := Aside0.mk hbox; have GE5 := A_ ((by rw [hg]; exact (below_size (B_)) : w.heap.size ≤ g5)); have NB1_5 := A_ ((by rw [hg]; exact Nat.ne_of_lt (blk_lt BK1.out) : g1 ≠ g5)); have NB2_5 := A_ ((by rw [hg]; exact Nat.ne_of_lt (blk_lt BK2.out) : g2 ≠ g5)); clear BK1 BK2 HB; have BK1 := n0_; have BK2 := n1_; have HB := nb_; have BK5 := nn_; clear n0_ n1_ nb_ nn_ hb hbox hg; have hcz1_0 : w5.cell? ⟨g1, 0, none⟩ = some (.slice A0_0 l0_0.length c0_0) := (blk_cell BK1.out 0).trans rfl; have hcz1_1 : w5.cell? ⟨g1, 1, none⟩ = some (.slice A0_1 l0_1.length c0_1) := (blk_cell BK1.out 1).trans rfl; have hfz1_0 := blk_frozen BK1.out 0; have hfz1_1 := blk_frozen BK1.out 1)
   | ((with_reducible refine gate_store (t := 62) (p := 5) rfl ?_); refine av_store (g := g5) (l' := out) rfl 62 _ _ rfl rfl ?hx ?hy BK5.out ?hi ?hl ?_; (case hx => first | (go_simp; done) | (go_simp; rfl)); (case hy => first | (go_simp; done) | (go_simp; rfl)); (case hi => rw [HE.out]; kernel_rfl); (case hl => rw [HE.out]; simp); intro w6 hw; clear hcz1_0 hcz1_1 hfz1_0 hfz1_1; have nn_ := A_ (by rw [hw]; exact av_stored BK5.out : w6.heap[g5]? = some (.cells (AV out) 62 (0, 0))); have nb_ := A_ ((by rw [hw]; exact below_setRow (B_) GE5.out _ : Below w.heap.size w w6)); have n0_ := A_ (by rw [hw]; exact blk_row (by exact KX_ BK1.out) NB1_5.out _ : w6.heap[g1]? = some (.cells #[.slice A0_0 l0_0.length c0_0, .slice A0_1 l0_1.length c0_1] 26 (0, 0))); have n1_ := A_ (by rw [hw]; exact blk_row (by exact KX_ BK2.out) NB2_5.out _ : w6.heap[g2]? = some (.cells #[.slice none 0 0, .slice none 0 0] 26 (0, 0))); clear BK5 BK1 BK2 HB; have BK1 := n0_; have BK2 := n1_; have HB := nb_; have BK5 := nn_; clear n0_ n1_ nb_ nn_ hw; have hcz1_0 : w6.cell? ⟨g1, 0, none⟩ = some (.slice A0_0 l0_0.length c0_0) := (blk_cell BK1.out 0).trans rfl; have hcz1_1 : w6.cell? ⟨g1, 1, none⟩ = some (.slice A0_1 l0_1.length c0_1) := (blk_cell BK1.out 1).trans rfl; have hfz1_0 := blk_frozen BK1.out 0; have hfz1_1 := blk_frozen BK1.out 1)
   | ((with_reducible refine gate_dst (N := 25) rfl ?_); refine av_load (g := g5) rfl 62 _ rfl ?hx BK5.out Try.underlying62 ?hi ?_; (case hx => first | (go_simp; done) | (go_simp; rfl)); (case hi => rw [HE.out]; kernel_rfl))
   | (go_at_call 43; (with_reducible refine (pdom_back.calls k _ _ l0_0 _ _ l0_1 out m _ ?side1 ?side2 ?side3 A3.out).mono ?_); (case side1 => exact Kd.C_below HR0_1.out (B_)); (case side2 => exact HC0_1.out); (case side3 => exact HE.out); rintro e w7 ⟨rfl, hb⟩; clear hcz1_0 hcz1_1 hfz1_0 hfz1_1; have n0_ := A_ (blk_below (g := g1) (o := (.cells #[.slice A0_0 l0_0.length c0_0, .slice A0_1 l0_1.length c0_1] 26 (0, 0))) (by exact KX_ BK1.out) hb); have n1_ := A_ (blk_below (g := g2) (o := (.cells #[.slice none 0 0, .slice none 0 0] 26 (0, 0))) (by exact KX_ BK2.out) hb); have n2_ := A_ (blk_below (g := g5) (o := (.cells (AV out) 62 (0, 0))) (by exact KX_ BK5.out) hb); have nb_ := A_ (below_step (B_) hb); clear BK1 BK2 BK5 HB; have BK1 := n0_; have BK2 := n1_; have BK5 := n2_; have HB := nb_; clear n0_ n1_ n2_ nb_ hb; have hcz1_0 : w7.cell? ⟨g1, 0, none⟩ = some (.slice A0_0 l0_0.length c0_0) := (blk_cell BK1.out 0).trans rfl; have hcz1_1 : w7.cell? ⟨g1, 1, none⟩ = some (.slice A0_1 l0_1.length c0_1) := (blk_cell BK1.out 1).trans rfl; have hfz1_0 := blk_frozen BK1.out 0; have hfz1_1 := blk_frozen BK1.out 1)
   | ((with_reducible refine gate_dst (N := 6) rfl ?_); refine box_event ?hg (N := 6) ?hd (cs := AV (List.replicate 64 false)) (t := 62) ?hr ?_; (case hd => rfl); (case hg => rfl); (case hr => first | (go_simp; done) | (go_simp; rfl) | (go_simp; kernel_rfl)); intro g6 hg w8 hbox hb; clear hcz1_0 hcz1_1 hfz1_0 hfz1_1; have n0_ := A_ (blk_below (g := g1) (o := (.cells #[.slice A0_0 l0_0.length c0_0, .slice A0_1 l0_1.length c0_1] 26 (0, 0))) (by exact KX_ BK1.out) hb); have n1_ := A_ (blk_below (g := g2) (o := (.cells #[.slice none 0 0, .slice none 0 0] 26 (0, 0))) (by exact KX_ BK2.out) hb); have n2_ := A_ (blk_below (g := g5) (o := (.cells (AV out) 62 (0, 0))) (by exact KX_ BK5.out) hb); have nb_ := A_ (below_step (B_) hb); have nn_ := Aside0.mk hbox; have GE6 := A_ ((by rw [hg]; exact (below_size (B_)) : w.heap.size ≤ g6)); have NB1_6 := A_ ((by rw [hg]; exact Nat.ne_of_lt (blk_lt BK1.out) : g1 ≠ g6)); have NB2_6 := A_ ((by rw [hg]; exact Nat.ne_of_lt (blk_lt BK2.out) : g2 ≠ g6)); have NB5_6 := A_ ((by rw [hg]; exact Nat.ne_of_lt (blk_lt BK5.out) : g5 ≠ g6)); clear BK1 BK2 BK5 HB; have BK1 := n0_; have BK2 := n1_; have BK5 := n2_; have HB := nb_; have BK6 := nn_; clear n0_ n1_ n2_ nb_ nn_ hb hbox hg; have hcz1_0 : w8.cell? ⟨g1, 0, none⟩ = some (.slice A0_0 l0_0.length c0_0) := (blk_cell BK1.out 0).trans rfl; have hcz1_1 : w8.cell? ⟨g1, 1, none⟩ = some (.slice A0_1 l0_1.length c0_1) := (blk_cell BK1.out 1).trans rfl; have hfz1_0 := blk_frozen BK1.out 0; have hfz1_1 := blk_frozen BK1.out 1)
   | ((with_reducible refine gate_store (t := 62) (p := 6) rfl ?_); refine av_store (g := g6) (l' := m) rfl 62 _ _ rfl rfl ?hx ?hy BK6.out ?hi ?hl ?_; (case hx => first | (go_simp; done) | (go_simp; rfl)); (case hy => first | (go_simp; done) | (go_simp; rfl)); (case hi => rw [HM.out]; kernel_rfl); (case hl => rw [HM.out]; simp); intro w9 hw; clear hcz1_0 hcz1_1 hfz1_0 hfz1_1; have nn_ := A_ (by rw [hw]; exact av_stored BK6.out : w9.heap[g6]? = some (.cells (AV m) 62 (0, 0))); have nb_ := A_ ((by rw [hw]; exact below_setRow (B_) GE6.out _ : Below w.heap.size w w9)); have n0_ := A_ (by rw [hw]; exact blk_row (by exact KX_ BK1.out) NB1_6.out _ : w9.heap[g1]? = some (.cells #[.slice A0_0 l0_0.length c0_0, .slice A0_1 l0_1.length c0_1] 26 (0, 0))); have n1_ := A_ (by rw [hw]; exact blk_row (by exact KX_ BK2.out) NB2_6.out _ : w9.heap[g2]? = some (.cells #[.slice none 0 0, .slice none 0 0] 26 (0, 0))); have n2_ := A_ (by rw [hw]; exact blk_row (by exact KX_ BK5.out) NB5_6.out _ : w9.heap[g5]? = some (.cells (AV out) 62 (0, 0))); clear BK6 BK1 BK2 BK5 HB; have BK1 := n0_; have BK2 := n1_; have BK5 := n2_; have HB := nb_; have BK6 := nn_; clear n0_ n1_ n2_ nb_ nn_ hw; have hcz1_0 : w9.cell? ⟨g1, 0, none⟩ = some (.slice A0_0 l0_0.length c0_0) := (blk_cell BK1.out 0).trans rfl; have hcz1_1 : w9.cell? ⟨g1, 1, none⟩ = some (.slice A0_1 l0_1.length c0_1) := (blk_cell BK1.out 1).trans rfl; have hfz1_0 := blk_frozen BK1.out 0; have hfz1_1 := blk_frozen BK1.out 1))
  (try simp only [Act.put, List.setIfInBounds_toArray, List.set_cons_zero, List.set_cons_succ])
  go_step3
  go_step
  try go_step
  apply lab_ghost_at (l := 0) (I := fun (a0_ : Act) (kq_ : Nat) (a_ : Act) (w_ : World) => ∃ u3 u7 u8 u9 u10 u27 u28 u29 u30 u31 u32 u33 u34 u35 u36 u37 u38 u39 u40 u41 u42 u43 u44 u45 u46 u47 u48 u49 u50 u51 u52 u53 u54 u55 u56 u57 u58 u59 u60 u61 u62 u63 u64 u65 u66 u67 u68 u69 u70 u71 u72 u73 u74 u75 u76 u77 : Value, ((fun kq w' => ∃ (out m : List Bool), Aside0 (pdom_Exit.l0 kq l0_0 l0_1 out m = some (r1, r2, r3)) ∧ Aside0 (kq ≤ k) ∧ Aside0 (out.length = 64) ∧ Aside0 (m.length = 64) ∧ Aside0 (w'.heap[g1]? = some (.cells #[.slice A0_0 l0_0.length c0_0, .slice A0_1 l0_1.length c0_1] 26 (0, 0))) ∧ Aside0 (w'.heap[g2]? = some (.cells #[.slice none 0 0, .slice none 0 0] 26 (0, 0))) ∧ Aside0 (w'.heap[g5]? = some (.cells (AV out) 62 (0, 0))) ∧ Aside0 (w'.heap[g6]? = some (.cells (AV m) 62 (0, 0))) ∧ Aside0 (Below w.heap.size w w')) kq_ w_) ∧ a_ = { tmps := ((((((((((((((((((((((((((((((((((((((((((((((((((((((((a0_.tmps.setIfInBounds 3 u3).setIfInBounds 7 u7).setIfInBounds 8 u8).setIfInBounds 9 u9).setIfInBounds 10 u10).setIfInBounds 27 u27).setIfInBounds 28 u28).setIfInBounds 29 u29).setIfInBounds 30 u30).setIfInBounds 31 u31).setIfInBounds 32 u32).setIfInBounds 33 u33).setIfInBounds 34 u34).setIfInBounds 35 u35).setIfInBounds 36 u36).setIfInBounds 37 u37).setIfInBounds 38 u38).setIfInBounds 39 u39).setIfInBounds 40 u40).setIfInBounds 41 u41).setIfInBounds 42 u42).setIfInBounds 43 u43).setIfInBounds 44 u44).setIfInBounds 45 u45).setIfInBounds 46 u46).setIfInBounds 47 u47).setIfInBounds 48 u48).setIfInBounds 49 u49).setIfInBounds 50 u50).setIfInBounds 51 u51).setIfInBounds 52 u52).setIfInBounds 53 u53).setIfInBounds 54 u54).setIfInBounds 55 u55).setIfInBounds 56 u56).setIfInBounds 57 u57).setIfInBounds 58 u58).setIfInBounds 59 u59).setIfInBounds 60 u60).setIfInBounds 61 u61).setIfInBounds 62 u62).setIfInBounds 63 u63).setIfInBounds 64 u64).setIfInBounds 65 u65).setIfInBounds 66 u66).setIfInBounds 67 u67).setIfInBounds 68 u68).setIfInBounds 69 u69).setIfInBounds 70 u70).setIfInBounds 71 u71).setIfInBounds 72 u72).setIfInBounds 73 u73).setIfInBounds 74 u74).setIfInBounds 75 u75).setIfInBounds 76 u76).setIfInBounds 77 u77), defers := a0_.defers }) (n₀ := k); (case hf => rfl)
  case h₀ =>
   (repeat apply Exists.intro)
   refine ⟨?_, ?hfr⟩
   (case hfr => (try simp only [List.setIfInBounds_toArray, List.set_cons_zero, List.set_cons_succ]); rfl)
   exact ⟨out, m, H', ⟨Nat.le_refl _⟩, HE, HM, ⟨KX_ BK1.out⟩, ⟨KX_ BK2.out⟩, ⟨KX_ BK5.out⟩, ⟨KX_ BK6.out⟩, ⟨B_⟩⟩
  intro gk _ wr hinv
  obtain ⟨u3, hinv⟩ := hinv
  obtain ⟨u7, hinv⟩ := hinv
  obtain ⟨u8, hinv⟩ := hinv
  obtain ⟨u9, hinv⟩ := hinv
  obtain ⟨u10, hinv⟩ := hinv
  obtain ⟨u27, hinv⟩ := hinv
  obtain ⟨u28, hinv⟩ := hinv
  obtain ⟨u29, hinv⟩ := hinv
  obtain ⟨u30, hinv⟩ := hinv
  obtain ⟨u31, hinv⟩ := hinv
  obtain ⟨u32, hinv⟩ := hinv
  obtain ⟨u33, hinv⟩ := hinv
  obtain ⟨u34, hinv⟩ := hinv
  obtain ⟨u35, hinv⟩ := hinv
  obtain ⟨u36, hinv⟩ := hinv
  obtain ⟨u37, hinv⟩ := hinv
  obtain ⟨u38, hinv⟩ := hinv
  obtain ⟨u39, hinv⟩ := hinv
  obtain ⟨u40, hinv⟩ := hinv
  obtain ⟨u41, hinv⟩ := hinv
  obtain ⟨u42, hinv⟩ := hinv
  obtain ⟨u43, hinv⟩ := hinv
  obtain ⟨u44, hinv⟩ := hinv
  obtain ⟨u45, hinv⟩ := hinv
  obtain ⟨u46, hinv⟩ := hinv
  obtain ⟨u47, hinv⟩ := hinv
  obtain ⟨u48, hinv⟩ := hinv
  obtain ⟨u49, hinv⟩ := hinv
  obtain ⟨u50, hinv⟩ := hinv
  obtain ⟨u51, hinv⟩ := hinv
  obtain ⟨u52, hinv⟩ := hinv
  obtain ⟨u53, hinv⟩ := hinv
  obtain ⟨u54, hinv⟩ := hinv
  obtain ⟨u55, hinv⟩ := hinv
  obtain ⟨u56, hinv⟩ := hinv
  obtain ⟨u57, hinv⟩ := hinv
  obtain ⟨u58, hinv⟩ := hinv
  obtain ⟨u59, hinv⟩ := hinv
  obtain ⟨u60, hinv⟩ := hinv
  obtain ⟨u61, hinv⟩ := hinv
  obtain ⟨u62, hinv⟩ := hinv
  obtain ⟨u63, hinv⟩ := hinv
  obtain ⟨u64, hinv⟩ := hinv
  obtain ⟨u65, hinv⟩ := hinv
  obtain ⟨u66, hinv⟩ := hinv
  obtain ⟨u67, hinv⟩ := hinv
  obtain ⟨u68, hinv⟩ := hinv
  obtain ⟨u69, hinv⟩ := hinv
  obtain ⟨u70, hinv⟩ := hinv
  obtain ⟨u71, hinv⟩ := hinv
  obtain ⟨u72, hinv⟩ := hinv
  obtain ⟨u73, hinv⟩ := hinv
  obtain ⟨u74, hinv⟩ := hinv
  obtain ⟨u75, hinv⟩ := hinv
  obtain ⟨u76, hinv⟩ := hinv
  obtain ⟨u77, hinv⟩ := hinv
  obtain ⟨hrel, ha⟩ := hinv; subst ha
  intro _ _ hJ_ hK_
  (try simp only [List.setIfInBounds_toArray, List.set_cons_zero, List.set_cons_succ])
  (try simp only [List.setIfInBounds_toArray, List.set_cons_zero, List.set_cons_succ] at hJ_)
  clear H' BK1 BK2 BK5 BK6 HB HE HM A2 A3 hcz1_0 hcz1_1 hfz1_0 hfz1_1
  obtain ⟨out, m, HA, HK1, HE, HM, BK1, BK2, BK5, BK6, HB⟩ := hrel
  cases gk with
  | zero => exact absurd HA.out (by simp [pdom_Exit.l0])
  | succ k1 =>
   have H := HA.out
   clear HA
   simp only [pdom_Exit.l0] at H
   replace H := Option.bind_eq_some_iff.mp H
   obtain ⟨i, A4_, H⟩ := H
   have A4 := Aside0.mk A4_
   clear A4_
   have hcz1_0 : wr.cell? ⟨g1, 0, none⟩ = some (.slice A0_0 l0_0.length c0_0) := (blk_cell BK1.out 0).trans rfl
   have hcz1_1 : wr.cell? ⟨g1, 1, none⟩ = some (.slice A0_1 l0_1.length c0_1) := (blk_cell BK1.out 1).trans rfl
   have hfz1_0 := blk_frozen BK1.out 0
   have hfz1_1 := blk_frozen BK1.out 1
   by_cases c9 : i < (l0_0.length : Int)
   ·rw [if_pos c9] at H
    have c9b0 : decide (i < (l0_0.length : Int)) = true := decide_eq_true c9
    clear c9
    by_cases c10 : 0 ≤ i
    ·rw [if_pos c10] at H
     by_cases c11 : i < 64
     ·rw [if_pos c11] at H
      replace H := Option.bind_eq_some_iff.mp H
      obtain ⟨m2, A5_, H⟩ := H
      have A5 := Aside0.mk A5_
      have HM2 := A_ ((pdom_back.len A5_).trans (by simp [HM.out] : (m.set i.toNat true).length = 64))
      clear A5_
      have H' := Aside0.mk H
      clear H
      have C10 := Aside0.mk c10
      have C11 := Aside0.mk c11
      have p10 := eq_true c10
      have p11 : (i < (64 : Int)) = True := eq_true c11
      clear c10 c11
      go_wp2_with (first
       | ((with_reducible refine gate_dst (N := 28) rfl ?_); refine av_load (g := g6) rfl 62 _ rfl ?hx BK6.out Try.underlying62 ?hi ?_; (case hx => first | (go_simp; done) | (go_simp; rfl)); (case hi => rw [HM.out]; kernel_rfl))
       | (go_at_call 44; (with_reducible refine (pdom_missing.calls k1 _ _ l0_0 _ _ l0_1 m i _ ?side1 A4.out).mono ?_); (case side1 => exact HM.out); rintro e w3 ⟨rfl, hb⟩; clear hcz1_0 hcz1_1 hfz1_0 hfz1_1; have n0_ := A_ (blk_below (g := g1) (o := (.cells #[.slice A0_0 l0_0.length c0_0, .slice A0_1 l0_1.length c0_1] 26 (0, 0))) (by exact KX_ BK1.out) hb); have n1_ := A_ (blk_below (g := g2) (o := (.cells #[.slice none 0 0, .slice none 0 0] 26 (0, 0))) (by exact KX_ BK2.out) hb); have n2_ := A_ (blk_below (g := g5) (o := (.cells (AV out) 62 (0, 0))) (by exact KX_ BK5.out) hb); have n3_ := A_ (blk_below (g := g6) (o := (.cells (AV m) 62 (0, 0))) (by exact KX_ BK6.out) hb); have nb_ := A_ (below_step (B_) hb); clear BK1 BK2 BK5 BK6 HB; have BK1 := n0_; have BK2 := n1_; have BK5 := n2_; have BK6 := n3_; have HB := nb_; clear n0_ n1_ n2_ n3_ nb_ hb; have hcz1_0 : w3.cell? ⟨g1, 0, none⟩ = some (.slice A0_0 l0_0.length c0_0) := (blk_cell BK1.out 0).trans rfl; have hcz1_1 : w3.cell? ⟨g1, 1, none⟩ = some (.slice A0_1 l0_1.length c0_1) := (blk_cell BK1.out 1).trans rfl; have hfz1_0 := blk_frozen BK1.out 0; have hfz1_1 := blk_frozen BK1.out 1; have hq5_ := av_cell BK5.out i (by rw [HE.out]; exact C11.out) C10.out; have hg5_ := blk_frozen BK5.out i.toNat)
       | ((with_reducible refine gate_store (t := 4) (p := 35) rfl ?_); refine store_event (t := 4) (p := 35) (v := ?vo) (w1 := (w3.setCell ⟨g5, i.toNat, none⟩ (.bool true))) ?hg ?ho ?hn ?hr ?_; (case ho => rfl); (case hg => rfl); (case hn => rfl); (case hr => first | (go_simp; done) | (go_simp; rfl)); intro w4 hw; clear hcz1_0 hcz1_1 hfz1_0 hfz1_1; have nn_ := A_ (by rw [hw]; exact av_put BK5.out i true : w4.heap[g5]? = some (.cells (AV (out.set i.toNat true)) 62 (0, 0))); have nb_ := A_ ((by rw [hw]; exact below_set (B_) GE5.out : Below w.heap.size w w4)); have n0_ := A_ (by rw [hw]; exact blk_far (by exact KX_ BK1.out) NB1_5.out _ : w4.heap[g1]? = some (.cells #[.slice A0_0 l0_0.length c0_0, .slice A0_1 l0_1.length c0_1] 26 (0, 0))); have n1_ := A_ (by rw [hw]; exact blk_far (by exact KX_ BK2.out) NB2_5.out _ : w4.heap[g2]? = some (.cells #[.slice none 0 0, .slice none 0 0] 26 (0, 0))); have n2_ := A_ (by rw [hw]; exact blk_far (by exact KX_ BK6.out) (Ne.symm NB5_6.out) _ : w4.heap[g6]? = some (.cells (AV m) 62 (0, 0))); clear BK5 BK1 BK2 BK6 HB; have BK1 := n0_; have BK2 := n1_; have BK6 := n2_; have HB := nb_; have BK5 := nn_; clear n0_ n1_ n2_ nb_ nn_ hw; (try (have hq6_ := av_cell BK6.out i (by rw [HM.out]; exact C11.out) C10.out)); (try (have hg6_ := blk_frozen BK6.out i.toNat)); have hcz1_0 : w4.cell? ⟨g1, 0, none⟩ = some (.slice A0_0 l0_0.length c0_0) := (blk_cell BK1.out 0).trans rfl; have hcz1_1 : w4.cell? ⟨g1, 1, none⟩ = some (.slice A0_1 l0_1.length c0_1) := (blk_cell BK1.out 1).trans rfl; have hfz1_0 := blk_frozen BK1.out 0; have hfz1_1 := blk_frozen BK1.out 1)
       | ((with_reducible refine gate_store (t := 4) (p := 36) rfl ?_); refine store_event (t := 4) (p := 36) (v := ?vo) (w1 := (w4.setCell ⟨g6, i.toNat, none⟩ (.bool true))) ?hg ?ho ?hn ?hr ?_; (case ho => rfl); (case hg => rfl); (case hn => rfl); (case hr => first | (go_simp; done) | (go_simp; rfl)); intro w5 hw; clear hcz1_0 hcz1_1 hfz1_0 hfz1_1; have nn_ := A_ (by rw [hw]; exact av_put BK6.out i true : w5.heap[g6]? = some (.cells (AV (m.set i.toNat true)) 62 (0, 0))); have nb_ := A_ ((by rw [hw]; exact below_set (B_) GE6.out : Below w.heap.size w w5)); have n0_ := A_ (by rw [hw]; exact blk_far (by exact KX_ BK1.out) NB1_6.out _ : w5.heap[g1]? = some (.cells #[.slice A0_0 l0_0.length c0_0, .slice A0_1 l0_1.length c0_1] 26 (0, 0))); have n1_ := A_ (by rw [hw]; exact blk_far (by exact KX_ BK2.out) NB2_6.out _ : w5.heap[g2]? = some (.cells #[.slice none 0 0, .slice none 0 0] 26 (0, 0))); have n2_ := A_ (by rw [hw]; exact blk_far (by exact KX_ BK5.out) NB5_6.out _ : w5.heap[g5]? = some (.cells (AV (out.set i.toNat true)) 62 (0, 0))); clear BK6 BK1 BK2 BK5 HB; have BK1 := n0_; have BK2 := n1_; have BK5 := n2_; have HB := nb_; have BK6 := nn_; clear n0_ n1_ n2_ nb_ nn_ hw; (try (have hq6_ := av_cell BK6.out i (by rw [HM.out]; exact C11.out) C10.out)); (try (have hg6_ := blk_frozen BK6.out i.toNat)); have hcz1_0 : w5.cell? ⟨g1, 0, none⟩ = some (.slice A0_0 l0_0.length c0_0) := (blk_cell BK1.out 0).trans rfl; have hcz1_1 : w5.cell? ⟨g1, 1, none⟩ = some (.slice A0_1 l0_1.length c0_1) := (blk_cell BK1.out 1).trans rfl; have hfz1_0 := blk_frozen BK1.out 0; have hfz1_1 := blk_frozen BK1.out 1)
       | ((with_reducible refine gate_dst (N := 38) rfl ?_); refine av_load (g := g6) rfl 62 _ rfl ?hx BK6.out Try.underlying62 ?hi ?_; (case hx => first | (go_simp; done) | (go_simp; rfl)); (case hi => rw [(show (m.set i.toNat true).length = 64 by simp [HM.out])]; kernel_rfl))
       | (go_at_call 43; (with_reducible refine (pdom_back.calls k1 _ _ l0_0 _ _ l0_1 (m.set i.toNat true) m2 _ ?side1 ?side2 ?side3 A5.out).mono ?_); (case side1 => exact Kd.C_below HR0_1.out (B_)); (case side2 => exact HC0_1.out); (case side3 => exact (by simp [HM.out])); rintro e w6 ⟨rfl, hb⟩; clear hcz1_0 hcz1_1 hfz1_0 hfz1_1; have n0_ := A_ (blk_below (g := g1) (o := (.cells #[.slice A0_0 l0_0.length c0_0, .slice A0_1 l0_1.length c0_1] 26 (0, 0))) (by exact KX_ BK1.out) hb); have n1_ := A_ (blk_below (g := g2) (o := (.cells #[.slice none 0 0, .slice none 0 0] 26 (0, 0))) (by exact KX_ BK2.out) hb); have n2_ := A_ (blk_below (g := g5) (o := (.cells (AV (out.set i.toNat true)) 62 (0, 0))) (by exact KX_ BK5.out) hb); have n3_ := A_ (blk_below (g := g6) (o := (.cells (AV (m.set i.toNat true)) 62 (0, 0))) (by exact KX_ BK6.out) hb); have nb_ := A_ (below_step (B_) hb); clear BK1 BK2 BK5 BK6 HB; have BK1 := n0_; have BK2 := n1_; have BK5 := n2_; have BK6 := n3_; have HB := nb_; clear n0_ n1_ n2_ n3_ nb_ hb; have hcz1_0 : w6.cell? ⟨g1, 0, none⟩ = some (.slice A0_0 l0_0.length c0_0) := (blk_cell BK1.out 0).trans rfl; have hcz1_1 : w6.cell? ⟨g1, 1, none⟩ = some (.slice A0_1 l0_1.length c0_1) := (blk_cell BK1.out 1).trans rfl; have hfz1_0 := blk_frozen BK1.out 0; have hfz1_1 := blk_frozen BK1.out 1)
       | ((with_reducible refine gate_store (t := 62) (p := 6) rfl ?_); refine av_store (g := g6) (l' := m2) rfl 62 _ _ rfl rfl ?hx ?hy BK6.out ?hi ?hl ?_; (case hx => first | (go_simp; done) | (go_simp; rfl)); (case hy => first | (go_simp; done) | (go_simp; rfl)); (case hi => rw [HM2.out]; kernel_rfl); (case hl => rw [HM2.out]; simp [HM.out]); intro w7 hw; clear hcz1_0 hcz1_1 hfz1_0 hfz1_1; have nn_ := A_ (by rw [hw]; exact av_stored BK6.out : w7.heap[g6]? = some (.cells (AV m2) 62 (0, 0))); have nb_ := A_ ((by rw [hw]; exact below_setRow (B_) GE6.out _ : Below w.heap.size w w7)); have n0_ := A_ (by rw [hw]; exact blk_row (by exact KX_ BK1.out) NB1_6.out _ : w7.heap[g1]? = some (.cells #[.slice A0_0 l0_0.length c0_0, .slice A0_1 l0_1.length c0_1] 26 (0, 0))); have n1_ := A_ (by rw [hw]; exact blk_row (by exact KX_ BK2.out) NB2_6.out _ : w7.heap[g2]? = some (.cells #[.slice none 0 0, .slice none 0 0] 26 (0, 0))); have n2_ := A_ (by rw [hw]; exact blk_row (by exact KX_ BK5.out) NB5_6.out _ : w7.heap[g5]? = some (.cells (AV (out.set i.toNat true)) 62 (0, 0))); clear BK6 BK1 BK2 BK5 HB; have BK1 := n0_; have BK2 := n1_; have BK5 := n2_; have HB := nb_; have BK6 := nn_; clear n0_ n1_ n2_ nb_ nn_ hw; have hcz1_0 : w7.cell? ⟨g1, 0, none⟩ = some (.slice A0_0 l0_0.length c0_0) := (blk_cell BK1.out 0).trans rfl; have hcz1_1 : w7.cell? ⟨g1, 1, none⟩ = some (.slice A0_1 l0_1.length c0_1) := (blk_cell BK1.out 1).trans rfl; have hfz1_0 := blk_frozen BK1.out 0; have hfz1_1 := blk_frozen BK1.out 1))
      go_step3
      try simp only [jumpg_goto, Exit.then, Exit.inBlock]
      go_step
      go_roundg k1
      case measure => have := HK1.out; omega
      case rel => exact ⟨_, _, H', ⟨by have := HK1.out; omega⟩, ⟨by simp [HE.out]⟩, HM2, ⟨KX_ BK1.out⟩, ⟨KX_ BK2.out⟩, ⟨KX_ BK5.out⟩, ⟨KX_ BK6.out⟩, ⟨B_⟩⟩
     rw [if_neg c11] at H
     exact absurd H (by simp)
    rw [if_neg c10] at H
    exact absurd H (by simp)
   rw [if_neg c9] at H
   have c9b0 : decide (i < (l0_0.length : Int)) = false := decide_eq_false c9
   clear c9
   obtain ⟨ji, hji⟩ : ∃ j_ : Int, (wrap64 ((l0_0.length : Int) + 1)) = j_ := ⟨_, rfl⟩
   rw [hji] at H
   have hjiw : (IntKind.i64.wrap ((l0_0.length : Int) + 1)) = ji := (i64_w _).trans hji
   by_cases c12 : 0 ≤ ji
   ·rw [if_pos c12] at H
    by_cases c13 : ji.toNat ≤ 11728124029610
    ·rw [if_pos c13] at H
     have H' := Aside0.mk H
     clear H
     go_wp2_with (first
      | ((with_reducible refine gate_dst (N := 28) rfl ?_); refine av_load (g := g6) rfl 62 _ rfl ?hx BK6.out Try.underlying62 ?hi ?_; (case hx => first | (go_simp; done) | (go_simp; rfl)); (case hi => rw [HM.out]; kernel_rfl))
      | (go_at_call 44; (with_reducible refine (pdom_missing.calls k1 _ _ l0_0 _ _ l0_1 m i _ ?side1 A4.out).mono ?_); (case side1 => exact HM.out); rintro e w3 ⟨rfl, hb⟩; clear hcz1_0 hcz1_1 hfz1_0 hfz1_1; have n0_ := A_ (blk_below (g := g1) (o := (.cells #[.slice A0_0 l0_0.length c0_0, .slice A0_1 l0_1.length c0_1] 26 (0, 0))) (by exact KX_ BK1.out) hb); have n1_ := A_ (blk_below (g := g2) (o := (.cells #[.slice none 0 0, .slice none 0 0] 26 (0, 0))) (by exact KX_ BK2.out) hb); have n2_ := A_ (blk_below (g := g5) (o := (.cells (AV out) 62 (0, 0))) (by exact KX_ BK5.out) hb); have n3_ := A_ (blk_below (g := g6) (o := (.cells (AV m) 62 (0, 0))) (by exact KX_ BK6.out) hb); have nb_ := A_ (below_step (B_) hb); clear BK1 BK2 BK5 BK6 HB; have BK1 := n0_; have BK2 := n1_; have BK5 := n2_; have BK6 := n3_; have HB := nb_; clear n0_ n1_ n2_ n3_ nb_ hb; have hcz1_0 : w3.cell? ⟨g1, 0, none⟩ = some (.slice A0_0 l0_0.length c0_0) := (blk_cell BK1.out 0).trans rfl; have hcz1_1 : w3.cell? ⟨g1, 1, none⟩ = some (.slice A0_1 l0_1.length c0_1) := (blk_cell BK1.out 1).trans rfl; have hfz1_0 := blk_frozen BK1.out 0; have hfz1_1 := blk_frozen BK1.out 1)
      | ((with_reducible refine gate_dst (N := 42) rfl ?_); refine Kd.S_make (Kd.slice 3 (Kd.int .i64)) _ 31 rfl (N := 42) rfl 22 _ _ rfl (ji : Int) rfl rfl Try.underlying22 (.slice none 0 0) 24 info31 rfl (by decide) (by omega) [] (ok := fun _ => True) (okp := fun _ => True) ⟨_, rfl, Kd.R_nil _ _ _ _ _⟩ (fun _ hk => hk) trivial c12 (Nat.le_trans (Nat.mul_le_mul_right _ c13) (by omega)) (Below.refl _ _) (Nat.le_refl _) ?_; intro v8 w4 ho hb hg_ hnew_; clear hg_ hnew_; have no_ := A_ (Kd.S_lower ho (below_size (B_))); clear ho; clear hcz1_0 hcz1_1 hfz1_0 hfz1_1; have n0_ := A_ (blk_below (g := g1) (o := (.cells #[.slice A0_0 l0_0.length c0_0, .slice A0_1 l0_1.length c0_1] 26 (0, 0))) (by exact KX_ BK1.out) hb); have n1_ := A_ (blk_below (g := g2) (o := (.cells #[.slice none 0 0, .slice none 0 0] 26 (0, 0))) (by exact KX_ BK2.out) hb); have n2_ := A_ (blk_below (g := g5) (o := (.cells (AV out) 62 (0, 0))) (by exact KX_ BK5.out) hb); have n3_ := A_ (blk_below (g := g6) (o := (.cells (AV m) 62 (0, 0))) (by exact KX_ BK6.out) hb); have nb_ := A_ (below_step (B_) hb); clear BK1 BK2 BK5 BK6 HB; have BK1 := n0_; have BK2 := n1_; have BK5 := n2_; have BK6 := n3_; have HB := nb_; clear n0_ n1_ n2_ n3_ nb_ hb; have hcz1_0 : w4.cell? ⟨g1, 0, none⟩ = some (.slice A0_0 l0_0.length c0_0) := (blk_cell BK1.out 0).trans rfl; have hcz1_1 : w4.cell? ⟨g1, 1, none⟩ = some (.slice A0_1 l0_1.length c0_1) := (blk_cell BK1.out 1).trans rfl; have hfz1_0 := blk_frozen BK1.out 0; have hfz1_1 := blk_frozen BK1.out 1; have HO8 := no_; clear no_))
     have LJ := Aside0.mk hji
     clear hji hjiw c12 c13
     go_loopg [46] k1 (fun kq v46 w' => ∃ (x : List (List Int)) (i : Int), v46 = .int .i64 i ∧ Aside0 (pdom_Exit.l1 kq l0_0 out x i = some (r1, r2, r3)) ∧ Aside0 (kq ≤ k1) ∧ Aside0 (Kd.S (Kd.slice 3 (Kd.int .i64)) 31 w' w.heap.size (fun _ => True) v8 x) ∧ Aside0 (w'.heap[g1]? = some (.cells #[.slice A0_0 l0_0.length c0_0, .slice A0_1 l0_1.length c0_1] 26 (0, 0))) ∧ Aside0 (w'.heap[g2]? = some (.cells #[.slice none 0 0, .slice none 0 0] 26 (0, 0))) ∧ Aside0 (w'.heap[g5]? = some (.cells (AV out) 62 (0, 0))) ∧ Aside0 (Below w.heap.size w w'))
     case atStart => exact ⟨_, 0, (by first | rfl | (simp; done) | (simp [*]; done)), H', ⟨Nat.le_refl _⟩, ⟨SX_ HO8.out⟩, ⟨KX_ BK1.out⟩, ⟨KX_ BK2.out⟩, ⟨KX_ BK5.out⟩, ⟨B_⟩⟩
     case round =>
      clear H' HO8 BK1 BK2 BK5 BK6 HB hcz1_0 hcz1_1 hfz1_0 hfz1_1 c9b0
      obtain ⟨x, i, rfl, HA, HK2, HO8, BK1, BK2, BK5, HB⟩ := hrel
      cases gk with
      | zero => exact absurd HA.out (by simp [pdom_Exit.l1])
      | succ k2 =>
       have H := HA.out
       clear HA
       simp only [pdom_Exit.l1] at H
       by_cases c19 : i < (l0_0.length : Int)
       ·rw [if_pos c19] at H
        have c19b0 : decide (i < (l0_0.length : Int)) = true := decide_eq_true c19
        by_cases c20 : 0 ≤ i
        ·rw [if_pos c20] at H
         by_cases c21 : i < (x.length : Int)
         ·rw [if_pos c21] at H
          by_cases c22 : i < 64
          ·rw [if_pos c22] at H
           by_cases c23 : (rd_L1 x i).length + (rd_L1 l0_0 i).length < 17592186044416
           ·rw [if_pos c23] at H
            have LM := Aside0.mk c23
            have C20 := Aside0.mk c20
            have C21 := Aside0.mk c21
            have C22 := Aside0.mk c22
            have p19 : (i < (l0_0.length : Int)) = True := eq_true c19
            have p20 := eq_true c20
            have p21 := eq_true c21
            have p22 : (i < (64 : Int)) = True := eq_true c22
            obtain ⟨ad1, A1_0, c1_0, e1, hx1_0, hl1_0, hi1_0⟩ := at_L1 HR0_0.out i c20 c19
            cases e1
            replace hx1_0 := (HB.out.cell (World.block_lt_of_cell? w _ hx1_0)).trans hx1_0
            have HR1 := Aside0.mk hi1_0
            have HC1 := Aside0.mk hl1_0
            clear hi1_0 hl1_0 c19 c20 c21 c22 c23
            obtain ⟨Ao1, co1, eo1⟩ := Kd.S_slice HO8.out
            subst eo1
            obtain ⟨ad1, Ax1, cx1, ex1, hx1, hl1, hi1⟩ := at_L1 (Kd.S_reads' HO8.out).2.2 i C20.out (by have := C21.out; first | exact this | simpa using this)
            cases ex1
            obtain ⟨ce1, hce1, hMe1, hcc1⟩ := Kd.S_get HO8.out [] i C20.out (by have := C21.out; first | exact this | simpa using this)
            obtain ⟨ve1, rfl, ge1⟩ := hMe1
            have hv1 := hcc1 0 _ rfl
            rw [Nat.add_zero, show ((Kd.slice 3 (Kd.int .i64))).sz = 1 from rfl, Nat.mul_one] at hv1
            replace hv1 := Option.some.inj (hv1.symm.trans hx1)
            have HX1 := Aside0.mk hx1
            clear hcc1 hce1 ge1 hv1 hl1 hi1
            obtain ⟨go1, cf1, ef1, gb1, gl1, cl1, HG1⟩ := Kd.S_form HO8.out (by have := C20.out; have h_ := (by have := C21.out; first | exact this | simpa using this); omega)
            (first | cases ef1 | (injection ef1 with ea_ en_ ec_; (first | subst ea_ | (injection ea_ with ea_; subst ea_)); subst ec_; clear en_))
            have GB1 := Aside0.mk gb1
            have NE1 := A_ (Kd.S_ne HO8.out BK1.out (by decide))
            have NE2 := A_ (Kd.S_ne HO8.out BK2.out (by decide))
            have NE5 := A_ (Kd.S_ne HO8.out BK5.out (by decide))
            clear gb1 gl1 HG1
            (first | simp only [add_plain] at hx1 | skip)
            obtain ⟨oki1, cg1, hcl1, hM1, hcd1, _, _, hH1⟩ := Kd.S_elem HO8.out [] i C20.out (by have := C21.out; first | exact this | simpa using this)
            obtain ⟨vf1, rfl, gf1⟩ := hM1
            have hw1 := hcd1 0 _ rfl
            have hX1 := HX1.out
            (try simp only [add_plain] at hX1)
            (try simp only [Nat.add_zero] at hw1)
            (try rw [show ((Kd.slice 3 (Kd.int .i64))).sz = 1 from rfl, Nat.mul_one] at hw1)
            replace hw1 := Option.some.inj (hw1.symm.trans hX1)
            subst hw1
            clear hX1 hcd1 hcl1
            have UU1 := A_ (show Kd.R (Kd.int .i64) 3 _ w.heap.size oki1 (.slice Ax1 (rd_L1 x i).length cx1) (rd_L1 x i) from gf1)
            have HH1 := Aside0.mk hH1
            have HN1 := A_ (Kd.S_reads' HO8.out).1
            clear hH1 gf1
            have hq5_ := av_cell BK5.out i (by rw [HE.out]; exact C22.out) C20.out
            have hg5_ := blk_frozen BK5.out i.toNat
            obtain ⟨y1, hy1_⟩ : ∃ y, rd_L1 x i ++ rd_L1 l0_0 i = y := ⟨_, rfl⟩
            rw [hy1_] at H
            have NY1 := Aside0.mk hy1_
            clear hy1_
            by_cases c24 : rdOf false out i = true
            ·rw [if_pos c24] at H
             have HF := Aside0.mk c24
             rw [HF.out] at hq5_
             clear c24
             obtain ⟨x2, hx2_⟩ : ∃ x2, x.set i.toNat y1 = x2 := ⟨_, rfl⟩
             rw [hx2_] at H
             have HX2 := Aside0.mk hx2_
             have HLX : Aside0 (x2.length = x.length) := ⟨by rw [← hx2_]; simp⟩
             clear hx2_
             by_cases c25 : (rd_L1 x2 i).length < 17592186044416
             ·rw [if_pos c25] at H
              have LM2 := Aside0.mk c25
              obtain ⟨y2, hy2_⟩ : ∃ y, rd_L1 x2 i ++ [(l0_0.length : Int)] = y := ⟨_, rfl⟩
              rw [hy2_] at H
              have NY2 := Aside0.mk hy2_
              clear hy2_
              clear c25
              have H' := Aside0.mk H
              clear H
              go_wp2_with (first
               | ((with_reducible refine gate_builtin (b := .append) (xs := #[.tmp 56, .tmp 57]) rfl ?_); at_builtin; refine Kd.R_append_rows (Kd.int .i64) (w0 := w) w.heap.size rfl (.tmp 56) (.tmp 57) 31 3 (.int .i64 0) 8 rfl Try.underlying31 info3 rfl (by decide) (by omega) (.slice Ax1 (rd_L1 x i).length cx1) (rd_L1 x i) (rd_L1 l0_0 i) _ _ _ (fun k_ => oki1 k_ ∨ ((fun _ => True)) k_ ∧ wr.heap.size ≤ k_) (fun _ => False) rfl rfl ?aO ?aR (fun _ _ h => h) (fun _ h => h.elim) ?aF ?aB ?aS ?aL ?_; (case aR => exact (Kd.C_below HR1.out (B_))); (case aB => exact (B_)); (case aF => exact (fun k_ hk => .inr ⟨trivial, hk⟩)); (case aO => exact (by (with_reducible repeat (first | apply Kd.R_alloc | apply Kd.R_drewN | apply Kd.R_drew)); exact Kd.R_mono UU1.out (fun _ hk => .inl hk))); (case aS => exact (below_size (B_))); (case aL => have := LM.out; omega); intro v9 w5 ho hb hg hat; rw [NY1.out] at ho; have n0_ := A_ (blk_grown (g := g1) (o := (.cells #[.slice (some ad1) l0_0.length c0_0, .slice A0_1 l0_1.length c0_1] 26 (0, 0))) (by exact KX_ BK1.out) hg (Kd.R_ne UU1.out BK1.out (by decide))); have n1_ := A_ (blk_grown (g := g2) (o := (.cells #[.slice none 0 0, .slice none 0 0] 26 (0, 0))) (by exact KX_ BK2.out) hg (Kd.R_ne UU1.out BK2.out (by decide))); have n2_ := A_ (blk_grown (g := g5) (o := (.cells (AV out) 62 (0, 0))) (by exact KX_ BK5.out) hg (Kd.R_ne UU1.out BK5.out (by decide))); clear BK1 BK2 BK5; have BK1 := n0_; have BK2 := n1_; have BK5 := n2_; clear n0_ n1_ n2_; have nb_ := Aside0.mk hb; have nh_ := A_ (Kd.H_grown (Kd.H_widen (by repeat (first | exact HH1.out | refine Kd.H_alloc ?_ _ | refine Kd.H_drewN ?_ _ | refine Kd.H_drew ?_))) hg (fun k_ e_ => .inl (UU1.out.1 k_ e_))); have no_ := Aside0.mk ho; clear HB HH1 HO8 UU1; have HB := nb_; have HH1 := nh_; have HO9 := no_; clear nb_ nh_ no_ ho hb hg hat; obtain ⟨Ao9, co9, eo9⟩ := Kd.R_slice HO9.out; subst eo9; obtain ⟨_, _, hraw1, _, _, hcc1, _⟩ := Kd.H_raw HH1.out C20.out (by have h_ := C21.out; first | exact h_ | (have e_ := (HN1.out); omega) | simpa using h_); obtain ⟨_, hfr1⟩ := Kd.H_at HH1.out C20.out (by have h_ := C21.out; first | exact h_ | (have e_ := (HN1.out); omega) | simpa using h_); have hx9 := hcc1 0 _ rfl; have hf9 := hfr1 0; (try simp only [Nat.add_zero] at hx9 hf9); (try rw [show ((Kd.slice 3 (Kd.int .i64))).sz = 1 from rfl, Nat.mul_one] at hx9); (try rw [show ((Kd.slice 3 (Kd.int .i64))).sz = 1 from rfl, Nat.mul_one] at hf9); have HP1 := Kd.S_seg0 HH1.out C20.out (by have h_ := C21.out; first | exact h_ | (have e_ := (HN1.out); omega) | simpa using h_) (seg := [.slice Ao9 y1.length co9]) (j := 0) (show 1 ≤ 1 from by decide) (x' := y1) (Kd.M_row HO9.out) (fun _ hk => hk); (try simp only [show ((Kd.slice 3 (Kd.int .i64))).sz = 1 from rfl, Nat.mul_one, Nat.add_zero] at HP1); clear hcc1 hfr1)
               | ((with_reducible refine gate_store (t := 31) (p := 59) rfl ?_); refine store_event (t := 31) (p := 59) (v := ?vo_l1) (w1 := (w5.setCell ⟨go1, i.toNat, none⟩ (.slice Ao9 y1.length co9))) ?hg ?ho ?hn ?hr ?_; (case ho => rfl); (case hg => rfl); (case hn => rfl); (case hr => first | (go_simp; done) | (go_simp; rfl)); intro w6 hw; have hg : w5.grownBy w6 (some go1) := (by rw [hw]; exact HP1.2); have hp_ : Kd.S (Kd.slice 3 (Kd.int .i64)) 31 w6 w.heap.size (fun _ => True) (.slice (some ⟨go1, 0, none⟩) x.length co1) x2 := (by rw [hw, ← HX2.out]; exact HP1.1); clear HP1; have n0_ := A_ (blk_grown (g := g1) (o := (.cells #[.slice (some ad1) l0_0.length c0_0, .slice A0_1 l0_1.length c0_1] 26 (0, 0))) (by exact KX_ BK1.out) hg (NE1.out)); have n1_ := A_ (blk_grown (g := g2) (o := (.cells #[.slice none 0 0, .slice none 0 0] 26 (0, 0))) (by exact KX_ BK2.out) hg (NE2.out)); have n2_ := A_ (blk_grown (g := g5) (o := (.cells (AV out) 62 (0, 0))) (by exact KX_ BK5.out) hg (NE5.out)); clear BK1 BK2 BK5; have BK1 := n0_; have BK2 := n1_; have BK5 := n2_; clear n0_ n1_ n2_; have nb_ := A_ ((by rw [hw]; exact below_set HB.out GB1.out : Below w.heap.size w w6)); have no_ := Aside0.mk hp_; clear HB HO9 HH1 hq5_ hg5_; have HB := nb_; have HO8 := no_; clear nb_ no_ hg hw hp_ hraw1 hx9 hf9; have hq5_ := av_cell BK5.out i (by rw [HE.out]; exact C22.out) C20.out; rw [HF.out] at hq5_; have hg5_ := blk_frozen BK5.out i.toNat; obtain ⟨ad2, Ax2, cx2, ex2, hx2, hl2, hi2⟩ := at_L1 (Kd.S_reads' HO8.out).2.2 i C20.out (by have := C21.out; have := HLX.out; omega); cases ex2; have HX3 := Aside0.mk hx2; clear hl2 hi2; (first | simp only [add_plain] at hx2 | skip); obtain ⟨oki2, cg2, hcl2, hM2, hcd2, _, _, hH2⟩ := Kd.S_elem HO8.out [] i C20.out (by have := C21.out; have := HLX.out; omega); obtain ⟨vf2, rfl, gf2⟩ := hM2; have hw2 := hcd2 0 _ rfl; have hX2 := HX3.out; (try simp only [add_plain] at hX2); (try simp only [Nat.add_zero] at hw2); (try rw [show ((Kd.slice 3 (Kd.int .i64))).sz = 1 from rfl, Nat.mul_one] at hw2); replace hw2 := Option.some.inj (hw2.symm.trans hX2); subst hw2; clear hX2 hcd2 hcl2 HX3; have UU2 := A_ (show Kd.R (Kd.int .i64) 3 _ w.heap.size oki2 (.slice Ax2 (rd_L1 x2 i).length cx2) (rd_L1 x2 i) from gf2); have HH2 := Aside0.mk hH2; have HN2 := A_ (Kd.S_reads' HO8.out).1; have WS := A_ (Nat.le_refl w6.heap.size); clear hH2 gf2)
               | ((with_reducible refine gate_builtin (b := .append) (xs := #[.tmp 68, .tmp 70]) rfl ?_); at_builtin; refine Kd.R_append (Kd.int .i64) (w0 := w) w.heap.size rfl (.tmp 68) (.tmp 70) 31 3 (.int .i64 0) 8 rfl Try.underlying31 info3 rfl (by decide) (by omega) (.slice Ax2 (rd_L1 x2 i).length cx2) (rd_L1 x2 i) (l0_0.length : Int) [.int .i64 (l0_0.length : Int)] (fun k_ => oki2 k_ ∨ ((fun _ => True)) k_ ∧ w6.heap.size ≤ k_) (fun _ => False) rfl rfl ?aP (fun _ hk => hk.elim) ?aF ?aO ?aB ?aS ?aL ?_; (case aP => exact rfl); (case aB => exact (B_)); (case aF => exact (fun k_ hk => .inr ⟨trivial, hk⟩)); (case aO => exact (by (with_reducible repeat (first | apply Kd.R_alloc | apply Kd.R_drewN | apply Kd.R_drew)); exact Kd.R_mono UU2.out (fun _ hk => .inl hk))); (case aS => exact (below_size (B_))); (case aL => have := LM2.out; omega); intro v12 w7 ho hb hg hat; rw [NY2.out] at ho; have n0_ := A_ (blk_grown (g := g1) (o := (.cells #[.slice (some ad1) l0_0.length c0_0, .slice A0_1 l0_1.length c0_1] 26 (0, 0))) (by exact KX_ BK1.out) hg (Kd.R_ne UU2.out BK1.out (by decide))); have n1_ := A_ (blk_grown (g := g2) (o := (.cells #[.slice none 0 0, .slice none 0 0] 26 (0, 0))) (by exact KX_ BK2.out) hg (Kd.R_ne UU2.out BK2.out (by decide))); have n2_ := A_ (blk_grown (g := g5) (o := (.cells (AV out) 62 (0, 0))) (by exact KX_ BK5.out) hg (Kd.R_ne UU2.out BK5.out (by decide))); clear BK1 BK2 BK5; have BK1 := n0_; have BK2 := n1_; have BK5 := n2_; clear n0_ n1_ n2_; have nb_ := Aside0.mk hb; have nh_ := A_ (Kd.H_grown (Kd.H_widen (by repeat (first | exact HH2.out | refine Kd.H_alloc ?_ _ | refine Kd.H_drewN ?_ _ | refine Kd.H_drew ?_))) hg (fun k_ e_ => .inl (UU2.out.1 k_ e_))); have no_ := Aside0.mk ho; clear HB HH2 HO8 UU2; have HB := nb_; have HH2 := nh_; have HO12 := no_; clear nb_ nh_ no_ ho hb hg hat; obtain ⟨Ao12, co12, eo12⟩ := Kd.R_slice HO12.out; subst eo12; obtain ⟨_, _, hraw2, _, _, hcc2, _⟩ := Kd.H_raw HH2.out C20.out (by have := C21.out; have := HLX.out; omega); obtain ⟨_, hfr2⟩ := Kd.H_at HH2.out C20.out (by have := C21.out; have := HLX.out; omega); have hx12 := hcc2 0 _ rfl; have hf12 := hfr2 0; (try simp only [Nat.add_zero] at hx12 hf12); (try rw [show ((Kd.slice 3 (Kd.int .i64))).sz = 1 from rfl, Nat.mul_one] at hx12); (try rw [show ((Kd.slice 3 (Kd.int .i64))).sz = 1 from rfl, Nat.mul_one] at hf12); have HP2 := Kd.S_seg0 HH2.out C20.out (by have := C21.out; have := HLX.out; omega) (seg := [.slice Ao12 y2.length co12]) (j := 0) (show 1 ≤ 1 from by decide) (x' := y2) (Kd.M_row HO12.out) (fun _ hk => hk); (try simp only [show ((Kd.slice 3 (Kd.int .i64))).sz = 1 from rfl, Nat.mul_one, Nat.add_zero] at HP2); clear hcc2 hfr2)
               | ((with_reducible refine gate_store (t := 31) (p := 72) rfl ?_); refine store_event (t := 31) (p := 72) (v := ?vo_l2) (w1 := (w7.setCell ⟨go1, i.toNat, none⟩ (.slice Ao12 y2.length co12))) ?hg ?ho ?hn ?hr ?_; (case ho => rfl); (case hg => rfl); (case hn => rfl); (case hr => first | (go_simp; done) | (go_simp; rfl)); intro w8 hw; have hg : w7.grownBy w8 (some go1) := (by rw [hw]; exact HP2.2); have hp_ : Kd.S (Kd.slice 3 (Kd.int .i64)) 31 w8 w.heap.size (fun _ => True) (.slice (some ⟨go1, 0, none⟩) x.length co1) (x2.set i.toNat y2) := (by rw [hw]; exact HP2.1); clear HP2; have n0_ := A_ (blk_grown (g := g1) (o := (.cells #[.slice (some ad1) l0_0.length c0_0, .slice A0_1 l0_1.length c0_1] 26 (0, 0))) (by exact KX_ BK1.out) hg (NE1.out)); have n1_ := A_ (blk_grown (g := g2) (o := (.cells #[.slice none 0 0, .slice none 0 0] 26 (0, 0))) (by exact KX_ BK2.out) hg (NE2.out)); have n2_ := A_ (blk_grown (g := g5) (o := (.cells (AV out) 62 (0, 0))) (by exact KX_ BK5.out) hg (NE5.out)); clear BK1 BK2 BK5; have BK1 := n0_; have BK2 := n1_; have BK5 := n2_; clear n0_ n1_ n2_; have nb_ := A_ ((by rw [hw]; exact below_set HB.out GB1.out : Below w.heap.size w w8)); have no_ := Aside0.mk hp_; clear HB HO12 HH2 hq5_ hg5_; have HB := nb_; have HO8 := no_; clear nb_ no_ hg hw hp_ hraw2 hx12 hf12; have hq5_ := av_cell BK5.out i (by rw [HE.out]; exact C22.out) C20.out; rw [HF.out] at hq5_; have hg5_ := blk_frozen BK5.out i.toNat))
              go_roundg k2
              case measure => have := HK1.out; have := HK2.out; omega
              case rel => exact ⟨_, (wrap64 (i + 1)), (by first | rfl | (simp; done) | (simp [*]; done)), H', ⟨by have := HK2.out; omega⟩, ⟨SX_ HO8.out⟩, ⟨KX_ BK1.out⟩, ⟨KX_ BK2.out⟩, ⟨KX_ BK5.out⟩, ⟨B_⟩⟩
             rw [if_neg c25] at H
             exact absurd H (by simp)
            rw [if_neg c24] at H
            have HF := A_ (Bool.eq_false_iff.mpr c24)
            rw [HF.out] at hq5_
            clear c24
            have H' := Aside0.mk H
            clear H
            go_wp2_with (first
             | ((with_reducible refine gate_builtin (b := .append) (xs := #[.tmp 56, .tmp 57]) rfl ?_); at_builtin; refine Kd.R_append_rows (Kd.int .i64) (w0 := w) w.heap.size rfl (.tmp 56) (.tmp 57) 31 3 (.int .i64 0) 8 rfl Try.underlying31 info3 rfl (by decide) (by omega) (.slice Ax1 (rd_L1 x i).length cx1) (rd_L1 x i) (rd_L1 l0_0 i) _ _ _ (fun k_ => oki1 k_ ∨ ((fun _ => True)) k_ ∧ wr.heap.size ≤ k_) (fun _ => False) rfl rfl ?aO ?aR (fun _ _ h => h) (fun _ h => h.elim) ?aF ?aB ?aS ?aL ?_; (case aR => exact (Kd.C_below HR1.out (B_))); (case aB => exact (B_)); (case aF => exact (fun k_ hk => .inr ⟨trivial, hk⟩)); (case aO => exact (by (with_reducible repeat (first | apply Kd.R_alloc | apply Kd.R_drewN | apply Kd.R_drew)); exact Kd.R_mono UU1.out (fun _ hk => .inl hk))); (case aS => exact (below_size (B_))); (case aL => have := LM.out; omega); intro v9 w5 ho hb hg hat; rw [NY1.out] at ho; have n0_ := A_ (blk_grown (g := g1) (o := (.cells #[.slice (some ad1) l0_0.length c0_0, .slice A0_1 l0_1.length c0_1] 26 (0, 0))) (by exact KX_ BK1.out) hg (Kd.R_ne UU1.out BK1.out (by decide))); have n1_ := A_ (blk_grown (g := g2) (o := (.cells #[.slice none 0 0, .slice none 0 0] 26 (0, 0))) (by exact KX_ BK2.out) hg (Kd.R_ne UU1.out BK2.out (by decide))); have n2_ := A_ (blk_grown (g := g5) (o := (.cells (AV out) 62 (0, 0))) (by exact KX_ BK5.out) hg (Kd.R_ne UU1.out BK5.out (by decide))); clear BK1 BK2 BK5; have BK1 := n0_; have BK2 := n1_; have BK5 := n2_; clear n0_ n1_ n2_; have nb_ := Aside0.mk hb; have nh_ := A_ (Kd.H_grown (Kd.H_widen (by repeat (first | exact HH1.out | refine Kd.H_alloc ?_ _ | refine Kd.H_drewN ?_ _ | refine Kd.H_drew ?_))) hg (fun k_ e_ => .inl (UU1.out.1 k_ e_))); have no_ := Aside0.mk ho; clear HB HH1 HO8 UU1; have HB := nb_; have HH1 := nh_; have HO9 := no_; clear nb_ nh_ no_ ho hb hg hat; obtain ⟨Ao9, co9, eo9⟩ := Kd.R_slice HO9.out; subst eo9; obtain ⟨_, _, hraw1, _, _, hcc1, _⟩ := Kd.H_raw HH1.out C20.out (by have h_ := C21.out; first | exact h_ | (have e_ := (HN1.out); omega) | simpa using h_); obtain ⟨_, hfr1⟩ := Kd.H_at HH1.out C20.out (by have h_ := C21.out; first | exact h_ | (have e_ := (HN1.out); omega) | simpa using h_); have hx9 := hcc1 0 _ rfl; have hf9 := hfr1 0; (try simp only [Nat.add_zero] at hx9 hf9); (try rw [show ((Kd.slice 3 (Kd.int .i64))).sz = 1 from rfl, Nat.mul_one] at hx9); (try rw [show ((Kd.slice 3 (Kd.int .i64))).sz = 1 from rfl, Nat.mul_one] at hf9); have HP1 := Kd.S_seg0 HH1.out C20.out (by have h_ := C21.out; first | exact h_ | (have e_ := (HN1.out); omega) | simpa using h_) (seg := [.slice Ao9 y1.length co9]) (j := 0) (show 1 ≤ 1 from by decide) (x' := y1) (Kd.M_row HO9.out) (fun _ hk => hk); (try simp only [show ((Kd.slice 3 (Kd.int .i64))).sz = 1 from rfl, Nat.mul_one, Nat.add_zero] at HP1); clear hcc1 hfr1)
             | ((with_reducible refine gate_store (t := 31) (p := 59) rfl ?_); refine store_event (t := 31) (p := 59) (v := ?vo_l3) (w1 := (w5.setCell ⟨go1, i.toNat, none⟩ (.slice Ao9 y1.length co9))) ?hg ?ho ?hn ?hr ?_; (case ho => rfl); (case hg => rfl); (case hn => rfl); (case hr => first | (go_simp; done) | (go_simp; rfl)); intro w6 hw; have hg : w5.grownBy w6 (some go1) := (by rw [hw]; exact HP1.2); have hp_ : Kd.S (Kd.slice 3 (Kd.int .i64)) 31 w6 w.heap.size (fun _ => True) (.slice (some ⟨go1, 0, none⟩) x.length co1) (x.set i.toNat y1) := (by rw [hw]; exact HP1.1); clear HP1; have n0_ := A_ (blk_grown (g := g1) (o := (.cells #[.slice (some ad1) l0_0.length c0_0, .slice A0_1 l0_1.length c0_1] 26 (0, 0))) (by exact KX_ BK1.out) hg (NE1.out)); have n1_ := A_ (blk_grown (g := g2) (o := (.cells #[.slice none 0 0, .slice none 0 0] 26 (0, 0))) (by exact KX_ BK2.out) hg (NE2.out)); have n2_ := A_ (blk_grown (g := g5) (o := (.cells (AV out) 62 (0, 0))) (by exact KX_ BK5.out) hg (NE5.out)); clear BK1 BK2 BK5; have BK1 := n0_; have BK2 := n1_; have BK5 := n2_; clear n0_ n1_ n2_; have nb_ := A_ ((by rw [hw]; exact below_set HB.out GB1.out : Below w.heap.size w w6)); have no_ := Aside0.mk hp_; clear HB HO9 HH1 hq5_ hg5_; have HB := nb_; have HO8 := no_; clear nb_ no_ hg hw hp_ hraw1 hx9 hf9; have hq5_ := av_cell BK5.out i (by rw [HE.out]; exact C22.out) C20.out; rw [HF.out] at hq5_; have hg5_ := blk_frozen BK5.out i.toNat))
            go_roundg k2
            case measure => have := HK1.out; have := HK2.out; omega
            case rel => exact ⟨_, (wrap64 (i + 1)), (by first | rfl | (simp; done) | (simp [*]; done)), H', ⟨by have := HK2.out; omega⟩, ⟨SX_ HO8.out⟩, ⟨KX_ BK1.out⟩, ⟨KX_ BK2.out⟩, ⟨KX_ BK5.out⟩, ⟨B_⟩⟩
           rw [if_neg c23] at H
           exact absurd H (by simp)
          rw [if_neg c22] at H
          exact absurd H (by simp)
         rw [if_neg c21] at H
         exact absurd H (by simp)
        rw [if_neg c20] at H
        exact absurd H (by simp)
       rw [if_neg c19] at H
       have c19b0 : decide (i < (l0_0.length : Int)) = false := decide_eq_false c19
       clear c19
       have A6 := Aside0.mk H
       clear H
       obtain ⟨Ao8, co8, eo8⟩ := Kd.S_slice HO8.out
       subst eo8
       go_wp2_with (first | (go_at_call 15; (with_reducible refine (graph_Make.calls k2 _ _ x r1 r2 r3 _ ?side1 ?side2 A6.out).mono ?_); (case side1 => exact CX_ (Kd.S_reads' HO8.out).2.2); (case side2 => exact (Kd.S_reads' HO8.out).2.1); rintro e w8 ⟨v0, v1, rfl, ho0, ho1, hb⟩; have n1_ := A_ (blk_below (g := g2) (o := .cells #[.slice none 0 0, .slice none 0 0] 26 (0, 0)) (by exact KX_ BK2.out) hb); have no0_ := A_ (Kd.S_lower (Kd.S_newB ho0 (g := g2) (o := .cells #[.slice none 0 0, .slice none 0 0] 26 (0, 0)) (by exact KX_ BK2.out)) (below_size (B_))); have no1_ := A_ (Kd.S_lower (Kd.S_newB ho1 (g := g2) (o := .cells #[.slice none 0 0, .slice none 0 0] 26 (0, 0)) (by exact KX_ BK2.out)) (below_size (B_))); have nb_ := A_ (below_step (B_) hb); clear BK1 BK2 BK5 HB HO8; have BK2 := n1_; have HB := nb_; have HO10 := no0_; have HO11 := no1_; clear n1_ nb_ no0_ no1_ hb ho0 ho1; obtain ⟨Ao10, co10, eo10⟩ := Kd.S_slice HO10.out; subst eo10; obtain ⟨Ao11, co11, eo11⟩ := Kd.S_slice HO11.out; subst eo11; have hcz2_0 : w8.cell? ⟨g2, 0, none⟩ = some (.slice none 0 0) := (blk_cell BK2.out 0).trans rfl; have hcz2_1 : w8.cell? ⟨g2, 1, none⟩ = some (.slice none 0 0) := (blk_cell BK2.out 1).trans rfl; have hfz2_0 := blk_frozen BK2.out 0; have hfz2_1 := blk_frozen BK2.out 1))
       (try simp only [jumpg_ret, Exit.then, Exit.inBlock])
       refine bodyPost_ret (results_ct rfl _ _ g2 26 #[.slice Ao10 r1.length co10, .slice Ao11 r2.length co11] (0, 0) _ rfl (blk_put (cs := #[.slice Ao10 r1.length co10, .slice none 0 0]) (blk_put (cs := #[.slice none 0 0, .slice none 0 0]) BK2.out 0 _ rfl) 1 _ rfl) Try.underlying26 rfl (by kernel_rfl)) rfl ?_
       exact ⟨_, _, by first | rfl | (simp; done), Kd.S_mono (Kd.S_far (p := ⟨g2, 1, none⟩) (Kd.S_far (p := ⟨g2, 0, none⟩) HO10.out (fun _ hk => hk.2) _) (fun _ hk => hk.2) _) (fun _ hk => hk.1), Kd.S_mono (Kd.S_far (p := ⟨g2, 1, none⟩) (Kd.S_far (p := ⟨g2, 0, none⟩) HO11.out (fun _ hk => hk.2) _) (fun _ hk => hk.2) _) (fun _ hk => hk.1), B1_⟩
    rw [if_neg c13] at H
    exact absurd H (by simp)
   rw [if_neg c12] at H
   exact absurd H (by simp)
 replace c7 := Bool.eq_false_iff.mpr c7
 subst c7
 rw [if_neg (show ¬ (false = true) by decide)] at H
 simp only [Option.some.injEq, Prod.mk.injEq] at H
 obtain ⟨rfl, rfl, rfl⟩ := H
 go_wp2_with (first | (go_at_call 41; (with_reducible refine (graph_May.calls k _ _ l0_0 _ _ l0_1 false _ ?side1 ?side2 ?side3 ?side4 A1.out).mono ?_); (case side1 => exact Kd.C_below HR0_0.out (B_)); (case side2 => exact HC0_0.out); (case side3 => exact Kd.C_below HR0_1.out (B_)); (case side4 => exact HC0_1.out); rintro e w3 ⟨rfl, hb⟩; clear hcz1_0 hcz1_1 hfz1_0 hfz1_1; have n0_ := A_ (blk_below (g := g1) (o := (.cells #[.slice A0_0 l0_0.length c0_0, .slice A0_1 l0_1.length c0_1] 26 (0, 0))) (by exact KX_ BK1.out) hb); have n1_ := A_ (blk_below (g := g2) (o := (.cells #[.slice none 0 0, .slice none 0 0] 26 (0, 0))) (by exact KX_ BK2.out) hb); have nb_ := A_ (below_step (B_) hb); clear BK1 BK2 HB; have BK1 := n0_; have BK2 := n1_; have HB := nb_; clear n0_ n1_ nb_ hb; have hcz1_0 : w3.cell? ⟨g1, 0, none⟩ = some (.slice A0_0 l0_0.length c0_0) := (blk_cell BK1.out 0).trans rfl; have hcz1_1 : w3.cell? ⟨g1, 1, none⟩ = some (.slice A0_1 l0_1.length c0_1) := (blk_cell BK1.out 1).trans rfl; have hfz1_0 := blk_frozen BK1.out 0; have hfz1_1 := blk_frozen BK1.out 1; have hcz2_0 : w3.cell? ⟨g2, 0, none⟩ = some (.slice none 0 0) := (blk_cell BK2.out 0).trans rfl; have hcz2_1 : w3.cell? ⟨g2, 1, none⟩ = some (.slice none 0 0) := (blk_cell BK2.out 1).trans rfl; have hfz2_0 := blk_frozen BK2.out 0; have hfz2_1 := blk_frozen BK2.out 1))
 (try simp only [jumpg_ret, Exit.then, Exit.inBlock])
 refine bodyPost_ret (results_ct rfl _ _ g2 26 #[.slice none 0 0, .slice none 0 0] (0, 0) _ rfl (blk_put (cs := #[.slice none 0 0, .slice none 0 0]) (blk_put (cs := #[.slice none 0 0, .slice none 0 0]) BK2.out 0 _ rfl) 1 _ rfl) Try.underlying26 rfl (by kernel_rfl)) rfl ?_
 exact ⟨_, _, by first | rfl | (simp; done), Kd.S_nil _ _ _ _ _, Kd.S_nil _ _ _ _ _, B1_⟩

end Go.Proofs.Ytheillkpgmpnlaa.G
