/- Printed by a program of this session (wip/tools/op.py, over the kit's print program): Go functions as plain Lean functions, each with a proof that the call answers so. Conditions: each theorem's own. -/
import Derived.Test.YtoekeknfeinphaaHMap
import Derived.Test.YtoekeknfeinphaaHSq
import Derived.Test.YtoekeknfeinphaaGx0
import Derived.Test.YtoekeknfeinphaaGx15
import Derived.Test.YtoekeknfeinphaaGx22
import Derived.Test.YtoekeknfeinphaaGx23
namespace Go.Proofs.Ytoekeknfeinphaa.G
open Go.Proofs.YtoekeknfeinphaaH
open Go.RowKit Go.Proofs.YtoekeknfeinphaaW.PrintWords Go.Proofs.YtoekeknfeinphaaW.PrintLast Go.Proofs.YtoekeknfeinphaaW.PrintMore
attribute [local go_sem] max2_int min2_int max_two min_two max_three min_three max_four min_four   -- for this text's walks alone
set_option linter.unusedVariables false
set_option linter.unusedSimpArgs false

/-! ### loop_All: function 18 -/
-- needs HMap
-- needs HSq
def fromOf (bs : List S48) (h : Int) : List Int := (bs.filter fun b => b.f1 == h).map (fun b => b.f0)
theorem fromOf_snoc (bs : List S48) (b : S48) (h : Int) : fromOf (bs ++ [b]) h = if b.f1 = h then fromOf bs h ++ [b.f0] else fromOf bs h := by
 unfold fromOf
 rw [List.filter_append, List.map_append]
 by_cases e : b.f1 = h
 ·rw [if_pos e, List.filter_cons_of_pos (by simpa using e)]; rfl
 ·rw [if_neg e, List.filter_cons_of_neg (by simpa using e)]; simp
/-- Both are blocks' numbers. -/
def okb (b : S48) : Bool := decide (0 ≤ b.f0 ∧ b.f0 < 64 ∧ 0 ≤ b.f1 ∧ b.f1 < 64)
theorem okb_at {bs : List S48} (h : bs.all okb = true) {j : Nat} (hj : j < bs.length) : 0 ≤ (rd_T48 bs (j : Int)).f0 ∧ (rd_T48 bs (j : Int)).f0 < 64 ∧ 0 ≤ (rd_T48 bs (j : Int)).f1 ∧ (rd_T48 bs (j : Int)).f1 < 64 := by
 have e : rd_T48 bs (j : Int) = bs[j] := by simp [rd_T48, hj]
 rw [e]
 have h2 := List.all_eq_true.mp h bs[j] (List.getElem_mem hj)
 simpa [okb] using h2
theorem take_at48 {bs : List S48} {j : Nat} (hj : j < bs.length) : bs.take (j + 1) = bs.take j ++ [rd_T48 bs (j : Int)] := by
 have e : rd_T48 bs (j : Int) = bs[j] := by simp [rd_T48, hj]
 rw [e, List.take_succ_eq_append_getElem hj]
def loop_All.l1 : Nat → List S48 → List Int → List S43 → Int → Int → List (List Int) → List (List Int) → Option (List S43)
 | 0, _, _, _, _, _, _, _ => none
 | k + 1, bs, x3, x7, x33, x34, g0, g1 => if x34 < x33 then (if 0 ≤ x34 then (if ((fromOf bs x34).length : Int) > 0 then ((loop_body.f k g0 g1 x3 x34 (fromOf bs x34)).bind fun t304 => (if x7.length < 4398046511104 then (loop_All.l1 k bs x3 (x7 ++ [(⟨x34, t304⟩ : S43)]) x33 (wrap64 (x34 + 1)) g0 g1) else (none))) else (loop_All.l1 k bs x3 x7 x33 (wrap64 (x34 + 1)) g0 g1)) else (none)) else (some x7)
def loop_All.f (k : Nat) (l0_0 : List (List Int)) (l0_1 : List (List Int)) : Option (List S43) := (dom_Tree.f k l0_0 l0_1 0).bind fun t294 => ((loop_Backs.f k l0_0 l0_1).bind fun t297 => (if t297.all okb = true ∧ t297.length ≤ 4096 then (loop_All.l1 k t297 t294 [] (l0_0.length : Int) 0 l0_0 l0_1) else none))
theorem loop_All.mono_l : ∀ k, ∀ y0 y1 y2 y3 y4 y5 y6, LeO (loop_All.l1 k y0 y1 y2 y3 y4 y5 y6) (loop_All.l1 (k + 1) y0 y1 y2 y3 y4 y5 y6)
 | 0 => fun _ _ _ _ _ _ _ r h => by simp [loop_All.l1] at h
 | k + 1 => by
  have ih := loop_All.mono_l k
  intro y0 y1 y2 y3 y4 y5 y6
  unfold loop_All.l1
  repeat' first
   | (with_reducible exact ih _ _ _ _ _ _ _)
   | (with_reducible exact loop_body.mono _ _ _ _ _ _)
   | (with_reducible exact LeO.refl _)
   | (with_reducible exact LeO.none _)
   | (with_reducible refine LeO.ite ?_ ?_)
   | (with_reducible refine LeO.bind ?_ (fun _ => ?_))
   | exact LeO.none _
theorem loop_All.mono : ∀ a0 a1 k, LeO (loop_All.f k a0 a1) (loop_All.f (k + 1) a0 a1) := by
 intro a0 a1 k
 have ih := loop_All.mono_l k
 unfold loop_All.f
 repeat' first
  | (with_reducible exact ih _ _ _ _ _ _ _)
  | (with_reducible exact dom_Tree.mono _ _ _ _)
  | (with_reducible exact loop_Backs.mono _ _ _)
  | (with_reducible exact LeO.refl _)
  | (with_reducible exact LeO.none _)
  | (with_reducible refine LeO.ite ?_ ?_)
  | (with_reducible refine LeO.bind ?_ (fun _ => ?_))
  | exact LeO.none _
def loop_All.T6 : Bool × List (List Nat × List Nat) := (true, [([], []), ([], []), ([1], [1]), ([], []), ([], []), ([4], [4]), ([3, 5], [3, 5]), ([], []), ([7], [7]), ([8], [8]), ([6, 9], [6, 9]), ([0, 2, 10, 10, 0, 1, 2, 3, 4, 5, 6, 7, 8, 9, 10], [0, 2, 10])])
def loop_All.B6 : List Nat := [0, 0, 2, 0, 0, 16, 56, 0, 128, 384, 1016, 2047]
theorem loop_All.tab6 : rtab .any (opsOf Try.f18 6) = loop_All.T6 := by kernel_rfl
theorem loop_All.bits6 : waitsOk loop_All.T6.2 loop_All.B6 = true := by kernel_rfl
theorem loop_All.zeroRow (w : World) : (zeroValue 31).run Try.prog w = .ok (.slice none 0 0) w := by kernel_rfl
set_option maxHeartbeats 8000000 in
set_option maxRecDepth 100000 in
theorem loop_All.calls (k : Nat) (A0_0 : Option Addr) (c0_0 : Nat) (l0_0 : List (List Int)) (A0_1 : Option Addr) (c0_1 : Nat) (l0_1 : List (List Int)) (r : List (S43)) (w : World) (hr0_0 : Kd.C (Kd.slice 3 (Kd.int .i64)) w A0_0 l0_0.length l0_0) (hc0_0 : l0_0.length ≤ c0_0) (hr0_1 : Kd.C (Kd.slice 3 (Kd.int .i64)) w A0_1 l0_1.length l0_1) (hc0_1 : l0_1.length ≤ c0_1) (h : loop_All.f k l0_0 l0_1 = some r) :
 Calls Try.prog 18 #[.agg #[.slice A0_0 l0_0.length c0_0, .slice A0_1 l0_1.length c0_1]] w fun e w' => ∃ v0_ : Value, e = .returned (v0_) ∧ Kd.S k43 43 w' w.heap.size (fun _ => True) v0_ r ∧ Below w.heap.size w w' := by
 have hu26 := Try.underlying26
 have hu48 := Try.underlying48
 have hu43 := Try.underlying43
 have hu60 := Try.underlying60
 have hu3 := Try.underlying3
 have hu31 := Try.underlying31
 have HR0_0 := Aside0.mk hr0_0
 have HC0_0 := Aside0.mk hc0_0
 clear hr0_0 hc0_0
 have HR0_1 := Aside0.mk hr0_1
 have HC0_1 := Aside0.mk hc0_1
 clear hr0_1 hc0_1
 have HB := Aside0.mk (Below.refl w.heap.size w)
 have H : ((dom_Tree.f k l0_0 l0_1 0).bind fun t294 => ((loop_Backs.f k l0_0 l0_1).bind fun t297 => (if t297.all okb = true ∧ t297.length ≤ 4096 then (loop_All.l1 k t297 t294 [] (l0_0.length : Int) 0 l0_0 l0_1) else none))) = some r := h
 clear h
 replace H := Option.bind_eq_some_iff.mp H
 obtain ⟨t294, A20, H⟩ := H
 have A2 := Aside0.mk A20
 clear A20
 replace H := Option.bind_eq_some_iff.mp H
 obtain ⟨t297, A30, H⟩ := H
 have A3 := Aside0.mk A30
 clear A30
 by_cases cok : t297.all okb = true ∧ t297.length ≤ 4096
 rotate_left
 ·rw [if_neg cok] at H; cases H
 rw [if_pos cok] at H
 have COK := Aside0.mk cok
 clear cok
 have H' := Aside0.mk H
 clear H
 have hmm := @run_makeMap Try.prog
 go_enter Try.func18, Try.ntmps18
 go_wp2_with (first | ((with_reducible refine gate_dst (N := 1) rfl ?_); refine box_event ?hg (N := 1) ?hd (cs := #[.slice A0_0 l0_0.length c0_0, .slice A0_1 l0_1.length c0_1]) (t := 26) ?hr ?_; (case hd => rfl); (case hg => rfl); (case hr => first | (go_simp; done) | (go_simp; rfl)); intro gb293 hg w4 hbox hb; have n0_ := Aside0.mk (below_step (B_) hb); have n1_ := Aside0.mk (hbox); have n2_ := Aside0.mk ((by rw [hg]; exact (below_size (B_)) : w.heap.size ≤ gb293)); have n3_ := Aside0.mk ((by rw [hg]; exact (below_size (B_)) : w.heap.size ≤ gb293)); clear HB; have HB := n0_; have BK293 := n1_; have GW293 := n2_; have GE293 := n3_; clear n0_ n1_ n2_ n3_; clear hb hbox hg; have hcz5_0 : w4.cell? ⟨gb293, 0, none⟩ = some (.slice A0_0 l0_0.length c0_0) := (blk_cell BK293.out 0).trans rfl; have hcz5_1 : w4.cell? ⟨gb293, 1, none⟩ = some (.slice A0_1 l0_1.length c0_1) := (blk_cell BK293.out 1).trans rfl; have hfz5_0 := blk_frozen BK293.out 0; have hfz5_1 := blk_frozen BK293.out 1) | ((with_reducible refine gate_callee (f := 13) rfl ?_); refine goesL_ (some 10) rfl rfl Try.func13 (by kernel_rfl) rfl #[.agg #[.slice A0_0 l0_0.length c0_0, .slice A0_1 l0_1.length c0_1], .int .i64 0] rfl (by (try simp only [List.map_toArray, List.map_cons, List.map_nil]); first | done | rfl | (simp only [List.length_drop, List.length_take]; rfl)) ?_; (with_reducible refine (dom_Tree.calls k _ _ l0_0 _ _ l0_1 0 t294 _ ?side1 ?side2 ?side3 ?side4 A2.out).mono ?_); (case side1 => exact CX_ (Kd.C_below HR0_0.out HB.out)); (case side2 => exact HC0_0.out); (case side3 => exact CX_ (Kd.C_below HR0_1.out HB.out)); (case side4 => exact HC0_1.out); rintro e w6 ⟨v295, rfl, ho0, hb⟩; refine ⟨_, rfl, ?_⟩; have n0_ := Aside0.mk (Kd.R_lower ho0 (below_size (B1_))); have n1_ := Aside0.mk (blk_below (g := gb293) (o := .cells #[.slice A0_0 l0_0.length c0_0, .slice A0_1 l0_1.length c0_1] 26 (0, 0)) (by exact KX_ BK293.out) hb); have n2_ := Aside0.mk (below_step (B1_) hb); clear BK293; clear HB; have HO296 := n0_; have BK293 := n1_; have HB := n2_; clear n0_ n1_ n2_; (try clear hb); (try clear hb2); (try clear hk); (try clear hi); (try clear ho0); have hcz7_0 : w6.cell? ⟨gb293, 0, none⟩ = some (.slice A0_0 l0_0.length c0_0) := (blk_cell BK293.out 0).trans rfl; have hcz7_1 : w6.cell? ⟨gb293, 1, none⟩ = some (.slice A0_1 l0_1.length c0_1) := (blk_cell BK293.out 1).trans rfl; have hfz7_0 := blk_frozen BK293.out 0; have hfz7_1 := blk_frozen BK293.out 1; have hcz8_0 : (w6.alloc (.map #[] 0)).cell? ⟨gb293, 0, none⟩ = some (.slice A0_0 l0_0.length c0_0) := (blk_cell (blk_alloc BK293.out _) 0).trans rfl; have hcz8_1 : (w6.alloc (.map #[] 0)).cell? ⟨gb293, 1, none⟩ = some (.slice A0_1 l0_1.length c0_1) := (blk_cell (blk_alloc BK293.out _) 1).trans rfl) | ((with_reducible refine gate_callee (f := 22) rfl ?_); refine goesL_ (some 13) rfl rfl Try.func22 (by kernel_rfl) rfl #[.agg #[.slice A0_0 l0_0.length c0_0, .slice A0_1 l0_1.length c0_1]] rfl (by (try simp only [List.map_toArray, List.map_cons, List.map_nil]); first | done | rfl | (simp only [List.length_drop, List.length_take]; rfl)) ?_; (with_reducible refine (loop_Backs.calls k _ _ l0_0 _ _ l0_1 t297 _ ?side1 ?side2 ?side3 ?side4 A3.out).mono ?_); (case side1 => exact CX_ (Kd.C_below HR0_0.out HB.out)); (case side2 => exact HC0_0.out); (case side3 => exact CX_ (Kd.C_below HR0_1.out HB.out)); (case side4 => exact HC0_1.out); rintro e w8 ⟨v298, rfl, ho0, hb⟩; refine ⟨_, rfl, ?_⟩; have n0_ := Aside0.mk (Kd.R_below (by exact RX_ HO296.out) hb); have n1_ := Aside0.mk (Kd.R_lower ho0 (below_size (B1_))); have n2_ := Aside0.mk (blk_below (g := gb293) (o := .cells #[.slice A0_0 l0_0.length c0_0, .slice A0_1 l0_1.length c0_1] 26 (0, 0)) (by exact KX_ BK293.out) hb); have n3_ := Aside0.mk (below_step (B1_) hb); have n4_ := Aside0.mk (blk_below (blk_new w6 (.map #[] 0)) hb); have n5_ := Aside0.mk (below_size HB.out : w.heap.size ≤ w6.heap.size); generalize w6.heap.size = gm at n4_ n5_ ⊢; have BM := n4_; have GWm := n5_; clear n4_ n5_; clear HO296; clear BK293; clear HB; have HO296 := n0_; have HO299 := n1_; have BK293 := n2_; have HB := n3_; clear n0_ n1_ n2_ n3_; (try clear hb); (try clear hb2); (try clear hk); (try clear hi); (try clear ho0); obtain ⟨Ao9, co9, eo9⟩ := Kd.R_slice HO299.out; subst eo9))
 have W8 := Aside0.mk (Kd.R_bound HO296.out)
 have W8b := Aside0.mk (Kd.R_bound HO299.out)
 have LTm := Aside0.mk (blk_lt BM.out)
 have NBm := Aside0.mk (show gb293 ≠ gm by intro e_; have h1_ := BK293.out; rw [e_, BM.out] at h1_; cases h1_)
 try clear hcz5_0
 try clear hcz5_1
 try clear hcz7_0
 try clear hcz7_1
 try clear hfz5_0
 try clear hfz5_1
 try clear hfz7_0
 try clear hfz7_1
 try clear hmm
 try clear hcz8_0
 try clear hcz8_1
 go_loopg [15] (t297.length + 1) (fun kq v15 w' => ∃ (j : Nat) (D : DataW Unit), v15 = .int .i64 (j : Int) ∧ Aside0 (kq + j = t297.length + 1) ∧ Aside0 (j ≤ t297.length) ∧ Aside0 (∀ i, i < w8.heap.size → i ≠ gm → w'.heap[i]? = w8.heap[i]?) ∧ Aside0 (w8.heap.size ≤ w'.heap.size) ∧ Aside0 (w'.ownsGroups Try.prog 3 w8.heap.size 3 .i64 gm j D) ∧ Aside0 (Grp D .i64 (fun h => fromOf (t297.take j) h)) ∧ Aside0 (Below w.heap.size w w'))
 case atStart => exact ⟨0, .map [], rfl, ⟨by omega⟩, ⟨Nat.zero_le _⟩, ⟨fun _ _ _ => rfl⟩, ⟨Nat.le_refl _⟩, ⟨groups_start BM.out LTm.out⟩, ⟨grp_start⟩, ⟨B1_⟩⟩
 case round =>
  obtain ⟨j, D, rfl, HK, HJ, HW8, HS8, HOWN, HG, HB⟩ := hrel
  cases gk with
  | zero => exact absurd HK.out (by have := HJ.out; omega)
  | succ k1 =>
   have HO_3 : Aside0 (Kd.R (Kd.int .i64) 3 wr w.heap.size _ v295 t294) := Aside0.mk (Kd.R_move W8.out (fun i hi => HW8.out i hi.2.2.1 (fun e_ => by obtain ⟨q_, _, cs_, h_⟩ := hi.2.2.2; rw [e_, BM.out] at h_; cases h_)))
   have HO_13 : Aside0 (Kd.R k48 48 wr w.heap.size _ (.slice Ao9 t297.length co9) t297) := Aside0.mk (Kd.R_move W8b.out (fun i hi => HW8.out i hi.2.2.1 (fun e_ => by obtain ⟨q_, _, cs_, h_⟩ := hi.2.2.2; rw [e_, BM.out] at h_; cases h_)))
   have BK9 : Aside0 (wr.heap[gb293]? = some (.cells #[.slice A0_0 l0_0.length c0_0, .slice A0_1 l0_1.length c0_1] 26 (0, 0))) := Aside0.mk ((HW8.out gb293 (blk_lt BK293.out) NBm.out).trans BK293.out)
   by_cases c10 : (j : Int) < (t297.length : Int)
   ·have c10b0 : decide ((j : Int) < (t297.length : Int)) = true := decide_eq_true c10
    have hjl : j < t297.length := by omega
    have HJL := Aside0.mk hjl
    have c11b0 : decide (0 ≤ (j : Int)) = true := decide_eq_true (by omega)
    clear c10
    have p300 : 0 ≤ (j : Int) := D_
    have q300 : (j : Int) < (t297.length : Int) := D_
    obtain ⟨ad300, e300, hx300_0, hx300_1⟩ := at_T48 (Kd.R_reads' HO_13.out).2.2 (j : Int) p300 q300
    cases e300
    obtain ⟨ok0, ok1, ok2, ok3⟩ := okb_at COK.out.1 hjl
    simp only [Int.toNat_natCast] at hx300_0 hx300_1
    generalize hfe : rd_T48 t297 (j : Int) = fe at ok0 ok1 ok2 ok3 hx300_0 hx300_1
    have HFE := Aside0.mk hfe
    clear hfe hjl
    have HOK := Aside0.mk (And.intro ok0 (And.intro ok1 (And.intro ok2 ok3)))
    clear ok0 ok1 ok2 ok3
    replace p300 := eq_true p300
    replace q300 := eq_true q300
    go_wp2_with (first | ((with_reducible refine gate_dst (N := 6) rfl ?_); refine box_event ?hg (N := 6) ?hd (cs := #[.int .i64 0, .int .i64 0]) (t := 48) ?hr ?_; (case hd => rfl); (case hg => rfl); (case hr => first | (go_simp; done) | (go_simp; rfl)); intro gb301 hg w13 hbox hb; have HBn := Aside0.mk hb; have BK301 := Aside0.mk hbox; have HGE := Aside0.mk hg; clear hb hbox hg; have hcz15_0 : w13.cell? ⟨gb301, 0, none⟩ = some (.int .i64 0) := (blk_cell BK301.out 0).trans rfl; have hcz15_1 : w13.cell? ⟨gb301, 1, none⟩ = some (.int .i64 0) := (blk_cell BK301.out 1).trans rfl; have hfz15_0 := blk_frozen BK301.out 0; have hfz15_1 := blk_frozen BK301.out 1))
    obtain ⟨wD, hwD⟩ : ∃ x, x = ((w13.setCell ⟨gb301, 0, none⟩ (.int .i64 fe.f0)).setCell ⟨gb301, 1, none⟩ (.int .i64 fe.f1)).drew := ⟨_, rfl⟩
    have BD := Aside0.mk (by rw [hwD]; exact blk_drew (blk_put (blk_put BK301.out 0 (.int .i64 fe.f0) rfl) 1 (.int .i64 fe.f1) rfl) : wD.heap[gb301]? = some (.cells #[.int .i64 fe.f0, .int .i64 fe.f1] 48 (0, 0)))
    have HD := Aside0.mk (by rw [hwD]; exact below_drew1 (below_set (below_set HBn.out (Nat.le_of_eq HGE.out.symm)) (Nat.le_of_eq HGE.out.symm)) : Below wr.heap.size wr wD)
    have HWD := Aside0.mk hwD
    clear hwD hcz15_0 hcz15_1 hfz15_0 hfz15_1 hx300_0 hx300_1
    have HOWN2 := Aside0.mk (groups_below HOWN.out HD.out)
    obtain ⟨es, clock, hes, hks⟩ := groups_block HOWN2.out
    have hwf : (Lit.int .i64 fe.f1).wf = true := by have := HOK.out; simp [Lit.wf, IntKind.min, IntKind.max, IntKind.signed, IntKind.bits]; omega
    have hwf0 : (Lit.int .i64 fe.f0).wf = true := by have := HOK.out; simp [Lit.wf, IntKind.min, IntKind.max, IntKind.signed, IntKind.bits]; omega
    obtain ⟨v, zs, hrun, hat, hoi, hzl, hback⟩ := HOWN2.out.at (Go.Maps.int_keyed hu3) hu60 (loop_All.zeroRow _) (show j < maxLen by have := HJ.out; have := COK.out.2; simp only [maxLen]; omega) (Go.Maps.keyOf_int_mk hu3 hwf)
    have HZS := Aside0.mk (grp_at HG.out hwf hat hoi)
    have hH : wD.cell? ⟨gb301, 0, none⟩ = some (.int .i64 fe.f0) ∧ wD.cell? ⟨gb301, 1, none⟩ = some (.int .i64 fe.f1) ∧ wD.heap[gm]? = some (.map es clock) := ⟨(blk_cell BD.out 0).trans rfl, (blk_cell BD.out 1).trans rfl, hes⟩
    refine start_ (n := 12) (S := fun w' => w'.cell? ⟨gb301, 0, none⟩ = some (.int .i64 fe.f0) ∧ w'.cell? ⟨gb301, 1, none⟩ = some (.int .i64 fe.f1) ∧ w'.heap[gm]? = some (.map es clock)) (ds := [11]) #[F_,F_,F_,F_,F_,F_,F_,F_,F_,F_,F_,F_] (by kernel_rfl) rfl rfl (by rw [← HWD.out]; exact hH) (fun _ => ?_)
    rw [← HWD.out]
    refine with_tabW loop_All.tab6 loop_All.bits6 (fun HT_ HW_ => ?_)
    refine PU_ HT_ 0 19 #[T_,F_,F_,F_,F_,F_,F_,F_,F_,F_,F_,F_] (h := ?_); refine PU_ HT_ 1 20 #[T_,T_,F_,F_,F_,F_,F_,F_,F_,F_,F_,F_] (h := ?_); refine TA_ HT_ HW_ 2 21 hH #[T_,T_,T_,F_,F_,F_,F_,F_,F_,F_,F_,F_] (h := ?_); refine PU_ HT_ 3 22 #[T_,T_,T_,T_,F_,F_,F_,F_,F_,F_,F_,F_] (h := ?_); refine PU_ HT_ 4 23 #[T_,T_,T_,T_,T_,F_,F_,F_,F_,F_,F_,F_] (h := ?_); refine TA_ HT_ HW_ 5 24 hH #[T_,T_,T_,T_,T_,T_,F_,F_,F_,F_,F_,F_] (h := ?_)
    refine take_ (i := 6) (N := some 25) (v := v) (a' := ?_) #[T_,T_,T_,T_,T_,T_,T_,F_,F_,F_,F_,F_] rfl rfl (take_ofW HT_.out HW_.out (by kernel_rfl)) (fun _ _ _ h => h) (Or.inl ⟨by rfl, ?_⟩) hH ?_ ?_
    ·rintro w' ⟨_, _, hm_⟩
     exact exec_look rfl rfl rfl (look_same hu60 hu3 loop_All.zeroRow hes hm_ hks (Go.Maps.keyOf_int_mk hu3 hwf) hrun)
    rotate_left
    ·exact P_
    refine PU_ HT_ 7 26 #[T_,T_,T_,T_,T_,T_,T_,T_,F_,F_,F_,F_] (h := ?_); refine TA_ HT_ HW_ 8 27 hH #[T_,T_,T_,T_,T_,T_,T_,T_,T_,F_,F_,F_] (h := ?_)
    refine RU_ HT_ 9 (N := some 28) (v := .slice (some ⟨wD.heap.size, 0, none⟩) 1 1) (w1 := wD.alloc (.cells #[.int .i64 fe.f0] 3)) (a' := ?_) #[T_,T_,T_,T_,T_,T_,T_,T_,T_,T_,F_,F_] rfl rfl (by kernel_rfl) (by decide) rfl ?r9 ⟨(blk_cell (blk_alloc BD.out _) 0).trans rfl, (blk_cell (blk_alloc BD.out _) 1).trans rfl, blk_alloc hes _⟩ P_ ?_
    case r9 => first | rfl | (go_simp; done) | (go_simp; rfl)
    have hne1 : some gb301 ≠ v.ownBlock := ints_block hoi BD.out (by decide)
    have hne2 : some gm ≠ v.ownBlock := fun e_ => by have := (hoi.1.lt gm e_.symm).1; have := LTm.out; omega
    obtain ⟨i0, hi0, hz0, hz1, hz2⟩ := info_parts info3
    obtain ⟨v2, w2, hr2, hown2, hgrow2, hnil2, hloc2⟩ := run_append_own_at (P := Try.prog) (wD.alloc (.cells #[.int .i64 fe.f0] 3)) w8.heap.size 31 31 3 i0 (.int .i64 0) 1 8 hu31 hi0 hz0 hz1 hz2 rfl (by decide) v zs.length (zs.map (Value.int .i64)) (hoi.1.alloc _) ⟨wD.heap.size, 0, none⟩ 1 1 [.int .i64 fe.f0] rfl (cell_one_new _ _ _) (ints_oneCell .i64 [fe.f0]) (by have := HJ.out; have := COK.out.2; simp only [maxLen]; omega) (by have := HJ.out; have := COK.out.2; omega) (by have h1_ := HS8.out; have h2_ := below_size HD.out; simp; omega)
    refine RU_ HT_ 10 (N := some 29) (v := v2) (w1 := w2) (a' := ?_) #[T_,T_,T_,T_,T_,T_,T_,T_,T_,T_,T_,F_] rfl rfl (by kernel_rfl) (by decide) rfl (exec_append rfl rfl rfl hr2) ⟨(blk_cell (blk_grown (blk_alloc BD.out _) hgrow2 hne1) 0).trans rfl, (blk_cell (blk_grown (blk_alloc BD.out _) hgrow2 hne1) 1).trans rfl, blk_grown (blk_alloc hes _) hgrow2 hne2⟩ P_ ?_
    have hall := (World.grownBy_alloc wD (.cells #[.int .i64 fe.f0] 3) v.ownBlock).trans hgrow2
    have happ := hoi.appended hown2 hwf0
    obtain ⟨w3, hr3, hown3, hgrow3⟩ := hback w2 v2 (zs ++ [fe.f0]) hall happ (by simp; omega) (hloc2.imp id (fun h => ⟨_, h, by simp⟩))
    refine RL_ HT_ 11 (N := none) (w1 := w3) (a' := ?_) #[T_,T_,T_,T_,T_,T_,T_,T_,T_,T_,T_,T_] rfl rfl (by kernel_rfl) (by decide) rfl (exec_update rfl rfl rfl rfl hr3) P_ ?_
    refine done_ (done_of HT_.out (by kernel_rfl)) ?_
    have HOWN3 := Aside0.mk hown3
    have HALL := Aside0.mk hall
    have HG3 := Aside0.mk hgrow3
    have HOI := Aside0.mk hoi
    have HAPP := Aside0.mk happ
    have NE2 := Aside0.mk hne2
    have WF1 := Aside0.mk hwf
    clear hown3 hall hgrow3 hoi happ hne1 hne2 hback hr3 hr2 hown2 hgrow2 hnil2 hloc2 hrun hat hH hes hks
    try go_wp2
    go_roundg k1
    case measure => omega
    case rel =>
     refine ⟨j + 1, _, ?_, ⟨by have := HK.out; omega⟩, ⟨HJL.out⟩, ⟨fun i hi hne => ?_⟩, ⟨?_⟩, HOWN3, ⟨?_⟩, ⟨?_⟩⟩
     ·first | rfl | (congr 1; unfold wrap64; have := HJL.out; have := COK.out.2; omega)
     ·have h1_ := HS8.out
      have h2_ := below_size HD.out
      have h3_ := HALL.out.size
      exact (HG3.out.block i (by omega) (by simpa using hne)).trans ((HALL.out.block i (by omega) (fun e_ => by have := (HOI.out.1.lt i e_.symm).1; omega)).trans ((HD.out.block i (by omega)).trans (HW8.out i hi hne)))
     ·have h1_ := HS8.out
      have h2_ := below_size HD.out
      have h3_ := HALL.out.size
      have h4_ := HG3.out.size
      omega
     ·have e1 := take_at48 HJL.out
      rw [HFE.out] at e1
      refine grp_put HG.out hu3 WF1.out HAPP.out (by simp) ?_ (fun i hi => ?_)
      ·show fromOf (t297.take (j + 1)) fe.f1 = _
       rw [e1, fromOf_snoc, if_pos rfl, ← HZS.out]
      ·show fromOf (t297.take (j + 1)) i = fromOf (t297.take j) i
       rw [e1, fromOf_snoc, if_neg (fun e_ => hi e_.symm)]
     ·have h1_ := below_step HB.out HD.out
      exact h1_.groups HOI.out HALL.out HG3.out (below_size h1_) (by have := GWm.out; have := LTm.out; omega) GWm.out
   have hje : j = t297.length := by have := HJ.out; omega
   subst hje
   have HGz : Aside0 (Grp D .i64 (fun h => fromOf t297 h)) := Aside0.mk (by have h_ := HG.out; rw [List.take_length] at h_; exact h_)
   have hnb_ : decide ((t297.length : Int) < (t297.length : Int)) = false := decide_eq_false c10
   clear c10
   have hcz16_0 : wr.cell? ⟨gb293, 0, none⟩ = some (.slice A0_0 l0_0.length c0_0) := (blk_cell BK9.out 0).trans rfl
   have hcz16_1 : wr.cell? ⟨gb293, 1, none⟩ = some (.slice A0_1 l0_1.length c0_1) := (blk_cell BK9.out 1).trans rfl
   have hfz16_0 := blk_frozen BK9.out 0
   have hfz16_1 := blk_frozen BK9.out 1
   go_wp2
   obtain ⟨wz, hwz⟩ : ∃ x, x = wr := ⟨_, rfl⟩
   rw [← hwz]
   rw [← hwz] at HO_3 BK9 HB HOWN
   clear hwz hcz16_0 hcz16_1 hfz16_0 hfz16_1 hnb_
   have HBO := HB
   clear HB
   have HB := Aside0.mk (Below.refl wz.heap.size wz)
   have HRz0 := Aside0.mk (Kd.C_below HR0_0.out HBO.out)
   have HRz1 := Aside0.mk (Kd.C_below HR0_1.out HBO.out)
   clear HR0_0 HR0_1
   have HR0_0 := HRz0
   have HR0_1 := HRz1
   clear HRz0 HRz1 BK293
   have BK293 := BK9
   clear BK9 HO_13 HW8 HS8 HG HO299 HO296
   have HOm : Aside0 (Kd.R (Kd.int .i64) 3 wz w.heap.size (fun _ => True) v295 t294) := Aside0.mk (Kd.R_mono HO_3.out (fun _ _ => trivial))
   clear HO_3
   have HO_3 := HOm
   clear HOm
   go_loopg [7, 34] k (fun kq v7 v34 w' => ∃ (x7_2 : List (S43)) (x34_2 : Int), v34 = .int .i64 x34_2 ∧ Aside0 (loop_All.l1 kq t297 t294 x7_2 (l0_0.length : Int) x34_2 l0_0 l0_1 = some r) ∧ Aside0 (kq ≤ k) ∧ Aside0 (Kd.R (Kd.int .i64) 3 w' w.heap.size (fun _ => True) v295 t294) ∧ Aside0 (Kd.S k43 43 w' wz.heap.size (fun k_ => some k_ ≠ (v295 : Value).ownBlock) v7 x7_2) ∧ Aside0 (w'.heap[gb293]? = some (.cells #[(.slice A0_0 l0_0.length c0_0), (.slice A0_1 l0_1.length c0_1)] 26 (0, 0))) ∧ Aside0 (Below wz.heap.size wz w'))
   case atStart => exact ⟨(([] : List (S43))), (0), (by first | rfl | (simp; done) | (simp [*]; done)), H', ⟨Nat.le_refl _⟩, ⟨by exact RM_ HO_3.out⟩, ⟨by first | exact Kd.S_nil _ _ _ _ _ | exact Kd.N_nil _ _ _ _ _ | exact Kd.V_nil _ _ _ _ _ | exact Kd.Q_nil _ _ _ _ _ | exact Kd.R_nil _ _ _ _ _⟩, ⟨by exact KX_ BK293.out⟩, ⟨B1_⟩⟩
   case round =>
    clear H'
    obtain ⟨x7_2, x34_2, rfl, HA, HK2, HO_3, HO_7, BK293, HB⟩ := hrel
    cases gk with
    | zero => exact absurd HA.out (by simp [loop_All.l1])
    | succ k2 =>
     have H := HA.out
     clear HA
     simp only [loop_All.l1] at H
     by_cases c17 : x34_2 < (l0_0.length : Int)
     ·rw [if_pos c17] at H
      have c17b0 : decide (x34_2 < (l0_0.length : Int)) = true := decide_eq_true c17
      clear c17
      by_cases c18 : 0 ≤ x34_2
      ·rw [if_pos c18] at H
       have c18b0 : decide (0 ≤ x34_2) = true := decide_eq_true c18
       clear c18
       by_cases c20 : ((fromOf t297 x34_2).length : Int) > 0
       ·rw [if_pos c20] at H
        have c20b0 : decide (0 < ((fromOf t297 x34_2).length : Int)) = true := decide_eq_true c20
        have c20b1 : decide (0 < (fromOf t297 x34_2).length) = true := decide_eq_true (by omega)
        clear c20
        replace H := Option.bind_eq_some_iff.mp H
        obtain ⟨t304, A210, H⟩ := H
        replace H : (if x7_2.length < 4398046511104 then (loop_All.l1 k2 t297 t294 (x7_2 ++ [(⟨x34_2, t304⟩ : S43)]) (l0_0.length : Int) (wrap64 (x34_2 + 1)) l0_0 l0_1) else (none)) = some r := H
        have A21 := Aside0.mk A210
        clear A210
        by_cases c22 : x7_2.length < 4398046511104
        ·rw [if_pos c22] at H
         have LMc22 := Aside0.mk c22
         clear c22
         obtain ⟨y307, hy307⟩ : ∃ y_ : List (S43), y_ = (x7_2 ++ [(⟨x34_2, t304⟩ : S43)]) := ⟨_, rfl⟩
         replace H : (loop_All.l1 k2 t297 t294 y307 (l0_0.length : Int) (wrap64 (x34_2 + 1)) l0_0 l0_1) = some r := by first | (rw [hy307]; with_reducible exact H) | (have H2_ := (Option.bind_some _ _).symm.trans H; rw [hy307]; with_reducible exact H2_) | (have H2_ := (Option.bind_some _ _).symm.trans H; with_reducible exact H2_) | with_reducible exact H | (rw [hy307]; exact H) | exact H
         have Ny307 := Aside0.mk hy307
         clear hy307
         have H' := Aside0.mk H
         clear H
         have hcz23_0 : wr.cell? ⟨gb293, 0, none⟩ = some (.slice A0_0 l0_0.length c0_0) := (blk_cell BK293.out 0).trans rfl
         have hcz23_1 : wr.cell? ⟨gb293, 1, none⟩ = some (.slice A0_1 l0_1.length c0_1) := (blk_cell BK293.out 1).trans rfl
         have hfz23_0 := blk_frozen BK293.out 0
         have hfz23_1 := blk_frozen BK293.out 1
         have hwf : (Lit.int .i64 x34_2).wf = true := by have h1_ : (0 : Int) ≤ x34_2 := D_; have h2_ : x34_2 < (l0_0.length : Int) := D_; have h3_ := HR0_0.out.2.1; simp [Lit.wf, IntKind.min, IntKind.max, IntKind.signed, IntKind.bits]; omega
         obtain ⟨v, zs, hrun, hat, hoi, hzl, hback⟩ := (groups_below HOWN.out HB.out).at (Go.Maps.int_keyed hu3) hu60 (loop_All.zeroRow _) (show t297.length < maxLen by have := COK.out.2; simp only [maxLen]; omega) (Go.Maps.keyOf_int_mk hu3 hwf)
         have hzs : zs = fromOf t297 x34_2 := grp_at HGz.out hwf hat hoi
         subst hzs
         obtain ⟨Av, cv, ev_, hcv, hCv⟩ := ints_C hoi
         subst ev_
         have HCv := Aside0.mk hCv
         have HCc := Aside0.mk hcv
         clear hwf hat hoi hzl hback hcv hCv
         obtain ⟨Ao24, co24, eo24⟩ := Kd.R_slice HO_3.out
         subst eo24
         go_wp2_with (first | ((with_reducible refine gate_callee (f := 41) rfl ?_); refine goesL_ (some 50) rfl rfl Try.func41 (by kernel_rfl) rfl #[.agg #[.slice A0_0 l0_0.length c0_0, .slice A0_1 l0_1.length c0_1], .slice Ao24 t294.length co24, .int .i64 x34_2, .slice Av (fromOf t297 x34_2).length cv] rfl (by (try simp only [List.map_toArray, List.map_cons, List.map_nil]); first | done | rfl | (simp only [List.length_drop, List.length_take]; rfl)) ?_; (with_reducible refine (loop_body.calls k2 _ _ l0_0 _ _ l0_1 _ _ t294 x34_2 _ _ (fromOf t297 x34_2) t304 _ ?side1 ?side2 ?side3 ?side4 ?side5 ?side6 ?side7 ?side8 A21.out).mono ?_); (case side1 => exact CX_ (Kd.C_below HR0_0.out HB.out)); (case side2 => exact HC0_0.out); (case side3 => exact CX_ (Kd.C_below HR0_1.out HB.out)); (case side4 => exact HC0_1.out); (case side5 => repeat (first | exact (Kd.R_reads' HO_3.out).2.2 | (with_reducible refine Kd.C_alloc ?_ _) | (with_reducible refine Kd.C_drewN ?_ _) | (with_reducible refine Kd.C_drew ?_))); (case side6 => exact (Kd.R_reads' HO_3.out).2.1); (case side7 => exact HCv.out); (case side8 => exact HCc.out); rintro e w25 ⟨v305, rfl, ho0, hb⟩; refine ⟨_, rfl, ?_⟩; have n0_ := Aside0.mk (Kd.R_elder' (by exact RX_ HO_3.out) (Kd.R_base ho0) hb); have n1_ := Aside0.mk (Kd.S_elder' (by exact SX_ HO_7.out) (Kd.R_base ho0) hb); have n2_ := Aside0.mk (Kd.R_lower (Kd.R_new' ho0 (Kd.R_lt (by exact RX_ HO_3.out))) (below_size (B1_))); have n3_ := Aside0.mk (blk_below (g := gb293) (o := .cells #[.slice A0_0 l0_0.length c0_0, .slice A0_1 l0_1.length c0_1] 26 (0, 0)) (by exact KX_ BK293.out) hb); have n4_ := Aside0.mk (below_step (B1_) hb); clear HO_3; clear HO_7; clear BK293; clear HB; have HO_3 := n0_; have HO_7 := n1_; have HO306 := n2_; have BK293 := n3_; have HB := n4_; clear n0_ n1_ n2_ n3_ n4_; (try clear hb); (try clear hb2); (try clear hk); (try clear hi); (try clear ho0); obtain ⟨Ao26, co26, eo26⟩ := Kd.R_slice HO306.out; subst eo26) | ((with_reducible refine gate_builtin (b := .append) (xs := #[.tmp 42, .tmp 52]) rfl ?_); at_builtin; refine Kd.S_append k43 (w0 := wz) wz.heap.size rfl (.tmp 42) (.tmp 52) 39 43 (.agg #[(.int .i64 0), (.slice none 0 0)]) 32 rfl Try.underlying39 info43 rfl (by decide) (by omega) u7 x7_2 (⟨x34_2, t304⟩ : S43) [.int .i64 x34_2, .slice Ao26 t304.length co26] (fun k_ => some k_ ≠ (.slice Ao24 t294.length co24 : Value).ownBlock) (fun k_ => some k_ = (.slice Ao26 t304.length co26 : Value).ownBlock) rfl rfl ?aP (fun k_ hk_ => ((Kd.R_mono (ok' := fun k_ => ((fun k_ => some k_ ≠ (.slice Ao24 t294.length co24 : Value).ownBlock)) k_ ∧ some k_ ≠ (u7 : Value).ownBlock) (Kd.R_apart' (HO306.out) (Kd.S_typed HO_7.out) (by decide)) (fun k_ hk => ⟨hk.1.2, hk.2⟩))).1 k_ hk_.symm) ?aF ?aO ?aB ?aS ?aL ?_; (case aP => exact k43_mkM _ _ _ (⟨x34_2, t304⟩ : S43) (Kd.R_mono (Kd.R_tight rfl (Kd.R_mono (ok' := fun k_ => ((fun k_ => some k_ ≠ (.slice Ao24 t294.length co24 : Value).ownBlock)) k_ ∧ some k_ ≠ (u7 : Value).ownBlock) (Kd.R_apart' (HO306.out) (Kd.S_typed HO_7.out) (by decide)) (fun k_ hk => ⟨hk.1.2, hk.2⟩))) (fun _ h_ => h_))); (case aB => exact (B1_)); (case aF => exact (fun k_ hk => Kd.fresh' (Kd.R_lt (by exact RX_ HO_3.out)) k_ hk)); (case aO => exact (by (with_reducible repeat (first | apply Kd.S_alloc | apply Kd.S_drewN | apply Kd.S_drew)); exact Kd.S_mono HO_7.out (fun k_ hk => ⟨hk.1, fun e_ => hk.2 e_⟩))); (case aS => exact (below_size (B1_))); (case aL => have := LMc22.out; omega); intro v308 w27 ho hb hg hat; rw [← Ny307.out] at ho; have n0_ := Aside0.mk (Kd.R_over' (by exact RX_ HO_3.out) (Kd.S_typed (by exact SX_ HO_7.out)) (by decide) hg); have n1_ := Aside0.mk (blk_grown (g := gb293) (o := .cells #[.slice A0_0 l0_0.length c0_0, .slice A0_1 l0_1.length c0_1] 26 (0, 0)) (by exact KX_ BK293.out) hg (Kd.S_ne HO_7.out BK293.out (by decide))); have n2_ := Aside0.mk (hb); have n3_ := Aside0.mk (ho); clear HO_3; clear BK293; clear HB; clear HO_7; clear HO306; have HO_3 := n0_; have BK293 := n1_; have HB := n2_; have HO309 := n3_; clear n0_ n1_ n2_ n3_; clear ho hb hg hat))
         go_roundg k2
         case measure => have := HK2.out; omega
         case rel => exact ⟨(y307), (wrap64 (x34_2 + 1)), (by first | rfl | (simp; done) | (simp [*]; done)), H', ⟨by have := HK2.out; omega⟩, ⟨by (with_reducible repeat (first | apply Kd.R_alloc | apply Kd.R_drewN | apply Kd.R_drew)); exact Kd.R_mono HO_3.out (fun _ hk => trivial)⟩, ⟨by exact SM_ HO309.out⟩, ⟨by exact KX_ BK293.out⟩, ⟨B1_⟩⟩
        rw [if_neg c22] at H
        exact absurd H (by simp)
       rw [if_neg c20] at H
       have c20b0 : decide (0 < ((fromOf t297 x34_2).length : Int)) = false := decide_eq_false c20
       have c20b1 : decide (0 < (fromOf t297 x34_2).length) = false := decide_eq_false (by omega)
       clear c20
       have H' := Aside0.mk H
       clear H
       have hcz28_0 : wr.cell? ⟨gb293, 0, none⟩ = some (.slice A0_0 l0_0.length c0_0) := (blk_cell BK293.out 0).trans rfl
       have hcz28_1 : wr.cell? ⟨gb293, 1, none⟩ = some (.slice A0_1 l0_1.length c0_1) := (blk_cell BK293.out 1).trans rfl
       have hfz28_0 := blk_frozen BK293.out 0
       have hfz28_1 := blk_frozen BK293.out 1
       have hwf : (Lit.int .i64 x34_2).wf = true := by have h1_ : (0 : Int) ≤ x34_2 := D_; have h2_ : x34_2 < (l0_0.length : Int) := D_; have h3_ := HR0_0.out.2.1; simp [Lit.wf, IntKind.min, IntKind.max, IntKind.signed, IntKind.bits]; omega
       obtain ⟨v, zs, hrun, hat, hoi, hzl, hback⟩ := (groups_below HOWN.out HB.out).at (Go.Maps.int_keyed hu3) hu60 (loop_All.zeroRow _) (show t297.length < maxLen by have := COK.out.2; simp only [maxLen]; omega) (Go.Maps.keyOf_int_mk hu3 hwf)
       have hzs : zs = fromOf t297 x34_2 := grp_at HGz.out hwf hat hoi
       subst hzs
       obtain ⟨Av, cv, ev_, hcv, hCv⟩ := ints_C hoi
       subst ev_
       have HCv := Aside0.mk hCv
       have HCc := Aside0.mk hcv
       clear hwf hat hoi hzl hback hcv hCv
       go_wp2
       go_roundg k2
       case measure => have := HK2.out; omega
       case rel => exact ⟨(x7_2), (wrap64 (x34_2 + 1)), (by first | rfl | (simp; done) | (simp [*]; done)), H', ⟨by have := HK2.out; omega⟩, ⟨by exact RM_ HO_3.out⟩, ⟨by exact SM_ HO_7.out⟩, ⟨by exact KX_ BK293.out⟩, ⟨B1_⟩⟩
      rw [if_neg c18] at H
      exact absurd H (by simp)
     rw [if_neg c17] at H
     have c17b0 : decide (x34_2 < (l0_0.length : Int)) = false := decide_eq_false c17
     clear c17
     obtain rfl := Option.some.inj H
     go_wp2
     go_ret
     exact ⟨_, by first | rfl | (simp [errW_none, errW_some] <;> rfl) | (simp [*, errW_none, errW_some] <;> rfl), by (with_reducible repeat (first | apply Kd.S_alloc | apply Kd.S_drewN | apply Kd.S_drew)); exact Kd.S_lower (Kd.S_mono HO_7.out (fun _ hk => trivial)) (below_size HBO.out), below_step HBO.out B1_⟩

end Go.Proofs.Ytoekeknfeinphaa.G
