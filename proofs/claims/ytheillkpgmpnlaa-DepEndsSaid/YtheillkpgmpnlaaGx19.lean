/- Printed by a program of this session (wip/tools/op.py, over the kit's print program): Go functions as plain Lean functions, each with a proof that the call answers so. Conditions: each theorem's own. -/
import Derived.Test.YtheillkpgmpnlaaGx0
import Derived.Test.YtheillkpgmpnlaaGx11
import Derived.Test.YtheillkpgmpnlaaGx17
import Derived.Test.YtheillkpgmpnlaaGx18
namespace Go.Proofs.Ytheillkpgmpnlaa.G
open Go.Proofs.YtheillkpgmpnlaaH
open Go.RowKit Go.Proofs.YtheillkpgmpnlaaW.PrintWords Go.Proofs.YtheillkpgmpnlaaW.PrintLast Go.Proofs.YtheillkpgmpnlaaW.PrintMore
attribute [local go_sem] max2_int min2_int max_two min_two max_three min_three max_four min_four   -- for this text's walks alone
set_option linter.unusedVariables false
set_option linter.unusedSimpArgs false

/-! ### pdom_Tree: function 22 -/
def pdom_Tree.f (k : Nat) (l0_0 : List (List Int)) (l0_1 : List (List Int)) : Option (List Int) := (pdom_Exit.f k l0_0 l0_1).bind fun bt252 => (if bt252.2.2 = 0 then ((graph_Turned.f k bt252.1 bt252.2.1).bind fun bt260 => ((dom_Tree.f k bt260.1 bt260.2 (l0_0.length : Int)).bind fun t266 => (some t266))) else (some ([] : List Int)))
theorem pdom_Tree.mono : ∀ a0 a1 k, LeO (pdom_Tree.f k a0 a1) (pdom_Tree.f (k + 1) a0 a1) := by
 intro a0 a1 k
 unfold pdom_Tree.f
 repeat' (with_reducible first | exact dom_Tree.mono _ _ _ _ | exact graph_Turned.mono _ _ _ | exact pdom_Exit.mono _ _ _ | exact LeO.refl _ | exact LeO.none _ | refine LeO.ite ?_ ?_ | refine LeO.bind ?_ (fun _ => ?_))
set_option maxHeartbeats 8000000 in
set_option maxRecDepth 100000 in
theorem pdom_Tree.calls (k : Nat) (A0_0 : Option Addr) (c0_0 : Nat) (l0_0 : List (List Int)) (A0_1 : Option Addr) (c0_1 : Nat) (l0_1 : List (List Int)) (r : List Int) (w : World) (hr0_0 : Kd.C (Kd.slice 3 (Kd.int .i64)) w A0_0 l0_0.length l0_0) (hc0_0 : l0_0.length ≤ c0_0) (hr0_1 : Kd.C (Kd.slice 3 (Kd.int .i64)) w A0_1 l0_1.length l0_1) (hc0_1 : l0_1.length ≤ c0_1) (h : pdom_Tree.f k l0_0 l0_1 = some r) :
 Calls Try.prog 22 #[.agg #[.slice A0_0 l0_0.length c0_0, .slice A0_1 l0_1.length c0_1]] w fun e w' => ∃ v0_ : Value, e = .returned (v0_) ∧ Kd.R (Kd.int .i64) 3 w' w.heap.size (fun _ => True) v0_ r ∧ Below w.heap.size w w' := by
 have hu26 := Try.underlying26
 have HR0_0 := Aside0.mk hr0_0
 have HC0_0 := Aside0.mk hc0_0
 clear hr0_0 hc0_0
 have HR0_1 := Aside0.mk hr0_1
 have HC0_1 := Aside0.mk hc0_1
 clear hr0_1 hc0_1
 have HB := A_ (Below.refl w.heap.size w)
 have H : ((pdom_Exit.f k l0_0 l0_1).bind fun bt252 => (if bt252.2.2 = 0 then ((graph_Turned.f k bt252.1 bt252.2.1).bind fun bt260 => ((dom_Tree.f k bt260.1 bt260.2 (l0_0.length : Int)).bind fun t266 => (some t266))) else (some ([] : List Int)))) = some r := h
 clear h
 replace H := Option.bind_eq_some_iff.mp H
 obtain ⟨⟨t252, t255, t258⟩, A20, H⟩ := H
 try dsimp only at H
 have A2 := Aside0.mk A20
 clear A20
 by_cases c3 : t258 = 0
 ·rw [if_pos c3] at H
  have c3b0 : (t258 == 0) = true := beq_iff_eq.mpr c3
  have c3b1 : (t258 != 0) = false := bne_eq_false_iff_eq.mpr c3
  clear c3
  replace H := Option.bind_eq_some_iff.mp H
  obtain ⟨⟨t260, t263⟩, A40, H⟩ := H
  try dsimp only at H
  have A4 := Aside0.mk A40
  clear A40
  replace H := Option.bind_eq_some_iff.mp H
  obtain ⟨t266, A50, H⟩ := H
  try dsimp only at H
  have A5 := Aside0.mk A50
  clear A50
  obtain rfl := Option.some.inj H
  go_enter Try.func22, Try.ntmps22
  try go_wp2_with (first | ((with_reducible refine gate_dst (N := 1) rfl ?_); refine box_event ?hg (N := 1) ?hd (cs := #[.slice A0_0 l0_0.length c0_0, .slice A0_1 l0_1.length c0_1]) (t := 26) ?hr ?_; (case hd => rfl); (case hg => rfl); (case hr => first | (go_simp; done) | (go_simp; rfl)); intro gb251 hg w6 hbox hb; have BK251 := A_ (hbox); have GW251 := A_ ((by rw [hg]; exact (below_size (B_)) : w.heap.size ≤ gb251)); have GE251 := A_ ((by rw [hg]; exact (below_size (B_)) : w.heap.size ≤ gb251)); replace HB := A_ (below_step (B_) hb); clear hb hbox hg; have hcz7_0 : w6.cell? ⟨gb251, 0, none⟩ = some (.slice A0_0 l0_0.length c0_0) := (blk_cell BK251.out 0).trans rfl; have hcz7_1 : w6.cell? ⟨gb251, 1, none⟩ = some (.slice A0_1 l0_1.length c0_1) := (blk_cell BK251.out 1).trans rfl; have hfz7_0 := blk_frozen BK251.out 0; have hfz7_1 := blk_frozen BK251.out 1) | ((with_reducible refine gate_callee (f := 21) rfl ?_); refine goesL_ (some 7) rfl rfl Try.func21 (by kernel_rfl) rfl #[.agg #[.slice A0_0 l0_0.length c0_0, .slice A0_1 l0_1.length c0_1]] rfl (by (try simp only [List.map_toArray, List.map_cons, List.map_nil]); first | done | rfl | (simp only [List.length_drop, List.length_take]; rfl)) ?_; (with_reducible refine (pdom_Exit.calls k _ _ l0_0 _ _ l0_1 t252 t255 t258 _ ?side1 ?side2 ?side3 ?side4 A2.out).mono ?_); (case side1 => exact CX_ (Kd.C_below HR0_0.out HB.out)); (case side2 => exact HC0_0.out); (case side3 => exact CX_ (Kd.C_below HR0_1.out HB.out)); (case side4 => exact HC0_1.out); rintro e w8 ⟨v253, v256, rfl, ho0, ho1, hb⟩; refine ⟨_, rfl, ?_⟩; have HO254 := A_ (Kd.S_lower ho0 (below_size (B1_))); have HO257 := A_ (Kd.S_lower ho1 (below_size (B1_))); replace BK251 := A_ (blk_below (g := gb251) (o := .cells #[.slice A0_0 l0_0.length c0_0, .slice A0_1 l0_1.length c0_1] 26 (0, 0)) (by exact KX_ BK251.out) hb); replace HB := A_ (below_step (B1_) hb); (try clear hb); (try clear hb2); (try clear hk); (try clear hi); (try clear ho0); (try clear ho1)) | ((with_reducible refine gate_dst (N := 3) rfl ?_); refine box_event ?hg (N := 3) ?hd (cs := #[.slice none 0 0, .slice none 0 0]) (t := 26) ?hr ?_; (case hd => rfl); (case hg => rfl); (case hr => first | (go_simp; done) | (go_simp; rfl)); intro gb259 hg w9 hbox hb; replace HO254 := A_ (Kd.S_below (by exact SX_ HO254.out) hb); replace HO257 := A_ (Kd.S_below (by exact SX_ HO257.out) hb); have BK259 := A_ (hbox); have GW259 := A_ ((by rw [hg]; exact (below_size (B1_)) : w.heap.size ≤ gb259)); have GE259 := A_ ((by rw [hg]; exact (below_size (B1_)) : w.heap.size ≤ gb259)); replace HB := A_ (below_step (B1_) hb); have NB251_259 := A_ ((by rw [hg]; exact Nat.ne_of_lt (blk_lt (g := gb251) (o := .cells #[.slice A0_0 l0_0.length c0_0, .slice A0_1 l0_1.length c0_1] 26 (0, 0)) (by exact KX_ BK251.out)) : gb251 ≠ gb259)); have NB259_251 := A_ ((by rw [hg]; exact Nat.ne_of_gt (blk_lt (g := gb251) (o := .cells #[.slice A0_0 l0_0.length c0_0, .slice A0_1 l0_1.length c0_1] 26 (0, 0)) (by exact KX_ BK251.out)) : gb259 ≠ gb251)); replace BK251 := A_ (blk_below (g := gb251) (o := .cells #[.slice A0_0 l0_0.length c0_0, .slice A0_1 l0_1.length c0_1] 26 (0, 0)) (by exact KX_ BK251.out) hb); clear hb hbox hg; obtain ⟨Ao10, co10, eo10⟩ := Kd.S_slice HO254.out; subst eo10; have hnb11 := NB259_251.out; have hnc11 := NB251_259.out; have hcz12_0 : w9.cell? ⟨gb259, 0, none⟩ = some (.slice none 0 0) := (blk_cell BK259.out 0).trans rfl; have hcz12_1 : w9.cell? ⟨gb259, 1, none⟩ = some (.slice none 0 0) := (blk_cell BK259.out 1).trans rfl; have hfz12_0 := blk_frozen BK259.out 0; have hfz12_1 := blk_frozen BK259.out 1; obtain ⟨Ao13, co13, eo13⟩ := Kd.S_slice HO257.out; subst eo13))
  have n0_ : Aside0 (Kd.S (Kd.slice 3 (Kd.int .i64)) 31 ((w9.setCell ⟨gb259, 0, none⟩ (.slice Ao10 t252.length co10)).setCell ⟨gb259, 1, none⟩ (.slice Ao13 t255.length co13)) w.heap.size (fun k_ => some k_ ≠ (.slice Ao13 t255.length co13 : Value).ownBlock) (.slice Ao10 t252.length co10) t252) := ⟨by (with_reducible repeat (first | apply Kd.S_alloc | apply Kd.S_drewN | apply Kd.S_drew)); exact Kd.S_mono (Kd.S_far (p := ⟨gb259, 1, none⟩) (Kd.S_far (p := ⟨gb259, 0, none⟩) (Kd.S_types HO254.out BK259.out (by decide)) (fun _ hk => hk.2) (.slice Ao10 t252.length co10)) (fun _ hk => hk.2) (.slice Ao13 t255.length co13)) (fun _ hk => hk.1)⟩
  have n1_ : Aside0 (Kd.S (Kd.slice 3 (Kd.int .i64)) 31 ((w9.setCell ⟨gb259, 0, none⟩ (.slice Ao10 t252.length co10)).setCell ⟨gb259, 1, none⟩ (.slice Ao13 t255.length co13)) w.heap.size (fun k_ => some k_ ≠ (.slice Ao10 t252.length co10 : Value).ownBlock) (.slice Ao13 t255.length co13) t255) := ⟨by (with_reducible repeat (first | apply Kd.S_alloc | apply Kd.S_drewN | apply Kd.S_drew)); exact Kd.S_mono (Kd.S_far (p := ⟨gb259, 1, none⟩) (Kd.S_far (p := ⟨gb259, 0, none⟩) (Kd.S_types HO257.out BK259.out (by decide)) (fun _ hk => hk.2) (.slice Ao10 t252.length co10)) (fun _ hk => hk.2) (.slice Ao13 t255.length co13)) (fun _ hk => hk.1)⟩
  have n2_ : Aside0 (((w9.setCell ⟨gb259, 0, none⟩ (.slice Ao10 t252.length co10)).setCell ⟨gb259, 1, none⟩ (.slice Ao13 t255.length co13)).heap[gb251]? = some (.cells #[.slice A0_0 l0_0.length c0_0, .slice A0_1 l0_1.length c0_1] 26 (0, 0))) := ⟨by (with_reducible repeat (first | refine blk_drewN ?_ _ | refine blk_drew ?_ | refine blk_alloc ?_ _)); refine blk_far ?_ NB251_259.out _; (with_reducible repeat (first | refine blk_drewN ?_ _ | refine blk_drew ?_ | refine blk_alloc ?_ _)); refine blk_far ?_ NB251_259.out _; exact KX_ BK251.out⟩
  have n3_ : Aside0 (((w9.setCell ⟨gb259, 0, none⟩ (.slice Ao10 t252.length co10)).setCell ⟨gb259, 1, none⟩ (.slice Ao13 t255.length co13)).heap[gb259]? = some (.cells #[.slice Ao10 t252.length co10, .slice Ao13 t255.length co13] 26 (0, 0))) := ⟨by (with_reducible repeat (first | refine blk_drewN ?_ _ | refine blk_drew ?_ | refine blk_alloc ?_ _)); refine blk_put (cs := #[.slice Ao10 t252.length co10, .slice none 0 0]) ?_ 1 _ rfl; (with_reducible repeat (first | refine blk_drewN ?_ _ | refine blk_drew ?_ | refine blk_alloc ?_ _)); refine blk_put (cs := #[.slice none 0 0, .slice none 0 0]) ?_ 0 _ rfl; exact KX_ BK259.out⟩
  have n4_ : Aside0 (Below w.heap.size w ((w9.setCell ⟨gb259, 0, none⟩ (.slice Ao10 t252.length co10)).setCell ⟨gb259, 1, none⟩ (.slice Ao13 t255.length co13))) := ⟨B1_⟩
  (try clear HO254)
  (try clear HO257)
  (try clear BK251)
  (try clear BK259)
  (try clear HB)
  generalize ((w9.setCell ⟨gb259, 0, none⟩ (.slice Ao10 t252.length co10)).setCell ⟨gb259, 1, none⟩ (.slice Ao13 t255.length co13)) = w14 at n0_ n1_ n2_ n3_ n4_ ⊢
  have HO254 := n0_
  have HO257 := n1_
  have BK251 := n2_
  have BK259 := n3_
  have HB := n4_
  clear n0_ n1_ n2_ n3_ n4_
  have n0_ := A_ (Kd.S_drew HO254.out)
  have n1_ := A_ (Kd.S_drew HO257.out)
  have n2_ := A_ (blk_drew BK251.out)
  have n3_ := A_ (blk_drew BK259.out)
  have n4_ := A_ (below_drew1 HB.out)
  clear HO254
  clear HO257
  clear BK251
  clear BK259
  clear HB
  have HO254 := n0_
  have HO257 := n1_
  have BK251 := n2_
  have BK259 := n3_
  have HB := n4_
  clear n0_ n1_ n2_ n3_ n4_
  refine start_ (n := 7) (S := fun w' => w'.cell? ⟨gb259, 0, none⟩ = some (.slice Ao10 t252.length co10) ∧ w'.cell? ⟨gb259, 1, none⟩ = some (.slice Ao13 t255.length co13) ∧ w'.cell? ⟨gb251, 0, none⟩ = some (.slice A0_0 l0_0.length c0_0) ∧ w'.cell? ⟨gb251, 1, none⟩ = some (.slice A0_1 l0_1.length c0_1)) (ds := []) #[false, false, false, false, false, false, false] (by kernel_rfl) rfl rfl ⟨(blk_cell BK259.out 0).trans rfl, (blk_cell BK259.out 1).trans rfl, (blk_cell BK251.out 0).trans rfl, (blk_cell BK251.out 1).trans rfl⟩ (fun hHeld => ?_)
  generalize w14.drew = w15 at HO254 HO257 BK251 BK259 HB hHeld ⊢
  refine pure_ (i := 2) (N := some 14) (v := ?_) (a' := ?_) #[false, false, true, false, false, false, false] rfl rfl (by kernel_rfl) (fun _ _ _ h => h) (Or.inl ⟨by rfl, ?_⟩) ?_ ?_
  rotate_left
  ·intro w'
   go_simp
   with_reducible rfl
  rotate_left
  ·exact P_
  refine take_ (i := 0) (N := some 12) (v := ?_) (a' := ?_) #[true, false, true, false, false, false, false] rfl rfl (by kernel_rfl) (fun _ _ _ h => h) (Or.inl ⟨by rfl, ?_⟩) hHeld ?_ ?_
  rotate_left
  ·rintro w' ⟨s0, s1, s2, s3⟩
   go_simp
   with_reducible rfl
  rotate_left
  ·exact P_
  refine take_ (i := 3) (N := some 15) (v := ?_) (a' := ?_) #[true, false, true, true, false, false, false] rfl rfl (by kernel_rfl) (fun _ _ _ h => h) (Or.inl ⟨by rfl, ?_⟩) hHeld ?_ ?_
  rotate_left
  ·rintro w' ⟨s0, s1, s2, s3⟩
   go_simp
   with_reducible rfl
  rotate_left
  ·exact P_
  refine pure_ (i := 4) (N := some 16) (v := ?_) (a' := ?_) #[true, false, true, true, true, false, false] rfl rfl (by kernel_rfl) (fun _ _ _ h => h) (Or.inl ⟨by rfl, ?_⟩) ?_ ?_
  rotate_left
  ·intro w'
   go_simp
   with_reducible rfl
  rotate_left
  ·exact P_
  refine one_ (i := 1) (N := some 13) #[true, true, true, true, true, false, false] rfl rfl (by kernel_rfl) (by decide) (fun K hK => ?_)
  refine goes_ Try.func45 (by kernel_rfl) rfl #[.agg #[.slice Ao10 t252.length co10, .slice Ao13 t255.length co13]] (by rfl) rfl rfl (by (try simp only [List.map_toArray, List.map_cons, List.map_nil]); first | done | rfl | (simp only [List.length_drop, List.length_take]; rfl)) ?_
  with_reducible refine (graph_Turned.calls k _ _ t252 _ _ t255 t260 t263 _ ?side1 ?side2 ?side3 ?side4 A4.out).mono ?_
  (case side1 => repeat (first | exact (Kd.S_reads' HO254.out).2.2 | (with_reducible refine Kd.C_alloc ?_ _) | (with_reducible refine Kd.C_drewN ?_ _) | (with_reducible refine Kd.C_drew ?_)))
  (case side2 => exact (Kd.S_reads' HO254.out).2.1)
  (case side3 => repeat (first | exact (Kd.S_reads' HO257.out).2.2 | (with_reducible refine Kd.C_alloc ?_ _) | (with_reducible refine Kd.C_drewN ?_ _) | (with_reducible refine Kd.C_drew ?_)))
  (case side4 => exact (Kd.S_reads' HO257.out).2.1)
  rintro e w16 ⟨v261, v264, rfl, ho0, ho1, hb⟩
  refine ⟨_, rfl, ?_⟩
  have n0_ := A_ (Kd.S_mono (Kd.S_told (Kd.S_told (Kd.S_old (by exact SX_ HO254.out) hb) (Kd.S_base ho0)) (Kd.S_base ho1)) (fun _ h_ => h_.1))
  have n1_ := A_ (Kd.S_mono (Kd.S_told (Kd.S_told (Kd.S_old (by exact SX_ HO257.out) hb) (Kd.S_base ho0)) (Kd.S_base ho1)) (fun _ h_ => h_.1))
  have n2_ := A_ (Kd.S_lower (Kd.S_new' (Kd.S_new' ho0 (Kd.S_lt (by exact SX_ HO254.out))) (Kd.S_lt (by exact SX_ HO257.out))) (below_size (B1_)))
  have n3_ := A_ (Kd.S_lower (Kd.S_new' (Kd.S_new' ho1 (Kd.S_lt (by exact SX_ HO254.out))) (Kd.S_lt (by exact SX_ HO257.out))) (below_size (B1_)))
  have n4_ := A_ (blk_below (g := gb251) (o := .cells #[.slice A0_0 l0_0.length c0_0, .slice A0_1 l0_1.length c0_1] 26 (0, 0)) (by exact KX_ BK251.out) hb)
  have n5_ := A_ (blk_below (g := gb259) (o := .cells #[.slice Ao10 t252.length co10, .slice Ao13 t255.length co13] 26 (0, 0)) (by exact KX_ BK259.out) hb)
  have n6_ := A_ (below_step (B1_) hb)
  clear HO254
  clear HO257
  clear BK251
  clear BK259
  clear HB
  have HO254 := n0_
  have HO257 := n1_
  have HO262 := n2_
  have HO265 := n3_
  have BK251 := n4_
  have BK259 := n5_
  have HB := n6_
  clear n0_ n1_ n2_ n3_ n4_ n5_ n6_
  (try clear hb)
  (try clear hb2)
  (try clear hk)
  (try clear hi)
  (try clear ho0)
  (try clear ho1)
  obtain ⟨Ao17, co17, eo17⟩ := Kd.S_slice HO262.out
  (first | subst eo17 | (injection eo17 with f1_ f2_ f3_; have f4_ := f1_.symm; have f5_ := f3_.symm; clear f1_ f2_ f3_; subst f4_; subst f5_))
  obtain ⟨Ao18, co18, eo18⟩ := Kd.S_slice HO265.out
  (first | subst eo18 | (injection eo18 with f1_ f2_ f3_; have f4_ := f1_.symm; have f5_ := f3_.symm; clear f1_ f2_ f3_; subst f4_; subst f5_))
  refine hK.out _ _ ⟨(blk_cell BK259.out 0).trans rfl, (blk_cell BK259.out 1).trans rfl, (blk_cell BK251.out 0).trans rfl, (blk_cell BK251.out 1).trans rfl⟩ (fun hHeld => ?_)
  clear hK K
  refine norm_ (a' := ?_) ?_ ?_
  rotate_left
  ·show Act.put _ (some 13) _ = _
   simp only [Act.put, List.setIfInBounds_toArray, List.set_cons_zero, List.set_cons_succ, i64_w, i32_w]
   rfl
  refine one_ (i := 5) (N := some 17) #[true, true, true, true, true, true, false] rfl rfl (by kernel_rfl) (by decide) (fun K hK => ?_)
  refine goes_ Try.func19 (by kernel_rfl) rfl #[.agg #[.slice Ao17 t260.length co17, .slice Ao18 t263.length co18], .int .i64 (l0_0.length : Int)] (by rfl) rfl rfl (by (try simp only [List.map_toArray, List.map_cons, List.map_nil]); first | done | rfl | (simp only [List.length_drop, List.length_take]; rfl)) ?_
  with_reducible refine (dom_Tree.calls k _ _ t260 _ _ t263 (l0_0.length : Int) t266 _ ?side1 ?side2 ?side3 ?side4 A5.out).mono ?_
  (case side1 => repeat (first | exact (Kd.S_reads' HO262.out).2.2 | (with_reducible refine Kd.C_alloc ?_ _) | (with_reducible refine Kd.C_drewN ?_ _) | (with_reducible refine Kd.C_drew ?_)))
  (case side2 => exact (Kd.S_reads' HO262.out).2.1)
  (case side3 => repeat (first | exact (Kd.S_reads' HO265.out).2.2 | (with_reducible refine Kd.C_alloc ?_ _) | (with_reducible refine Kd.C_drewN ?_ _) | (with_reducible refine Kd.C_drew ?_)))
  (case side4 => exact (Kd.S_reads' HO265.out).2.1)
  rintro e w19 ⟨v267, rfl, ho0, hb⟩
  refine ⟨_, rfl, ?_⟩
  have n0_ := A_ (Kd.S_elder' (by exact SX_ HO254.out) (Kd.R_base ho0) hb)
  have n1_ := A_ (Kd.S_elder' (by exact SX_ HO257.out) (Kd.R_base ho0) hb)
  have n2_ := A_ (Kd.S_elder' (by exact SX_ HO262.out) (Kd.R_base ho0) hb)
  have n3_ := A_ (Kd.S_elder' (by exact SX_ HO265.out) (Kd.R_base ho0) hb)
  have n4_ := A_ (Kd.R_lower ho0 (below_size (B1_)))
  have n5_ := A_ (blk_below (g := gb251) (o := .cells #[.slice A0_0 l0_0.length c0_0, .slice A0_1 l0_1.length c0_1] 26 (0, 0)) (by exact KX_ BK251.out) hb)
  have n6_ := A_ (blk_below (g := gb259) (o := .cells #[.slice Ao10 t252.length co10, .slice Ao13 t255.length co13] 26 (0, 0)) (by exact KX_ BK259.out) hb)
  have n7_ := A_ (below_step (B1_) hb)
  clear HO254
  clear HO257
  clear HO262
  clear HO265
  clear BK251
  clear BK259
  clear HB
  have HO254 := n0_
  have HO257 := n1_
  have HO262 := n2_
  have HO265 := n3_
  have HO268 := n4_
  have BK251 := n5_
  have BK259 := n6_
  have HB := n7_
  clear n0_ n1_ n2_ n3_ n4_ n5_ n6_ n7_
  (try clear hb)
  (try clear hb2)
  (try clear hk)
  (try clear hi)
  (try clear ho0)
  refine hK.out _ _ ⟨(blk_cell BK259.out 0).trans rfl, (blk_cell BK259.out 1).trans rfl, (blk_cell BK251.out 0).trans rfl, (blk_cell BK251.out 1).trans rfl⟩ (fun hHeld => ?_)
  clear hK K
  refine norm_ (a' := ?_) ?_ ?_
  rotate_left
  ·show Act.put _ (some 17) _ = _
   simp only [Act.put, List.setIfInBounds_toArray, List.set_cons_zero, List.set_cons_succ, i64_w, i32_w]
   rfl
  refine pure_ (i := 6) (N := some 2) (v := ?_) (a' := ?_) #[true, true, true, true, true, true, true] rfl rfl (by kernel_rfl) (fun _ _ _ h => h) (Or.inl ⟨by rfl, ?_⟩) ?_ ?_
  rotate_left
  ·intro w'
   go_simp
   with_reducible rfl
  rotate_left
  ·exact P_
  refine done_ (by kernel_rfl) ?_
  try go_wp2
  go_ret
  exact ⟨_, by first | rfl | (simp [errW_none, errW_some] <;> rfl) | (simp [*, errW_none, errW_some] <;> rfl), by exact RX_ HO268.out, B1_⟩
 rw [if_neg c3] at H
 have c3b0 : (t258 == 0) = false := beq_eq_false_iff_ne.mpr c3
 have c3b1 : (t258 != 0) = true := bne_iff_ne.mpr c3
 obtain rfl := Option.some.inj H
 go_enter Try.func22, Try.ntmps22
 go_wp2_with (first | ((with_reducible refine gate_dst (N := 1) rfl ?_); refine box_event ?hg (N := 1) ?hd (cs := #[.slice A0_0 l0_0.length c0_0, .slice A0_1 l0_1.length c0_1]) (t := 26) ?hr ?_; (case hd => rfl); (case hg => rfl); (case hr => first | (go_simp; done) | (go_simp; rfl)); intro gb251 hg w20 hbox hb; have BK251 := A_ (hbox); have GW251 := A_ ((by rw [hg]; exact (below_size (B_)) : w.heap.size ≤ gb251)); have GE251 := A_ ((by rw [hg]; exact (below_size (B_)) : w.heap.size ≤ gb251)); replace HB := A_ (below_step (B_) hb); clear hb hbox hg; have hcz21_0 : w20.cell? ⟨gb251, 0, none⟩ = some (.slice A0_0 l0_0.length c0_0) := (blk_cell BK251.out 0).trans rfl; have hcz21_1 : w20.cell? ⟨gb251, 1, none⟩ = some (.slice A0_1 l0_1.length c0_1) := (blk_cell BK251.out 1).trans rfl; have hfz21_0 := blk_frozen BK251.out 0; have hfz21_1 := blk_frozen BK251.out 1) | ((with_reducible refine gate_callee (f := 21) rfl ?_); refine goesL_ (some 7) rfl rfl Try.func21 (by kernel_rfl) rfl #[.agg #[.slice A0_0 l0_0.length c0_0, .slice A0_1 l0_1.length c0_1]] rfl (by (try simp only [List.map_toArray, List.map_cons, List.map_nil]); first | done | rfl | (simp only [List.length_drop, List.length_take]; rfl)) ?_; (with_reducible refine (pdom_Exit.calls k _ _ l0_0 _ _ l0_1 t252 t255 t258 _ ?side1 ?side2 ?side3 ?side4 A2.out).mono ?_); (case side1 => exact CX_ (Kd.C_below HR0_0.out HB.out)); (case side2 => exact HC0_0.out); (case side3 => exact CX_ (Kd.C_below HR0_1.out HB.out)); (case side4 => exact HC0_1.out); rintro e w22 ⟨v253, v256, rfl, ho0, ho1, hb⟩; refine ⟨_, rfl, ?_⟩; have HO254 := A_ (Kd.S_lower ho0 (below_size (B1_))); have HO257 := A_ (Kd.S_lower ho1 (below_size (B1_))); replace BK251 := A_ (blk_below (g := gb251) (o := .cells #[.slice A0_0 l0_0.length c0_0, .slice A0_1 l0_1.length c0_1] 26 (0, 0)) (by exact KX_ BK251.out) hb); replace HB := A_ (below_step (B1_) hb); (try clear hb); (try clear hb2); (try clear hk); (try clear hi); (try clear ho0); (try clear ho1)) | ((with_reducible refine gate_dst (N := 3) rfl ?_); refine box_event ?hg (N := 3) ?hd (cs := #[.slice none 0 0, .slice none 0 0]) (t := 26) ?hr ?_; (case hd => rfl); (case hg => rfl); (case hr => first | (go_simp; done) | (go_simp; rfl)); intro gb259 hg w23 hbox hb; replace HO254 := A_ (Kd.S_below (by exact SX_ HO254.out) hb); replace HO257 := A_ (Kd.S_below (by exact SX_ HO257.out) hb); have BK259 := A_ (hbox); have GW259 := A_ ((by rw [hg]; exact (below_size (B1_)) : w.heap.size ≤ gb259)); have GE259 := A_ ((by rw [hg]; exact (below_size (B1_)) : w.heap.size ≤ gb259)); replace HB := A_ (below_step (B1_) hb); have NB251_259 := A_ ((by rw [hg]; exact Nat.ne_of_lt (blk_lt (g := gb251) (o := .cells #[.slice A0_0 l0_0.length c0_0, .slice A0_1 l0_1.length c0_1] 26 (0, 0)) (by exact KX_ BK251.out)) : gb251 ≠ gb259)); have NB259_251 := A_ ((by rw [hg]; exact Nat.ne_of_gt (blk_lt (g := gb251) (o := .cells #[.slice A0_0 l0_0.length c0_0, .slice A0_1 l0_1.length c0_1] 26 (0, 0)) (by exact KX_ BK251.out)) : gb259 ≠ gb251)); replace BK251 := A_ (blk_below (g := gb251) (o := .cells #[.slice A0_0 l0_0.length c0_0, .slice A0_1 l0_1.length c0_1] 26 (0, 0)) (by exact KX_ BK251.out) hb); clear hb hbox hg; obtain ⟨Ao24, co24, eo24⟩ := Kd.S_slice HO254.out; subst eo24; have hnb25 := NB259_251.out; have hnc25 := NB251_259.out; have hcz26_0 : w23.cell? ⟨gb259, 0, none⟩ = some (.slice none 0 0) := (blk_cell BK259.out 0).trans rfl; have hcz26_1 : w23.cell? ⟨gb259, 1, none⟩ = some (.slice none 0 0) := (blk_cell BK259.out 1).trans rfl; have hfz26_0 := blk_frozen BK259.out 0; have hfz26_1 := blk_frozen BK259.out 1; obtain ⟨Ao27, co27, eo27⟩ := Kd.S_slice HO257.out; subst eo27))
 go_ret
 exact ⟨_, by first | rfl | (simp [errW_none, errW_some] <;> rfl) | (simp [*, errW_none, errW_some] <;> rfl), by first | exact Kd.R_nil _ _ _ _ _ | exact Kd.N_nil _ _ _ _ _ | exact Kd.V_nil _ _ _ _ _ | exact Kd.Q_nil _ _ _ _ _ | exact Kd.S_nil _ _ _ _ _, B1_⟩

end Go.Proofs.Ytheillkpgmpnlaa.G
