/- Printed by a program of this session (wip/tools/op.py, over the kit's print program): Go functions as plain Lean functions, each with a proof that the call answers so. Conditions: each theorem's own. -/
import Derived.Test.YtheillkpgmpnlaaHArr
import Derived.Test.YtheillkpgmpnlaaGx0
import Derived.Test.YtheillkpgmpnlaaGx5
import Derived.Test.YtheillkpgmpnlaaGx7
namespace Go.Proofs.Ytheillkpgmpnlaa.G
open Go.Proofs.YtheillkpgmpnlaaH
open Go.RowKit Go.Proofs.YtheillkpgmpnlaaW.PrintWords Go.Proofs.YtheillkpgmpnlaaW.PrintLast Go.Proofs.YtheillkpgmpnlaaW.PrintMore
attribute [local go_sem] max2_int min2_int max_two min_two max_three min_three max_four min_four   -- for this text's walks alone
set_option linter.unusedVariables false
set_option linter.unusedSimpArgs false

/-! ### graph_May: function 41 -/
def graph_May.f (k : Nat) (l0_0 : List (List Int)) (l0_1 : List (List Int)) : Option (Bool) := (graph_Make.f k l0_0).bind fun bt157 => (if bt157.2.2 = 0 then ((slices_EqualFunc_int_int_int_int_slices_Equal_int_int.f k bt157.2.1 l0_1).bind fun t165 => (some t165)) else (some false))
theorem graph_May.mono : ∀ a0 a1 k, LeO (graph_May.f k a0 a1) (graph_May.f (k + 1) a0 a1) := by
 intro a0 a1 k
 unfold graph_May.f
 repeat' (with_reducible first | exact graph_Make.mono _ _ | exact slices_EqualFunc_int_int_int_int_slices_Equal_int_int.mono _ _ _ | exact LeO.refl _ | exact LeO.none _ | refine LeO.ite ?_ ?_ | refine LeO.bind ?_ (fun _ => ?_))
set_option maxHeartbeats 8000000 in
set_option maxRecDepth 100000 in
theorem graph_May.calls (k : Nat) (A0_0 : Option Addr) (c0_0 : Nat) (l0_0 : List (List Int)) (A0_1 : Option Addr) (c0_1 : Nat) (l0_1 : List (List Int)) (r : Bool) (w : World) (hr0_0 : Kd.C (Kd.slice 3 (Kd.int .i64)) w A0_0 l0_0.length l0_0) (hc0_0 : l0_0.length ≤ c0_0) (hr0_1 : Kd.C (Kd.slice 3 (Kd.int .i64)) w A0_1 l0_1.length l0_1) (hc0_1 : l0_1.length ≤ c0_1) (h : graph_May.f k l0_0 l0_1 = some r) :
 Calls Try.prog 41 #[.agg #[.slice A0_0 l0_0.length c0_0, .slice A0_1 l0_1.length c0_1]] w fun e w' => e = .returned (.bool r) ∧ Below w.heap.size w w' := by
 have hu26 := Try.underlying26
 have HR0_0 := Aside0.mk hr0_0
 have HC0_0 := Aside0.mk hc0_0
 clear hr0_0 hc0_0
 have HR0_1 := Aside0.mk hr0_1
 have HC0_1 := Aside0.mk hc0_1
 clear hr0_1 hc0_1
 have HB := A_ (Below.refl w.heap.size w)
 have H : ((graph_Make.f k l0_0).bind fun bt157 => (if bt157.2.2 = 0 then ((slices_EqualFunc_int_int_int_int_slices_Equal_int_int.f k bt157.2.1 l0_1).bind fun t165 => (some t165)) else (some false))) = some r := h
 clear h
 replace H := Option.bind_eq_some_iff.mp H
 obtain ⟨⟨t157, t160, t163⟩, A20, H⟩ := H
 try dsimp only at H
 have A2 := Aside0.mk A20
 clear A20
 by_cases c3 : t163 = 0
 ·rw [if_pos c3] at H
  have c3b0 : (t163 == 0) = true := beq_iff_eq.mpr c3
  have c3b1 : (t163 != 0) = false := bne_eq_false_iff_eq.mpr c3
  clear c3
  replace H := Option.bind_eq_some_iff.mp H
  obtain ⟨t165, A40, H⟩ := H
  try dsimp only at H
  have A4 := Aside0.mk A40
  clear A40
  obtain rfl := Option.some.inj H
  go_enter Try.func41, Try.ntmps41
  go_wp2_with (first | ((with_reducible refine gate_dst (N := 1) rfl ?_); refine box_event ?hg (N := 1) ?hd (cs := #[.slice A0_0 l0_0.length c0_0, .slice A0_1 l0_1.length c0_1]) (t := 26) ?hr ?_; (case hd => rfl); (case hg => rfl); (case hr => first | (go_simp; done) | (go_simp; rfl)); intro gb156 hg w5 hbox hb; have BK156 := A_ (hbox); have GW156 := A_ ((by rw [hg]; exact (below_size (B_)) : w.heap.size ≤ gb156)); have GE156 := A_ ((by rw [hg]; exact (below_size (B_)) : w.heap.size ≤ gb156)); replace HB := A_ (below_step (B_) hb); clear hb hbox hg; have hcz6_0 : w5.cell? ⟨gb156, 0, none⟩ = some (.slice A0_0 l0_0.length c0_0) := (blk_cell BK156.out 0).trans rfl; have hcz6_1 : w5.cell? ⟨gb156, 1, none⟩ = some (.slice A0_1 l0_1.length c0_1) := (blk_cell BK156.out 1).trans rfl; have hfz6_0 := blk_frozen BK156.out 0; have hfz6_1 := blk_frozen BK156.out 1) | ((with_reducible refine gate_callee (f := 15) rfl ?_); refine goesL_ (some 8) rfl rfl Try.func15 (by kernel_rfl) rfl #[.slice A0_0 l0_0.length c0_0] rfl (by (try simp only [List.map_toArray, List.map_cons, List.map_nil]); first | done | rfl | (simp only [List.length_drop, List.length_take]; rfl)) ?_; (with_reducible refine (graph_Make.calls k _ _ l0_0 t157 t160 t163 _ ?side1 ?side2 A2.out).mono ?_); (case side1 => exact CX_ (Kd.C_below HR0_0.out HB.out)); (case side2 => exact HC0_0.out); rintro e w7 ⟨v158, v161, rfl, ho0, ho1, hb⟩; refine ⟨_, rfl, ?_⟩; have HO159 := A_ (Kd.S_lower ho0 (below_size (B1_))); have HO162 := A_ (Kd.S_lower ho1 (below_size (B1_))); replace BK156 := A_ (blk_below (g := gb156) (o := .cells #[.slice A0_0 l0_0.length c0_0, .slice A0_1 l0_1.length c0_1] 26 (0, 0)) (by exact KX_ BK156.out) hb); replace HB := A_ (below_step (B1_) hb); (try clear hb); (try clear hb2); (try clear hk); (try clear hi); (try clear ho0); (try clear ho1)) | ((with_reducible refine gate_dst (N := 3) rfl ?_); refine box_event ?hg (N := 3) ?hd (cs := #[.slice none 0 0, .slice none 0 0]) (t := 26) ?hr ?_; (case hd => rfl); (case hg => rfl); (case hr => first | (go_simp; done) | (go_simp; rfl)); intro gb164 hg w8 hbox hb; replace HO159 := A_ (Kd.S_below (by exact SX_ HO159.out) hb); replace HO162 := A_ (Kd.S_below (by exact SX_ HO162.out) hb); have BK164 := A_ (hbox); have GW164 := A_ ((by rw [hg]; exact (below_size (B1_)) : w.heap.size ≤ gb164)); have GE164 := A_ ((by rw [hg]; exact (below_size (B1_)) : w.heap.size ≤ gb164)); replace HB := A_ (below_step (B1_) hb); have NB156_164 := A_ ((by rw [hg]; exact Nat.ne_of_lt (blk_lt (g := gb156) (o := .cells #[.slice A0_0 l0_0.length c0_0, .slice A0_1 l0_1.length c0_1] 26 (0, 0)) (by exact KX_ BK156.out)) : gb156 ≠ gb164)); have NB164_156 := A_ ((by rw [hg]; exact Nat.ne_of_gt (blk_lt (g := gb156) (o := .cells #[.slice A0_0 l0_0.length c0_0, .slice A0_1 l0_1.length c0_1] 26 (0, 0)) (by exact KX_ BK156.out)) : gb164 ≠ gb156)); replace BK156 := A_ (blk_below (g := gb156) (o := .cells #[.slice A0_0 l0_0.length c0_0, .slice A0_1 l0_1.length c0_1] 26 (0, 0)) (by exact KX_ BK156.out) hb); clear hb hbox hg; obtain ⟨Ao9, co9, eo9⟩ := Kd.S_slice HO159.out; subst eo9; have hnb10 := NB164_156.out; have hnc10 := NB156_164.out; have hcz11_0 : w8.cell? ⟨gb164, 0, none⟩ = some (.slice none 0 0) := (blk_cell BK164.out 0).trans rfl; have hcz11_1 : w8.cell? ⟨gb164, 1, none⟩ = some (.slice none 0 0) := (blk_cell BK164.out 1).trans rfl; have hfz11_0 := blk_frozen BK164.out 0; have hfz11_1 := blk_frozen BK164.out 1; obtain ⟨Ao12, co12, eo12⟩ := Kd.S_slice HO162.out; subst eo12; have hcz13_0 : w8.cell? ⟨gb156, 0, none⟩ = some (.slice A0_0 l0_0.length c0_0) := (blk_cell BK156.out 0).trans rfl; have hcz13_1 : w8.cell? ⟨gb156, 1, none⟩ = some (.slice A0_1 l0_1.length c0_1) := (blk_cell BK156.out 1).trans rfl; have hfz13_0 := blk_frozen BK156.out 0; have hfz13_1 := blk_frozen BK156.out 1) | (go_at_call 61; (with_reducible refine (slices_EqualFunc_int_int_int_int_slices_Equal_int_int.calls k _ _ t160 _ _ l0_1  t165 _ ?side1 ?side2 ?side3 ?side4 A4.out).mono ?_); (case side1 => refine (Kd.S_reads' (e := 31) (base := w.heap.size) (ok := fun k_ => some k_ ≠ (.slice Ao9 t157.length co9 : Value).ownBlock) (n := t160.length) (c := co12) ?_).2.2; exact (by (with_reducible repeat (first | apply Kd.S_alloc | apply Kd.S_drewN | apply Kd.S_drew)); exact (Kd.S_mono (Kd.S_far (p := ⟨gb164, 1, none⟩) (Kd.S_far (p := ⟨gb164, 0, none⟩) (Kd.S_types HO162.out BK164.out (by decide)) (fun _ hk => hk.2) (.slice Ao9 t157.length co9)) (fun _ hk => hk.2) (.slice Ao12 t160.length co12)) (fun _ h_ => h_.1)))); (case side2 => exact (Kd.S_reads' HO162.out).2.1); (case side3 => exact Kd.C_below HR0_1.out (B1_)); (case side4 => exact HC0_1.out); rintro e w' ⟨rfl, ⟨nd, rfl⟩⟩))
  go_ret
  exact ⟨by first | rfl | (simp [errW_none, errW_some] <;> rfl) | (simp [*, errW_none, errW_some] <;> rfl), B1_⟩
 rw [if_neg c3] at H
 have c3b0 : (t163 == 0) = false := beq_eq_false_iff_ne.mpr c3
 have c3b1 : (t163 != 0) = true := bne_iff_ne.mpr c3
 obtain rfl := Option.some.inj H
 go_enter Try.func41, Try.ntmps41
 go_wp2_with (first | ((with_reducible refine gate_dst (N := 1) rfl ?_); refine box_event ?hg (N := 1) ?hd (cs := #[.slice A0_0 l0_0.length c0_0, .slice A0_1 l0_1.length c0_1]) (t := 26) ?hr ?_; (case hd => rfl); (case hg => rfl); (case hr => first | (go_simp; done) | (go_simp; rfl)); intro gb156 hg w14 hbox hb; have BK156 := A_ (hbox); have GW156 := A_ ((by rw [hg]; exact (below_size (B_)) : w.heap.size ≤ gb156)); have GE156 := A_ ((by rw [hg]; exact (below_size (B_)) : w.heap.size ≤ gb156)); replace HB := A_ (below_step (B_) hb); clear hb hbox hg; have hcz15_0 : w14.cell? ⟨gb156, 0, none⟩ = some (.slice A0_0 l0_0.length c0_0) := (blk_cell BK156.out 0).trans rfl; have hcz15_1 : w14.cell? ⟨gb156, 1, none⟩ = some (.slice A0_1 l0_1.length c0_1) := (blk_cell BK156.out 1).trans rfl; have hfz15_0 := blk_frozen BK156.out 0; have hfz15_1 := blk_frozen BK156.out 1) | ((with_reducible refine gate_callee (f := 15) rfl ?_); refine goesL_ (some 8) rfl rfl Try.func15 (by kernel_rfl) rfl #[.slice A0_0 l0_0.length c0_0] rfl (by (try simp only [List.map_toArray, List.map_cons, List.map_nil]); first | done | rfl | (simp only [List.length_drop, List.length_take]; rfl)) ?_; (with_reducible refine (graph_Make.calls k _ _ l0_0 t157 t160 t163 _ ?side1 ?side2 A2.out).mono ?_); (case side1 => exact CX_ (Kd.C_below HR0_0.out HB.out)); (case side2 => exact HC0_0.out); rintro e w16 ⟨v158, v161, rfl, ho0, ho1, hb⟩; refine ⟨_, rfl, ?_⟩; have HO159 := A_ (Kd.S_lower ho0 (below_size (B1_))); have HO162 := A_ (Kd.S_lower ho1 (below_size (B1_))); replace BK156 := A_ (blk_below (g := gb156) (o := .cells #[.slice A0_0 l0_0.length c0_0, .slice A0_1 l0_1.length c0_1] 26 (0, 0)) (by exact KX_ BK156.out) hb); replace HB := A_ (below_step (B1_) hb); (try clear hb); (try clear hb2); (try clear hk); (try clear hi); (try clear ho0); (try clear ho1)) | ((with_reducible refine gate_dst (N := 3) rfl ?_); refine box_event ?hg (N := 3) ?hd (cs := #[.slice none 0 0, .slice none 0 0]) (t := 26) ?hr ?_; (case hd => rfl); (case hg => rfl); (case hr => first | (go_simp; done) | (go_simp; rfl)); intro gb164 hg w17 hbox hb; replace HO159 := A_ (Kd.S_below (by exact SX_ HO159.out) hb); replace HO162 := A_ (Kd.S_below (by exact SX_ HO162.out) hb); have BK164 := A_ (hbox); have GW164 := A_ ((by rw [hg]; exact (below_size (B1_)) : w.heap.size ≤ gb164)); have GE164 := A_ ((by rw [hg]; exact (below_size (B1_)) : w.heap.size ≤ gb164)); replace HB := A_ (below_step (B1_) hb); have NB156_164 := A_ ((by rw [hg]; exact Nat.ne_of_lt (blk_lt (g := gb156) (o := .cells #[.slice A0_0 l0_0.length c0_0, .slice A0_1 l0_1.length c0_1] 26 (0, 0)) (by exact KX_ BK156.out)) : gb156 ≠ gb164)); have NB164_156 := A_ ((by rw [hg]; exact Nat.ne_of_gt (blk_lt (g := gb156) (o := .cells #[.slice A0_0 l0_0.length c0_0, .slice A0_1 l0_1.length c0_1] 26 (0, 0)) (by exact KX_ BK156.out)) : gb164 ≠ gb156)); replace BK156 := A_ (blk_below (g := gb156) (o := .cells #[.slice A0_0 l0_0.length c0_0, .slice A0_1 l0_1.length c0_1] 26 (0, 0)) (by exact KX_ BK156.out) hb); clear hb hbox hg; obtain ⟨Ao18, co18, eo18⟩ := Kd.S_slice HO159.out; subst eo18; have hnb19 := NB164_156.out; have hnc19 := NB156_164.out; have hcz20_0 : w17.cell? ⟨gb164, 0, none⟩ = some (.slice none 0 0) := (blk_cell BK164.out 0).trans rfl; have hcz20_1 : w17.cell? ⟨gb164, 1, none⟩ = some (.slice none 0 0) := (blk_cell BK164.out 1).trans rfl; have hfz20_0 := blk_frozen BK164.out 0; have hfz20_1 := blk_frozen BK164.out 1; obtain ⟨Ao21, co21, eo21⟩ := Kd.S_slice HO162.out; subst eo21))
 go_ret
 exact ⟨by first | rfl | (simp [errW_none, errW_some] <;> rfl) | (simp [*, errW_none, errW_some] <;> rfl), B1_⟩

/-! ### pdom_ends: function 42 -/
-- needs HArr
def pdom_ends.l0 : Nat → List (List Int) → List Bool → Int → Option (List Bool)
 | 0, _, _, _ => none
 | k + 1, x0, m, i => if i < (x0.length : Int) then (if 0 ≤ i then (if i < 64 then (pdom_ends.l0 k x0 (m.set i.toNat (((rd_L1 x0 i).length : Int) == 0)) (wrap64 (i + 1))) else none) else none) else some m
def pdom_ends.f (k : Nat) (l0_0 : List (List Int)) (l0_1 : List (List Int)) : Option (List Bool) := pdom_ends.l0 k l0_0 (List.replicate 64 false) 0
theorem pdom_ends.mono_l : ∀ k y0 y1 y2, LeO (pdom_ends.l0 k y0 y1 y2) (pdom_ends.l0 (k + 1) y0 y1 y2)
 | 0 => fun _ _ _ r h => by simp [pdom_ends.l0] at h
 | k + 1 => by
  have ih0 := pdom_ends.mono_l k
  intro y0 y1 y2
  unfold pdom_ends.l0
  repeat' (with_reducible first | exact ih0 _ _ _ | exact LeO.refl _ | exact LeO.none _ | refine LeO.ite ?_ ?_)
theorem pdom_ends.mono : ∀ a0 a1 k, LeO (pdom_ends.f k a0 a1) (pdom_ends.f (k + 1) a0 a1) := fun _ _ k => pdom_ends.mono_l k _ _ _
theorem pdom_ends.len_l : ∀ k y0 y1 y2 r, pdom_ends.l0 k y0 y1 y2 = some r → y1.length = 64 → r.length = 64
 | 0, _, _, _, _, h, _ => by simp [pdom_ends.l0] at h
 | k + 1, y0, y1, y2, r, h, hl => by
  simp only [pdom_ends.l0] at h
  split at h
  · split at h
    · split at h
      · exact pdom_ends.len_l k _ _ _ r h (by simp [hl])
      · cases h
    · cases h
  · cases h; exact hl
theorem pdom_ends.len {k : Nat} {a0 a1 : List (List Int)} {r : List Bool} (h : pdom_ends.f k a0 a1 = some r) : r.length = 64 := pdom_ends.len_l k _ _ _ r h (by simp)
set_option maxHeartbeats 8000000 in
set_option maxRecDepth 100000 in
theorem pdom_ends.calls (k : Nat) (A0_0 : Option Addr) (c0_0 : Nat) (l0_0 : List (List Int)) (A0_1 : Option Addr) (c0_1 : Nat) (l0_1 : List (List Int)) (r : List Bool) (w : World) (hr0_0 : Kd.C (Kd.slice 3 (Kd.int .i64)) w A0_0 l0_0.length l0_0) (hc0_0 : l0_0.length ≤ c0_0) (h : pdom_ends.f k l0_0 l0_1 = some r) :
 Calls Try.prog 42 #[.agg #[.slice A0_0 l0_0.length c0_0, .slice A0_1 l0_1.length c0_1]] w fun e w' => e = .returned (.agg (AV r)) ∧ Below w.heap.size w w' := by
 have HR0_0 := Aside0.mk hr0_0
 have HC0_0 := Aside0.mk hc0_0
 clear hr0_0 hc0_0
 have HB := A_ (Below.refl w.heap.size w)
 have HL := A_ (pdom_ends.len h)
 have H : (pdom_ends.l0 k l0_0 (List.replicate 64 false) 0) = some r := h
 clear h
 have H' := Aside0.mk H
 clear H
 go_enter Try.func42, Try.ntmps42
 go_wp2_with (first
  | ((with_reducible refine gate_dst (N := 1) rfl ?_); refine box_event ?hg (N := 1) ?hd (cs := #[.slice A0_0 l0_0.length c0_0, .slice A0_1 l0_1.length c0_1]) (t := 26) ?hr ?_; (case hd => rfl); (case hg => rfl); (case hr => first | (go_simp; done) | (go_simp; rfl)); intro g1 hg w1 hbox hb; have n0_ := A_ (below_step (B_) hb); have n1_ := Aside0.mk hbox; clear HB; have HB := n0_; have BK1 := n1_; clear n0_ n1_ hb hbox hg; have hcz1_0 : w1.cell? ⟨g1, 0, none⟩ = some (.slice A0_0 l0_0.length c0_0) := (blk_cell BK1.out 0).trans rfl; have hfz1_0 := blk_frozen BK1.out 0)
  | ((with_reducible refine gate_dst (N := 2) rfl ?_); refine box_event ?hg (N := 2) ?hd (cs := AV (List.replicate 64 false)) (t := 62) ?hr ?_; (case hd => rfl); (case hg => rfl); (case hr => first | (go_simp; done) | (go_simp; rfl) | (go_simp; kernel_rfl)); intro g2 hg w2 hbox hb; have n0_ := A_ (blk_below BK1.out hb); have n1_ := A_ (below_step (B_) hb); have n2_ := Aside0.mk hbox; have n3_ := A_ ((by rw [hg]; exact (below_size (B_)) : w.heap.size ≤ g2)); have n4_ := A_ ((by rw [hg]; exact Nat.ne_of_lt (blk_lt BK1.out) : g1 ≠ g2)); clear BK1 HB; have BK1 := n0_; have HB := n1_; have BK2 := n2_; have GE2 := n3_; have NB1_2 := n4_; clear n0_ n1_ n2_ n3_ n4_ hb hbox hg)
  | ((with_reducible refine gate_dst (N := 3) rfl ?_); refine box_event ?hg (N := 3) ?hd (cs := AV (List.replicate 64 false)) (t := 62) ?hr ?_; (case hd => rfl); (case hg => rfl); (case hr => first | (go_simp; done) | (go_simp; rfl) | (go_simp; kernel_rfl)); intro g3 hg w3 hbox hb; have n0_ := A_ (blk_below BK1.out hb); have n1_ := A_ (below_step (B_) hb); have n2_ := Aside0.mk hbox; have n3_ := A_ ((by rw [hg]; exact (below_size (B_)) : w.heap.size ≤ g3)); have n4_ := A_ ((by rw [hg]; exact Nat.ne_of_lt (blk_lt BK1.out) : g1 ≠ g3)); have n5_ := A_ ((by rw [hg]; exact Nat.ne_of_lt (blk_lt BK2.out) : g2 ≠ g3)); have n6_ := A_ (blk_below BK2.out hb); clear BK1 BK2 HB; have BK1 := n0_; have HB := n1_; have BK3 := n2_; have GE3 := n3_; have NB1_3 := n4_; have NB2_3 := n5_; have BK2 := n6_; clear n0_ n1_ n2_ n3_ n4_ n5_ n6_ hb hbox hg; have hcz3_0 : w3.cell? ⟨g1, 0, none⟩ = some (.slice A0_0 l0_0.length c0_0) := (blk_cell BK1.out 0).trans rfl; have hfz3_0 := blk_frozen BK1.out 0))
 go_loopg [9] k (fun kq v9 w' => ∃ (m : List Bool) (i : Int), v9 = .int .i64 i ∧ Aside0 (pdom_ends.l0 kq l0_0 m i = some r) ∧ Aside0 (kq ≤ k) ∧ Aside0 (m.length = 64) ∧ Aside0 (w'.heap[g1]? = some (.cells #[.slice A0_0 l0_0.length c0_0, .slice A0_1 l0_1.length c0_1] 26 (0, 0))) ∧ Aside0 (w'.heap[g2]? = some (.cells (AV (List.replicate 64 false)) 62 (0, 0))) ∧ Aside0 (w'.heap[g3]? = some (.cells (AV m) 62 (0, 0))) ∧ Aside0 (Below w.heap.size w w'))
 case atStart => exact ⟨List.replicate 64 false, 0, (by first | rfl | (simp; done) | (simp [*]; done)), H', ⟨Nat.le_refl _⟩, ⟨by simp⟩, ⟨KX_ BK1.out⟩, ⟨KX_ BK2.out⟩, ⟨KX_ BK3.out⟩, ⟨B_⟩⟩
 case round =>
  clear H'
  obtain ⟨m, i, rfl, HA, HK1, HM, BK1, BK2, BK3, HB⟩ := hrel
  cases gk with
  | zero => exact absurd HA.out (by simp [pdom_ends.l0])
  | succ k1 =>
   have H := HA.out
   clear HA
   simp only [pdom_ends.l0] at H
   by_cases c6 : i < (l0_0.length : Int)
   ·rw [if_pos c6] at H
    have c6b0 : decide (i < (l0_0.length : Int)) = true := decide_eq_true c6
    clear c6
    by_cases c7 : 0 ≤ i
    ·rw [if_pos c7] at H
     have c7b0 : decide (0 ≤ i) = true := decide_eq_true c7
     clear c7
     by_cases c8 : i < 64
     ·rw [if_pos c8] at H
      have c8b0 : decide (i < 64) = true := decide_eq_true c8
      have C8 := Aside0.mk c8
      clear c8
      have H' := Aside0.mk H
      clear H
      have p111 : 0 ≤ (i : Int) := D_
      have q111 : i < (l0_0.length : Int) := D_
      obtain ⟨ad111, A111_0, c111_0, e111, hx111_0, hl111_0, hi111_0⟩ := at_L1 HR0_0.out i p111 q111
      cases e111
      replace hx111_0 := (HB.out.cell (World.block_lt_of_cell? w _ hx111_0)).trans hx111_0
      have HI := A_ (And.intro p111 q111)
      clear hi111_0 hl111_0
      replace p111 := eq_true p111
      replace q111 := eq_true q111
      have q64 : (i < (64 : Int)) = True := eq_true C8.out
      have hx3 := av_cell BK3.out i (by rw [HM.out]; exact C8.out) HI.out.1
      have hf3 := blk_frozen BK3.out i.toNat
      go_wp2_with (first
       | ((with_reducible refine gate_store (t := 4) (p := 18) rfl ?_); refine store_event (t := 4) (p := 18) (v := ?vo) (w1 := (wr.setCell ⟨g3, i.toNat, none⟩ (.bool (((rd_L1 l0_0 i).length : Int) == 0)))) ?hg ?ho ?hn ?hr ?_; (case ho => rfl); (case hg => rfl); (case hn => rfl); (case hr => first | (go_simp; done) | (go_simp; rfl)); intro w4 hw; have n0_ := A_ (by rw [hw]; exact blk_far BK1.out NB1_3.out _ : w4.heap[g1]? = some (.cells #[(.slice (some ad111) l0_0.length c0_0), .slice A0_1 l0_1.length c0_1] 26 (0, 0))); have n1_ := A_ (by rw [hw]; exact blk_far BK2.out NB2_3.out _ : w4.heap[g2]? = some (.cells (AV (List.replicate 64 false)) 62 (0, 0))); have n2_ := A_ (by rw [hw]; exact av_put BK3.out i _ : w4.heap[g3]? = some (.cells (AV (m.set i.toNat (((rd_L1 l0_0 i).length : Int) == 0))) 62 (0, 0))); have n3_ := A_ ((by rw [hw]; exact below_set HB.out GE3.out : Below w.heap.size w w4)); clear BK1 BK2 BK3 HB; have BK1 := n0_; have BK2 := n1_; have BK3 := n2_; have HB := n3_; clear n0_ n1_ n2_ n3_ hw hx3 hf3))
      go_roundg k1
      case measure => have := HK1.out; omega
      case rel => exact ⟨_, (wrap64 (i + 1)), (by first | rfl | (simp; done) | (simp [*]; done)), H', ⟨by have := HK1.out; omega⟩, ⟨by simp [HM.out]⟩, ⟨KX_ BK1.out⟩, ⟨KX_ BK2.out⟩, ⟨KX_ BK3.out⟩, ⟨B_⟩⟩
     rw [if_neg c8] at H
     exact absurd H (by simp)
    rw [if_neg c7] at H
    exact absurd H (by simp)
   rw [if_neg c6] at H
   have c6b0 : decide (i < (l0_0.length : Int)) = false := decide_eq_false c6
   clear c6
   obtain rfl := Option.some.inj H
   go_wp2_with (first
    | ((with_reducible refine gate_dst (N := 20) rfl ?_); refine av_load (g := g3) rfl 62 _ rfl ?hx BK3.out Try.underlying62 ?hi ?_; (case hx => first | (go_simp; done) | (go_simp; rfl)); (case hi => rw [HM.out]; kernel_rfl))
    | ((with_reducible refine gate_store (t := 62) (p := 2) rfl ?_); refine av_store (g := g2) (l' := m) rfl 62 _ _ rfl rfl ?hx ?hy BK2.out ?hi ?hl ?_; (case hx => first | (go_simp; done) | (go_simp; rfl)); (case hy => first | (go_simp; done) | (go_simp; rfl)); (case hi => rw [HM.out]; kernel_rfl); (case hl => rw [HM.out]; simp); intro w5 hw; have n2_ := A_ (by rw [hw]; exact av_stored BK2.out : w5.heap[g2]? = some (.cells (AV m) 62 (0, 0))); have n3_ := A_ ((by rw [hw]; exact below_setRow HB.out GE2.out _ : Below w.heap.size w w5)); clear BK1 BK2 BK3 HB; have BK2 := n2_; have HB := n3_; clear n2_ n3_ hw))
   (try simp only [Exit.inBlock, Exit.then])
   refine bodyPost_ret (results_cell_row rfl _ _ g2 _ _ _ _ (by first | (go_simp; done) | (go_simp; rfl) | rfl) BK2.out Try.underlying62 rfl (by rw [av_size, HM.out]; kernel_rfl)) rfl ?_
   exact ⟨rfl, B_⟩

end Go.Proofs.Ytheillkpgmpnlaa.G
