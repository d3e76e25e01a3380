/- Printed by a program of this session (wip/tools/op.py, over the kit's print program): Go functions as plain Lean functions, each with a proof that the call answers so. Conditions: each theorem's own. -/
import Derived.Test.YtheillkpgmpnlaaGx0
namespace Go.Proofs.Ytheillkpgmpnlaa.G
open Go.Proofs.YtheillkpgmpnlaaH
open Go.RowKit Go.Proofs.YtheillkpgmpnlaaW.PrintWords Go.Proofs.YtheillkpgmpnlaaW.PrintLast Go.Proofs.YtheillkpgmpnlaaW.PrintMore
attribute [local go_sem] max2_int min2_int max_two min_two max_three min_three max_four min_four   -- for this text's walks alone
set_option linter.unusedVariables false
set_option linter.unusedSimpArgs false

/-! ### graph_preds: function 35 -/
mutual
def graph_preds.l0 : Nat → List (List Int) → List (List Int) → Int → Int → Option ((List (List Int)))
 | 0, _, _, _, _ => none
 | k + 1, x3, x11, x12, x13 => if x13 < x12 then (if 0 ≤ x13 then (if x13 < (x11.length : Int) then (graph_preds.l1 k x3 x13 x11 x12 x13 (rd_L1 x11 x13) ((rd_L1 x11 x13).length : Int) 0) else (none)) else (none)) else (some x3)
def graph_preds.l1 : Nat → List (List Int) → Int → List (List Int) → Int → Int → List Int → Int → Int → Option ((List (List Int)))
 | 0, _, _, _, _, _, _, _, _ => none
 | k + 1, x3, x4, x11, x12, x13, x18, x19, x20 => if x20 < x19 then (if 0 ≤ x20 then (if x20 < (x18.length : Int) then (if 0 ≤ (rd x18 x20) then (if (rd x18 x20) < (x3.length : Int) then (if (rd_L1 x3 (rd x18 x20)).length < 17592186044416 then (graph_preds.l1 k (x3.set ((rd x18 x20) : Int).toNat ((rd_L1 x3 (rd x18 x20)) ++ [x4])) x4 x11 x12 x13 x18 x19 (wrap64 (x20 + 1))) else (none)) else (none)) else (none)) else (none)) else (none)) else (graph_preds.l0 k x3 x11 x12 (wrap64 (x13 + 1)))
end
def graph_preds.f (k : Nat) (l0 : List (List Int)) : Option ((List (List Int))) := if 0 ≤ (l0.length : Int) then (if ((l0.length : Int) : Int).toNat ≤ 11728124029610 then (graph_preds.l0 k (List.replicate ((l0.length : Int) : Int).toNat []) l0 (l0.length : Int) 0) else (none)) else (none)
theorem graph_preds.mono_l : ∀ k, (∀ y0 y1 y2 y3, LeO (graph_preds.l0 k y0 y1 y2 y3) (graph_preds.l0 (k + 1) y0 y1 y2 y3)) ∧ (∀ y0 y1 y2 y3 y4 y5 y6 y7, LeO (graph_preds.l1 k y0 y1 y2 y3 y4 y5 y6 y7) (graph_preds.l1 (k + 1) y0 y1 y2 y3 y4 y5 y6 y7))
 | 0 => ⟨fun _ _ _ _ r h => by simp [graph_preds.l0] at h, fun _ _ _ _ _ _ _ _ r h => by simp [graph_preds.l1] at h⟩
 | k + 1 => by
  obtain ⟨ih0, ih1⟩ := graph_preds.mono_l k
  refine ⟨?_, ?_⟩
  ·intro y0 y1 y2 y3
   unfold graph_preds.l0
   repeat' (with_reducible first | exact ih0 _ _ _ _ | exact ih1 _ _ _ _ _ _ _ _ | exact LeO.refl _ | exact LeO.none _ | refine LeO.ite ?_ ?_ | refine LeO.bind ?_ (fun _ => ?_))
  ·intro y0 y1 y2 y3 y4 y5 y6 y7
   unfold graph_preds.l1
   repeat' (with_reducible first | exact ih0 _ _ _ _ | exact ih1 _ _ _ _ _ _ _ _ | exact LeO.refl _ | exact LeO.none _ | refine LeO.ite ?_ ?_ | refine LeO.bind ?_ (fun _ => ?_))
theorem graph_preds.mono : ∀ a0 k, LeO (graph_preds.f k a0) (graph_preds.f (k + 1) a0) := by
 intro a0 k
 obtain ⟨ih0, ih1⟩ := graph_preds.mono_l k
 unfold graph_preds.f
 repeat' (with_reducible first | exact ih0 _ _ _ _ | exact ih1 _ _ _ _ _ _ _ _ | exact LeO.refl _ | exact LeO.none _ | refine LeO.ite ?_ ?_ | refine LeO.bind ?_ (fun _ => ?_))
set_option maxHeartbeats 8000000 in
set_option maxRecDepth 100000 in
theorem graph_preds.calls (k : Nat) (A0 : Option Addr) (c0 : Nat) (l0 : List (List Int)) (r : List (List Int)) (w : World) (hr0 : Kd.C (Kd.slice 3 (Kd.int .i64)) w A0 l0.length l0) (hc0 : l0.length ≤ c0) (h : graph_preds.f k l0 = some r) :
 Calls Try.prog 35 #[.slice A0 l0.length c0] w fun e w' => ∃ v0_ : Value, e = .returned (v0_) ∧ Kd.S (Kd.slice 3 (Kd.int .i64)) 31 w' w.heap.size (fun _ => True) v0_ r ∧ Below w.heap.size w w' := by
 have HR0 := Aside0.mk hr0
 have HC0 := Aside0.mk hc0
 clear hr0 hc0
 have HB := A_ (Below.refl w.heap.size w)
 have H : (if 0 ≤ (l0.length : Int) then (if ((l0.length : Int) : Int).toNat ≤ 11728124029610 then (graph_preds.l0 k (List.replicate ((l0.length : Int) : Int).toNat []) l0 (l0.length : Int) 0) else (none)) else (none)) = some r := h
 clear h
 by_cases c2 : 0 ≤ (l0.length : Int)
 ·rw [if_pos c2] at H
  have c2b0 := eq_true c2
  have c2b1 : decide (0 ≤ (l0.length : Int)) = true := decide_eq_true c2
  clear c2
  by_cases c3 : ((l0.length : Int) : Int).toNat ≤ 11728124029610
  ·rw [if_pos c3] at H
   have c3b0 := eq_true c3
   have c3b1 : decide (((l0.length : Int) : Int).toNat ≤ 11728124029610) = true := decide_eq_true c3
   clear c3
   obtain ⟨y108, hy108⟩ : ∃ y_ : List (List Int), y_ = (List.replicate ((l0.length : Int) : Int).toNat []) := ⟨_, rfl⟩
   replace H : (graph_preds.l0 k y108 l0 (l0.length : Int) 0) = some r := by first | (rw [hy108]; with_reducible exact H) | (have H2_ := (Option.bind_some _ _).symm.trans H; rw [hy108]; with_reducible exact H2_) | (have H2_ := (Option.bind_some _ _).symm.trans H; with_reducible exact H2_) | with_reducible exact H | (rw [hy108]; exact H) | exact H
   have Ny108 := Aside0.mk hy108
   clear hy108
   have H' := Aside0.mk H
   clear H
   go_enter Try.func35, Try.ntmps35
   go_wp2_with (first | ((with_reducible refine gate_dst (N := 10) rfl ?_); refine Kd.S_make (Kd.slice 3 (Kd.int .i64)) _ 31 rfl (N := 10) rfl 22 _ _ rfl (l0.length : Int) rfl rfl Try.underlying22 (.slice none 0 0) 24 info31 rfl (by decide) (by omega) [] (ok := fun _ => True) (okp := fun _ => True) ⟨_, rfl, Kd.R_nil _ _ _ _ _⟩ (fun _ hk => hk) trivial (D_) (Nat.le_trans (Nat.mul_le_mul_right _ (D_ : (l0.length : Int).toNat ≤ 11728124029610)) (by omega)) (Below.refl _ _) (Nat.le_refl _) ?_; intro v109 w4 ho5 hb hg_ hnew_; clear hg_ hnew_; (first | rw [← Ny108.out] at ho5 | (simp only [Int.reduceToNat] at ho5; rw [← Ny108.out] at ho5)); have HO110 := A_ (Kd.S_lower ho5 (below_size (B_))); replace HB := A_ (below_step (B_) hb); clear hb ho5))
   go_loopg [13] k (fun kq v13 w' => ∃ (x3_1 : List (List Int)) (x13_1 : Int), v13 = .int .i64 x13_1 ∧ Aside0 (graph_preds.l0 kq x3_1 l0 (l0.length : Int) x13_1 = some r) ∧ Aside0 (kq ≤ k) ∧ Aside0 (Kd.S (Kd.slice 3 (Kd.int .i64)) 31 w' w.heap.size (fun _ => True) v109 x3_1) ∧ Aside0 (Below w.heap.size w w'))
   case atStart => exact ⟨(y108), (0), (by first | rfl | (simp; done) | (simp [*]; done)), H', ⟨Nat.le_refl _⟩, ⟨by exact SM_ HO110.out⟩, ⟨B_⟩⟩
   case round =>
    clear H'
    try clear c2b0
    try clear c2b1
    try clear c3b0
    try clear c3b1
    obtain ⟨x3_1, x13_1, rfl, HA, HK1, HO_3, HB⟩ := hrel
    cases gk with
    | zero => exact absurd HA.out (by simp [graph_preds.l0])
    | succ k1 =>
     have H := HA.out
     clear HA
     simp only [graph_preds.l0] at H
     by_cases c6 : x13_1 < (l0.length : Int)
     ·rw [if_pos c6] at H
      have c6b0 : decide (x13_1 < (l0.length : Int)) = true := decide_eq_true c6
      clear c6
      by_cases c7 : 0 ≤ x13_1
      ·rw [if_pos c7] at H
       have c7b0 : decide (0 ≤ x13_1) = true := decide_eq_true c7
       clear c7
       by_cases c8 : x13_1 < (l0.length : Int)
       ·rw [if_pos c8] at H
        have c8b0 : decide (x13_1 < (l0.length : Int)) = true := decide_eq_true c8
        clear c8
        have H' := Aside0.mk H
        clear H
        have p111 : 0 ≤ (x13_1 : Int) := D_
        have q111 : x13_1 < (l0.length : Int) := D_
        obtain ⟨ad111, A111_0, c111_0, e111, hx111_0, hl111_0, hi111_0⟩ := at_L1 HR0.out x13_1 p111 q111
        cases e111
        replace hx111_0 := (HB.out.cell (World.block_lt_of_cell? w _ hx111_0)).trans hx111_0
        have HR111_0 := Aside0.mk hi111_0
        have HC111_0 := Aside0.mk hl111_0
        clear hi111_0 hl111_0
        replace p111 := eq_true p111
        replace q111 := eq_true q111
        go_wp2
        go_loopg [20] k1 (fun kq v20 w' => ∃ (x3_2 : List (List Int)) (x20_2 : Int), v20 = .int .i64 x20_2 ∧ Aside0 (graph_preds.l1 kq x3_2 x13_1 l0 (l0.length : Int) x13_1 (rd_L1 l0 x13_1) ((rd_L1 l0 x13_1).length : Int) x20_2 = some r) ∧ Aside0 (kq ≤ k1) ∧ Aside0 (Kd.S (Kd.slice 3 (Kd.int .i64)) 31 w' w.heap.size (fun _ => True) v109 x3_2) ∧ Aside0 (Below w.heap.size w w'))
        case atStart => exact ⟨(x3_1), (0), (by first | rfl | (simp; done) | (simp [*]; done)), H', ⟨Nat.le_refl _⟩, ⟨by exact SM_ HO_3.out⟩, ⟨B_⟩⟩
        case round =>
         clear H'
         try clear c6b0
         try clear c7b0
         try clear c8b0
         try clear hx111_0
         try clear p111
         try clear q111
         obtain ⟨x3_2, x20_2, rfl, HA, HK2, HO_3, HB⟩ := hrel
         cases gk with
         | zero => exact absurd HA.out (by simp [graph_preds.l1])
         | succ k2 =>
          have H := HA.out
          clear HA
          simp only [graph_preds.l1] at H
          by_cases c9 : x20_2 < ((rd_L1 l0 x13_1).length : Int)
          ·rw [if_pos c9] at H
           have c9b0 : decide (x20_2 < ((rd_L1 l0 x13_1).length : Int)) = true := decide_eq_true c9
           clear c9
           by_cases c10 : 0 ≤ x20_2
           ·rw [if_pos c10] at H
            have c10b0 : decide (0 ≤ x20_2) = true := decide_eq_true c10
            clear c10
            by_cases c11 : x20_2 < ((rd_L1 l0 x13_1).length : Int)
            ·rw [if_pos c11] at H
             have c11b0 : decide (x20_2 < ((rd_L1 l0 x13_1).length : Int)) = true := decide_eq_true c11
             clear c11
             by_cases c12 : 0 ≤ (rd (rd_L1 l0 x13_1) x20_2)
             ·rw [if_pos c12] at H
              have c12b0 : decide (0 ≤ (rd (rd_L1 l0 x13_1) x20_2)) = true := decide_eq_true c12
              clear c12
              by_cases c13 : (rd (rd_L1 l0 x13_1) x20_2) < (x3_2.length : Int)
              ·rw [if_pos c13] at H
               have c13b0 : decide ((rd (rd_L1 l0 x13_1) x20_2) < (x3_2.length : Int)) = true := decide_eq_true c13
               clear c13
               by_cases c14 : (rd_L1 x3_2 (rd (rd_L1 l0 x13_1) x20_2)).length < 17592186044416
               ·rw [if_pos c14] at H
                have LMc14 := Aside0.mk c14
                clear c14
                obtain ⟨y114, hy114⟩ : ∃ y_ : List Int, y_ = ((rd_L1 x3_2 (rd (rd_L1 l0 x13_1) x20_2)) ++ [x13_1]) := ⟨_, rfl⟩
                replace H : (graph_preds.l1 k2 (x3_2.set ((rd (rd_L1 l0 x13_1) x20_2) : Int).toNat y114) x13_1 l0 (l0.length : Int) x13_1 (rd_L1 l0 x13_1) ((rd_L1 l0 x13_1).length : Int) (wrap64 (x20_2 + 1))) = some r := by first | (rw [hy114]; with_reducible exact H) | (have H2_ := (Option.bind_some _ _).symm.trans H; rw [hy114]; with_reducible exact H2_) | (have H2_ := (Option.bind_some _ _).symm.trans H; with_reducible exact H2_) | with_reducible exact H | (rw [hy114]; exact H) | exact H
                have Ny114 := Aside0.mk hy114
                clear hy114
                obtain ⟨y117, hy117⟩ : ∃ y_ : List (List Int), y_ = (x3_2.set ((rd (rd_L1 l0 x13_1) x20_2) : Int).toNat y114) := ⟨_, rfl⟩
                replace H : (graph_preds.l1 k2 y117 x13_1 l0 (l0.length : Int) x13_1 (rd_L1 l0 x13_1) ((rd_L1 l0 x13_1).length : Int) (wrap64 (x20_2 + 1))) = some r := by first | (rw [hy117]; with_reducible exact H) | (have H2_ := (Option.bind_some _ _).symm.trans H; rw [hy117]; with_reducible exact H2_) | (have H2_ := (Option.bind_some _ _).symm.trans H; with_reducible exact H2_) | with_reducible exact H | (rw [hy117]; exact H) | exact H
                have Ny117 := Aside0.mk hy117
                clear hy117
                have H' := Aside0.mk H
                clear H
                have p112 : 0 ≤ (x20_2 : Int) := D_
                have q112 : x20_2 < ((rd_L1 l0 x13_1).length : Int) := D_
                obtain ⟨ad112, e112, hx112_0⟩ := Kd.at_int HR111_0.out x20_2 p112 q112
                cases e112
                replace hx112_0 := (HB.out.cell (World.block_lt_of_cell? w _ hx112_0)).trans hx112_0
                replace p112 := eq_true p112
                replace q112 := eq_true q112
                obtain ⟨Ao16, co16, eo16⟩ := Kd.S_slice HO_3.out
                subst eo16
                have p113 : 0 ≤ ((rd (rd_L1 l0 x13_1) x20_2) : Int) := D_
                have q113 : (rd (rd_L1 l0 x13_1) x20_2) < (x3_2.length : Int) := D_
                obtain ⟨ad113, A113_0, c113_0, e113, hx113_0, hl113_0, hi113_0⟩ := at_L1 (Kd.S_reads' HO_3.out).2.2 (rd (rd_L1 l0 x13_1) x20_2) p113 q113
                cases e113
                obtain ⟨ce113, hce113, hMe113, hcc113⟩ := Kd.S_get HO_3.out [] (rd (rd_L1 l0 x13_1) x20_2) p113 (by first | exact q113 | exact D_ | (have e_ := (Kd.S_reads' HO_3.out).1; omega))
                obtain ⟨ve113_0, rfl, ge113_0⟩ := hMe113
                have hv113_0 := hcc113 0 _ rfl
                rw [Nat.add_zero, show ((Kd.slice 3 (Kd.int .i64))).sz = 1 from rfl, Nat.mul_one] at hv113_0
                replace hv113_0 := Option.some.inj (hv113_0.symm.trans hx113_0)
                rw [hv113_0] at ge113_0
                have HL113_0 := A_ (show Kd.R (Kd.int .i64) 3 _ _ _ _ (rd_L1 x3_2 (rd (rd_L1 l0 x13_1) x20_2)) from ge113_0)
                clear hv113_0 ge113_0
                have HX113_0 := Aside0.mk hx113_0
                clear hcc113 hce113
                have HR113_0 := Aside0.mk hi113_0
                have HC113_0 := Aside0.mk hl113_0
                clear hi113_0 hl113_0
                replace p113 := eq_true p113
                replace q113 := eq_true q113
                obtain ⟨go17, co17, eo17, gb17, gl17, cl17, HG17⟩ := Kd.S_form HO_3.out (by have h_ : ((rd (rd_L1 l0 x13_1) x20_2) : Int) < ((x3_2.length : Int) : Int) := D_; have h2_ : 0 ≤ ((rd (rd_L1 l0 x13_1) x20_2) : Int) := (D_); omega)
                (first | cases eo17 | (injection eo17 with ea_ en_ ec_; (first | subst ea_ | (injection ea_ with ea_; subst ea_)); subst ec_; clear en_))
                have GB17 := Aside0.mk gb17
                have GG17 := Aside0.mk HG17
                clear gb17 gl17 HG17
                (first | simp only [add_plain] at hx113_0 | skip)
                obtain ⟨oki17, ce17, hcl17, hM17, hcc17, _, _, hH17⟩ := Kd.S_elem HO_3.out [] ((rd (rd_L1 l0 x13_1) x20_2) : Int) (D_) (by have h_ : ((rd (rd_L1 l0 x13_1) x20_2) : Int) < ((x3_2.length : Int) : Int) := D_; first | exact h_ | (have e_ := (Kd.S_reads' HO_3.out).1; omega) | simpa using h_)
                obtain ⟨ve17_0, rfl, ge17_0⟩ := hM17
                have hv17 := hcc17 0 _ rfl
                have hX17 := HX113_0.out
                (try simp only [add_plain] at hX17)
                (try simp only [Nat.add_zero] at hv17)
                (try rw [show ((Kd.slice 3 (Kd.int .i64))).sz = 1 from rfl, Nat.mul_one] at hv17)
                replace hv17 := Option.some.inj (hv17.symm.trans hX17)
                subst hv17
                clear hX17 hcc17 hcl17
                have UU17 := A_ (show Kd.R (Kd.int .i64) 3 _ w.heap.size oki17 (.slice A113_0 (rd_L1 x3_2 (rd (rd_L1 l0 x13_1) x20_2)).length c113_0) (rd_L1 x3_2 (rd (rd_L1 l0 x13_1) x20_2)) from ge17_0)
                have HH17 := Aside0.mk hH17
                have HN17 := A_ (Kd.S_reads' HO_3.out).1
                clear hH17 ge17_0
                go_wp2_with (first | ((with_reducible refine gate_builtin (b := .append) (xs := #[.tmp 29, .tmp 31]) rfl ?_); at_builtin; refine Kd.R_append (Kd.int .i64) (w0 := w) w.heap.size rfl (.tmp 29) (.tmp 31) 31 3 (.int .i64 0) 8 rfl Try.underlying31 info3 rfl (by decide) (by omega) (.slice A113_0 (rd_L1 x3_2 (rd (rd_L1 l0 x13_1) x20_2)).length c113_0) (rd_L1 x3_2 (rd (rd_L1 l0 x13_1) x20_2)) x13_1 [.int .i64 x13_1] (fun k_ => oki17 k_ ∨ ((fun _ => True)) k_ ∧ wr.heap.size ≤ k_) (fun _ => False) rfl rfl ?aP (fun _ hk => hk.elim) ?aF ?aO ?aB ?aS ?aL ?_; (case aP => exact rfl); (case aB => exact (B_)); (case aF => exact (fun k_ hk => .inr ⟨trivial, hk⟩)); (case aO => exact (by (with_reducible repeat (first | apply Kd.R_alloc | apply Kd.R_drewN | apply Kd.R_drew)); exact Kd.R_mono UU17.out (fun _ hk => .inl hk))); (case aS => exact (below_size (B_))); (case aL => have := LMc14.out; omega); intro v115 w18 ho hb hg hat; rw [← Ny114.out] at ho; replace HB := A_ (hb); replace HH17 := A_ (Kd.H_grown (Kd.H_widen (by repeat (first | exact HH17.out | refine Kd.H_alloc ?_ _ | refine Kd.H_drewN ?_ _ | refine Kd.H_drew ?_))) hg (fun k_ e_ => .inl (UU17.out.1 k_ e_))); have HO116 := A_ (ho); clear HO_3 UU17 HL113_0; clear ho hb hg hat; have p15 : 0 ≤ ((rd (rd_L1 l0 x13_1) x20_2) : Int) := D_; have q15 : ((rd (rd_L1 l0 x13_1) x20_2) : Int) < ((x3_2.length : Int) : Int) := D_; replace p15 := eq_true p15; replace q15 := eq_true q15; obtain ⟨Ao21, co21, eo21⟩ := Kd.R_slice HO116.out; subst eo21; obtain ⟨_, _, hraw19, _, _, hcc19, _⟩ := Kd.H_raw HH17.out (D_) (by have h_ : ((rd (rd_L1 l0 x13_1) x20_2) : Int) < ((x3_2.length : Int) : Int) := D_; first | exact h_ | (have e_ := (HN17.out); omega) | simpa using h_); obtain ⟨_, hfr19⟩ := Kd.H_at HH17.out (D_) (by have h_ : ((rd (rd_L1 l0 x13_1) x20_2) : Int) < ((x3_2.length : Int) : Int) := D_; first | exact h_ | (have e_ := (HN17.out); omega) | simpa using h_); have hx19_0 := hcc19 0 _ rfl; have hf19_0 := hfr19 0; (try simp only [Nat.add_zero] at hx19_0 hf19_0); (try rw [show ((Kd.slice 3 (Kd.int .i64))).sz = 1 from rfl, Nat.mul_one] at hx19_0); (try rw [show ((Kd.slice 3 (Kd.int .i64))).sz = 1 from rfl, Nat.mul_one] at hf19_0); have HP19 := Kd.S_seg0 HH17.out (D_) (by have h_ : ((rd (rd_L1 l0 x13_1) x20_2) : Int) < ((x3_2.length : Int) : Int) := D_; first | exact h_ | (have e_ := (HN17.out); omega) | simpa using h_) (seg := [.slice Ao21 y114.length co21]) (j := 0) (show 1 ≤ 1 from by decide) (x' := y114) (Kd.M_row HO116.out) (fun _ hk => hk); (try simp only [show ((Kd.slice 3 (Kd.int .i64))).sz = 1 from rfl, Nat.mul_one, Nat.add_zero] at HP19); clear hcc19 hfr19) | ((with_reducible refine gate_store (t := 31) (p := 33) rfl ?_); refine store_event (t := 31) (p := 33) (v := ?vo_w20) (w1 := (w18.setCell ⟨go17, ((rd (rd_L1 l0 x13_1) x20_2) : Int).toNat, none⟩ (.slice Ao21 y114.length co21))) ?hg ?ho ?hn ?hr ?_; (case ho => rfl); (case hg => rfl); (case hn => rfl); (case hr => first | (go_simp; done) | (go_simp; rfl)); intro w20 hw; have hg : w18.grownBy w20 (some go17) := (by rw [hw]; exact HP19.2); have hp_ : Kd.S (Kd.slice 3 (Kd.int .i64)) 31 w20 w.heap.size (fun _ => True) (.slice (some ⟨go17, 0, none⟩) x3_2.length co16) y117 := (by rw [hw, Ny117.out]; exact HP19.1); clear HP19; replace HB := A_ ((by rw [hw]; exact below_set HB.out GB17.out : Below w.heap.size w w20)); have HO_3 := A_ (hp_); clear HO116 HH17; clear hg hw hp_ hraw19))
                go_roundg k2
                case measure => have := HK1.out; have := HK2.out; omega
                case rel => exact ⟨(y117), (wrap64 (x20_2 + 1)), (by first | rfl | (simp; done) | (simp [*]; done)), H', ⟨by have := HK1.out; have := HK2.out; omega⟩, ⟨by exact SM_ HO_3.out⟩, ⟨B_⟩⟩
               rw [if_neg c14] at H
               exact absurd H (by simp)
              rw [if_neg c13] at H
              exact absurd H (by simp)
             rw [if_neg c12] at H
             exact absurd H (by simp)
            rw [if_neg c11] at H
            exact absurd H (by simp)
           rw [if_neg c10] at H
           exact absurd H (by simp)
          rw [if_neg c9] at H
          have c9b0 : decide (x20_2 < ((rd_L1 l0 x13_1).length : Int)) = false := decide_eq_false c9
          clear c9
          have H' := Aside0.mk H
          clear H
          go_wp2
          go_roundg k2
          case measure => have := HK1.out; have := HK2.out; omega
          case rel => exact ⟨(x3_2), (wrap64 (x13_1 + 1)), (by first | rfl | (simp; done) | (simp [*]; done)), H', ⟨by have := HK1.out; have := HK2.out; omega⟩, ⟨by exact SM_ HO_3.out⟩, ⟨B_⟩⟩
       rw [if_neg c8] at H
       exact absurd H (by simp)
      rw [if_neg c7] at H
      exact absurd H (by simp)
     rw [if_neg c6] at H
     have c6b0 : decide (x13_1 < (l0.length : Int)) = false := decide_eq_false c6
     clear c6
     obtain rfl := Option.some.inj H
     go_wp2
     go_ret
     exact ⟨_, by first | rfl | (simp [errW_none, errW_some] <;> rfl) | (simp [*, errW_none, errW_some] <;> rfl), by exact SX_ HO_3.out, B_⟩
  rw [if_neg c3] at H
  exact absurd H (by simp)
 rw [if_neg c2] at H
 exact absurd H (by simp)

end Go.Proofs.Ytheillkpgmpnlaa.G
