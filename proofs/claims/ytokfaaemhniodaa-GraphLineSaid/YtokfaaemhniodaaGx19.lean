/- Printed by a program of this session (wip/tools/op.py, over the kit's print program): Go functions as plain Lean functions, each with a proof that the call answers so. Conditions: each theorem's own. -/
import Derived.Test.YtokfaaemhniodaaGx0
import Derived.Test.YtokfaaemhniodaaGx4
import Derived.Test.YtokfaaemhniodaaGx9
import Derived.Test.YtokfaaemhniodaaGx10
import Derived.Test.YtokfaaemhniodaaGx14
import Derived.Test.YtokfaaemhniodaaGx18
namespace Go.Proofs.Ytokfaaemhniodaa.G
open Go.Proofs.YtokfaaemhniodaaH
open Go.RowKit Go.Proofs.YtokfaaemhniodaaW.PrintWords Go.Proofs.YtokfaaemhniodaaW.PrintLast Go.Proofs.YtokfaaemhniodaaW.PrintMore
attribute [local go_sem] max2_int min2_int max_two min_two max_three min_three max_four min_four   -- for this text's walks alone
set_option linter.unusedVariables false
set_option linter.unusedSimpArgs false

/-! ### locksteplaw06_GraphLine: function 9 -/
mutual
def locksteplaw06_GraphLine.l0 : Nat → Int → Bool → Int → List (List Int) → Int → Option (Bool)
 | 0, _, _, _, _, _ => none
 | k + 1, x1, x2, x7, x8, x9 => if (wrap64 (x9 + 1)) < x7 then (if 0 ≤ x9 then (if x9 < (x8.length : Int) then (locksteplaw06_GraphLine.l0 k x1 x2 x7 (x8.set (x9 : Int).toNat (([wrap64 (x9 + 1)] : List Int))) (wrap64 (x9 + 1))) else (none)) else (none)) else (if x2 = true then (if 0 ≤ (wrap64 (x7 - 1)) then (if (wrap64 (x7 - 1)) < (x8.length : Int) then (locksteplaw06_GraphLine.j1 k x1 x2 x7 (x8.set ((wrap64 (x7 - 1)) : Int).toNat (([0] : List Int)))) else (none)) else (none)) else (locksteplaw06_GraphLine.j1 k x1 x2 x7 x8))
def locksteplaw06_GraphLine.j1 : Nat → Int → Bool → Int → List (List Int) → Option (Bool)
 | 0, _, _, _, _ => none
 | k + 1, x1, x2, x7, x8 => (graph_Make.f k x8).bind fun bt355 => (if x7 = 0 then (none) else (locksteplaw06_GraphLine.l1 k x2 x7 bt355.2.2 (Int.tmod (wrap64 (x1)) x7) ([] : List Int) 0 bt355.1 bt355.2.1))
def locksteplaw06_GraphLine.l1 : Nat → Bool → Int → Int → Int → List Int → Int → List (List Int) → List (List Int) → Option (Bool)
 | 0, _, _, _, _, _, _, _, _ => none
 | k + 1, x2, x7, x11, x12, x13, x14, x363000, x363001 => if x14 < x7 then (if x2 = true then (if x7 = 0 then (none) else (if x13.length < 17592186044416 then (locksteplaw06_GraphLine.l1 k x2 x7 x11 x12 (x13 ++ [Int.tmod (wrap64 (x12 + x14)) x7]) (wrap64 (x14 + 1)) x363000 x363001) else (none))) else (if (wrap64 (x12 + x14)) < x7 then (if x7 = 0 then (none) else (if x13.length < 17592186044416 then (locksteplaw06_GraphLine.l1 k x2 x7 x11 x12 (x13 ++ [Int.tmod (wrap64 (x12 + x14)) x7]) (wrap64 (x14 + 1)) x363000 x363001) else (none))) else (locksteplaw06_GraphLine.l1 k x2 x7 x11 x12 x13 (wrap64 (x14 + 1)) x363000 x363001))) else (if x11 = 0 then ((lockstepref06_May.f k x363000 x363001).bind fun t369 => (if t369 = true then ((graph_Order.f k x363000 x363001 x12).bind fun t370 => ((lockstepref02_Ints.f k t370 x13).bind fun t373 => (some t373))) else (some false))) else (some false))
end
def locksteplaw06_GraphLine.f (k : Nat) (a0 : Int) (a1 : Int) (a2 : Bool) : Option (Bool) := (locksteplaw06_awake.f k).bind fun t343 => (if t343 = true then (if 0 ≤ (wrap64 (1 + (Int.tmod (wrap64 (a0)) 60))) then (if (wrap64 (1 + (Int.tmod (wrap64 (a0)) 60)) : Int).toNat ≤ 11728124029610 then (locksteplaw06_GraphLine.l0 k a1 a2 (wrap64 (1 + (Int.tmod (wrap64 (a0)) 60))) (List.replicate (wrap64 (1 + (Int.tmod (wrap64 (a0)) 60)) : Int).toNat []) 0) else (none)) else (none)) else (some false))
theorem locksteplaw06_GraphLine.mono_l : ∀ k, (∀ y0 y1 y2 y3 y4, LeO (locksteplaw06_GraphLine.l0 k y0 y1 y2 y3 y4) (locksteplaw06_GraphLine.l0 (k + 1) y0 y1 y2 y3 y4)) ∧ (∀ y0 y1 y2 y3, LeO (locksteplaw06_GraphLine.j1 k y0 y1 y2 y3) (locksteplaw06_GraphLine.j1 (k + 1) y0 y1 y2 y3)) ∧ (∀ y0 y1 y2 y3 y4 y5 y6 y7, LeO (locksteplaw06_GraphLine.l1 k y0 y1 y2 y3 y4 y5 y6 y7) (locksteplaw06_GraphLine.l1 (k + 1) y0 y1 y2 y3 y4 y5 y6 y7))
 | 0 => ⟨fun _ _ _ _ _ r h => by simp [locksteplaw06_GraphLine.l0] at h, fun _ _ _ _ r h => by simp [locksteplaw06_GraphLine.j1] at h, fun _ _ _ _ _ _ _ _ r h => by simp [locksteplaw06_GraphLine.l1] at h⟩
 | k + 1 => by
  obtain ⟨ih0, ih1, ih2⟩ := locksteplaw06_GraphLine.mono_l k
  refine ⟨?_, ?_, ?_⟩
  ·intro y0 y1 y2 y3 y4
   unfold locksteplaw06_GraphLine.l0
   repeat' first
   | (with_reducible exact ih0 _ _ _ _ _)
   | (with_reducible exact ih1 _ _ _ _)
   | (with_reducible exact ih2 _ _ _ _ _ _ _ _)
   | (with_reducible exact graph_Make.mono _ _)
   | (with_reducible exact graph_Order.mono _ _ _ _)
   | (with_reducible exact locksteplaw06_awake.mono _)
   | (with_reducible exact lockstepref02_Ints.mono _ _ _)
   | (with_reducible exact lockstepref06_May.mono _ _ _)
   | (with_reducible exact LeO.refl _)
   | (with_reducible exact LeO.none _)
   | (with_reducible refine LeO.ite ?_ ?_)
   | (with_reducible refine LeO.bind ?_ (fun _ => ?_))
   | exact ih0 _ _ _ _ _
   | exact ih1 _ _ _ _
   | exact ih2 _ _ _ _ _ _ _ _
   | exact graph_Make.mono _ _
   | exact graph_Order.mono _ _ _ _
   | exact locksteplaw06_awake.mono _
   | exact lockstepref02_Ints.mono _ _ _
   | exact lockstepref06_May.mono _ _ _
   | exact LeO.none _
   | refine LeO.ite ?_ ?_
   | refine LeO.bind ?_ (fun _ => ?_)
  ·intro y0 y1 y2 y3
   unfold locksteplaw06_GraphLine.j1
   repeat' first
   | (with_reducible exact ih0 _ _ _ _ _)
   | (with_reducible exact ih1 _ _ _ _)
   | (with_reducible exact ih2 _ _ _ _ _ _ _ _)
   | (with_reducible exact graph_Make.mono _ _)
   | (with_reducible exact graph_Order.mono _ _ _ _)
   | (with_reducible exact locksteplaw06_awake.mono _)
   | (with_reducible exact lockstepref02_Ints.mono _ _ _)
   | (with_reducible exact lockstepref06_May.mono _ _ _)
   | (with_reducible exact LeO.refl _)
   | (with_reducible exact LeO.none _)
   | (with_reducible refine LeO.ite ?_ ?_)
   | (with_reducible refine LeO.bind ?_ (fun _ => ?_))
   | exact ih0 _ _ _ _ _
   | exact ih1 _ _ _ _
   | exact ih2 _ _ _ _ _ _ _ _
   | exact graph_Make.mono _ _
   | exact graph_Order.mono _ _ _ _
   | exact locksteplaw06_awake.mono _
   | exact lockstepref02_Ints.mono _ _ _
   | exact lockstepref06_May.mono _ _ _
   | exact LeO.none _
   | refine LeO.ite ?_ ?_
   | refine LeO.bind ?_ (fun _ => ?_)
  ·intro y0 y1 y2 y3 y4 y5 y6 y7
   unfold locksteplaw06_GraphLine.l1
   repeat' first
   | (with_reducible exact ih0 _ _ _ _ _)
   | (with_reducible exact ih1 _ _ _ _)
   | (with_reducible exact ih2 _ _ _ _ _ _ _ _)
   | (with_reducible exact graph_Make.mono _ _)
   | (with_reducible exact graph_Order.mono _ _ _ _)
   | (with_reducible exact locksteplaw06_awake.mono _)
   | (with_reducible exact lockstepref02_Ints.mono _ _ _)
   | (with_reducible exact lockstepref06_May.mono _ _ _)
   | (with_reducible exact LeO.refl _)
   | (with_reducible exact LeO.none _)
   | (with_reducible refine LeO.ite ?_ ?_)
   | (with_reducible refine LeO.bind ?_ (fun _ => ?_))
   | exact ih0 _ _ _ _ _
   | exact ih1 _ _ _ _
   | exact ih2 _ _ _ _ _ _ _ _
   | exact graph_Make.mono _ _
   | exact graph_Order.mono _ _ _ _
   | exact locksteplaw06_awake.mono _
   | exact lockstepref02_Ints.mono _ _ _
   | exact lockstepref06_May.mono _ _ _
   | exact LeO.none _
   | refine LeO.ite ?_ ?_
   | refine LeO.bind ?_ (fun _ => ?_)
theorem locksteplaw06_GraphLine.mono : ∀ a0 a1 a2 k, LeO (locksteplaw06_GraphLine.f k a0 a1 a2) (locksteplaw06_GraphLine.f (k + 1) a0 a1 a2) := by
 intro a0 a1 a2 k
 obtain ⟨ih0, ih1, ih2⟩ := locksteplaw06_GraphLine.mono_l k
 unfold locksteplaw06_GraphLine.f
 repeat' first
  | (with_reducible exact ih0 _ _ _ _ _)
  | (with_reducible exact ih1 _ _ _ _)
  | (with_reducible exact ih2 _ _ _ _ _ _ _ _)
  | (with_reducible exact graph_Make.mono _ _)
  | (with_reducible exact graph_Order.mono _ _ _ _)
  | (with_reducible exact locksteplaw06_awake.mono _)
  | (with_reducible exact lockstepref02_Ints.mono _ _ _)
  | (with_reducible exact lockstepref06_May.mono _ _ _)
  | (with_reducible exact LeO.refl _)
  | (with_reducible exact LeO.none _)
  | (with_reducible refine LeO.ite ?_ ?_)
  | (with_reducible refine LeO.bind ?_ (fun _ => ?_))
  | exact ih0 _ _ _ _ _
  | exact ih1 _ _ _ _
  | exact ih2 _ _ _ _ _ _ _ _
  | exact graph_Make.mono _ _
  | exact graph_Order.mono _ _ _ _
  | exact locksteplaw06_awake.mono _
  | exact lockstepref02_Ints.mono _ _ _
  | exact lockstepref06_May.mono _ _ _
  | exact LeO.none _
  | refine LeO.ite ?_ ?_
  | refine LeO.bind ?_ (fun _ => ?_)
set_option maxHeartbeats 8000000 in
set_option maxRecDepth 100000 in
theorem locksteplaw06_GraphLine.calls (k : Nat) (a0 : Int) (a1 : Int) (a2 : Bool) (w : World) (h : locksteplaw06_GraphLine.f k a0 a1 a2 = some true) :
 Calls Try.prog 9 #[.int .u8 a0, .int .u8 a1, .bool a2] w fun e w' => e = .returned (.bool true) ∧ Below w.heap.size w w' := by
 have hu45 := Try.underlying45
 have HB := Aside0.mk (Below.refl w.heap.size w)
 have H : ((locksteplaw06_awake.f k).bind fun t343 => (if t343 = true then (if 0 ≤ (wrap64 (1 + (Int.tmod (wrap64 (a0)) 60))) then (if (wrap64 (1 + (Int.tmod (wrap64 (a0)) 60)) : Int).toNat ≤ 11728124029610 then (locksteplaw06_GraphLine.l0 k a1 a2 (wrap64 (1 + (Int.tmod (wrap64 (a0)) 60))) (List.replicate (wrap64 (1 + (Int.tmod (wrap64 (a0)) 60)) : Int).toNat []) 0) else (none)) else (none)) else (some false))) = some true := h
 clear h
 replace H := Option.bind_eq_some_iff.mp H
 obtain ⟨t343, A40, H⟩ := H
 replace H : (if t343 = true then (if 0 ≤ (wrap64 (1 + (Int.tmod (wrap64 (a0)) 60))) then (if (wrap64 (1 + (Int.tmod (wrap64 (a0)) 60)) : Int).toNat ≤ 11728124029610 then (locksteplaw06_GraphLine.l0 k a1 a2 (wrap64 (1 + (Int.tmod (wrap64 (a0)) 60))) (List.replicate (wrap64 (1 + (Int.tmod (wrap64 (a0)) 60)) : Int).toNat []) 0) else (none)) else (none)) else (some false)) = some true := H
 have A4 := Aside0.mk A40
 clear A40
 by_cases c5 : t343 = true
 ·subst c5
  have H1 : (if 0 ≤ (wrap64 (1 + (Int.tmod (wrap64 (a0)) 60))) then (if (wrap64 (1 + (Int.tmod (wrap64 (a0)) 60)) : Int).toNat ≤ 11728124029610 then (locksteplaw06_GraphLine.l0 k a1 a2 (wrap64 (1 + (Int.tmod (wrap64 (a0)) 60))) (List.replicate (wrap64 (1 + (Int.tmod (wrap64 (a0)) 60)) : Int).toNat []) 0) else (none)) else (none)) = some true := by rw [if_pos rfl] at H; exact H
  clear H
  have H := H1
  clear H1
  obtain ⟨ji6, hji6⟩ : ∃ j_ : Int, (wrap64 (1 + (Int.tmod (wrap64 (a0)) 60))) = j_ := ⟨_, rfl⟩
  replace H : (if 0 ≤ (ji6) then (if (ji6 : Int).toNat ≤ 11728124029610 then (locksteplaw06_GraphLine.l0 k a1 a2 ji6 (List.replicate (ji6 : Int).toNat []) 0) else (none)) else (none)) = some true := by first | (rw [hji6] at H; exact H) | (simp only [hji6] at H ⊢; exact H)
  (try rw [hji6] at A4)
  have hji6w : (IntKind.i64.wrap (1 + (Int.tmod (wrap64 (a0)) 60))) = ji6 := (i64_w _).trans hji6
  by_cases c7 : 0 ≤ (ji6)
  ·rw [if_pos c7] at H
   have c7b0 := eq_true c7
   have c7b1 : decide (0 ≤ (ji6)) = true := decide_eq_true c7
   clear c7
   by_cases c8 : (ji6 : Int).toNat ≤ 11728124029610
   ·rw [if_pos c8] at H
    have c8b0 := eq_true c8
    have c8b1 : decide ((ji6 : Int).toNat ≤ 11728124029610) = true := decide_eq_true c8
    clear c8
    obtain ⟨y344, hy344⟩ : ∃ y_ : List (List Int), y_ = (List.replicate (ji6 : Int).toNat []) := ⟨_, rfl⟩
    replace H : (locksteplaw06_GraphLine.l0 k a1 a2 ji6 y344 0) = some true := by first | (rw [hy344]; with_reducible exact H) | (have H2_ := (Option.bind_some _ _).symm.trans H; rw [hy344]; with_reducible exact H2_) | (have H2_ := (Option.bind_some _ _).symm.trans H; with_reducible exact H2_) | with_reducible exact H | (rw [hy344]; exact H) | exact H
    have Ny344 := Aside0.mk hy344
    clear hy344
    have H' := Aside0.mk H
    clear H
    go_enter Try.func9, Try.ntmps9
    go_wp2_with (first | ((with_reducible refine gate_callee (f := 21) rfl ?_); refine goesL_ (some 15) rfl rfl Try.func21 (by kernel_rfl) rfl #[] rfl (by (try simp only [List.map_toArray, List.map_cons, List.map_nil]); first | done | rfl | (simp only [List.length_drop, List.length_take]; rfl)) ?_; (with_reducible refine (locksteplaw06_awake.calls k   _ A4.out).mono ?_); rintro e w9 ⟨rfl, hb⟩; refine ⟨_, rfl, ?_⟩; have n0_ := Aside0.mk (below_step (B_) hb); clear HB; have HB := n0_; clear n0_; (try clear hb); (try clear hb2); (try clear hk); (try clear hi)) | ((with_reducible refine gate_dst (N := 22) rfl ?_); refine Kd.S_make (Kd.slice 3 (Kd.int .i64)) _ 33 rfl (N := 22) rfl 42 _ _ rfl ji6 rfl rfl Try.underlying42 (.slice none 0 0) 24 info33 rfl (by decide) (by omega) [] (ok := fun _ => True) (okp := fun _ => True) ⟨_, rfl, Kd.R_nil _ _ _ _ _⟩ (fun _ hk => hk) trivial (D_) (Nat.le_trans (Nat.mul_le_mul_right _ (D_ : ji6.toNat ≤ 11728124029610)) (by omega)) (Below.refl _ _) (Nat.le_refl _) ?_; intro v345 w10 ho11 hb hg_ hnew_; clear hg_ hnew_; (first | rw [← Ny344.out] at ho11 | (simp only [Int.reduceToNat] at ho11; rw [← Ny344.out] at ho11)); have n0_ := Aside0.mk (Kd.S_lower ho11 (below_size (B_))); have n1_ := Aside0.mk (below_step (B_) hb); clear HB; have HO346 := n0_; have HB := n1_; clear n0_ n1_; clear hb ho11))
    go_loopg [9] k (fun kq v9 w' => ∃ (x8_1 : List (List Int)) (x9_1 : Int), v9 = .int .i64 x9_1 ∧ Aside0 (locksteplaw06_GraphLine.l0 kq a1 a2 ji6 x8_1 x9_1 = some true) ∧ Aside0 (kq ≤ k) ∧ Aside0 (Kd.S (Kd.slice 3 (Kd.int .i64)) 33 w' w.heap.size (fun _ => True) v345 x8_1) ∧ Aside0 (Below w.heap.size w w'))
    case atStart => exact ⟨(y344), (0), (by first | rfl | exact congrArg (fun b => Ending.returned (Value.bool b)) HR_.out | (simp; done) | (simp [*]; done)), H', ⟨Nat.le_refl _⟩, ⟨by (with_reducible repeat (first | apply Kd.S_alloc | apply Kd.S_drewN | apply Kd.S_drew)); first | exact HO346.out | exact Kd.R_mono HO346.out (fun _ hk e_ => hk (e_.trans own_len))⟩, ⟨B_⟩⟩
    case round =>
     clear H'
     try clear c2
     try clear p2
     try clear c5
     try clear p6
     try clear c7
     try clear c7b0
     try clear c7b1
     try clear c8
     try clear c8b0
     try clear c8b1
     try clear c9
     obtain ⟨x8_1, x9_1, rfl, HA, HK1, HO_8, HB⟩ := hrel
     cases gk with
     | zero => exact absurd HA.out (by simp [locksteplaw06_GraphLine.l0])
     | succ k1 =>
      have H := HA.out
      clear HA
      simp only [locksteplaw06_GraphLine.l0] at H
      by_cases c12 : (wrap64 (x9_1 + 1)) < ji6
      ·rw [if_pos c12] at H
       have c12b0 : decide ((wrap64 (x9_1 + 1)) < ji6) = true := decide_eq_true c12
       clear c12
       obtain ⟨y347, hy347⟩ : ∃ y_ : List Int, y_ = (([wrap64 (x9_1 + 1)] : List Int)) := ⟨_, rfl⟩
       replace H : (if 0 ≤ x9_1 then (if x9_1 < (x8_1.length : Int) then (locksteplaw06_GraphLine.l0 k1 a1 a2 ji6 (x8_1.set (x9_1 : Int).toNat y347) (wrap64 (x9_1 + 1))) else (none)) else (none)) = some true := by first | (rw [hy347]; with_reducible exact H) | (have H2_ := (Option.bind_some _ _).symm.trans H; rw [hy347]; with_reducible exact H2_) | (have H2_ := (Option.bind_some _ _).symm.trans H; with_reducible exact H2_) | with_reducible exact H | (rw [hy347]; exact H) | exact H
       have Ny347 := Aside0.mk hy347
       clear hy347
       by_cases c13 : 0 ≤ x9_1
       ·rw [if_pos c13] at H
        have c13b0 : decide (0 ≤ x9_1) = true := decide_eq_true c13
        clear c13
        by_cases c14 : x9_1 < (x8_1.length : Int)
        ·rw [if_pos c14] at H
         have c14b0 : decide (x9_1 < (x8_1.length : Int)) = true := decide_eq_true c14
         clear c14
         obtain ⟨y350, hy350⟩ : ∃ y_ : List (List Int), y_ = (x8_1.set (x9_1 : Int).toNat y347) := ⟨_, rfl⟩
         replace H : (locksteplaw06_GraphLine.l0 k1 a1 a2 ji6 y350 (wrap64 (x9_1 + 1))) = some true := by first | (rw [hy350]; with_reducible exact H) | (have H2_ := (Option.bind_some _ _).symm.trans H; rw [hy350]; with_reducible exact H2_) | (have H2_ := (Option.bind_some _ _).symm.trans H; with_reducible exact H2_) | with_reducible exact H | (rw [hy350]; exact H) | exact H
         have Ny350 := Aside0.mk hy350
         clear hy350
         have H' := Aside0.mk H
         clear H
         go_wp2_with (first | ((with_reducible refine gate_dst (N := 33) rfl ?_); refine Kd.R_lit (Kd.int .i64) _ 3 ?hg (N := 33) ?hd (xs := ([wrap64 (x9_1 + 1)] : List Int)) (inner := [.int .i64 (wrap64 (x9_1 + 1))]) (ok := fun _ => True) (okp := fun _ => True) ?hr ?hp (fun _ hk => hk) trivial (Below.refl _ _) (Nat.le_refl _) (by simp) ?_; (case hd => rfl); (case hg => rfl); (case hr => first | (go_simp; done) | (go_simp; rfl)); (case hp => exact (Reps.one (show Kd.M (Kd.int .i64) _ _ _ (wrap64 (x9_1 + 1)) [.int .i64 (wrap64 (x9_1 + 1))] from rfl) (Reps.none _ _))); intro v348_ w16 ho17 hb hg_ hnew_; obtain ⟨Av348, cv348, ev_⟩ := Kd.R_slice ho17; replace ev_ : v348_ = Value.slice Av348 1 cv348 := ev_; subst ev_; clear hg_ hnew_; (first | rw [← Ny347.out] at ho17 | (simp only [Int.reduceToNat] at ho17; rw [← Ny347.out] at ho17)); have n0_ := Aside0.mk (Kd.S_elder' (by (with_reducible repeat (first | apply Kd.S_alloc | apply Kd.S_drewN | apply Kd.S_drew)); exact HO_8.out) (Kd.R_base ho17) hb); have n1_ := Aside0.mk (Kd.R_lower ho17 (below_size (B_))); have n2_ := Aside0.mk (below_step (B_) hb); clear HO_8; clear HB; have HO_8 := n0_; have HO349 := n1_; have HB := n2_; clear n0_ n1_ n2_; clear hb ho17; have p15 : 0 ≤ (x9_1 : Int) := D_; have q15 : (x9_1 : Int) < ((x8_1.length : Int) : Int) := D_; obtain ⟨go15, co15, eo15, gb15, gl15, cl15, HG15⟩ := Kd.S_form HO_8.out (by omega); (first | cases eo15 | (injection eo15 with ea_ en_ ec_; (first | subst ea_ | (injection ea_ with ea_; subst ea_)); subst ec_; clear en_)); have GB15 := Aside0.mk gb15; have GG15 := Aside0.mk HG15; clear gb15 gl15 HG15; obtain ⟨_, ce15, hcl15, hM15, hcc15, hfr15, _, _⟩ := Kd.S_elem HO_8.out [] (x9_1 : Int) p15 q15; obtain ⟨ve15_0, rfl, ge15_0⟩ := hM15; have hx15_0 := hcc15 0 _ rfl; have hf15_0 := hfr15 0; (try simp only [show ((Kd.slice 3 (Kd.int .i64))).sz = 1 from rfl, Nat.mul_one, Nat.add_zero] at hx15_0); (try simp only [show ((Kd.slice 3 (Kd.int .i64))).sz = 1 from rfl, Nat.mul_one, Nat.add_zero] at hf15_0); (try clear hM15); (try clear hfr15); (try clear hcc15); (try clear hcl15); replace p15 := eq_true p15; replace q15 := eq_true q15; have n_ := Aside0.mk (Kd.S_mono (ok' := (fun k_ => some k_ ≠ (Value.slice Av348 1 cv348).ownBlock)) HO_8.out (fun k_ hk => hk.2)); clear HO_8; have HO_8 := n_; clear n_; have HX18 := Aside0.mk (show Kd.S (Kd.slice 3 (Kd.int .i64)) 33 w16 w.heap.size (fun k_ => ((fun _ => True)) k_ ∧ ¬ ((fun k_ => some k_ = (Value.slice Av348 1 cv348).ownBlock)) k_) (.slice (some ⟨go15, 0, none⟩) x8_1.length co15) x8_1 from (by (with_reducible repeat (first | apply Kd.S_alloc | apply Kd.S_drewN | apply Kd.S_drew)); exact Kd.S_mono HO_8.out (fun k_ hk => ⟨trivial, fun e_ => hk e_⟩))); obtain ⟨oki18, ce18, hcl18, hM18, hcc18, hfr18, hoki18, hH18⟩ := Kd.S_elem HX18.out [] (x9_1 : Int) (D_) (by have h_ : (x9_1 : Int) < ((x8_1.length : Int) : Int) := D_; first | exact h_ | (have e_ := (Kd.S_reads' HO_8.out).1; omega) | simpa using h_); obtain ⟨ve18_0, rfl, ge18_0⟩ := hM18; have HP18 := Kd.S_seg hH18 (D_) (by have h_ : (x9_1 : Int) < ((x8_1.length : Int) : Int) := D_; first | exact h_ | (have e_ := (Kd.S_reads' HO_8.out).1; omega) | simpa using h_) (seg := [(Value.slice Av348 1 cv348)]) (j := 0) (show 1 ≤ 1 from by decide) (x' := y347) (Kd.M_row (Kd.R_mono (Kd.R_tight rfl (Kd.R_mono (ok' := fun k_ => ((fun _ => True)) k_ ∧ k_ ≠ go15) (Kd.R_apart' (HO349.out) (Kd.S_typed HO_8.out) (by decide)) (fun k_ hk => ⟨trivial, fun e_ => (hk.2) (by rw [e_]; rfl)⟩))) (fun _ h_ => Or.inr (h_)))) (fun _ hk => hk) (fun k_ hk_ => ((Kd.R_mono (ok' := fun k_ => ((fun _ => True)) k_ ∧ k_ ≠ go15) (Kd.R_apart' (HO349.out) (Kd.S_typed HO_8.out) (by decide)) (fun k_ hk => ⟨trivial, fun e_ => (hk.2) (by rw [e_]; rfl)⟩))).1 k_ hk_.symm); have hx18_0 := hcc18 0 _ rfl; (try simp only [show ((Kd.slice 3 (Kd.int .i64))).sz = 1 from rfl, Nat.mul_one, Nat.add_zero] at hx18_0); have hf18_0 := hfr18 0; (try simp only [show ((Kd.slice 3 (Kd.int .i64))).sz = 1 from rfl, Nat.mul_one, Nat.add_zero] at hf18_0); (try clear hM18); (try clear hfr18); (try clear hcc18); (try clear hcl18); (try clear hoki18); (try clear hH18); (try simp only [show ((Kd.slice 3 (Kd.int .i64))).sz = 1 from rfl, Nat.mul_one, Nat.add_zero] at HP18)) | ((with_reducible refine gate_store (t := 33) (p := 34) rfl ?_); refine store_event (t := 33) (p := 34) (v := ?vo_w19) (w1 := (w16.setCell ⟨go15, (x9_1 : Int).toNat, none⟩ (Value.slice Av348 1 cv348))) ?hg ?ho ?hn ?hr ?_; (case ho => rfl); (case hg => rfl); (case hn => rfl); (case hr => first | (go_simp; done) | (go_simp; rfl)); intro w19 hw; have hg : w16.grownBy w19 (some go15) := (by rw [hw]; exact HP18.2); have hp_ : Kd.S (Kd.slice 3 (Kd.int .i64)) 33 w19 w.heap.size (fun _ => True) (.slice (some ⟨go15, 0, none⟩) x8_1.length co15) y350 := (by rw [hw, Ny350.out]; exact HP18.1); clear HP18; have n0_ := Aside0.mk (hp_); have n1_ := Aside0.mk ((by rw [hw]; exact below_set (HB.out) GB15.out : Below w.heap.size w w19)); clear HO_8; clear HB; clear HO349; have HO_8 := n0_; have HB := n1_; clear n0_ n1_; clear hg hw hp_))
         go_roundg k1
         case measure => have := HK1.out; omega
         case rel => exact ⟨(y350), (wrap64 (x9_1 + 1)), (by first | rfl | exact congrArg (fun b => Ending.returned (Value.bool b)) HR_.out | (simp; done) | (simp [*]; done)), H', ⟨by have := HK1.out; omega⟩, ⟨by (with_reducible repeat (first | apply Kd.S_alloc | apply Kd.S_drewN | apply Kd.S_drew)); first | exact HO_8.out | exact Kd.R_mono HO_8.out (fun _ hk e_ => hk (e_.trans own_len))⟩, ⟨B_⟩⟩
        rw [if_neg c14] at H
        exact absurd H (by simp)
       rw [if_neg c13] at H
       exact absurd H (by simp)
      rw [if_neg c12] at H
      have c12b0 : decide ((wrap64 (x9_1 + 1)) < ji6) = false := decide_eq_false c12
      clear c12
      have HC20 := Aside0.mk H
      clear H
      go_upto_if 35 with (fail)
      go_cut [] (fun wc => ∃ (kq : Nat) (x8_19 : List (List Int)), Aside0 (locksteplaw06_GraphLine.j1 kq a1 a2 ji6 x8_19 = some true) ∧ Aside0 (kq ≤ k1) ∧ Aside0 (Kd.S (Kd.slice 3 (Kd.int .i64)) 33 wc w.heap.size (fun _ => True) v345 x8_19) ∧ Aside0 (Below w.heap.size w wc))
      case first =>
       have H := HC20.out
       clear HC20
       by_cases c21 : a2 = true
       ·subst c21
        have H1 : (if 0 ≤ (wrap64 (ji6 - 1)) then (if (wrap64 (ji6 - 1)) < (x8_1.length : Int) then (locksteplaw06_GraphLine.j1 k1 a1 true ji6 (x8_1.set ((wrap64 (ji6 - 1)) : Int).toNat (([0] : List Int)))) else (none)) else (none)) = some true := by rw [if_pos rfl] at H; exact H
        clear H
        have H := H1
        clear H1
        obtain ⟨y351, hy351⟩ : ∃ y_ : List Int, y_ = (([0] : List Int)) := ⟨_, rfl⟩
        replace H : (if 0 ≤ (wrap64 (ji6 - 1)) then (if (wrap64 (ji6 - 1)) < (x8_1.length : Int) then (locksteplaw06_GraphLine.j1 k1 a1 true ji6 (x8_1.set ((wrap64 (ji6 - 1)) : Int).toNat y351)) else (none)) else (none)) = some true := by first | (rw [hy351]; with_reducible exact H) | (have H2_ := (Option.bind_some _ _).symm.trans H; rw [hy351]; with_reducible exact H2_) | (have H2_ := (Option.bind_some _ _).symm.trans H; with_reducible exact H2_) | with_reducible exact H | (rw [hy351]; exact H) | exact H
        have Ny351 := Aside0.mk hy351
        clear hy351
        obtain ⟨ji22, hji22⟩ : ∃ j_ : Int, (wrap64 (ji6 - 1)) = j_ := ⟨_, rfl⟩
        replace H : (if 0 ≤ (ji22) then (if (ji22) < (x8_1.length : Int) then (locksteplaw06_GraphLine.j1 k1 a1 true ji6 (x8_1.set ((ji22) : Int).toNat y351)) else (none)) else (none)) = some true := by first | (rw [hji22] at H; exact H) | (simp only [hji22] at H ⊢; exact H)
        have hji22w : (IntKind.i64.wrap (ji6 - 1)) = ji22 := (i64_w _).trans hji22
        by_cases c23 : 0 ≤ (ji22)
        ·rw [if_pos c23] at H
         have c23b0 : decide (0 ≤ (ji22)) = true := decide_eq_true c23
         clear c23
         (first | rw [c23b0] | (simp only [i64_w, i32_w]; rw [c23b0]) | skip)
         by_cases c24 : (ji22) < (x8_1.length : Int)
         ·rw [if_pos c24] at H
          have c24b0 : decide ((ji22) < (x8_1.length : Int)) = true := decide_eq_true c24
          clear c24
          obtain ⟨y354, hy354⟩ : ∃ y_ : List (List Int), y_ = (x8_1.set ((ji22) : Int).toNat y351) := ⟨_, rfl⟩
          replace H : (locksteplaw06_GraphLine.j1 k1 a1 true ji6 y354) = some true := by first | (rw [hy354]; with_reducible exact H) | (have H2_ := (Option.bind_some _ _).symm.trans H; rw [hy354]; with_reducible exact H2_) | (have H2_ := (Option.bind_some _ _).symm.trans H; with_reducible exact H2_) | with_reducible exact H | (rw [hy354]; exact H) | exact H
          have Ny354 := Aside0.mk hy354
          clear hy354
          have H' := Aside0.mk H
          clear H
          go_wp2_with (first | ((with_reducible refine gate_dst (N := 39) rfl ?_); refine Kd.R_lit (Kd.int .i64) _ 3 ?hg (N := 39) ?hd (xs := ([0] : List Int)) (inner := [.int .i64 0]) (ok := fun _ => True) (okp := fun _ => True) ?hr ?hp (fun _ hk => hk) trivial (Below.refl _ _) (Nat.le_refl _) (by simp) ?_; (case hd => rfl); (case hg => rfl); (case hr => first | (go_simp; done) | (go_simp; rfl)); (case hp => exact (Reps.one (show Kd.M (Kd.int .i64) _ _ _ 0 [.int .i64 0] from rfl) (Reps.none _ _))); intro v352_ w26 ho27 hb hg_ hnew_; obtain ⟨Av352, cv352, ev_⟩ := Kd.R_slice ho27; replace ev_ : v352_ = Value.slice Av352 1 cv352 := ev_; subst ev_; clear hg_ hnew_; (first | rw [← Ny351.out] at ho27 | (simp only [Int.reduceToNat] at ho27; rw [← Ny351.out] at ho27)); have n0_ := Aside0.mk (Kd.S_elder' (by (with_reducible repeat (first | apply Kd.S_alloc | apply Kd.S_drewN | apply Kd.S_drew)); exact HO_8.out) (Kd.R_base ho27) hb); have n1_ := Aside0.mk (Kd.R_lower ho27 (below_size (B_))); have n2_ := Aside0.mk (below_step (B_) hb); clear HO_8; clear HB; have HO_8 := n0_; have HO353 := n1_; have HB := n2_; clear n0_ n1_ n2_; clear hb ho27; have p25 : 0 ≤ ((ji22) : Int) := D_; have q25 : ((ji22) : Int) < ((x8_1.length : Int) : Int) := D_; obtain ⟨go25, co25, eo25, gb25, gl25, cl25, HG25⟩ := Kd.S_form HO_8.out (by omega); (first | cases eo25 | (injection eo25 with ea_ en_ ec_; (first | subst ea_ | (injection ea_ with ea_; subst ea_)); subst ec_; clear en_)); have GB25 := Aside0.mk gb25; have GG25 := Aside0.mk HG25; clear gb25 gl25 HG25; obtain ⟨_, ce25, hcl25, hM25, hcc25, hfr25, _, _⟩ := Kd.S_elem HO_8.out [] ((ji22) : Int) p25 q25; obtain ⟨ve25_0, rfl, ge25_0⟩ := hM25; have hx25_0 := hcc25 0 _ rfl; have hf25_0 := hfr25 0; (try simp only [show ((Kd.slice 3 (Kd.int .i64))).sz = 1 from rfl, Nat.mul_one, Nat.add_zero] at hx25_0); (try simp only [show ((Kd.slice 3 (Kd.int .i64))).sz = 1 from rfl, Nat.mul_one, Nat.add_zero] at hf25_0); (try clear hM25); (try clear hfr25); (try clear hcc25); (try clear hcl25); replace p25 := eq_true p25; replace q25 := eq_true q25; have n_ := Aside0.mk (Kd.S_mono (ok' := (fun k_ => some k_ ≠ (Value.slice Av352 1 cv352).ownBlock)) HO_8.out (fun k_ hk => hk.2)); clear HO_8; have HO_8 := n_; clear n_; have HX28 := Aside0.mk (show Kd.S (Kd.slice 3 (Kd.int .i64)) 33 w26 w.heap.size (fun k_ => ((fun _ => True)) k_ ∧ ¬ ((fun k_ => some k_ = (Value.slice Av352 1 cv352).ownBlock)) k_) (.slice (some ⟨go25, 0, none⟩) x8_1.length co25) x8_1 from (by (with_reducible repeat (first | apply Kd.S_alloc | apply Kd.S_drewN | apply Kd.S_drew)); exact Kd.S_mono HO_8.out (fun k_ hk => ⟨trivial, fun e_ => hk e_⟩))); obtain ⟨oki28, ce28, hcl28, hM28, hcc28, hfr28, hoki28, hH28⟩ := Kd.S_elem HX28.out [] ((ji22) : Int) (D_) (by have h_ : ((ji22) : Int) < ((x8_1.length : Int) : Int) := D_; first | exact h_ | (have e_ := (Kd.S_reads' HO_8.out).1; omega) | simpa using h_); obtain ⟨ve28_0, rfl, ge28_0⟩ := hM28; have HP28 := Kd.S_seg hH28 (D_) (by have h_ : ((ji22) : Int) < ((x8_1.length : Int) : Int) := D_; first | exact h_ | (have e_ := (Kd.S_reads' HO_8.out).1; omega) | simpa using h_) (seg := [(Value.slice Av352 1 cv352)]) (j := 0) (show 1 ≤ 1 from by decide) (x' := y351) (Kd.M_row (Kd.R_mono (Kd.R_tight rfl (Kd.R_mono (ok' := fun k_ => ((fun _ => True)) k_ ∧ k_ ≠ go25) (Kd.R_apart' (HO353.out) (Kd.S_typed HO_8.out) (by decide)) (fun k_ hk => ⟨trivial, fun e_ => (hk.2) (by rw [e_]; rfl)⟩))) (fun _ h_ => Or.inr (h_)))) (fun _ hk => hk) (fun k_ hk_ => ((Kd.R_mono (ok' := fun k_ => ((fun _ => True)) k_ ∧ k_ ≠ go25) (Kd.R_apart' (HO353.out) (Kd.S_typed HO_8.out) (by decide)) (fun k_ hk => ⟨trivial, fun e_ => (hk.2) (by rw [e_]; rfl)⟩))).1 k_ hk_.symm); have hx28_0 := hcc28 0 _ rfl; (try simp only [show ((Kd.slice 3 (Kd.int .i64))).sz = 1 from rfl, Nat.mul_one, Nat.add_zero] at hx28_0); have hf28_0 := hfr28 0; (try simp only [show ((Kd.slice 3 (Kd.int .i64))).sz = 1 from rfl, Nat.mul_one, Nat.add_zero] at hf28_0); (try clear hM28); (try clear hfr28); (try clear hcc28); (try clear hcl28); (try clear hoki28); (try clear hH28); (try simp only [show ((Kd.slice 3 (Kd.int .i64))).sz = 1 from rfl, Nat.mul_one, Nat.add_zero] at HP28)) | ((with_reducible refine gate_store (t := 33) (p := 40) rfl ?_); refine store_event (t := 33) (p := 40) (v := ?vo_w29) (w1 := (w26.setCell ⟨go25, ((ji22) : Int).toNat, none⟩ (Value.slice Av352 1 cv352))) ?hg ?ho ?hn ?hr ?_; (case ho => rfl); (case hg => rfl); (case hn => rfl); (case hr => first | (go_simp; done) | (go_simp; rfl)); intro w29 hw; have hg : w26.grownBy w29 (some go25) := (by rw [hw]; exact HP28.2); have hp_ : Kd.S (Kd.slice 3 (Kd.int .i64)) 33 w29 w.heap.size (fun _ => True) (.slice (some ⟨go25, 0, none⟩) x8_1.length co25) y354 := (by rw [hw, Ny354.out]; exact HP28.1); clear HP28; have n0_ := Aside0.mk (hp_); have n1_ := Aside0.mk ((by rw [hw]; exact below_set (HB.out) GB25.out : Below w.heap.size w w29)); clear HO_8; clear HB; clear HO353; have HO_8 := n0_; have HB := n1_; clear n0_ n1_; clear hg hw hp_))
          go_meet
          case rel => exact ⟨_, (y354), H', ⟨by have := HK1.out; first | omega | exact Nat.le_refl _⟩, ⟨by (with_reducible repeat (first | apply Kd.S_alloc | apply Kd.S_drewN | apply Kd.S_drew)); first | exact HO_8.out | exact Kd.R_mono HO_8.out (fun _ hk e_ => hk (e_.trans own_len))⟩, ⟨B_⟩⟩
         rw [if_neg c24] at H
         exact absurd H (by simp)
        rw [if_neg c23] at H
        exact absurd H (by simp)
       replace c21 := Bool.eq_false_iff.mpr c21
       subst c21
       have H1 : (locksteplaw06_GraphLine.j1 k1 a1 false ji6 x8_1) = some true := by rw [if_neg (show ¬ (false = true) by decide)] at H; exact H
       clear H
       have H := H1
       clear H1
       have H' := Aside0.mk H
       clear H
       go_wp2
       go_meet
       case rel => exact ⟨_, (x8_1), H', ⟨by have := HK1.out; first | omega | exact Nat.le_refl _⟩, ⟨by (with_reducible repeat (first | apply Kd.S_alloc | apply Kd.S_drewN | apply Kd.S_drew)); first | exact HO_8.out | exact Kd.R_mono HO_8.out (fun _ hk e_ => hk (e_.trans own_len))⟩, ⟨B_⟩⟩
      case rest =>
       clear HC20
       try clear c1
       try clear p1
       try clear q1
       try clear hx1
       try clear c2
       try clear p2
       try clear q2
       try clear hx2
       try clear c5
       try clear p6
       try clear c7
       try clear c7b0
       try clear c7b1
       try clear c8
       try clear c8b0
       try clear c8b1
       try clear c9
       try clear c12
       try clear c12b0
       try clear c13
       try clear c13b0
       try clear c14
       try clear c14b0
       try clear c15
       try clear p15
       try clear q15
       try clear hx15
       try clear hf15
       try clear c18
       try clear hx18
       try clear hf18
       try clear c21
       try clear c23
       try clear c23b0
       try clear c24
       try clear c24b0
       try clear c25
       try clear p25
       try clear q25
       try clear hx25
       try clear hf25
       try clear c28
       try clear hx28
       try clear hf28
       try clear hx15_0
       try clear hx18_0
       try clear hx25_0
       try clear hx28_0
       try clear p15
       try clear p2
       try clear p25
       try clear p6
       try clear q15
       try clear q25
       obtain ⟨kq, x8_19, HA, HJ19, HO_8, HB⟩ := hcut
       cases kq with
       | zero => exact absurd HA.out (by simp [locksteplaw06_GraphLine.j1])
       | succ kj19 =>
        have H := HA.out
        clear HA
        simp only [locksteplaw06_GraphLine.j1] at H
        replace H := Option.bind_eq_some_iff.mp H
        obtain ⟨⟨t355, t358, t361⟩, A300, H⟩ := H
        replace H : (if ji6 = 0 then (none) else (locksteplaw06_GraphLine.l1 kj19 a2 ji6 t361 (Int.tmod (wrap64 (a1)) ji6) ([] : List Int) 0 t355 t358)) = some true := H
        have A30 := Aside0.mk A300
        clear A300
        by_cases c31 : ji6 = 0
        ·rw [if_pos c31] at H
         exact absurd H (by simp)
        rw [if_neg c31] at H
        have c31b0 : (ji6 == 0) = false := beq_eq_false_iff_ne.mpr c31
        have c31b1 : (ji6 != 0) = true := bne_iff_ne.mpr c31
        have H' := Aside0.mk H
        clear H
        obtain ⟨Ao32, co32, eo32⟩ := Kd.S_slice HO_8.out
        subst eo32
        go_wp2_with (first | ((with_reducible refine gate_callee (f := 23) rfl ?_); refine goesL_ (some 43) rfl rfl Try.func23 (by kernel_rfl) rfl #[.slice Ao32 x8_19.length co32] rfl (by (try simp only [List.map_toArray, List.map_cons, List.map_nil]); first | done | rfl | (simp only [List.length_drop, List.length_take]; rfl)) ?_; (with_reducible refine (graph_Make.calls kj19 _ _ x8_19 t355 t358 t361 _ ?side1 ?side2 A30.out).mono ?_); (case side1 => repeat (first | exact (Kd.S_reads' HO_8.out).2.2 | (with_reducible refine Kd.C_alloc ?_ _) | (with_reducible refine Kd.C_drewN ?_ _) | (with_reducible refine Kd.C_drew ?_))); (case side2 => exact (Kd.S_reads' HO_8.out).2.1); rintro e w33 ⟨v356, v359, rfl, ho0, ho1, hb⟩; refine ⟨_, rfl, ?_⟩; have n0_ := Aside0.mk (Kd.S_mono (Kd.S_told (Kd.S_told (Kd.S_old (by (with_reducible repeat (first | apply Kd.S_alloc | apply Kd.S_drewN | apply Kd.S_drew)); exact HO_8.out) hb) (Kd.S_base ho0)) (Kd.S_base ho1)) (fun _ h_ => h_.1)); have n1_ := Aside0.mk (Kd.S_lower (Kd.S_new' ho0 (Kd.S_lt (by (with_reducible repeat (first | apply Kd.S_alloc | apply Kd.S_drewN | apply Kd.S_drew)); exact HO_8.out))) (below_size (B_))); have n2_ := Aside0.mk (Kd.S_lower (Kd.S_new' ho1 (Kd.S_lt (by (with_reducible repeat (first | apply Kd.S_alloc | apply Kd.S_drewN | apply Kd.S_drew)); exact HO_8.out))) (below_size (B_))); have n3_ := Aside0.mk (below_step (B_) hb); clear HO_8; clear HB; have HO_8 := n0_; have HO357 := n1_; have HO360 := n2_; have HB := n3_; clear n0_ n1_ n2_ n3_; (try clear hb); (try clear hb2); (try clear hk); (try clear hi); (try clear ho0); (try clear ho1)) | ((with_reducible refine gate_dst (N := 10) rfl ?_); refine box_event ?hg (N := 10) ?hd (cs := #[.slice none 0 0, .slice none 0 0]) (t := 45) ?hr ?_; (case hd => rfl); (case hg => rfl); (case hr => first | (go_simp; done) | (go_simp; rfl)); intro gb362 hg w34 hbox hb; have n0_ := Aside0.mk (Kd.S_below (by (with_reducible repeat (first | apply Kd.S_alloc | apply Kd.S_drewN | apply Kd.S_drew)); exact HO_8.out) hb); have n1_ := Aside0.mk (Kd.S_below (by (with_reducible repeat (first | apply Kd.S_alloc | apply Kd.S_drewN | apply Kd.S_drew)); exact HO357.out) hb); have n2_ := Aside0.mk (Kd.S_below (by (with_reducible repeat (first | apply Kd.S_alloc | apply Kd.S_drewN | apply Kd.S_drew)); exact HO360.out) hb); have n3_ := Aside0.mk (below_step (B_) hb); have n4_ := Aside0.mk (hbox); have n5_ := Aside0.mk ((by rw [hg]; exact (below_size (B_)) : w.heap.size ≤ gb362)); have n6_ := Aside0.mk ((by rw [hg]; exact (below_size (B_)) : w.heap.size ≤ gb362)); clear HO_8; clear HO357; clear HO360; clear HB; have HO_8 := n0_; have HO357 := n1_; have HO360 := n2_; have HB := n3_; have BK362 := n4_; have GW362 := n5_; have GE362 := n6_; clear n0_ n1_ n2_ n3_ n4_ n5_ n6_; clear hb hbox hg; obtain ⟨Ao35, co35, eo35⟩ := Kd.S_slice HO357.out; subst eo35; have hcz36_0 : w34.cell? ⟨gb362, 0, none⟩ = some (.slice none 0 0) := (blk_cell BK362.out 0).trans rfl; have hcz36_1 : w34.cell? ⟨gb362, 1, none⟩ = some (.slice none 0 0) := (blk_cell BK362.out 1).trans rfl; have hfz36_0 := blk_frozen BK362.out 0; have hfz36_1 := blk_frozen BK362.out 1; obtain ⟨Ao37, co37, eo37⟩ := Kd.S_slice HO360.out; subst eo37))
        go_loopg [13, 14] kj19 (fun kq v13 v14 w' => ∃ (x13_3 : List Int) (x14_3 : Int), v14 = .int .i64 x14_3 ∧ Aside0 (locksteplaw06_GraphLine.l1 kq a2 ji6 t361 (Int.tmod (wrap64 (a1)) ji6) x13_3 x14_3 t355 t358 = some true) ∧ Aside0 (kq ≤ kj19) ∧ Aside0 (Kd.R (Kd.int .i64) 3 w' w.heap.size (fun _ => True) v13 x13_3) ∧ Aside0 (Kd.S (Kd.slice 3 (Kd.int .i64)) 33 w' w.heap.size (fun k_ => some k_ ≠ (v13 : Value).ownBlock ∧ some k_ ≠ ((.slice Ao37 t358.length co37) : Value).ownBlock) (.slice Ao35 t355.length co35) t355) ∧ Aside0 (Kd.S (Kd.slice 3 (Kd.int .i64)) 33 w' w.heap.size (fun k_ => some k_ ≠ (v13 : Value).ownBlock ∧ some k_ ≠ ((.slice Ao35 t355.length co35) : Value).ownBlock) (.slice Ao37 t358.length co37) t358) ∧ Aside0 (w'.heap[gb362]? = some (.cells #[(.slice Ao35 t355.length co35), (.slice Ao37 t358.length co37)] 45 (0, 0))) ∧ Aside0 (Below w.heap.size w w'))
        case atStart => exact ⟨(([] : List Int)), (0), (by first | rfl | exact congrArg (fun b => Ending.returned (Value.bool b)) HR_.out | (simp; done) | (simp [*]; done)), H', ⟨Nat.le_refl _⟩, ⟨by first | exact Kd.R_nil _ _ _ _ _ | exact Kd.N_nil _ _ _ _ _ | exact Kd.V_nil _ _ _ _ _ | exact Kd.Q_nil _ _ _ _ _ | exact Kd.S_nil _ _ _ _ _⟩, ⟨by (with_reducible repeat (first | apply Kd.S_alloc | apply Kd.S_drewN | apply Kd.S_drew)); exact Kd.S_mono (Kd.S_far (p := ⟨gb362, 1, none⟩) (Kd.S_far (p := ⟨gb362, 0, none⟩) (Kd.S_types HO357.out BK362.out (by decide)) (fun _ hk => hk.2) (.slice Ao35 t355.length co35)) (fun _ hk => hk.2) (.slice Ao37 t358.length co37)) (fun _ hk => ⟨(by simp [Value.ownBlock]), hk.1.1⟩)⟩, ⟨by (with_reducible repeat (first | apply Kd.S_alloc | apply Kd.S_drewN | apply Kd.S_drew)); exact Kd.S_mono (Kd.S_far (p := ⟨gb362, 1, none⟩) (Kd.S_far (p := ⟨gb362, 0, none⟩) (Kd.S_types HO360.out BK362.out (by decide)) (fun _ hk => hk.2) (.slice Ao35 t355.length co35)) (fun _ hk => hk.2) (.slice Ao37 t358.length co37)) (fun _ hk => ⟨(by simp [Value.ownBlock]), hk.1.1⟩)⟩, ⟨by (with_reducible repeat (first | refine blk_drewN ?_ _ | refine blk_drew ?_ | refine blk_alloc ?_ _)); refine blk_put (cs := #[.slice Ao35 t355.length co35, .slice none 0 0]) ?_ 1 _ rfl; (with_reducible repeat (first | refine blk_drewN ?_ _ | refine blk_drew ?_ | refine blk_alloc ?_ _)); refine blk_put (cs := #[.slice none 0 0, .slice none 0 0]) ?_ 0 _ rfl; (with_reducible repeat (first | refine blk_drewN ?_ _ | refine blk_drew ?_ | refine blk_alloc ?_ _)); exact BK362.out⟩, ⟨B1_⟩⟩
        case round =>
         clear H'
         try clear c1
         try clear p1
         try clear q1
         try clear hx1
         try clear c2
         try clear p2
         try clear q2
         try clear hx2
         try clear c3
         try clear c5
         try clear p6
         try clear c7
         try clear c7b0
         try clear c7b1
         try clear c8
         try clear c8b0
         try clear c8b1
         try clear c9
         try clear c12
         try clear c12b0
         try clear c13
         try clear c13b0
         try clear c14
         try clear c14b0
         try clear c15
         try clear p15
         try clear q15
         try clear hx15
         try clear hf15
         try clear c18
         try clear hx18
         try clear hf18
         try clear c21
         try clear c23
         try clear c23b0
         try clear c24
         try clear c24b0
         try clear c25
         try clear p25
         try clear q25
         try clear hx25
         try clear hf25
         try clear c28
         try clear hx28
         try clear hf28
         try clear c31
         try clear c31b0
         try clear c31b1
         try clear hcz36_0
         try clear hcz36_1
         try clear hfz36_0
         try clear hfz36_1
         try clear hx15_0
         try clear hx18_0
         try clear hx25_0
         try clear hx28_0
         try clear p1
         try clear p15
         try clear p2
         try clear p25
         try clear p6
         try clear q1
         try clear q15
         try clear q2
         try clear q25
         obtain ⟨x13_3, x14_3, rfl, HA, HK3, HO_13, HO_363000, HO_363001, BK362, HB⟩ := hrel
         cases gk with
         | zero => exact absurd HA.out (by simp [locksteplaw06_GraphLine.l1])
         | succ k3 =>
          have H := HA.out
          clear HA
          simp only [locksteplaw06_GraphLine.l1] at H
          by_cases c38 : x14_3 < ji6
          ·rw [if_pos c38] at H
           have c38b0 : decide (x14_3 < ji6) = true := decide_eq_true c38
           clear c38
           by_cases c39 : a2 = true
           ·subst c39
            have H1 : (if ji6 = 0 then (none) else (if x13_3.length < 17592186044416 then (locksteplaw06_GraphLine.l1 k3 true ji6 t361 (Int.tmod (wrap64 (a1)) ji6) (x13_3 ++ [Int.tmod (wrap64 ((Int.tmod (wrap64 (a1)) ji6) + x14_3)) ji6]) (wrap64 (x14_3 + 1)) t355 t358) else (none))) = some true := by rw [if_pos rfl] at H; exact H
            clear H
            have H := H1
            clear H1
            by_cases c40 : ji6 = 0
            ·rw [if_pos c40] at H
             exact absurd H (by simp)
            rw [if_neg c40] at H
            have c40b0 : (ji6 == 0) = false := beq_eq_false_iff_ne.mpr c40
            have c40b1 : (ji6 != 0) = true := bne_iff_ne.mpr c40
            by_cases c41 : x13_3.length < 17592186044416
            ·rw [if_pos c41] at H
             have LMc41 := Aside0.mk c41
             clear c41
             obtain ⟨y363, hy363⟩ : ∃ y_ : List Int, y_ = (x13_3 ++ [Int.tmod (wrap64 ((Int.tmod (wrap64 (a1)) ji6) + x14_3)) ji6]) := ⟨_, rfl⟩
             replace H : (locksteplaw06_GraphLine.l1 k3 true ji6 t361 (Int.tmod (wrap64 (a1)) ji6) y363 (wrap64 (x14_3 + 1)) t355 t358) = some true := by first | (rw [hy363]; with_reducible exact H) | (have H2_ := (Option.bind_some _ _).symm.trans H; rw [hy363]; with_reducible exact H2_) | (have H2_ := (Option.bind_some _ _).symm.trans H; with_reducible exact H2_) | with_reducible exact H | (rw [hy363]; exact H) | exact H
             have Ny363 := Aside0.mk hy363
             clear hy363
             have H' := Aside0.mk H
             clear H
             go_wp2_with (first | ((with_reducible refine gate_builtin (b := .append) (xs := #[.tmp 63, .tmp 69]) rfl ?_); at_builtin; refine Kd.R_append (Kd.int .i64) (w0 := w) w.heap.size rfl (.tmp 63) (.tmp 69) 33 3 (.int .i64 0) 8 rfl Try.underlying33 info3 rfl (by decide) (by omega) u13 x13_3 (Int.tmod (wrap64 ((Int.tmod (wrap64 (a1)) ji6) + x14_3)) ji6) [.int .i64 (Int.tmod (wrap64 ((Int.tmod (wrap64 (a1)) ji6) + x14_3)) ji6)] (fun _ => True) (fun _ => False) rfl rfl ?aP (fun _ hk => hk.elim) ?aF ?aO ?aB ?aS ?aL ?_; (case aP => exact rfl); (case aB => exact (B1_)); (case aF => exact (fun _ _ => trivial)); (case aO => exact (by (with_reducible repeat (first | apply Kd.R_alloc | apply Kd.R_drewN | apply Kd.R_drew)); exact HO_13.out)); (case aS => exact (below_size (B1_))); (case aL => have := LMc41.out; omega); intro v364 w42 ho hb hg hat; rw [← Ny363.out] at ho; have n0_ := Aside0.mk (Kd.S_after (ok := (fun k_ => some k_ ≠ (.slice Ao37 t358.length co37 : Value).ownBlock)) (by (with_reducible repeat (first | apply Kd.S_alloc | apply Kd.S_drewN | apply Kd.S_drew)); exact Kd.S_mono HO_363000.out (fun _ hk => ⟨hk.2, hk.1⟩)) hg hat); have n1_ := Aside0.mk (Kd.S_after (ok := (fun k_ => some k_ ≠ (.slice Ao35 t355.length co35 : Value).ownBlock)) (by (with_reducible repeat (first | apply Kd.S_alloc | apply Kd.S_drewN | apply Kd.S_drew)); exact Kd.S_mono HO_363001.out (fun _ hk => ⟨hk.2, hk.1⟩)) hg hat); have n2_ := Aside0.mk (blk_grown (g := gb362) (o := .cells #[.slice Ao35 t355.length co35, .slice Ao37 t358.length co37] 45 (0, 0)) (by (with_reducible repeat (first | refine blk_drewN ?_ _ | refine blk_drew ?_ | refine blk_alloc ?_ _)); exact BK362.out) hg (Kd.R_ne HO_13.out BK362.out (by decide))); have n3_ := Aside0.mk (hb); have n4_ := Aside0.mk (ho); clear HO_363000; clear HO_363001; clear BK362; clear HB; clear HO_13; have HO_363000 := n0_; have HO_363001 := n1_; have BK362 := n2_; have HB := n3_; have HO365 := n4_; clear n0_ n1_ n2_ n3_ n4_; clear ho hb hg hat))
             go_roundg k3
             case measure => have := HK1.out; have := HJ19.out; have := HK3.out; omega
             case rel => exact ⟨(y363), (wrap64 (x14_3 + 1)), (by first | rfl | exact congrArg (fun b => Ending.returned (Value.bool b)) HR_.out | (simp; done) | (simp [*]; done)), H', ⟨by have := HK1.out; have := HJ19.out; have := HK3.out; omega⟩, ⟨by (with_reducible repeat (first | apply Kd.R_alloc | apply Kd.R_drewN | apply Kd.R_drew)); first | exact HO365.out | exact Kd.R_mono HO365.out (fun _ hk e_ => hk (e_.trans own_len))⟩, ⟨by (with_reducible repeat (first | apply Kd.S_alloc | apply Kd.S_drewN | apply Kd.S_drew)); exact Kd.S_mono HO_363000.out (fun _ hk => ⟨hk.2, hk.1⟩)⟩, ⟨by (with_reducible repeat (first | apply Kd.S_alloc | apply Kd.S_drewN | apply Kd.S_drew)); exact Kd.S_mono HO_363001.out (fun _ hk => ⟨hk.2, hk.1⟩)⟩, ⟨by (with_reducible repeat (first | refine blk_drewN ?_ _ | refine blk_drew ?_ | refine blk_alloc ?_ _)); exact BK362.out⟩, ⟨B1_⟩⟩
            rw [if_neg c41] at H
            exact absurd H (by simp)
           replace c39 := Bool.eq_false_iff.mpr c39
           subst c39
           have H1 : (if (wrap64 ((Int.tmod (wrap64 (a1)) ji6) + x14_3)) < ji6 then (if ji6 = 0 then (none) else (if x13_3.length < 17592186044416 then (locksteplaw06_GraphLine.l1 k3 false ji6 t361 (Int.tmod (wrap64 (a1)) ji6) (x13_3 ++ [Int.tmod (wrap64 ((Int.tmod (wrap64 (a1)) ji6) + x14_3)) ji6]) (wrap64 (x14_3 + 1)) t355 t358) else (none))) else (locksteplaw06_GraphLine.l1 k3 false ji6 t361 (Int.tmod (wrap64 (a1)) ji6) x13_3 (wrap64 (x14_3 + 1)) t355 t358)) = some true := by rw [if_neg (show ¬ (false = true) by decide)] at H; exact H
           clear H
           have H := H1
           clear H1
           by_cases c43 : (wrap64 ((Int.tmod (wrap64 (a1)) ji6) + x14_3)) < ji6
           ·rw [if_pos c43] at H
            have c43b0 : decide ((wrap64 ((Int.tmod (wrap64 (a1)) ji6) + x14_3)) < ji6) = true := decide_eq_true c43
            clear c43
            by_cases c44 : ji6 = 0
            ·rw [if_pos c44] at H
             exact absurd H (by simp)
            rw [if_neg c44] at H
            have c44b0 : (ji6 == 0) = false := beq_eq_false_iff_ne.mpr c44
            have c44b1 : (ji6 != 0) = true := bne_iff_ne.mpr c44
            by_cases c45 : x13_3.length < 17592186044416
            ·rw [if_pos c45] at H
             have LMc45 := Aside0.mk c45
             clear c45
             obtain ⟨y366, hy366⟩ : ∃ y_ : List Int, y_ = (x13_3 ++ [Int.tmod (wrap64 ((Int.tmod (wrap64 (a1)) ji6) + x14_3)) ji6]) := ⟨_, rfl⟩
             replace H : (locksteplaw06_GraphLine.l1 k3 false ji6 t361 (Int.tmod (wrap64 (a1)) ji6) y366 (wrap64 (x14_3 + 1)) t355 t358) = some true := by first | (rw [hy366]; with_reducible exact H) | (have H2_ := (Option.bind_some _ _).symm.trans H; rw [hy366]; with_reducible exact H2_) | (have H2_ := (Option.bind_some _ _).symm.trans H; with_reducible exact H2_) | with_reducible exact H | (rw [hy366]; exact H) | exact H
             have Ny366 := Aside0.mk hy366
             clear hy366
             have H' := Aside0.mk H
             clear H
             go_wp2_with (first | ((with_reducible refine gate_builtin (b := .append) (xs := #[.tmp 63, .tmp 69]) rfl ?_); at_builtin; refine Kd.R_append (Kd.int .i64) (w0 := w) w.heap.size rfl (.tmp 63) (.tmp 69) 33 3 (.int .i64 0) 8 rfl Try.underlying33 info3 rfl (by decide) (by omega) u13 x13_3 (Int.tmod (wrap64 ((Int.tmod (wrap64 (a1)) ji6) + x14_3)) ji6) [.int .i64 (Int.tmod (wrap64 ((Int.tmod (wrap64 (a1)) ji6) + x14_3)) ji6)] (fun _ => True) (fun _ => False) rfl rfl ?aP (fun _ hk => hk.elim) ?aF ?aO ?aB ?aS ?aL ?_; (case aP => exact rfl); (case aB => exact (B1_)); (case aF => exact (fun _ _ => trivial)); (case aO => exact (by (with_reducible repeat (first | apply Kd.R_alloc | apply Kd.R_drewN | apply Kd.R_drew)); exact HO_13.out)); (case aS => exact (below_size (B1_))); (case aL => have := LMc45.out; omega); intro v367 w46 ho hb hg hat; rw [← Ny366.out] at ho; have n0_ := Aside0.mk (Kd.S_after (ok := (fun k_ => some k_ ≠ (.slice Ao37 t358.length co37 : Value).ownBlock)) (by (with_reducible repeat (first | apply Kd.S_alloc | apply Kd.S_drewN | apply Kd.S_drew)); exact Kd.S_mono HO_363000.out (fun _ hk => ⟨hk.2, hk.1⟩)) hg hat); have n1_ := Aside0.mk (Kd.S_after (ok := (fun k_ => some k_ ≠ (.slice Ao35 t355.length co35 : Value).ownBlock)) (by (with_reducible repeat (first | apply Kd.S_alloc | apply Kd.S_drewN | apply Kd.S_drew)); exact Kd.S_mono HO_363001.out (fun _ hk => ⟨hk.2, hk.1⟩)) hg hat); have n2_ := Aside0.mk (blk_grown (g := gb362) (o := .cells #[.slice Ao35 t355.length co35, .slice Ao37 t358.length co37] 45 (0, 0)) (by (with_reducible repeat (first | refine blk_drewN ?_ _ | refine blk_drew ?_ | refine blk_alloc ?_ _)); exact BK362.out) hg (Kd.R_ne HO_13.out BK362.out (by decide))); have n3_ := Aside0.mk (hb); have n4_ := Aside0.mk (ho); clear HO_363000; clear HO_363001; clear BK362; clear HB; clear HO_13; have HO_363000 := n0_; have HO_363001 := n1_; have BK362 := n2_; have HB := n3_; have HO368 := n4_; clear n0_ n1_ n2_ n3_ n4_; clear ho hb hg hat))
             go_roundg k3
             case measure => have := HK1.out; have := HJ19.out; have := HK3.out; omega
             case rel => exact ⟨(y366), (wrap64 (x14_3 + 1)), (by first | rfl | exact congrArg (fun b => Ending.returned (Value.bool b)) HR_.out | (simp; done) | (simp [*]; done)), H', ⟨by have := HK1.out; have := HJ19.out; have := HK3.out; omega⟩, ⟨by (with_reducible repeat (first | apply Kd.R_alloc | apply Kd.R_drewN | apply Kd.R_drew)); first | exact HO368.out | exact Kd.R_mono HO368.out (fun _ hk e_ => hk (e_.trans own_len))⟩, ⟨by (with_reducible repeat (first | apply Kd.S_alloc | apply Kd.S_drewN | apply Kd.S_drew)); exact Kd.S_mono HO_363000.out (fun _ hk => ⟨hk.2, hk.1⟩)⟩, ⟨by (with_reducible repeat (first | apply Kd.S_alloc | apply Kd.S_drewN | apply Kd.S_drew)); exact Kd.S_mono HO_363001.out (fun _ hk => ⟨hk.2, hk.1⟩)⟩, ⟨by (with_reducible repeat (first | refine blk_drewN ?_ _ | refine blk_drew ?_ | refine blk_alloc ?_ _)); exact BK362.out⟩, ⟨B1_⟩⟩
            rw [if_neg c45] at H
            exact absurd H (by simp)
           rw [if_neg c43] at H
           have c43b0 : decide ((wrap64 ((Int.tmod (wrap64 (a1)) ji6) + x14_3)) < ji6) = false := decide_eq_false c43
           clear c43
           have H' := Aside0.mk H
           clear H
           go_wp2
           go_roundg k3
           case measure => have := HK1.out; have := HJ19.out; have := HK3.out; omega
           case rel => exact ⟨(x13_3), (wrap64 (x14_3 + 1)), (by first | rfl | exact congrArg (fun b => Ending.returned (Value.bool b)) HR_.out | (simp; done) | (simp [*]; done)), H', ⟨by have := HK1.out; have := HJ19.out; have := HK3.out; omega⟩, ⟨by (with_reducible repeat (first | apply Kd.R_alloc | apply Kd.R_drewN | apply Kd.R_drew)); first | exact HO_13.out | exact Kd.R_mono HO_13.out (fun _ hk e_ => hk (e_.trans own_len))⟩, ⟨by (with_reducible repeat (first | apply Kd.S_alloc | apply Kd.S_drewN | apply Kd.S_drew)); first | exact HO_363000.out | exact Kd.R_mono HO_363000.out (fun _ hk e_ => hk (e_.trans own_len))⟩, ⟨by (with_reducible repeat (first | apply Kd.S_alloc | apply Kd.S_drewN | apply Kd.S_drew)); first | exact HO_363001.out | exact Kd.R_mono HO_363001.out (fun _ hk e_ => hk (e_.trans own_len))⟩, ⟨by (with_reducible repeat (first | refine blk_drewN ?_ _ | refine blk_drew ?_ | refine blk_alloc ?_ _)); exact BK362.out⟩, ⟨B1_⟩⟩
          rw [if_neg c38] at H
          have c38b0 : decide (x14_3 < ji6) = false := decide_eq_false c38
          clear c38
          by_cases c47 : t361 = 0
          ·rw [if_pos c47] at H
           have c47b0 : (t361 == 0) = true := beq_iff_eq.mpr c47
           have c47b1 : (t361 != 0) = false := bne_eq_false_iff_eq.mpr c47
           clear c47
           replace H := Option.bind_eq_some_iff.mp H
           obtain ⟨t369, A480, H⟩ := H
           replace H : (if t369 = true then ((graph_Order.f k3 t355 t358 (Int.tmod (wrap64 (a1)) ji6)).bind fun t370 => ((lockstepref02_Ints.f k3 t370 x13_3).bind fun t373 => (some t373))) else (some false)) = some true := H
           have A48 := Aside0.mk A480
           clear A480
           by_cases c49 : t369 = true
           ·subst c49
            have H1 : ((graph_Order.f k3 t355 t358 (Int.tmod (wrap64 (a1)) ji6)).bind fun t370 => ((lockstepref02_Ints.f k3 t370 x13_3).bind fun t373 => (some t373))) = some true := by rw [if_pos rfl] at H; exact H
            clear H
            have H := H1
            clear H1
            replace H := Option.bind_eq_some_iff.mp H
            obtain ⟨t370, A500, H⟩ := H
            replace H : ((lockstepref02_Ints.f k3 t370 x13_3).bind fun t373 => (some t373)) = some true := H
            have A50 := Aside0.mk A500
            clear A500
            replace H := Option.bind_eq_some_iff.mp H
            obtain ⟨t373, A510, H⟩ := H
            replace H : (some t373) = some true := H
            have A51 := Aside0.mk A510
            clear A510
            have HR_ := Aside0.mk (Option.some.inj H)
            clear H
            have hcz52_0 : wr.cell? ⟨gb362, 0, none⟩ = some (.slice Ao35 t355.length co35) := (blk_cell BK362.out 0).trans rfl
            have hcz52_1 : wr.cell? ⟨gb362, 1, none⟩ = some (.slice Ao37 t358.length co37) := (blk_cell BK362.out 1).trans rfl
            have hfz52_0 := blk_frozen BK362.out 0
            have hfz52_1 := blk_frozen BK362.out 1
            go_wp2_with (first | (go_at_call 26; (with_reducible refine (lockstepref06_May.calls k3 _ _ t355 _ _ t358 true _ ?side1 ?side2 ?side3 ?side4 A48.out).mono ?_); (case side1 => repeat (first | exact (Kd.S_reads' HO_363000.out).2.2 | (with_reducible refine Kd.C_alloc ?_ _) | (with_reducible refine Kd.C_drewN ?_ _) | (with_reducible refine Kd.C_drew ?_))); (case side2 => exact (Kd.S_reads' HO_363000.out).2.1); (case side3 => repeat (first | exact (Kd.S_reads' HO_363001.out).2.2 | (with_reducible refine Kd.C_alloc ?_ _) | (with_reducible refine Kd.C_drewN ?_ _) | (with_reducible refine Kd.C_drew ?_))); (case side4 => exact (Kd.S_reads' HO_363001.out).2.1); rintro e w53 ⟨rfl, hb⟩; have n0_ := Aside0.mk (Kd.R_below (by (with_reducible repeat (first | apply Kd.R_alloc | apply Kd.R_drewN | apply Kd.R_drew)); exact HO_13.out) hb); have n1_ := Aside0.mk (Kd.S_below (by (with_reducible repeat (first | apply Kd.S_alloc | apply Kd.S_drewN | apply Kd.S_drew)); exact HO_363000.out) hb); have n2_ := Aside0.mk (Kd.S_below (by (with_reducible repeat (first | apply Kd.S_alloc | apply Kd.S_drewN | apply Kd.S_drew)); exact HO_363001.out) hb); have n3_ := Aside0.mk (blk_below (g := gb362) (o := .cells #[.slice Ao35 t355.length co35, .slice Ao37 t358.length co37] 45 (0, 0)) (by (with_reducible repeat (first | refine blk_drewN ?_ _ | refine blk_drew ?_ | refine blk_alloc ?_ _)); exact BK362.out) hb); have n4_ := Aside0.mk (below_step (B1_) hb); clear HO_13; clear HO_363000; clear HO_363001; clear BK362; clear HB; have HO_13 := n0_; have HO_363000 := n1_; have HO_363001 := n2_; have BK362 := n3_; have HB := n4_; clear n0_ n1_ n2_ n3_ n4_; (try clear hb); (try clear hb2); (try clear hk); (try clear hi); have hcz54_0 : w53.cell? ⟨gb362, 0, none⟩ = some (.slice Ao35 t355.length co35) := (blk_cell BK362.out 0).trans rfl; have hcz54_1 : w53.cell? ⟨gb362, 1, none⟩ = some (.slice Ao37 t358.length co37) := (blk_cell BK362.out 1).trans rfl; have hfz54_0 := blk_frozen BK362.out 0; have hfz54_1 := blk_frozen BK362.out 1) | (go_at_call 24; (with_reducible refine (graph_Order.calls k3 _ _ t355 _ _ t358 (Int.tmod (wrap64 (a1)) ji6) t370 _ ?side1 ?side2 ?side3 ?side4 A50.out).mono ?_); (case side1 => repeat (first | exact (Kd.S_reads' HO_363000.out).2.2 | (with_reducible refine Kd.C_alloc ?_ _) | (with_reducible refine Kd.C_drewN ?_ _) | (with_reducible refine Kd.C_drew ?_))); (case side2 => exact (Kd.S_reads' HO_363000.out).2.1); (case side3 => repeat (first | exact (Kd.S_reads' HO_363001.out).2.2 | (with_reducible refine Kd.C_alloc ?_ _) | (with_reducible refine Kd.C_drewN ?_ _) | (with_reducible refine Kd.C_drew ?_))); (case side4 => exact (Kd.S_reads' HO_363001.out).2.1); rintro e w55 ⟨v371, rfl, ho0, hb⟩; have n0_ := Aside0.mk (Kd.R_elder' (by (with_reducible repeat (first | apply Kd.R_alloc | apply Kd.R_drewN | apply Kd.R_drew)); exact HO_13.out) (Kd.R_base ho0) hb); have n1_ := Aside0.mk (Kd.S_elder' (by (with_reducible repeat (first | apply Kd.S_alloc | apply Kd.S_drewN | apply Kd.S_drew)); exact HO_363000.out) (Kd.R_base ho0) hb); have n2_ := Aside0.mk (Kd.S_elder' (by (with_reducible repeat (first | apply Kd.S_alloc | apply Kd.S_drewN | apply Kd.S_drew)); exact HO_363001.out) (Kd.R_base ho0) hb); have n3_ := Aside0.mk (Kd.R_lower (Kd.R_new' ho0 (Kd.R_lt (by (with_reducible repeat (first | apply Kd.R_alloc | apply Kd.R_drewN | apply Kd.R_drew)); exact HO_13.out))) (below_size (B1_))); have n4_ := Aside0.mk (blk_below (g := gb362) (o := .cells #[.slice Ao35 t355.length co35, .slice Ao37 t358.length co37] 45 (0, 0)) (by (with_reducible repeat (first | refine blk_drewN ?_ _ | refine blk_drew ?_ | refine blk_alloc ?_ _)); exact BK362.out) hb); have n5_ := Aside0.mk (below_step (B1_) hb); clear HO_13; clear HO_363000; clear HO_363001; clear BK362; clear HB; have HO_13 := n0_; have HO_363000 := n1_; have HO_363001 := n2_; have HO372 := n3_; have BK362 := n4_; have HB := n5_; clear n0_ n1_ n2_ n3_ n4_ n5_; (try clear hb); (try clear hb2); (try clear hk); (try clear hi); (try clear ho0); obtain ⟨Ao56, co56, eo56⟩ := Kd.R_slice HO372.out; subst eo56; obtain ⟨Ao57, co57, eo57⟩ := Kd.R_slice HO_13.out; subst eo57) | (go_at_call 20; (with_reducible refine (lockstepref02_Ints.calls k3 _ _ t370 _ _ x13_3 t373 _ ?side1 ?side2 ?side3 ?side4 A51.out).mono ?_); (case side1 => repeat (first | exact (Kd.R_reads' HO372.out).2.2 | (with_reducible refine Kd.C_alloc ?_ _) | (with_reducible refine Kd.C_drewN ?_ _) | (with_reducible refine Kd.C_drew ?_))); (case side2 => exact (Kd.R_reads' HO372.out).2.1); (case side3 => repeat (first | exact (Kd.R_reads' HO_13.out).2.2 | (with_reducible refine Kd.C_alloc ?_ _) | (with_reducible refine Kd.C_drewN ?_ _) | (with_reducible refine Kd.C_drew ?_))); (case side4 => exact (Kd.R_reads' HO_13.out).2.1); rintro e w' ⟨rfl, ⟨nd, rfl⟩⟩))
            go_ret
            exact ⟨by first | rfl | exact congrArg (fun b => Ending.returned (Value.bool b)) HR_.out | (simp [errW_none, errW_some] <;> rfl) | (simp only [← hji6]; first | rfl | (simp [errW_none, errW_some] <;> rfl)) | (simp [*, errW_none, errW_some] <;> rfl), B1_⟩
           replace c49 := Bool.eq_false_iff.mpr c49
           subst c49
           have H1 : (some false) = some true := by rw [if_neg (show ¬ (false = true) by decide)] at H; exact H
           clear H
           have H := H1
           clear H1
           exact absurd H (by simp)
          rw [if_neg c47] at H
          have c47b0 : (t361 == 0) = false := beq_eq_false_iff_ne.mpr c47
          have c47b1 : (t361 != 0) = true := bne_iff_ne.mpr c47
          exact absurd H (by simp)
   rw [if_neg c8] at H
   exact absurd H (by simp)
  rw [if_neg c7] at H
  exact absurd H (by simp)
 replace c5 := Bool.eq_false_iff.mpr c5
 subst c5
 have H1 : (some false) = some true := by rw [if_neg (show ¬ (false = true) by decide)] at H; exact H
 clear H
 have H := H1
 clear H1
 exact absurd H (by simp)

/-- THE ONE PURE STATEMENT of locksteplaw06_GraphLine: yours. -/
def locksteplaw06_GraphLine.Pure : Prop := ∀ (a0 : Int) (a1 : Int) (a2 : Bool), (Lit.int .u8 a0).wf = true → (Lit.int .u8 a1).wf = true → ∃ k, locksteplaw06_GraphLine.f k a0 a1 a2 = some true
theorem locksteplaw06_GraphLine.walk (P : locksteplaw06_GraphLine.Pure) (a0 : Int) (a1 : Int) (a2 : Bool) (w : World) (w0 : (Lit.int .u8 a0).wf = true) (w1 : (Lit.int .u8 a1).wf = true) :
 Calls Try.prog 9 #[.int .u8 a0, .int .u8 a1, .bool a2] w fun e w' => e = .returned (.bool true) ∧ Below w.heap.size w w' := by
 obtain ⟨k, h⟩ := P a0 a1 a2 w0 w1
 refine (locksteplaw06_GraphLine.calls k a0 a1 a2 w h).mono ?_
 rintro e w' ⟨rfl, hd⟩
 exact ⟨rfl, hd⟩

end Go.Proofs.Ytokfaaemhniodaa.G
