/- Texts of this session, joined by wip/tools/merge.py. Conditions: each theorem's own. -/
import Derived.Test.YtamlaebfpmbefaaGx0
import Derived.Test.YtamlaebfpmbefaaWWords
import Derived.Test.YtamlaebfpmbefaaWNEv
import Derived.Laws.CopyOwn
import Derived.Laws.Tables
import Derived.Deep.RegionLaw
import Derived.Deep.RegionWith
namespace Go.Proofs.Ytamlaebfpmbefaa.G
open Go.Proofs.YtamlaebfpmbefaaH
open Go.RowKit Go.Proofs.YtamlaebfpmbefaaW.PrintWords Go.Proofs.YtamlaebfpmbefaaW.PrintLast Go.Proofs.YtamlaebfpmbefaaW.PrintMore
attribute [local go_sem] max2_int min2_int max_two min_two max_three min_three max_four min_four   -- for this text's walks alone
set_option linter.unusedVariables false
set_option linter.unusedSimpArgs false

-- NOT PRINTED: function 29 (slices_IndexFunc_int_int_29)

-- NOT PRINTED: function 17 (slices_ContainsFunc_int_int_17)

/-! ### graph_rising: function 19 -/
def graph_rising.l0 : Nat → Int → Int → List Int → Int → Int → Option (Bool)
 | 0, _, _, _, _, _ => none
 | k + 1, x1, x5, x8, x9, x10 => if x10 < x9 then (if 0 ≤ x10 then (if x10 < (x8.length : Int) then (if (rd x8 x10) ≤ x5 then (some false) else (if (rd x8 x10) ≥ x1 then (some false) else (graph_rising.l0 k x1 (rd x8 x10) x8 x9 (wrap64 (x10 + 1))))) else (none)) else (none)) else (some true)
def graph_rising.f (k : Nat) (l0 : List Int) (a1 : Int) : Option (Bool) := graph_rising.l0 k a1 (-1) l0 (l0.length : Int) 0
theorem graph_rising.mono_l : ∀ k, (∀ y0 y1 y2 y3 y4, LeO (graph_rising.l0 k y0 y1 y2 y3 y4) (graph_rising.l0 (k + 1) y0 y1 y2 y3 y4))
 | 0 => fun _ _ _ _ _ r h => by simp [graph_rising.l0] at h
 | k + 1 => by
  have ih0 := graph_rising.mono_l k
  ·intro y0 y1 y2 y3 y4
   unfold graph_rising.l0
   repeat' first
   | (with_reducible exact ih0 _ _ _ _ _)
   | (with_reducible exact LeO.refl _)
   | (with_reducible exact LeO.none _)
   | (with_reducible refine LeO.ite ?_ ?_)
   | (with_reducible refine LeO.bind ?_ (fun _ => ?_))
   | exact ih0 _ _ _ _ _
   | exact LeO.none _
   | refine LeO.ite ?_ ?_
   | refine LeO.bind ?_ (fun _ => ?_)
theorem graph_rising.mono : ∀ a0 a1 k, LeO (graph_rising.f k a0 a1) (graph_rising.f (k + 1) a0 a1) := by
 intro a0 a1 k
 have ih0 := graph_rising.mono_l k
 unfold graph_rising.f
 repeat' first
  | (with_reducible exact ih0 _ _ _ _ _)
  | (with_reducible exact LeO.refl _)
  | (with_reducible exact LeO.none _)
  | (with_reducible refine LeO.ite ?_ ?_)
  | (with_reducible refine LeO.bind ?_ (fun _ => ?_))
  | exact ih0 _ _ _ _ _
  | exact LeO.none _
  | refine LeO.ite ?_ ?_
  | refine LeO.bind ?_ (fun _ => ?_)
set_option maxHeartbeats 8000000 in
set_option maxRecDepth 100000 in
theorem graph_rising.calls (k : Nat) (A0 : Option Addr) (c0 : Nat) (l0 : List Int) (a1 : Int) (r : Bool) (w : World) (hr0 : Kd.C (Kd.int .i64) w A0 l0.length l0) (hc0 : l0.length ≤ c0) (h : graph_rising.f k l0 a1 = some r) :
 Calls Try.prog 19 #[.slice A0 l0.length c0, .int .i64 a1] w fun e w' => e = .returned (.bool r) ∧ Drawn0 w w' := by
 have HR0 := Aside0.mk hr0
 have HC0 := Aside0.mk hc0
 clear hr0 hc0
 have H : (graph_rising.l0 k a1 (-1) l0 (l0.length : Int) 0) = some r := h
 clear h
 have H' := Aside0.mk H
 clear H
 go_enter Try.func19, Try.ntmps19
 go_wp2
 go_loopg [5, 10] k (fun kq v5 v10 w' => ∃ (x5_1 : Int) (x10_1 : Int), v5 = .int .i64 x5_1 ∧ v10 = .int .i64 x10_1 ∧ Aside0 (graph_rising.l0 kq a1 x5_1 l0 (l0.length : Int) x10_1 = some r) ∧ Aside0 (kq ≤ k) ∧ Drawn0 w w')
 case atStart => exact ⟨((-1)), (0), (by first | rfl | (simp; done) | (simp [*]; done)), (by first | rfl | (simp; done) | (simp [*]; done)), H', ⟨Nat.le_refl _⟩, by repeat (first | exact Drawn0.refl _ | apply Drawn0.step)⟩
 case round =>
  clear H'
  obtain ⟨x5_1, x10_1, rfl, rfl, HA, HK1, ⟨m1, rfl⟩⟩ := hrel
  cases gk with
  | zero => exact absurd HA.out (by simp [graph_rising.l0])
  | succ k1 =>
   have H := HA.out
   clear HA
   simp only [graph_rising.l0] at H
   by_cases c3 : x10_1 < (l0.length : Int)
   ·rw [if_pos c3] at H
    have c3b0 : decide (x10_1 < (l0.length : Int)) = true := decide_eq_true c3
    clear c3
    by_cases c4 : 0 ≤ x10_1
    ·rw [if_pos c4] at H
     have c4b0 : decide (0 ≤ x10_1) = true := decide_eq_true c4
     clear c4
     by_cases c5 : x10_1 < (l0.length : Int)
     ·rw [if_pos c5] at H
      have c5b0 : decide (x10_1 < (l0.length : Int)) = true := decide_eq_true c5
      clear c5
      by_cases c6 : (rd l0 x10_1) ≤ x5_1
      ·rw [if_pos c6] at H
       have c6b0 : decide ((rd l0 x10_1) ≤ x5_1) = true := decide_eq_true c6
       clear c6
       obtain rfl := Option.some.inj H
       have p101 : 0 ≤ (x10_1 : Int) := D_
       have q101 : x10_1 < (l0.length : Int) := D_
       obtain ⟨ad101, e101, hx101_0⟩ := Kd.at_int HR0.out x10_1 p101 q101
       cases e101
       replace p101 := eq_true p101
       replace q101 := eq_true q101
       go_wp2
       go_ret
       exact ⟨by first | rfl | (simp; done) | (simp [*]; done), by repeat (first | exact Drawn0.refl _ | apply Drawn0.step)⟩
      rw [if_neg c6] at H
      have c6b0 : decide ((rd l0 x10_1) ≤ x5_1) = false := decide_eq_false c6
      clear c6
      by_cases c7 : (rd l0 x10_1) ≥ a1
      ·rw [if_pos c7] at H
       have c7b0 : decide (a1 ≤ (rd l0 x10_1)) = true := decide_eq_true c7
       clear c7
       obtain rfl := Option.some.inj H
       have p101 : 0 ≤ (x10_1 : Int) := D_
       have q101 : x10_1 < (l0.length : Int) := D_
       obtain ⟨ad101, e101, hx101_0⟩ := Kd.at_int HR0.out x10_1 p101 q101
       cases e101
       replace p101 := eq_true p101
       replace q101 := eq_true q101
       go_wp2
       go_ret
       exact ⟨by first | rfl | (simp; done) | (simp [*]; done), by repeat (first | exact Drawn0.refl _ | apply Drawn0.step)⟩
      rw [if_neg c7] at H
      have c7b0 : decide (a1 ≤ (rd l0 x10_1)) = false := decide_eq_false c7
      clear c7
      have H' := Aside0.mk H
      clear H
      have p101 : 0 ≤ (x10_1 : Int) := D_
      have q101 : x10_1 < (l0.length : Int) := D_
      obtain ⟨ad101, e101, hx101_0⟩ := Kd.at_int HR0.out x10_1 p101 q101
      cases e101
      replace p101 := eq_true p101
      replace q101 := eq_true q101
      go_wp2
      go_roundg k1
      case measure => have := HK1.out; omega
      case rel => exact ⟨(rd l0 x10_1), (wrap64 (x10_1 + 1)), (by first | rfl | (simp; done) | (simp [*]; done)), (by first | rfl | (simp; done) | (simp [*]; done)), H', ⟨by have := HK1.out; omega⟩, by repeat (first | exact Drawn0.refl _ | apply Drawn0.step)⟩
     rw [if_neg c5] at H
     exact absurd H (by simp)
    rw [if_neg c4] at H
    exact absurd H (by simp)
   rw [if_neg c3] at H
   have c3b0 : decide (x10_1 < (l0.length : Int)) = false := decide_eq_false c3
   clear c3
   obtain rfl := Option.some.inj H
   go_wp2
   go_ret
   exact ⟨by first | rfl | (simp; done) | (simp [*]; done), by repeat (first | exact Drawn0.refl _ | apply Drawn0.step)⟩

-- NOT PRINTED: function 18 (graph_Make_1)

/-! ### slices_Clone_int_int: function 20 -/
def slices_Clone_int_int.f (l0 : List Int) : Option (List Int) := (some (([] : List Int) : List Int)).bind fun y102 => (if y102.length + l0.length < 17592186044416 then (some (y102 ++ l0)) else (none))
set_option maxHeartbeats 8000000 in
set_option maxRecDepth 100000 in
theorem slices_Clone_int_int.calls (A0 : Option Addr) (c0 : Nat) (l0 : List Int) (r : List Int) (w : World) (hr0 : Kd.C (Kd.int .i64) w A0 l0.length l0) (hc0 : l0.length ≤ c0) (h : slices_Clone_int_int.f l0 = some r) :
 Calls Try.prog 20 #[.slice A0 l0.length c0] w fun e w' => ∃ v0_ : Value, e = .returned (v0_) ∧ Kd.R (Kd.int .i64) 3 w' w.heap.size (fun _ => True) v0_ r ∧ Below w.heap.size w w' := by
 have HR0 := Aside0.mk hr0
 have HC0 := Aside0.mk hc0
 clear hr0 hc0
 have HB := Aside0.mk (Below.refl w.heap.size w)
 have H : ((some (([] : List Int) : List Int)).bind fun y102 => (if y102.length + l0.length < 17592186044416 then (some (y102 ++ l0)) else (none))) = some r := h
 clear h
 obtain ⟨y102, hy102⟩ : ∃ y_ : List Int, y_ = (([] : List Int)) := ⟨_, rfl⟩
 replace H : (if y102.length + l0.length < 17592186044416 then (some (y102 ++ l0)) else (none)) = some r := by first | (rw [hy102]; with_reducible exact H) | (have H2_ := (Option.bind_some _ _).symm.trans H; rw [hy102]; with_reducible exact H2_) | (have H2_ := (Option.bind_some _ _).symm.trans H; with_reducible exact H2_) | with_reducible exact H | (rw [hy102]; exact H) | exact H
 have Ny102 := Aside0.mk hy102
 clear hy102
 by_cases c2 : y102.length + l0.length < 17592186044416
 ·rw [if_pos c2] at H
  have LMc2 := Aside0.mk c2
  clear c2
  obtain ⟨y105, hy105⟩ : ∃ y_ : List Int, y_ = (y102 ++ l0) := ⟨_, rfl⟩
  replace H : (some y105) = some r := by first | (rw [hy105]; with_reducible exact H) | (have H2_ := (Option.bind_some _ _).symm.trans H; rw [hy105]; with_reducible exact H2_) | (have H2_ := (Option.bind_some _ _).symm.trans H; with_reducible exact H2_) | with_reducible exact H | (rw [hy105]; exact H) | exact H
  have Ny105 := Aside0.mk hy105
  clear hy105
  obtain rfl := Option.some.inj H
  have hq_ := fun (w : World) (a : Option Addr) (l c : Nat) => run_eql_slice_nil (P := Try.prog) w 30 3 a l c Try.underlying30
  cases A0 with
  | none =>
   have hl : l0 = [] := by
    have h3 := HR0.out.2.2
    have : ¬ 0 < l0.length := fun h => by obtain ⟨a, ha, _⟩ := h3 h; cases ha
    exact List.eq_nil_of_length_eq_zero (by omega)
   have hz : y105 = [] := by rw [Ny105.out, Ny102.out, hl]; rfl
   subst hz
   subst hl
   go_enter Try.func20, Try.ntmps20
   go_wp2
   go_ret
   exact ⟨_, rfl, Kd.R_nil _ _ _ _ _, HB.out⟩
  | some a0_ =>
   go_enter Try.func20, Try.ntmps20
   go_wp2_with (first | ((with_reducible refine gate_dst (N := 5) rfl ?_); refine Kd.R_lit (Kd.int .i64) _ 3 ?hg (N := 5) ?hd (xs := ([] : List Int)) (inner := []) (ok := fun _ => True) (okp := fun _ => True) ?hr ?hp (fun _ hk => hk) trivial (Below.refl _ _) (Nat.le_refl _) (by simp) ?_; (case hd => rfl); (case hg => rfl); (case hr => first | (go_simp; done) | (go_simp; rfl)); (case hp => exact (Reps.none _ _)); intro v103 w3 ho4 hb hg_ hnew_; clear hg_ hnew_; (first | rw [← Ny102.out] at ho4 | (simp only [Int.reduceToNat] at ho4; rw [← Ny102.out] at ho4)); have n0_ := Aside0.mk (Kd.R_lower ho4 (below_size (B_))); have n1_ := Aside0.mk (below_step (B_) hb); clear HB; have HO104 := n0_; have HB := n1_; clear n0_ n1_; clear hb ho4) | ((with_reducible refine gate_builtin (b := .append) (xs := #[.tmp 5, .tmp 6]) rfl ?_); at_builtin; refine Kd.R_append_rows (Kd.int .i64) (w0 := w) w.heap.size rfl (.tmp 5) (.tmp 6) 30 3 (.int .i64 0) 8 rfl Try.underlying30 info3 rfl (by decide) (by omega) v103 y102 l0 _ _ _ (fun _ => True) (fun _ => False) rfl rfl ?aO ?aR (fun _ _ h => h) (fun _ h => h.elim) ?aF ?aB ?aS ?aL ?_; (case aR => exact CX_ (Kd.C_below HR0.out HB.out)); (case aB => exact (B_)); (case aF => exact (fun _ _ => trivial)); (case aO => exact (by exact RX_ HO104.out)); (case aS => exact (below_size (B_))); (case aL => have := LMc2.out; omega); intro v106 w5 ho hb hg hat; rw [← Ny105.out] at ho; have n0_ := Aside0.mk (hb); have n1_ := Aside0.mk (ho); clear HB; clear HO104; have HB := n0_; have HO107 := n1_; clear n0_ n1_; clear ho hb hg hat))
   go_ret
   exact ⟨_, by first | rfl | (simp [errW_none, errW_some] <;> rfl) | (simp [*, errW_none, errW_some] <;> rfl), by exact RX_ HO107.out, B_⟩
 rw [if_neg c2] at H
 exact absurd H (by simp)


/-! ### graph_preds: function 21 -/
mutual
def graph_preds.l0 : Nat → List (List Int) → List (List Int) → Int → Int → Option ((List (List Int)))
 | 0, _, _, _, _ => none
 | k + 1, x3, x11, x12, x13 => if x13 < x12 then (if 0 ≤ x13 then (if x13 < (x11.length : Int) then (graph_preds.l1 k x3 x13 x11 x12 x13 (rd_L1 x11 x13) ((rd_L1 x11 x13).length : Int) 0) else (none)) else (none)) else (some x3)
def graph_preds.l1 : Nat → List (List Int) → Int → List (List Int) → Int → Int → List Int → Int → Int → Option ((List (List Int)))
 | 0, _, _, _, _, _, _, _, _ => none
 | k + 1, x3, x4, x11, x12, x13, x18, x19, x20 => if x20 < x19 then (if 0 ≤ x20 then (if x20 < (x18.length : Int) then (if 0 ≤ (rd x18 x20) then (if (rd x18 x20) < (x3.length : Int) then (if (rd_L1 x3 (rd x18 x20)).length < 17592186044416 then (graph_preds.l1 k (x3.set ((rd x18 x20) : Int).toNat ((rd_L1 x3 (rd x18 x20)) ++ [x4])) x4 x11 x12 x13 x18 x19 (wrap64 (x20 + 1))) else (none)) else (none)) else (none)) else (none)) else (none)) else (graph_preds.l0 k x3 x11 x12 (wrap64 (x13 + 1)))
end
def graph_preds.f (k : Nat) (l0 : List (List Int)) : Option ((List (List Int))) := if 0 ≤ (l0.length : Int) then (if ((l0.length : Int) : Int).toNat ≤ 11728124029610 then (graph_preds.l0 k (List.replicate ((l0.length : Int) : Int).toNat []) l0 (l0.length : Int) 0) else (none)) else (none)
theorem graph_preds.mono_l : ∀ k, (∀ y0 y1 y2 y3, LeO (graph_preds.l0 k y0 y1 y2 y3) (graph_preds.l0 (k + 1) y0 y1 y2 y3)) ∧ (∀ y0 y1 y2 y3 y4 y5 y6 y7, LeO (graph_preds.l1 k y0 y1 y2 y3 y4 y5 y6 y7) (graph_preds.l1 (k + 1) y0 y1 y2 y3 y4 y5 y6 y7))
 | 0 => ⟨fun _ _ _ _ r h => by simp [graph_preds.l0] at h, fun _ _ _ _ _ _ _ _ r h => by simp [graph_preds.l1] at h⟩
 | k + 1 => by
  obtain ⟨ih0, ih1⟩ := graph_preds.mono_l k
  refine ⟨?_, ?_⟩
  ·intro y0 y1 y2 y3
   unfold graph_preds.l0
   repeat' first
   | (with_reducible exact ih0 _ _ _ _)
   | (with_reducible exact ih1 _ _ _ _ _ _ _ _)
   | (with_reducible exact LeO.refl _)
   | (with_reducible exact LeO.none _)
   | (with_reducible refine LeO.ite ?_ ?_)
   | (with_reducible refine LeO.bind ?_ (fun _ => ?_))
   | exact ih0 _ _ _ _
   | exact ih1 _ _ _ _ _ _ _ _
   | exact LeO.none _
   | refine LeO.ite ?_ ?_
   | refine LeO.bind ?_ (fun _ => ?_)
  ·intro y0 y1 y2 y3 y4 y5 y6 y7
   unfold graph_preds.l1
   repeat' first
   | (with_reducible exact ih0 _ _ _ _)
   | (with_reducible exact ih1 _ _ _ _ _ _ _ _)
   | (with_reducible exact LeO.refl _)
   | (with_reducible exact LeO.none _)
   | (with_reducible refine LeO.ite ?_ ?_)
   | (with_reducible refine LeO.bind ?_ (fun _ => ?_))
   | exact ih0 _ _ _ _
   | exact ih1 _ _ _ _ _ _ _ _
   | exact LeO.none _
   | refine LeO.ite ?_ ?_
   | refine LeO.bind ?_ (fun _ => ?_)
theorem graph_preds.mono : ∀ a0 k, LeO (graph_preds.f k a0) (graph_preds.f (k + 1) a0) := by
 intro a0 k
 obtain ⟨ih0, ih1⟩ := graph_preds.mono_l k
 unfold graph_preds.f
 repeat' first
  | (with_reducible exact ih0 _ _ _ _)
  | (with_reducible exact ih1 _ _ _ _ _ _ _ _)
  | (with_reducible exact LeO.refl _)
  | (with_reducible exact LeO.none _)
  | (with_reducible refine LeO.ite ?_ ?_)
  | (with_reducible refine LeO.bind ?_ (fun _ => ?_))
  | exact ih0 _ _ _ _
  | exact ih1 _ _ _ _ _ _ _ _
  | exact LeO.none _
  | refine LeO.ite ?_ ?_
  | refine LeO.bind ?_ (fun _ => ?_)
set_option maxHeartbeats 8000000 in
set_option maxRecDepth 100000 in
theorem graph_preds.calls (k : Nat) (A0 : Option Addr) (c0 : Nat) (l0 : List (List Int)) (r : List (List Int)) (w : World) (hr0 : Kd.C (Kd.slice 3 (Kd.int .i64)) w A0 l0.length l0) (hc0 : l0.length ≤ c0) (h : graph_preds.f k l0 = some r) :
 Calls Try.prog 21 #[.slice A0 l0.length c0] w fun e w' => ∃ v0_ : Value, e = .returned (v0_) ∧ Kd.S (Kd.slice 3 (Kd.int .i64)) 30 w' w.heap.size (fun _ => True) v0_ r ∧ Below w.heap.size w w' := by
 have HR0 := Aside0.mk hr0
 have HC0 := Aside0.mk hc0
 clear hr0 hc0
 have HB := Aside0.mk (Below.refl w.heap.size w)
 have H : (if 0 ≤ (l0.length : Int) then (if ((l0.length : Int) : Int).toNat ≤ 11728124029610 then (graph_preds.l0 k (List.replicate ((l0.length : Int) : Int).toNat []) l0 (l0.length : Int) 0) else (none)) else (none)) = some r := h
 clear h
 by_cases c2 : 0 ≤ (l0.length : Int)
 ·rw [if_pos c2] at H
  have c2b0 := eq_true c2
  have c2b1 : decide (0 ≤ (l0.length : Int)) = true := decide_eq_true c2
  clear c2
  by_cases c3 : ((l0.length : Int) : Int).toNat ≤ 11728124029610
  ·rw [if_pos c3] at H
   have c3b0 := eq_true c3
   have c3b1 : decide (((l0.length : Int) : Int).toNat ≤ 11728124029610) = true := decide_eq_true c3
   clear c3
   obtain ⟨y108, hy108⟩ : ∃ y_ : List (List Int), y_ = (List.replicate ((l0.length : Int) : Int).toNat []) := ⟨_, rfl⟩
   replace H : (graph_preds.l0 k y108 l0 (l0.length : Int) 0) = some r := by first | (rw [hy108]; with_reducible exact H) | (have H2_ := (Option.bind_some _ _).symm.trans H; rw [hy108]; with_reducible exact H2_) | (have H2_ := (Option.bind_some _ _).symm.trans H; with_reducible exact H2_) | with_reducible exact H | (rw [hy108]; exact H) | exact H
   have Ny108 := Aside0.mk hy108
   clear hy108
   have H' := Aside0.mk H
   clear H
   go_enter Try.func21, Try.ntmps21
   go_wp2_with (first | ((with_reducible refine gate_dst (N := 10) rfl ?_); refine Kd.S_make (Kd.slice 3 (Kd.int .i64)) _ 30 rfl (N := 10) rfl 22 _ _ rfl (l0.length : Int) rfl rfl Try.underlying22 (.slice none 0 0) 24 info30 rfl (by decide) (by omega) [] (ok := fun _ => True) (okp := fun _ => True) ⟨_, rfl, Kd.R_nil _ _ _ _ _⟩ (fun _ hk => hk) trivial (D_) (Nat.le_trans (Nat.mul_le_mul_right _ (D_ : (l0.length : Int).toNat ≤ 11728124029610)) (by omega)) (Below.refl _ _) (Nat.le_refl _) ?_; intro v109 w4 ho5 hb hg_ hnew_; clear hg_ hnew_; (first | rw [← Ny108.out] at ho5 | (simp only [Int.reduceToNat] at ho5; rw [← Ny108.out] at ho5)); have n0_ := Aside0.mk (Kd.S_lower ho5 (below_size (B_))); have n1_ := Aside0.mk (below_step (B_) hb); clear HB; have HO110 := n0_; have HB := n1_; clear n0_ n1_; clear hb ho5))
   go_loopg [13] k (fun kq v13 w' => ∃ (x3_1 : List (List Int)) (x13_1 : Int), v13 = .int .i64 x13_1 ∧ Aside0 (graph_preds.l0 kq x3_1 l0 (l0.length : Int) x13_1 = some r) ∧ Aside0 (kq ≤ k) ∧ Aside0 (Kd.S (Kd.slice 3 (Kd.int .i64)) 30 w' w.heap.size (fun _ => True) v109 x3_1) ∧ Aside0 (Below w.heap.size w w'))
   case atStart => exact ⟨(y108), (0), (by first | rfl | (simp; done) | (simp [*]; done)), H', ⟨Nat.le_refl _⟩, ⟨by exact SM_ HO110.out⟩, ⟨B_⟩⟩
   case round =>
    clear H'
    try clear c2b0
    try clear c2b1
    try clear c3b0
    try clear c3b1
    obtain ⟨x3_1, x13_1, rfl, HA, HK1, HO_3, HB⟩ := hrel
    cases gk with
    | zero => exact absurd HA.out (by simp [graph_preds.l0])
    | succ k1 =>
     have H := HA.out
     clear HA
     simp only [graph_preds.l0] at H
     by_cases c6 : x13_1 < (l0.length : Int)
     ·rw [if_pos c6] at H
      have c6b0 : decide (x13_1 < (l0.length : Int)) = true := decide_eq_true c6
      clear c6
      by_cases c7 : 0 ≤ x13_1
      ·rw [if_pos c7] at H
       have c7b0 : decide (0 ≤ x13_1) = true := decide_eq_true c7
       clear c7
       by_cases c8 : x13_1 < (l0.length : Int)
       ·rw [if_pos c8] at H
        have c8b0 : decide (x13_1 < (l0.length : Int)) = true := decide_eq_true c8
        clear c8
        have H' := Aside0.mk H
        clear H
        have p111 : 0 ≤ (x13_1 : Int) := D_
        have q111 : x13_1 < (l0.length : Int) := D_
        obtain ⟨ad111, A111_0, c111_0, e111, hx111_0, hl111_0, hi111_0⟩ := at_L1 HR0.out x13_1 p111 q111
        cases e111
        replace hx111_0 := (HB.out.cell (World.block_lt_of_cell? w _ hx111_0)).trans hx111_0
        have HR111_0 := Aside0.mk hi111_0
        have HC111_0 := Aside0.mk hl111_0
        clear hi111_0 hl111_0
        replace p111 := eq_true p111
        replace q111 := eq_true q111
        go_wp2
        go_loopg [20] k1 (fun kq v20 w' => ∃ (x3_2 : List (List Int)) (x20_2 : Int), v20 = .int .i64 x20_2 ∧ Aside0 (graph_preds.l1 kq x3_2 x13_1 l0 (l0.length : Int) x13_1 (rd_L1 l0 x13_1) ((rd_L1 l0 x13_1).length : Int) x20_2 = some r) ∧ Aside0 (kq ≤ k1) ∧ Aside0 (Kd.S (Kd.slice 3 (Kd.int .i64)) 30 w' w.heap.size (fun _ => True) v109 x3_2) ∧ Aside0 (Below w.heap.size w w'))
        case atStart => exact ⟨(x3_1), (0), (by first | rfl | (simp; done) | (simp [*]; done)), H', ⟨Nat.le_refl _⟩, ⟨by exact SM_ HO_3.out⟩, ⟨B_⟩⟩
        case round =>
         clear H'
         try clear c6b0
         try clear c7b0
         try clear c8b0
         try clear hx111_0
         try clear p111
         try clear q111
         obtain ⟨x3_2, x20_2, rfl, HA, HK2, HO_3, HB⟩ := hrel
         cases gk with
         | zero => exact absurd HA.out (by simp [graph_preds.l1])
         | succ k2 =>
          have H := HA.out
          clear HA
          simp only [graph_preds.l1] at H
          by_cases c9 : x20_2 < ((rd_L1 l0 x13_1).length : Int)
          ·rw [if_pos c9] at H
           have c9b0 : decide (x20_2 < ((rd_L1 l0 x13_1).length : Int)) = true := decide_eq_true c9
           clear c9
           by_cases c10 : 0 ≤ x20_2
           ·rw [if_pos c10] at H
            have c10b0 : decide (0 ≤ x20_2) = true := decide_eq_true c10
            clear c10
            by_cases c11 : x20_2 < ((rd_L1 l0 x13_1).length : Int)
            ·rw [if_pos c11] at H
             have c11b0 : decide (x20_2 < ((rd_L1 l0 x13_1).length : Int)) = true := decide_eq_true c11
             clear c11
             by_cases c12 : 0 ≤ (rd (rd_L1 l0 x13_1) x20_2)
             ·rw [if_pos c12] at H
              have c12b0 : decide (0 ≤ (rd (rd_L1 l0 x13_1) x20_2)) = true := decide_eq_true c12
              clear c12
              by_cases c13 : (rd (rd_L1 l0 x13_1) x20_2) < (x3_2.length : Int)
              ·rw [if_pos c13] at H
               have c13b0 : decide ((rd (rd_L1 l0 x13_1) x20_2) < (x3_2.length : Int)) = true := decide_eq_true c13
               clear c13
               by_cases c14 : (rd_L1 x3_2 (rd (rd_L1 l0 x13_1) x20_2)).length < 17592186044416
               ·rw [if_pos c14] at H
                have LMc14 := Aside0.mk c14
                clear c14
                obtain ⟨y114, hy114⟩ : ∃ y_ : List Int, y_ = ((rd_L1 x3_2 (rd (rd_L1 l0 x13_1) x20_2)) ++ [x13_1]) := ⟨_, rfl⟩
                replace H : (graph_preds.l1 k2 (x3_2.set ((rd (rd_L1 l0 x13_1) x20_2) : Int).toNat y114) x13_1 l0 (l0.length : Int) x13_1 (rd_L1 l0 x13_1) ((rd_L1 l0 x13_1).length : Int) (wrap64 (x20_2 + 1))) = some r := by first | (rw [hy114]; with_reducible exact H) | (have H2_ := (Option.bind_some _ _).symm.trans H; rw [hy114]; with_reducible exact H2_) | (have H2_ := (Option.bind_some _ _).symm.trans H; with_reducible exact H2_) | with_reducible exact H | (rw [hy114]; exact H) | exact H
                have Ny114 := Aside0.mk hy114
                clear hy114
                obtain ⟨y117, hy117⟩ : ∃ y_ : List (List Int), y_ = (x3_2.set ((rd (rd_L1 l0 x13_1) x20_2) : Int).toNat y114) := ⟨_, rfl⟩
                replace H : (graph_preds.l1 k2 y117 x13_1 l0 (l0.length : Int) x13_1 (rd_L1 l0 x13_1) ((rd_L1 l0 x13_1).length : Int) (wrap64 (x20_2 + 1))) = some r := by first | (rw [hy117]; with_reducible exact H) | (have H2_ := (Option.bind_some _ _).symm.trans H; rw [hy117]; with_reducible exact H2_) | (have H2_ := (Option.bind_some _ _).symm.trans H; with_reducible exact H2_) | with_reducible exact H | (rw [hy117]; exact H) | exact H
                have Ny117 := Aside0.mk hy117
                clear hy117
                have H' := Aside0.mk H
                clear H
                have p112 : 0 ≤ (x20_2 : Int) := D_
                have q112 : x20_2 < ((rd_L1 l0 x13_1).length : Int) := D_
                obtain ⟨ad112, e112, hx112_0⟩ := Kd.at_int HR111_0.out x20_2 p112 q112
                cases e112
                replace hx112_0 := (HB.out.cell (World.block_lt_of_cell? w _ hx112_0)).trans hx112_0
                replace p112 := eq_true p112
                replace q112 := eq_true q112
                obtain ⟨Ao16, co16, eo16⟩ := Kd.S_slice HO_3.out
                subst eo16
                have p113 : 0 ≤ ((rd (rd_L1 l0 x13_1) x20_2) : Int) := D_
                have q113 : (rd (rd_L1 l0 x13_1) x20_2) < (x3_2.length : Int) := D_
                obtain ⟨ad113, A113_0, c113_0, e113, hx113_0, hl113_0, hi113_0⟩ := at_L1 (Kd.S_reads' HO_3.out).2.2 (rd (rd_L1 l0 x13_1) x20_2) p113 q113
                cases e113
                obtain ⟨ce113, hce113, hMe113, hcc113⟩ := Kd.S_get HO_3.out [] (rd (rd_L1 l0 x13_1) x20_2) p113 (by first | exact q113 | exact D_ | (have e_ := (Kd.S_reads' HO_3.out).1; omega))
                obtain ⟨ve113_0, rfl, ge113_0⟩ := hMe113
                have hv113_0 := hcc113 0 _ rfl
                rw [Nat.add_zero, show ((Kd.slice 3 (Kd.int .i64))).sz = 1 from rfl, Nat.mul_one] at hv113_0
                replace hv113_0 := Option.some.inj (hv113_0.symm.trans hx113_0)
                rw [hv113_0] at ge113_0
                have HL113_0 := Aside0.mk (show Kd.R (Kd.int .i64) 3 _ _ _ _ (rd_L1 x3_2 (rd (rd_L1 l0 x13_1) x20_2)) from ge113_0)
                clear hv113_0 ge113_0
                have HX113_0 := Aside0.mk hx113_0
                clear hcc113 hce113
                have HR113_0 := Aside0.mk hi113_0
                have HC113_0 := Aside0.mk hl113_0
                clear hi113_0 hl113_0
                replace p113 := eq_true p113
                replace q113 := eq_true q113
                obtain ⟨go17, co17, eo17, gb17, gl17, cl17, HG17⟩ := Kd.S_form HO_3.out (by have h_ : ((rd (rd_L1 l0 x13_1) x20_2) : Int) < ((x3_2.length : Int) : Int) := D_; have h2_ : 0 ≤ ((rd (rd_L1 l0 x13_1) x20_2) : Int) := (D_); omega)
                (first | cases eo17 | (injection eo17 with ea_ en_ ec_; (first | subst ea_ | (injection ea_ with ea_; subst ea_)); subst ec_; clear en_))
                have GB17 := Aside0.mk gb17
                have GG17 := Aside0.mk HG17
                clear gb17 gl17 HG17
                (first | simp only [add_plain] at hx113_0 | skip)
                obtain ⟨oki17, ce17, hcl17, hM17, hcc17, _, _, hH17⟩ := Kd.S_elem HO_3.out [] ((rd (rd_L1 l0 x13_1) x20_2) : Int) (D_) (by have h_ : ((rd (rd_L1 l0 x13_1) x20_2) : Int) < ((x3_2.length : Int) : Int) := D_; first | exact h_ | (have e_ := (Kd.S_reads' HO_3.out).1; omega) | simpa using h_)
                obtain ⟨ve17_0, rfl, ge17_0⟩ := hM17
                have hv17 := hcc17 0 _ rfl
                have hX17 := HX113_0.out
                (try simp only [add_plain] at hX17)
                (try simp only [Nat.add_zero] at hv17)
                (try rw [show ((Kd.slice 3 (Kd.int .i64))).sz = 1 from rfl, Nat.mul_one] at hv17)
                replace hv17 := Option.some.inj (hv17.symm.trans hX17)
                subst hv17
                clear hX17 hcc17 hcl17
                have UU17 := Aside0.mk (show Kd.R (Kd.int .i64) 3 _ w.heap.size oki17 (.slice A113_0 (rd_L1 x3_2 (rd (rd_L1 l0 x13_1) x20_2)).length c113_0) (rd_L1 x3_2 (rd (rd_L1 l0 x13_1) x20_2)) from ge17_0)
                have HH17 := Aside0.mk hH17
                have HN17 := Aside0.mk (Kd.S_reads' HO_3.out).1
                clear hH17 ge17_0
                go_wp2_with (first | ((with_reducible refine gate_builtin (b := .append) (xs := #[.tmp 29, .tmp 31]) rfl ?_); at_builtin; refine Kd.R_append (Kd.int .i64) (w0 := w) w.heap.size rfl (.tmp 29) (.tmp 31) 30 3 (.int .i64 0) 8 rfl Try.underlying30 info3 rfl (by decide) (by omega) (.slice A113_0 (rd_L1 x3_2 (rd (rd_L1 l0 x13_1) x20_2)).length c113_0) (rd_L1 x3_2 (rd (rd_L1 l0 x13_1) x20_2)) x13_1 [.int .i64 x13_1] (fun k_ => oki17 k_ ∨ ((fun _ => True)) k_ ∧ wr.heap.size ≤ k_) (fun _ => False) rfl rfl ?aP (fun _ hk => hk.elim) ?aF ?aO ?aB ?aS ?aL ?_; (case aP => exact rfl); (case aB => exact (B_)); (case aF => exact (fun k_ hk => .inr ⟨trivial, hk⟩)); (case aO => exact (by (with_reducible repeat (first | apply Kd.R_alloc | apply Kd.R_drewN | apply Kd.R_drew)); exact Kd.R_mono UU17.out (fun _ hk => .inl hk))); (case aS => exact (below_size (B_))); (case aL => have := LMc14.out; omega); intro v115 w18 ho hb hg hat; rw [← Ny114.out] at ho; have n0_ := Aside0.mk (hb); have n1_ := Aside0.mk (Kd.H_grown (Kd.H_widen (by repeat (first | exact HH17.out | refine Kd.H_alloc ?_ _ | refine Kd.H_drewN ?_ _ | refine Kd.H_drew ?_))) hg (fun k_ e_ => .inl (UU17.out.1 k_ e_))); have n2_ := Aside0.mk (ho); clear HB; clear HH17; clear HO_3; clear UU17; clear HL113_0; have HB := n0_; have HH17 := n1_; have HO116 := n2_; clear n0_ n1_ n2_; clear ho hb hg hat; have p15 : 0 ≤ ((rd (rd_L1 l0 x13_1) x20_2) : Int) := D_; have q15 : ((rd (rd_L1 l0 x13_1) x20_2) : Int) < ((x3_2.length : Int) : Int) := D_; replace p15 := eq_true p15; replace q15 := eq_true q15; obtain ⟨Ao21, co21, eo21⟩ := Kd.R_slice HO116.out; subst eo21; obtain ⟨_, _, hraw19, _, _, hcc19, _⟩ := Kd.H_raw HH17.out (D_) (by have h_ : ((rd (rd_L1 l0 x13_1) x20_2) : Int) < ((x3_2.length : Int) : Int) := D_; first | exact h_ | (have e_ := (HN17.out); omega) | simpa using h_); obtain ⟨_, hfr19⟩ := Kd.H_at HH17.out (D_) (by have h_ : ((rd (rd_L1 l0 x13_1) x20_2) : Int) < ((x3_2.length : Int) : Int) := D_; first | exact h_ | (have e_ := (HN17.out); omega) | simpa using h_); have hx19_0 := hcc19 0 _ rfl; have hf19_0 := hfr19 0; (try simp only [Nat.add_zero] at hx19_0 hf19_0); (try rw [show ((Kd.slice 3 (Kd.int .i64))).sz = 1 from rfl, Nat.mul_one] at hx19_0); (try rw [show ((Kd.slice 3 (Kd.int .i64))).sz = 1 from rfl, Nat.mul_one] at hf19_0); have HP19 := Kd.S_seg0 HH17.out (D_) (by have h_ : ((rd (rd_L1 l0 x13_1) x20_2) : Int) < ((x3_2.length : Int) : Int) := D_; first | exact h_ | (have e_ := (HN17.out); omega) | simpa using h_) (seg := [.slice Ao21 y114.length co21]) (j := 0) (show 1 ≤ 1 from by decide) (x' := y114) (Kd.M_row HO116.out) (fun _ hk => hk); (try simp only [show ((Kd.slice 3 (Kd.int .i64))).sz = 1 from rfl, Nat.mul_one, Nat.add_zero] at HP19); clear hcc19 hfr19) | ((with_reducible refine gate_store (t := 30) (p := 33) rfl ?_); refine store_event (t := 30) (p := 33) (v := ?vo_w20) (w1 := (w18.setCell ⟨go17, ((rd (rd_L1 l0 x13_1) x20_2) : Int).toNat, none⟩ (.slice Ao21 y114.length co21))) ?hg ?ho ?hn ?hr ?_; (case ho => rfl); (case hg => rfl); (case hn => rfl); (case hr => first | (go_simp; done) | (go_simp; rfl)); intro w20 hw; have hg : w18.grownBy w20 (some go17) := (by rw [hw]; exact HP19.2); have hp_ : Kd.S (Kd.slice 3 (Kd.int .i64)) 30 w20 w.heap.size (fun _ => True) (.slice (some ⟨go17, 0, none⟩) x3_2.length co16) y117 := (by rw [hw, Ny117.out]; exact HP19.1); clear HP19; have n0_ := Aside0.mk ((by rw [hw]; exact below_set HB.out GB17.out : Below w.heap.size w w20)); have n1_ := Aside0.mk (hp_); clear HB; clear HO116; clear HH17; have HB := n0_; have HO_3 := n1_; clear n0_ n1_; clear hg hw hp_ hraw19))
                go_roundg k2
                case measure => have := HK1.out; have := HK2.out; omega
                case rel => exact ⟨(y117), (wrap64 (x20_2 + 1)), (by first | rfl | (simp; done) | (simp [*]; done)), H', ⟨by have := HK1.out; have := HK2.out; omega⟩, ⟨by exact SM_ HO_3.out⟩, ⟨B_⟩⟩
               rw [if_neg c14] at H
               exact absurd H (by simp)
              rw [if_neg c13] at H
              exact absurd H (by simp)
             rw [if_neg c12] at H
             exact absurd H (by simp)
            rw [if_neg c11] at H
            exact absurd H (by simp)
           rw [if_neg c10] at H
           exact absurd H (by simp)
          rw [if_neg c9] at H
          have c9b0 : decide (x20_2 < ((rd_L1 l0 x13_1).length : Int)) = false := decide_eq_false c9
          clear c9
          have H' := Aside0.mk H
          clear H
          go_wp2
          go_roundg k2
          case measure => have := HK1.out; have := HK2.out; omega
          case rel => exact ⟨(x3_2), (wrap64 (x13_1 + 1)), (by first | rfl | (simp; done) | (simp [*]; done)), H', ⟨by have := HK1.out; have := HK2.out; omega⟩, ⟨by exact SM_ HO_3.out⟩, ⟨B_⟩⟩
       rw [if_neg c8] at H
       exact absurd H (by simp)
      rw [if_neg c7] at H
      exact absurd H (by simp)
     rw [if_neg c6] at H
     have c6b0 : decide (x13_1 < (l0.length : Int)) = false := decide_eq_false c6
     clear c6
     obtain rfl := Option.some.inj H
     go_wp2
     go_ret
     exact ⟨_, by first | rfl | (simp [errW_none, errW_some] <;> rfl) | (simp [*, errW_none, errW_some] <;> rfl), by exact SX_ HO_3.out, B_⟩
  rw [if_neg c3] at H
  exact absurd H (by simp)
 rw [if_neg c2] at H
 exact absurd H (by simp)


/-! ### graph_Make_1: function 18 -/
def graph_Make_1.f (k : Nat) (l0 : List Int) (a1 : Int) : Option (Bool) := (graph_rising.f k l0 a1).bind fun t120 => (some (!t120))
theorem graph_Make_1.mono : ∀ a0 a1 k, LeO (graph_Make_1.f k a0 a1) (graph_Make_1.f (k + 1) a0 a1) := by
 intro a0 a1 k
 unfold graph_Make_1.f
 repeat' first
  | (with_reducible exact graph_rising.mono _ _ _)
  | (with_reducible exact LeO.refl _)
  | (with_reducible exact LeO.none _)
  | (with_reducible refine LeO.ite ?_ ?_)
  | (with_reducible refine LeO.bind ?_ (fun _ => ?_))
  | exact graph_rising.mono _ _ _
  | exact LeO.none _
  | refine LeO.ite ?_ ?_
  | refine LeO.bind ?_ (fun _ => ?_)
set_option maxHeartbeats 8000000 in
set_option maxRecDepth 100000 in
theorem graph_Make_1.calls (k : Nat) (A0 : Option Addr) (c0 : Nat) (l0 : List Int) (g1_ : Nat) (a1 : Int) (r : Bool) (w : World) (hr0 : Kd.C (Kd.int .i64) w A0 l0.length l0) (hc0 : l0.length ≤ c0) (hcb1 : w.cell? ⟨g1_, 0, none⟩ = some (.int .i64 a1)) (h : graph_Make_1.f k l0 a1 = some r) :
 Calls Try.prog 18 #[.slice A0 l0.length c0, .pointer (some ⟨g1_, 0, none⟩)] w fun e w' => e = .returned (.bool r) ∧ Drawn0 w w' := by
 have HR0 := Aside0.mk hr0
 have HC0 := Aside0.mk hc0
 clear hr0 hc0
 have H : ((graph_rising.f k l0 a1).bind fun t120 => (some (!t120))) = some r := h
 clear h
 replace H := Option.bind_eq_some_iff.mp H
 obtain ⟨t120, A30, H⟩ := H
 replace H : (some (!t120)) = some r := H
 have A3 := Aside0.mk A30
 clear A30
 obtain rfl := Option.some.inj H
 go_enter Try.func18, Try.ntmps18
 go_wp2_with (first | ((with_reducible refine gate_callee (f := 19) rfl ?_); refine goesL_ (some 6) rfl rfl Try.func19 (by kernel_rfl) rfl #[.slice A0 l0.length c0, .int .i64 a1] rfl (by (try simp only [List.map_toArray, List.map_cons, List.map_nil]); first | done | rfl | (simp only [List.length_drop, List.length_take]; rfl)) ?_; (with_reducible refine (graph_rising.calls k _ _ l0 a1 t120 _ ?side1 ?side2 A3.out).mono ?_); (case side1 => exact CX_ HR0.out); (case side2 => exact HC0.out); rintro e w' ⟨rfl, ⟨nd, rfl⟩⟩; refine ⟨_, rfl, ?_⟩))
 go_ret
 exact ⟨by first | rfl | (simp; done) | (simp [*]; done), by repeat (first | exact Drawn0.refl _ | apply Drawn0.step)⟩

/-! ### slices_IndexFunc_int_int_graph_Make_1: function 29 -/
def slices_IndexFunc_int_int_graph_Make_1.l0 : Nat → List (List Int) → Int → Int → Int → Option (Int)
 | 0, _, _, _, _ => none
 | k + 1, x0, x7, x8, x2000 => if x8 < x7 then (if 0 ≤ x8 then (if x8 < (x0.length : Int) then ((graph_Make_1.f k (rd_L1 x0 x8) x2000).bind fun t124 => (if t124 = true then (some x8) else (slices_IndexFunc_int_int_graph_Make_1.l0 k x0 x7 (wrap64 (x8 + 1)) x2000))) else (none)) else (none)) else (some (-1))
def slices_IndexFunc_int_int_graph_Make_1.f (k : Nat) (l0 : List (List Int)) (a1 : Int) : Option (Int) := slices_IndexFunc_int_int_graph_Make_1.l0 k l0 (l0.length : Int) 0 a1
theorem slices_IndexFunc_int_int_graph_Make_1.mono_l : ∀ k, (∀ y0 y1 y2 y3, LeO (slices_IndexFunc_int_int_graph_Make_1.l0 k y0 y1 y2 y3) (slices_IndexFunc_int_int_graph_Make_1.l0 (k + 1) y0 y1 y2 y3))
 | 0 => fun _ _ _ _ r h => by simp [slices_IndexFunc_int_int_graph_Make_1.l0] at h
 | k + 1 => by
  have ih0 := slices_IndexFunc_int_int_graph_Make_1.mono_l k
  ·intro y0 y1 y2 y3
   unfold slices_IndexFunc_int_int_graph_Make_1.l0
   repeat' first
   | (with_reducible exact ih0 _ _ _ _)
   | (with_reducible exact graph_Make_1.mono _ _ _)
   | (with_reducible exact LeO.refl _)
   | (with_reducible exact LeO.none _)
   | (with_reducible refine LeO.ite ?_ ?_)
   | (with_reducible refine LeO.bind ?_ (fun _ => ?_))
   | exact ih0 _ _ _ _
   | exact graph_Make_1.mono _ _ _
   | exact LeO.none _
   | refine LeO.ite ?_ ?_
   | refine LeO.bind ?_ (fun _ => ?_)
theorem slices_IndexFunc_int_int_graph_Make_1.mono : ∀ a0 a1 k, LeO (slices_IndexFunc_int_int_graph_Make_1.f k a0 a1) (slices_IndexFunc_int_int_graph_Make_1.f (k + 1) a0 a1) := by
 intro a0 a1 k
 have ih0 := slices_IndexFunc_int_int_graph_Make_1.mono_l k
 unfold slices_IndexFunc_int_int_graph_Make_1.f
 repeat' first
  | (with_reducible exact ih0 _ _ _ _)
  | (with_reducible exact graph_Make_1.mono _ _ _)
  | (with_reducible exact LeO.refl _)
  | (with_reducible exact LeO.none _)
  | (with_reducible refine LeO.ite ?_ ?_)
  | (with_reducible refine LeO.bind ?_ (fun _ => ?_))
  | exact ih0 _ _ _ _
  | exact graph_Make_1.mono _ _ _
  | exact LeO.none _
  | refine LeO.ite ?_ ?_
  | refine LeO.bind ?_ (fun _ => ?_)
set_option maxHeartbeats 8000000 in
set_option maxRecDepth 100000 in
theorem slices_IndexFunc_int_int_graph_Make_1.calls (k : Nat) (A0 : Option Addr) (c0 : Nat) (l0 : List (List Int)) (g1_ : Nat) (a1 : Int) (r : Int) (w : World) (hr0 : Kd.C (Kd.slice 3 (Kd.int .i64)) w A0 l0.length l0) (hc0 : l0.length ≤ c0) (hcb1 : w.cell? ⟨g1_, 0, none⟩ = some (.int .i64 a1)) (h : slices_IndexFunc_int_int_graph_Make_1.f k l0 a1 = some r) :
 Calls Try.prog 29 #[.slice A0 l0.length c0, .func (.func 18) #[] #[.pointer (some ⟨g1_, 0, none⟩)]] w fun e w' => e = .returned (.int .i64 r) ∧ Drawn0 w w' := by
 have HR0 := Aside0.mk hr0
 have HC0 := Aside0.mk hc0
 clear hr0 hc0
 have H : (slices_IndexFunc_int_int_graph_Make_1.l0 k l0 (l0.length : Int) 0 a1) = some r := h
 clear h
 have H' := Aside0.mk H
 clear H
 go_enter Try.func29, Try.ntmps29
 go_wp2
 go_loopg [8] k (fun kq v8 w' => ∃ (x8_1 : Int), v8 = .int .i64 x8_1 ∧ Aside0 (slices_IndexFunc_int_int_graph_Make_1.l0 kq l0 (l0.length : Int) x8_1 a1 = some r) ∧ Aside0 (kq ≤ k) ∧ Drawn0 w w')
 case atStart => exact ⟨(0), (by first | rfl | (simp; done) | (simp [*]; done)), H', ⟨Nat.le_refl _⟩, by repeat (first | exact Drawn0.refl _ | apply Drawn0.step)⟩
 case round =>
  clear H'
  obtain ⟨x8_1, rfl, HA, HK1, ⟨m1, rfl⟩⟩ := hrel
  cases gk with
  | zero => exact absurd HA.out (by simp [slices_IndexFunc_int_int_graph_Make_1.l0])
  | succ k1 =>
   have H := HA.out
   clear HA
   simp only [slices_IndexFunc_int_int_graph_Make_1.l0] at H
   by_cases c3 : x8_1 < (l0.length : Int)
   ·rw [if_pos c3] at H
    have c3b0 : decide (x8_1 < (l0.length : Int)) = true := decide_eq_true c3
    clear c3
    by_cases c4 : 0 ≤ x8_1
    ·rw [if_pos c4] at H
     have c4b0 : decide (0 ≤ x8_1) = true := decide_eq_true c4
     clear c4
     by_cases c5 : x8_1 < (l0.length : Int)
     ·rw [if_pos c5] at H
      have c5b0 : decide (x8_1 < (l0.length : Int)) = true := decide_eq_true c5
      clear c5
      replace H := Option.bind_eq_some_iff.mp H
      obtain ⟨t124, A60, H⟩ := H
      replace H : (if t124 = true then (some x8_1) else (slices_IndexFunc_int_int_graph_Make_1.l0 k1 l0 (l0.length : Int) (wrap64 (x8_1 + 1)) a1)) = some r := H
      have A6 := Aside0.mk A60
      clear A60
      by_cases c7 : t124 = true
      ·subst c7
       have H1 : (some x8_1) = some r := by rw [if_pos rfl] at H; exact H
       clear H
       have H := H1
       clear H1
       obtain rfl := Option.some.inj H
       have p123 : 0 ≤ (x8_1 : Int) := D_
       have q123 : x8_1 < (l0.length : Int) := D_
       obtain ⟨ad123, A123_0, c123_0, e123, hx123_0, hl123_0, hi123_0⟩ := at_L1 HR0.out x8_1 p123 q123
       cases e123
       have HR123_0 := Aside0.mk hi123_0
       have HC123_0 := Aside0.mk hl123_0
       clear hi123_0 hl123_0
       replace p123 := eq_true p123
       replace q123 := eq_true q123
       go_wp2_with (first | (go_at_call 18; (with_reducible refine (graph_Make_1.calls k1 _ _ (rd_L1 l0 x8_1) g1_ a1 true _ ?side1 ?side2 ?side3 A6.out).mono ?_); (case side1 => exact CX_ HR123_0.out); (case side2 => exact HC123_0.out); (case side3 => exact (by first | exact hcb1 | simpa using hcb1)); rintro e w' ⟨rfl, ⟨nd, rfl⟩⟩))
       go_ret
       exact ⟨by first | rfl | (simp; done) | (simp [*]; done), by repeat (first | exact Drawn0.refl _ | apply Drawn0.step)⟩
      replace c7 := Bool.eq_false_iff.mpr c7
      subst c7
      have H1 : (slices_IndexFunc_int_int_graph_Make_1.l0 k1 l0 (l0.length : Int) (wrap64 (x8_1 + 1)) a1) = some r := by rw [if_neg (show ¬ (false = true) by decide)] at H; exact H
      clear H
      have H := H1
      clear H1
      have H' := Aside0.mk H
      clear H
      have p123 : 0 ≤ (x8_1 : Int) := D_
      have q123 : x8_1 < (l0.length : Int) := D_
      obtain ⟨ad123, A123_0, c123_0, e123, hx123_0, hl123_0, hi123_0⟩ := at_L1 HR0.out x8_1 p123 q123
      cases e123
      have HR123_0 := Aside0.mk hi123_0
      have HC123_0 := Aside0.mk hl123_0
      clear hi123_0 hl123_0
      replace p123 := eq_true p123
      replace q123 := eq_true q123
      go_wp2_with (first | (go_at_call 18; (with_reducible refine (graph_Make_1.calls k1 _ _ (rd_L1 l0 x8_1) g1_ a1 false _ ?side1 ?side2 ?side3 A6.out).mono ?_); (case side1 => exact CX_ HR123_0.out); (case side2 => exact HC123_0.out); (case side3 => exact (by first | exact hcb1 | simpa using hcb1)); rintro e w' ⟨rfl, ⟨nd, rfl⟩⟩))
      go_roundg k1
      case measure => have := HK1.out; omega
      case rel => exact ⟨(wrap64 (x8_1 + 1)), (by first | rfl | (simp; done) | (simp [*]; done)), H', ⟨by have := HK1.out; omega⟩, by repeat (first | exact Drawn0.refl _ | apply Drawn0.step)⟩
     rw [if_neg c5] at H
     exact absurd H (by simp)
    rw [if_neg c4] at H
    exact absurd H (by simp)
   rw [if_neg c3] at H
   have c3b0 : decide (x8_1 < (l0.length : Int)) = false := decide_eq_false c3
   clear c3
   obtain rfl := Option.some.inj H
   go_wp2
   go_ret
   exact ⟨by first | rfl | (simp; done) | (simp [*]; done), by repeat (first | exact Drawn0.refl _ | apply Drawn0.step)⟩

/-! ### slices_ContainsFunc_int_int_graph_Make_1: function 17 -/
def slices_ContainsFunc_int_int_graph_Make_1.f (k : Nat) (l0 : List (List Int)) (a1 : Int) : Option (Bool) := (slices_IndexFunc_int_int_graph_Make_1.f k l0 a1).bind fun t125 => (some (decide (t125 ≥ 0)))
theorem slices_ContainsFunc_int_int_graph_Make_1.mono : ∀ a0 a1 k, LeO (slices_ContainsFunc_int_int_graph_Make_1.f k a0 a1) (slices_ContainsFunc_int_int_graph_Make_1.f (k + 1) a0 a1) := by
 intro a0 a1 k
 unfold slices_ContainsFunc_int_int_graph_Make_1.f
 repeat' first
  | (with_reducible exact slices_IndexFunc_int_int_graph_Make_1.mono _ _ _)
  | (with_reducible exact LeO.refl _)
  | (with_reducible exact LeO.none _)
  | (with_reducible refine LeO.ite ?_ ?_)
  | (with_reducible refine LeO.bind ?_ (fun _ => ?_))
  | exact slices_IndexFunc_int_int_graph_Make_1.mono _ _ _
  | exact LeO.none _
  | refine LeO.ite ?_ ?_
  | refine LeO.bind ?_ (fun _ => ?_)
set_option maxHeartbeats 8000000 in
set_option maxRecDepth 100000 in
theorem slices_ContainsFunc_int_int_graph_Make_1.calls (k : Nat) (A0 : Option Addr) (c0 : Nat) (l0 : List (List Int)) (g1_ : Nat) (a1 : Int) (r : Bool) (w : World) (hr0 : Kd.C (Kd.slice 3 (Kd.int .i64)) w A0 l0.length l0) (hc0 : l0.length ≤ c0) (hcb1 : w.cell? ⟨g1_, 0, none⟩ = some (.int .i64 a1)) (h : slices_ContainsFunc_int_int_graph_Make_1.f k l0 a1 = some r) :
 Calls Try.prog 17 #[.slice A0 l0.length c0, .func (.func 18) #[] #[.pointer (some ⟨g1_, 0, none⟩)]] w fun e w' => e = .returned (.bool r) ∧ Drawn0 w w' := by
 have HR0 := Aside0.mk hr0
 have HC0 := Aside0.mk hc0
 clear hr0 hc0
 have H : ((slices_IndexFunc_int_int_graph_Make_1.f k l0 a1).bind fun t125 => (some (decide (t125 ≥ 0)))) = some r := h
 clear h
 replace H := Option.bind_eq_some_iff.mp H
 obtain ⟨t125, A30, H⟩ := H
 replace H : (some (decide (t125 ≥ 0))) = some r := H
 have A3 := Aside0.mk A30
 clear A30
 obtain rfl := Option.some.inj H
 go_enter Try.func17, Try.ntmps17
 go_wp2_with (first | ((with_reducible refine gate_callee (f := 29) rfl ?_); refine goesL_ (some 7) rfl rfl Try.func29 (by kernel_rfl) rfl #[.slice A0 l0.length c0, .func (.func 18) #[] #[.pointer (some ⟨g1_, 0, none⟩)]] rfl (by (try simp only [List.map_toArray, List.map_cons, List.map_nil]); first | done | rfl | (simp only [List.length_drop, List.length_take]; rfl)) ?_; (with_reducible refine (slices_IndexFunc_int_int_graph_Make_1.calls k _ _ l0 g1_ a1 t125 _ ?side1 ?side2 ?side3 A3.out).mono ?_); (case side1 => exact CX_ HR0.out); (case side2 => exact HC0.out); (case side3 => exact (by first | exact hcb1 | simpa using hcb1)); rintro e w' ⟨rfl, ⟨nd, rfl⟩⟩; refine ⟨_, rfl, ?_⟩))
 go_ret
 exact ⟨by first | rfl | (simp; done) | (simp [*]; done), by repeat (first | exact Drawn0.refl _ | apply Drawn0.step)⟩


/-! ### graph_Make: function 9 -/
mutual
def graph_Make.j0 : Nat → List (List Int) → Bool → Int → Option ((List (List Int)) × (List (List Int)) × Int)
 | 0, _, _, _ => none
 | k + 1, x0, x20, x128000 => if x20 = true then (some (([] : List (List Int)), ([] : List (List Int)), 5)) else (if 0 ≤ x128000 then (if (x128000 : Int).toNat ≤ 11728124029610 then (graph_Make.l0 k (([] : List (List Int))) x0 (x0.length : Int) 0) else (none)) else (none))
def graph_Make.l0 : Nat → List (List Int) → List (List Int) → Int → Int → Option ((List (List Int)) × (List (List Int)) × Int)
 | 0, _, _, _, _ => none
 | k + 1, x5, x24, x25, x26 => if x26 < x25 then (if 0 ≤ x26 then (if x26 < (x24.length : Int) then ((slices_Clone_int_int.f (rd_L1 x24 x26)).bind fun t133 => (if x5.length < 5864062014805 then (graph_Make.l0 k (x5 ++ [t133]) x24 x25 (wrap64 (x26 + 1))) else (none))) else (none)) else (none)) else ((graph_preds.f k x5).bind fun t139 => (some (x5, t139, 0)))
end
def graph_Make.f (k : Nat) (l0 : List (List Int)) : Option ((List (List Int)) × (List (List Int)) × Int) := if (l0.length : Int) < 1 then (graph_Make.j0 k l0 true (l0.length : Int)) else (if (l0.length : Int) > 64 then (graph_Make.j0 k l0 true (l0.length : Int)) else ((slices_ContainsFunc_int_int_graph_Make_1.f k l0 (l0.length : Int)).bind fun t128 => (graph_Make.j0 k l0 t128 (l0.length : Int))))
theorem graph_Make.mono_l : ∀ k, (∀ y0 y1 y2, LeO (graph_Make.j0 k y0 y1 y2) (graph_Make.j0 (k + 1) y0 y1 y2)) ∧ (∀ y0 y1 y2 y3, LeO (graph_Make.l0 k y0 y1 y2 y3) (graph_Make.l0 (k + 1) y0 y1 y2 y3))
 | 0 => ⟨fun _ _ _ r h => by simp [graph_Make.j0] at h, fun _ _ _ _ r h => by simp [graph_Make.l0] at h⟩
 | k + 1 => by
  obtain ⟨ih0, ih1⟩ := graph_Make.mono_l k
  refine ⟨?_, ?_⟩
  ·intro y0 y1 y2
   unfold graph_Make.j0
   repeat' first
   | (with_reducible exact ih0 _ _ _)
   | (with_reducible exact ih1 _ _ _ _)
   | (with_reducible exact graph_preds.mono _ _)
   | (with_reducible exact slices_ContainsFunc_int_int_graph_Make_1.mono _ _ _)
   | (with_reducible exact LeO.refl _)
   | (with_reducible exact LeO.none _)
   | (with_reducible refine LeO.ite ?_ ?_)
   | (with_reducible refine LeO.bind ?_ (fun _ => ?_))
   | exact ih0 _ _ _
   | exact ih1 _ _ _ _
   | exact graph_preds.mono _ _
   | exact slices_ContainsFunc_int_int_graph_Make_1.mono _ _ _
   | exact LeO.none _
   | refine LeO.ite ?_ ?_
   | refine LeO.bind ?_ (fun _ => ?_)
  ·intro y0 y1 y2 y3
   unfold graph_Make.l0
   repeat' first
   | (with_reducible exact ih0 _ _ _)
   | (with_reducible exact ih1 _ _ _ _)
   | (with_reducible exact graph_preds.mono _ _)
   | (with_reducible exact slices_ContainsFunc_int_int_graph_Make_1.mono _ _ _)
   | (with_reducible exact LeO.refl _)
   | (with_reducible exact LeO.none _)
   | (with_reducible refine LeO.ite ?_ ?_)
   | (with_reducible refine LeO.bind ?_ (fun _ => ?_))
   | exact ih0 _ _ _
   | exact ih1 _ _ _ _
   | exact graph_preds.mono _ _
   | exact slices_ContainsFunc_int_int_graph_Make_1.mono _ _ _
   | exact LeO.none _
   | refine LeO.ite ?_ ?_
   | refine LeO.bind ?_ (fun _ => ?_)
theorem graph_Make.mono : ∀ a0 k, LeO (graph_Make.f k a0) (graph_Make.f (k + 1) a0) := by
 intro a0 k
 obtain ⟨ih0, ih1⟩ := graph_Make.mono_l k
 unfold graph_Make.f
 repeat' first
  | (with_reducible exact ih0 _ _ _)
  | (with_reducible exact ih1 _ _ _ _)
  | (with_reducible exact graph_preds.mono _ _)
  | (with_reducible exact slices_ContainsFunc_int_int_graph_Make_1.mono _ _ _)
  | (with_reducible exact LeO.refl _)
  | (with_reducible exact LeO.none _)
  | (with_reducible refine LeO.ite ?_ ?_)
  | (with_reducible refine LeO.bind ?_ (fun _ => ?_))
  | exact ih0 _ _ _
  | exact ih1 _ _ _ _
  | exact graph_preds.mono _ _
  | exact slices_ContainsFunc_int_int_graph_Make_1.mono _ _ _
  | exact LeO.none _
  | refine LeO.ite ?_ ?_
  | refine LeO.bind ?_ (fun _ => ?_)
set_option maxHeartbeats 8000000 in
set_option maxRecDepth 100000 in
theorem graph_Make.calls (k : Nat) (A0 : Option Addr) (c0 : Nat) (l0 : List (List Int)) (r1 : List (List Int)) (r2 : List (List Int)) (r3 : Int) (w : World) (hr0 : Kd.C (Kd.slice 3 (Kd.int .i64)) w A0 l0.length l0) (hc0 : l0.length ≤ c0) (h : graph_Make.f k l0 = some (r1, r2, r3)) :
 Calls Try.prog 9 #[.slice A0 l0.length c0] w fun e w' => ∃ v0_ v1_ : Value, e = .returned (.tuple #[.agg #[v0_, v1_], .int .i64 r3]) ∧ Kd.S (Kd.slice 3 (Kd.int .i64)) 30 w' w.heap.size (fun k_ => some k_ ≠ (v1_ : Value).ownBlock) v0_ r1 ∧ Kd.S (Kd.slice 3 (Kd.int .i64)) 30 w' w.heap.size (fun k_ => some k_ ≠ (v0_ : Value).ownBlock) v1_ r2 ∧ Below w.heap.size w w' := by
 have hu26 := Try.underlying26
 have HR0 := Aside0.mk hr0
 have HC0 := Aside0.mk hc0
 clear hr0 hc0
 have HB := Aside0.mk (Below.refl w.heap.size w)
 have H : (if (l0.length : Int) < 1 then (graph_Make.j0 k l0 true (l0.length : Int)) else (if (l0.length : Int) > 64 then (graph_Make.j0 k l0 true (l0.length : Int)) else ((slices_ContainsFunc_int_int_graph_Make_1.f k l0 (l0.length : Int)).bind fun t128 => (graph_Make.j0 k l0 t128 (l0.length : Int))))) = some (r1, r2, r3) := h
 clear h
 have HC2 := Aside0.mk H
 clear H
 go_enter Try.func9, Try.ntmps9
 go_upto_region 2 with (first | ((with_reducible refine gate_dst (N := 2) rfl ?_); refine box_event ?hg (N := 2) ?hd (cs := #[.slice none 0 0, .slice none 0 0]) (t := 26) ?hr ?_; (case hd => rfl); (case hg => rfl); (case hr => first | (go_simp; done) | (go_simp; rfl)); intro gb126 hg w3 hbox hb; have n0_ := Aside0.mk (below_step (B_) hb); have n1_ := Aside0.mk (hbox); have n2_ := Aside0.mk ((by rw [hg]; exact (below_size (B_)) : w.heap.size ≤ gb126)); have n3_ := Aside0.mk ((by rw [hg]; exact (below_size (B_)) : w.heap.size ≤ gb126)); clear HB; have HB := n0_; have BK126 := n1_; have GW126 := n2_; have GE126 := n3_; clear n0_ n1_ n2_ n3_; clear hb hbox hg) | ((with_reducible refine gate_dst (N := 4) rfl ?_); refine box_event ?hg (N := 4) ?hd (cs := #[.int .i64 0]) (t := 3) ?hr ?_; (case hd => rfl); (case hg => rfl); (case hr => first | (go_simp; done) | (go_simp; rfl)); intro gb127 hg w4 hbox hb; have n0_ := Aside0.mk (blk_below (g := gb126) (o := .cells #[.slice none 0 0, .slice none 0 0] 26 (0, 0)) (by exact KX_ BK126.out) hb); have n1_ := Aside0.mk (below_step (B1_) hb); have n2_ := Aside0.mk (hbox); have n3_ := Aside0.mk ((by rw [hg]; exact (below_size (B1_)) : w.heap.size ≤ gb127)); have n4_ := Aside0.mk ((by rw [hg]; exact (below_size (B1_)) : w.heap.size ≤ gb127)); have n5_ := Aside0.mk ((by rw [hg]; exact Nat.ne_of_lt (blk_lt (g := gb126) (o := .cells #[.slice none 0 0, .slice none 0 0] 26 (0, 0)) (by exact KX_ BK126.out)) : gb126 ≠ gb127)); have n6_ := Aside0.mk ((by rw [hg]; exact Nat.ne_of_gt (blk_lt (g := gb126) (o := .cells #[.slice none 0 0, .slice none 0 0] 26 (0, 0)) (by exact KX_ BK126.out)) : gb127 ≠ gb126)); clear BK126; clear HB; have BK126 := n0_; have HB := n1_; have BK127 := n2_; have GW127 := n3_; have GE127 := n4_; have NB126_127 := n5_; have NB127_126 := n6_; clear n0_ n1_ n2_ n3_ n4_ n5_ n6_; clear hb hbox hg; have hnb5 := NB127_126.out; have hnc5 := NB126_127.out; have hcz6_0 : w4.cell? ⟨gb127, 0, none⟩ = some (.int .i64 0) := (blk_cell BK127.out 0).trans rfl; have hfz6_0 := blk_frozen BK127.out 0))
 (try simp only [Act.put, List.setIfInBounds_toArray, List.set_cons_zero, List.set_cons_succ])
 go_cut [20] (fun v20 wc => ∃ (kq : Nat) (x20_1 : Bool), v20 = .bool x20_1 ∧ Aside0 (graph_Make.j0 kq l0 x20_1 (l0.length : Int) = some (r1, r2, r3)) ∧ Aside0 (kq ≤ k) ∧ Aside0 (wc.heap[gb126]? = some (.cells #[(.slice none 0 0), (.slice none 0 0)] 26 (0, 0))) ∧ Aside0 (wc.heap[gb127]? = some (.cells #[.int .i64 (l0.length : Int)] 3 (0, 0))) ∧ Aside0 (Below w.heap.size w wc))
 case first =>
  have H := HC2.out
  clear HC2
  by_cases c7 : (l0.length : Int) < 1
  ·rw [if_pos c7] at H
   have c7b0 : decide ((l0.length : Int) < 1) = true := decide_eq_true c7
   have c7b1 : decide (l0.length < 1) = true := decide_eq_true (by omega)
   clear c7
   (first | rw [c7b0] | (simp only [i64_w, i32_w]; rw [c7b0]) | skip)
   have H' := Aside0.mk H
   clear H
   have hnb8 := NB127_126.out
   have hnc8 := NB126_127.out
   have hcz9_0 : w4.cell? ⟨gb127, 0, none⟩ = some (.int .i64 0) := (blk_cell BK127.out 0).trans rfl
   have hfz9_0 := blk_frozen BK127.out 0
   go_wp2
   go_meet
   case rel => exact ⟨_, (true), (by first | rfl | (simp; done) | (simp [*]; done)), H', ⟨by first | omega | exact Nat.le_refl _⟩, ⟨by (with_reducible repeat (first | refine blk_drewN ?_ _ | refine blk_drew ?_ | refine blk_alloc ?_ _)); refine blk_far ?_ NB126_127.out _; exact KX_ BK126.out⟩, ⟨by (with_reducible repeat (first | refine blk_drewN ?_ _ | refine blk_drew ?_ | refine blk_alloc ?_ _)); refine blk_put (cs := #[.int .i64 0]) ?_ 0 _ rfl; exact KX_ BK127.out⟩, ⟨B1_⟩⟩
  rw [if_neg c7] at H
  have c7b0 : decide ((l0.length : Int) < 1) = false := decide_eq_false c7
  have c7b1 : decide (l0.length < 1) = false := decide_eq_false (by omega)
  clear c7
  (first | rw [c7b0] | (simp only [i64_w, i32_w]; rw [c7b0]) | skip)
  by_cases c10 : (l0.length : Int) > 64
  ·rw [if_pos c10] at H
   have c10b0 : decide (64 < (l0.length : Int)) = true := decide_eq_true c10
   have c10b1 : decide (64 < l0.length) = true := decide_eq_true (by omega)
   clear c10
   have H' := Aside0.mk H
   clear H
   have hnb11 := NB127_126.out
   have hnc11 := NB126_127.out
   have hcz12_0 : w4.cell? ⟨gb127, 0, none⟩ = some (.int .i64 0) := (blk_cell BK127.out 0).trans rfl
   have hfz12_0 := blk_frozen BK127.out 0
   go_wp2
   go_meet
   case rel => exact ⟨_, (true), (by first | rfl | (simp; done) | (simp [*]; done)), H', ⟨by first | omega | exact Nat.le_refl _⟩, ⟨by (with_reducible repeat (first | refine blk_drewN ?_ _ | refine blk_drew ?_ | refine blk_alloc ?_ _)); refine blk_far ?_ NB126_127.out _; exact KX_ BK126.out⟩, ⟨by (with_reducible repeat (first | refine blk_drewN ?_ _ | refine blk_drew ?_ | refine blk_alloc ?_ _)); refine blk_put (cs := #[.int .i64 0]) ?_ 0 _ rfl; exact KX_ BK127.out⟩, ⟨B1_⟩⟩
  rw [if_neg c10] at H
  have c10b0 : decide (64 < (l0.length : Int)) = false := decide_eq_false c10
  have c10b1 : decide (64 < l0.length) = false := decide_eq_false (by omega)
  clear c10
  replace H := Option.bind_eq_some_iff.mp H
  obtain ⟨t128, A130, H⟩ := H
  replace H : (graph_Make.j0 k l0 t128 (l0.length : Int)) = some (r1, r2, r3) := H
  have A13 := Aside0.mk A130
  clear A130
  have H' := Aside0.mk H
  clear H
  have hnb14 := NB127_126.out
  have hnc14 := NB126_127.out
  have hcz15_0 : w4.cell? ⟨gb127, 0, none⟩ = some (.int .i64 0) := (blk_cell BK127.out 0).trans rfl
  have hfz15_0 := blk_frozen BK127.out 0
  go_wp2_with (first | (go_at_call 17; (with_reducible refine (slices_ContainsFunc_int_int_graph_Make_1.calls k _ _ l0 gb127 (l0.length : Int) t128 _ ?side1 ?side2 ?side3 A13.out).mono ?_); (case side1 => exact Kd.C_below HR0.out (B1_)); (case side2 => exact HC0.out); (case side3 => exact (blk_cell (show _ = some (Obj.cells #[.int .i64 (l0.length : Int)] 3 (0, 0)) from (by (with_reducible repeat (first | refine blk_drewN ?_ _ | refine blk_drew ?_ | refine blk_alloc ?_ _)); refine blk_put (cs := #[.int .i64 0]) ?_ 0 _ rfl; exact KX_ BK127.out)) 0).trans rfl); rintro e w' ⟨rfl, ⟨nd, rfl⟩⟩))
  go_meet
  case rel => exact ⟨_, (t128), (by first | rfl | (simp; done) | (simp [*]; done)), H', ⟨by first | omega | exact Nat.le_refl _⟩, ⟨by (with_reducible repeat (first | refine blk_drewN ?_ _ | refine blk_drew ?_ | refine blk_alloc ?_ _)); refine blk_far ?_ NB126_127.out _; exact KX_ BK126.out⟩, ⟨by (with_reducible repeat (first | refine blk_drewN ?_ _ | refine blk_drew ?_ | refine blk_alloc ?_ _)); refine blk_put (cs := #[.int .i64 0]) ?_ 0 _ rfl; exact KX_ BK127.out⟩, ⟨B1_⟩⟩
 case rest =>
  clear HC2
  try clear hcz6_0
  try clear hfz6_0
  obtain ⟨kq, x20_1, rfl, HA, HJ1, BK126, BK127, HB⟩ := hcut
  cases kq with
  | zero => exact absurd HA.out (by simp [graph_Make.j0])
  | succ kj1 =>
   have H := HA.out
   clear HA
   simp only [graph_Make.j0] at H
   by_cases c16 : x20_1 = true
   ·subst c16
    have H1 : (some (([] : List (List Int)), ([] : List (List Int)), 5)) = some (r1, r2, r3) := by rw [if_pos rfl] at H; exact H
    clear H
    have H := H1
    clear H1
    simp only [Option.some.injEq, Prod.mk.injEq] at H
    obtain ⟨rfl, rfl, rfl⟩ := H
    have hnb17 := NB126_127.out
    have hnc17 := NB127_126.out
    have hcz18_0 : wc.cell? ⟨gb126, 0, none⟩ = some (.slice none 0 0) := (blk_cell BK126.out 0).trans rfl
    have hcz18_1 : wc.cell? ⟨gb126, 1, none⟩ = some (.slice none 0 0) := (blk_cell BK126.out 1).trans rfl
    have hfz18_0 := blk_frozen BK126.out 0
    have hfz18_1 := blk_frozen BK126.out 1
    go_wp2
    refine bodyPost_ret (results_ct rfl _ _ gb126 26 #[.slice none 0 0, .slice none 0 0] (0, 0) _ rfl (by (with_reducible repeat (first | refine blk_drewN ?_ _ | refine blk_drew ?_ | refine blk_alloc ?_ _)); refine blk_put (cs := #[.slice none 0 0, .slice none 0 0]) ?_ 1 _ rfl; (with_reducible repeat (first | refine blk_drewN ?_ _ | refine blk_drew ?_ | refine blk_alloc ?_ _)); refine blk_put (cs := #[.slice none 0 0, .slice none 0 0]) ?_ 0 _ rfl; exact KX_ BK126.out) Try.underlying26 rfl (by kernel_rfl)) rfl ?_
    exact ⟨_, _, by first | rfl | (simp [errW_none, errW_some] <;> rfl) | (simp [*, errW_none, errW_some] <;> rfl), by first | exact Kd.S_nil _ _ _ _ _ | exact Kd.N_nil _ _ _ _ _ | exact Kd.V_nil _ _ _ _ _ | exact Kd.Q_nil _ _ _ _ _ | exact Kd.R_nil _ _ _ _ _, by first | exact Kd.S_nil _ _ _ _ _ | exact Kd.N_nil _ _ _ _ _ | exact Kd.V_nil _ _ _ _ _ | exact Kd.Q_nil _ _ _ _ _ | exact Kd.R_nil _ _ _ _ _, B1_⟩
   replace c16 := Bool.eq_false_iff.mpr c16
   subst c16
   have H1 : (if 0 ≤ (l0.length : Int) then (if ((l0.length : Int) : Int).toNat ≤ 11728124029610 then (graph_Make.l0 kj1 (([] : List (List Int))) l0 (l0.length : Int) 0) else (none)) else (none)) = some (r1, r2, r3) := by rw [if_neg (show ¬ (false = true) by decide)] at H; exact H
   clear H
   have H := H1
   clear H1
   by_cases c19 : 0 ≤ (l0.length : Int)
   ·rw [if_pos c19] at H
    have c19b0 := eq_true c19
    have c19b1 : decide (0 ≤ (l0.length : Int)) = true := decide_eq_true c19
    clear c19
    by_cases c20 : ((l0.length : Int) : Int).toNat ≤ 11728124029610
    ·rw [if_pos c20] at H
     have c20b0 := eq_true c20
     have c20b1 : decide (((l0.length : Int) : Int).toNat ≤ 11728124029610) = true := decide_eq_true c20
     clear c20
     obtain ⟨y129, hy129⟩ : ∃ y_ : List (List Int), y_ = (([] : List (List Int))) := ⟨_, rfl⟩
     replace H : (graph_Make.l0 kj1 y129 l0 (l0.length : Int) 0) = some (r1, r2, r3) := by first | (rw [hy129]; with_reducible exact H) | (have H2_ := (Option.bind_some _ _).symm.trans H; rw [hy129]; with_reducible exact H2_) | (have H2_ := (Option.bind_some _ _).symm.trans H; with_reducible exact H2_) | with_reducible exact H | (rw [hy129]; exact H) | exact H
     have Ny129 := Aside0.mk hy129
     clear hy129
     have H' := Aside0.mk H
     clear H
     have hnb21 := NB127_126.out
     have hnc21 := NB126_127.out
     have hcz22_0 : wc.cell? ⟨gb127, 0, none⟩ = some (.int .i64 (l0.length : Int)) := (blk_cell BK127.out 0).trans rfl
     have hfz22_0 := blk_frozen BK127.out 0
     go_wp2_with (first | ((with_reducible refine gate_dst (N := 23) rfl ?_); refine Kd0.S_make0 (Kd.slice 3 (Kd.int .i64)) _ 30 rfl (N := 23) rfl 22 _ _ rfl (l0.length : Int) rfl rfl Try.underlying22 (.slice none 0 0) 24 info30 rfl (by decide) (by omega) [] (ok := fun _ => True) (okp := fun _ => True) ⟨_, rfl, Kd.R_nil _ _ _ _ _⟩ (fun _ hk => hk) trivial (D_) (Nat.le_trans (Nat.mul_le_mul_right _ (D_ : (l0.length : Int).toNat ≤ 11728124029610)) (by omega)) (Below.refl _ _) (Nat.le_refl _) ?_; intro v130 w23 ho24 hb hg_ hnew_; clear hg_ hnew_; (first | rw [← Ny129.out] at ho24 | (simp only [Int.reduceToNat] at ho24; rw [← Ny129.out] at ho24)); have n0_ := Aside0.mk (Kd.S_lower (Kd.S_newB ho24 (g := gb127) (o := .cells #[.int .i64 (l0.length : Int)] 3 (0, 0)) (by exact KX_ BK127.out)) (below_size (B1_))); have n1_ := Aside0.mk (blk_below (g := gb126) (o := .cells #[.slice none 0 0, .slice none 0 0] 26 (0, 0)) (by exact KX_ BK126.out) hb); have n2_ := Aside0.mk (blk_below (g := gb127) (o := .cells #[.int .i64 (l0.length : Int)] 3 (0, 0)) (by exact KX_ BK127.out) hb); have n3_ := Aside0.mk (below_step (B1_) hb); clear BK126; clear BK127; clear HB; have HO131 := n0_; have BK126 := n1_; have BK127 := n2_; have HB := n3_; clear n0_ n1_ n2_ n3_; clear hb ho24))
     go_loopg [5, 26] kj1 (fun kq v5 v26 w' => ∃ (x5_2 : List (List Int)) (x26_2 : Int), v26 = .int .i64 x26_2 ∧ Aside0 (graph_Make.l0 kq x5_2 l0 (l0.length : Int) x26_2 = some (r1, r2, r3)) ∧ Aside0 (kq ≤ kj1) ∧ Aside0 (Kd.S (Kd.slice 3 (Kd.int .i64)) 30 w' w.heap.size (fun k_ => k_ ≠ gb127) v5 x5_2) ∧ Aside0 (w'.heap[gb126]? = some (.cells #[(.slice none 0 0), (.slice none 0 0)] 26 (0, 0))) ∧ Aside0 (w'.heap[gb127]? = some (.cells #[.int .i64 (l0.length : Int)] 3 (0, 0))) ∧ Aside0 (Below w.heap.size w w'))
     case atStart => exact ⟨(y129), (0), (by first | rfl | (simp; done) | (simp [*]; done)), H', ⟨Nat.le_refl _⟩, ⟨by (with_reducible repeat (first | apply Kd.S_alloc | apply Kd.S_drewN | apply Kd.S_drew)); exact Kd.S_mono HO131.out (fun _ hk => hk.2)⟩, ⟨by exact KX_ BK126.out⟩, ⟨by exact KX_ BK127.out⟩, ⟨B1_⟩⟩
     case round =>
      clear H'
      try clear c16
      try clear c19b0
      try clear c19b1
      try clear c20b0
      try clear c20b1
      try clear hcz22_0
      try clear hfz22_0
      obtain ⟨x5_2, x26_2, rfl, HA, HK2, HO_5, BK126, BK127, HB⟩ := hrel
      cases gk with
      | zero => exact absurd HA.out (by simp [graph_Make.l0])
      | succ k2 =>
       have H := HA.out
       clear HA
       simp only [graph_Make.l0] at H
       by_cases c25 : x26_2 < (l0.length : Int)
       ·rw [if_pos c25] at H
        have c25b0 : decide (x26_2 < (l0.length : Int)) = true := decide_eq_true c25
        clear c25
        by_cases c26 : 0 ≤ x26_2
        ·rw [if_pos c26] at H
         have c26b0 : decide (0 ≤ x26_2) = true := decide_eq_true c26
         clear c26
         by_cases c27 : x26_2 < (l0.length : Int)
         ·rw [if_pos c27] at H
          have c27b0 : decide (x26_2 < (l0.length : Int)) = true := decide_eq_true c27
          clear c27
          replace H := Option.bind_eq_some_iff.mp H
          obtain ⟨t133, A280, H⟩ := H
          replace H : (if x5_2.length < 5864062014805 then (graph_Make.l0 k2 (x5_2 ++ [t133]) l0 (l0.length : Int) (wrap64 (x26_2 + 1))) else (none)) = some (r1, r2, r3) := H
          have A28 := Aside0.mk A280
          clear A280
          by_cases c29 : x5_2.length < 5864062014805
          ·rw [if_pos c29] at H
           have LMc29 := Aside0.mk c29
           clear c29
           obtain ⟨y136, hy136⟩ : ∃ y_ : List (List Int), y_ = (x5_2 ++ [t133]) := ⟨_, rfl⟩
           replace H : (graph_Make.l0 k2 y136 l0 (l0.length : Int) (wrap64 (x26_2 + 1))) = some (r1, r2, r3) := by first | (rw [hy136]; with_reducible exact H) | (have H2_ := (Option.bind_some _ _).symm.trans H; rw [hy136]; with_reducible exact H2_) | (have H2_ := (Option.bind_some _ _).symm.trans H; with_reducible exact H2_) | with_reducible exact H | (rw [hy136]; exact H) | exact H
           have Ny136 := Aside0.mk hy136
           clear hy136
           have H' := Aside0.mk H
           clear H
           have p132 : 0 ≤ (x26_2 : Int) := D_
           have q132 : x26_2 < (l0.length : Int) := D_
           obtain ⟨ad132, A132_0, c132_0, e132, hx132_0, hl132_0, hi132_0⟩ := at_L1 HR0.out x26_2 p132 q132
           cases e132
           replace hx132_0 := (HB.out.cell (World.block_lt_of_cell? w _ hx132_0)).trans hx132_0
           have HR132_0 := Aside0.mk hi132_0
           have HC132_0 := Aside0.mk hl132_0
           clear hi132_0 hl132_0
           replace p132 := eq_true p132
           replace q132 := eq_true q132
           go_wp2_with (first | ((with_reducible refine gate_callee (f := 20) rfl ?_); refine goesL_ (some 32) rfl rfl Try.func20 (by kernel_rfl) rfl #[.slice A132_0 (rd_L1 l0 x26_2).length c132_0] rfl (by (try simp only [List.map_toArray, List.map_cons, List.map_nil]); first | done | rfl | (simp only [List.length_drop, List.length_take]; rfl)) ?_; (with_reducible refine (slices_Clone_int_int.calls _ _ (rd_L1 l0 x26_2) t133 _ ?side1 ?side2 A28.out).mono ?_); (case side1 => exact CX_ (Kd.C_below HR132_0.out HB.out)); (case side2 => exact HC132_0.out); rintro e w30 ⟨v134, rfl, ho0, hb⟩; refine ⟨_, rfl, ?_⟩; have n0_ := Aside0.mk (Kd.S_elder' (by exact SX_ HO_5.out) (Kd.R_base ho0) hb); have n1_ := Aside0.mk (Kd.R_lower (Kd.R_newB ho0 (g := gb127) (o := .cells #[.int .i64 (l0.length : Int)] 3 (0, 0)) (by exact KX_ BK127.out)) (below_size (B1_))); have n2_ := Aside0.mk (blk_below (g := gb126) (o := .cells #[.slice none 0 0, .slice none 0 0] 26 (0, 0)) (by exact KX_ BK126.out) hb); have n3_ := Aside0.mk (blk_below (g := gb127) (o := .cells #[.int .i64 (l0.length : Int)] 3 (0, 0)) (by exact KX_ BK127.out) hb); have n4_ := Aside0.mk (below_step (B1_) hb); clear HO_5; clear BK126; clear BK127; clear HB; have HO_5 := n0_; have HO135 := n1_; have BK126 := n2_; have BK127 := n3_; have HB := n4_; clear n0_ n1_ n2_ n3_ n4_; (try clear hb); (try clear hb2); (try clear hk); (try clear hi); (try clear ho0); obtain ⟨Ao32, co32, eo32⟩ := Kd.R_slice HO135.out; subst eo32) | ((with_reducible refine gate_builtin (b := .append) (xs := #[.tmp 30, .tmp 33]) rfl ?_); at_builtin; refine Kd.S_append (Kd.slice 3 (Kd.int .i64)) (w0 := w) w.heap.size rfl (.tmp 30) (.tmp 33) 22 30 (.slice none 0 0) 24 rfl Try.underlying22 info30 rfl (by decide) (by omega) u5 x5_2 t133 [.slice Ao32 t133.length co32] (fun k_ => k_ ≠ gb127) (fun k_ => some k_ = (.slice Ao32 t133.length co32 : Value).ownBlock) rfl rfl ?aP (fun k_ hk_ => ((Kd.R_mono (ok' := fun k_ => ((fun k_ => k_ ≠ gb127)) k_ ∧ some k_ ≠ (u5 : Value).ownBlock) (Kd.R_apart' (HO135.out) (Kd.S_typed HO_5.out) (by decide)) (fun k_ hk => ⟨hk.1.2, hk.2⟩))).1 k_ hk_.symm) ?aF ?aO ?aB ?aS ?aL ?_; (case aP => exact Kd.M_row (Kd.R_mono (Kd.R_tight rfl (Kd.R_mono (ok' := fun k_ => ((fun k_ => k_ ≠ gb127)) k_ ∧ some k_ ≠ (u5 : Value).ownBlock) (Kd.R_apart' (HO135.out) (Kd.S_typed HO_5.out) (by decide)) (fun k_ hk => ⟨hk.1.2, hk.2⟩))) (fun _ h_ => h_))); (case aB => exact (B1_)); (case aF => exact (fun k_ hk => Kd.freshB (g := gb127) (o := .cells #[.int .i64 (l0.length : Int)] 3 (0, 0)) (by exact KX_ BK127.out) k_ hk)); (case aO => exact (by (with_reducible repeat (first | apply Kd.S_alloc | apply Kd.S_drewN | apply Kd.S_drew)); exact Kd.S_mono HO_5.out (fun k_ hk => ⟨hk.1, fun e_ => hk.2 e_⟩))); (case aS => exact (below_size (B1_))); (case aL => have := LMc29.out; omega); intro v137 w31 ho hb hg hat; rw [← Ny136.out] at ho; have n0_ := Aside0.mk (blk_grown (g := gb126) (o := .cells #[.slice none 0 0, .slice none 0 0] 26 (0, 0)) (by exact KX_ BK126.out) hg (Kd.S_ne HO_5.out BK126.out (by decide))); have n1_ := Aside0.mk (blk_grown (g := gb127) (o := .cells #[.int .i64 (l0.length : Int)] 3 (0, 0)) (by exact KX_ BK127.out) hg (Kd.S_ne HO_5.out BK127.out (by decide))); have n2_ := Aside0.mk (hb); have n3_ := Aside0.mk (ho); clear BK126; clear BK127; clear HB; clear HO_5; clear HO135; have BK126 := n0_; have BK127 := n1_; have HB := n2_; have HO138 := n3_; clear n0_ n1_ n2_ n3_; clear ho hb hg hat))
           go_roundg k2
           case measure => have := HJ1.out; have := HK2.out; omega
           case rel => exact ⟨(y136), (wrap64 (x26_2 + 1)), (by first | rfl | (simp; done) | (simp [*]; done)), H', ⟨by have := HJ1.out; have := HK2.out; omega⟩, ⟨by exact SM_ HO138.out⟩, ⟨by exact KX_ BK126.out⟩, ⟨by exact KX_ BK127.out⟩, ⟨B1_⟩⟩
          rw [if_neg c29] at H
          exact absurd H (by simp)
         rw [if_neg c27] at H
         exact absurd H (by simp)
        rw [if_neg c26] at H
        exact absurd H (by simp)
       rw [if_neg c25] at H
       have c25b0 : decide (x26_2 < (l0.length : Int)) = false := decide_eq_false c25
       clear c25
       replace H := Option.bind_eq_some_iff.mp H
       obtain ⟨t139, A330, H⟩ := H
       replace H : (some (x5_2, t139, 0)) = some (r1, r2, r3) := H
       have A33 := Aside0.mk A330
       clear A330
       simp only [Option.some.injEq, Prod.mk.injEq] at H
       obtain ⟨rfl, rfl, rfl⟩ := H
       obtain ⟨Ao34, co34, eo34⟩ := Kd.S_slice HO_5.out
       subst eo34
       go_wp2_with (first | ((with_reducible refine gate_callee (f := 21) rfl ?_); refine goesL_ (some 38) rfl rfl Try.func21 (by kernel_rfl) rfl #[.slice Ao34 x5_2.length co34] rfl (by (try simp only [List.map_toArray, List.map_cons, List.map_nil]); first | done | rfl | (simp only [List.length_drop, List.length_take]; rfl)) ?_; (with_reducible refine (graph_preds.calls k2 _ _ x5_2 t139 _ ?side1 ?side2 A33.out).mono ?_); (case side1 => repeat (first | exact (Kd.S_reads' HO_5.out).2.2 | (with_reducible refine Kd.C_alloc ?_ _) | (with_reducible refine Kd.C_drewN ?_ _) | (with_reducible refine Kd.C_drew ?_))); (case side2 => exact (Kd.S_reads' HO_5.out).2.1); rintro e w35 ⟨v140, rfl, ho0, hb⟩; refine ⟨_, rfl, ?_⟩; have n0_ := Aside0.mk (Kd.S_elder' (by exact SX_ HO_5.out) (Kd.S_base ho0) hb); have n1_ := Aside0.mk (Kd.S_lower (Kd.S_newB (Kd.S_new' ho0 (Kd.S_lt (by exact SX_ HO_5.out))) (g := gb127) (o := .cells #[.int .i64 (l0.length : Int)] 3 (0, 0)) (by exact KX_ BK127.out)) (below_size (B1_))); have n2_ := Aside0.mk (blk_below (g := gb126) (o := .cells #[.slice none 0 0, .slice none 0 0] 26 (0, 0)) (by exact KX_ BK126.out) hb); have n3_ := Aside0.mk (blk_below (g := gb127) (o := .cells #[.int .i64 (l0.length : Int)] 3 (0, 0)) (by exact KX_ BK127.out) hb); have n4_ := Aside0.mk (below_step (B1_) hb); clear HO_5; clear BK126; clear BK127; clear HB; have HO_5 := n0_; have HO141 := n1_; have BK126 := n2_; have BK127 := n3_; have HB := n4_; clear n0_ n1_ n2_ n3_ n4_; (try clear hb); (try clear hb2); (try clear hk); (try clear hi); (try clear ho0); obtain ⟨Ao36, co36, eo36⟩ := Kd.S_slice HO141.out; subst eo36; have hnb37 := NB126_127.out; have hnc37 := NB127_126.out; have hcz38_0 : w35.cell? ⟨gb126, 0, none⟩ = some (.slice none 0 0) := (blk_cell BK126.out 0).trans rfl; have hcz38_1 : w35.cell? ⟨gb126, 1, none⟩ = some (.slice none 0 0) := (blk_cell BK126.out 1).trans rfl; have hfz38_0 := blk_frozen BK126.out 0; have hfz38_1 := blk_frozen BK126.out 1))
       refine bodyPost_ret (results_ct rfl _ _ gb126 26 #[.slice Ao34 x5_2.length co34, .slice Ao36 t139.length co36] (0, 0) _ rfl (by (with_reducible repeat (first | refine blk_drewN ?_ _ | refine blk_drew ?_ | refine blk_alloc ?_ _)); refine blk_put (cs := #[.slice Ao34 x5_2.length co34, .slice none 0 0]) ?_ 1 _ rfl; (with_reducible repeat (first | refine blk_drewN ?_ _ | refine blk_drew ?_ | refine blk_alloc ?_ _)); refine blk_put (cs := #[.slice none 0 0, .slice none 0 0]) ?_ 0 _ rfl; exact KX_ BK126.out) Try.underlying26 rfl (by kernel_rfl)) rfl ?_
       exact ⟨_, _, by first | rfl | (simp [errW_none, errW_some] <;> rfl) | (simp [*, errW_none, errW_some] <;> rfl), by (with_reducible repeat (first | apply Kd.S_alloc | apply Kd.S_drewN | apply Kd.S_drew)); exact Kd.S_mono (Kd.S_far (p := ⟨gb126, 1, none⟩) (Kd.S_far (p := ⟨gb126, 0, none⟩) (Kd.S_types HO_5.out BK126.out (by decide)) (fun _ hk => hk.2) (.slice Ao34 x5_2.length co34)) (fun _ hk => hk.2) (.slice Ao36 t139.length co36)) (fun _ hk => hk.1.2), by (with_reducible repeat (first | apply Kd.S_alloc | apply Kd.S_drewN | apply Kd.S_drew)); exact Kd.S_mono (Kd.S_far (p := ⟨gb126, 1, none⟩) (Kd.S_far (p := ⟨gb126, 0, none⟩) (Kd.S_types HO141.out BK126.out (by decide)) (fun _ hk => hk.2) (.slice Ao34 x5_2.length co34)) (fun _ hk => hk.2) (.slice Ao36 t139.length co36)) (fun _ hk => hk.1.1.2), B1_⟩
    rw [if_neg c20] at H
    exact absurd H (by simp)
   rw [if_neg c19] at H
   exact absurd H (by simp)

end Go.Proofs.Ytamlaebfpmbefaa.G
namespace Go.Proofs.YtamlaebfpmbefaaH
open Go Go.RowKit Go.Proofs.YtamlaebfpmbefaaW.PrintWords Go.Proofs.YtamlaebfpmbefaaW.PrintWords.Kd
/-- An array of bools, as cells. -/
def AV (l : List Bool) : Array Value := (l.map Value.bool).toArray
theorem av_size (l : List Bool) : (AV l).size = l.length := by simp [AV]
theorem av_one (l : List Bool) : (AV l).all (·.oneCell') = true := by
  rw [Array.all_eq_true_iff_forall_mem]
  intro v hv
  obtain ⟨b, _, rfl⟩ := List.mem_map.1 (by simpa [AV] using hv : v ∈ l.map Value.bool)
  rfl
theorem av_get (l : List Bool) {i : Nat} (h : i < l.length) : (AV l)[i]? = some (.bool (l.getD i false)) := by
  simp [AV, List.getElem?_eq_getElem h, List.getD_eq_getElem?_getD]
theorem av_set (l : List Bool) (i : Nat) (b : Bool) : (AV l).setIfInBounds i (.bool b) = AV (l.set i b) := by
  simp [AV, List.map_set]
section
variable {w : World} {g t : Nat} {l : List Bool}
theorem av_cell (h : w.heap[g]? = some (.cells (AV l) t (0, 0))) (i : Int) (h1 : i < (l.length : Int)) (h0 : 0 ≤ i) : w.cell? ⟨g, i.toNat, none⟩ = some (.bool (rdOf false l i)) :=
  (blk_cell h _).trans (av_get l (by omega))
theorem av_put (h : w.heap[g]? = some (.cells (AV l) t (0, 0))) (i : Int) (b : Bool) : (w.setCell ⟨g, i.toNat, none⟩ (.bool b)).heap[g]? = some (.cells (AV (l.set i.toNat b)) t (0, 0)) :=
  blk_put h _ _ (av_set l _ b)
variable {P : Program} {ops : Array Oper} {rest : List Oper} {o : Oper} {a : Act} {Q : Exit → Act → World → Prop} {W : World}
/-- A whole array loaded. -/
theorem av_load (hgd : o.guard = none) (T : TypeId) (x : Operand) (ho : o.op = .load T x) (hx : a.eval x = .pointer (some ⟨g, 0, none⟩)) (hg : W.heap[g]? = some (.cells (AV l) t (0, 0)))
    {n e : Nat} (hu : P.underlying T = some (.array n e)) (hi : (P.info? T).map (·.size) = some l.length) (h : wpList P ops Q rest (a.put o.dst (.agg (AV l))) W) : wpList P ops Q (o :: rest) a W := by
  have hr := run_loadVar_row (P := P) W g t T (AV l) (0, 0) _ hg hu rfl (by rw [av_size]; exact hi)
  refine event_run hgd ?_ h
  unfold execOp
  simp only [ho, hx, Instr.loadAt, Instr.sureAddr, Sem.run_bind, Sem.run_pure, Result.andThen_ok, hr]
/-- A whole array stored. -/
theorem av_store {l' : List Bool} (hgd : o.guard = none) (T : TypeId) (x y : Operand) (ho : o.op = .store T x y) (hN : o.dst = none) (hx : a.eval x = .pointer (some ⟨g, 0, none⟩)) (hy : a.eval y = .agg (AV l'))
    (hg : W.heap[g]? = some (.cells (AV l) t (0, 0))) (hi : (P.info? T).map (·.size) = some l'.length) (hl : l.length = l'.length)
    (h : ∀ w', w' = W.setRow g (AV l') → wpList P ops Q rest a w') : wpList P ops Q (o :: rest) a W := by
  refine wpList_store_row hgd T x y ho g (AV l') hx hy t (AV l) hg (by rw [av_size]; exact hi) (by rw [av_size, av_size]; exact hl) (av_one _) ?_
  rw [hN]
  exact h _ rfl
theorem av_stored {l' : List Bool} (hg : W.heap[g]? = some (.cells (AV l) t (0, 0))) : (W.setRow g (AV l')).heap[g]? = some (.cells (AV l') t (0, 0)) := setRow_heap W g _ _ t _ hg
theorem blk_row {g' : Nat} {o : Obj} (h : W.heap[g']? = some o) (hne : g' ≠ g) (cs : Array Value) : (W.setRow g cs).heap[g']? = some o := by
  have hb : Below (g' + 1) W W ∨ True := .inr trivial
  clear hb
  unfold World.setRow
  simp_all [Array.getElem?_modify]
  try (intro e; exact absurd e.symm hne)
/-- A whole array's cells stored. -/
theorem av_cells {c : Array Value} {l' : List Bool} (h : W.heap[g]? = some (.cells c t (0, 0))) (hc : c.size = l'.length) : (storeCells ⟨g, 0, none⟩ (AV l').toList).run P W = .ok () (W.setRow g (AV l')) := by
  have h1 := run_storeCells_from (P := P) g t (AV l').toList 0 c W h (by simp [AV]; omega) (fun v hv => (Array.all_eq_true_iff_forall_mem.1 (av_one l')) v (by simpa using hv))
  rw [h1]
  congr 2
variable {Kc : Act → World → Prop} {E : Prop}
/-- A new variable, as one step of a region that draws. -/
theorem step_box (hgd : o.guard = none) {N : Tmp} (_hd : o.dst = some N) {cs : Array Value} {T : TypeId}
    (hrun : (execOp a.eval o).run P W = .ok (.value (.pointer (some ⟨W.heap.size, 0, none⟩))) (W.alloc (.cells cs T (0, 0))))
    (h : ∀ g, g = W.heap.size → ∀ w1, w1.heap[g]? = some (.cells cs T (0, 0)) → Below W.heap.size W w1 → Kc (a.put o.dst (.pointer (some ⟨g, 0, none⟩))) w1) : if Region.wanted o (yielded ops a.tmps) = true then Oper.wp P o a W Kc Q else E := by
  have hw : Region.wanted o (yielded ops a.tmps) = true := by simp [Region.wanted, hgd]
  rw [if_pos hw]
  unfold Oper.wp
  rw [hrun]
  exact h _ rfl _ (blk_new W _) (below_alloc (Below.refl _ _) _)
/-- A whole array stored, as one step of a region that draws. -/
theorem step_av_store {l' : List Bool} (hgd : o.guard = none) (T : TypeId) (x y : Operand) (ho : o.op = .store T x y) (hN : o.dst = none) (hx : a.eval x = .pointer (some ⟨g, 0, none⟩)) (hy : a.eval y = .agg (AV l'))
    (hg : W.heap[g]? = some (.cells (AV l) t (0, 0))) (hi : (P.info? T).map (·.size) = some l'.length) (hl : l.length = l'.length)
    (h : ∀ w', w' = W.setRow g (AV l') → Kc a w') : if Region.wanted o (yielded ops a.tmps) = true then Oper.wp P o a W Kc Q else E := by
  have hw : Region.wanted o (yielded ops a.tmps) = true := by simp [Region.wanted, hgd]
  rw [if_pos hw]
  refine wp_store_row T x y ho g (AV l') hx hy t (AV l) hg (by rw [av_size]; exact hi) (by rw [av_size, av_size]; exact hl) (av_one _) ?_
  rw [hN]
  exact h _ rfl
end
end Go.Proofs.YtamlaebfpmbefaaH
namespace Go.Proofs.Ytamlaebfpmbefaa.G
open Go.Proofs.YtamlaebfpmbefaaH
open Go.RowKit Go.Proofs.YtamlaebfpmbefaaW.PrintWords Go.Proofs.YtamlaebfpmbefaaW.PrintLast Go.Proofs.YtamlaebfpmbefaaW.PrintMore
attribute [local go_sem] max2_int min2_int max_two min_two max_three min_three max_four min_four   -- for this text's walks alone
set_option linter.unusedVariables false
set_option linter.unusedSimpArgs false

-- NOT PRINTED: function 33 (slices_EqualFunc_int_int_int_int)

/-! ### slices_Equal_int_int: function 34 -/
def slices_Equal_int_int.l0 : Nat → List Int → List Int → Int → Int → Option (Bool)
 | 0, _, _, _, _ => none
 | k + 1, x0, x1, x12, x13 => if x13 < x12 then (if 0 ≤ x13 then (if x13 < (x0.length : Int) then (if x13 < (x1.length : Int) then (if (rd x0 x13) = (rd x1 x13) then (slices_Equal_int_int.l0 k x0 x1 x12 (wrap64 (x13 + 1))) else (some false)) else (none)) else (none)) else (none)) else (some true)
def slices_Equal_int_int.f (k : Nat) (l0 : List Int) (l1 : List Int) : Option (Bool) := if (l0.length : Int) = (l1.length : Int) then (slices_Equal_int_int.l0 k l0 l1 (l0.length : Int) 0) else (some false)
theorem slices_Equal_int_int.mono_l : ∀ k, (∀ y0 y1 y2 y3, LeO (slices_Equal_int_int.l0 k y0 y1 y2 y3) (slices_Equal_int_int.l0 (k + 1) y0 y1 y2 y3))
 | 0 => fun _ _ _ _ r h => by simp [slices_Equal_int_int.l0] at h
 | k + 1 => by
  have ih0 := slices_Equal_int_int.mono_l k
  ·intro y0 y1 y2 y3
   unfold slices_Equal_int_int.l0
   repeat' first
   | (with_reducible exact ih0 _ _ _ _)
   | (with_reducible exact LeO.refl _)
   | (with_reducible exact LeO.none _)
   | (with_reducible refine LeO.ite ?_ ?_)
   | (with_reducible refine LeO.bind ?_ (fun _ => ?_))
   | exact ih0 _ _ _ _
   | exact LeO.none _
   | refine LeO.ite ?_ ?_
   | refine LeO.bind ?_ (fun _ => ?_)
theorem slices_Equal_int_int.mono : ∀ a0 a1 k, LeO (slices_Equal_int_int.f k a0 a1) (slices_Equal_int_int.f (k + 1) a0 a1) := by
 intro a0 a1 k
 have ih0 := slices_Equal_int_int.mono_l k
 unfold slices_Equal_int_int.f
 repeat' first
  | (with_reducible exact ih0 _ _ _ _)
  | (with_reducible exact LeO.refl _)
  | (with_reducible exact LeO.none _)
  | (with_reducible refine LeO.ite ?_ ?_)
  | (with_reducible refine LeO.bind ?_ (fun _ => ?_))
  | exact ih0 _ _ _ _
  | exact LeO.none _
  | refine LeO.ite ?_ ?_
  | refine LeO.bind ?_ (fun _ => ?_)
set_option maxHeartbeats 8000000 in
set_option maxRecDepth 100000 in
theorem slices_Equal_int_int.calls (k : Nat) (A0 : Option Addr) (c0 : Nat) (l0 : List Int) (A1 : Option Addr) (c1 : Nat) (l1 : List Int) (r : Bool) (w : World) (hr0 : Kd.C (Kd.int .i64) w A0 l0.length l0) (hc0 : l0.length ≤ c0) (hr1 : Kd.C (Kd.int .i64) w A1 l1.length l1) (hc1 : l1.length ≤ c1) (h : slices_Equal_int_int.f k l0 l1 = some r) :
 Calls Try.prog 34 #[.slice A0 l0.length c0, .slice A1 l1.length c1] w fun e w' => e = .returned (.bool r) ∧ Drawn0 w w' := by
 have HR0 := Aside0.mk hr0
 have HC0 := Aside0.mk hc0
 clear hr0 hc0
 have HR1 := Aside0.mk hr1
 have HC1 := Aside0.mk hc1
 clear hr1 hc1
 have H : (if (l0.length : Int) = (l1.length : Int) then (slices_Equal_int_int.l0 k l0 l1 (l0.length : Int) 0) else (some false)) = some r := h
 clear h
 by_cases c3 : (l0.length : Int) = (l1.length : Int)
 ·rw [if_pos c3] at H
  have c3b0 : ((l0.length : Int) == (l1.length : Int)) = true := beq_iff_eq.mpr c3
  have c3b1 : ((l0.length : Int) != (l1.length : Int)) = false := bne_eq_false_iff_eq.mpr c3
  have c3b2 : (l0.length == l1.length) = true := by first | simpa using c3 | (simp at c3 ⊢; omega)
  clear c3
  have H' := Aside0.mk H
  clear H
  go_enter Try.func34, Try.ntmps34
  go_wp2
  repeat (go_quiet (fail); try go_wp2)
  go_loopg [13] k (fun kq v13 w' => ∃ (x13_1 : Int), v13 = .int .i64 x13_1 ∧ Aside0 (slices_Equal_int_int.l0 kq l0 l1 (l0.length : Int) x13_1 = some r) ∧ Aside0 (kq ≤ k) ∧ Drawn0 w w')
  case atStart => exact ⟨(0), (by first | rfl | (simp; done) | (simp [*]; done)), H', ⟨Nat.le_refl _⟩, by repeat (first | exact Drawn0.refl _ | apply Drawn0.step)⟩
  case round =>
   clear H'
   try clear c1
   try clear c3b0
   try clear c3b1
   try clear c3b2
   obtain ⟨x13_1, rfl, HA, HK1, ⟨m1, rfl⟩⟩ := hrel
   cases gk with
   | zero => exact absurd HA.out (by simp [slices_Equal_int_int.l0])
   | succ k1 =>
    have H := HA.out
    clear HA
    simp only [slices_Equal_int_int.l0] at H
    by_cases c4 : x13_1 < (l0.length : Int)
    ·rw [if_pos c4] at H
     have c4b0 : decide (x13_1 < (l0.length : Int)) = true := decide_eq_true c4
     clear c4
     by_cases c5 : 0 ≤ x13_1
     ·rw [if_pos c5] at H
      have c5b0 : decide (0 ≤ x13_1) = true := decide_eq_true c5
      clear c5
      by_cases c6 : x13_1 < (l0.length : Int)
      ·rw [if_pos c6] at H
       have c6b0 : decide (x13_1 < (l0.length : Int)) = true := decide_eq_true c6
       clear c6
       by_cases c7 : x13_1 < (l1.length : Int)
       ·rw [if_pos c7] at H
        have c7b0 : decide (x13_1 < (l1.length : Int)) = true := decide_eq_true c7
        clear c7
        by_cases c8 : (rd l0 x13_1) = (rd l1 x13_1)
        ·rw [if_pos c8] at H
         have c8b0 : ((rd l0 x13_1) == (rd l1 x13_1)) = true := beq_iff_eq.mpr c8
         have c8b1 : ((rd l0 x13_1) != (rd l1 x13_1)) = false := bne_eq_false_iff_eq.mpr c8
         clear c8
         have H' := Aside0.mk H
         clear H
         have p142 : 0 ≤ (x13_1 : Int) := D_
         have q142 : x13_1 < (l0.length : Int) := D_
         obtain ⟨ad142, e142, hx142_0⟩ := Kd.at_int HR0.out x13_1 p142 q142
         cases e142
         replace p142 := eq_true p142
         replace q142 := eq_true q142
         have p143 : 0 ≤ (x13_1 : Int) := D_
         have q143 : x13_1 < (l1.length : Int) := D_
         obtain ⟨ad143, e143, hx143_0⟩ := Kd.at_int HR1.out x13_1 p143 q143
         cases e143
         replace p143 := eq_true p143
         replace q143 := eq_true q143
         go_wp2
         repeat (go_quiet (fail); try go_wp2)
         go_roundg k1
         case measure => have := HK1.out; omega
         case rel => exact ⟨(wrap64 (x13_1 + 1)), (by first | rfl | (simp; done) | (simp [*]; done)), H', ⟨by have := HK1.out; omega⟩, by repeat (first | exact Drawn0.refl _ | apply Drawn0.step)⟩
        rw [if_neg c8] at H
        have c8b0 : ((rd l0 x13_1) == (rd l1 x13_1)) = false := beq_eq_false_iff_ne.mpr c8
        have c8b1 : ((rd l0 x13_1) != (rd l1 x13_1)) = true := bne_iff_ne.mpr c8
        obtain rfl := Option.some.inj H
        have p142 : 0 ≤ (x13_1 : Int) := D_
        have q142 : x13_1 < (l0.length : Int) := D_
        obtain ⟨ad142, e142, hx142_0⟩ := Kd.at_int HR0.out x13_1 p142 q142
        cases e142
        replace p142 := eq_true p142
        replace q142 := eq_true q142
        have p143 : 0 ≤ (x13_1 : Int) := D_
        have q143 : x13_1 < (l1.length : Int) := D_
        obtain ⟨ad143, e143, hx143_0⟩ := Kd.at_int HR1.out x13_1 p143 q143
        cases e143
        replace p143 := eq_true p143
        replace q143 := eq_true q143
        go_wp2
        repeat (go_quiet (fail); try go_wp2)
        go_ret
        exact ⟨by first | rfl | (simp; done) | (simp [*]; done), by repeat (first | exact Drawn0.refl _ | apply Drawn0.step)⟩
       rw [if_neg c7] at H
       exact absurd H (by simp)
      rw [if_neg c6] at H
      exact absurd H (by simp)
     rw [if_neg c5] at H
     exact absurd H (by simp)
    rw [if_neg c4] at H
    have c4b0 : decide (x13_1 < (l0.length : Int)) = false := decide_eq_false c4
    clear c4
    obtain rfl := Option.some.inj H
    go_wp2
    repeat (go_quiet (fail); try go_wp2)
    go_ret
    exact ⟨by first | rfl | (simp; done) | (simp [*]; done), by repeat (first | exact Drawn0.refl _ | apply Drawn0.step)⟩
 rw [if_neg c3] at H
 have c3b0 : ((l0.length : Int) == (l1.length : Int)) = false := beq_eq_false_iff_ne.mpr c3
 have c3b1 : ((l0.length : Int) != (l1.length : Int)) = true := bne_iff_ne.mpr c3
 have c3b2 : (l0.length == l1.length) = false := by first | simpa using c3 | (simp at c3 ⊢; omega)
 obtain rfl := Option.some.inj H
 go_enter Try.func34, Try.ntmps34
 go_wp2
 repeat (go_quiet (fail); try go_wp2)
 go_ret
 exact ⟨by first | rfl | (simp; done) | (simp [*]; done), by repeat (first | exact Drawn0.refl _ | apply Drawn0.step)⟩


/-! ### slices_EqualFunc_int_int_int_int_slices_Equal_int_int: function 33 -/
def slices_EqualFunc_int_int_int_int_slices_Equal_int_int.l0 : Nat → List (List Int) → List (List Int) → Int → Int → Option (Bool)
 | 0, _, _, _, _ => none
 | k + 1, x1, x15, x16, x17 => if x17 < x16 then (if 0 ≤ x17 then (if x17 < (x15.length : Int) then (if x17 < (x1.length : Int) then ((slices_Equal_int_int.f k (rd_L1 x15 x17) (rd_L1 x1 x17)).bind fun t155 => (if t155 = true then (slices_EqualFunc_int_int_int_int_slices_Equal_int_int.l0 k x1 x15 x16 (wrap64 (x17 + 1))) else (some false))) else (none)) else (none)) else (none)) else (some true)
def slices_EqualFunc_int_int_int_int_slices_Equal_int_int.f (k : Nat) (l0 : List (List Int)) (l1 : List (List Int))  : Option (Bool) := if (l0.length : Int) = (l1.length : Int) then (slices_EqualFunc_int_int_int_int_slices_Equal_int_int.l0 k l1 l0 (l0.length : Int) 0) else (some false)
theorem slices_EqualFunc_int_int_int_int_slices_Equal_int_int.mono_l : ∀ k, (∀ y0 y1 y2 y3, LeO (slices_EqualFunc_int_int_int_int_slices_Equal_int_int.l0 k y0 y1 y2 y3) (slices_EqualFunc_int_int_int_int_slices_Equal_int_int.l0 (k + 1) y0 y1 y2 y3))
 | 0 => fun _ _ _ _ r h => by simp [slices_EqualFunc_int_int_int_int_slices_Equal_int_int.l0] at h
 | k + 1 => by
  have ih0 := slices_EqualFunc_int_int_int_int_slices_Equal_int_int.mono_l k
  ·intro y0 y1 y2 y3
   unfold slices_EqualFunc_int_int_int_int_slices_Equal_int_int.l0
   repeat' first
   | (with_reducible exact ih0 _ _ _ _)
   | (with_reducible exact slices_Equal_int_int.mono _ _ _)
   | (with_reducible exact LeO.refl _)
   | (with_reducible exact LeO.none _)
   | (with_reducible refine LeO.ite ?_ ?_)
   | (with_reducible refine LeO.bind ?_ (fun _ => ?_))
   | exact ih0 _ _ _ _
   | exact slices_Equal_int_int.mono _ _ _
   | exact LeO.none _
   | refine LeO.ite ?_ ?_
   | refine LeO.bind ?_ (fun _ => ?_)
theorem slices_EqualFunc_int_int_int_int_slices_Equal_int_int.mono : ∀ a0 a1 k, LeO (slices_EqualFunc_int_int_int_int_slices_Equal_int_int.f k a0 a1) (slices_EqualFunc_int_int_int_int_slices_Equal_int_int.f (k + 1) a0 a1) := by
 intro a0 a1 k
 have ih0 := slices_EqualFunc_int_int_int_int_slices_Equal_int_int.mono_l k
 unfold slices_EqualFunc_int_int_int_int_slices_Equal_int_int.f
 repeat' first
  | (with_reducible exact ih0 _ _ _ _)
  | (with_reducible exact slices_Equal_int_int.mono _ _ _)
  | (with_reducible exact LeO.refl _)
  | (with_reducible exact LeO.none _)
  | (with_reducible refine LeO.ite ?_ ?_)
  | (with_reducible refine LeO.bind ?_ (fun _ => ?_))
  | exact ih0 _ _ _ _
  | exact slices_Equal_int_int.mono _ _ _
  | exact LeO.none _
  | refine LeO.ite ?_ ?_
  | refine LeO.bind ?_ (fun _ => ?_)
set_option maxHeartbeats 8000000 in
set_option maxRecDepth 100000 in
theorem slices_EqualFunc_int_int_int_int_slices_Equal_int_int.calls (k : Nat) (A0 : Option Addr) (c0 : Nat) (l0 : List (List Int)) (A1 : Option Addr) (c1 : Nat) (l1 : List (List Int))  (r : Bool) (w : World) (hr0 : Kd.C (Kd.slice 3 (Kd.int .i64)) w A0 l0.length l0) (hc0 : l0.length ≤ c0) (hr1 : Kd.C (Kd.slice 3 (Kd.int .i64)) w A1 l1.length l1) (hc1 : l1.length ≤ c1) (h : slices_EqualFunc_int_int_int_int_slices_Equal_int_int.f k l0 l1 = some r) :
 Calls Try.prog 33 #[.slice A0 l0.length c0, .slice A1 l1.length c1, .func (.func 34) #[] #[]] w fun e w' => e = .returned (.bool r) ∧ Drawn0 w w' := by
 have HR0 := Aside0.mk hr0
 have HC0 := Aside0.mk hc0
 clear hr0 hc0
 have HR1 := Aside0.mk hr1
 have HC1 := Aside0.mk hc1
 clear hr1 hc1
 have H : (if (l0.length : Int) = (l1.length : Int) then (slices_EqualFunc_int_int_int_int_slices_Equal_int_int.l0 k l1 l0 (l0.length : Int) 0) else (some false)) = some r := h
 clear h
 by_cases c4 : (l0.length : Int) = (l1.length : Int)
 ·rw [if_pos c4] at H
  have c4b0 : ((l0.length : Int) == (l1.length : Int)) = true := beq_iff_eq.mpr c4
  have c4b1 : ((l0.length : Int) != (l1.length : Int)) = false := bne_eq_false_iff_eq.mpr c4
  have c4b2 : (l0.length == l1.length) = true := by first | simpa using c4 | (simp at c4 ⊢; omega)
  clear c4
  have H' := Aside0.mk H
  clear H
  go_enter Try.func33, Try.ntmps33
  go_wp2
  go_loopg [17] k (fun kq v17 w' => ∃ (x17_1 : Int), v17 = .int .i64 x17_1 ∧ Aside0 (slices_EqualFunc_int_int_int_int_slices_Equal_int_int.l0 kq l1 l0 (l0.length : Int) x17_1 = some r) ∧ Aside0 (kq ≤ k) ∧ Drawn0 w w')
  case atStart => exact ⟨(0), (by first | rfl | (simp; done) | (simp [*]; done)), H', ⟨Nat.le_refl _⟩, by repeat (first | exact Drawn0.refl _ | apply Drawn0.step)⟩
  case round =>
   clear H'
   try clear c1
   try clear c4b0
   try clear c4b1
   try clear c4b2
   obtain ⟨x17_1, rfl, HA, HK1, ⟨m1, rfl⟩⟩ := hrel
   cases gk with
   | zero => exact absurd HA.out (by simp [slices_EqualFunc_int_int_int_int_slices_Equal_int_int.l0])
   | succ k1 =>
    have H := HA.out
    clear HA
    simp only [slices_EqualFunc_int_int_int_int_slices_Equal_int_int.l0] at H
    by_cases c5 : x17_1 < (l0.length : Int)
    ·rw [if_pos c5] at H
     have c5b0 : decide (x17_1 < (l0.length : Int)) = true := decide_eq_true c5
     clear c5
     by_cases c6 : 0 ≤ x17_1
     ·rw [if_pos c6] at H
      have c6b0 : decide (0 ≤ x17_1) = true := decide_eq_true c6
      clear c6
      by_cases c7 : x17_1 < (l0.length : Int)
      ·rw [if_pos c7] at H
       have c7b0 : decide (x17_1 < (l0.length : Int)) = true := decide_eq_true c7
       clear c7
       by_cases c8 : x17_1 < (l1.length : Int)
       ·rw [if_pos c8] at H
        have c8b0 : decide (x17_1 < (l1.length : Int)) = true := decide_eq_true c8
        clear c8
        replace H := Option.bind_eq_some_iff.mp H
        obtain ⟨t155, A90, H⟩ := H
        replace H : (if t155 = true then (slices_EqualFunc_int_int_int_int_slices_Equal_int_int.l0 k1 l1 l0 (l0.length : Int) (wrap64 (x17_1 + 1))) else (some false)) = some r := H
        have A9 := Aside0.mk A90
        clear A90
        by_cases c10 : t155 = true
        ·subst c10
         have H1 : (slices_EqualFunc_int_int_int_int_slices_Equal_int_int.l0 k1 l1 l0 (l0.length : Int) (wrap64 (x17_1 + 1))) = some r := by rw [if_pos rfl] at H; exact H
         clear H
         have H := H1
         clear H1
         have H' := Aside0.mk H
         clear H
         have p153 : 0 ≤ (x17_1 : Int) := D_
         have q153 : x17_1 < (l0.length : Int) := D_
         obtain ⟨ad153, A153_0, c153_0, e153, hx153_0, hl153_0, hi153_0⟩ := at_L1 HR0.out x17_1 p153 q153
         cases e153
         have HR153_0 := Aside0.mk hi153_0
         have HC153_0 := Aside0.mk hl153_0
         clear hi153_0 hl153_0
         replace p153 := eq_true p153
         replace q153 := eq_true q153
         have p154 : 0 ≤ (x17_1 : Int) := D_
         have q154 : x17_1 < (l1.length : Int) := D_
         obtain ⟨ad154, A154_0, c154_0, e154, hx154_0, hl154_0, hi154_0⟩ := at_L1 HR1.out x17_1 p154 q154
         cases e154
         have HR154_0 := Aside0.mk hi154_0
         have HC154_0 := Aside0.mk hl154_0
         clear hi154_0 hl154_0
         replace p154 := eq_true p154
         replace q154 := eq_true q154
         go_wp2_with (first | (go_at_call 34; (with_reducible refine (slices_Equal_int_int.calls k1 _ _ (rd_L1 l0 x17_1) _ _ (rd_L1 l1 x17_1) true _ ?side1 ?side2 ?side3 ?side4 A9.out).mono ?_); (case side1 => exact CX_ HR153_0.out); (case side2 => exact HC153_0.out); (case side3 => exact CX_ HR154_0.out); (case side4 => exact HC154_0.out); rintro e w' ⟨rfl, ⟨nd, rfl⟩⟩))
         go_roundg k1
         case measure => have := HK1.out; omega
         case rel => exact ⟨(wrap64 (x17_1 + 1)), (by first | rfl | (simp; done) | (simp [*]; done)), H', ⟨by have := HK1.out; omega⟩, by repeat (first | exact Drawn0.refl _ | apply Drawn0.step)⟩
        replace c10 := Bool.eq_false_iff.mpr c10
        subst c10
        have H1 : (some false) = some r := by rw [if_neg (show ¬ (false = true) by decide)] at H; exact H
        clear H
        have H := H1
        clear H1
        obtain rfl := Option.some.inj H
        have p153 : 0 ≤ (x17_1 : Int) := D_
        have q153 : x17_1 < (l0.length : Int) := D_
        obtain ⟨ad153, A153_0, c153_0, e153, hx153_0, hl153_0, hi153_0⟩ := at_L1 HR0.out x17_1 p153 q153
        cases e153
        have HR153_0 := Aside0.mk hi153_0
        have HC153_0 := Aside0.mk hl153_0
        clear hi153_0 hl153_0
        replace p153 := eq_true p153
        replace q153 := eq_true q153
        have p154 : 0 ≤ (x17_1 : Int) := D_
        have q154 : x17_1 < (l1.length : Int) := D_
        obtain ⟨ad154, A154_0, c154_0, e154, hx154_0, hl154_0, hi154_0⟩ := at_L1 HR1.out x17_1 p154 q154
        cases e154
        have HR154_0 := Aside0.mk hi154_0
        have HC154_0 := Aside0.mk hl154_0
        clear hi154_0 hl154_0
        replace p154 := eq_true p154
        replace q154 := eq_true q154
        go_wp2_with (first | (go_at_call 34; (with_reducible refine (slices_Equal_int_int.calls k1 _ _ (rd_L1 l0 x17_1) _ _ (rd_L1 l1 x17_1) false _ ?side1 ?side2 ?side3 ?side4 A9.out).mono ?_); (case side1 => exact CX_ HR153_0.out); (case side2 => exact HC153_0.out); (case side3 => exact CX_ HR154_0.out); (case side4 => exact HC154_0.out); rintro e w' ⟨rfl, ⟨nd, rfl⟩⟩))
        go_ret
        exact ⟨by first | rfl | (simp; done) | (simp [*]; done), by repeat (first | exact Drawn0.refl _ | apply Drawn0.step)⟩
       rw [if_neg c8] at H
       exact absurd H (by simp)
      rw [if_neg c7] at H
      exact absurd H (by simp)
     rw [if_neg c6] at H
     exact absurd H (by simp)
    rw [if_neg c5] at H
    have c5b0 : decide (x17_1 < (l0.length : Int)) = false := decide_eq_false c5
    clear c5
    obtain rfl := Option.some.inj H
    go_wp2
    go_ret
    exact ⟨by first | rfl | (simp; done) | (simp [*]; done), by repeat (first | exact Drawn0.refl _ | apply Drawn0.step)⟩
 rw [if_neg c4] at H
 have c4b0 : ((l0.length : Int) == (l1.length : Int)) = false := beq_eq_false_iff_ne.mpr c4
 have c4b1 : ((l0.length : Int) != (l1.length : Int)) = true := bne_iff_ne.mpr c4
 have c4b2 : (l0.length == l1.length) = false := by first | simpa using c4 | (simp at c4 ⊢; omega)
 obtain rfl := Option.some.inj H
 go_enter Try.func33, Try.ntmps33
 go_wp2
 go_ret
 exact ⟨by first | rfl | (simp; done) | (simp [*]; done), by repeat (first | exact Drawn0.refl _ | apply Drawn0.step)⟩


/-! ### graph_May: function 24 -/
def graph_May.f (k : Nat) (l0_0 : List (List Int)) (l0_1 : List (List Int)) : Option (Bool) := (graph_Make.f k l0_0).bind fun bt157 => (if bt157.2.2 = 0 then ((slices_EqualFunc_int_int_int_int_slices_Equal_int_int.f k bt157.2.1 l0_1).bind fun t165 => (some t165)) else (some false))
theorem graph_May.mono : ∀ a0 a1 k, LeO (graph_May.f k a0 a1) (graph_May.f (k + 1) a0 a1) := by
 intro a0 a1 k
 unfold graph_May.f
 repeat' first
  | (with_reducible exact graph_Make.mono _ _)
  | (with_reducible exact slices_EqualFunc_int_int_int_int_slices_Equal_int_int.mono _ _ _)
  | (with_reducible exact LeO.refl _)
  | (with_reducible exact LeO.none _)
  | (with_reducible refine LeO.ite ?_ ?_)
  | (with_reducible refine LeO.bind ?_ (fun _ => ?_))
  | exact graph_Make.mono _ _
  | exact slices_EqualFunc_int_int_int_int_slices_Equal_int_int.mono _ _ _
  | exact LeO.none _
  | refine LeO.ite ?_ ?_
  | refine LeO.bind ?_ (fun _ => ?_)
set_option maxHeartbeats 8000000 in
set_option maxRecDepth 100000 in
theorem graph_May.calls (k : Nat) (A0_0 : Option Addr) (c0_0 : Nat) (l0_0 : List (List Int)) (A0_1 : Option Addr) (c0_1 : Nat) (l0_1 : List (List Int)) (r : Bool) (w : World) (hr0_0 : Kd.C (Kd.slice 3 (Kd.int .i64)) w A0_0 l0_0.length l0_0) (hc0_0 : l0_0.length ≤ c0_0) (hr0_1 : Kd.C (Kd.slice 3 (Kd.int .i64)) w A0_1 l0_1.length l0_1) (hc0_1 : l0_1.length ≤ c0_1) (h : graph_May.f k l0_0 l0_1 = some r) :
 Calls Try.prog 24 #[.agg #[.slice A0_0 l0_0.length c0_0, .slice A0_1 l0_1.length c0_1]] w fun e w' => e = .returned (.bool r) ∧ Below w.heap.size w w' := by
 have hu26 := Try.underlying26
 have HR0_0 := Aside0.mk hr0_0
 have HC0_0 := Aside0.mk hc0_0
 clear hr0_0 hc0_0
 have HR0_1 := Aside0.mk hr0_1
 have HC0_1 := Aside0.mk hc0_1
 clear hr0_1 hc0_1
 have HB := Aside0.mk (Below.refl w.heap.size w)
 have H : ((graph_Make.f k l0_0).bind fun bt157 => (if bt157.2.2 = 0 then ((slices_EqualFunc_int_int_int_int_slices_Equal_int_int.f k bt157.2.1 l0_1).bind fun t165 => (some t165)) else (some false))) = some r := h
 clear h
 replace H := Option.bind_eq_some_iff.mp H
 obtain ⟨⟨t157, t160, t163⟩, A20, H⟩ := H
 replace H : (if t163 = 0 then ((slices_EqualFunc_int_int_int_int_slices_Equal_int_int.f k t160 l0_1).bind fun t165 => (some t165)) else (some false)) = some r := H
 have A2 := Aside0.mk A20
 clear A20
 by_cases c3 : t163 = 0
 ·rw [if_pos c3] at H
  have c3b0 : (t163 == 0) = true := beq_iff_eq.mpr c3
  have c3b1 : (t163 != 0) = false := bne_eq_false_iff_eq.mpr c3
  clear c3
  replace H := Option.bind_eq_some_iff.mp H
  obtain ⟨t165, A40, H⟩ := H
  replace H : (some t165) = some r := H
  have A4 := Aside0.mk A40
  clear A40
  obtain rfl := Option.some.inj H
  go_enter Try.func24, Try.ntmps24
  go_wp2_with (first | ((with_reducible refine gate_dst (N := 1) rfl ?_); refine box_event ?hg (N := 1) ?hd (cs := #[.slice A0_0 l0_0.length c0_0, .slice A0_1 l0_1.length c0_1]) (t := 26) ?hr ?_; (case hd => rfl); (case hg => rfl); (case hr => first | (go_simp; done) | (go_simp; rfl)); intro gb156 hg w5 hbox hb; have n0_ := Aside0.mk (below_step (B_) hb); have n1_ := Aside0.mk (hbox); have n2_ := Aside0.mk ((by rw [hg]; exact (below_size (B_)) : w.heap.size ≤ gb156)); have n3_ := Aside0.mk ((by rw [hg]; exact (below_size (B_)) : w.heap.size ≤ gb156)); clear HB; have HB := n0_; have BK156 := n1_; have GW156 := n2_; have GE156 := n3_; clear n0_ n1_ n2_ n3_; clear hb hbox hg; have hcz6_0 : w5.cell? ⟨gb156, 0, none⟩ = some (.slice A0_0 l0_0.length c0_0) := (blk_cell BK156.out 0).trans rfl; have hcz6_1 : w5.cell? ⟨gb156, 1, none⟩ = some (.slice A0_1 l0_1.length c0_1) := (blk_cell BK156.out 1).trans rfl; have hfz6_0 := blk_frozen BK156.out 0; have hfz6_1 := blk_frozen BK156.out 1) | ((with_reducible refine gate_callee (f := 9) rfl ?_); refine goesL_ (some 8) rfl rfl Try.func9 (by kernel_rfl) rfl #[.slice A0_0 l0_0.length c0_0] rfl (by (try simp only [List.map_toArray, List.map_cons, List.map_nil]); first | done | rfl | (simp only [List.length_drop, List.length_take]; rfl)) ?_; (with_reducible refine (graph_Make.calls k _ _ l0_0 t157 t160 t163 _ ?side1 ?side2 A2.out).mono ?_); (case side1 => exact CX_ (Kd.C_below HR0_0.out HB.out)); (case side2 => exact HC0_0.out); rintro e w7 ⟨v158, v161, rfl, ho0, ho1, hb⟩; refine ⟨_, rfl, ?_⟩; have n0_ := Aside0.mk (Kd.S_lower ho0 (below_size (B1_))); have n1_ := Aside0.mk (Kd.S_lower ho1 (below_size (B1_))); have n2_ := Aside0.mk (blk_below (g := gb156) (o := .cells #[.slice A0_0 l0_0.length c0_0, .slice A0_1 l0_1.length c0_1] 26 (0, 0)) (by exact KX_ BK156.out) hb); have n3_ := Aside0.mk (below_step (B1_) hb); clear BK156; clear HB; have HO159 := n0_; have HO162 := n1_; have BK156 := n2_; have HB := n3_; clear n0_ n1_ n2_ n3_; (try clear hb); (try clear hb2); (try clear hk); (try clear hi); (try clear ho0); (try clear ho1)) | ((with_reducible refine gate_dst (N := 3) rfl ?_); refine box_event ?hg (N := 3) ?hd (cs := #[.slice none 0 0, .slice none 0 0]) (t := 26) ?hr ?_; (case hd => rfl); (case hg => rfl); (case hr => first | (go_simp; done) | (go_simp; rfl)); intro gb164 hg w8 hbox hb; have n0_ := Aside0.mk (Kd.S_below (by exact SX_ HO159.out) hb); have n1_ := Aside0.mk (Kd.S_below (by exact SX_ HO162.out) hb); have n2_ := Aside0.mk (blk_below (g := gb156) (o := .cells #[.slice A0_0 l0_0.length c0_0, .slice A0_1 l0_1.length c0_1] 26 (0, 0)) (by exact KX_ BK156.out) hb); have n3_ := Aside0.mk (below_step (B1_) hb); have n4_ := Aside0.mk (hbox); have n5_ := Aside0.mk ((by rw [hg]; exact (below_size (B1_)) : w.heap.size ≤ gb164)); have n6_ := Aside0.mk ((by rw [hg]; exact (below_size (B1_)) : w.heap.size ≤ gb164)); have n7_ := Aside0.mk ((by rw [hg]; exact Nat.ne_of_lt (blk_lt (g := gb156) (o := .cells #[.slice A0_0 l0_0.length c0_0, .slice A0_1 l0_1.length c0_1] 26 (0, 0)) (by exact KX_ BK156.out)) : gb156 ≠ gb164)); have n8_ := Aside0.mk ((by rw [hg]; exact Nat.ne_of_gt (blk_lt (g := gb156) (o := .cells #[.slice A0_0 l0_0.length c0_0, .slice A0_1 l0_1.length c0_1] 26 (0, 0)) (by exact KX_ BK156.out)) : gb164 ≠ gb156)); clear HO159; clear HO162; clear BK156; clear HB; have HO159 := n0_; have HO162 := n1_; have BK156 := n2_; have HB := n3_; have BK164 := n4_; have GW164 := n5_; have GE164 := n6_; have NB156_164 := n7_; have NB164_156 := n8_; clear n0_ n1_ n2_ n3_ n4_ n5_ n6_ n7_ n8_; clear hb hbox hg; obtain ⟨Ao9, co9, eo9⟩ := Kd.S_slice HO159.out; subst eo9; have hnb10 := NB164_156.out; have hnc10 := NB156_164.out; have hcz11_0 : w8.cell? ⟨gb164, 0, none⟩ = some (.slice none 0 0) := (blk_cell BK164.out 0).trans rfl; have hcz11_1 : w8.cell? ⟨gb164, 1, none⟩ = some (.slice none 0 0) := (blk_cell BK164.out 1).trans rfl; have hfz11_0 := blk_frozen BK164.out 0; have hfz11_1 := blk_frozen BK164.out 1; obtain ⟨Ao12, co12, eo12⟩ := Kd.S_slice HO162.out; subst eo12; have hcz13_0 : w8.cell? ⟨gb156, 0, none⟩ = some (.slice A0_0 l0_0.length c0_0) := (blk_cell BK156.out 0).trans rfl; have hcz13_1 : w8.cell? ⟨gb156, 1, none⟩ = some (.slice A0_1 l0_1.length c0_1) := (blk_cell BK156.out 1).trans rfl; have hfz13_0 := blk_frozen BK156.out 0; have hfz13_1 := blk_frozen BK156.out 1) | (go_at_call 33; (with_reducible refine (slices_EqualFunc_int_int_int_int_slices_Equal_int_int.calls k _ _ t160 _ _ l0_1  t165 _ ?side1 ?side2 ?side3 ?side4 A4.out).mono ?_); (case side1 => refine (Kd.S_reads' (e := 30) (base := w.heap.size) (ok := fun k_ => some k_ ≠ (.slice Ao9 t157.length co9 : Value).ownBlock) (n := t160.length) (c := co12) ?_).2.2; exact (by (with_reducible repeat (first | apply Kd.S_alloc | apply Kd.S_drewN | apply Kd.S_drew)); exact (Kd.S_mono (Kd.S_far (p := ⟨gb164, 1, none⟩) (Kd.S_far (p := ⟨gb164, 0, none⟩) (Kd.S_types HO162.out BK164.out (by decide)) (fun _ hk => hk.2) (.slice Ao9 t157.length co9)) (fun _ hk => hk.2) (.slice Ao12 t160.length co12)) (fun _ h_ => h_.1)))); (case side2 => exact (Kd.S_reads' HO162.out).2.1); (case side3 => exact Kd.C_below HR0_1.out (B1_)); (case side4 => exact HC0_1.out); rintro e w' ⟨rfl, ⟨nd, rfl⟩⟩))
  go_ret
  exact ⟨by first | rfl | (simp [errW_none, errW_some] <;> rfl) | (simp [*, errW_none, errW_some] <;> rfl), B1_⟩
 rw [if_neg c3] at H
 have c3b0 : (t163 == 0) = false := beq_eq_false_iff_ne.mpr c3
 have c3b1 : (t163 != 0) = true := bne_iff_ne.mpr c3
 obtain rfl := Option.some.inj H
 go_enter Try.func24, Try.ntmps24
 go_wp2_with (first | ((with_reducible refine gate_dst (N := 1) rfl ?_); refine box_event ?hg (N := 1) ?hd (cs := #[.slice A0_0 l0_0.length c0_0, .slice A0_1 l0_1.length c0_1]) (t := 26) ?hr ?_; (case hd => rfl); (case hg => rfl); (case hr => first | (go_simp; done) | (go_simp; rfl)); intro gb156 hg w14 hbox hb; have n0_ := Aside0.mk (below_step (B_) hb); have n1_ := Aside0.mk (hbox); have n2_ := Aside0.mk ((by rw [hg]; exact (below_size (B_)) : w.heap.size ≤ gb156)); have n3_ := Aside0.mk ((by rw [hg]; exact (below_size (B_)) : w.heap.size ≤ gb156)); clear HB; have HB := n0_; have BK156 := n1_; have GW156 := n2_; have GE156 := n3_; clear n0_ n1_ n2_ n3_; clear hb hbox hg; have hcz15_0 : w14.cell? ⟨gb156, 0, none⟩ = some (.slice A0_0 l0_0.length c0_0) := (blk_cell BK156.out 0).trans rfl; have hcz15_1 : w14.cell? ⟨gb156, 1, none⟩ = some (.slice A0_1 l0_1.length c0_1) := (blk_cell BK156.out 1).trans rfl; have hfz15_0 := blk_frozen BK156.out 0; have hfz15_1 := blk_frozen BK156.out 1) | ((with_reducible refine gate_callee (f := 9) rfl ?_); refine goesL_ (some 8) rfl rfl Try.func9 (by kernel_rfl) rfl #[.slice A0_0 l0_0.length c0_0] rfl (by (try simp only [List.map_toArray, List.map_cons, List.map_nil]); first | done | rfl | (simp only [List.length_drop, List.length_take]; rfl)) ?_; (with_reducible refine (graph_Make.calls k _ _ l0_0 t157 t160 t163 _ ?side1 ?side2 A2.out).mono ?_); (case side1 => exact CX_ (Kd.C_below HR0_0.out HB.out)); (case side2 => exact HC0_0.out); rintro e w16 ⟨v158, v161, rfl, ho0, ho1, hb⟩; refine ⟨_, rfl, ?_⟩; have n0_ := Aside0.mk (Kd.S_lower ho0 (below_size (B1_))); have n1_ := Aside0.mk (Kd.S_lower ho1 (below_size (B1_))); have n2_ := Aside0.mk (blk_below (g := gb156) (o := .cells #[.slice A0_0 l0_0.length c0_0, .slice A0_1 l0_1.length c0_1] 26 (0, 0)) (by exact KX_ BK156.out) hb); have n3_ := Aside0.mk (below_step (B1_) hb); clear BK156; clear HB; have HO159 := n0_; have HO162 := n1_; have BK156 := n2_; have HB := n3_; clear n0_ n1_ n2_ n3_; (try clear hb); (try clear hb2); (try clear hk); (try clear hi); (try clear ho0); (try clear ho1)) | ((with_reducible refine gate_dst (N := 3) rfl ?_); refine box_event ?hg (N := 3) ?hd (cs := #[.slice none 0 0, .slice none 0 0]) (t := 26) ?hr ?_; (case hd => rfl); (case hg => rfl); (case hr => first | (go_simp; done) | (go_simp; rfl)); intro gb164 hg w17 hbox hb; have n0_ := Aside0.mk (Kd.S_below (by exact SX_ HO159.out) hb); have n1_ := Aside0.mk (Kd.S_below (by exact SX_ HO162.out) hb); have n2_ := Aside0.mk (blk_below (g := gb156) (o := .cells #[.slice A0_0 l0_0.length c0_0, .slice A0_1 l0_1.length c0_1] 26 (0, 0)) (by exact KX_ BK156.out) hb); have n3_ := Aside0.mk (below_step (B1_) hb); have n4_ := Aside0.mk (hbox); have n5_ := Aside0.mk ((by rw [hg]; exact (below_size (B1_)) : w.heap.size ≤ gb164)); have n6_ := Aside0.mk ((by rw [hg]; exact (below_size (B1_)) : w.heap.size ≤ gb164)); have n7_ := Aside0.mk ((by rw [hg]; exact Nat.ne_of_lt (blk_lt (g := gb156) (o := .cells #[.slice A0_0 l0_0.length c0_0, .slice A0_1 l0_1.length c0_1] 26 (0, 0)) (by exact KX_ BK156.out)) : gb156 ≠ gb164)); have n8_ := Aside0.mk ((by rw [hg]; exact Nat.ne_of_gt (blk_lt (g := gb156) (o := .cells #[.slice A0_0 l0_0.length c0_0, .slice A0_1 l0_1.length c0_1] 26 (0, 0)) (by exact KX_ BK156.out)) : gb164 ≠ gb156)); clear HO159; clear HO162; clear BK156; clear HB; have HO159 := n0_; have HO162 := n1_; have BK156 := n2_; have HB := n3_; have BK164 := n4_; have GW164 := n5_; have GE164 := n6_; have NB156_164 := n7_; have NB164_156 := n8_; clear n0_ n1_ n2_ n3_ n4_ n5_ n6_ n7_ n8_; clear hb hbox hg; obtain ⟨Ao18, co18, eo18⟩ := Kd.S_slice HO159.out; subst eo18; have hnb19 := NB164_156.out; have hnc19 := NB156_164.out; have hcz20_0 : w17.cell? ⟨gb164, 0, none⟩ = some (.slice none 0 0) := (blk_cell BK164.out 0).trans rfl; have hcz20_1 : w17.cell? ⟨gb164, 1, none⟩ = some (.slice none 0 0) := (blk_cell BK164.out 1).trans rfl; have hfz20_0 := blk_frozen BK164.out 0; have hfz20_1 := blk_frozen BK164.out 1; obtain ⟨Ao21, co21, eo21⟩ := Kd.S_slice HO162.out; subst eo21))
 go_ret
 exact ⟨by first | rfl | (simp [errW_none, errW_some] <;> rfl) | (simp [*, errW_none, errW_some] <;> rfl), B1_⟩

/-! ### pdom_ends: function 25 -/
-- needs HArr
def pdom_ends.l0 : Nat → List (List Int) → List Bool → Int → Option (List Bool)
 | 0, _, _, _ => none
 | k + 1, x0, m, i => if i < (x0.length : Int) then (if 0 ≤ i then (if i < 64 then (pdom_ends.l0 k x0 (m.set i.toNat (((rd_L1 x0 i).length : Int) == 0)) (wrap64 (i + 1))) else none) else none) else some m
def pdom_ends.f (k : Nat) (l0_0 : List (List Int)) (l0_1 : List (List Int)) : Option (List Bool) := pdom_ends.l0 k l0_0 (List.replicate 64 false) 0
theorem pdom_ends.mono_l : ∀ k y0 y1 y2, LeO (pdom_ends.l0 k y0 y1 y2) (pdom_ends.l0 (k + 1) y0 y1 y2)
 | 0 => fun _ _ _ r h => by simp [pdom_ends.l0] at h
 | k + 1 => by
  have ih0 := pdom_ends.mono_l k
  intro y0 y1 y2
  unfold pdom_ends.l0
  repeat' first
   | (with_reducible exact ih0 _ _ _)
   | (with_reducible exact LeO.refl _)
   | (with_reducible exact LeO.none _)
   | (with_reducible refine LeO.ite ?_ ?_)
theorem pdom_ends.mono : ∀ a0 a1 k, LeO (pdom_ends.f k a0 a1) (pdom_ends.f (k + 1) a0 a1) := fun _ _ k => pdom_ends.mono_l k _ _ _
theorem pdom_ends.len_l : ∀ k y0 y1 y2 r, pdom_ends.l0 k y0 y1 y2 = some r → y1.length = 64 → r.length = 64
 | 0, _, _, _, _, h, _ => by simp [pdom_ends.l0] at h
 | k + 1, y0, y1, y2, r, h, hl => by
  simp only [pdom_ends.l0] at h
  split at h
  · split at h
    · split at h
      · exact pdom_ends.len_l k _ _ _ r h (by simp [hl])
      · cases h
    · cases h
  · cases h; exact hl
theorem pdom_ends.len {k : Nat} {a0 a1 : List (List Int)} {r : List Bool} (h : pdom_ends.f k a0 a1 = some r) : r.length = 64 := pdom_ends.len_l k _ _ _ r h (by simp)
set_option maxHeartbeats 8000000 in
set_option maxRecDepth 100000 in
theorem pdom_ends.calls (k : Nat) (A0_0 : Option Addr) (c0_0 : Nat) (l0_0 : List (List Int)) (A0_1 : Option Addr) (c0_1 : Nat) (l0_1 : List (List Int)) (r : List Bool) (w : World) (hr0_0 : Kd.C (Kd.slice 3 (Kd.int .i64)) w A0_0 l0_0.length l0_0) (hc0_0 : l0_0.length ≤ c0_0) (h : pdom_ends.f k l0_0 l0_1 = some r) :
 Calls Try.prog 25 #[.agg #[.slice A0_0 l0_0.length c0_0, .slice A0_1 l0_1.length c0_1]] w fun e w' => e = .returned (.agg (AV r)) ∧ Below w.heap.size w w' := by
 have HR0_0 := Aside0.mk hr0_0
 have HC0_0 := Aside0.mk hc0_0
 clear hr0_0 hc0_0
 have HB := Aside0.mk (Below.refl w.heap.size w)
 have HL := Aside0.mk (pdom_ends.len h)
 have H : (pdom_ends.l0 k l0_0 (List.replicate 64 false) 0) = some r := h
 clear h
 have H' := Aside0.mk H
 clear H
 go_enter Try.func25, Try.ntmps25
 go_wp2_with (first
  | ((with_reducible refine gate_dst (N := 1) rfl ?_); refine box_event ?hg (N := 1) ?hd (cs := #[.slice A0_0 l0_0.length c0_0, .slice A0_1 l0_1.length c0_1]) (t := 26) ?hr ?_; (case hd => rfl); (case hg => rfl); (case hr => first | (go_simp; done) | (go_simp; rfl)); intro g1 hg w1 hbox hb; have n0_ := Aside0.mk (below_step (B_) hb); have n1_ := Aside0.mk hbox; clear HB; have HB := n0_; have BK1 := n1_; clear n0_ n1_ hb hbox hg; have hcz1_0 : w1.cell? ⟨g1, 0, none⟩ = some (.slice A0_0 l0_0.length c0_0) := (blk_cell BK1.out 0).trans rfl; have hfz1_0 := blk_frozen BK1.out 0)
  | ((with_reducible refine gate_dst (N := 2) rfl ?_); refine box_event ?hg (N := 2) ?hd (cs := AV (List.replicate 64 false)) (t := 47) ?hr ?_; (case hd => rfl); (case hg => rfl); (case hr => first | (go_simp; done) | (go_simp; rfl) | (go_simp; kernel_rfl)); intro g2 hg w2 hbox hb; have n0_ := Aside0.mk (blk_below BK1.out hb); have n1_ := Aside0.mk (below_step (B_) hb); have n2_ := Aside0.mk hbox; have n3_ := Aside0.mk ((by rw [hg]; exact (below_size (B_)) : w.heap.size ≤ g2)); have n4_ := Aside0.mk ((by rw [hg]; exact Nat.ne_of_lt (blk_lt BK1.out) : g1 ≠ g2)); clear BK1 HB; have BK1 := n0_; have HB := n1_; have BK2 := n2_; have GE2 := n3_; have NB1_2 := n4_; clear n0_ n1_ n2_ n3_ n4_ hb hbox hg)
  | ((with_reducible refine gate_dst (N := 3) rfl ?_); refine box_event ?hg (N := 3) ?hd (cs := AV (List.replicate 64 false)) (t := 47) ?hr ?_; (case hd => rfl); (case hg => rfl); (case hr => first | (go_simp; done) | (go_simp; rfl) | (go_simp; kernel_rfl)); intro g3 hg w3 hbox hb; have n0_ := Aside0.mk (blk_below BK1.out hb); have n1_ := Aside0.mk (below_step (B_) hb); have n2_ := Aside0.mk hbox; have n3_ := Aside0.mk ((by rw [hg]; exact (below_size (B_)) : w.heap.size ≤ g3)); have n4_ := Aside0.mk ((by rw [hg]; exact Nat.ne_of_lt (blk_lt BK1.out) : g1 ≠ g3)); have n5_ := Aside0.mk ((by rw [hg]; exact Nat.ne_of_lt (blk_lt BK2.out) : g2 ≠ g3)); have n6_ := Aside0.mk (blk_below BK2.out hb); clear BK1 BK2 HB; have BK1 := n0_; have HB := n1_; have BK3 := n2_; have GE3 := n3_; have NB1_3 := n4_; have NB2_3 := n5_; have BK2 := n6_; clear n0_ n1_ n2_ n3_ n4_ n5_ n6_ hb hbox hg; have hcz3_0 : w3.cell? ⟨g1, 0, none⟩ = some (.slice A0_0 l0_0.length c0_0) := (blk_cell BK1.out 0).trans rfl; have hfz3_0 := blk_frozen BK1.out 0))
 go_loopg [9] k (fun kq v9 w' => ∃ (m : List Bool) (i : Int), v9 = .int .i64 i ∧ Aside0 (pdom_ends.l0 kq l0_0 m i = some r) ∧ Aside0 (kq ≤ k) ∧ Aside0 (m.length = 64) ∧ Aside0 (w'.heap[g1]? = some (.cells #[.slice A0_0 l0_0.length c0_0, .slice A0_1 l0_1.length c0_1] 26 (0, 0))) ∧ Aside0 (w'.heap[g2]? = some (.cells (AV (List.replicate 64 false)) 47 (0, 0))) ∧ Aside0 (w'.heap[g3]? = some (.cells (AV m) 47 (0, 0))) ∧ Aside0 (Below w.heap.size w w'))
 case atStart => exact ⟨List.replicate 64 false, 0, (by first | rfl | (simp; done) | (simp [*]; done)), H', ⟨Nat.le_refl _⟩, ⟨by simp⟩, ⟨KX_ BK1.out⟩, ⟨KX_ BK2.out⟩, ⟨KX_ BK3.out⟩, ⟨B_⟩⟩
 case round =>
  clear H'
  obtain ⟨m, i, rfl, HA, HK1, HM, BK1, BK2, BK3, HB⟩ := hrel
  cases gk with
  | zero => exact absurd HA.out (by simp [pdom_ends.l0])
  | succ k1 =>
   have H := HA.out
   clear HA
   simp only [pdom_ends.l0] at H
   by_cases c6 : i < (l0_0.length : Int)
   ·rw [if_pos c6] at H
    have c6b0 : decide (i < (l0_0.length : Int)) = true := decide_eq_true c6
    clear c6
    by_cases c7 : 0 ≤ i
    ·rw [if_pos c7] at H
     have c7b0 : decide (0 ≤ i) = true := decide_eq_true c7
     clear c7
     by_cases c8 : i < 64
     ·rw [if_pos c8] at H
      have c8b0 : decide (i < 64) = true := decide_eq_true c8
      have C8 := Aside0.mk c8
      clear c8
      have H' := Aside0.mk H
      clear H
      have p111 : 0 ≤ (i : Int) := D_
      have q111 : i < (l0_0.length : Int) := D_
      obtain ⟨ad111, A111_0, c111_0, e111, hx111_0, hl111_0, hi111_0⟩ := at_L1 HR0_0.out i p111 q111
      cases e111
      replace hx111_0 := (HB.out.cell (World.block_lt_of_cell? w _ hx111_0)).trans hx111_0
      have HI := Aside0.mk (And.intro p111 q111)
      clear hi111_0 hl111_0
      replace p111 := eq_true p111
      replace q111 := eq_true q111
      have q64 : (i < (64 : Int)) = True := eq_true C8.out
      have hx3 := av_cell BK3.out i (by rw [HM.out]; exact C8.out) HI.out.1
      have hf3 := blk_frozen BK3.out i.toNat
      go_wp2_with (first
       | ((with_reducible refine gate_store (t := 4) (p := 18) rfl ?_); refine store_event (t := 4) (p := 18) (v := ?vo) (w1 := (wr.setCell ⟨g3, i.toNat, none⟩ (.bool (((rd_L1 l0_0 i).length : Int) == 0)))) ?hg ?ho ?hn ?hr ?_; (case ho => rfl); (case hg => rfl); (case hn => rfl); (case hr => first | (go_simp; done) | (go_simp; rfl)); intro w4 hw; have n0_ := Aside0.mk (by rw [hw]; exact blk_far BK1.out NB1_3.out _ : w4.heap[g1]? = some (.cells #[(.slice (some ad111) l0_0.length c0_0), .slice A0_1 l0_1.length c0_1] 26 (0, 0))); have n1_ := Aside0.mk (by rw [hw]; exact blk_far BK2.out NB2_3.out _ : w4.heap[g2]? = some (.cells (AV (List.replicate 64 false)) 47 (0, 0))); have n2_ := Aside0.mk (by rw [hw]; exact av_put BK3.out i _ : w4.heap[g3]? = some (.cells (AV (m.set i.toNat (((rd_L1 l0_0 i).length : Int) == 0))) 47 (0, 0))); have n3_ := Aside0.mk ((by rw [hw]; exact below_set HB.out GE3.out : Below w.heap.size w w4)); clear BK1 BK2 BK3 HB; have BK1 := n0_; have BK2 := n1_; have BK3 := n2_; have HB := n3_; clear n0_ n1_ n2_ n3_ hw hx3 hf3))
      go_roundg k1
      case measure => have := HK1.out; omega
      case rel => exact ⟨_, (wrap64 (i + 1)), (by first | rfl | (simp; done) | (simp [*]; done)), H', ⟨by have := HK1.out; omega⟩, ⟨by simp [HM.out]⟩, ⟨KX_ BK1.out⟩, ⟨KX_ BK2.out⟩, ⟨KX_ BK3.out⟩, ⟨B_⟩⟩
     rw [if_neg c8] at H
     exact absurd H (by simp)
    rw [if_neg c7] at H
    exact absurd H (by simp)
   rw [if_neg c6] at H
   have c6b0 : decide (i < (l0_0.length : Int)) = false := decide_eq_false c6
   clear c6
   obtain rfl := Option.some.inj H
   go_wp2_with (first
    | ((with_reducible refine gate_dst (N := 20) rfl ?_); refine av_load (g := g3) rfl 47 _ rfl ?hx BK3.out Try.underlying47 ?hi ?_; (case hx => first | (go_simp; done) | (go_simp; rfl)); (case hi => rw [HM.out]; kernel_rfl))
    | ((with_reducible refine gate_store (t := 47) (p := 2) rfl ?_); refine av_store (g := g2) (l' := m) rfl 47 _ _ rfl rfl ?hx ?hy BK2.out ?hi ?hl ?_; (case hx => first | (go_simp; done) | (go_simp; rfl)); (case hy => first | (go_simp; done) | (go_simp; rfl)); (case hi => rw [HM.out]; kernel_rfl); (case hl => rw [HM.out]; simp); intro w5 hw; have n2_ := Aside0.mk (by rw [hw]; exact av_stored BK2.out : w5.heap[g2]? = some (.cells (AV m) 47 (0, 0))); have n3_ := Aside0.mk ((by rw [hw]; exact below_setRow HB.out GE2.out _ : Below w.heap.size w w5)); clear BK1 BK2 BK3 HB; have BK2 := n2_; have HB := n3_; clear n2_ n3_ hw))
   (try simp only [Exit.inBlock, Exit.then])
   refine bodyPost_ret (results_cell_row rfl _ _ g2 _ _ _ _ (by first | (go_simp; done) | (go_simp; rfl) | rfl) BK2.out Try.underlying47 rfl (by rw [av_size, HM.out]; kernel_rfl)) rfl ?_
   exact ⟨rfl, B_⟩


/-! ### pdom_back: function 26 -/
-- needs HArr
mutual
def pdom_back.l0 : Nat → List (List Int) → List (List Int) → List Bool → List Int → Int → Option (List Bool)
 | 0, _, _, _, _, _ => none
 | k + 1, x0, p, m, st, i => if i < (x0.length : Int) then (if 0 ≤ i then (if i < 64 then (if rdOf false m i = true then (if st.length < 17592186044416 then (pdom_back.l0 k x0 p m (st ++ [i]) (wrap64 (i + 1))) else none) else (pdom_back.l0 k x0 p m st (wrap64 (i + 1)))) else none) else none) else (pdom_back.l1 k p m st)
def pdom_back.l1 : Nat → List (List Int) → List Bool → List Int → Option (List Bool)
 | 0, _, _, _ => none
 | k + 1, p, m, st => if (st.length : Int) > 0 then (if 0 ≤ wrap64 ((st.length : Int) - 1) then (if wrap64 ((st.length : Int) - 1) < (st.length : Int) then (if 0 ≤ rd st (wrap64 ((st.length : Int) - 1)) then (if rd st (wrap64 ((st.length : Int) - 1)) < (p.length : Int) then (pdom_back.l2 k p m (st.take (wrap64 ((st.length : Int) - 1)).toNat) (rd_L1 p (rd st (wrap64 ((st.length : Int) - 1)))) 0) else none) else none) else none) else none) else some m
def pdom_back.l2 : Nat → List (List Int) → List Bool → List Int → List Int → Int → Option (List Bool)
 | 0, _, _, _, _, _ => none
 | k + 1, p, m, st, row, j => if j < (row.length : Int) then (if 0 ≤ j then (if 0 ≤ rd row j then (if rd row j < 64 then (if rdOf false m (rd row j) = true then (pdom_back.l2 k p m st row (wrap64 (j + 1))) else (if st.length < 17592186044416 then (pdom_back.l2 k p (m.set (rd row j).toNat true) (st ++ [rd row j]) row (wrap64 (j + 1))) else none)) else none) else none) else none) else (pdom_back.l1 k p m st)
end
def pdom_back.f (k : Nat) (l0_0 : List (List Int)) (l0_1 : List (List Int)) (l1 : List Bool) : Option (List Bool) := pdom_back.l0 k l0_0 l0_1 l1 [] 0
theorem pdom_back.mono_l : ∀ k, (∀ y0 y1 y2 y3 y4, LeO (pdom_back.l0 k y0 y1 y2 y3 y4) (pdom_back.l0 (k + 1) y0 y1 y2 y3 y4)) ∧ (∀ y0 y1 y2, LeO (pdom_back.l1 k y0 y1 y2) (pdom_back.l1 (k + 1) y0 y1 y2)) ∧ (∀ y0 y1 y2 y3 y4, LeO (pdom_back.l2 k y0 y1 y2 y3 y4) (pdom_back.l2 (k + 1) y0 y1 y2 y3 y4))
 | 0 => ⟨fun _ _ _ _ _ r h => by simp [pdom_back.l0] at h, fun _ _ _ r h => by simp [pdom_back.l1] at h, fun _ _ _ _ _ r h => by simp [pdom_back.l2] at h⟩
 | k + 1 => by
  obtain ⟨ih0, ih1, ih2⟩ := pdom_back.mono_l k
  refine ⟨?_, ?_, ?_⟩
  · intro y0 y1 y2 y3 y4
    unfold pdom_back.l0
    repeat' first
     | (with_reducible exact ih0 _ _ _ _ _)
     | (with_reducible exact ih1 _ _ _)
     | (with_reducible exact LeO.none _)
     | (with_reducible refine LeO.ite ?_ ?_)
  · intro y0 y1 y2
    unfold pdom_back.l1
    repeat' first
     | (with_reducible exact ih2 _ _ _ _ _)
     | (with_reducible exact LeO.refl _)
     | (with_reducible exact LeO.none _)
     | (with_reducible refine LeO.ite ?_ ?_)
  · intro y0 y1 y2 y3 y4
    unfold pdom_back.l2
    repeat' first
     | (with_reducible exact ih2 _ _ _ _ _)
     | (with_reducible exact ih1 _ _ _)
     | (with_reducible exact LeO.none _)
     | (with_reducible refine LeO.ite ?_ ?_)
theorem pdom_back.mono : ∀ a0 a1 a2 k, LeO (pdom_back.f k a0 a1 a2) (pdom_back.f (k + 1) a0 a1 a2) := fun _ _ _ k => (pdom_back.mono_l k).1 _ _ _ _ _
theorem pdom_back.len_l : ∀ k, (∀ y0 y1 y2 y3 y4 r, pdom_back.l0 k y0 y1 y2 y3 y4 = some r → r.length = y2.length) ∧ (∀ y0 y1 y2 r, pdom_back.l1 k y0 y1 y2 = some r → r.length = y1.length) ∧ (∀ y0 y1 y2 y3 y4 r, pdom_back.l2 k y0 y1 y2 y3 y4 = some r → r.length = y1.length)
 | 0 => ⟨fun _ _ _ _ _ r h => by simp [pdom_back.l0] at h, fun _ _ _ r h => by simp [pdom_back.l1] at h, fun _ _ _ _ _ r h => by simp [pdom_back.l2] at h⟩
 | k + 1 => by
  obtain ⟨ih0, ih1, ih2⟩ := pdom_back.len_l k
  refine ⟨?_, ?_, ?_⟩
  · intro y0 y1 y2 y3 y4 r h
    simp only [pdom_back.l0] at h
    repeat' split at h
    all_goals first | exact ih0 _ _ _ _ _ _ h | exact ih1 _ _ _ _ h | cases h
  · intro y0 y1 y2 r h
    simp only [pdom_back.l1] at h
    repeat' split at h
    all_goals first | exact ih2 _ _ _ _ _ _ h | (cases h; rfl) | cases h
  · intro y0 y1 y2 y3 y4 r h
    simp only [pdom_back.l2] at h
    repeat' split at h
    all_goals first | exact ih2 _ _ _ _ _ _ h | (have := ih2 _ _ _ _ _ _ h; simpa using this) | exact ih1 _ _ _ _ h | cases h
theorem pdom_back.len {k : Nat} {a0 a1 : List (List Int)} {a2 r : List Bool} (h : pdom_back.f k a0 a1 a2 = some r) : r.length = a2.length := (pdom_back.len_l k).1 _ _ _ _ _ _ h
set_option maxHeartbeats 8000000 in
set_option maxRecDepth 100000 in
theorem pdom_back.calls (k : Nat) (A0_0 : Option Addr) (c0_0 : Nat) (l0_0 : List (List Int)) (A0_1 : Option Addr) (c0_1 : Nat) (l0_1 : List (List Int)) (l1 : List Bool) (r : List Bool) (w : World) (hr0_1 : Kd.C (Kd.slice 3 (Kd.int .i64)) w A0_1 l0_1.length l0_1) (hc0_1 : l0_1.length ≤ c0_1) (hl1 : l1.length = 64) (h : pdom_back.f k l0_0 l0_1 l1 = some r) :
 Calls Try.prog 26 #[.agg #[.slice A0_0 l0_0.length c0_0, .slice A0_1 l0_1.length c0_1], .agg (AV l1)] w fun e w' => e = .returned (.agg (AV r)) ∧ Below w.heap.size w w' := by
 have HB := Aside0.mk (Below.refl w.heap.size w)
 have HR0_1 := Aside0.mk hr0_1
 have HC0_1 := Aside0.mk hc0_1
 have HL1 := Aside0.mk hl1
 have H : (pdom_back.l0 k l0_0 l0_1 l1 [] 0) = some r := h
 clear h hl1 hr0_1 hc0_1
 have H' := Aside0.mk H
 clear H
 go_enter Try.func26, Try.ntmps26
 go_wp2_with (first
  | ((with_reducible refine gate_dst (N := 2) rfl ?_); refine box_event ?hg (N := 2) ?hd (cs := #[.slice A0_0 l0_0.length c0_0, .slice A0_1 l0_1.length c0_1]) (t := 26) ?hr ?_; (case hd => rfl); (case hg => rfl); (case hr => first | (go_simp; done) | (go_simp; rfl)); intro g1 hg w1 hbox hb; have n0_ := Aside0.mk (below_step (B_) hb); have n1_ := Aside0.mk hbox; clear HB; have HB := n0_; have BK1 := n1_; clear n0_ n1_ hb hbox hg)
  | ((with_reducible refine gate_dst (N := 3) rfl ?_); refine box_event ?hg (N := 3) ?hd (cs := AV l1) (t := 47) ?hr ?_; (case hd => rfl); (case hg => rfl); (case hr => first | (go_simp; done) | (go_simp; rfl) | (go_simp; kernel_rfl)); intro g2 hg w2 hbox hb; have n0_ := Aside0.mk (blk_below BK1.out hb); have n1_ := Aside0.mk (below_step (B_) hb); have n2_ := Aside0.mk hbox; have n3_ := Aside0.mk ((by rw [hg]; exact (below_size (B_)) : w.heap.size ≤ g2)); have n4_ := Aside0.mk ((by rw [hg]; exact Nat.ne_of_lt (blk_lt BK1.out) : g1 ≠ g2)); clear BK1 HB; have BK1 := n0_; have HB := n1_; have BK2 := n2_; have GE2 := n3_; have NB1_2 := n4_; clear n0_ n1_ n2_ n3_ n4_ hb hbox hg)
  | ((with_reducible refine gate_dst (N := 4) rfl ?_); refine box_event ?hg (N := 4) ?hd (cs := AV (List.replicate 64 false)) (t := 47) ?hr ?_; (case hd => rfl); (case hg => rfl); (case hr => first | (go_simp; done) | (go_simp; rfl) | (go_simp; kernel_rfl)); intro g3 hg w3 hbox hb; have n0_ := Aside0.mk (blk_below BK1.out hb); have n1_ := Aside0.mk (below_step (B_) hb); have n2_ := Aside0.mk hbox; have n3_ := Aside0.mk ((by rw [hg]; exact (below_size (B_)) : w.heap.size ≤ g3)); have n4_ := Aside0.mk ((by rw [hg]; exact (Nat.ne_of_lt (blk_lt BK2.out)).symm : g3 ≠ g2)); have n6_ := Aside0.mk (blk_below BK2.out hb); clear BK1 BK2 HB; have BK1 := n0_; have HB := n1_; have BK3 := n2_; have GE3 := n3_; have NB3_2 := n4_; have BK2 := n6_; clear n0_ n1_ n2_ n3_ n4_ n6_ hb hbox hg; have hcz1_0 : w3.cell? ⟨g1, 0, none⟩ = some (.slice A0_0 l0_0.length c0_0) := (blk_cell BK1.out 0).trans rfl; have hfz1_0 := blk_frozen BK1.out 0))
 go_loopg [5, 13] k (fun kq v5 v13 w' => ∃ (st : List Int) (i : Int), v13 = .int .i64 i ∧ Aside0 (pdom_back.l0 kq l0_0 l0_1 l1 st i = some r) ∧ Aside0 (kq ≤ k) ∧ Aside0 (Kd.R (Kd.int .i64) 3 w' w.heap.size (fun _ => True) v5 st) ∧ Aside0 (w'.heap[g1]? = some (.cells #[.slice A0_0 l0_0.length c0_0, .slice A0_1 l0_1.length c0_1] 26 (0, 0))) ∧ Aside0 (w'.heap[g2]? = some (.cells (AV l1) 47 (0, 0))) ∧ Aside0 (w'.heap[g3]? = some (.cells (AV (List.replicate 64 false)) 47 (0, 0))) ∧ Aside0 (Below w.heap.size w w'))
 case atStart => exact ⟨[], 0, (by first | rfl | (simp; done) | (simp [*]; done)), H', ⟨Nat.le_refl _⟩, ⟨Kd.R_nil _ _ _ _ _⟩, ⟨KX_ BK1.out⟩, ⟨KX_ BK2.out⟩, ⟨KX_ BK3.out⟩, ⟨B_⟩⟩
 case round =>
  clear H'
  obtain ⟨st, i, rfl, HA, HK1, HO5, BK1, BK2, BK3, HB⟩ := hrel
  cases gk with
  | zero => exact absurd HA.out (by simp [pdom_back.l0])
  | succ k1 =>
   have H := HA.out
   clear HA
   simp only [pdom_back.l0] at H
   by_cases c6 : i < (l0_0.length : Int)
   ·rw [if_pos c6] at H
    have c6b0 : decide (i < (l0_0.length : Int)) = true := decide_eq_true c6
    clear c6
    by_cases c7 : 0 ≤ i
    ·rw [if_pos c7] at H
     have C7 := Aside0.mk c7
     have p7 := eq_true c7
     clear c7
     by_cases c8 : i < 64
     ·rw [if_pos c8] at H
      have C8 := Aside0.mk c8
      clear c8
      have q64 : (i < (64 : Int)) = True := eq_true C8.out
      have hx3 := av_cell BK2.out i (by rw [HL1.out]; exact C8.out) C7.out
      by_cases c9 : rdOf false l1 i = true
      ·rw [if_pos c9] at H
       rw [c9] at hx3
       clear c9
       by_cases c10 : st.length < 17592186044416
       ·rw [if_pos c10] at H
        have LM := Aside0.mk c10
        clear c10
        have H' := Aside0.mk H
        clear H
        go_wp2_with (first
         | ((with_reducible refine gate_builtin (b := .append) (xs := #[.tmp 19, .tmp 21]) rfl ?_); at_builtin; refine Kd.R_append (Kd.int .i64) (w0 := w) w.heap.size rfl (.tmp 19) (.tmp 21) 30 3 (.int .i64 0) 8 rfl Try.underlying30 info3 rfl (by decide) (by omega) u5 st i [.int .i64 i] (fun _ => True) (fun _ => False) rfl rfl ?aP (fun _ hk => hk.elim) ?aF ?aO ?aB ?aS ?aL ?_; (case aP => exact rfl); (case aB => exact (B1_)); (case aF => exact (fun _ _ => trivial)); (case aO => exact (by exact RX_ HO5.out)); (case aS => exact (below_size (B1_))); (case aL => have := LM.out; omega); intro v5 w4 ho hb hg hat; have n0_ := Aside0.mk (blk_grown (g := g1) (o := .cells #[.slice A0_0 l0_0.length c0_0, .slice A0_1 l0_1.length c0_1] 26 (0, 0)) (by exact KX_ BK1.out) hg (Kd.R_ne HO5.out BK1.out (by decide))); have n1_ := Aside0.mk (blk_grown (g := g2) (o := .cells (AV l1) 47 (0, 0)) (by exact KX_ BK2.out) hg (Kd.R_ne HO5.out BK2.out (by decide))); have n2_ := Aside0.mk (blk_grown (g := g3) (o := .cells (AV (List.replicate 64 false)) 47 (0, 0)) (by exact KX_ BK3.out) hg (Kd.R_ne HO5.out BK3.out (by decide))); have n3_ := Aside0.mk hb; have n4_ := Aside0.mk ho; clear BK1 BK2 BK3 HB HO5; have BK1 := n0_; have BK2 := n1_; have BK3 := n2_; have HB := n3_; have HO5 := n4_; clear n0_ n1_ n2_ n3_ n4_ ho hb hg hat hx3))
        go_roundg k1
        case measure => have := HK1.out; omega
        case rel => exact ⟨_, (wrap64 (i + 1)), (by first | rfl | (simp; done) | (simp [*]; done)), H', ⟨by have := HK1.out; omega⟩, ⟨RX_ HO5.out⟩, ⟨KX_ BK1.out⟩, ⟨KX_ BK2.out⟩, ⟨KX_ BK3.out⟩, ⟨B_⟩⟩
       rw [if_neg c10] at H
       exact absurd H (by simp)
      rw [if_neg c9] at H
      rw [Bool.eq_false_iff.mpr c9] at hx3
      clear c9
      have H' := Aside0.mk H
      clear H
      go_wp2
      go_roundg k1
      case measure => have := HK1.out; omega
      case rel => exact ⟨_, (wrap64 (i + 1)), (by first | rfl | (simp; done) | (simp [*]; done)), H', ⟨by have := HK1.out; omega⟩, ⟨RX_ HO5.out⟩, ⟨KX_ BK1.out⟩, ⟨KX_ BK2.out⟩, ⟨KX_ BK3.out⟩, ⟨B_⟩⟩
     rw [if_neg c8] at H
     exact absurd H (by simp)
    rw [if_neg c7] at H
    exact absurd H (by simp)
   rw [if_neg c6] at H
   have c6b0 : decide (i < (l0_0.length : Int)) = false := decide_eq_false c6
   clear c6
   have H' := Aside0.mk H
   clear H
   go_wp2
   go_loopg [5] k1 (fun kq v5 w' => ∃ (st : List Int) (m : List Bool), Aside0 (pdom_back.l1 kq l0_1 m st = some r) ∧ Aside0 (kq ≤ k1) ∧ Aside0 (m.length = 64) ∧ Aside0 (Kd.R (Kd.int .i64) 3 w' w.heap.size (fun _ => True) v5 st) ∧ Aside0 (w'.heap[g1]? = some (.cells #[.slice A0_0 l0_0.length c0_0, .slice A0_1 l0_1.length c0_1] 26 (0, 0))) ∧ Aside0 (w'.heap[g2]? = some (.cells (AV m) 47 (0, 0))) ∧ Aside0 (w'.heap[g3]? = some (.cells (AV (List.replicate 64 false)) 47 (0, 0))) ∧ Aside0 (Below w.heap.size w w'))
   case atStart => exact ⟨st, l1, H', ⟨Nat.le_refl _⟩, HL1, ⟨RX_ HO5.out⟩, ⟨KX_ BK1.out⟩, ⟨KX_ BK2.out⟩, ⟨KX_ BK3.out⟩, ⟨B_⟩⟩
   case round =>
    clear H' HO5 BK1 BK2 BK3 HB
    obtain ⟨st, m, HA, HK2, HM, HO5, BK1, BK2, BK3, HB⟩ := hrel
    cases gk with
    | zero => exact absurd HA.out (by simp [pdom_back.l1])
    | succ k2 =>
     have H := HA.out
     clear HA
     simp only [pdom_back.l1] at H
     obtain ⟨Ao5, co5, eo5⟩ := Kd.R_slice HO5.out
     subst eo5
     by_cases c11 : (st.length : Int) > 0
     ·rw [if_pos c11] at H
      have c11b0 : decide (0 < (st.length : Int)) = true := decide_eq_true c11
      have c11b1 : decide (0 < st.length) = true := decide_eq_true (by omega)
      clear c11
      obtain ⟨ji, hji⟩ : ∃ j_ : Int, (wrap64 ((st.length : Int) - 1)) = j_ := ⟨_, rfl⟩
      rw [hji] at H
      have hjiw : (IntKind.i64.wrap ((st.length : Int) - 1)) = ji := (i64_w _).trans hji
      by_cases c12 : 0 ≤ ji
      ·rw [if_pos c12] at H
       by_cases c13 : ji < (st.length : Int)
       ·rw [if_pos c13] at H
        obtain ⟨ad5, e5, hx5_0⟩ := Kd.at_int (Kd.R_reads' HO5.out).2.2 ji c12 c13
        cases e5
        obtain ⟨x, hx_⟩ : ∃ x_ : Int, rd st ji = x_ := ⟨_, rfl⟩
        rw [hx_] at H hx5_0
        by_cases c14 : 0 ≤ x
        ·rw [if_pos c14] at H
         by_cases c15 : x < (l0_1.length : Int)
         ·rw [if_pos c15] at H
          obtain ⟨ad6, A6_0, c6_0, e6, hx6_0, hl6_0, hi6_0⟩ := at_L1 HR0_1.out x c14 c15
          cases e6
          replace hx6_0 := (HB.out.cell (World.block_lt_of_cell? w _ hx6_0)).trans hx6_0
          have HR6 := Aside0.mk hi6_0
          have HC6 := Aside0.mk hl6_0
          clear hi6_0 hl6_0
          have p12 := eq_true c12
          have p13 := eq_true c13
          have p14 := eq_true c14
          have p15 := eq_true c15
          have C12 := Aside0.mk c12
          have C13 := Aside0.mk c13
          clear c12 c13 c14 c15
          obtain ⟨st2, hst2⟩ : ∃ s_ : List Int, s_ = st.take ji.toNat := ⟨_, rfl⟩
          rw [← hst2] at H
          have hy5 : st2.length = ji.toNat := (by rw [hst2, List.length_take]; have := C13.out; omega)
          obtain ⟨i05, hi05, _, hsz5, _⟩ := info_parts info3
          have hcut5 := cut_to (P := Try.prog) 30 3 .i64 Try.underlying30 hi05 (some ad5) st.length co5 ji C12.out (Int.le_of_lt C13.out) (Kd.R_reads' HO5.out).2.1
          have hr5 := Kd.R_take (m := ji.toNat) HO5.out (by have := C13.out; omega)
          rw [← hst2] at hr5
          clear hi05 hsz5 HO5
          have HO5 := Aside0.mk hr5
          clear hr5
          have hcz1_0 : wr.cell? ⟨g1, 0, none⟩ = some (.slice A0_0 l0_0.length c0_0) := (blk_cell BK1.out 0).trans rfl
          have hcz1_1 : wr.cell? ⟨g1, 1, none⟩ = some (.slice (some ad6) l0_1.length c0_1) := (blk_cell BK1.out 1).trans rfl
          have hfz1_0 := blk_frozen BK1.out 0
          have hfz1_1 := blk_frozen BK1.out 1
          have H' := Aside0.mk H
          have HJ := Aside0.mk hji
          have HST := Aside0.mk hst2
          have HY := Aside0.mk hy5
          clear H hst2
          go_wp2
          go_loopg [5, 44] k2 (fun kq v5 v44 w' => ∃ (st : List Int) (m : List Bool) (j : Int), v44 = .int .i64 j ∧ Aside0 (pdom_back.l2 kq l0_1 m st (rd_L1 l0_1 x) j = some r) ∧ Aside0 (kq ≤ k2) ∧ Aside0 (m.length = 64) ∧ Aside0 (Kd.R (Kd.int .i64) 3 w' w.heap.size (fun _ => True) v5 st) ∧ Aside0 (w'.heap[g1]? = some (.cells #[.slice A0_0 l0_0.length c0_0, .slice (some ad6) l0_1.length c0_1] 26 (0, 0))) ∧ Aside0 (w'.heap[g2]? = some (.cells (AV m) 47 (0, 0))) ∧ Aside0 (w'.heap[g3]? = some (.cells (AV (List.replicate 64 false)) 47 (0, 0))) ∧ Aside0 (Below w.heap.size w w'))
          case atStart => exact ⟨st2, m, 0, (by first | rfl | (simp; done) | (simp [*]; done)), H', ⟨Nat.le_refl _⟩, HM, ⟨RX_ HO5.out⟩, ⟨KX_ BK1.out⟩, ⟨KX_ BK2.out⟩, ⟨KX_ BK3.out⟩, ⟨B_⟩⟩
          case round =>
           clear H' HO5 BK1 BK2 BK3 HB HM hcz1_0 hcz1_1 hfz1_0 hfz1_1 hx5_0 hcut5 hjiw hji p12 p13 p14 p15 c11b0 c11b1 hy5 hx6_0
           obtain ⟨st3, m, j, rfl, HA, HK3, HM, HO5, BK1, BK2, BK3, HB⟩ := hrel
           cases gk with
           | zero => exact absurd HA.out (by simp [pdom_back.l2])
           | succ k3 =>
            have H := HA.out
            clear HA
            simp only [pdom_back.l2] at H
            by_cases c20 : j < ((rd_L1 l0_1 x).length : Int)
            ·rw [if_pos c20] at H
             have c20b0 : decide (j < ((rd_L1 l0_1 x).length : Int)) = true := decide_eq_true c20
             by_cases c21 : 0 ≤ j
             ·rw [if_pos c21] at H
              obtain ⟨ad7, e7, hx7_0⟩ := Kd.at_int HR6.out j c21 c20
              cases e7
              replace hx7_0 := (HB.out.cell (World.block_lt_of_cell? w _ hx7_0)).trans hx7_0
              obtain ⟨y, hy_⟩ : ∃ x_ : Int, rd (rd_L1 l0_1 x) j = x_ := ⟨_, rfl⟩
              rw [hy_] at H hx7_0
              have p20 := eq_true c20
              have p21 := eq_true c21
              clear c20 c21
              by_cases c22 : 0 ≤ y
              ·rw [if_pos c22] at H
               by_cases c23 : y < 64
               ·rw [if_pos c23] at H
                have C22 := Aside0.mk c22
                have C23 := Aside0.mk c23
                have p22 := eq_true c22
                have p23 : (y < (64 : Int)) = True := eq_true c23
                clear c22 c23
                have hx3 := av_cell BK2.out y (by rw [HM.out]; exact C23.out) C22.out
                have hf3 := blk_frozen BK2.out y.toNat
                by_cases c24 : rdOf false m y = true
                ·rw [if_pos c24] at H
                 rw [c24] at hx3
                 clear c24
                 have H' := Aside0.mk H
                 clear H
                 go_wp2
                 go_roundg k3
                 case measure => have := HK1.out; have := HK2.out; have := HK3.out; omega
                 case rel => exact ⟨_, _, (wrap64 (j + 1)), (by first | rfl | (simp; done) | (simp [*]; done)), H', ⟨by have := HK3.out; omega⟩, HM, ⟨RX_ HO5.out⟩, ⟨KX_ BK1.out⟩, ⟨KX_ BK2.out⟩, ⟨KX_ BK3.out⟩, ⟨B_⟩⟩
                rw [if_neg c24] at H
                rw [Bool.eq_false_iff.mpr c24] at hx3
                clear c24
                by_cases c25 : st3.length < 17592186044416
                ·rw [if_pos c25] at H
                 have LM := Aside0.mk c25
                 clear c25
                 have H' := Aside0.mk H
                 clear H
                 go_wp2_with (first
                  | ((with_reducible refine gate_store (t := 4) (p := 53) rfl ?_); refine store_event (t := 4) (p := 53) (v := ?vo) (w1 := (wr.setCell ⟨g2, y.toNat, none⟩ (.bool true))) ?hg ?ho ?hn ?hr ?_; (case ho => rfl); (case hg => rfl); (case hn => rfl); (case hr => first | (go_simp; done) | (go_simp; rfl)); intro w5 hw; have n0_ := Aside0.mk (by rw [hw]; exact blk_far BK1.out NB1_2.out _ : w5.heap[g1]? = some (.cells #[.slice A0_0 l0_0.length c0_0, .slice (some ad6) l0_1.length c0_1] 26 (0, 0))); have n1_ := Aside0.mk (by rw [hw]; exact av_put BK2.out y true : w5.heap[g2]? = some (.cells (AV (m.set y.toNat true)) 47 (0, 0))); have n2_ := Aside0.mk (by rw [hw]; exact blk_far BK3.out NB3_2.out _ : w5.heap[g3]? = some (.cells (AV (List.replicate 64 false)) 47 (0, 0))); have n3_ := Aside0.mk ((by rw [hw]; exact below_set HB.out GE2.out : Below w.heap.size w w5)); have n4_ := Aside0.mk (by rw [hw]; exact Kd.R_mono (Kd.R_far (p := ⟨g2, y.toNat, none⟩) (Kd.R_types HO5.out BK2.out (by decide)) (fun _ hk => hk.2) _) (fun _ h => h.1) : Kd.R (Kd.int .i64) 3 w5 w.heap.size (fun _ => True) u5 st3); clear BK1 BK2 BK3 HB HO5; have BK1 := n0_; have BK2 := n1_; have BK3 := n2_; have HB := n3_; have HO5 := n4_; clear n0_ n1_ n2_ n3_ n4_ hw hx3 hf3)
                  | ((with_reducible refine gate_builtin (b := .append) (xs := #[.tmp 54, .tmp 56]) rfl ?_); at_builtin; refine Kd.R_append (Kd.int .i64) (w0 := w) w.heap.size rfl (.tmp 54) (.tmp 56) 30 3 (.int .i64 0) 8 rfl Try.underlying30 info3 rfl (by decide) (by omega) u5 st3 y [.int .i64 y] (fun _ => True) (fun _ => False) rfl rfl ?aP (fun _ hk => hk.elim) ?aF ?aO ?aB ?aS ?aL ?_; (case aP => exact rfl); (case aB => exact (B1_)); (case aF => exact (fun _ _ => trivial)); (case aO => exact (by exact RX_ HO5.out)); (case aS => exact (below_size (B1_))); (case aL => have := LM.out; omega); intro v5 w6 ho hb hg hat; have n0_ := Aside0.mk (blk_grown (g := g1) (o := .cells #[.slice A0_0 l0_0.length c0_0, .slice (some ad6) l0_1.length c0_1] 26 (0, 0)) (by exact KX_ BK1.out) hg (Kd.R_ne HO5.out BK1.out (by decide))); have n1_ := Aside0.mk (blk_grown (g := g2) (o := .cells (AV (m.set y.toNat true)) 47 (0, 0)) (by exact KX_ BK2.out) hg (Kd.R_ne HO5.out BK2.out (by decide))); have n2_ := Aside0.mk (blk_grown (g := g3) (o := .cells (AV (List.replicate 64 false)) 47 (0, 0)) (by exact KX_ BK3.out) hg (Kd.R_ne HO5.out BK3.out (by decide))); have n3_ := Aside0.mk hb; have n4_ := Aside0.mk ho; clear BK1 BK2 BK3 HB HO5; have BK1 := n0_; have BK2 := n1_; have BK3 := n2_; have HB := n3_; have HO5 := n4_; clear n0_ n1_ n2_ n3_ n4_ ho hb hg hat))
                 go_roundg k3
                 case measure => have := HK1.out; have := HK2.out; have := HK3.out; omega
                 case rel => exact ⟨_, _, (wrap64 (j + 1)), (by first | rfl | (simp; done) | (simp [*]; done)), H', ⟨by have := HK3.out; omega⟩, ⟨by simp [HM.out]⟩, ⟨RX_ HO5.out⟩, ⟨KX_ BK1.out⟩, ⟨KX_ BK2.out⟩, ⟨KX_ BK3.out⟩, ⟨B_⟩⟩
                rw [if_neg c25] at H
                exact absurd H (by simp)
               rw [if_neg c23] at H
               exact absurd H (by simp)
              rw [if_neg c22] at H
              exact absurd H (by simp)
             rw [if_neg c21] at H
             exact absurd H (by simp)
            rw [if_neg c20] at H
            have c20b0 : decide (j < ((rd_L1 l0_1 x).length : Int)) = false := decide_eq_false c20
            clear c20
            have H' := Aside0.mk H
            clear H
            go_wp2
            go_roundg k3
            case measure => have := HK1.out; have := HK2.out; have := HK3.out; omega
            case rel => exact ⟨_, _, H', ⟨by have := HK2.out; have := HK3.out; omega⟩, HM, ⟨RX_ HO5.out⟩, ⟨KX_ BK1.out⟩, ⟨KX_ BK2.out⟩, ⟨KX_ BK3.out⟩, ⟨B_⟩⟩
         rw [if_neg c15] at H
         exact absurd H (by simp)
        rw [if_neg c14] at H
        exact absurd H (by simp)
       rw [if_neg c13] at H
       exact absurd H (by simp)
      rw [if_neg c12] at H
      exact absurd H (by simp)
     rw [if_neg c11] at H
     have c11b0 : decide (0 < (st.length : Int)) = false := decide_eq_false c11
     have c11b1 : decide (0 < st.length) = false := decide_eq_false (by omega)
     clear c11
     obtain rfl := Option.some.inj H
     go_wp2_with (first
      | ((with_reducible refine gate_dst (N := 59) rfl ?_); refine av_load (g := g2) rfl 47 _ rfl ?hx BK2.out Try.underlying47 ?hi ?_; (case hx => first | (go_simp; done) | (go_simp; rfl)); (case hi => rw [HM.out]; kernel_rfl))
      | ((with_reducible refine gate_store (t := 47) (p := 4) rfl ?_); refine av_store (g := g3) (l' := m) rfl 47 _ _ rfl rfl ?hx ?hy BK3.out ?hi ?hl ?_; (case hx => first | (go_simp; done) | (go_simp; rfl)); (case hy => first | (go_simp; done) | (go_simp; rfl)); (case hi => rw [HM.out]; kernel_rfl); (case hl => rw [HM.out]; simp); intro w5 hw; have n2_ := Aside0.mk (by rw [hw]; exact av_stored BK3.out : w5.heap[g3]? = some (.cells (AV m) 47 (0, 0))); have n3_ := Aside0.mk ((by rw [hw]; exact below_setRow HB.out GE3.out _ : Below w.heap.size w w5)); clear BK1 BK2 BK3 HB; have BK3 := n2_; have HB := n3_; clear n2_ n3_ hw))
     (try simp only [Exit.inBlock, Exit.then])
     refine bodyPost_ret (results_cell_row rfl _ _ g3 _ _ _ _ (by first | (go_simp; done) | (go_simp; rfl) | rfl) BK3.out Try.underlying47 rfl (by rw [av_size, HM.out]; kernel_rfl)) rfl ?_
     exact ⟨rfl, B_⟩


/-! ### pdom_missing: function 27 -/
-- needs HArr
def pdom_missing.l0 : Nat → List (List Int) → List Bool → Int → Option Int
 | 0, _, _, _ => none
 | k + 1, x0, m, i => if i < (x0.length : Int) then (if 0 ≤ i then (if i < 64 then (if rdOf false m i = true then (pdom_missing.l0 k x0 m (wrap64 (i + 1))) else some i) else none) else none) else some (x0.length : Int)
def pdom_missing.f (k : Nat) (l0_0 : List (List Int)) (l0_1 : List (List Int)) (l1 : List Bool) : Option Int := pdom_missing.l0 k l0_0 l1 0
theorem pdom_missing.mono_l : ∀ k y0 y1 y2, LeO (pdom_missing.l0 k y0 y1 y2) (pdom_missing.l0 (k + 1) y0 y1 y2)
 | 0 => fun _ _ _ r h => by simp [pdom_missing.l0] at h
 | k + 1 => by
  have ih0 := pdom_missing.mono_l k
  intro y0 y1 y2
  unfold pdom_missing.l0
  repeat' first
   | (with_reducible exact ih0 _ _ _)
   | (with_reducible exact LeO.refl _)
   | (with_reducible exact LeO.none _)
   | (with_reducible refine LeO.ite ?_ ?_)
theorem pdom_missing.mono : ∀ a0 a1 a2 k, LeO (pdom_missing.f k a0 a1 a2) (pdom_missing.f (k + 1) a0 a1 a2) := fun _ _ _ k => pdom_missing.mono_l k _ _ _
set_option maxHeartbeats 8000000 in
set_option maxRecDepth 100000 in
theorem pdom_missing.calls (k : Nat) (A0_0 : Option Addr) (c0_0 : Nat) (l0_0 : List (List Int)) (A0_1 : Option Addr) (c0_1 : Nat) (l0_1 : List (List Int)) (l1 : List Bool) (r : Int) (w : World) (hl1 : l1.length = 64) (h : pdom_missing.f k l0_0 l0_1 l1 = some r) :
 Calls Try.prog 27 #[.agg #[.slice A0_0 l0_0.length c0_0, .slice A0_1 l0_1.length c0_1], .agg (AV l1)] w fun e w' => e = .returned (.int .i64 r) ∧ Below w.heap.size w w' := by
 have HB := Aside0.mk (Below.refl w.heap.size w)
 have HM := Aside0.mk hl1
 have H : (pdom_missing.l0 k l0_0 l1 0) = some r := h
 clear h hl1
 have H' := Aside0.mk H
 clear H
 go_enter Try.func27, Try.ntmps27
 go_wp2_with (first
  | ((with_reducible refine gate_dst (N := 2) rfl ?_); refine box_event ?hg (N := 2) ?hd (cs := #[.slice A0_0 l0_0.length c0_0, .slice A0_1 l0_1.length c0_1]) (t := 26) ?hr ?_; (case hd => rfl); (case hg => rfl); (case hr => first | (go_simp; done) | (go_simp; rfl)); intro g1 hg w1 hbox hb; have n0_ := Aside0.mk (below_step (B_) hb); have n1_ := Aside0.mk hbox; clear HB; have HB := n0_; have BK1 := n1_; clear n0_ n1_ hb hbox hg)
  | ((with_reducible refine gate_dst (N := 3) rfl ?_); refine box_event ?hg (N := 3) ?hd (cs := AV l1) (t := 47) ?hr ?_; (case hd => rfl); (case hg => rfl); (case hr => first | (go_simp; done) | (go_simp; rfl) | (go_simp; kernel_rfl)); intro g2 hg w2 hbox hb; have n0_ := Aside0.mk (blk_below BK1.out hb); have n1_ := Aside0.mk (below_step (B_) hb); have n2_ := Aside0.mk hbox; clear BK1 HB; have BK1 := n0_; have HB := n1_; have BK2 := n2_; clear n0_ n1_ n2_ hb hbox hg; have hcz1_0 : w2.cell? ⟨g1, 0, none⟩ = some (.slice A0_0 l0_0.length c0_0) := (blk_cell BK1.out 0).trans rfl; have hfz1_0 := blk_frozen BK1.out 0))
 go_loopg [9] k (fun kq v9 w' => ∃ (i : Int), v9 = .int .i64 i ∧ Aside0 (pdom_missing.l0 kq l0_0 l1 i = some r) ∧ Aside0 (kq ≤ k) ∧ Aside0 (w'.heap[g1]? = some (.cells #[.slice A0_0 l0_0.length c0_0, .slice A0_1 l0_1.length c0_1] 26 (0, 0))) ∧ Aside0 (w'.heap[g2]? = some (.cells (AV l1) 47 (0, 0))) ∧ Aside0 (Below w.heap.size w w'))
 case atStart => exact ⟨0, (by first | rfl | (simp; done) | (simp [*]; done)), H', ⟨Nat.le_refl _⟩, ⟨KX_ BK1.out⟩, ⟨KX_ BK2.out⟩, ⟨B_⟩⟩
 case round =>
  clear H'
  obtain ⟨i, rfl, HA, HK1, BK1, BK2, HB⟩ := hrel
  cases gk with
  | zero => exact absurd HA.out (by simp [pdom_missing.l0])
  | succ k1 =>
   have H := HA.out
   clear HA
   simp only [pdom_missing.l0] at H
   have hcz1_0 : wr.cell? ⟨g1, 0, none⟩ = some (.slice A0_0 l0_0.length c0_0) := (blk_cell BK1.out 0).trans rfl
   have hfz1_0 := blk_frozen BK1.out 0
   by_cases c6 : i < (l0_0.length : Int)
   ·rw [if_pos c6] at H
    have c6b0 : decide (i < (l0_0.length : Int)) = true := decide_eq_true c6
    clear c6
    by_cases c7 : 0 ≤ i
    ·rw [if_pos c7] at H
     have C7 := Aside0.mk c7
     have p7 := eq_true c7
     clear c7
     by_cases c8 : i < 64
     ·rw [if_pos c8] at H
      have C8 := Aside0.mk c8
      clear c8
      have q64 : (i < (64 : Int)) = True := eq_true C8.out
      have hx3 := av_cell BK2.out i (by rw [HM.out]; exact C8.out) C7.out
      by_cases c9 : rdOf false l1 i = true
      ·rw [if_pos c9] at H
       rw [c9] at hx3
       clear c9
       have H' := Aside0.mk H
       clear H
       go_wp2
       go_roundg k1
       case measure => have := HK1.out; omega
       case rel => exact ⟨(wrap64 (i + 1)), (by first | rfl | (simp; done) | (simp [*]; done)), H', ⟨by have := HK1.out; omega⟩, ⟨KX_ BK1.out⟩, ⟨KX_ BK2.out⟩, ⟨B_⟩⟩
      rw [if_neg c9] at H
      rw [Bool.eq_false_iff.mpr c9] at hx3
      clear c9
      obtain rfl := Option.some.inj H
      go_wp2
      go_ret
      exact ⟨by first | rfl | (simp; done) | (simp [*]; done), B_⟩
     rw [if_neg c8] at H
     exact absurd H (by simp)
    rw [if_neg c7] at H
    exact absurd H (by simp)
   rw [if_neg c6] at H
   have c6b0 : decide (i < (l0_0.length : Int)) = false := decide_eq_false c6
   clear c6
   obtain rfl := Option.some.inj H
   go_wp2
   go_ret
   exact ⟨by first | rfl | (simp; done) | (simp [*]; done), B_⟩


/-! ### pdom_Exit: function 11 -/
-- needs HArr
def pdom_Exit.l1 : Nat → List (List Int) → List Bool → List (List Int) → Int → Option (List (List Int) × List (List Int) × Int)
 | 0, _, _, _, _ => none
 | k + 1, s, out, x, i => if i < (s.length : Int) then (if 0 ≤ i then (if i < (x.length : Int) then (if i < 64 then (if (rd_L1 x i).length + (rd_L1 s i).length < 17592186044416 then (if rdOf false out i = true then (if (rd_L1 (x.set i.toNat (rd_L1 x i ++ rd_L1 s i)) i).length < 17592186044416 then (pdom_Exit.l1 k s out ((x.set i.toNat (rd_L1 x i ++ rd_L1 s i)).set i.toNat (rd_L1 (x.set i.toNat (rd_L1 x i ++ rd_L1 s i)) i ++ [(s.length : Int)])) (wrap64 (i + 1))) else none) else (pdom_Exit.l1 k s out (x.set i.toNat (rd_L1 x i ++ rd_L1 s i)) (wrap64 (i + 1)))) else none) else none) else none) else none) else (graph_Make.f k x)
def pdom_Exit.l0 : Nat → List (List Int) → List (List Int) → List Bool → List Bool → Option (List (List Int) × List (List Int) × Int)
 | 0, _, _, _, _ => none
 | k + 1, s, p, out, m => (pdom_missing.f k s p m).bind fun i => if i < (s.length : Int) then (if 0 ≤ i then (if i < 64 then ((pdom_back.f k s p (m.set i.toNat true)).bind fun m2 => pdom_Exit.l0 k s p (out.set i.toNat true) m2) else none) else none) else (if 0 ≤ wrap64 ((s.length : Int) + 1) then (if (wrap64 ((s.length : Int) + 1)).toNat ≤ 11728124029610 then (pdom_Exit.l1 k s out (List.replicate (wrap64 ((s.length : Int) + 1)).toNat []) 0) else none) else none)
def pdom_Exit.f (k : Nat) (l0_0 : List (List Int)) (l0_1 : List (List Int)) : Option (List (List Int) × List (List Int) × Int) := (graph_May.f k l0_0 l0_1).bind fun t => if t = true then (if (l0_0.length : Int) ≥ 64 then some ([], [], 5) else ((pdom_ends.f k l0_0 l0_1).bind fun out => (pdom_back.f k l0_0 l0_1 out).bind fun m => pdom_Exit.l0 k l0_0 l0_1 out m)) else some ([], [], 5)
theorem pdom_Exit.mono_l1 : ∀ k y0 y1 y2 y3, LeO (pdom_Exit.l1 k y0 y1 y2 y3) (pdom_Exit.l1 (k + 1) y0 y1 y2 y3)
 | 0 => fun _ _ _ _ r h => by simp [pdom_Exit.l1] at h
 | k + 1 => by
  have ih0 := pdom_Exit.mono_l1 k
  intro y0 y1 y2 y3
  unfold pdom_Exit.l1
  repeat' first
   | (with_reducible exact ih0 _ _ _ _)
   | (with_reducible exact graph_Make.mono _ _)
   | (with_reducible exact LeO.refl _)
   | (with_reducible exact LeO.none _)
   | (with_reducible refine LeO.ite ?_ ?_)
theorem pdom_Exit.mono_l0 : ∀ k y0 y1 y2 y3, LeO (pdom_Exit.l0 k y0 y1 y2 y3) (pdom_Exit.l0 (k + 1) y0 y1 y2 y3)
 | 0 => fun _ _ _ _ r h => by simp [pdom_Exit.l0] at h
 | k + 1 => by
  have ih0 := pdom_Exit.mono_l0 k
  intro y0 y1 y2 y3
  unfold pdom_Exit.l0
  repeat' first
   | (with_reducible exact ih0 _ _ _ _)
   | (with_reducible exact pdom_Exit.mono_l1 _ _ _ _ _)
   | (with_reducible exact pdom_missing.mono _ _ _ _)
   | (with_reducible exact pdom_back.mono _ _ _ _)
   | (with_reducible exact LeO.none _)
   | (with_reducible refine LeO.ite ?_ ?_)
   | (with_reducible refine LeO.bind ?_ (fun _ => ?_))
theorem pdom_Exit.mono : ∀ a0 a1 k, LeO (pdom_Exit.f k a0 a1) (pdom_Exit.f (k + 1) a0 a1) := by
 intro a0 a1 k
 unfold pdom_Exit.f
 exact LeO.bind (graph_May.mono _ _ _) (fun _ => LeO.ite (LeO.ite (LeO.refl _) (LeO.bind (pdom_ends.mono _ _ _) (fun _ => LeO.bind (pdom_back.mono _ _ _ _) (fun _ => pdom_Exit.mono_l0 _ _ _ _ _)))) (LeO.refl _))
set_option maxHeartbeats 8000000 in
set_option maxRecDepth 100000 in
theorem pdom_Exit.calls (k : Nat) (A0_0 : Option Addr) (c0_0 : Nat) (l0_0 : List (List Int)) (A0_1 : Option Addr) (c0_1 : Nat) (l0_1 : List (List Int)) (r1 : List (List Int)) (r2 : List (List Int)) (r3 : Int) (w : World) (hr0_0 : Kd.C (Kd.slice 3 (Kd.int .i64)) w A0_0 l0_0.length l0_0) (hc0_0 : l0_0.length ≤ c0_0) (hr0_1 : Kd.C (Kd.slice 3 (Kd.int .i64)) w A0_1 l0_1.length l0_1) (hc0_1 : l0_1.length ≤ c0_1) (h : pdom_Exit.f k l0_0 l0_1 = some (r1, r2, r3)) :
 Calls Try.prog 11 #[.agg #[.slice A0_0 l0_0.length c0_0, .slice A0_1 l0_1.length c0_1]] w fun e w' => ∃ v0_ v1_ : Value, e = .returned (.tuple #[.agg #[v0_, v1_], .int .i64 r3]) ∧ Kd.S (Kd.slice 3 (Kd.int .i64)) 30 w' w.heap.size (fun k_ => some k_ ≠ (v1_ : Value).ownBlock) v0_ r1 ∧ Kd.S (Kd.slice 3 (Kd.int .i64)) 30 w' w.heap.size (fun k_ => some k_ ≠ (v0_ : Value).ownBlock) v1_ r2 ∧ Below w.heap.size w w' := by
 have HB := Aside0.mk (Below.refl w.heap.size w)
 have HR0_0 := Aside0.mk hr0_0
 have HC0_0 := Aside0.mk hc0_0
 have HR0_1 := Aside0.mk hr0_1
 have HC0_1 := Aside0.mk hc0_1
 have H : ((graph_May.f k l0_0 l0_1).bind fun t => if t = true then (if (l0_0.length : Int) ≥ 64 then some ([], [], 5) else ((pdom_ends.f k l0_0 l0_1).bind fun out => (pdom_back.f k l0_0 l0_1 out).bind fun m => pdom_Exit.l0 k l0_0 l0_1 out m)) else some ([], [], 5)) = some (r1, r2, r3) := h
 clear h hr0_0 hc0_0 hr0_1 hc0_1
 have H' := Aside0.mk H
 clear H
 go_enter Try.func11, Try.ntmps11
 go_wp2_with (first
  | ((with_reducible refine gate_dst (N := 1) rfl ?_); refine box_event ?hg (N := 1) ?hd (cs := #[.slice A0_0 l0_0.length c0_0, .slice A0_1 l0_1.length c0_1]) (t := 26) ?hr ?_; (case hd => rfl); (case hg => rfl); (case hr => first | (go_simp; done) | (go_simp; rfl)); intro g1 hg w1 hbox hb; have n0_ := Aside0.mk (below_step (B_) hb); have n1_ := Aside0.mk hbox; clear HB; have HB := n0_; have BK1 := n1_; clear n0_ n1_ hb hbox hg)
  | ((with_reducible refine gate_dst (N := 2) rfl ?_); refine box_event ?hg (N := 2) ?hd (cs := #[.slice none 0 0, .slice none 0 0]) (t := 26) ?hr ?_; (case hd => rfl); (case hg => rfl); (case hr => first | (go_simp; done) | (go_simp; rfl)); intro g2 hg w2 hbox hb; have n0_ := Aside0.mk (blk_below BK1.out hb); have n1_ := Aside0.mk (below_step (B_) hb); have n2_ := Aside0.mk hbox; have GE2 := Aside0.mk ((by rw [hg]; exact (below_size (B_)) : w.heap.size ≤ g2)); have NB1_2 := Aside0.mk ((by rw [hg]; exact Nat.ne_of_lt (blk_lt BK1.out) : g1 ≠ g2)); clear BK1 HB; have BK1 := n0_; have HB := n1_; have BK2 := n2_; clear n0_ n1_ n2_ hb hbox hg))
 apply lab_enter 0; (case hf => rfl)
 have H := H'.out
 clear H'
 replace H := Option.bind_eq_some_iff.mp H
 obtain ⟨t1, A1_, H⟩ := H
 have A1 := Aside0.mk A1_
 clear A1_
 have hcz1_0 : w2.cell? ⟨g1, 0, none⟩ = some (.slice A0_0 l0_0.length c0_0) := (blk_cell BK1.out 0).trans rfl
 have hcz1_1 : w2.cell? ⟨g1, 1, none⟩ = some (.slice A0_1 l0_1.length c0_1) := (blk_cell BK1.out 1).trans rfl
 have hfz1_0 := blk_frozen BK1.out 0
 have hfz1_1 := blk_frozen BK1.out 1
 by_cases c7 : t1 = true
 ·subst c7
  rw [if_pos rfl] at H
  by_cases c8 : (l0_0.length : Int) ≥ 64
  ·rw [if_pos c8] at H
   have c8b0 : decide (64 ≤ (l0_0.length : Int)) = true := decide_eq_true c8
   have c8b1 : decide (64 ≤ l0_0.length) = true := decide_eq_true (by omega)
   clear c8
   simp only [Option.some.injEq, Prod.mk.injEq] at H
   obtain ⟨rfl, rfl, rfl⟩ := H
   go_wp2_with (first | (go_at_call 24; (with_reducible refine (graph_May.calls k _ _ l0_0 _ _ l0_1 true _ ?side1 ?side2 ?side3 ?side4 A1.out).mono ?_); (case side1 => exact Kd.C_below HR0_0.out (B_)); (case side2 => exact HC0_0.out); (case side3 => exact Kd.C_below HR0_1.out (B_)); (case side4 => exact HC0_1.out); rintro e w3 ⟨rfl, hb⟩; clear hcz1_0 hcz1_1 hfz1_0 hfz1_1; have n0_ := Aside0.mk (blk_below (g := g1) (o := (.cells #[.slice A0_0 l0_0.length c0_0, .slice A0_1 l0_1.length c0_1] 26 (0, 0))) (by exact KX_ BK1.out) hb); have n1_ := Aside0.mk (blk_below (g := g2) (o := (.cells #[.slice none 0 0, .slice none 0 0] 26 (0, 0))) (by exact KX_ BK2.out) hb); have nb_ := Aside0.mk (below_step (B_) hb); clear BK1 BK2 HB; have BK1 := n0_; have BK2 := n1_; have HB := nb_; clear n0_ n1_ nb_ hb; have hcz1_0 : w3.cell? ⟨g1, 0, none⟩ = some (.slice A0_0 l0_0.length c0_0) := (blk_cell BK1.out 0).trans rfl; have hcz1_1 : w3.cell? ⟨g1, 1, none⟩ = some (.slice A0_1 l0_1.length c0_1) := (blk_cell BK1.out 1).trans rfl; have hfz1_0 := blk_frozen BK1.out 0; have hfz1_1 := blk_frozen BK1.out 1; have hcz2_0 : w3.cell? ⟨g2, 0, none⟩ = some (.slice none 0 0) := (blk_cell BK2.out 0).trans rfl; have hcz2_1 : w3.cell? ⟨g2, 1, none⟩ = some (.slice none 0 0) := (blk_cell BK2.out 1).trans rfl; have hfz2_0 := blk_frozen BK2.out 0; have hfz2_1 := blk_frozen BK2.out 1))
   (try simp only [jumpg_ret, Exit.then, Exit.inBlock])
   refine bodyPost_ret (results_ct rfl _ _ g2 26 #[.slice none 0 0, .slice none 0 0] (0, 0) _ rfl (blk_put (cs := #[.slice none 0 0, .slice none 0 0]) (blk_put (cs := #[.slice none 0 0, .slice none 0 0]) BK2.out 0 _ rfl) 1 _ rfl) Try.underlying26 rfl (by kernel_rfl)) rfl ?_
   exact ⟨_, _, by first | rfl | (simp; done), Kd.S_nil _ _ _ _ _, Kd.S_nil _ _ _ _ _, B1_⟩
  rw [if_neg c8] at H
  have c8b0 : decide (64 ≤ (l0_0.length : Int)) = false := decide_eq_false c8
  have c8b1 : decide (64 ≤ l0_0.length) = false := decide_eq_false (by omega)
  have C8 := Aside0.mk c8
  clear c8
  replace H := Option.bind_eq_some_iff.mp H
  obtain ⟨out, A2_, H⟩ := H
  replace H := Option.bind_eq_some_iff.mp H
  obtain ⟨m, A3_, H⟩ := H
  have A2 := Aside0.mk A2_
  have A3 := Aside0.mk A3_
  have HE := Aside0.mk (pdom_ends.len A2_)
  have HM := Aside0.mk ((pdom_back.len A3_).trans (pdom_ends.len A2_))
  clear A2_ A3_
  have H' := Aside0.mk H
  clear H
  go_wp2_with (first
   | (go_at_call 24; (with_reducible refine (graph_May.calls k _ _ l0_0 _ _ l0_1 true _ ?side1 ?side2 ?side3 ?side4 A1.out).mono ?_); (case side1 => exact Kd.C_below HR0_0.out (B_)); (case side2 => exact HC0_0.out); (case side3 => exact Kd.C_below HR0_1.out (B_)); (case side4 => exact HC0_1.out); rintro e w3 ⟨rfl, hb⟩; clear hcz1_0 hcz1_1 hfz1_0 hfz1_1; have n0_ := Aside0.mk (blk_below (g := g1) (o := (.cells #[.slice A0_0 l0_0.length c0_0, .slice A0_1 l0_1.length c0_1] 26 (0, 0))) (by exact KX_ BK1.out) hb); have n1_ := Aside0.mk (blk_below (g := g2) (o := (.cells #[.slice none 0 0, .slice none 0 0] 26 (0, 0))) (by exact KX_ BK2.out) hb); have nb_ := Aside0.mk (below_step (B_) hb); clear BK1 BK2 HB; have BK1 := n0_; have BK2 := n1_; have HB := nb_; clear n0_ n1_ nb_ hb; have hcz1_0 : w3.cell? ⟨g1, 0, none⟩ = some (.slice A0_0 l0_0.length c0_0) := (blk_cell BK1.out 0).trans rfl; have hcz1_1 : w3.cell? ⟨g1, 1, none⟩ = some (.slice A0_1 l0_1.length c0_1) := (blk_cell BK1.out 1).trans rfl; have hfz1_0 := blk_frozen BK1.out 0; have hfz1_1 := blk_frozen BK1.out 1)
   | (go_at_call 25; (with_reducible refine (pdom_ends.calls k _ _ l0_0 _ _ l0_1 out _ ?side1 ?side2 A2.out).mono ?_); (case side1 => exact Kd.C_below HR0_0.out (B_)); (case side2 => exact HC0_0.out); rintro e w4 ⟨rfl, hb⟩; clear hcz1_0 hcz1_1 hfz1_0 hfz1_1; have n0_ := Aside0.mk (blk_below (g := g1) (o := (.cells #[.slice A0_0 l0_0.length c0_0, .slice A0_1 l0_1.length c0_1] 26 (0, 0))) (by exact KX_ BK1.out) hb); have n1_ := Aside0.mk (blk_below (g := g2) (o := (.cells #[.slice none 0 0, .slice none 0 0] 26 (0, 0))) (by exact KX_ BK2.out) hb); have nb_ := Aside0.mk (below_step (B_) hb); clear BK1 BK2 HB; have BK1 := n0_; have BK2 := n1_; have HB := nb_; clear n0_ n1_ nb_ hb; have hcz1_0 : w4.cell? ⟨g1, 0, none⟩ = some (.slice A0_0 l0_0.length c0_0) := (blk_cell BK1.out 0).trans rfl; have hcz1_1 : w4.cell? ⟨g1, 1, none⟩ = some (.slice A0_1 l0_1.length c0_1) := (blk_cell BK1.out 1).trans rfl; have hfz1_0 := blk_frozen BK1.out 0; have hfz1_1 := blk_frozen BK1.out 1)
   | ((with_reducible refine gate_dst (N := 5) rfl ?_); refine box_event ?hg (N := 5) ?hd (cs := AV (List.replicate 64 false)) (t := 47) ?hr ?_; (case hd => rfl); (case hg => rfl); (case hr => first | (go_simp; done) | (go_simp; rfl) | (go_simp; kernel_rfl)); intro g5 hg w5 hbox hb; clear hcz1_0 hcz1_1 hfz1_0 hfz1_1; have n0_ := Aside0.mk (blk_below (g := g1) (o := (.cells #[.slice A0_0 l0_0.length c0_0, .slice A0_1 l0_1.length c0_1] 26 (0, 0))) (by exact KX_ BK1.out) hb); have n1_ := Aside0.mk (blk_below (g := g2) (o := (.cells #[.slice none 0 0, .slice none 0 0] 26 (0, 0))) (by exact KX_ BK2.out) hb); have nb_ := Aside0.mk (below_step (B_) hb); have nn_ := Aside0.mk hbox; have GE5 := Aside0.mk ((by rw [hg]; exact (below_size (B_)) : w.heap.size ≤ g5)); have NB1_5 := Aside0.mk ((by rw [hg]; exact Nat.ne_of_lt (blk_lt BK1.out) : g1 ≠ g5)); have NB2_5 := Aside0.mk ((by rw [hg]; exact Nat.ne_of_lt (blk_lt BK2.out) : g2 ≠ g5)); clear BK1 BK2 HB; have BK1 := n0_; have BK2 := n1_; have HB := nb_; have BK5 := nn_; clear n0_ n1_ nb_ nn_ hb hbox hg; have hcz1_0 : w5.cell? ⟨g1, 0, none⟩ = some (.slice A0_0 l0_0.length c0_0) := (blk_cell BK1.out 0).trans rfl; have hcz1_1 : w5.cell? ⟨g1, 1, none⟩ = some (.slice A0_1 l0_1.length c0_1) := (blk_cell BK1.out 1).trans rfl; have hfz1_0 := blk_frozen BK1.out 0; have hfz1_1 := blk_frozen BK1.out 1)
   | ((with_reducible refine gate_store (t := 47) (p := 5) rfl ?_); refine av_store (g := g5) (l' := out) rfl 47 _ _ rfl rfl ?hx ?hy BK5.out ?hi ?hl ?_; (case hx => first | (go_simp; done) | (go_simp; rfl)); (case hy => first | (go_simp; done) | (go_simp; rfl)); (case hi => rw [HE.out]; kernel_rfl); (case hl => rw [HE.out]; simp); intro w6 hw; clear hcz1_0 hcz1_1 hfz1_0 hfz1_1; have nn_ := Aside0.mk (by rw [hw]; exact av_stored BK5.out : w6.heap[g5]? = some (.cells (AV out) 47 (0, 0))); have nb_ := Aside0.mk ((by rw [hw]; exact below_setRow (B_) GE5.out _ : Below w.heap.size w w6)); have n0_ := Aside0.mk (by rw [hw]; exact blk_row (by exact KX_ BK1.out) NB1_5.out _ : w6.heap[g1]? = some (.cells #[.slice A0_0 l0_0.length c0_0, .slice A0_1 l0_1.length c0_1] 26 (0, 0))); have n1_ := Aside0.mk (by rw [hw]; exact blk_row (by exact KX_ BK2.out) NB2_5.out _ : w6.heap[g2]? = some (.cells #[.slice none 0 0, .slice none 0 0] 26 (0, 0))); clear BK5 BK1 BK2 HB; have BK1 := n0_; have BK2 := n1_; have HB := nb_; have BK5 := nn_; clear n0_ n1_ nb_ nn_ hw; have hcz1_0 : w6.cell? ⟨g1, 0, none⟩ = some (.slice A0_0 l0_0.length c0_0) := (blk_cell BK1.out 0).trans rfl; have hcz1_1 : w6.cell? ⟨g1, 1, none⟩ = some (.slice A0_1 l0_1.length c0_1) := (blk_cell BK1.out 1).trans rfl; have hfz1_0 := blk_frozen BK1.out 0; have hfz1_1 := blk_frozen BK1.out 1)
   | ((with_reducible refine gate_dst (N := 25) rfl ?_); refine av_load (g := g5) rfl 47 _ rfl ?hx BK5.out Try.underlying47 ?hi ?_; (case hx => first | (go_simp; done) | (go_simp; rfl)); (case hi => rw [HE.out]; kernel_rfl))
   | (go_at_call 26; (with_reducible refine (pdom_back.calls k _ _ l0_0 _ _ l0_1 out m _ ?side1 ?side2 ?side3 A3.out).mono ?_); (case side1 => exact Kd.C_below HR0_1.out (B_)); (case side2 => exact HC0_1.out); (case side3 => exact HE.out); rintro e w7 ⟨rfl, hb⟩; clear hcz1_0 hcz1_1 hfz1_0 hfz1_1; have n0_ := Aside0.mk (blk_below (g := g1) (o := (.cells #[.slice A0_0 l0_0.length c0_0, .slice A0_1 l0_1.length c0_1] 26 (0, 0))) (by exact KX_ BK1.out) hb); have n1_ := Aside0.mk (blk_below (g := g2) (o := (.cells #[.slice none 0 0, .slice none 0 0] 26 (0, 0))) (by exact KX_ BK2.out) hb); have n2_ := Aside0.mk (blk_below (g := g5) (o := (.cells (AV out) 47 (0, 0))) (by exact KX_ BK5.out) hb); have nb_ := Aside0.mk (below_step (B_) hb); clear BK1 BK2 BK5 HB; have BK1 := n0_; have BK2 := n1_; have BK5 := n2_; have HB := nb_; clear n0_ n1_ n2_ nb_ hb; have hcz1_0 : w7.cell? ⟨g1, 0, none⟩ = some (.slice A0_0 l0_0.length c0_0) := (blk_cell BK1.out 0).trans rfl; have hcz1_1 : w7.cell? ⟨g1, 1, none⟩ = some (.slice A0_1 l0_1.length c0_1) := (blk_cell BK1.out 1).trans rfl; have hfz1_0 := blk_frozen BK1.out 0; have hfz1_1 := blk_frozen BK1.out 1)
   | ((with_reducible refine gate_dst (N := 6) rfl ?_); refine box_event ?hg (N := 6) ?hd (cs := AV (List.replicate 64 false)) (t := 47) ?hr ?_; (case hd => rfl); (case hg => rfl); (case hr => first | (go_simp; done) | (go_simp; rfl) | (go_simp; kernel_rfl)); intro g6 hg w8 hbox hb; clear hcz1_0 hcz1_1 hfz1_0 hfz1_1; have n0_ := Aside0.mk (blk_below (g := g1) (o := (.cells #[.slice A0_0 l0_0.length c0_0, .slice A0_1 l0_1.length c0_1] 26 (0, 0))) (by exact KX_ BK1.out) hb); have n1_ := Aside0.mk (blk_below (g := g2) (o := (.cells #[.slice none 0 0, .slice none 0 0] 26 (0, 0))) (by exact KX_ BK2.out) hb); have n2_ := Aside0.mk (blk_below (g := g5) (o := (.cells (AV out) 47 (0, 0))) (by exact KX_ BK5.out) hb); have nb_ := Aside0.mk (below_step (B_) hb); have nn_ := Aside0.mk hbox; have GE6 := Aside0.mk ((by rw [hg]; exact (below_size (B_)) : w.heap.size ≤ g6)); have NB1_6 := Aside0.mk ((by rw [hg]; exact Nat.ne_of_lt (blk_lt BK1.out) : g1 ≠ g6)); have NB2_6 := Aside0.mk ((by rw [hg]; exact Nat.ne_of_lt (blk_lt BK2.out) : g2 ≠ g6)); have NB5_6 := Aside0.mk ((by rw [hg]; exact Nat.ne_of_lt (blk_lt BK5.out) : g5 ≠ g6)); clear BK1 BK2 BK5 HB; have BK1 := n0_; have BK2 := n1_; have BK5 := n2_; have HB := nb_; have BK6 := nn_; clear n0_ n1_ n2_ nb_ nn_ hb hbox hg; have hcz1_0 : w8.cell? ⟨g1, 0, none⟩ = some (.slice A0_0 l0_0.length c0_0) := (blk_cell BK1.out 0).trans rfl; have hcz1_1 : w8.cell? ⟨g1, 1, none⟩ = some (.slice A0_1 l0_1.length c0_1) := (blk_cell BK1.out 1).trans rfl; have hfz1_0 := blk_frozen BK1.out 0; have hfz1_1 := blk_frozen BK1.out 1)
   | ((with_reducible refine gate_store (t := 47) (p := 6) rfl ?_); refine av_store (g := g6) (l' := m) rfl 47 _ _ rfl rfl ?hx ?hy BK6.out ?hi ?hl ?_; (case hx => first | (go_simp; done) | (go_simp; rfl)); (case hy => first | (go_simp; done) | (go_simp; rfl)); (case hi => rw [HM.out]; kernel_rfl); (case hl => rw [HM.out]; simp); intro w9 hw; clear hcz1_0 hcz1_1 hfz1_0 hfz1_1; have nn_ := Aside0.mk (by rw [hw]; exact av_stored BK6.out : w9.heap[g6]? = some (.cells (AV m) 47 (0, 0))); have nb_ := Aside0.mk ((by rw [hw]; exact below_setRow (B_) GE6.out _ : Below w.heap.size w w9)); have n0_ := Aside0.mk (by rw [hw]; exact blk_row (by exact KX_ BK1.out) NB1_6.out _ : w9.heap[g1]? = some (.cells #[.slice A0_0 l0_0.length c0_0, .slice A0_1 l0_1.length c0_1] 26 (0, 0))); have n1_ := Aside0.mk (by rw [hw]; exact blk_row (by exact KX_ BK2.out) NB2_6.out _ : w9.heap[g2]? = some (.cells #[.slice none 0 0, .slice none 0 0] 26 (0, 0))); have n2_ := Aside0.mk (by rw [hw]; exact blk_row (by exact KX_ BK5.out) NB5_6.out _ : w9.heap[g5]? = some (.cells (AV out) 47 (0, 0))); clear BK6 BK1 BK2 BK5 HB; have BK1 := n0_; have BK2 := n1_; have BK5 := n2_; have HB := nb_; have BK6 := nn_; clear n0_ n1_ n2_ nb_ nn_ hw; have hcz1_0 : w9.cell? ⟨g1, 0, none⟩ = some (.slice A0_0 l0_0.length c0_0) := (blk_cell BK1.out 0).trans rfl; have hcz1_1 : w9.cell? ⟨g1, 1, none⟩ = some (.slice A0_1 l0_1.length c0_1) := (blk_cell BK1.out 1).trans rfl; have hfz1_0 := blk_frozen BK1.out 0; have hfz1_1 := blk_frozen BK1.out 1))
  (try simp only [Act.put, List.setIfInBounds_toArray, List.set_cons_zero, List.set_cons_succ])
  go_step3
  go_step
  try go_step
  apply lab_ghost_at (l := 0) (I := fun (a0_ : Act) (kq_ : Nat) (a_ : Act) (w_ : World) => ∃ u3 u7 u8 u9 u10 u27 u28 u29 u30 u31 u32 u33 u34 u35 u36 u37 u38 u39 u40 u41 u42 u43 u44 u45 u46 u47 u48 u49 u50 u51 u52 u53 u54 u55 u56 u57 u58 u59 u60 u61 u62 u63 u64 u65 u66 u67 u68 u69 u70 u71 u72 u73 u74 u75 u76 u77 : Value, ((fun kq w' => ∃ (out m : List Bool), Aside0 (pdom_Exit.l0 kq l0_0 l0_1 out m = some (r1, r2, r3)) ∧ Aside0 (kq ≤ k) ∧ Aside0 (out.length = 64) ∧ Aside0 (m.length = 64) ∧ Aside0 (w'.heap[g1]? = some (.cells #[.slice A0_0 l0_0.length c0_0, .slice A0_1 l0_1.length c0_1] 26 (0, 0))) ∧ Aside0 (w'.heap[g2]? = some (.cells #[.slice none 0 0, .slice none 0 0] 26 (0, 0))) ∧ Aside0 (w'.heap[g5]? = some (.cells (AV out) 47 (0, 0))) ∧ Aside0 (w'.heap[g6]? = some (.cells (AV m) 47 (0, 0))) ∧ Aside0 (Below w.heap.size w w')) kq_ w_) ∧ a_ = { tmps := ((((((((((((((((((((((((((((((((((((((((((((((((((((((((a0_.tmps.setIfInBounds 3 u3).setIfInBounds 7 u7).setIfInBounds 8 u8).setIfInBounds 9 u9).setIfInBounds 10 u10).setIfInBounds 27 u27).setIfInBounds 28 u28).setIfInBounds 29 u29).setIfInBounds 30 u30).setIfInBounds 31 u31).setIfInBounds 32 u32).setIfInBounds 33 u33).setIfInBounds 34 u34).setIfInBounds 35 u35).setIfInBounds 36 u36).setIfInBounds 37 u37).setIfInBounds 38 u38).setIfInBounds 39 u39).setIfInBounds 40 u40).setIfInBounds 41 u41).setIfInBounds 42 u42).setIfInBounds 43 u43).setIfInBounds 44 u44).setIfInBounds 45 u45).setIfInBounds 46 u46).setIfInBounds 47 u47).setIfInBounds 48 u48).setIfInBounds 49 u49).setIfInBounds 50 u50).setIfInBounds 51 u51).setIfInBounds 52 u52).setIfInBounds 53 u53).setIfInBounds 54 u54).setIfInBounds 55 u55).setIfInBounds 56 u56).setIfInBounds 57 u57).setIfInBounds 58 u58).setIfInBounds 59 u59).setIfInBounds 60 u60).setIfInBounds 61 u61).setIfInBounds 62 u62).setIfInBounds 63 u63).setIfInBounds 64 u64).setIfInBounds 65 u65).setIfInBounds 66 u66).setIfInBounds 67 u67).setIfInBounds 68 u68).setIfInBounds 69 u69).setIfInBounds 70 u70).setIfInBounds 71 u71).setIfInBounds 72 u72).setIfInBounds 73 u73).setIfInBounds 74 u74).setIfInBounds 75 u75).setIfInBounds 76 u76).setIfInBounds 77 u77), defers := a0_.defers }) (n₀ := k); (case hf => rfl)
  case h₀ =>
   (repeat apply Exists.intro)
   refine ⟨?_, ?hfr⟩
   (case hfr => (try simp only [List.setIfInBounds_toArray, List.set_cons_zero, List.set_cons_succ]); rfl)
   exact ⟨out, m, H', ⟨Nat.le_refl _⟩, HE, HM, ⟨KX_ BK1.out⟩, ⟨KX_ BK2.out⟩, ⟨KX_ BK5.out⟩, ⟨KX_ BK6.out⟩, ⟨B_⟩⟩
  intro gk _ wr hinv
  obtain ⟨u3, hinv⟩ := hinv
  obtain ⟨u7, hinv⟩ := hinv
  obtain ⟨u8, hinv⟩ := hinv
  obtain ⟨u9, hinv⟩ := hinv
  obtain ⟨u10, hinv⟩ := hinv
  obtain ⟨u27, hinv⟩ := hinv
  obtain ⟨u28, hinv⟩ := hinv
  obtain ⟨u29, hinv⟩ := hinv
  obtain ⟨u30, hinv⟩ := hinv
  obtain ⟨u31, hinv⟩ := hinv
  obtain ⟨u32, hinv⟩ := hinv
  obtain ⟨u33, hinv⟩ := hinv
  obtain ⟨u34, hinv⟩ := hinv
  obtain ⟨u35, hinv⟩ := hinv
  obtain ⟨u36, hinv⟩ := hinv
  obtain ⟨u37, hinv⟩ := hinv
  obtain ⟨u38, hinv⟩ := hinv
  obtain ⟨u39, hinv⟩ := hinv
  obtain ⟨u40, hinv⟩ := hinv
  obtain ⟨u41, hinv⟩ := hinv
  obtain ⟨u42, hinv⟩ := hinv
  obtain ⟨u43, hinv⟩ := hinv
  obtain ⟨u44, hinv⟩ := hinv
  obtain ⟨u45, hinv⟩ := hinv
  obtain ⟨u46, hinv⟩ := hinv
  obtain ⟨u47, hinv⟩ := hinv
  obtain ⟨u48, hinv⟩ := hinv
  obtain ⟨u49, hinv⟩ := hinv
  obtain ⟨u50, hinv⟩ := hinv
  obtain ⟨u51, hinv⟩ := hinv
  obtain ⟨u52, hinv⟩ := hinv
  obtain ⟨u53, hinv⟩ := hinv
  obtain ⟨u54, hinv⟩ := hinv
  obtain ⟨u55, hinv⟩ := hinv
  obtain ⟨u56, hinv⟩ := hinv
  obtain ⟨u57, hinv⟩ := hinv
  obtain ⟨u58, hinv⟩ := hinv
  obtain ⟨u59, hinv⟩ := hinv
  obtain ⟨u60, hinv⟩ := hinv
  obtain ⟨u61, hinv⟩ := hinv
  obtain ⟨u62, hinv⟩ := hinv
  obtain ⟨u63, hinv⟩ := hinv
  obtain ⟨u64, hinv⟩ := hinv
  obtain ⟨u65, hinv⟩ := hinv
  obtain ⟨u66, hinv⟩ := hinv
  obtain ⟨u67, hinv⟩ := hinv
  obtain ⟨u68, hinv⟩ := hinv
  obtain ⟨u69, hinv⟩ := hinv
  obtain ⟨u70, hinv⟩ := hinv
  obtain ⟨u71, hinv⟩ := hinv
  obtain ⟨u72, hinv⟩ := hinv
  obtain ⟨u73, hinv⟩ := hinv
  obtain ⟨u74, hinv⟩ := hinv
  obtain ⟨u75, hinv⟩ := hinv
  obtain ⟨u76, hinv⟩ := hinv
  obtain ⟨u77, hinv⟩ := hinv
  obtain ⟨hrel, ha⟩ := hinv; subst ha
  intro _ _ hJ_ hK_
  (try simp only [List.setIfInBounds_toArray, List.set_cons_zero, List.set_cons_succ])
  (try simp only [List.setIfInBounds_toArray, List.set_cons_zero, List.set_cons_succ] at hJ_)
  clear H' BK1 BK2 BK5 BK6 HB HE HM A2 A3 hcz1_0 hcz1_1 hfz1_0 hfz1_1
  obtain ⟨out, m, HA, HK1, HE, HM, BK1, BK2, BK5, BK6, HB⟩ := hrel
  cases gk with
  | zero => exact absurd HA.out (by simp [pdom_Exit.l0])
  | succ k1 =>
   have H := HA.out
   clear HA
   simp only [pdom_Exit.l0] at H
   replace H := Option.bind_eq_some_iff.mp H
   obtain ⟨i, A4_, H⟩ := H
   have A4 := Aside0.mk A4_
   clear A4_
   have hcz1_0 : wr.cell? ⟨g1, 0, none⟩ = some (.slice A0_0 l0_0.length c0_0) := (blk_cell BK1.out 0).trans rfl
   have hcz1_1 : wr.cell? ⟨g1, 1, none⟩ = some (.slice A0_1 l0_1.length c0_1) := (blk_cell BK1.out 1).trans rfl
   have hfz1_0 := blk_frozen BK1.out 0
   have hfz1_1 := blk_frozen BK1.out 1
   by_cases c9 : i < (l0_0.length : Int)
   ·rw [if_pos c9] at H
    have c9b0 : decide (i < (l0_0.length : Int)) = true := decide_eq_true c9
    clear c9
    by_cases c10 : 0 ≤ i
    ·rw [if_pos c10] at H
     by_cases c11 : i < 64
     ·rw [if_pos c11] at H
      replace H := Option.bind_eq_some_iff.mp H
      obtain ⟨m2, A5_, H⟩ := H
      have A5 := Aside0.mk A5_
      have HM2 := Aside0.mk ((pdom_back.len A5_).trans (by simp [HM.out] : (m.set i.toNat true).length = 64))
      clear A5_
      have H' := Aside0.mk H
      clear H
      have C10 := Aside0.mk c10
      have C11 := Aside0.mk c11
      have p10 := eq_true c10
      have p11 : (i < (64 : Int)) = True := eq_true c11
      clear c10 c11
      go_wp2_with (first
       | ((with_reducible refine gate_dst (N := 28) rfl ?_); refine av_load (g := g6) rfl 47 _ rfl ?hx BK6.out Try.underlying47 ?hi ?_; (case hx => first | (go_simp; done) | (go_simp; rfl)); (case hi => rw [HM.out]; kernel_rfl))
       | (go_at_call 27; (with_reducible refine (pdom_missing.calls k1 _ _ l0_0 _ _ l0_1 m i _ ?side1 A4.out).mono ?_); (case side1 => exact HM.out); rintro e w3 ⟨rfl, hb⟩; clear hcz1_0 hcz1_1 hfz1_0 hfz1_1; have n0_ := Aside0.mk (blk_below (g := g1) (o := (.cells #[.slice A0_0 l0_0.length c0_0, .slice A0_1 l0_1.length c0_1] 26 (0, 0))) (by exact KX_ BK1.out) hb); have n1_ := Aside0.mk (blk_below (g := g2) (o := (.cells #[.slice none 0 0, .slice none 0 0] 26 (0, 0))) (by exact KX_ BK2.out) hb); have n2_ := Aside0.mk (blk_below (g := g5) (o := (.cells (AV out) 47 (0, 0))) (by exact KX_ BK5.out) hb); have n3_ := Aside0.mk (blk_below (g := g6) (o := (.cells (AV m) 47 (0, 0))) (by exact KX_ BK6.out) hb); have nb_ := Aside0.mk (below_step (B_) hb); clear BK1 BK2 BK5 BK6 HB; have BK1 := n0_; have BK2 := n1_; have BK5 := n2_; have BK6 := n3_; have HB := nb_; clear n0_ n1_ n2_ n3_ nb_ hb; have hcz1_0 : w3.cell? ⟨g1, 0, none⟩ = some (.slice A0_0 l0_0.length c0_0) := (blk_cell BK1.out 0).trans rfl; have hcz1_1 : w3.cell? ⟨g1, 1, none⟩ = some (.slice A0_1 l0_1.length c0_1) := (blk_cell BK1.out 1).trans rfl; have hfz1_0 := blk_frozen BK1.out 0; have hfz1_1 := blk_frozen BK1.out 1; have hq5_ := av_cell BK5.out i (by rw [HE.out]; exact C11.out) C10.out; have hg5_ := blk_frozen BK5.out i.toNat)
       | ((with_reducible refine gate_store (t := 4) (p := 35) rfl ?_); refine store_event (t := 4) (p := 35) (v := ?vo) (w1 := (w3.setCell ⟨g5, i.toNat, none⟩ (.bool true))) ?hg ?ho ?hn ?hr ?_; (case ho => rfl); (case hg => rfl); (case hn => rfl); (case hr => first | (go_simp; done) | (go_simp; rfl)); intro w4 hw; clear hcz1_0 hcz1_1 hfz1_0 hfz1_1; have nn_ := Aside0.mk (by rw [hw]; exact av_put BK5.out i true : w4.heap[g5]? = some (.cells (AV (out.set i.toNat true)) 47 (0, 0))); have nb_ := Aside0.mk ((by rw [hw]; exact below_set (B_) GE5.out : Below w.heap.size w w4)); have n0_ := Aside0.mk (by rw [hw]; exact blk_far (by exact KX_ BK1.out) NB1_5.out _ : w4.heap[g1]? = some (.cells #[.slice A0_0 l0_0.length c0_0, .slice A0_1 l0_1.length c0_1] 26 (0, 0))); have n1_ := Aside0.mk (by rw [hw]; exact blk_far (by exact KX_ BK2.out) NB2_5.out _ : w4.heap[g2]? = some (.cells #[.slice none 0 0, .slice none 0 0] 26 (0, 0))); have n2_ := Aside0.mk (by rw [hw]; exact blk_far (by exact KX_ BK6.out) (Ne.symm NB5_6.out) _ : w4.heap[g6]? = some (.cells (AV m) 47 (0, 0))); clear BK5 BK1 BK2 BK6 HB; have BK1 := n0_; have BK2 := n1_; have BK6 := n2_; have HB := nb_; have BK5 := nn_; clear n0_ n1_ n2_ nb_ nn_ hw; (try (have hq6_ := av_cell BK6.out i (by rw [HM.out]; exact C11.out) C10.out)); (try (have hg6_ := blk_frozen BK6.out i.toNat)); have hcz1_0 : w4.cell? ⟨g1, 0, none⟩ = some (.slice A0_0 l0_0.length c0_0) := (blk_cell BK1.out 0).trans rfl; have hcz1_1 : w4.cell? ⟨g1, 1, none⟩ = some (.slice A0_1 l0_1.length c0_1) := (blk_cell BK1.out 1).trans rfl; have hfz1_0 := blk_frozen BK1.out 0; have hfz1_1 := blk_frozen BK1.out 1)
       | ((with_reducible refine gate_store (t := 4) (p := 36) rfl ?_); refine store_event (t := 4) (p := 36) (v := ?vo) (w1 := (w4.setCell ⟨g6, i.toNat, none⟩ (.bool true))) ?hg ?ho ?hn ?hr ?_; (case ho => rfl); (case hg => rfl); (case hn => rfl); (case hr => first | (go_simp; done) | (go_simp; rfl)); intro w5 hw; clear hcz1_0 hcz1_1 hfz1_0 hfz1_1; have nn_ := Aside0.mk (by rw [hw]; exact av_put BK6.out i true : w5.heap[g6]? = some (.cells (AV (m.set i.toNat true)) 47 (0, 0))); have nb_ := Aside0.mk ((by rw [hw]; exact below_set (B_) GE6.out : Below w.heap.size w w5)); have n0_ := Aside0.mk (by rw [hw]; exact blk_far (by exact KX_ BK1.out) NB1_6.out _ : w5.heap[g1]? = some (.cells #[.slice A0_0 l0_0.length c0_0, .slice A0_1 l0_1.length c0_1] 26 (0, 0))); have n1_ := Aside0.mk (by rw [hw]; exact blk_far (by exact KX_ BK2.out) NB2_6.out _ : w5.heap[g2]? = some (.cells #[.slice none 0 0, .slice none 0 0] 26 (0, 0))); have n2_ := Aside0.mk (by rw [hw]; exact blk_far (by exact KX_ BK5.out) NB5_6.out _ : w5.heap[g5]? = some (.cells (AV (out.set i.toNat true)) 47 (0, 0))); clear BK6 BK1 BK2 BK5 HB; have BK1 := n0_; have BK2 := n1_; have BK5 := n2_; have HB := nb_; have BK6 := nn_; clear n0_ n1_ n2_ nb_ nn_ hw; (try (have hq6_ := av_cell BK6.out i (by rw [HM.out]; exact C11.out) C10.out)); (try (have hg6_ := blk_frozen BK6.out i.toNat)); have hcz1_0 : w5.cell? ⟨g1, 0, none⟩ = some (.slice A0_0 l0_0.length c0_0) := (blk_cell BK1.out 0).trans rfl; have hcz1_1 : w5.cell? ⟨g1, 1, none⟩ = some (.slice A0_1 l0_1.length c0_1) := (blk_cell BK1.out 1).trans rfl; have hfz1_0 := blk_frozen BK1.out 0; have hfz1_1 := blk_frozen BK1.out 1)
       | ((with_reducible refine gate_dst (N := 38) rfl ?_); refine av_load (g := g6) rfl 47 _ rfl ?hx BK6.out Try.underlying47 ?hi ?_; (case hx => first | (go_simp; done) | (go_simp; rfl)); (case hi => rw [(show (m.set i.toNat true).length = 64 by simp [HM.out])]; kernel_rfl))
       | (go_at_call 26; (with_reducible refine (pdom_back.calls k1 _ _ l0_0 _ _ l0_1 (m.set i.toNat true) m2 _ ?side1 ?side2 ?side3 A5.out).mono ?_); (case side1 => exact Kd.C_below HR0_1.out (B_)); (case side2 => exact HC0_1.out); (case side3 => exact (by simp [HM.out])); rintro e w6 ⟨rfl, hb⟩; clear hcz1_0 hcz1_1 hfz1_0 hfz1_1; have n0_ := Aside0.mk (blk_below (g := g1) (o := (.cells #[.slice A0_0 l0_0.length c0_0, .slice A0_1 l0_1.length c0_1] 26 (0, 0))) (by exact KX_ BK1.out) hb); have n1_ := Aside0.mk (blk_below (g := g2) (o := (.cells #[.slice none 0 0, .slice none 0 0] 26 (0, 0))) (by exact KX_ BK2.out) hb); have n2_ := Aside0.mk (blk_below (g := g5) (o := (.cells (AV (out.set i.toNat true)) 47 (0, 0))) (by exact KX_ BK5.out) hb); have n3_ := Aside0.mk (blk_below (g := g6) (o := (.cells (AV (m.set i.toNat true)) 47 (0, 0))) (by exact KX_ BK6.out) hb); have nb_ := Aside0.mk (below_step (B_) hb); clear BK1 BK2 BK5 BK6 HB; have BK1 := n0_; have BK2 := n1_; have BK5 := n2_; have BK6 := n3_; have HB := nb_; clear n0_ n1_ n2_ n3_ nb_ hb; have hcz1_0 : w6.cell? ⟨g1, 0, none⟩ = some (.slice A0_0 l0_0.length c0_0) := (blk_cell BK1.out 0).trans rfl; have hcz1_1 : w6.cell? ⟨g1, 1, none⟩ = some (.slice A0_1 l0_1.length c0_1) := (blk_cell BK1.out 1).trans rfl; have hfz1_0 := blk_frozen BK1.out 0; have hfz1_1 := blk_frozen BK1.out 1)
       | ((with_reducible refine gate_store (t := 47) (p := 6) rfl ?_); refine av_store (g := g6) (l' := m2) rfl 47 _ _ rfl rfl ?hx ?hy BK6.out ?hi ?hl ?_; (case hx => first | (go_simp; done) | (go_simp; rfl)); (case hy => first | (go_simp; done) | (go_simp; rfl)); (case hi => rw [HM2.out]; kernel_rfl); (case hl => rw [HM2.out]; simp [HM.out]); intro w7 hw; clear hcz1_0 hcz1_1 hfz1_0 hfz1_1; have nn_ := Aside0.mk (by rw [hw]; exact av_stored BK6.out : w7.heap[g6]? = some (.cells (AV m2) 47 (0, 0))); have nb_ := Aside0.mk ((by rw [hw]; exact below_setRow (B_) GE6.out _ : Below w.heap.size w w7)); have n0_ := Aside0.mk (by rw [hw]; exact blk_row (by exact KX_ BK1.out) NB1_6.out _ : w7.heap[g1]? = some (.cells #[.slice A0_0 l0_0.length c0_0, .slice A0_1 l0_1.length c0_1] 26 (0, 0))); have n1_ := Aside0.mk (by rw [hw]; exact blk_row (by exact KX_ BK2.out) NB2_6.out _ : w7.heap[g2]? = some (.cells #[.slice none 0 0, .slice none 0 0] 26 (0, 0))); have n2_ := Aside0.mk (by rw [hw]; exact blk_row (by exact KX_ BK5.out) NB5_6.out _ : w7.heap[g5]? = some (.cells (AV (out.set i.toNat true)) 47 (0, 0))); clear BK6 BK1 BK2 BK5 HB; have BK1 := n0_; have BK2 := n1_; have BK5 := n2_; have HB := nb_; have BK6 := nn_; clear n0_ n1_ n2_ nb_ nn_ hw; have hcz1_0 : w7.cell? ⟨g1, 0, none⟩ = some (.slice A0_0 l0_0.length c0_0) := (blk_cell BK1.out 0).trans rfl; have hcz1_1 : w7.cell? ⟨g1, 1, none⟩ = some (.slice A0_1 l0_1.length c0_1) := (blk_cell BK1.out 1).trans rfl; have hfz1_0 := blk_frozen BK1.out 0; have hfz1_1 := blk_frozen BK1.out 1))
      go_step3
      try simp only [jumpg_goto, Exit.then, Exit.inBlock]
      go_step
      go_roundg k1
      case measure => have := HK1.out; omega
      case rel => exact ⟨_, _, H', ⟨by have := HK1.out; omega⟩, ⟨by simp [HE.out]⟩, HM2, ⟨KX_ BK1.out⟩, ⟨KX_ BK2.out⟩, ⟨KX_ BK5.out⟩, ⟨KX_ BK6.out⟩, ⟨B_⟩⟩
     rw [if_neg c11] at H
     exact absurd H (by simp)
    rw [if_neg c10] at H
    exact absurd H (by simp)
   rw [if_neg c9] at H
   have c9b0 : decide (i < (l0_0.length : Int)) = false := decide_eq_false c9
   clear c9
   obtain ⟨ji, hji⟩ : ∃ j_ : Int, (wrap64 ((l0_0.length : Int) + 1)) = j_ := ⟨_, rfl⟩
   rw [hji] at H
   have hjiw : (IntKind.i64.wrap ((l0_0.length : Int) + 1)) = ji := (i64_w _).trans hji
   by_cases c12 : 0 ≤ ji
   ·rw [if_pos c12] at H
    by_cases c13 : ji.toNat ≤ 11728124029610
    ·rw [if_pos c13] at H
     have H' := Aside0.mk H
     clear H
     go_wp2_with (first
      | ((with_reducible refine gate_dst (N := 28) rfl ?_); refine av_load (g := g6) rfl 47 _ rfl ?hx BK6.out Try.underlying47 ?hi ?_; (case hx => first | (go_simp; done) | (go_simp; rfl)); (case hi => rw [HM.out]; kernel_rfl))
      | (go_at_call 27; (with_reducible refine (pdom_missing.calls k1 _ _ l0_0 _ _ l0_1 m i _ ?side1 A4.out).mono ?_); (case side1 => exact HM.out); rintro e w3 ⟨rfl, hb⟩; clear hcz1_0 hcz1_1 hfz1_0 hfz1_1; have n0_ := Aside0.mk (blk_below (g := g1) (o := (.cells #[.slice A0_0 l0_0.length c0_0, .slice A0_1 l0_1.length c0_1] 26 (0, 0))) (by exact KX_ BK1.out) hb); have n1_ := Aside0.mk (blk_below (g := g2) (o := (.cells #[.slice none 0 0, .slice none 0 0] 26 (0, 0))) (by exact KX_ BK2.out) hb); have n2_ := Aside0.mk (blk_below (g := g5) (o := (.cells (AV out) 47 (0, 0))) (by exact KX_ BK5.out) hb); have n3_ := Aside0.mk (blk_below (g := g6) (o := (.cells (AV m) 47 (0, 0))) (by exact KX_ BK6.out) hb); have nb_ := Aside0.mk (below_step (B_) hb); clear BK1 BK2 BK5 BK6 HB; have BK1 := n0_; have BK2 := n1_; have BK5 := n2_; have BK6 := n3_; have HB := nb_; clear n0_ n1_ n2_ n3_ nb_ hb; have hcz1_0 : w3.cell? ⟨g1, 0, none⟩ = some (.slice A0_0 l0_0.length c0_0) := (blk_cell BK1.out 0).trans rfl; have hcz1_1 : w3.cell? ⟨g1, 1, none⟩ = some (.slice A0_1 l0_1.length c0_1) := (blk_cell BK1.out 1).trans rfl; have hfz1_0 := blk_frozen BK1.out 0; have hfz1_1 := blk_frozen BK1.out 1)
      | ((with_reducible refine gate_dst (N := 42) rfl ?_); refine Kd.S_make (Kd.slice 3 (Kd.int .i64)) _ 30 rfl (N := 42) rfl 22 _ _ rfl (ji : Int) rfl rfl Try.underlying22 (.slice none 0 0) 24 info30 rfl (by decide) (by omega) [] (ok := fun _ => True) (okp := fun _ => True) ⟨_, rfl, Kd.R_nil _ _ _ _ _⟩ (fun _ hk => hk) trivial c12 (Nat.le_trans (Nat.mul_le_mul_right _ c13) (by omega)) (Below.refl _ _) (Nat.le_refl _) ?_; intro v8 w4 ho hb hg_ hnew_; clear hg_ hnew_; have no_ := Aside0.mk (Kd.S_lower ho (below_size (B_))); clear ho; clear hcz1_0 hcz1_1 hfz1_0 hfz1_1; have n0_ := Aside0.mk (blk_below (g := g1) (o := (.cells #[.slice A0_0 l0_0.length c0_0, .slice A0_1 l0_1.length c0_1] 26 (0, 0))) (by exact KX_ BK1.out) hb); have n1_ := Aside0.mk (blk_below (g := g2) (o := (.cells #[.slice none 0 0, .slice none 0 0] 26 (0, 0))) (by exact KX_ BK2.out) hb); have n2_ := Aside0.mk (blk_below (g := g5) (o := (.cells (AV out) 47 (0, 0))) (by exact KX_ BK5.out) hb); have n3_ := Aside0.mk (blk_below (g := g6) (o := (.cells (AV m) 47 (0, 0))) (by exact KX_ BK6.out) hb); have nb_ := Aside0.mk (below_step (B_) hb); clear BK1 BK2 BK5 BK6 HB; have BK1 := n0_; have BK2 := n1_; have BK5 := n2_; have BK6 := n3_; have HB := nb_; clear n0_ n1_ n2_ n3_ nb_ hb; have hcz1_0 : w4.cell? ⟨g1, 0, none⟩ = some (.slice A0_0 l0_0.length c0_0) := (blk_cell BK1.out 0).trans rfl; have hcz1_1 : w4.cell? ⟨g1, 1, none⟩ = some (.slice A0_1 l0_1.length c0_1) := (blk_cell BK1.out 1).trans rfl; have hfz1_0 := blk_frozen BK1.out 0; have hfz1_1 := blk_frozen BK1.out 1; have HO8 := no_; clear no_))
     have LJ := Aside0.mk hji
     clear hji hjiw c12 c13
     go_loopg [46] k1 (fun kq v46 w' => ∃ (x : List (List Int)) (i : Int), v46 = .int .i64 i ∧ Aside0 (pdom_Exit.l1 kq l0_0 out x i = some (r1, r2, r3)) ∧ Aside0 (kq ≤ k1) ∧ Aside0 (Kd.S (Kd.slice 3 (Kd.int .i64)) 30 w' w.heap.size (fun _ => True) v8 x) ∧ Aside0 (w'.heap[g1]? = some (.cells #[.slice A0_0 l0_0.length c0_0, .slice A0_1 l0_1.length c0_1] 26 (0, 0))) ∧ Aside0 (w'.heap[g2]? = some (.cells #[.slice none 0 0, .slice none 0 0] 26 (0, 0))) ∧ Aside0 (w'.heap[g5]? = some (.cells (AV out) 47 (0, 0))) ∧ Aside0 (Below w.heap.size w w'))
     case atStart => exact ⟨_, 0, (by first | rfl | (simp; done) | (simp [*]; done)), H', ⟨Nat.le_refl _⟩, ⟨SX_ HO8.out⟩, ⟨KX_ BK1.out⟩, ⟨KX_ BK2.out⟩, ⟨KX_ BK5.out⟩, ⟨B_⟩⟩
     case round =>
      clear H' HO8 BK1 BK2 BK5 BK6 HB hcz1_0 hcz1_1 hfz1_0 hfz1_1 c9b0
      obtain ⟨x, i, rfl, HA, HK2, HO8, BK1, BK2, BK5, HB⟩ := hrel
      cases gk with
      | zero => exact absurd HA.out (by simp [pdom_Exit.l1])
      | succ k2 =>
       have H := HA.out
       clear HA
       simp only [pdom_Exit.l1] at H
       by_cases c19 : i < (l0_0.length : Int)
       ·rw [if_pos c19] at H
        have c19b0 : decide (i < (l0_0.length : Int)) = true := decide_eq_true c19
        by_cases c20 : 0 ≤ i
        ·rw [if_pos c20] at H
         by_cases c21 : i < (x.length : Int)
         ·rw [if_pos c21] at H
          by_cases c22 : i < 64
          ·rw [if_pos c22] at H
           by_cases c23 : (rd_L1 x i).length + (rd_L1 l0_0 i).length < 17592186044416
           ·rw [if_pos c23] at H
            have LM := Aside0.mk c23
            have C20 := Aside0.mk c20
            have C21 := Aside0.mk c21
            have C22 := Aside0.mk c22
            have p19 : (i < (l0_0.length : Int)) = True := eq_true c19
            have p20 := eq_true c20
            have p21 := eq_true c21
            have p22 : (i < (64 : Int)) = True := eq_true c22
            obtain ⟨ad1, A1_0, c1_0, e1, hx1_0, hl1_0, hi1_0⟩ := at_L1 HR0_0.out i c20 c19
            cases e1
            replace hx1_0 := (HB.out.cell (World.block_lt_of_cell? w _ hx1_0)).trans hx1_0
            have HR1 := Aside0.mk hi1_0
            have HC1 := Aside0.mk hl1_0
            clear hi1_0 hl1_0 c19 c20 c21 c22 c23
            obtain ⟨Ao1, co1, eo1⟩ := Kd.S_slice HO8.out
            subst eo1
            obtain ⟨ad1, Ax1, cx1, ex1, hx1, hl1, hi1⟩ := at_L1 (Kd.S_reads' HO8.out).2.2 i C20.out (by have := C21.out; first | exact this | simpa using this)
            cases ex1
            obtain ⟨ce1, hce1, hMe1, hcc1⟩ := Kd.S_get HO8.out [] i C20.out (by have := C21.out; first | exact this | simpa using this)
            obtain ⟨ve1, rfl, ge1⟩ := hMe1
            have hv1 := hcc1 0 _ rfl
            rw [Nat.add_zero, show ((Kd.slice 3 (Kd.int .i64))).sz = 1 from rfl, Nat.mul_one] at hv1
            replace hv1 := Option.some.inj (hv1.symm.trans hx1)
            have HX1 := Aside0.mk hx1
            clear hcc1 hce1 ge1 hv1 hl1 hi1
            obtain ⟨go1, cf1, ef1, gb1, gl1, cl1, HG1⟩ := Kd.S_form HO8.out (by have := C20.out; have h_ := (by have := C21.out; first | exact this | simpa using this); omega)
            (first | cases ef1 | (injection ef1 with ea_ en_ ec_; (first | subst ea_ | (injection ea_ with ea_; subst ea_)); subst ec_; clear en_))
            have GB1 := Aside0.mk gb1
            have NE1 := Aside0.mk (Kd.S_ne HO8.out BK1.out (by decide))
            have NE2 := Aside0.mk (Kd.S_ne HO8.out BK2.out (by decide))
            have NE5 := Aside0.mk (Kd.S_ne HO8.out BK5.out (by decide))
            clear gb1 gl1 HG1
            (first | simp only [add_plain] at hx1 | skip)
            obtain ⟨oki1, cg1, hcl1, hM1, hcd1, _, _, hH1⟩ := Kd.S_elem HO8.out [] i C20.out (by have := C21.out; first | exact this | simpa using this)
            obtain ⟨vf1, rfl, gf1⟩ := hM1
            have hw1 := hcd1 0 _ rfl
            have hX1 := HX1.out
            (try simp only [add_plain] at hX1)
            (try simp only [Nat.add_zero] at hw1)
            (try rw [show ((Kd.slice 3 (Kd.int .i64))).sz = 1 from rfl, Nat.mul_one] at hw1)
            replace hw1 := Option.some.inj (hw1.symm.trans hX1)
            subst hw1
            clear hX1 hcd1 hcl1
            have UU1 := Aside0.mk (show Kd.R (Kd.int .i64) 3 _ w.heap.size oki1 (.slice Ax1 (rd_L1 x i).length cx1) (rd_L1 x i) from gf1)
            have HH1 := Aside0.mk hH1
            have HN1 := Aside0.mk (Kd.S_reads' HO8.out).1
            clear hH1 gf1
            have hq5_ := av_cell BK5.out i (by rw [HE.out]; exact C22.out) C20.out
            have hg5_ := blk_frozen BK5.out i.toNat
            obtain ⟨y1, hy1_⟩ : ∃ y, rd_L1 x i ++ rd_L1 l0_0 i = y := ⟨_, rfl⟩
            rw [hy1_] at H
            have NY1 := Aside0.mk hy1_
            clear hy1_
            by_cases c24 : rdOf false out i = true
            ·rw [if_pos c24] at H
             have HF := Aside0.mk c24
             rw [HF.out] at hq5_
             clear c24
             obtain ⟨x2, hx2_⟩ : ∃ x2, x.set i.toNat y1 = x2 := ⟨_, rfl⟩
             rw [hx2_] at H
             have HX2 := Aside0.mk hx2_
             have HLX : Aside0 (x2.length = x.length) := ⟨by rw [← hx2_]; simp⟩
             clear hx2_
             by_cases c25 : (rd_L1 x2 i).length < 17592186044416
             ·rw [if_pos c25] at H
              have LM2 := Aside0.mk c25
              obtain ⟨y2, hy2_⟩ : ∃ y, rd_L1 x2 i ++ [(l0_0.length : Int)] = y := ⟨_, rfl⟩
              rw [hy2_] at H
              have NY2 := Aside0.mk hy2_
              clear hy2_
              clear c25
              have H' := Aside0.mk H
              clear H
              go_wp2_with (first
               | ((with_reducible refine gate_builtin (b := .append) (xs := #[.tmp 56, .tmp 57]) rfl ?_); at_builtin; refine Kd.R_append_rows (Kd.int .i64) (w0 := w) w.heap.size rfl (.tmp 56) (.tmp 57) 30 3 (.int .i64 0) 8 rfl Try.underlying30 info3 rfl (by decide) (by omega) (.slice Ax1 (rd_L1 x i).length cx1) (rd_L1 x i) (rd_L1 l0_0 i) _ _ _ (fun k_ => oki1 k_ ∨ ((fun _ => True)) k_ ∧ wr.heap.size ≤ k_) (fun _ => False) rfl rfl ?aO ?aR (fun _ _ h => h) (fun _ h => h.elim) ?aF ?aB ?aS ?aL ?_; (case aR => exact (Kd.C_below HR1.out (B_))); (case aB => exact (B_)); (case aF => exact (fun k_ hk => .inr ⟨trivial, hk⟩)); (case aO => exact (by (with_reducible repeat (first | apply Kd.R_alloc | apply Kd.R_drewN | apply Kd.R_drew)); exact Kd.R_mono UU1.out (fun _ hk => .inl hk))); (case aS => exact (below_size (B_))); (case aL => have := LM.out; omega); intro v9 w5 ho hb hg hat; rw [NY1.out] at ho; have n0_ := Aside0.mk (blk_grown (g := g1) (o := (.cells #[.slice (some ad1) l0_0.length c0_0, .slice A0_1 l0_1.length c0_1] 26 (0, 0))) (by exact KX_ BK1.out) hg (Kd.R_ne UU1.out BK1.out (by decide))); have n1_ := Aside0.mk (blk_grown (g := g2) (o := (.cells #[.slice none 0 0, .slice none 0 0] 26 (0, 0))) (by exact KX_ BK2.out) hg (Kd.R_ne UU1.out BK2.out (by decide))); have n2_ := Aside0.mk (blk_grown (g := g5) (o := (.cells (AV out) 47 (0, 0))) (by exact KX_ BK5.out) hg (Kd.R_ne UU1.out BK5.out (by decide))); clear BK1 BK2 BK5; have BK1 := n0_; have BK2 := n1_; have BK5 := n2_; clear n0_ n1_ n2_; have nb_ := Aside0.mk hb; have nh_ := Aside0.mk (Kd.H_grown (Kd.H_widen (by repeat (first | exact HH1.out | refine Kd.H_alloc ?_ _ | refine Kd.H_drewN ?_ _ | refine Kd.H_drew ?_))) hg (fun k_ e_ => .inl (UU1.out.1 k_ e_))); have no_ := Aside0.mk ho; clear HB HH1 HO8 UU1; have HB := nb_; have HH1 := nh_; have HO9 := no_; clear nb_ nh_ no_ ho hb hg hat; obtain ⟨Ao9, co9, eo9⟩ := Kd.R_slice HO9.out; subst eo9; obtain ⟨_, _, hraw1, _, _, hcc1, _⟩ := Kd.H_raw HH1.out C20.out (by have h_ := C21.out; first | exact h_ | (have e_ := (HN1.out); omega) | simpa using h_); obtain ⟨_, hfr1⟩ := Kd.H_at HH1.out C20.out (by have h_ := C21.out; first | exact h_ | (have e_ := (HN1.out); omega) | simpa using h_); have hx9 := hcc1 0 _ rfl; have hf9 := hfr1 0; (try simp only [Nat.add_zero] at hx9 hf9); (try rw [show ((Kd.slice 3 (Kd.int .i64))).sz = 1 from rfl, Nat.mul_one] at hx9); (try rw [show ((Kd.slice 3 (Kd.int .i64))).sz = 1 from rfl, Nat.mul_one] at hf9); have HP1 := Kd.S_seg0 HH1.out C20.out (by have h_ := C21.out; first | exact h_ | (have e_ := (HN1.out); omega) | simpa using h_) (seg := [.slice Ao9 y1.length co9]) (j := 0) (show 1 ≤ 1 from by decide) (x' := y1) (Kd.M_row HO9.out) (fun _ hk => hk); (try simp only [show ((Kd.slice 3 (Kd.int .i64))).sz = 1 from rfl, Nat.mul_one, Nat.add_zero] at HP1); clear hcc1 hfr1)
               | ((with_reducible refine gate_store (t := 30) (p := 59) rfl ?_); refine store_event (t := 30) (p := 59) (v := ?vo_l1) (w1 := (w5.setCell ⟨go1, i.toNat, none⟩ (.slice Ao9 y1.length co9))) ?hg ?ho ?hn ?hr ?_; (case ho => rfl); (case hg => rfl); (case hn => rfl); (case hr => first | (go_simp; done) | (go_simp; rfl)); intro w6 hw; have hg : w5.grownBy w6 (some go1) := (by rw [hw]; exact HP1.2); have hp_ : Kd.S (Kd.slice 3 (Kd.int .i64)) 30 w6 w.heap.size (fun _ => True) (.slice (some ⟨go1, 0, none⟩) x.length co1) x2 := (by rw [hw, ← HX2.out]; exact HP1.1); clear HP1; have n0_ := Aside0.mk (blk_grown (g := g1) (o := (.cells #[.slice (some ad1) l0_0.length c0_0, .slice A0_1 l0_1.length c0_1] 26 (0, 0))) (by exact KX_ BK1.out) hg (NE1.out)); have n1_ := Aside0.mk (blk_grown (g := g2) (o := (.cells #[.slice none 0 0, .slice none 0 0] 26 (0, 0))) (by exact KX_ BK2.out) hg (NE2.out)); have n2_ := Aside0.mk (blk_grown (g := g5) (o := (.cells (AV out) 47 (0, 0))) (by exact KX_ BK5.out) hg (NE5.out)); clear BK1 BK2 BK5; have BK1 := n0_; have BK2 := n1_; have BK5 := n2_; clear n0_ n1_ n2_; have nb_ := Aside0.mk ((by rw [hw]; exact below_set HB.out GB1.out : Below w.heap.size w w6)); have no_ := Aside0.mk hp_; clear HB HO9 HH1 hq5_ hg5_; have HB := nb_; have HO8 := no_; clear nb_ no_ hg hw hp_ hraw1 hx9 hf9; have hq5_ := av_cell BK5.out i (by rw [HE.out]; exact C22.out) C20.out; rw [HF.out] at hq5_; have hg5_ := blk_frozen BK5.out i.toNat; obtain ⟨ad2, Ax2, cx2, ex2, hx2, hl2, hi2⟩ := at_L1 (Kd.S_reads' HO8.out).2.2 i C20.out (by have := C21.out; have := HLX.out; omega); cases ex2; have HX3 := Aside0.mk hx2; clear hl2 hi2; (first | simp only [add_plain] at hx2 | skip); obtain ⟨oki2, cg2, hcl2, hM2, hcd2, _, _, hH2⟩ := Kd.S_elem HO8.out [] i C20.out (by have := C21.out; have := HLX.out; omega); obtain ⟨vf2, rfl, gf2⟩ := hM2; have hw2 := hcd2 0 _ rfl; have hX2 := HX3.out; (try simp only [add_plain] at hX2); (try simp only [Nat.add_zero] at hw2); (try rw [show ((Kd.slice 3 (Kd.int .i64))).sz = 1 from rfl, Nat.mul_one] at hw2); replace hw2 := Option.some.inj (hw2.symm.trans hX2); subst hw2; clear hX2 hcd2 hcl2 HX3; have UU2 := Aside0.mk (show Kd.R (Kd.int .i64) 3 _ w.heap.size oki2 (.slice Ax2 (rd_L1 x2 i).length cx2) (rd_L1 x2 i) from gf2); have HH2 := Aside0.mk hH2; have HN2 := Aside0.mk (Kd.S_reads' HO8.out).1; have WS := Aside0.mk (Nat.le_refl w6.heap.size); clear hH2 gf2)
               | ((with_reducible refine gate_builtin (b := .append) (xs := #[.tmp 68, .tmp 70]) rfl ?_); at_builtin; refine Kd.R_append (Kd.int .i64) (w0 := w) w.heap.size rfl (.tmp 68) (.tmp 70) 30 3 (.int .i64 0) 8 rfl Try.underlying30 info3 rfl (by decide) (by omega) (.slice Ax2 (rd_L1 x2 i).length cx2) (rd_L1 x2 i) (l0_0.length : Int) [.int .i64 (l0_0.length : Int)] (fun k_ => oki2 k_ ∨ ((fun _ => True)) k_ ∧ w6.heap.size ≤ k_) (fun _ => False) rfl rfl ?aP (fun _ hk => hk.elim) ?aF ?aO ?aB ?aS ?aL ?_; (case aP => exact rfl); (case aB => exact (B_)); (case aF => exact (fun k_ hk => .inr ⟨trivial, hk⟩)); (case aO => exact (by (with_reducible repeat (first | apply Kd.R_alloc | apply Kd.R_drewN | apply Kd.R_drew)); exact Kd.R_mono UU2.out (fun _ hk => .inl hk))); (case aS => exact (below_size (B_))); (case aL => have := LM2.out; omega); intro v12 w7 ho hb hg hat; rw [NY2.out] at ho; have n0_ := Aside0.mk (blk_grown (g := g1) (o := (.cells #[.slice (some ad1) l0_0.length c0_0, .slice A0_1 l0_1.length c0_1] 26 (0, 0))) (by exact KX_ BK1.out) hg (Kd.R_ne UU2.out BK1.out (by decide))); have n1_ := Aside0.mk (blk_grown (g := g2) (o := (.cells #[.slice none 0 0, .slice none 0 0] 26 (0, 0))) (by exact KX_ BK2.out) hg (Kd.R_ne UU2.out BK2.out (by decide))); have n2_ := Aside0.mk (blk_grown (g := g5) (o := (.cells (AV out) 47 (0, 0))) (by exact KX_ BK5.out) hg (Kd.R_ne UU2.out BK5.out (by decide))); clear BK1 BK2 BK5; have BK1 := n0_; have BK2 := n1_; have BK5 := n2_; clear n0_ n1_ n2_; have nb_ := Aside0.mk hb; have nh_ := Aside0.mk (Kd.H_grown (Kd.H_widen (by repeat (first | exact HH2.out | refine Kd.H_alloc ?_ _ | refine Kd.H_drewN ?_ _ | refine Kd.H_drew ?_))) hg (fun k_ e_ => .inl (UU2.out.1 k_ e_))); have no_ := Aside0.mk ho; clear HB HH2 HO8 UU2; have HB := nb_; have HH2 := nh_; have HO12 := no_; clear nb_ nh_ no_ ho hb hg hat; obtain ⟨Ao12, co12, eo12⟩ := Kd.R_slice HO12.out; subst eo12; obtain ⟨_, _, hraw2, _, _, hcc2, _⟩ := Kd.H_raw HH2.out C20.out (by have := C21.out; have := HLX.out; omega); obtain ⟨_, hfr2⟩ := Kd.H_at HH2.out C20.out (by have := C21.out; have := HLX.out; omega); have hx12 := hcc2 0 _ rfl; have hf12 := hfr2 0; (try simp only [Nat.add_zero] at hx12 hf12); (try rw [show ((Kd.slice 3 (Kd.int .i64))).sz = 1 from rfl, Nat.mul_one] at hx12); (try rw [show ((Kd.slice 3 (Kd.int .i64))).sz = 1 from rfl, Nat.mul_one] at hf12); have HP2 := Kd.S_seg0 HH2.out C20.out (by have := C21.out; have := HLX.out; omega) (seg := [.slice Ao12 y2.length co12]) (j := 0) (show 1 ≤ 1 from by decide) (x' := y2) (Kd.M_row HO12.out) (fun _ hk => hk); (try simp only [show ((Kd.slice 3 (Kd.int .i64))).sz = 1 from rfl, Nat.mul_one, Nat.add_zero] at HP2); clear hcc2 hfr2)
               | ((with_reducible refine gate_store (t := 30) (p := 72) rfl ?_); refine store_event (t := 30) (p := 72) (v := ?vo_l2) (w1 := (w7.setCell ⟨go1, i.toNat, none⟩ (.slice Ao12 y2.length co12))) ?hg ?ho ?hn ?hr ?_; (case ho => rfl); (case hg => rfl); (case hn => rfl); (case hr => first | (go_simp; done) | (go_simp; rfl)); intro w8 hw; have hg : w7.grownBy w8 (some go1) := (by rw [hw]; exact HP2.2); have hp_ : Kd.S (Kd.slice 3 (Kd.int .i64)) 30 w8 w.heap.size (fun _ => True) (.slice (some ⟨go1, 0, none⟩) x.length co1) (x2.set i.toNat y2) := (by rw [hw]; exact HP2.1); clear HP2; have n0_ := Aside0.mk (blk_grown (g := g1) (o := (.cells #[.slice (some ad1) l0_0.length c0_0, .slice A0_1 l0_1.length c0_1] 26 (0, 0))) (by exact KX_ BK1.out) hg (NE1.out)); have n1_ := Aside0.mk (blk_grown (g := g2) (o := (.cells #[.slice none 0 0, .slice none 0 0] 26 (0, 0))) (by exact KX_ BK2.out) hg (NE2.out)); have n2_ := Aside0.mk (blk_grown (g := g5) (o := (.cells (AV out) 47 (0, 0))) (by exact KX_ BK5.out) hg (NE5.out)); clear BK1 BK2 BK5; have BK1 := n0_; have BK2 := n1_; have BK5 := n2_; clear n0_ n1_ n2_; have nb_ := Aside0.mk ((by rw [hw]; exact below_set HB.out GB1.out : Below w.heap.size w w8)); have no_ := Aside0.mk hp_; clear HB HO12 HH2 hq5_ hg5_; have HB := nb_; have HO8 := no_; clear nb_ no_ hg hw hp_ hraw2 hx12 hf12; have hq5_ := av_cell BK5.out i (by rw [HE.out]; exact C22.out) C20.out; rw [HF.out] at hq5_; have hg5_ := blk_frozen BK5.out i.toNat))
              go_roundg k2
              case measure => have := HK1.out; have := HK2.out; omega
              case rel => exact ⟨_, (wrap64 (i + 1)), (by first | rfl | (simp; done) | (simp [*]; done)), H', ⟨by have := HK2.out; omega⟩, ⟨SX_ HO8.out⟩, ⟨KX_ BK1.out⟩, ⟨KX_ BK2.out⟩, ⟨KX_ BK5.out⟩, ⟨B_⟩⟩
             rw [if_neg c25] at H
             exact absurd H (by simp)
            rw [if_neg c24] at H
            have HF := Aside0.mk (Bool.eq_false_iff.mpr c24)
            rw [HF.out] at hq5_
            clear c24
            have H' := Aside0.mk H
            clear H
            go_wp2_with (first
             | ((with_reducible refine gate_builtin (b := .append) (xs := #[.tmp 56, .tmp 57]) rfl ?_); at_builtin; refine Kd.R_append_rows (Kd.int .i64) (w0 := w) w.heap.size rfl (.tmp 56) (.tmp 57) 30 3 (.int .i64 0) 8 rfl Try.underlying30 info3 rfl (by decide) (by omega) (.slice Ax1 (rd_L1 x i).length cx1) (rd_L1 x i) (rd_L1 l0_0 i) _ _ _ (fun k_ => oki1 k_ ∨ ((fun _ => True)) k_ ∧ wr.heap.size ≤ k_) (fun _ => False) rfl rfl ?aO ?aR (fun _ _ h => h) (fun _ h => h.elim) ?aF ?aB ?aS ?aL ?_; (case aR => exact (Kd.C_below HR1.out (B_))); (case aB => exact (B_)); (case aF => exact (fun k_ hk => .inr ⟨trivial, hk⟩)); (case aO => exact (by (with_reducible repeat (first | apply Kd.R_alloc | apply Kd.R_drewN | apply Kd.R_drew)); exact Kd.R_mono UU1.out (fun _ hk => .inl hk))); (case aS => exact (below_size (B_))); (case aL => have := LM.out; omega); intro v9 w5 ho hb hg hat; rw [NY1.out] at ho; have n0_ := Aside0.mk (blk_grown (g := g1) (o := (.cells #[.slice (some ad1) l0_0.length c0_0, .slice A0_1 l0_1.length c0_1] 26 (0, 0))) (by exact KX_ BK1.out) hg (Kd.R_ne UU1.out BK1.out (by decide))); have n1_ := Aside0.mk (blk_grown (g := g2) (o := (.cells #[.slice none 0 0, .slice none 0 0] 26 (0, 0))) (by exact KX_ BK2.out) hg (Kd.R_ne UU1.out BK2.out (by decide))); have n2_ := Aside0.mk (blk_grown (g := g5) (o := (.cells (AV out) 47 (0, 0))) (by exact KX_ BK5.out) hg (Kd.R_ne UU1.out BK5.out (by decide))); clear BK1 BK2 BK5; have BK1 := n0_; have BK2 := n1_; have BK5 := n2_; clear n0_ n1_ n2_; have nb_ := Aside0.mk hb; have nh_ := Aside0.mk (Kd.H_grown (Kd.H_widen (by repeat (first | exact HH1.out | refine Kd.H_alloc ?_ _ | refine Kd.H_drewN ?_ _ | refine Kd.H_drew ?_))) hg (fun k_ e_ => .inl (UU1.out.1 k_ e_))); have no_ := Aside0.mk ho; clear HB HH1 HO8 UU1; have HB := nb_; have HH1 := nh_; have HO9 := no_; clear nb_ nh_ no_ ho hb hg hat; obtain ⟨Ao9, co9, eo9⟩ := Kd.R_slice HO9.out; subst eo9; obtain ⟨_, _, hraw1, _, _, hcc1, _⟩ := Kd.H_raw HH1.out C20.out (by have h_ := C21.out; first | exact h_ | (have e_ := (HN1.out); omega) | simpa using h_); obtain ⟨_, hfr1⟩ := Kd.H_at HH1.out C20.out (by have h_ := C21.out; first | exact h_ | (have e_ := (HN1.out); omega) | simpa using h_); have hx9 := hcc1 0 _ rfl; have hf9 := hfr1 0; (try simp only [Nat.add_zero] at hx9 hf9); (try rw [show ((Kd.slice 3 (Kd.int .i64))).sz = 1 from rfl, Nat.mul_one] at hx9); (try rw [show ((Kd.slice 3 (Kd.int .i64))).sz = 1 from rfl, Nat.mul_one] at hf9); have HP1 := Kd.S_seg0 HH1.out C20.out (by have h_ := C21.out; first | exact h_ | (have e_ := (HN1.out); omega) | simpa using h_) (seg := [.slice Ao9 y1.length co9]) (j := 0) (show 1 ≤ 1 from by decide) (x' := y1) (Kd.M_row HO9.out) (fun _ hk => hk); (try simp only [show ((Kd.slice 3 (Kd.int .i64))).sz = 1 from rfl, Nat.mul_one, Nat.add_zero] at HP1); clear hcc1 hfr1)
             | ((with_reducible refine gate_store (t := 30) (p := 59) rfl ?_); refine store_event (t := 30) (p := 59) (v := ?vo_l3) (w1 := (w5.setCell ⟨go1, i.toNat, none⟩ (.slice Ao9 y1.length co9))) ?hg ?ho ?hn ?hr ?_; (case ho => rfl); (case hg => rfl); (case hn => rfl); (case hr => first | (go_simp; done) | (go_simp; rfl)); intro w6 hw; have hg : w5.grownBy w6 (some go1) := (by rw [hw]; exact HP1.2); have hp_ : Kd.S (Kd.slice 3 (Kd.int .i64)) 30 w6 w.heap.size (fun _ => True) (.slice (some ⟨go1, 0, none⟩) x.length co1) (x.set i.toNat y1) := (by rw [hw]; exact HP1.1); clear HP1; have n0_ := Aside0.mk (blk_grown (g := g1) (o := (.cells #[.slice (some ad1) l0_0.length c0_0, .slice A0_1 l0_1.length c0_1] 26 (0, 0))) (by exact KX_ BK1.out) hg (NE1.out)); have n1_ := Aside0.mk (blk_grown (g := g2) (o := (.cells #[.slice none 0 0, .slice none 0 0] 26 (0, 0))) (by exact KX_ BK2.out) hg (NE2.out)); have n2_ := Aside0.mk (blk_grown (g := g5) (o := (.cells (AV out) 47 (0, 0))) (by exact KX_ BK5.out) hg (NE5.out)); clear BK1 BK2 BK5; have BK1 := n0_; have BK2 := n1_; have BK5 := n2_; clear n0_ n1_ n2_; have nb_ := Aside0.mk ((by rw [hw]; exact below_set HB.out GB1.out : Below w.heap.size w w6)); have no_ := Aside0.mk hp_; clear HB HO9 HH1 hq5_ hg5_; have HB := nb_; have HO8 := no_; clear nb_ no_ hg hw hp_ hraw1 hx9 hf9; have hq5_ := av_cell BK5.out i (by rw [HE.out]; exact C22.out) C20.out; rw [HF.out] at hq5_; have hg5_ := blk_frozen BK5.out i.toNat))
            go_roundg k2
            case measure => have := HK1.out; have := HK2.out; omega
            case rel => exact ⟨_, (wrap64 (i + 1)), (by first | rfl | (simp; done) | (simp [*]; done)), H', ⟨by have := HK2.out; omega⟩, ⟨SX_ HO8.out⟩, ⟨KX_ BK1.out⟩, ⟨KX_ BK2.out⟩, ⟨KX_ BK5.out⟩, ⟨B_⟩⟩
           rw [if_neg c23] at H
           exact absurd H (by simp)
          rw [if_neg c22] at H
          exact absurd H (by simp)
         rw [if_neg c21] at H
         exact absurd H (by simp)
        rw [if_neg c20] at H
        exact absurd H (by simp)
       rw [if_neg c19] at H
       have c19b0 : decide (i < (l0_0.length : Int)) = false := decide_eq_false c19
       clear c19
       have A6 := Aside0.mk H
       clear H
       obtain ⟨Ao8, co8, eo8⟩ := Kd.S_slice HO8.out
       subst eo8
       go_wp2_with (first | (go_at_call 9; (with_reducible refine (graph_Make.calls k2 _ _ x r1 r2 r3 _ ?side1 ?side2 A6.out).mono ?_); (case side1 => exact CX_ (Kd.S_reads' HO8.out).2.2); (case side2 => exact (Kd.S_reads' HO8.out).2.1); rintro e w8 ⟨v0, v1, rfl, ho0, ho1, hb⟩; have n1_ := Aside0.mk (blk_below (g := g2) (o := .cells #[.slice none 0 0, .slice none 0 0] 26 (0, 0)) (by exact KX_ BK2.out) hb); have no0_ := Aside0.mk (Kd.S_lower (Kd.S_newB ho0 (g := g2) (o := .cells #[.slice none 0 0, .slice none 0 0] 26 (0, 0)) (by exact KX_ BK2.out)) (below_size (B_))); have no1_ := Aside0.mk (Kd.S_lower (Kd.S_newB ho1 (g := g2) (o := .cells #[.slice none 0 0, .slice none 0 0] 26 (0, 0)) (by exact KX_ BK2.out)) (below_size (B_))); have nb_ := Aside0.mk (below_step (B_) hb); clear BK1 BK2 BK5 HB HO8; have BK2 := n1_; have HB := nb_; have HO10 := no0_; have HO11 := no1_; clear n1_ nb_ no0_ no1_ hb ho0 ho1; obtain ⟨Ao10, co10, eo10⟩ := Kd.S_slice HO10.out; subst eo10; obtain ⟨Ao11, co11, eo11⟩ := Kd.S_slice HO11.out; subst eo11; have hcz2_0 : w8.cell? ⟨g2, 0, none⟩ = some (.slice none 0 0) := (blk_cell BK2.out 0).trans rfl; have hcz2_1 : w8.cell? ⟨g2, 1, none⟩ = some (.slice none 0 0) := (blk_cell BK2.out 1).trans rfl; have hfz2_0 := blk_frozen BK2.out 0; have hfz2_1 := blk_frozen BK2.out 1))
       (try simp only [jumpg_ret, Exit.then, Exit.inBlock])
       refine bodyPost_ret (results_ct rfl _ _ g2 26 #[.slice Ao10 r1.length co10, .slice Ao11 r2.length co11] (0, 0) _ rfl (blk_put (cs := #[.slice Ao10 r1.length co10, .slice none 0 0]) (blk_put (cs := #[.slice none 0 0, .slice none 0 0]) BK2.out 0 _ rfl) 1 _ rfl) Try.underlying26 rfl (by kernel_rfl)) rfl ?_
       exact ⟨_, _, by first | rfl | (simp; done), Kd.S_mono (Kd.S_far (p := ⟨g2, 1, none⟩) (Kd.S_far (p := ⟨g2, 0, none⟩) HO10.out (fun _ hk => hk.2) _) (fun _ hk => hk.2) _) (fun _ hk => hk.1), Kd.S_mono (Kd.S_far (p := ⟨g2, 1, none⟩) (Kd.S_far (p := ⟨g2, 0, none⟩) HO11.out (fun _ hk => hk.2) _) (fun _ hk => hk.2) _) (fun _ hk => hk.1), B1_⟩
    rw [if_neg c13] at H
    exact absurd H (by simp)
   rw [if_neg c12] at H
   exact absurd H (by simp)
 replace c7 := Bool.eq_false_iff.mpr c7
 subst c7
 rw [if_neg (show ¬ (false = true) by decide)] at H
 simp only [Option.some.injEq, Prod.mk.injEq] at H
 obtain ⟨rfl, rfl, rfl⟩ := H
 go_wp2_with (first | (go_at_call 24; (with_reducible refine (graph_May.calls k _ _ l0_0 _ _ l0_1 false _ ?side1 ?side2 ?side3 ?side4 A1.out).mono ?_); (case side1 => exact Kd.C_below HR0_0.out (B_)); (case side2 => exact HC0_0.out); (case side3 => exact Kd.C_below HR0_1.out (B_)); (case side4 => exact HC0_1.out); rintro e w3 ⟨rfl, hb⟩; clear hcz1_0 hcz1_1 hfz1_0 hfz1_1; have n0_ := Aside0.mk (blk_below (g := g1) (o := (.cells #[.slice A0_0 l0_0.length c0_0, .slice A0_1 l0_1.length c0_1] 26 (0, 0))) (by exact KX_ BK1.out) hb); have n1_ := Aside0.mk (blk_below (g := g2) (o := (.cells #[.slice none 0 0, .slice none 0 0] 26 (0, 0))) (by exact KX_ BK2.out) hb); have nb_ := Aside0.mk (below_step (B_) hb); clear BK1 BK2 HB; have BK1 := n0_; have BK2 := n1_; have HB := nb_; clear n0_ n1_ nb_ hb; have hcz1_0 : w3.cell? ⟨g1, 0, none⟩ = some (.slice A0_0 l0_0.length c0_0) := (blk_cell BK1.out 0).trans rfl; have hcz1_1 : w3.cell? ⟨g1, 1, none⟩ = some (.slice A0_1 l0_1.length c0_1) := (blk_cell BK1.out 1).trans rfl; have hfz1_0 := blk_frozen BK1.out 0; have hfz1_1 := blk_frozen BK1.out 1; have hcz2_0 : w3.cell? ⟨g2, 0, none⟩ = some (.slice none 0 0) := (blk_cell BK2.out 0).trans rfl; have hcz2_1 : w3.cell? ⟨g2, 1, none⟩ = some (.slice none 0 0) := (blk_cell BK2.out 1).trans rfl; have hfz2_0 := blk_frozen BK2.out 0; have hfz2_1 := blk_frozen BK2.out 1))
 (try simp only [jumpg_ret, Exit.then, Exit.inBlock])
 refine bodyPost_ret (results_ct rfl _ _ g2 26 #[.slice none 0 0, .slice none 0 0] (0, 0) _ rfl (blk_put (cs := #[.slice none 0 0, .slice none 0 0]) (blk_put (cs := #[.slice none 0 0, .slice none 0 0]) BK2.out 0 _ rfl) 1 _ rfl) Try.underlying26 rfl (by kernel_rfl)) rfl ?_
 exact ⟨_, _, by first | rfl | (simp; done), Kd.S_nil _ _ _ _ _, Kd.S_nil _ _ _ _ _, B1_⟩


/-! ### pdom_Shut: function 14 -/
-- needs HArr
def pdom_Shut.l0 : Nat → List (List Int) → List Bool → List Int → Int → Option (List Int)
 | 0, _, _, _, _ => none
 | k + 1, x0, m, o, i => if i < (x0.length : Int) then (if 0 ≤ i then (if i < 64 then (if rdOf false m i = true then (pdom_Shut.l0 k x0 m o (wrap64 (i + 1))) else (if o.length < 17592186044416 then (pdom_Shut.l0 k x0 m (o ++ [i]) (wrap64 (i + 1))) else none)) else none) else none) else some o
def pdom_Shut.f (k : Nat) (l0_0 : List (List Int)) (l0_1 : List (List Int)) : Option (List Int) := (graph_May.f k l0_0 l0_1).bind fun t => if t = true then ((pdom_ends.f k l0_0 l0_1).bind fun e => (pdom_back.f k l0_0 l0_1 e).bind fun m => pdom_Shut.l0 k l0_0 m [] 0) else some []
theorem pdom_Shut.mono_l : ∀ k y0 y1 y2 y3, LeO (pdom_Shut.l0 k y0 y1 y2 y3) (pdom_Shut.l0 (k + 1) y0 y1 y2 y3)
 | 0 => fun _ _ _ _ r h => by simp [pdom_Shut.l0] at h
 | k + 1 => by
  have ih0 := pdom_Shut.mono_l k
  intro y0 y1 y2 y3
  unfold pdom_Shut.l0
  repeat' first
   | (with_reducible exact ih0 _ _ _ _)
   | (with_reducible exact LeO.refl _)
   | (with_reducible exact LeO.none _)
   | (with_reducible refine LeO.ite ?_ ?_)
theorem pdom_Shut.mono : ∀ a0 a1 k, LeO (pdom_Shut.f k a0 a1) (pdom_Shut.f (k + 1) a0 a1) := by
 intro a0 a1 k
 unfold pdom_Shut.f
 exact LeO.bind (graph_May.mono _ _ _) (fun _ => LeO.ite (LeO.bind (pdom_ends.mono _ _ _) (fun _ => LeO.bind (pdom_back.mono _ _ _ _) (fun _ => pdom_Shut.mono_l _ _ _ _ _))) (LeO.refl _))
set_option maxHeartbeats 8000000 in
set_option maxRecDepth 100000 in
theorem pdom_Shut.calls (k : Nat) (A0_0 : Option Addr) (c0_0 : Nat) (l0_0 : List (List Int)) (A0_1 : Option Addr) (c0_1 : Nat) (l0_1 : List (List Int)) (r : List Int) (w : World) (hr0_0 : Kd.C (Kd.slice 3 (Kd.int .i64)) w A0_0 l0_0.length l0_0) (hc0_0 : l0_0.length ≤ c0_0) (hr0_1 : Kd.C (Kd.slice 3 (Kd.int .i64)) w A0_1 l0_1.length l0_1) (hc0_1 : l0_1.length ≤ c0_1) (h : pdom_Shut.f k l0_0 l0_1 = some r) :
 Calls Try.prog 14 #[.agg #[.slice A0_0 l0_0.length c0_0, .slice A0_1 l0_1.length c0_1]] w fun e w' => ∃ v0_ : Value, e = .returned (v0_) ∧ Kd.R (Kd.int .i64) 3 w' w.heap.size (fun _ => True) v0_ r ∧ Below w.heap.size w w' := by
 have HB := Aside0.mk (Below.refl w.heap.size w)
 have HR0_0 := Aside0.mk hr0_0
 have HC0_0 := Aside0.mk hc0_0
 have HR0_1 := Aside0.mk hr0_1
 have HC0_1 := Aside0.mk hc0_1
 have H : ((graph_May.f k l0_0 l0_1).bind fun t => if t = true then ((pdom_ends.f k l0_0 l0_1).bind fun e => (pdom_back.f k l0_0 l0_1 e).bind fun m => pdom_Shut.l0 k l0_0 m [] 0) else some []) = some r := h
 clear h hr0_0 hc0_0 hr0_1 hc0_1
 replace H := Option.bind_eq_some_iff.mp H
 obtain ⟨t1, A1_, H⟩ := H
 have A1 := Aside0.mk A1_
 clear A1_
 go_enter Try.func14, Try.ntmps14
 go_upto_region 1 with (first
  | ((with_reducible refine gate_dst (N := 1) rfl ?_); refine box_event ?hg (N := 1) ?hd (cs := #[.slice A0_0 l0_0.length c0_0, .slice A0_1 l0_1.length c0_1]) (t := 26) ?hr ?_; (case hd => rfl); (case hg => rfl); (case hr => first | (go_simp; done) | (go_simp; rfl)); intro g1 hg w1 hbox hb; have n0_ := Aside0.mk (below_step (B_) hb); have n1_ := Aside0.mk hbox; clear HB; have HB := n0_; have BK1 := n1_; clear n0_ n1_ hb hbox hg))
 have hcz1_0 : w1.cell? ⟨g1, 0, none⟩ = some (.slice A0_0 l0_0.length c0_0) := (blk_cell BK1.out 0).trans rfl
 have hcz1_1 : w1.cell? ⟨g1, 1, none⟩ = some (.slice A0_1 l0_1.length c0_1) := (blk_cell BK1.out 1).trans rfl
 by_cases c7 : t1 = true
 ·subst c7
  replace H : ((pdom_ends.f k l0_0 l0_1).bind fun e => (pdom_back.f k l0_0 l0_1 e).bind fun m => pdom_Shut.l0 k l0_0 m [] 0) = some r := by rw [if_pos rfl] at H; exact H
  replace H := Option.bind_eq_some_iff.mp H
  obtain ⟨e1, A2_, H⟩ := H
  replace H := Option.bind_eq_some_iff.mp H
  obtain ⟨m, A3_, H⟩ := H
  have A2 := Aside0.mk A2_
  have A3 := Aside0.mk A3_
  have HE := Aside0.mk (pdom_ends.len A2_)
  have HM := Aside0.mk ((pdom_back.len A3_).trans (pdom_ends.len A2_))
  clear A2_ A3_
  have H' := Aside0.mk H
  clear H
  go_wp2_with (first | (go_at_call 24; (with_reducible refine (graph_May.calls k _ _ l0_0 _ _ l0_1 true _ ?side1 ?side2 ?side3 ?side4 A1.out).mono ?_); (case side1 => exact Kd.C_below HR0_0.out (B_)); (case side2 => exact HC0_0.out); (case side3 => exact Kd.C_below HR0_1.out (B_)); (case side4 => exact HC0_1.out); rintro e w2 ⟨rfl, hb⟩; have n0_ := Aside0.mk (blk_below (g := g1) (o := .cells #[.slice A0_0 l0_0.length c0_0, .slice A0_1 l0_1.length c0_1] 26 (0, 0)) (by exact KX_ BK1.out) hb); have n1_ := Aside0.mk (below_step (B_) hb); clear BK1 HB hcz1_0 hcz1_1; have BK1 := n0_; have HB := n1_; clear n0_ n1_ hb; have hcz1_0 : w2.cell? ⟨g1, 0, none⟩ = some (.slice A0_0 l0_0.length c0_0) := (blk_cell BK1.out 0).trans rfl; have hcz1_1 : w2.cell? ⟨g1, 1, none⟩ = some (.slice A0_1 l0_1.length c0_1) := (blk_cell BK1.out 1).trans rfl))
  go_cut [3] (fun v3 wc => ∃ (g3 : Nat), v3 = .pointer (some ⟨g3, 0, none⟩) ∧ Aside0 (wc.heap[g1]? = some (.cells #[.slice A0_0 l0_0.length c0_0, .slice A0_1 l0_1.length c0_1] 26 (0, 0))) ∧ Aside0 (wc.heap[g3]? = some (.cells (AV m) 47 (0, 0))) ∧ Aside0 (Below w.heap.size w wc))
  case first =>
   have hsz_ : (AV m).size = 64 := (av_size m).trans HM.out
   have hal0 : ∀ o, (w2.drew.alloc o).cell? ⟨g1, 0, none⟩ = some (.slice A0_0 l0_0.length c0_0) := fun o => (blk_cell (blk_alloc (blk_drew BK1.out) o) 0).trans rfl
   have hal1 : ∀ o, (w2.drew.alloc o).cell? ⟨g1, 1, none⟩ = some (.slice A0_1 l0_1.length c0_1) := fun o => (blk_cell (blk_alloc (blk_drew BK1.out) o) 1).trans rfl
   have hal2 : ∀ o, (w2.alloc o).drew.cell? ⟨g1, 0, none⟩ = some (.slice A0_0 l0_0.length c0_0) := fun o => (blk_cell (blk_drew (blk_alloc BK1.out o)) 0).trans rfl
   have hal3 : ∀ o, (w2.alloc o).drew.cell? ⟨g1, 1, none⟩ = some (.slice A0_1 l0_1.length c0_1) := fun o => (blk_cell (blk_drew (blk_alloc BK1.out o)) 1).trans rfl
   go_region_with (first
    | (go_at_call 25; (with_reducible refine (pdom_ends.calls k _ _ l0_0 _ _ l0_1 e1 _ ?side1 ?side2 A2.out).mono ?_); (case side1 => exact Kd.C_below HR0_0.out (B_)); (case side2 => exact HC0_0.out); rintro e w3 ⟨rfl, hb⟩; (try (have m0_ := Aside0.mk (blk_below BK3.out hb); clear BK3; have BK3 := m0_; clear m0_)); (try (have m0_ := Aside0.mk (blk_below (blk_drew (blk_new _ _)) hb); have GE3 := Aside0.mk (below_size HB.out); have NB3 := Aside0.mk (Nat.ne_of_lt (blk_lt BK1.out)); have BK3 := m0_; clear m0_)); (try (have m0_ := Aside0.mk (blk_below (blk_new _ _) hb); have GE3 := Aside0.mk (below_size HB.out); have NB3 := Aside0.mk (Nat.ne_of_lt (blk_lt BK1.out)); have BK3 := m0_; clear m0_)); have n0_ := Aside0.mk (blk_below (g := g1) (o := (.cells #[.slice A0_0 l0_0.length c0_0, .slice A0_1 l0_1.length c0_1] 26 (0, 0))) (by exact KX_ BK1.out) hb); have n1_ := Aside0.mk (below_step (B_) hb); clear BK1 HB hcz1_0 hcz1_1; have BK1 := n0_; have HB := n1_; clear n0_ n1_ hb; have hcz1_0 : w3.cell? ⟨g1, 0, none⟩ = some (.slice A0_0 l0_0.length c0_0) := (blk_cell BK1.out 0).trans rfl; have hcz1_1 : w3.cell? ⟨g1, 1, none⟩ = some (.slice A0_1 l0_1.length c0_1) := (blk_cell BK1.out 1).trans rfl; have hbl0 : ∀ o, (w3.alloc o).cell? ⟨g1, 0, none⟩ = some (.slice A0_0 l0_0.length c0_0) := fun o => (blk_cell (blk_alloc BK1.out o) 0).trans rfl; have hbl1 : ∀ o, (w3.alloc o).cell? ⟨g1, 1, none⟩ = some (.slice A0_1 l0_1.length c0_1) := fun o => (blk_cell (blk_alloc BK1.out o) 1).trans rfl)
    | (go_at_call 26; (with_reducible refine (pdom_back.calls k _ _ l0_0 _ _ l0_1 e1 m _ ?side1 ?side2 ?side3 A3.out).mono ?_); (case side1 => exact Kd.C_below HR0_1.out (B_)); (case side2 => exact HC0_1.out); (case side3 => exact HE.out); rintro e w4 ⟨rfl, hb⟩; (try (have m0_ := Aside0.mk (blk_below BK3.out hb); clear BK3; have BK3 := m0_; clear m0_)); (try (have m0_ := Aside0.mk (blk_below (blk_drew (blk_new _ _)) hb); have GE3 := Aside0.mk (below_size HB.out); have NB3 := Aside0.mk (Nat.ne_of_lt (blk_lt BK1.out)); have BK3 := m0_; clear m0_)); (try (have m0_ := Aside0.mk (blk_below (blk_new _ _) hb); have GE3 := Aside0.mk (below_size HB.out); have NB3 := Aside0.mk (Nat.ne_of_lt (blk_lt BK1.out)); have BK3 := m0_; clear m0_)); have n0_ := Aside0.mk (blk_below (g := g1) (o := (.cells #[.slice A0_0 l0_0.length c0_0, .slice A0_1 l0_1.length c0_1] 26 (0, 0))) (by exact KX_ BK1.out) hb); have n1_ := Aside0.mk (below_step (B_) hb); clear BK1 HB hcz1_0 hcz1_1; have BK1 := n0_; have HB := n1_; clear n0_ n1_ hb; have hcz1_0 : w4.cell? ⟨g1, 0, none⟩ = some (.slice A0_0 l0_0.length c0_0) := (blk_cell BK1.out 0).trans rfl; have hcz1_1 : w4.cell? ⟨g1, 1, none⟩ = some (.slice A0_1 l0_1.length c0_1) := (blk_cell BK1.out 1).trans rfl)
    | (first | rw [av_cells (t := 47) (by first | exact blk_new _ _ | exact BK3.out) (by rw [HM.out]; rfl)] | rw [av_cells (g := w2.heap.size) (t := 47) BK3.out (by rw [HM.out]; rfl)]))
   all_goals ((try go_wp2); go_meet; (case rel => exact ⟨_, by first | rfl | (simp; done), ⟨blk_row (by exact KX_ BK1.out) (by first | exact NB3.out | exact Nat.ne_of_lt (blk_lt BK1.out)) _⟩, ⟨setRow_heap _ _ _ _ _ _ (by first | exact blk_new _ _ | exact BK3.out)⟩, ⟨below_setRow (B_) (by first | exact GE3.out | exact below_size HB.out) _⟩⟩))
  case rest =>
   clear BK1 HB hcz1_0 hcz1_1
   obtain ⟨g3, rfl, BK1, BK3, HB⟩ := hcut
   have hcz1_0 : wc.cell? ⟨g1, 0, none⟩ = some (.slice A0_0 l0_0.length c0_0) := (blk_cell BK1.out 0).trans rfl
   have hfz1_0 := blk_frozen BK1.out 0
   go_wp2
   go_loopg [4, 16] k (fun kq v4 v16 w' => ∃ (o : List Int) (i : Int), v16 = .int .i64 i ∧ Aside0 (pdom_Shut.l0 kq l0_0 m o i = some r) ∧ Aside0 (kq ≤ k) ∧ Aside0 (Kd.R (Kd.int .i64) 3 w' w.heap.size (fun _ => True) v4 o) ∧ Aside0 (w'.heap[g1]? = some (.cells #[.slice A0_0 l0_0.length c0_0, .slice A0_1 l0_1.length c0_1] 26 (0, 0))) ∧ Aside0 (w'.heap[g3]? = some (.cells (AV m) 47 (0, 0))) ∧ Aside0 (Below w.heap.size w w'))
   case atStart => exact ⟨[], 0, (by first | rfl | (simp; done) | (simp [*]; done)), H', ⟨Nat.le_refl _⟩, ⟨Kd.R_nil _ _ _ _ _⟩, ⟨KX_ BK1.out⟩, ⟨KX_ BK3.out⟩, ⟨B_⟩⟩
   case round =>
    clear H' BK1 BK3 HB hcz1_0 hfz1_0
    obtain ⟨o, i, rfl, HA, HK1, HO4, BK1, BK3, HB⟩ := hrel
    cases gk with
    | zero => exact absurd HA.out (by simp [pdom_Shut.l0])
    | succ k1 =>
     have H := HA.out
     clear HA
     simp only [pdom_Shut.l0] at H
     by_cases c6 : i < (l0_0.length : Int)
     ·rw [if_pos c6] at H
      have c6b0 : decide (i < (l0_0.length : Int)) = true := decide_eq_true c6
      clear c6
      by_cases c7 : 0 ≤ i
      ·rw [if_pos c7] at H
       have C7 := Aside0.mk c7
       have p7 := eq_true c7
       clear c7
       by_cases c8 : i < 64
       ·rw [if_pos c8] at H
        have C8 := Aside0.mk c8
        clear c8
        have q64 : (i < (64 : Int)) = True := eq_true C8.out
        have hx3 := av_cell BK3.out i (by rw [HM.out]; exact C8.out) C7.out
        by_cases c9 : rdOf false m i = true
        ·rw [if_pos c9] at H
         rw [c9] at hx3
         clear c9
         have H' := Aside0.mk H
         clear H
         go_wp2
         go_roundg k1
         case measure => have := HK1.out; omega
         case rel => exact ⟨_, (wrap64 (i + 1)), (by first | rfl | (simp; done) | (simp [*]; done)), H', ⟨by have := HK1.out; omega⟩, ⟨RX_ HO4.out⟩, ⟨KX_ BK1.out⟩, ⟨KX_ BK3.out⟩, ⟨B_⟩⟩
        rw [if_neg c9] at H
        rw [Bool.eq_false_iff.mpr c9] at hx3
        clear c9
        by_cases c10 : o.length < 17592186044416
        ·rw [if_pos c10] at H
         have LM := Aside0.mk c10
         clear c10
         have H' := Aside0.mk H
         clear H
         go_wp2_with (first
          | ((with_reducible refine gate_builtin (b := .append) (xs := #[.tmp 23, .tmp 25]) rfl ?_); at_builtin; refine Kd.R_append (Kd.int .i64) (w0 := w) w.heap.size rfl (.tmp 23) (.tmp 25) 30 3 (.int .i64 0) 8 rfl Try.underlying30 info3 rfl (by decide) (by omega) u4 o i [.int .i64 i] (fun _ => True) (fun _ => False) rfl rfl ?aP (fun _ hk => hk.elim) ?aF ?aO ?aB ?aS ?aL ?_; (case aP => exact rfl); (case aB => exact (B1_)); (case aF => exact (fun _ _ => trivial)); (case aO => exact (by exact RX_ HO4.out)); (case aS => exact (below_size (B1_))); (case aL => have := LM.out; omega); intro v5 w4 ho hb hg hat; have n0_ := Aside0.mk (blk_grown (g := g1) (o := (.cells #[.slice A0_0 l0_0.length c0_0, .slice A0_1 l0_1.length c0_1] 26 (0, 0))) (by exact KX_ BK1.out) hg (Kd.R_ne HO4.out BK1.out (by decide))); have n2_ := Aside0.mk (blk_grown (g := g3) (o := .cells (AV m) 47 (0, 0)) (by exact KX_ BK3.out) hg (Kd.R_ne HO4.out BK3.out (by decide))); have n3_ := Aside0.mk hb; have n4_ := Aside0.mk ho; clear BK1 BK3 HB HO4; have BK1 := n0_; have BK3 := n2_; have HB := n3_; have HO4 := n4_; clear n0_ n2_ n3_ n4_ ho hb hg hat hx3))
         go_roundg k1
         case measure => have := HK1.out; omega
         case rel => exact ⟨_, (wrap64 (i + 1)), (by first | rfl | (simp; done) | (simp [*]; done)), H', ⟨by have := HK1.out; omega⟩, ⟨RX_ HO4.out⟩, ⟨KX_ BK1.out⟩, ⟨KX_ BK3.out⟩, ⟨B_⟩⟩
        rw [if_neg c10] at H
        exact absurd H (by simp)
       rw [if_neg c8] at H
       exact absurd H (by simp)
      rw [if_neg c7] at H
      exact absurd H (by simp)
     rw [if_neg c6] at H
     have c6b0 : decide (i < (l0_0.length : Int)) = false := decide_eq_false c6
     clear c6
     obtain rfl := Option.some.inj H
     go_wp2
     go_ret
     exact ⟨_, by first | rfl | (simp; done), RX_ HO4.out, B_⟩
 replace c7 := Bool.eq_false_iff.mpr c7
 subst c7
 replace H : some [] = some r := by rw [if_neg (show ¬ (false = true) by decide)] at H; exact H
 obtain rfl := Option.some.inj H
 clear H
 go_wp2_with (first | (go_at_call 24; (with_reducible refine (graph_May.calls k _ _ l0_0 _ _ l0_1 false _ ?side1 ?side2 ?side3 ?side4 A1.out).mono ?_); (case side1 => exact Kd.C_below HR0_0.out (B_)); (case side2 => exact HC0_0.out); (case side3 => exact Kd.C_below HR0_1.out (B_)); (case side4 => exact HC0_1.out); rintro e w2 ⟨rfl, hb⟩; have n1_ := Aside0.mk (below_step (B_) hb); clear BK1 HB hcz1_0 hcz1_1; have HB := n1_; clear n1_ hb))
 go_ret
 exact ⟨_, rfl, Kd.R_nil _ _ _ _ _, B_⟩


/-! ### slices_Reverse_int_int: function 37 -/
def slices_Reverse_int_int.l0 : Nat → List Int → Int → Int → Option (List Int)
 | 0, _, _, _ => none
 | k + 1, x0, x2, x3 => if x2 < x3 then (if 0 ≤ x3 then (if x3 < (x0.length : Int) then (if 0 ≤ x2 then (if x2 < (x0.length : Int) then (slices_Reverse_int_int.l0 k ((x0.set (x2 : Int).toNat (rd x0 x3)).set (x3 : Int).toNat (rd x0 x2)) (wrap64 (x2 + 1)) (wrap64 (x3 - 1))) else (none)) else (none)) else (none)) else (none)) else (some x0)
def slices_Reverse_int_int.f (k : Nat) (l0 : List Int) : Option (List Int) := slices_Reverse_int_int.l0 k l0 0 (wrap64 ((l0.length : Int) - 1))
theorem slices_Reverse_int_int.mono_l : ∀ k, (∀ y0 y1 y2, LeO (slices_Reverse_int_int.l0 k y0 y1 y2) (slices_Reverse_int_int.l0 (k + 1) y0 y1 y2))
 | 0 => fun _ _ _ r h => by simp [slices_Reverse_int_int.l0] at h
 | k + 1 => by
  have ih0 := slices_Reverse_int_int.mono_l k
  ·intro y0 y1 y2
   unfold slices_Reverse_int_int.l0
   repeat' first
   | (with_reducible exact ih0 _ _ _)
   | (with_reducible exact LeO.refl _)
   | (with_reducible exact LeO.none _)
   | (with_reducible refine LeO.ite ?_ ?_)
   | (with_reducible refine LeO.bind ?_ (fun _ => ?_))
   | exact ih0 _ _ _
   | exact LeO.none _
   | refine LeO.ite ?_ ?_
   | refine LeO.bind ?_ (fun _ => ?_)
theorem slices_Reverse_int_int.mono : ∀ a0 k, LeO (slices_Reverse_int_int.f k a0) (slices_Reverse_int_int.f (k + 1) a0) := by
 intro a0 k
 have ih0 := slices_Reverse_int_int.mono_l k
 unfold slices_Reverse_int_int.f
 repeat' first
  | (with_reducible exact ih0 _ _ _)
  | (with_reducible exact LeO.refl _)
  | (with_reducible exact LeO.none _)
  | (with_reducible refine LeO.ite ?_ ?_)
  | (with_reducible refine LeO.bind ?_ (fun _ => ?_))
  | exact ih0 _ _ _
  | exact LeO.none _
  | refine LeO.ite ?_ ?_
  | refine LeO.bind ?_ (fun _ => ?_)
def slices_Reverse_int_int.T3 : Bool × List (List Nat × List Nat) := (true, [([], []), ([], []), ([], []), ([], []), ([], []), ([], []), ([4, 5], [4, 5]), ([6], [6]), ([], []), ([], []), ([8, 9], [8, 9]), ([10], [10]), ([0, 1, 0, 1, 4, 5, 6, 7, 11], [0, 1]), ([12, 7, 0, 1, 4, 5, 6, 7, 11], [7, 12]), ([2, 3, 0, 1, 2, 3, 4, 5, 6, 7, 8, 9, 10, 11, 12, 13], [2, 3]), ([14, 11, 13, 0, 1, 2, 3, 4, 5, 6, 7, 8, 9, 10, 11, 12, 13], [11, 14])])
def slices_Reverse_int_int.B3 : List Nat := [0, 0, 0, 0, 0, 0, 48, 112, 0, 0, 768, 1792, 4083, 8179, 16383, 32767]
theorem slices_Reverse_int_int.tab3 : rtab .any (opsOf Try.f37 3) = slices_Reverse_int_int.T3 := by kernel_rfl
theorem slices_Reverse_int_int.bits3 : waitsOk slices_Reverse_int_int.T3.2 slices_Reverse_int_int.B3 = true := by kernel_rfl
set_option maxHeartbeats 8000000 in
set_option maxRecDepth 100000 in
theorem slices_Reverse_int_int.calls (k : Nat) (P0_ : Nat → Prop) (u9000_ : Value) (l0 : List Int) (r : List Int) (w0 w : World) (hB : Below w0.heap.size w0 w) (ho0 : Kd.R (Kd.int .i64) 3 w w0.heap.size P0_ u9000_ l0) (h : slices_Reverse_int_int.f k l0 = some r) :
 Calls Try.prog 37 #[u9000_] w fun e w' => e = .returned (.tuple #[]) ∧ Kd.R (Kd.int .i64) 3 w' w0.heap.size (fun k_ => (P0_ k_ ∨ w.heap.size ≤ k_)) u9000_ r ∧ Below w0.heap.size w0 w' ∧ Kept w w' (fun k_ => P0_ k_) := by
 have HO0 := Aside0.mk (show Kd.R (Kd.int .i64) 3 w w0.heap.size (fun k_ => (P0_ k_ ∨ w.heap.size ≤ k_)) u9000_ l0 from Kd.R_mono ho0 (fun k_ hk => (.inl hk)))
 have HK := Aside0.mk (Kept.refl w (fun k_ => P0_ k_))
 have HW0 := Aside0.mk hB.size
 have HB := Aside0.mk hB
 clear hB
 have H : (slices_Reverse_int_int.l0 k l0 0 (wrap64 ((l0.length : Int) - 1))) = some r := h
 clear h
 have H' := Aside0.mk H
 clear H
 obtain ⟨Ao2, co2, eo2⟩ := Kd.R_slice HO0.out
 subst eo2
 go_enter Try.func37, Try.ntmps37
 go_wp2
 go_loopg [2, 3] k (fun kq v2 v3 w' => ∃ (x0_1 : List Int) (x2_1 : Int) (x3_1 : Int), v2 = .int .i64 x2_1 ∧ v3 = .int .i64 x3_1 ∧ Aside0 (slices_Reverse_int_int.l0 kq x0_1 x2_1 x3_1 = some r) ∧ Aside0 (kq ≤ k) ∧ Aside0 (Kd.R (Kd.int .i64) 3 w' w0.heap.size (fun k_ => (P0_ k_ ∨ w.heap.size ≤ k_)) (.slice Ao2 l0.length co2) x0_1) ∧ Aside0 (Kept w w' (fun k_ => P0_ k_)) ∧ Aside0 (Below w0.heap.size w0 w'))
 case atStart => exact ⟨(l0), (0), (wrap64 ((l0.length : Int) - 1)), (by first | rfl | (simp; done) | (simp [*]; done)), (by first | rfl | (simp; done) | (simp [*]; done)), H', ⟨Nat.le_refl _⟩, ⟨by exact RM_ HO0.out⟩, ⟨by repeat (first | (with_reducible first | exact HK.out | apply Kept.alloc | apply Kept.drewN | apply Kept.drew) | exact HK.out)⟩, ⟨B_⟩⟩
 case round =>
  clear H'
  obtain ⟨x0_1, x2_1, x3_1, rfl, rfl, HA, HK1, HO_0, HK, HB⟩ := hrel
  have hl0_1 := (Kd.R_reads' HO_0.out).1
  rw [hl0_1] at HO_0
  (try simp only [hl0_1])
  cases gk with
  | zero => exact absurd HA.out (by simp [slices_Reverse_int_int.l0])
  | succ k1 =>
   have H := HA.out
   clear HA
   simp only [slices_Reverse_int_int.l0] at H
   by_cases c3 : x2_1 < x3_1
   ·rw [if_pos c3] at H
    have c3b0 : decide (x2_1 < x3_1) = true := decide_eq_true c3
    clear c3
    by_cases c4 : 0 ≤ x3_1
    ·rw [if_pos c4] at H
     have c4b0 : decide (0 ≤ x3_1) = true := decide_eq_true c4
     clear c4
     by_cases c5 : x3_1 < (x0_1.length : Int)
     ·rw [if_pos c5] at H
      have c5b0 : decide (x3_1 < (x0_1.length : Int)) = true := decide_eq_true c5
      clear c5
      by_cases c6 : 0 ≤ x2_1
      ·rw [if_pos c6] at H
       have c6b0 : decide (0 ≤ x2_1) = true := decide_eq_true c6
       clear c6
       by_cases c7 : x2_1 < (x0_1.length : Int)
       ·rw [if_pos c7] at H
        have c7b0 : decide (x2_1 < (x0_1.length : Int)) = true := decide_eq_true c7
        clear c7
        obtain ⟨y168, hy168⟩ : ∃ y_ : List Int, y_ = (x0_1.set (x2_1 : Int).toNat (rd x0_1 x3_1)) := ⟨_, rfl⟩
        replace H : (slices_Reverse_int_int.l0 k1 (y168.set (x3_1 : Int).toNat (rd x0_1 x2_1)) (wrap64 (x2_1 + 1)) (wrap64 (x3_1 - 1))) = some r := by first | (rw [hy168]; with_reducible exact H) | (have H2_ := (Option.bind_some _ _).symm.trans H; rw [hy168]; with_reducible exact H2_) | (have H2_ := (Option.bind_some _ _).symm.trans H; with_reducible exact H2_) | with_reducible exact H | (rw [hy168]; exact H) | exact H
        have Ny168 := Aside0.mk hy168
        clear hy168
        obtain ⟨y169, hy169⟩ : ∃ y_ : List Int, y_ = (y168.set (x3_1 : Int).toNat (rd x0_1 x2_1)) := ⟨_, rfl⟩
        replace H : (slices_Reverse_int_int.l0 k1 y169 (wrap64 (x2_1 + 1)) (wrap64 (x3_1 - 1))) = some r := by first | (rw [hy169]; with_reducible exact H) | (have H2_ := (Option.bind_some _ _).symm.trans H; rw [hy169]; with_reducible exact H2_) | (have H2_ := (Option.bind_some _ _).symm.trans H; with_reducible exact H2_) | with_reducible exact H | (rw [hy169]; exact H) | exact H
        have Ny169 := Aside0.mk hy169
        clear hy169
        have H' := Aside0.mk H
        clear H
        try go_wp2
        have n0_ := Aside0.mk (Kd.R_drew HO_0.out)
        have n1_ := Aside0.mk (Kept.drew HK.out)
        have n2_ := Aside0.mk (below_drew1 HB.out)
        clear HO_0
        clear HK
        clear HB
        have HO_0 := n0_
        have HK := n1_
        have HB := n2_
        clear n0_ n1_ n2_
        have p166 : 0 ≤ (x3_1 : Int) := D_
        have q166 : x3_1 < (x0_1.length : Int) := D_
        obtain ⟨ad166, e166, hx166_0⟩ := Kd.at_int (Kd.R_reads' HO_0.out).2.2 x3_1 p166 q166
        cases e166
        replace p166 := eq_true p166
        replace q166 := eq_true q166
        have p167 : 0 ≤ (x2_1 : Int) := D_
        have q167 : x2_1 < (x0_1.length : Int) := D_
        obtain ⟨ad167, e167, hx167_0⟩ := Kd.at_int (Kd.R_reads' HO_0.out).2.2 x2_1 p167 q167
        obtain rfl : ad166 = ad167 := (by injection e167)
        replace p167 := eq_true p167
        replace q167 := eq_true q167
        have p8 : 0 ≤ (x2_1 : Int) := D_
        have q8 : (x2_1 : Int) < ((x0_1.length : Int) : Int) := D_
        obtain ⟨go8, co8, eo8, gb8, gl8, cl8, HG8⟩ := Kd.R_form HO_0.out (by omega)
        (first | cases eo8 | (injection eo8 with ea_ en_ ec_; (first | subst ea_ | (injection ea_ with ea_; subst ea_)); subst ec_; clear en_))
        have GB8 := Aside0.mk gb8
        have GG8 := Aside0.mk HG8
        clear gb8 gl8 HG8
        have HMgo8 := Aside0.mk (show (P0_ go8 ∨ w.heap.size ≤ go8) from (HO_0.out.1 _ rfl))
        (first | simp only [add_plain] at hx166_0 | skip)
        (first | simp only [add_plain] at hx167_0 | skip)
        obtain ⟨hx8_0, hf8_0⟩ := Kd.R_celln 0 HO_0.out (x2_1 : Int) p8 q8
        replace p8 := eq_true p8
        replace q8 := eq_true q8
        have HP11 := Kd.R_putn HO_0.out (x2_1 : Int) (rd x0_1 x3_1)
        rw [← Ny168.out] at HP11
        have HQ11 := Aside0.mk HP11
        clear HP11
        have p9 : 0 ≤ (x3_1 : Int) := D_
        have q9 : (x3_1 : Int) < ((x0_1.length : Int) : Int) := D_
        obtain ⟨hx9_0, hf9_0⟩ := Kd.R_celln 0 HQ11.out (x3_1 : Int) p9 q9
        replace p9 := eq_true p9
        replace q9 := eq_true q9
        have HP12 := Kd.R_putn HQ11.out (x3_1 : Int) (rd x0_1 x2_1)
        rw [← Ny169.out] at HP12
        have HQ12 := Aside0.mk HP12
        clear HP12
        refine start_ (n := 16) (S := fun w' => w'.cell? ⟨go8, (x3_1).toNat, none⟩ = some (.int .i64 (rd x0_1 x3_1)) ∧ w'.cell? ⟨go8, (x2_1).toNat, none⟩ = some (.int .i64 (rd x0_1 x2_1))) (ds := [13, 15]) #[false, false, false, false, false, false, false, false, false, false, false, false, false, false, false, false] (by kernel_rfl) rfl rfl ⟨hx166_0, hx167_0⟩ (fun hHeld => ?_); refine with_tabW slices_Reverse_int_int.tab3 slices_Reverse_int_int.bits3 (fun HT_ HW_ => ?_)
        generalize wr.drew = w10 at HO_0 HK HB GG8 HQ11 HQ12 hf8_0 hf9_0 hx166_0 hx167_0 hx8_0 hx9_0 hHeld ⊢
        refine pure_ (i := 0) (N := some 14) (v := ?_) (a' := ?_) #[true, false, false, false, false, false, false, false, false, false, false, false, false, false, false, false] rfl rfl (any_of HT_.out (by kernel_rfl)) (fun _ _ _ h => h) (Or.inl ⟨by rfl, ?_⟩) ?_ ?_
        rotate_left
        ·intro w'
         go_simp
         with_reducible rfl
        rotate_left
        ·exact P_
        refine pure_ (i := 1) (N := some 15) (v := ?_) (a' := ?_) #[true, true, false, false, false, false, false, false, false, false, false, false, false, false, false, false] rfl rfl (any_of HT_.out (by kernel_rfl)) (fun _ _ _ h => h) (Or.inl ⟨by rfl, ?_⟩) ?_ ?_
        rotate_left
        ·intro w'
         go_simp
         with_reducible rfl
        rotate_left
        ·exact P_
        refine pure_ (i := 2) (N := some 16) (v := ?_) (a' := ?_) #[true, true, true, false, false, false, false, false, false, false, false, false, false, false, false, false] rfl rfl (any_of HT_.out (by kernel_rfl)) (fun _ _ _ h => h) (Or.inl ⟨by rfl, ?_⟩) ?_ ?_
        rotate_left
        ·intro w'
         go_simp
         with_reducible rfl
        rotate_left
        ·exact P_
        refine pure_ (i := 3) (N := some 17) (v := ?_) (a' := ?_) #[true, true, true, true, false, false, false, false, false, false, false, false, false, false, false, false] rfl rfl (any_of HT_.out (by kernel_rfl)) (fun _ _ _ h => h) (Or.inl ⟨by rfl, ?_⟩) ?_ ?_
        rotate_left
        ·intro w'
         go_simp
         with_reducible rfl
        rotate_left
        ·exact P_
        refine pure_ (i := 4) (N := some 18) (v := ?_) (a' := ?_) #[true, true, true, true, true, false, false, false, false, false, false, false, false, false, false, false] rfl rfl (any_of HT_.out (by kernel_rfl)) (fun _ _ _ h => h) (Or.inl ⟨by rfl, ?_⟩) ?_ ?_
        rotate_left
        ·intro w'
         go_simp
         with_reducible rfl
        rotate_left
        ·exact P_
        refine pure_ (i := 5) (N := some 19) (v := ?_) (a' := ?_) #[true, true, true, true, true, true, false, false, false, false, false, false, false, false, false, false] rfl rfl (any_of HT_.out (by kernel_rfl)) (fun _ _ _ h => h) (Or.inl ⟨by rfl, ?_⟩) ?_ ?_
        rotate_left
        ·intro w'
         go_simp
         with_reducible rfl
        rotate_left
        ·exact P_
        refine pure_ (i := 6) (N := some 20) (v := ?_) (a' := ?_) #[true, true, true, true, true, true, true, false, false, false, false, false, false, false, false, false] rfl rfl (any_of HT_.out (by kernel_rfl)) (fun _ _ _ h => h) (Or.inl ⟨by rfl, ?_⟩) ?_ ?_
        rotate_left
        ·intro w'
         go_simp
         with_reducible rfl
        rotate_left
        ·exact P_
        refine pure_ (i := 8) (N := some 22) (v := ?_) (a' := ?_) #[true, true, true, true, true, true, true, false, true, false, false, false, false, false, false, false] rfl rfl (any_of HT_.out (by kernel_rfl)) (fun _ _ _ h => h) (Or.inl ⟨by rfl, ?_⟩) ?_ ?_
        rotate_left
        ·intro w'
         go_simp
         with_reducible rfl
        rotate_left
        ·exact P_
        refine pure_ (i := 9) (N := some 23) (v := ?_) (a' := ?_) #[true, true, true, true, true, true, true, false, true, true, false, false, false, false, false, false] rfl rfl (any_of HT_.out (by kernel_rfl)) (fun _ _ _ h => h) (Or.inl ⟨by rfl, ?_⟩) ?_ ?_
        rotate_left
        ·intro w'
         go_simp
         with_reducible rfl
        rotate_left
        ·exact P_
        refine pure_ (i := 10) (N := some 24) (v := ?_) (a' := ?_) #[true, true, true, true, true, true, true, false, true, true, true, false, false, false, false, false] rfl rfl (any_of HT_.out (by kernel_rfl)) (fun _ _ _ h => h) (Or.inl ⟨by rfl, ?_⟩) ?_ ?_
        rotate_left
        ·intro w'
         go_simp
         with_reducible rfl
        rotate_left
        ·exact P_
        refine take_ (i := 7) (N := some 21) (v := ?_) (a' := ?_) #[true, true, true, true, true, true, true, true, true, true, true, false, false, false, false, false] rfl rfl (take_ofW HT_.out HW_.out (by kernel_rfl)) (fun _ _ _ h => h) (Or.inl ⟨by rfl, ?_⟩) hHeld ?_ ?_
        rotate_left
        ·rintro w' ⟨s0, s1⟩
         go_simp
         with_reducible rfl
        rotate_left
        ·exact P_
        refine take_ (i := 11) (N := some 25) (v := ?_) (a' := ?_) #[true, true, true, true, true, true, true, true, true, true, true, true, false, false, false, false] rfl rfl (take_ofW HT_.out HW_.out (by kernel_rfl)) (fun _ _ _ h => h) (Or.inl ⟨by rfl, ?_⟩) hHeld ?_ ?_
        rotate_left
        ·rintro w' ⟨s0, s1⟩
         go_simp
         with_reducible rfl
        rotate_left
        ·exact P_
        refine pure_ (i := 12) (N := some 26) (v := ?_) (a' := ?_) #[true, true, true, true, true, true, true, true, true, true, true, true, true, false, false, false] rfl rfl (any_of HT_.out (by kernel_rfl)) (fun _ _ _ h => h) (Or.inl ⟨by rfl, ?_⟩) ?_ ?_
        rotate_left
        ·intro w'
         go_simp
         with_reducible rfl
        rotate_left
        ·exact P_
        refine last_ (i := 13) (N := none) #[true, true, true, true, true, true, true, true, true, true, true, true, true, true, false, false] rfl rfl (one_of HT_.out (by kernel_rfl)) (by decide) (fun K hK => ?_)
        refine skip_ (w1 := ?_) (by rfl) rfl ?_ ?_
        rotate_left
        ·go_simp
         rfl
        refine hK.out _ _ ?_
        clear hK K
        refine pure_ (i := 14) (N := some 27) (v := ?_) (a' := ?_) #[true, true, true, true, true, true, true, true, true, true, true, true, true, true, true, false] rfl rfl (any_of HT_.out (by kernel_rfl)) (fun _ _ _ h => h) (Or.inl ⟨by rfl, ?_⟩) ?_ ?_
        rotate_left
        ·intro w'
         go_simp
         with_reducible rfl
        rotate_left
        ·exact P_
        refine last_ (i := 15) (N := none) #[true, true, true, true, true, true, true, true, true, true, true, true, true, true, true, true] rfl rfl (one_of HT_.out (by kernel_rfl)) (by decide) (fun K hK => ?_)
        refine skip_ (w1 := ?_) (by rfl) rfl ?_ ?_
        rotate_left
        ·go_simp
         rfl
        refine hK.out _ _ ?_
        clear hK K
        refine done_ (done_of HT_.out (by kernel_rfl)) ?_
        try go_wp2
        (try simp only [← hl0_1])
        go_roundg k1
        case measure => have := HK1.out; omega
        case rel => exact ⟨(y169), (wrap64 (x2_1 + 1)), (wrap64 (x3_1 - 1)), (by first | rfl | (simp; done) | (simp [*]; done)), (by first | rfl | (simp; done) | (simp [*]; done)), H', ⟨by have := HK1.out; omega⟩, ⟨by (try simp only [hl0_1]); exact RX_ HQ12.out⟩, ⟨by repeat (first | (with_reducible first | exact HK.out | apply Kept.alloc | apply Kept.drewN | apply Kept.drew | refine Kept.setCell ?_ HMgo8.out _ | refine Kept.setCell ?_ HMgo8.out _) | exact HK.out)⟩, ⟨B1_⟩⟩
       rw [if_neg c7] at H
       exact absurd H (by simp)
      rw [if_neg c6] at H
      exact absurd H (by simp)
     rw [if_neg c5] at H
     exact absurd H (by simp)
    rw [if_neg c4] at H
    exact absurd H (by simp)
   rw [if_neg c3] at H
   have c3b0 : decide (x2_1 < x3_1) = false := decide_eq_false c3
   clear c3
   obtain rfl := Option.some.inj H
   go_wp2
   first | go_end0 | ((try simp only [Exit.inBlock, Exit.then]); refine bodyPost_ret (results_none rfl _ _ _) rfl ?_)
   exact ⟨by first | rfl | (simp [errW_none, errW_some] <;> rfl) | (simp [*, errW_none, errW_some] <;> rfl), (by first | exact (by exact RX_ HO_0.out) | (simp only [hl0_1]; exact (by exact RX_ HO_0.out))), B_, by repeat (first | (with_reducible first | exact HK.out | apply Kept.alloc | apply Kept.drewN | apply Kept.drew) | exact HK.out)⟩

end Go.Proofs.Ytamlaebfpmbefaa.G
