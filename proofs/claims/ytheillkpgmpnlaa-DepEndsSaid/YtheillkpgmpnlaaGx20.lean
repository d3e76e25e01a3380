/- Printed by a program of this session (wip/tools/op.py, over the kit's print program): Go functions as plain Lean functions, each with a proof that the call answers so. Conditions: each theorem's own. -/
import Derived.Test.YtheillkpgmpnlaaGx0
namespace Go.Proofs.Ytheillkpgmpnlaa.G
open Go.Proofs.YtheillkpgmpnlaaH
open Go.RowKit Go.Proofs.YtheillkpgmpnlaaW.PrintWords Go.Proofs.YtheillkpgmpnlaaW.PrintLast Go.Proofs.YtheillkpgmpnlaaW.PrintMore
attribute [local go_sem] max2_int min2_int max_two min_two max_three min_three max_four min_four   -- for this text's walks alone
set_option linter.unusedVariables false
set_option linter.unusedSimpArgs false

/-! ### dep_up: function 23 -/
def dep_up.l0 : Nat → List Int → Int → Int → List (S37) → Int → Option ((List (S37)))
 | 0, _, _, _, _, _ => none
 | k + 1, x0, x1, x2, x7, x8 => if 0 ≤ x1 then (if x1 < (x0.length : Int) then (if x8 = (rd x0 x1) then (some x7) else (if x8 ≥ 0 then (if x7.length < 5864062014805 then (if 0 ≤ x8 then (if x8 < (x0.length : Int) then (dep_up.l0 k x0 x1 x2 (x7 ++ [(⟨x8, x1, x2⟩ : S37)]) (rd x0 x8)) else (none)) else (none)) else (none)) else (some x7))) else (none)) else (none)
def dep_up.f (k : Nat) (l0 : List Int) (a1 : Int) (a2 : Int) : Option ((List (S37))) := dep_up.l0 k l0 a1 a2 ([] : List (S37)) a2
theorem dep_up.mono_l : ∀ k, (∀ y0 y1 y2 y3 y4, LeO (dep_up.l0 k y0 y1 y2 y3 y4) (dep_up.l0 (k + 1) y0 y1 y2 y3 y4))
 | 0 => fun _ _ _ _ _ r h => by simp [dep_up.l0] at h
 | k + 1 => by
  have ih0 := dep_up.mono_l k
  ·intro y0 y1 y2 y3 y4
   unfold dep_up.l0
   repeat' (with_reducible first | exact ih0 _ _ _ _ _ | exact LeO.refl _ | exact LeO.none _ | refine LeO.ite ?_ ?_ | refine LeO.bind ?_ (fun _ => ?_))
theorem dep_up.mono : ∀ a0 a1 a2 k, LeO (dep_up.f k a0 a1 a2) (dep_up.f (k + 1) a0 a1 a2) := by
 intro a0 a1 a2 k
 have ih0 := dep_up.mono_l k
 unfold dep_up.f
 repeat' (with_reducible first | exact ih0 _ _ _ _ _ | exact LeO.refl _ | exact LeO.none _ | refine LeO.ite ?_ ?_ | refine LeO.bind ?_ (fun _ => ?_))
set_option maxHeartbeats 8000000 in
set_option maxRecDepth 100000 in
theorem dep_up.calls (k : Nat) (A0 : Option Addr) (c0 : Nat) (l0 : List Int) (a1 : Int) (a2 : Int) (r : List (S37)) (w : World) (hr0 : Kd.C (Kd.int .i64) w A0 l0.length l0) (hc0 : l0.length ≤ c0) (h : dep_up.f k l0 a1 a2 = some r) :
 Calls Try.prog 23 #[.slice A0 l0.length c0, .int .i64 a1, .int .i64 a2] w fun e w' => ∃ v0_ : Value, e = .returned (v0_) ∧ Kd.R k37 37 w' w.heap.size (fun _ => True) v0_ r ∧ Below w.heap.size w w' := by
 have hu37 := Try.underlying37
 have HR0 := Aside0.mk hr0
 have HC0 := Aside0.mk hc0
 clear hr0 hc0
 have HB := A_ (Below.refl w.heap.size w)
 have H : (dep_up.l0 k l0 a1 a2 ([] : List (S37)) a2) = some r := h
 clear h
 have H' := Aside0.mk H
 clear H
 go_enter Try.func23, Try.ntmps23
 go_wp2
 apply lab_enter 0; (case hf => rfl)
 have H := H'.out
 clear H'
 have H' := Aside0.mk H
 clear H
 go_wp2
 go_step3
 go_step
 try go_step
 apply lab_ghost_at (l := 0) (I := fun (a0_ : Act) (kq_ : Nat) (a_ : Act) (w_ : World) => ∃ u6 u7 u8 u10 u11 u12 u13 u14 u15 u16 u17 u18 u19 u20 u21 u22 u23 u24 u25 u26 u27 u28 u29 u30 u31 : Value, ((fun kq v7 v8 w' => ∃ (x7_1 : List (S37)) (x8_1 : Int), v8 = .int .i64 x8_1 ∧ Aside0 (dep_up.l0 kq l0 a1 a2 x7_1 x8_1 = some r) ∧ Aside0 (kq ≤ k) ∧ Aside0 (Kd.R k37 37 w' w.heap.size (fun _ => True) v7 x7_1) ∧ Aside0 (Below w.heap.size w w')) kq_ u7 u8 w_) ∧ a_ = { tmps := (((((((((((((((((((((((((a0_.tmps.setIfInBounds 6 u6).setIfInBounds 7 u7).setIfInBounds 8 u8).setIfInBounds 10 u10).setIfInBounds 11 u11).setIfInBounds 12 u12).setIfInBounds 13 u13).setIfInBounds 14 u14).setIfInBounds 15 u15).setIfInBounds 16 u16).setIfInBounds 17 u17).setIfInBounds 18 u18).setIfInBounds 19 u19).setIfInBounds 20 u20).setIfInBounds 21 u21).setIfInBounds 22 u22).setIfInBounds 23 u23).setIfInBounds 24 u24).setIfInBounds 25 u25).setIfInBounds 26 u26).setIfInBounds 27 u27).setIfInBounds 28 u28).setIfInBounds 29 u29).setIfInBounds 30 u30).setIfInBounds 31 u31), defers := a0_.defers }) (n₀ := k); (case hf => rfl)
 case h₀ =>
  (repeat apply Exists.intro)
  refine ⟨?_, ?hfr⟩
  (case hfr => (try simp only [List.setIfInBounds_toArray, List.set_cons_zero, List.set_cons_succ]); rfl)
  exact ⟨(([] : List (S37))), (a2), (by first | rfl | (simp; done) | (simp [*]; done)), H', ⟨Nat.le_refl _⟩, ⟨by first | exact Kd.R_nil _ _ _ _ _ | exact Kd.N_nil _ _ _ _ _ | exact Kd.V_nil _ _ _ _ _ | exact Kd.Q_nil _ _ _ _ _ | exact Kd.S_nil _ _ _ _ _⟩, ⟨B_⟩⟩
 intro gk _ wr hinv
 obtain ⟨u6, hinv⟩ := hinv
 obtain ⟨u7, hinv⟩ := hinv
 obtain ⟨u8, hinv⟩ := hinv
 obtain ⟨u10, hinv⟩ := hinv
 obtain ⟨u11, hinv⟩ := hinv
 obtain ⟨u12, hinv⟩ := hinv
 obtain ⟨u13, hinv⟩ := hinv
 obtain ⟨u14, hinv⟩ := hinv
 obtain ⟨u15, hinv⟩ := hinv
 obtain ⟨u16, hinv⟩ := hinv
 obtain ⟨u17, hinv⟩ := hinv
 obtain ⟨u18, hinv⟩ := hinv
 obtain ⟨u19, hinv⟩ := hinv
 obtain ⟨u20, hinv⟩ := hinv
 obtain ⟨u21, hinv⟩ := hinv
 obtain ⟨u22, hinv⟩ := hinv
 obtain ⟨u23, hinv⟩ := hinv
 obtain ⟨u24, hinv⟩ := hinv
 obtain ⟨u25, hinv⟩ := hinv
 obtain ⟨u26, hinv⟩ := hinv
 obtain ⟨u27, hinv⟩ := hinv
 obtain ⟨u28, hinv⟩ := hinv
 obtain ⟨u29, hinv⟩ := hinv
 obtain ⟨u30, hinv⟩ := hinv
 obtain ⟨u31, hinv⟩ := hinv
 obtain ⟨hrel, ha⟩ := hinv; subst ha
 intro _ _ hJ_ hK_
 (try simp only [List.setIfInBounds_toArray, List.set_cons_zero, List.set_cons_succ])
 (try simp only [List.setIfInBounds_toArray, List.set_cons_zero, List.set_cons_succ] at hJ_)
 clear H'
 obtain ⟨x7_1, x8_1, rfl, HA, HK1, HO_7, HB⟩ := hrel
 cases gk with
 | zero => exact absurd HA.out (by simp [dep_up.l0])
 | succ k1 =>
  have H := HA.out
  clear HA
  simp only [dep_up.l0] at H
  by_cases c4 : 0 ≤ a1
  ·rw [if_pos c4] at H
   have c4b0 : decide (0 ≤ a1) = true := decide_eq_true c4
   clear c4
   by_cases c5 : a1 < (l0.length : Int)
   ·rw [if_pos c5] at H
    have c5b0 : decide (a1 < (l0.length : Int)) = true := decide_eq_true c5
    clear c5
    by_cases c6 : x8_1 = (rd l0 a1)
    ·rw [if_pos c6] at H
     have c6b0 : (x8_1 == (rd l0 a1)) = true := beq_iff_eq.mpr c6
     have c6b1 : (x8_1 != (rd l0 a1)) = false := bne_eq_false_iff_eq.mpr c6
     clear c6
     obtain rfl := Option.some.inj H
     have p269 : 0 ≤ (a1 : Int) := D_
     have q269 : a1 < (l0.length : Int) := D_
     obtain ⟨ad269, e269, hx269_0⟩ := Kd.at_int HR0.out a1 p269 q269
     cases e269
     replace hx269_0 := (HB.out.cell (World.block_lt_of_cell? w _ hx269_0)).trans hx269_0
     replace p269 := eq_true p269
     replace q269 := eq_true q269
     go_wp2
     (try simp only [jumpg_ret, Exit.then, Exit.inBlock])
     go_ret
     exact ⟨_, by first | rfl | (simp [errW_none, errW_some] <;> rfl) | (simp [*, errW_none, errW_some] <;> rfl), by exact RX_ HO_7.out, B_⟩
    rw [if_neg c6] at H
    have c6b0 : (x8_1 == (rd l0 a1)) = false := beq_eq_false_iff_ne.mpr c6
    have c6b1 : (x8_1 != (rd l0 a1)) = true := bne_iff_ne.mpr c6
    by_cases c7 : x8_1 ≥ 0
    ·rw [if_pos c7] at H
     have c7b0 : decide (0 ≤ x8_1) = true := decide_eq_true c7
     clear c7
     by_cases c8 : x7_1.length < 5864062014805
     ·rw [if_pos c8] at H
      have LMc8 := Aside0.mk c8
      clear c8
      obtain ⟨y270, hy270⟩ : ∃ y_ : List (S37), y_ = (x7_1 ++ [(⟨x8_1, a1, a2⟩ : S37)]) := ⟨_, rfl⟩
      replace H : (if 0 ≤ x8_1 then (if x8_1 < (l0.length : Int) then (dep_up.l0 k1 l0 a1 a2 y270 (rd l0 x8_1)) else (none)) else (none)) = some r := by first | (rw [hy270]; with_reducible exact H) | (have H2_ := (Option.bind_some _ _).symm.trans H; rw [hy270]; with_reducible exact H2_) | (have H2_ := (Option.bind_some _ _).symm.trans H; with_reducible exact H2_) | with_reducible exact H | (rw [hy270]; exact H) | exact H
      have Ny270 := Aside0.mk hy270
      clear hy270
      by_cases c9 : 0 ≤ x8_1
      ·rw [if_pos c9] at H
       have c9b0 : decide (0 ≤ x8_1) = true := decide_eq_true c9
       clear c9
       by_cases c10 : x8_1 < (l0.length : Int)
       ·rw [if_pos c10] at H
        have c10b0 : decide (x8_1 < (l0.length : Int)) = true := decide_eq_true c10
        clear c10
        have H' := Aside0.mk H
        clear H
        have p269 : 0 ≤ (a1 : Int) := D_
        have q269 : a1 < (l0.length : Int) := D_
        obtain ⟨ad269, e269, hx269_0⟩ := Kd.at_int HR0.out a1 p269 q269
        cases e269
        replace hx269_0 := (HB.out.cell (World.block_lt_of_cell? w _ hx269_0)).trans hx269_0
        replace p269 := eq_true p269
        replace q269 := eq_true q269
        go_wp2_with (first | ((with_reducible refine gate_builtin (b := .append) (xs := #[.tmp 20, .tmp 25]) rfl ?_); at_builtin; refine Kd.R_append k37 (w0 := w) w.heap.size rfl (.tmp 20) (.tmp 25) 28 37 (.agg #[(.int .i64 0), (.int .i64 0), (.int .i64 0)]) 24 rfl Try.underlying28 info37 rfl (by decide) (by omega) u7 x7_1 (⟨x8_1, a1, a2⟩ : S37) [.int .i64 x8_1, .int .i64 a1, .int .i64 a2] (fun _ => True) (fun _ => False) rfl rfl ?aP (fun _ hk => hk.elim) ?aF ?aO ?aB ?aS ?aL ?_; (case aP => exact k37_mkM _ _ _ (⟨x8_1, a1, a2⟩ : S37)); (case aB => exact (B_)); (case aF => exact (fun _ _ => trivial)); (case aO => exact (by exact RX_ HO_7.out)); (case aS => exact (below_size (B_))); (case aL => have := LMc8.out; omega); intro v271 w11 ho hb hg hat; rw [← Ny270.out] at ho; replace HB := A_ (hb); have HO272 := A_ (ho); clear HO_7; clear ho hb hg hat; have p273 : 0 ≤ (x8_1 : Int) := D_; have q273 : x8_1 < (l0.length : Int) := D_; obtain ⟨ad273, e273, hx273_0⟩ := Kd.at_int HR0.out x8_1 p273 q273; obtain rfl : ad269 = ad273 := (by injection e273); replace hx273_0 := (HB.out.cell (World.block_lt_of_cell? w _ hx273_0)).trans hx273_0; replace p273 := eq_true p273; replace q273 := eq_true q273))
        go_step3
        try simp only [jumpg_goto, Exit.then, Exit.inBlock]
        go_step
        go_roundg k1
        case measure => have := HK1.out; omega
        case rel => exact ⟨(y270), (rd l0 x8_1), (by first | rfl | (simp; done) | (simp [*]; done)), H', ⟨by have := HK1.out; omega⟩, ⟨by exact RM_ HO272.out⟩, ⟨B_⟩⟩
       rw [if_neg c10] at H
       exact absurd H (by simp)
      rw [if_neg c9] at H
      exact absurd H (by simp)
     rw [if_neg c8] at H
     exact absurd H (by simp)
    rw [if_neg c7] at H
    have c7b0 : decide (0 ≤ x8_1) = false := decide_eq_false c7
    clear c7
    obtain rfl := Option.some.inj H
    have p269 : 0 ≤ (a1 : Int) := D_
    have q269 : a1 < (l0.length : Int) := D_
    obtain ⟨ad269, e269, hx269_0⟩ := Kd.at_int HR0.out a1 p269 q269
    cases e269
    replace hx269_0 := (HB.out.cell (World.block_lt_of_cell? w _ hx269_0)).trans hx269_0
    replace p269 := eq_true p269
    replace q269 := eq_true q269
    go_wp2
    (try simp only [jumpg_ret, Exit.then, Exit.inBlock])
    go_ret
    exact ⟨_, by first | rfl | (simp [errW_none, errW_some] <;> rfl) | (simp [*, errW_none, errW_some] <;> rfl), by exact RX_ HO_7.out, B_⟩
   rw [if_neg c5] at H
   exact absurd H (by simp)
  rw [if_neg c4] at H
  exact absurd H (by simp)

-- NOT PRINTED: function 63 (api_Dep_63)

-- NOT PRINTED: function 86 (api_Dep_86)

-- NOT PRINTED: function 64 (api_Dep_64)

-- NOT PRINTED: function 71 (bits_Len32)

-- NOT PRINTED: function 72 (bits_Len64)

end Go.Proofs.Ytheillkpgmpnlaa.G
