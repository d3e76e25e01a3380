/- Texts of this session, joined by wip/tools/merge.py. Conditions: each theorem's own. -/
import Derived.Test.YtblhphjdjpodcaaQx0
import Derived.Test.YtblhphjdjpodcaaMKindLooksc
import Derived.ChangeKeysEq
namespace Go.Proofs.Ytblhphjdjpodcaa.Q
open Go.Proofs.YtblhphjdjpodcaaH
open Go.RowKit Go.Proofs.YtblhphjdjpodcaaW.PrintWords Go.Proofs.YtblhphjdjpodcaaW.PrintLast Go.Proofs.YtblhphjdjpodcaaW.PrintMore
attribute [local go_sem] max2_int min2_int max_two min_two max_three min_three max_four min_four   -- for this text's walks alone
set_option linter.unusedVariables false
set_option linter.unusedSimpArgs false

/-! ### lockstepref03_May: function 14 -/
mutual
def lockstepref03_May.j0 : Nat → Bool → Int → Int → Int → Int → List Int → Int → Option (Bool)
 | 0, _, _, _, _, _, _, _ => none
 | k + 1, x22, x183000, x183001, x183002, x183003, x183004, x183005 => if x22 = true then (some false) else (lockstepref03_May.l0 k 0 x183000 x183001 x183002 x183003 x183004 x183005)
def lockstepref03_May.l0 : Nat → Int → Int → Int → Int → Int → List Int → Int → Option (Bool)
 | 0, _, _, _, _, _, _, _ => none
 | k + 1, x3, x183000, x183001, x183002, x183003, x183004, x183005 => if x3 < (x183004.length : Int) then (if 0 ≤ x3 then ((lockstepref03_Value.f (rd x183004 x3)).bind fun t187 => (if t187 = true then (lockstepref03_May.l0 k (wrap64 (x3 + 1)) x183000 x183001 x183002 x183003 x183004 x183005) else (some false))) else (none)) else (if x183000 = 17 then (some (x183003 == 0)) else (if x183000 = 19 then (some (x183003 == 0)) else ((lockstepref03_Value.f x183003).bind fun t188 => (some t188))))
end
def lockstepref03_May.f (k : Nat) (a0_0 : Int) (a0_1 : Int) (a0_2 : Int) (a0_3 : Int) (l0_4 : List Int) (a0_5 : Int) : Option (Bool) := (lockstepref03_Shape.f a0_1 a0_2).bind fun t183 => (if t183 = true then ((lockstepref03_Args.f k a0_0 a0_1 a0_2 a0_3 l0_4 a0_5).bind fun t184 => (if t184 = (l0_4.length : Int) then ((lockstepref03_Fits.f k a0_0 a0_1 a0_2 a0_3 l0_4 a0_5).bind fun t185 => (lockstepref03_May.j0 k (!t185) a0_0 a0_1 a0_2 a0_3 l0_4 a0_5)) else (lockstepref03_May.j0 k true a0_0 a0_1 a0_2 a0_3 l0_4 a0_5))) else (lockstepref03_May.j0 k true a0_0 a0_1 a0_2 a0_3 l0_4 a0_5))
theorem lockstepref03_May.mono_l : ∀ k, (∀ y0 y1 y2 y3 y4 y5 y6, LeO (lockstepref03_May.j0 k y0 y1 y2 y3 y4 y5 y6) (lockstepref03_May.j0 (k + 1) y0 y1 y2 y3 y4 y5 y6)) ∧ (∀ y0 y1 y2 y3 y4 y5 y6, LeO (lockstepref03_May.l0 k y0 y1 y2 y3 y4 y5 y6) (lockstepref03_May.l0 (k + 1) y0 y1 y2 y3 y4 y5 y6))
 | 0 => ⟨fun _ _ _ _ _ _ _ r h => by simp [lockstepref03_May.j0] at h, fun _ _ _ _ _ _ _ r h => by simp [lockstepref03_May.l0] at h⟩
 | k + 1 => by
  obtain ⟨ih0, ih1⟩ := lockstepref03_May.mono_l k
  refine ⟨?_, ?_⟩
  ·intro y0 y1 y2 y3 y4 y5 y6
   unfold lockstepref03_May.j0
   repeat' first
   | (with_reducible exact ih0 _ _ _ _ _ _ _)
   | (with_reducible exact ih1 _ _ _ _ _ _ _)
   | (with_reducible exact lockstepref03_Args.mono _ _ _ _ _ _ _)
   | (with_reducible exact lockstepref03_Fits.mono _ _ _ _ _ _ _)
   | (with_reducible exact LeO.refl _)
   | (with_reducible exact LeO.none _)
   | (with_reducible refine LeO.ite ?_ ?_)
   | (with_reducible refine LeO.bind ?_ (fun _ => ?_))
   | exact ih0 _ _ _ _ _ _ _
   | exact ih1 _ _ _ _ _ _ _
   | exact lockstepref03_Args.mono _ _ _ _ _ _ _
   | exact lockstepref03_Fits.mono _ _ _ _ _ _ _
   | exact LeO.none _
   | refine LeO.ite ?_ ?_
   | refine LeO.bind ?_ (fun _ => ?_)
  ·intro y0 y1 y2 y3 y4 y5 y6
   unfold lockstepref03_May.l0
   repeat' first
   | (with_reducible exact ih0 _ _ _ _ _ _ _)
   | (with_reducible exact ih1 _ _ _ _ _ _ _)
   | (with_reducible exact lockstepref03_Args.mono _ _ _ _ _ _ _)
   | (with_reducible exact lockstepref03_Fits.mono _ _ _ _ _ _ _)
   | (with_reducible exact LeO.refl _)
   | (with_reducible exact LeO.none _)
   | (with_reducible refine LeO.ite ?_ ?_)
   | (with_reducible refine LeO.bind ?_ (fun _ => ?_))
   | exact ih0 _ _ _ _ _ _ _
   | exact ih1 _ _ _ _ _ _ _
   | exact lockstepref03_Args.mono _ _ _ _ _ _ _
   | exact lockstepref03_Fits.mono _ _ _ _ _ _ _
   | exact LeO.none _
   | refine LeO.ite ?_ ?_
   | refine LeO.bind ?_ (fun _ => ?_)
theorem lockstepref03_May.mono : ∀ a0 a1 a2 a3 a4 a5 k, LeO (lockstepref03_May.f k a0 a1 a2 a3 a4 a5) (lockstepref03_May.f (k + 1) a0 a1 a2 a3 a4 a5) := by
 intro a0 a1 a2 a3 a4 a5 k
 obtain ⟨ih0, ih1⟩ := lockstepref03_May.mono_l k
 unfold lockstepref03_May.f
 repeat' first
  | (with_reducible exact ih0 _ _ _ _ _ _ _)
  | (with_reducible exact ih1 _ _ _ _ _ _ _)
  | (with_reducible exact lockstepref03_Args.mono _ _ _ _ _ _ _)
  | (with_reducible exact lockstepref03_Fits.mono _ _ _ _ _ _ _)
  | (with_reducible exact LeO.refl _)
  | (with_reducible exact LeO.none _)
  | (with_reducible refine LeO.ite ?_ ?_)
  | (with_reducible refine LeO.bind ?_ (fun _ => ?_))
  | exact ih0 _ _ _ _ _ _ _
  | exact ih1 _ _ _ _ _ _ _
  | exact lockstepref03_Args.mono _ _ _ _ _ _ _
  | exact lockstepref03_Fits.mono _ _ _ _ _ _ _
  | exact LeO.none _
  | refine LeO.ite ?_ ?_
  | refine LeO.bind ?_ (fun _ => ?_)
def lockstepref03_May.T1 : Bool × List (List Nat × List Nat) := (true, [([], []), ([0], [0]), ([], []), ([2], [2]), ([1, 3], [1, 3]), ([4], [4]), ([5, 4], [5]), ([6], [6]), ([7, 6, 6], [6, 7]), ([6], [6]), ([9, 6], [6, 9]), ([10, 6], [6, 10]), ([8, 11, 6], [6, 8, 11]), ([6, 12], [6, 12]), ([13, 8], [13]), ([14], [14]), ([15, 14, 14], [14, 15]), ([16, 14], [14, 16]), ([14, 17], [14, 17])])
def lockstepref03_May.B1 : List Nat := [0, 1, 0, 4, 15, 31, 63, 127, 255, 127, 639, 1663, 4095, 8191, 16383, 32767, 65535, 131071, 262143]
theorem lockstepref03_May.tab1 : rtab .any (opsOf Try.f14 1) = lockstepref03_May.T1 := by kernel_rfl
theorem lockstepref03_May.bits1 : waitsOk lockstepref03_May.T1.2 lockstepref03_May.B1 = true := by kernel_rfl
set_option maxHeartbeats 8000000 in
set_option maxRecDepth 100000 in
theorem lockstepref03_May.calls (k : Nat) (a0_0 : Int) (a0_1 : Int) (a0_2 : Int) (a0_3 : Int) (A0_4 : Option Addr) (c0_4 : Nat) (l0_4 : List Int) (a0_5 : Int) (r : Bool) (w : World) (hr0_4 : Kd.C (Kd.int .i64) w A0_4 l0_4.length l0_4) (hc0_4 : l0_4.length ≤ c0_4) (h : lockstepref03_May.f k a0_0 a0_1 a0_2 a0_3 l0_4 a0_5 = some r) :
 Calls Try.prog 14 #[.agg #[.int .i64 a0_0, .int .i64 a0_1, .int .i64 a0_2, .int .i64 a0_3, .slice A0_4 l0_4.length c0_4, .int .u64 a0_5]] w fun e w' => e = .returned (.bool r) ∧ Below w.heap.size w w' := by
 have hu27 := Try.underlying27
 have HR0_4 := Aside0.mk hr0_4
 have HC0_4 := Aside0.mk hc0_4
 clear hr0_4 hc0_4
 have HB := Aside0.mk (Below.refl w.heap.size w)
 have H : ((lockstepref03_Shape.f a0_1 a0_2).bind fun t183 => (if t183 = true then ((lockstepref03_Args.f k a0_0 a0_1 a0_2 a0_3 l0_4 a0_5).bind fun t184 => (if t184 = (l0_4.length : Int) then ((lockstepref03_Fits.f k a0_0 a0_1 a0_2 a0_3 l0_4 a0_5).bind fun t185 => (lockstepref03_May.j0 k (!t185) a0_0 a0_1 a0_2 a0_3 l0_4 a0_5)) else (lockstepref03_May.j0 k true a0_0 a0_1 a0_2 a0_3 l0_4 a0_5))) else (lockstepref03_May.j0 k true a0_0 a0_1 a0_2 a0_3 l0_4 a0_5))) = some r := h
 clear h
 have HC2 := Aside0.mk H
 clear H
 go_enter Try.func14, Try.ntmps14
 go_upto_region 1 with (first | ((with_reducible refine gate_dst (N := 1) rfl ?_); (try (refine gate_guard (by rfl) ?_; dsimp only)); refine box_event ?hg (N := 1) ?hd (cs := #[.int .i64 a0_0, .int .i64 a0_1, .int .i64 a0_2, .int .i64 a0_3, .slice A0_4 l0_4.length c0_4, .int .u64 a0_5]) (t := 27) ?hr ?_; (case hd => rfl); (case hg => rfl); (case hr => first | (go_simp; done) | (go_simp; rfl)); intro gb182 hg w3 hbox hb; have n0_ := Aside0.mk (below_step (B_) hb); have n1_ := Aside0.mk (hbox); have n2_ := Aside0.mk ((by rw [hg]; exact (below_size (B_)) : w.heap.size ≤ gb182)); have n3_ := Aside0.mk ((by rw [hg]; exact (below_size (B_)) : w.heap.size ≤ gb182)); clear HB; have HB := n0_; have BK182 := n1_; have GW182 := n2_; have GE182 := n3_; clear n0_ n1_ n2_ n3_; clear hb hbox hg))
 (try simp only [Act.put, List.setIfInBounds_toArray, List.set_cons_zero, List.set_cons_succ])
 go_cut [22] (fun v22 wc => ∃ (kq : Nat) (x22_1 : Bool), v22 = .bool x22_1 ∧ Aside0 (lockstepref03_May.j0 kq x22_1 a0_0 a0_1 a0_2 a0_3 l0_4 a0_5 = some r) ∧ Aside0 (kq ≤ k) ∧ Aside0 (wc.heap[gb182]? = some (.cells #[.int .i64 a0_0, .int .i64 a0_1, .int .i64 a0_2, .int .i64 a0_3, (.slice A0_4 l0_4.length c0_4), .int .u64 a0_5] 27 (0, 0))) ∧ Aside0 (Below w.heap.size w wc))
 case first =>
  have H := HC2.out
  clear HC2
  replace H := Option.bind_eq_some_iff.mp H
  obtain ⟨t183, A40, H⟩ := H
  replace H : (if t183 = true then ((lockstepref03_Args.f k a0_0 a0_1 a0_2 a0_3 l0_4 a0_5).bind fun t184 => (if t184 = (l0_4.length : Int) then ((lockstepref03_Fits.f k a0_0 a0_1 a0_2 a0_3 l0_4 a0_5).bind fun t185 => (lockstepref03_May.j0 k (!t185) a0_0 a0_1 a0_2 a0_3 l0_4 a0_5)) else (lockstepref03_May.j0 k true a0_0 a0_1 a0_2 a0_3 l0_4 a0_5))) else (lockstepref03_May.j0 k true a0_0 a0_1 a0_2 a0_3 l0_4 a0_5)) = some r := H
  have A4 := Aside0.mk A40
  clear A40
  by_cases c5 : t183 = true
  ·subst c5
   have H1 : ((lockstepref03_Args.f k a0_0 a0_1 a0_2 a0_3 l0_4 a0_5).bind fun t184 => (if t184 = (l0_4.length : Int) then ((lockstepref03_Fits.f k a0_0 a0_1 a0_2 a0_3 l0_4 a0_5).bind fun t185 => (lockstepref03_May.j0 k (!t185) a0_0 a0_1 a0_2 a0_3 l0_4 a0_5)) else (lockstepref03_May.j0 k true a0_0 a0_1 a0_2 a0_3 l0_4 a0_5))) = some r := by rw [if_pos rfl] at H; exact H
   clear H
   have H := H1
   clear H1
   replace H := Option.bind_eq_some_iff.mp H
   obtain ⟨t184, A60, H⟩ := H
   replace H : (if t184 = (l0_4.length : Int) then ((lockstepref03_Fits.f k a0_0 a0_1 a0_2 a0_3 l0_4 a0_5).bind fun t185 => (lockstepref03_May.j0 k (!t185) a0_0 a0_1 a0_2 a0_3 l0_4 a0_5)) else (lockstepref03_May.j0 k true a0_0 a0_1 a0_2 a0_3 l0_4 a0_5)) = some r := H
   have A6 := Aside0.mk A60
   clear A60
   by_cases c7 : t184 = (l0_4.length : Int)
   ·rw [if_pos c7] at H
    have c7b0 : (t184 == (l0_4.length : Int)) = true := beq_iff_eq.mpr c7
    have c7b1 : (t184 != (l0_4.length : Int)) = false := bne_eq_false_iff_eq.mpr c7
    clear c7
    (first | rw [c7b0] | (simp only [i64_w, i32_w]; rw [c7b0]) | skip)
    replace H := Option.bind_eq_some_iff.mp H
    obtain ⟨t185, A80, H⟩ := H
    replace H : (lockstepref03_May.j0 k (!t185) a0_0 a0_1 a0_2 a0_3 l0_4 a0_5) = some r := H
    have A8 := Aside0.mk A80
    clear A80
    have H' := Aside0.mk H
    clear H
    try go_wp2
    have n0_ := Aside0.mk (blk_drew BK182.out)
    have n1_ := Aside0.mk (below_drew1 HB.out)
    clear BK182
    clear HB
    have BK182 := n0_
    have HB := n1_
    clear n0_ n1_
    refine start_ (n := 19) (S := fun w' => w'.cell? ⟨gb182, 0, none⟩ = some (.int .i64 a0_0) ∧ w'.cell? ⟨gb182, 1, none⟩ = some (.int .i64 a0_1) ∧ w'.cell? ⟨gb182, 2, none⟩ = some (.int .i64 a0_2) ∧ w'.cell? ⟨gb182, 3, none⟩ = some (.int .i64 a0_3) ∧ w'.cell? ⟨gb182, 4, none⟩ = some (.slice A0_4 l0_4.length c0_4) ∧ w'.cell? ⟨gb182, 5, none⟩ = some (.int .u64 a0_5)) (ds := []) #[F_,F_,F_,F_,F_,F_,F_,F_,F_,F_,F_,F_,F_,F_,F_,F_,F_,F_,F_] (by kernel_rfl) rfl rfl ⟨(blk_cell BK182.out 0).trans rfl, (blk_cell BK182.out 1).trans rfl, (blk_cell BK182.out 2).trans rfl, (blk_cell BK182.out 3).trans rfl, (blk_cell BK182.out 4).trans rfl, (blk_cell BK182.out 5).trans rfl⟩ (fun hHeld => ?_); refine with_tabW lockstepref03_May.tab1 lockstepref03_May.bits1 (fun HT_ HW_ => ?_)
    generalize w3.drew = w9 at BK182 HB hHeld ⊢
    refine pure_ (i := 0) (N := some 4) (v := ?_) (a' := ?_) #[T_,F_,F_,F_,F_,F_,F_,F_,F_,F_,F_,F_,F_,F_,F_,F_,F_,F_,F_] rfl rfl (any_of HT_.out (by kernel_rfl)) (fun _ _ _ h => h) (Or.inl ⟨by rfl, ?_⟩) ?_ ?_
    rotate_left
    ·intro w'
     go_simp
     with_reducible rfl
    rotate_left
    ·simp only [Act.put, List.setIfInBounds_toArray, List.set_cons_zero, List.set_cons_succ, i64_w, i32_w]
     rfl
    refine pure_ (i := 2) (N := some 6) (v := ?_) (a' := ?_) #[T_,F_,T_,F_,F_,F_,F_,F_,F_,F_,F_,F_,F_,F_,F_,F_,F_,F_,F_] rfl rfl (any_of HT_.out (by kernel_rfl)) (fun _ _ _ h => h) (Or.inl ⟨by rfl, ?_⟩) ?_ ?_
    rotate_left
    ·intro w'
     go_simp
     with_reducible rfl
    rotate_left
    ·simp only [Act.put, List.setIfInBounds_toArray, List.set_cons_zero, List.set_cons_succ, i64_w, i32_w]
     rfl
    refine take_ (i := 1) (N := some 5) (v := ?_) (a' := ?_) #[T_,T_,T_,F_,F_,F_,F_,F_,F_,F_,F_,F_,F_,F_,F_,F_,F_,F_,F_] rfl rfl (take_ofW HT_.out HW_.out (by kernel_rfl)) (fun _ _ _ h => h) (Or.inl ⟨by rfl, ?_⟩) hHeld ?_ ?_
    rotate_left
    ·rintro w' ⟨s0, s1, s2, s3, s4, s5⟩
     go_simp
     with_reducible rfl
    rotate_left
    ·simp only [Act.put, List.setIfInBounds_toArray, List.set_cons_zero, List.set_cons_succ, i64_w, i32_w]
     rfl
    refine take_ (i := 3) (N := some 7) (v := ?_) (a' := ?_) #[T_,T_,T_,T_,F_,F_,F_,F_,F_,F_,F_,F_,F_,F_,F_,F_,F_,F_,F_] rfl rfl (take_ofW HT_.out HW_.out (by kernel_rfl)) (fun _ _ _ h => h) (Or.inl ⟨by rfl, ?_⟩) hHeld ?_ ?_
    rotate_left
    ·rintro w' ⟨s0, s1, s2, s3, s4, s5⟩
     go_simp
     with_reducible rfl
    rotate_left
    ·simp only [Act.put, List.setIfInBounds_toArray, List.set_cons_zero, List.set_cons_succ, i64_w, i32_w]
     rfl
    refine one_ (i := 4) (N := some 8) #[T_,T_,T_,T_,T_,F_,F_,F_,F_,F_,F_,F_,F_,F_,F_,F_,F_,F_,F_] rfl rfl (one_of HT_.out (by kernel_rfl)) (by decide) (fun K hK => ?_)
    refine goes_ Try.func18 (by kernel_rfl) rfl #[.int .i64 a0_1, .int .i64 a0_2] (by rfl) rfl rfl (by (try simp only [List.map_toArray, List.map_cons, List.map_nil]); first | done | rfl | (simp only [List.length_drop, List.length_take]; rfl)) ?_
    with_reducible refine (lockstepref03_Shape.calls a0_1 a0_2 true _ A4.out).mono ?_
    rintro e w' ⟨rfl, ⟨nd, rfl⟩⟩
    refine ⟨_, rfl, ?_⟩
    refine hK.out _ _ ⟨(blk_cell BK182.out 0).trans rfl, (blk_cell BK182.out 1).trans rfl, (blk_cell BK182.out 2).trans rfl, (blk_cell BK182.out 3).trans rfl, (blk_cell BK182.out 4).trans rfl, (blk_cell BK182.out 5).trans rfl⟩ (fun hHeld => ?_)
    clear hK K
    refine norm_ (a' := ?_) ?_ ?_
    rotate_left
    ·show Act.put _ (some 8) _ = _
     simp only [Act.put, List.setIfInBounds_toArray, List.set_cons_zero, List.set_cons_succ, i64_w, i32_w]
     rfl
    refine pure_ (i := 5) (N := some 9) (v := ?_) (a' := ?_) #[T_,T_,T_,T_,T_,T_,F_,F_,F_,F_,F_,F_,F_,F_,F_,F_,F_,F_,F_] rfl rfl (any_of HT_.out (by kernel_rfl)) (fun _ _ _ h => h) (Or.inl ⟨by rfl, ?_⟩) ?_ ?_
    rotate_left
    ·intro w'
     go_simp
     with_reducible rfl
    rotate_left
    ·simp only [Act.put, List.setIfInBounds_toArray, List.set_cons_zero, List.set_cons_succ, i64_w, i32_w]
     rfl
    refine pure_ (i := 6) (N := some 10) (v := ?_) (a' := ?_) #[T_,T_,T_,T_,T_,T_,T_,F_,F_,F_,F_,F_,F_,F_,F_,F_,F_,F_,F_] rfl rfl (any_of HT_.out (by kernel_rfl)) (fun _ _ _ h => h) (Or.inl ⟨by rfl, ?_⟩) ?_ ?_
    rotate_left
    ·intro w'
     go_simp
     with_reducible rfl
    rotate_left
    ·simp only [Act.put, List.setIfInBounds_toArray, List.set_cons_zero, List.set_cons_succ, i64_w, i32_w]
     rfl
    refine pure_ (i := 9) (N := some 13) (v := ?_) (a' := ?_) #[T_,T_,T_,T_,T_,T_,T_,F_,F_,T_,F_,F_,F_,F_,F_,F_,F_,F_,F_] rfl rfl (any_of HT_.out (by kernel_rfl)) (fun _ _ _ h => h) (Or.inl ⟨by rfl, ?_⟩) ?_ ?_
    rotate_left
    ·intro w'
     go_simp
     with_reducible rfl
    rotate_left
    ·simp only [Act.put, List.setIfInBounds_toArray, List.set_cons_zero, List.set_cons_succ, i64_w, i32_w]
     rfl
    refine take_ (i := 7) (N := some 11) (v := ?_) (a' := ?_) #[T_,T_,T_,T_,T_,T_,T_,T_,F_,T_,F_,F_,F_,F_,F_,F_,F_,F_,F_] rfl rfl (take_ofW HT_.out HW_.out (by kernel_rfl)) (fun _ _ _ h => h) (Or.inl ⟨by rfl, ?_⟩) hHeld ?_ ?_
    rotate_left
    ·rintro w' ⟨s0, s1, s2, s3, s4, s5⟩
     go_simp
     with_reducible rfl
    rotate_left
    ·simp only [Act.put, List.setIfInBounds_toArray, List.set_cons_zero, List.set_cons_succ, i64_w, i32_w]
     rfl
    refine take_ (i := 10) (N := some 14) (v := ?_) (a' := ?_) #[T_,T_,T_,T_,T_,T_,T_,T_,F_,T_,T_,F_,F_,F_,F_,F_,F_,F_,F_] rfl rfl (take_ofW HT_.out HW_.out (by kernel_rfl)) (fun _ _ _ h => h) (Or.inl ⟨by rfl, ?_⟩) hHeld ?_ ?_
    rotate_left
    ·rintro w' ⟨s0, s1, s2, s3, s4, s5⟩
     go_simp
     with_reducible rfl
    rotate_left
    ·simp only [Act.put, List.setIfInBounds_toArray, List.set_cons_zero, List.set_cons_succ, i64_w, i32_w]
     rfl
    refine pure_ (i := 11) (N := some 15) (v := ?_) (a' := ?_) #[T_,T_,T_,T_,T_,T_,T_,T_,F_,T_,T_,T_,F_,F_,F_,F_,F_,F_,F_] rfl rfl (any_of HT_.out (by kernel_rfl)) (fun _ _ _ h => h) (Or.inl ⟨by rfl, ?_⟩) ?_ ?_
    rotate_left
    ·intro w'
     go_simp
     with_reducible rfl
    rotate_left
    ·simp only [Act.put, List.setIfInBounds_toArray, List.set_cons_zero, List.set_cons_succ, i64_w, i32_w]
     rfl
    refine one_ (i := 8) (N := some 12) #[T_,T_,T_,T_,T_,T_,T_,T_,T_,T_,T_,T_,F_,F_,F_,F_,F_,F_,F_] rfl rfl (one_of HT_.out (by kernel_rfl)) (by decide) (fun K hK => ?_)
    refine goes_ Try.func29 (by kernel_rfl) rfl #[.agg #[.int .i64 a0_0, .int .i64 a0_1, .int .i64 a0_2, .int .i64 a0_3, .slice A0_4 l0_4.length c0_4, .int .u64 a0_5]] (by rfl) rfl rfl (by (try simp only [List.map_toArray, List.map_cons, List.map_nil]); first | done | rfl | (simp only [List.length_drop, List.length_take]; rfl)) ?_
    with_reducible refine (lockstepref03_Args.calls k a0_0 a0_1 a0_2 a0_3 _ _ l0_4 a0_5 t184 _ ?side1 ?side2 A6.out).mono ?_
    (case side1 => repeat (first | exact (Kd.C_below HR0_4.out (B1_)) | (with_reducible refine Kd.C_alloc ?_ _) | (with_reducible refine Kd.C_drewN ?_ _) | (with_reducible refine Kd.C_drew ?_)))
    (case side2 => exact HC0_4.out)
    rintro e w10 ⟨rfl, hb⟩
    refine ⟨_, rfl, ?_⟩
    have n0_ := Aside0.mk (blk_below (g := gb182) (o := .cells #[.int .i64 a0_0, .int .i64 a0_1, .int .i64 a0_2, .int .i64 a0_3, .slice A0_4 l0_4.length c0_4, .int .u64 a0_5] 27 (0, 0)) (by (with_reducible repeat (first | refine blk_drewN ?_ _ | refine blk_drew ?_ | refine blk_alloc ?_ _)); exact BK182.out) hb)
    have n1_ := Aside0.mk (below_step (B1_) hb)
    clear BK182
    clear HB
    have BK182 := n0_
    have HB := n1_
    clear n0_ n1_
    (try clear hb)
    (try clear hb2)
    (try clear hk)
    (try clear hi)
    refine hK.out _ _ ⟨(blk_cell BK182.out 0).trans rfl, (blk_cell BK182.out 1).trans rfl, (blk_cell BK182.out 2).trans rfl, (blk_cell BK182.out 3).trans rfl, (blk_cell BK182.out 4).trans rfl, (blk_cell BK182.out 5).trans rfl⟩ (fun hHeld => ?_)
    clear hK K
    refine norm_ (a' := ?_) ?_ ?_
    rotate_left
    ·show Act.put _ (some 12) _ = _
     simp only [Act.put, List.setIfInBounds_toArray, List.set_cons_zero, List.set_cons_succ, i64_w, i32_w]
     rfl
    refine pure_ (i := 12) (N := some 16) (v := ?_) (a' := ?_) #[T_,T_,T_,T_,T_,T_,T_,T_,T_,T_,T_,T_,T_,F_,F_,F_,F_,F_,F_] rfl rfl (any_of HT_.out (by kernel_rfl)) (fun _ _ _ h => h) (Or.inl ⟨by rfl, ?_⟩) ?_ ?_
    rotate_left
    ·intro w'
     go_simp
     with_reducible rfl
    rotate_left
    ·simp only [Act.put, List.setIfInBounds_toArray, List.set_cons_zero, List.set_cons_succ, i64_w, i32_w]
     rfl
    refine pure_ (i := 13) (N := some 17) (v := ?_) (a' := ?_) #[T_,T_,T_,T_,T_,T_,T_,T_,T_,T_,T_,T_,T_,T_,F_,F_,F_,F_,F_] rfl rfl (any_of HT_.out (by kernel_rfl)) (fun _ _ _ h => h) (Or.inl ⟨by rfl, ?_⟩) ?_ ?_
    rotate_left
    ·intro w'
     go_simp
     with_reducible rfl
    rotate_left
    ·simp only [Act.put, List.setIfInBounds_toArray, List.set_cons_zero, List.set_cons_succ, i64_w, i32_w]
     rfl
    refine pure_ (i := 14) (N := some 18) (v := ?_) (a' := ?_) #[T_,T_,T_,T_,T_,T_,T_,T_,T_,T_,T_,T_,T_,T_,T_,F_,F_,F_,F_] rfl rfl (any_of HT_.out (by kernel_rfl)) (fun _ _ _ h => h) (Or.inl ⟨by rfl, ?_⟩) ?_ ?_
    rotate_left
    ·intro w'
     go_simp
     with_reducible rfl
    rotate_left
    ·simp only [Act.put, List.setIfInBounds_toArray, List.set_cons_zero, List.set_cons_succ, i64_w, i32_w]
     rfl
    refine take_ (i := 15) (N := some 19) (v := ?_) (a' := ?_) #[T_,T_,T_,T_,T_,T_,T_,T_,T_,T_,T_,T_,T_,T_,T_,T_,F_,F_,F_] rfl rfl (take_ofW HT_.out HW_.out (by kernel_rfl)) (fun _ _ _ h => h) (Or.inl ⟨by rfl, ?_⟩) hHeld ?_ ?_
    rotate_left
    ·rintro w' ⟨s0, s1, s2, s3, s4, s5⟩
     go_simp
     with_reducible rfl
    rotate_left
    ·simp only [Act.put, List.setIfInBounds_toArray, List.set_cons_zero, List.set_cons_succ, i64_w, i32_w]
     rfl
    refine one_ (i := 16) (N := some 20) #[T_,T_,T_,T_,T_,T_,T_,T_,T_,T_,T_,T_,T_,T_,T_,T_,T_,F_,F_] rfl rfl (one_of HT_.out (by kernel_rfl)) (by decide) (fun K hK => ?_)
    refine goes_ Try.func30 (by kernel_rfl) rfl #[.agg #[.int .i64 a0_0, .int .i64 a0_1, .int .i64 a0_2, .int .i64 a0_3, .slice A0_4 l0_4.length c0_4, .int .u64 a0_5]] (by rfl) rfl rfl (by (try simp only [List.map_toArray, List.map_cons, List.map_nil]); first | done | rfl | (simp only [List.length_drop, List.length_take]; rfl)) ?_
    with_reducible refine (lockstepref03_Fits.calls k a0_0 a0_1 a0_2 a0_3 _ _ l0_4 a0_5 t185 _ ?side1 ?side2 A8.out).mono ?_
    (case side1 => repeat (first | exact (Kd.C_below HR0_4.out HB.out) | (with_reducible refine Kd.C_alloc ?_ _) | (with_reducible refine Kd.C_drewN ?_ _) | (with_reducible refine Kd.C_drew ?_)))
    (case side2 => exact HC0_4.out)
    rintro e w11 ⟨rfl, hb⟩
    refine ⟨_, rfl, ?_⟩
    have n0_ := Aside0.mk (blk_below (g := gb182) (o := .cells #[.int .i64 a0_0, .int .i64 a0_1, .int .i64 a0_2, .int .i64 a0_3, .slice A0_4 l0_4.length c0_4, .int .u64 a0_5] 27 (0, 0)) (by (with_reducible repeat (first | refine blk_drewN ?_ _ | refine blk_drew ?_ | refine blk_alloc ?_ _)); exact BK182.out) hb)
    have n1_ := Aside0.mk (below_step (B1_) hb)
    clear BK182
    clear HB
    have BK182 := n0_
    have HB := n1_
    clear n0_ n1_
    (try clear hb)
    (try clear hb2)
    (try clear hk)
    (try clear hi)
    refine hK.out _ _ ⟨(blk_cell BK182.out 0).trans rfl, (blk_cell BK182.out 1).trans rfl, (blk_cell BK182.out 2).trans rfl, (blk_cell BK182.out 3).trans rfl, (blk_cell BK182.out 4).trans rfl, (blk_cell BK182.out 5).trans rfl⟩ (fun hHeld => ?_)
    clear hK K
    refine norm_ (a' := ?_) ?_ ?_
    rotate_left
    ·show Act.put _ (some 20) _ = _
     simp only [Act.put, List.setIfInBounds_toArray, List.set_cons_zero, List.set_cons_succ, i64_w, i32_w]
     rfl
    refine pure_ (i := 17) (N := some 21) (v := ?_) (a' := ?_) #[T_,T_,T_,T_,T_,T_,T_,T_,T_,T_,T_,T_,T_,T_,T_,T_,T_,T_,F_] rfl rfl (any_of HT_.out (by kernel_rfl)) (fun _ _ _ h => h) (Or.inl ⟨by rfl, ?_⟩) ?_ ?_
    rotate_left
    ·intro w'
     go_simp
     with_reducible rfl
    rotate_left
    ·simp only [Act.put, List.setIfInBounds_toArray, List.set_cons_zero, List.set_cons_succ, i64_w, i32_w]
     rfl
    refine pure_ (i := 18) (N := some 22) (v := ?_) (a' := ?_) #[T_,T_,T_,T_,T_,T_,T_,T_,T_,T_,T_,T_,T_,T_,T_,T_,T_,T_,T_] rfl rfl (any_of HT_.out (by kernel_rfl)) (fun _ _ _ h => h) (Or.inl ⟨by rfl, ?_⟩) ?_ ?_
    rotate_left
    ·intro w'
     go_simp
     with_reducible rfl
    rotate_left
    ·simp only [Act.put, List.setIfInBounds_toArray, List.set_cons_zero, List.set_cons_succ, i64_w, i32_w]
     rfl
    refine done_ (done_of HT_.out (by kernel_rfl)) ?_
    try go_wp2
    go_meet
    case rel => exact ⟨_, (!t185), (by first | rfl | (simp; done) | (simp [*]; done)), H', ⟨by first | omega | exact Nat.le_refl _⟩, ⟨by (with_reducible repeat (first | refine blk_drewN ?_ _ | refine blk_drew ?_ | refine blk_alloc ?_ _)); exact BK182.out⟩, ⟨B1_⟩⟩
   rw [if_neg c7] at H
   have c7b0 : (t184 == (l0_4.length : Int)) = false := beq_eq_false_iff_ne.mpr c7
   have c7b1 : (t184 != (l0_4.length : Int)) = true := bne_iff_ne.mpr c7
   (first | rw [c7b0] | (simp only [i64_w, i32_w]; rw [c7b0]) | skip)
   have H' := Aside0.mk H
   clear H
   try go_wp2
   have n0_ := Aside0.mk (blk_drew BK182.out)
   have n1_ := Aside0.mk (below_drew1 HB.out)
   clear BK182
   clear HB
   have BK182 := n0_
   have HB := n1_
   clear n0_ n1_
   refine start_ (n := 19) (S := fun w' => w'.cell? ⟨gb182, 0, none⟩ = some (.int .i64 a0_0) ∧ w'.cell? ⟨gb182, 1, none⟩ = some (.int .i64 a0_1) ∧ w'.cell? ⟨gb182, 2, none⟩ = some (.int .i64 a0_2) ∧ w'.cell? ⟨gb182, 3, none⟩ = some (.int .i64 a0_3) ∧ w'.cell? ⟨gb182, 4, none⟩ = some (.slice A0_4 l0_4.length c0_4) ∧ w'.cell? ⟨gb182, 5, none⟩ = some (.int .u64 a0_5)) (ds := []) #[F_,F_,F_,F_,F_,F_,F_,F_,F_,F_,F_,F_,F_,F_,F_,F_,F_,F_,F_] (by kernel_rfl) rfl rfl ⟨(blk_cell BK182.out 0).trans rfl, (blk_cell BK182.out 1).trans rfl, (blk_cell BK182.out 2).trans rfl, (blk_cell BK182.out 3).trans rfl, (blk_cell BK182.out 4).trans rfl, (blk_cell BK182.out 5).trans rfl⟩ (fun hHeld => ?_); refine with_tabW lockstepref03_May.tab1 lockstepref03_May.bits1 (fun HT_ HW_ => ?_)
   generalize w3.drew = w12 at BK182 HB hHeld ⊢
   refine pure_ (i := 0) (N := some 4) (v := ?_) (a' := ?_) #[T_,F_,F_,F_,F_,F_,F_,F_,F_,F_,F_,F_,F_,F_,F_,F_,F_,F_,F_] rfl rfl (any_of HT_.out (by kernel_rfl)) (fun _ _ _ h => h) (Or.inl ⟨by rfl, ?_⟩) ?_ ?_
   rotate_left
   ·intro w'
    go_simp
    with_reducible rfl
   rotate_left
   ·simp only [Act.put, List.setIfInBounds_toArray, List.set_cons_zero, List.set_cons_succ, i64_w, i32_w]
    rfl
   refine pure_ (i := 2) (N := some 6) (v := ?_) (a' := ?_) #[T_,F_,T_,F_,F_,F_,F_,F_,F_,F_,F_,F_,F_,F_,F_,F_,F_,F_,F_] rfl rfl (any_of HT_.out (by kernel_rfl)) (fun _ _ _ h => h) (Or.inl ⟨by rfl, ?_⟩) ?_ ?_
   rotate_left
   ·intro w'
    go_simp
    with_reducible rfl
   rotate_left
   ·simp only [Act.put, List.setIfInBounds_toArray, List.set_cons_zero, List.set_cons_succ, i64_w, i32_w]
    rfl
   refine take_ (i := 1) (N := some 5) (v := ?_) (a' := ?_) #[T_,T_,T_,F_,F_,F_,F_,F_,F_,F_,F_,F_,F_,F_,F_,F_,F_,F_,F_] rfl rfl (take_ofW HT_.out HW_.out (by kernel_rfl)) (fun _ _ _ h => h) (Or.inl ⟨by rfl, ?_⟩) hHeld ?_ ?_
   rotate_left
   ·rintro w' ⟨s0, s1, s2, s3, s4, s5⟩
    go_simp
    with_reducible rfl
   rotate_left
   ·simp only [Act.put, List.setIfInBounds_toArray, List.set_cons_zero, List.set_cons_succ, i64_w, i32_w]
    rfl
   refine take_ (i := 3) (N := some 7) (v := ?_) (a' := ?_) #[T_,T_,T_,T_,F_,F_,F_,F_,F_,F_,F_,F_,F_,F_,F_,F_,F_,F_,F_] rfl rfl (take_ofW HT_.out HW_.out (by kernel_rfl)) (fun _ _ _ h => h) (Or.inl ⟨by rfl, ?_⟩) hHeld ?_ ?_
   rotate_left
   ·rintro w' ⟨s0, s1, s2, s3, s4, s5⟩
    go_simp
    with_reducible rfl
   rotate_left
   ·simp only [Act.put, List.setIfInBounds_toArray, List.set_cons_zero, List.set_cons_succ, i64_w, i32_w]
    rfl
   refine one_ (i := 4) (N := some 8) #[T_,T_,T_,T_,T_,F_,F_,F_,F_,F_,F_,F_,F_,F_,F_,F_,F_,F_,F_] rfl rfl (one_of HT_.out (by kernel_rfl)) (by decide) (fun K hK => ?_)
   refine goes_ Try.func18 (by kernel_rfl) rfl #[.int .i64 a0_1, .int .i64 a0_2] (by rfl) rfl rfl (by (try simp only [List.map_toArray, List.map_cons, List.map_nil]); first | done | rfl | (simp only [List.length_drop, List.length_take]; rfl)) ?_
   with_reducible refine (lockstepref03_Shape.calls a0_1 a0_2 true _ A4.out).mono ?_
   rintro e w' ⟨rfl, ⟨nd, rfl⟩⟩
   refine ⟨_, rfl, ?_⟩
   refine hK.out _ _ ⟨(blk_cell BK182.out 0).trans rfl, (blk_cell BK182.out 1).trans rfl, (blk_cell BK182.out 2).trans rfl, (blk_cell BK182.out 3).trans rfl, (blk_cell BK182.out 4).trans rfl, (blk_cell BK182.out 5).trans rfl⟩ (fun hHeld => ?_)
   clear hK K
   refine norm_ (a' := ?_) ?_ ?_
   rotate_left
   ·show Act.put _ (some 8) _ = _
    simp only [Act.put, List.setIfInBounds_toArray, List.set_cons_zero, List.set_cons_succ, i64_w, i32_w]
    rfl
   refine pure_ (i := 5) (N := some 9) (v := ?_) (a' := ?_) #[T_,T_,T_,T_,T_,T_,F_,F_,F_,F_,F_,F_,F_,F_,F_,F_,F_,F_,F_] rfl rfl (any_of HT_.out (by kernel_rfl)) (fun _ _ _ h => h) (Or.inl ⟨by rfl, ?_⟩) ?_ ?_
   rotate_left
   ·intro w'
    go_simp
    with_reducible rfl
   rotate_left
   ·simp only [Act.put, List.setIfInBounds_toArray, List.set_cons_zero, List.set_cons_succ, i64_w, i32_w]
    rfl
   refine pure_ (i := 6) (N := some 10) (v := ?_) (a' := ?_) #[T_,T_,T_,T_,T_,T_,T_,F_,F_,F_,F_,F_,F_,F_,F_,F_,F_,F_,F_] rfl rfl (any_of HT_.out (by kernel_rfl)) (fun _ _ _ h => h) (Or.inl ⟨by rfl, ?_⟩) ?_ ?_
   rotate_left
   ·intro w'
    go_simp
    with_reducible rfl
   rotate_left
   ·simp only [Act.put, List.setIfInBounds_toArray, List.set_cons_zero, List.set_cons_succ, i64_w, i32_w]
    rfl
   refine pure_ (i := 9) (N := some 13) (v := ?_) (a' := ?_) #[T_,T_,T_,T_,T_,T_,T_,F_,F_,T_,F_,F_,F_,F_,F_,F_,F_,F_,F_] rfl rfl (any_of HT_.out (by kernel_rfl)) (fun _ _ _ h => h) (Or.inl ⟨by rfl, ?_⟩) ?_ ?_
   rotate_left
   ·intro w'
    go_simp
    with_reducible rfl
   rotate_left
   ·simp only [Act.put, List.setIfInBounds_toArray, List.set_cons_zero, List.set_cons_succ, i64_w, i32_w]
    rfl
   refine take_ (i := 7) (N := some 11) (v := ?_) (a' := ?_) #[T_,T_,T_,T_,T_,T_,T_,T_,F_,T_,F_,F_,F_,F_,F_,F_,F_,F_,F_] rfl rfl (take_ofW HT_.out HW_.out (by kernel_rfl)) (fun _ _ _ h => h) (Or.inl ⟨by rfl, ?_⟩) hHeld ?_ ?_
   rotate_left
   ·rintro w' ⟨s0, s1, s2, s3, s4, s5⟩
    go_simp
    with_reducible rfl
   rotate_left
   ·simp only [Act.put, List.setIfInBounds_toArray, List.set_cons_zero, List.set_cons_succ, i64_w, i32_w]
    rfl
   refine take_ (i := 10) (N := some 14) (v := ?_) (a' := ?_) #[T_,T_,T_,T_,T_,T_,T_,T_,F_,T_,T_,F_,F_,F_,F_,F_,F_,F_,F_] rfl rfl (take_ofW HT_.out HW_.out (by kernel_rfl)) (fun _ _ _ h => h) (Or.inl ⟨by rfl, ?_⟩) hHeld ?_ ?_
   rotate_left
   ·rintro w' ⟨s0, s1, s2, s3, s4, s5⟩
    go_simp
    with_reducible rfl
   rotate_left
   ·simp only [Act.put, List.setIfInBounds_toArray, List.set_cons_zero, List.set_cons_succ, i64_w, i32_w]
    rfl
   refine pure_ (i := 11) (N := some 15) (v := ?_) (a' := ?_) #[T_,T_,T_,T_,T_,T_,T_,T_,F_,T_,T_,T_,F_,F_,F_,F_,F_,F_,F_] rfl rfl (any_of HT_.out (by kernel_rfl)) (fun _ _ _ h => h) (Or.inl ⟨by rfl, ?_⟩) ?_ ?_
   rotate_left
   ·intro w'
    go_simp
    with_reducible rfl
   rotate_left
   ·simp only [Act.put, List.setIfInBounds_toArray, List.set_cons_zero, List.set_cons_succ, i64_w, i32_w]
    rfl
   refine one_ (i := 8) (N := some 12) #[T_,T_,T_,T_,T_,T_,T_,T_,T_,T_,T_,T_,F_,F_,F_,F_,F_,F_,F_] rfl rfl (one_of HT_.out (by kernel_rfl)) (by decide) (fun K hK => ?_)
   refine goes_ Try.func29 (by kernel_rfl) rfl #[.agg #[.int .i64 a0_0, .int .i64 a0_1, .int .i64 a0_2, .int .i64 a0_3, .slice A0_4 l0_4.length c0_4, .int .u64 a0_5]] (by rfl) rfl rfl (by (try simp only [List.map_toArray, List.map_cons, List.map_nil]); first | done | rfl | (simp only [List.length_drop, List.length_take]; rfl)) ?_
   with_reducible refine (lockstepref03_Args.calls k a0_0 a0_1 a0_2 a0_3 _ _ l0_4 a0_5 t184 _ ?side1 ?side2 A6.out).mono ?_
   (case side1 => repeat (first | exact (Kd.C_below HR0_4.out (B1_)) | (with_reducible refine Kd.C_alloc ?_ _) | (with_reducible refine Kd.C_drewN ?_ _) | (with_reducible refine Kd.C_drew ?_)))
   (case side2 => exact HC0_4.out)
   rintro e w13 ⟨rfl, hb⟩
   refine ⟨_, rfl, ?_⟩
   have n0_ := Aside0.mk (blk_below (g := gb182) (o := .cells #[.int .i64 a0_0, .int .i64 a0_1, .int .i64 a0_2, .int .i64 a0_3, .slice A0_4 l0_4.length c0_4, .int .u64 a0_5] 27 (0, 0)) (by (with_reducible repeat (first | refine blk_drewN ?_ _ | refine blk_drew ?_ | refine blk_alloc ?_ _)); exact BK182.out) hb)
   have n1_ := Aside0.mk (below_step (B1_) hb)
   clear BK182
   clear HB
   have BK182 := n0_
   have HB := n1_
   clear n0_ n1_
   (try clear hb)
   (try clear hb2)
   (try clear hk)
   (try clear hi)
   refine hK.out _ _ ⟨(blk_cell BK182.out 0).trans rfl, (blk_cell BK182.out 1).trans rfl, (blk_cell BK182.out 2).trans rfl, (blk_cell BK182.out 3).trans rfl, (blk_cell BK182.out 4).trans rfl, (blk_cell BK182.out 5).trans rfl⟩ (fun hHeld => ?_)
   clear hK K
   refine norm_ (a' := ?_) ?_ ?_
   rotate_left
   ·show Act.put _ (some 12) _ = _
    simp only [Act.put, List.setIfInBounds_toArray, List.set_cons_zero, List.set_cons_succ, i64_w, i32_w]
    rfl
   refine pure_ (i := 12) (N := some 16) (v := ?_) (a' := ?_) #[T_,T_,T_,T_,T_,T_,T_,T_,T_,T_,T_,T_,T_,F_,F_,F_,F_,F_,F_] rfl rfl (any_of HT_.out (by kernel_rfl)) (fun _ _ _ h => h) (Or.inl ⟨by rfl, ?_⟩) ?_ ?_
   rotate_left
   ·intro w'
    go_simp
    with_reducible rfl
   rotate_left
   ·simp only [Act.put, List.setIfInBounds_toArray, List.set_cons_zero, List.set_cons_succ, i64_w, i32_w]
    rfl
   refine pure_ (i := 13) (N := some 17) (v := ?_) (a' := ?_) #[T_,T_,T_,T_,T_,T_,T_,T_,T_,T_,T_,T_,T_,T_,F_,F_,F_,F_,F_] rfl rfl (any_of HT_.out (by kernel_rfl)) (fun _ _ _ h => h) (Or.inl ⟨by rfl, ?_⟩) ?_ ?_
   rotate_left
   ·intro w'
    go_simp
    with_reducible rfl
   rotate_left
   ·simp only [Act.put, List.setIfInBounds_toArray, List.set_cons_zero, List.set_cons_succ, i64_w, i32_w]
    rfl
   refine pure_ (i := 14) (N := some 18) (v := ?_) (a' := ?_) #[T_,T_,T_,T_,T_,T_,T_,T_,T_,T_,T_,T_,T_,T_,T_,F_,F_,F_,F_] rfl rfl (any_of HT_.out (by kernel_rfl)) (fun _ _ _ h => h) (Or.inl ⟨by rfl, ?_⟩) ?_ ?_
   rotate_left
   ·intro w'
    go_simp
    with_reducible rfl
   rotate_left
   ·simp only [Act.put, List.setIfInBounds_toArray, List.set_cons_zero, List.set_cons_succ, i64_w, i32_w]
    rfl
   refine pure_ (i := 15) (N := some 19) (v := undef) (a' := ?_) #[T_,T_,T_,T_,T_,T_,T_,T_,T_,T_,T_,T_,T_,T_,T_,T_,F_,F_,F_] rfl rfl (any_of HT_.out (by kernel_rfl)) (fun _ _ _ h => h) (Or.inr ⟨by rfl, rfl⟩) ?_ ?_
   rotate_left
   ·simp only [Act.put, List.setIfInBounds_toArray, List.set_cons_zero, List.set_cons_succ, i64_w, i32_w]
    rfl
   refine pure_ (i := 16) (N := some 20) (v := undef) (a' := ?_) #[T_,T_,T_,T_,T_,T_,T_,T_,T_,T_,T_,T_,T_,T_,T_,T_,T_,F_,F_] rfl rfl (any_of HT_.out (by kernel_rfl)) (fun _ _ _ h => h) (Or.inr ⟨by rfl, rfl⟩) ?_ ?_
   rotate_left
   ·simp only [Act.put, List.setIfInBounds_toArray, List.set_cons_zero, List.set_cons_succ, i64_w, i32_w]
    rfl
   refine pure_ (i := 17) (N := some 21) (v := undef) (a' := ?_) #[T_,T_,T_,T_,T_,T_,T_,T_,T_,T_,T_,T_,T_,T_,T_,T_,T_,T_,F_] rfl rfl (any_of HT_.out (by kernel_rfl)) (fun _ _ _ h => h) (Or.inr ⟨by rfl, rfl⟩) ?_ ?_
   rotate_left
   ·simp only [Act.put, List.setIfInBounds_toArray, List.set_cons_zero, List.set_cons_succ, i64_w, i32_w]
    rfl
   refine pure_ (i := 18) (N := some 22) (v := ?_) (a' := ?_) #[T_,T_,T_,T_,T_,T_,T_,T_,T_,T_,T_,T_,T_,T_,T_,T_,T_,T_,T_] rfl rfl (any_of HT_.out (by kernel_rfl)) (fun _ _ _ h => h) (Or.inl ⟨by rfl, ?_⟩) ?_ ?_
   rotate_left
   ·intro w'
    go_simp
    with_reducible rfl
   rotate_left
   ·simp only [Act.put, List.setIfInBounds_toArray, List.set_cons_zero, List.set_cons_succ, i64_w, i32_w]
    rfl
   refine done_ (done_of HT_.out (by kernel_rfl)) ?_
   try go_wp2
   go_meet
   case rel => exact ⟨_, (true), (by first | rfl | (simp; done) | (simp [*]; done)), H', ⟨by first | omega | exact Nat.le_refl _⟩, ⟨by (with_reducible repeat (first | refine blk_drewN ?_ _ | refine blk_drew ?_ | refine blk_alloc ?_ _)); exact BK182.out⟩, ⟨B1_⟩⟩
  replace c5 := Bool.eq_false_iff.mpr c5
  subst c5
  have H1 : (lockstepref03_May.j0 k true a0_0 a0_1 a0_2 a0_3 l0_4 a0_5) = some r := by rw [if_neg (show ¬ (false = true) by decide)] at H; exact H
  clear H
  have H := H1
  clear H1
  have H' := Aside0.mk H
  clear H
  try go_wp2
  have n0_ := Aside0.mk (blk_drew BK182.out)
  have n1_ := Aside0.mk (below_drew1 HB.out)
  clear BK182
  clear HB
  have BK182 := n0_
  have HB := n1_
  clear n0_ n1_
  refine start_ (n := 19) (S := fun w' => w'.cell? ⟨gb182, 0, none⟩ = some (.int .i64 a0_0) ∧ w'.cell? ⟨gb182, 1, none⟩ = some (.int .i64 a0_1) ∧ w'.cell? ⟨gb182, 2, none⟩ = some (.int .i64 a0_2) ∧ w'.cell? ⟨gb182, 3, none⟩ = some (.int .i64 a0_3) ∧ w'.cell? ⟨gb182, 4, none⟩ = some (.slice A0_4 l0_4.length c0_4) ∧ w'.cell? ⟨gb182, 5, none⟩ = some (.int .u64 a0_5)) (ds := []) #[F_,F_,F_,F_,F_,F_,F_,F_,F_,F_,F_,F_,F_,F_,F_,F_,F_,F_,F_] (by kernel_rfl) rfl rfl ⟨(blk_cell BK182.out 0).trans rfl, (blk_cell BK182.out 1).trans rfl, (blk_cell BK182.out 2).trans rfl, (blk_cell BK182.out 3).trans rfl, (blk_cell BK182.out 4).trans rfl, (blk_cell BK182.out 5).trans rfl⟩ (fun hHeld => ?_); refine with_tabW lockstepref03_May.tab1 lockstepref03_May.bits1 (fun HT_ HW_ => ?_)
  generalize w3.drew = w14 at BK182 HB hHeld ⊢
  refine pure_ (i := 0) (N := some 4) (v := ?_) (a' := ?_) #[T_,F_,F_,F_,F_,F_,F_,F_,F_,F_,F_,F_,F_,F_,F_,F_,F_,F_,F_] rfl rfl (any_of HT_.out (by kernel_rfl)) (fun _ _ _ h => h) (Or.inl ⟨by rfl, ?_⟩) ?_ ?_
  rotate_left
  ·intro w'
   go_simp
   with_reducible rfl
  rotate_left
  ·simp only [Act.put, List.setIfInBounds_toArray, List.set_cons_zero, List.set_cons_succ, i64_w, i32_w]
   rfl
  refine pure_ (i := 2) (N := some 6) (v := ?_) (a' := ?_) #[T_,F_,T_,F_,F_,F_,F_,F_,F_,F_,F_,F_,F_,F_,F_,F_,F_,F_,F_] rfl rfl (any_of HT_.out (by kernel_rfl)) (fun _ _ _ h => h) (Or.inl ⟨by rfl, ?_⟩) ?_ ?_
  rotate_left
  ·intro w'
   go_simp
   with_reducible rfl
  rotate_left
  ·simp only [Act.put, List.setIfInBounds_toArray, List.set_cons_zero, List.set_cons_succ, i64_w, i32_w]
   rfl
  refine take_ (i := 1) (N := some 5) (v := ?_) (a' := ?_) #[T_,T_,T_,F_,F_,F_,F_,F_,F_,F_,F_,F_,F_,F_,F_,F_,F_,F_,F_] rfl rfl (take_ofW HT_.out HW_.out (by kernel_rfl)) (fun _ _ _ h => h) (Or.inl ⟨by rfl, ?_⟩) hHeld ?_ ?_
  rotate_left
  ·rintro w' ⟨s0, s1, s2, s3, s4, s5⟩
   go_simp
   with_reducible rfl
  rotate_left
  ·simp only [Act.put, List.setIfInBounds_toArray, List.set_cons_zero, List.set_cons_succ, i64_w, i32_w]
   rfl
  refine take_ (i := 3) (N := some 7) (v := ?_) (a' := ?_) #[T_,T_,T_,T_,F_,F_,F_,F_,F_,F_,F_,F_,F_,F_,F_,F_,F_,F_,F_] rfl rfl (take_ofW HT_.out HW_.out (by kernel_rfl)) (fun _ _ _ h => h) (Or.inl ⟨by rfl, ?_⟩) hHeld ?_ ?_
  rotate_left
  ·rintro w' ⟨s0, s1, s2, s3, s4, s5⟩
   go_simp
   with_reducible rfl
  rotate_left
  ·simp only [Act.put, List.setIfInBounds_toArray, List.set_cons_zero, List.set_cons_succ, i64_w, i32_w]
   rfl
  refine one_ (i := 4) (N := some 8) #[T_,T_,T_,T_,T_,F_,F_,F_,F_,F_,F_,F_,F_,F_,F_,F_,F_,F_,F_] rfl rfl (one_of HT_.out (by kernel_rfl)) (by decide) (fun K hK => ?_)
  refine goes_ Try.func18 (by kernel_rfl) rfl #[.int .i64 a0_1, .int .i64 a0_2] (by rfl) rfl rfl (by (try simp only [List.map_toArray, List.map_cons, List.map_nil]); first | done | rfl | (simp only [List.length_drop, List.length_take]; rfl)) ?_
  with_reducible refine (lockstepref03_Shape.calls a0_1 a0_2 false _ A4.out).mono ?_
  rintro e w' ⟨rfl, ⟨nd, rfl⟩⟩
  refine ⟨_, rfl, ?_⟩
  refine hK.out _ _ ⟨(blk_cell BK182.out 0).trans rfl, (blk_cell BK182.out 1).trans rfl, (blk_cell BK182.out 2).trans rfl, (blk_cell BK182.out 3).trans rfl, (blk_cell BK182.out 4).trans rfl, (blk_cell BK182.out 5).trans rfl⟩ (fun hHeld => ?_)
  clear hK K
  refine norm_ (a' := ?_) ?_ ?_
  rotate_left
  ·show Act.put _ (some 8) _ = _
   simp only [Act.put, List.setIfInBounds_toArray, List.set_cons_zero, List.set_cons_succ, i64_w, i32_w]
   rfl
  refine pure_ (i := 5) (N := some 9) (v := ?_) (a' := ?_) #[T_,T_,T_,T_,T_,T_,F_,F_,F_,F_,F_,F_,F_,F_,F_,F_,F_,F_,F_] rfl rfl (any_of HT_.out (by kernel_rfl)) (fun _ _ _ h => h) (Or.inl ⟨by rfl, ?_⟩) ?_ ?_
  rotate_left
  ·intro w'
   go_simp
   with_reducible rfl
  rotate_left
  ·simp only [Act.put, List.setIfInBounds_toArray, List.set_cons_zero, List.set_cons_succ, i64_w, i32_w]
   rfl
  refine pure_ (i := 6) (N := some 10) (v := ?_) (a' := ?_) #[T_,T_,T_,T_,T_,T_,T_,F_,F_,F_,F_,F_,F_,F_,F_,F_,F_,F_,F_] rfl rfl (any_of HT_.out (by kernel_rfl)) (fun _ _ _ h => h) (Or.inl ⟨by rfl, ?_⟩) ?_ ?_
  rotate_left
  ·intro w'
   go_simp
   with_reducible rfl
  rotate_left
  ·simp only [Act.put, List.setIfInBounds_toArray, List.set_cons_zero, List.set_cons_succ, i64_w, i32_w]
   rfl
  refine pure_ (i := 7) (N := some 11) (v := undef) (a' := ?_) #[T_,T_,T_,T_,T_,T_,T_,T_,F_,F_,F_,F_,F_,F_,F_,F_,F_,F_,F_] rfl rfl (any_of HT_.out (by kernel_rfl)) (fun _ _ _ h => h) (Or.inr ⟨by rfl, rfl⟩) ?_ ?_
  rotate_left
  ·simp only [Act.put, List.setIfInBounds_toArray, List.set_cons_zero, List.set_cons_succ, i64_w, i32_w]
   rfl
  refine pure_ (i := 8) (N := some 12) (v := undef) (a' := ?_) #[T_,T_,T_,T_,T_,T_,T_,T_,T_,F_,F_,F_,F_,F_,F_,F_,F_,F_,F_] rfl rfl (any_of HT_.out (by kernel_rfl)) (fun _ _ _ h => h) (Or.inr ⟨by rfl, rfl⟩) ?_ ?_
  rotate_left
  ·simp only [Act.put, List.setIfInBounds_toArray, List.set_cons_zero, List.set_cons_succ, i64_w, i32_w]
   rfl
  refine pure_ (i := 9) (N := some 13) (v := undef) (a' := ?_) #[T_,T_,T_,T_,T_,T_,T_,T_,T_,T_,F_,F_,F_,F_,F_,F_,F_,F_,F_] rfl rfl (any_of HT_.out (by kernel_rfl)) (fun _ _ _ h => h) (Or.inr ⟨by rfl, rfl⟩) ?_ ?_
  rotate_left
  ·simp only [Act.put, List.setIfInBounds_toArray, List.set_cons_zero, List.set_cons_succ, i64_w, i32_w]
   rfl
  refine pure_ (i := 10) (N := some 14) (v := undef) (a' := ?_) #[T_,T_,T_,T_,T_,T_,T_,T_,T_,T_,T_,F_,F_,F_,F_,F_,F_,F_,F_] rfl rfl (any_of HT_.out (by kernel_rfl)) (fun _ _ _ h => h) (Or.inr ⟨by rfl, rfl⟩) ?_ ?_
  rotate_left
  ·simp only [Act.put, List.setIfInBounds_toArray, List.set_cons_zero, List.set_cons_succ, i64_w, i32_w]
   rfl
  refine pure_ (i := 11) (N := some 15) (v := undef) (a' := ?_) #[T_,T_,T_,T_,T_,T_,T_,T_,T_,T_,T_,T_,F_,F_,F_,F_,F_,F_,F_] rfl rfl (any_of HT_.out (by kernel_rfl)) (fun _ _ _ h => h) (Or.inr ⟨by rfl, rfl⟩) ?_ ?_
  rotate_left
  ·simp only [Act.put, List.setIfInBounds_toArray, List.set_cons_zero, List.set_cons_succ, i64_w, i32_w]
   rfl
  refine pure_ (i := 12) (N := some 16) (v := undef) (a' := ?_) #[T_,T_,T_,T_,T_,T_,T_,T_,T_,T_,T_,T_,T_,F_,F_,F_,F_,F_,F_] rfl rfl (any_of HT_.out (by kernel_rfl)) (fun _ _ _ h => h) (Or.inr ⟨by rfl, rfl⟩) ?_ ?_
  rotate_left
  ·simp only [Act.put, List.setIfInBounds_toArray, List.set_cons_zero, List.set_cons_succ, i64_w, i32_w]
   rfl
  refine pure_ (i := 13) (N := some 17) (v := ?_) (a' := ?_) #[T_,T_,T_,T_,T_,T_,T_,T_,T_,T_,T_,T_,T_,T_,F_,F_,F_,F_,F_] rfl rfl (any_of HT_.out (by kernel_rfl)) (fun _ _ _ h => h) (Or.inl ⟨by rfl, ?_⟩) ?_ ?_
  rotate_left
  ·intro w'
   go_simp
   with_reducible rfl
  rotate_left
  ·simp only [Act.put, List.setIfInBounds_toArray, List.set_cons_zero, List.set_cons_succ, i64_w, i32_w]
   rfl
  refine pure_ (i := 14) (N := some 18) (v := ?_) (a' := ?_) #[T_,T_,T_,T_,T_,T_,T_,T_,T_,T_,T_,T_,T_,T_,T_,F_,F_,F_,F_] rfl rfl (any_of HT_.out (by kernel_rfl)) (fun _ _ _ h => h) (Or.inl ⟨by rfl, ?_⟩) ?_ ?_
  rotate_left
  ·intro w'
   go_simp
   with_reducible rfl
  rotate_left
  ·simp only [Act.put, List.setIfInBounds_toArray, List.set_cons_zero, List.set_cons_succ, i64_w, i32_w]
   rfl
  refine pure_ (i := 15) (N := some 19) (v := undef) (a' := ?_) #[T_,T_,T_,T_,T_,T_,T_,T_,T_,T_,T_,T_,T_,T_,T_,T_,F_,F_,F_] rfl rfl (any_of HT_.out (by kernel_rfl)) (fun _ _ _ h => h) (Or.inr ⟨by rfl, rfl⟩) ?_ ?_
  rotate_left
  ·simp only [Act.put, List.setIfInBounds_toArray, List.set_cons_zero, List.set_cons_succ, i64_w, i32_w]
   rfl
  refine pure_ (i := 16) (N := some 20) (v := undef) (a' := ?_) #[T_,T_,T_,T_,T_,T_,T_,T_,T_,T_,T_,T_,T_,T_,T_,T_,T_,F_,F_] rfl rfl (any_of HT_.out (by kernel_rfl)) (fun _ _ _ h => h) (Or.inr ⟨by rfl, rfl⟩) ?_ ?_
  rotate_left
  ·simp only [Act.put, List.setIfInBounds_toArray, List.set_cons_zero, List.set_cons_succ, i64_w, i32_w]
   rfl
  refine pure_ (i := 17) (N := some 21) (v := undef) (a' := ?_) #[T_,T_,T_,T_,T_,T_,T_,T_,T_,T_,T_,T_,T_,T_,T_,T_,T_,T_,F_] rfl rfl (any_of HT_.out (by kernel_rfl)) (fun _ _ _ h => h) (Or.inr ⟨by rfl, rfl⟩) ?_ ?_
  rotate_left
  ·simp only [Act.put, List.setIfInBounds_toArray, List.set_cons_zero, List.set_cons_succ, i64_w, i32_w]
   rfl
  refine pure_ (i := 18) (N := some 22) (v := ?_) (a' := ?_) #[T_,T_,T_,T_,T_,T_,T_,T_,T_,T_,T_,T_,T_,T_,T_,T_,T_,T_,T_] rfl rfl (any_of HT_.out (by kernel_rfl)) (fun _ _ _ h => h) (Or.inl ⟨by rfl, ?_⟩) ?_ ?_
  rotate_left
  ·intro w'
   go_simp
   with_reducible rfl
  rotate_left
  ·simp only [Act.put, List.setIfInBounds_toArray, List.set_cons_zero, List.set_cons_succ, i64_w, i32_w]
   rfl
  refine done_ (done_of HT_.out (by kernel_rfl)) ?_
  try go_wp2
  go_meet
  case rel => exact ⟨_, (true), (by first | rfl | (simp; done) | (simp [*]; done)), H', ⟨by first | omega | exact Nat.le_refl _⟩, ⟨by (with_reducible repeat (first | refine blk_drewN ?_ _ | refine blk_drew ?_ | refine blk_alloc ?_ _)); exact BK182.out⟩, ⟨B1_⟩⟩
 case rest =>
  clear HC2
  try clear c1
  try clear c2
  try clear p2
  try clear c3
  try clear c5
  try clear c7
  try clear c7b0
  try clear c7b1
  try clear c14
  obtain ⟨kq, x22_1, rfl, HA, HJ1, BK182, HB⟩ := hcut
  cases kq with
  | zero => exact absurd HA.out (by simp [lockstepref03_May.j0])
  | succ kj1 =>
   have H := HA.out
   clear HA
   simp only [lockstepref03_May.j0] at H
   by_cases c15 : x22_1 = true
   ·subst c15
    have H1 : (some false) = some r := by rw [if_pos rfl] at H; exact H
    clear H
    have H := H1
    clear H1
    obtain rfl := Option.some.inj H
    go_wp2
    go_ret
    exact ⟨by first | rfl | (simp [errW_none, errW_some] <;> rfl) | (simp [*, errW_none, errW_some] <;> rfl), B1_⟩
   replace c15 := Bool.eq_false_iff.mpr c15
   subst c15
   have H1 : (lockstepref03_May.l0 kj1 0 a0_0 a0_1 a0_2 a0_3 l0_4 a0_5) = some r := by rw [if_neg (show ¬ (false = true) by decide)] at H; exact H
   clear H
   have H := H1
   clear H1
   have H' := Aside0.mk H
   clear H
   go_wp2
   go_loopg [3] kj1 (fun kq v3 w' => ∃ (x3_2 : Int), v3 = .int .i64 x3_2 ∧ Aside0 (lockstepref03_May.l0 kq x3_2 a0_0 a0_1 a0_2 a0_3 l0_4 a0_5 = some r) ∧ Aside0 (kq ≤ kj1) ∧ Aside0 (w'.heap[gb182]? = some (.cells #[.int .i64 a0_0, .int .i64 a0_1, .int .i64 a0_2, .int .i64 a0_3, (.slice A0_4 l0_4.length c0_4), .int .u64 a0_5] 27 (0, 0))) ∧ Aside0 (Below w.heap.size w w'))
   case atStart => exact ⟨(0), (by first | rfl | (simp; done) | (simp [*]; done)), H', ⟨Nat.le_refl _⟩, ⟨by (with_reducible repeat (first | refine blk_drewN ?_ _ | refine blk_drew ?_ | refine blk_alloc ?_ _)); exact BK182.out⟩, ⟨B1_⟩⟩
   case round =>
    clear H'
    try clear c1
    try clear c2
    try clear p2
    try clear c3
    try clear c5
    try clear c7
    try clear c7b0
    try clear c7b1
    try clear c14
    try clear c15
    try clear p2
    obtain ⟨x3_2, rfl, HA, HK2, BK182, HB⟩ := hrel
    cases gk with
    | zero => exact absurd HA.out (by simp [lockstepref03_May.l0])
    | succ k2 =>
     have H := HA.out
     clear HA
     simp only [lockstepref03_May.l0] at H
     by_cases c16 : x3_2 < (l0_4.length : Int)
     ·rw [if_pos c16] at H
      have c16b0 : decide (x3_2 < (l0_4.length : Int)) = true := decide_eq_true c16
      clear c16
      by_cases c17 : 0 ≤ x3_2
      ·rw [if_pos c17] at H
       have c17b0 : decide (0 ≤ x3_2) = true := decide_eq_true c17
       clear c17
       replace H := Option.bind_eq_some_iff.mp H
       obtain ⟨t187, A180, H⟩ := H
       replace H : (if t187 = true then (lockstepref03_May.l0 k2 (wrap64 (x3_2 + 1)) a0_0 a0_1 a0_2 a0_3 l0_4 a0_5) else (some false)) = some r := H
       have A18 := Aside0.mk A180
       clear A180
       by_cases c19 : t187 = true
       ·subst c19
        have H1 : (lockstepref03_May.l0 k2 (wrap64 (x3_2 + 1)) a0_0 a0_1 a0_2 a0_3 l0_4 a0_5) = some r := by rw [if_pos rfl] at H; exact H
        clear H
        have H := H1
        clear H1
        have H' := Aside0.mk H
        clear H
        have hcz20_0 : wr.cell? ⟨gb182, 0, none⟩ = some (.int .i64 a0_0) := (blk_cell BK182.out 0).trans rfl
        have hcz20_1 : wr.cell? ⟨gb182, 1, none⟩ = some (.int .i64 a0_1) := (blk_cell BK182.out 1).trans rfl
        have hcz20_2 : wr.cell? ⟨gb182, 2, none⟩ = some (.int .i64 a0_2) := (blk_cell BK182.out 2).trans rfl
        have hcz20_3 : wr.cell? ⟨gb182, 3, none⟩ = some (.int .i64 a0_3) := (blk_cell BK182.out 3).trans rfl
        have hcz20_4 : wr.cell? ⟨gb182, 4, none⟩ = some (.slice A0_4 l0_4.length c0_4) := (blk_cell BK182.out 4).trans rfl
        have hcz20_5 : wr.cell? ⟨gb182, 5, none⟩ = some (.int .u64 a0_5) := (blk_cell BK182.out 5).trans rfl
        have hfz20_0 := blk_frozen BK182.out 0
        have hfz20_1 := blk_frozen BK182.out 1
        have hfz20_2 := blk_frozen BK182.out 2
        have hfz20_3 := blk_frozen BK182.out 3
        have hfz20_4 := blk_frozen BK182.out 4
        have hfz20_5 := blk_frozen BK182.out 5
        have p186 : 0 ≤ (x3_2 : Int) := D_
        have q186 : x3_2 < (l0_4.length : Int) := D_
        obtain ⟨ad186, e186, hx186_0⟩ := Kd.at_int HR0_4.out x3_2 p186 q186
        cases e186
        replace hx186_0 := (HB.out.cell (World.block_lt_of_cell? w _ hx186_0)).trans hx186_0
        replace p186 := eq_true p186
        replace q186 := eq_true q186
        go_wp2_with (first | ((with_reducible refine gate_callee (f := 31) rfl ?_); refine goesL_ (some 35) rfl rfl Try.func31 (by kernel_rfl) rfl #[.int .i64 (rd l0_4 x3_2)] rfl (by (try simp only [List.map_toArray, List.map_cons, List.map_nil]); first | done | rfl | (simp only [List.length_drop, List.length_take]; rfl)) ?_; (with_reducible refine (lockstepref03_Value.calls (rd l0_4 x3_2) true _ A18.out).mono ?_); rintro e w' ⟨rfl, ⟨nd, rfl⟩⟩; refine ⟨_, rfl, ?_⟩))
        go_roundg k2
        case measure => have := HJ1.out; have := HK2.out; omega
        case rel => exact ⟨(wrap64 (x3_2 + 1)), (by first | rfl | (simp; done) | (simp [*]; done)), H', ⟨by have := HJ1.out; have := HK2.out; omega⟩, ⟨by (with_reducible repeat (first | refine blk_drewN ?_ _ | refine blk_drew ?_ | refine blk_alloc ?_ _)); exact BK182.out⟩, ⟨B1_⟩⟩
       replace c19 := Bool.eq_false_iff.mpr c19
       subst c19
       have H1 : (some false) = some r := by rw [if_neg (show ¬ (false = true) by decide)] at H; exact H
       clear H
       have H := H1
       clear H1
       obtain rfl := Option.some.inj H
       have hcz21_0 : wr.cell? ⟨gb182, 0, none⟩ = some (.int .i64 a0_0) := (blk_cell BK182.out 0).trans rfl
       have hcz21_1 : wr.cell? ⟨gb182, 1, none⟩ = some (.int .i64 a0_1) := (blk_cell BK182.out 1).trans rfl
       have hcz21_2 : wr.cell? ⟨gb182, 2, none⟩ = some (.int .i64 a0_2) := (blk_cell BK182.out 2).trans rfl
       have hcz21_3 : wr.cell? ⟨gb182, 3, none⟩ = some (.int .i64 a0_3) := (blk_cell BK182.out 3).trans rfl
       have hcz21_4 : wr.cell? ⟨gb182, 4, none⟩ = some (.slice A0_4 l0_4.length c0_4) := (blk_cell BK182.out 4).trans rfl
       have hcz21_5 : wr.cell? ⟨gb182, 5, none⟩ = some (.int .u64 a0_5) := (blk_cell BK182.out 5).trans rfl
       have hfz21_0 := blk_frozen BK182.out 0
       have hfz21_1 := blk_frozen BK182.out 1
       have hfz21_2 := blk_frozen BK182.out 2
       have hfz21_3 := blk_frozen BK182.out 3
       have hfz21_4 := blk_frozen BK182.out 4
       have hfz21_5 := blk_frozen BK182.out 5
       have p186 : 0 ≤ (x3_2 : Int) := D_
       have q186 : x3_2 < (l0_4.length : Int) := D_
       obtain ⟨ad186, e186, hx186_0⟩ := Kd.at_int HR0_4.out x3_2 p186 q186
       cases e186
       replace hx186_0 := (HB.out.cell (World.block_lt_of_cell? w _ hx186_0)).trans hx186_0
       replace p186 := eq_true p186
       replace q186 := eq_true q186
       go_wp2_with (first | ((with_reducible refine gate_callee (f := 31) rfl ?_); refine goesL_ (some 35) rfl rfl Try.func31 (by kernel_rfl) rfl #[.int .i64 (rd l0_4 x3_2)] rfl (by (try simp only [List.map_toArray, List.map_cons, List.map_nil]); first | done | rfl | (simp only [List.length_drop, List.length_take]; rfl)) ?_; (with_reducible refine (lockstepref03_Value.calls (rd l0_4 x3_2) false _ A18.out).mono ?_); rintro e w' ⟨rfl, ⟨nd, rfl⟩⟩; refine ⟨_, rfl, ?_⟩))
       go_ret
       exact ⟨by first | rfl | (simp [errW_none, errW_some] <;> rfl) | (simp [*, errW_none, errW_some] <;> rfl), B1_⟩
      rw [if_neg c17] at H
      exact absurd H (by simp)
     rw [if_neg c16] at H
     have c16b0 : decide (x3_2 < (l0_4.length : Int)) = false := decide_eq_false c16
     clear c16
     by_cases c22 : a0_0 = 17
     ·rw [if_pos c22] at H
      have c22b0 : (a0_0 == 17) = true := beq_iff_eq.mpr c22
      have c22b1 : (a0_0 != 17) = false := bne_eq_false_iff_eq.mpr c22
      clear c22
      obtain rfl := Option.some.inj H
      have hcz23_0 : wr.cell? ⟨gb182, 0, none⟩ = some (.int .i64 a0_0) := (blk_cell BK182.out 0).trans rfl
      have hcz23_1 : wr.cell? ⟨gb182, 1, none⟩ = some (.int .i64 a0_1) := (blk_cell BK182.out 1).trans rfl
      have hcz23_2 : wr.cell? ⟨gb182, 2, none⟩ = some (.int .i64 a0_2) := (blk_cell BK182.out 2).trans rfl
      have hcz23_3 : wr.cell? ⟨gb182, 3, none⟩ = some (.int .i64 a0_3) := (blk_cell BK182.out 3).trans rfl
      have hcz23_4 : wr.cell? ⟨gb182, 4, none⟩ = some (.slice A0_4 l0_4.length c0_4) := (blk_cell BK182.out 4).trans rfl
      have hcz23_5 : wr.cell? ⟨gb182, 5, none⟩ = some (.int .u64 a0_5) := (blk_cell BK182.out 5).trans rfl
      have hfz23_0 := blk_frozen BK182.out 0
      have hfz23_1 := blk_frozen BK182.out 1
      have hfz23_2 := blk_frozen BK182.out 2
      have hfz23_3 := blk_frozen BK182.out 3
      have hfz23_4 := blk_frozen BK182.out 4
      have hfz23_5 := blk_frozen BK182.out 5
      go_wp2
      go_ret
      exact ⟨by first | rfl | (simp [errW_none, errW_some] <;> rfl) | (simp [*, errW_none, errW_some] <;> rfl), B1_⟩
     rw [if_neg c22] at H
     have c22b0 : (a0_0 == 17) = false := beq_eq_false_iff_ne.mpr c22
     have c22b1 : (a0_0 != 17) = true := bne_iff_ne.mpr c22
     by_cases c24 : a0_0 = 19
     ·rw [if_pos c24] at H
      have c24b0 : (a0_0 == 19) = true := beq_iff_eq.mpr c24
      have c24b1 : (a0_0 != 19) = false := bne_eq_false_iff_eq.mpr c24
      clear c24
      obtain rfl := Option.some.inj H
      have hcz25_0 : wr.cell? ⟨gb182, 0, none⟩ = some (.int .i64 a0_0) := (blk_cell BK182.out 0).trans rfl
      have hcz25_1 : wr.cell? ⟨gb182, 1, none⟩ = some (.int .i64 a0_1) := (blk_cell BK182.out 1).trans rfl
      have hcz25_2 : wr.cell? ⟨gb182, 2, none⟩ = some (.int .i64 a0_2) := (blk_cell BK182.out 2).trans rfl
      have hcz25_3 : wr.cell? ⟨gb182, 3, none⟩ = some (.int .i64 a0_3) := (blk_cell BK182.out 3).trans rfl
      have hcz25_4 : wr.cell? ⟨gb182, 4, none⟩ = some (.slice A0_4 l0_4.length c0_4) := (blk_cell BK182.out 4).trans rfl
      have hcz25_5 : wr.cell? ⟨gb182, 5, none⟩ = some (.int .u64 a0_5) := (blk_cell BK182.out 5).trans rfl
      have hfz25_0 := blk_frozen BK182.out 0
      have hfz25_1 := blk_frozen BK182.out 1
      have hfz25_2 := blk_frozen BK182.out 2
      have hfz25_3 := blk_frozen BK182.out 3
      have hfz25_4 := blk_frozen BK182.out 4
      have hfz25_5 := blk_frozen BK182.out 5
      go_wp2
      go_ret
      exact ⟨by first | rfl | (simp [errW_none, errW_some] <;> rfl) | (simp [*, errW_none, errW_some] <;> rfl), B1_⟩
     rw [if_neg c24] at H
     have c24b0 : (a0_0 == 19) = false := beq_eq_false_iff_ne.mpr c24
     have c24b1 : (a0_0 != 19) = true := bne_iff_ne.mpr c24
     replace H := Option.bind_eq_some_iff.mp H
     obtain ⟨t188, A260, H⟩ := H
     replace H : (some t188) = some r := H
     have A26 := Aside0.mk A260
     clear A260
     obtain rfl := Option.some.inj H
     have hcz27_0 : wr.cell? ⟨gb182, 0, none⟩ = some (.int .i64 a0_0) := (blk_cell BK182.out 0).trans rfl
     have hcz27_1 : wr.cell? ⟨gb182, 1, none⟩ = some (.int .i64 a0_1) := (blk_cell BK182.out 1).trans rfl
     have hcz27_2 : wr.cell? ⟨gb182, 2, none⟩ = some (.int .i64 a0_2) := (blk_cell BK182.out 2).trans rfl
     have hcz27_3 : wr.cell? ⟨gb182, 3, none⟩ = some (.int .i64 a0_3) := (blk_cell BK182.out 3).trans rfl
     have hcz27_4 : wr.cell? ⟨gb182, 4, none⟩ = some (.slice A0_4 l0_4.length c0_4) := (blk_cell BK182.out 4).trans rfl
     have hcz27_5 : wr.cell? ⟨gb182, 5, none⟩ = some (.int .u64 a0_5) := (blk_cell BK182.out 5).trans rfl
     have hfz27_0 := blk_frozen BK182.out 0
     have hfz27_1 := blk_frozen BK182.out 1
     have hfz27_2 := blk_frozen BK182.out 2
     have hfz27_3 := blk_frozen BK182.out 3
     have hfz27_4 := blk_frozen BK182.out 4
     have hfz27_5 := blk_frozen BK182.out 5
     go_wp2_with (first | ((with_reducible refine gate_callee (f := 31) rfl ?_); refine goesL_ (some 50) rfl rfl Try.func31 (by kernel_rfl) rfl #[.int .i64 a0_3] rfl (by (try simp only [List.map_toArray, List.map_cons, List.map_nil]); first | done | rfl | (simp only [List.length_drop, List.length_take]; rfl)) ?_; (with_reducible refine (lockstepref03_Value.calls a0_3 t188 _ A26.out).mono ?_); rintro e w' ⟨rfl, ⟨nd, rfl⟩⟩; refine ⟨_, rfl, ?_⟩))
     go_ret
     exact ⟨by first | rfl | (simp [errW_none, errW_some] <;> rfl) | (simp [*, errW_none, errW_some] <;> rfl), B1_⟩

end Go.Proofs.Ytblhphjdjpodcaa.Q
namespace Go.Proofs.Ytblhphjdjpodcaa.Q
open Go.Proofs.YtblhphjdjpodcaaH
open Go.RowKit Go.Proofs.YtblhphjdjpodcaaW.PrintWords Go.Proofs.YtblhphjdjpodcaaW.PrintLast Go.Proofs.YtblhphjdjpodcaaW.PrintMore
attribute [local go_sem] max2_int min2_int max_two min_two max_three min_three max_four min_four   -- for this text's walks alone
set_option linter.unusedVariables false
set_option linter.unusedSimpArgs false

/-! ### lockstepref03_Gives: function 13 -/
mutual
def lockstepref03_Gives.j0 : Nat → Bool → Int → Int → Int → Int → List Int → Int → Option (Int × Int)
 | 0, _, _, _, _, _, _, _ => none
 | k + 1, x16, x190000, x190001, x190002, x190003, x190004, x190005 => if x16 = true then (some (0, 0)) else (if x190000 ≥ 10 then (lockstepref03_Gives.j1 k (decide (x190000 ≤ 12)) x190000 x190001 x190002 x190003 x190004 x190005) else (lockstepref03_Gives.j1 k false x190000 x190001 x190002 x190003 x190004 x190005))
def lockstepref03_Gives.j1 : Nat → Bool → Int → Int → Int → Int → List Int → Int → Option (Int × Int)
 | 0, _, _, _, _, _, _, _ => none
 | k + 1, x24, x190000, x190001, x190002, x190003, x190004, x190005 => if x24 = true then (some (1, 1)) else (if x190000 = 22 then (some (x190001, 1)) else (some (x190001, x190002)))
end
def lockstepref03_Gives.f (k : Nat) (a0_0 : Int) (a0_1 : Int) (a0_2 : Int) (a0_3 : Int) (l0_4 : List Int) (a0_5 : Int) : Option (Int × Int) := (lockstepref03_May.f k a0_0 a0_1 a0_2 a0_3 l0_4 a0_5).bind fun t190 => (if t190 = true then (if a0_0 = 17 then (lockstepref03_Gives.j0 k true a0_0 a0_1 a0_2 a0_3 l0_4 a0_5) else (lockstepref03_Gives.j0 k (a0_0 == 19) a0_0 a0_1 a0_2 a0_3 l0_4 a0_5)) else (lockstepref03_Gives.j0 k true a0_0 a0_1 a0_2 a0_3 l0_4 a0_5))
theorem lockstepref03_Gives.mono_l : ∀ k, (∀ y0 y1 y2 y3 y4 y5 y6, LeO (lockstepref03_Gives.j0 k y0 y1 y2 y3 y4 y5 y6) (lockstepref03_Gives.j0 (k + 1) y0 y1 y2 y3 y4 y5 y6)) ∧ (∀ y0 y1 y2 y3 y4 y5 y6, LeO (lockstepref03_Gives.j1 k y0 y1 y2 y3 y4 y5 y6) (lockstepref03_Gives.j1 (k + 1) y0 y1 y2 y3 y4 y5 y6))
 | 0 => ⟨fun _ _ _ _ _ _ _ r h => by simp [lockstepref03_Gives.j0] at h, fun _ _ _ _ _ _ _ r h => by simp [lockstepref03_Gives.j1] at h⟩
 | k + 1 => by
  obtain ⟨ih0, ih1⟩ := lockstepref03_Gives.mono_l k
  refine ⟨?_, ?_⟩
  ·intro y0 y1 y2 y3 y4 y5 y6
   unfold lockstepref03_Gives.j0
   repeat' first
   | (with_reducible exact ih0 _ _ _ _ _ _ _)
   | (with_reducible exact ih1 _ _ _ _ _ _ _)
   | (with_reducible exact lockstepref03_May.mono _ _ _ _ _ _ _)
   | (with_reducible exact LeO.refl _)
   | (with_reducible exact LeO.none _)
   | (with_reducible refine LeO.ite ?_ ?_)
   | (with_reducible refine LeO.bind ?_ (fun _ => ?_))
   | exact ih0 _ _ _ _ _ _ _
   | exact ih1 _ _ _ _ _ _ _
   | exact lockstepref03_May.mono _ _ _ _ _ _ _
   | exact LeO.none _
   | refine LeO.ite ?_ ?_
   | refine LeO.bind ?_ (fun _ => ?_)
  ·intro y0 y1 y2 y3 y4 y5 y6
   unfold lockstepref03_Gives.j1
   repeat' first
   | (with_reducible exact ih0 _ _ _ _ _ _ _)
   | (with_reducible exact ih1 _ _ _ _ _ _ _)
   | (with_reducible exact lockstepref03_May.mono _ _ _ _ _ _ _)
   | (with_reducible exact LeO.refl _)
   | (with_reducible exact LeO.none _)
   | (with_reducible refine LeO.ite ?_ ?_)
   | (with_reducible refine LeO.bind ?_ (fun _ => ?_))
   | exact ih0 _ _ _ _ _ _ _
   | exact ih1 _ _ _ _ _ _ _
   | exact lockstepref03_May.mono _ _ _ _ _ _ _
   | exact LeO.none _
   | refine LeO.ite ?_ ?_
   | refine LeO.bind ?_ (fun _ => ?_)
theorem lockstepref03_Gives.mono : ∀ a0 a1 a2 a3 a4 a5 k, LeO (lockstepref03_Gives.f k a0 a1 a2 a3 a4 a5) (lockstepref03_Gives.f (k + 1) a0 a1 a2 a3 a4 a5) := by
 intro a0 a1 a2 a3 a4 a5 k
 obtain ⟨ih0, ih1⟩ := lockstepref03_Gives.mono_l k
 unfold lockstepref03_Gives.f
 repeat' first
  | (with_reducible exact ih0 _ _ _ _ _ _ _)
  | (with_reducible exact ih1 _ _ _ _ _ _ _)
  | (with_reducible exact lockstepref03_May.mono _ _ _ _ _ _ _)
  | (with_reducible exact LeO.refl _)
  | (with_reducible exact LeO.none _)
  | (with_reducible refine LeO.ite ?_ ?_)
  | (with_reducible refine LeO.bind ?_ (fun _ => ?_))
  | exact ih0 _ _ _ _ _ _ _
  | exact ih1 _ _ _ _ _ _ _
  | exact lockstepref03_May.mono _ _ _ _ _ _ _
  | exact LeO.none _
  | refine LeO.ite ?_ ?_
  | refine LeO.bind ?_ (fun _ => ?_)
set_option maxHeartbeats 8000000 in
set_option maxRecDepth 100000 in
theorem lockstepref03_Gives.calls (k : Nat) (a0_0 : Int) (a0_1 : Int) (a0_2 : Int) (a0_3 : Int) (A0_4 : Option Addr) (c0_4 : Nat) (l0_4 : List Int) (a0_5 : Int) (r1 : Int) (r2 : Int) (w : World) (hr0_4 : Kd.C (Kd.int .i64) w A0_4 l0_4.length l0_4) (hc0_4 : l0_4.length ≤ c0_4) (h : lockstepref03_Gives.f k a0_0 a0_1 a0_2 a0_3 l0_4 a0_5 = some (r1, r2)) :
 Calls Try.prog 13 #[.agg #[.int .i64 a0_0, .int .i64 a0_1, .int .i64 a0_2, .int .i64 a0_3, .slice A0_4 l0_4.length c0_4, .int .u64 a0_5]] w fun e w' => e = .returned (.tuple #[.int .i64 r1, .int .i64 r2]) ∧ Below w.heap.size w w' := by
 have hu27 := Try.underlying27
 have HR0_4 := Aside0.mk hr0_4
 have HC0_4 := Aside0.mk hc0_4
 clear hr0_4 hc0_4
 have HB := Aside0.mk (Below.refl w.heap.size w)
 have H : ((lockstepref03_May.f k a0_0 a0_1 a0_2 a0_3 l0_4 a0_5).bind fun t190 => (if t190 = true then (if a0_0 = 17 then (lockstepref03_Gives.j0 k true a0_0 a0_1 a0_2 a0_3 l0_4 a0_5) else (lockstepref03_Gives.j0 k (a0_0 == 19) a0_0 a0_1 a0_2 a0_3 l0_4 a0_5)) else (lockstepref03_Gives.j0 k true a0_0 a0_1 a0_2 a0_3 l0_4 a0_5))) = some (r1, r2) := h
 clear h
 have HC2 := Aside0.mk H
 clear H
 go_enter Try.func13, Try.ntmps13
 go_upto_region 1 with (first | ((with_reducible refine gate_dst (N := 1) rfl ?_); refine box_event ?hg (N := 1) ?hd (cs := #[.int .i64 a0_0, .int .i64 a0_1, .int .i64 a0_2, .int .i64 a0_3, .slice A0_4 l0_4.length c0_4, .int .u64 a0_5]) (t := 27) ?hr ?_; (case hd => rfl); (case hg => rfl); (case hr => first | (go_simp; done) | (go_simp; rfl)); intro gb189 hg w3 hbox hb; have n0_ := Aside0.mk (below_step (B_) hb); have n1_ := Aside0.mk (hbox); have n2_ := Aside0.mk ((by rw [hg]; exact (below_size (B_)) : w.heap.size ≤ gb189)); have n3_ := Aside0.mk ((by rw [hg]; exact (below_size (B_)) : w.heap.size ≤ gb189)); clear HB; have HB := n0_; have BK189 := n1_; have GW189 := n2_; have GE189 := n3_; clear n0_ n1_ n2_ n3_; clear hb hbox hg))
 repeat (go_quiet (first | ((with_reducible refine gate_dst (N := 1) rfl ?_); refine box_event ?hg (N := 1) ?hd (cs := #[.int .i64 a0_0, .int .i64 a0_1, .int .i64 a0_2, .int .i64 a0_3, .slice A0_4 l0_4.length c0_4, .int .u64 a0_5]) (t := 27) ?hr ?_; (case hd => rfl); (case hg => rfl); (case hr => first | (go_simp; done) | (go_simp; rfl)); intro gb189 hg w3 hbox hb; have n0_ := Aside0.mk (below_step (B_) hb); have n1_ := Aside0.mk (hbox); have n2_ := Aside0.mk ((by rw [hg]; exact (below_size (B_)) : w.heap.size ≤ gb189)); have n3_ := Aside0.mk ((by rw [hg]; exact (below_size (B_)) : w.heap.size ≤ gb189)); clear HB; have HB := n0_; have BK189 := n1_; have GW189 := n2_; have GE189 := n3_; clear n0_ n1_ n2_ n3_; clear hb hbox hg)); go_upto_region 1 with (first | ((with_reducible refine gate_dst (N := 1) rfl ?_); refine box_event ?hg (N := 1) ?hd (cs := #[.int .i64 a0_0, .int .i64 a0_1, .int .i64 a0_2, .int .i64 a0_3, .slice A0_4 l0_4.length c0_4, .int .u64 a0_5]) (t := 27) ?hr ?_; (case hd => rfl); (case hg => rfl); (case hr => first | (go_simp; done) | (go_simp; rfl)); intro gb189 hg w3 hbox hb; have n0_ := Aside0.mk (below_step (B_) hb); have n1_ := Aside0.mk (hbox); have n2_ := Aside0.mk ((by rw [hg]; exact (below_size (B_)) : w.heap.size ≤ gb189)); have n3_ := Aside0.mk ((by rw [hg]; exact (below_size (B_)) : w.heap.size ≤ gb189)); clear HB; have HB := n0_; have BK189 := n1_; have GW189 := n2_; have GE189 := n3_; clear n0_ n1_ n2_ n3_; clear hb hbox hg)))
 (try simp only [Act.put, List.setIfInBounds_toArray, List.set_cons_zero, List.set_cons_succ])
 go_cut [16] (fun v16 wc => ∃ (kq : Nat) (x16_1 : Bool), v16 = .bool x16_1 ∧ Aside0 (lockstepref03_Gives.j0 kq x16_1 a0_0 a0_1 a0_2 a0_3 l0_4 a0_5 = some (r1, r2)) ∧ Aside0 (kq ≤ k) ∧ Aside0 (wc.heap[gb189]? = some (.cells #[.int .i64 a0_0, .int .i64 a0_1, .int .i64 a0_2, .int .i64 a0_3, (.slice A0_4 l0_4.length c0_4), .int .u64 a0_5] 27 (0, 0))) ∧ Aside0 (Below w.heap.size w wc))
 case first =>
  have H := HC2.out
  clear HC2
  replace H := Option.bind_eq_some_iff.mp H
  obtain ⟨t190, A40, H⟩ := H
  replace H : (if t190 = true then (if a0_0 = 17 then (lockstepref03_Gives.j0 k true a0_0 a0_1 a0_2 a0_3 l0_4 a0_5) else (lockstepref03_Gives.j0 k (a0_0 == 19) a0_0 a0_1 a0_2 a0_3 l0_4 a0_5)) else (lockstepref03_Gives.j0 k true a0_0 a0_1 a0_2 a0_3 l0_4 a0_5)) = some (r1, r2) := H
  have A4 := Aside0.mk A40
  clear A40
  by_cases c5 : t190 = true
  ·subst c5
   have H1 : (if a0_0 = 17 then (lockstepref03_Gives.j0 k true a0_0 a0_1 a0_2 a0_3 l0_4 a0_5) else (lockstepref03_Gives.j0 k (a0_0 == 19) a0_0 a0_1 a0_2 a0_3 l0_4 a0_5)) = some (r1, r2) := by rw [if_pos rfl] at H; exact H
   clear H
   have H := H1
   clear H1
   by_cases c6 : a0_0 = 17
   ·rw [if_pos c6] at H
    have c6b0 : (a0_0 == 17) = true := beq_iff_eq.mpr c6
    have c6b1 : (a0_0 != 17) = false := bne_eq_false_iff_eq.mpr c6
    clear c6
    (first | rw [c6b0] | (simp only [i64_w, i32_w]; rw [c6b0]) | skip)
    have H' := Aside0.mk H
    clear H
    have hcz7_0 : w3.cell? ⟨gb189, 0, none⟩ = some (.int .i64 a0_0) := (blk_cell BK189.out 0).trans rfl
    have hcz7_1 : w3.cell? ⟨gb189, 1, none⟩ = some (.int .i64 a0_1) := (blk_cell BK189.out 1).trans rfl
    have hcz7_2 : w3.cell? ⟨gb189, 2, none⟩ = some (.int .i64 a0_2) := (blk_cell BK189.out 2).trans rfl
    have hcz7_3 : w3.cell? ⟨gb189, 3, none⟩ = some (.int .i64 a0_3) := (blk_cell BK189.out 3).trans rfl
    have hcz7_4 : w3.cell? ⟨gb189, 4, none⟩ = some (.slice A0_4 l0_4.length c0_4) := (blk_cell BK189.out 4).trans rfl
    have hcz7_5 : w3.cell? ⟨gb189, 5, none⟩ = some (.int .u64 a0_5) := (blk_cell BK189.out 5).trans rfl
    have hfz7_0 := blk_frozen BK189.out 0
    have hfz7_1 := blk_frozen BK189.out 1
    have hfz7_2 := blk_frozen BK189.out 2
    have hfz7_3 := blk_frozen BK189.out 3
    have hfz7_4 := blk_frozen BK189.out 4
    have hfz7_5 := blk_frozen BK189.out 5
    go_wp2_with (first | (go_at_call 14; (with_reducible refine (lockstepref03_May.calls k a0_0 a0_1 a0_2 a0_3 _ _ l0_4 a0_5 true _ ?side1 ?side2 A4.out).mono ?_); (case side1 => repeat (first | exact (Kd.C_below HR0_4.out HB.out) | (with_reducible refine Kd.C_alloc ?_ _) | (with_reducible refine Kd.C_drewN ?_ _) | (with_reducible refine Kd.C_drew ?_))); (case side2 => exact HC0_4.out); rintro e w8 ⟨rfl, hb⟩; have n0_ := Aside0.mk (blk_below (g := gb189) (o := .cells #[.int .i64 a0_0, .int .i64 a0_1, .int .i64 a0_2, .int .i64 a0_3, .slice A0_4 l0_4.length c0_4, .int .u64 a0_5] 27 (0, 0)) (by (with_reducible repeat (first | refine blk_drewN ?_ _ | refine blk_drew ?_ | refine blk_alloc ?_ _)); exact BK189.out) hb); have n1_ := Aside0.mk (below_step (B1_) hb); clear BK189; clear HB; have BK189 := n0_; have HB := n1_; clear n0_ n1_; (try clear hb); (try clear hb2); (try clear hk); (try clear hi); have hcz9_0 : w8.cell? ⟨gb189, 0, none⟩ = some (.int .i64 a0_0) := (blk_cell BK189.out 0).trans rfl; have hcz9_1 : w8.cell? ⟨gb189, 1, none⟩ = some (.int .i64 a0_1) := (blk_cell BK189.out 1).trans rfl; have hcz9_2 : w8.cell? ⟨gb189, 2, none⟩ = some (.int .i64 a0_2) := (blk_cell BK189.out 2).trans rfl; have hcz9_3 : w8.cell? ⟨gb189, 3, none⟩ = some (.int .i64 a0_3) := (blk_cell BK189.out 3).trans rfl; have hcz9_4 : w8.cell? ⟨gb189, 4, none⟩ = some (.slice A0_4 l0_4.length c0_4) := (blk_cell BK189.out 4).trans rfl; have hcz9_5 : w8.cell? ⟨gb189, 5, none⟩ = some (.int .u64 a0_5) := (blk_cell BK189.out 5).trans rfl; have hfz9_0 := blk_frozen BK189.out 0; have hfz9_1 := blk_frozen BK189.out 1; have hfz9_2 := blk_frozen BK189.out 2; have hfz9_3 := blk_frozen BK189.out 3; have hfz9_4 := blk_frozen BK189.out 4; have hfz9_5 := blk_frozen BK189.out 5))
    repeat (go_quiet (first | (go_at_call 14; (with_reducible refine (lockstepref03_May.calls k a0_0 a0_1 a0_2 a0_3 _ _ l0_4 a0_5 true _ ?side1 ?side2 A4.out).mono ?_); (case side1 => repeat (first | exact (Kd.C_below HR0_4.out HB.out) | (with_reducible refine Kd.C_alloc ?_ _) | (with_reducible refine Kd.C_drewN ?_ _) | (with_reducible refine Kd.C_drew ?_))); (case side2 => exact HC0_4.out); rintro e w8 ⟨rfl, hb⟩; have n0_ := Aside0.mk (blk_below (g := gb189) (o := .cells #[.int .i64 a0_0, .int .i64 a0_1, .int .i64 a0_2, .int .i64 a0_3, .slice A0_4 l0_4.length c0_4, .int .u64 a0_5] 27 (0, 0)) (by (with_reducible repeat (first | refine blk_drewN ?_ _ | refine blk_drew ?_ | refine blk_alloc ?_ _)); exact BK189.out) hb); have n1_ := Aside0.mk (below_step (B1_) hb); clear BK189; clear HB; have BK189 := n0_; have HB := n1_; clear n0_ n1_; (try clear hb); (try clear hb2); (try clear hk); (try clear hi); have hcz9_0 : w8.cell? ⟨gb189, 0, none⟩ = some (.int .i64 a0_0) := (blk_cell BK189.out 0).trans rfl; have hcz9_1 : w8.cell? ⟨gb189, 1, none⟩ = some (.int .i64 a0_1) := (blk_cell BK189.out 1).trans rfl; have hcz9_2 : w8.cell? ⟨gb189, 2, none⟩ = some (.int .i64 a0_2) := (blk_cell BK189.out 2).trans rfl; have hcz9_3 : w8.cell? ⟨gb189, 3, none⟩ = some (.int .i64 a0_3) := (blk_cell BK189.out 3).trans rfl; have hcz9_4 : w8.cell? ⟨gb189, 4, none⟩ = some (.slice A0_4 l0_4.length c0_4) := (blk_cell BK189.out 4).trans rfl; have hcz9_5 : w8.cell? ⟨gb189, 5, none⟩ = some (.int .u64 a0_5) := (blk_cell BK189.out 5).trans rfl; have hfz9_0 := blk_frozen BK189.out 0; have hfz9_1 := blk_frozen BK189.out 1; have hfz9_2 := blk_frozen BK189.out 2; have hfz9_3 := blk_frozen BK189.out 3; have hfz9_4 := blk_frozen BK189.out 4; have hfz9_5 := blk_frozen BK189.out 5)); try go_wp2_with (first | (go_at_call 14; (with_reducible refine (lockstepref03_May.calls k a0_0 a0_1 a0_2 a0_3 _ _ l0_4 a0_5 true _ ?side1 ?side2 A4.out).mono ?_); (case side1 => repeat (first | exact (Kd.C_below HR0_4.out HB.out) | (with_reducible refine Kd.C_alloc ?_ _) | (with_reducible refine Kd.C_drewN ?_ _) | (with_reducible refine Kd.C_drew ?_))); (case side2 => exact HC0_4.out); rintro e w8 ⟨rfl, hb⟩; have n0_ := Aside0.mk (blk_below (g := gb189) (o := .cells #[.int .i64 a0_0, .int .i64 a0_1, .int .i64 a0_2, .int .i64 a0_3, .slice A0_4 l0_4.length c0_4, .int .u64 a0_5] 27 (0, 0)) (by (with_reducible repeat (first | refine blk_drewN ?_ _ | refine blk_drew ?_ | refine blk_alloc ?_ _)); exact BK189.out) hb); have n1_ := Aside0.mk (below_step (B1_) hb); clear BK189; clear HB; have BK189 := n0_; have HB := n1_; clear n0_ n1_; (try clear hb); (try clear hb2); (try clear hk); (try clear hi); have hcz9_0 : w8.cell? ⟨gb189, 0, none⟩ = some (.int .i64 a0_0) := (blk_cell BK189.out 0).trans rfl; have hcz9_1 : w8.cell? ⟨gb189, 1, none⟩ = some (.int .i64 a0_1) := (blk_cell BK189.out 1).trans rfl; have hcz9_2 : w8.cell? ⟨gb189, 2, none⟩ = some (.int .i64 a0_2) := (blk_cell BK189.out 2).trans rfl; have hcz9_3 : w8.cell? ⟨gb189, 3, none⟩ = some (.int .i64 a0_3) := (blk_cell BK189.out 3).trans rfl; have hcz9_4 : w8.cell? ⟨gb189, 4, none⟩ = some (.slice A0_4 l0_4.length c0_4) := (blk_cell BK189.out 4).trans rfl; have hcz9_5 : w8.cell? ⟨gb189, 5, none⟩ = some (.int .u64 a0_5) := (blk_cell BK189.out 5).trans rfl; have hfz9_0 := blk_frozen BK189.out 0; have hfz9_1 := blk_frozen BK189.out 1; have hfz9_2 := blk_frozen BK189.out 2; have hfz9_3 := blk_frozen BK189.out 3; have hfz9_4 := blk_frozen BK189.out 4; have hfz9_5 := blk_frozen BK189.out 5)))
    go_meet
    case rel => exact ⟨_, (true), (by first | rfl | (simp; done) | (simp [*]; done)), H', ⟨by first | omega | exact Nat.le_refl _⟩, ⟨by (with_reducible repeat (first | refine blk_drewN ?_ _ | refine blk_drew ?_ | refine blk_alloc ?_ _)); exact BK189.out⟩, ⟨B1_⟩⟩
   rw [if_neg c6] at H
   have c6b0 : (a0_0 == 17) = false := beq_eq_false_iff_ne.mpr c6
   have c6b1 : (a0_0 != 17) = true := bne_iff_ne.mpr c6
   (first | rw [c6b0] | (simp only [i64_w, i32_w]; rw [c6b0]) | skip)
   have H' := Aside0.mk H
   clear H
   have hcz10_0 : w3.cell? ⟨gb189, 0, none⟩ = some (.int .i64 a0_0) := (blk_cell BK189.out 0).trans rfl
   have hcz10_1 : w3.cell? ⟨gb189, 1, none⟩ = some (.int .i64 a0_1) := (blk_cell BK189.out 1).trans rfl
   have hcz10_2 : w3.cell? ⟨gb189, 2, none⟩ = some (.int .i64 a0_2) := (blk_cell BK189.out 2).trans rfl
   have hcz10_3 : w3.cell? ⟨gb189, 3, none⟩ = some (.int .i64 a0_3) := (blk_cell BK189.out 3).trans rfl
   have hcz10_4 : w3.cell? ⟨gb189, 4, none⟩ = some (.slice A0_4 l0_4.length c0_4) := (blk_cell BK189.out 4).trans rfl
   have hcz10_5 : w3.cell? ⟨gb189, 5, none⟩ = some (.int .u64 a0_5) := (blk_cell BK189.out 5).trans rfl
   have hfz10_0 := blk_frozen BK189.out 0
   have hfz10_1 := blk_frozen BK189.out 1
   have hfz10_2 := blk_frozen BK189.out 2
   have hfz10_3 := blk_frozen BK189.out 3
   have hfz10_4 := blk_frozen BK189.out 4
   have hfz10_5 := blk_frozen BK189.out 5
   go_wp2_with (first | (go_at_call 14; (with_reducible refine (lockstepref03_May.calls k a0_0 a0_1 a0_2 a0_3 _ _ l0_4 a0_5 true _ ?side1 ?side2 A4.out).mono ?_); (case side1 => repeat (first | exact (Kd.C_below HR0_4.out HB.out) | (with_reducible refine Kd.C_alloc ?_ _) | (with_reducible refine Kd.C_drewN ?_ _) | (with_reducible refine Kd.C_drew ?_))); (case side2 => exact HC0_4.out); rintro e w11 ⟨rfl, hb⟩; have n0_ := Aside0.mk (blk_below (g := gb189) (o := .cells #[.int .i64 a0_0, .int .i64 a0_1, .int .i64 a0_2, .int .i64 a0_3, .slice A0_4 l0_4.length c0_4, .int .u64 a0_5] 27 (0, 0)) (by (with_reducible repeat (first | refine blk_drewN ?_ _ | refine blk_drew ?_ | refine blk_alloc ?_ _)); exact BK189.out) hb); have n1_ := Aside0.mk (below_step (B1_) hb); clear BK189; clear HB; have BK189 := n0_; have HB := n1_; clear n0_ n1_; (try clear hb); (try clear hb2); (try clear hk); (try clear hi); have hcz12_0 : w11.cell? ⟨gb189, 0, none⟩ = some (.int .i64 a0_0) := (blk_cell BK189.out 0).trans rfl; have hcz12_1 : w11.cell? ⟨gb189, 1, none⟩ = some (.int .i64 a0_1) := (blk_cell BK189.out 1).trans rfl; have hcz12_2 : w11.cell? ⟨gb189, 2, none⟩ = some (.int .i64 a0_2) := (blk_cell BK189.out 2).trans rfl; have hcz12_3 : w11.cell? ⟨gb189, 3, none⟩ = some (.int .i64 a0_3) := (blk_cell BK189.out 3).trans rfl; have hcz12_4 : w11.cell? ⟨gb189, 4, none⟩ = some (.slice A0_4 l0_4.length c0_4) := (blk_cell BK189.out 4).trans rfl; have hcz12_5 : w11.cell? ⟨gb189, 5, none⟩ = some (.int .u64 a0_5) := (blk_cell BK189.out 5).trans rfl; have hfz12_0 := blk_frozen BK189.out 0; have hfz12_1 := blk_frozen BK189.out 1; have hfz12_2 := blk_frozen BK189.out 2; have hfz12_3 := blk_frozen BK189.out 3; have hfz12_4 := blk_frozen BK189.out 4; have hfz12_5 := blk_frozen BK189.out 5))
   repeat (go_quiet (first | (go_at_call 14; (with_reducible refine (lockstepref03_May.calls k a0_0 a0_1 a0_2 a0_3 _ _ l0_4 a0_5 true _ ?side1 ?side2 A4.out).mono ?_); (case side1 => repeat (first | exact (Kd.C_below HR0_4.out HB.out) | (with_reducible refine Kd.C_alloc ?_ _) | (with_reducible refine Kd.C_drewN ?_ _) | (with_reducible refine Kd.C_drew ?_))); (case side2 => exact HC0_4.out); rintro e w11 ⟨rfl, hb⟩; have n0_ := Aside0.mk (blk_below (g := gb189) (o := .cells #[.int .i64 a0_0, .int .i64 a0_1, .int .i64 a0_2, .int .i64 a0_3, .slice A0_4 l0_4.length c0_4, .int .u64 a0_5] 27 (0, 0)) (by (with_reducible repeat (first | refine blk_drewN ?_ _ | refine blk_drew ?_ | refine blk_alloc ?_ _)); exact BK189.out) hb); have n1_ := Aside0.mk (below_step (B1_) hb); clear BK189; clear HB; have BK189 := n0_; have HB := n1_; clear n0_ n1_; (try clear hb); (try clear hb2); (try clear hk); (try clear hi); have hcz12_0 : w11.cell? ⟨gb189, 0, none⟩ = some (.int .i64 a0_0) := (blk_cell BK189.out 0).trans rfl; have hcz12_1 : w11.cell? ⟨gb189, 1, none⟩ = some (.int .i64 a0_1) := (blk_cell BK189.out 1).trans rfl; have hcz12_2 : w11.cell? ⟨gb189, 2, none⟩ = some (.int .i64 a0_2) := (blk_cell BK189.out 2).trans rfl; have hcz12_3 : w11.cell? ⟨gb189, 3, none⟩ = some (.int .i64 a0_3) := (blk_cell BK189.out 3).trans rfl; have hcz12_4 : w11.cell? ⟨gb189, 4, none⟩ = some (.slice A0_4 l0_4.length c0_4) := (blk_cell BK189.out 4).trans rfl; have hcz12_5 : w11.cell? ⟨gb189, 5, none⟩ = some (.int .u64 a0_5) := (blk_cell BK189.out 5).trans rfl; have hfz12_0 := blk_frozen BK189.out 0; have hfz12_1 := blk_frozen BK189.out 1; have hfz12_2 := blk_frozen BK189.out 2; have hfz12_3 := blk_frozen BK189.out 3; have hfz12_4 := blk_frozen BK189.out 4; have hfz12_5 := blk_frozen BK189.out 5)); try go_wp2_with (first | (go_at_call 14; (with_reducible refine (lockstepref03_May.calls k a0_0 a0_1 a0_2 a0_3 _ _ l0_4 a0_5 true _ ?side1 ?side2 A4.out).mono ?_); (case side1 => repeat (first | exact (Kd.C_below HR0_4.out HB.out) | (with_reducible refine Kd.C_alloc ?_ _) | (with_reducible refine Kd.C_drewN ?_ _) | (with_reducible refine Kd.C_drew ?_))); (case side2 => exact HC0_4.out); rintro e w11 ⟨rfl, hb⟩; have n0_ := Aside0.mk (blk_below (g := gb189) (o := .cells #[.int .i64 a0_0, .int .i64 a0_1, .int .i64 a0_2, .int .i64 a0_3, .slice A0_4 l0_4.length c0_4, .int .u64 a0_5] 27 (0, 0)) (by (with_reducible repeat (first | refine blk_drewN ?_ _ | refine blk_drew ?_ | refine blk_alloc ?_ _)); exact BK189.out) hb); have n1_ := Aside0.mk (below_step (B1_) hb); clear BK189; clear HB; have BK189 := n0_; have HB := n1_; clear n0_ n1_; (try clear hb); (try clear hb2); (try clear hk); (try clear hi); have hcz12_0 : w11.cell? ⟨gb189, 0, none⟩ = some (.int .i64 a0_0) := (blk_cell BK189.out 0).trans rfl; have hcz12_1 : w11.cell? ⟨gb189, 1, none⟩ = some (.int .i64 a0_1) := (blk_cell BK189.out 1).trans rfl; have hcz12_2 : w11.cell? ⟨gb189, 2, none⟩ = some (.int .i64 a0_2) := (blk_cell BK189.out 2).trans rfl; have hcz12_3 : w11.cell? ⟨gb189, 3, none⟩ = some (.int .i64 a0_3) := (blk_cell BK189.out 3).trans rfl; have hcz12_4 : w11.cell? ⟨gb189, 4, none⟩ = some (.slice A0_4 l0_4.length c0_4) := (blk_cell BK189.out 4).trans rfl; have hcz12_5 : w11.cell? ⟨gb189, 5, none⟩ = some (.int .u64 a0_5) := (blk_cell BK189.out 5).trans rfl; have hfz12_0 := blk_frozen BK189.out 0; have hfz12_1 := blk_frozen BK189.out 1; have hfz12_2 := blk_frozen BK189.out 2; have hfz12_3 := blk_frozen BK189.out 3; have hfz12_4 := blk_frozen BK189.out 4; have hfz12_5 := blk_frozen BK189.out 5)))
   go_meet
   case rel => exact ⟨_, ((a0_0 == 19)), (by first | rfl | (simp; done) | (simp [*]; done)), H', ⟨by first | omega | exact Nat.le_refl _⟩, ⟨by (with_reducible repeat (first | refine blk_drewN ?_ _ | refine blk_drew ?_ | refine blk_alloc ?_ _)); exact BK189.out⟩, ⟨B1_⟩⟩
  replace c5 := Bool.eq_false_iff.mpr c5
  subst c5
  have H1 : (lockstepref03_Gives.j0 k true a0_0 a0_1 a0_2 a0_3 l0_4 a0_5) = some (r1, r2) := by rw [if_neg (show ¬ (false = true) by decide)] at H; exact H
  clear H
  have H := H1
  clear H1
  have H' := Aside0.mk H
  clear H
  have hcz13_0 : w3.cell? ⟨gb189, 0, none⟩ = some (.int .i64 a0_0) := (blk_cell BK189.out 0).trans rfl
  have hcz13_1 : w3.cell? ⟨gb189, 1, none⟩ = some (.int .i64 a0_1) := (blk_cell BK189.out 1).trans rfl
  have hcz13_2 : w3.cell? ⟨gb189, 2, none⟩ = some (.int .i64 a0_2) := (blk_cell BK189.out 2).trans rfl
  have hcz13_3 : w3.cell? ⟨gb189, 3, none⟩ = some (.int .i64 a0_3) := (blk_cell BK189.out 3).trans rfl
  have hcz13_4 : w3.cell? ⟨gb189, 4, none⟩ = some (.slice A0_4 l0_4.length c0_4) := (blk_cell BK189.out 4).trans rfl
  have hcz13_5 : w3.cell? ⟨gb189, 5, none⟩ = some (.int .u64 a0_5) := (blk_cell BK189.out 5).trans rfl
  have hfz13_0 := blk_frozen BK189.out 0
  have hfz13_1 := blk_frozen BK189.out 1
  have hfz13_2 := blk_frozen BK189.out 2
  have hfz13_3 := blk_frozen BK189.out 3
  have hfz13_4 := blk_frozen BK189.out 4
  have hfz13_5 := blk_frozen BK189.out 5
  go_wp2_with (first | (go_at_call 14; (with_reducible refine (lockstepref03_May.calls k a0_0 a0_1 a0_2 a0_3 _ _ l0_4 a0_5 false _ ?side1 ?side2 A4.out).mono ?_); (case side1 => repeat (first | exact (Kd.C_below HR0_4.out HB.out) | (with_reducible refine Kd.C_alloc ?_ _) | (with_reducible refine Kd.C_drewN ?_ _) | (with_reducible refine Kd.C_drew ?_))); (case side2 => exact HC0_4.out); rintro e w14 ⟨rfl, hb⟩; have n0_ := Aside0.mk (blk_below (g := gb189) (o := .cells #[.int .i64 a0_0, .int .i64 a0_1, .int .i64 a0_2, .int .i64 a0_3, .slice A0_4 l0_4.length c0_4, .int .u64 a0_5] 27 (0, 0)) (by (with_reducible repeat (first | refine blk_drewN ?_ _ | refine blk_drew ?_ | refine blk_alloc ?_ _)); exact BK189.out) hb); have n1_ := Aside0.mk (below_step (B1_) hb); clear BK189; clear HB; have BK189 := n0_; have HB := n1_; clear n0_ n1_; (try clear hb); (try clear hb2); (try clear hk); (try clear hi)))
  repeat (go_quiet (first | (go_at_call 14; (with_reducible refine (lockstepref03_May.calls k a0_0 a0_1 a0_2 a0_3 _ _ l0_4 a0_5 false _ ?side1 ?side2 A4.out).mono ?_); (case side1 => repeat (first | exact (Kd.C_below HR0_4.out HB.out) | (with_reducible refine Kd.C_alloc ?_ _) | (with_reducible refine Kd.C_drewN ?_ _) | (with_reducible refine Kd.C_drew ?_))); (case side2 => exact HC0_4.out); rintro e w14 ⟨rfl, hb⟩; have n0_ := Aside0.mk (blk_below (g := gb189) (o := .cells #[.int .i64 a0_0, .int .i64 a0_1, .int .i64 a0_2, .int .i64 a0_3, .slice A0_4 l0_4.length c0_4, .int .u64 a0_5] 27 (0, 0)) (by (with_reducible repeat (first | refine blk_drewN ?_ _ | refine blk_drew ?_ | refine blk_alloc ?_ _)); exact BK189.out) hb); have n1_ := Aside0.mk (below_step (B1_) hb); clear BK189; clear HB; have BK189 := n0_; have HB := n1_; clear n0_ n1_; (try clear hb); (try clear hb2); (try clear hk); (try clear hi))); try go_wp2_with (first | (go_at_call 14; (with_reducible refine (lockstepref03_May.calls k a0_0 a0_1 a0_2 a0_3 _ _ l0_4 a0_5 false _ ?side1 ?side2 A4.out).mono ?_); (case side1 => repeat (first | exact (Kd.C_below HR0_4.out HB.out) | (with_reducible refine Kd.C_alloc ?_ _) | (with_reducible refine Kd.C_drewN ?_ _) | (with_reducible refine Kd.C_drew ?_))); (case side2 => exact HC0_4.out); rintro e w14 ⟨rfl, hb⟩; have n0_ := Aside0.mk (blk_below (g := gb189) (o := .cells #[.int .i64 a0_0, .int .i64 a0_1, .int .i64 a0_2, .int .i64 a0_3, .slice A0_4 l0_4.length c0_4, .int .u64 a0_5] 27 (0, 0)) (by (with_reducible repeat (first | refine blk_drewN ?_ _ | refine blk_drew ?_ | refine blk_alloc ?_ _)); exact BK189.out) hb); have n1_ := Aside0.mk (below_step (B1_) hb); clear BK189; clear HB; have BK189 := n0_; have HB := n1_; clear n0_ n1_; (try clear hb); (try clear hb2); (try clear hk); (try clear hi))))
  go_meet
  case rel => exact ⟨_, (true), (by first | rfl | (simp; done) | (simp [*]; done)), H', ⟨by first | omega | exact Nat.le_refl _⟩, ⟨by (with_reducible repeat (first | refine blk_drewN ?_ _ | refine blk_drew ?_ | refine blk_alloc ?_ _)); exact BK189.out⟩, ⟨B1_⟩⟩
 case rest =>
  clear HC2
  try clear c1
  try clear p2
  try clear c5
  try clear c6
  try clear c6b0
  try clear c6b1
  try clear c13
  try clear hcz10_0
  try clear hcz10_1
  try clear hcz10_2
  try clear hcz10_3
  try clear hcz10_4
  try clear hcz10_5
  try clear hcz12_0
  try clear hcz12_1
  try clear hcz12_2
  try clear hcz12_3
  try clear hcz12_4
  try clear hcz12_5
  try clear hcz13_0
  try clear hcz13_1
  try clear hcz13_2
  try clear hcz13_3
  try clear hcz13_4
  try clear hcz13_5
  try clear hcz7_0
  try clear hcz7_1
  try clear hcz7_2
  try clear hcz7_3
  try clear hcz7_4
  try clear hcz7_5
  try clear hcz9_0
  try clear hcz9_1
  try clear hcz9_2
  try clear hcz9_3
  try clear hcz9_4
  try clear hcz9_5
  try clear hfz10_0
  try clear hfz10_1
  try clear hfz10_2
  try clear hfz10_3
  try clear hfz10_4
  try clear hfz10_5
  try clear hfz12_0
  try clear hfz12_1
  try clear hfz12_2
  try clear hfz12_3
  try clear hfz12_4
  try clear hfz12_5
  try clear hfz13_0
  try clear hfz13_1
  try clear hfz13_2
  try clear hfz13_3
  try clear hfz13_4
  try clear hfz13_5
  try clear hfz7_0
  try clear hfz7_1
  try clear hfz7_2
  try clear hfz7_3
  try clear hfz7_4
  try clear hfz7_5
  try clear hfz9_0
  try clear hfz9_1
  try clear hfz9_2
  try clear hfz9_3
  try clear hfz9_4
  try clear hfz9_5
  obtain ⟨kq, x16_1, rfl, HA, HJ1, BK189, HB⟩ := hcut
  cases kq with
  | zero => exact absurd HA.out (by simp [lockstepref03_Gives.j0])
  | succ kj1 =>
   have H := HA.out
   clear HA
   simp only [lockstepref03_Gives.j0] at H
   by_cases c15 : x16_1 = true
   ·subst c15
    have H1 : (some (0, 0)) = some (r1, r2) := by rw [if_pos rfl] at H; exact H
    clear H
    have H := H1
    clear H1
    simp only [Option.some.injEq, Prod.mk.injEq] at H
    obtain ⟨rfl, rfl⟩ := H
    go_wp2
    repeat (go_quiet (fail); try go_wp2)
    go_ret2
    exact ⟨by first | rfl | (simp [errW_none, errW_some] <;> rfl) | (simp [*, errW_none, errW_some] <;> rfl), B1_⟩
   replace c15 := Bool.eq_false_iff.mpr c15
   subst c15
   have H1 : (if a0_0 ≥ 10 then (lockstepref03_Gives.j1 kj1 (decide (a0_0 ≤ 12)) a0_0 a0_1 a0_2 a0_3 l0_4 a0_5) else (lockstepref03_Gives.j1 kj1 false a0_0 a0_1 a0_2 a0_3 l0_4 a0_5)) = some (r1, r2) := by rw [if_neg (show ¬ (false = true) by decide)] at H; exact H
   clear H
   have H := H1
   clear H1
   have HC16 := Aside0.mk H
   clear H
   go_upto_region 3 with (fail)
   repeat (go_quiet (fail); go_upto_region 3 with (fail))
   go_cut [24] (fun v24 wc => ∃ (kq : Nat) (x24_15 : Bool), v24 = .bool x24_15 ∧ Aside0 (lockstepref03_Gives.j1 kq x24_15 a0_0 a0_1 a0_2 a0_3 l0_4 a0_5 = some (r1, r2)) ∧ Aside0 (kq ≤ kj1) ∧ Aside0 (wc.heap[gb189]? = some (.cells #[.int .i64 a0_0, .int .i64 a0_1, .int .i64 a0_2, .int .i64 a0_3, (.slice A0_4 l0_4.length c0_4), .int .u64 a0_5] 27 (0, 0))) ∧ Aside0 (Below w.heap.size w wc))
   case first =>
    have H := HC16.out
    clear HC16
    by_cases c17 : a0_0 ≥ 10
    ·rw [if_pos c17] at H
     have c17b0 : decide (10 ≤ a0_0) = true := decide_eq_true c17
     clear c17
     (first | rw [c17b0] | (simp only [i64_w, i32_w]; rw [c17b0]) | skip)
     have H' := Aside0.mk H
     clear H
     have hcz18_0 : wc.cell? ⟨gb189, 0, none⟩ = some (.int .i64 a0_0) := (blk_cell BK189.out 0).trans rfl
     have hcz18_1 : wc.cell? ⟨gb189, 1, none⟩ = some (.int .i64 a0_1) := (blk_cell BK189.out 1).trans rfl
     have hcz18_2 : wc.cell? ⟨gb189, 2, none⟩ = some (.int .i64 a0_2) := (blk_cell BK189.out 2).trans rfl
     have hcz18_3 : wc.cell? ⟨gb189, 3, none⟩ = some (.int .i64 a0_3) := (blk_cell BK189.out 3).trans rfl
     have hcz18_4 : wc.cell? ⟨gb189, 4, none⟩ = some (.slice A0_4 l0_4.length c0_4) := (blk_cell BK189.out 4).trans rfl
     have hcz18_5 : wc.cell? ⟨gb189, 5, none⟩ = some (.int .u64 a0_5) := (blk_cell BK189.out 5).trans rfl
     have hfz18_0 := blk_frozen BK189.out 0
     have hfz18_1 := blk_frozen BK189.out 1
     have hfz18_2 := blk_frozen BK189.out 2
     have hfz18_3 := blk_frozen BK189.out 3
     have hfz18_4 := blk_frozen BK189.out 4
     have hfz18_5 := blk_frozen BK189.out 5
     go_wp2
     repeat (go_quiet (fail); try go_wp2)
     go_meet
     case rel => exact ⟨_, (decide (a0_0 ≤ 12)), (by first | rfl | (simp; done) | (simp [*]; done)), H', ⟨by have := HJ1.out; first | omega | exact Nat.le_refl _⟩, ⟨by (with_reducible repeat (first | refine blk_drewN ?_ _ | refine blk_drew ?_ | refine blk_alloc ?_ _)); exact BK189.out⟩, ⟨B1_⟩⟩
    rw [if_neg c17] at H
    have c17b0 : decide (10 ≤ a0_0) = false := decide_eq_false c17
    clear c17
    (first | rw [c17b0] | (simp only [i64_w, i32_w]; rw [c17b0]) | skip)
    have H' := Aside0.mk H
    clear H
    have hcz19_0 : wc.cell? ⟨gb189, 0, none⟩ = some (.int .i64 a0_0) := (blk_cell BK189.out 0).trans rfl
    have hcz19_1 : wc.cell? ⟨gb189, 1, none⟩ = some (.int .i64 a0_1) := (blk_cell BK189.out 1).trans rfl
    have hcz19_2 : wc.cell? ⟨gb189, 2, none⟩ = some (.int .i64 a0_2) := (blk_cell BK189.out 2).trans rfl
    have hcz19_3 : wc.cell? ⟨gb189, 3, none⟩ = some (.int .i64 a0_3) := (blk_cell BK189.out 3).trans rfl
    have hcz19_4 : wc.cell? ⟨gb189, 4, none⟩ = some (.slice A0_4 l0_4.length c0_4) := (blk_cell BK189.out 4).trans rfl
    have hcz19_5 : wc.cell? ⟨gb189, 5, none⟩ = some (.int .u64 a0_5) := (blk_cell BK189.out 5).trans rfl
    have hfz19_0 := blk_frozen BK189.out 0
    have hfz19_1 := blk_frozen BK189.out 1
    have hfz19_2 := blk_frozen BK189.out 2
    have hfz19_3 := blk_frozen BK189.out 3
    have hfz19_4 := blk_frozen BK189.out 4
    have hfz19_5 := blk_frozen BK189.out 5
    go_wp2
    repeat (go_quiet (fail); try go_wp2)
    go_meet
    case rel => exact ⟨_, (false), (by first | rfl | (simp; done) | (simp [*]; done)), H', ⟨by have := HJ1.out; first | omega | exact Nat.le_refl _⟩, ⟨by (with_reducible repeat (first | refine blk_drewN ?_ _ | refine blk_drew ?_ | refine blk_alloc ?_ _)); exact BK189.out⟩, ⟨B1_⟩⟩
   case rest =>
    clear HC16
    try clear c1
    try clear p2
    try clear c5
    try clear c6
    try clear c6b0
    try clear c6b1
    try clear c13
    try clear c15
    try clear c17
    try clear c17b0
    try clear hcz10_0
    try clear hcz10_1
    try clear hcz10_2
    try clear hcz10_3
    try clear hcz10_4
    try clear hcz10_5
    try clear hcz12_0
    try clear hcz12_1
    try clear hcz12_2
    try clear hcz12_3
    try clear hcz12_4
    try clear hcz12_5
    try clear hcz13_0
    try clear hcz13_1
    try clear hcz13_2
    try clear hcz13_3
    try clear hcz13_4
    try clear hcz13_5
    try clear hcz18_0
    try clear hcz18_1
    try clear hcz18_2
    try clear hcz18_3
    try clear hcz18_4
    try clear hcz18_5
    try clear hcz19_0
    try clear hcz19_1
    try clear hcz19_2
    try clear hcz19_3
    try clear hcz19_4
    try clear hcz19_5
    try clear hcz7_0
    try clear hcz7_1
    try clear hcz7_2
    try clear hcz7_3
    try clear hcz7_4
    try clear hcz7_5
    try clear hcz9_0
    try clear hcz9_1
    try clear hcz9_2
    try clear hcz9_3
    try clear hcz9_4
    try clear hcz9_5
    try clear hfz10_0
    try clear hfz10_1
    try clear hfz10_2
    try clear hfz10_3
    try clear hfz10_4
    try clear hfz10_5
    try clear hfz12_0
    try clear hfz12_1
    try clear hfz12_2
    try clear hfz12_3
    try clear hfz12_4
    try clear hfz12_5
    try clear hfz13_0
    try clear hfz13_1
    try clear hfz13_2
    try clear hfz13_3
    try clear hfz13_4
    try clear hfz13_5
    try clear hfz18_0
    try clear hfz18_1
    try clear hfz18_2
    try clear hfz18_3
    try clear hfz18_4
    try clear hfz18_5
    try clear hfz19_0
    try clear hfz19_1
    try clear hfz19_2
    try clear hfz19_3
    try clear hfz19_4
    try clear hfz19_5
    try clear hfz7_0
    try clear hfz7_1
    try clear hfz7_2
    try clear hfz7_3
    try clear hfz7_4
    try clear hfz7_5
    try clear hfz9_0
    try clear hfz9_1
    try clear hfz9_2
    try clear hfz9_3
    try clear hfz9_4
    try clear hfz9_5
    try clear p2
    obtain ⟨kq, x24_15, rfl, HA, HJ15, BK189, HB⟩ := hcut
    cases kq with
    | zero => exact absurd HA.out (by simp [lockstepref03_Gives.j1])
    | succ kj15 =>
     have H := HA.out
     clear HA
     simp only [lockstepref03_Gives.j1] at H
     by_cases c20 : x24_15 = true
     ·subst c20
      have H1 : (some (1, 1)) = some (r1, r2) := by rw [if_pos rfl] at H; exact H
      clear H
      have H := H1
      clear H1
      simp only [Option.some.injEq, Prod.mk.injEq] at H
      obtain ⟨rfl, rfl⟩ := H
      go_wp2
      repeat (go_quiet (fail); try go_wp2)
      go_ret2
      exact ⟨by first | rfl | (simp [errW_none, errW_some] <;> rfl) | (simp [*, errW_none, errW_some] <;> rfl), B1_⟩
     replace c20 := Bool.eq_false_iff.mpr c20
     subst c20
     have H1 : (if a0_0 = 22 then (some (a0_1, 1)) else (some (a0_1, a0_2))) = some (r1, r2) := by rw [if_neg (show ¬ (false = true) by decide)] at H; exact H
     clear H
     have H := H1
     clear H1
     by_cases c21 : a0_0 = 22
     ·rw [if_pos c21] at H
      have c21b0 : (a0_0 == 22) = true := beq_iff_eq.mpr c21
      have c21b1 : (a0_0 != 22) = false := bne_eq_false_iff_eq.mpr c21
      clear c21
      simp only [Option.some.injEq, Prod.mk.injEq] at H
      obtain ⟨rfl, rfl⟩ := H
      have hcz22_0 : wc.cell? ⟨gb189, 0, none⟩ = some (.int .i64 a0_0) := (blk_cell BK189.out 0).trans rfl
      have hcz22_1 : wc.cell? ⟨gb189, 1, none⟩ = some (.int .i64 a0_1) := (blk_cell BK189.out 1).trans rfl
      have hcz22_2 : wc.cell? ⟨gb189, 2, none⟩ = some (.int .i64 a0_2) := (blk_cell BK189.out 2).trans rfl
      have hcz22_3 : wc.cell? ⟨gb189, 3, none⟩ = some (.int .i64 a0_3) := (blk_cell BK189.out 3).trans rfl
      have hcz22_4 : wc.cell? ⟨gb189, 4, none⟩ = some (.slice A0_4 l0_4.length c0_4) := (blk_cell BK189.out 4).trans rfl
      have hcz22_5 : wc.cell? ⟨gb189, 5, none⟩ = some (.int .u64 a0_5) := (blk_cell BK189.out 5).trans rfl
      have hfz22_0 := blk_frozen BK189.out 0
      have hfz22_1 := blk_frozen BK189.out 1
      have hfz22_2 := blk_frozen BK189.out 2
      have hfz22_3 := blk_frozen BK189.out 3
      have hfz22_4 := blk_frozen BK189.out 4
      have hfz22_5 := blk_frozen BK189.out 5
      go_wp2
      repeat (go_quiet (fail); try go_wp2)
      go_ret2
      exact ⟨by first | rfl | (simp [errW_none, errW_some] <;> rfl) | (simp [*, errW_none, errW_some] <;> rfl), B1_⟩
     rw [if_neg c21] at H
     have c21b0 : (a0_0 == 22) = false := beq_eq_false_iff_ne.mpr c21
     have c21b1 : (a0_0 != 22) = true := bne_iff_ne.mpr c21
     simp only [Option.some.injEq, Prod.mk.injEq] at H
     obtain ⟨rfl, rfl⟩ := H
     have hcz23_0 : wc.cell? ⟨gb189, 0, none⟩ = some (.int .i64 a0_0) := (blk_cell BK189.out 0).trans rfl
     have hcz23_1 : wc.cell? ⟨gb189, 1, none⟩ = some (.int .i64 a0_1) := (blk_cell BK189.out 1).trans rfl
     have hcz23_2 : wc.cell? ⟨gb189, 2, none⟩ = some (.int .i64 a0_2) := (blk_cell BK189.out 2).trans rfl
     have hcz23_3 : wc.cell? ⟨gb189, 3, none⟩ = some (.int .i64 a0_3) := (blk_cell BK189.out 3).trans rfl
     have hcz23_4 : wc.cell? ⟨gb189, 4, none⟩ = some (.slice A0_4 l0_4.length c0_4) := (blk_cell BK189.out 4).trans rfl
     have hcz23_5 : wc.cell? ⟨gb189, 5, none⟩ = some (.int .u64 a0_5) := (blk_cell BK189.out 5).trans rfl
     have hfz23_0 := blk_frozen BK189.out 0
     have hfz23_1 := blk_frozen BK189.out 1
     have hfz23_2 := blk_frozen BK189.out 2
     have hfz23_3 := blk_frozen BK189.out 3
     have hfz23_4 := blk_frozen BK189.out 4
     have hfz23_5 := blk_frozen BK189.out 5
     go_wp2
     repeat (go_quiet (fail); try go_wp2)
     go_ret2
     exact ⟨by first | rfl | (simp [errW_none, errW_some] <;> rfl) | (simp [*, errW_none, errW_some] <;> rfl), B1_⟩

end Go.Proofs.Ytblhphjdjpodcaa.Q
namespace Go.Proofs.Ytblhphjdjpodcaa.Q
open Go.Proofs.YtblhphjdjpodcaaH
open Go.RowKit Go.Proofs.YtblhphjdjpodcaaW.PrintWords Go.Proofs.YtblhphjdjpodcaaW.PrintLast Go.Proofs.YtblhphjdjpodcaaW.PrintMore
attribute [local go_sem] max2_int min2_int max_two min_two max_three min_three max_four min_four   -- for this text's walks alone
set_option linter.unusedVariables false
set_option linter.unusedSimpArgs false

theorem eqA37 (d : Nat) (w : World) (x0 y0 : Int) (x1 y1 : Int) :
    (Op.equalIn (d + 2) 37 (.agg #[.int .i64 x0, .int .i64 x1]) (.agg #[.int .i64 y0, .int .i64 y1])).run Try.prog w = .ok (x0 == y0 && (x1 == y1)) w := by
  obtain ⟨i0, hi0, h2⟩ : ∃ i, Try.prog.info? 3 = some i ∧ i.size = 1 := ⟨_, rfl, rfl⟩
  have hu3 := Try.underlying3
  have hp0 : ∀ x y : Int, (part 3 #[.int .i64 x, .int .i64 y] 0).run Try.prog w = .ok (.int .i64 x) w := fun x y => by go_simp
  have hp1 : ∀ x y : Int, (part 3 #[.int .i64 x, .int .i64 y] 1).run Try.prog w = .ok (.int .i64 y) w := fun x y => by go_simp
  have he : ∀ x y : Int, (Op.equalIn (d + 1) 3 (.int .i64 x) (.int .i64 y)).run Try.prog w = .ok (x == y) w := fun x y => by simp [Op.equalIn, run_underlying hu3]
  rw [run_equalIn_array w (d + 1) _ _ Try.underlying37 hi0, show List.range 2 = [0, 1] from rfl, show Try.prog.cellsOf 3 = 1 by kernel_rfl]
  simp only [Op.eqItems, Sem.run_bind, Nat.zero_mul, Nat.one_mul, hp0, hp1, he, Result.andThen_ok]
  cases hx : (x0 == y0) <;> cases hy : (x1 == y1) <;> simp [hp1, he, hy]
end Go.Proofs.Ytblhphjdjpodcaa.Q
namespace Go.Proofs.Ytblhphjdjpodcaa.Q
open Go.Proofs.YtblhphjdjpodcaaH
open Go.RowKit Go.Proofs.YtblhphjdjpodcaaW.PrintWords Go.Proofs.YtblhphjdjpodcaaW.PrintLast Go.Proofs.YtblhphjdjpodcaaW.PrintMore
attribute [local go_sem] max2_int min2_int max_two min_two max_three min_three max_four min_four   -- for this text's walks alone
set_option linter.unusedVariables false
set_option linter.unusedSimpArgs false

attribute [local go_sem high] eqA37
/-! ### locksteplaw03_shapes: function 15 -/
def locksteplaw03_shapes.l0 : Nat → List (S37) → List (S37) → Int → Option (Bool)
 | 0, _, _, _ => none
 | k + 1, x0, x1, x5 => if x5 < (x0.length : Int) then (if 0 ≤ x5 then (if x5 < (x1.length : Int) then (if (!(((rd_T37 x0 x5).f0) == ((rd_T37 x1 x5).f0)) || (!(((rd_T37 x0 x5).f1) == ((rd_T37 x1 x5).f1)))) = true then (some false) else (locksteplaw03_shapes.l0 k x0 x1 (wrap64 (x5 + 1)))) else (none)) else (none)) else (some true)
def locksteplaw03_shapes.f (k : Nat) (l0 : List (S37)) (l1 : List (S37)) : Option (Bool) := if (l0.length : Int) = (l1.length : Int) then (locksteplaw03_shapes.l0 k l0 l1 0) else (some false)
theorem locksteplaw03_shapes.mono_l : ∀ k, (∀ y0 y1 y2, LeO (locksteplaw03_shapes.l0 k y0 y1 y2) (locksteplaw03_shapes.l0 (k + 1) y0 y1 y2))
 | 0 => fun _ _ _ r h => by simp [locksteplaw03_shapes.l0] at h
 | k + 1 => by
  have ih0 := locksteplaw03_shapes.mono_l k
  ·intro y0 y1 y2
   unfold locksteplaw03_shapes.l0
   repeat' first
   | (with_reducible exact ih0 _ _ _)
   | (with_reducible exact LeO.refl _)
   | (with_reducible exact LeO.none _)
   | (with_reducible refine LeO.ite ?_ ?_)
   | (with_reducible refine LeO.bind ?_ (fun _ => ?_))
   | exact ih0 _ _ _
   | exact LeO.none _
   | refine LeO.ite ?_ ?_
   | refine LeO.bind ?_ (fun _ => ?_)
theorem locksteplaw03_shapes.mono : ∀ a0 a1 k, LeO (locksteplaw03_shapes.f k a0 a1) (locksteplaw03_shapes.f (k + 1) a0 a1) := by
 intro a0 a1 k
 have ih0 := locksteplaw03_shapes.mono_l k
 unfold locksteplaw03_shapes.f
 repeat' first
  | (with_reducible exact ih0 _ _ _)
  | (with_reducible exact LeO.refl _)
  | (with_reducible exact LeO.none _)
  | (with_reducible refine LeO.ite ?_ ?_)
  | (with_reducible refine LeO.bind ?_ (fun _ => ?_))
  | exact ih0 _ _ _
  | exact LeO.none _
  | refine LeO.ite ?_ ?_
  | refine LeO.bind ?_ (fun _ => ?_)
set_option maxHeartbeats 8000000 in
set_option maxRecDepth 100000 in
theorem locksteplaw03_shapes.calls (k : Nat) (A0 : Option Addr) (c0 : Nat) (l0 : List (S37)) (A1 : Option Addr) (c1 : Nat) (l1 : List (S37)) (r : Bool) (w : World) (hr0 : Kd.C k37 w A0 l0.length l0) (hc0 : l0.length ≤ c0) (hr1 : Kd.C k37 w A1 l1.length l1) (hc1 : l1.length ≤ c1) (h : locksteplaw03_shapes.f k l0 l1 = some r) :
 Calls Try.prog 15 #[.slice A0 l0.length c0, .slice A1 l1.length c1] w fun e w' => e = .returned (.bool r) ∧ Drawn0 w w' := by
 have hu37 := Try.underlying37
 have HR0 := Aside0.mk hr0
 have HC0 := Aside0.mk hc0
 clear hr0 hc0
 have HR1 := Aside0.mk hr1
 have HC1 := Aside0.mk hc1
 clear hr1 hc1
 have H : (if (l0.length : Int) = (l1.length : Int) then (locksteplaw03_shapes.l0 k l0 l1 0) else (some false)) = some r := h
 clear h
 by_cases c3 : (l0.length : Int) = (l1.length : Int)
 ·rw [if_pos c3] at H
  have c3b0 : ((l0.length : Int) == (l1.length : Int)) = true := beq_iff_eq.mpr c3
  have c3b1 : ((l0.length : Int) != (l1.length : Int)) = false := bne_eq_false_iff_eq.mpr c3
  have c3b2 : (l0.length == l1.length) = true := by first | simpa using c3 | (simp at c3 ⊢; omega)
  clear c3
  have H' := Aside0.mk H
  clear H
  go_enter Try.func15, Try.ntmps15
  go_wp2
  repeat (go_quiet (fail); try go_wp2)
  go_loopg [5] k (fun kq v5 w' => ∃ (x5_1 : Int), v5 = .int .i64 x5_1 ∧ Aside0 (locksteplaw03_shapes.l0 kq l0 l1 x5_1 = some r) ∧ Aside0 (kq ≤ k) ∧ Drawn0 w w')
  case atStart => exact ⟨(0), (by first | rfl | (simp; done) | (simp [*]; done)), H', ⟨Nat.le_refl _⟩, by repeat (first | exact Drawn0.refl _ | apply Drawn0.step)⟩
  case round =>
   clear H'
   try clear c1
   try clear p2
   try clear c3
   try clear c3b0
   try clear c3b1
   try clear c3b2
   obtain ⟨x5_1, rfl, HA, HK1, ⟨m1, rfl⟩⟩ := hrel
   cases gk with
   | zero => exact absurd HA.out (by simp [locksteplaw03_shapes.l0])
   | succ k1 =>
    have H := HA.out
    clear HA
    simp only [locksteplaw03_shapes.l0] at H
    by_cases c4 : x5_1 < (l0.length : Int)
    ·rw [if_pos c4] at H
     have c4b0 : decide (x5_1 < (l0.length : Int)) = true := decide_eq_true c4
     clear c4
     by_cases c5 : 0 ≤ x5_1
     ·rw [if_pos c5] at H
      have c5b0 : decide (0 ≤ x5_1) = true := decide_eq_true c5
      clear c5
      by_cases c6 : x5_1 < (l1.length : Int)
      ·rw [if_pos c6] at H
       have c6b0 : decide (x5_1 < (l1.length : Int)) = true := decide_eq_true c6
       clear c6
       by_cases c7 : (!(((rd_T37 l0 x5_1).f0) == ((rd_T37 l1 x5_1).f0)) || (!(((rd_T37 l0 x5_1).f1) == ((rd_T37 l1 x5_1).f1)))) = true
       ·rw [if_pos c7] at H
        have c7b0 : (!(((rd_T37 l0 x5_1).f0) == ((rd_T37 l1 x5_1).f0)) || (!(((rd_T37 l0 x5_1).f1) == ((rd_T37 l1 x5_1).f1)))) = true := c7
        clear c7
        obtain rfl := Option.some.inj H
        have p191 : 0 ≤ (x5_1 : Int) := D_
        have q191 : x5_1 < (l0.length : Int) := D_
        obtain ⟨ad191, e191, hx191_0, hx191_1⟩ := at_T37 HR0.out x5_1 p191 q191
        cases e191
        replace p191 := eq_true p191
        replace q191 := eq_true q191
        have p192 : 0 ≤ (x5_1 : Int) := D_
        have q192 : x5_1 < (l1.length : Int) := D_
        obtain ⟨ad192, e192, hx192_0, hx192_1⟩ := at_T37 HR1.out x5_1 p192 q192
        cases e192
        replace p192 := eq_true p192
        replace q192 := eq_true q192
        go_wp2
        repeat (go_quiet (fail); try go_wp2)
        go_ret
        exact ⟨by first | rfl | (simp; done) | (simp [*]; done), by repeat (first | exact Drawn0.refl _ | apply Drawn0.step)⟩
       rw [if_neg c7] at H
       have c7b0 : (!(((rd_T37 l0 x5_1).f0) == ((rd_T37 l1 x5_1).f0)) || (!(((rd_T37 l0 x5_1).f1) == ((rd_T37 l1 x5_1).f1)))) = false := by simpa using c7
       clear c7
       have H' := Aside0.mk H
       clear H
       have p191 : 0 ≤ (x5_1 : Int) := D_
       have q191 : x5_1 < (l0.length : Int) := D_
       obtain ⟨ad191, e191, hx191_0, hx191_1⟩ := at_T37 HR0.out x5_1 p191 q191
       cases e191
       replace p191 := eq_true p191
       replace q191 := eq_true q191
       have p192 : 0 ≤ (x5_1 : Int) := D_
       have q192 : x5_1 < (l1.length : Int) := D_
       obtain ⟨ad192, e192, hx192_0, hx192_1⟩ := at_T37 HR1.out x5_1 p192 q192
       cases e192
       replace p192 := eq_true p192
       replace q192 := eq_true q192
       go_wp2
       repeat (go_quiet (fail); try go_wp2)
       go_roundg k1
       case measure => have := HK1.out; omega
       case rel => exact ⟨(wrap64 (x5_1 + 1)), (by first | rfl | (simp; done) | (simp [*]; done)), H', ⟨by have := HK1.out; omega⟩, by repeat (first | exact Drawn0.refl _ | apply Drawn0.step)⟩
      rw [if_neg c6] at H
      exact absurd H (by simp)
     rw [if_neg c5] at H
     exact absurd H (by simp)
    rw [if_neg c4] at H
    have c4b0 : decide (x5_1 < (l0.length : Int)) = false := decide_eq_false c4
    clear c4
    obtain rfl := Option.some.inj H
    go_wp2
    repeat (go_quiet (fail); try go_wp2)
    go_ret
    exact ⟨by first | rfl | (simp; done) | (simp [*]; done), by repeat (first | exact Drawn0.refl _ | apply Drawn0.step)⟩
 rw [if_neg c3] at H
 have c3b0 : ((l0.length : Int) == (l1.length : Int)) = false := beq_eq_false_iff_ne.mpr c3
 have c3b1 : ((l0.length : Int) != (l1.length : Int)) = true := bne_iff_ne.mpr c3
 have c3b2 : (l0.length == l1.length) = false := by first | simpa using c3 | (simp at c3 ⊢; omega)
 obtain rfl := Option.some.inj H
 go_enter Try.func15, Try.ntmps15
 go_wp2
 repeat (go_quiet (fail); try go_wp2)
 go_ret
 exact ⟨by first | rfl | (simp; done) | (simp [*]; done), by repeat (first | exact Drawn0.refl _ | apply Drawn0.step)⟩

end Go.Proofs.Ytblhphjdjpodcaa.Q
namespace Go.Proofs.Ytblhphjdjpodcaa.Q
open Go.Proofs.YtblhphjdjpodcaaH
open Go.RowKit Go.Proofs.YtblhphjdjpodcaaW.PrintWords Go.Proofs.YtblhphjdjpodcaaW.PrintLast Go.Proofs.YtblhphjdjpodcaaW.PrintMore
attribute [local go_sem] max2_int min2_int max_two min_two max_three min_three max_four min_four   -- for this text's walks alone
set_option linter.unusedVariables false
set_option linter.unusedSimpArgs false

/-! ### kind_Takes: function 16 -/
def kind_Takes.f (k : Nat) (a0_0 : Int) (a0_1 : Int) (a0_2 : Int) (a0_3 : Int) (l0_4 : List Int) (a0_5 : Int) : Option ((List (S37))) := (kind_May.f k a0_0 a0_1 a0_2 a0_3 l0_4 a0_5).bind fun t194 => (if t194 = true then ((kind_takes.f a0_0 a0_1 a0_2 a0_3 l0_4 a0_5).bind fun bt195 => (some bt195.1)) else (some ([] : List (S37))))
theorem kind_Takes.mono : ∀ a0 a1 a2 a3 a4 a5 k, LeO (kind_Takes.f k a0 a1 a2 a3 a4 a5) (kind_Takes.f (k + 1) a0 a1 a2 a3 a4 a5) := by
 intro a0 a1 a2 a3 a4 a5 k
 unfold kind_Takes.f
 repeat' first
  | (with_reducible exact kind_May.mono _ _ _ _ _ _ _)
  | (with_reducible exact LeO.refl _)
  | (with_reducible exact LeO.none _)
  | (with_reducible refine LeO.ite ?_ ?_)
  | (with_reducible refine LeO.bind ?_ (fun _ => ?_))
  | exact kind_May.mono _ _ _ _ _ _ _
  | exact LeO.none _
  | refine LeO.ite ?_ ?_
  | refine LeO.bind ?_ (fun _ => ?_)
set_option maxHeartbeats 8000000 in
set_option maxRecDepth 100000 in
theorem kind_Takes.calls (k : Nat) (a0_0 : Int) (a0_1 : Int) (a0_2 : Int) (a0_3 : Int) (A0_4 : Option Addr) (c0_4 : Nat) (l0_4 : List Int) (a0_5 : Int) (r : List (S37)) (w : World) (hr0_4 : Kd.C (Kd.int .i64) w A0_4 l0_4.length l0_4) (hc0_4 : l0_4.length ≤ c0_4) (h : kind_Takes.f k a0_0 a0_1 a0_2 a0_3 l0_4 a0_5 = some r) :
 Calls Try.prog 16 #[.agg #[.int .i64 a0_0, .int .i64 a0_1, .int .i64 a0_2, .int .i64 a0_3, .slice A0_4 l0_4.length c0_4, .int .u64 a0_5]] w fun e w' => ∃ v0_ : Value, e = .returned (v0_) ∧ Kd.R k37 37 w' w.heap.size (fun _ => True) v0_ r ∧ Below w.heap.size w w' := by
 have hu27 := Try.underlying27
 have HR0_4 := Aside0.mk hr0_4
 have HC0_4 := Aside0.mk hc0_4
 clear hr0_4 hc0_4
 have HB := Aside0.mk (Below.refl w.heap.size w)
 have H : ((kind_May.f k a0_0 a0_1 a0_2 a0_3 l0_4 a0_5).bind fun t194 => (if t194 = true then ((kind_takes.f a0_0 a0_1 a0_2 a0_3 l0_4 a0_5).bind fun bt195 => (some bt195.1)) else (some ([] : List (S37))))) = some r := h
 clear h
 replace H := Option.bind_eq_some_iff.mp H
 obtain ⟨t194, A20, H⟩ := H
 replace H : (if t194 = true then ((kind_takes.f a0_0 a0_1 a0_2 a0_3 l0_4 a0_5).bind fun bt195 => (some bt195.1)) else (some ([] : List (S37)))) = some r := H
 have A2 := Aside0.mk A20
 clear A20
 by_cases c3 : t194 = true
 ·subst c3
  have H1 : ((kind_takes.f a0_0 a0_1 a0_2 a0_3 l0_4 a0_5).bind fun bt195 => (some bt195.1)) = some r := by rw [if_pos rfl] at H; exact H
  clear H
  have H := H1
  clear H1
  replace H := Option.bind_eq_some_iff.mp H
  obtain ⟨⟨t195, t198⟩, A40, H⟩ := H
  replace H : (some t195) = some r := H
  have A4 := Aside0.mk A40
  clear A40
  obtain rfl := Option.some.inj H
  go_enter Try.func16, Try.ntmps16
  go_wp2_with (first | ((with_reducible refine gate_dst (N := 1) rfl ?_); refine box_event ?hg (N := 1) ?hd (cs := #[.int .i64 a0_0, .int .i64 a0_1, .int .i64 a0_2, .int .i64 a0_3, .slice A0_4 l0_4.length c0_4, .int .u64 a0_5]) (t := 27) ?hr ?_; (case hd => rfl); (case hg => rfl); (case hr => first | (go_simp; done) | (go_simp; rfl)); intro gb193 hg w5 hbox hb; have n0_ := Aside0.mk (below_step (B_) hb); have n1_ := Aside0.mk (hbox); have n2_ := Aside0.mk ((by rw [hg]; exact (below_size (B_)) : w.heap.size ≤ gb193)); have n3_ := Aside0.mk ((by rw [hg]; exact (below_size (B_)) : w.heap.size ≤ gb193)); clear HB; have HB := n0_; have BK193 := n1_; have GW193 := n2_; have GE193 := n3_; clear n0_ n1_ n2_ n3_; clear hb hbox hg; have hcz6_0 : w5.cell? ⟨gb193, 0, none⟩ = some (.int .i64 a0_0) := (blk_cell BK193.out 0).trans rfl; have hcz6_1 : w5.cell? ⟨gb193, 1, none⟩ = some (.int .i64 a0_1) := (blk_cell BK193.out 1).trans rfl; have hcz6_2 : w5.cell? ⟨gb193, 2, none⟩ = some (.int .i64 a0_2) := (blk_cell BK193.out 2).trans rfl; have hcz6_3 : w5.cell? ⟨gb193, 3, none⟩ = some (.int .i64 a0_3) := (blk_cell BK193.out 3).trans rfl; have hcz6_4 : w5.cell? ⟨gb193, 4, none⟩ = some (.slice A0_4 l0_4.length c0_4) := (blk_cell BK193.out 4).trans rfl; have hcz6_5 : w5.cell? ⟨gb193, 5, none⟩ = some (.int .u64 a0_5) := (blk_cell BK193.out 5).trans rfl; have hfz6_0 := blk_frozen BK193.out 0; have hfz6_1 := blk_frozen BK193.out 1; have hfz6_2 := blk_frozen BK193.out 2; have hfz6_3 := blk_frozen BK193.out 3; have hfz6_4 := blk_frozen BK193.out 4; have hfz6_5 := blk_frozen BK193.out 5) | ((with_reducible refine gate_callee (f := 11) rfl ?_); refine goesL_ (some 6) rfl rfl Try.func11 (by kernel_rfl) rfl #[.agg #[.int .i64 a0_0, .int .i64 a0_1, .int .i64 a0_2, .int .i64 a0_3, .slice A0_4 l0_4.length c0_4, .int .u64 a0_5]] rfl (by (try simp only [List.map_toArray, List.map_cons, List.map_nil]); first | done | rfl | (simp only [List.length_drop, List.length_take]; rfl)) ?_; (with_reducible refine (kind_May.calls k a0_0 a0_1 a0_2 a0_3 _ _ l0_4 a0_5 true _ ?side1 ?side2 A2.out).mono ?_); (case side1 => repeat (first | exact (Kd.C_below HR0_4.out HB.out) | (with_reducible refine Kd.C_alloc ?_ _) | (with_reducible refine Kd.C_drewN ?_ _) | (with_reducible refine Kd.C_drew ?_))); (case side2 => exact HC0_4.out); rintro e w7 ⟨rfl, hb⟩; refine ⟨_, rfl, ?_⟩; have n0_ := Aside0.mk (blk_below (g := gb193) (o := .cells #[.int .i64 a0_0, .int .i64 a0_1, .int .i64 a0_2, .int .i64 a0_3, .slice A0_4 l0_4.length c0_4, .int .u64 a0_5] 27 (0, 0)) (by (with_reducible repeat (first | refine blk_drewN ?_ _ | refine blk_drew ?_ | refine blk_alloc ?_ _)); exact BK193.out) hb); have n1_ := Aside0.mk (below_step (B1_) hb); clear BK193; clear HB; have BK193 := n0_; have HB := n1_; clear n0_ n1_; (try clear hb); (try clear hb2); (try clear hk); (try clear hi); have hcz8_0 : w7.cell? ⟨gb193, 0, none⟩ = some (.int .i64 a0_0) := (blk_cell BK193.out 0).trans rfl; have hcz8_1 : w7.cell? ⟨gb193, 1, none⟩ = some (.int .i64 a0_1) := (blk_cell BK193.out 1).trans rfl; have hcz8_2 : w7.cell? ⟨gb193, 2, none⟩ = some (.int .i64 a0_2) := (blk_cell BK193.out 2).trans rfl; have hcz8_3 : w7.cell? ⟨gb193, 3, none⟩ = some (.int .i64 a0_3) := (blk_cell BK193.out 3).trans rfl; have hcz8_4 : w7.cell? ⟨gb193, 4, none⟩ = some (.slice A0_4 l0_4.length c0_4) := (blk_cell BK193.out 4).trans rfl; have hcz8_5 : w7.cell? ⟨gb193, 5, none⟩ = some (.int .u64 a0_5) := (blk_cell BK193.out 5).trans rfl; have hfz8_0 := blk_frozen BK193.out 0; have hfz8_1 := blk_frozen BK193.out 1; have hfz8_2 := blk_frozen BK193.out 2; have hfz8_3 := blk_frozen BK193.out 3; have hfz8_4 := blk_frozen BK193.out 4; have hfz8_5 := blk_frozen BK193.out 5) | ((with_reducible refine gate_callee (f := 24) rfl ?_); refine goesL_ (some 10) rfl rfl Try.func24 (by kernel_rfl) rfl #[.agg #[.int .i64 a0_0, .int .i64 a0_1, .int .i64 a0_2, .int .i64 a0_3, .slice A0_4 l0_4.length c0_4, .int .u64 a0_5]] rfl (by (try simp only [List.map_toArray, List.map_cons, List.map_nil]); first | done | rfl | (simp only [List.length_drop, List.length_take]; rfl)) ?_; (with_reducible refine (kind_takes.calls a0_0 a0_1 a0_2 a0_3 _ _ l0_4 a0_5 t195 t198 _ ?side1 ?side2 A4.out).mono ?_); (case side1 => repeat (first | exact (Kd.C_below HR0_4.out HB.out) | (with_reducible refine Kd.C_alloc ?_ _) | (with_reducible refine Kd.C_drewN ?_ _) | (with_reducible refine Kd.C_drew ?_))); (case side2 => exact HC0_4.out); rintro e w9 ⟨v196, rfl, ho0, hb⟩; refine ⟨_, rfl, ?_⟩; have n0_ := Aside0.mk (Kd.R_lower ho0 (below_size (B1_))); have n1_ := Aside0.mk (blk_below (g := gb193) (o := .cells #[.int .i64 a0_0, .int .i64 a0_1, .int .i64 a0_2, .int .i64 a0_3, .slice A0_4 l0_4.length c0_4, .int .u64 a0_5] 27 (0, 0)) (by (with_reducible repeat (first | refine blk_drewN ?_ _ | refine blk_drew ?_ | refine blk_alloc ?_ _)); exact BK193.out) hb); have n2_ := Aside0.mk (below_step (B1_) hb); clear BK193; clear HB; have HO197 := n0_; have BK193 := n1_; have HB := n2_; clear n0_ n1_ n2_; (try clear hb); (try clear hb2); (try clear hk); (try clear hi); (try clear ho0)))
  go_ret
  exact ⟨_, by first | rfl | (simp [errW_none, errW_some] <;> rfl) | (simp [*, errW_none, errW_some] <;> rfl), by (with_reducible repeat (first | apply Kd.R_alloc | apply Kd.R_drewN | apply Kd.R_drew)); exact HO197.out, B1_⟩
 replace c3 := Bool.eq_false_iff.mpr c3
 subst c3
 have H1 : (some ([] : List (S37))) = some r := by rw [if_neg (show ¬ (false = true) by decide)] at H; exact H
 clear H
 have H := H1
 clear H1
 obtain rfl := Option.some.inj H
 go_enter Try.func16, Try.ntmps16
 go_wp2_with (first | ((with_reducible refine gate_dst (N := 1) rfl ?_); refine box_event ?hg (N := 1) ?hd (cs := #[.int .i64 a0_0, .int .i64 a0_1, .int .i64 a0_2, .int .i64 a0_3, .slice A0_4 l0_4.length c0_4, .int .u64 a0_5]) (t := 27) ?hr ?_; (case hd => rfl); (case hg => rfl); (case hr => first | (go_simp; done) | (go_simp; rfl)); intro gb193 hg w10 hbox hb; have n0_ := Aside0.mk (below_step (B_) hb); have n1_ := Aside0.mk (hbox); have n2_ := Aside0.mk ((by rw [hg]; exact (below_size (B_)) : w.heap.size ≤ gb193)); have n3_ := Aside0.mk ((by rw [hg]; exact (below_size (B_)) : w.heap.size ≤ gb193)); clear HB; have HB := n0_; have BK193 := n1_; have GW193 := n2_; have GE193 := n3_; clear n0_ n1_ n2_ n3_; clear hb hbox hg; have hcz11_0 : w10.cell? ⟨gb193, 0, none⟩ = some (.int .i64 a0_0) := (blk_cell BK193.out 0).trans rfl; have hcz11_1 : w10.cell? ⟨gb193, 1, none⟩ = some (.int .i64 a0_1) := (blk_cell BK193.out 1).trans rfl; have hcz11_2 : w10.cell? ⟨gb193, 2, none⟩ = some (.int .i64 a0_2) := (blk_cell BK193.out 2).trans rfl; have hcz11_3 : w10.cell? ⟨gb193, 3, none⟩ = some (.int .i64 a0_3) := (blk_cell BK193.out 3).trans rfl; have hcz11_4 : w10.cell? ⟨gb193, 4, none⟩ = some (.slice A0_4 l0_4.length c0_4) := (blk_cell BK193.out 4).trans rfl; have hcz11_5 : w10.cell? ⟨gb193, 5, none⟩ = some (.int .u64 a0_5) := (blk_cell BK193.out 5).trans rfl; have hfz11_0 := blk_frozen BK193.out 0; have hfz11_1 := blk_frozen BK193.out 1; have hfz11_2 := blk_frozen BK193.out 2; have hfz11_3 := blk_frozen BK193.out 3; have hfz11_4 := blk_frozen BK193.out 4; have hfz11_5 := blk_frozen BK193.out 5) | ((with_reducible refine gate_callee (f := 11) rfl ?_); refine goesL_ (some 6) rfl rfl Try.func11 (by kernel_rfl) rfl #[.agg #[.int .i64 a0_0, .int .i64 a0_1, .int .i64 a0_2, .int .i64 a0_3, .slice A0_4 l0_4.length c0_4, .int .u64 a0_5]] rfl (by (try simp only [List.map_toArray, List.map_cons, List.map_nil]); first | done | rfl | (simp only [List.length_drop, List.length_take]; rfl)) ?_; (with_reducible refine (kind_May.calls k a0_0 a0_1 a0_2 a0_3 _ _ l0_4 a0_5 false _ ?side1 ?side2 A2.out).mono ?_); (case side1 => repeat (first | exact (Kd.C_below HR0_4.out HB.out) | (with_reducible refine Kd.C_alloc ?_ _) | (with_reducible refine Kd.C_drewN ?_ _) | (with_reducible refine Kd.C_drew ?_))); (case side2 => exact HC0_4.out); rintro e w12 ⟨rfl, hb⟩; refine ⟨_, rfl, ?_⟩; have n0_ := Aside0.mk (blk_below (g := gb193) (o := .cells #[.int .i64 a0_0, .int .i64 a0_1, .int .i64 a0_2, .int .i64 a0_3, .slice A0_4 l0_4.length c0_4, .int .u64 a0_5] 27 (0, 0)) (by (with_reducible repeat (first | refine blk_drewN ?_ _ | refine blk_drew ?_ | refine blk_alloc ?_ _)); exact BK193.out) hb); have n1_ := Aside0.mk (below_step (B1_) hb); clear BK193; clear HB; have BK193 := n0_; have HB := n1_; clear n0_ n1_; (try clear hb); (try clear hb2); (try clear hk); (try clear hi)))
 go_ret
 exact ⟨_, by first | rfl | (simp [errW_none, errW_some] <;> rfl) | (simp [*, errW_none, errW_some] <;> rfl), by first | exact Kd.R_nil _ _ _ _ _ | exact Kd.N_nil _ _ _ _ _ | exact Kd.V_nil _ _ _ _ _ | exact Kd.Q_nil _ _ _ _ _ | exact Kd.S_nil _ _ _ _ _, B1_⟩

end Go.Proofs.Ytblhphjdjpodcaa.Q
namespace Go.Proofs.Ytblhphjdjpodcaa.Q
open Go.Proofs.YtblhphjdjpodcaaH
open Go.RowKit Go.Proofs.YtblhphjdjpodcaaW.PrintWords Go.Proofs.YtblhphjdjpodcaaW.PrintLast Go.Proofs.YtblhphjdjpodcaaW.PrintMore
attribute [local go_sem] max2_int min2_int max_two min_two max_three min_three max_four min_four   -- for this text's walks alone
set_option linter.unusedVariables false
set_option linter.unusedSimpArgs false

/-! ### lockstepref03_Takes: function 17 -/
mutual
def lockstepref03_Takes.l0 : Nat → List (S37) → Int → Int → Int → Int → Int → List Int → Int → Option ((List (S37)))
 | 0, _, _, _, _, _, _, _, _ => none
 | k + 1, x3, x4, x200000, x200001, x200002, x200003, x200004, x200005 => if x4 < (x200004.length : Int) then (if x200000 = 13 then (lockstepref03_Takes.j1 k x3 x4 x200000 (x200000 == 13) x200000 x200001 x200002 x200003 x200004 x200005 x200001 x200002) else (lockstepref03_Takes.j1 k x3 x4 x200000 (x200000 == 20) x200000 x200001 x200002 x200003 x200004 x200005 x200001 x200002)) else (some x3)
def lockstepref03_Takes.j1 : Nat → List (S37) → Int → Int → Bool → Int → Int → Int → Int → List Int → Int → Int → Int → Option ((List (S37)))
 | 0, _, _, _, _, _, _, _, _, _, _, _, _ => none
 | k + 1, x3, x4, x22, x23, x200000, x200001, x200002, x200003, x200004, x200005, x202000, x202001 => if x23 = true then (if x4 = 0 then (if x3.length < 8796093022208 then (lockstepref03_Takes.l0 k (x3 ++ [(⟨1, 1⟩ : S37)]) (wrap64 (x4 + 1)) x200000 x200001 x200002 x200003 x200004 x200005) else (none)) else (if x3.length < 8796093022208 then (lockstepref03_Takes.l0 k (x3 ++ [(⟨x202000, x202001⟩ : S37)]) (wrap64 (x4 + 1)) x200000 x200001 x200002 x200003 x200004 x200005) else (none))) else (if x22 = 14 then (lockstepref03_Takes.j2 k x3 x4 x22 (x22 == 14) x200000 x200001 x200002 x200003 x200004 x200005 x202000 x202001) else (lockstepref03_Takes.j2 k x3 x4 x22 (x22 == 15) x200000 x200001 x200002 x200003 x200004 x200005 x202000 x202001))
def lockstepref03_Takes.j2 : Nat → List (S37) → Int → Int → Bool → Int → Int → Int → Int → List Int → Int → Int → Int → Option ((List (S37)))
 | 0, _, _, _, _, _, _, _, _, _, _, _, _ => none
 | k + 1, x3, x4, x22, x29, x200000, x200001, x200002, x200003, x200004, x200005, x202000, x202001 => if x29 = true then (if x3.length < 8796093022208 then (lockstepref03_Takes.l0 k (x3 ++ [(⟨wrap64 (x200005), 1⟩ : S37)]) (wrap64 (x4 + 1)) x200000 x200001 x200002 x200003 x200004 x200005) else (none)) else (if x22 = 16 then (lockstepref03_Takes.j3 k x3 x4 x22 (x22 == 16) x200000 x200001 x200002 x200003 x200004 x200005 x202000 x202001) else (lockstepref03_Takes.j3 k x3 x4 x22 (x22 == 17) x200000 x200001 x200002 x200003 x200004 x200005 x202000 x202001))
def lockstepref03_Takes.j3 : Nat → List (S37) → Int → Int → Bool → Int → Int → Int → Int → List Int → Int → Int → Int → Option ((List (S37)))
 | 0, _, _, _, _, _, _, _, _, _, _, _, _ => none
 | k + 1, x3, x4, x22, x36, x200000, x200001, x200002, x200003, x200004, x200005, x202000, x202001 => if x36 = true then (if x4 = 0 then (if x3.length < 8796093022208 then (lockstepref03_Takes.l0 k (x3 ++ [(⟨64, 1⟩ : S37)]) (wrap64 (x4 + 1)) x200000 x200001 x200002 x200003 x200004 x200005) else (none)) else (if x3.length < 8796093022208 then (lockstepref03_Takes.l0 k (x3 ++ [(⟨x202000, x202001⟩ : S37)]) (wrap64 (x4 + 1)) x200000 x200001 x200002 x200003 x200004 x200005) else (none))) else (if x22 = 18 then (lockstepref03_Takes.j4 k x3 x4 x22 (x22 == 18) x200000 x200001 x200002 x200003 x200004 x200005 x202000 x202001) else (lockstepref03_Takes.j4 k x3 x4 x22 (x22 == 19) x200000 x200001 x200002 x200003 x200004 x200005 x202000 x202001))
def lockstepref03_Takes.j4 : Nat → List (S37) → Int → Int → Bool → Int → Int → Int → Int → List Int → Int → Int → Int → Option ((List (S37)))
 | 0, _, _, _, _, _, _, _, _, _, _, _, _ => none
 | k + 1, x3, x4, x22, x42, x200000, x200001, x200002, x200003, x200004, x200005, x202000, x202001 => if x42 = true then (if x4 = 0 then (if x4 = 1 then (if x3.length < 8796093022208 then (lockstepref03_Takes.l0 k (x3 ++ [(⟨64, 1⟩ : S37)]) (wrap64 (x4 + 1)) x200000 x200001 x200002 x200003 x200004 x200005) else (none)) else (if x3.length < 8796093022208 then (lockstepref03_Takes.l0 k (x3 ++ [(⟨1, 1⟩ : S37)]) (wrap64 (x4 + 1)) x200000 x200001 x200002 x200003 x200004 x200005) else (none))) else (if x4 = 1 then (if x3.length < 8796093022208 then (lockstepref03_Takes.l0 k (x3 ++ [(⟨64, 1⟩ : S37)]) (wrap64 (x4 + 1)) x200000 x200001 x200002 x200003 x200004 x200005) else (none)) else (if x3.length < 8796093022208 then (lockstepref03_Takes.l0 k (x3 ++ [(⟨x202000, x202001⟩ : S37)]) (wrap64 (x4 + 1)) x200000 x200001 x200002 x200003 x200004 x200005) else (none)))) else (if x22 = 21 then (if x3.length < 8796093022208 then (lockstepref03_Takes.l0 k (x3 ++ [(⟨x200001, 1⟩ : S37)]) (wrap64 (x4 + 1)) x200000 x200001 x200002 x200003 x200004 x200005) else (none)) else (if x3.length < 8796093022208 then (lockstepref03_Takes.l0 k (x3 ++ [(⟨x202000, x202001⟩ : S37)]) (wrap64 (x4 + 1)) x200000 x200001 x200002 x200003 x200004 x200005) else (none)))
end
def lockstepref03_Takes.f (k : Nat) (a0_0 : Int) (a0_1 : Int) (a0_2 : Int) (a0_3 : Int) (l0_4 : List Int) (a0_5 : Int) : Option ((List (S37))) := (lockstepref03_May.f k a0_0 a0_1 a0_2 a0_3 l0_4 a0_5).bind fun t200 => (if t200 = true then (lockstepref03_Takes.l0 k ([] : List (S37)) 0 a0_0 a0_1 a0_2 a0_3 l0_4 a0_5) else (some ([] : List (S37))))
theorem lockstepref03_Takes.mono_l : ∀ k, (∀ y0 y1 y2 y3 y4 y5 y6 y7, LeO (lockstepref03_Takes.l0 k y0 y1 y2 y3 y4 y5 y6 y7) (lockstepref03_Takes.l0 (k + 1) y0 y1 y2 y3 y4 y5 y6 y7)) ∧ (∀ y0 y1 y2 y3 y4 y5 y6 y7 y8 y9 y10 y11, LeO (lockstepref03_Takes.j1 k y0 y1 y2 y3 y4 y5 y6 y7 y8 y9 y10 y11) (lockstepref03_Takes.j1 (k + 1) y0 y1 y2 y3 y4 y5 y6 y7 y8 y9 y10 y11)) ∧ (∀ y0 y1 y2 y3 y4 y5 y6 y7 y8 y9 y10 y11, LeO (lockstepref03_Takes.j2 k y0 y1 y2 y3 y4 y5 y6 y7 y8 y9 y10 y11) (lockstepref03_Takes.j2 (k + 1) y0 y1 y2 y3 y4 y5 y6 y7 y8 y9 y10 y11)) ∧ (∀ y0 y1 y2 y3 y4 y5 y6 y7 y8 y9 y10 y11, LeO (lockstepref03_Takes.j3 k y0 y1 y2 y3 y4 y5 y6 y7 y8 y9 y10 y11) (lockstepref03_Takes.j3 (k + 1) y0 y1 y2 y3 y4 y5 y6 y7 y8 y9 y10 y11)) ∧ (∀ y0 y1 y2 y3 y4 y5 y6 y7 y8 y9 y10 y11, LeO (lockstepref03_Takes.j4 k y0 y1 y2 y3 y4 y5 y6 y7 y8 y9 y10 y11) (lockstepref03_Takes.j4 (k + 1) y0 y1 y2 y3 y4 y5 y6 y7 y8 y9 y10 y11))
 | 0 => ⟨fun _ _ _ _ _ _ _ _ r h => by simp [lockstepref03_Takes.l0] at h, fun _ _ _ _ _ _ _ _ _ _ _ _ r h => by simp [lockstepref03_Takes.j1] at h, fun _ _ _ _ _ _ _ _ _ _ _ _ r h => by simp [lockstepref03_Takes.j2] at h, fun _ _ _ _ _ _ _ _ _ _ _ _ r h => by simp [lockstepref03_Takes.j3] at h, fun _ _ _ _ _ _ _ _ _ _ _ _ r h => by simp [lockstepref03_Takes.j4] at h⟩
 | k + 1 => by
  obtain ⟨ih0, ih1, ih2, ih3, ih4⟩ := lockstepref03_Takes.mono_l k
  refine ⟨?_, ?_, ?_, ?_, ?_⟩
  ·intro y0 y1 y2 y3 y4 y5 y6 y7
   unfold lockstepref03_Takes.l0
   repeat' first
   | (with_reducible exact ih0 _ _ _ _ _ _ _ _)
   | (with_reducible exact ih1 _ _ _ _ _ _ _ _ _ _ _ _)
   | (with_reducible exact ih2 _ _ _ _ _ _ _ _ _ _ _ _)
   | (with_reducible exact ih3 _ _ _ _ _ _ _ _ _ _ _ _)
   | (with_reducible exact ih4 _ _ _ _ _ _ _ _ _ _ _ _)
   | (with_reducible exact lockstepref03_May.mono _ _ _ _ _ _ _)
   | (with_reducible exact LeO.refl _)
   | (with_reducible exact LeO.none _)
   | (with_reducible refine LeO.ite ?_ ?_)
   | (with_reducible refine LeO.bind ?_ (fun _ => ?_))
   | exact ih0 _ _ _ _ _ _ _ _
   | exact ih1 _ _ _ _ _ _ _ _ _ _ _ _
   | exact ih2 _ _ _ _ _ _ _ _ _ _ _ _
   | exact ih3 _ _ _ _ _ _ _ _ _ _ _ _
   | exact ih4 _ _ _ _ _ _ _ _ _ _ _ _
   | exact lockstepref03_May.mono _ _ _ _ _ _ _
   | exact LeO.none _
   | refine LeO.ite ?_ ?_
   | refine LeO.bind ?_ (fun _ => ?_)
  ·intro y0 y1 y2 y3 y4 y5 y6 y7 y8 y9 y10 y11
   unfold lockstepref03_Takes.j1
   repeat' first
   | (with_reducible exact ih0 _ _ _ _ _ _ _ _)
   | (with_reducible exact ih1 _ _ _ _ _ _ _ _ _ _ _ _)
   | (with_reducible exact ih2 _ _ _ _ _ _ _ _ _ _ _ _)
   | (with_reducible exact ih3 _ _ _ _ _ _ _ _ _ _ _ _)
   | (with_reducible exact ih4 _ _ _ _ _ _ _ _ _ _ _ _)
   | (with_reducible exact lockstepref03_May.mono _ _ _ _ _ _ _)
   | (with_reducible exact LeO.refl _)
   | (with_reducible exact LeO.none _)
   | (with_reducible refine LeO.ite ?_ ?_)
   | (with_reducible refine LeO.bind ?_ (fun _ => ?_))
   | exact ih0 _ _ _ _ _ _ _ _
   | exact ih1 _ _ _ _ _ _ _ _ _ _ _ _
   | exact ih2 _ _ _ _ _ _ _ _ _ _ _ _
   | exact ih3 _ _ _ _ _ _ _ _ _ _ _ _
   | exact ih4 _ _ _ _ _ _ _ _ _ _ _ _
   | exact lockstepref03_May.mono _ _ _ _ _ _ _
   | exact LeO.none _
   | refine LeO.ite ?_ ?_
   | refine LeO.bind ?_ (fun _ => ?_)
  ·intro y0 y1 y2 y3 y4 y5 y6 y7 y8 y9 y10 y11
   unfold lockstepref03_Takes.j2
   repeat' first
   | (with_reducible exact ih0 _ _ _ _ _ _ _ _)
   | (with_reducible exact ih1 _ _ _ _ _ _ _ _ _ _ _ _)
   | (with_reducible exact ih2 _ _ _ _ _ _ _ _ _ _ _ _)
   | (with_reducible exact ih3 _ _ _ _ _ _ _ _ _ _ _ _)
   | (with_reducible exact ih4 _ _ _ _ _ _ _ _ _ _ _ _)
   | (with_reducible exact lockstepref03_May.mono _ _ _ _ _ _ _)
   | (with_reducible exact LeO.refl _)
   | (with_reducible exact LeO.none _)
   | (with_reducible refine LeO.ite ?_ ?_)
   | (with_reducible refine LeO.bind ?_ (fun _ => ?_))
   | exact ih0 _ _ _ _ _ _ _ _
   | exact ih1 _ _ _ _ _ _ _ _ _ _ _ _
   | exact ih2 _ _ _ _ _ _ _ _ _ _ _ _
   | exact ih3 _ _ _ _ _ _ _ _ _ _ _ _
   | exact ih4 _ _ _ _ _ _ _ _ _ _ _ _
   | exact lockstepref03_May.mono _ _ _ _ _ _ _
   | exact LeO.none _
   | refine LeO.ite ?_ ?_
   | refine LeO.bind ?_ (fun _ => ?_)
  ·intro y0 y1 y2 y3 y4 y5 y6 y7 y8 y9 y10 y11
   unfold lockstepref03_Takes.j3
   repeat' first
   | (with_reducible exact ih0 _ _ _ _ _ _ _ _)
   | (with_reducible exact ih1 _ _ _ _ _ _ _ _ _ _ _ _)
   | (with_reducible exact ih2 _ _ _ _ _ _ _ _ _ _ _ _)
   | (with_reducible exact ih3 _ _ _ _ _ _ _ _ _ _ _ _)
   | (with_reducible exact ih4 _ _ _ _ _ _ _ _ _ _ _ _)
   | (with_reducible exact lockstepref03_May.mono _ _ _ _ _ _ _)
   | (with_reducible exact LeO.refl _)
   | (with_reducible exact LeO.none _)
   | (with_reducible refine LeO.ite ?_ ?_)
   | (with_reducible refine LeO.bind ?_ (fun _ => ?_))
   | exact ih0 _ _ _ _ _ _ _ _
   | exact ih1 _ _ _ _ _ _ _ _ _ _ _ _
   | exact ih2 _ _ _ _ _ _ _ _ _ _ _ _
   | exact ih3 _ _ _ _ _ _ _ _ _ _ _ _
   | exact ih4 _ _ _ _ _ _ _ _ _ _ _ _
   | exact lockstepref03_May.mono _ _ _ _ _ _ _
   | exact LeO.none _
   | refine LeO.ite ?_ ?_
   | refine LeO.bind ?_ (fun _ => ?_)
  ·intro y0 y1 y2 y3 y4 y5 y6 y7 y8 y9 y10 y11
   unfold lockstepref03_Takes.j4
   repeat' first
   | (with_reducible exact ih0 _ _ _ _ _ _ _ _)
   | (with_reducible exact ih1 _ _ _ _ _ _ _ _ _ _ _ _)
   | (with_reducible exact ih2 _ _ _ _ _ _ _ _ _ _ _ _)
   | (with_reducible exact ih3 _ _ _ _ _ _ _ _ _ _ _ _)
   | (with_reducible exact ih4 _ _ _ _ _ _ _ _ _ _ _ _)
   | (with_reducible exact lockstepref03_May.mono _ _ _ _ _ _ _)
   | (with_reducible exact LeO.refl _)
   | (with_reducible exact LeO.none _)
   | (with_reducible refine LeO.ite ?_ ?_)
   | (with_reducible refine LeO.bind ?_ (fun _ => ?_))
   | exact ih0 _ _ _ _ _ _ _ _
   | exact ih1 _ _ _ _ _ _ _ _ _ _ _ _
   | exact ih2 _ _ _ _ _ _ _ _ _ _ _ _
   | exact ih3 _ _ _ _ _ _ _ _ _ _ _ _
   | exact ih4 _ _ _ _ _ _ _ _ _ _ _ _
   | exact lockstepref03_May.mono _ _ _ _ _ _ _
   | exact LeO.none _
   | refine LeO.ite ?_ ?_
   | refine LeO.bind ?_ (fun _ => ?_)
theorem lockstepref03_Takes.mono : ∀ a0 a1 a2 a3 a4 a5 k, LeO (lockstepref03_Takes.f k a0 a1 a2 a3 a4 a5) (lockstepref03_Takes.f (k + 1) a0 a1 a2 a3 a4 a5) := by
 intro a0 a1 a2 a3 a4 a5 k
 obtain ⟨ih0, ih1, ih2, ih3, ih4⟩ := lockstepref03_Takes.mono_l k
 unfold lockstepref03_Takes.f
 repeat' first
  | (with_reducible exact ih0 _ _ _ _ _ _ _ _)
  | (with_reducible exact ih1 _ _ _ _ _ _ _ _ _ _ _ _)
  | (with_reducible exact ih2 _ _ _ _ _ _ _ _ _ _ _ _)
  | (with_reducible exact ih3 _ _ _ _ _ _ _ _ _ _ _ _)
  | (with_reducible exact ih4 _ _ _ _ _ _ _ _ _ _ _ _)
  | (with_reducible exact lockstepref03_May.mono _ _ _ _ _ _ _)
  | (with_reducible exact LeO.refl _)
  | (with_reducible exact LeO.none _)
  | (with_reducible refine LeO.ite ?_ ?_)
  | (with_reducible refine LeO.bind ?_ (fun _ => ?_))
  | exact ih0 _ _ _ _ _ _ _ _
  | exact ih1 _ _ _ _ _ _ _ _ _ _ _ _
  | exact ih2 _ _ _ _ _ _ _ _ _ _ _ _
  | exact ih3 _ _ _ _ _ _ _ _ _ _ _ _
  | exact ih4 _ _ _ _ _ _ _ _ _ _ _ _
  | exact lockstepref03_May.mono _ _ _ _ _ _ _
  | exact LeO.none _
  | refine LeO.ite ?_ ?_
  | refine LeO.bind ?_ (fun _ => ?_)
set_option maxHeartbeats 8000000 in
set_option maxRecDepth 100000 in
theorem lockstepref03_Takes.calls (k : Nat) (a0_0 : Int) (a0_1 : Int) (a0_2 : Int) (a0_3 : Int) (A0_4 : Option Addr) (c0_4 : Nat) (l0_4 : List Int) (a0_5 : Int) (r : List (S37)) (w : World) (hr0_4 : Kd.C (Kd.int .i64) w A0_4 l0_4.length l0_4) (hc0_4 : l0_4.length ≤ c0_4) (h : lockstepref03_Takes.f k a0_0 a0_1 a0_2 a0_3 l0_4 a0_5 = some r) :
 Calls Try.prog 17 #[.agg #[.int .i64 a0_0, .int .i64 a0_1, .int .i64 a0_2, .int .i64 a0_3, .slice A0_4 l0_4.length c0_4, .int .u64 a0_5]] w fun e w' => ∃ v0_ : Value, e = .returned (v0_) ∧ Kd.R k37 37 w' w.heap.size (fun _ => True) v0_ r ∧ Below w.heap.size w w' := by
 have hu27 := Try.underlying27
 have hu37 := Try.underlying37
 have HR0_4 := Aside0.mk hr0_4
 have HC0_4 := Aside0.mk hc0_4
 clear hr0_4 hc0_4
 have HB := Aside0.mk (Below.refl w.heap.size w)
 have H : ((lockstepref03_May.f k a0_0 a0_1 a0_2 a0_3 l0_4 a0_5).bind fun t200 => (if t200 = true then (lockstepref03_Takes.l0 k ([] : List (S37)) 0 a0_0 a0_1 a0_2 a0_3 l0_4 a0_5) else (some ([] : List (S37))))) = some r := h
 clear h
 replace H := Option.bind_eq_some_iff.mp H
 obtain ⟨t200, A20, H⟩ := H
 replace H : (if t200 = true then (lockstepref03_Takes.l0 k ([] : List (S37)) 0 a0_0 a0_1 a0_2 a0_3 l0_4 a0_5) else (some ([] : List (S37)))) = some r := H
 have A2 := Aside0.mk A20
 clear A20
 by_cases c3 : t200 = true
 ·subst c3
  have H1 : (lockstepref03_Takes.l0 k ([] : List (S37)) 0 a0_0 a0_1 a0_2 a0_3 l0_4 a0_5) = some r := by rw [if_pos rfl] at H; exact H
  clear H
  have H := H1
  clear H1
  have H' := Aside0.mk H
  clear H
  go_enter Try.func17, Try.ntmps17
  go_wp2_with (first | ((with_reducible refine gate_dst (N := 1) rfl ?_); refine box_event ?hg (N := 1) ?hd (cs := #[.int .i64 a0_0, .int .i64 a0_1, .int .i64 a0_2, .int .i64 a0_3, .slice A0_4 l0_4.length c0_4, .int .u64 a0_5]) (t := 27) ?hr ?_; (case hd => rfl); (case hg => rfl); (case hr => first | (go_simp; done) | (go_simp; rfl)); intro gb199 hg w4 hbox hb; have n0_ := Aside0.mk (below_step (B_) hb); have n1_ := Aside0.mk (hbox); have n2_ := Aside0.mk ((by rw [hg]; exact (below_size (B_)) : w.heap.size ≤ gb199)); have n3_ := Aside0.mk ((by rw [hg]; exact (below_size (B_)) : w.heap.size ≤ gb199)); clear HB; have HB := n0_; have BK199 := n1_; have GW199 := n2_; have GE199 := n3_; clear n0_ n1_ n2_ n3_; clear hb hbox hg; have hcz5_0 : w4.cell? ⟨gb199, 0, none⟩ = some (.int .i64 a0_0) := (blk_cell BK199.out 0).trans rfl; have hcz5_1 : w4.cell? ⟨gb199, 1, none⟩ = some (.int .i64 a0_1) := (blk_cell BK199.out 1).trans rfl; have hcz5_2 : w4.cell? ⟨gb199, 2, none⟩ = some (.int .i64 a0_2) := (blk_cell BK199.out 2).trans rfl; have hcz5_3 : w4.cell? ⟨gb199, 3, none⟩ = some (.int .i64 a0_3) := (blk_cell BK199.out 3).trans rfl; have hcz5_4 : w4.cell? ⟨gb199, 4, none⟩ = some (.slice A0_4 l0_4.length c0_4) := (blk_cell BK199.out 4).trans rfl; have hcz5_5 : w4.cell? ⟨gb199, 5, none⟩ = some (.int .u64 a0_5) := (blk_cell BK199.out 5).trans rfl; have hfz5_0 := blk_frozen BK199.out 0; have hfz5_1 := blk_frozen BK199.out 1; have hfz5_2 := blk_frozen BK199.out 2; have hfz5_3 := blk_frozen BK199.out 3; have hfz5_4 := blk_frozen BK199.out 4; have hfz5_5 := blk_frozen BK199.out 5) | ((with_reducible refine gate_callee (f := 14) rfl ?_); refine goesL_ (some 7) rfl rfl Try.func14 (by kernel_rfl) rfl #[.agg #[.int .i64 a0_0, .int .i64 a0_1, .int .i64 a0_2, .int .i64 a0_3, .slice A0_4 l0_4.length c0_4, .int .u64 a0_5]] rfl (by (try simp only [List.map_toArray, List.map_cons, List.map_nil]); first | done | rfl | (simp only [List.length_drop, List.length_take]; rfl)) ?_; (with_reducible refine (lockstepref03_May.calls k a0_0 a0_1 a0_2 a0_3 _ _ l0_4 a0_5 true _ ?side1 ?side2 A2.out).mono ?_); (case side1 => repeat (first | exact (Kd.C_below HR0_4.out HB.out) | (with_reducible refine Kd.C_alloc ?_ _) | (with_reducible refine Kd.C_drewN ?_ _) | (with_reducible refine Kd.C_drew ?_))); (case side2 => exact HC0_4.out); rintro e w6 ⟨rfl, hb⟩; refine ⟨_, rfl, ?_⟩; have n0_ := Aside0.mk (blk_below (g := gb199) (o := .cells #[.int .i64 a0_0, .int .i64 a0_1, .int .i64 a0_2, .int .i64 a0_3, .slice A0_4 l0_4.length c0_4, .int .u64 a0_5] 27 (0, 0)) (by (with_reducible repeat (first | refine blk_drewN ?_ _ | refine blk_drew ?_ | refine blk_alloc ?_ _)); exact BK199.out) hb); have n1_ := Aside0.mk (below_step (B1_) hb); clear BK199; clear HB; have BK199 := n0_; have HB := n1_; clear n0_ n1_; (try clear hb); (try clear hb2); (try clear hk); (try clear hi)))
  go_loopg [3, 4] k (fun kq v3 v4 w' => ∃ (x3_1 : List (S37)) (x4_1 : Int), v4 = .int .i64 x4_1 ∧ Aside0 (lockstepref03_Takes.l0 kq x3_1 x4_1 a0_0 a0_1 a0_2 a0_3 l0_4 a0_5 = some r) ∧ Aside0 (kq ≤ k) ∧ Aside0 (Kd.R k37 37 w' w.heap.size (fun _ => True) v3 x3_1) ∧ Aside0 (w'.heap[gb199]? = some (.cells #[.int .i64 a0_0, .int .i64 a0_1, .int .i64 a0_2, .int .i64 a0_3, (.slice A0_4 l0_4.length c0_4), .int .u64 a0_5] 27 (0, 0))) ∧ Aside0 (Below w.heap.size w w'))
  case atStart => exact ⟨(([] : List (S37))), (0), (by first | rfl | (simp; done) | (simp [*]; done)), H', ⟨Nat.le_refl _⟩, ⟨by first | exact Kd.R_nil _ _ _ _ _ | exact Kd.N_nil _ _ _ _ _ | exact Kd.V_nil _ _ _ _ _ | exact Kd.Q_nil _ _ _ _ _ | exact Kd.S_nil _ _ _ _ _⟩, ⟨by (with_reducible repeat (first | refine blk_drewN ?_ _ | refine blk_drew ?_ | refine blk_alloc ?_ _)); exact BK199.out⟩, ⟨B1_⟩⟩
  case round =>
   clear H'
   try clear c1
   try clear p2
   try clear c3
   try clear hcz5_0
   try clear hcz5_1
   try clear hcz5_2
   try clear hcz5_3
   try clear hcz5_4
   try clear hcz5_5
   try clear hfz5_0
   try clear hfz5_1
   try clear hfz5_2
   try clear hfz5_3
   try clear hfz5_4
   try clear hfz5_5
   obtain ⟨x3_1, x4_1, rfl, HA, HK1, HO_3, BK199, HB⟩ := hrel
   cases gk with
   | zero => exact absurd HA.out (by simp [lockstepref03_Takes.l0])
   | succ k1 =>
    have H := HA.out
    clear HA
    simp only [lockstepref03_Takes.l0] at H
    by_cases c7 : x4_1 < (l0_4.length : Int)
    ·rw [if_pos c7] at H
     have c7b0 : decide (x4_1 < (l0_4.length : Int)) = true := decide_eq_true c7
     clear c7
     have HC8 := Aside0.mk H
     clear H
     have hcz9_0 : wr.cell? ⟨gb199, 0, none⟩ = some (.int .i64 a0_0) := (blk_cell BK199.out 0).trans rfl
     have hcz9_1 : wr.cell? ⟨gb199, 1, none⟩ = some (.int .i64 a0_1) := (blk_cell BK199.out 1).trans rfl
     have hcz9_2 : wr.cell? ⟨gb199, 2, none⟩ = some (.int .i64 a0_2) := (blk_cell BK199.out 2).trans rfl
     have hcz9_3 : wr.cell? ⟨gb199, 3, none⟩ = some (.int .i64 a0_3) := (blk_cell BK199.out 3).trans rfl
     have hcz9_4 : wr.cell? ⟨gb199, 4, none⟩ = some (.slice A0_4 l0_4.length c0_4) := (blk_cell BK199.out 4).trans rfl
     have hcz9_5 : wr.cell? ⟨gb199, 5, none⟩ = some (.int .u64 a0_5) := (blk_cell BK199.out 5).trans rfl
     have hfz9_0 := blk_frozen BK199.out 0
     have hfz9_1 := blk_frozen BK199.out 1
     have hfz9_2 := blk_frozen BK199.out 2
     have hfz9_3 := blk_frozen BK199.out 3
     have hfz9_4 := blk_frozen BK199.out 4
     have hfz9_5 := blk_frozen BK199.out 5
     go_upto_if 23 with (first | ((with_reducible refine gate_dst (N := 5) rfl ?_); refine box_event ?hg (N := 5) ?hd (cs := #[.int .i64 0, .int .i64 0]) (t := 37) ?hr ?_; (case hd => rfl); (case hg => rfl); (case hr => first | (go_simp; done) | (go_simp; rfl)); intro gb201 hg w10 hbox hb; have n0_ := Aside0.mk (Kd.R_below (Kd.R_elderB (by (with_reducible repeat (first | apply Kd.R_alloc | apply Kd.R_drewN | apply Kd.R_drew)); exact HO_3.out) gb201 (Nat.le_of_eq hg.symm)) hb); have n1_ := Aside0.mk (blk_below (g := gb199) (o := .cells #[.int .i64 a0_0, .int .i64 a0_1, .int .i64 a0_2, .int .i64 a0_3, .slice A0_4 l0_4.length c0_4, .int .u64 a0_5] 27 (0, 0)) (by (with_reducible repeat (first | refine blk_drewN ?_ _ | refine blk_drew ?_ | refine blk_alloc ?_ _)); exact BK199.out) hb); have n2_ := Aside0.mk (below_step (B1_) hb); have n3_ := Aside0.mk (hbox); have n4_ := Aside0.mk ((by rw [hg]; exact (below_size (B1_)) : w.heap.size ≤ gb201)); have n5_ := Aside0.mk ((by rw [hg]; exact (below_size (B1_)) : w.heap.size ≤ gb201)); have n6_ := Aside0.mk ((by rw [hg]; exact Nat.ne_of_lt (blk_lt (g := gb199) (o := .cells #[.int .i64 a0_0, .int .i64 a0_1, .int .i64 a0_2, .int .i64 a0_3, .slice A0_4 l0_4.length c0_4, .int .u64 a0_5] 27 (0, 0)) (by (with_reducible repeat (first | refine blk_drewN ?_ _ | refine blk_drew ?_ | refine blk_alloc ?_ _)); exact BK199.out)) : gb199 ≠ gb201)); have n7_ := Aside0.mk ((by rw [hg]; exact Nat.ne_of_gt (blk_lt (g := gb199) (o := .cells #[.int .i64 a0_0, .int .i64 a0_1, .int .i64 a0_2, .int .i64 a0_3, .slice A0_4 l0_4.length c0_4, .int .u64 a0_5] 27 (0, 0)) (by (with_reducible repeat (first | refine blk_drewN ?_ _ | refine blk_drew ?_ | refine blk_alloc ?_ _)); exact BK199.out)) : gb201 ≠ gb199)); clear HO_3; clear BK199; clear HB; have HO_3 := n0_; have BK199 := n1_; have HB := n2_; have BK201 := n3_; have GW201 := n4_; have GE201 := n5_; have NB199_201 := n6_; have NB201_199 := n7_; clear n0_ n1_ n2_ n3_ n4_ n5_ n6_ n7_; clear hb hbox hg; have hnb11 := NB201_199.out; have hnc11 := NB199_201.out; have hcz12_0 : w10.cell? ⟨gb201, 0, none⟩ = some (.int .i64 0) := (blk_cell BK201.out 0).trans rfl; have hcz12_1 : w10.cell? ⟨gb201, 1, none⟩ = some (.int .i64 0) := (blk_cell BK201.out 1).trans rfl; have hfz12_0 := blk_frozen BK201.out 0; have hfz12_1 := blk_frozen BK201.out 1; have hcz13_0 : w10.cell? ⟨gb199, 0, none⟩ = some (.int .i64 a0_0) := (blk_cell BK199.out 0).trans rfl; have hcz13_1 : w10.cell? ⟨gb199, 1, none⟩ = some (.int .i64 a0_1) := (blk_cell BK199.out 1).trans rfl; have hcz13_2 : w10.cell? ⟨gb199, 2, none⟩ = some (.int .i64 a0_2) := (blk_cell BK199.out 2).trans rfl; have hcz13_3 : w10.cell? ⟨gb199, 3, none⟩ = some (.int .i64 a0_3) := (blk_cell BK199.out 3).trans rfl; have hcz13_4 : w10.cell? ⟨gb199, 4, none⟩ = some (.slice A0_4 l0_4.length c0_4) := (blk_cell BK199.out 4).trans rfl; have hcz13_5 : w10.cell? ⟨gb199, 5, none⟩ = some (.int .u64 a0_5) := (blk_cell BK199.out 5).trans rfl; have hfz13_0 := blk_frozen BK199.out 0; have hfz13_1 := blk_frozen BK199.out 1; have hfz13_2 := blk_frozen BK199.out 2; have hfz13_3 := blk_frozen BK199.out 3; have hfz13_4 := blk_frozen BK199.out 4; have hfz13_5 := blk_frozen BK199.out 5))
     (try simp only [Act.put, List.setIfInBounds_toArray, List.set_cons_zero, List.set_cons_succ])
     go_cut [23] (fun v23 wc => ∃ (kq : Nat) (x23_7 : Bool), v23 = .bool x23_7 ∧ Aside0 (lockstepref03_Takes.j1 kq x3_1 x4_1 a0_0 x23_7 a0_0 a0_1 a0_2 a0_3 l0_4 a0_5 a0_1 a0_2 = some r) ∧ Aside0 (kq ≤ k1) ∧ Aside0 (Kd.R k37 37 wc w.heap.size (fun k_ => k_ ≠ gb201) u3 x3_1) ∧ Aside0 (wc.heap[gb199]? = some (.cells #[.int .i64 a0_0, .int .i64 a0_1, .int .i64 a0_2, .int .i64 a0_3, (.slice A0_4 l0_4.length c0_4), .int .u64 a0_5] 27 (0, 0))) ∧ Aside0 (wc.heap[gb201]? = some (.cells #[.int .i64 a0_1, .int .i64 a0_2] 37 (0, 0))) ∧ Aside0 (Below w.heap.size w wc))
     case first =>
      have H := HC8.out
      clear HC8
      by_cases c14 : a0_0 = 13
      ·rw [if_pos c14] at H
       have c14b0 : (a0_0 == 13) = true := beq_iff_eq.mpr c14
       have c14b1 : (a0_0 != 13) = false := bne_eq_false_iff_eq.mpr c14
       clear c14
       (first | rw [c14b0] | (simp only [i64_w, i32_w]; rw [c14b0]) | skip)
       have H' := Aside0.mk H
       clear H
       go_wp2
       go_meet
       case rel => exact ⟨_, ((a0_0 == 13)), (by first | rfl | (simp; done) | (simp [*]; done)), H', ⟨by have := HK1.out; first | omega | exact Nat.le_refl _⟩, ⟨by (with_reducible repeat (first | apply Kd.R_alloc | apply Kd.R_drewN | apply Kd.R_drew)); exact Kd.R_mono (Kd.R_far (p := ⟨gb201, 1, none⟩) (Kd.R_far (p := ⟨gb201, 0, none⟩) (Kd.R_mono HO_3.out (fun k_ hk => (⟨hk, hk.2⟩ : _ ∧ k_ ≠ gb201))) (fun _ hk => hk.2) (.int .i64 a0_1)) (fun _ hk => hk.2) (.int .i64 a0_2)) (fun _ hk => hk.1.2)⟩, ⟨by (with_reducible repeat (first | refine blk_drewN ?_ _ | refine blk_drew ?_ | refine blk_alloc ?_ _)); refine blk_far ?_ NB199_201.out _; (with_reducible repeat (first | refine blk_drewN ?_ _ | refine blk_drew ?_ | refine blk_alloc ?_ _)); refine blk_far ?_ NB199_201.out _; (with_reducible repeat (first | refine blk_drewN ?_ _ | refine blk_drew ?_ | refine blk_alloc ?_ _)); exact BK199.out⟩, ⟨by (with_reducible repeat (first | refine blk_drewN ?_ _ | refine blk_drew ?_ | refine blk_alloc ?_ _)); refine blk_put (cs := #[.int .i64 a0_1, .int .i64 0]) ?_ 1 _ rfl; (with_reducible repeat (first | refine blk_drewN ?_ _ | refine blk_drew ?_ | refine blk_alloc ?_ _)); refine blk_put (cs := #[.int .i64 0, .int .i64 0]) ?_ 0 _ rfl; (with_reducible repeat (first | refine blk_drewN ?_ _ | refine blk_drew ?_ | refine blk_alloc ?_ _)); exact BK201.out⟩, ⟨B1_⟩⟩
      rw [if_neg c14] at H
      have c14b0 : (a0_0 == 13) = false := beq_eq_false_iff_ne.mpr c14
      have c14b1 : (a0_0 != 13) = true := bne_iff_ne.mpr c14
      (first | rw [c14b0] | (simp only [i64_w, i32_w]; rw [c14b0]) | skip)
      have H' := Aside0.mk H
      clear H
      go_wp2
      go_meet
      case rel => exact ⟨_, ((a0_0 == 20)), (by first | rfl | (simp; done) | (simp [*]; done)), H', ⟨by have := HK1.out; first | omega | exact Nat.le_refl _⟩, ⟨by (with_reducible repeat (first | apply Kd.R_alloc | apply Kd.R_drewN | apply Kd.R_drew)); exact Kd.R_mono (Kd.R_far (p := ⟨gb201, 1, none⟩) (Kd.R_far (p := ⟨gb201, 0, none⟩) (Kd.R_mono HO_3.out (fun k_ hk => (⟨hk, hk.2⟩ : _ ∧ k_ ≠ gb201))) (fun _ hk => hk.2) (.int .i64 a0_1)) (fun _ hk => hk.2) (.int .i64 a0_2)) (fun _ hk => hk.1.2)⟩, ⟨by (with_reducible repeat (first | refine blk_drewN ?_ _ | refine blk_drew ?_ | refine blk_alloc ?_ _)); refine blk_far ?_ NB199_201.out _; (with_reducible repeat (first | refine blk_drewN ?_ _ | refine blk_drew ?_ | refine blk_alloc ?_ _)); refine blk_far ?_ NB199_201.out _; (with_reducible repeat (first | refine blk_drewN ?_ _ | refine blk_drew ?_ | refine blk_alloc ?_ _)); exact BK199.out⟩, ⟨by (with_reducible repeat (first | refine blk_drewN ?_ _ | refine blk_drew ?_ | refine blk_alloc ?_ _)); refine blk_put (cs := #[.int .i64 a0_1, .int .i64 0]) ?_ 1 _ rfl; (with_reducible repeat (first | refine blk_drewN ?_ _ | refine blk_drew ?_ | refine blk_alloc ?_ _)); refine blk_put (cs := #[.int .i64 0, .int .i64 0]) ?_ 0 _ rfl; (with_reducible repeat (first | refine blk_drewN ?_ _ | refine blk_drew ?_ | refine blk_alloc ?_ _)); exact BK201.out⟩, ⟨B1_⟩⟩
     case rest =>
      clear HC8
      try clear c1
      try clear p2
      try clear c3
      try clear c7
      try clear c7b0
      try clear c11
      try clear c14
      try clear c14b0
      try clear c14b1
      try clear hcz12_0
      try clear hcz12_1
      try clear hcz13_0
      try clear hcz13_1
      try clear hcz13_2
      try clear hcz13_3
      try clear hcz13_4
      try clear hcz13_5
      try clear hcz5_0
      try clear hcz5_1
      try clear hcz5_2
      try clear hcz5_3
      try clear hcz5_4
      try clear hcz5_5
      try clear hcz9_0
      try clear hcz9_1
      try clear hcz9_2
      try clear hcz9_3
      try clear hcz9_4
      try clear hcz9_5
      try clear hfz12_0
      try clear hfz12_1
      try clear hfz13_0
      try clear hfz13_1
      try clear hfz13_2
      try clear hfz13_3
      try clear hfz13_4
      try clear hfz13_5
      try clear hfz5_0
      try clear hfz5_1
      try clear hfz5_2
      try clear hfz5_3
      try clear hfz5_4
      try clear hfz5_5
      try clear hfz9_0
      try clear hfz9_1
      try clear hfz9_2
      try clear hfz9_3
      try clear hfz9_4
      try clear hfz9_5
      try clear p2
      obtain ⟨kq, x23_7, rfl, HA, HJ7, HO_3, BK199, BK201, HB⟩ := hcut
      cases kq with
      | zero => exact absurd HA.out (by simp [lockstepref03_Takes.j1])
      | succ kj7 =>
       have H := HA.out
       clear HA
       simp only [lockstepref03_Takes.j1] at H
       by_cases c15 : x23_7 = true
       ·subst c15
        have H1 : (if x4_1 = 0 then (if x3_1.length < 8796093022208 then (lockstepref03_Takes.l0 kj7 (x3_1 ++ [(⟨1, 1⟩ : S37)]) (wrap64 (x4_1 + 1)) a0_0 a0_1 a0_2 a0_3 l0_4 a0_5) else (none)) else (if x3_1.length < 8796093022208 then (lockstepref03_Takes.l0 kj7 (x3_1 ++ [(⟨a0_1, a0_2⟩ : S37)]) (wrap64 (x4_1 + 1)) a0_0 a0_1 a0_2 a0_3 l0_4 a0_5) else (none))) = some r := by rw [if_pos rfl] at H; exact H
        clear H
        have H := H1
        clear H1
        by_cases c16 : x4_1 = 0
        ·rw [if_pos c16] at H
         have c16b0 : (x4_1 == 0) = true := beq_iff_eq.mpr c16
         have c16b1 : (x4_1 != 0) = false := bne_eq_false_iff_eq.mpr c16
         clear c16
         by_cases c17 : x3_1.length < 8796093022208
         ·rw [if_pos c17] at H
          have LMc17 := Aside0.mk c17
          clear c17
          obtain ⟨y202, hy202⟩ : ∃ y_ : List (S37), y_ = (x3_1 ++ [(⟨1, 1⟩ : S37)]) := ⟨_, rfl⟩
          replace H : (lockstepref03_Takes.l0 kj7 y202 (wrap64 (x4_1 + 1)) a0_0 a0_1 a0_2 a0_3 l0_4 a0_5) = some r := by first | (rw [hy202]; with_reducible exact H) | (have H2_ := (Option.bind_some _ _).symm.trans H; rw [hy202]; with_reducible exact H2_) | (have H2_ := (Option.bind_some _ _).symm.trans H; with_reducible exact H2_) | with_reducible exact H | (rw [hy202]; exact H) | exact H
          have Ny202 := Aside0.mk hy202
          clear hy202
          have H' := Aside0.mk H
          clear H
          have hnb18 := NB201_199.out
          have hnc18 := NB199_201.out
          have hcz19_0 : wc.cell? ⟨gb201, 0, none⟩ = some (.int .i64 a0_1) := (blk_cell BK201.out 0).trans rfl
          have hcz19_1 : wc.cell? ⟨gb201, 1, none⟩ = some (.int .i64 a0_2) := (blk_cell BK201.out 1).trans rfl
          have hfz19_0 := blk_frozen BK201.out 0
          have hfz19_1 := blk_frozen BK201.out 1
          go_wp2_with (first | ((with_reducible refine gate_builtin (b := .append) (xs := #[.tmp 56, .tmp 58]) rfl ?_); at_builtin; refine Kd.R_append k37 (w0 := w) w.heap.size rfl (.tmp 56) (.tmp 58) 33 37 (.agg #[(.int .i64 0), (.int .i64 0)]) 16 rfl Try.underlying33 info37 rfl (by decide) (by omega) u3 x3_1 (⟨1, 1⟩ : S37) [.int .i64 1, .int .i64 1] (fun k_ => k_ ≠ gb201) (fun _ => False) rfl (by first | (go_simp; done) | (go_simp; rfl)) ?aP (fun _ hk => hk.elim) ?aF ?aO ?aB ?aS ?aL ?_; (case aP => exact k37_mkM _ _ _ (⟨1, 1⟩ : S37)); (case aB => exact (B1_)); (case aF => exact (fun k_ hk => Kd.freshB (g := gb201) (o := .cells #[.int .i64 1, .int .i64 1] 37 (0, 0)) (by (with_reducible repeat (first | refine blk_drewN ?_ _ | refine blk_drew ?_ | refine blk_alloc ?_ _)); refine blk_put (cs := #[.int .i64 1, .int .i64 a0_2]) ?_ 1 _ rfl; (with_reducible repeat (first | refine blk_drewN ?_ _ | refine blk_drew ?_ | refine blk_alloc ?_ _)); refine blk_put (cs := #[.int .i64 a0_1, .int .i64 a0_2]) ?_ 0 _ rfl; (with_reducible repeat (first | refine blk_drewN ?_ _ | refine blk_drew ?_ | refine blk_alloc ?_ _)); exact BK201.out) k_ hk)); (case aO => exact (by (with_reducible repeat (first | apply Kd.R_alloc | apply Kd.R_drewN | apply Kd.R_drew)); exact Kd.R_mono (Kd.R_far (p := ⟨gb201, 1, none⟩) (Kd.R_far (p := ⟨gb201, 0, none⟩) (Kd.R_mono HO_3.out (fun k_ hk => (⟨hk, hk⟩ : _ ∧ k_ ≠ gb201))) (fun _ hk => hk.2) (.int .i64 1)) (fun _ hk => hk.2) (.int .i64 1)) (fun _ hk => hk.1))); (case aS => exact (below_size (B1_))); (case aL => have := LMc17.out; omega); intro v203 w20 ho hb hg hat; rw [← Ny202.out] at ho; have n0_ := Aside0.mk (blk_grown (g := gb199) (o := .cells #[.int .i64 a0_0, .int .i64 a0_1, .int .i64 a0_2, .int .i64 a0_3, .slice A0_4 l0_4.length c0_4, .int .u64 a0_5] 27 (0, 0)) (by (with_reducible repeat (first | refine blk_drewN ?_ _ | refine blk_drew ?_ | refine blk_alloc ?_ _)); refine blk_far ?_ NB199_201.out _; (with_reducible repeat (first | refine blk_drewN ?_ _ | refine blk_drew ?_ | refine blk_alloc ?_ _)); refine blk_far ?_ NB199_201.out _; (with_reducible repeat (first | refine blk_drewN ?_ _ | refine blk_drew ?_ | refine blk_alloc ?_ _)); exact BK199.out) hg (Kd.R_ne HO_3.out BK199.out (by decide))); have n1_ := Aside0.mk (blk_grown (g := gb201) (o := .cells #[.int .i64 1, .int .i64 1] 37 (0, 0)) (by (with_reducible repeat (first | refine blk_drewN ?_ _ | refine blk_drew ?_ | refine blk_alloc ?_ _)); refine blk_put (cs := #[.int .i64 1, .int .i64 a0_2]) ?_ 1 _ rfl; (with_reducible repeat (first | refine blk_drewN ?_ _ | refine blk_drew ?_ | refine blk_alloc ?_ _)); refine blk_put (cs := #[.int .i64 a0_1, .int .i64 a0_2]) ?_ 0 _ rfl; (with_reducible repeat (first | refine blk_drewN ?_ _ | refine blk_drew ?_ | refine blk_alloc ?_ _)); exact BK201.out) hg (Kd.R_away HO_3.out (fun _ hk => hk))); have n2_ := Aside0.mk (hb); have n3_ := Aside0.mk (ho); clear BK199; clear BK201; clear HB; clear HO_3; have BK199 := n0_; have BK201 := n1_; have HB := n2_; have HO204 := n3_; clear n0_ n1_ n2_ n3_; clear ho hb hg hat))
          go_roundg kj7
          case measure => have := HK1.out; have := HJ7.out; omega
          case rel => exact ⟨(y202), (wrap64 (x4_1 + 1)), (by first | rfl | (simp; done) | (simp [*]; done)), H', ⟨by have := HK1.out; have := HJ7.out; omega⟩, ⟨by (with_reducible repeat (first | apply Kd.R_alloc | apply Kd.R_drewN | apply Kd.R_drew)); exact Kd.R_mono HO204.out (fun _ hk => trivial)⟩, ⟨by (with_reducible repeat (first | refine blk_drewN ?_ _ | refine blk_drew ?_ | refine blk_alloc ?_ _)); exact BK199.out⟩, ⟨B1_⟩⟩
         rw [if_neg c17] at H
         exact absurd H (by simp)
        rw [if_neg c16] at H
        have c16b0 : (x4_1 == 0) = false := beq_eq_false_iff_ne.mpr c16
        have c16b1 : (x4_1 != 0) = true := bne_iff_ne.mpr c16
        by_cases c21 : x3_1.length < 8796093022208
        ·rw [if_pos c21] at H
         have LMc21 := Aside0.mk c21
         clear c21
         obtain ⟨y205, hy205⟩ : ∃ y_ : List (S37), y_ = (x3_1 ++ [(⟨a0_1, a0_2⟩ : S37)]) := ⟨_, rfl⟩
         replace H : (lockstepref03_Takes.l0 kj7 y205 (wrap64 (x4_1 + 1)) a0_0 a0_1 a0_2 a0_3 l0_4 a0_5) = some r := by first | (rw [hy205]; with_reducible exact H) | (have H2_ := (Option.bind_some _ _).symm.trans H; rw [hy205]; with_reducible exact H2_) | (have H2_ := (Option.bind_some _ _).symm.trans H; with_reducible exact H2_) | with_reducible exact H | (rw [hy205]; exact H) | exact H
         have Ny205 := Aside0.mk hy205
         clear hy205
         have H' := Aside0.mk H
         clear H
         have hnb22 := NB201_199.out
         have hnc22 := NB199_201.out
         have hcz23_0 : wc.cell? ⟨gb201, 0, none⟩ = some (.int .i64 a0_1) := (blk_cell BK201.out 0).trans rfl
         have hcz23_1 : wc.cell? ⟨gb201, 1, none⟩ = some (.int .i64 a0_2) := (blk_cell BK201.out 1).trans rfl
         have hfz23_0 := blk_frozen BK201.out 0
         have hfz23_1 := blk_frozen BK201.out 1
         go_wp2_with (first | ((with_reducible refine gate_builtin (b := .append) (xs := #[.tmp 56, .tmp 58]) rfl ?_); at_builtin; refine Kd.R_append k37 (w0 := w) w.heap.size rfl (.tmp 56) (.tmp 58) 33 37 (.agg #[(.int .i64 0), (.int .i64 0)]) 16 rfl Try.underlying33 info37 rfl (by decide) (by omega) u3 x3_1 (⟨a0_1, a0_2⟩ : S37) [.int .i64 a0_1, .int .i64 a0_2] (fun k_ => k_ ≠ gb201) (fun _ => False) rfl rfl ?aP (fun _ hk => hk.elim) ?aF ?aO ?aB ?aS ?aL ?_; (case aP => exact k37_mkM _ _ _ (⟨a0_1, a0_2⟩ : S37)); (case aB => exact (B1_)); (case aF => exact (fun k_ hk => Kd.freshB (g := gb201) (o := .cells #[.int .i64 a0_1, .int .i64 a0_2] 37 (0, 0)) (by (with_reducible repeat (first | refine blk_drewN ?_ _ | refine blk_drew ?_ | refine blk_alloc ?_ _)); exact BK201.out) k_ hk)); (case aO => exact (by (with_reducible repeat (first | apply Kd.R_alloc | apply Kd.R_drewN | apply Kd.R_drew)); exact HO_3.out)); (case aS => exact (below_size (B1_))); (case aL => have := LMc21.out; omega); intro v206 w24 ho hb hg hat; rw [← Ny205.out] at ho; have n0_ := Aside0.mk (blk_grown (g := gb199) (o := .cells #[.int .i64 a0_0, .int .i64 a0_1, .int .i64 a0_2, .int .i64 a0_3, .slice A0_4 l0_4.length c0_4, .int .u64 a0_5] 27 (0, 0)) (by (with_reducible repeat (first | refine blk_drewN ?_ _ | refine blk_drew ?_ | refine blk_alloc ?_ _)); exact BK199.out) hg (Kd.R_ne HO_3.out BK199.out (by decide))); have n1_ := Aside0.mk (blk_grown (g := gb201) (o := .cells #[.int .i64 a0_1, .int .i64 a0_2] 37 (0, 0)) (by (with_reducible repeat (first | refine blk_drewN ?_ _ | refine blk_drew ?_ | refine blk_alloc ?_ _)); exact BK201.out) hg (Kd.R_away HO_3.out (fun _ hk => hk))); have n2_ := Aside0.mk (hb); have n3_ := Aside0.mk (ho); clear BK199; clear BK201; clear HB; clear HO_3; have BK199 := n0_; have BK201 := n1_; have HB := n2_; have HO207 := n3_; clear n0_ n1_ n2_ n3_; clear ho hb hg hat))
         go_roundg kj7
         case measure => have := HK1.out; have := HJ7.out; omega
         case rel => exact ⟨(y205), (wrap64 (x4_1 + 1)), (by first | rfl | (simp; done) | (simp [*]; done)), H', ⟨by have := HK1.out; have := HJ7.out; omega⟩, ⟨by (with_reducible repeat (first | apply Kd.R_alloc | apply Kd.R_drewN | apply Kd.R_drew)); exact Kd.R_mono HO207.out (fun _ hk => trivial)⟩, ⟨by (with_reducible repeat (first | refine blk_drewN ?_ _ | refine blk_drew ?_ | refine blk_alloc ?_ _)); exact BK199.out⟩, ⟨B1_⟩⟩
        rw [if_neg c21] at H
        exact absurd H (by simp)
       replace c15 := Bool.eq_false_iff.mpr c15
       subst c15
       have H1 : (if a0_0 = 14 then (lockstepref03_Takes.j2 kj7 x3_1 x4_1 a0_0 (a0_0 == 14) a0_0 a0_1 a0_2 a0_3 l0_4 a0_5 a0_1 a0_2) else (lockstepref03_Takes.j2 kj7 x3_1 x4_1 a0_0 (a0_0 == 15) a0_0 a0_1 a0_2 a0_3 l0_4 a0_5 a0_1 a0_2)) = some r := by rw [if_neg (show ¬ (false = true) by decide)] at H; exact H
       clear H
       have H := H1
       clear H1
       have HC25 := Aside0.mk H
       clear H
       go_upto_if 29 with (fail)
       go_cut [29] (fun v29 wc => ∃ (kq : Nat) (x29_24 : Bool), v29 = .bool x29_24 ∧ Aside0 (lockstepref03_Takes.j2 kq x3_1 x4_1 a0_0 x29_24 a0_0 a0_1 a0_2 a0_3 l0_4 a0_5 a0_1 a0_2 = some r) ∧ Aside0 (kq ≤ kj7) ∧ Aside0 (Kd.R k37 37 wc w.heap.size (fun k_ => k_ ≠ gb201) u3 x3_1) ∧ Aside0 (wc.heap[gb199]? = some (.cells #[.int .i64 a0_0, .int .i64 a0_1, .int .i64 a0_2, .int .i64 a0_3, (.slice A0_4 l0_4.length c0_4), .int .u64 a0_5] 27 (0, 0))) ∧ Aside0 (wc.heap[gb201]? = some (.cells #[.int .i64 a0_1, .int .i64 a0_2] 37 (0, 0))) ∧ Aside0 (Below w.heap.size w wc))
       case first =>
        have H := HC25.out
        clear HC25
        by_cases c26 : a0_0 = 14
        ·rw [if_pos c26] at H
         have c26b0 : (a0_0 == 14) = true := beq_iff_eq.mpr c26
         have c26b1 : (a0_0 != 14) = false := bne_eq_false_iff_eq.mpr c26
         clear c26
         (first | rw [c26b0] | (simp only [i64_w, i32_w]; rw [c26b0]) | skip)
         have H' := Aside0.mk H
         clear H
         go_wp2
         go_meet
         case rel => exact ⟨_, ((a0_0 == 14)), (by first | rfl | (simp; done) | (simp [*]; done)), H', ⟨by have := HK1.out; have := HJ7.out; first | omega | exact Nat.le_refl _⟩, ⟨by (with_reducible repeat (first | apply Kd.R_alloc | apply Kd.R_drewN | apply Kd.R_drew)); first | exact HO_3.out | exact Kd.R_mono HO_3.out (fun _ hk e_ => hk (e_.trans own_len))⟩, ⟨by (with_reducible repeat (first | refine blk_drewN ?_ _ | refine blk_drew ?_ | refine blk_alloc ?_ _)); exact BK199.out⟩, ⟨by (with_reducible repeat (first | refine blk_drewN ?_ _ | refine blk_drew ?_ | refine blk_alloc ?_ _)); exact BK201.out⟩, ⟨B1_⟩⟩
        rw [if_neg c26] at H
        have c26b0 : (a0_0 == 14) = false := beq_eq_false_iff_ne.mpr c26
        have c26b1 : (a0_0 != 14) = true := bne_iff_ne.mpr c26
        (first | rw [c26b0] | (simp only [i64_w, i32_w]; rw [c26b0]) | skip)
        have H' := Aside0.mk H
        clear H
        go_wp2
        go_meet
        case rel => exact ⟨_, ((a0_0 == 15)), (by first | rfl | (simp; done) | (simp [*]; done)), H', ⟨by have := HK1.out; have := HJ7.out; first | omega | exact Nat.le_refl _⟩, ⟨by (with_reducible repeat (first | apply Kd.R_alloc | apply Kd.R_drewN | apply Kd.R_drew)); first | exact HO_3.out | exact Kd.R_mono HO_3.out (fun _ hk e_ => hk (e_.trans own_len))⟩, ⟨by (with_reducible repeat (first | refine blk_drewN ?_ _ | refine blk_drew ?_ | refine blk_alloc ?_ _)); exact BK199.out⟩, ⟨by (with_reducible repeat (first | refine blk_drewN ?_ _ | refine blk_drew ?_ | refine blk_alloc ?_ _)); exact BK201.out⟩, ⟨B1_⟩⟩
       case rest =>
        clear HC25
        try clear c1
        try clear c2
        try clear p2
        try clear c3
        try clear p6
        try clear c7
        try clear c7b0
        try clear c11
        try clear c14
        try clear c14b0
        try clear c14b1
        try clear c15
        try clear c16
        try clear c16b0
        try clear c16b1
        try clear c17
        try clear c18
        try clear c21
        try clear c22
        try clear c26
        try clear c26b0
        try clear c26b1
        try clear hcz12_0
        try clear hcz12_1
        try clear hcz13_0
        try clear hcz13_1
        try clear hcz13_2
        try clear hcz13_3
        try clear hcz13_4
        try clear hcz13_5
        try clear hcz19_0
        try clear hcz19_1
        try clear hcz23_0
        try clear hcz23_1
        try clear hcz5_0
        try clear hcz5_1
        try clear hcz5_2
        try clear hcz5_3
        try clear hcz5_4
        try clear hcz5_5
        try clear hcz9_0
        try clear hcz9_1
        try clear hcz9_2
        try clear hcz9_3
        try clear hcz9_4
        try clear hcz9_5
        try clear hfz12_0
        try clear hfz12_1
        try clear hfz13_0
        try clear hfz13_1
        try clear hfz13_2
        try clear hfz13_3
        try clear hfz13_4
        try clear hfz13_5
        try clear hfz19_0
        try clear hfz19_1
        try clear hfz23_0
        try clear hfz23_1
        try clear hfz5_0
        try clear hfz5_1
        try clear hfz5_2
        try clear hfz5_3
        try clear hfz5_4
        try clear hfz5_5
        try clear hfz9_0
        try clear hfz9_1
        try clear hfz9_2
        try clear hfz9_3
        try clear hfz9_4
        try clear hfz9_5
        try clear p2
        obtain ⟨kq, x29_24, rfl, HA, HJ24, HO_3, BK199, BK201, HB⟩ := hcut
        cases kq with
        | zero => exact absurd HA.out (by simp [lockstepref03_Takes.j2])
        | succ kj24 =>
         have H := HA.out
         clear HA
         simp only [lockstepref03_Takes.j2] at H
         by_cases c27 : x29_24 = true
         ·subst c27
          have H1 : (if x3_1.length < 8796093022208 then (lockstepref03_Takes.l0 kj24 (x3_1 ++ [(⟨wrap64 (a0_5), 1⟩ : S37)]) (wrap64 (x4_1 + 1)) a0_0 a0_1 a0_2 a0_3 l0_4 a0_5) else (none)) = some r := by rw [if_pos rfl] at H; exact H
          clear H
          have H := H1
          clear H1
          by_cases c28 : x3_1.length < 8796093022208
          ·rw [if_pos c28] at H
           have LMc28 := Aside0.mk c28
           clear c28
           obtain ⟨y208, hy208⟩ : ∃ y_ : List (S37), y_ = (x3_1 ++ [(⟨wrap64 (a0_5), 1⟩ : S37)]) := ⟨_, rfl⟩
           replace H : (lockstepref03_Takes.l0 kj24 y208 (wrap64 (x4_1 + 1)) a0_0 a0_1 a0_2 a0_3 l0_4 a0_5) = some r := by first | (rw [hy208]; with_reducible exact H) | (have H2_ := (Option.bind_some _ _).symm.trans H; rw [hy208]; with_reducible exact H2_) | (have H2_ := (Option.bind_some _ _).symm.trans H; with_reducible exact H2_) | with_reducible exact H | (rw [hy208]; exact H) | exact H
           have Ny208 := Aside0.mk hy208
           clear hy208
           have H' := Aside0.mk H
           clear H
           have hnb29 := NB199_201.out
           have hnc29 := NB201_199.out
           have hcz30_0 : wc.cell? ⟨gb199, 0, none⟩ = some (.int .i64 a0_0) := (blk_cell BK199.out 0).trans rfl
           have hcz30_1 : wc.cell? ⟨gb199, 1, none⟩ = some (.int .i64 a0_1) := (blk_cell BK199.out 1).trans rfl
           have hcz30_2 : wc.cell? ⟨gb199, 2, none⟩ = some (.int .i64 a0_2) := (blk_cell BK199.out 2).trans rfl
           have hcz30_3 : wc.cell? ⟨gb199, 3, none⟩ = some (.int .i64 a0_3) := (blk_cell BK199.out 3).trans rfl
           have hcz30_4 : wc.cell? ⟨gb199, 4, none⟩ = some (.slice A0_4 l0_4.length c0_4) := (blk_cell BK199.out 4).trans rfl
           have hcz30_5 : wc.cell? ⟨gb199, 5, none⟩ = some (.int .u64 a0_5) := (blk_cell BK199.out 5).trans rfl
           have hfz30_0 := blk_frozen BK199.out 0
           have hfz30_1 := blk_frozen BK199.out 1
           have hfz30_2 := blk_frozen BK199.out 2
           have hfz30_3 := blk_frozen BK199.out 3
           have hfz30_4 := blk_frozen BK199.out 4
           have hfz30_5 := blk_frozen BK199.out 5
           have hcz31_0 : wc.cell? ⟨gb201, 0, none⟩ = some (.int .i64 a0_1) := (blk_cell BK201.out 0).trans rfl
           have hcz31_1 : wc.cell? ⟨gb201, 1, none⟩ = some (.int .i64 a0_2) := (blk_cell BK201.out 1).trans rfl
           have hfz31_0 := blk_frozen BK201.out 0
           have hfz31_1 := blk_frozen BK201.out 1
           go_wp2_with (first | ((with_reducible refine gate_builtin (b := .append) (xs := #[.tmp 56, .tmp 58]) rfl ?_); at_builtin; refine Kd.R_append k37 (w0 := w) w.heap.size rfl (.tmp 56) (.tmp 58) 33 37 (.agg #[(.int .i64 0), (.int .i64 0)]) 16 rfl Try.underlying33 info37 rfl (by decide) (by omega) u3 x3_1 (⟨wrap64 (a0_5), 1⟩ : S37) [.int .i64 (wrap64 (a0_5)), .int .i64 1] (fun k_ => k_ ≠ gb201) (fun _ => False) rfl (by first | (go_simp; done) | (go_simp; rfl)) ?aP (fun _ hk => hk.elim) ?aF ?aO ?aB ?aS ?aL ?_; (case aP => exact k37_mkM _ _ _ (⟨wrap64 (a0_5), 1⟩ : S37)); (case aB => exact (B1_)); (case aF => exact (fun k_ hk => Kd.freshB (g := gb201) (o := .cells #[.int .i64 (wrap64 (a0_5)), .int .i64 1] 37 (0, 0)) (by (with_reducible repeat (first | refine blk_drewN ?_ _ | refine blk_drew ?_ | refine blk_alloc ?_ _)); refine blk_put (cs := #[.int .i64 (wrap64 (a0_5)), .int .i64 a0_2]) ?_ 1 _ rfl; (with_reducible repeat (first | refine blk_drewN ?_ _ | refine blk_drew ?_ | refine blk_alloc ?_ _)); refine blk_put (cs := #[.int .i64 a0_1, .int .i64 a0_2]) ?_ 0 _ rfl; (with_reducible repeat (first | refine blk_drewN ?_ _ | refine blk_drew ?_ | refine blk_alloc ?_ _)); exact BK201.out) k_ hk)); (case aO => exact (by (with_reducible repeat (first | apply Kd.R_alloc | apply Kd.R_drewN | apply Kd.R_drew)); exact Kd.R_mono (Kd.R_far (p := ⟨gb201, 1, none⟩) (Kd.R_far (p := ⟨gb201, 0, none⟩) (Kd.R_mono HO_3.out (fun k_ hk => (⟨hk, hk⟩ : _ ∧ k_ ≠ gb201))) (fun _ hk => hk.2) (.int .i64 (wrap64 (a0_5)))) (fun _ hk => hk.2) (.int .i64 1)) (fun _ hk => hk.1))); (case aS => exact (below_size (B1_))); (case aL => have := LMc28.out; omega); intro v209 w32 ho hb hg hat; rw [← Ny208.out] at ho; have n0_ := Aside0.mk (blk_grown (g := gb199) (o := .cells #[.int .i64 a0_0, .int .i64 a0_1, .int .i64 a0_2, .int .i64 a0_3, .slice A0_4 l0_4.length c0_4, .int .u64 a0_5] 27 (0, 0)) (by (with_reducible repeat (first | refine blk_drewN ?_ _ | refine blk_drew ?_ | refine blk_alloc ?_ _)); refine blk_far ?_ NB199_201.out _; (with_reducible repeat (first | refine blk_drewN ?_ _ | refine blk_drew ?_ | refine blk_alloc ?_ _)); refine blk_far ?_ NB199_201.out _; (with_reducible repeat (first | refine blk_drewN ?_ _ | refine blk_drew ?_ | refine blk_alloc ?_ _)); exact BK199.out) hg (Kd.R_ne HO_3.out BK199.out (by decide))); have n1_ := Aside0.mk (blk_grown (g := gb201) (o := .cells #[.int .i64 (wrap64 (a0_5)), .int .i64 1] 37 (0, 0)) (by (with_reducible repeat (first | refine blk_drewN ?_ _ | refine blk_drew ?_ | refine blk_alloc ?_ _)); refine blk_put (cs := #[.int .i64 (wrap64 (a0_5)), .int .i64 a0_2]) ?_ 1 _ rfl; (with_reducible repeat (first | refine blk_drewN ?_ _ | refine blk_drew ?_ | refine blk_alloc ?_ _)); refine blk_put (cs := #[.int .i64 a0_1, .int .i64 a0_2]) ?_ 0 _ rfl; (with_reducible repeat (first | refine blk_drewN ?_ _ | refine blk_drew ?_ | refine blk_alloc ?_ _)); exact BK201.out) hg (Kd.R_away HO_3.out (fun _ hk => hk))); have n2_ := Aside0.mk (hb); have n3_ := Aside0.mk (ho); clear BK199; clear BK201; clear HB; clear HO_3; have BK199 := n0_; have BK201 := n1_; have HB := n2_; have HO210 := n3_; clear n0_ n1_ n2_ n3_; clear ho hb hg hat))
           go_roundg kj24
           case measure => have := HK1.out; have := HJ7.out; have := HJ24.out; omega
           case rel => exact ⟨(y208), (wrap64 (x4_1 + 1)), (by first | rfl | (simp; done) | (simp [*]; done)), H', ⟨by have := HK1.out; have := HJ7.out; have := HJ24.out; omega⟩, ⟨by (with_reducible repeat (first | apply Kd.R_alloc | apply Kd.R_drewN | apply Kd.R_drew)); exact Kd.R_mono HO210.out (fun _ hk => trivial)⟩, ⟨by (with_reducible repeat (first | refine blk_drewN ?_ _ | refine blk_drew ?_ | refine blk_alloc ?_ _)); exact BK199.out⟩, ⟨B1_⟩⟩
          rw [if_neg c28] at H
          exact absurd H (by simp)
         replace c27 := Bool.eq_false_iff.mpr c27
         subst c27
         have H1 : (if a0_0 = 16 then (lockstepref03_Takes.j3 kj24 x3_1 x4_1 a0_0 (a0_0 == 16) a0_0 a0_1 a0_2 a0_3 l0_4 a0_5 a0_1 a0_2) else (lockstepref03_Takes.j3 kj24 x3_1 x4_1 a0_0 (a0_0 == 17) a0_0 a0_1 a0_2 a0_3 l0_4 a0_5 a0_1 a0_2)) = some r := by rw [if_neg (show ¬ (false = true) by decide)] at H; exact H
         clear H
         have H := H1
         clear H1
         have HC33 := Aside0.mk H
         clear H
         go_upto_if 36 with (fail)
         go_cut [36] (fun v36 wc => ∃ (kq : Nat) (x36_32 : Bool), v36 = .bool x36_32 ∧ Aside0 (lockstepref03_Takes.j3 kq x3_1 x4_1 a0_0 x36_32 a0_0 a0_1 a0_2 a0_3 l0_4 a0_5 a0_1 a0_2 = some r) ∧ Aside0 (kq ≤ kj24) ∧ Aside0 (Kd.R k37 37 wc w.heap.size (fun k_ => k_ ≠ gb201) u3 x3_1) ∧ Aside0 (wc.heap[gb199]? = some (.cells #[.int .i64 a0_0, .int .i64 a0_1, .int .i64 a0_2, .int .i64 a0_3, (.slice A0_4 l0_4.length c0_4), .int .u64 a0_5] 27 (0, 0))) ∧ Aside0 (wc.heap[gb201]? = some (.cells #[.int .i64 a0_1, .int .i64 a0_2] 37 (0, 0))) ∧ Aside0 (Below w.heap.size w wc))
         case first =>
          have H := HC33.out
          clear HC33
          by_cases c34 : a0_0 = 16
          ·rw [if_pos c34] at H
           have c34b0 : (a0_0 == 16) = true := beq_iff_eq.mpr c34
           have c34b1 : (a0_0 != 16) = false := bne_eq_false_iff_eq.mpr c34
           clear c34
           (first | rw [c34b0] | (simp only [i64_w, i32_w]; rw [c34b0]) | skip)
           have H' := Aside0.mk H
           clear H
           go_wp2
           go_meet
           case rel => exact ⟨_, ((a0_0 == 16)), (by first | rfl | (simp; done) | (simp [*]; done)), H', ⟨by have := HK1.out; have := HJ7.out; have := HJ24.out; first | omega | exact Nat.le_refl _⟩, ⟨by (with_reducible repeat (first | apply Kd.R_alloc | apply Kd.R_drewN | apply Kd.R_drew)); first | exact HO_3.out | exact Kd.R_mono HO_3.out (fun _ hk e_ => hk (e_.trans own_len))⟩, ⟨by (with_reducible repeat (first | refine blk_drewN ?_ _ | refine blk_drew ?_ | refine blk_alloc ?_ _)); exact BK199.out⟩, ⟨by (with_reducible repeat (first | refine blk_drewN ?_ _ | refine blk_drew ?_ | refine blk_alloc ?_ _)); exact BK201.out⟩, ⟨B1_⟩⟩
          rw [if_neg c34] at H
          have c34b0 : (a0_0 == 16) = false := beq_eq_false_iff_ne.mpr c34
          have c34b1 : (a0_0 != 16) = true := bne_iff_ne.mpr c34
          (first | rw [c34b0] | (simp only [i64_w, i32_w]; rw [c34b0]) | skip)
          have H' := Aside0.mk H
          clear H
          go_wp2
          go_meet
          case rel => exact ⟨_, ((a0_0 == 17)), (by first | rfl | (simp; done) | (simp [*]; done)), H', ⟨by have := HK1.out; have := HJ7.out; have := HJ24.out; first | omega | exact Nat.le_refl _⟩, ⟨by (with_reducible repeat (first | apply Kd.R_alloc | apply Kd.R_drewN | apply Kd.R_drew)); first | exact HO_3.out | exact Kd.R_mono HO_3.out (fun _ hk e_ => hk (e_.trans own_len))⟩, ⟨by (with_reducible repeat (first | refine blk_drewN ?_ _ | refine blk_drew ?_ | refine blk_alloc ?_ _)); exact BK199.out⟩, ⟨by (with_reducible repeat (first | refine blk_drewN ?_ _ | refine blk_drew ?_ | refine blk_alloc ?_ _)); exact BK201.out⟩, ⟨B1_⟩⟩
         case rest =>
          clear HC33
          try clear c1
          try clear c2
          try clear p2
          try clear c3
          try clear p6
          try clear c7
          try clear c7b0
          try clear c11
          try clear c14
          try clear c14b0
          try clear c14b1
          try clear c15
          try clear c16
          try clear c16b0
          try clear c16b1
          try clear c17
          try clear c18
          try clear c21
          try clear c22
          try clear c26
          try clear c26b0
          try clear c26b1
          try clear c27
          try clear c28
          try clear c29
          try clear c34
          try clear c34b0
          try clear c34b1
          try clear hcz12_0
          try clear hcz12_1
          try clear hcz13_0
          try clear hcz13_1
          try clear hcz13_2
          try clear hcz13_3
          try clear hcz13_4
          try clear hcz13_5
          try clear hcz19_0
          try clear hcz19_1
          try clear hcz23_0
          try clear hcz23_1
          try clear hcz30_0
          try clear hcz30_1
          try clear hcz30_2
          try clear hcz30_3
          try clear hcz30_4
          try clear hcz30_5
          try clear hcz31_0
          try clear hcz31_1
          try clear hcz5_0
          try clear hcz5_1
          try clear hcz5_2
          try clear hcz5_3
          try clear hcz5_4
          try clear hcz5_5
          try clear hcz9_0
          try clear hcz9_1
          try clear hcz9_2
          try clear hcz9_3
          try clear hcz9_4
          try clear hcz9_5
          try clear hfz12_0
          try clear hfz12_1
          try clear hfz13_0
          try clear hfz13_1
          try clear hfz13_2
          try clear hfz13_3
          try clear hfz13_4
          try clear hfz13_5
          try clear hfz19_0
          try clear hfz19_1
          try clear hfz23_0
          try clear hfz23_1
          try clear hfz30_0
          try clear hfz30_1
          try clear hfz30_2
          try clear hfz30_3
          try clear hfz30_4
          try clear hfz30_5
          try clear hfz31_0
          try clear hfz31_1
          try clear hfz5_0
          try clear hfz5_1
          try clear hfz5_2
          try clear hfz5_3
          try clear hfz5_4
          try clear hfz5_5
          try clear hfz9_0
          try clear hfz9_1
          try clear hfz9_2
          try clear hfz9_3
          try clear hfz9_4
          try clear hfz9_5
          try clear p2
          try clear p6
          obtain ⟨kq, x36_32, rfl, HA, HJ32, HO_3, BK199, BK201, HB⟩ := hcut
          cases kq with
          | zero => exact absurd HA.out (by simp [lockstepref03_Takes.j3])
          | succ kj32 =>
           have H := HA.out
           clear HA
           simp only [lockstepref03_Takes.j3] at H
           by_cases c35 : x36_32 = true
           ·subst c35
            have H1 : (if x4_1 = 0 then (if x3_1.length < 8796093022208 then (lockstepref03_Takes.l0 kj32 (x3_1 ++ [(⟨64, 1⟩ : S37)]) (wrap64 (x4_1 + 1)) a0_0 a0_1 a0_2 a0_3 l0_4 a0_5) else (none)) else (if x3_1.length < 8796093022208 then (lockstepref03_Takes.l0 kj32 (x3_1 ++ [(⟨a0_1, a0_2⟩ : S37)]) (wrap64 (x4_1 + 1)) a0_0 a0_1 a0_2 a0_3 l0_4 a0_5) else (none))) = some r := by rw [if_pos rfl] at H; exact H
            clear H
            have H := H1
            clear H1
            by_cases c36 : x4_1 = 0
            ·rw [if_pos c36] at H
             have c36b0 : (x4_1 == 0) = true := beq_iff_eq.mpr c36
             have c36b1 : (x4_1 != 0) = false := bne_eq_false_iff_eq.mpr c36
             clear c36
             by_cases c37 : x3_1.length < 8796093022208
             ·rw [if_pos c37] at H
              have LMc37 := Aside0.mk c37
              clear c37
              obtain ⟨y211, hy211⟩ : ∃ y_ : List (S37), y_ = (x3_1 ++ [(⟨64, 1⟩ : S37)]) := ⟨_, rfl⟩
              replace H : (lockstepref03_Takes.l0 kj32 y211 (wrap64 (x4_1 + 1)) a0_0 a0_1 a0_2 a0_3 l0_4 a0_5) = some r := by first | (rw [hy211]; with_reducible exact H) | (have H2_ := (Option.bind_some _ _).symm.trans H; rw [hy211]; with_reducible exact H2_) | (have H2_ := (Option.bind_some _ _).symm.trans H; with_reducible exact H2_) | with_reducible exact H | (rw [hy211]; exact H) | exact H
              have Ny211 := Aside0.mk hy211
              clear hy211
              have H' := Aside0.mk H
              clear H
              have hnb38 := NB201_199.out
              have hnc38 := NB199_201.out
              have hcz39_0 : wc.cell? ⟨gb201, 0, none⟩ = some (.int .i64 a0_1) := (blk_cell BK201.out 0).trans rfl
              have hcz39_1 : wc.cell? ⟨gb201, 1, none⟩ = some (.int .i64 a0_2) := (blk_cell BK201.out 1).trans rfl
              have hfz39_0 := blk_frozen BK201.out 0
              have hfz39_1 := blk_frozen BK201.out 1
              go_wp2_with (first | ((with_reducible refine gate_builtin (b := .append) (xs := #[.tmp 56, .tmp 58]) rfl ?_); at_builtin; refine Kd.R_append k37 (w0 := w) w.heap.size rfl (.tmp 56) (.tmp 58) 33 37 (.agg #[(.int .i64 0), (.int .i64 0)]) 16 rfl Try.underlying33 info37 rfl (by decide) (by omega) u3 x3_1 (⟨64, 1⟩ : S37) [.int .i64 64, .int .i64 1] (fun k_ => k_ ≠ gb201) (fun _ => False) rfl (by first | (go_simp; done) | (go_simp; rfl)) ?aP (fun _ hk => hk.elim) ?aF ?aO ?aB ?aS ?aL ?_; (case aP => exact k37_mkM _ _ _ (⟨64, 1⟩ : S37)); (case aB => exact (B1_)); (case aF => exact (fun k_ hk => Kd.freshB (g := gb201) (o := .cells #[.int .i64 64, .int .i64 1] 37 (0, 0)) (by (with_reducible repeat (first | refine blk_drewN ?_ _ | refine blk_drew ?_ | refine blk_alloc ?_ _)); refine blk_put (cs := #[.int .i64 64, .int .i64 a0_2]) ?_ 1 _ rfl; (with_reducible repeat (first | refine blk_drewN ?_ _ | refine blk_drew ?_ | refine blk_alloc ?_ _)); refine blk_put (cs := #[.int .i64 a0_1, .int .i64 a0_2]) ?_ 0 _ rfl; (with_reducible repeat (first | refine blk_drewN ?_ _ | refine blk_drew ?_ | refine blk_alloc ?_ _)); exact BK201.out) k_ hk)); (case aO => exact (by (with_reducible repeat (first | apply Kd.R_alloc | apply Kd.R_drewN | apply Kd.R_drew)); exact Kd.R_mono (Kd.R_far (p := ⟨gb201, 1, none⟩) (Kd.R_far (p := ⟨gb201, 0, none⟩) (Kd.R_mono HO_3.out (fun k_ hk => (⟨hk, hk⟩ : _ ∧ k_ ≠ gb201))) (fun _ hk => hk.2) (.int .i64 64)) (fun _ hk => hk.2) (.int .i64 1)) (fun _ hk => hk.1))); (case aS => exact (below_size (B1_))); (case aL => have := LMc37.out; omega); intro v212 w40 ho hb hg hat; rw [← Ny211.out] at ho; have n0_ := Aside0.mk (blk_grown (g := gb199) (o := .cells #[.int .i64 a0_0, .int .i64 a0_1, .int .i64 a0_2, .int .i64 a0_3, .slice A0_4 l0_4.length c0_4, .int .u64 a0_5] 27 (0, 0)) (by (with_reducible repeat (first | refine blk_drewN ?_ _ | refine blk_drew ?_ | refine blk_alloc ?_ _)); refine blk_far ?_ NB199_201.out _; (with_reducible repeat (first | refine blk_drewN ?_ _ | refine blk_drew ?_ | refine blk_alloc ?_ _)); refine blk_far ?_ NB199_201.out _; (with_reducible repeat (first | refine blk_drewN ?_ _ | refine blk_drew ?_ | refine blk_alloc ?_ _)); exact BK199.out) hg (Kd.R_ne HO_3.out BK199.out (by decide))); have n1_ := Aside0.mk (blk_grown (g := gb201) (o := .cells #[.int .i64 64, .int .i64 1] 37 (0, 0)) (by (with_reducible repeat (first | refine blk_drewN ?_ _ | refine blk_drew ?_ | refine blk_alloc ?_ _)); refine blk_put (cs := #[.int .i64 64, .int .i64 a0_2]) ?_ 1 _ rfl; (with_reducible repeat (first | refine blk_drewN ?_ _ | refine blk_drew ?_ | refine blk_alloc ?_ _)); refine blk_put (cs := #[.int .i64 a0_1, .int .i64 a0_2]) ?_ 0 _ rfl; (with_reducible repeat (first | refine blk_drewN ?_ _ | refine blk_drew ?_ | refine blk_alloc ?_ _)); exact BK201.out) hg (Kd.R_away HO_3.out (fun _ hk => hk))); have n2_ := Aside0.mk (hb); have n3_ := Aside0.mk (ho); clear BK199; clear BK201; clear HB; clear HO_3; have BK199 := n0_; have BK201 := n1_; have HB := n2_; have HO213 := n3_; clear n0_ n1_ n2_ n3_; clear ho hb hg hat))
              go_roundg kj32
              case measure => have := HK1.out; have := HJ7.out; have := HJ24.out; have := HJ32.out; omega
              case rel => exact ⟨(y211), (wrap64 (x4_1 + 1)), (by first | rfl | (simp; done) | (simp [*]; done)), H', ⟨by have := HK1.out; have := HJ7.out; have := HJ24.out; have := HJ32.out; omega⟩, ⟨by (with_reducible repeat (first | apply Kd.R_alloc | apply Kd.R_drewN | apply Kd.R_drew)); exact Kd.R_mono HO213.out (fun _ hk => trivial)⟩, ⟨by (with_reducible repeat (first | refine blk_drewN ?_ _ | refine blk_drew ?_ | refine blk_alloc ?_ _)); exact BK199.out⟩, ⟨B1_⟩⟩
             rw [if_neg c37] at H
             exact absurd H (by simp)
            rw [if_neg c36] at H
            have c36b0 : (x4_1 == 0) = false := beq_eq_false_iff_ne.mpr c36
            have c36b1 : (x4_1 != 0) = true := bne_iff_ne.mpr c36
            by_cases c41 : x3_1.length < 8796093022208
            ·rw [if_pos c41] at H
             have LMc41 := Aside0.mk c41
             clear c41
             obtain ⟨y214, hy214⟩ : ∃ y_ : List (S37), y_ = (x3_1 ++ [(⟨a0_1, a0_2⟩ : S37)]) := ⟨_, rfl⟩
             replace H : (lockstepref03_Takes.l0 kj32 y214 (wrap64 (x4_1 + 1)) a0_0 a0_1 a0_2 a0_3 l0_4 a0_5) = some r := by first | (rw [hy214]; with_reducible exact H) | (have H2_ := (Option.bind_some _ _).symm.trans H; rw [hy214]; with_reducible exact H2_) | (have H2_ := (Option.bind_some _ _).symm.trans H; with_reducible exact H2_) | with_reducible exact H | (rw [hy214]; exact H) | exact H
             have Ny214 := Aside0.mk hy214
             clear hy214
             have H' := Aside0.mk H
             clear H
             have hnb42 := NB201_199.out
             have hnc42 := NB199_201.out
             have hcz43_0 : wc.cell? ⟨gb201, 0, none⟩ = some (.int .i64 a0_1) := (blk_cell BK201.out 0).trans rfl
             have hcz43_1 : wc.cell? ⟨gb201, 1, none⟩ = some (.int .i64 a0_2) := (blk_cell BK201.out 1).trans rfl
             have hfz43_0 := blk_frozen BK201.out 0
             have hfz43_1 := blk_frozen BK201.out 1
             go_wp2_with (first | ((with_reducible refine gate_builtin (b := .append) (xs := #[.tmp 56, .tmp 58]) rfl ?_); at_builtin; refine Kd.R_append k37 (w0 := w) w.heap.size rfl (.tmp 56) (.tmp 58) 33 37 (.agg #[(.int .i64 0), (.int .i64 0)]) 16 rfl Try.underlying33 info37 rfl (by decide) (by omega) u3 x3_1 (⟨a0_1, a0_2⟩ : S37) [.int .i64 a0_1, .int .i64 a0_2] (fun k_ => k_ ≠ gb201) (fun _ => False) rfl rfl ?aP (fun _ hk => hk.elim) ?aF ?aO ?aB ?aS ?aL ?_; (case aP => exact k37_mkM _ _ _ (⟨a0_1, a0_2⟩ : S37)); (case aB => exact (B1_)); (case aF => exact (fun k_ hk => Kd.freshB (g := gb201) (o := .cells #[.int .i64 a0_1, .int .i64 a0_2] 37 (0, 0)) (by (with_reducible repeat (first | refine blk_drewN ?_ _ | refine blk_drew ?_ | refine blk_alloc ?_ _)); exact BK201.out) k_ hk)); (case aO => exact (by (with_reducible repeat (first | apply Kd.R_alloc | apply Kd.R_drewN | apply Kd.R_drew)); exact HO_3.out)); (case aS => exact (below_size (B1_))); (case aL => have := LMc41.out; omega); intro v215 w44 ho hb hg hat; rw [← Ny214.out] at ho; have n0_ := Aside0.mk (blk_grown (g := gb199) (o := .cells #[.int .i64 a0_0, .int .i64 a0_1, .int .i64 a0_2, .int .i64 a0_3, .slice A0_4 l0_4.length c0_4, .int .u64 a0_5] 27 (0, 0)) (by (with_reducible repeat (first | refine blk_drewN ?_ _ | refine blk_drew ?_ | refine blk_alloc ?_ _)); exact BK199.out) hg (Kd.R_ne HO_3.out BK199.out (by decide))); have n1_ := Aside0.mk (blk_grown (g := gb201) (o := .cells #[.int .i64 a0_1, .int .i64 a0_2] 37 (0, 0)) (by (with_reducible repeat (first | refine blk_drewN ?_ _ | refine blk_drew ?_ | refine blk_alloc ?_ _)); exact BK201.out) hg (Kd.R_away HO_3.out (fun _ hk => hk))); have n2_ := Aside0.mk (hb); have n3_ := Aside0.mk (ho); clear BK199; clear BK201; clear HB; clear HO_3; have BK199 := n0_; have BK201 := n1_; have HB := n2_; have HO216 := n3_; clear n0_ n1_ n2_ n3_; clear ho hb hg hat))
             go_roundg kj32
             case measure => have := HK1.out; have := HJ7.out; have := HJ24.out; have := HJ32.out; omega
             case rel => exact ⟨(y214), (wrap64 (x4_1 + 1)), (by first | rfl | (simp; done) | (simp [*]; done)), H', ⟨by have := HK1.out; have := HJ7.out; have := HJ24.out; have := HJ32.out; omega⟩, ⟨by (with_reducible repeat (first | apply Kd.R_alloc | apply Kd.R_drewN | apply Kd.R_drew)); exact Kd.R_mono HO216.out (fun _ hk => trivial)⟩, ⟨by (with_reducible repeat (first | refine blk_drewN ?_ _ | refine blk_drew ?_ | refine blk_alloc ?_ _)); exact BK199.out⟩, ⟨B1_⟩⟩
            rw [if_neg c41] at H
            exact absurd H (by simp)
           replace c35 := Bool.eq_false_iff.mpr c35
           subst c35
           have H1 : (if a0_0 = 18 then (lockstepref03_Takes.j4 kj32 x3_1 x4_1 a0_0 (a0_0 == 18) a0_0 a0_1 a0_2 a0_3 l0_4 a0_5 a0_1 a0_2) else (lockstepref03_Takes.j4 kj32 x3_1 x4_1 a0_0 (a0_0 == 19) a0_0 a0_1 a0_2 a0_3 l0_4 a0_5 a0_1 a0_2)) = some r := by rw [if_neg (show ¬ (false = true) by decide)] at H; exact H
           clear H
           have H := H1
           clear H1
           have HC45 := Aside0.mk H
           clear H
           go_upto_if 42 with (fail)
           go_cut [42] (fun v42 wc => ∃ (kq : Nat) (x42_44 : Bool), v42 = .bool x42_44 ∧ Aside0 (lockstepref03_Takes.j4 kq x3_1 x4_1 a0_0 x42_44 a0_0 a0_1 a0_2 a0_3 l0_4 a0_5 a0_1 a0_2 = some r) ∧ Aside0 (kq ≤ kj32) ∧ Aside0 (Kd.R k37 37 wc w.heap.size (fun k_ => k_ ≠ gb201) u3 x3_1) ∧ Aside0 (wc.heap[gb199]? = some (.cells #[.int .i64 a0_0, .int .i64 a0_1, .int .i64 a0_2, .int .i64 a0_3, (.slice A0_4 l0_4.length c0_4), .int .u64 a0_5] 27 (0, 0))) ∧ Aside0 (wc.heap[gb201]? = some (.cells #[.int .i64 a0_1, .int .i64 a0_2] 37 (0, 0))) ∧ Aside0 (Below w.heap.size w wc))
           case first =>
            have H := HC45.out
            clear HC45
            by_cases c46 : a0_0 = 18
            ·rw [if_pos c46] at H
             have c46b0 : (a0_0 == 18) = true := beq_iff_eq.mpr c46
             have c46b1 : (a0_0 != 18) = false := bne_eq_false_iff_eq.mpr c46
             clear c46
             (first | rw [c46b0] | (simp only [i64_w, i32_w]; rw [c46b0]) | skip)
             have H' := Aside0.mk H
             clear H
             go_wp2
             go_meet
             case rel => exact ⟨_, ((a0_0 == 18)), (by first | rfl | (simp; done) | (simp [*]; done)), H', ⟨by have := HK1.out; have := HJ7.out; have := HJ24.out; have := HJ32.out; first | omega | exact Nat.le_refl _⟩, ⟨by (with_reducible repeat (first | apply Kd.R_alloc | apply Kd.R_drewN | apply Kd.R_drew)); first | exact HO_3.out | exact Kd.R_mono HO_3.out (fun _ hk e_ => hk (e_.trans own_len))⟩, ⟨by (with_reducible repeat (first | refine blk_drewN ?_ _ | refine blk_drew ?_ | refine blk_alloc ?_ _)); exact BK199.out⟩, ⟨by (with_reducible repeat (first | refine blk_drewN ?_ _ | refine blk_drew ?_ | refine blk_alloc ?_ _)); exact BK201.out⟩, ⟨B1_⟩⟩
            rw [if_neg c46] at H
            have c46b0 : (a0_0 == 18) = false := beq_eq_false_iff_ne.mpr c46
            have c46b1 : (a0_0 != 18) = true := bne_iff_ne.mpr c46
            (first | rw [c46b0] | (simp only [i64_w, i32_w]; rw [c46b0]) | skip)
            have H' := Aside0.mk H
            clear H
            go_wp2
            go_meet
            case rel => exact ⟨_, ((a0_0 == 19)), (by first | rfl | (simp; done) | (simp [*]; done)), H', ⟨by have := HK1.out; have := HJ7.out; have := HJ24.out; have := HJ32.out; first | omega | exact Nat.le_refl _⟩, ⟨by (with_reducible repeat (first | apply Kd.R_alloc | apply Kd.R_drewN | apply Kd.R_drew)); first | exact HO_3.out | exact Kd.R_mono HO_3.out (fun _ hk e_ => hk (e_.trans own_len))⟩, ⟨by (with_reducible repeat (first | refine blk_drewN ?_ _ | refine blk_drew ?_ | refine blk_alloc ?_ _)); exact BK199.out⟩, ⟨by (with_reducible repeat (first | refine blk_drewN ?_ _ | refine blk_drew ?_ | refine blk_alloc ?_ _)); exact BK201.out⟩, ⟨B1_⟩⟩
           case rest =>
            clear HC45
            try clear c1
            try clear c2
            try clear p2
            try clear c3
            try clear c4
            try clear p6
            try clear c7
            try clear c7b0
            try clear c11
            try clear c14
            try clear c14b0
            try clear c14b1
            try clear c15
            try clear c16
            try clear c16b0
            try clear c16b1
            try clear c17
            try clear c18
            try clear c21
            try clear c22
            try clear c26
            try clear c26b0
            try clear c26b1
            try clear c27
            try clear c28
            try clear c29
            try clear c34
            try clear c34b0
            try clear c34b1
            try clear c35
            try clear c36
            try clear c36b0
            try clear c36b1
            try clear c37
            try clear c38
            try clear c41
            try clear c42
            try clear c46
            try clear c46b0
            try clear c46b1
            try clear hcz12_0
            try clear hcz12_1
            try clear hcz13_0
            try clear hcz13_1
            try clear hcz13_2
            try clear hcz13_3
            try clear hcz13_4
            try clear hcz13_5
            try clear hcz19_0
            try clear hcz19_1
            try clear hcz23_0
            try clear hcz23_1
            try clear hcz30_0
            try clear hcz30_1
            try clear hcz30_2
            try clear hcz30_3
            try clear hcz30_4
            try clear hcz30_5
            try clear hcz31_0
            try clear hcz31_1
            try clear hcz39_0
            try clear hcz39_1
            try clear hcz43_0
            try clear hcz43_1
            try clear hcz5_0
            try clear hcz5_1
            try clear hcz5_2
            try clear hcz5_3
            try clear hcz5_4
            try clear hcz5_5
            try clear hcz9_0
            try clear hcz9_1
            try clear hcz9_2
            try clear hcz9_3
            try clear hcz9_4
            try clear hcz9_5
            try clear hfz12_0
            try clear hfz12_1
            try clear hfz13_0
            try clear hfz13_1
            try clear hfz13_2
            try clear hfz13_3
            try clear hfz13_4
            try clear hfz13_5
            try clear hfz19_0
            try clear hfz19_1
            try clear hfz23_0
            try clear hfz23_1
            try clear hfz30_0
            try clear hfz30_1
            try clear hfz30_2
            try clear hfz30_3
            try clear hfz30_4
            try clear hfz30_5
            try clear hfz31_0
            try clear hfz31_1
            try clear hfz39_0
            try clear hfz39_1
            try clear hfz43_0
            try clear hfz43_1
            try clear hfz5_0
            try clear hfz5_1
            try clear hfz5_2
            try clear hfz5_3
            try clear hfz5_4
            try clear hfz5_5
            try clear hfz9_0
            try clear hfz9_1
            try clear hfz9_2
            try clear hfz9_3
            try clear hfz9_4
            try clear hfz9_5
            try clear p2
            try clear p6
            obtain ⟨kq, x42_44, rfl, HA, HJ44, HO_3, BK199, BK201, HB⟩ := hcut
            cases kq with
            | zero => exact absurd HA.out (by simp [lockstepref03_Takes.j4])
            | succ kj44 =>
             have H := HA.out
             clear HA
             simp only [lockstepref03_Takes.j4] at H
             by_cases c47 : x42_44 = true
             ·subst c47
              have H1 : (if x4_1 = 0 then (if x4_1 = 1 then (if x3_1.length < 8796093022208 then (lockstepref03_Takes.l0 kj44 (x3_1 ++ [(⟨64, 1⟩ : S37)]) (wrap64 (x4_1 + 1)) a0_0 a0_1 a0_2 a0_3 l0_4 a0_5) else (none)) else (if x3_1.length < 8796093022208 then (lockstepref03_Takes.l0 kj44 (x3_1 ++ [(⟨1, 1⟩ : S37)]) (wrap64 (x4_1 + 1)) a0_0 a0_1 a0_2 a0_3 l0_4 a0_5) else (none))) else (if x4_1 = 1 then (if x3_1.length < 8796093022208 then (lockstepref03_Takes.l0 kj44 (x3_1 ++ [(⟨64, 1⟩ : S37)]) (wrap64 (x4_1 + 1)) a0_0 a0_1 a0_2 a0_3 l0_4 a0_5) else (none)) else (if x3_1.length < 8796093022208 then (lockstepref03_Takes.l0 kj44 (x3_1 ++ [(⟨a0_1, a0_2⟩ : S37)]) (wrap64 (x4_1 + 1)) a0_0 a0_1 a0_2 a0_3 l0_4 a0_5) else (none)))) = some r := by rw [if_pos rfl] at H; exact H
              clear H
              have H := H1
              clear H1
              by_cases c48 : x4_1 = 0
              ·rw [if_pos c48] at H
               have c48b0 : (x4_1 == 0) = true := beq_iff_eq.mpr c48
               have c48b1 : (x4_1 != 0) = false := bne_eq_false_iff_eq.mpr c48
               clear c48
               by_cases c49 : x4_1 = 1
               ·exact absurd (beq_iff_eq.mp c48b0) (by rw [c49]; decide)
               rw [if_neg c49] at H
               have c49b0 : (x4_1 == 1) = false := beq_eq_false_iff_ne.mpr c49
               have c49b1 : (x4_1 != 1) = true := bne_iff_ne.mpr c49
               by_cases c54 : x3_1.length < 8796093022208
               ·rw [if_pos c54] at H
                have LMc54 := Aside0.mk c54
                clear c54
                obtain ⟨y220, hy220⟩ : ∃ y_ : List (S37), y_ = (x3_1 ++ [(⟨1, 1⟩ : S37)]) := ⟨_, rfl⟩
                replace H : (lockstepref03_Takes.l0 kj44 y220 (wrap64 (x4_1 + 1)) a0_0 a0_1 a0_2 a0_3 l0_4 a0_5) = some r := by first | (rw [hy220]; with_reducible exact H) | (have H2_ := (Option.bind_some _ _).symm.trans H; rw [hy220]; with_reducible exact H2_) | (have H2_ := (Option.bind_some _ _).symm.trans H; with_reducible exact H2_) | with_reducible exact H | (rw [hy220]; exact H) | exact H
                have Ny220 := Aside0.mk hy220
                clear hy220
                have H' := Aside0.mk H
                clear H
                have hnb55 := NB201_199.out
                have hnc55 := NB199_201.out
                have hcz56_0 : wc.cell? ⟨gb201, 0, none⟩ = some (.int .i64 a0_1) := (blk_cell BK201.out 0).trans rfl
                have hcz56_1 : wc.cell? ⟨gb201, 1, none⟩ = some (.int .i64 a0_2) := (blk_cell BK201.out 1).trans rfl
                have hfz56_0 := blk_frozen BK201.out 0
                have hfz56_1 := blk_frozen BK201.out 1
                go_wp2_with (first | ((with_reducible refine gate_builtin (b := .append) (xs := #[.tmp 56, .tmp 58]) rfl ?_); at_builtin; refine Kd.R_append k37 (w0 := w) w.heap.size rfl (.tmp 56) (.tmp 58) 33 37 (.agg #[(.int .i64 0), (.int .i64 0)]) 16 rfl Try.underlying33 info37 rfl (by decide) (by omega) u3 x3_1 (⟨1, 1⟩ : S37) [.int .i64 1, .int .i64 1] (fun k_ => k_ ≠ gb201) (fun _ => False) rfl (by first | (go_simp; done) | (go_simp; rfl)) ?aP (fun _ hk => hk.elim) ?aF ?aO ?aB ?aS ?aL ?_; (case aP => exact k37_mkM _ _ _ (⟨1, 1⟩ : S37)); (case aB => exact (B1_)); (case aF => exact (fun k_ hk => Kd.freshB (g := gb201) (o := .cells #[.int .i64 1, .int .i64 1] 37 (0, 0)) (by (with_reducible repeat (first | refine blk_drewN ?_ _ | refine blk_drew ?_ | refine blk_alloc ?_ _)); refine blk_put (cs := #[.int .i64 1, .int .i64 a0_2]) ?_ 1 _ rfl; (with_reducible repeat (first | refine blk_drewN ?_ _ | refine blk_drew ?_ | refine blk_alloc ?_ _)); refine blk_put (cs := #[.int .i64 a0_1, .int .i64 a0_2]) ?_ 0 _ rfl; (with_reducible repeat (first | refine blk_drewN ?_ _ | refine blk_drew ?_ | refine blk_alloc ?_ _)); exact BK201.out) k_ hk)); (case aO => exact (by (with_reducible repeat (first | apply Kd.R_alloc | apply Kd.R_drewN | apply Kd.R_drew)); exact Kd.R_mono (Kd.R_far (p := ⟨gb201, 1, none⟩) (Kd.R_far (p := ⟨gb201, 0, none⟩) (Kd.R_mono HO_3.out (fun k_ hk => (⟨hk, hk⟩ : _ ∧ k_ ≠ gb201))) (fun _ hk => hk.2) (.int .i64 1)) (fun _ hk => hk.2) (.int .i64 1)) (fun _ hk => hk.1))); (case aS => exact (below_size (B1_))); (case aL => have := LMc54.out; omega); intro v221 w57 ho hb hg hat; rw [← Ny220.out] at ho; have n0_ := Aside0.mk (blk_grown (g := gb199) (o := .cells #[.int .i64 a0_0, .int .i64 a0_1, .int .i64 a0_2, .int .i64 a0_3, .slice A0_4 l0_4.length c0_4, .int .u64 a0_5] 27 (0, 0)) (by (with_reducible repeat (first | refine blk_drewN ?_ _ | refine blk_drew ?_ | refine blk_alloc ?_ _)); refine blk_far ?_ NB199_201.out _; (with_reducible repeat (first | refine blk_drewN ?_ _ | refine blk_drew ?_ | refine blk_alloc ?_ _)); refine blk_far ?_ NB199_201.out _; (with_reducible repeat (first | refine blk_drewN ?_ _ | refine blk_drew ?_ | refine blk_alloc ?_ _)); exact BK199.out) hg (Kd.R_ne HO_3.out BK199.out (by decide))); have n1_ := Aside0.mk (blk_grown (g := gb201) (o := .cells #[.int .i64 1, .int .i64 1] 37 (0, 0)) (by (with_reducible repeat (first | refine blk_drewN ?_ _ | refine blk_drew ?_ | refine blk_alloc ?_ _)); refine blk_put (cs := #[.int .i64 1, .int .i64 a0_2]) ?_ 1 _ rfl; (with_reducible repeat (first | refine blk_drewN ?_ _ | refine blk_drew ?_ | refine blk_alloc ?_ _)); refine blk_put (cs := #[.int .i64 a0_1, .int .i64 a0_2]) ?_ 0 _ rfl; (with_reducible repeat (first | refine blk_drewN ?_ _ | refine blk_drew ?_ | refine blk_alloc ?_ _)); exact BK201.out) hg (Kd.R_away HO_3.out (fun _ hk => hk))); have n2_ := Aside0.mk (hb); have n3_ := Aside0.mk (ho); clear BK199; clear BK201; clear HB; clear HO_3; have BK199 := n0_; have BK201 := n1_; have HB := n2_; have HO222 := n3_; clear n0_ n1_ n2_ n3_; clear ho hb hg hat))
                go_roundg kj44
                case measure => have := HK1.out; have := HJ7.out; have := HJ24.out; have := HJ32.out; have := HJ44.out; omega
                case rel => exact ⟨(y220), (wrap64 (x4_1 + 1)), (by first | rfl | (simp; done) | (simp [*]; done)), H', ⟨by have := HK1.out; have := HJ7.out; have := HJ24.out; have := HJ32.out; have := HJ44.out; omega⟩, ⟨by (with_reducible repeat (first | apply Kd.R_alloc | apply Kd.R_drewN | apply Kd.R_drew)); exact Kd.R_mono HO222.out (fun _ hk => trivial)⟩, ⟨by (with_reducible repeat (first | refine blk_drewN ?_ _ | refine blk_drew ?_ | refine blk_alloc ?_ _)); exact BK199.out⟩, ⟨B1_⟩⟩
               rw [if_neg c54] at H
               exact absurd H (by simp)
              rw [if_neg c48] at H
              have c48b0 : (x4_1 == 0) = false := beq_eq_false_iff_ne.mpr c48
              have c48b1 : (x4_1 != 0) = true := bne_iff_ne.mpr c48
              by_cases c58 : x4_1 = 1
              ·rw [if_pos c58] at H
               have c58b0 : (x4_1 == 1) = true := beq_iff_eq.mpr c58
               have c58b1 : (x4_1 != 1) = false := bne_eq_false_iff_eq.mpr c58
               clear c58
               by_cases c59 : x3_1.length < 8796093022208
               ·rw [if_pos c59] at H
                have LMc59 := Aside0.mk c59
                clear c59
                obtain ⟨y223, hy223⟩ : ∃ y_ : List (S37), y_ = (x3_1 ++ [(⟨64, 1⟩ : S37)]) := ⟨_, rfl⟩
                replace H : (lockstepref03_Takes.l0 kj44 y223 (wrap64 (x4_1 + 1)) a0_0 a0_1 a0_2 a0_3 l0_4 a0_5) = some r := by first | (rw [hy223]; with_reducible exact H) | (have H2_ := (Option.bind_some _ _).symm.trans H; rw [hy223]; with_reducible exact H2_) | (have H2_ := (Option.bind_some _ _).symm.trans H; with_reducible exact H2_) | with_reducible exact H | (rw [hy223]; exact H) | exact H
                have Ny223 := Aside0.mk hy223
                clear hy223
                have H' := Aside0.mk H
                clear H
                have hnb60 := NB201_199.out
                have hnc60 := NB199_201.out
                have hcz61_0 : wc.cell? ⟨gb201, 0, none⟩ = some (.int .i64 a0_1) := (blk_cell BK201.out 0).trans rfl
                have hcz61_1 : wc.cell? ⟨gb201, 1, none⟩ = some (.int .i64 a0_2) := (blk_cell BK201.out 1).trans rfl
                have hfz61_0 := blk_frozen BK201.out 0
                have hfz61_1 := blk_frozen BK201.out 1
                go_wp2_with (first | ((with_reducible refine gate_builtin (b := .append) (xs := #[.tmp 56, .tmp 58]) rfl ?_); at_builtin; refine Kd.R_append k37 (w0 := w) w.heap.size rfl (.tmp 56) (.tmp 58) 33 37 (.agg #[(.int .i64 0), (.int .i64 0)]) 16 rfl Try.underlying33 info37 rfl (by decide) (by omega) u3 x3_1 (⟨64, 1⟩ : S37) [.int .i64 64, .int .i64 1] (fun k_ => k_ ≠ gb201) (fun _ => False) rfl (by first | (go_simp; done) | (go_simp; rfl)) ?aP (fun _ hk => hk.elim) ?aF ?aO ?aB ?aS ?aL ?_; (case aP => exact k37_mkM _ _ _ (⟨64, 1⟩ : S37)); (case aB => exact (B1_)); (case aF => exact (fun k_ hk => Kd.freshB (g := gb201) (o := .cells #[.int .i64 64, .int .i64 1] 37 (0, 0)) (by (with_reducible repeat (first | refine blk_drewN ?_ _ | refine blk_drew ?_ | refine blk_alloc ?_ _)); refine blk_put (cs := #[.int .i64 64, .int .i64 a0_2]) ?_ 1 _ rfl; (with_reducible repeat (first | refine blk_drewN ?_ _ | refine blk_drew ?_ | refine blk_alloc ?_ _)); refine blk_put (cs := #[.int .i64 a0_1, .int .i64 a0_2]) ?_ 0 _ rfl; (with_reducible repeat (first | refine blk_drewN ?_ _ | refine blk_drew ?_ | refine blk_alloc ?_ _)); exact BK201.out) k_ hk)); (case aO => exact (by (with_reducible repeat (first | apply Kd.R_alloc | apply Kd.R_drewN | apply Kd.R_drew)); exact Kd.R_mono (Kd.R_far (p := ⟨gb201, 1, none⟩) (Kd.R_far (p := ⟨gb201, 0, none⟩) (Kd.R_mono HO_3.out (fun k_ hk => (⟨hk, hk⟩ : _ ∧ k_ ≠ gb201))) (fun _ hk => hk.2) (.int .i64 64)) (fun _ hk => hk.2) (.int .i64 1)) (fun _ hk => hk.1))); (case aS => exact (below_size (B1_))); (case aL => have := LMc59.out; omega); intro v224 w62 ho hb hg hat; rw [← Ny223.out] at ho; have n0_ := Aside0.mk (blk_grown (g := gb199) (o := .cells #[.int .i64 a0_0, .int .i64 a0_1, .int .i64 a0_2, .int .i64 a0_3, .slice A0_4 l0_4.length c0_4, .int .u64 a0_5] 27 (0, 0)) (by (with_reducible repeat (first | refine blk_drewN ?_ _ | refine blk_drew ?_ | refine blk_alloc ?_ _)); refine blk_far ?_ NB199_201.out _; (with_reducible repeat (first | refine blk_drewN ?_ _ | refine blk_drew ?_ | refine blk_alloc ?_ _)); refine blk_far ?_ NB199_201.out _; (with_reducible repeat (first | refine blk_drewN ?_ _ | refine blk_drew ?_ | refine blk_alloc ?_ _)); exact BK199.out) hg (Kd.R_ne HO_3.out BK199.out (by decide))); have n1_ := Aside0.mk (blk_grown (g := gb201) (o := .cells #[.int .i64 64, .int .i64 1] 37 (0, 0)) (by (with_reducible repeat (first | refine blk_drewN ?_ _ | refine blk_drew ?_ | refine blk_alloc ?_ _)); refine blk_put (cs := #[.int .i64 64, .int .i64 a0_2]) ?_ 1 _ rfl; (with_reducible repeat (first | refine blk_drewN ?_ _ | refine blk_drew ?_ | refine blk_alloc ?_ _)); refine blk_put (cs := #[.int .i64 a0_1, .int .i64 a0_2]) ?_ 0 _ rfl; (with_reducible repeat (first | refine blk_drewN ?_ _ | refine blk_drew ?_ | refine blk_alloc ?_ _)); exact BK201.out) hg (Kd.R_away HO_3.out (fun _ hk => hk))); have n2_ := Aside0.mk (hb); have n3_ := Aside0.mk (ho); clear BK199; clear BK201; clear HB; clear HO_3; have BK199 := n0_; have BK201 := n1_; have HB := n2_; have HO225 := n3_; clear n0_ n1_ n2_ n3_; clear ho hb hg hat))
                go_roundg kj44
                case measure => have := HK1.out; have := HJ7.out; have := HJ24.out; have := HJ32.out; have := HJ44.out; omega
                case rel => exact ⟨(y223), (wrap64 (x4_1 + 1)), (by first | rfl | (simp; done) | (simp [*]; done)), H', ⟨by have := HK1.out; have := HJ7.out; have := HJ24.out; have := HJ32.out; have := HJ44.out; omega⟩, ⟨by (with_reducible repeat (first | apply Kd.R_alloc | apply Kd.R_drewN | apply Kd.R_drew)); exact Kd.R_mono HO225.out (fun _ hk => trivial)⟩, ⟨by (with_reducible repeat (first | refine blk_drewN ?_ _ | refine blk_drew ?_ | refine blk_alloc ?_ _)); exact BK199.out⟩, ⟨B1_⟩⟩
               rw [if_neg c59] at H
               exact absurd H (by simp)
              rw [if_neg c58] at H
              have c58b0 : (x4_1 == 1) = false := beq_eq_false_iff_ne.mpr c58
              have c58b1 : (x4_1 != 1) = true := bne_iff_ne.mpr c58
              by_cases c63 : x3_1.length < 8796093022208
              ·rw [if_pos c63] at H
               have LMc63 := Aside0.mk c63
               clear c63
               obtain ⟨y226, hy226⟩ : ∃ y_ : List (S37), y_ = (x3_1 ++ [(⟨a0_1, a0_2⟩ : S37)]) := ⟨_, rfl⟩
               replace H : (lockstepref03_Takes.l0 kj44 y226 (wrap64 (x4_1 + 1)) a0_0 a0_1 a0_2 a0_3 l0_4 a0_5) = some r := by first | (rw [hy226]; with_reducible exact H) | (have H2_ := (Option.bind_some _ _).symm.trans H; rw [hy226]; with_reducible exact H2_) | (have H2_ := (Option.bind_some _ _).symm.trans H; with_reducible exact H2_) | with_reducible exact H | (rw [hy226]; exact H) | exact H
               have Ny226 := Aside0.mk hy226
               clear hy226
               have H' := Aside0.mk H
               clear H
               have hnb64 := NB201_199.out
               have hnc64 := NB199_201.out
               have hcz65_0 : wc.cell? ⟨gb201, 0, none⟩ = some (.int .i64 a0_1) := (blk_cell BK201.out 0).trans rfl
               have hcz65_1 : wc.cell? ⟨gb201, 1, none⟩ = some (.int .i64 a0_2) := (blk_cell BK201.out 1).trans rfl
               have hfz65_0 := blk_frozen BK201.out 0
               have hfz65_1 := blk_frozen BK201.out 1
               go_wp2_with (first | ((with_reducible refine gate_builtin (b := .append) (xs := #[.tmp 56, .tmp 58]) rfl ?_); at_builtin; refine Kd.R_append k37 (w0 := w) w.heap.size rfl (.tmp 56) (.tmp 58) 33 37 (.agg #[(.int .i64 0), (.int .i64 0)]) 16 rfl Try.underlying33 info37 rfl (by decide) (by omega) u3 x3_1 (⟨a0_1, a0_2⟩ : S37) [.int .i64 a0_1, .int .i64 a0_2] (fun k_ => k_ ≠ gb201) (fun _ => False) rfl rfl ?aP (fun _ hk => hk.elim) ?aF ?aO ?aB ?aS ?aL ?_; (case aP => exact k37_mkM _ _ _ (⟨a0_1, a0_2⟩ : S37)); (case aB => exact (B1_)); (case aF => exact (fun k_ hk => Kd.freshB (g := gb201) (o := .cells #[.int .i64 a0_1, .int .i64 a0_2] 37 (0, 0)) (by (with_reducible repeat (first | refine blk_drewN ?_ _ | refine blk_drew ?_ | refine blk_alloc ?_ _)); exact BK201.out) k_ hk)); (case aO => exact (by (with_reducible repeat (first | apply Kd.R_alloc | apply Kd.R_drewN | apply Kd.R_drew)); exact HO_3.out)); (case aS => exact (below_size (B1_))); (case aL => have := LMc63.out; omega); intro v227 w66 ho hb hg hat; rw [← Ny226.out] at ho; have n0_ := Aside0.mk (blk_grown (g := gb199) (o := .cells #[.int .i64 a0_0, .int .i64 a0_1, .int .i64 a0_2, .int .i64 a0_3, .slice A0_4 l0_4.length c0_4, .int .u64 a0_5] 27 (0, 0)) (by (with_reducible repeat (first | refine blk_drewN ?_ _ | refine blk_drew ?_ | refine blk_alloc ?_ _)); exact BK199.out) hg (Kd.R_ne HO_3.out BK199.out (by decide))); have n1_ := Aside0.mk (blk_grown (g := gb201) (o := .cells #[.int .i64 a0_1, .int .i64 a0_2] 37 (0, 0)) (by (with_reducible repeat (first | refine blk_drewN ?_ _ | refine blk_drew ?_ | refine blk_alloc ?_ _)); exact BK201.out) hg (Kd.R_away HO_3.out (fun _ hk => hk))); have n2_ := Aside0.mk (hb); have n3_ := Aside0.mk (ho); clear BK199; clear BK201; clear HB; clear HO_3; have BK199 := n0_; have BK201 := n1_; have HB := n2_; have HO228 := n3_; clear n0_ n1_ n2_ n3_; clear ho hb hg hat))
               go_roundg kj44
               case measure => have := HK1.out; have := HJ7.out; have := HJ24.out; have := HJ32.out; have := HJ44.out; omega
               case rel => exact ⟨(y226), (wrap64 (x4_1 + 1)), (by first | rfl | (simp; done) | (simp [*]; done)), H', ⟨by have := HK1.out; have := HJ7.out; have := HJ24.out; have := HJ32.out; have := HJ44.out; omega⟩, ⟨by (with_reducible repeat (first | apply Kd.R_alloc | apply Kd.R_drewN | apply Kd.R_drew)); exact Kd.R_mono HO228.out (fun _ hk => trivial)⟩, ⟨by (with_reducible repeat (first | refine blk_drewN ?_ _ | refine blk_drew ?_ | refine blk_alloc ?_ _)); exact BK199.out⟩, ⟨B1_⟩⟩
              rw [if_neg c63] at H
              exact absurd H (by simp)
             replace c47 := Bool.eq_false_iff.mpr c47
             subst c47
             have H1 : (if a0_0 = 21 then (if x3_1.length < 8796093022208 then (lockstepref03_Takes.l0 kj44 (x3_1 ++ [(⟨a0_1, 1⟩ : S37)]) (wrap64 (x4_1 + 1)) a0_0 a0_1 a0_2 a0_3 l0_4 a0_5) else (none)) else (if x3_1.length < 8796093022208 then (lockstepref03_Takes.l0 kj44 (x3_1 ++ [(⟨a0_1, a0_2⟩ : S37)]) (wrap64 (x4_1 + 1)) a0_0 a0_1 a0_2 a0_3 l0_4 a0_5) else (none))) = some r := by rw [if_neg (show ¬ (false = true) by decide)] at H; exact H
             clear H
             have H := H1
             clear H1
             by_cases c67 : a0_0 = 21
             ·rw [if_pos c67] at H
              have c67b0 : (a0_0 == 21) = true := beq_iff_eq.mpr c67
              have c67b1 : (a0_0 != 21) = false := bne_eq_false_iff_eq.mpr c67
              clear c67
              by_cases c68 : x3_1.length < 8796093022208
              ·rw [if_pos c68] at H
               have LMc68 := Aside0.mk c68
               clear c68
               obtain ⟨y229, hy229⟩ : ∃ y_ : List (S37), y_ = (x3_1 ++ [(⟨a0_1, 1⟩ : S37)]) := ⟨_, rfl⟩
               replace H : (lockstepref03_Takes.l0 kj44 y229 (wrap64 (x4_1 + 1)) a0_0 a0_1 a0_2 a0_3 l0_4 a0_5) = some r := by first | (rw [hy229]; with_reducible exact H) | (have H2_ := (Option.bind_some _ _).symm.trans H; rw [hy229]; with_reducible exact H2_) | (have H2_ := (Option.bind_some _ _).symm.trans H; with_reducible exact H2_) | with_reducible exact H | (rw [hy229]; exact H) | exact H
               have Ny229 := Aside0.mk hy229
               clear hy229
               have H' := Aside0.mk H
               clear H
               have hnb69 := NB199_201.out
               have hnc69 := NB201_199.out
               have hcz70_0 : wc.cell? ⟨gb199, 0, none⟩ = some (.int .i64 a0_0) := (blk_cell BK199.out 0).trans rfl
               have hcz70_1 : wc.cell? ⟨gb199, 1, none⟩ = some (.int .i64 a0_1) := (blk_cell BK199.out 1).trans rfl
               have hcz70_2 : wc.cell? ⟨gb199, 2, none⟩ = some (.int .i64 a0_2) := (blk_cell BK199.out 2).trans rfl
               have hcz70_3 : wc.cell? ⟨gb199, 3, none⟩ = some (.int .i64 a0_3) := (blk_cell BK199.out 3).trans rfl
               have hcz70_4 : wc.cell? ⟨gb199, 4, none⟩ = some (.slice A0_4 l0_4.length c0_4) := (blk_cell BK199.out 4).trans rfl
               have hcz70_5 : wc.cell? ⟨gb199, 5, none⟩ = some (.int .u64 a0_5) := (blk_cell BK199.out 5).trans rfl
               have hfz70_0 := blk_frozen BK199.out 0
               have hfz70_1 := blk_frozen BK199.out 1
               have hfz70_2 := blk_frozen BK199.out 2
               have hfz70_3 := blk_frozen BK199.out 3
               have hfz70_4 := blk_frozen BK199.out 4
               have hfz70_5 := blk_frozen BK199.out 5
               have hcz71_0 : wc.cell? ⟨gb201, 0, none⟩ = some (.int .i64 a0_1) := (blk_cell BK201.out 0).trans rfl
               have hcz71_1 : wc.cell? ⟨gb201, 1, none⟩ = some (.int .i64 a0_2) := (blk_cell BK201.out 1).trans rfl
               have hfz71_0 := blk_frozen BK201.out 0
               have hfz71_1 := blk_frozen BK201.out 1
               go_wp2_with (first | ((with_reducible refine gate_builtin (b := .append) (xs := #[.tmp 56, .tmp 58]) rfl ?_); at_builtin; refine Kd.R_append k37 (w0 := w) w.heap.size rfl (.tmp 56) (.tmp 58) 33 37 (.agg #[(.int .i64 0), (.int .i64 0)]) 16 rfl Try.underlying33 info37 rfl (by decide) (by omega) u3 x3_1 (⟨a0_1, 1⟩ : S37) [.int .i64 a0_1, .int .i64 1] (fun k_ => k_ ≠ gb201) (fun _ => False) rfl (by first | (go_simp; done) | (go_simp; rfl)) ?aP (fun _ hk => hk.elim) ?aF ?aO ?aB ?aS ?aL ?_; (case aP => exact k37_mkM _ _ _ (⟨a0_1, 1⟩ : S37)); (case aB => exact (B1_)); (case aF => exact (fun k_ hk => Kd.freshB (g := gb201) (o := .cells #[.int .i64 a0_1, .int .i64 1] 37 (0, 0)) (by (with_reducible repeat (first | refine blk_drewN ?_ _ | refine blk_drew ?_ | refine blk_alloc ?_ _)); refine blk_put (cs := #[.int .i64 a0_1, .int .i64 a0_2]) ?_ 1 _ rfl; (with_reducible repeat (first | refine blk_drewN ?_ _ | refine blk_drew ?_ | refine blk_alloc ?_ _)); refine blk_put (cs := #[.int .i64 a0_1, .int .i64 a0_2]) ?_ 0 _ rfl; (with_reducible repeat (first | refine blk_drewN ?_ _ | refine blk_drew ?_ | refine blk_alloc ?_ _)); exact BK201.out) k_ hk)); (case aO => exact (by (with_reducible repeat (first | apply Kd.R_alloc | apply Kd.R_drewN | apply Kd.R_drew)); exact Kd.R_mono (Kd.R_far (p := ⟨gb201, 1, none⟩) (Kd.R_far (p := ⟨gb201, 0, none⟩) (Kd.R_mono HO_3.out (fun k_ hk => (⟨hk, hk⟩ : _ ∧ k_ ≠ gb201))) (fun _ hk => hk.2) (.int .i64 a0_1)) (fun _ hk => hk.2) (.int .i64 1)) (fun _ hk => hk.1))); (case aS => exact (below_size (B1_))); (case aL => have := LMc68.out; omega); intro v230 w72 ho hb hg hat; rw [← Ny229.out] at ho; have n0_ := Aside0.mk (blk_grown (g := gb199) (o := .cells #[.int .i64 a0_0, .int .i64 a0_1, .int .i64 a0_2, .int .i64 a0_3, .slice A0_4 l0_4.length c0_4, .int .u64 a0_5] 27 (0, 0)) (by (with_reducible repeat (first | refine blk_drewN ?_ _ | refine blk_drew ?_ | refine blk_alloc ?_ _)); refine blk_far ?_ NB199_201.out _; (with_reducible repeat (first | refine blk_drewN ?_ _ | refine blk_drew ?_ | refine blk_alloc ?_ _)); refine blk_far ?_ NB199_201.out _; (with_reducible repeat (first | refine blk_drewN ?_ _ | refine blk_drew ?_ | refine blk_alloc ?_ _)); exact BK199.out) hg (Kd.R_ne HO_3.out BK199.out (by decide))); have n1_ := Aside0.mk (blk_grown (g := gb201) (o := .cells #[.int .i64 a0_1, .int .i64 1] 37 (0, 0)) (by (with_reducible repeat (first | refine blk_drewN ?_ _ | refine blk_drew ?_ | refine blk_alloc ?_ _)); refine blk_put (cs := #[.int .i64 a0_1, .int .i64 a0_2]) ?_ 1 _ rfl; (with_reducible repeat (first | refine blk_drewN ?_ _ | refine blk_drew ?_ | refine blk_alloc ?_ _)); refine blk_put (cs := #[.int .i64 a0_1, .int .i64 a0_2]) ?_ 0 _ rfl; (with_reducible repeat (first | refine blk_drewN ?_ _ | refine blk_drew ?_ | refine blk_alloc ?_ _)); exact BK201.out) hg (Kd.R_away HO_3.out (fun _ hk => hk))); have n2_ := Aside0.mk (hb); have n3_ := Aside0.mk (ho); clear BK199; clear BK201; clear HB; clear HO_3; have BK199 := n0_; have BK201 := n1_; have HB := n2_; have HO231 := n3_; clear n0_ n1_ n2_ n3_; clear ho hb hg hat))
               go_roundg kj44
               case measure => have := HK1.out; have := HJ7.out; have := HJ24.out; have := HJ32.out; have := HJ44.out; omega
               case rel => exact ⟨(y229), (wrap64 (x4_1 + 1)), (by first | rfl | (simp; done) | (simp [*]; done)), H', ⟨by have := HK1.out; have := HJ7.out; have := HJ24.out; have := HJ32.out; have := HJ44.out; omega⟩, ⟨by (with_reducible repeat (first | apply Kd.R_alloc | apply Kd.R_drewN | apply Kd.R_drew)); exact Kd.R_mono HO231.out (fun _ hk => trivial)⟩, ⟨by (with_reducible repeat (first | refine blk_drewN ?_ _ | refine blk_drew ?_ | refine blk_alloc ?_ _)); exact BK199.out⟩, ⟨B1_⟩⟩
              rw [if_neg c68] at H
              exact absurd H (by simp)
             rw [if_neg c67] at H
             have c67b0 : (a0_0 == 21) = false := beq_eq_false_iff_ne.mpr c67
             have c67b1 : (a0_0 != 21) = true := bne_iff_ne.mpr c67
             by_cases c73 : x3_1.length < 8796093022208
             ·rw [if_pos c73] at H
              have LMc73 := Aside0.mk c73
              clear c73
              obtain ⟨y232, hy232⟩ : ∃ y_ : List (S37), y_ = (x3_1 ++ [(⟨a0_1, a0_2⟩ : S37)]) := ⟨_, rfl⟩
              replace H : (lockstepref03_Takes.l0 kj44 y232 (wrap64 (x4_1 + 1)) a0_0 a0_1 a0_2 a0_3 l0_4 a0_5) = some r := by first | (rw [hy232]; with_reducible exact H) | (have H2_ := (Option.bind_some _ _).symm.trans H; rw [hy232]; with_reducible exact H2_) | (have H2_ := (Option.bind_some _ _).symm.trans H; with_reducible exact H2_) | with_reducible exact H | (rw [hy232]; exact H) | exact H
              have Ny232 := Aside0.mk hy232
              clear hy232
              have H' := Aside0.mk H
              clear H
              have hnb74 := NB201_199.out
              have hnc74 := NB199_201.out
              have hcz75_0 : wc.cell? ⟨gb201, 0, none⟩ = some (.int .i64 a0_1) := (blk_cell BK201.out 0).trans rfl
              have hcz75_1 : wc.cell? ⟨gb201, 1, none⟩ = some (.int .i64 a0_2) := (blk_cell BK201.out 1).trans rfl
              have hfz75_0 := blk_frozen BK201.out 0
              have hfz75_1 := blk_frozen BK201.out 1
              go_wp2_with (first | ((with_reducible refine gate_builtin (b := .append) (xs := #[.tmp 56, .tmp 58]) rfl ?_); at_builtin; refine Kd.R_append k37 (w0 := w) w.heap.size rfl (.tmp 56) (.tmp 58) 33 37 (.agg #[(.int .i64 0), (.int .i64 0)]) 16 rfl Try.underlying33 info37 rfl (by decide) (by omega) u3 x3_1 (⟨a0_1, a0_2⟩ : S37) [.int .i64 a0_1, .int .i64 a0_2] (fun k_ => k_ ≠ gb201) (fun _ => False) rfl rfl ?aP (fun _ hk => hk.elim) ?aF ?aO ?aB ?aS ?aL ?_; (case aP => exact k37_mkM _ _ _ (⟨a0_1, a0_2⟩ : S37)); (case aB => exact (B1_)); (case aF => exact (fun k_ hk => Kd.freshB (g := gb201) (o := .cells #[.int .i64 a0_1, .int .i64 a0_2] 37 (0, 0)) (by (with_reducible repeat (first | refine blk_drewN ?_ _ | refine blk_drew ?_ | refine blk_alloc ?_ _)); exact BK201.out) k_ hk)); (case aO => exact (by (with_reducible repeat (first | apply Kd.R_alloc | apply Kd.R_drewN | apply Kd.R_drew)); exact HO_3.out)); (case aS => exact (below_size (B1_))); (case aL => have := LMc73.out; omega); intro v233 w76 ho hb hg hat; rw [← Ny232.out] at ho; have n0_ := Aside0.mk (blk_grown (g := gb199) (o := .cells #[.int .i64 a0_0, .int .i64 a0_1, .int .i64 a0_2, .int .i64 a0_3, .slice A0_4 l0_4.length c0_4, .int .u64 a0_5] 27 (0, 0)) (by (with_reducible repeat (first | refine blk_drewN ?_ _ | refine blk_drew ?_ | refine blk_alloc ?_ _)); exact BK199.out) hg (Kd.R_ne HO_3.out BK199.out (by decide))); have n1_ := Aside0.mk (blk_grown (g := gb201) (o := .cells #[.int .i64 a0_1, .int .i64 a0_2] 37 (0, 0)) (by (with_reducible repeat (first | refine blk_drewN ?_ _ | refine blk_drew ?_ | refine blk_alloc ?_ _)); exact BK201.out) hg (Kd.R_away HO_3.out (fun _ hk => hk))); have n2_ := Aside0.mk (hb); have n3_ := Aside0.mk (ho); clear BK199; clear BK201; clear HB; clear HO_3; have BK199 := n0_; have BK201 := n1_; have HB := n2_; have HO234 := n3_; clear n0_ n1_ n2_ n3_; clear ho hb hg hat))
              go_roundg kj44
              case measure => have := HK1.out; have := HJ7.out; have := HJ24.out; have := HJ32.out; have := HJ44.out; omega
              case rel => exact ⟨(y232), (wrap64 (x4_1 + 1)), (by first | rfl | (simp; done) | (simp [*]; done)), H', ⟨by have := HK1.out; have := HJ7.out; have := HJ24.out; have := HJ32.out; have := HJ44.out; omega⟩, ⟨by (with_reducible repeat (first | apply Kd.R_alloc | apply Kd.R_drewN | apply Kd.R_drew)); exact Kd.R_mono HO234.out (fun _ hk => trivial)⟩, ⟨by (with_reducible repeat (first | refine blk_drewN ?_ _ | refine blk_drew ?_ | refine blk_alloc ?_ _)); exact BK199.out⟩, ⟨B1_⟩⟩
             rw [if_neg c73] at H
             exact absurd H (by simp)
    rw [if_neg c7] at H
    have c7b0 : decide (x4_1 < (l0_4.length : Int)) = false := decide_eq_false c7
    clear c7
    obtain rfl := Option.some.inj H
    have hcz77_0 : wr.cell? ⟨gb199, 0, none⟩ = some (.int .i64 a0_0) := (blk_cell BK199.out 0).trans rfl
    have hcz77_1 : wr.cell? ⟨gb199, 1, none⟩ = some (.int .i64 a0_1) := (blk_cell BK199.out 1).trans rfl
    have hcz77_2 : wr.cell? ⟨gb199, 2, none⟩ = some (.int .i64 a0_2) := (blk_cell BK199.out 2).trans rfl
    have hcz77_3 : wr.cell? ⟨gb199, 3, none⟩ = some (.int .i64 a0_3) := (blk_cell BK199.out 3).trans rfl
    have hcz77_4 : wr.cell? ⟨gb199, 4, none⟩ = some (.slice A0_4 l0_4.length c0_4) := (blk_cell BK199.out 4).trans rfl
    have hcz77_5 : wr.cell? ⟨gb199, 5, none⟩ = some (.int .u64 a0_5) := (blk_cell BK199.out 5).trans rfl
    have hfz77_0 := blk_frozen BK199.out 0
    have hfz77_1 := blk_frozen BK199.out 1
    have hfz77_2 := blk_frozen BK199.out 2
    have hfz77_3 := blk_frozen BK199.out 3
    have hfz77_4 := blk_frozen BK199.out 4
    have hfz77_5 := blk_frozen BK199.out 5
    go_wp2
    go_ret
    exact ⟨_, by first | rfl | (simp [errW_none, errW_some] <;> rfl) | (simp [*, errW_none, errW_some] <;> rfl), by (with_reducible repeat (first | apply Kd.R_alloc | apply Kd.R_drewN | apply Kd.R_drew)); exact HO_3.out, B1_⟩
 replace c3 := Bool.eq_false_iff.mpr c3
 subst c3
 have H1 : (some ([] : List (S37))) = some r := by rw [if_neg (show ¬ (false = true) by decide)] at H; exact H
 clear H
 have H := H1
 clear H1
 obtain rfl := Option.some.inj H
 go_enter Try.func17, Try.ntmps17
 go_wp2_with (first | ((with_reducible refine gate_dst (N := 1) rfl ?_); refine box_event ?hg (N := 1) ?hd (cs := #[.int .i64 a0_0, .int .i64 a0_1, .int .i64 a0_2, .int .i64 a0_3, .slice A0_4 l0_4.length c0_4, .int .u64 a0_5]) (t := 27) ?hr ?_; (case hd => rfl); (case hg => rfl); (case hr => first | (go_simp; done) | (go_simp; rfl)); intro gb199 hg w78 hbox hb; have n0_ := Aside0.mk (below_step (B_) hb); have n1_ := Aside0.mk (hbox); have n2_ := Aside0.mk ((by rw [hg]; exact (below_size (B_)) : w.heap.size ≤ gb199)); have n3_ := Aside0.mk ((by rw [hg]; exact (below_size (B_)) : w.heap.size ≤ gb199)); clear HB; have HB := n0_; have BK199 := n1_; have GW199 := n2_; have GE199 := n3_; clear n0_ n1_ n2_ n3_; clear hb hbox hg; have hcz79_0 : w78.cell? ⟨gb199, 0, none⟩ = some (.int .i64 a0_0) := (blk_cell BK199.out 0).trans rfl; have hcz79_1 : w78.cell? ⟨gb199, 1, none⟩ = some (.int .i64 a0_1) := (blk_cell BK199.out 1).trans rfl; have hcz79_2 : w78.cell? ⟨gb199, 2, none⟩ = some (.int .i64 a0_2) := (blk_cell BK199.out 2).trans rfl; have hcz79_3 : w78.cell? ⟨gb199, 3, none⟩ = some (.int .i64 a0_3) := (blk_cell BK199.out 3).trans rfl; have hcz79_4 : w78.cell? ⟨gb199, 4, none⟩ = some (.slice A0_4 l0_4.length c0_4) := (blk_cell BK199.out 4).trans rfl; have hcz79_5 : w78.cell? ⟨gb199, 5, none⟩ = some (.int .u64 a0_5) := (blk_cell BK199.out 5).trans rfl; have hfz79_0 := blk_frozen BK199.out 0; have hfz79_1 := blk_frozen BK199.out 1; have hfz79_2 := blk_frozen BK199.out 2; have hfz79_3 := blk_frozen BK199.out 3; have hfz79_4 := blk_frozen BK199.out 4; have hfz79_5 := blk_frozen BK199.out 5) | ((with_reducible refine gate_callee (f := 14) rfl ?_); refine goesL_ (some 7) rfl rfl Try.func14 (by kernel_rfl) rfl #[.agg #[.int .i64 a0_0, .int .i64 a0_1, .int .i64 a0_2, .int .i64 a0_3, .slice A0_4 l0_4.length c0_4, .int .u64 a0_5]] rfl (by (try simp only [List.map_toArray, List.map_cons, List.map_nil]); first | done | rfl | (simp only [List.length_drop, List.length_take]; rfl)) ?_; (with_reducible refine (lockstepref03_May.calls k a0_0 a0_1 a0_2 a0_3 _ _ l0_4 a0_5 false _ ?side1 ?side2 A2.out).mono ?_); (case side1 => repeat (first | exact (Kd.C_below HR0_4.out HB.out) | (with_reducible refine Kd.C_alloc ?_ _) | (with_reducible refine Kd.C_drewN ?_ _) | (with_reducible refine Kd.C_drew ?_))); (case side2 => exact HC0_4.out); rintro e w80 ⟨rfl, hb⟩; refine ⟨_, rfl, ?_⟩; have n0_ := Aside0.mk (blk_below (g := gb199) (o := .cells #[.int .i64 a0_0, .int .i64 a0_1, .int .i64 a0_2, .int .i64 a0_3, .slice A0_4 l0_4.length c0_4, .int .u64 a0_5] 27 (0, 0)) (by (with_reducible repeat (first | refine blk_drewN ?_ _ | refine blk_drew ?_ | refine blk_alloc ?_ _)); exact BK199.out) hb); have n1_ := Aside0.mk (below_step (B1_) hb); clear BK199; clear HB; have BK199 := n0_; have HB := n1_; clear n0_ n1_; (try clear hb); (try clear hb2); (try clear hk); (try clear hi)))
 go_ret
 exact ⟨_, by first | rfl | (simp [errW_none, errW_some] <;> rfl) | (simp [*, errW_none, errW_some] <;> rfl), by first | exact Kd.R_nil _ _ _ _ _ | exact Kd.N_nil _ _ _ _ _ | exact Kd.V_nil _ _ _ _ _ | exact Kd.Q_nil _ _ _ _ _ | exact Kd.S_nil _ _ _ _ _, B1_⟩

end Go.Proofs.Ytblhphjdjpodcaa.Q
namespace Go.Proofs.Ytblhphjdjpodcaa.Q
open Go.Proofs.YtblhphjdjpodcaaH
open Go.RowKit Go.Proofs.YtblhphjdjpodcaaW.PrintWords Go.Proofs.YtblhphjdjpodcaaW.PrintLast Go.Proofs.YtblhphjdjpodcaaW.PrintMore
attribute [local go_sem] max2_int min2_int max_two min_two max_three min_three max_four min_four   -- for this text's walks alone
set_option linter.unusedVariables false
set_option linter.unusedSimpArgs false

/-! ### lockstepref03_Pure: function 20 -/
def lockstepref03_Pure.f (a0 : Int) : Option (Bool) := if a0 ≥ 0 then (if a0 ≤ 22 then (if a0 = 4 then (some false) else (if a0 < 16 then (some true) else (some (decide (a0 > 20))))) else (some false)) else (some false)
set_option maxHeartbeats 8000000 in
set_option maxRecDepth 100000 in
theorem lockstepref03_Pure.calls (a0 : Int) (r : Bool) (w : World) (h : lockstepref03_Pure.f a0 = some r) :
 Calls Try.prog 20 #[.int .i64 a0] w fun e w' => e = .returned (.bool r) ∧ Drawn0 w w' := by
 have H : (if a0 ≥ 0 then (if a0 ≤ 22 then (if a0 = 4 then (some false) else (if a0 < 16 then (some true) else (some (decide (a0 > 20))))) else (some false)) else (some false)) = some r := h
 clear h
 by_cases c2 : a0 ≥ 0
 ·rw [if_pos c2] at H
  have c2b0 : decide (0 ≤ a0) = true := decide_eq_true c2
  clear c2
  by_cases c3 : a0 ≤ 22
  ·rw [if_pos c3] at H
   have c3b0 : decide (a0 ≤ 22) = true := decide_eq_true c3
   clear c3
   by_cases c4 : a0 = 4
   ·rw [if_pos c4] at H
    have c4b0 : (a0 == 4) = true := beq_iff_eq.mpr c4
    have c4b1 : (a0 != 4) = false := bne_eq_false_iff_eq.mpr c4
    clear c4
    obtain rfl := Option.some.inj H
    go_enter Try.func20, Try.ntmps20
    go_wp2
    go_ret
    exact ⟨by first | rfl | (simp; done) | (simp [*]; done), by repeat (first | exact Drawn0.refl _ | apply Drawn0.step)⟩
   rw [if_neg c4] at H
   have c4b0 : (a0 == 4) = false := beq_eq_false_iff_ne.mpr c4
   have c4b1 : (a0 != 4) = true := bne_iff_ne.mpr c4
   by_cases c5 : a0 < 16
   ·rw [if_pos c5] at H
    have c5b0 : decide (a0 < 16) = true := decide_eq_true c5
    clear c5
    obtain rfl := Option.some.inj H
    go_enter Try.func20, Try.ntmps20
    go_wp2
    go_ret
    exact ⟨by first | rfl | (simp; done) | (simp [*]; done), by repeat (first | exact Drawn0.refl _ | apply Drawn0.step)⟩
   rw [if_neg c5] at H
   have c5b0 : decide (a0 < 16) = false := decide_eq_false c5
   clear c5
   obtain rfl := Option.some.inj H
   go_enter Try.func20, Try.ntmps20
   go_wp2
   go_ret
   exact ⟨by first | rfl | (simp; done) | (simp [*]; done), by repeat (first | exact Drawn0.refl _ | apply Drawn0.step)⟩
  rw [if_neg c3] at H
  have c3b0 : decide (a0 ≤ 22) = false := decide_eq_false c3
  clear c3
  obtain rfl := Option.some.inj H
  go_enter Try.func20, Try.ntmps20
  go_wp2
  go_ret
  exact ⟨by first | rfl | (simp; done) | (simp [*]; done), by repeat (first | exact Drawn0.refl _ | apply Drawn0.step)⟩
 rw [if_neg c2] at H
 have c2b0 : decide (0 ≤ a0) = false := decide_eq_false c2
 clear c2
 obtain rfl := Option.some.inj H
 go_enter Try.func20, Try.ntmps20
 go_wp2
 go_ret
 exact ⟨by first | rfl | (simp; done) | (simp [*]; done), by repeat (first | exact Drawn0.refl _ | apply Drawn0.step)⟩

end Go.Proofs.Ytblhphjdjpodcaa.Q
