/- Texts of this session, joined by wip/tools/merge.py. Conditions: each theorem's own. -/
import Derived.Test.YtblhphjdjpodcaaQx0
import Derived.Test.YtblhphjdjpodcaaMKindSameb
import Derived.Test.YtblhphjdjpodcaaMKindSamec
import Derived.Test.YtblhphjdjpodcaaRows
import Derived.WalkKit
import Derived.ProofKit
import Derived.OpenShut
import Derived.ShutString
import Derived.ChangeOld
import Derived.Below
import Derived.SizedLaws
import Derived.Test.YtblhphjdjpodcaaWSized
namespace Go.Proofs.Ytblhphjdjpodcaa.Q
open Go.Proofs.YtblhphjdjpodcaaH
open Go.RowKit Go.Proofs.YtblhphjdjpodcaaW.PrintWords Go.Proofs.YtblhphjdjpodcaaW.PrintLast Go.Proofs.YtblhphjdjpodcaaW.PrintMore
attribute [local go_sem] max2_int min2_int max_two min_two max_three min_three max_four min_four   -- for this text's walks alone
set_option linter.unusedVariables false
set_option linter.unusedSimpArgs false

/-! ### lockstepref03_May: function 14 -/
mutual
def lockstepref03_May.j0 : Nat → Bool → Int → Int → Int → Int → List Int → Int → Option (Bool)
 | 0, _, _, _, _, _, _, _ => none
 | k + 1, x22, x183000, x183001, x183002, x183003, x183004, x183005 => if x22 = true then (some false) else (lockstepref03_May.l0 k 0 x183000 x183001 x183002 x183003 x183004 x183005)
def lockstepref03_May.l0 : Nat → Int → Int → Int → Int → Int → List Int → Int → Option (Bool)
 | 0, _, _, _, _, _, _, _ => none
 | k + 1, x3, x183000, x183001, x183002, x183003, x183004, x183005 => if x3 < (x183004.length : Int) then (if 0 ≤ x3 then ((lockstepref03_Value.f (rd x183004 x3)).bind fun t187 => (if t187 = true then (lockstepref03_May.l0 k (wrap64 (x3 + 1)) x183000 x183001 x183002 x183003 x183004 x183005) else (some false))) else (none)) else (if x183000 = 17 then (some (x183003 == 0)) else (if x183000 = 19 then (some (x183003 == 0)) else ((lockstepref03_Value.f x183003).bind fun t188 => (some t188))))
end
def lockstepref03_May.f (k : Nat) (a0_0 : Int) (a0_1 : Int) (a0_2 : Int) (a0_3 : Int) (l0_4 : List Int) (a0_5 : Int) : Option (Bool) := (lockstepref03_Shape.f a0_1 a0_2).bind fun t183 => (if t183 = true then ((lockstepref03_Args.f k a0_0 a0_1 a0_2 a0_3 l0_4 a0_5).bind fun t184 => (if t184 = (l0_4.length : Int) then ((lockstepref03_Fits.f k a0_0 a0_1 a0_2 a0_3 l0_4 a0_5).bind fun t185 => (lockstepref03_May.j0 k (!t185) a0_0 a0_1 a0_2 a0_3 l0_4 a0_5)) else (lockstepref03_May.j0 k true a0_0 a0_1 a0_2 a0_3 l0_4 a0_5))) else (lockstepref03_May.j0 k true a0_0 a0_1 a0_2 a0_3 l0_4 a0_5))
theorem lockstepref03_May.mono_l : ∀ k, (∀ y0 y1 y2 y3 y4 y5 y6, LeO (lockstepref03_May.j0 k y0 y1 y2 y3 y4 y5 y6) (lockstepref03_May.j0 (k + 1) y0 y1 y2 y3 y4 y5 y6)) ∧ (∀ y0 y1 y2 y3 y4 y5 y6, LeO (lockstepref03_May.l0 k y0 y1 y2 y3 y4 y5 y6) (lockstepref03_May.l0 (k + 1) y0 y1 y2 y3 y4 y5 y6))
 | 0 => ⟨fun _ _ _ _ _ _ _ r h => by simp [lockstepref03_May.j0] at h, fun _ _ _ _ _ _ _ r h => by simp [lockstepref03_May.l0] at h⟩
 | k + 1 => by
  obtain ⟨ih0, ih1⟩ := lockstepref03_May.mono_l k
  refine ⟨?_, ?_⟩
  ·intro y0 y1 y2 y3 y4 y5 y6
   unfold lockstepref03_May.j0
   repeat' first
   | (with_reducible exact ih0 _ _ _ _ _ _ _)
   | (with_reducible exact ih1 _ _ _ _ _ _ _)
   | (with_reducible exact lockstepref03_Args.mono _ _ _ _ _ _ _)
   | (with_reducible exact lockstepref03_Fits.mono _ _ _ _ _ _ _)
   | (with_reducible exact LeO.refl _)
   | (with_reducible exact LeO.none _)
   | (with_reducible refine LeO.ite ?_ ?_)
   | (with_reducible refine LeO.bind ?_ (fun _ => ?_))
   | exact ih0 _ _ _ _ _ _ _
   | exact ih1 _ _ _ _ _ _ _
   | exact lockstepref03_Args.mono _ _ _ _ _ _ _
   | exact lockstepref03_Fits.mono _ _ _ _ _ _ _
   | exact LeO.none _
   | refine LeO.ite ?_ ?_
   | refine LeO.bind ?_ (fun _ => ?_)
  ·intro y0 y1 y2 y3 y4 y5 y6
   unfold lockstepref03_May.l0
   repeat' first
   | (with_reducible exact ih0 _ _ _ _ _ _ _)
   | (with_reducible exact ih1 _ _ _ _ _ _ _)
   | (with_reducible exact lockstepref03_Args.mono _ _ _ _ _ _ _)
   | (with_reducible exact lockstepref03_Fits.mono _ _ _ _ _ _ _)
   | (with_reducible exact LeO.refl _)
   | (with_reducible exact LeO.none _)
   | (with_reducible refine LeO.ite ?_ ?_)
   | (with_reducible refine LeO.bind ?_ (fun _ => ?_))
   | exact ih0 _ _ _ _ _ _ _
   | exact ih1 _ _ _ _ _ _ _
   | exact lockstepref03_Args.mono _ _ _ _ _ _ _
   | exact lockstepref03_Fits.mono _ _ _ _ _ _ _
   | exact LeO.none _
   | refine LeO.ite ?_ ?_
   | refine LeO.bind ?_ (fun _ => ?_)
theorem lockstepref03_May.mono : ∀ a0 a1 a2 a3 a4 a5 k, LeO (lockstepref03_May.f k a0 a1 a2 a3 a4 a5) (lockstepref03_May.f (k + 1) a0 a1 a2 a3 a4 a5) := by
 intro a0 a1 a2 a3 a4 a5 k
 obtain ⟨ih0, ih1⟩ := lockstepref03_May.mono_l k
 unfold lockstepref03_May.f
 repeat' first
  | (with_reducible exact ih0 _ _ _ _ _ _ _)
  | (with_reducible exact ih1 _ _ _ _ _ _ _)
  | (with_reducible exact lockstepref03_Args.mono _ _ _ _ _ _ _)
  | (with_reducible exact lockstepref03_Fits.mono _ _ _ _ _ _ _)
  | (with_reducible exact LeO.refl _)
  | (with_reducible exact LeO.none _)
  | (with_reducible refine LeO.ite ?_ ?_)
  | (with_reducible refine LeO.bind ?_ (fun _ => ?_))
  | exact ih0 _ _ _ _ _ _ _
  | exact ih1 _ _ _ _ _ _ _
  | exact lockstepref03_Args.mono _ _ _ _ _ _ _
  | exact lockstepref03_Fits.mono _ _ _ _ _ _ _
  | exact LeO.none _
  | refine LeO.ite ?_ ?_
  | refine LeO.bind ?_ (fun _ => ?_)
def lockstepref03_May.T1 : Bool × List (List Nat × List Nat) := (true, [([], []), ([0], [0]), ([], []), ([2], [2]), ([1, 3], [1, 3]), ([4], [4]), ([5, 4], [5]), ([6], [6]), ([7, 6, 6], [6, 7]), ([6], [6]), ([9, 6], [6, 9]), ([10, 6], [6, 10]), ([8, 11, 6], [6, 8, 11]), ([6, 12], [6, 12]), ([13, 8], [13]), ([14], [14]), ([15, 14, 14], [14, 15]), ([16, 14], [14, 16]), ([14, 17], [14, 17])])
def lockstepref03_May.B1 : List Nat := [0, 1, 0, 4, 15, 31, 63, 127, 255, 127, 639, 1663, 4095, 8191, 16383, 32767, 65535, 131071, 262143]
theorem lockstepref03_May.tab1 : rtab .any (opsOf Try.f14 1) = lockstepref03_May.T1 := by kernel_rfl
theorem lockstepref03_May.bits1 : waitsOk lockstepref03_May.T1.2 lockstepref03_May.B1 = true := by kernel_rfl
set_option maxHeartbeats 8000000 in
set_option maxRecDepth 100000 in
theorem lockstepref03_May.calls (k : Nat) (a0_0 : Int) (a0_1 : Int) (a0_2 : Int) (a0_3 : Int) (A0_4 : Option Addr) (c0_4 : Nat) (l0_4 : List Int) (a0_5 : Int) (r : Bool) (w : World) (hr0_4 : Kd.C (Kd.int .i64) w A0_4 l0_4.length l0_4) (hc0_4 : l0_4.length ≤ c0_4) (h : lockstepref03_May.f k a0_0 a0_1 a0_2 a0_3 l0_4 a0_5 = some r) :
 Calls Try.prog 14 #[.agg #[.int .i64 a0_0, .int .i64 a0_1, .int .i64 a0_2, .int .i64 a0_3, .slice A0_4 l0_4.length c0_4, .int .u64 a0_5]] w fun e w' => e = .returned (.bool r) ∧ Below w.heap.size w w' := by
 have hu27 := Try.underlying27
 have HR0_4 := Aside0.mk hr0_4
 have HC0_4 := Aside0.mk hc0_4
 clear hr0_4 hc0_4
 have HB := Aside0.mk (Below.refl w.heap.size w)
 have H : ((lockstepref03_Shape.f a0_1 a0_2).bind fun t183 => (if t183 = true then ((lockstepref03_Args.f k a0_0 a0_1 a0_2 a0_3 l0_4 a0_5).bind fun t184 => (if t184 = (l0_4.length : Int) then ((lockstepref03_Fits.f k a0_0 a0_1 a0_2 a0_3 l0_4 a0_5).bind fun t185 => (lockstepref03_May.j0 k (!t185) a0_0 a0_1 a0_2 a0_3 l0_4 a0_5)) else (lockstepref03_May.j0 k true a0_0 a0_1 a0_2 a0_3 l0_4 a0_5))) else (lockstepref03_May.j0 k true a0_0 a0_1 a0_2 a0_3 l0_4 a0_5))) = some r := h
 clear h
 have HC2 := Aside0.mk H
 clear H
 go_enter Try.func14, Try.ntmps14
 go_upto_region 1 with (first | ((with_reducible refine gate_dst (N := 1) rfl ?_); (try (refine gate_guard (by rfl) ?_; dsimp only)); refine box_event ?hg (N := 1) ?hd (cs := #[.int .i64 a0_0, .int .i64 a0_1, .int .i64 a0_2, .int .i64 a0_3, .slice A0_4 l0_4.length c0_4, .int .u64 a0_5]) (t := 27) ?hr ?_; (case hd => rfl); (case hg => rfl); (case hr => first | (go_simp; done) | (go_simp; rfl)); intro gb182 hg w3 hbox hb; have n0_ := Aside0.mk (below_step (B_) hb); have n1_ := Aside0.mk (hbox); have n2_ := Aside0.mk ((by rw [hg]; exact (below_size (B_)) : w.heap.size ≤ gb182)); have n3_ := Aside0.mk ((by rw [hg]; exact (below_size (B_)) : w.heap.size ≤ gb182)); clear HB; have HB := n0_; have BK182 := n1_; have GW182 := n2_; have GE182 := n3_; clear n0_ n1_ n2_ n3_; clear hb hbox hg))
 (try simp only [Act.put, List.setIfInBounds_toArray, List.set_cons_zero, List.set_cons_succ])
 go_cut [22] (fun v22 wc => ∃ (kq : Nat) (x22_1 : Bool), v22 = .bool x22_1 ∧ Aside0 (lockstepref03_May.j0 kq x22_1 a0_0 a0_1 a0_2 a0_3 l0_4 a0_5 = some r) ∧ Aside0 (kq ≤ k) ∧ Aside0 (wc.heap[gb182]? = some (.cells #[.int .i64 a0_0, .int .i64 a0_1, .int .i64 a0_2, .int .i64 a0_3, (.slice A0_4 l0_4.length c0_4), .int .u64 a0_5] 27 (0, 0))) ∧ Aside0 (Below w.heap.size w wc))
 case first =>
  have H := HC2.out
  clear HC2
  replace H := Option.bind_eq_some_iff.mp H
  obtain ⟨t183, A40, H⟩ := H
  replace H : (if t183 = true then ((lockstepref03_Args.f k a0_0 a0_1 a0_2 a0_3 l0_4 a0_5).bind fun t184 => (if t184 = (l0_4.length : Int) then ((lockstepref03_Fits.f k a0_0 a0_1 a0_2 a0_3 l0_4 a0_5).bind fun t185 => (lockstepref03_May.j0 k (!t185) a0_0 a0_1 a0_2 a0_3 l0_4 a0_5)) else (lockstepref03_May.j0 k true a0_0 a0_1 a0_2 a0_3 l0_4 a0_5))) else (lockstepref03_May.j0 k true a0_0 a0_1 a0_2 a0_3 l0_4 a0_5)) = some r := H
  have A4 := Aside0.mk A40
  clear A40
  by_cases c5 : t183 = true
  ·subst c5
   have H1 : ((lockstepref03_Args.f k a0_0 a0_1 a0_2 a0_3 l0_4 a0_5).bind fun t184 => (if t184 = (l0_4.length : Int) then ((lockstepref03_Fits.f k a0_0 a0_1 a0_2 a0_3 l0_4 a0_5).bind fun t185 => (lockstepref03_May.j0 k (!t185) a0_0 a0_1 a0_2 a0_3 l0_4 a0_5)) else (lockstepref03_May.j0 k true a0_0 a0_1 a0_2 a0_3 l0_4 a0_5))) = some r := by rw [if_pos rfl] at H; exact H
   clear H
   have H := H1
   clear H1
   replace H := Option.bind_eq_some_iff.mp H
   obtain ⟨t184, A60, H⟩ := H
   replace H : (if t184 = (l0_4.length : Int) then ((lockstepref03_Fits.f k a0_0 a0_1 a0_2 a0_3 l0_4 a0_5).bind fun t185 => (lockstepref03_May.j0 k (!t185) a0_0 a0_1 a0_2 a0_3 l0_4 a0_5)) else (lockstepref03_May.j0 k true a0_0 a0_1 a0_2 a0_3 l0_4 a0_5)) = some r := H
   have A6 := Aside0.mk A60
   clear A60
   by_cases c7 : t184 = (l0_4.length : Int)
   ·rw [if_pos c7] at H
    have c7b0 : (t184 == (l0_4.length : Int)) = true := beq_iff_eq.mpr c7
    have c7b1 : (t184 != (l0_4.length : Int)) = false := bne_eq_false_iff_eq.mpr c7
    clear c7
    (first | rw [c7b0] | (simp only [i64_w, i32_w]; rw [c7b0]) | skip)
    replace H := Option.bind_eq_some_iff.mp H
    obtain ⟨t185, A80, H⟩ := H
    replace H : (lockstepref03_May.j0 k (!t185) a0_0 a0_1 a0_2 a0_3 l0_4 a0_5) = some r := H
    have A8 := Aside0.mk A80
    clear A80
    have H' := Aside0.mk H
    clear H
    try go_wp2
    have n0_ := Aside0.mk (blk_drew BK182.out)
    have n1_ := Aside0.mk (below_drew1 HB.out)
    clear BK182
    clear HB
    have BK182 := n0_
    have HB := n1_
    clear n0_ n1_
    refine start_ (n := 19) (S := fun w' => w'.cell? ⟨gb182, 0, none⟩ = some (.int .i64 a0_0) ∧ w'.cell? ⟨gb182, 1, none⟩ = some (.int .i64 a0_1) ∧ w'.cell? ⟨gb182, 2, none⟩ = some (.int .i64 a0_2) ∧ w'.cell? ⟨gb182, 3, none⟩ = some (.int .i64 a0_3) ∧ w'.cell? ⟨gb182, 4, none⟩ = some (.slice A0_4 l0_4.length c0_4) ∧ w'.cell? ⟨gb182, 5, none⟩ = some (.int .u64 a0_5)) (ds := []) #[F_,F_,F_,F_,F_,F_,F_,F_,F_,F_,F_,F_,F_,F_,F_,F_,F_,F_,F_] (by kernel_rfl) rfl rfl ⟨(blk_cell BK182.out 0).trans rfl, (blk_cell BK182.out 1).trans rfl, (blk_cell BK182.out 2).trans rfl, (blk_cell BK182.out 3).trans rfl, (blk_cell BK182.out 4).trans rfl, (blk_cell BK182.out 5).trans rfl⟩ (fun hHeld => ?_); refine with_tabW lockstepref03_May.tab1 lockstepref03_May.bits1 (fun HT_ HW_ => ?_)
    generalize w3.drew = w9 at BK182 HB hHeld ⊢
    refine pure_ (i := 0) (N := some 4) (v := ?_) (a' := ?_) #[T_,F_,F_,F_,F_,F_,F_,F_,F_,F_,F_,F_,F_,F_,F_,F_,F_,F_,F_] rfl rfl (any_of HT_.out (by kernel_rfl)) (fun _ _ _ h => h) (Or.inl ⟨by rfl, ?_⟩) ?_ ?_
    rotate_left
    ·intro w'
     go_simp
     with_reducible rfl
    rotate_left
    ·simp only [Act.put, List.setIfInBounds_toArray, List.set_cons_zero, List.set_cons_succ, i64_w, i32_w]
     rfl
    refine pure_ (i := 2) (N := some 6) (v := ?_) (a' := ?_) #[T_,F_,T_,F_,F_,F_,F_,F_,F_,F_,F_,F_,F_,F_,F_,F_,F_,F_,F_] rfl rfl (any_of HT_.out (by kernel_rfl)) (fun _ _ _ h => h) (Or.inl ⟨by rfl, ?_⟩) ?_ ?_
    rotate_left
    ·intro w'
     go_simp
     with_reducible rfl
    rotate_left
    ·simp only [Act.put, List.setIfInBounds_toArray, List.set_cons_zero, List.set_cons_succ, i64_w, i32_w]
     rfl
    refine take_ (i := 1) (N := some 5) (v := ?_) (a' := ?_) #[T_,T_,T_,F_,F_,F_,F_,F_,F_,F_,F_,F_,F_,F_,F_,F_,F_,F_,F_] rfl rfl (take_ofW HT_.out HW_.out (by kernel_rfl)) (fun _ _ _ h => h) (Or.inl ⟨by rfl, ?_⟩) hHeld ?_ ?_
    rotate_left
    ·rintro w' ⟨s0, s1, s2, s3, s4, s5⟩
     go_simp
     with_reducible rfl
    rotate_left
    ·simp only [Act.put, List.setIfInBounds_toArray, List.set_cons_zero, List.set_cons_succ, i64_w, i32_w]
     rfl
    refine take_ (i := 3) (N := some 7) (v := ?_) (a' := ?_) #[T_,T_,T_,T_,F_,F_,F_,F_,F_,F_,F_,F_,F_,F_,F_,F_,F_,F_,F_] rfl rfl (take_ofW HT_.out HW_.out (by kernel_rfl)) (fun _ _ _ h => h) (Or.inl ⟨by rfl, ?_⟩) hHeld ?_ ?_
    rotate_left
    ·rintro w' ⟨s0, s1, s2, s3, s4, s5⟩
     go_simp
     with_reducible rfl
    rotate_left
    ·simp only [Act.put, List.setIfInBounds_toArray, List.set_cons_zero, List.set_cons_succ, i64_w, i32_w]
     rfl
    refine one_ (i := 4) (N := some 8) #[T_,T_,T_,T_,T_,F_,F_,F_,F_,F_,F_,F_,F_,F_,F_,F_,F_,F_,F_] rfl rfl (one_of HT_.out (by kernel_rfl)) (by decide) (fun K hK => ?_)
    refine goes_ Try.func18 (by kernel_rfl) rfl #[.int .i64 a0_1, .int .i64 a0_2] (by rfl) rfl rfl (by (try simp only [List.map_toArray, List.map_cons, List.map_nil]); first | done | rfl | (simp only [List.length_drop, List.length_take]; rfl)) ?_
    with_reducible refine (lockstepref03_Shape.calls a0_1 a0_2 true _ A4.out).mono ?_
    rintro e w' ⟨rfl, ⟨nd, rfl⟩⟩
    refine ⟨_, rfl, ?_⟩
    refine hK.out _ _ ⟨(blk_cell BK182.out 0).trans rfl, (blk_cell BK182.out 1).trans rfl, (blk_cell BK182.out 2).trans rfl, (blk_cell BK182.out 3).trans rfl, (blk_cell BK182.out 4).trans rfl, (blk_cell BK182.out 5).trans rfl⟩ (fun hHeld => ?_)
    clear hK K
    refine norm_ (a' := ?_) ?_ ?_
    rotate_left
    ·show Act.put _ (some 8) _ = _
     simp only [Act.put, List.setIfInBounds_toArray, List.set_cons_zero, List.set_cons_succ, i64_w, i32_w]
     rfl
    refine pure_ (i := 5) (N := some 9) (v := ?_) (a' := ?_) #[T_,T_,T_,T_,T_,T_,F_,F_,F_,F_,F_,F_,F_,F_,F_,F_,F_,F_,F_] rfl rfl (any_of HT_.out (by kernel_rfl)) (fun _ _ _ h => h) (Or.inl ⟨by rfl, ?_⟩) ?_ ?_
    rotate_left
    ·intro w'
     go_simp
     with_reducible rfl
    rotate_left
    ·simp only [Act.put, List.setIfInBounds_toArray, List.set_cons_zero, List.set_cons_succ, i64_w, i32_w]
     rfl
    refine pure_ (i := 6) (N := some 10) (v := ?_) (a' := ?_) #[T_,T_,T_,T_,T_,T_,T_,F_,F_,F_,F_,F_,F_,F_,F_,F_,F_,F_,F_] rfl rfl (any_of HT_.out (by kernel_rfl)) (fun _ _ _ h => h) (Or.inl ⟨by rfl, ?_⟩) ?_ ?_
    rotate_left
    ·intro w'
     go_simp
     with_reducible rfl
    rotate_left
    ·simp only [Act.put, List.setIfInBounds_toArray, List.set_cons_zero, List.set_cons_succ, i64_w, i32_w]
     rfl
    refine pure_ (i := 9) (N := some 13) (v := ?_) (a' := ?_) #[T_,T_,T_,T_,T_,T_,T_,F_,F_,T_,F_,F_,F_,F_,F_,F_,F_,F_,F_] rfl rfl (any_of HT_.out (by kernel_rfl)) (fun _ _ _ h => h) (Or.inl ⟨by rfl, ?_⟩) ?_ ?_
    rotate_left
    ·intro w'
     go_simp
     with_reducible rfl
    rotate_left
    ·simp only [Act.put, List.setIfInBounds_toArray, List.set_cons_zero, List.set_cons_succ, i64_w, i32_w]
     rfl
    refine take_ (i := 7) (N := some 11) (v := ?_) (a' := ?_) #[T_,T_,T_,T_,T_,T_,T_,T_,F_,T_,F_,F_,F_,F_,F_,F_,F_,F_,F_] rfl rfl (take_ofW HT_.out HW_.out (by kernel_rfl)) (fun _ _ _ h => h) (Or.inl ⟨by rfl, ?_⟩) hHeld ?_ ?_
    rotate_left
    ·rintro w' ⟨s0, s1, s2, s3, s4, s5⟩
     go_simp
     with_reducible rfl
    rotate_left
    ·simp only [Act.put, List.setIfInBounds_toArray, List.set_cons_zero, List.set_cons_succ, i64_w, i32_w]
     rfl
    refine take_ (i := 10) (N := some 14) (v := ?_) (a' := ?_) #[T_,T_,T_,T_,T_,T_,T_,T_,F_,T_,T_,F_,F_,F_,F_,F_,F_,F_,F_] rfl rfl (take_ofW HT_.out HW_.out (by kernel_rfl)) (fun _ _ _ h => h) (Or.inl ⟨by rfl, ?_⟩) hHeld ?_ ?_
    rotate_left
    ·rintro w' ⟨s0, s1, s2, s3, s4, s5⟩
     go_simp
     with_reducible rfl
    rotate_left
    ·simp only [Act.put, List.setIfInBounds_toArray, List.set_cons_zero, List.set_cons_succ, i64_w, i32_w]
     rfl
    refine pure_ (i := 11) (N := some 15) (v := ?_) (a' := ?_) #[T_,T_,T_,T_,T_,T_,T_,T_,F_,T_,T_,T_,F_,F_,F_,F_,F_,F_,F_] rfl rfl (any_of HT_.out (by kernel_rfl)) (fun _ _ _ h => h) (Or.inl ⟨by rfl, ?_⟩) ?_ ?_
    rotate_left
    ·intro w'
     go_simp
     with_reducible rfl
    rotate_left
    ·simp only [Act.put, List.setIfInBounds_toArray, List.set_cons_zero, List.set_cons_succ, i64_w, i32_w]
     rfl
    refine one_ (i := 8) (N := some 12) #[T_,T_,T_,T_,T_,T_,T_,T_,T_,T_,T_,T_,F_,F_,F_,F_,F_,F_,F_] rfl rfl (one_of HT_.out (by kernel_rfl)) (by decide) (fun K hK => ?_)
    refine goes_ Try.func29 (by kernel_rfl) rfl #[.agg #[.int .i64 a0_0, .int .i64 a0_1, .int .i64 a0_2, .int .i64 a0_3, .slice A0_4 l0_4.length c0_4, .int .u64 a0_5]] (by rfl) rfl rfl (by (try simp only [List.map_toArray, List.map_cons, List.map_nil]); first | done | rfl | (simp only [List.length_drop, List.length_take]; rfl)) ?_
    with_reducible refine (lockstepref03_Args.calls k a0_0 a0_1 a0_2 a0_3 _ _ l0_4 a0_5 t184 _ ?side1 ?side2 A6.out).mono ?_
    (case side1 => repeat (first | exact (Kd.C_below HR0_4.out (B1_)) | (with_reducible refine Kd.C_alloc ?_ _) | (with_reducible refine Kd.C_drewN ?_ _) | (with_reducible refine Kd.C_drew ?_)))
    (case side2 => exact HC0_4.out)
    rintro e w10 ⟨rfl, hb⟩
    refine ⟨_, rfl, ?_⟩
    have n0_ := Aside0.mk (blk_below (g := gb182) (o := .cells #[.int .i64 a0_0, .int .i64 a0_1, .int .i64 a0_2, .int .i64 a0_3, .slice A0_4 l0_4.length c0_4, .int .u64 a0_5] 27 (0, 0)) (by (with_reducible repeat (first | refine blk_drewN ?_ _ | refine blk_drew ?_ | refine blk_alloc ?_ _)); exact BK182.out) hb)
    have n1_ := Aside0.mk (below_step (B1_) hb)
    clear BK182
    clear HB
    have BK182 := n0_
    have HB := n1_
    clear n0_ n1_
    (try clear hb)
    (try clear hb2)
    (try clear hk)
    (try clear hi)
    refine hK.out _ _ ⟨(blk_cell BK182.out 0).trans rfl, (blk_cell BK182.out 1).trans rfl, (blk_cell BK182.out 2).trans rfl, (blk_cell BK182.out 3).trans rfl, (blk_cell BK182.out 4).trans rfl, (blk_cell BK182.out 5).trans rfl⟩ (fun hHeld => ?_)
    clear hK K
    refine norm_ (a' := ?_) ?_ ?_
    rotate_left
    ·show Act.put _ (some 12) _ = _
     simp only [Act.put, List.setIfInBounds_toArray, List.set_cons_zero, List.set_cons_succ, i64_w, i32_w]
     rfl
    refine pure_ (i := 12) (N := some 16) (v := ?_) (a' := ?_) #[T_,T_,T_,T_,T_,T_,T_,T_,T_,T_,T_,T_,T_,F_,F_,F_,F_,F_,F_] rfl rfl (any_of HT_.out (by kernel_rfl)) (fun _ _ _ h => h) (Or.inl ⟨by rfl, ?_⟩) ?_ ?_
    rotate_left
    ·intro w'
     go_simp
     with_reducible rfl
    rotate_left
    ·simp only [Act.put, List.setIfInBounds_toArray, List.set_cons_zero, List.set_cons_succ, i64_w, i32_w]
     rfl
    refine pure_ (i := 13) (N := some 17) (v := ?_) (a' := ?_) #[T_,T_,T_,T_,T_,T_,T_,T_,T_,T_,T_,T_,T_,T_,F_,F_,F_,F_,F_] rfl rfl (any_of HT_.out (by kernel_rfl)) (fun _ _ _ h => h) (Or.inl ⟨by rfl, ?_⟩) ?_ ?_
    rotate_left
    ·intro w'
     go_simp
     with_reducible rfl
    rotate_left
    ·simp only [Act.put, List.setIfInBounds_toArray, List.set_cons_zero, List.set_cons_succ, i64_w, i32_w]
     rfl
    refine pure_ (i := 14) (N := some 18) (v := ?_) (a' := ?_) #[T_,T_,T_,T_,T_,T_,T_,T_,T_,T_,T_,T_,T_,T_,T_,F_,F_,F_,F_] rfl rfl (any_of HT_.out (by kernel_rfl)) (fun _ _ _ h => h) (Or.inl ⟨by rfl, ?_⟩) ?_ ?_
    rotate_left
    ·intro w'
     go_simp
     with_reducible rfl
    rotate_left
    ·simp only [Act.put, List.setIfInBounds_toArray, List.set_cons_zero, List.set_cons_succ, i64_w, i32_w]
     rfl
    refine take_ (i := 15) (N := some 19) (v := ?_) (a' := ?_) #[T_,T_,T_,T_,T_,T_,T_,T_,T_,T_,T_,T_,T_,T_,T_,T_,F_,F_,F_] rfl rfl (take_ofW HT_.out HW_.out (by kernel_rfl)) (fun _ _ _ h => h) (Or.inl ⟨by rfl, ?_⟩) hHeld ?_ ?_
    rotate_left
    ·rintro w' ⟨s0, s1, s2, s3, s4, s5⟩
     go_simp
     with_reducible rfl
    rotate_left
    ·simp only [Act.put, List.setIfInBounds_toArray, List.set_cons_zero, List.set_cons_succ, i64_w, i32_w]
     rfl
    refine one_ (i := 16) (N := some 20) #[T_,T_,T_,T_,T_,T_,T_,T_,T_,T_,T_,T_,T_,T_,T_,T_,T_,F_,F_] rfl rfl (one_of HT_.out (by kernel_rfl)) (by decide) (fun K hK => ?_)
    refine goes_ Try.func30 (by kernel_rfl) rfl #[.agg #[.int .i64 a0_0, .int .i64 a0_1, .int .i64 a0_2, .int .i64 a0_3, .slice A0_4 l0_4.length c0_4, .int .u64 a0_5]] (by rfl) rfl rfl (by (try simp only [List.map_toArray, List.map_cons, List.map_nil]); first | done | rfl | (simp only [List.length_drop, List.length_take]; rfl)) ?_
    with_reducible refine (lockstepref03_Fits.calls k a0_0 a0_1 a0_2 a0_3 _ _ l0_4 a0_5 t185 _ ?side1 ?side2 A8.out).mono ?_
    (case side1 => repeat (first | exact (Kd.C_below HR0_4.out HB.out) | (with_reducible refine Kd.C_alloc ?_ _) | (with_reducible refine Kd.C_drewN ?_ _) | (with_reducible refine Kd.C_drew ?_)))
    (case side2 => exact HC0_4.out)
    rintro e w11 ⟨rfl, hb⟩
    refine ⟨_, rfl, ?_⟩
    have n0_ := Aside0.mk (blk_below (g := gb182) (o := .cells #[.int .i64 a0_0, .int .i64 a0_1, .int .i64 a0_2, .int .i64 a0_3, .slice A0_4 l0_4.length c0_4, .int .u64 a0_5] 27 (0, 0)) (by (with_reducible repeat (first | refine blk_drewN ?_ _ | refine blk_drew ?_ | refine blk_alloc ?_ _)); exact BK182.out) hb)
    have n1_ := Aside0.mk (below_step (B1_) hb)
    clear BK182
    clear HB
    have BK182 := n0_
    have HB := n1_
    clear n0_ n1_
    (try clear hb)
    (try clear hb2)
    (try clear hk)
    (try clear hi)
    refine hK.out _ _ ⟨(blk_cell BK182.out 0).trans rfl, (blk_cell BK182.out 1).trans rfl, (blk_cell BK182.out 2).trans rfl, (blk_cell BK182.out 3).trans rfl, (blk_cell BK182.out 4).trans rfl, (blk_cell BK182.out 5).trans rfl⟩ (fun hHeld => ?_)
    clear hK K
    refine norm_ (a' := ?_) ?_ ?_
    rotate_left
    ·show Act.put _ (some 20) _ = _
     simp only [Act.put, List.setIfInBounds_toArray, List.set_cons_zero, List.set_cons_succ, i64_w, i32_w]
     rfl
    refine pure_ (i := 17) (N := some 21) (v := ?_) (a' := ?_) #[T_,T_,T_,T_,T_,T_,T_,T_,T_,T_,T_,T_,T_,T_,T_,T_,T_,T_,F_] rfl rfl (any_of HT_.out (by kernel_rfl)) (fun _ _ _ h => h) (Or.inl ⟨by rfl, ?_⟩) ?_ ?_
    rotate_left
    ·intro w'
     go_simp
     with_reducible rfl
    rotate_left
    ·simp only [Act.put, List.setIfInBounds_toArray, List.set_cons_zero, List.set_cons_succ, i64_w, i32_w]
     rfl
    refine pure_ (i := 18) (N := some 22) (v := ?_) (a' := ?_) #[T_,T_,T_,T_,T_,T_,T_,T_,T_,T_,T_,T_,T_,T_,T_,T_,T_,T_,T_] rfl rfl (any_of HT_.out (by kernel_rfl)) (fun _ _ _ h => h) (Or.inl ⟨by rfl, ?_⟩) ?_ ?_
    rotate_left
    ·intro w'
     go_simp
     with_reducible rfl
    rotate_left
    ·simp only [Act.put, List.setIfInBounds_toArray, List.set_cons_zero, List.set_cons_succ, i64_w, i32_w]
     rfl
    refine done_ (done_of HT_.out (by kernel_rfl)) ?_
    try go_wp2
    go_meet
    case rel => exact ⟨_, (!t185), (by first | rfl | (simp; done) | (simp [*]; done)), H', ⟨by first | omega | exact Nat.le_refl _⟩, ⟨by (with_reducible repeat (first | refine blk_drewN ?_ _ | refine blk_drew ?_ | refine blk_alloc ?_ _)); exact BK182.out⟩, ⟨B1_⟩⟩
   rw [if_neg c7] at H
   have c7b0 : (t184 == (l0_4.length : Int)) = false := beq_eq_false_iff_ne.mpr c7
   have c7b1 : (t184 != (l0_4.length : Int)) = true := bne_iff_ne.mpr c7
   (first | rw [c7b0] | (simp only [i64_w, i32_w]; rw [c7b0]) | skip)
   have H' := Aside0.mk H
   clear H
   try go_wp2
   have n0_ := Aside0.mk (blk_drew BK182.out)
   have n1_ := Aside0.mk (below_drew1 HB.out)
   clear BK182
   clear HB
   have BK182 := n0_
   have HB := n1_
   clear n0_ n1_
   refine start_ (n := 19) (S := fun w' => w'.cell? ⟨gb182, 0, none⟩ = some (.int .i64 a0_0) ∧ w'.cell? ⟨gb182, 1, none⟩ = some (.int .i64 a0_1) ∧ w'.cell? ⟨gb182, 2, none⟩ = some (.int .i64 a0_2) ∧ w'.cell? ⟨gb182, 3, none⟩ = some (.int .i64 a0_3) ∧ w'.cell? ⟨gb182, 4, none⟩ = some (.slice A0_4 l0_4.length c0_4) ∧ w'.cell? ⟨gb182, 5, none⟩ = some (.int .u64 a0_5)) (ds := []) #[F_,F_,F_,F_,F_,F_,F_,F_,F_,F_,F_,F_,F_,F_,F_,F_,F_,F_,F_] (by kernel_rfl) rfl rfl ⟨(blk_cell BK182.out 0).trans rfl, (blk_cell BK182.out 1).trans rfl, (blk_cell BK182.out 2).trans rfl, (blk_cell BK182.out 3).trans rfl, (blk_cell BK182.out 4).trans rfl, (blk_cell BK182.out 5).trans rfl⟩ (fun hHeld => ?_); refine with_tabW lockstepref03_May.tab1 lockstepref03_May.bits1 (fun HT_ HW_ => ?_)
   generalize w3.drew = w12 at BK182 HB hHeld ⊢
   refine pure_ (i := 0) (N := some 4) (v := ?_) (a' := ?_) #[T_,F_,F_,F_,F_,F_,F_,F_,F_,F_,F_,F_,F_,F_,F_,F_,F_,F_,F_] rfl rfl (any_of HT_.out (by kernel_rfl)) (fun _ _ _ h => h) (Or.inl ⟨by rfl, ?_⟩) ?_ ?_
   rotate_left
   ·intro w'
    go_simp
    with_reducible rfl
   rotate_left
   ·simp only [Act.put, List.setIfInBounds_toArray, List.set_cons_zero, List.set_cons_succ, i64_w, i32_w]
    rfl
   refine pure_ (i := 2) (N := some 6) (v := ?_) (a' := ?_) #[T_,F_,T_,F_,F_,F_,F_,F_,F_,F_,F_,F_,F_,F_,F_,F_,F_,F_,F_] rfl rfl (any_of HT_.out (by kernel_rfl)) (fun _ _ _ h => h) (Or.inl ⟨by rfl, ?_⟩) ?_ ?_
   rotate_left
   ·intro w'
    go_simp
    with_reducible rfl
   rotate_left
   ·simp only [Act.put, List.setIfInBounds_toArray, List.set_cons_zero, List.set_cons_succ, i64_w, i32_w]
    rfl
   refine take_ (i := 1) (N := some 5) (v := ?_) (a' := ?_) #[T_,T_,T_,F_,F_,F_,F_,F_,F_,F_,F_,F_,F_,F_,F_,F_,F_,F_,F_] rfl rfl (take_ofW HT_.out HW_.out (by kernel_rfl)) (fun _ _ _ h => h) (Or.inl ⟨by rfl, ?_⟩) hHeld ?_ ?_
   rotate_left
   ·rintro w' ⟨s0, s1, s2, s3, s4, s5⟩
    go_simp
    with_reducible rfl
   rotate_left
   ·simp only [Act.put, List.setIfInBounds_toArray, List.set_cons_zero, List.set_cons_succ, i64_w, i32_w]
    rfl
   refine take_ (i := 3) (N := some 7) (v := ?_) (a' := ?_) #[T_,T_,T_,T_,F_,F_,F_,F_,F_,F_,F_,F_,F_,F_,F_,F_,F_,F_,F_] rfl rfl (take_ofW HT_.out HW_.out (by kernel_rfl)) (fun _ _ _ h => h) (Or.inl ⟨by rfl, ?_⟩) hHeld ?_ ?_
   rotate_left
   ·rintro w' ⟨s0, s1, s2, s3, s4, s5⟩
    go_simp
    with_reducible rfl
   rotate_left
   ·simp only [Act.put, List.setIfInBounds_toArray, List.set_cons_zero, List.set_cons_succ, i64_w, i32_w]
    rfl
   refine one_ (i := 4) (N := some 8) #[T_,T_,T_,T_,T_,F_,F_,F_,F_,F_,F_,F_,F_,F_,F_,F_,F_,F_,F_] rfl rfl (one_of HT_.out (by kernel_rfl)) (by decide) (fun K hK => ?_)
   refine goes_ Try.func18 (by kernel_rfl) rfl #[.int .i64 a0_1, .int .i64 a0_2] (by rfl) rfl rfl (by (try simp only [List.map_toArray, List.map_cons, List.map_nil]); first | done | rfl | (simp only [List.length_drop, List.length_take]; rfl)) ?_
   with_reducible refine (lockstepref03_Shape.calls a0_1 a0_2 true _ A4.out).mono ?_
   rintro e w' ⟨rfl, ⟨nd, rfl⟩⟩
   refine ⟨_, rfl, ?_⟩
   refine hK.out _ _ ⟨(blk_cell BK182.out 0).trans rfl, (blk_cell BK182.out 1).trans rfl, (blk_cell BK182.out 2).trans rfl, (blk_cell BK182.out 3).trans rfl, (blk_cell BK182.out 4).trans rfl, (blk_cell BK182.out 5).trans rfl⟩ (fun hHeld => ?_)
   clear hK K
   refine norm_ (a' := ?_) ?_ ?_
   rotate_left
   ·show Act.put _ (some 8) _ = _
    simp only [Act.put, List.setIfInBounds_toArray, List.set_cons_zero, List.set_cons_succ, i64_w, i32_w]
    rfl
   refine pure_ (i := 5) (N := some 9) (v := ?_) (a' := ?_) #[T_,T_,T_,T_,T_,T_,F_,F_,F_,F_,F_,F_,F_,F_,F_,F_,F_,F_,F_] rfl rfl (any_of HT_.out (by kernel_rfl)) (fun _ _ _ h => h) (Or.inl ⟨by rfl, ?_⟩) ?_ ?_
   rotate_left
   ·intro w'
    go_simp
    with_reducible rfl
   rotate_left
   ·simp only [Act.put, List.setIfInBounds_toArray, List.set_cons_zero, List.set_cons_succ, i64_w, i32_w]
    rfl
   refine pure_ (i := 6) (N := some 10) (v := ?_) (a' := ?_) #[T_,T_,T_,T_,T_,T_,T_,F_,F_,F_,F_,F_,F_,F_,F_,F_,F_,F_,F_] rfl rfl (any_of HT_.out (by kernel_rfl)) (fun _ _ _ h => h) (Or.inl ⟨by rfl, ?_⟩) ?_ ?_
   rotate_left
   ·intro w'
    go_simp
    with_reducible rfl
   rotate_left
   ·simp only [Act.put, List.setIfInBounds_toArray, List.set_cons_zero, List.set_cons_succ, i64_w, i32_w]
    rfl
   refine pure_ (i := 9) (N := some 13) (v := ?_) (a' := ?_) #[T_,T_,T_,T_,T_,T_,T_,F_,F_,T_,F_,F_,F_,F_,F_,F_,F_,F_,F_] rfl rfl (any_of HT_.out (by kernel_rfl)) (fun _ _ _ h => h) (Or.inl ⟨by rfl, ?_⟩) ?_ ?_
   rotate_left
   ·intro w'
    go_simp
    with_reducible rfl
   rotate_left
   ·simp only [Act.put, List.setIfInBounds_toArray, List.set_cons_zero, List.set_cons_succ, i64_w, i32_w]
    rfl
   refine take_ (i := 7) (N := some 11) (v := ?_) (a' := ?_) #[T_,T_,T_,T_,T_,T_,T_,T_,F_,T_,F_,F_,F_,F_,F_,F_,F_,F_,F_] rfl rfl (take_ofW HT_.out HW_.out (by kernel_rfl)) (fun _ _ _ h => h) (Or.inl ⟨by rfl, ?_⟩) hHeld ?_ ?_
   rotate_left
   ·rintro w' ⟨s0, s1, s2, s3, s4, s5⟩
    go_simp
    with_reducible rfl
   rotate_left
   ·simp only [Act.put, List.setIfInBounds_toArray, List.set_cons_zero, List.set_cons_succ, i64_w, i32_w]
    rfl
   refine take_ (i := 10) (N := some 14) (v := ?_) (a' := ?_) #[T_,T_,T_,T_,T_,T_,T_,T_,F_,T_,T_,F_,F_,F_,F_,F_,F_,F_,F_] rfl rfl (take_ofW HT_.out HW_.out (by kernel_rfl)) (fun _ _ _ h => h) (Or.inl ⟨by rfl, ?_⟩) hHeld ?_ ?_
   rotate_left
   ·rintro w' ⟨s0, s1, s2, s3, s4, s5⟩
    go_simp
    with_reducible rfl
   rotate_left
   ·simp only [Act.put, List.setIfInBounds_toArray, List.set_cons_zero, List.set_cons_succ, i64_w, i32_w]
    rfl
   refine pure_ (i := 11) (N := some 15) (v := ?_) (a' := ?_) #[T_,T_,T_,T_,T_,T_,T_,T_,F_,T_,T_,T_,F_,F_,F_,F_,F_,F_,F_] rfl rfl (any_of HT_.out (by kernel_rfl)) (fun _ _ _ h => h) (Or.inl ⟨by rfl, ?_⟩) ?_ ?_
   rotate_left
   ·intro w'
    go_simp
    with_reducible rfl
   rotate_left
   ·simp only [Act.put, List.setIfInBounds_toArray, List.set_cons_zero, List.set_cons_succ, i64_w, i32_w]
    rfl
   refine one_ (i := 8) (N := some 12) #[T_,T_,T_,T_,T_,T_,T_,T_,T_,T_,T_,T_,F_,F_,F_,F_,F_,F_,F_] rfl rfl (one_of HT_.out (by kernel_rfl)) (by decide) (fun K hK => ?_)
   refine goes_ Try.func29 (by kernel_rfl) rfl #[.agg #[.int .i64 a0_0, .int .i64 a0_1, .int .i64 a0_2, .int .i64 a0_3, .slice A0_4 l0_4.length c0_4, .int .u64 a0_5]] (by rfl) rfl rfl (by (try simp only [List.map_toArray, List.map_cons, List.map_nil]); first | done | rfl | (simp only [List.length_drop, List.length_take]; rfl)) ?_
   with_reducible refine (lockstepref03_Args.calls k a0_0 a0_1 a0_2 a0_3 _ _ l0_4 a0_5 t184 _ ?side1 ?side2 A6.out).mono ?_
   (case side1 => repeat (first | exact (Kd.C_below HR0_4.out (B1_)) | (with_reducible refine Kd.C_alloc ?_ _) | (with_reducible refine Kd.C_drewN ?_ _) | (with_reducible refine Kd.C_drew ?_)))
   (case side2 => exact HC0_4.out)
   rintro e w13 ⟨rfl, hb⟩
   refine ⟨_, rfl, ?_⟩
   have n0_ := Aside0.mk (blk_below (g := gb182) (o := .cells #[.int .i64 a0_0, .int .i64 a0_1, .int .i64 a0_2, .int .i64 a0_3, .slice A0_4 l0_4.length c0_4, .int .u64 a0_5] 27 (0, 0)) (by (with_reducible repeat (first | refine blk_drewN ?_ _ | refine blk_drew ?_ | refine blk_alloc ?_ _)); exact BK182.out) hb)
   have n1_ := Aside0.mk (below_step (B1_) hb)
   clear BK182
   clear HB
   have BK182 := n0_
   have HB := n1_
   clear n0_ n1_
   (try clear hb)
   (try clear hb2)
   (try clear hk)
   (try clear hi)
   refine hK.out _ _ ⟨(blk_cell BK182.out 0).trans rfl, (blk_cell BK182.out 1).trans rfl, (blk_cell BK182.out 2).trans rfl, (blk_cell BK182.out 3).trans rfl, (blk_cell BK182.out 4).trans rfl, (blk_cell BK182.out 5).trans rfl⟩ (fun hHeld => ?_)
   clear hK K
   refine norm_ (a' := ?_) ?_ ?_
   rotate_left
   ·show Act.put _ (some 12) _ = _
    simp only [Act.put, List.setIfInBounds_toArray, List.set_cons_zero, List.set_cons_succ, i64_w, i32_w]
    rfl
   refine pure_ (i := 12) (N := some 16) (v := ?_) (a' := ?_) #[T_,T_,T_,T_,T_,T_,T_,T_,T_,T_,T_,T_,T_,F_,F_,F_,F_,F_,F_] rfl rfl (any_of HT_.out (by kernel_rfl)) (fun _ _ _ h => h) (Or.inl ⟨by rfl, ?_⟩) ?_ ?_
   rotate_left
   ·intro w'
    go_simp
    with_reducible rfl
   rotate_left
   ·simp only [Act.put, List.setIfInBounds_toArray, List.set_cons_zero, List.set_cons_succ, i64_w, i32_w]
    rfl
   refine pure_ (i := 13) (N := some 17) (v := ?_) (a' := ?_) #[T_,T_,T_,T_,T_,T_,T_,T_,T_,T_,T_,T_,T_,T_,F_,F_,F_,F_,F_] rfl rfl (any_of HT_.out (by kernel_rfl)) (fun _ _ _ h => h) (Or.inl ⟨by rfl, ?_⟩) ?_ ?_
   rotate_left
   ·intro w'
    go_simp
    with_reducible rfl
   rotate_left
   ·simp only [Act.put, List.setIfInBounds_toArray, List.set_cons_zero, List.set_cons_succ, i64_w, i32_w]
    rfl
   refine pure_ (i := 14) (N := some 18) (v := ?_) (a' := ?_) #[T_,T_,T_,T_,T_,T_,T_,T_,T_,T_,T_,T_,T_,T_,T_,F_,F_,F_,F_] rfl rfl (any_of HT_.out (by kernel_rfl)) (fun _ _ _ h => h) (Or.inl ⟨by rfl, ?_⟩) ?_ ?_
   rotate_left
   ·intro w'
    go_simp
    with_reducible rfl
   rotate_left
   ·simp only [Act.put, List.setIfInBounds_toArray, List.set_cons_zero, List.set_cons_succ, i64_w, i32_w]
    rfl
   refine pure_ (i := 15) (N := some 19) (v := undef) (a' := ?_) #[T_,T_,T_,T_,T_,T_,T_,T_,T_,T_,T_,T_,T_,T_,T_,T_,F_,F_,F_] rfl rfl (any_of HT_.out (by kernel_rfl)) (fun _ _ _ h => h) (Or.inr ⟨by rfl, rfl⟩) ?_ ?_
   rotate_left
   ·simp only [Act.put, List.setIfInBounds_toArray, List.set_cons_zero, List.set_cons_succ, i64_w, i32_w]
    rfl
   refine pure_ (i := 16) (N := some 20) (v := undef) (a' := ?_) #[T_,T_,T_,T_,T_,T_,T_,T_,T_,T_,T_,T_,T_,T_,T_,T_,T_,F_,F_] rfl rfl (any_of HT_.out (by kernel_rfl)) (fun _ _ _ h => h) (Or.inr ⟨by rfl, rfl⟩) ?_ ?_
   rotate_left
   ·simp only [Act.put, List.setIfInBounds_toArray, List.set_cons_zero, List.set_cons_succ, i64_w, i32_w]
    rfl
   refine pure_ (i := 17) (N := some 21) (v := undef) (a' := ?_) #[T_,T_,T_,T_,T_,T_,T_,T_,T_,T_,T_,T_,T_,T_,T_,T_,T_,T_,F_] rfl rfl (any_of HT_.out (by kernel_rfl)) (fun _ _ _ h => h) (Or.inr ⟨by rfl, rfl⟩) ?_ ?_
   rotate_left
   ·simp only [Act.put, List.setIfInBounds_toArray, List.set_cons_zero, List.set_cons_succ, i64_w, i32_w]
    rfl
   refine pure_ (i := 18) (N := some 22) (v := ?_) (a' := ?_) #[T_,T_,T_,T_,T_,T_,T_,T_,T_,T_,T_,T_,T_,T_,T_,T_,T_,T_,T_] rfl rfl (any_of HT_.out (by kernel_rfl)) (fun _ _ _ h => h) (Or.inl ⟨by rfl, ?_⟩) ?_ ?_
   rotate_left
   ·intro w'
    go_simp
    with_reducible rfl
   rotate_left
   ·simp only [Act.put, List.setIfInBounds_toArray, List.set_cons_zero, List.set_cons_succ, i64_w, i32_w]
    rfl
   refine done_ (done_of HT_.out (by kernel_rfl)) ?_
   try go_wp2
   go_meet
   case rel => exact ⟨_, (true), (by first | rfl | (simp; done) | (simp [*]; done)), H', ⟨by first | omega | exact Nat.le_refl _⟩, ⟨by (with_reducible repeat (first | refine blk_drewN ?_ _ | refine blk_drew ?_ | refine blk_alloc ?_ _)); exact BK182.out⟩, ⟨B1_⟩⟩
  replace c5 := Bool.eq_false_iff.mpr c5
  subst c5
  have H1 : (lockstepref03_May.j0 k true a0_0 a0_1 a0_2 a0_3 l0_4 a0_5) = some r := by rw [if_neg (show ¬ (false = true) by decide)] at H; exact H
  clear H
  have H := H1
  clear H1
  have H' := Aside0.mk H
  clear H
  try go_wp2
  have n0_ := Aside0.mk (blk_drew BK182.out)
  have n1_ := Aside0.mk (below_drew1 HB.out)
  clear BK182
  clear HB
  have BK182 := n0_
  have HB := n1_
  clear n0_ n1_
  refine start_ (n := 19) (S := fun w' => w'.cell? ⟨gb182, 0, none⟩ = some (.int .i64 a0_0) ∧ w'.cell? ⟨gb182, 1, none⟩ = some (.int .i64 a0_1) ∧ w'.cell? ⟨gb182, 2, none⟩ = some (.int .i64 a0_2) ∧ w'.cell? ⟨gb182, 3, none⟩ = some (.int .i64 a0_3) ∧ w'.cell? ⟨gb182, 4, none⟩ = some (.slice A0_4 l0_4.length c0_4) ∧ w'.cell? ⟨gb182, 5, none⟩ = some (.int .u64 a0_5)) (ds := []) #[F_,F_,F_,F_,F_,F_,F_,F_,F_,F_,F_,F_,F_,F_,F_,F_,F_,F_,F_] (by kernel_rfl) rfl rfl ⟨(blk_cell BK182.out 0).trans rfl, (blk_cell BK182.out 1).trans rfl, (blk_cell BK182.out 2).trans rfl, (blk_cell BK182.out 3).trans rfl, (blk_cell BK182.out 4).trans rfl, (blk_cell BK182.out 5).trans rfl⟩ (fun hHeld => ?_); refine with_tabW lockstepref03_May.tab1 lockstepref03_May.bits1 (fun HT_ HW_ => ?_)
  generalize w3.drew = w14 at BK182 HB hHeld ⊢
  refine pure_ (i := 0) (N := some 4) (v := ?_) (a' := ?_) #[T_,F_,F_,F_,F_,F_,F_,F_,F_,F_,F_,F_,F_,F_,F_,F_,F_,F_,F_] rfl rfl (any_of HT_.out (by kernel_rfl)) (fun _ _ _ h => h) (Or.inl ⟨by rfl, ?_⟩) ?_ ?_
  rotate_left
  ·intro w'
   go_simp
   with_reducible rfl
  rotate_left
  ·simp only [Act.put, List.setIfInBounds_toArray, List.set_cons_zero, List.set_cons_succ, i64_w, i32_w]
   rfl
  refine pure_ (i := 2) (N := some 6) (v := ?_) (a' := ?_) #[T_,F_,T_,F_,F_,F_,F_,F_,F_,F_,F_,F_,F_,F_,F_,F_,F_,F_,F_] rfl rfl (any_of HT_.out (by kernel_rfl)) (fun _ _ _ h => h) (Or.inl ⟨by rfl, ?_⟩) ?_ ?_
  rotate_left
  ·intro w'
   go_simp
   with_reducible rfl
  rotate_left
  ·simp only [Act.put, List.setIfInBounds_toArray, List.set_cons_zero, List.set_cons_succ, i64_w, i32_w]
   rfl
  refine take_ (i := 1) (N := some 5) (v := ?_) (a' := ?_) #[T_,T_,T_,F_,F_,F_,F_,F_,F_,F_,F_,F_,F_,F_,F_,F_,F_,F_,F_] rfl rfl (take_ofW HT_.out HW_.out (by kernel_rfl)) (fun _ _ _ h => h) (Or.inl ⟨by rfl, ?_⟩) hHeld ?_ ?_
  rotate_left
  ·rintro w' ⟨s0, s1, s2, s3, s4, s5⟩
   go_simp
   with_reducible rfl
  rotate_left
  ·simp only [Act.put, List.setIfInBounds_toArray, List.set_cons_zero, List.set_cons_succ, i64_w, i32_w]
   rfl
  refine take_ (i := 3) (N := some 7) (v := ?_) (a' := ?_) #[T_,T_,T_,T_,F_,F_,F_,F_,F_,F_,F_,F_,F_,F_,F_,F_,F_,F_,F_] rfl rfl (take_ofW HT_.out HW_.out (by kernel_rfl)) (fun _ _ _ h => h) (Or.inl ⟨by rfl, ?_⟩) hHeld ?_ ?_
  rotate_left
  ·rintro w' ⟨s0, s1, s2, s3, s4, s5⟩
   go_simp
   with_reducible rfl
  rotate_left
  ·simp only [Act.put, List.setIfInBounds_toArray, List.set_cons_zero, List.set_cons_succ, i64_w, i32_w]
   rfl
  refine one_ (i := 4) (N := some 8) #[T_,T_,T_,T_,T_,F_,F_,F_,F_,F_,F_,F_,F_,F_,F_,F_,F_,F_,F_] rfl rfl (one_of HT_.out (by kernel_rfl)) (by decide) (fun K hK => ?_)
  refine goes_ Try.func18 (by kernel_rfl) rfl #[.int .i64 a0_1, .int .i64 a0_2] (by rfl) rfl rfl (by (try simp only [List.map_toArray, List.map_cons, List.map_nil]); first | done | rfl | (simp only [List.length_drop, List.length_take]; rfl)) ?_
  with_reducible refine (lockstepref03_Shape.calls a0_1 a0_2 false _ A4.out).mono ?_
  rintro e w' ⟨rfl, ⟨nd, rfl⟩⟩
  refine ⟨_, rfl, ?_⟩
  refine hK.out _ _ ⟨(blk_cell BK182.out 0).trans rfl, (blk_cell BK182.out 1).trans rfl, (blk_cell BK182.out 2).trans rfl, (blk_cell BK182.out 3).trans rfl, (blk_cell BK182.out 4).trans rfl, (blk_cell BK182.out 5).trans rfl⟩ (fun hHeld => ?_)
  clear hK K
  refine norm_ (a' := ?_) ?_ ?_
  rotate_left
  ·show Act.put _ (some 8) _ = _
   simp only [Act.put, List.setIfInBounds_toArray, List.set_cons_zero, List.set_cons_succ, i64_w, i32_w]
   rfl
  refine pure_ (i := 5) (N := some 9) (v := ?_) (a' := ?_) #[T_,T_,T_,T_,T_,T_,F_,F_,F_,F_,F_,F_,F_,F_,F_,F_,F_,F_,F_] rfl rfl (any_of HT_.out (by kernel_rfl)) (fun _ _ _ h => h) (Or.inl ⟨by rfl, ?_⟩) ?_ ?_
  rotate_left
  ·intro w'
   go_simp
   with_reducible rfl
  rotate_left
  ·simp only [Act.put, List.setIfInBounds_toArray, List.set_cons_zero, List.set_cons_succ, i64_w, i32_w]
   rfl
  refine pure_ (i := 6) (N := some 10) (v := ?_) (a' := ?_) #[T_,T_,T_,T_,T_,T_,T_,F_,F_,F_,F_,F_,F_,F_,F_,F_,F_,F_,F_] rfl rfl (any_of HT_.out (by kernel_rfl)) (fun _ _ _ h => h) (Or.inl ⟨by rfl, ?_⟩) ?_ ?_
  rotate_left
  ·intro w'
   go_simp
   with_reducible rfl
  rotate_left
  ·simp only [Act.put, List.setIfInBounds_toArray, List.set_cons_zero, List.set_cons_succ, i64_w, i32_w]
   rfl
  refine pure_ (i := 7) (N := some 11) (v := undef) (a' := ?_) #[T_,T_,T_,T_,T_,T_,T_,T_,F_,F_,F_,F_,F_,F_,F_,F_,F_,F_,F_] rfl rfl (any_of HT_.out (by kernel_rfl)) (fun _ _ _ h => h) (Or.inr ⟨by rfl, rfl⟩) ?_ ?_
  rotate_left
  ·simp only [Act.put, List.setIfInBounds_toArray, List.set_cons_zero, List.set_cons_succ, i64_w, i32_w]
   rfl
  refine pure_ (i := 8) (N := some 12) (v := undef) (a' := ?_) #[T_,T_,T_,T_,T_,T_,T_,T_,T_,F_,F_,F_,F_,F_,F_,F_,F_,F_,F_] rfl rfl (any_of HT_.out (by kernel_rfl)) (fun _ _ _ h => h) (Or.inr ⟨by rfl, rfl⟩) ?_ ?_
  rotate_left
  ·simp only [Act.put, List.setIfInBounds_toArray, List.set_cons_zero, List.set_cons_succ, i64_w, i32_w]
   rfl
  refine pure_ (i := 9) (N := some 13) (v := undef) (a' := ?_) #[T_,T_,T_,T_,T_,T_,T_,T_,T_,T_,F_,F_,F_,F_,F_,F_,F_,F_,F_] rfl rfl (any_of HT_.out (by kernel_rfl)) (fun _ _ _ h => h) (Or.inr ⟨by rfl, rfl⟩) ?_ ?_
  rotate_left
  ·simp only [Act.put, List.setIfInBounds_toArray, List.set_cons_zero, List.set_cons_succ, i64_w, i32_w]
   rfl
  refine pure_ (i := 10) (N := some 14) (v := undef) (a' := ?_) #[T_,T_,T_,T_,T_,T_,T_,T_,T_,T_,T_,F_,F_,F_,F_,F_,F_,F_,F_] rfl rfl (any_of HT_.out (by kernel_rfl)) (fun _ _ _ h => h) (Or.inr ⟨by rfl, rfl⟩) ?_ ?_
  rotate_left
  ·simp only [Act.put, List.setIfInBounds_toArray, List.set_cons_zero, List.set_cons_succ, i64_w, i32_w]
   rfl
  refine pure_ (i := 11) (N := some 15) (v := undef) (a' := ?_) #[T_,T_,T_,T_,T_,T_,T_,T_,T_,T_,T_,T_,F_,F_,F_,F_,F_,F_,F_] rfl rfl (any_of HT_.out (by kernel_rfl)) (fun _ _ _ h => h) (Or.inr ⟨by rfl, rfl⟩) ?_ ?_
  rotate_left
  ·simp only [Act.put, List.setIfInBounds_toArray, List.set_cons_zero, List.set_cons_succ, i64_w, i32_w]
   rfl
  refine pure_ (i := 12) (N := some 16) (v := undef) (a' := ?_) #[T_,T_,T_,T_,T_,T_,T_,T_,T_,T_,T_,T_,T_,F_,F_,F_,F_,F_,F_] rfl rfl (any_of HT_.out (by kernel_rfl)) (fun _ _ _ h => h) (Or.inr ⟨by rfl, rfl⟩) ?_ ?_
  rotate_left
  ·simp only [Act.put, List.setIfInBounds_toArray, List.set_cons_zero, List.set_cons_succ, i64_w, i32_w]
   rfl
  refine pure_ (i := 13) (N := some 17) (v := ?_) (a' := ?_) #[T_,T_,T_,T_,T_,T_,T_,T_,T_,T_,T_,T_,T_,T_,F_,F_,F_,F_,F_] rfl rfl (any_of HT_.out (by kernel_rfl)) (fun _ _ _ h => h) (Or.inl ⟨by rfl, ?_⟩) ?_ ?_
  rotate_left
  ·intro w'
   go_simp
   with_reducible rfl
  rotate_left
  ·simp only [Act.put, List.setIfInBounds_toArray, List.set_cons_zero, List.set_cons_succ, i64_w, i32_w]
   rfl
  refine pure_ (i := 14) (N := some 18) (v := ?_) (a' := ?_) #[T_,T_,T_,T_,T_,T_,T_,T_,T_,T_,T_,T_,T_,T_,T_,F_,F_,F_,F_] rfl rfl (any_of HT_.out (by kernel_rfl)) (fun _ _ _ h => h) (Or.inl ⟨by rfl, ?_⟩) ?_ ?_
  rotate_left
  ·intro w'
   go_simp
   with_reducible rfl
  rotate_left
  ·simp only [Act.put, List.setIfInBounds_toArray, List.set_cons_zero, List.set_cons_succ, i64_w, i32_w]
   rfl
  refine pure_ (i := 15) (N := some 19) (v := undef) (a' := ?_) #[T_,T_,T_,T_,T_,T_,T_,T_,T_,T_,T_,T_,T_,T_,T_,T_,F_,F_,F_] rfl rfl (any_of HT_.out (by kernel_rfl)) (fun _ _ _ h => h) (Or.inr ⟨by rfl, rfl⟩) ?_ ?_
  rotate_left
  ·simp only [Act.put, List.setIfInBounds_toArray, List.set_cons_zero, List.set_cons_succ, i64_w, i32_w]
   rfl
  refine pure_ (i := 16) (N := some 20) (v := undef) (a' := ?_) #[T_,T_,T_,T_,T_,T_,T_,T_,T_,T_,T_,T_,T_,T_,T_,T_,T_,F_,F_] rfl rfl (any_of HT_.out (by kernel_rfl)) (fun _ _ _ h => h) (Or.inr ⟨by rfl, rfl⟩) ?_ ?_
  rotate_left
  ·simp only [Act.put, List.setIfInBounds_toArray, List.set_cons_zero, List.set_cons_succ, i64_w, i32_w]
   rfl
  refine pure_ (i := 17) (N := some 21) (v := undef) (a' := ?_) #[T_,T_,T_,T_,T_,T_,T_,T_,T_,T_,T_,T_,T_,T_,T_,T_,T_,T_,F_] rfl rfl (any_of HT_.out (by kernel_rfl)) (fun _ _ _ h => h) (Or.inr ⟨by rfl, rfl⟩) ?_ ?_
  rotate_left
  ·simp only [Act.put, List.setIfInBounds_toArray, List.set_cons_zero, List.set_cons_succ, i64_w, i32_w]
   rfl
  refine pure_ (i := 18) (N := some 22) (v := ?_) (a' := ?_) #[T_,T_,T_,T_,T_,T_,T_,T_,T_,T_,T_,T_,T_,T_,T_,T_,T_,T_,T_] rfl rfl (any_of HT_.out (by kernel_rfl)) (fun _ _ _ h => h) (Or.inl ⟨by rfl, ?_⟩) ?_ ?_
  rotate_left
  ·intro w'
   go_simp
   with_reducible rfl
  rotate_left
  ·simp only [Act.put, List.setIfInBounds_toArray, List.set_cons_zero, List.set_cons_succ, i64_w, i32_w]
   rfl
  refine done_ (done_of HT_.out (by kernel_rfl)) ?_
  try go_wp2
  go_meet
  case rel => exact ⟨_, (true), (by first | rfl | (simp; done) | (simp [*]; done)), H', ⟨by first | omega | exact Nat.le_refl _⟩, ⟨by (with_reducible repeat (first | refine blk_drewN ?_ _ | refine blk_drew ?_ | refine blk_alloc ?_ _)); exact BK182.out⟩, ⟨B1_⟩⟩
 case rest =>
  clear HC2
  try clear c1
  try clear c2
  try clear p2
  try clear c3
  try clear c5
  try clear c7
  try clear c7b0
  try clear c7b1
  try clear c14
  obtain ⟨kq, x22_1, rfl, HA, HJ1, BK182, HB⟩ := hcut
  cases kq with
  | zero => exact absurd HA.out (by simp [lockstepref03_May.j0])
  | succ kj1 =>
   have H := HA.out
   clear HA
   simp only [lockstepref03_May.j0] at H
   by_cases c15 : x22_1 = true
   ·subst c15
    have H1 : (some false) = some r := by rw [if_pos rfl] at H; exact H
    clear H
    have H := H1
    clear H1
    obtain rfl := Option.some.inj H
    go_wp2
    go_ret
    exact ⟨by first | rfl | (simp [errW_none, errW_some] <;> rfl) | (simp [*, errW_none, errW_some] <;> rfl), B1_⟩
   replace c15 := Bool.eq_false_iff.mpr c15
   subst c15
   have H1 : (lockstepref03_May.l0 kj1 0 a0_0 a0_1 a0_2 a0_3 l0_4 a0_5) = some r := by rw [if_neg (show ¬ (false = true) by decide)] at H; exact H
   clear H
   have H := H1
   clear H1
   have H' := Aside0.mk H
   clear H
   go_wp2
   go_loopg [3] kj1 (fun kq v3 w' => ∃ (x3_2 : Int), v3 = .int .i64 x3_2 ∧ Aside0 (lockstepref03_May.l0 kq x3_2 a0_0 a0_1 a0_2 a0_3 l0_4 a0_5 = some r) ∧ Aside0 (kq ≤ kj1) ∧ Aside0 (w'.heap[gb182]? = some (.cells #[.int .i64 a0_0, .int .i64 a0_1, .int .i64 a0_2, .int .i64 a0_3, (.slice A0_4 l0_4.length c0_4), .int .u64 a0_5] 27 (0, 0))) ∧ Aside0 (Below w.heap.size w w'))
   case atStart => exact ⟨(0), (by first | rfl | (simp; done) | (simp [*]; done)), H', ⟨Nat.le_refl _⟩, ⟨by (with_reducible repeat (first | refine blk_drewN ?_ _ | refine blk_drew ?_ | refine blk_alloc ?_ _)); exact BK182.out⟩, ⟨B1_⟩⟩
   case round =>
    clear H'
    try clear c1
    try clear c2
    try clear p2
    try clear c3
    try clear c5
    try clear c7
    try clear c7b0
    try clear c7b1
    try clear c14
    try clear c15
    try clear p2
    obtain ⟨x3_2, rfl, HA, HK2, BK182, HB⟩ := hrel
    cases gk with
    | zero => exact absurd HA.out (by simp [lockstepref03_May.l0])
    | succ k2 =>
     have H := HA.out
     clear HA
     simp only [lockstepref03_May.l0] at H
     by_cases c16 : x3_2 < (l0_4.length : Int)
     ·rw [if_pos c16] at H
      have c16b0 : decide (x3_2 < (l0_4.length : Int)) = true := decide_eq_true c16
      clear c16
      by_cases c17 : 0 ≤ x3_2
      ·rw [if_pos c17] at H
       have c17b0 : decide (0 ≤ x3_2) = true := decide_eq_true c17
       clear c17
       replace H := Option.bind_eq_some_iff.mp H
       obtain ⟨t187, A180, H⟩ := H
       replace H : (if t187 = true then (lockstepref03_May.l0 k2 (wrap64 (x3_2 + 1)) a0_0 a0_1 a0_2 a0_3 l0_4 a0_5) else (some false)) = some r := H
       have A18 := Aside0.mk A180
       clear A180
       by_cases c19 : t187 = true
       ·subst c19
        have H1 : (lockstepref03_May.l0 k2 (wrap64 (x3_2 + 1)) a0_0 a0_1 a0_2 a0_3 l0_4 a0_5) = some r := by rw [if_pos rfl] at H; exact H
        clear H
        have H := H1
        clear H1
        have H' := Aside0.mk H
        clear H
        have hcz20_0 : wr.cell? ⟨gb182, 0, none⟩ = some (.int .i64 a0_0) := (blk_cell BK182.out 0).trans rfl
        have hcz20_1 : wr.cell? ⟨gb182, 1, none⟩ = some (.int .i64 a0_1) := (blk_cell BK182.out 1).trans rfl
        have hcz20_2 : wr.cell? ⟨gb182, 2, none⟩ = some (.int .i64 a0_2) := (blk_cell BK182.out 2).trans rfl
        have hcz20_3 : wr.cell? ⟨gb182, 3, none⟩ = some (.int .i64 a0_3) := (blk_cell BK182.out 3).trans rfl
        have hcz20_4 : wr.cell? ⟨gb182, 4, none⟩ = some (.slice A0_4 l0_4.length c0_4) := (blk_cell BK182.out 4).trans rfl
        have hcz20_5 : wr.cell? ⟨gb182, 5, none⟩ = some (.int .u64 a0_5) := (blk_cell BK182.out 5).trans rfl
        have hfz20_0 := blk_frozen BK182.out 0
        have hfz20_1 := blk_frozen BK182.out 1
        have hfz20_2 := blk_frozen BK182.out 2
        have hfz20_3 := blk_frozen BK182.out 3
        have hfz20_4 := blk_frozen BK182.out 4
        have hfz20_5 := blk_frozen BK182.out 5
        have p186 : 0 ≤ (x3_2 : Int) := D_
        have q186 : x3_2 < (l0_4.length : Int) := D_
        obtain ⟨ad186, e186, hx186_0⟩ := Kd.at_int HR0_4.out x3_2 p186 q186
        cases e186
        replace hx186_0 := (HB.out.cell (World.block_lt_of_cell? w _ hx186_0)).trans hx186_0
        replace p186 := eq_true p186
        replace q186 := eq_true q186
        go_wp2_with (first | ((with_reducible refine gate_callee (f := 31) rfl ?_); refine goesL_ (some 35) rfl rfl Try.func31 (by kernel_rfl) rfl #[.int .i64 (rd l0_4 x3_2)] rfl (by (try simp only [List.map_toArray, List.map_cons, List.map_nil]); first | done | rfl | (simp only [List.length_drop, List.length_take]; rfl)) ?_; (with_reducible refine (lockstepref03_Value.calls (rd l0_4 x3_2) true _ A18.out).mono ?_); rintro e w' ⟨rfl, ⟨nd, rfl⟩⟩; refine ⟨_, rfl, ?_⟩))
        go_roundg k2
        case measure => have := HJ1.out; have := HK2.out; omega
        case rel => exact ⟨(wrap64 (x3_2 + 1)), (by first | rfl | (simp; done) | (simp [*]; done)), H', ⟨by have := HJ1.out; have := HK2.out; omega⟩, ⟨by (with_reducible repeat (first | refine blk_drewN ?_ _ | refine blk_drew ?_ | refine blk_alloc ?_ _)); exact BK182.out⟩, ⟨B1_⟩⟩
       replace c19 := Bool.eq_false_iff.mpr c19
       subst c19
       have H1 : (some false) = some r := by rw [if_neg (show ¬ (false = true) by decide)] at H; exact H
       clear H
       have H := H1
       clear H1
       obtain rfl := Option.some.inj H
       have hcz21_0 : wr.cell? ⟨gb182, 0, none⟩ = some (.int .i64 a0_0) := (blk_cell BK182.out 0).trans rfl
       have hcz21_1 : wr.cell? ⟨gb182, 1, none⟩ = some (.int .i64 a0_1) := (blk_cell BK182.out 1).trans rfl
       have hcz21_2 : wr.cell? ⟨gb182, 2, none⟩ = some (.int .i64 a0_2) := (blk_cell BK182.out 2).trans rfl
       have hcz21_3 : wr.cell? ⟨gb182, 3, none⟩ = some (.int .i64 a0_3) := (blk_cell BK182.out 3).trans rfl
       have hcz21_4 : wr.cell? ⟨gb182, 4, none⟩ = some (.slice A0_4 l0_4.length c0_4) := (blk_cell BK182.out 4).trans rfl
       have hcz21_5 : wr.cell? ⟨gb182, 5, none⟩ = some (.int .u64 a0_5) := (blk_cell BK182.out 5).trans rfl
       have hfz21_0 := blk_frozen BK182.out 0
       have hfz21_1 := blk_frozen BK182.out 1
       have hfz21_2 := blk_frozen BK182.out 2
       have hfz21_3 := blk_frozen BK182.out 3
       have hfz21_4 := blk_frozen BK182.out 4
       have hfz21_5 := blk_frozen BK182.out 5
       have p186 : 0 ≤ (x3_2 : Int) := D_
       have q186 : x3_2 < (l0_4.length : Int) := D_
       obtain ⟨ad186, e186, hx186_0⟩ := Kd.at_int HR0_4.out x3_2 p186 q186
       cases e186
       replace hx186_0 := (HB.out.cell (World.block_lt_of_cell? w _ hx186_0)).trans hx186_0
       replace p186 := eq_true p186
       replace q186 := eq_true q186
       go_wp2_with (first | ((with_reducible refine gate_callee (f := 31) rfl ?_); refine goesL_ (some 35) rfl rfl Try.func31 (by kernel_rfl) rfl #[.int .i64 (rd l0_4 x3_2)] rfl (by (try simp only [List.map_toArray, List.map_cons, List.map_nil]); first | done | rfl | (simp only [List.length_drop, List.length_take]; rfl)) ?_; (with_reducible refine (lockstepref03_Value.calls (rd l0_4 x3_2) false _ A18.out).mono ?_); rintro e w' ⟨rfl, ⟨nd, rfl⟩⟩; refine ⟨_, rfl, ?_⟩))
       go_ret
       exact ⟨by first | rfl | (simp [errW_none, errW_some] <;> rfl) | (simp [*, errW_none, errW_some] <;> rfl), B1_⟩
      rw [if_neg c17] at H
      exact absurd H (by simp)
     rw [if_neg c16] at H
     have c16b0 : decide (x3_2 < (l0_4.length : Int)) = false := decide_eq_false c16
     clear c16
     by_cases c22 : a0_0 = 17
     ·rw [if_pos c22] at H
      have c22b0 : (a0_0 == 17) = true := beq_iff_eq.mpr c22
      have c22b1 : (a0_0 != 17) = false := bne_eq_false_iff_eq.mpr c22
      clear c22
      obtain rfl := Option.some.inj H
      have hcz23_0 : wr.cell? ⟨gb182, 0, none⟩ = some (.int .i64 a0_0) := (blk_cell BK182.out 0).trans rfl
      have hcz23_1 : wr.cell? ⟨gb182, 1, none⟩ = some (.int .i64 a0_1) := (blk_cell BK182.out 1).trans rfl
      have hcz23_2 : wr.cell? ⟨gb182, 2, none⟩ = some (.int .i64 a0_2) := (blk_cell BK182.out 2).trans rfl
      have hcz23_3 : wr.cell? ⟨gb182, 3, none⟩ = some (.int .i64 a0_3) := (blk_cell BK182.out 3).trans rfl
      have hcz23_4 : wr.cell? ⟨gb182, 4, none⟩ = some (.slice A0_4 l0_4.length c0_4) := (blk_cell BK182.out 4).trans rfl
      have hcz23_5 : wr.cell? ⟨gb182, 5, none⟩ = some (.int .u64 a0_5) := (blk_cell BK182.out 5).trans rfl
      have hfz23_0 := blk_frozen BK182.out 0
      have hfz23_1 := blk_frozen BK182.out 1
      have hfz23_2 := blk_frozen BK182.out 2
      have hfz23_3 := blk_frozen BK182.out 3
      have hfz23_4 := blk_frozen BK182.out 4
      have hfz23_5 := blk_frozen BK182.out 5
      go_wp2
      go_ret
      exact ⟨by first | rfl | (simp [errW_none, errW_some] <;> rfl) | (simp [*, errW_none, errW_some] <;> rfl), B1_⟩
     rw [if_neg c22] at H
     have c22b0 : (a0_0 == 17) = false := beq_eq_false_iff_ne.mpr c22
     have c22b1 : (a0_0 != 17) = true := bne_iff_ne.mpr c22
     by_cases c24 : a0_0 = 19
     ·rw [if_pos c24] at H
      have c24b0 : (a0_0 == 19) = true := beq_iff_eq.mpr c24
      have c24b1 : (a0_0 != 19) = false := bne_eq_false_iff_eq.mpr c24
      clear c24
      obtain rfl := Option.some.inj H
      have hcz25_0 : wr.cell? ⟨gb182, 0, none⟩ = some (.int .i64 a0_0) := (blk_cell BK182.out 0).trans rfl
      have hcz25_1 : wr.cell? ⟨gb182, 1, none⟩ = some (.int .i64 a0_1) := (blk_cell BK182.out 1).trans rfl
      have hcz25_2 : wr.cell? ⟨gb182, 2, none⟩ = some (.int .i64 a0_2) := (blk_cell BK182.out 2).trans rfl
      have hcz25_3 : wr.cell? ⟨gb182, 3, none⟩ = some (.int .i64 a0_3) := (blk_cell BK182.out 3).trans rfl
      have hcz25_4 : wr.cell? ⟨gb182, 4, none⟩ = some (.slice A0_4 l0_4.length c0_4) := (blk_cell BK182.out 4).trans rfl
      have hcz25_5 : wr.cell? ⟨gb182, 5, none⟩ = some (.int .u64 a0_5) := (blk_cell BK182.out 5).trans rfl
      have hfz25_0 := blk_frozen BK182.out 0
      have hfz25_1 := blk_frozen BK182.out 1
      have hfz25_2 := blk_frozen BK182.out 2
      have hfz25_3 := blk_frozen BK182.out 3
      have hfz25_4 := blk_frozen BK182.out 4
      have hfz25_5 := blk_frozen BK182.out 5
      go_wp2
      go_ret
      exact ⟨by first | rfl | (simp [errW_none, errW_some] <;> rfl) | (simp [*, errW_none, errW_some] <;> rfl), B1_⟩
     rw [if_neg c24] at H
     have c24b0 : (a0_0 == 19) = false := beq_eq_false_iff_ne.mpr c24
     have c24b1 : (a0_0 != 19) = true := bne_iff_ne.mpr c24
     replace H := Option.bind_eq_some_iff.mp H
     obtain ⟨t188, A260, H⟩ := H
     replace H : (some t188) = some r := H
     have A26 := Aside0.mk A260
     clear A260
     obtain rfl := Option.some.inj H
     have hcz27_0 : wr.cell? ⟨gb182, 0, none⟩ = some (.int .i64 a0_0) := (blk_cell BK182.out 0).trans rfl
     have hcz27_1 : wr.cell? ⟨gb182, 1, none⟩ = some (.int .i64 a0_1) := (blk_cell BK182.out 1).trans rfl
     have hcz27_2 : wr.cell? ⟨gb182, 2, none⟩ = some (.int .i64 a0_2) := (blk_cell BK182.out 2).trans rfl
     have hcz27_3 : wr.cell? ⟨gb182, 3, none⟩ = some (.int .i64 a0_3) := (blk_cell BK182.out 3).trans rfl
     have hcz27_4 : wr.cell? ⟨gb182, 4, none⟩ = some (.slice A0_4 l0_4.length c0_4) := (blk_cell BK182.out 4).trans rfl
     have hcz27_5 : wr.cell? ⟨gb182, 5, none⟩ = some (.int .u64 a0_5) := (blk_cell BK182.out 5).trans rfl
     have hfz27_0 := blk_frozen BK182.out 0
     have hfz27_1 := blk_frozen BK182.out 1
     have hfz27_2 := blk_frozen BK182.out 2
     have hfz27_3 := blk_frozen BK182.out 3
     have hfz27_4 := blk_frozen BK182.out 4
     have hfz27_5 := blk_frozen BK182.out 5
     go_wp2_with (first | ((with_reducible refine gate_callee (f := 31) rfl ?_); refine goesL_ (some 50) rfl rfl Try.func31 (by kernel_rfl) rfl #[.int .i64 a0_3] rfl (by (try simp only [List.map_toArray, List.map_cons, List.map_nil]); first | done | rfl | (simp only [List.length_drop, List.length_take]; rfl)) ?_; (with_reducible refine (lockstepref03_Value.calls a0_3 t188 _ A26.out).mono ?_); rintro e w' ⟨rfl, ⟨nd, rfl⟩⟩; refine ⟨_, rfl, ?_⟩))
     go_ret
     exact ⟨by first | rfl | (simp [errW_none, errW_some] <;> rfl) | (simp [*, errW_none, errW_some] <;> rfl), B1_⟩

end Go.Proofs.Ytblhphjdjpodcaa.Q
namespace Go.Proofs.Ytblhphjdjpodcaa.KP
open Go.RowKit Go.Proofs.Ytblhphjdjpodcaa.Q Go.Proofs.YtblhphjdjpodcaaW.PrintWords
set_option linter.unusedSimpArgs false
set_option linter.unusedVariables false

theorem rwm_ok (b : Int) : lockstepref01_May.f b = some (wm b) := by
  unfold lockstepref01_May.f wm
  by_cases h1 : b = 1
  · simp [h1]
  by_cases h2 : b = 8
  · simp [h2]
  by_cases h3 : b = 16
  · simp [h3]
  by_cases h4 : b = 32
  · simp [h4]
  simp [h1, h2, h3, h4]
theorem rshape_ok (b n : Int) : lockstepref03_Shape.f b n = some (shp b n) := by
  rw [← shape_ok]
  unfold lockstepref03_Shape.f kind_Shape.f
  rw [rwm_ok, wm_ok, Option.bind_some, Option.bind_some]
  cases hb : wm b with
  | false => rfl
  | true =>
    have e : (b > 1) = (b ≥ 8) := by
      rcases wm_cases hb with h | h | h | h | h <;> subst h <;> simp
    simp only [if_true, e]
theorem rvalue_ok (v : Int) : lockstepref03_Value.f v = some (val v) := by
  unfold lockstepref03_Value.f val
  by_cases h : v > 0
  · rw [if_pos h]
    have : (v < 1024) = (1 ≤ v ∧ v ≤ 1023) := by apply propext; omega
    simp only [this]
  · rw [if_neg h]
    have : ¬ (1 ≤ v ∧ v ≤ 1023) := by omega
    simp [this]
def ra (c n : Int) : Int :=
  if c = 0 then 0 else if (1 ≤ c ∧ c ≤ 12) ∨ c = 17 then 2 else if c = 13 ∨ c = 18 ∨ c = 19 then 3 else if c = 14 ∨ c = 15 ∨ c = 16 ∨ c = 22 then 1 else if c = 20 then 4 else if c = 21 then n else -1
theorem kinds {c : Int} (h : 0 ≤ c ∧ c ≤ 22) : c = 0 ∨ c = 1 ∨ c = 2 ∨ c = 3 ∨ c = 4 ∨ c = 5 ∨ c = 6 ∨ c = 7 ∨ c = 8 ∨ c = 9 ∨ c = 10 ∨ c = 11 ∨ c = 12 ∨ c = 13 ∨ c = 14 ∨ c = 15 ∨ c = 16 ∨ c = 17 ∨ c = 18 ∨ c = 19 ∨ c = 20 ∨ c = 21 ∨ c = 22 := by omega
theorem rargs_ok (c b n d : Int) (l : List Int) (i : Int) : Ev (fun k => lockstepref03_Args.f k c b n d l i) (ra c n) := by
  refine ⟨5, fun k hk => ?_⟩
  obtain ⟨k, rfl⟩ : ∃ m, k = m + 5 := ⟨k - 5, by omega⟩
  by_cases h : 0 ≤ c ∧ c ≤ 22
  · rcases kinds h with h | h | h | h | h | h | h | h | h | h | h | h | h | h | h | h | h | h | h | h | h | h | h <;> subst h <;>
      simp [lockstepref03_Args.f, lockstepref03_Args.j0, lockstepref03_Args.j1, lockstepref03_Args.j2, ra]
  · have n0 : c ≠ 0 := by omega
    have n1 : c ≠ 1 := by omega
    have n2 : c ≠ 2 := by omega
    have n3 : c ≠ 3 := by omega
    have n4 : c ≠ 4 := by omega
    have n5 : c ≠ 5 := by omega
    have n6 : c ≠ 6 := by omega
    have n7 : c ≠ 7 := by omega
    have n8 : c ≠ 8 := by omega
    have n9 : c ≠ 9 := by omega
    have n10 : c ≠ 10 := by omega
    have n11 : c ≠ 11 := by omega
    have n12 : c ≠ 12 := by omega
    have n13 : c ≠ 13 := by omega
    have n14 : c ≠ 14 := by omega
    have n15 : c ≠ 15 := by omega
    have n16 : c ≠ 16 := by omega
    have n17 : c ≠ 17 := by omega
    have n18 : c ≠ 18 := by omega
    have n19 : c ≠ 19 := by omega
    have n20 : c ≠ 20 := by omega
    have n21 : c ≠ 21 := by omega
    have n22 : c ≠ 22 := by omega
    have e : ra c n = -1 := by
      unfold ra
      rw [if_neg n0, if_neg (by omega), if_neg (by omega), if_neg (by omega), if_neg n20, if_neg n21]
    rw [e]
    simp [lockstepref03_Args.f, lockstepref03_Args.j0, lockstepref03_Args.j1, lockstepref03_Args.j2, n0, n1, n2, n3, n4, n5, n6, n7, n8, n9, n10, n11, n12, n13, n14, n15, n16, n17, n18, n19, n20, n21, n22]
theorem cutv_eq {b i : Int} (m : Nat) (hm : m ≤ 64) (e : wrap64 (64 - b) = (m : Int)) : cutv i b = (i * 2 ^ m) % 18446744073709551616 / 2 ^ m := by
  unfold cutv shr shl
  rw [e, Int.toNat_natCast, Nat.min_eq_left (show m ≤ IntKind.u64.bits from hm), IntKind.wrap_u64]
theorem rcut_ok {b i : Int} (hb : wm b = true) (h0 : 0 ≤ i) (h1 : i < 18446744073709551616) : ∃ v, lockstepref01_Cut.f i b = some v ∧ (v == i) = (cutv i b == i) := by
  unfold lockstepref01_Cut.f
  rw [rwm_ok, hb, Option.bind_some, if_pos rfl]
  have key : ∀ v w : Int, v = w → (v == i) = (w == i) := fun v w e => by rw [e]
  rcases wm_cases hb with h | h | h | h | h <;> subst h
  · refine ⟨Int.tmod i 2, by rw [if_neg (by decide), if_pos (by decide +kernel), if_neg (by decide +kernel)]; rw [show shl .u64 1 (IntKind.u64.wrap 1) = 2 by decide +kernel], key _ _ ?_⟩
    rw [Int.tmod_eq_emod_of_nonneg h0, cutv_eq 63 (by decide) (by decide +kernel), show (2 : Int) ^ 63 = 9223372036854775808 by decide +kernel]; omega
  · refine ⟨Int.tmod i 256, by rw [if_neg (by decide), if_pos (by decide +kernel), if_neg (by decide +kernel)]; rw [show shl .u64 1 (IntKind.u64.wrap 8) = 256 by decide +kernel], key _ _ ?_⟩
    rw [Int.tmod_eq_emod_of_nonneg h0, cutv_eq 56 (by decide) (by decide +kernel), show (2 : Int) ^ 56 = 72057594037927936 by decide +kernel]; omega
  · refine ⟨Int.tmod i 65536, by rw [if_neg (by decide), if_pos (by decide +kernel), if_neg (by decide +kernel)]; rw [show shl .u64 1 (IntKind.u64.wrap 16) = 65536 by decide +kernel], key _ _ ?_⟩
    rw [Int.tmod_eq_emod_of_nonneg h0, cutv_eq 48 (by decide) (by decide +kernel), show (2 : Int) ^ 48 = 281474976710656 by decide +kernel]; omega
  · refine ⟨Int.tmod i 4294967296, by rw [if_neg (by decide), if_pos (by decide +kernel), if_neg (by decide +kernel)]; rw [show shl .u64 1 (IntKind.u64.wrap 32) = 4294967296 by decide +kernel], key _ _ ?_⟩
    rw [Int.tmod_eq_emod_of_nonneg h0, cutv_eq 32 (by decide) (by decide +kernel), show (2 : Int) ^ 32 = 4294967296 by decide +kernel]; omega
  · refine ⟨i, by rw [if_pos rfl], key _ _ ?_⟩
    rw [cutv_eq 0 (by decide) (by decide +kernel), show (2 : Int) ^ 0 = 1 by decide +kernel]; omega
theorem rfits_ok {c b n d i : Int} (l : List Int) (hc : 0 ≤ c ∧ c ≤ 22) (hs : shp b n = true) (h0 : 0 ≤ i) (h1 : i < 18446744073709551616) : Ev (fun k => lockstepref03_Fits.f k c b n d l i) (tk c b n i).2 := by
  have hb : wm b = true := by unfold shp at hs; rw [Bool.and_eq_true] at hs; exact hs.1
  have hn : n = 1 ∨ ¬ n < 2 := by have := (shp_cases hs).2; omega
  refine ⟨5, fun k hk => ?_⟩
  obtain ⟨k, rfl⟩ : ∃ m, k = m + 5 := ⟨k - 5, by omega⟩
  obtain ⟨v, hv1, hv2⟩ := rcut_ok (i := i) hb h0 h1
  rcases hn with hn | hn
  · subst hn
    rcases kinds hc with h | h | h | h | h | h | h | h | h | h | h | h | h | h | h | h | h | h | h | h | h | h | h <;> subst h <;> by_cases h8 : b < 8 <;>
    first
    | (simp [lockstepref03_Fits.f, lockstepref03_Fits.j0, lockstepref03_Fits.j1, lockstepref03_Fits.j2, tk, rwm_ok, hv1, hv2, h8]; done)
    | (by_cases hi : i < IntKind.u64.wrap b <;> by_cases hj : IntKind.u64.wrap b < i <;> by_cases hk : i ≤ 64 <;> simp [lockstepref03_Fits.f, lockstepref03_Fits.j0, lockstepref03_Fits.j1, lockstepref03_Fits.j2, tk, rwm_ok, hv1, hv2, h8, hi, hj, hk]; done)
    | (by_cases hi : i < IntKind.u64.wrap n <;> simp [lockstepref03_Fits.f, lockstepref03_Fits.j0, lockstepref03_Fits.j1, lockstepref03_Fits.j2, tk, rwm_ok, hv1, hv2, h8, hi]; done)
    | (simp [lockstepref03_Fits.f, lockstepref03_Fits.j0, lockstepref03_Fits.j1, lockstepref03_Fits.j2, tk, rwm_ok, hv1, hv2, h8] <;> omega)
  · have hne : n ≠ 1 := by omega
    rcases kinds hc with h | h | h | h | h | h | h | h | h | h | h | h | h | h | h | h | h | h | h | h | h | h | h <;> subst h <;> by_cases h8 : b < 8 <;>
    first
    | (simp [lockstepref03_Fits.f, lockstepref03_Fits.j0, lockstepref03_Fits.j1, lockstepref03_Fits.j2, tk, rwm_ok, hv1, hv2, h8, hn, hne]; done)
    | (by_cases hi : i < IntKind.u64.wrap b <;> by_cases hj : IntKind.u64.wrap b < i <;> by_cases hk : i ≤ 64 <;> simp [lockstepref03_Fits.f, lockstepref03_Fits.j0, lockstepref03_Fits.j1, lockstepref03_Fits.j2, tk, rwm_ok, hv1, hv2, h8, hn, hne, hi, hj, hk]; done)
    | (by_cases hi : i < IntKind.u64.wrap n <;> simp [lockstepref03_Fits.f, lockstepref03_Fits.j0, lockstepref03_Fits.j1, lockstepref03_Fits.j2, tk, rwm_ok, hv1, hv2, h8, hn, hne, hi]; done)
    | (simp [lockstepref03_Fits.f, lockstepref03_Fits.j0, lockstepref03_Fits.j1, lockstepref03_Fits.j2, tk, rwm_ok, hv1, hv2, h8, hn, hne] <;> omega)
theorem tk_len {c b n : Int} (i : Int) (hc : 0 ≤ c ∧ c ≤ 22) (hn : 1 ≤ n) : ((tk c b n i).1.length : Int) = ra c n := by
  rcases kinds hc with h | h | h | h | h | h | h | h | h | h | h | h | h | h | h | h | h | h | h | h | h | h | h <;> subst h <;> simp [tk, ra] <;> omega
theorem tk_no {c b n i : Int} (hc : ¬ (0 ≤ c ∧ c ≤ 22)) : tk c b n i = ([], false) := by
  unfold tk
  rw [if_neg (by omega), if_neg (by omega), if_neg (by omega), if_neg (by omega), if_neg (by omega), if_neg (by omega), if_neg (by omega), if_neg (by omega), if_neg (by omega), if_neg (by omega), if_neg (by omega), if_neg (by omega)]
theorem ra_no {c n : Int} (hc : ¬ (0 ≤ c ∧ c ≤ 22)) : ra c n = -1 := by
  unfold ra
  rw [if_neg (by omega), if_neg (by omega), if_neg (by omega), if_neg (by omega), if_neg (by omega), if_neg (by omega)]
theorem shp_n {b n : Int} (h : shp b n = true) : 1 ≤ n := by have := (shp_cases h).2; omega
def dstv (c d : Int) : Bool := if sto c then d == 0 else val d
theorem rmay_l0 (c b n d : Int) (l : List Int) (i : Int) (hb : l.length ≤ maxLen) (m : Nat) : ∀ j : Nat, j ≤ l.length → l.length - j = m →
    Ev (fun k => lockstepref03_May.l0 k (j : Int) c b n d l i) ((l.drop j).all val && dstv c d) := by
  have hml : maxLen ≤ 9223372036854775807 := by decide
  induction m with
  | zero =>
    intro j hj hd
    refine Ev.succ ?_; simp only [lockstepref03_May.l0]
    refine Ev.ifn (by omega) ?_
    rw [List.drop_eq_nil_of_le (by omega)]
    simp only [List.all_nil, Bool.true_and, rvalue_ok, Option.bind_some]
    unfold dstv sto
    by_cases h17 : c = 17
    · exact Ev.ifp h17 (Ev.pure.of_eq (by simp [h17]))
    refine Ev.ifn h17 ?_
    by_cases h19 : c = 19
    · exact Ev.ifp h19 (Ev.pure.of_eq (by simp [h19]))
    · exact Ev.ifn h19 (Ev.pure.of_eq (by simp [h17, h19]))
  | succ m ih =>
    intro j hj hd
    have hj' : j < l.length := by omega
    have hdr : l.drop j = l.getD j 0 :: l.drop (j + 1) := by rw [List.drop_eq_getElem_cons hj', List.getD_eq_getElem?_getD, List.getElem?_eq_getElem hj']; rfl
    have hrd : rd l (j : Int) = l.getD j 0 := by simp only [rd, Int.toNat_natCast]
    refine Ev.succ ?_; simp only [lockstepref03_May.l0]
    refine Ev.ifp (by omega) (Ev.ifp (by omega) ?_)
    simp only [hrd, rvalue_ok, Option.bind_some]
    rw [hdr, List.all_cons]
    cases hv : val (l.getD j 0) with
    | true =>
      refine Ev.ifp rfl ?_
      rw [wrap_nat (by omega), Bool.true_and]; exact ih (j + 1) (by omega) (by omega)
    | false => exact Ev.ifn (by decide) Ev.pure
theorem all_any (l : List Int) : l.all val = !(l.any fun v => !val v) := by
  induction l with
  | nil => rfl
  | cons x l ih => rw [List.all_cons, List.any_cons, ih]; cases val x <;> simp
theorem rmay_ok (c b n d : Int) (l : List Int) (i : Int) (hb : l.length ≤ maxLen) (h0 : 0 ≤ i) (h1 : i < 18446744073709551616) : Ev (fun k => lockstepref03_May.f k c b n d l i) (mayv c b n d l i) := by
  unfold lockstepref03_May.f
  simp only [rshape_ok, Option.bind_some]
  have hno : Ev (fun k => lockstepref03_May.j0 k true c b n d l i) false := by
    refine Ev.succ ?_; simp only [lockstepref03_May.j0]; exact Ev.ifp trivial Ev.pure
  cases hs : shp b n with
  | false => exact (Ev.ifn (by decide) hno).of_eq (by unfold mayv; rw [hs]; rfl)
  | true =>
    refine Ev.ifp rfl ?_
    refine Ev.bind (rargs_ok c b n d l i) ?_
    have hn := shp_n hs
    by_cases hc : 0 ≤ c ∧ c ≤ 22
    · have hl := tk_len (b := b) i hc hn
      by_cases hr : ra c n = (l.length : Int)
      · refine Ev.ifp hr (Ev.bind (rfits_ok l hc hs h0 h1) ?_)
        refine Ev.succ ?_; simp only [lockstepref03_May.j0]
        have e : mayv c b n d l i = ((tk c b n i).2 && (l.all val && dstv c d)) := by
          unfold mayv
          rw [hs, decide_eq_true (hl.trans hr), all_any]
          unfold dstv
          cases (tk c b n i).2 <;> cases (if sto c then d == 0 else val d) <;> cases (l.any fun v => !val v) <;> rfl
        rw [e]
        cases (tk c b n i).2 with
        | false => exact Ev.ifp rfl Ev.pure
        | true =>
          refine Ev.ifn (by decide) ?_
          exact rmay_l0 c b n d l i hb l.length 0 (by omega) (by omega)
      · refine (Ev.ifn hr hno).of_eq ?_
        unfold mayv
        rw [decide_eq_false (fun e => hr (hl.symm.trans e))]
        simp
    · have hr := ra_no (n := n) hc
      refine (Ev.ifn (by rw [hr]; omega) hno).of_eq ?_
      unfold mayv
      rw [tk_no hc]; simp
end Go.Proofs.Ytblhphjdjpodcaa.KP
namespace Go.Proofs.Ytblhphjdjpodcaa.KP
open Go.RowKit Go.Proofs.Ytblhphjdjpodcaa.Q Go.Proofs.YtblhphjdjpodcaaW.PrintWords
set_option linter.unusedSimpArgs false
set_option linter.unusedVariables false

def big : Nat := 9223372036854775807
theorem drop_getD {α : Type} (l : List α) (i : Nat) (d : α) (h : i < l.length) : l.drop i = l.getD i d :: l.drop (i + 1) := by
  rw [List.drop_eq_getElem_cons h, List.getD_eq_getElem?_getD, List.getElem?_eq_getElem h]; rfl
theorem equal_l0 (d : Nat) : ∀ (i : Nat) (a b : List Int), a.length = b.length → a.length ≤ big → i ≤ a.length → a.length - i = d → Ev (fun k => slices_Equal_int_int.l0 k a b (a.length : Int) (i : Int)) (decide (a.drop i = b.drop i)) := by
  induction d with
  | zero =>
    intro i a b hl hb hi hd
    refine Ev.succ ?_; simp only [slices_Equal_int_int.l0]
    refine Ev.ifn (by omega) ?_
    rw [List.drop_of_length_le (by omega), List.drop_of_length_le (by omega)]
    exact Ev.pure.of_eq (by simp)
  | succ d ih =>
    intro i a b hl hb hi hd
    have hbb : big = 9223372036854775807 := rfl
    refine Ev.succ ?_; simp only [slices_Equal_int_int.l0]
    refine Ev.ifp (by omega) (Ev.ifp (by omega) (Ev.ifp (by omega) (Ev.ifp (by omega) ?_)))
    rw [show rd a (i : Int) = a.getD i 0 by simp [rd], show rd b (i : Int) = b.getD i 0 by simp [rd]]
    rw [drop_getD a i 0 (by omega), drop_getD b i 0 (by omega)]
    by_cases h : a.getD i 0 = b.getD i 0
    · refine Ev.ifp h ?_
      rw [wrap_nat (by omega)]
      exact (ih (i + 1) a b hl hb (by omega) (by omega)).of_eq (by rw [h]; simp)
    · refine Ev.ifn h (Ev.pure.of_eq ?_)
      rw [decide_eq_false]
      intro he; injection he with h1 _; exact h h1
theorem equal_ok (a b : List Int) (hb : a.length ≤ big) : Ev (fun k => slices_Equal_int_int.f k a b) (decide (a = b)) := by
  unfold slices_Equal_int_int.f
  by_cases h : a.length = b.length
  · refine Ev.ifp (by omega) ?_
    simpa using equal_l0 a.length 0 a b h hb (by omega) (by omega)
  · refine Ev.ifn (by omega) (Ev.pure.of_eq ?_)
    rw [decide_eq_false]
    intro he; exact h (by rw [he])
theorem ints_l0 (d : Nat) : ∀ (i : Nat) (a b : List Int), a.length = b.length → a.length ≤ big → i ≤ a.length → a.length - i = d → Ev (fun k => lockstepref02_Ints.l0 k a b (i : Int)) (decide (a.drop i = b.drop i)) := by
  induction d with
  | zero =>
    intro i a b hl hb hi hd
    refine Ev.succ ?_; simp only [lockstepref02_Ints.l0]
    refine Ev.ifn (by omega) ?_
    rw [List.drop_of_length_le (by omega), List.drop_of_length_le (by omega)]
    exact Ev.pure.of_eq (by simp)
  | succ d ih =>
    intro i a b hl hb hi hd
    have hbb : big = 9223372036854775807 := rfl
    refine Ev.succ ?_; simp only [lockstepref02_Ints.l0]
    refine Ev.ifp (by omega) (Ev.ifp (by omega) (Ev.ifp (by omega) ?_))
    rw [show rd a (i : Int) = a.getD i 0 by simp [rd], show rd b (i : Int) = b.getD i 0 by simp [rd]]
    rw [drop_getD a i 0 (by omega), drop_getD b i 0 (by omega)]
    by_cases h : a.getD i 0 = b.getD i 0
    · refine Ev.ifp h ?_
      rw [wrap_nat (by omega)]
      exact (ih (i + 1) a b hl hb (by omega) (by omega)).of_eq (by rw [h]; simp)
    · refine Ev.ifn h (Ev.pure.of_eq ?_)
      rw [decide_eq_false]
      intro he; injection he with h1 _; exact h h1
theorem ints_ok (a b : List Int) (hb : a.length ≤ big) : Ev (fun k => lockstepref02_Ints.f k a b) (decide (a = b)) := by
  unfold lockstepref02_Ints.f
  by_cases h : a.length = b.length
  · refine Ev.ifp (by omega) ?_
    simpa using ints_l0 a.length 0 a b h hb (by omega) (by omega)
  · refine Ev.ifn (by omega) (Ev.pure.of_eq ?_)
    rw [decide_eq_false]
    intro he; exact h (by rw [he])

def sm (c b n d : Int) (l : List Int) (i : Int) (c' b' n' d' : Int) (l' : List Int) (i' : Int) : Bool := decide (c = c' ∧ b = b' ∧ n = n' ∧ d = d' ∧ i = i' ∧ l = l')
theorem ksame_ok (c b n d : Int) (l : List Int) (i : Int) (c' b' n' d' : Int) (l' : List Int) (i' : Int) (hb : l.length ≤ big) : Ev (fun k => kind_Same.f k c b n d l i c' b' n' d' l' i') (sm c b n d l i c' b' n' d' l' i') := by
  unfold kind_Same.f sm
  by_cases h1 : c = c'
  · refine Ev.ifp h1 ?_
    by_cases h2 : b = b'
    · refine Ev.ifp h2 ?_
      by_cases h3 : n = n'
      · refine Ev.ifp h3 ?_
        by_cases h4 : d = d'
        · refine Ev.ifp h4 ?_
          by_cases h5 : i = i'
          · refine Ev.ifp h5 (Ev.bind (equal_ok l l' hb) ?_)
            exact Ev.pure.of_eq (by simp [h1, h2, h3, h4, h5])
          · exact Ev.ifn h5 (Ev.pure.of_eq (by simp [h5]))
        · exact Ev.ifn h4 (Ev.pure.of_eq (by simp [h4]))
      · exact Ev.ifn h3 (Ev.pure.of_eq (by simp [h3]))
    · exact Ev.ifn h2 (Ev.pure.of_eq (by simp [h2]))
  · exact Ev.ifn h1 (Ev.pure.of_eq (by simp [h1]))
theorem rsame_ok (c b n d : Int) (l : List Int) (i : Int) (c' b' n' d' : Int) (l' : List Int) (i' : Int) (hb : l.length ≤ big) : Ev (fun k => lockstepref03_Same.f k c b n d l i c' b' n' d' l' i') (sm c b n d l i c' b' n' d' l' i') := by
  unfold lockstepref03_Same.f sm
  by_cases h1 : c = c'
  · refine Ev.ifp h1 ?_
    by_cases h2 : b = b'
    · refine Ev.ifp h2 ?_
      by_cases h3 : n = n'
      · refine Ev.ifp h3 ?_
        by_cases h4 : d = d'
        · refine Ev.ifp h4 ?_
          by_cases h5 : i = i'
          · refine Ev.ifp h5 (Ev.bind (ints_ok l l' hb) ?_)
            exact Ev.pure.of_eq (by simp [h1, h2, h3, h4, h5])
          · exact Ev.ifn h5 (Ev.pure.of_eq (by simp [h5]))
        · exact Ev.ifn h4 (Ev.pure.of_eq (by simp [h4]))
      · exact Ev.ifn h3 (Ev.pure.of_eq (by simp [h3]))
    · exact Ev.ifn h2 (Ev.pure.of_eq (by simp [h2]))
  · exact Ev.ifn h1 (Ev.pure.of_eq (by simp [h1]))
theorem sm_comm (c b n d : Int) (l : List Int) (i : Int) (c' b' n' d' : Int) (l' : List Int) (i' : Int) : sm c b n d l i c' b' n' d' l' i' = sm c' b' n' d' l' i' c b n d l i := by
  unfold sm
  have : (c = c' ∧ b = b' ∧ n = n' ∧ d = d' ∧ i = i' ∧ l = l') ↔ (c' = c ∧ b' = b ∧ n' = n ∧ d' = d ∧ i' = i ∧ l' = l) :=
    ⟨fun ⟨a, b, c, d, e, f⟩ => ⟨a.symm, b.symm, c.symm, d.symm, e.symm, f.symm⟩, fun ⟨a, b, c, d, e, f⟩ => ⟨a.symm, b.symm, c.symm, d.symm, e.symm, f.symm⟩⟩
  exact decide_eq_decide.mpr this
theorem tk_shapes {c b n i : Int} (hs : shp b n = true) (h0 : 0 ≤ i) (ht : (tk c b n i).2 = true) : ∀ x ∈ (tk c b n i).1, shp x.f0 x.f1 = true := by
  have hb := (shp_cases hs).1
  have hu : IntKind.u64.wrap b = b := by rcases hb with h | h | h | h | h <;> subst h <;> decide +kernel
  have h1 : shp b 1 = true := by rcases hb with h | h | h | h | h <;> subst h <;> decide
  have h11 : shp 1 1 = true := by decide
  have h64 : shp 64 1 = true := by decide
  have hc : 0 ≤ c ∧ c ≤ 22 := Decidable.byContradiction fun e => by rw [tk_no e] at ht; cases ht
  have hm : ∀ j : Int, wm j = true → shp j 1 = true := fun j e => by unfold shp; rw [e]; rfl
  rcases kinds hc with e | e | e | e | e | e | e | e | e | e | e | e | e | e | e | e | e | e | e | e | e | e | e <;> subst e
  case inr.inr.inr.inr.inr.inr.inr.inr.inr.inr.inr.inr.inr.inr.inl =>
    simp [tk, hu] at ht
    have hi : mn i 128 = i := by unfold mn; rw [if_neg (by omega)]
    simp [tk, hi]
    exact hm _ ht.2.2
  case inr.inr.inr.inr.inr.inr.inr.inr.inr.inr.inr.inr.inr.inr.inr.inl =>
    simp [tk, hu] at ht
    have hi : mn i 128 = i := by unfold mn; rw [if_neg (by omega)]
    simp [tk, hi]
    exact hm _ ht.2.2.2
  all_goals simp [tk, hs, h1, h11, h64]
theorem same_l0 {c b n d : Int} {l : List Int} {i : Int} (hb : l.length ≤ maxLen) (L : List S37) (hL : L = if mayv c b n d l i then (tk c b n i).1 else []) (hlen : L.length ≤ maxLen) (hsh : ∀ x ∈ L, shp x.f0 x.f1 = true) (m : Nat) : ∀ j : Nat, j ≤ L.length → L.length - j = m →
    Ev (fun k => locksteplaw03_KindSame.l0 k L (j : Int) c b n d l i) true := by
  have hml : maxLen ≤ 9223372036854775807 := by decide
  induction m with
  | zero =>
    intro j hj hd
    refine Ev.succ ?_; simp only [locksteplaw03_KindSame.l0]
    refine Ev.ifn (by omega) (Ev.bind (may_ok c b n d l i hb) ?_)
    cases hm : mayv c b n d l i with
    | true =>
      refine Ev.ifp rfl (Ev.bind (may_ok c b n d l i hb) ?_)
      rw [hm]
      refine Ev.ifp rfl (Ev.pure.of_eq ?_)
      rw [hm, if_pos rfl] at hL
      unfold mayv at hm
      simp only [Bool.and_eq_true, decide_eq_true_eq] at hm
      rw [hL, beq_iff_eq]; exact hm.2.2.2.1
    | false =>
      rw [hm] at hL
      refine Ev.ifn (by decide) (Ev.ifp (by rw [hL]; rfl) Ev.pure)
  | succ m ih =>
    intro j hj hd
    have hj' : j < L.length := by omega
    refine Ev.succ ?_; simp only [locksteplaw03_KindSame.l0]
    refine Ev.ifp (by omega) (Ev.ifp (by omega) ?_)
    have hr : rd_T37 L (j : Int) ∈ L := by
      unfold rd_T37
      rw [Int.toNat_natCast, List.getD_eq_getElem?_getD, List.getElem?_eq_getElem hj']; exact List.getElem_mem hj'
    simp only [shape_ok, Option.bind_some, hsh _ hr]
    refine Ev.ifp trivial ?_
    rw [wrap_nat (by omega)]; exact ih (j + 1) (by omega) (by omega)
theorem kindSame : locksteplaw03_KindSame.Pure := by
  intro c b n d l i c' b' n' d' l' i' _ _ _ _ hi hb _ _ _ _ _ _ hb' _
  have hi' : 0 ≤ i ∧ i < 18446744073709551616 := by
    simp [Lit.wf, IntKind.min, IntKind.max, IntKind.signed, IntKind.bits] at hi; omega
  have hml : maxLen ≤ big := by decide
  apply Ev.at
  unfold locksteplaw03_KindSame.f
  refine Ev.bind awake_ev (Ev.ifp rfl ?_)
  have ht : Ev (fun k => locksteplaw03_KindSame.j0 k true c b n d l i c' b' n' d' l' i') true := by
    refine Ev.succ ?_; simp only [locksteplaw03_KindSame.j0]; exact Ev.ifp trivial Ev.pure
  by_cases h100 : (l.length : Int) > 100
  · exact Ev.ifp h100 ht
  refine Ev.ifn h100 ?_
  by_cases h101 : (l'.length : Int) > 100
  · simp only [decide_eq_true h101]; exact ht
  simp only [decide_eq_false h101]
  refine Ev.succ ?_; simp only [locksteplaw03_KindSame.j0]
  refine Ev.ifn (by decide) ?_
  refine Ev.bind (ksame_ok c b n d l i c' b' n' d' l' i' (by omega)) (Ev.bind (rsame_ok c b n d l i c' b' n' d' l' i' (by omega)) ?_)
  refine Ev.ifn (by simp) ?_
  refine Ev.bind (ksame_ok c b n d l i c b n d l i (by omega)) ?_
  refine Ev.ifp (by unfold sm; simp) ?_
  refine Ev.bind (ksame_ok c b n d l i c' b' n' d' l' i' (by omega)) (Ev.bind (ksame_ok c' b' n' d' l' i' c b n d l i (by omega)) ?_)
  rw [sm_comm c b n d l i, bne_self_eq_false]
  refine Ev.succ ?_; simp only [locksteplaw03_KindSame.j1]
  refine Ev.ifn (by decide) (Ev.bind (takes2_ok c b n d l i hb) ?_)
  refine same_l0 hb _ rfl ?_ ?_ _ 0 (by omega) rfl
  · cases hm : mayv c b n d l i with
    | false => simp
    | true =>
      unfold mayv at hm
      simp only [Bool.and_eq_true, decide_eq_true_eq] at hm
      have := hm.2.2.2.1
      simp only [if_true]; omega
  · cases hm : mayv c b n d l i with
    | false => simp
    | true =>
      unfold mayv at hm
      simp only [Bool.and_eq_true, decide_eq_true_eq] at hm
      simp only [if_true]
      exact tk_shapes hm.1 hi'.1 hm.2.1
end Go.Proofs.Ytblhphjdjpodcaa.KP
namespace Go.Proofs.Ytblhphjdjpodcaa.Pure
theorem KindSame : Go.Proofs.Ytblhphjdjpodcaa.Q.locksteplaw03_KindSame.Pure := KP.kindSame
end Go.Proofs.Ytblhphjdjpodcaa.Pure
namespace Go.Proofs.Ytblhphjdjpodcaa.kindSame
open Go.Proofs.YtblhphjdjpodcaaH Go.Proofs.Ytblhphjdjpodcaa.Q
open Go.ChangeShapes Go.WideShapes Go.ChangeAt Go.RowKit
open Go.ChangeMaps (open_string shut_string)
set_option linter.unusedVariables false
theorem own : ownKnob Try.prog.godebug = none := by kernel_rfl
theorem laidOut : laidOutB Try.prog = true := by kernel_rfl
def IsRow (k : IntKind) (w : World) (a : Option Addr) (len cap : Nat) (zs : List Int) : Prop :=
  (a = none ∧ len = 0 ∧ cap = 0 ∧ zs = []) ∨
  ∃ x, a = some x ∧ len ≤ cap ∧ cap ≤ maxLen ∧ zs.length = cap ∧ (∀ i, i < zs.length → w.cell? (x.add i) = some (.int k (zs.getD i 0))) ∧ ∀ n ∈ zs, (Lit.int k n).wf = true
set_option maxRecDepth 100000 in
theorem lifted (os : Os) (started : os.Started) (H : Type) (enc : TypeId × Value → H) :
    ReturnsInHanded {} Try.checked os 8 .any (Rows.kindSameSpec.pre6 enc Try.prog Try.f8 Rows.kindSameRow.domain false) (Rows.kindSameSpec.post enc Try.prog Try.f8 false true false false) := by
  refine returnsInHanded_of_change_sized (C := Try.checked) own started (by kernel_rfl) Try.func8
    (ChangeSpec.witness6 (enc := enc) (C := Try.checked) false ⟨#[], #[.agg #[.int .i64 0, .int .i64 0, .int .i64 0, .int .i64 0, .slice none 0 0, .int .u64 0], .agg #[.int .i64 0, .int .i64 0, .int .i64 0, .int .i64 0, .slice none 0 0, .int .u64 0]], []⟩ 8 (by kernel_rfl) (by kernel_rfl) (by kernel_rfl) (by kernel_rfl)) ?_
  intro W base args ds gs before hval0 hW hcnd hsz0 _
  have hsz : (DataW.weightsEach Try.prog (Try.f8.params.toList ++ Rows.kindSameSpec.plain.varTypes Try.prog) (ds ++ gs)).all (· ≤ reachBytes) = true := hsz0
  have hval : ∀ (j : Nat) t v, Try.f8.params[j]? = some t → args[j]? = some v → Value.okWide Try.prog W .any base t v := hval0
  have hW' := hW
  obtain ⟨p, q, hA0, hV, rfl, hfz, hnd⟩ := hW
  have hA : DataW.TrodAll enc Try.prog W 0 (fun _ => true) true Try.f8.params.toList args.toList ds p := hA0
  rw [Try.params8] at hA hval hsz
  obtain ⟨v0, vs0, d0, ds0, p0, q0, hargs, rfl, rfl, h0, r0⟩ := trodAll_cons hA
  obtain ⟨v1, vs1, d1, ds1, p1, q1, rfl, rfl, rfl, h1, r1⟩ := trodAll_cons r0
  obtain ⟨rfl, rfl, rfl⟩ := trodAll_nil r1
  obtain rfl : args = #[v0, v1] := by cases args; simp_all
  obtain ⟨rfl, rfl⟩ := trodVars_none hV
  have k0 := h0
  have lt0 : ∀ x ∈ p0, x.block < W.heap.size := by obtain ⟨m, hm⟩ := k0; exact DataW.trod_lt m _ _ _ hm
  obtain ⟨a0_0, a0_1, a0_2, a0_3, A0_4, c0_4, l0_4, a0_5, rfl, w0_0, w0_1, w0_2, w0_3, w0_5, w0_4, y0_4, m0_4, n0_4⟩ := open_op Try.underlying27 (by kernel_rfl) (by kernel_rfl) Try.underlying3 Try.underlying3 Try.underlying3 Try.underlying3 Try.underlying24 Try.underlying3 (by kernel_rfl) Try.underlying25 (hval 0 27 v0 rfl rfl) h0
  have k1 := h1
  have lt1 : ∀ x ∈ p1, x.block < W.heap.size := by obtain ⟨m, hm⟩ := k1; exact DataW.trod_lt m _ _ _ hm
  obtain ⟨a1_0, a1_1, a1_2, a1_3, A1_4, c1_4, l1_4, a1_5, rfl, w1_0, w1_1, w1_2, w1_3, w1_5, w1_4, y1_4, m1_4, n1_4⟩ := open_op Try.underlying27 (by kernel_rfl) (by kernel_rfl) Try.underlying3 Try.underlying3 Try.underlying3 Try.underlying3 Try.underlying24 Try.underlying3 (by kernel_rfl) Try.underlying25 (hval 1 27 v1 rfl rfl) h1
  clear hA0 hval0 hsz0 hsz
  refine (Q.locksteplaw03_KindSame.walk Pure.KindSame a0_0 a0_1 a0_2 a0_3 A0_4 c0_4 l0_4 a0_5 a1_0 a1_1 a1_2 a1_3 A1_4 c1_4 l1_4 a1_5 W w0_0 w0_1 w0_2 w0_3 w0_5 w0_4 y0_4 m0_4 n0_4 w1_0 w1_1 w1_2 w1_3 w1_5 w1_4 y1_4 m1_4 n1_4).mono fun e W' ⟨he, bel⟩ => ?_
  subst he
  exact ⟨_, rfl, _, _, _, [], _, [], hW', trodAll_mk1 (shut_bool Try.underlying4 _), (trodAll_cons_mk (Below.trod laidOut (by kernel_rfl) (of_decide_eq_true (by kernel_rfl)) k0 bel lt0) (trodAll_cons_mk (Below.trod laidOut (by kernel_rfl) (of_decide_eq_true (by kernel_rfl)) k1 bel lt1) trodAll_mk0)), rfl, bel.frame _, fun h => by cases h⟩
theorem over : Rows.kindSameRow.holds Try.pinned (OpenSpec.ofChange Rows.kindSameSpec) :=
  OpenClaim.holds_of_wide 8 Try.f8 rfl rfl rfl rfl rfl rfl rfl ⟨rfl, rfl, rfl, rfl, rfl⟩ rfl rfl rfl rfl rfl (by kernel_rfl) Try.func8 (by kernel_rfl)
    (of_decide_eq_true (by kernel_rfl)) (by unfold Func.isWrapper; first | (rw [if_pos (by decide +kernel)]; kernel_rfl) | (rw [if_neg (by decide +kernel)]; exact ⟨rfl, rfl⟩))
    (fun os started H enc _ => lifted os started H enc)
theorem proved : Rows.KindSameSaid := over
#print axioms proved
end Go.Proofs.Ytblhphjdjpodcaa.kindSame
namespace Go.Proofs.Ytblhphjdjpodcaa
/-- The row, under a short name, for the claim. -/
theorem kindSame_holds : Rows.KindSameSaid := kindSame.proved
end Go.Proofs.Ytblhphjdjpodcaa
