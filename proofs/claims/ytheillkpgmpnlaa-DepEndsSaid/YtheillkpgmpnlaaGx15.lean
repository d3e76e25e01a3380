/- Printed by a program of this session (wip/tools/op.py, over the kit's print program): Go functions as plain Lean functions, each with a proof that the call answers so. Conditions: each theorem's own. -/
import Derived.Test.YtheillkpgmpnlaaGx0
import Derived.Test.YtheillkpgmpnlaaGx14
namespace Go.Proofs.Ytheillkpgmpnlaa.G
open Go.Proofs.YtheillkpgmpnlaaH
open Go.RowKit Go.Proofs.YtheillkpgmpnlaaW.PrintWords Go.Proofs.YtheillkpgmpnlaaW.PrintLast Go.Proofs.YtheillkpgmpnlaaW.PrintMore
attribute [local go_sem] max2_int min2_int max_two min_two max_three min_three max_four min_four   -- for this text's walks alone
set_option linter.unusedVariables false
set_option linter.unusedSimpArgs false

/-! ### slices_Repeat_int_int: function 37 -/
def slices_Repeat_int_int.f (l0 : List Int) (a1 : Int) : Option (List Int) := if l0.length = 1 ∧ 1 ≤ a1 ∧ a1 ≤ 64 then some (List.replicate a1.toNat (rd l0 0)) else none
theorem slices_Repeat_int_int.mul : ∀ n : Nat, n < 65 → bits_Mul.f 1 (n : Int) = some (0, (n : Int)) := by decide +kernel
theorem slices_Repeat_int_int.wrap : ∀ n : Nat, n < 65 → IntKind.u64.wrap (n : Int) = (n : Int) ∧ IntKind.i64.wrap (n : Int) = (n : Int) := by decide +kernel
set_option maxHeartbeats 8000000 in
set_option maxRecDepth 100000 in
theorem slices_Repeat_int_int.calls (A0 : Option Addr) (c0 : Nat) (l0 : List Int) (a1 : Int) (r : List Int) (w : World) (hr0 : Kd.C (Kd.int .i64) w A0 l0.length l0) (hc0 : l0.length ≤ c0) (h : slices_Repeat_int_int.f l0 a1 = some r) :
    Calls Try.prog 37 #[.slice A0 l0.length c0, .int .i64 a1] w fun e w' => ∃ v0_ : Value, e = .returned (v0_) ∧ Kd.R (Kd.int .i64) 3 w' w.heap.size (fun _ => True) v0_ r ∧ Below w.heap.size w w' := by
  unfold slices_Repeat_int_int.f at h
  by_cases hc : l0.length = 1 ∧ 1 ≤ a1 ∧ a1 ≤ 64
  · rw [if_pos hc] at h
    obtain rfl := Option.some.inj h
    obtain ⟨h1, h2, h3⟩ := hc
    obtain ⟨m, rfl⟩ : ∃ m : Nat, a1 = (m : Int) := ⟨a1.toNat, by omega⟩
    have hmm : m < 65 := by omega
    have A1 := A_ (slices_Repeat_int_int.mul m hmm)
    obtain ⟨hw1, hw2⟩ := slices_Repeat_int_int.wrap m hmm
    obtain ⟨ad, rfl, g0⟩ := Kd.at_int hr0 0 (by omega) (by omega)
    rw [h1] at hc0 ⊢
    have HG0 := Aside0.mk g0
    clear g0 hr0
    have n0 : ¬ ((m : Int) < 0) := by omega
    have n1 : ¬ (9223372036854775807 < (m : Int)) := by omega
    have HB := A_ (Below.refl w.heap.size w)
    have H2 := Aside0.mk h2
    have H3 := Aside0.mk h3
    have HM := Aside0.mk hmm
    clear h2 h3 hmm
    go_enter Try.func37, Try.ntmps37
    have hsrc_ : ∀ j, j < 1 * 1 → w.cell? (ad.add j) = ([.int .i64 (rd l0 0)] : List Value)[j % 1]? := by
      intro j hj
      match j, hj with
      | 0, _ => exact HG0.out
    have HS := Aside0.mk hsrc_
    clear hsrc_
    go_wp2_with (first | ((with_reducible refine gate_callee (f := 56) rfl ?_); refine goesL_ (some 18) rfl rfl Try.func56 (by kernel_rfl) rfl #[.int .u64 1, .int .u64 (m : Int)] rfl (by (try simp only [List.map_toArray, List.map_cons, List.map_nil]); first | done | rfl | (simp only [List.length_drop, List.length_take]; rfl)) ?_; (with_reducible refine (bits_Mul.calls 1 (m : Int) 0 (m : Int) _ A1.out).mono ?_); rintro e w' ⟨rfl, ⟨nd, rfl⟩⟩; refine ⟨_, rfl, ?_⟩) | ((with_reducible refine gate_dst (N := 30) rfl ?_); refine wp_rep_make (w0 := w) w.heap.size 3 rfl 31 _ _ rfl m rfl rfl Try.underlying31 _ 1 8 [.int .i64 (rd l0 0)] info3 (by have := HM.out; omega) (by have := HM.out; omega) (pw_below_drewN HB.out _) (Nat.le_refl _) ?_; intro g w1 hge hrep hbel; have HE := Aside0.mk hge; have HR := Aside0.mk hrep; have HB1 := Aside0.mk hbel; clear hge hrep hbel) | ((with_reducible refine gate_dst (N := 33) rfl ?_); refine wp_rep_copy rfl _ _ 31 31 rfl rfl rfl Try.underlying31 (by kernel_rfl) HR.out (by omega) (by omega) (by omega) (by simp [Value.oneCell']) rfl (k := 1) ?hk ?hs HB1.out HE.out ?_; (case hk => have := H2.out; simp only [Nat.min_def]; split <;> omega); (case hs => exact src_below HS.out (by simp) (by decide) HB1.out); intro w2 hrep hbel; have HR2 := Aside0.mk hrep; have HB2 := Aside0.mk hbel; clear hrep hbel HR HB1))
    go_loopg [8] m (fun kq v8 w' => ∃ n : Nat, v8 = .int .i64 (n : Int) ∧ Aside0 (1 ≤ n) ∧ Aside0 (m ≤ n + kq) ∧ Aside0 (Rep w' g 3 m 1 [.int .i64 (rd l0 0)] n) ∧ Aside0 (Below w.heap.size w w'))
    case atStart => exact ⟨1, (by first | rfl | (simp; done) | (simp [*]; done)), ⟨Nat.le_refl _⟩, ⟨by omega⟩, HR2, HB2⟩
    case round =>
      obtain ⟨n, rfl, HN, HK, HR, HB3⟩ := hrel
      by_cases c1 : (n : Int) < (m : Int)
      · have c1b : (n < m) = True := eq_true (by omega)
        have C1 := Aside0.mk c1
        obtain ⟨k', rfl⟩ : ∃ k', gk = k' + 1 := ⟨gk - 1, by have := HK.out; omega⟩
        clear c1
        obtain ⟨i0, hi0, _, hsz0, _⟩ := info_parts info3
        have hcut1 := cut_from (P := Try.prog) 31 3 .i64 Try.underlying31 hi0 1 hsz0 (some ⟨g, 0, none⟩) m m (n : Int) (by omega) (by have := C1.out; omega)
        rw [Int.toNat_natCast, if_neg (by have := C1.out; omega), show ((some (⟨g, 0, none⟩ : Addr)).map fun x => x.add (n * 1)) = some ⟨g, n * 1, none⟩ from congrArg some (add_plain g (n * 1))] at hcut1
        have hcut2 := cut_to (P := Try.prog) 31 3 .i64 Try.underlying31 hi0 (some ⟨g, 0, none⟩) m m (n : Int) (by omega) (by have := C1.out; omega) (Nat.le_refl _)
        rw [Int.toNat_natCast] at hcut2
        clear hi0 hsz0
        obtain ⟨q, hq⟩ : ∃ q : Nat, q = Nat.min n (m - n) := ⟨_, rfl⟩
        have hqm : q ≤ m - n := by rw [hq]; exact Nat.min_le_right _ _
        have HW := A_ (show IntKind.i64.wrap ((n : Int) + (q : Int)) = ((n + q : Nat) : Int) from (slices_Repeat_int_int.wrap (n + q) (by have := HM.out; have := C1.out; omega)).2)
        have HQ1 := A_ (show 1 ≤ q by rw [hq]; exact Nat.le_min.mpr ⟨HN.out, by have := C1.out; omega⟩)
        clear hqm
        have HQ := Aside0.mk hq
        clear hq
        obtain ⟨d, hd⟩ : ∃ d : Nat, d = m - n := ⟨_, rfl⟩
        rw [← hd] at hcut1
        have HD := Aside0.mk hd
        clear hd
        have HRD := A_ (show Rep wr.drew g 3 m 1 [.int .i64 (rd l0 0)] n from HR.out)
        have HBD := A_ (show Below w.heap.size w wr.drew from below_drew1 HB3.out)
        go_wp2
        go_region_law (refine step_rep_copy rfl (.tmp 41) (.tmp 44) 31 31 rfl (g := g) (off := n * 1) (dLen := d) (dCap := d) (ad := ⟨g, 0, none⟩) (sLen := n) (sCap := m) (by first | (go_simp; done) | (go_simp; rfl)) (by first | (go_simp; done) | (go_simp; rfl)) Try.underlying31 (by kernel_rfl) HRD.out rfl HD.out (by decide) (by simp [Value.oneCell']) rfl (k := q) (by rw [HD.out]; exact HQ.out.symm) (fun j hj => (by rw [add_plain]; exact HRD.out.cell (Nat.lt_of_lt_of_le hj (Nat.mul_le_mul_right _ (by rw [HQ.out]; exact Nat.min_le_left _ _))))) HBD.out HE.out ?_; intro w4 HR4 HB4)
        go_wp2
        go_roundg k'
        case measure => omega
        case rel => exact ⟨n + q, (by first | rfl | (simp; done) | (rw [HW.out])), ⟨by have := HN.out; omega⟩, ⟨by have := HK.out; have := HQ1.out; omega⟩, HR4, HB4⟩
      · have hn : n = m := by obtain ⟨_, _, _, h3, _⟩ := HR.out; omega
        subst hn
        have c1b : (n < n) = False := eq_false (by omega)
        go_wp2
        go_ret
        refine ⟨_, by first | rfl | (simp; done), rep_done (Kd.int .i64) HR.out rfl (by decide) rfl rfl HE.out (by have := HM.out; simp only [maxLen]; omega), HB3.out⟩
  · rw [if_neg hc] at h; cases h











































































































































































end Go.Proofs.Ytheillkpgmpnlaa.G
