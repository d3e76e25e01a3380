/- The laws CodeCuts and CodeTurned as plain functions return true for every input. No conditions beyond each theorem's own. -/
import Derived.Test.YthbmdmphkeclmaaPSame
set_option linter.unusedVariables false
set_option linter.unusedSimpArgs false
namespace Go.PrS
open Go Go.Ev Go.Proofs
theorem small_ok {f : L_api_Func} (hf : OkF f) : ∃ b, EvTo (fun k => lockstepref04_Small k f) b := by
  have hm := reach_le
  obtain ⟨f1, f2, f3⟩ := hf
  have kphi : ∀ (j : Nat), j < f.2.2.1.length → ∀ a, ∃ v : Int × L_api_Func, v.2 = f ∧ EvTo (fun k => lockstepref04_Small_l7 k f (j : Int) a 0) v := by
    intro j hj
    obtain ⟨b1, b2, b3, b4, b5⟩ := f3 _ (List.getElem_mem hj)
    refine EvTo.rangeE (f.2.2.1[j]).1 (fun k i (a : Int) => lockstepref04_Small_l7 k f (j : Int) a (i : Int)) (fun v => v.2 = f) (fun a => ⟨(a, f), rfl, EvTo.succ ?_⟩) (fun i h a ih => ?_)
    · simp only [lockstepref04_Small_l7]
      rw [getI hj]
      exact EvTo.ifp (by omega) (EvTo.ifn (by simp) EvTo.pure)
    · by_cases hs : a ≤ 20000
      · obtain ⟨v, v1, v2⟩ := ih (IntKind.wrap .i64 (IntKind.wrap .i64 (IntKind.wrap .i64 (a + 1) + ((f.2.2.1[j].1[i]).2.2.1.length : Int)) + ((f.2.2.1[j].1[i]).2.2.2.1.length : Int)))
        refine ⟨v, v1, EvTo.succ ?_⟩
        simp only [lockstepref04_Small_l7]
        rw [getI hj, getI h, wrapS h (by omega)]
        exact EvTo.ifp (by omega) (EvTo.ifp (by simpa using h) (EvTo.ifp (by simpa using hs) (EvTo.ifp (by omega) (EvTo.ifp (by omega) (EvTo.ifp (by omega) (EvTo.ifp (by omega) v2))))))
      · refine ⟨(a, f), rfl, EvTo.succ ?_⟩
        simp only [lockstepref04_Small_l7]
        rw [getI hj]
        exact EvTo.ifp (by omega) (EvTo.ifp (by simpa using h) (EvTo.ifn (by simpa using hs) EvTo.pure))
  have kop : ∀ (j : Nat), j < f.2.2.1.length → ∀ a, ∃ v : Int × L_api_Func, v.2 = f ∧ EvTo (fun k => lockstepref04_Small_l11 k f (j : Int) a 0) v := by
    intro j hj
    obtain ⟨b1, b2, b3, b4, b5⟩ := f3 _ (List.getElem_mem hj)
    refine EvTo.rangeE (f.2.2.1[j]).2.1 (fun k i (a : Int) => lockstepref04_Small_l11 k f (j : Int) a (i : Int)) (fun v => v.2 = f) (fun a => ⟨(a, f), rfl, EvTo.succ ?_⟩) (fun i h a ih => ?_)
    · simp only [lockstepref04_Small_l11]
      rw [getI hj]
      exact EvTo.ifp (by omega) (EvTo.ifn (by simp) EvTo.pure)
    · by_cases hs : a ≤ 20000
      · obtain ⟨v, v1, v2⟩ := ih (IntKind.wrap .i64 (IntKind.wrap .i64 (a + 1) + ((f.2.2.1[j].2.1[i]).2.2.2.2.1.length : Int)))
        refine ⟨v, v1, EvTo.succ ?_⟩
        simp only [lockstepref04_Small_l11]
        rw [getI hj, getI h, wrapS h (by omega)]
        exact EvTo.ifp (by omega) (EvTo.ifp (by simpa using h) (EvTo.ifp (by simpa using hs) (EvTo.ifp (by omega) (EvTo.ifp (by omega) v2))))
      · refine ⟨(a, f), rfl, EvTo.succ ?_⟩
        simp only [lockstepref04_Small_l11]
        rw [getI hj]
        exact EvTo.ifp (by omega) (EvTo.ifp (by simpa using h) (EvTo.ifn (by simpa using hs) EvTo.pure))
  have kb : ∀ a, ∃ v : Int × L_api_Func, v.2 = f ∧ EvTo (fun k => lockstepref04_Small_l3 k f a 0) v := by
    refine EvTo.rangeE f.2.2.1 (fun k i (a : Int) => lockstepref04_Small_l3 k f a (i : Int)) (fun v => v.2 = f) (fun a => ⟨(a, f), rfl, EvTo.succ ?_⟩) (fun i h a ih => ?_)
    · simp only [lockstepref04_Small_l3]
      exact EvTo.ifn (by simp) EvTo.pure
    · by_cases hs : a ≤ 20000
      · obtain ⟨⟨v, vf⟩, v1, v2⟩ := kphi i h (IntKind.wrap .i64 (IntKind.wrap .i64 (a + 1) + ((f.2.2.1[i]).2.2.1.2.2.1.length : Int)))
        simp only at v1
        subst v1
        obtain ⟨⟨u, uf⟩, u1, u2⟩ := kop i h v
        simp only at u1
        subst u1
        obtain ⟨w, w1, w2⟩ := ih u
        refine ⟨w, w1, EvTo.succ ?_⟩
        simp only [lockstepref04_Small_l3]
        rw [getI h, wrapS h (by omega)]
        exact EvTo.ifp (by simpa using h) (EvTo.ifp (by simpa using hs) (EvTo.ifp (by omega) (EvTo.bind v2 (EvTo.bind u2 w2))))
      · refine ⟨(a, f), rfl, EvTo.succ ?_⟩
        simp only [lockstepref04_Small_l3]
        exact EvTo.ifp (by simpa using h) (EvTo.ifn (by simpa using hs) EvTo.pure)
  obtain ⟨v, v1, v2⟩ := kb (f.1.length : Int)
  refine ⟨decide (v.1 ≤ 20000), ?_⟩
  unfold lockstepref04_Small
  exact EvTo.bind v2 EvTo.pure
theorem sizeOk {n : Nat} (h : n ≤ 1000000000) : n ≤ maxLen := Nat.le_trans h (by decide)
theorem codeCuts_pure (f : L_api_Func) (at_ more : Int) (h : OkD Y_api_Func f) (ha : OkD (.int .u16) at_) (hb : OkD (.int .u8) more) : ∃ n, locksteplaw04_CodeCuts n f at_ more = some true := by
  have hf := okF h
  obtain ⟨a0, a1⟩ := wf_u16 ha
  obtain ⟨m0, m1⟩ := wf_u8 hb
  refine EvTo.at ?_
  unfold locksteplaw04_CodeCuts
  refine EvTo.bind awake_ok (EvTo.ifn (by simp) ?_)
  obtain ⟨b, hs⟩ := small_ok hf
  refine EvTo.bind hs ?_
  cases b with
  | false => exact EvTo.ifp rfl EvTo.pure
  | true =>
    refine EvTo.ifn (by simp) (EvTo.bind (encode_ok hf) ?_)
    cases hm : mayF f with
    | false =>
      simp only [Bool.false_eq_true, if_false]
      exact EvTo.ifp (by simp) (EvTo.bind (may_ok hf) (EvTo.pure' (by rw [hm]; rfl)))
    | true =>
      simp only [if_true]
      obtain ⟨l0, l1⟩ := encF_len hf hm
      have hby := encF_bytes hf hm
      have hpos : (0 : Int) < (encF f).length := by omega
      rw [wrap_i64 (by omega) (by omega)]
      have ht : Int.tmod at_ ((encF f).length : Int) = at_ % ((encF f).length : Int) := Int.tmod_eq_emod_of_nonneg a0
      have ht0 := Int.emod_nonneg at_ (show ((encF f).length : Int) ≠ 0 by omega)
      have ht1 := Int.emod_lt_of_pos at_ hpos
      rw [ht]
      refine EvTo.ifn (by simp; intro e; rw [e] at l0; simp at l0) (EvTo.ifp (by omega) (EvTo.ifp (by omega) ?_))
      refine EvTo.bind (dec_ok (hby.take _) (by have := sizeOk (n := (encF f).length) (by omega); rw [List.length_take]; omega)) ?_
      rw [dec_cut hf hm (by omega), List.nil_append]
      refine EvTo.ifp (by rw [most_eq]; omega) (EvTo.ifp (by rw [most_eq]; simp; omega) ?_)
      refine EvTo.bind (dec_ok (hby.append (fun x hx => by simp at hx; subst hx; exact ⟨m0, m1⟩)) (sizeOk (by simp; omega))) ?_
      rw [dec_enc hf hm, if_pos (by simp)]
      refine EvTo.ifp rfl (EvTo.ifp rfl (EvTo.ifp rfl (EvTo.ifp rfl ?_)))
      refine EvTo.bind (encode_ok hf) ?_
      rw [hm]
      simp only [if_true]
      exact EvTo.bind (bsame_ok (sizeOk (by omega))) (EvTo.pure' (by simp))
/-- a byte, turned -/
theorem xor_zero {x : Int} (h0 : 0 ≤ x) (h1 : x < 256) : IntKind.wrap .u8 ((BitVec.toNat ((BitVec.ofInt 8 x) ^^^ (BitVec.ofInt 8 0))) : Int) = x := by
  obtain ⟨n, rfl⟩ := Int.eq_ofNat_of_zero_le h0
  rw [show BitVec.ofInt 8 0 = 0#8 from rfl, BitVec.xor_zero, BitVec.ofInt_natCast, BitVec.toNat_ofNat, Nat.mod_eq_of_lt (by omega), wrap_u8 h0 h1]
theorem xor_range (x y : Int) : 0 ≤ IntKind.wrap .u8 ((BitVec.toNat ((BitVec.ofInt 8 x) ^^^ (BitVec.ofInt 8 y))) : Int) ∧ IntKind.wrap .u8 ((BitVec.toNat ((BitVec.ofInt 8 x) ^^^ (BitVec.ofInt 8 y))) : Int) < 256 := by
  rw [wrap_u8_mod]; omega
theorem xor_ne {x y : Int} (h0 : 0 ≤ x) (h1 : x < 256) (k0 : 0 ≤ y) (k1 : y < 256) (hy : y ≠ 0) : IntKind.wrap .u8 ((BitVec.toNat ((BitVec.ofInt 8 x) ^^^ (BitVec.ofInt 8 y))) : Int) ≠ x := by
  intro h
  obtain ⟨n, rfl⟩ := Int.eq_ofNat_of_zero_le h0
  obtain ⟨m, rfl⟩ := Int.eq_ofNat_of_zero_le k0
  rw [wrap_u8 (by omega) (by have := (BitVec.ofInt 8 (n : Int) ^^^ BitVec.ofInt 8 (m : Int)).isLt; omega)] at h
  have h2 : (BitVec.ofNat 8 n ^^^ BitVec.ofNat 8 m) = BitVec.ofNat 8 n := by
    apply BitVec.eq_of_toNat_eq
    rw [BitVec.ofInt_natCast, BitVec.ofInt_natCast] at h
    rw [BitVec.toNat_ofNat, Nat.mod_eq_of_lt (show n < 2 ^ 8 by omega)]
    omega
  have h3 : BitVec.ofNat 8 m = 0#8 := by
    have := congrArg (BitVec.ofNat 8 n ^^^ ·) h2
    simp only [← BitVec.xor_assoc, BitVec.xor_self, BitVec.zero_xor] at this
    exact this
  have h4 := congrArg BitVec.toNat h3
  rw [BitVec.toNat_ofNat, BitVec.toNat_ofNat, Nat.mod_eq_of_lt (show m < 2 ^ 8 by omega)] at h4
  simp at h4
  omega
theorem codeTurned_pure (f : L_api_Func) (at_ by_ : Int) (h : OkD Y_api_Func f) (ha : OkD (.int .u16) at_) (hb : OkD (.int .u8) by_) : ∃ n, locksteplaw04_CodeTurned n f at_ by_ = some true := by
  have hf := okF h
  obtain ⟨a0, a1⟩ := wf_u16 ha
  obtain ⟨m0, m1⟩ := wf_u8 hb
  refine EvTo.at ?_
  unfold locksteplaw04_CodeTurned
  refine EvTo.bind awake_ok (EvTo.ifn (by simp) ?_)
  obtain ⟨b, hs⟩ := small_ok hf
  refine EvTo.bind hs ?_
  cases b with
  | false => exact EvTo.ifp rfl EvTo.pure
  | true =>
    refine EvTo.ifn (by simp) (EvTo.bind (encode_ok hf) ?_)
    cases hm : mayF f with
    | false =>
      simp only [Bool.false_eq_true, if_false]
      exact EvTo.ifp (by simp) EvTo.pure
    | true =>
      simp only [if_true, List.nil_append]
      obtain ⟨l0, l1⟩ := encF_len hf hm
      have hby := encF_bytes hf hm
      have hpos : (0 : Int) < (encF f).length := by omega
      rw [wrap_i64 (by omega) (by omega)]
      have ht : Int.tmod at_ ((encF f).length : Int) = at_ % ((encF f).length : Int) := Int.tmod_eq_emod_of_nonneg a0
      have ht0 := Int.emod_nonneg at_ (show ((encF f).length : Int) ≠ 0 by omega)
      have ht1 := Int.emod_lt_of_pos at_ hpos
      rw [ht]
      obtain ⟨i, hi⟩ : ∃ i : Nat, at_ % ((encF f).length : Int) = (i : Int) := ⟨(at_ % ((encF f).length : Int)).toNat, by omega⟩
      have hil : i < (encF f).length := by omega
      rw [hi, getI hil, Int.toNat_natCast]
      obtain ⟨x0, x1⟩ := hby _ (List.getElem_mem hil)
      obtain ⟨r0, r1⟩ := xor_range (encF f)[i] by_
      refine EvTo.ifn (by simp; intro e; rw [e] at l0; simp at l0) (EvTo.ifp (by rw [most_eq]; omega) (EvTo.ifp (by omega) (EvTo.ifp (by omega) (EvTo.ifp (by omega) ?_))))
      have hbc : Bytes ((encF f).set i (IntKind.wrap .u8 ((BitVec.toNat ((BitVec.ofInt 8 (encF f)[i]) ^^^ (BitVec.ofInt 8 by_))) : Int))) := fun x hx => by
        rcases List.mem_or_eq_of_mem_set hx with h | rfl
        · exact hby x h
        · exact ⟨r0, r1⟩
      refine EvTo.bind (dec_ok hbc (sizeOk (by rw [List.length_set]; omega))) ?_
      by_cases hz : by_ = 0
      · subst hz
        rw [xor_zero x0 x1]
        have e : (encF f).set i (encF f)[i] = encF f := List.set_getElem_self hil
        have hd := dec_enc hf hm []
        rw [List.append_nil, if_neg (by simp)] at hd
        rw [e, hd]
        exact EvTo.ifp rfl (EvTo.ifp rfl (EvTo.bind (same_ok hf f) (EvTo.pure' (by simp))))
      · refine EvTo.ifn (by simpa using hz) ?_
        by_cases he : (decP ((encF f).set i (IntKind.wrap .u8 ((BitVec.toNat ((BitVec.ofInt 8 (encF f)[i]) ^^^ (BitVec.ofInt 8 by_))) : Int)))).2 = 0
        · obtain ⟨⟨g1, g2⟩, g3⟩ := dec_sound hbc (g := (decP ((encF f).set i (IntKind.wrap .u8 ((BitVec.toNat ((BitVec.ofInt 8 (encF f)[i]) ^^^ (BitVec.ofInt 8 by_))) : Int)))).1) (Prod.ext rfl he)
          have hne : (decP ((encF f).set i (IntKind.wrap .u8 ((BitVec.toNat ((BitVec.ofInt 8 (encF f)[i]) ^^^ (BitVec.ofInt 8 by_))) : Int)))).1 ≠ f := by
            intro e
            rw [e] at g3
            have := congrArg (fun l => l[i]?) g3
            simp only [List.getElem?_set_self hil, List.getElem?_eq_getElem hil, Option.some.injEq] at this
            exact xor_ne x0 x1 m0 m1 hz this
          refine EvTo.ifp (by simpa using he) (EvTo.bind (same_ok g1 f) (EvTo.ifp (by simpa using hne) (EvTo.bind (encode_ok g1) ?_)))
          rw [g2]
          simp only [if_true]
          exact EvTo.bind (bsame_ok (sizeOk (by rw [← g3, List.length_set]; omega))) (EvTo.pure' (by rw [← g3]; simp))
        · exact EvTo.ifn (by simpa using he) EvTo.pure
end Go.PrS
