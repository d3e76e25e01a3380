/- The law CodeSizes as a plain function returns true for every input. No conditions beyond each theorem's own. -/
import Derived.Test.YthbmdmphkeclmaaPCuts
set_option linter.unusedVariables false
set_option linter.unusedSimpArgs false
namespace Go.PrS
open Go Go.Ev Go.Proofs
def cop : L_api_Op := (0, 8, 1, 1, [], 0, ())
def blk (e : Nat) : L_api_Block := ([], List.replicate e cop, (0, 0, [], ()), ())
def ks (k e : Nat) : L_api_Func := ([], 0, List.replicate k (blk e), ())
theorem ops_l11 (k e : Nat) (f : L_api_Func) (t8 : Int) (he : e ≤ 100) : EvTo (fun n => locksteplaw04_CodeSizes_l11 n (k : Int) (e : Int) f t8 ([], [], (0, 0, [], ()), ()) 0) (f, blk e) := by
  have key := EvTo.range (List.replicate e ()) (fun n i (a : L_api_Block) => locksteplaw04_CodeSizes_l11 n (k : Int) (e : Int) f t8 a (i : Int)) (fun i a r => (f, blk e)) (fun i a => a = blk i)
    (fun a ha => EvTo.succ (by
      simp only [locksteplaw04_CodeSizes_l11]
      refine EvTo.ifn (by simp) (EvTo.pure' ?_)
      rw [ha]; simp))
    (fun i h a ha ih => EvTo.succ (by
      simp only [locksteplaw04_CodeSizes_l11]
      rw [List.length_replicate] at h
      subst ha
      refine EvTo.ifp (by rw [decide_eq_true_eq]; omega) (EvTo.ifp (by rw [most_eq]; simp [blk]; omega) ?_)
      rw [wrapS h (by omega)]
      exact ih _ (by simp only [blk]; congr 2; rw [List.replicate_succ']; rfl)))
  exact key _ rfl
theorem blocks_l7 (k e : Nat) (hk : k ≤ 100) (he : e ≤ 100) : EvTo (fun n => locksteplaw04_CodeSizes_l7 n (k : Int) (e : Int) ([], 0, [], ()) 0) (ks k e) := by
  have key := EvTo.range (List.replicate k ()) (fun n i (a : L_api_Func) => locksteplaw04_CodeSizes_l7 n (k : Int) (e : Int) a (i : Int)) (fun i a r => ks k e) (fun i a => a = ks i e)
    (fun a ha => EvTo.succ (by
      simp only [locksteplaw04_CodeSizes_l7]
      refine EvTo.ifn (by simp) (EvTo.pure' ?_)
      rw [ha]; simp))
    (fun i h a ha ih => EvTo.succ (by
      simp only [locksteplaw04_CodeSizes_l7]
      rw [List.length_replicate] at h
      subst ha
      refine EvTo.ifp (by rw [decide_eq_true_eq]; omega) (EvTo.bind (ops_l11 k e _ _ he) (EvTo.ifp (by rw [most_eq]; simp [ks]; omega) ?_))
      rw [wrapS h (by omega)]
      exact ih _ (by simp only [ks]; congr 3; rw [List.replicate_succ'])))
  exact key _ rfl
theorem ks_size (k e : Nat) : sizeF (ks k e) = k * (e + 1) := by
  unfold sizeF ks
  simp only [List.length_replicate, List.map_replicate, List.sum_replicate_nat, sizeB, blk, List.length_nil]
  rw [Nat.zero_add, Nat.mul_succ]; omega
theorem ks_ok (k e : Nat) (hk : k ≤ 100) (he : e ≤ 100) : OkF (ks k e) := by
  have h : (100 : Nat) ≤ reachBytes := by decide
  refine ⟨by simp [ks], by simp [ks]; omega, fun b hb => ?_⟩
  have := List.eq_of_mem_replicate hb
  subst this
  refine ⟨by simp [blk], by simp [blk]; omega, fun p hp => by simp [blk] at hp, fun o ho => ?_, by simp [blk]⟩
  have := List.eq_of_mem_replicate ho
  subst this
  exact ⟨by simp [cop], by simp [cop], by simp [cop]⟩
theorem ks_may (k e : Nat) (hk1 : 1 ≤ k) : mayF (ks k e) = decide (k ≤ 64 ∧ k * (e + 1) ≤ 512) := by
  have h1 : (ks k e).2.2.1.all blockB = true := List.all_eq_true.2 fun b hb => by
    have := List.eq_of_mem_replicate hb
    subst this
    have h2 : (List.replicate e cop).all opB = true := List.all_eq_true.2 fun o ho => by
      have := List.eq_of_mem_replicate ho
      subst this
      decide
    simp only [blockB, blk, h2]
    decide
  unfold mayF
  rw [h1, ks_size]
  have h3 : inN (ks k e).2.1 = true := rfl
  have h4 : (ks k e).1.all inN = true := rfl
  rw [h3, h4]
  simp only [Bool.and_self, Bool.and_true]
  congr 1
  simp only [ks, List.length_replicate, List.length_nil]
  exact propext ⟨fun h => ⟨h.2.1, h.2.2.2⟩, fun h => ⟨hk1, h.1, by omega, h.2⟩⟩
theorem dec_nil : decP [] = (emptyF, 2) := by kernel_rfl
theorem codeSizes_pure (n m : Int) (hn : OkD (.int .u8) n) (hm : OkD (.int .u16) m) : ∃ k, locksteplaw04_CodeSizes k n m = some true := by
  obtain ⟨n0, n1⟩ := wf_u8 hn
  obtain ⟨m0, m1⟩ := wf_u16 hm
  refine EvTo.at ?_
  unfold locksteplaw04_CodeSizes
  refine EvTo.bind awake_ok (EvTo.ifn (by simp) ?_)
  have e1 : Int.tmod n 70 = n % 70 := Int.tmod_eq_emod_of_nonneg n0
  have e2 : Int.tmod m 12 = m % 12 := Int.tmod_eq_emod_of_nonneg m0
  rw [wrap_i64 (x := n) (by omega) (by omega), wrap_i64 (x := m) (by omega) (by omega), e1, e2, wrap_i64 (x := 1 + n % 70) (by omega) (by omega), wrap_i64 (x := m % 12 + 1) (by omega) (by omega)]
  obtain ⟨k, hk⟩ : ∃ k : Nat, 1 + n % 70 = (k : Int) := ⟨(1 + n % 70).toNat, by omega⟩
  obtain ⟨e, he⟩ : ∃ e : Nat, m % 12 = (e : Int) := ⟨(m % 12).toNat, by omega⟩
  have hk1 : 1 ≤ k ∧ k ≤ 70 := by omega
  have he1 : e ≤ 11 := by omega
  rw [hk, he]
  have hS : (k : Int) * ((e : Int) + 1) = ((k * (e + 1) : Nat) : Int) := by push_cast; rfl
  have hb : k * (e + 1) ≤ 70 * 12 := Nat.mul_le_mul hk1.2 (by omega)
  rw [hS, wrap_i64 (x := ((k * (e + 1) : Nat) : Int)) (by omega) (by omega)]
  have hf := ks_ok k e (by omega) (by omega)
  have hmay := ks_may k e hk1.1
  obtain ⟨z1, _⟩ := size_ok' (f := ks k e) (by simp [ks]; omega) (fun b hb => by
    have := List.eq_of_mem_replicate hb
    subst this
    simp [sizeB, blk]; omega)
  rw [ks_size] at z1
  refine EvTo.bind (blocks_l7 k e (by omega) (by omega)) ?_
  by_cases h64 : k ≤ 64
  · refine EvTo.ifp (by rw [decide_eq_true_eq]; omega) (EvTo.bind (encode_ok hf) ?_)
    by_cases h512 : k * (e + 1) ≤ 512
    · have hm1 : mayF (ks k e) = true := by rw [hmay]; exact decide_eq_true ⟨h64, h512⟩
      obtain ⟨l0, l1⟩ := encF_len hf hm1
      have hd := dec_enc hf hm1 []
      rw [List.append_nil, if_neg (by simp)] at hd
      simp only [hm1, if_true]
      refine EvTo.bind (dec_ok (encF_bytes hf hm1) (sizeOk (by omega))) ?_
      rw [hd]
      refine EvTo.bind z1 (EvTo.ifp (by simp) (EvTo.bind (may_ok hf) ?_))
      rw [hm1]
      have hd5 : decide (((k * (e + 1) : Nat) : Int) ≤ 512) = true := decide_eq_true (by omega)
      rw [hd5]
      refine EvTo.ifp rfl (EvTo.ifp (by simpa using l0) (EvTo.ifp rfl (EvTo.ifp rfl (EvTo.bind z1 (EvTo.pure' (by simp))))))
    · have hm1 : mayF (ks k e) = false := by rw [hmay]; exact decide_eq_false (by omega)
      simp only [hm1, Bool.false_eq_true, if_false]
      refine EvTo.bind (dec_ok (b := []) (fun x hx => by simp at hx) (by simp)) ?_
      rw [dec_nil]
      refine EvTo.bind z1 (EvTo.ifp (by simp) (EvTo.bind (may_ok hf) ?_))
      rw [hm1]
      have hd5 : decide (((k * (e + 1) : Nat) : Int) ≤ 512) = false := decide_eq_false (by omega)
      rw [hd5]
      exact EvTo.ifp rfl (EvTo.ifp rfl (EvTo.ifp rfl (EvTo.ifn (by simp) EvTo.pure)))
  · have hm1 : mayF (ks k e) = false := by rw [hmay]; exact decide_eq_false (by omega)
    refine EvTo.ifn (by rw [decide_eq_true_eq]; omega) (EvTo.bind (encode_ok hf) ?_)
    simp only [hm1, Bool.false_eq_true, if_false]
    refine EvTo.bind (dec_ok (b := []) (fun x hx => by simp at hx) (by simp)) ?_
    rw [dec_nil]
    refine EvTo.bind z1 (EvTo.ifp (by simp) (EvTo.bind (may_ok hf) ?_))
    rw [hm1]
    exact EvTo.ifp rfl (EvTo.ifp rfl (EvTo.ifp rfl EvTo.pure))
end Go.PrS
