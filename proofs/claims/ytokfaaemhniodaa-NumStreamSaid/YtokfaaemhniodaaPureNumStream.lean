/- NumStream, the plain law: numbers one behind the other are got one by one; with how many there are ahead they are a list. No conditions. -/
import Derived.Test.YtokfaaemhniodaaPNumB
import Derived.Test.YtokfaaemhniodaaQx14
namespace Go.Proofs.Ytokfaaemhniodaa.Pure
open Go.RowKit Go.Proofs.Ytokfaaemhniodaa.Q Go.Proofs.YtokfaaemhniodaaW.PrintWords Go.Proofs.YtokfaaemhniodaaW.PrintLast Go.Proofs.YtokfaaemhniodaaW.PrintMore

/-- The numbers that are made of the words that came in. -/
def cutN (l : List Int) : List Nat := l.map (fun x => (x % 2147483648).toNat)
def castN (ns : List Nat) : List Int := ns.map (fun n : Nat => (n : Int))
theorem cutN_le (l : List Int) : ∀ n ∈ cutN l, n ≤ 2147483647 := by
  intro n h
  obtain ⟨x, hx, rfl⟩ := List.mem_map.mp h
  omega
theorem castN_get (ns : List Nat) {i : Nat} (h : i < ns.length) : (castN ns).getD i 0 = (ns[i] : Int) := by
  rw [getD_lt _ (by simpa [castN] using h)]; simp [castN]
theorem mask31 {x : Int} (h : 0 ≤ x) (h' : x < 4294967296) : Go.bits .and .u32 x 2147483647 = x % 2147483648 := by
  have e : (2 : Int) ^ 32 = 4294967296 := by decide
  have e1 : (2 : Int) ^ 31 = 2147483648 := by decide
  have := Go.bits_mask .u32 32 (by decide) (fun n h0 h1 => by rw [e] at h1; simp [IntKind.wrap, IntKind.bits, IntKind.signed]; omega) 31 (by decide) x h (by rw [e]; exact h')
  rw [e1] at this
  exact this

theorem stream_l1 (d : Nat) : ∀ (k i : Nat) (l : List Int), (∀ x ∈ l, 0 ≤ x ∧ x < 4294967296) → l.length ≤ 100 → i ≤ l.length → l.length - i = d → d + 2000 < k →
    locksteplaw02_NumStream.l1 k l (encs (cutN l)) (castN (cutN l)) ((encs ((cutN l).take i)).length : Int) (i : Int) = some true := by
  induction d with
  | zero =>
    intro k i l hl hn hi hd hk
    obtain ⟨k, rfl⟩ : ∃ m, k = m + 1 := ⟨k - 1, by omega⟩
    have hns : ∀ n ∈ cutN l, n < 18446744073709551616 := fun n h => by have := cutN_le l n h; omega
    have hlen := encs_len _ hns
    have hcl : (cutN l).length = l.length := by simp [cutN]
    have hle := enc_len64 (v := l.length) (by omega)
    simp only [locksteplaw02_NumStream.l1]
    rw [if_neg (by omega), List.take_of_length_le (by omega), u64_wrap (by omega) (by omega), put_ok (by omega) (by omega)]
    simp only [Option.bind_some]
    rw [if_pos (by omega)]
    rw [list_ok (ns := cutN l) (more := []) hns (by omega) (bytes_append (enc_bytes _) (encs_bytes _)) (by rw [List.length_append]; omega) (by rw [hcl, List.append_nil]) (by omega) (by omega) (by omega), listS_ok _ _ _ (cutN_le l)]
    simp only [Option.bind_some, if_true, List.nil_append]
    rw [if_pos (by simp only [List.length_append, hcl]), ints_ok (by simp; omega) (by simp; omega)]
    simp only [Option.bind_some, castN, decide_true, if_true]
    have hmx : (List.map (fun n : Nat => (n : Int)) (cutN l)).map Int.toNat = cutN l := by
      rw [List.map_map]
      conv => rhs; rw [← List.map_id (cutN l)]
      exact List.map_congr_left (fun x _ => by simp)
    rw [row_ok (fun x hx => by obtain ⟨n, hn', rfl⟩ := List.mem_map.mp hx; have := cutN_le l n hn'; omega) (by simp; omega) (by simp; omega), rowS_pos _ _ (fun x hx => by obtain ⟨n, _, rfl⟩ := List.mem_map.mp hx; omega), hmx, List.length_map, hcl]
    simp only [Option.bind_some]
    rw [same_ok (by rw [List.length_append]; omega) (by rw [List.length_append]; omega)]
    simp
  | succ d ih =>
    intro k i l hl hn hi hd hk
    obtain ⟨k, rfl⟩ : ∃ m, k = m + 1 := ⟨k - 1, by omega⟩
    have hns : ∀ n ∈ cutN l, n < 18446744073709551616 := fun n h => by have := cutN_le l n h; omega
    have hlen := encs_len _ hns
    have hcl : (cutN l).length = l.length := by simp [cutN]
    have h1 : i < (cutN l).length := by omega
    have hsplit : encs (cutN l) = encs ((cutN l).take i) ++ (enc (cutN l)[i] ++ encs ((cutN l).drop (i + 1))) := by
      conv => lhs; rw [← List.take_append_drop i (cutN l), List.drop_eq_getElem_cons h1]
      rw [encs_append]; rfl
    have hall : (encs ((cutN l).take i)).length + ((enc (cutN l)[i]).length + (encs ((cutN l).drop (i + 1))).length) = (encs (cutN l)).length := by
      have := congrArg List.length hsplit
      simp only [List.length_append] at this; omega
    have hni := cutN_le l _ (List.getElem_mem h1)
    simp only [locksteplaw02_NumStream.l1]
    rw [if_pos (by omega), if_pos (by omega), if_pos (by omega), Int.toNat_natCast, get_few (bytes_drop _ (encs_bytes _)) (by rw [List.length_drop]; omega) (by omega)]
    have hdrop : (encs (cutN l)).drop (encs ((cutN l).take i)).length = enc (cutN l)[i] ++ encs ((cutN l).drop (i + 1)) := by
      have := List.drop_left (l₁ := encs ((cutN l).take i)) (l₂ := enc (cutN l)[i] ++ encs ((cutN l).drop (i + 1)))
      rw [← hsplit] at this
      exact this
    rw [hdrop, go_enc0 _ _ (by omega)]
    simp only [Option.bind_some, if_true]
    rw [if_pos (by omega), if_pos (by simp only [castN, List.length_map]; omega), rd_nat, castN_get _ h1, u64_wrap (by omega) (by omega), if_pos rfl, wrap_id (by omega) (by omega), wrap_succ (n := l.length) (by omega) (by omega) (by omega), show ((i : Int) + 1) = ((i + 1 : Nat) : Int) by omega]
    have e : ((encs ((cutN l).take i)).length : Int) + ((enc (cutN l)[i]).length : Int) = ((encs ((cutN l).take (i + 1))).length : Int) := by
      rw [List.take_succ_eq_append_getElem h1, encs_append]; simp [encs]
    rw [e]
    exact ih k (i + 1) l hl hn (by omega) (by omega) (by omega)

theorem stream_l0 (d : Nat) : ∀ (k i : Nat) (l : List Int), (∀ x ∈ l, 0 ≤ x ∧ x < 4294967296) → l.length ≤ 100 → i ≤ l.length → l.length - i = d → d + 3000 < k →
    locksteplaw02_NumStream.l0 k l (encs ((cutN l).take i)) (castN ((cutN l).take i)) (i : Int) = some true := by
  induction d with
  | zero =>
    intro k i l hl hn hi hd hk
    obtain ⟨k, rfl⟩ : ∃ m, k = m + 1 := ⟨k - 1, by omega⟩
    have hcl : (cutN l).length = l.length := by simp [cutN]
    simp only [locksteplaw02_NumStream.l0]
    rw [if_neg (by omega), List.take_of_length_le (by omega)]
    have := stream_l1 l.length k 0 l hl hn (by omega) (by omega) (by omega)
    simpa [encs] using this
  | succ d ih =>
    intro k i l hl hn hi hd hk
    obtain ⟨k, rfl⟩ : ∃ m, k = m + 1 := ⟨k - 1, by omega⟩
    have hcl : (cutN l).length = l.length := by simp [cutN]
    have h1 : i < l.length := by omega
    have h1' : i < (cutN l).length := by omega
    obtain ⟨hx0, hx1⟩ := hl l[i] (List.getElem_mem h1)
    have hns : ∀ n ∈ (cutN l).take i, n < 18446744073709551616 := fun n h => by have := cutN_le l n (List.mem_of_mem_take h); omega
    have hlen := encs_len _ hns
    rw [List.length_take] at hlen
    have hget : (((cutN l)[i] : Nat) : Int) = l[i] % 2147483648 := by simp [cutN]; omega
    have hni := cutN_le l _ (List.getElem_mem h1')
    have hle := enc_len64 (v := (cutN l)[i]) (by omega)
    simp only [locksteplaw02_NumStream.l0]
    rw [if_pos (by omega), if_pos (by omega), rd_nat, getD_lt _ h1, mask31 hx0 hx1, ← hget, u64_wrap (by omega) (by omega), put_ok (by omega) (by omega)]
    simp only [Option.bind_some]
    rw [if_pos (by omega), if_pos (by simp only [castN, List.length_map, List.length_take]; omega), wrap_id (by omega) (by omega), wrap_succ (n := l.length) (by omega) (by omega) (by omega), show ((i : Int) + 1) = ((i + 1 : Nat) : Int) by omega]
    have e : encs ((cutN l).take i) ++ enc (cutN l)[i] = encs ((cutN l).take (i + 1)) := by
      rw [List.take_succ_eq_append_getElem h1', encs_append]; simp [encs]
    have e2 : castN ((cutN l).take i) ++ [((cutN l)[i] : Int)] = castN ((cutN l).take (i + 1)) := by
      rw [List.take_succ_eq_append_getElem h1']; simp only [castN, List.map_append, List.map_cons, List.map_nil]
    rw [e, e2]
    exact ih k (i + 1) l hl hn (by omega) (by omega) (by omega)

theorem NumStream : locksteplaw02_NumStream.Pure := by
  intro l hl1 hl2 hl
  refine ⟨20000, ?_⟩
  unfold locksteplaw02_NumStream.f
  rw [awake_any (by omega)]
  simp only [Option.bind_some, if_true]
  by_cases h : (l.length : Int) > 100
  · rw [if_pos h]
  · rw [if_neg h]
    have := stream_l0 l.length 20000 0 l (fun x hx => wf_u32 (hl x hx)) (by omega) (by omega) (by omega) (by omega)
    simpa [encs, castN] using this

end Go.Proofs.Ytokfaaemhniodaa.Pure
