/- Plain laws of lists of numbers as bytes: what num.Row, num.List and the reference's Row come to. No conditions beyond each theorem's own. -/
import Derived.Test.YtokfaaemhniodaaPNumA
import Derived.Test.YtokfaaemhniodaaQx10
import Derived.Test.YtokfaaemhniodaaQx3
import Derived.Test.YtokfaaemhniodaaQx11
namespace Go.Proofs.Ytokfaaemhniodaa.Pure
open Go.RowKit Go.Proofs.Ytokfaaemhniodaa.Q Go.Proofs.YtokfaaemhniodaaW.PrintWords Go.Proofs.YtokfaaemhniodaaW.PrintLast Go.Proofs.YtokfaaemhniodaaW.PrintMore

/-- Numbers, one behind the other, as bytes. -/
def encs : List Nat → List Int
  | [] => []
  | n :: ns => enc n ++ encs ns
theorem encs_append (a b : List Nat) : encs (a ++ b) = encs a ++ encs b := by
  induction a with
  | nil => rfl
  | cons x a ih => simp only [List.cons_append, encs, ih, List.append_assoc]
theorem encs_bytes : ∀ ns : List Nat, ∀ x ∈ encs ns, 0 ≤ x ∧ x < 256 := by
  intro ns
  induction ns with
  | nil => intro x h; simp [encs] at h
  | cons n ns ih => exact bytes_append (enc_bytes n) ih
theorem encs_len : ∀ ns : List Nat, (∀ n ∈ ns, n < 18446744073709551616) → (encs ns).length ≤ 10 * ns.length := by
  intro ns
  induction ns with
  | nil => intro _; simp [encs]
  | cons n ns ih =>
    intro h
    have h1 := ih (fun m hm => h m (List.mem_cons_of_mem _ hm))
    have h2 := enc_len64 (h n (List.mem_cons_self ..))
    simp only [encs, List.length_append, List.length_cons]; omega

/-- What Row makes of what is left of a list, behind bytes. -/
def rowS : List Int → List Int → List Int
  | acc, [] => acc
  | acc, x :: xs => if x < 0 then [] else rowS (acc ++ enc x.toNat) xs
theorem rowS_neg : ∀ (l acc : List Int), (∃ x ∈ l, x < 0) → rowS acc l = [] := by
  intro l
  induction l with
  | nil => intro acc h; simp at h
  | cons y l ih =>
    intro acc h
    simp only [rowS]
    split
    · rfl
    · obtain ⟨x, hx, hn⟩ := h
      rcases List.mem_cons.mp hx with rfl | hx
      · omega
      · exact ih _ ⟨x, hx, hn⟩
theorem rowS_pos : ∀ (l acc : List Int), (∀ x ∈ l, 0 ≤ x) → rowS acc l = acc ++ encs (l.map Int.toNat) := by
  intro l
  induction l with
  | nil => intro acc _; simp [rowS, encs]
  | cons y l ih =>
    intro acc h
    simp only [rowS, List.map_cons, encs]
    rw [if_neg (by have := h y (List.mem_cons_self ..); omega), ih _ (fun x hx => h x (List.mem_cons_of_mem _ hx)), List.append_assoc]

theorem row_l0 (d : Nat) : ∀ (k i : Nat) (acc l : List Int), (∀ x ∈ l, x < 9223372036854775808) → l.length ≤ 4611686018427387904 → i ≤ l.length → l.length - i = d → d + 12 < k → acc.length + 10 * d + 10 < 140737488355328 →
    num_Row.l0 k acc l (l.length : Int) (i : Int) = some (rowS acc (l.drop i)) := by
  induction d with
  | zero =>
    intro k i acc l hl hn hi hd hk ha
    obtain ⟨k, rfl⟩ : ∃ m, k = m + 1 := ⟨k - 1, by omega⟩
    simp only [num_Row.l0]; rw [if_neg (by omega), List.drop_of_length_le (by omega)]; rfl
  | succ d ih =>
    intro k i acc l hl hn hi hd hk ha
    obtain ⟨k, rfl⟩ : ∃ m, k = m + 1 := ⟨k - 1, by omega⟩
    have h1 : i < l.length := by omega
    have hx := hl l[i] (List.getElem_mem h1)
    simp only [num_Row.l0]
    rw [if_pos (by omega), if_pos (by omega), if_pos (by omega), rd_nat, getD_lt _ h1, List.drop_eq_getElem_cons h1]
    simp only [rowS]
    by_cases hneg : l[i] < 0
    · rw [if_pos hneg, if_pos hneg]
    · rw [if_neg hneg, if_neg hneg, u64_wrap (by omega) (by omega), show l[i] = ((l[i].toNat : Nat) : Int) by omega, put_ok (by omega) (by omega)]
      have hle := enc_len64 (v := l[i].toNat) (by omega)
      simp only [Option.bind_some, Int.toNat_natCast]
      rw [if_pos (by omega), wrap_succ (n := l.length) (by omega) (by omega) (by omega), show ((i : Int) + 1) = ((i + 1 : Nat) : Int) by omega]
      exact ih k (i + 1) _ l hl hn (by omega) (by omega) (by omega) (by rw [List.length_append]; omega)
theorem row_ok {k : Nat} {l : List Int} (hl : ∀ x ∈ l, x < 9223372036854775808) (hn : l.length ≤ 1000000) (hk : l.length + 12 < k) : num_Row.f k l = some (rowS (enc l.length) l) := by
  unfold num_Row.f
  have := enc_len64 (v := l.length) (by omega)
  rw [u64_wrap (by omega) (by omega), put_ok (by omega) (by omega)]
  simp only [Option.bind_some]
  have := row_l0 l.length k 0 (enc l.length) l hl (by omega) (by omega) (by omega) hk (by omega)
  simpa using this
theorem rrow_l0 (d : Nat) : ∀ (k i : Nat) (acc l : List Int), (∀ x ∈ l, x < 9223372036854775808) → l.length ≤ 4611686018427387904 → i ≤ l.length → l.length - i = d → d + 12 < k → acc.length + 10 * d + 10 < 140737488355328 →
    lockstepref02_Row.l0 k l acc (i : Int) = some (rowS acc (l.drop i)) := by
  induction d with
  | zero =>
    intro k i acc l hl hn hi hd hk ha
    obtain ⟨k, rfl⟩ : ∃ m, k = m + 1 := ⟨k - 1, by omega⟩
    simp only [lockstepref02_Row.l0]; rw [if_neg (by omega), List.drop_of_length_le (by omega)]; rfl
  | succ d ih =>
    intro k i acc l hl hn hi hd hk ha
    obtain ⟨k, rfl⟩ : ∃ m, k = m + 1 := ⟨k - 1, by omega⟩
    have h1 : i < l.length := by omega
    have hx := hl l[i] (List.getElem_mem h1)
    simp only [lockstepref02_Row.l0]
    rw [if_pos (by omega), if_pos (by omega), rd_nat, getD_lt _ h1, List.drop_eq_getElem_cons h1]
    simp only [rowS]
    by_cases hneg : l[i] < 0
    · rw [if_pos hneg, if_pos hneg]
    · rw [if_neg hneg, if_neg hneg, u64_wrap (by omega) (by omega), show l[i] = ((l[i].toNat : Nat) : Int) by omega, rput_ok (by omega) (by omega)]
      have hle := enc_len64 (v := l[i].toNat) (by omega)
      simp only [Option.bind_some, Int.toNat_natCast]
      rw [if_pos (by omega), wrap_succ (n := l.length) (by omega) (by omega) (by omega), show ((i : Int) + 1) = ((i + 1 : Nat) : Int) by omega]
      exact ih k (i + 1) _ l hl hn (by omega) (by omega) (by omega) (by rw [List.length_append]; omega)
theorem rrow_ok {k : Nat} {l : List Int} (hl : ∀ x ∈ l, x < 9223372036854775808) (hn : l.length ≤ 1000000) (hk : l.length + 12 < k) : lockstepref02_Row.f k l = some (rowS (enc l.length) l) := by
  unfold lockstepref02_Row.f
  have := enc_len64 (v := l.length) (by omega)
  rw [u64_wrap (by omega) (by omega), rput_ok (by omega) (by omega)]
  simp only [Option.bind_some]
  have := rrow_l0 l.length k 0 (enc l.length) l hl (by omega) (by omega) (by omega) hk (by omega)
  simpa using this

/-- What List makes of numbers that are left, from a byte on. -/
def listS : List Int → Nat → List Nat → List Int × Int × Int
  | acc, p, [] => (acc, (p : Int), 0)
  | acc, p, n :: ns => if n > 2147483647 then ([], 0, 4) else listS (acc ++ [(n : Int)]) (p + (enc n).length) ns
theorem listS_ok : ∀ (ns : List Nat) (acc : List Int) (p : Nat), (∀ n ∈ ns, n ≤ 2147483647) → listS acc p ns = (acc ++ ns.map (fun n : Nat => (n : Int)), ((p + (encs ns).length : Nat) : Int), 0) := by
  intro ns
  induction ns with
  | nil => intro acc p _; simp [listS, encs]
  | cons n ns ih =>
    intro acc p h
    simp only [listS, encs]
    rw [if_neg (by have := h n (List.mem_cons_self ..); omega), ih _ _ (fun m hm => h m (List.mem_cons_of_mem _ hm))]
    simp only [List.append_assoc, List.cons_append, List.nil_append, List.map_cons, List.length_append, Nat.add_assoc]
theorem listS_great : ∀ (ns : List Nat) (acc : List Int) (p : Nat), (∃ n ∈ ns, n > 2147483647) → listS acc p ns = ([], 0, 4) := by
  intro ns
  induction ns with
  | nil => intro acc p h; simp at h
  | cons m ns ih =>
    intro acc p h
    simp only [listS]
    split
    · rfl
    · obtain ⟨n, hn, hg⟩ := h
      rcases List.mem_cons.mp hn with rfl | hn
      · omega
      · exact ih _ _ ⟨n, hn, hg⟩
theorem list_l0 : ∀ (ns : List Nat) (k p i : Nat) (b acc more : List Int) (cnt : Int), (∀ n ∈ ns, n < 18446744073709551616) → (∀ x ∈ b, 0 ≤ x ∧ x < 256) → b.length ≤ 4611686018427387904 → p ≤ b.length → b.drop p = encs ns ++ more →
    cnt = ((i + ns.length : Nat) : Int) → i + ns.length < 4611686018427387904 → acc.length + ns.length < 17592186044416 → ns.length + 23 < k → num_List.l0 k b (p : Int) acc cnt (i : Int) = some (listS acc p ns) := by
  intro ns
  induction ns with
  | nil =>
    intro k p i b acc more cnt _ _ _ _ _ hc _ _ hk
    obtain ⟨k, rfl⟩ : ∃ m, k = m + 1 := ⟨k - 1, by omega⟩
    simp only [num_List.l0]; rw [if_neg (by simp at hc; omega)]; rfl
  | cons n ns ih =>
    intro k p i b acc more cnt hns hb hl hp hd hc hi ha hk
    obtain ⟨k, rfl⟩ : ∃ m, k = m + 1 := ⟨k - 1, by omega⟩
    simp only [List.length_cons] at hc hi ha hk
    have hn := hns n (List.mem_cons_self ..)
    have hdl : (enc n).length + (encs ns).length + more.length = b.length - p := by
      have := congrArg List.length hd
      simp only [encs, List.length_drop, List.length_append] at this; omega
    simp only [num_List.l0]
    rw [if_pos (by omega), if_pos (by omega), if_pos (by omega), Int.toNat_natCast, get_few (bytes_drop _ hb) (by rw [List.length_drop]; omega) (by omega), hd]
    simp only [encs, List.append_assoc]
    rw [go_enc0 n _ hn]
    simp only [Option.bind_some, if_true, listS]
    by_cases hg : n > 2147483647
    · rw [if_pos (by omega), if_pos hg]
    · rw [if_neg (by omega), if_neg hg, if_pos (by omega), wrap_id (x := (n : Int)) (by omega) (by omega), wrap_id (x := (p : Int) + ((enc n).length : Int)) (by omega) (by omega), u64_wrap (by omega) (by omega)]
      rw [show ((p : Int) + ((enc n).length : Int)) = ((p + (enc n).length : Nat) : Int) by omega, show ((i : Int) + 1) = ((i + 1 : Nat) : Int) by omega]
      refine ih k (p + (enc n).length) (i + 1) b _ more cnt (fun m hm => hns m (List.mem_cons_of_mem _ hm)) hb hl (by omega) ?_ (by omega) (by omega) (by simp only [List.length_append, List.length_cons, List.length_nil]; omega) (by omega)
      rw [← List.drop_drop, hd]; simp [encs]
theorem list_ok {k : Nat} {b more : List Int} {ns : List Nat} {most : Int} (hns : ∀ n ∈ ns, n < 18446744073709551616) (hlen : ns.length ≤ 1000000) (hb : ∀ x ∈ b, 0 ≤ x ∧ x < 256) (hl : b.length ≤ 4611686018427387904)
    (he : b = enc ns.length ++ (encs ns ++ more)) (hm : (ns.length : Int) ≤ most) (hm' : most < 9223372036854775808) (hk : ns.length + 24 < k) : num_List.f k b most = some (listS [] (enc ns.length).length ns) := by
  unfold num_List.f
  rw [get_few hb (by omega) (by omega), he, go_enc0 _ _ (by omega)]
  simp only [Option.bind_some, if_true]
  rw [if_neg (by omega), u64_wrap (by omega) (by omega), if_neg (by omega), ← he]
  have h := list_l0 ns k (enc ns.length).length 0 b [] more (ns.length : Int) hns hb hl (by rw [he]; simp) (by rw [he]; simp) (by omega) (by omega) (by simp; omega) (by omega)
  simpa using h
theorem list_few {k : Nat} {b more : List Int} {cnt : Nat} {most : Int} (hc : cnt < 18446744073709551616) (hb : ∀ x ∈ b, 0 ≤ x ∧ x < 256) (hl : b.length ≤ 4611686018427387904)
    (he : b = enc cnt ++ more) (hm : most < (cnt : Int)) (hm' : most < 9223372036854775808) (hk : 21 < k) : num_List.f k b most = some ([], 0, 4) := by
  unfold num_List.f
  rw [get_few hb (by omega) (by omega), he, go_enc0 _ _ hc]
  simp only [Option.bind_some, if_true]
  by_cases h : most < 0
  · rw [if_pos h]
  · rw [if_neg h, u64_wrap (by omega) (by omega), if_pos (by omega)]

end Go.Proofs.Ytokfaaemhniodaa.Pure
