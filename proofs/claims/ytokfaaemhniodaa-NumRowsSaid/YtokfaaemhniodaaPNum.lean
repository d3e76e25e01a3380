/- Plain laws of the numbers as bytes: what num.Put, num.Get and the reference's Put come to. No conditions beyond each theorem's own. -/
import Derived.Test.YtokfaaemhniodaaQx1
import Derived.Test.YtokfaaemhniodaaQx2
import Derived.Test.YtokfaaemhniodaaQx6
import Derived.Test.YtokfaaemhniodaaQx5
import Derived.Test.YtokfaaemhniodaaQx12
namespace Go.Proofs.Ytokfaaemhniodaa.Pure
open Go.RowKit Go.Proofs.Ytokfaaemhniodaa.Q Go.Proofs.YtokfaaemhniodaaW.PrintWords Go.Proofs.YtokfaaemhniodaaW.PrintLast Go.Proofs.YtokfaaemhniodaaW.PrintMore

/-- A number as bytes. -/
def enc (v : Nat) : List Int := if v < 128 then [(v : Int)] else ((v % 128 + 128 : Nat) : Int) :: enc (v / 128)
termination_by v
decreasing_by omega

theorem enc_small {v : Nat} (h : v < 128) : enc v = [(v : Int)] := by rw [enc, if_pos h]
theorem enc_big {v : Nat} (h : ¬ v < 128) : enc v = ((v % 128 + 128 : Nat) : Int) :: enc (v / 128) := by rw [enc, if_neg h]

theorem enc_length (d : Nat) : ∀ v, v < 128 ^ (d + 1) → (enc v).length ≤ d + 1 := by
  induction d with
  | zero => intro v h; rw [enc_small (by simpa using h)]; simp
  | succ d ih =>
    intro v h
    by_cases hv : v < 128
    · rw [enc_small hv]; simp
    · rw [enc_big hv]
      have : v / 128 < 128 ^ (d + 1) := by
        apply Nat.div_lt_of_lt_mul
        rw [Nat.pow_succ] at h; omega
      have := ih _ this
      simp only [List.length_cons]; omega
theorem enc_pos (v : Nat) : 0 < (enc v).length := by
  rw [enc]; split <;> simp
theorem enc_len64 {v : Nat} (h : v < 18446744073709551616) : (enc v).length ≤ 10 :=
  enc_length 9 v (Nat.lt_of_lt_of_le h (by decide))
theorem enc_mono (d : Nat) : ∀ a b, a ≤ b → b < 128 ^ (d + 1) → (enc a).length ≤ (enc b).length := by
  induction d with
  | zero => intro a b h hb; rw [enc_small (v := a) (by omega), enc_small (v := b) (by omega)]; simp
  | succ d ih =>
    intro a b h hb
    by_cases ha : a < 128
    · rw [enc_small ha]; have := enc_pos b; simp only [List.length_cons, List.length_nil]; omega
    · rw [enc_big ha, enc_big (v := b) (by omega)]
      have : b / 128 < 128 ^ (d + 1) := by
        apply Nat.div_lt_of_lt_mul
        rw [Nat.pow_succ] at hb; omega
      have := ih (a / 128) (b / 128) (by omega) this
      simp only [List.length_cons]; omega

theorem or128 : ∀ x : Fin 256, Go.bits .or .u8 (x.val : Int) 128 = ((x.val % 128 + 128 : Nat) : Int) := by decide +kernel
theorem and127 : ∀ x : Fin 256, Go.bits .and .u8 (x.val : Int) 127 = ((x.val % 128 : Nat) : Int) := by decide +kernel
theorem or128' {x : Int} (h : 0 ≤ x) (h' : x < 256) : Go.bits .or .u8 x 128 = x % 128 + 128 := by
  have := or128 ⟨x.toNat, by omega⟩
  simp only at this
  rw [show ((x.toNat : Nat) : Int) = x by omega] at this
  rw [this]; omega
theorem and127' {x : Int} (h : 0 ≤ x) (h' : x < 256) : Go.bits .and .u8 x 127 = x % 128 := by
  have := and127 ⟨x.toNat, by omega⟩
  simp only at this
  rw [show ((x.toNat : Nat) : Int) = x by omega] at this
  rw [this]; omega

/-! #### num.Put -/
theorem put_l0 (d : Nat) : ∀ (k v : Nat) (acc : List Int), v < 128 ^ (d + 1) → d < k → acc.length + d + 1 < 140737488355328 → num_Put.l0 k (v : Int) acc = some (acc ++ enc v) := by
  induction d with
  | zero =>
    intro k v acc hv hk ha
    obtain ⟨k, rfl⟩ : ∃ m, k = m + 1 := ⟨k - 1, by omega⟩
    have hv' : v < 128 := by simpa using hv
    simp only [num_Put.l0]; rw [if_neg (by omega), if_pos (by omega), enc_small hv']
    congr 3; omega
  | succ d ih =>
    intro k v acc hv hk ha
    obtain ⟨k, rfl⟩ : ∃ m, k = m + 1 := ⟨k - 1, by omega⟩
    by_cases hv' : v < 128
    · simp only [num_Put.l0]; rw [if_neg (by omega), if_pos (by omega), enc_small hv']
      congr 3; omega
    · have hd : v / 128 < 128 ^ (d + 1) := by
        apply Nat.div_lt_of_lt_mul
        rw [Nat.pow_succ] at hv; omega
      simp only [num_Put.l0]; rw [if_pos (by omega), if_pos (by omega), enc_big hv']
      rw [show ((v : Int) / 128) = ((v / 128 : Nat) : Int) by omega, ih k (v / 128) _ hd (by omega) (by simp only [List.length_append, List.length_cons, List.length_nil]; omega)]
      rw [or128' (by omega) (by omega), List.append_assoc]
      congr 3; simp only [List.cons_append, List.nil_append, List.cons.injEq, and_true]; omega
theorem put_ok {k v : Nat} (hv : v < 18446744073709551616) (hk : 10 ≤ k) : num_Put.f k (v : Int) = some (enc v) := by
  unfold num_Put.f
  rw [put_l0 9 k v [] (Nat.lt_of_lt_of_le hv (by decide)) (by omega) (by simp)]; simp

/-! #### the reference's Put -/
theorem u64_wrap {x : Int} (h : 0 ≤ x) (h' : x < 18446744073709551616) : IntKind.u64.wrap x = x := by
  simp [IntKind.wrap, IntKind.bits, IntKind.signed]; omega
theorem rput_l (d : Nat) : ∀ (k v : Nat), v < 128 ^ (d + 1) → v < 18446744073709551616 → d ≤ 10 → d < k → lockstepref02_Put.f k (v : Int) = some (enc v) := by
  induction d with
  | zero =>
    intro k v hv _ _ hk
    obtain ⟨k, rfl⟩ : ∃ m, k = m + 1 := ⟨k - 1, by omega⟩
    have hv' : v < 128 := by simpa using hv
    simp only [lockstepref02_Put.f]; rw [if_pos (by omega), enc_small hv']
    congr 2; omega
  | succ d ih =>
    intro k v hv hv64 hd10 hk
    obtain ⟨k, rfl⟩ : ∃ m, k = m + 1 := ⟨k - 1, by omega⟩
    by_cases hv' : v < 128
    · simp only [lockstepref02_Put.f]; rw [if_pos (by omega), enc_small hv']
      congr 2; omega
    · have hd : v / 128 < 128 ^ (d + 1) := by
        apply Nat.div_lt_of_lt_mul
        rw [Nat.pow_succ] at hv; omega
      simp only [lockstepref02_Put.f]; rw [if_neg (by omega)]
      simp only [Option.bind_some]
      rw [show Int.tdiv (v : Int) 128 = ((v / 128 : Nat) : Int) by rw [Int.tdiv_eq_ediv_of_nonneg (by omega)]; omega, u64_wrap (by omega) (by omega), ih k (v / 128) hd (by omega) (by omega) (by omega)]
      simp only [Option.bind_some]
      have hl : (enc (v / 128)).length ≤ 10 := enc_len64 (by omega)
      rw [if_pos (by simp only [List.length_cons, List.length_nil]; omega), enc_big hv']
      rw [Int.tmod_eq_emod_of_nonneg (by omega), u64_wrap (by omega) (by omega)]
      simp only [List.cons_append, List.nil_append]
      congr 2; omega
theorem rput_ok {k v : Nat} (hv : v < 18446744073709551616) (hk : 10 ≤ k) : lockstepref02_Put.f k (v : Int) = some (enc v) :=
  rput_l 9 k v (Nat.lt_of_lt_of_le hv (by decide)) hv (by omega) (by omega)

/-! #### the same? -/
theorem wrap_succ {i : Int} {n : Nat} (h0 : 0 ≤ i) (h : i < (n : Int)) (hn : n ≤ 9223372036854775807) : wrap64 (i + 1) = i + 1 := by
  unfold wrap64
  omega
theorem rd_nat (l : List Int) (i : Nat) : rd l (i : Int) = l.getD i 0 := by simp [rd]
theorem getD_lt (l : List Int) {i : Nat} (h : i < l.length) : l.getD i 0 = l[i] := by simp [List.getD, h]
theorem same_l0 (d : Nat) : ∀ (k i : Nat) (a b : List Int), a.length = b.length → a.length ≤ 9223372036854775807 → i ≤ a.length → a.length - i = d → d < k →
    lockstepref02_Same.l0 k a b (i : Int) = some (decide (a.drop i = b.drop i)) := by
  induction d with
  | zero =>
    intro k i a b hl hn hi hd hk
    obtain ⟨k, rfl⟩ : ∃ m, k = m + 1 := ⟨k - 1, by omega⟩
    simp only [lockstepref02_Same.l0]; rw [if_neg (by omega), List.drop_of_length_le (by omega), List.drop_of_length_le (by omega)]; simp
  | succ d ih =>
    intro k i a b hl hn hi hd hk
    obtain ⟨k, rfl⟩ : ∃ m, k = m + 1 := ⟨k - 1, by omega⟩
    simp only [lockstepref02_Same.l0]; rw [if_pos (by omega), if_pos (by omega), if_pos (by omega), rd_nat, rd_nat]
    have h1 : i < a.length := by omega
    have h2 : i < b.length := by omega
    rw [List.drop_eq_getElem_cons h1, List.drop_eq_getElem_cons h2, getD_lt a h1, getD_lt b h2]
    by_cases he : a[i] = b[i]
    · rw [if_pos he, wrap_succ (n := a.length) (by omega) (by omega) hn, show ((i : Int) + 1) = ((i + 1 : Nat) : Int) by omega, ih k (i + 1) a b hl hn (by omega) (by omega) (by omega)]
      simp only [List.cons.injEq, he, true_and]
    · rw [if_neg he]; simp only [List.cons.injEq, he, false_and, decide_false]
theorem same_ok {k : Nat} {a b : List Int} (hn : a.length ≤ 9223372036854775807) (hk : a.length < k) : lockstepref02_Same.f k a b = some (decide (a = b)) := by
  unfold lockstepref02_Same.f
  by_cases h : a.length = b.length
  · rw [if_pos (by omega)]
    have := same_l0 a.length k 0 a b h hn (by omega) (by omega) hk
    simpa using this
  · rw [if_neg (by omega)]
    have : a ≠ b := fun e => h (by rw [e])
    simp [this]
theorem ints_l0 (d : Nat) : ∀ (k i : Nat) (a b : List Int), a.length = b.length → a.length ≤ 9223372036854775807 → i ≤ a.length → a.length - i = d → d < k →
    lockstepref02_Ints.l0 k a b (i : Int) = some (decide (a.drop i = b.drop i)) := by
  induction d with
  | zero =>
    intro k i a b hl hn hi hd hk
    obtain ⟨k, rfl⟩ : ∃ m, k = m + 1 := ⟨k - 1, by omega⟩
    simp only [lockstepref02_Ints.l0]; rw [if_neg (by omega), List.drop_of_length_le (by omega), List.drop_of_length_le (by omega)]; simp
  | succ d ih =>
    intro k i a b hl hn hi hd hk
    obtain ⟨k, rfl⟩ : ∃ m, k = m + 1 := ⟨k - 1, by omega⟩
    simp only [lockstepref02_Ints.l0]; rw [if_pos (by omega), if_pos (by omega), if_pos (by omega), rd_nat, rd_nat]
    have h1 : i < a.length := by omega
    have h2 : i < b.length := by omega
    rw [List.drop_eq_getElem_cons h1, List.drop_eq_getElem_cons h2, getD_lt a h1, getD_lt b h2]
    by_cases he : a[i] = b[i]
    · rw [if_pos he, wrap_succ (n := a.length) (by omega) (by omega) hn, show ((i : Int) + 1) = ((i + 1 : Nat) : Int) by omega, ih k (i + 1) a b hl hn (by omega) (by omega) (by omega)]
      simp only [List.cons.injEq, he, true_and]
    · rw [if_neg he]; simp only [List.cons.injEq, he, false_and, decide_false]
theorem ints_ok {k : Nat} {a b : List Int} (hn : a.length ≤ 9223372036854775807) (hk : a.length < k) : lockstepref02_Ints.f k a b = some (decide (a = b)) := by
  unfold lockstepref02_Ints.f
  by_cases h : a.length = b.length
  · rw [if_pos (by omega)]
    have := ints_l0 a.length k 0 a b h hn (by omega) (by omega) hk
    simpa using this
  · rw [if_neg (by omega)]
    have : a ≠ b := fun e => h (by rw [e])
    simp [this]

/-! #### num.Get -/
/-- What num.Get comes to, from a byte on: behind n bytes, of the value v. -/
def go : List Int → Nat → Int → Int × Int × Int
  | [], _, _ => (0, 0, 2)
  | c :: cs, n, v =>
    if n = 9 ∧ c > 1 then (0, 0, 3)
    else if c ≥ 128 then go cs (n + 1) (v + c % 128 * 128 ^ n)
    else if c = 0 ∧ n ≥ 1 then (0, 0, 3)
    else (v + c % 128 * 128 ^ n, ((n + 1 : Nat) : Int), 0)

theorem or_comm' (k : IntKind) (x y : Int) : Go.bits .or k x y = Go.bits .or k y x := by
  unfold Go.bits
  simp only [BitVec.or_comm]
theorem pow7 (n : Nat) : (2 : Int) ^ (7 * n) = 128 ^ n := by rw [Int.pow_mul]; rfl
theorem or_step {v c : Int} {n : Nat} (hn : n ≤ 9) (hv : 0 ≤ v) (hv' : v < 128 ^ n) (hc : 0 ≤ c) (hc' : c < 256) (h9 : n = 9 → c ≤ 1) :
    Go.bits .or .u64 v (shl .u64 (IntKind.u64.wrap (Go.bits .and .u8 c 127)) (7 * (n : Int))) = v + c % 128 * 128 ^ n := by
  have hle : (128 : Int) ^ n ≤ 128 ^ 9 := by
    have : (128 : Nat) ^ n ≤ 128 ^ 9 := Nat.pow_le_pow_right (by decide) hn
    exact_mod_cast this
  rw [and127' hc hc', u64_wrap (by omega) (by omega)]
  have hpos : (0 : Int) < 128 ^ n := Int.pow_pos (by decide)
  have hb : 0 ≤ c % 128 * 128 ^ n := Int.mul_nonneg (by omega) (by omega)
  have hub : c % 128 * 128 ^ n + 128 ^ n ≤ 18446744073709551616 := by
    rcases Nat.lt_or_eq_of_le hn with h | rfl
    · have h8 : (128 : Int) ^ n ≤ 128 ^ 8 := by
        have : (128 : Nat) ^ n ≤ 128 ^ 8 := Nat.pow_le_pow_right (by decide) (by omega)
        exact_mod_cast this
      have : (c % 128 + 1) * 128 ^ n ≤ 128 * 128 ^ 8 := Int.mul_le_mul (by omega) h8 (by omega) (by decide)
      rw [Int.add_mul] at this
      have e : (128 : Int) * 128 ^ 8 = 9223372036854775808 := by decide
      omega
    · have := h9 rfl
      have e : (128 : Int) ^ 9 = 9223372036854775808 := by decide
      rw [e]; omega
  have hs : shl .u64 (c % 128) (7 * (n : Int)) = c % 128 * 128 ^ n := by
    unfold shl
    rw [show min (7 * (n : Int)).toNat IntKind.u64.bits = 7 * n by simp [IntKind.bits]; omega, pow7, u64_wrap hb (by omega)]
  rw [hs]
  have e64 : (2 : Int) ^ 64 = 18446744073709551616 := by decide
  have hmod : c % 128 * 128 ^ n % 2 ^ (7 * n) = 0 := by rw [pow7]; exact Int.mul_emod_left _ _
  rw [or_comm', Go.bits_join .u64 64 (by decide) (fun m h h' => u64_wrap h (by rw [e64] at h'; exact h')) (7 * n) _ v hb hmod (by rw [e64]; omega) hv (by rw [pow7]; exact hv') (by rw [e64]; omega)]
  omega

theorem wrap_mul7 {n : Nat} (hn : n ≤ 9) : wrap64 (7 * (n : Int)) = 7 * (n : Int) := by unfold wrap64; omega

/-! #### Get needs few rounds, however long the bytes are -/
theorem get_l0' (d : Nat) : ∀ (k n : Nat) (b : List Int) (v : Int), (∀ x ∈ b, 0 ≤ x ∧ x < 256) → b.length ≤ 9223372036854775807 → n ≤ b.length → n + d = 10 → n ≤ 9 → 0 ≤ v → v < 128 ^ n → 2 * d + 1 < k →
    num_Get.l0 k b v (n : Int) = some (go (b.drop n) n v) := by
  induction d with
  | zero => intro k n b v hb hl hn hd h9; omega
  | succ d ih =>
    intro k n b v hb hl hn hd h9 hv hv' hk
    obtain ⟨k, rfl⟩ : ∃ m, k = m + 1 + 1 := ⟨k - 2, by omega⟩
    by_cases h1 : n < b.length
    · obtain ⟨hc0, hc1⟩ := hb b[n] (List.getElem_mem h1)
      have hj : ∀ t : Bool, num_Get.j1 (k + 1) b v n b[n] t = some (if t = true then (0, 0, 3) else if b[n] ≥ 128 then go (b.drop (n + 1)) (n + 1) (v + b[n] % 128 * 128 ^ n) else if b[n] = 0 ∧ n ≥ 1 then (0, 0, 3) else (v + b[n] % 128 * 128 ^ n, ((n + 1 : Nat) : Int), 0)) ∨ (t = false ∧ n = 9 ∧ b[n] > 1) := by
        intro t
        cases t with
        | true => left; simp only [num_Get.j1, if_true]
        | false =>
          by_cases h91 : n = 9 ∧ b[n] > 1
          · right; exact ⟨rfl, h91⟩
          · left
            have hor := or_step (v := v) (c := b[n]) h9 hv hv' hc0 hc1 (fun h => by omega)
            simp only [num_Get.j1]
            rw [if_neg (by simp : ¬ (false = true)), if_neg (by simp : ¬ (false = true)), wrap_mul7 h9, if_pos (by omega), hor, wrap_succ (n := b.length) (by omega) (by omega) hl, show ((n : Int) + 1) = ((n + 1 : Nat) : Int) by omega]
            have hp : (0 : Int) < 128 ^ n := Int.pow_pos (by decide)
            have hnew : v + b[n] % 128 * 128 ^ n < 128 ^ (n + 1) := by
              have : (b[n] % 128 + 1) * 128 ^ n ≤ 128 * 128 ^ n := Int.mul_le_mul_of_nonneg_right (by omega) (by omega)
              rw [Int.add_mul] at this
              rw [Int.pow_succ]; omega
            by_cases hge : b[n] ≥ 128
            · rw [if_pos hge, if_pos hge, ih k (n + 1) b _ hb hl (by omega) (by omega) (by omega) (Int.add_nonneg hv (Int.mul_nonneg (by omega) (by omega))) hnew (by omega)]
            · rw [if_neg hge, if_neg hge]
              by_cases hz : b[n] = 0
              · rw [if_pos hz]
                by_cases hn1 : n ≥ 1
                · rw [if_pos (by omega), if_pos ⟨hz, hn1⟩]
                · rw [if_neg (by omega), if_neg (by omega)]
              · rw [if_neg hz, if_neg (by omega)]
      simp only [num_Get.l0]
      rw [if_neg (by omega), if_pos (by omega), if_pos (by omega), rd_nat, getD_lt b h1, List.drop_eq_getElem_cons h1]
      simp only [go]
      by_cases hn9 : (n : Int) = 9
      · rw [if_pos hn9]
        rcases hj (decide (b[n] > 1)) with h | ⟨h, _, h'⟩
        · rw [h]
          by_cases hgt : b[n] > 1
          · rw [if_pos (by simpa using hgt), if_pos ⟨by omega, hgt⟩]
          · rw [if_neg (by simpa using hgt), if_neg (show ¬ (n = 9 ∧ b[n] > 1) by omega)]
        · simp at h; omega
      · rw [if_neg hn9]
        rcases hj false with h | ⟨_, h, _⟩
        · rw [h, if_neg (by simp : ¬ (false = true)), if_neg (show ¬ (n = 9 ∧ b[n] > 1) by omega)]
        · omega
    · simp only [num_Get.l0]; rw [if_pos (by omega), List.drop_of_length_le (by omega)]; rfl
theorem get_few {k : Nat} {b : List Int} (hb : ∀ x ∈ b, 0 ≤ x ∧ x < 256) (hl : b.length ≤ 9223372036854775807) (hk : 21 < k) : num_Get.f k b = some (go b 0 0) := by
  unfold num_Get.f
  have := get_l0' 10 k 0 b 0 hb hl (by omega) (by omega) (by omega) (by omega) (by decide) hk
  simpa using this

end Go.Proofs.Ytokfaaemhniodaa.Pure
