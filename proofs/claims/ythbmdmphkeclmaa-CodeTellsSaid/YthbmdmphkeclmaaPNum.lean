/- Plain laws of numbers as bytes: what num.Put and num.Get come to. No conditions beyond each theorem's own. -/
import Derived.Test.YthbmdmphkeclmaaS
import Derived.Test.YthbmdmphkeclmaaE3
set_option linter.unusedVariables false
set_option linter.unusedSimpArgs false
namespace Go.PrS
open Go Go.Ev Go.Proofs
/-- A number as bytes. -/
def enc (v : Nat) : List Int := if v < 128 then [(v : Int)] else ((v % 128 + 128 : Nat) : Int) :: enc (v / 128)
termination_by v
decreasing_by omega
theorem enc_small {v : Nat} (h : v < 128) : enc v = [(v : Int)] := by rw [enc, if_pos h]
theorem enc_big {v : Nat} (h : ¬ v < 128) : enc v = ((v % 128 + 128 : Nat) : Int) :: enc (v / 128) := by rw [enc, if_neg h]
theorem enc_length (d : Nat) : ∀ v, v < 128 ^ (d + 1) → (enc v).length ≤ d + 1 := by
  induction d with
  | zero => intro v h; rw [enc_small (by simpa using h)]; simp
  | succ d ih =>
    intro v h
    by_cases hv : v < 128
    · rw [enc_small hv]; simp
    · rw [enc_big hv]
      have : v / 128 < 128 ^ (d + 1) := by
        apply Nat.div_lt_of_lt_mul
        rw [Nat.pow_succ] at h; omega
      have := ih _ this
      simp only [List.length_cons]; omega
theorem enc_pos (v : Nat) : 0 < (enc v).length := by
  rw [enc]; split <;> simp
theorem enc_len64 {v : Nat} (h : v < 18446744073709551616) : (enc v).length ≤ 10 :=
  enc_length 9 v (Nat.lt_of_lt_of_le h (by decide))
/-- What num.Get comes to, from a byte on: behind n bytes, of the value v. -/
def go : List Int → Nat → Int → Int × Int × Int
  | [], _, _ => (0, 0, 2)
  | c :: cs, n, v =>
    if n = 9 ∧ c > 1 then (0, 0, 3)
    else if c ≥ 128 then go cs (n + 1) (v + c % 128 * 128 ^ n)
    else if c = 0 ∧ n ≥ 1 then (0, 0, 3)
    else (v + c % 128 * 128 ^ n, ((n + 1 : Nat) : Int), 0)
/-- Bytes. -/
def Bytes (b : List Int) : Prop := ∀ x ∈ b, 0 ≤ x ∧ x < 256
theorem Bytes.append {a b : List Int} (ha : Bytes a) (hb : Bytes b) : Bytes (a ++ b) := fun x hx => (List.mem_append.1 hx).elim (ha x) (hb x)
theorem Bytes.take {a : List Int} (n : Nat) (ha : Bytes a) : Bytes (a.take n) := fun x hx => ha x (List.mem_of_mem_take hx)
theorem Bytes.drop {a : List Int} (n : Nat) (ha : Bytes a) : Bytes (a.drop n) := fun x hx => ha x (List.mem_of_mem_drop hx)
theorem Bytes.tail {a : List Int} {x : Int} (ha : Bytes (x :: a)) : Bytes a := fun y hy => ha y (List.mem_cons_of_mem _ hy)
theorem enc_bytes : ∀ v, Bytes (enc v) := by
  intro v
  induction v using Nat.strongRecOn with
  | _ v ih =>
    intro x hx
    by_cases h : v < 128
    · rw [enc_small h] at hx; simp at hx; omega
    · rw [enc_big h] at hx
      rcases List.mem_cons.mp hx with rfl | hx
      · omega
      · exact ih _ (by omega) x hx
theorem top_small {v n : Nat} (h : v * 128 ^ n < 18446744073709551616) (h9 : n = 9) : v ≤ 1 := by
  subst h9
  rw [show (128 : Nat) ^ 9 = 9223372036854775808 by decide] at h; omega
theorem top_big {v n : Nat} (h : v * 128 ^ n < 18446744073709551616) (h9 : n ≤ 9) (hv : ¬ v < 128) : n ≤ 8 ∧ v / 128 * 128 ^ (n + 1) < 18446744073709551616 := by
  constructor
  · rcases Nat.lt_or_eq_of_le h9 with h' | h'
    · omega
    · have := top_small h h'; omega
  · have e : v / 128 * 128 ^ (n + 1) = v / 128 * 128 * 128 ^ n := by rw [Nat.pow_succ, Nat.mul_comm (128 ^ n) 128, Nat.mul_assoc]
    have : v / 128 * 128 * 128 ^ n ≤ v * 128 ^ n := Nat.mul_le_mul_right _ (by omega)
    omega
theorem go_enc : ∀ (v n : Nat) (acc : Int) (more : List Int), (n = 0 ∨ 0 < v) → n ≤ 9 → v * 128 ^ n < 18446744073709551616 →
    go (enc v ++ more) n acc = (acc + (v : Int) * 128 ^ n, ((n + (enc v).length : Nat) : Int), 0) := by
  intro v
  induction v using Nat.strongRecOn with
  | _ v ih =>
    intro n acc more h0 h9 hv
    by_cases h : v < 128
    · rw [enc_small h]
      simp only [List.cons_append, List.nil_append, go, List.length_cons, List.length_nil]
      rw [if_neg (show ¬ (n = 9 ∧ (v : Int) > 1) by have := top_small (v := v) (n := n) hv; omega), if_neg (show ¬ ((v : Int) ≥ 128) by omega), if_neg (show ¬ ((v : Int) = 0 ∧ n ≥ 1) by omega)]
      rw [Int.emod_eq_of_lt (by omega) (by omega)]
    · obtain ⟨h8, hv'⟩ := top_big hv h9 h
      rw [enc_big h]
      simp only [List.cons_append, go, List.length_cons]
      rw [if_neg (show ¬ (n = 9 ∧ ((v % 128 + 128 : Nat) : Int) > 1) by omega), if_pos (show ((v % 128 + 128 : Nat) : Int) ≥ 128 by omega)]
      rw [ih (v / 128) (by omega) (n + 1) _ more (by omega) (by omega) hv']
      have e1 : (((v % 128 + 128 : Nat) : Int) % 128) = ((v % 128 : Nat) : Int) := by omega
      have e2 : (v : Int) = ((v % 128 : Nat) : Int) + ((v / 128 : Nat) : Int) * 128 := by omega
      rw [e1]
      refine Prod.ext ?_ (Prod.ext ?_ rfl)
      · simp only
        rw [Int.pow_succ, Int.mul_comm (128 ^ n) 128, ← Int.mul_assoc, Int.add_assoc, ← Int.add_mul, ← e2]
      · simp only; omega
theorem go_cut : ∀ (v n j : Nat) (acc : Int), j < (enc v).length → n ≤ 9 → v * 128 ^ n < 18446744073709551616 → go ((enc v).take j) n acc = (0, 0, 2) := by
  intro v
  induction v using Nat.strongRecOn with
  | _ v ih =>
    intro n j acc hj h9 hv
    cases j with
    | zero => rw [List.take_zero]; rfl
    | succ j =>
      by_cases h : v < 128
      · rw [enc_small h] at hj; simp at hj
      · obtain ⟨h8, hv'⟩ := top_big hv h9 h
        rw [enc_big h] at hj ⊢
        simp only [List.length_cons] at hj
        simp only [List.take_succ_cons, go]
        rw [if_neg (show ¬ (n = 9 ∧ ((v % 128 + 128 : Nat) : Int) > 1) by omega), if_pos (show ((v % 128 + 128 : Nat) : Int) ≥ 128 by omega)]
        exact ih (v / 128) (by omega) (n + 1) j _ (by omega) (by omega) hv'
theorem go_enc0 (v : Nat) (more : List Int) (hv : v < 18446744073709551616) : go (enc v ++ more) 0 0 = ((v : Int), ((enc v).length : Int), 0) := by
  rw [go_enc v 0 0 more (.inl rfl) (by omega) (by simpa using hv)]; simp
theorem go_cut0 (v j : Nat) (hv : v < 18446744073709551616) (hj : j < (enc v).length) : go ((enc v).take j) 0 0 = (0, 0, 2) :=
  go_cut v 0 j 0 hj (by omega) (by simpa using hv)
/-- What is got is what was put. -/
theorem go_sound : ∀ (b : List Int) (n : Nat) (acc v k : Int), Bytes b → n ≤ 9 → go b n acc = (v, k, 0) →
    ∃ m : Nat, (n = 0 ∨ 0 < m) ∧ v = acc + (m : Int) * 128 ^ n ∧ k = ((n + (enc m).length : Nat) : Int) ∧ (∃ more, b = enc m ++ more) ∧ m * 128 ^ n < 18446744073709551616
  | [], _, _, _, _, _, _, h => by simp [go] at h
  | c :: cs, n, acc, v, k, hb, h9, h => by
    obtain ⟨c0, c1⟩ := hb c (by simp)
    simp only [go] at h
    split at h
    · simp at h
    · rename_i hn9
      split at h
      · rename_i hc
        by_cases h8 : n = 9
        · omega
        · obtain ⟨m, m1, m2, m3, ⟨more, m4⟩, m5⟩ := go_sound cs (n + 1) _ v k hb.tail (by omega) h
          have hm : 0 < m := by omega
          have hbig : ¬ (m * 128 + (c - 128).toNat < 128) := by omega
          have e1 : (m * 128 + (c - 128).toNat) % 128 = (c - 128).toNat := by omega
          have e2 : (m * 128 + (c - 128).toNat) / 128 = m := by omega
          have e3 : enc (m * 128 + (c - 128).toNat) = c :: enc m := by
            rw [enc_big hbig, e1, e2]
            congr 1; omega
          refine ⟨m * 128 + (c - 128).toNat, by omega, ?_, ?_, ⟨more, by rw [e3, m4]; rfl⟩, ?_⟩
          · rw [m2]
            have e4 : c % 128 = ((c - 128).toNat : Int) := by omega
            rw [e4, Int.pow_succ, Int.add_assoc, ← Int.mul_assoc, Int.mul_comm _ (128 : Int), ← Int.mul_assoc, ← Int.add_mul]
            congr 2
            push_cast
            omega
          · rw [m3, e3, List.length_cons]; omega
          · rw [Nat.pow_succ] at m5
            have hp : 0 < 128 ^ n := Nat.pow_pos (by decide)
            -- 64 bits: a multiple of 128 ^ (n+1) below 2^64, and what is below it
            have h64 : ∃ q, 18446744073709551616 = q * (128 ^ n * 128) := by
              have : n = 0 ∨ n = 1 ∨ n = 2 ∨ n = 3 ∨ n = 4 ∨ n = 5 ∨ n = 6 ∨ n = 7 ∨ n = 8 := by omega
              rcases this with rfl | rfl | rfl | rfl | rfl | rfl | rfl | rfl | rfl
              · exact ⟨144115188075855872, by decide⟩
              · exact ⟨1125899906842624, by decide⟩
              · exact ⟨8796093022208, by decide⟩
              · exact ⟨68719476736, by decide⟩
              · exact ⟨536870912, by decide⟩
              · exact ⟨4194304, by decide⟩
              · exact ⟨32768, by decide⟩
              · exact ⟨256, by decide⟩
              · exact ⟨2, by decide⟩
            obtain ⟨q, hq⟩ := h64
            rw [hq] at m5 ⊢
            have hmq : m < q := Nat.lt_of_mul_lt_mul_right m5
            have : m * 128 + (c - 128).toNat < q * 128 := by omega
            have := Nat.mul_lt_mul_of_pos_right this hp
            rw [Nat.mul_assoc q, Nat.mul_comm 128] at this
            exact this
      · rename_i hc
        split at h
        · simp at h
        · rename_i hz
          simp only [Prod.mk.injEq, and_true] at h
          obtain ⟨h1, h2⟩ := h
          have hsm : c.toNat < 128 := by omega
          refine ⟨c.toNat, by omega, ?_, ?_, ⟨cs, by rw [enc_small hsm]; simp; omega⟩, ?_⟩
          · rw [← h1, Int.emod_eq_of_lt c0 (by omega), show ((c.toNat : Nat) : Int) = c by omega]
          · rw [← h2, enc_small hsm]; rfl
          · by_cases h8 : n = 9
            · subst h8
              have : c.toNat ≤ 1 := by omega
              have := Nat.mul_le_mul_right (128 ^ 9) this
              rw [show (128 : Nat) ^ 9 = 9223372036854775808 by decide] at *
              omega
            · have : 128 ^ n ≤ 128 ^ 8 := Nat.pow_le_pow_right (by decide) (by omega)
              have := Nat.mul_le_mul (show c.toNat ≤ 127 by omega) this
              rw [show (128 : Nat) ^ 8 = 72057594037927936 by decide] at this
              omega
theorem go_sound0 {b : List Int} {v k : Int} (hb : Bytes b) (h : go b 0 0 = (v, k, 0)) : ∃ m : Nat, v = (m : Int) ∧ k = ((enc m).length : Int) ∧ (∃ more, b = enc m ++ more) ∧ m < 18446744073709551616 := by
  obtain ⟨m, _, m2, m3, m4, m5⟩ := go_sound b 0 0 v k hb (by omega) h
  exact ⟨m, by simpa using m2, by simpa using m3, m4, by simpa using m5⟩
/-- What is wrong gives nothing. -/
theorem go_err : ∀ (b : List Int) (n : Nat) (acc : Int), (go b n acc).2.2 = 0 ∨ ∃ e, go b n acc = (0, 0, e) ∧ (e = 2 ∨ e = 3)
  | [], _, _ => .inr ⟨2, rfl, .inl rfl⟩
  | c :: cs, n, acc => by
    simp only [go]
    split
    · exact .inr ⟨3, rfl, .inr rfl⟩
    · split
      · exact go_err cs _ _
      · split
        · exact .inr ⟨3, rfl, .inr rfl⟩
        · exact .inl rfl
/-! bits -/
noncomputable def bor (a : Int) : Int := IntKind.wrap .u8 ((BitVec.toNat ((BitVec.ofInt 8 a) ||| (BitVec.ofInt 8 128))) : Int)
noncomputable def band (a : Int) : Int := IntKind.wrap .u8 ((BitVec.toNat ((BitVec.ofInt 8 a) &&& (BitVec.ofInt 8 127))) : Int)
theorem bor_all : ∀ x : Fin 256, bor (x.val : Int) = ((x.val % 128 + 128 : Nat) : Int) := by decide +kernel
theorem band_all : ∀ x : Fin 256, band (x.val : Int) = ((x.val % 128 : Nat) : Int) := by decide +kernel
theorem bor_ok {x : Int} (h : 0 ≤ x) (h' : x < 256) : bor x = x % 128 + 128 := by
  have := bor_all ⟨x.toNat, by omega⟩
  simp only at this
  rw [show ((x.toNat : Nat) : Int) = x by omega] at this
  rw [this]; omega
theorem band_ok {x : Int} (h : 0 ≤ x) (h' : x < 256) : band x = x % 128 := by
  have := band_all ⟨x.toNat, by omega⟩
  simp only at this
  rw [show ((x.toNat : Nat) : Int) = x by omega] at this
  rw [this]; omega
/-! num.Put -/
theorem put_l2 (d : Nat) : ∀ (v : Nat) (acc : List Int), v < 128 ^ (d + 1) → acc.length + d + 1 ≤ most → ∃ r : Int × List Int, EvTo (fun k => num_Put_l2 k (v : Int) acc) r ∧ 0 ≤ r.1 ∧ r.1 < 128 ∧ r.2 ++ [r.1] = acc ++ enc v ∧ r.2.length + 1 ≤ most := by
  induction d with
  | zero =>
    intro v acc hv ha
    have hv' : v < 128 := by simpa using hv
    refine ⟨((v : Int), acc), EvTo.succ ?_, by simp, by simp; omega, by rw [enc_small hv'], by simpa using ha⟩
    simp only [num_Put_l2]
    exact EvTo.ifn (by simp; omega) EvTo.pure
  | succ d ih =>
    intro v acc hv ha
    by_cases hv' : v < 128
    · refine ⟨((v : Int), acc), EvTo.succ ?_, by simp, by simp; omega, by rw [enc_small hv'], by simp; omega⟩
      simp only [num_Put_l2]
      exact EvTo.ifn (by simp; omega) EvTo.pure
    · have hd : v / 128 < 128 ^ (d + 1) := by
        apply Nat.div_lt_of_lt_mul
        rw [Nat.pow_succ] at hv; omega
      have hb : bor (IntKind.wrap .u8 (v : Int)) = ((v % 128 + 128 : Nat) : Int) := by
        rw [wrap_u8_mod, bor_ok (by omega) (by omega)]; omega
      obtain ⟨r, h1, h2, h3, h4, h5⟩ := ih (v / 128) (acc ++ [((v % 128 + 128 : Nat) : Int)]) hd (by simp; omega)
      refine ⟨r, EvTo.succ ?_, h2, h3, by rw [h4, enc_big hv']; simp, h5⟩
      simp only [num_Put_l2]
      refine EvTo.ifp (by simp; omega) (EvTo.ifp (by simp; omega) ?_)
      have e : Int.fdiv (v : Int) 128 = ((v / 128 : Nat) : Int) := by rw [Int.fdiv_eq_ediv_of_nonneg _ (by omega)]; omega
      rw [e]
      show EvTo (fun k => num_Put_l2 k ((v / 128 : Nat) : Int) (acc ++ [bor (IntKind.wrap .u8 (v : Int))])) r
      rw [hb]
      exact h1
theorem put_ok {v : Nat} (hv : v < 18446744073709551616) : EvTo (fun k => num_Put k (v : Int)) (enc v) := by
  obtain ⟨r, h1, h2, h3, h4, h5⟩ := put_l2 9 v [] (Nat.lt_of_lt_of_le hv (by decide)) (by simp [most])
  unfold num_Put
  refine EvTo.bind h1 ?_
  rw [wrap_u8 h2 (by omega), h4]
  refine EvTo.ifp (by have := congrArg List.length h4; simp at this; simp; omega) (EvTo.pure' (by simp))
theorem put_i {x : Int} (h0 : 0 ≤ x) (h1 : x < 18446744073709551616) : EvTo (fun k => num_Put k x) (enc x.toNat) := by
  have := put_ok (v := x.toNat) (by omega)
  rwa [show ((x.toNat : Nat) : Int) = x by omega] at this
/-! num.Get -/
theorem pow7 (n : Nat) : (2 : Int) ^ (7 * n) = 128 ^ n := by rw [Int.pow_mul]; rfl
noncomputable def bmix (v c t : Int) : Int := IntKind.wrap .u64 ((BitVec.toNat ((BitVec.ofInt 64 v) ||| (BitVec.ofInt 64 (IntKind.wrap .u64 (c * t))))) : Int)
theorem or_step {v c : Int} {n : Nat} (hn : n ≤ 9) (hv : 0 ≤ v) (hv' : v < 128 ^ n) (hc : 0 ≤ c) (hc' : c < 256) (h9 : n = 9 → c ≤ 1) :
    bmix v (IntKind.wrap .u64 (band c)) (2 ^ (min ((IntKind.wrap .i64 (7 * (n : Int))).toNat) 64)) = v + c % 128 * 128 ^ n := by
  unfold bmix
  rw [band_ok hc hc', wrap_u64 (x := c % 128) (by omega) (by omega), wrap_i64 (x := 7 * (n : Int)) (by omega) (by omega), show min (7 * (n : Int)).toNat 64 = 7 * n by omega, pow7]
  have hle : (128 : Int) ^ n ≤ 128 ^ 9 := by
    have : (128 : Nat) ^ n ≤ 128 ^ 9 := Nat.pow_le_pow_right (by decide) hn
    exact_mod_cast this
  have hpos : (0 : Int) < 128 ^ n := Int.pow_pos (by decide)
  have hb : 0 ≤ c % 128 * 128 ^ n := Int.mul_nonneg (by omega) (by omega)
  have hub : c % 128 * 128 ^ n + 128 ^ n ≤ 18446744073709551616 := by
    rcases Nat.lt_or_eq_of_le hn with h | rfl
    · have h8 : (128 : Int) ^ n ≤ 128 ^ 8 := by
        have : (128 : Nat) ^ n ≤ 128 ^ 8 := Nat.pow_le_pow_right (by decide) (by omega)
        exact_mod_cast this
      have : (c % 128 + 1) * 128 ^ n ≤ 128 * 128 ^ 8 := Int.mul_le_mul (by omega) h8 (by omega) (by decide)
      rw [Int.add_mul] at this
      have e : (128 : Int) * 128 ^ 8 = 9223372036854775808 := by decide
      omega
    · have := h9 rfl
      have e : (128 : Int) ^ 9 = 9223372036854775808 := by decide
      rw [e]; omega
  rw [wrap_u64 hb (by omega)]
  -- the bits lie apart
  obtain ⟨a, rfl⟩ := Int.eq_ofNat_of_zero_le hv
  obtain ⟨q, hq⟩ : ∃ q : Nat, c % 128 = (q : Int) := ⟨(c % 128).toNat, by omega⟩
  rw [hq] at hb hub ⊢
  have e1 : (q : Int) * 128 ^ n = ((q * 128 ^ n : Nat) : Int) := by push_cast; rfl
  have e2 : (128 : Int) ^ n = ((128 ^ n : Nat) : Int) := by push_cast; rfl
  rw [e1] at hub ⊢
  rw [e2] at hub hv'
  have ha64 : a < 18446744073709551616 := by omega
  have hor : a ||| (q * 128 ^ n) = a + q * 128 ^ n := by
    have h7 : (128 : Nat) ^ n = 2 ^ (7 * n) := by rw [Nat.pow_mul]
    rw [h7] at hv' ⊢
    rw [Nat.or_comm, Nat.mul_comm, Nat.add_comm]
    exact (Nat.two_pow_add_eq_or_of_lt (by omega) q).symm
  rw [BitVec.ofInt_natCast, BitVec.ofInt_natCast, BitVec.toNat_or, BitVec.toNat_ofNat, BitVec.toNat_ofNat, Nat.mod_eq_of_lt (show a < 2 ^ 64 by omega), Nat.mod_eq_of_lt (show q * 128 ^ n < 2 ^ 64 by omega), hor]
  rw [wrap_u64 (by omega) (by omega)]
  push_cast; rfl
end Go.PrS
