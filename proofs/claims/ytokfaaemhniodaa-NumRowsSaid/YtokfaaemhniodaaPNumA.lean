/- Plain laws of the numbers as bytes: what Get tells of a number's own bytes. No conditions beyond each theorem's own. -/
import Derived.Test.YtokfaaemhniodaaPNum
import Derived.Test.YtokfaaemhniodaaQx4
namespace Go.Proofs.Ytokfaaemhniodaa.Pure
open Go.RowKit Go.Proofs.Ytokfaaemhniodaa.Q Go.Proofs.YtokfaaemhniodaaW.PrintWords Go.Proofs.YtokfaaemhniodaaW.PrintLast Go.Proofs.YtokfaaemhniodaaW.PrintMore

theorem wf_u64 {x : Int} (h : (Lit.int .u64 x).wf = true) : ∃ v : Nat, x = v ∧ v < 18446744073709551616 := by
  simp [Lit.wf, IntKind.min, IntKind.max, IntKind.signed, IntKind.bits] at h
  exact ⟨x.toNat, by omega, by omega⟩
theorem wf_u8 {x : Int} (h : (Lit.int .u8 x).wf = true) : 0 ≤ x ∧ x < 256 := by
  simp [Lit.wf, IntKind.min, IntKind.max, IntKind.signed, IntKind.bits] at h
  omega
theorem wf_u32 {x : Int} (h : (Lit.int .u32 x).wf = true) : 0 ≤ x ∧ x < 4294967296 := by
  simp [Lit.wf, IntKind.min, IntKind.max, IntKind.signed, IntKind.bits] at h
  omega
theorem wf_i64 {x : Int} (h : (Lit.int .i64 x).wf = true) : -9223372036854775808 ≤ x ∧ x ≤ 9223372036854775807 := by
  simp [Lit.wf, IntKind.min, IntKind.max, IntKind.signed, IntKind.bits] at h
  omega
theorem wrap_id {x : Int} (h : -9223372036854775808 ≤ x) (h' : x ≤ 9223372036854775807) : wrap64 x = x := by unfold wrap64; omega

theorem awake_ok : locksteplaw02_awake.f 60 = some true := by decide +kernel
theorem awake_any {k : Nat} (hk : 60 ≤ k) : locksteplaw02_awake.f k = some true := at_rounds (fun k => locksteplaw02_awake.mono k) hk awake_ok

theorem enc_bytes : ∀ v, ∀ x ∈ enc v, 0 ≤ x ∧ x < 256 := by
  intro v
  induction v using Nat.strongRecOn with
  | _ v ih =>
    intro x hx
    by_cases h : v < 128
    · rw [enc_small h] at hx; simp at hx; omega
    · rw [enc_big h] at hx
      rcases List.mem_cons.mp hx with rfl | hx
      · omega
      · exact ih _ (by omega) x hx
theorem bytes_append {a b : List Int} (ha : ∀ x ∈ a, 0 ≤ x ∧ x < 256) (hb : ∀ x ∈ b, 0 ≤ x ∧ x < 256) : ∀ x ∈ a ++ b, 0 ≤ x ∧ x < 256 := by
  intro x hx
  rcases List.mem_append.mp hx with h | h
  · exact ha x h
  · exact hb x h
theorem bytes_take {a : List Int} (n : Nat) (ha : ∀ x ∈ a, 0 ≤ x ∧ x < 256) : ∀ x ∈ a.take n, 0 ≤ x ∧ x < 256 := fun x hx => ha x (List.mem_of_mem_take hx)
theorem bytes_drop {a : List Int} (n : Nat) (ha : ∀ x ∈ a, 0 ≤ x ∧ x < 256) : ∀ x ∈ a.drop n, 0 ≤ x ∧ x < 256 := fun x hx => ha x (List.mem_of_mem_drop hx)

theorem top_small {v n : Nat} (h : v * 128 ^ n < 18446744073709551616) (h9 : n = 9) : v ≤ 1 := by
  subst h9
  rw [show (128 : Nat) ^ 9 = 9223372036854775808 by decide] at h; omega
theorem top_big {v n : Nat} (h : v * 128 ^ n < 18446744073709551616) (h9 : n ≤ 9) (hv : ¬ v < 128) : n ≤ 8 ∧ v / 128 * 128 ^ (n + 1) < 18446744073709551616 := by
  constructor
  · rcases Nat.lt_or_eq_of_le h9 with h' | h'
    · omega
    · have := top_small h h'; omega
  · have e : v / 128 * 128 ^ (n + 1) = v / 128 * 128 * 128 ^ n := by rw [Nat.pow_succ, Nat.mul_comm (128 ^ n) 128, Nat.mul_assoc]
    have : v / 128 * 128 * 128 ^ n ≤ v * 128 ^ n := Nat.mul_le_mul_right _ (by omega)
    omega

theorem go_enc : ∀ (v n : Nat) (acc : Int) (more : List Int), (n = 0 ∨ 0 < v) → n ≤ 9 → v * 128 ^ n < 18446744073709551616 →
    go (enc v ++ more) n acc = (acc + (v : Int) * 128 ^ n, ((n + (enc v).length : Nat) : Int), 0) := by
  intro v
  induction v using Nat.strongRecOn with
  | _ v ih =>
    intro n acc more h0 h9 hv
    by_cases h : v < 128
    · rw [enc_small h]
      simp only [List.cons_append, List.nil_append, go, List.length_cons, List.length_nil]
      rw [if_neg (show ¬ (n = 9 ∧ (v : Int) > 1) by have := top_small (v := v) (n := n) hv; omega), if_neg (show ¬ ((v : Int) ≥ 128) by omega), if_neg (show ¬ ((v : Int) = 0 ∧ n ≥ 1) by omega)]
      rw [Int.emod_eq_of_lt (by omega) (by omega)]
    · obtain ⟨h8, hv'⟩ := top_big hv h9 h
      rw [enc_big h]
      simp only [List.cons_append, go, List.length_cons]
      rw [if_neg (show ¬ (n = 9 ∧ ((v % 128 + 128 : Nat) : Int) > 1) by omega), if_pos (show ((v % 128 + 128 : Nat) : Int) ≥ 128 by omega)]
      rw [ih (v / 128) (by omega) (n + 1) _ more (by omega) (by omega) hv']
      have e1 : (((v % 128 + 128 : Nat) : Int) % 128) = ((v % 128 : Nat) : Int) := by omega
      have e2 : (v : Int) = ((v % 128 : Nat) : Int) + ((v / 128 : Nat) : Int) * 128 := by omega
      rw [e1]
      refine Prod.ext ?_ (Prod.ext ?_ rfl)
      · simp only
        rw [Int.pow_succ, Int.mul_comm (128 ^ n) 128, ← Int.mul_assoc, Int.add_assoc, ← Int.add_mul, ← e2]
      · simp only; omega

theorem go_cut : ∀ (v n j : Nat) (acc : Int), j < (enc v).length → n ≤ 9 → v * 128 ^ n < 18446744073709551616 → go ((enc v).take j) n acc = (0, 0, 2) := by
  intro v
  induction v using Nat.strongRecOn with
  | _ v ih =>
    intro n j acc hj h9 hv
    cases j with
    | zero => rw [List.take_zero]; rfl
    | succ j =>
      by_cases h : v < 128
      · rw [enc_small h] at hj; simp at hj
      · obtain ⟨h8, hv'⟩ := top_big hv h9 h
        rw [enc_big h] at hj ⊢
        simp only [List.length_cons] at hj
        simp only [List.take_succ_cons, go]
        rw [if_neg (show ¬ (n = 9 ∧ ((v % 128 + 128 : Nat) : Int) > 1) by omega), if_pos (show ((v % 128 + 128 : Nat) : Int) ≥ 128 by omega)]
        exact ih (v / 128) (by omega) (n + 1) j _ (by omega) (by omega) hv'
theorem go_enc0 (v : Nat) (more : List Int) (hv : v < 18446744073709551616) : go (enc v ++ more) 0 0 = ((v : Int), ((enc v).length : Int), 0) := by
  rw [go_enc v 0 0 more (.inl rfl) (by omega) (by simpa using hv)]; simp
theorem go_cut0 (v j : Nat) (hv : v < 18446744073709551616) (hj : j < (enc v).length) : go ((enc v).take j) 0 0 = (0, 0, 2) :=
  go_cut v 0 j 0 hj (by omega) (by simpa using hv)
/-- Two numbers' bytes, one of them begun by the other's: they are one. -/
theorem enc_prefix {a b : Nat} (ha : a < 18446744073709551616) (hb : b < 18446744073709551616) {m : List Int} (h : enc b = enc a ++ m) : a = b := by
  have h1 := go_enc0 b [] hb
  rw [h, List.append_nil, go_enc0 a m ha] at h1
  have := congrArg Prod.fst h1
  simp only at this; omega
theorem enc_inj {a b : Nat} (ha : a < 18446744073709551616) (hb : b < 18446744073709551616) : enc a = enc b ↔ a = b :=
  ⟨fun h => enc_prefix ha hb (m := []) (by rw [h]; simp), fun h => by rw [h]⟩

end Go.Proofs.Ytokfaaemhniodaa.Pure
