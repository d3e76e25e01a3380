/- NumTwice, the plain law: a number as bytes with a byte of noughts more, or a mark where none should be, is refused, or another one. No conditions. -/
import Derived.Test.YtokfaaemhniodaaPNumA
import Derived.Test.YtokfaaemhniodaaQx9
namespace Go.Proofs.Ytokfaaemhniodaa.Pure
open Go.RowKit Go.Proofs.Ytokfaaemhniodaa.Q Go.Proofs.YtokfaaemhniodaaW.PrintWords Go.Proofs.YtokfaaemhniodaaW.PrintLast Go.Proofs.YtokfaaemhniodaaW.PrintMore

/-- The value of bytes, the least ones first. -/
def val : List Int → Int
  | [] => 0
  | c :: cs => c % 128 + 128 * val cs

theorem enc_shape : ∀ v : Nat, ∃ ds c, enc v = ds ++ [c] ∧ (∀ x ∈ ds, 128 ≤ x ∧ x < 256) ∧ 0 ≤ c ∧ c < 128 := by
  intro v
  induction v using Nat.strongRecOn with
  | _ v ih =>
    by_cases h : v < 128
    · exact ⟨[], v, by rw [enc_small h]; rfl, by simp, by omega, by omega⟩
    · obtain ⟨ds, c, he, hd, hc⟩ := ih (v / 128) (by omega)
      refine ⟨((v % 128 + 128 : Nat) : Int) :: ds, c, by rw [enc_big h, he]; rfl, ?_, hc⟩
      intro x hx
      rcases List.mem_cons.mp hx with rfl | hx
      · omega
      · exact hd x hx
theorem val_enc : ∀ v : Nat, val (enc v) = v := by
  intro v
  induction v using Nat.strongRecOn with
  | _ v ih =>
    by_cases h : v < 128
    · rw [enc_small h]; simp only [val]; omega
    · rw [enc_big h]; simp only [val]; rw [ih (v / 128) (by omega)]; omega

theorem go_form : ∀ (ds : List Int) (c : Int) (n : Nat) (acc : Int), (∀ x ∈ ds, 128 ≤ x) → c < 128 →
    (go (ds ++ [c]) n acc).2.2 ≠ 0 ∨ go (ds ++ [c]) n acc = (acc + val (ds ++ [c]) * 128 ^ n, ((n + ds.length + 1 : Nat) : Int), 0) := by
  intro ds
  induction ds with
  | nil =>
    intro c n acc _ hc
    simp only [List.nil_append, go, val]
    by_cases h1 : n = 9 ∧ c > 1
    · rw [if_pos h1]; left; decide
    · rw [if_neg h1, if_neg (by omega)]
      by_cases h2 : c = 0 ∧ n ≥ 1
      · rw [if_pos h2]; left; decide
      · rw [if_neg h2]; right; simp
  | cons d ds ih =>
    intro c n acc hd hc
    have hd0 := hd d (List.mem_cons_self ..)
    simp only [List.cons_append, go, val]
    by_cases h1 : n = 9 ∧ d > 1
    · rw [if_pos h1]; left; decide
    · rw [if_neg h1, if_pos (by omega)]
      rcases ih c (n + 1) (acc + d % 128 * 128 ^ n) (fun x hx => hd x (List.mem_cons_of_mem _ hx)) hc with h | h
      · exact .inl h
      · right; rw [h]
        refine Prod.ext ?_ (Prod.ext ?_ rfl)
        · simp only
          rw [Int.pow_succ, Int.add_mul, Int.mul_comm (128 ^ n) 128, ← Int.mul_assoc, Int.mul_comm (val (ds ++ [c])) 128]; omega
        · simp only [List.length_cons]; omega
theorem go_marks : ∀ (ds : List Int) (n : Nat) (acc : Int), (∀ x ∈ ds, 128 ≤ x) → (go ds n acc).2.2 ≠ 0 := by
  intro ds
  induction ds with
  | nil => intro n acc _; simp [go]
  | cons d ds ih =>
    intro n acc hd
    have hd0 := hd d (List.mem_cons_self ..)
    simp only [go]
    by_cases h1 : n = 9 ∧ d > 1
    · rw [if_pos h1]; decide
    · rw [if_neg h1, if_pos (by omega)]; exact ih _ _ (fun x hx => hd x (List.mem_cons_of_mem _ hx))
theorem go_zero : ∀ (ds : List Int) (n : Nat) (acc : Int), (∀ x ∈ ds, 128 ≤ x) → (ds ≠ [] ∨ n ≥ 1) → go (ds ++ [0]) n acc = (0, 0, 3) := by
  intro ds
  induction ds with
  | nil =>
    intro n acc _ h
    simp only [List.nil_append, go]
    rw [if_neg (by omega), if_neg (by omega), if_pos (by rcases h with h | h; exact absurd rfl h; exact ⟨by trivial, h⟩)]
  | cons d ds ih =>
    intro n acc hd _
    have hd0 := hd d (List.mem_cons_self ..)
    simp only [List.cons_append, go]
    by_cases h1 : n = 9 ∧ d > 1
    · rw [if_pos h1]
    · rw [if_neg h1, if_pos (by omega)]; exact ih _ _ (fun x hx => hd x (List.mem_cons_of_mem _ hx)) (.inr (by omega))

theorem xor1 : ∀ x : Fin 256, Go.bits .xor .u8 (x.val : Int) 1 = (if x.val % 2 = 0 then (x.val : Int) + 1 else (x.val : Int) - 1) := by decide +kernel
theorem xor1' {x : Int} (h : 0 ≤ x) (h' : x < 256) : Go.bits .xor .u8 x 1 = (if x % 2 = 0 then x + 1 else x - 1) := by
  have := xor1 ⟨x.toNat, by omega⟩
  simp only at this
  rw [show ((x.toNat : Nat) : Int) = x by omega] at this
  rw [this]
  split <;> split <;> omega
theorem val_set : ∀ (l : List Int) (k : Nat) (y : Int), k < l.length → val (l.set k y) = val l + (y % 128 - l.getD k 0 % 128) * 128 ^ k := by
  intro l
  induction l with
  | nil => intro k y h; simp at h
  | cons c cs ih =>
    intro k y h
    cases k with
    | zero => simp only [List.set_cons_zero, val, List.getD_cons_zero, Int.pow_zero]; omega
    | succ k =>
      simp only [List.set_cons_succ, val, List.getD_cons_succ]
      rw [ih k y (by simpa using h), Int.pow_succ, Int.mul_comm (128 ^ k) 128, ← Int.mul_assoc, Int.mul_comm (_ - _) 128, Int.mul_assoc, Int.mul_add]; omega

/-- With the least bit of one byte turned the bytes are refused, or another number's. -/
theorem go_turned (v k : Nat) (hk : k < (enc v).length) :
    (∀ x ∈ (enc v).set k (Go.bits .xor .u8 ((enc v).getD k 0) 1), 0 ≤ x ∧ x < 256) ∧
    ((go ((enc v).set k (Go.bits .xor .u8 ((enc v).getD k 0) 1)) 0 0).2.2 ≠ 0 ∨
      (go ((enc v).set k (Go.bits .xor .u8 ((enc v).getD k 0) 1)) 0 0).2.1 = ((enc v).length : Int) ∧ (go ((enc v).set k (Go.bits .xor .u8 ((enc v).getD k 0) 1)) 0 0).1 ≠ (v : Int)) := by
  obtain ⟨ds, c, he, hd, hc0, hc1⟩ := enc_shape v
  have hb : 0 ≤ (enc v).getD k 0 ∧ (enc v).getD k 0 < 256 := by
    rw [getD_lt _ hk]; exact enc_bytes v _ (List.getElem_mem hk)
  have hx := xor1' hb.1 hb.2
  have hval := val_set (enc v) k (Go.bits .xor .u8 ((enc v).getD k 0) 1) hk
  have hp : (0 : Int) < 128 ^ k := Int.pow_pos (by decide)
  have hdiff : val ((enc v).set k (Go.bits .xor .u8 ((enc v).getD k 0) 1)) ≠ v := by
    rw [hval, val_enc, hx]
    split
    · rw [show ((enc v).getD k 0 + 1) % 128 - (enc v).getD k 0 % 128 = 1 by omega]; omega
    · rw [show ((enc v).getD k 0 - 1) % 128 - (enc v).getD k 0 % 128 = -1 by omega]; omega
  have shape : ∃ es e, (enc v).set k (Go.bits .xor .u8 ((enc v).getD k 0) 1) = es ++ [e] ∧ (∀ x ∈ es, 128 ≤ x ∧ x < 256) ∧ 0 ≤ e ∧ e < 128 ∧ es.length = ds.length := by
    rw [he] at hk hx hb ⊢
    rw [List.length_append, List.length_cons, List.length_nil] at hk
    by_cases hkd : k < ds.length
    · rw [List.set_append_left _ _ hkd]
      refine ⟨_, c, rfl, ?_, hc0, hc1, by simp⟩
      intro x hxm
      rcases List.mem_or_eq_of_mem_set hxm with h | rfl
      · exact hd x h
      · have hm : (ds ++ [c]).getD k 0 = ds[k] := by rw [getD_lt _ (by simp; omega)]; exact List.getElem_append_left hkd
        rw [hm] at hx ⊢
        have := hd ds[k] (List.getElem_mem hkd)
        rw [hx]; split <;> omega
    · have hke : k = ds.length := by omega
      subst hke
      have hm : (ds ++ [c]).getD ds.length 0 = c := by rw [getD_lt _ (by simp)]; simp
      rw [hm] at hx ⊢
      refine ⟨ds, Go.bits .xor .u8 c 1, by simp, hd, ?_, ?_, rfl⟩
      · rw [hx]; split <;> omega
      · rw [hx]; split <;> omega
  obtain ⟨es, e, hs, hes, he0, he1, hl⟩ := shape
  rw [hs] at hdiff ⊢
  constructor
  · intro x hxm
    rcases List.mem_append.mp hxm with h | h
    · have := hes x h; omega
    · simp at h; omega
  · rcases go_form es e 0 0 (fun x h => (hes x h).1) he1 with h | h
    · exact .inl h
    · right; rw [h]
      refine ⟨?_, ?_⟩
      · simp only [he, List.length_append, List.length_cons, List.length_nil]; omega
      · simp only [Int.pow_zero]; omega

theorem NumTwice : locksteplaw02_NumTwice.Pure := by
  intro a0 a1 h0 h1
  obtain ⟨v, rfl, hv⟩ := wf_u64 h0
  obtain ⟨h1, h1'⟩ := wf_u8 h1
  refine ⟨60, ?_⟩
  obtain ⟨ds, c, he, hd, hc0, hc1⟩ := enc_shape v
  have hlen := enc_len64 hv
  have hpos := enc_pos v
  have hl : (enc v).length = ds.length + 1 := by rw [he]; simp
  have hmod := Int.emod_nonneg a1 (show ((enc v).length : Int) ≠ 0 by omega)
  have hmod' := Int.emod_lt_of_pos a1 (show (0 : Int) < ((enc v).length : Int) by omega)
  have hrd : rd (enc v) (((enc v).length : Int) - 1) = c := by
    rw [show ((enc v).length : Int) - 1 = ((ds.length : Nat) : Int) by omega, rd_nat, he, getD_lt _ (by simp)]; simp
  have hset : (enc v).set (((enc v).length : Int) - 1).toNat (c + 128) = ds ++ [c + 128] := by
    rw [show (((enc v).length : Int) - 1).toNat = ds.length by omega, he]; simp
  have hmk : ∀ x ∈ ds ++ [c + 128], 128 ≤ x ∧ x < 256 := by
    intro x hx
    rcases List.mem_append.mp hx with h | h
    · exact hd x h
    · simp at h; omega
  unfold locksteplaw02_NumTwice.f
  rw [awake_ok]
  simp only [Option.bind_some, if_true]
  rw [put_ok hv (by omega)]
  simp only [Option.bind_some, List.nil_append, List.length_nil]
  rw [wrap_id (x := a1) (by omega) (by omega), Int.tmod_eq_emod_of_nonneg h1, wrap_id (x := ((enc v).length : Int) - 1) (by omega) (by omega), hrd, or128' hc0 (by omega), show c % 128 + 128 = c + 128 by omega, hset]
  rw [if_neg (show ¬ (((enc v).length : Int) = 0) by omega), if_pos (by omega), if_pos (by omega), if_pos (by omega)]
  rw [get_few (fun x hx => ⟨by have := hmk x hx; omega, (hmk x hx).2⟩) (by simp; omega) (by omega)]
  have g1 := go_marks (ds ++ [c + 128]) 0 0 (fun x hx => (hmk x hx).1)
  simp only [Option.bind_some]
  rw [if_pos (by simp; omega), if_pos (by simp; omega)]
  rw [get_few (bytes_append (fun x hx => ⟨by have := hmk x hx; omega, (hmk x hx).2⟩) (by simp)) (by simp; omega) (by omega), go_zero _ 0 0 (fun x hx => (hmk x hx).1) (.inl (by simp))]
  simp only [Option.bind_some]
  rw [if_pos (by omega), if_pos hmod, if_pos hmod']
  obtain ⟨k, hk⟩ := Int.eq_ofNat_of_zero_le hmod
  rw [hk]
  have hk' : k < (enc v).length := by omega
  obtain ⟨hb, ht⟩ := go_turned v k hk'
  rw [rd_nat, Int.toNat_natCast, get_few hb (by rw [List.length_set]; omega) (by omega)]
  simp only [Option.bind_some]
  rw [if_neg g1, if_pos trivial]
  rcases ht with h | ⟨h, h'⟩
  · rw [if_neg h]
  · by_cases hz : (go ((enc v).set k (Go.bits .xor .u8 ((enc v).getD k 0) 1)) 0 0).2.2 = 0
    · rw [if_pos hz, if_pos h, bne_iff_ne.mpr h']
    · rw [if_neg hz]

end Go.Proofs.Ytokfaaemhniodaa.Pure
