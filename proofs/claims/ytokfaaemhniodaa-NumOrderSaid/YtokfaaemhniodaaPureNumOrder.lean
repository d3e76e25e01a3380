/- NumOrder, the plain law: a greater number has no fewer bytes, two have the same bytes just if they are one, none's bytes begin with another one's. No conditions. -/
import Derived.Test.YtokfaaemhniodaaPNumA
import Derived.Test.YtokfaaemhniodaaQx8
namespace Go.Proofs.Ytokfaaemhniodaa.Pure
open Go.RowKit Go.Proofs.Ytokfaaemhniodaa.Q Go.Proofs.YtokfaaemhniodaaW.PrintWords Go.Proofs.YtokfaaemhniodaaW.PrintLast Go.Proofs.YtokfaaemhniodaaW.PrintMore

theorem take_ne {a b n : Nat} (ha : a < 18446744073709551616) (hb : b < 18446744073709551616) (hne : a ≠ b) (hn : n = min (enc a).length (enc b).length) : (enc a).take n ≠ (enc b).take n := by
  intro h
  rcases Nat.le_total (enc a).length (enc b).length with hl | hl
  · rw [show n = (enc a).length by omega, List.take_length] at h
    exact hne (enc_prefix ha hb (m := (enc b).drop (enc a).length) (by rw [h]; simp [List.take_append_drop, Nat.min_eq_left hl]))
  · rw [show n = (enc b).length by omega, List.take_length] at h
    exact hne (enc_prefix hb ha (m := (enc a).drop (enc b).length) (by rw [← h]; simp [List.take_append_drop, Nat.min_eq_left hl])).symm

theorem NumOrder : locksteplaw02_NumOrder.Pure := by
  intro a0 a1 h0 h1
  obtain ⟨a, rfl, ha⟩ := wf_u64 h0
  obtain ⟨b, rfl, hb⟩ := wf_u64 h1
  refine ⟨60, ?_⟩
  have la := enc_len64 ha
  have lb := enc_len64 hb
  have pa := enc_pos a
  have pb := enc_pos b
  have hs : lockstepref02_Same.f 60 (enc a) (enc b) = some (decide ((a : Int) = b)) := by
    rw [same_ok (by omega) (by omega)]; congr 1; rw [decide_eq_decide, enc_inj ha hb]; omega
  have hlen : (a : Int) < b → ¬ ((enc a).length : Int) > ((enc b).length : Int) := fun h => by
    have := enc_mono 9 a b (by omega) (Nat.lt_of_lt_of_le hb (by decide)); omega
  have hmn : (mn ((enc a).length : Int) ((enc b).length : Int)) = ((min (enc a).length (enc b).length : Nat) : Int) := by
    unfold mn; split <;> omega
  unfold locksteplaw02_NumOrder.f
  rw [awake_ok]
  simp only [Option.bind_some, if_true]
  rw [put_ok ha (by omega), put_ok hb (by omega)]
  simp only [Option.bind_some]
  rw [hs, hmn]
  simp only [Option.bind_some]
  have hx : ¬ ((decide ((a : Int) = b) != ((a : Int) == b)) = true) := by
    by_cases e : (a : Int) = b <;> simp [e]
  by_cases hlt : (a : Int) < b
  case' pos => rw [if_pos hlt, if_neg (hlen hlt)]
  case' neg => rw [if_neg hlt]
  all_goals
    rw [if_neg hx, if_neg (show ¬ (((enc a).length : Int) < 1) by omega), if_neg (show ¬ (((enc a).length : Int) > 10) by omega)]
    by_cases e : (a : Int) = b
    · rw [if_pos e]
    · rw [if_neg e, if_pos (by omega), if_pos (by omega), if_pos (by omega), same_ok (by rw [List.length_take]; omega) (by rw [List.length_take]; omega)]
      have := take_ne (n := min (enc a).length (enc b).length) ha hb (by omega) rfl
      simp only [Option.bind_some, Int.toNat_natCast, this, decide_false, Bool.not_false]

end Go.Proofs.Ytokfaaemhniodaa.Pure
