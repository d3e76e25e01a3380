/- KindLanes, the plain law: whatever may be of more lanes than one may be of one, but Pack and Get; of a shape that there isn't nothing may be. No conditions. -/
import Derived.Test.YtblhphjdjpodcaaKR
import Derived.Test.YtblhphjdjpodcaaQx28
namespace Go.Proofs.Ytblhphjdjpodcaa.KP
open Go.RowKit Go.Proofs.Ytblhphjdjpodcaa.Q Go.Proofs.YtblhphjdjpodcaaW.PrintWords
set_option linter.unusedSimpArgs false
set_option linter.unusedVariables false

theorem tk_one {c b n i : Int} (hc : 0 ≤ c ∧ c ≤ 22) (h21 : c ≠ 21) (h22 : c ≠ 22) (h : (tk c b n i).2 = true) : (tk c b 1 i).2 = true ∧ (tk c b 1 i).1.length = (tk c b n i).1.length := by
  rcases kinds hc with e | e | e | e | e | e | e | e | e | e | e | e | e | e | e | e | e | e | e | e | e | e | e <;> subst e <;> simp [tk] at h h21 h22 ⊢ <;> simp [h]
theorem may_one {c b n d i : Int} {l : List Int} (h21 : c ≠ 21) (h22 : c ≠ 22) (h : mayv c b n d l i = true) : mayv c b 1 d l i = true ∧ (tk c b 1 i).1.length = (tk c b n i).1.length := by
  unfold mayv at h ⊢
  simp only [Bool.and_eq_true, decide_eq_true_eq] at h ⊢
  obtain ⟨hs, ht, hd, hl, ha⟩ := h
  have hc : 0 ≤ c ∧ c ≤ 22 := Decidable.byContradiction fun e => by rw [tk_no e] at ht; cases ht
  obtain ⟨h1, h2⟩ := tk_one hc h21 h22 ht
  refine ⟨⟨?_, h1, hd, by rw [h2]; exact hl, ha⟩, h2⟩
  unfold shp at hs ⊢
  rw [Bool.and_eq_true] at hs
  rw [hs.1]; rfl
theorem kindLanes : locksteplaw03_KindLanes.Pure := by
  intro c b n d l i _ _ _ _ hi hb _
  have hi' : 0 ≤ i ∧ i < 18446744073709551616 := by
    simp [Lit.wf, IntKind.min, IntKind.max, IntKind.signed, IntKind.bits] at hi; omega
  apply Ev.at
  unfold locksteplaw03_KindLanes.f
  refine Ev.bind awake_ev (Ev.ifp rfl ?_)
  by_cases h100 : (l.length : Int) > 100
  · exact Ev.ifp h100 Ev.pure
  refine Ev.ifn h100 ?_
  simp only [shape_ok, Option.bind_some]
  cases hs : shp b n with
  | false =>
    refine Ev.ifn (by decide) (Ev.bind (may_ok c b n d l i hb) ?_)
    exact Ev.pure.of_eq (by unfold mayv; rw [hs]; rfl)
  | true =>
    refine Ev.ifp rfl (Ev.bind (may_ok c b n d l i hb) ?_)
    have hf : Ev (fun k => locksteplaw03_KindLanes.j0 k false c b n d l i c b 1 d l i) true := by
      refine Ev.succ ?_; simp only [locksteplaw03_KindLanes.j0]
      refine Ev.ifn (by decide) (Ev.bind (may_ok c b n d l i hb) (Ev.bind (rmay_ok c b n d l i hb hi'.1 hi'.2) ?_))
      exact Ev.pure.of_eq (by simp)
    cases hm : mayv c b n d l i with
    | false => exact Ev.ifn (by decide) hf
    | true =>
      refine Ev.ifp rfl ?_
      by_cases h21 : c = 21
      · exact Ev.ifp h21 hf
      refine Ev.ifn h21 ?_
      by_cases h22 : c = 22
      · have : (c != 22) = false := by simp [h22]
        simp only [this]; exact hf
      · have : (c != 22) = true := by simp [h22]
        simp only [this]
        obtain ⟨m1, m2⟩ := may_one h21 h22 hm
        refine Ev.succ ?_; simp only [locksteplaw03_KindLanes.j0]
        refine Ev.ifp trivial (Ev.bind (may_ok c b 1 d l i hb) ?_)
        rw [m1]
        refine Ev.ifp rfl (Ev.bind (takes2_ok c b 1 d l i hb) (Ev.bind (takes2_ok c b n d l i hb) ?_))
        rw [m1, hm]
        exact Ev.pure.of_eq (by simp [m2])
end Go.Proofs.Ytblhphjdjpodcaa.KP
namespace Go.Proofs.Ytblhphjdjpodcaa.Pure
theorem KindLanes : Go.Proofs.Ytblhphjdjpodcaa.Q.locksteplaw03_KindLanes.Pure := KP.kindLanes
end Go.Proofs.Ytblhphjdjpodcaa.Pure
