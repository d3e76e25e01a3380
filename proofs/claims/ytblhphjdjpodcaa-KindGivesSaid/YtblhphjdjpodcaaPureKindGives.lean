/- KindGives, the plain law: an operation gives something just if it has a value to define; what stores gives nothing, and isn't pure. No conditions. -/
import Derived.Test.YtblhphjdjpodcaaKM
import Derived.Test.YtblhphjdjpodcaaQx29
namespace Go.Proofs.Ytblhphjdjpodcaa.KP
open Go.RowKit Go.Proofs.Ytblhphjdjpodcaa.Q Go.Proofs.YtblhphjdjpodcaaW.PrintWords

theorem mayv_shp {c b n d i : Int} {l : List Int} (h : mayv c b n d l i = true) : shp b n = true := by unfold mayv at h; rw [Bool.and_eq_true] at h; exact h.1
theorem mayv_dst {c b n d i : Int} {l : List Int} (h : mayv c b n d l i = true) : (if sto c then d == 0 else val d) = true := by
  unfold mayv at h; rw [Bool.and_eq_true, Bool.and_eq_true, Bool.and_eq_true] at h; exact h.2.2.1
theorem gv_ok {b n : Int} (c : Int) (hs : shp b n = true) : (gv c b n).1 ≠ 0 ∧ (gv c b n).2 ≠ 0 ∧ shp (gv c b n).1 (gv c b n).2 = true := by
  obtain ⟨hb, hn⟩ := shp_cases hs
  unfold gv
  by_cases h : 10 ≤ c ∧ c ≤ 12
  · rw [if_pos h]; exact ⟨by decide, by decide, by decide⟩
  · rw [if_neg h]
    by_cases h2 : c = 22
    · rw [if_pos h2]
      refine ⟨by omega, by show (1 : Int) ≠ 0; decide, ?_⟩
      rcases hb with rfl | rfl | rfl | rfl | rfl <;> decide
    · rw [if_neg h2]; exact ⟨by omega, by omega, hs⟩
theorem kindGives : locksteplaw03_KindGives.Pure := by
  intro c b n d l i _ _ _ _ _ hb _
  apply Ev.at
  unfold locksteplaw03_KindGives.f
  refine Ev.bind awake_ev (Ev.ifp rfl ?_)
  by_cases h100 : (l.length : Int) > 100
  · exact Ev.ifp h100 Ev.pure
  refine Ev.ifn h100 ?_
  refine Ev.bind (gives_ok c b n d l i hb) ?_
  refine Ev.bind (may_ok c b n d l i hb) ?_
  cases hm : mayv c b n d l i with
  | false =>
    refine Ev.ifn (by decide) ?_
    simp only [Bool.false_and, Bool.false_eq_true, if_false]
    refine Ev.ifp trivial (Ev.ifp trivial ?_)
    refine Ev.bind (takes2_ok c b n d l i hb) ?_
    rw [hm]; exact Ev.pure.of_eq rfl
  | true =>
    have hs := mayv_shp hm
    have hd := mayv_dst hm
    refine Ev.ifp rfl ?_
    by_cases h17 : c = 17
    · subst h17
      have hd0 : d = 0 := by simpa [sto] using hd
      subst hd0
      rw [show (if (true && !sto 17) = true then gv 17 b n else (0, 0)) = ((0 : Int), (0 : Int)) from rfl]
      refine Ev.ifp rfl (Ev.ifp (by decide) (Ev.ifp (by decide) (Ev.ifp (by decide) ?_)))
      simp only [show kind_Pure.f 17 = some false from rfl, Option.bind_some]
      exact Ev.ifn (by decide) Ev.pure
    · refine Ev.ifn h17 ?_
      by_cases h19 : c = 19
      · subst h19
        have hd0 : d = 0 := by simpa [sto] using hd
        subst hd0
        rw [show (if (true && !sto 19) = true then gv 19 b n else (0, 0)) = ((0 : Int), (0 : Int)) from rfl]
        refine Ev.ifp (by decide) (Ev.ifp (by decide) (Ev.ifp (by decide) (Ev.ifp rfl ?_)))
        simp only [show kind_Pure.f 19 = some false from rfl, Option.bind_some]
        exact Ev.ifn (by decide) Ev.pure
      · have hst : sto c = false := by simp [sto, h17, h19]
        rw [hst] at hd ⊢
        simp only [Bool.not_false, Bool.and_self, if_true, Bool.false_eq_true, if_false] at hd ⊢
        obtain ⟨g1, g2, g3⟩ := gv_ok c hs
        have hd0 : d ≠ 0 := by intro e; subst e; exact absurd hd (by decide)
        have e19 : (c == 19) = false := beq_eq_false_iff_ne.mpr h19
        rw [e19, beq_eq_false_iff_ne.mpr g1, beq_eq_false_iff_ne.mpr g2, beq_eq_false_iff_ne.mpr hd0]
        refine Ev.ifp rfl (Ev.ifp rfl (Ev.ifp rfl (Ev.ifn h19 ?_)))
        simp only [shape_ok, Option.bind_some, g3]
        exact Ev.pure
end Go.Proofs.Ytblhphjdjpodcaa.KP
namespace Go.Proofs.Ytblhphjdjpodcaa.Pure
theorem KindGives : Go.Proofs.Ytblhphjdjpodcaa.Q.locksteplaw03_KindGives.Pure := KP.kindGives
end Go.Proofs.Ytblhphjdjpodcaa.Pure
