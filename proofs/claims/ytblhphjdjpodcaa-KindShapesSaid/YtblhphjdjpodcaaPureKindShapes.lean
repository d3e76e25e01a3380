/- KindShapes, the plain law: a shape of more lanes than one has a width of eight bits at least, and 128 in all at most; with half as many lanes it is one, too. No conditions. -/
import Derived.Test.YtblhphjdjpodcaaKM
import Derived.Test.YtblhphjdjpodcaaQx13
namespace Go.Proofs.Ytblhphjdjpodcaa.KP
open Go.RowKit Go.Proofs.Ytblhphjdjpodcaa.Q Go.Proofs.YtblhphjdjpodcaaW.PrintWords

theorem kindShapes : locksteplaw03_KindShapes.Pure := by
  intro b n _ _
  cases hs : shp b n with
  | true =>
    obtain ⟨hb, hn⟩ := shp_cases hs
    rcases hb with rfl | rfl | rfl | rfl | rfl <;> rcases hn with rfl | ⟨rfl | rfl | rfl | rfl, h8, h128⟩ <;> first | exact ⟨40, by decide +kernel⟩ | omega
  | false =>
    apply Ev.at
    unfold locksteplaw03_KindShapes.f
    refine Ev.bind awake_ev (Ev.ifp rfl ?_)
    simp only [shape_ok, hs, Option.bind_some]
    refine Ev.ifn (by decide) ?_
    refine Ev.succ ?_; simp only [locksteplaw03_KindShapes.j0]
    refine Ev.ifn (by decide) (Ev.ifn (by decide) ?_)
    refine Ev.succ ?_; simp only [locksteplaw03_KindShapes.j1]
    exact Ev.ifn (by decide) (Ev.ifn (by decide) Ev.pure)
end Go.Proofs.Ytblhphjdjpodcaa.KP
namespace Go.Proofs.Ytblhphjdjpodcaa.Pure
theorem KindShapes : Go.Proofs.Ytblhphjdjpodcaa.Q.locksteplaw03_KindShapes.Pure := KP.kindShapes
end Go.Proofs.Ytblhphjdjpodcaa.Pure
