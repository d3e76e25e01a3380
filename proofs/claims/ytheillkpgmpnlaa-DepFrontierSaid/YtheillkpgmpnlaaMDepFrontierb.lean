/- Texts of this session, joined by wip/tools/merge.py. Conditions: each theorem's own. -/
import Derived.Test.YtheillkpgmpnlaaMDepFrontierc
import Derived.Test.YtheillkpgmpnlaaGx0
import Derived.Test.YtheillkpgmpnlaaGx5
import Derived.Test.YtheillkpgmpnlaaGx17
import Derived.Test.YtheillkpgmpnlaaGx8
import Derived.Test.YtheillkpgmpnlaaGx13
import Derived.Test.YtheillkpgmpnlaaGx16
namespace Go.Proofs.Ytheillkpgmpnlaa.G
open Go.Proofs.YtheillkpgmpnlaaH
open Go.RowKit Go.Proofs.YtheillkpgmpnlaaW.PrintWords Go.Proofs.YtheillkpgmpnlaaW.PrintLast Go.Proofs.YtheillkpgmpnlaaW.PrintMore
attribute [local go_sem] max2_int min2_int max_two min_two max_three min_three max_four min_four   -- for this text's walks alone
set_option linter.unusedVariables false
set_option linter.unusedSimpArgs false

abbrev m51_0 : Array Bool := #[F_,F_,F_,F_,F_,F_,F_,F_,F_,F_,F_,F_,F_,F_,F_,F_,F_,F_,F_,F_,F_,F_,F_,F_,F_,F_,F_,F_,F_,F_,F_]
abbrev m51_1 : Array Bool := #[T_,F_,F_,F_,F_,F_,F_,F_,F_,F_,F_,F_,F_,F_,F_,F_,F_,F_,F_,F_,F_,F_,F_,F_,F_,F_,F_,F_,F_,F_,F_]
abbrev m51_2 : Array Bool := #[T_,T_,F_,F_,F_,F_,F_,F_,F_,F_,F_,F_,F_,F_,F_,F_,F_,F_,F_,F_,F_,F_,F_,F_,F_,F_,F_,F_,F_,F_,F_]
abbrev m51_3 : Array Bool := #[T_,T_,T_,F_,F_,F_,F_,F_,F_,F_,F_,F_,F_,F_,F_,F_,F_,F_,F_,F_,F_,F_,F_,F_,F_,F_,F_,F_,F_,F_,F_]
abbrev m51_4 : Array Bool := #[T_,T_,T_,F_,T_,F_,F_,F_,F_,F_,F_,F_,F_,F_,F_,F_,F_,F_,F_,F_,F_,F_,F_,F_,F_,F_,F_,F_,F_,F_,F_]
abbrev m51_5 : Array Bool := #[T_,T_,T_,T_,T_,F_,F_,F_,F_,F_,F_,F_,F_,F_,F_,F_,F_,F_,F_,F_,F_,F_,F_,F_,F_,F_,F_,F_,F_,F_,F_]
abbrev m51_6 : Array Bool := #[T_,T_,T_,T_,T_,T_,F_,F_,F_,F_,F_,F_,F_,F_,F_,F_,F_,F_,F_,F_,F_,F_,F_,F_,F_,F_,F_,F_,F_,F_,F_]
abbrev m51_7 : Array Bool := #[T_,T_,T_,T_,T_,T_,T_,F_,F_,F_,F_,F_,F_,F_,F_,F_,F_,F_,F_,F_,F_,F_,F_,F_,F_,F_,F_,F_,F_,F_,F_]
abbrev m51_8 : Array Bool := #[T_,T_,T_,T_,T_,T_,T_,T_,F_,F_,F_,F_,F_,F_,F_,F_,F_,F_,F_,F_,F_,F_,F_,F_,F_,F_,F_,F_,F_,F_,F_]
abbrev m51_9 : Array Bool := #[T_,T_,T_,T_,T_,T_,T_,T_,T_,F_,F_,F_,F_,F_,F_,F_,F_,F_,F_,F_,F_,F_,F_,F_,F_,F_,F_,F_,F_,F_,F_]
abbrev m51_10 : Array Bool := #[T_,T_,T_,T_,T_,T_,T_,T_,T_,T_,F_,F_,F_,F_,F_,F_,F_,F_,F_,F_,F_,F_,F_,F_,F_,F_,F_,F_,F_,F_,F_]
abbrev m51_11 : Array Bool := #[T_,T_,T_,T_,T_,T_,T_,T_,T_,T_,T_,F_,F_,F_,F_,F_,F_,F_,F_,F_,F_,F_,F_,F_,F_,F_,F_,F_,F_,F_,F_]
abbrev m51_12 : Array Bool := #[T_,T_,T_,T_,T_,T_,T_,T_,T_,T_,T_,T_,F_,F_,F_,F_,F_,F_,F_,F_,F_,F_,F_,F_,F_,F_,F_,F_,F_,F_,F_]
abbrev m51_13 : Array Bool := #[T_,T_,T_,T_,T_,T_,T_,T_,T_,T_,T_,T_,T_,F_,F_,F_,F_,F_,F_,F_,F_,F_,F_,F_,F_,F_,F_,F_,F_,F_,F_]
abbrev m51_14 : Array Bool := #[T_,T_,T_,T_,T_,T_,T_,T_,T_,T_,T_,T_,T_,T_,F_,F_,F_,F_,F_,F_,F_,F_,F_,F_,F_,F_,F_,F_,F_,F_,F_]
abbrev m51_15 : Array Bool := #[T_,T_,T_,T_,T_,T_,T_,T_,T_,T_,T_,T_,T_,T_,T_,F_,F_,F_,F_,F_,F_,F_,F_,F_,F_,F_,F_,F_,F_,F_,F_]
abbrev m51_16 : Array Bool := #[T_,T_,T_,T_,T_,T_,T_,T_,T_,T_,T_,T_,T_,T_,T_,T_,F_,F_,F_,F_,F_,F_,F_,F_,F_,F_,F_,F_,F_,F_,F_]
abbrev m51_17 : Array Bool := #[T_,T_,T_,T_,T_,T_,T_,T_,T_,T_,T_,T_,T_,T_,T_,T_,T_,F_,F_,F_,F_,F_,F_,F_,F_,F_,F_,F_,F_,F_,F_]
abbrev m51_18 : Array Bool := #[T_,T_,T_,T_,T_,T_,T_,T_,T_,T_,T_,T_,T_,T_,T_,T_,T_,T_,F_,F_,F_,F_,F_,F_,F_,F_,F_,F_,F_,F_,F_]
abbrev m51_19 : Array Bool := #[T_,T_,T_,T_,T_,T_,T_,T_,T_,T_,T_,T_,T_,T_,T_,T_,T_,T_,T_,F_,F_,F_,F_,F_,F_,F_,F_,F_,F_,F_,F_]
abbrev m51_20 : Array Bool := #[T_,T_,T_,T_,T_,T_,T_,T_,T_,T_,T_,T_,T_,T_,T_,T_,T_,T_,T_,T_,F_,F_,F_,F_,F_,F_,F_,F_,F_,F_,F_]
abbrev m51_21 : Array Bool := #[T_,T_,T_,T_,T_,T_,T_,T_,T_,T_,T_,T_,T_,T_,T_,T_,T_,T_,T_,T_,T_,F_,F_,F_,F_,F_,F_,F_,F_,F_,F_]
abbrev m51_22 : Array Bool := #[T_,T_,T_,T_,T_,T_,T_,T_,T_,T_,T_,T_,T_,T_,T_,T_,T_,T_,T_,T_,T_,T_,F_,F_,F_,F_,F_,F_,F_,F_,F_]
abbrev m51_23 : Array Bool := #[T_,T_,T_,T_,T_,T_,T_,T_,T_,T_,T_,T_,T_,T_,T_,T_,T_,T_,T_,T_,T_,T_,T_,T_,T_,T_,T_,F_,F_,F_,F_]
abbrev m51_24 : Array Bool := #[T_,T_,T_,T_,T_,T_,T_,T_,T_,T_,T_,T_,T_,T_,T_,T_,T_,T_,T_,T_,T_,T_,T_,T_,T_,T_,T_,T_,F_,F_,F_]
abbrev m51_25 : Array Bool := #[T_,T_,T_,T_,T_,T_,T_,T_,T_,T_,T_,T_,T_,T_,T_,T_,T_,T_,T_,T_,T_,T_,T_,T_,T_,T_,T_,T_,T_,F_,F_]
abbrev m51_26 : Array Bool := #[T_,T_,T_,T_,T_,T_,T_,T_,T_,T_,T_,T_,T_,T_,T_,T_,T_,T_,T_,T_,T_,T_,T_,T_,T_,T_,T_,T_,T_,T_,F_]
abbrev m51_27 : Array Bool := #[T_,T_,T_,T_,T_,T_,T_,T_,T_,T_,T_,T_,T_,T_,T_,T_,T_,T_,T_,T_,T_,T_,T_,T_,T_,T_,T_,T_,T_,T_,T_]
/-! ### locksteplaw09_DepFrontier: function 6 -/
mutual
def locksteplaw09_DepFrontier.j0 : Nat → List (List Int) → Bool → Option (Bool)
 | 0, _, _ => none
 | k + 1, x0, x22 => if x22 = true then (some true) else ((graph_Make.f k x0).bind fun bt632 => (if bt632.2.2 = 0 then ((dom_Tree.f k bt632.1 bt632.2.1 0).bind fun t643 => (if 0 ≤ (x0.length : Int) then (if ((x0.length : Int) : Int).toNat ≤ 281474976710656 then (locksteplaw09_DepFrontier.l0 k x0 t643 (List.replicate ((x0.length : Int) : Int).toNat false) 0 bt632.1 bt632.2.1) else (none)) else (none))) else ((dep_Frontier.f k bt632.1 bt632.2.1 0).bind fun t640 => (some ((t640.length : Int) == 0)))))
def locksteplaw09_DepFrontier.l0 : Nat → List (List Int) → List Int → List Bool → Int → List (List Int) → List (List Int) → Option (Bool)
 | 0, _, _, _, _, _, _ => none
 | k + 1, x0, x5, x6, x7, x640000, x640001 => if x7 < (x0.length : Int) then ((dep_Frontier.f k x640000 x640001 x7).bind fun t649 => (locksteplaw09_DepFrontier.l1 k x0 x5 x6 x7 t649 0 x640000 x640001)) else (locksteplaw09_DepFrontier.l2 k x0 x5 x6 0 x640000 x640001)
def locksteplaw09_DepFrontier.l1 : Nat → List (List Int) → List Int → List Bool → Int → List Int → Int → List (List Int) → List (List Int) → Option (Bool)
 | 0, _, _, _, _, _, _, _, _ => none
 | k + 1, x0, x5, x6, x7, x8, x9, x640000, x640001 => if x9 < (x8.length : Int) then (if 0 ≤ x9 then (if (rd x8 x9) = x7 then (if x9 > 0 then (if 0 ≤ (wrap64 (x9 - 1)) then (if (wrap64 (x9 - 1)) < (x8.length : Int) then (if (rd x8 x9) ≤ (rd x8 (wrap64 (x9 - 1))) then (some false) else (if 0 ≤ (rd x8 x9) then (if (rd x8 x9) < (x6.length : Int) then (locksteplaw09_DepFrontier.l1 k x0 x5 (x6.set ((rd x8 x9) : Int).toNat true) x7 x8 (wrap64 (x9 + 1)) x640000 x640001) else (none)) else (none))) else (none)) else (none)) else (if 0 ≤ (rd x8 x9) then (if (rd x8 x9) < (x6.length : Int) then (locksteplaw09_DepFrontier.l1 k x0 x5 (x6.set ((rd x8 x9) : Int).toNat true) x7 x8 (wrap64 (x9 + 1)) x640000 x640001) else (none)) else (none))) else ((dom_Over.f k x5 x7 (rd x8 x9)).bind fun t660 => (if t660 = true then (some false) else (if x9 > 0 then (if 0 ≤ (wrap64 (x9 - 1)) then (if (wrap64 (x9 - 1)) < (x8.length : Int) then (if (rd x8 x9) ≤ (rd x8 (wrap64 (x9 - 1))) then (some false) else (if 0 ≤ (rd x8 x9) then (if (rd x8 x9) < (x6.length : Int) then (locksteplaw09_DepFrontier.l1 k x0 x5 (x6.set ((rd x8 x9) : Int).toNat true) x7 x8 (wrap64 (x9 + 1)) x640000 x640001) else (none)) else (none))) else (none)) else (none)) else (if 0 ≤ (rd x8 x9) then (if (rd x8 x9) < (x6.length : Int) then (locksteplaw09_DepFrontier.l1 k x0 x5 (x6.set ((rd x8 x9) : Int).toNat true) x7 x8 (wrap64 (x9 + 1)) x640000 x640001) else (none)) else (none)))))) else (none)) else (locksteplaw09_DepFrontier.l0 k x0 x5 x6 (wrap64 (x7 + 1)) x640000 x640001)
def locksteplaw09_DepFrontier.l2 : Nat → List (List Int) → List Int → List Bool → Int → List (List Int) → List (List Int) → Option (Bool)
 | 0, _, _, _, _, _, _ => none
 | k + 1, x0, x5, x6, x10, x640000, x640001 => if x10 < (x0.length : Int) then (locksteplaw09_DepFrontier.l3 k x0 x5 x6 x10 0 0 x640000 x640001) else (some true)
def locksteplaw09_DepFrontier.l3 : Nat → List (List Int) → List Int → List Bool → Int → Int → Int → List (List Int) → List (List Int) → Option (Bool)
 | 0, _, _, _, _, _, _, _, _ => none
 | k + 1, x0, x5, x6, x10, x11, x12, x640000, x640001 => if 0 ≤ x10 then (if x10 < (x640001.length : Int) then (if x12 < ((rd_L1 x640001 x10).length : Int) then (if 0 ≤ x12 then ((dom_Over.f k x5 (rd (rd_L1 x640001 x10) x12) (rd (rd_L1 x640001 x10) x12)).bind fun t672 => (if t672 = true then (locksteplaw09_DepFrontier.l3 k x0 x5 x6 x10 (wrap64 (x11 + 1)) (wrap64 (x12 + 1)) x640000 x640001) else (locksteplaw09_DepFrontier.l3 k x0 x5 x6 x10 x11 (wrap64 (x12 + 1)) x640000 x640001))) else (none)) else (if x11 ≥ 2 then (if x10 < (x6.length : Int) then (if rdOf false x6 x10 = true then (locksteplaw09_DepFrontier.l2 k x0 x5 x6 (wrap64 (x10 + 1)) x640000 x640001) else (some false)) else (none)) else (locksteplaw09_DepFrontier.l2 k x0 x5 x6 (wrap64 (x10 + 1)) x640000 x640001))) else (none)) else (none)
end
def locksteplaw09_DepFrontier.f (k : Nat) (l0 : List (List Int)) : Option (Bool) := (locksteplaw09_awake.f k).bind fun t630 => (if t630 = true then (if (l0.length : Int) > 14 then (locksteplaw09_DepFrontier.j0 k l0 true) else ((lockstepref06_Small.f k l0).bind fun t631 => (locksteplaw09_DepFrontier.j0 k l0 (!t631)))) else (some false))
theorem locksteplaw09_DepFrontier.mono_l : ∀ k, (∀ y0 y1, LeO (locksteplaw09_DepFrontier.j0 k y0 y1) (locksteplaw09_DepFrontier.j0 (k + 1) y0 y1)) ∧ (∀ y0 y1 y2 y3 y4 y5, LeO (locksteplaw09_DepFrontier.l0 k y0 y1 y2 y3 y4 y5) (locksteplaw09_DepFrontier.l0 (k + 1) y0 y1 y2 y3 y4 y5)) ∧ (∀ y0 y1 y2 y3 y4 y5 y6 y7, LeO (locksteplaw09_DepFrontier.l1 k y0 y1 y2 y3 y4 y5 y6 y7) (locksteplaw09_DepFrontier.l1 (k + 1) y0 y1 y2 y3 y4 y5 y6 y7)) ∧ (∀ y0 y1 y2 y3 y4 y5, LeO (locksteplaw09_DepFrontier.l2 k y0 y1 y2 y3 y4 y5) (locksteplaw09_DepFrontier.l2 (k + 1) y0 y1 y2 y3 y4 y5)) ∧ (∀ y0 y1 y2 y3 y4 y5 y6 y7, LeO (locksteplaw09_DepFrontier.l3 k y0 y1 y2 y3 y4 y5 y6 y7) (locksteplaw09_DepFrontier.l3 (k + 1) y0 y1 y2 y3 y4 y5 y6 y7))
 | 0 => ⟨fun _ _ r h => by simp [locksteplaw09_DepFrontier.j0] at h, fun _ _ _ _ _ _ r h => by simp [locksteplaw09_DepFrontier.l0] at h, fun _ _ _ _ _ _ _ _ r h => by simp [locksteplaw09_DepFrontier.l1] at h, fun _ _ _ _ _ _ r h => by simp [locksteplaw09_DepFrontier.l2] at h, fun _ _ _ _ _ _ _ _ r h => by simp [locksteplaw09_DepFrontier.l3] at h⟩
 | k + 1 => by
  obtain ⟨ih0, ih1, ih2, ih3, ih4⟩ := locksteplaw09_DepFrontier.mono_l k
  refine ⟨?_, ?_, ?_, ?_, ?_⟩
  ·intro y0 y1
   unfold locksteplaw09_DepFrontier.j0
   repeat' (with_reducible first | exact ih0 _ _ | exact ih1 _ _ _ _ _ _ | exact ih2 _ _ _ _ _ _ _ _ | exact ih3 _ _ _ _ _ _ | exact ih4 _ _ _ _ _ _ _ _ | exact dep_Frontier.mono _ _ _ _ | exact dom_Over.mono _ _ _ _ | exact dom_Tree.mono _ _ _ _ | exact graph_Make.mono _ _ | exact locksteplaw09_awake.mono _ | exact lockstepref06_Small.mono _ _ | exact LeO.refl _ | exact LeO.none _ | refine LeO.ite ?_ ?_ | refine LeO.bind ?_ (fun _ => ?_))
  ·intro y0 y1 y2 y3 y4 y5
   unfold locksteplaw09_DepFrontier.l0
   repeat' (with_reducible first | exact ih0 _ _ | exact ih1 _ _ _ _ _ _ | exact ih2 _ _ _ _ _ _ _ _ | exact ih3 _ _ _ _ _ _ | exact ih4 _ _ _ _ _ _ _ _ | exact dep_Frontier.mono _ _ _ _ | exact dom_Over.mono _ _ _ _ | exact dom_Tree.mono _ _ _ _ | exact graph_Make.mono _ _ | exact locksteplaw09_awake.mono _ | exact lockstepref06_Small.mono _ _ | exact LeO.refl _ | exact LeO.none _ | refine LeO.ite ?_ ?_ | refine LeO.bind ?_ (fun _ => ?_))
  ·intro y0 y1 y2 y3 y4 y5 y6 y7
   unfold locksteplaw09_DepFrontier.l1
   repeat' (with_reducible first | exact ih0 _ _ | exact ih1 _ _ _ _ _ _ | exact ih2 _ _ _ _ _ _ _ _ | exact ih3 _ _ _ _ _ _ | exact ih4 _ _ _ _ _ _ _ _ | exact dep_Frontier.mono _ _ _ _ | exact dom_Over.mono _ _ _ _ | exact dom_Tree.mono _ _ _ _ | exact graph_Make.mono _ _ | exact locksteplaw09_awake.mono _ | exact lockstepref06_Small.mono _ _ | exact LeO.refl _ | exact LeO.none _ | refine LeO.ite ?_ ?_ | refine LeO.bind ?_ (fun _ => ?_))
  ·intro y0 y1 y2 y3 y4 y5
   unfold locksteplaw09_DepFrontier.l2
   repeat' (with_reducible first | exact ih0 _ _ | exact ih1 _ _ _ _ _ _ | exact ih2 _ _ _ _ _ _ _ _ | exact ih3 _ _ _ _ _ _ | exact ih4 _ _ _ _ _ _ _ _ | exact dep_Frontier.mono _ _ _ _ | exact dom_Over.mono _ _ _ _ | exact dom_Tree.mono _ _ _ _ | exact graph_Make.mono _ _ | exact locksteplaw09_awake.mono _ | exact lockstepref06_Small.mono _ _ | exact LeO.refl _ | exact LeO.none _ | refine LeO.ite ?_ ?_ | refine LeO.bind ?_ (fun _ => ?_))
  ·intro y0 y1 y2 y3 y4 y5 y6 y7
   unfold locksteplaw09_DepFrontier.l3
   repeat' (with_reducible first | exact ih0 _ _ | exact ih1 _ _ _ _ _ _ | exact ih2 _ _ _ _ _ _ _ _ | exact ih3 _ _ _ _ _ _ | exact ih4 _ _ _ _ _ _ _ _ | exact dep_Frontier.mono _ _ _ _ | exact dom_Over.mono _ _ _ _ | exact dom_Tree.mono _ _ _ _ | exact graph_Make.mono _ _ | exact locksteplaw09_awake.mono _ | exact lockstepref06_Small.mono _ _ | exact LeO.refl _ | exact LeO.none _ | refine LeO.ite ?_ ?_ | refine LeO.bind ?_ (fun _ => ?_))
theorem locksteplaw09_DepFrontier.mono : ∀ a0 k, LeO (locksteplaw09_DepFrontier.f k a0) (locksteplaw09_DepFrontier.f (k + 1) a0) := by
 intro a0 k
 obtain ⟨ih0, ih1, ih2, ih3, ih4⟩ := locksteplaw09_DepFrontier.mono_l k
 unfold locksteplaw09_DepFrontier.f
 repeat' (with_reducible first | exact ih0 _ _ | exact ih1 _ _ _ _ _ _ | exact ih2 _ _ _ _ _ _ _ _ | exact ih3 _ _ _ _ _ _ | exact ih4 _ _ _ _ _ _ _ _ | exact dep_Frontier.mono _ _ _ _ | exact dom_Over.mono _ _ _ _ | exact dom_Tree.mono _ _ _ _ | exact graph_Make.mono _ _ | exact locksteplaw09_awake.mono _ | exact lockstepref06_Small.mono _ _ | exact LeO.refl _ | exact LeO.none _ | refine LeO.ite ?_ ?_ | refine LeO.bind ?_ (fun _ => ?_))
def locksteplaw09_DepFrontier.T17 : Bool × List (List Nat × List Nat) := (true, [([], []), ([], []), ([0, 1], [0, 1]), ([2], [2]), ([], []), ([3, 4], [3, 4]), ([5], [5]), ([6], [6]), ([6], [6]), ([6], [6]), ([6], [6]), ([9, 10, 6], [6, 9, 10]), ([11, 6], [6, 11]), ([7, 8, 12, 6, 6], [6, 7, 8, 12]), ([6, 13], [6, 13]), ([14, 13], [14]), ([15], [15]), ([16, 15], [15, 16]), ([17, 15, 15], [15, 17]), ([18], [18]), ([18], [18]), ([19, 20, 18], [18, 19, 20]), ([21, 18], [18, 21]), ([18], [18]), ([18], [18]), ([24, 18], [18, 24]), ([23, 25, 18], [18, 23, 25]), ([26, 18], [18, 26]), ([22, 27, 18], [18, 22, 27]), ([18, 28, 15], [15, 18, 28]), ([15, 29], [15, 29])])
def locksteplaw09_DepFrontier.B17 : List Nat := [0, 0, 3, 7, 0, 31, 63, 127, 127, 127, 127, 1663, 3711, 8191, 16383, 32767, 65535, 131071, 262143, 524287, 524287, 2097151, 4194303, 524287, 524287, 17301503, 59244543, 126353407, 268435455, 536870911, 1073741823]
theorem locksteplaw09_DepFrontier.tab17 : rtab .any (opsOf Try.f6 17) = locksteplaw09_DepFrontier.T17 := by kernel_rfl
theorem locksteplaw09_DepFrontier.bits17 : waitsOk locksteplaw09_DepFrontier.T17.2 locksteplaw09_DepFrontier.B17 = true := by kernel_rfl
def locksteplaw09_DepFrontier.T27 : Bool × List (List Nat × List Nat) := (true, [([], []), ([], []), ([1], [1]), ([], []), ([2, 3], [2, 3]), ([4], [4]), ([], []), ([5, 6], [5, 6]), ([7], [7]), ([], []), ([9], [9]), ([], []), ([10, 11], [10, 11]), ([12], [12]), ([], []), ([13, 14], [13, 14]), ([15], [15]), ([0, 8, 16], [0, 8, 16])])
def locksteplaw09_DepFrontier.B27 : List Nat := [0, 0, 2, 0, 14, 30, 0, 126, 254, 0, 512, 0, 3584, 7680, 0, 32256, 65024, 131071]
theorem locksteplaw09_DepFrontier.tab27 : rtab .any (opsOf Try.f6 27) = locksteplaw09_DepFrontier.T27 := by kernel_rfl
theorem locksteplaw09_DepFrontier.bits27 : waitsOk locksteplaw09_DepFrontier.T27.2 locksteplaw09_DepFrontier.B27 = true := by kernel_rfl
set_option maxHeartbeats 8000000 in
set_option maxRecDepth 100000 in
theorem locksteplaw09_DepFrontier.calls (k : Nat) (A0 : Option Addr) (c0 : Nat) (l0 : List (List Int)) (w : World) (hr0 : Kd.C (Kd.slice 3 (Kd.int .i64)) w A0 l0.length l0) (hc0 : l0.length ≤ c0) (h : locksteplaw09_DepFrontier.f k l0 = some true) :
 Calls Try.prog 6 #[.slice A0 l0.length c0] w fun e w' => e = .returned (.bool true) ∧ Below w.heap.size w w' := by
 have hu26 := Try.underlying26
 have HR0 := Aside0.mk hr0
 have HC0 := Aside0.mk hc0
 clear hr0 hc0
 have HB := A_ (Below.refl w.heap.size w)
 have H : ((locksteplaw09_awake.f k).bind fun t630 => (if t630 = true then (if (l0.length : Int) > 14 then (locksteplaw09_DepFrontier.j0 k l0 true) else ((lockstepref06_Small.f k l0).bind fun t631 => (locksteplaw09_DepFrontier.j0 k l0 (!t631)))) else (some false))) = some true := h
 clear h
 replace H := Option.bind_eq_some_iff.mp H
 obtain ⟨t630, A20, H⟩ := H
 try dsimp only at H
 have A2 := Aside0.mk A20
 clear A20
 by_cases c3 : t630 = true
 ·subst c3
  have H1 : (if (l0.length : Int) > 14 then (locksteplaw09_DepFrontier.j0 k l0 true) else ((lockstepref06_Small.f k l0).bind fun t631 => (locksteplaw09_DepFrontier.j0 k l0 (!t631)))) = some true := by rw [if_pos rfl] at H; exact H
  clear H
  have H := H1
  clear H1
  have HC4 := Aside0.mk H
  clear H
  go_enter Try.func6, Try.ntmps6
  go_upto_region 3 with (first | ((with_reducible refine gate_callee (f := 7) rfl ?_); refine goesL_ (some 13) rfl rfl Try.func7 (by kernel_rfl) rfl #[] rfl (by (try simp only [List.map_toArray, List.map_cons, List.map_nil]); first | done | rfl | (simp only [List.length_drop, List.length_take]; rfl)) ?_; (with_reducible refine (locksteplaw09_awake.calls k   _ A2.out).mono ?_); rintro e w5 ⟨rfl, hb⟩; refine ⟨_, rfl, ?_⟩; replace HB := A_ (below_step (B_) hb); (try clear hb); (try clear hb2); (try clear hk); (try clear hi)))
  (try simp only [Act.put, List.setIfInBounds_toArray, List.set_cons_zero, List.set_cons_succ])
  go_cut [22] (fun v22 wc => ∃ (kq : Nat) (x22_3 : Bool), v22 = .bool x22_3 ∧ Aside0 (locksteplaw09_DepFrontier.j0 kq l0 x22_3 = some true) ∧ Aside0 (kq ≤ k) ∧ Aside0 (Below w.heap.size w wc))
  case first =>
   have H := HC4.out
   clear HC4
   by_cases c6 : (l0.length : Int) > 14
   ·rw [if_pos c6] at H
    have c6b0 : decide (14 < (l0.length : Int)) = true := decide_eq_true c6
    have c6b1 : decide (14 < l0.length) = true := decide_eq_true (by omega)
    clear c6
    (first | rw [c6b0] | (simp only [i64_w, i32_w]; rw [c6b0]) | skip)
    have H' := Aside0.mk H
    clear H
    go_wp2
    go_meet
    case rel => exact ⟨_, (true), (by first | rfl | exact congrArg (fun b => Ending.returned (Value.bool b)) HR_.out | (simp; done) | (simp [*]; done)), H', ⟨by first | omega | exact Nat.le_refl _⟩, ⟨B_⟩⟩
   rw [if_neg c6] at H
   have c6b0 : decide (14 < (l0.length : Int)) = false := decide_eq_false c6
   have c6b1 : decide (14 < l0.length) = false := decide_eq_false (by omega)
   clear c6
   (first | rw [c6b0] | (simp only [i64_w, i32_w]; rw [c6b0]) | skip)
   replace H := Option.bind_eq_some_iff.mp H
   obtain ⟨t631, A70, H⟩ := H
   try dsimp only at H
   have A7 := Aside0.mk A70
   clear A70
   have H' := Aside0.mk H
   clear H
   go_wp2_with (first | (go_at_call 8; (with_reducible refine (lockstepref06_Small.calls k _ _ l0 t631 _ ?side1 ?side2 A7.out).mono ?_); (case side1 => exact CX_ (Kd.C_below HR0.out HB.out)); (case side2 => exact HC0.out); rintro e w' ⟨rfl, ⟨nd, rfl⟩⟩))
   go_meet
   case rel => exact ⟨_, (!t631), (by first | rfl | exact congrArg (fun b => Ending.returned (Value.bool b)) HR_.out | (simp; done) | (simp [*]; done)), H', ⟨by first | omega | exact Nat.le_refl _⟩, ⟨B_⟩⟩
  case rest =>
   clear HC4
   try clear c3
   obtain ⟨kq, x22_3, rfl, HA, HJ3, HB⟩ := hcut
   cases kq with
   | zero => exact absurd HA.out (by simp [locksteplaw09_DepFrontier.j0])
   | succ kj3 =>
    have H := HA.out
    clear HA
    simp only [locksteplaw09_DepFrontier.j0] at H
    by_cases c8 : x22_3 = true
    ·subst c8
     have H1 : (some true) = some true := rfl
     clear H
     have H := H1
     clear H1
     clear H
     go_wp2
     go_ret
     exact ⟨by first | rfl | exact congrArg (fun b => Ending.returned (Value.bool b)) HR_.out | (simp [errW_none, errW_some] <;> rfl) | (simp [*, errW_none, errW_some] <;> rfl), B_⟩
    replace c8 := Bool.eq_false_iff.mpr c8
    subst c8
    have H1 : ((graph_Make.f kj3 l0).bind fun bt632 => (if bt632.2.2 = 0 then ((dom_Tree.f kj3 bt632.1 bt632.2.1 0).bind fun t643 => (if 0 ≤ (l0.length : Int) then (if ((l0.length : Int) : Int).toNat ≤ 281474976710656 then (locksteplaw09_DepFrontier.l0 kj3 l0 t643 (List.replicate ((l0.length : Int) : Int).toNat false) 0 bt632.1 bt632.2.1) else (none)) else (none))) else ((dep_Frontier.f kj3 bt632.1 bt632.2.1 0).bind fun t640 => (some ((t640.length : Int) == 0))))) = some true := by rw [if_neg (show ¬ (false = true) by decide)] at H; exact H
    clear H
    have H := H1
    clear H1
    replace H := Option.bind_eq_some_iff.mp H
    obtain ⟨⟨t632, t635, t638⟩, A90, H⟩ := H
    try dsimp only at H
    have A9 := Aside0.mk A90
    clear A90
    by_cases c10 : t638 = 0
    ·rw [if_pos c10] at H
     have c10b0 : (t638 == 0) = true := beq_iff_eq.mpr c10
     have c10b1 : (t638 != 0) = false := bne_eq_false_iff_eq.mpr c10
     clear c10
     replace H := Option.bind_eq_some_iff.mp H
     obtain ⟨t643, A110, H⟩ := H
     try dsimp only at H
     have A11 := Aside0.mk A110
     clear A110
     by_cases c12 : 0 ≤ (l0.length : Int)
     ·rw [if_pos c12] at H
      have c12b0 := eq_true c12
      have c12b1 : decide (0 ≤ (l0.length : Int)) = true := decide_eq_true c12
      clear c12
      by_cases c13 : ((l0.length : Int) : Int).toNat ≤ 281474976710656
      ·rw [if_pos c13] at H
       have c13b0 := eq_true c13
       have c13b1 : decide (((l0.length : Int) : Int).toNat ≤ 281474976710656) = true := decide_eq_true c13
       clear c13
       obtain ⟨y646, hy646⟩ : ∃ y_ : List Bool, y_ = (List.replicate ((l0.length : Int) : Int).toNat false) := ⟨_, rfl⟩
       replace H : (locksteplaw09_DepFrontier.l0 kj3 l0 t643 y646 0 t632 t635) = some true := by first | (rw [hy646]; with_reducible exact H) | (have H2_ := (Option.bind_some _ _).symm.trans H; rw [hy646]; with_reducible exact H2_) | (have H2_ := (Option.bind_some _ _).symm.trans H; with_reducible exact H2_) | with_reducible exact H | (rw [hy646]; exact H) | exact H
       have Ny646 := Aside0.mk hy646
       clear hy646
       have H' := Aside0.mk H
       clear H
       go_wp2_with (first | ((with_reducible refine gate_callee (f := 15) rfl ?_); refine goesL_ (some 25) rfl rfl Try.func15 (by kernel_rfl) rfl #[.slice A0 l0.length c0] rfl (by (try simp only [List.map_toArray, List.map_cons, List.map_nil]); first | done | rfl | (simp only [List.length_drop, List.length_take]; rfl)) ?_; (with_reducible refine (graph_Make.calls kj3 _ _ l0 t632 t635 t638 _ ?side1 ?side2 A9.out).mono ?_); (case side1 => exact CX_ (Kd.C_below HR0.out HB.out)); (case side2 => exact HC0.out); rintro e w14 ⟨v633, v636, rfl, ho0, ho1, hb⟩; refine ⟨_, rfl, ?_⟩; have HO634 := A_ (Kd.S_lower ho0 (below_size (B_))); have HO637 := A_ (Kd.S_lower ho1 (below_size (B_))); replace HB := A_ (below_step (B_) hb); (try clear hb); (try clear hb2); (try clear hk); (try clear hi); (try clear ho0); (try clear ho1)) | ((with_reducible refine gate_dst (N := 3) rfl ?_); refine box_event ?hg (N := 3) ?hd (cs := #[.slice none 0 0, .slice none 0 0]) (t := 26) ?hr ?_; (case hd => rfl); (case hg => rfl); (case hr => first | (go_simp; done) | (go_simp; rfl)); intro gb639 hg w15 hbox hb; replace HO634 := A_ (Kd.S_below (by exact SX_ HO634.out) hb); replace HO637 := A_ (Kd.S_below (by exact SX_ HO637.out) hb); have BK639 := A_ (hbox); have GW639 := A_ ((by rw [hg]; exact (below_size (B_)) : w.heap.size ≤ gb639)); have GE639 := A_ ((by rw [hg]; exact (below_size (B_)) : w.heap.size ≤ gb639)); replace HB := A_ (below_step (B_) hb); clear hb hbox hg; obtain ⟨Ao16, co16, eo16⟩ := Kd.S_slice HO634.out; subst eo16; have hcz17_0 : w15.cell? ⟨gb639, 0, none⟩ = some (.slice none 0 0) := (blk_cell BK639.out 0).trans rfl; have hcz17_1 : w15.cell? ⟨gb639, 1, none⟩ = some (.slice none 0 0) := (blk_cell BK639.out 1).trans rfl; have hfz17_0 := blk_frozen BK639.out 0; have hfz17_1 := blk_frozen BK639.out 1; obtain ⟨Ao18, co18, eo18⟩ := Kd.S_slice HO637.out; subst eo18) | ((with_reducible refine gate_callee (f := 19) rfl ?_); refine goesL_ (some 35) rfl rfl Try.func19 (by kernel_rfl) rfl #[.agg #[.slice Ao16 t632.length co16, .slice Ao18 t635.length co18], .int .i64 0] rfl (by (try simp only [List.map_toArray, List.map_cons, List.map_nil]); first | done | rfl | (simp only [List.length_drop, List.length_take]; rfl)) ?_; (with_reducible refine (dom_Tree.calls kj3 _ _ t632 _ _ t635 0 t643 _ ?side1 ?side2 ?side3 ?side4 A11.out).mono ?_); (case side1 => refine (Kd.S_reads' (e := 31) (base := w.heap.size) (ok := fun k_ => some k_ ≠ (.slice Ao18 t635.length co18 : Value).ownBlock) (n := t632.length) (c := co16) ?_).2.2; exact (by (with_reducible repeat (first | apply Kd.S_alloc | apply Kd.S_drewN | apply Kd.S_drew)); exact (Kd.S_mono (Kd.S_far (p := ⟨gb639, 1, none⟩) (Kd.S_far (p := ⟨gb639, 0, none⟩) (Kd.S_types HO634.out BK639.out (by decide)) (fun _ hk => hk.2) (.slice Ao16 t632.length co16)) (fun _ hk => hk.2) (.slice Ao18 t635.length co18)) (fun _ h_ => h_.1)))); (case side2 => exact (Kd.S_reads' HO634.out).2.1); (case side3 => refine (Kd.S_reads' (e := 31) (base := w.heap.size) (ok := fun k_ => some k_ ≠ (.slice Ao16 t632.length co16 : Value).ownBlock) (n := t635.length) (c := co18) ?_).2.2; exact (by (with_reducible repeat (first | apply Kd.S_alloc | apply Kd.S_drewN | apply Kd.S_drew)); exact (Kd.S_mono (Kd.S_far (p := ⟨gb639, 1, none⟩) (Kd.S_far (p := ⟨gb639, 0, none⟩) (Kd.S_types HO637.out BK639.out (by decide)) (fun _ hk => hk.2) (.slice Ao16 t632.length co16)) (fun _ hk => hk.2) (.slice Ao18 t635.length co18)) (fun _ h_ => h_.1)))); (case side4 => exact (Kd.S_reads' HO637.out).2.1); rintro e w19 ⟨v644, rfl, ho0, hb⟩; refine ⟨_, rfl, ?_⟩; replace HO634 := A_ (Kd.S_elder' (by (with_reducible repeat (first | apply Kd.S_alloc | apply Kd.S_drewN | apply Kd.S_drew)); exact (Kd.S_mono (Kd.S_far (p := ⟨gb639, 1, none⟩) (Kd.S_far (p := ⟨gb639, 0, none⟩) (Kd.S_types HO634.out BK639.out (by decide)) (fun _ hk => hk.2) (.slice Ao16 t632.length co16)) (fun _ hk => hk.2) (.slice Ao18 t635.length co18)) (fun _ h_ => h_.1))) (Kd.R_base ho0) hb); replace HO637 := A_ (Kd.S_elder' (by (with_reducible repeat (first | apply Kd.S_alloc | apply Kd.S_drewN | apply Kd.S_drew)); exact (Kd.S_mono (Kd.S_far (p := ⟨gb639, 1, none⟩) (Kd.S_far (p := ⟨gb639, 0, none⟩) (Kd.S_types HO637.out BK639.out (by decide)) (fun _ hk => hk.2) (.slice Ao16 t632.length co16)) (fun _ hk => hk.2) (.slice Ao18 t635.length co18)) (fun _ h_ => h_.1))) (Kd.R_base ho0) hb); have HO645 := A_ (Kd.R_lower ho0 (below_size (B1_))); replace BK639 := A_ (blk_below (g := gb639) (o := .cells #[.slice Ao16 t632.length co16, .slice Ao18 t635.length co18] 26 (0, 0)) (by (with_reducible repeat (first | refine blk_drewN ?_ _ | refine blk_drew ?_ | refine blk_alloc ?_ _)); refine blk_put (cs := #[.slice Ao16 t632.length co16, .slice none 0 0]) ?_ 1 _ rfl; (with_reducible repeat (first | refine blk_drewN ?_ _ | refine blk_drew ?_ | refine blk_alloc ?_ _)); refine blk_put (cs := #[.slice none 0 0, .slice none 0 0]) ?_ 0 _ rfl; exact KX_ BK639.out) hb); replace HB := A_ (below_step (B1_) hb); (try clear hb); (try clear hb2); (try clear hk); (try clear hi); (try clear ho0)) | ((with_reducible refine gate_dst (N := 38) rfl ?_); refine Kd.R_make Kd.bool _ 4 rfl (N := 38) rfl 40 _ _ rfl (l0.length : Int) rfl rfl Try.underlying40 (.bool false) 1 info4 rfl (by decide) (by omega) false (ok := fun _ => True) (okp := fun _ => True) rfl (fun _ hk => hk) trivial (D_) (Nat.le_trans (Nat.mul_le_mul_right _ (D_ : (l0.length : Int).toNat ≤ 281474976710656)) (by omega)) (Below.refl _ _) (Nat.le_refl _) ?_; intro v647 w20 ho21 hb hg_ hnew_; clear hg_ hnew_; (first | rw [← Ny646.out] at ho21 | (simp only [Int.reduceToNat] at ho21; rw [← Ny646.out] at ho21)); replace HO634 := A_ (Kd.S_below (by exact SX_ HO634.out) hb); replace HO637 := A_ (Kd.S_below (by exact SX_ HO637.out) hb); replace HO645 := A_ (Kd.R_below (by exact RX_ HO645.out) hb); have HO648 := A_ (Kd.R_lower ho21 (below_size (B1_))); replace BK639 := A_ (blk_below (g := gb639) (o := .cells #[.slice Ao16 t632.length co16, .slice Ao18 t635.length co18] 26 (0, 0)) (by exact KX_ BK639.out) hb); replace HB := A_ (below_step (B1_) hb); clear hb ho21))
       go_loopg [7] kj3 (fun kq v7 w' => ∃ (x6_2 : List Bool) (x7_2 : Int), v7 = .int .i64 x7_2 ∧ Aside0 (locksteplaw09_DepFrontier.l0 kq l0 t643 x6_2 x7_2 t632 t635 = some true) ∧ Aside0 (kq ≤ kj3) ∧ Aside0 (Kd.R (Kd.int .i64) 3 w' w.heap.size (fun _ => True) v644 t643) ∧ Aside0 (Kd.R Kd.bool 4 w' w.heap.size (fun _ => True) v647 x6_2) ∧ Aside0 (Kd.S (Kd.slice 3 (Kd.int .i64)) 31 w' w.heap.size (fun k_ => some k_ ≠ (v644 : Value).ownBlock ∧ some k_ ≠ ((.slice Ao18 t635.length co18) : Value).ownBlock) (.slice Ao16 t632.length co16) t632) ∧ Aside0 (Kd.S (Kd.slice 3 (Kd.int .i64)) 31 w' w.heap.size (fun k_ => some k_ ≠ (v644 : Value).ownBlock ∧ some k_ ≠ ((.slice Ao16 t632.length co16) : Value).ownBlock) (.slice Ao18 t635.length co18) t635) ∧ Aside0 (w'.heap[gb639]? = some (.cells #[(.slice Ao16 t632.length co16), (.slice Ao18 t635.length co18)] 26 (0, 0))) ∧ Aside0 (Below w.heap.size w w'))
       case atStart => exact ⟨(y646), (0), (by first | rfl | exact congrArg (fun b => Ending.returned (Value.bool b)) HR_.out | (simp; done) | (simp [*]; done)), H', ⟨Nat.le_refl _⟩, ⟨by exact RM_ HO645.out⟩, ⟨by exact RM_ HO648.out⟩, ⟨by (with_reducible repeat (first | apply Kd.S_alloc | apply Kd.S_drewN | apply Kd.S_drew)); exact Kd.S_mono HO634.out (fun _ hk => ⟨hk.2, hk.1⟩)⟩, ⟨by (with_reducible repeat (first | apply Kd.S_alloc | apply Kd.S_drewN | apply Kd.S_drew)); exact Kd.S_mono HO637.out (fun _ hk => ⟨hk.2, hk.1⟩)⟩, ⟨by exact KX_ BK639.out⟩, ⟨B1_⟩⟩
       case round =>
        clear H'
        try clear c8
        try clear c10b0
        try clear c10b1
        try clear c12b0
        try clear c12b1
        try clear c13b0
        try clear c13b1
        try clear hcz17_0
        try clear hcz17_1
        try clear hfz17_0
        try clear hfz17_1
        obtain ⟨x6_2, x7_2, rfl, HA, HK2, HO_5, HO_6, HO_640000, HO_640001, BK639, HB⟩ := hrel
        cases gk with
        | zero => exact absurd HA.out (by simp [locksteplaw09_DepFrontier.l0])
        | succ k2 =>
         have H := HA.out
         clear HA
         simp only [locksteplaw09_DepFrontier.l0] at H
         by_cases c22 : x7_2 < (l0.length : Int)
         ·rw [if_pos c22] at H
          have c22b0 : decide (x7_2 < (l0.length : Int)) = true := decide_eq_true c22
          clear c22
          replace H := Option.bind_eq_some_iff.mp H
          obtain ⟨t649, A230, H⟩ := H
          try dsimp only at H
          have A23 := Aside0.mk A230
          clear A230
          have H' := Aside0.mk H
          clear H
          have hcz24_0 : wr.cell? ⟨gb639, 0, none⟩ = some (.slice Ao16 t632.length co16) := (blk_cell BK639.out 0).trans rfl
          have hcz24_1 : wr.cell? ⟨gb639, 1, none⟩ = some (.slice Ao18 t635.length co18) := (blk_cell BK639.out 1).trans rfl
          have hfz24_0 := blk_frozen BK639.out 0
          have hfz24_1 := blk_frozen BK639.out 1
          go_wp2_with (first | ((with_reducible refine gate_callee (f := 13) rfl ?_); refine goesL_ (some 47) rfl rfl Try.func13 (by kernel_rfl) rfl #[.agg #[.slice Ao16 t632.length co16, .slice Ao18 t635.length co18], .int .i64 x7_2] rfl (by (try simp only [List.map_toArray, List.map_cons, List.map_nil]); first | done | rfl | (simp only [List.length_drop, List.length_take]; rfl)) ?_; (with_reducible refine (dep_Frontier.calls k2 _ _ t632 _ _ t635 x7_2 t649 _ ?side1 ?side2 ?side3 ?side4 A23.out).mono ?_); (case side1 => repeat (first | exact (Kd.S_reads' HO_640000.out).2.2 | (with_reducible refine Kd.C_alloc ?_ _) | (with_reducible refine Kd.C_drewN ?_ _) | (with_reducible refine Kd.C_drew ?_))); (case side2 => exact (Kd.S_reads' HO_640000.out).2.1); (case side3 => repeat (first | exact (Kd.S_reads' HO_640001.out).2.2 | (with_reducible refine Kd.C_alloc ?_ _) | (with_reducible refine Kd.C_drewN ?_ _) | (with_reducible refine Kd.C_drew ?_))); (case side4 => exact (Kd.S_reads' HO_640001.out).2.1); rintro e w25 ⟨v650, rfl, ho0, hb⟩; refine ⟨_, rfl, ?_⟩; replace HO_6 := A_ (Kd.R_below (by exact RX_ HO_6.out) hb); replace HO_640000 := A_ (Kd.S_elder' (by exact SX_ HO_640000.out) (Kd.R_base ho0) hb); replace HO_640001 := A_ (Kd.S_elder' (by exact SX_ HO_640001.out) (Kd.R_base ho0) hb); have HO651 := A_ (Kd.R_lower (Kd.R_new' ho0 (Kd.R_lt (by exact RX_ HO_5.out))) (below_size (B1_))); replace HO_5 := A_ (Kd.R_elder' (by exact RX_ HO_5.out) (Kd.R_base ho0) hb); replace BK639 := A_ (blk_below (g := gb639) (o := .cells #[.slice Ao16 t632.length co16, .slice Ao18 t635.length co18] 26 (0, 0)) (by exact KX_ BK639.out) hb); replace HB := A_ (below_step (B1_) hb); (try clear hb); (try clear hb2); (try clear hk); (try clear hi); (try clear ho0)))
          go_loopg [9] k2 (fun kq v9 w' => ∃ (x6_3 : List Bool) (x9_3 : Int), v9 = .int .i64 x9_3 ∧ Aside0 (locksteplaw09_DepFrontier.l1 kq l0 t643 x6_3 x7_2 t649 x9_3 t632 t635 = some true) ∧ Aside0 (kq ≤ k2) ∧ Aside0 (Kd.R (Kd.int .i64) 3 w' w.heap.size (fun k_ => some k_ ≠ (v650 : Value).ownBlock) v644 t643) ∧ Aside0 (Kd.R Kd.bool 4 w' w.heap.size (fun _ => True) v647 x6_3) ∧ Aside0 (Kd.R (Kd.int .i64) 3 w' w.heap.size (fun k_ => some k_ ≠ (v644 : Value).ownBlock) v650 t649) ∧ Aside0 (Kd.S (Kd.slice 3 (Kd.int .i64)) 31 w' w.heap.size (fun k_ => some k_ ≠ (v644 : Value).ownBlock ∧ some k_ ≠ (v650 : Value).ownBlock ∧ some k_ ≠ ((.slice Ao18 t635.length co18) : Value).ownBlock) (.slice Ao16 t632.length co16) t632) ∧ Aside0 (Kd.S (Kd.slice 3 (Kd.int .i64)) 31 w' w.heap.size (fun k_ => some k_ ≠ (v644 : Value).ownBlock ∧ some k_ ≠ (v650 : Value).ownBlock ∧ some k_ ≠ ((.slice Ao16 t632.length co16) : Value).ownBlock) (.slice Ao18 t635.length co18) t635) ∧ Aside0 (w'.heap[gb639]? = some (.cells #[(.slice Ao16 t632.length co16), (.slice Ao18 t635.length co18)] 26 (0, 0))) ∧ Aside0 (Below w.heap.size w w'))
          case atStart => exact ⟨(x6_2), (0), (by first | rfl | exact congrArg (fun b => Ending.returned (Value.bool b)) HR_.out | (simp; done) | (simp [*]; done)), H', ⟨Nat.le_refl _⟩, ⟨by (with_reducible repeat (first | apply Kd.R_alloc | apply Kd.R_drewN | apply Kd.R_drew)); exact Kd.R_mono HO_5.out (fun _ hk => by first | exact hk.2 | exact hk | exact ⟨hk.1, hk.2⟩ | simp_all)⟩, ⟨by exact RM_ HO_6.out⟩, ⟨by (with_reducible repeat (first | apply Kd.R_alloc | apply Kd.R_drewN | apply Kd.R_drew)); exact Kd.R_mono HO651.out (fun _ hk => by first | exact hk.2 | exact hk | exact ⟨hk.1, hk.2⟩ | simp_all)⟩, ⟨by (with_reducible repeat (first | apply Kd.S_alloc | apply Kd.S_drewN | apply Kd.S_drew)); exact Kd.S_mono HO_640000.out (fun _ hk => ⟨hk.1.1, ⟨hk.2, hk.1.2⟩⟩)⟩, ⟨by (with_reducible repeat (first | apply Kd.S_alloc | apply Kd.S_drewN | apply Kd.S_drew)); exact Kd.S_mono HO_640001.out (fun _ hk => ⟨hk.1.1, ⟨hk.2, hk.1.2⟩⟩)⟩, ⟨by exact KX_ BK639.out⟩, ⟨B1_⟩⟩
          case round =>
           clear H'
           try clear c22b0
           try clear hcz24_0
           try clear hcz24_1
           try clear hfz24_0
           try clear hfz24_1
           obtain ⟨x6_3, x9_3, rfl, HA, HK3, HO_5, HO_6, HO_8, HO_640000, HO_640001, BK639, HB⟩ := hrel
           cases gk with
           | zero => exact absurd HA.out (by simp [locksteplaw09_DepFrontier.l1])
           | succ k3 =>
            have H := HA.out
            clear HA
            simp only [locksteplaw09_DepFrontier.l1] at H
            by_cases c26 : x9_3 < (t649.length : Int)
            ·rw [if_pos c26] at H
             have c26b0 : decide (x9_3 < (t649.length : Int)) = true := decide_eq_true c26
             clear c26
             by_cases c27 : 0 ≤ x9_3
             ·rw [if_pos c27] at H
              have c27b0 : decide (0 ≤ x9_3) = true := decide_eq_true c27
              clear c27
              by_cases c28 : (rd t649 x9_3) = x7_2
              ·rw [if_pos c28] at H
               have c28b0 : ((rd t649 x9_3) == x7_2) = true := beq_iff_eq.mpr c28
               have c28b1 : ((rd t649 x9_3) != x7_2) = false := bne_eq_false_iff_eq.mpr c28
               clear c28
               by_cases c29 : x9_3 > 0
               ·rw [if_pos c29] at H
                have c29b0 : decide (0 < x9_3) = true := decide_eq_true c29
                clear c29
                obtain ⟨ji30, hji30⟩ : ∃ j_ : Int, (wrap64 (x9_3 - 1)) = j_ := ⟨_, rfl⟩
                replace H : (if 0 ≤ (ji30) then (if (ji30) < (t649.length : Int) then (if (rd t649 x9_3) ≤ (rd t649 (ji30)) then (some false) else (if 0 ≤ (rd t649 x9_3) then (if (rd t649 x9_3) < (x6_3.length : Int) then (locksteplaw09_DepFrontier.l1 k3 l0 t643 (x6_3.set ((rd t649 x9_3) : Int).toNat true) x7_2 t649 (wrap64 (x9_3 + 1)) t632 t635) else (none)) else (none))) else (none)) else (none)) = some true := by first | (rw [hji30] at H; exact H) | (simp only [hji30] at H ⊢; exact H)
                have hji30w : (IntKind.i64.wrap (x9_3 - 1)) = ji30 := (i64_w _).trans hji30
                by_cases c31 : 0 ≤ (ji30)
                ·rw [if_pos c31] at H
                 have c31b0 : decide (0 ≤ (ji30)) = true := decide_eq_true c31
                 clear c31
                 by_cases c32 : (ji30) < (t649.length : Int)
                 ·rw [if_pos c32] at H
                  have c32b0 : decide ((ji30) < (t649.length : Int)) = true := decide_eq_true c32
                  clear c32
                  by_cases c33 : (rd t649 x9_3) ≤ (rd t649 (ji30))
                  ·rw [if_pos c33] at H
                   have c33b0 : decide ((rd t649 x9_3) ≤ (rd t649 (ji30))) = true := decide_eq_true c33
                   clear c33
                   exact absurd H (by simp)
                  rw [if_neg c33] at H
                  have c33b0 : decide ((rd t649 x9_3) ≤ (rd t649 (ji30))) = false := decide_eq_false c33
                  clear c33
                  by_cases c34 : 0 ≤ (rd t649 x9_3)
                  ·rw [if_pos c34] at H
                   have c34b0 : decide (0 ≤ (rd t649 x9_3)) = true := decide_eq_true c34
                   clear c34
                   by_cases c35 : (rd t649 x9_3) < (x6_3.length : Int)
                   ·rw [if_pos c35] at H
                    have c35b0 : decide ((rd t649 x9_3) < (x6_3.length : Int)) = true := decide_eq_true c35
                    clear c35
                    obtain ⟨y656, hy656⟩ : ∃ y_ : List Bool, y_ = (x6_3.set ((rd t649 x9_3) : Int).toNat true) := ⟨_, rfl⟩
                    replace H : (locksteplaw09_DepFrontier.l1 k3 l0 t643 y656 x7_2 t649 (wrap64 (x9_3 + 1)) t632 t635) = some true := by first | (rw [hy656]; with_reducible exact H) | (have H2_ := (Option.bind_some _ _).symm.trans H; rw [hy656]; with_reducible exact H2_) | (have H2_ := (Option.bind_some _ _).symm.trans H; with_reducible exact H2_) | with_reducible exact H | (rw [hy656]; exact H) | exact H
                    have Ny656 := Aside0.mk hy656
                    clear hy656
                    have H' := Aside0.mk H
                    clear H
                    obtain ⟨Ao37, co37, eo37⟩ := Kd.R_slice HO_8.out
                    subst eo37
                    try go_wp2
                    have n0_ := A_ (Kd.R_drew HO_5.out)
                    have n1_ := A_ (Kd.R_drew HO_6.out)
                    have n2_ := A_ (Kd.R_drew HO_8.out)
                    have n3_ := A_ (Kd.S_drew HO_640000.out)
                    have n4_ := A_ (Kd.S_drew HO_640001.out)
                    have n5_ := A_ (blk_drew BK639.out)
                    have n6_ := A_ (below_drew1 HB.out)
                    clear HO_5
                    clear HO_6
                    clear HO_8
                    clear HO_640000
                    clear HO_640001
                    clear BK639
                    clear HB
                    have HO_5 := n0_
                    have HO_6 := n1_
                    have HO_8 := n2_
                    have HO_640000 := n3_
                    have HO_640001 := n4_
                    have BK639 := n5_
                    have HB := n6_
                    clear n0_ n1_ n2_ n3_ n4_ n5_ n6_
                    have p652 : 0 ≤ (x9_3 : Int) := D_
                    have q652 : x9_3 < (t649.length : Int) := D_
                    obtain ⟨ad652, e652, hx652_0⟩ := Kd.at_int (Kd.R_reads' HO_8.out).2.2 x9_3 p652 q652
                    cases e652
                    replace p652 := eq_true p652
                    replace q652 := eq_true q652
                    have p653 : 0 ≤ (x9_3 : Int) := D_
                    have q653 : x9_3 < (t649.length : Int) := D_
                    obtain ⟨ad653, e653, hx653_0⟩ := Kd.at_int (Kd.R_reads' HO_8.out).2.2 x9_3 p653 q653
                    obtain rfl : ad652 = ad653 := (by injection e653)
                    replace p653 := eq_true p653
                    replace q653 := eq_true q653
                    have p654 : 0 ≤ ((ji30) : Int) := D_
                    have q654 : (ji30) < (t649.length : Int) := D_
                    obtain ⟨ad654, e654, hx654_0⟩ := Kd.at_int (Kd.R_reads' HO_8.out).2.2 (ji30) p654 q654
                    obtain rfl : ad652 = ad654 := (by injection e654)
                    replace p654 := eq_true p654
                    replace q654 := eq_true q654
                    refine start_ (n := 31) (S := fun w' => w'.cell? (ad652.add (x9_3).toNat) = some (.int .i64 (rd t649 x9_3)) ∧ w'.cell? (ad652.add (x9_3).toNat) = some (.int .i64 (rd t649 x9_3)) ∧ w'.cell? (ad652.add ((ji30)).toNat) = some (.int .i64 (rd t649 (ji30)))) (ds := []) m51_0 (by kernel_rfl) rfl rfl ⟨hx652_0, hx653_0, hx654_0⟩ (fun hHeld => ?_); refine with_tabW locksteplaw09_DepFrontier.tab17 locksteplaw09_DepFrontier.bits17 (fun HT_ HW_ => ?_)
                    generalize wr.drew = w38 at HO_5 HO_6 HO_8 HO_640000 HO_640001 BK639 HB hx652_0 hx653_0 hx654_0 hHeld ⊢
                    refine PU_ HT_ 0 54 m51_1 (h := ?_); refine PU_ HT_ 1 55 m51_2 (h := ?_); refine PU_ HT_ 2 56 m51_3 (h := ?_); refine PU_ HT_ 4 58 m51_4 (h := ?_); refine TA_ HT_ HW_ 3 57 hHeld m51_5 (h := ?_); refine PU_ HT_ 5 59 m51_6 (h := ?_); refine PU_ HT_ 6 60 m51_7 (h := ?_); refine PO_ HT_ 7 61 m51_8 (h := ?_); refine PO_ HT_ 8 62 m51_9 (h := ?_); refine PO_ HT_ 9 63 m51_10 (h := ?_); refine PO_ HT_ 10 64 m51_11 (h := ?_); refine PO_ HT_ 11 65 m51_12 (h := ?_); refine PO_ HT_ 12 66 m51_13 (h := ?_); refine PO_ HT_ 13 67 m51_14 (h := ?_); refine PU_ HT_ 14 68 m51_15 (h := ?_); refine PU_ HT_ 15 69 m51_16 (h := ?_); refine PU_ HT_ 16 70 m51_17 (h := ?_); refine PU_ HT_ 17 71 m51_18 (h := ?_); refine PU_ HT_ 18 72 m51_19 (h := ?_); refine PU_ HT_ 19 73 m51_20 (h := ?_); refine PU_ HT_ 20 74 m51_21 (h := ?_); refine PU_ HT_ 21 75 m51_22 (h := ?_); refine PU_ HT_ 23 77 #[T_,T_,T_,T_,T_,T_,T_,T_,T_,T_,T_,T_,T_,T_,T_,T_,T_,T_,T_,T_,T_,T_,F_,T_,F_,F_,F_,F_,F_,F_,F_] (h := ?_); refine PU_ HT_ 24 78 #[T_,T_,T_,T_,T_,T_,T_,T_,T_,T_,T_,T_,T_,T_,T_,T_,T_,T_,T_,T_,T_,T_,F_,T_,T_,F_,F_,F_,F_,F_,F_] (h := ?_); refine PU_ HT_ 25 79 #[T_,T_,T_,T_,T_,T_,T_,T_,T_,T_,T_,T_,T_,T_,T_,T_,T_,T_,T_,T_,T_,T_,F_,T_,T_,T_,F_,F_,F_,F_,F_] (h := ?_); refine PU_ HT_ 26 80 #[T_,T_,T_,T_,T_,T_,T_,T_,T_,T_,T_,T_,T_,T_,T_,T_,T_,T_,T_,T_,T_,T_,F_,T_,T_,T_,T_,F_,F_,F_,F_] (h := ?_); refine TA_ HT_ HW_ 22 76 hHeld m51_23 (h := ?_); refine TA_ HT_ HW_ 27 81 hHeld m51_24 (h := ?_); refine PU_ HT_ 28 82 m51_25 (h := ?_); refine PU_ HT_ 29 83 m51_26 (h := ?_); refine PU_ HT_ 30 84 m51_27 (h := ?_)
                    refine done_ (done_of HT_.out (by kernel_rfl)) ?_
                    have p655 : 0 ≤ (x9_3 : Int) := D_
                    have q655 : x9_3 < (t649.length : Int) := D_
                    obtain ⟨ad655, e655, hx655_0⟩ := Kd.at_int (Kd.R_reads' HO_8.out).2.2 x9_3 p655 q655
                    obtain rfl : ad652 = ad655 := (by injection e655)
                    replace p655 := eq_true p655
                    replace q655 := eq_true q655
                    have p36 : 0 ≤ ((rd t649 x9_3) : Int) := D_
                    have q36 : ((rd t649 x9_3) : Int) < ((x6_3.length : Int) : Int) := D_
                    obtain ⟨go36, co36, eo36, gb36, gl36, cl36, HG36⟩ := Kd.R_form HO_6.out (by omega)
                    (first | cases eo36 | (injection eo36 with ea_ en_ ec_; (first | subst ea_ | (injection ea_ with ea_; subst ea_)); subst ec_; clear en_))
                    have GB36 := Aside0.mk gb36
                    have GG36 := Aside0.mk HG36
                    clear gb36 gl36 HG36
                    obtain ⟨hx36_0, hf36_0⟩ := Kd.R_celln false HO_6.out ((rd t649 x9_3) : Int) p36 q36
                    replace p36 := eq_true p36
                    replace q36 := eq_true q36
                    obtain ⟨hy39_, hz39_⟩ := Kd.R_celln false HO_6.out ((rd t649 x9_3) : Int) (D_) (D_)
                    have HP39 := Kd.R_putg HO_6.out ((rd t649 x9_3) : Int) true
                    try go_wp2_with (first | ((with_reducible refine gate_store (t := 4) (p := 90) rfl ?_); refine store_event (t := 4) (p := 90) (v := ?vo_w40) (w1 := (w38.setCell ⟨go36, ((rd t649 x9_3) : Int).toNat, none⟩ (.bool true))) ?hg ?ho ?hn ?hr ?_; (case ho => rfl); (case hg => rfl); (case hn => rfl); (case hr => first | (go_simp; done) | (go_simp; rfl)); intro w40 hw; have hg : w38.grownBy w40 (some go36) := (by rw [hw]; exact HP39.2); have hp_ : Kd.R Kd.bool 4 w40 w.heap.size (fun _ => True) (.slice (some ⟨go36, 0, none⟩) x6_3.length co36) y656 := (by rw [hw, Ny656.out]; exact HP39.1); clear HP39; replace HO_5 := A_ (Kd.R_over' (v := (.slice (some ⟨go36, 0, none⟩) x6_3.length co36)) (by exact RX_ HO_5.out) (Kd.R_typed HO_6.out) (by decide) hg); replace HO_8 := A_ (Kd.R_over' (v := (.slice (some ⟨go36, 0, none⟩) x6_3.length co36)) (by exact RX_ HO_8.out) (Kd.R_typed HO_6.out) (by decide) hg); replace HO_640000 := A_ (Kd.S_over' (v := (.slice (some ⟨go36, 0, none⟩) x6_3.length co36)) (by exact SX_ HO_640000.out) (Kd.R_typed HO_6.out) (by decide) hg); replace HO_640001 := A_ (Kd.S_over' (v := (.slice (some ⟨go36, 0, none⟩) x6_3.length co36)) (by exact SX_ HO_640001.out) (Kd.R_typed HO_6.out) (by decide) hg); replace BK639 := A_ (blk_grown (g := gb639) (o := .cells #[.slice Ao16 t632.length co16, .slice Ao18 t635.length co18] 26 (0, 0)) (by exact KX_ BK639.out) hg (Kd.R_ne HO_6.out BK639.out (by decide))); replace HO_6 := A_ (hp_); replace HB := A_ ((by rw [hw]; exact below_set (HB.out) GB36.out : Below w.heap.size w w40)); clear hg hw hp_))
                    go_roundg k3
                    case measure => have := HJ3.out; have := HK2.out; have := HK3.out; omega
                    case rel => exact ⟨(y656), (wrap64 (x9_3 + 1)), (by first | rfl | exact congrArg (fun b => Ending.returned (Value.bool b)) HR_.out | (simp; done) | (simp [*]; done)), H', ⟨by have := HJ3.out; have := HK2.out; have := HK3.out; omega⟩, ⟨by exact RM_ HO_5.out⟩, ⟨by exact RM_ HO_6.out⟩, ⟨by exact RM_ HO_8.out⟩, ⟨by exact SM_ HO_640000.out⟩, ⟨by exact SM_ HO_640001.out⟩, ⟨by exact KX_ BK639.out⟩, ⟨B1_⟩⟩
                   rw [if_neg c35] at H
                   exact absurd H (by simp)
                  rw [if_neg c34] at H
                  exact absurd H (by simp)
                 rw [if_neg c32] at H
                 exact absurd H (by simp)
                rw [if_neg c31] at H
                exact absurd H (by simp)
               rw [if_neg c29] at H
               have c29b0 : decide (0 < x9_3) = false := decide_eq_false c29
               clear c29
               by_cases c41 : 0 ≤ (rd t649 x9_3)
               ·rw [if_pos c41] at H
                have c41b0 : decide (0 ≤ (rd t649 x9_3)) = true := decide_eq_true c41
                clear c41
                by_cases c42 : (rd t649 x9_3) < (x6_3.length : Int)
                ·rw [if_pos c42] at H
                 have c42b0 : decide ((rd t649 x9_3) < (x6_3.length : Int)) = true := decide_eq_true c42
                 clear c42
                 obtain ⟨y658, hy658⟩ : ∃ y_ : List Bool, y_ = (x6_3.set ((rd t649 x9_3) : Int).toNat true) := ⟨_, rfl⟩
                 replace H : (locksteplaw09_DepFrontier.l1 k3 l0 t643 y658 x7_2 t649 (wrap64 (x9_3 + 1)) t632 t635) = some true := by first | (rw [hy658]; with_reducible exact H) | (have H2_ := (Option.bind_some _ _).symm.trans H; rw [hy658]; with_reducible exact H2_) | (have H2_ := (Option.bind_some _ _).symm.trans H; with_reducible exact H2_) | with_reducible exact H | (rw [hy658]; exact H) | exact H
                 have Ny658 := Aside0.mk hy658
                 clear hy658
                 have H' := Aside0.mk H
                 clear H
                 obtain ⟨Ao44, co44, eo44⟩ := Kd.R_slice HO_8.out
                 subst eo44
                 try go_wp2
                 have n0_ := A_ (Kd.R_drew HO_5.out)
                 have n1_ := A_ (Kd.R_drew HO_6.out)
                 have n2_ := A_ (Kd.R_drew HO_8.out)
                 have n3_ := A_ (Kd.S_drew HO_640000.out)
                 have n4_ := A_ (Kd.S_drew HO_640001.out)
                 have n5_ := A_ (blk_drew BK639.out)
                 have n6_ := A_ (below_drew1 HB.out)
                 clear HO_5
                 clear HO_6
                 clear HO_8
                 clear HO_640000
                 clear HO_640001
                 clear BK639
                 clear HB
                 have HO_5 := n0_
                 have HO_6 := n1_
                 have HO_8 := n2_
                 have HO_640000 := n3_
                 have HO_640001 := n4_
                 have BK639 := n5_
                 have HB := n6_
                 clear n0_ n1_ n2_ n3_ n4_ n5_ n6_
                 have p652 : 0 ≤ (x9_3 : Int) := D_
                 have q652 : x9_3 < (t649.length : Int) := D_
                 obtain ⟨ad652, e652, hx652_0⟩ := Kd.at_int (Kd.R_reads' HO_8.out).2.2 x9_3 p652 q652
                 cases e652
                 replace p652 := eq_true p652
                 replace q652 := eq_true q652
                 refine start_ (n := 31) (S := fun w' => w'.cell? (ad652.add (x9_3).toNat) = some (.int .i64 (rd t649 x9_3))) (ds := []) m51_0 (by kernel_rfl) rfl rfl (hx652_0) (fun hHeld => ?_); refine with_tabW locksteplaw09_DepFrontier.tab17 locksteplaw09_DepFrontier.bits17 (fun HT_ HW_ => ?_)
                 generalize wr.drew = w45 at HO_5 HO_6 HO_8 HO_640000 HO_640001 BK639 HB hx652_0 hHeld ⊢
                 refine PU_ HT_ 0 54 m51_1 (h := ?_); refine PU_ HT_ 1 55 m51_2 (h := ?_); refine PU_ HT_ 2 56 m51_3 (h := ?_); refine PU_ HT_ 4 58 m51_4 (h := ?_); refine TA_ HT_ HW_ 3 57 hHeld m51_5 (h := ?_); refine PU_ HT_ 5 59 m51_6 (h := ?_); refine PU_ HT_ 6 60 m51_7 (h := ?_); refine PO_ HT_ 7 61 m51_8 (h := ?_); refine PO_ HT_ 8 62 m51_9 (h := ?_); refine PO_ HT_ 9 63 m51_10 (h := ?_); refine PO_ HT_ 10 64 m51_11 (h := ?_); refine PO_ HT_ 11 65 m51_12 (h := ?_); refine PO_ HT_ 12 66 m51_13 (h := ?_); refine PO_ HT_ 13 67 m51_14 (h := ?_); refine PU_ HT_ 14 68 m51_15 (h := ?_); refine PU_ HT_ 15 69 m51_16 (h := ?_); refine PU_ HT_ 16 70 m51_17 (h := ?_); refine PU_ HT_ 17 71 m51_18 (h := ?_); refine PU_ HT_ 18 72 m51_19 (h := ?_); refine PO_ HT_ 19 73 m51_20 (h := ?_); refine PO_ HT_ 20 74 m51_21 (h := ?_); refine PO_ HT_ 21 75 m51_22 (h := ?_); refine PO_ HT_ 22 76 #[T_,T_,T_,T_,T_,T_,T_,T_,T_,T_,T_,T_,T_,T_,T_,T_,T_,T_,T_,T_,T_,T_,T_,F_,F_,F_,F_,F_,F_,F_,F_] (h := ?_); refine PO_ HT_ 23 77 #[T_,T_,T_,T_,T_,T_,T_,T_,T_,T_,T_,T_,T_,T_,T_,T_,T_,T_,T_,T_,T_,T_,T_,T_,F_,F_,F_,F_,F_,F_,F_] (h := ?_); refine PO_ HT_ 24 78 #[T_,T_,T_,T_,T_,T_,T_,T_,T_,T_,T_,T_,T_,T_,T_,T_,T_,T_,T_,T_,T_,T_,T_,T_,T_,F_,F_,F_,F_,F_,F_] (h := ?_); refine PO_ HT_ 25 79 #[T_,T_,T_,T_,T_,T_,T_,T_,T_,T_,T_,T_,T_,T_,T_,T_,T_,T_,T_,T_,T_,T_,T_,T_,T_,T_,F_,F_,F_,F_,F_] (h := ?_); refine PO_ HT_ 26 80 m51_23 (h := ?_); refine PO_ HT_ 27 81 m51_24 (h := ?_); refine PO_ HT_ 28 82 m51_25 (h := ?_); refine PU_ HT_ 29 83 m51_26 (h := ?_); refine PU_ HT_ 30 84 m51_27 (h := ?_)
                 refine done_ (done_of HT_.out (by kernel_rfl)) ?_
                 have p657 : 0 ≤ (x9_3 : Int) := D_
                 have q657 : x9_3 < (t649.length : Int) := D_
                 obtain ⟨ad657, e657, hx657_0⟩ := Kd.at_int (Kd.R_reads' HO_8.out).2.2 x9_3 p657 q657
                 obtain rfl : ad652 = ad657 := (by injection e657)
                 replace p657 := eq_true p657
                 replace q657 := eq_true q657
                 have p43 : 0 ≤ ((rd t649 x9_3) : Int) := D_
                 have q43 : ((rd t649 x9_3) : Int) < ((x6_3.length : Int) : Int) := D_
                 obtain ⟨go43, co43, eo43, gb43, gl43, cl43, HG43⟩ := Kd.R_form HO_6.out (by omega)
                 (first | cases eo43 | (injection eo43 with ea_ en_ ec_; (first | subst ea_ | (injection ea_ with ea_; subst ea_)); subst ec_; clear en_))
                 have GB43 := Aside0.mk gb43
                 have GG43 := Aside0.mk HG43
                 clear gb43 gl43 HG43
                 obtain ⟨hx43_0, hf43_0⟩ := Kd.R_celln false HO_6.out ((rd t649 x9_3) : Int) p43 q43
                 replace p43 := eq_true p43
                 replace q43 := eq_true q43
                 obtain ⟨hy46_, hz46_⟩ := Kd.R_celln false HO_6.out ((rd t649 x9_3) : Int) (D_) (D_)
                 have HP46 := Kd.R_putg HO_6.out ((rd t649 x9_3) : Int) true
                 try go_wp2_with (first | ((with_reducible refine gate_store (t := 4) (p := 90) rfl ?_); refine store_event (t := 4) (p := 90) (v := ?vo_w47) (w1 := (w45.setCell ⟨go43, ((rd t649 x9_3) : Int).toNat, none⟩ (.bool true))) ?hg ?ho ?hn ?hr ?_; (case ho => rfl); (case hg => rfl); (case hn => rfl); (case hr => first | (go_simp; done) | (go_simp; rfl)); intro w47 hw; have hg : w45.grownBy w47 (some go43) := (by rw [hw]; exact HP46.2); have hp_ : Kd.R Kd.bool 4 w47 w.heap.size (fun _ => True) (.slice (some ⟨go43, 0, none⟩) x6_3.length co43) y658 := (by rw [hw, Ny658.out]; exact HP46.1); clear HP46; replace HO_5 := A_ (Kd.R_over' (v := (.slice (some ⟨go43, 0, none⟩) x6_3.length co43)) (by exact RX_ HO_5.out) (Kd.R_typed HO_6.out) (by decide) hg); replace HO_8 := A_ (Kd.R_over' (v := (.slice (some ⟨go43, 0, none⟩) x6_3.length co43)) (by exact RX_ HO_8.out) (Kd.R_typed HO_6.out) (by decide) hg); replace HO_640000 := A_ (Kd.S_over' (v := (.slice (some ⟨go43, 0, none⟩) x6_3.length co43)) (by exact SX_ HO_640000.out) (Kd.R_typed HO_6.out) (by decide) hg); replace HO_640001 := A_ (Kd.S_over' (v := (.slice (some ⟨go43, 0, none⟩) x6_3.length co43)) (by exact SX_ HO_640001.out) (Kd.R_typed HO_6.out) (by decide) hg); replace BK639 := A_ (blk_grown (g := gb639) (o := .cells #[.slice Ao16 t632.length co16, .slice Ao18 t635.length co18] 26 (0, 0)) (by exact KX_ BK639.out) hg (Kd.R_ne HO_6.out BK639.out (by decide))); replace HO_6 := A_ (hp_); replace HB := A_ ((by rw [hw]; exact below_set (HB.out) GB43.out : Below w.heap.size w w47)); clear hg hw hp_))
                 go_roundg k3
                 case measure => have := HJ3.out; have := HK2.out; have := HK3.out; omega
                 case rel => exact ⟨(y658), (wrap64 (x9_3 + 1)), (by first | rfl | exact congrArg (fun b => Ending.returned (Value.bool b)) HR_.out | (simp; done) | (simp [*]; done)), H', ⟨by have := HJ3.out; have := HK2.out; have := HK3.out; omega⟩, ⟨by exact RM_ HO_5.out⟩, ⟨by exact RM_ HO_6.out⟩, ⟨by exact RM_ HO_8.out⟩, ⟨by exact SM_ HO_640000.out⟩, ⟨by exact SM_ HO_640001.out⟩, ⟨by exact KX_ BK639.out⟩, ⟨B1_⟩⟩
                rw [if_neg c42] at H
                exact absurd H (by simp)
               rw [if_neg c41] at H
               exact absurd H (by simp)
              rw [if_neg c28] at H
              have c28b0 : ((rd t649 x9_3) == x7_2) = false := beq_eq_false_iff_ne.mpr c28
              have c28b1 : ((rd t649 x9_3) != x7_2) = true := bne_iff_ne.mpr c28
              replace H := Option.bind_eq_some_iff.mp H
              obtain ⟨t660, A480, H⟩ := H
              try dsimp only at H
              have A48 := Aside0.mk A480
              clear A480
              by_cases c49 : t660 = true
              ·subst c49
               have H1 : (some false) = some true := by rw [if_pos rfl] at H; exact H
               clear H
               have H := H1
               clear H1
               exact absurd H (by simp)
              replace c49 := Bool.eq_false_iff.mpr c49
              subst c49
              have H1 : (if x9_3 > 0 then (if 0 ≤ (wrap64 (x9_3 - 1)) then (if (wrap64 (x9_3 - 1)) < (t649.length : Int) then (if (rd t649 x9_3) ≤ (rd t649 (wrap64 (x9_3 - 1))) then (some false) else (if 0 ≤ (rd t649 x9_3) then (if (rd t649 x9_3) < (x6_3.length : Int) then (locksteplaw09_DepFrontier.l1 k3 l0 t643 (x6_3.set ((rd t649 x9_3) : Int).toNat true) x7_2 t649 (wrap64 (x9_3 + 1)) t632 t635) else (none)) else (none))) else (none)) else (none)) else (if 0 ≤ (rd t649 x9_3) then (if (rd t649 x9_3) < (x6_3.length : Int) then (locksteplaw09_DepFrontier.l1 k3 l0 t643 (x6_3.set ((rd t649 x9_3) : Int).toNat true) x7_2 t649 (wrap64 (x9_3 + 1)) t632 t635) else (none)) else (none))) = some true := by rw [if_neg (show ¬ (false = true) by decide)] at H; exact H
              clear H
              have H := H1
              clear H1
              by_cases c50 : x9_3 > 0
              ·rw [if_pos c50] at H
               have c50b0 : decide (0 < x9_3) = true := decide_eq_true c50
               clear c50
               obtain ⟨ji51, hji51⟩ : ∃ j_ : Int, (wrap64 (x9_3 - 1)) = j_ := ⟨_, rfl⟩
               replace H : (if 0 ≤ (ji51) then (if (ji51) < (t649.length : Int) then (if (rd t649 x9_3) ≤ (rd t649 (ji51)) then (some false) else (if 0 ≤ (rd t649 x9_3) then (if (rd t649 x9_3) < (x6_3.length : Int) then (locksteplaw09_DepFrontier.l1 k3 l0 t643 (x6_3.set ((rd t649 x9_3) : Int).toNat true) x7_2 t649 (wrap64 (x9_3 + 1)) t632 t635) else (none)) else (none))) else (none)) else (none)) = some true := by first | (rw [hji51] at H; exact H) | (simp only [hji51] at H ⊢; exact H)
               (try rw [hji51] at A48)
               have hji51w : (IntKind.i64.wrap (x9_3 - 1)) = ji51 := (i64_w _).trans hji51
               by_cases c52 : 0 ≤ (ji51)
               ·rw [if_pos c52] at H
                have c52b0 : decide (0 ≤ (ji51)) = true := decide_eq_true c52
                clear c52
                by_cases c53 : (ji51) < (t649.length : Int)
                ·rw [if_pos c53] at H
                 have c53b0 : decide ((ji51) < (t649.length : Int)) = true := decide_eq_true c53
                 clear c53
                 by_cases c54 : (rd t649 x9_3) ≤ (rd t649 (ji51))
                 ·rw [if_pos c54] at H
                  have c54b0 : decide ((rd t649 x9_3) ≤ (rd t649 (ji51))) = true := decide_eq_true c54
                  clear c54
                  exact absurd H (by simp)
                 rw [if_neg c54] at H
                 have c54b0 : decide ((rd t649 x9_3) ≤ (rd t649 (ji51))) = false := decide_eq_false c54
                 clear c54
                 by_cases c55 : 0 ≤ (rd t649 x9_3)
                 ·rw [if_pos c55] at H
                  have c55b0 : decide (0 ≤ (rd t649 x9_3)) = true := decide_eq_true c55
                  clear c55
                  by_cases c56 : (rd t649 x9_3) < (x6_3.length : Int)
                  ·rw [if_pos c56] at H
                   have c56b0 : decide ((rd t649 x9_3) < (x6_3.length : Int)) = true := decide_eq_true c56
                   clear c56
                   obtain ⟨y664, hy664⟩ : ∃ y_ : List Bool, y_ = (x6_3.set ((rd t649 x9_3) : Int).toNat true) := ⟨_, rfl⟩
                   replace H : (locksteplaw09_DepFrontier.l1 k3 l0 t643 y664 x7_2 t649 (wrap64 (x9_3 + 1)) t632 t635) = some true := by first | (rw [hy664]; with_reducible exact H) | (have H2_ := (Option.bind_some _ _).symm.trans H; rw [hy664]; with_reducible exact H2_) | (have H2_ := (Option.bind_some _ _).symm.trans H; with_reducible exact H2_) | with_reducible exact H | (rw [hy664]; exact H) | exact H
                   have Ny664 := Aside0.mk hy664
                   clear hy664
                   have H' := Aside0.mk H
                   clear H
                   obtain ⟨Ao58, co58, eo58⟩ := Kd.R_slice HO_8.out
                   subst eo58
                   try go_wp2
                   have n0_ := A_ (Kd.R_drew HO_5.out)
                   have n1_ := A_ (Kd.R_drew HO_6.out)
                   have n2_ := A_ (Kd.R_drew HO_8.out)
                   have n3_ := A_ (Kd.S_drew HO_640000.out)
                   have n4_ := A_ (Kd.S_drew HO_640001.out)
                   have n5_ := A_ (blk_drew BK639.out)
                   have n6_ := A_ (below_drew1 HB.out)
                   clear HO_5
                   clear HO_6
                   clear HO_8
                   clear HO_640000
                   clear HO_640001
                   clear BK639
                   clear HB
                   have HO_5 := n0_
                   have HO_6 := n1_
                   have HO_8 := n2_
                   have HO_640000 := n3_
                   have HO_640001 := n4_
                   have BK639 := n5_
                   have HB := n6_
                   clear n0_ n1_ n2_ n3_ n4_ n5_ n6_
                   have p652 : 0 ≤ (x9_3 : Int) := D_
                   have q652 : x9_3 < (t649.length : Int) := D_
                   obtain ⟨ad652, e652, hx652_0⟩ := Kd.at_int (Kd.R_reads' HO_8.out).2.2 x9_3 p652 q652
                   cases e652
                   replace p652 := eq_true p652
                   replace q652 := eq_true q652
                   have p659 : 0 ≤ (x9_3 : Int) := D_
                   have q659 : x9_3 < (t649.length : Int) := D_
                   obtain ⟨ad659, e659, hx659_0⟩ := Kd.at_int (Kd.R_reads' HO_8.out).2.2 x9_3 p659 q659
                   obtain rfl : ad652 = ad659 := (by injection e659)
                   replace p659 := eq_true p659
                   replace q659 := eq_true q659
                   obtain ⟨Ao60, co60, eo60⟩ := Kd.R_slice HO_5.out
                   (first | subst eo60 | (injection eo60 with f1_ f2_ f3_; have f4_ := f1_.symm; have f5_ := f3_.symm; clear f1_ f2_ f3_; subst f4_; subst f5_))
                   have p661 : 0 ≤ (x9_3 : Int) := D_
                   have q661 : x9_3 < (t649.length : Int) := D_
                   obtain ⟨ad661, e661, hx661_0⟩ := Kd.at_int (Kd.R_reads' HO_8.out).2.2 x9_3 p661 q661
                   obtain rfl : ad652 = ad661 := (by injection e661)
                   replace p661 := eq_true p661
                   replace q661 := eq_true q661
                   have p662 : 0 ≤ ((ji51) : Int) := D_
                   have q662 : (ji51) < (t649.length : Int) := D_
                   obtain ⟨ad662, e662, hx662_0⟩ := Kd.at_int (Kd.R_reads' HO_8.out).2.2 (ji51) p662 q662
                   obtain rfl : ad652 = ad662 := (by injection e662)
                   replace p662 := eq_true p662
                   replace q662 := eq_true q662
                   refine start_ (n := 31) (S := fun w' => w'.cell? (ad652.add (x9_3).toNat) = some (.int .i64 (rd t649 x9_3)) ∧ w'.cell? (ad652.add (x9_3).toNat) = some (.int .i64 (rd t649 x9_3)) ∧ w'.cell? (ad652.add (x9_3).toNat) = some (.int .i64 (rd t649 x9_3)) ∧ w'.cell? (ad652.add ((ji51)).toNat) = some (.int .i64 (rd t649 (ji51)))) (ds := []) m51_0 (by kernel_rfl) rfl rfl ⟨hx652_0, hx659_0, hx661_0, hx662_0⟩ (fun hHeld => ?_); refine with_tabW locksteplaw09_DepFrontier.tab17 locksteplaw09_DepFrontier.bits17 (fun HT_ HW_ => ?_)
                   generalize wr.drew = w59 at HO_5 HO_6 HO_8 HO_640000 HO_640001 BK639 HB hx652_0 hx659_0 hx661_0 hx662_0 hHeld ⊢
                   refine PU_ HT_ 0 54 m51_1 (h := ?_); refine PU_ HT_ 1 55 m51_2 (h := ?_); refine PU_ HT_ 2 56 m51_3 (h := ?_); refine PU_ HT_ 4 58 m51_4 (h := ?_); refine TA_ HT_ HW_ 3 57 hHeld m51_5 (h := ?_); refine PU_ HT_ 5 59 m51_6 (h := ?_); refine PU_ HT_ 6 60 m51_7 (h := ?_); refine PU_ HT_ 7 61 m51_8 (h := ?_); refine PU_ HT_ 8 62 m51_9 (h := ?_); refine PU_ HT_ 9 63 m51_10 (h := ?_); refine PU_ HT_ 10 64 m51_11 (h := ?_); refine PU_ HT_ 11 65 m51_12 (h := ?_); refine TA_ HT_ HW_ 12 66 hHeld m51_13 (h := ?_)
                   refine one_ (i := 13) (N := some 67) m51_14 rfl rfl (one_of HT_.out (by kernel_rfl)) (by decide) (fun K hK => ?_)
                   refine goes_ Try.func20 (by kernel_rfl) rfl #[.slice Ao60 t643.length co60, .int .i64 x7_2, .int .i64 (rd t649 x9_3)] (by rfl) rfl rfl (by (try simp only [List.map_toArray, List.map_cons, List.map_nil]); first | done | rfl | (simp only [List.length_drop, List.length_take]; rfl)) ?_
                   with_reducible refine (dom_Over.calls k3 _ _ t643 x7_2 (rd t649 x9_3) false _ ?side1 ?side2 A48.out).mono ?_
                   (case side1 => repeat (first | exact (Kd.R_reads' HO_5.out).2.2 | (with_reducible refine Kd.C_alloc ?_ _) | (with_reducible refine Kd.C_drewN ?_ _) | (with_reducible refine Kd.C_drew ?_)))
                   (case side2 => exact (Kd.R_reads' HO_5.out).2.1)
                   rintro e w61 ⟨rfl, hb⟩
                   have HS0_ := (hb.cell (World.block_lt_of_cell? _ _ (hHeld.1))).trans (hHeld.1)
                   have HS1_ := (hb.cell (World.block_lt_of_cell? _ _ (hHeld.2.1))).trans (hHeld.2.1)
                   have HS2_ := (hb.cell (World.block_lt_of_cell? _ _ (hHeld.2.2.1))).trans (hHeld.2.2.1)
                   have HS3_ := (hb.cell (World.block_lt_of_cell? _ _ (hHeld.2.2.2))).trans (hHeld.2.2.2)
                   refine ⟨_, rfl, ?_⟩
                   have n0_ := A_ (Kd.R_below (by exact RX_ HO_5.out) hb)
                   have n1_ := A_ (Kd.R_below (by exact RX_ HO_6.out) hb)
                   have n2_ := A_ (Kd.R_below (by exact RX_ HO_8.out) hb)
                   have n3_ := A_ (Kd.S_below (by exact SX_ HO_640000.out) hb)
                   have n4_ := A_ (Kd.S_below (by exact SX_ HO_640001.out) hb)
                   have n5_ := A_ (blk_below (g := gb639) (o := .cells #[.slice Ao16 t632.length co16, .slice Ao18 t635.length co18] 26 (0, 0)) (by exact KX_ BK639.out) hb)
                   have n6_ := A_ (below_step (B1_) hb)
                   clear HO_5
                   clear HO_6
                   clear HO_8
                   clear HO_640000
                   clear HO_640001
                   clear BK639
                   clear HB
                   have HO_5 := n0_
                   have HO_6 := n1_
                   have HO_8 := n2_
                   have HO_640000 := n3_
                   have HO_640001 := n4_
                   have BK639 := n5_
                   have HB := n6_
                   clear n0_ n1_ n2_ n3_ n4_ n5_ n6_
                   (try clear hb)
                   (try clear hb2)
                   (try clear hk)
                   (try clear hi)
                   refine hK.out _ _ ⟨HS0_, HS1_, HS2_, HS3_⟩ (fun hHeld => ?_)
                   clear hK K
                   refine norm_ (a' := ?_) ?_ ?_
                   rotate_left
                   ·show Act.put _ (some 67) _ = _
                    simp only [Act.put, List.setIfInBounds_toArray, List.set_cons_zero, List.set_cons_succ, i64_w, i32_w]
                    rfl
                   refine PU_ HT_ 14 68 m51_15 (h := ?_); refine PU_ HT_ 15 69 m51_16 (h := ?_); refine PU_ HT_ 16 70 m51_17 (h := ?_); refine PU_ HT_ 17 71 m51_18 (h := ?_); refine PU_ HT_ 18 72 m51_19 (h := ?_); refine PU_ HT_ 19 73 m51_20 (h := ?_); refine PU_ HT_ 20 74 m51_21 (h := ?_); refine PU_ HT_ 21 75 m51_22 (h := ?_); refine PU_ HT_ 23 77 #[T_,T_,T_,T_,T_,T_,T_,T_,T_,T_,T_,T_,T_,T_,T_,T_,T_,T_,T_,T_,T_,T_,F_,T_,F_,F_,F_,F_,F_,F_,F_] (h := ?_); refine PU_ HT_ 24 78 #[T_,T_,T_,T_,T_,T_,T_,T_,T_,T_,T_,T_,T_,T_,T_,T_,T_,T_,T_,T_,T_,T_,F_,T_,T_,F_,F_,F_,F_,F_,F_] (h := ?_); refine PU_ HT_ 25 79 #[T_,T_,T_,T_,T_,T_,T_,T_,T_,T_,T_,T_,T_,T_,T_,T_,T_,T_,T_,T_,T_,T_,F_,T_,T_,T_,F_,F_,F_,F_,F_] (h := ?_); refine PU_ HT_ 26 80 #[T_,T_,T_,T_,T_,T_,T_,T_,T_,T_,T_,T_,T_,T_,T_,T_,T_,T_,T_,T_,T_,T_,F_,T_,T_,T_,T_,F_,F_,F_,F_] (h := ?_); refine TA_ HT_ HW_ 22 76 hHeld m51_23 (h := ?_); refine TA_ HT_ HW_ 27 81 hHeld m51_24 (h := ?_); refine PU_ HT_ 28 82 m51_25 (h := ?_); refine PU_ HT_ 29 83 m51_26 (h := ?_); refine PU_ HT_ 30 84 m51_27 (h := ?_)
                   refine done_ (done_of HT_.out (by kernel_rfl)) ?_
                   have p663 : 0 ≤ (x9_3 : Int) := D_
                   have q663 : x9_3 < (t649.length : Int) := D_
                   obtain ⟨ad663, e663, hx663_0⟩ := Kd.at_int (Kd.R_reads' HO_8.out).2.2 x9_3 p663 q663
                   obtain rfl : ad652 = ad663 := (by injection e663)
                   replace p663 := eq_true p663
                   replace q663 := eq_true q663
                   have p57 : 0 ≤ ((rd t649 x9_3) : Int) := D_
                   have q57 : ((rd t649 x9_3) : Int) < ((x6_3.length : Int) : Int) := D_
                   obtain ⟨go57, co57, eo57, gb57, gl57, cl57, HG57⟩ := Kd.R_form HO_6.out (by omega)
                   (first | cases eo57 | (injection eo57 with ea_ en_ ec_; (first | subst ea_ | (injection ea_ with ea_; subst ea_)); subst ec_; clear en_))
                   have GB57 := Aside0.mk gb57
                   have GG57 := Aside0.mk HG57
                   clear gb57 gl57 HG57
                   obtain ⟨hx57_0, hf57_0⟩ := Kd.R_celln false HO_6.out ((rd t649 x9_3) : Int) p57 q57
                   replace p57 := eq_true p57
                   replace q57 := eq_true q57
                   obtain ⟨hy62_, hz62_⟩ := Kd.R_celln false HO_6.out ((rd t649 x9_3) : Int) (D_) (D_)
                   have HP62 := Kd.R_putg HO_6.out ((rd t649 x9_3) : Int) true
                   try go_wp2_with (first | ((with_reducible refine gate_store (t := 4) (p := 90) rfl ?_); refine store_event (t := 4) (p := 90) (v := ?vo_w63) (w1 := (w61.setCell ⟨go57, ((rd t649 x9_3) : Int).toNat, none⟩ (.bool true))) ?hg ?ho ?hn ?hr ?_; (case ho => rfl); (case hg => rfl); (case hn => rfl); (case hr => first | (go_simp; done) | (go_simp; rfl)); intro w63 hw; have hg : w61.grownBy w63 (some go57) := (by rw [hw]; exact HP62.2); have hp_ : Kd.R Kd.bool 4 w63 w.heap.size (fun _ => True) (.slice (some ⟨go57, 0, none⟩) x6_3.length co57) y664 := (by rw [hw, Ny664.out]; exact HP62.1); clear HP62; replace HO_5 := A_ (Kd.R_over' (v := (.slice (some ⟨go57, 0, none⟩) x6_3.length co57)) (by exact RX_ HO_5.out) (Kd.R_typed HO_6.out) (by decide) hg); replace HO_8 := A_ (Kd.R_over' (v := (.slice (some ⟨go57, 0, none⟩) x6_3.length co57)) (by exact RX_ HO_8.out) (Kd.R_typed HO_6.out) (by decide) hg); replace HO_640000 := A_ (Kd.S_over' (v := (.slice (some ⟨go57, 0, none⟩) x6_3.length co57)) (by exact SX_ HO_640000.out) (Kd.R_typed HO_6.out) (by decide) hg); replace HO_640001 := A_ (Kd.S_over' (v := (.slice (some ⟨go57, 0, none⟩) x6_3.length co57)) (by exact SX_ HO_640001.out) (Kd.R_typed HO_6.out) (by decide) hg); replace BK639 := A_ (blk_grown (g := gb639) (o := .cells #[.slice Ao16 t632.length co16, .slice Ao18 t635.length co18] 26 (0, 0)) (by exact KX_ BK639.out) hg (Kd.R_ne HO_6.out BK639.out (by decide))); replace HO_6 := A_ (hp_); replace HB := A_ ((by rw [hw]; exact below_set (HB.out) GB57.out : Below w.heap.size w w63)); clear hg hw hp_))
                   go_roundg k3
                   case measure => have := HJ3.out; have := HK2.out; have := HK3.out; omega
                   case rel => exact ⟨(y664), (wrap64 (x9_3 + 1)), (by first | rfl | exact congrArg (fun b => Ending.returned (Value.bool b)) HR_.out | (simp; done) | (simp [*]; done)), H', ⟨by have := HJ3.out; have := HK2.out; have := HK3.out; omega⟩, ⟨by exact RM_ HO_5.out⟩, ⟨by exact RM_ HO_6.out⟩, ⟨by exact RM_ HO_8.out⟩, ⟨by exact SM_ HO_640000.out⟩, ⟨by exact SM_ HO_640001.out⟩, ⟨by exact KX_ BK639.out⟩, ⟨B1_⟩⟩
                  rw [if_neg c56] at H
                  exact absurd H (by simp)
                 rw [if_neg c55] at H
                 exact absurd H (by simp)
                rw [if_neg c53] at H
                exact absurd H (by simp)
               rw [if_neg c52] at H
               exact absurd H (by simp)
              rw [if_neg c50] at H
              have c50b0 : decide (0 < x9_3) = false := decide_eq_false c50
              clear c50
              by_cases c64 : 0 ≤ (rd t649 x9_3)
              ·rw [if_pos c64] at H
               have c64b0 : decide (0 ≤ (rd t649 x9_3)) = true := decide_eq_true c64
               clear c64
               by_cases c65 : (rd t649 x9_3) < (x6_3.length : Int)
               ·rw [if_pos c65] at H
                have c65b0 : decide ((rd t649 x9_3) < (x6_3.length : Int)) = true := decide_eq_true c65
                clear c65
                obtain ⟨y666, hy666⟩ : ∃ y_ : List Bool, y_ = (x6_3.set ((rd t649 x9_3) : Int).toNat true) := ⟨_, rfl⟩
                replace H : (locksteplaw09_DepFrontier.l1 k3 l0 t643 y666 x7_2 t649 (wrap64 (x9_3 + 1)) t632 t635) = some true := by first | (rw [hy666]; with_reducible exact H) | (have H2_ := (Option.bind_some _ _).symm.trans H; rw [hy666]; with_reducible exact H2_) | (have H2_ := (Option.bind_some _ _).symm.trans H; with_reducible exact H2_) | with_reducible exact H | (rw [hy666]; exact H) | exact H
                have Ny666 := Aside0.mk hy666
                clear hy666
                have H' := Aside0.mk H
                clear H
                obtain ⟨Ao67, co67, eo67⟩ := Kd.R_slice HO_8.out
                subst eo67
                try go_wp2
                have n0_ := A_ (Kd.R_drew HO_5.out)
                have n1_ := A_ (Kd.R_drew HO_6.out)
                have n2_ := A_ (Kd.R_drew HO_8.out)
                have n3_ := A_ (Kd.S_drew HO_640000.out)
                have n4_ := A_ (Kd.S_drew HO_640001.out)
                have n5_ := A_ (blk_drew BK639.out)
                have n6_ := A_ (below_drew1 HB.out)
                clear HO_5
                clear HO_6
                clear HO_8
                clear HO_640000
                clear HO_640001
                clear BK639
                clear HB
                have HO_5 := n0_
                have HO_6 := n1_
                have HO_8 := n2_
                have HO_640000 := n3_
                have HO_640001 := n4_
                have BK639 := n5_
                have HB := n6_
                clear n0_ n1_ n2_ n3_ n4_ n5_ n6_
                have p652 : 0 ≤ (x9_3 : Int) := D_
                have q652 : x9_3 < (t649.length : Int) := D_
                obtain ⟨ad652, e652, hx652_0⟩ := Kd.at_int (Kd.R_reads' HO_8.out).2.2 x9_3 p652 q652
                cases e652
                replace p652 := eq_true p652
                replace q652 := eq_true q652
                have p659 : 0 ≤ (x9_3 : Int) := D_
                have q659 : x9_3 < (t649.length : Int) := D_
                obtain ⟨ad659, e659, hx659_0⟩ := Kd.at_int (Kd.R_reads' HO_8.out).2.2 x9_3 p659 q659
                obtain rfl : ad652 = ad659 := (by injection e659)
                replace p659 := eq_true p659
                replace q659 := eq_true q659
                obtain ⟨Ao69, co69, eo69⟩ := Kd.R_slice HO_5.out
                (first | subst eo69 | (injection eo69 with f1_ f2_ f3_; have f4_ := f1_.symm; have f5_ := f3_.symm; clear f1_ f2_ f3_; subst f4_; subst f5_))
                refine start_ (n := 31) (S := fun w' => w'.cell? (ad652.add (x9_3).toNat) = some (.int .i64 (rd t649 x9_3)) ∧ w'.cell? (ad652.add (x9_3).toNat) = some (.int .i64 (rd t649 x9_3))) (ds := []) m51_0 (by kernel_rfl) rfl rfl ⟨hx652_0, hx659_0⟩ (fun hHeld => ?_); refine with_tabW locksteplaw09_DepFrontier.tab17 locksteplaw09_DepFrontier.bits17 (fun HT_ HW_ => ?_)
                generalize wr.drew = w68 at HO_5 HO_6 HO_8 HO_640000 HO_640001 BK639 HB hx652_0 hx659_0 hHeld ⊢
                refine PU_ HT_ 0 54 m51_1 (h := ?_); refine PU_ HT_ 1 55 m51_2 (h := ?_); refine PU_ HT_ 2 56 m51_3 (h := ?_); refine PU_ HT_ 4 58 m51_4 (h := ?_); refine TA_ HT_ HW_ 3 57 hHeld m51_5 (h := ?_); refine PU_ HT_ 5 59 m51_6 (h := ?_); refine PU_ HT_ 6 60 m51_7 (h := ?_); refine PU_ HT_ 7 61 m51_8 (h := ?_); refine PU_ HT_ 8 62 m51_9 (h := ?_); refine PU_ HT_ 9 63 m51_10 (h := ?_); refine PU_ HT_ 10 64 m51_11 (h := ?_); refine PU_ HT_ 11 65 m51_12 (h := ?_); refine TA_ HT_ HW_ 12 66 hHeld m51_13 (h := ?_)
                refine one_ (i := 13) (N := some 67) m51_14 rfl rfl (one_of HT_.out (by kernel_rfl)) (by decide) (fun K hK => ?_)
                refine goes_ Try.func20 (by kernel_rfl) rfl #[.slice Ao69 t643.length co69, .int .i64 x7_2, .int .i64 (rd t649 x9_3)] (by rfl) rfl rfl (by (try simp only [List.map_toArray, List.map_cons, List.map_nil]); first | done | rfl | (simp only [List.length_drop, List.length_take]; rfl)) ?_
                with_reducible refine (dom_Over.calls k3 _ _ t643 x7_2 (rd t649 x9_3) false _ ?side1 ?side2 A48.out).mono ?_
                (case side1 => repeat (first | exact (Kd.R_reads' HO_5.out).2.2 | (with_reducible refine Kd.C_alloc ?_ _) | (with_reducible refine Kd.C_drewN ?_ _) | (with_reducible refine Kd.C_drew ?_)))
                (case side2 => exact (Kd.R_reads' HO_5.out).2.1)
                rintro e w70 ⟨rfl, hb⟩
                have HS0_ := (hb.cell (World.block_lt_of_cell? _ _ (hHeld.1))).trans (hHeld.1)
                have HS1_ := (hb.cell (World.block_lt_of_cell? _ _ (hHeld.2))).trans (hHeld.2)
                refine ⟨_, rfl, ?_⟩
                have n0_ := A_ (Kd.R_below (by exact RX_ HO_5.out) hb)
                have n1_ := A_ (Kd.R_below (by exact RX_ HO_6.out) hb)
                have n2_ := A_ (Kd.R_below (by exact RX_ HO_8.out) hb)
                have n3_ := A_ (Kd.S_below (by exact SX_ HO_640000.out) hb)
                have n4_ := A_ (Kd.S_below (by exact SX_ HO_640001.out) hb)
                have n5_ := A_ (blk_below (g := gb639) (o := .cells #[.slice Ao16 t632.length co16, .slice Ao18 t635.length co18] 26 (0, 0)) (by exact KX_ BK639.out) hb)
                have n6_ := A_ (below_step (B1_) hb)
                clear HO_5
                clear HO_6
                clear HO_8
                clear HO_640000
                clear HO_640001
                clear BK639
                clear HB
                have HO_5 := n0_
                have HO_6 := n1_
                have HO_8 := n2_
                have HO_640000 := n3_
                have HO_640001 := n4_
                have BK639 := n5_
                have HB := n6_
                clear n0_ n1_ n2_ n3_ n4_ n5_ n6_
                (try clear hb)
                (try clear hb2)
                (try clear hk)
                (try clear hi)
                refine hK.out _ _ ⟨HS0_, HS1_⟩ (fun hHeld => ?_)
                clear hK K
                refine norm_ (a' := ?_) ?_ ?_
                rotate_left
                ·show Act.put _ (some 67) _ = _
                 simp only [Act.put, List.setIfInBounds_toArray, List.set_cons_zero, List.set_cons_succ, i64_w, i32_w]
                 rfl
                refine PU_ HT_ 14 68 m51_15 (h := ?_); refine PU_ HT_ 15 69 m51_16 (h := ?_); refine PU_ HT_ 16 70 m51_17 (h := ?_); refine PU_ HT_ 17 71 m51_18 (h := ?_); refine PU_ HT_ 18 72 m51_19 (h := ?_); refine PO_ HT_ 19 73 m51_20 (h := ?_); refine PO_ HT_ 20 74 m51_21 (h := ?_); refine PO_ HT_ 21 75 m51_22 (h := ?_); refine PO_ HT_ 22 76 #[T_,T_,T_,T_,T_,T_,T_,T_,T_,T_,T_,T_,T_,T_,T_,T_,T_,T_,T_,T_,T_,T_,T_,F_,F_,F_,F_,F_,F_,F_,F_] (h := ?_); refine PO_ HT_ 23 77 #[T_,T_,T_,T_,T_,T_,T_,T_,T_,T_,T_,T_,T_,T_,T_,T_,T_,T_,T_,T_,T_,T_,T_,T_,F_,F_,F_,F_,F_,F_,F_] (h := ?_); refine PO_ HT_ 24 78 #[T_,T_,T_,T_,T_,T_,T_,T_,T_,T_,T_,T_,T_,T_,T_,T_,T_,T_,T_,T_,T_,T_,T_,T_,T_,F_,F_,F_,F_,F_,F_] (h := ?_); refine PO_ HT_ 25 79 #[T_,T_,T_,T_,T_,T_,T_,T_,T_,T_,T_,T_,T_,T_,T_,T_,T_,T_,T_,T_,T_,T_,T_,T_,T_,T_,F_,F_,F_,F_,F_] (h := ?_); refine PO_ HT_ 26 80 m51_23 (h := ?_); refine PO_ HT_ 27 81 m51_24 (h := ?_); refine PO_ HT_ 28 82 m51_25 (h := ?_); refine PU_ HT_ 29 83 m51_26 (h := ?_); refine PU_ HT_ 30 84 m51_27 (h := ?_)
                refine done_ (done_of HT_.out (by kernel_rfl)) ?_
                have p665 : 0 ≤ (x9_3 : Int) := D_
                have q665 : x9_3 < (t649.length : Int) := D_
                obtain ⟨ad665, e665, hx665_0⟩ := Kd.at_int (Kd.R_reads' HO_8.out).2.2 x9_3 p665 q665
                obtain rfl : ad652 = ad665 := (by injection e665)
                replace p665 := eq_true p665
                replace q665 := eq_true q665
                have p66 : 0 ≤ ((rd t649 x9_3) : Int) := D_
                have q66 : ((rd t649 x9_3) : Int) < ((x6_3.length : Int) : Int) := D_
                obtain ⟨go66, co66, eo66, gb66, gl66, cl66, HG66⟩ := Kd.R_form HO_6.out (by omega)
                (first | cases eo66 | (injection eo66 with ea_ en_ ec_; (first | subst ea_ | (injection ea_ with ea_; subst ea_)); subst ec_; clear en_))
                have GB66 := Aside0.mk gb66
                have GG66 := Aside0.mk HG66
                clear gb66 gl66 HG66
                obtain ⟨hx66_0, hf66_0⟩ := Kd.R_celln false HO_6.out ((rd t649 x9_3) : Int) p66 q66
                replace p66 := eq_true p66
                replace q66 := eq_true q66
                obtain ⟨hy71_, hz71_⟩ := Kd.R_celln false HO_6.out ((rd t649 x9_3) : Int) (D_) (D_)
                have HP71 := Kd.R_putg HO_6.out ((rd t649 x9_3) : Int) true
                try go_wp2_with (first | ((with_reducible refine gate_store (t := 4) (p := 90) rfl ?_); refine store_event (t := 4) (p := 90) (v := ?vo_w72) (w1 := (w70.setCell ⟨go66, ((rd t649 x9_3) : Int).toNat, none⟩ (.bool true))) ?hg ?ho ?hn ?hr ?_; (case ho => rfl); (case hg => rfl); (case hn => rfl); (case hr => first | (go_simp; done) | (go_simp; rfl)); intro w72 hw; have hg : w70.grownBy w72 (some go66) := (by rw [hw]; exact HP71.2); have hp_ : Kd.R Kd.bool 4 w72 w.heap.size (fun _ => True) (.slice (some ⟨go66, 0, none⟩) x6_3.length co66) y666 := (by rw [hw, Ny666.out]; exact HP71.1); clear HP71; replace HO_5 := A_ (Kd.R_over' (v := (.slice (some ⟨go66, 0, none⟩) x6_3.length co66)) (by exact RX_ HO_5.out) (Kd.R_typed HO_6.out) (by decide) hg); replace HO_8 := A_ (Kd.R_over' (v := (.slice (some ⟨go66, 0, none⟩) x6_3.length co66)) (by exact RX_ HO_8.out) (Kd.R_typed HO_6.out) (by decide) hg); replace HO_640000 := A_ (Kd.S_over' (v := (.slice (some ⟨go66, 0, none⟩) x6_3.length co66)) (by exact SX_ HO_640000.out) (Kd.R_typed HO_6.out) (by decide) hg); replace HO_640001 := A_ (Kd.S_over' (v := (.slice (some ⟨go66, 0, none⟩) x6_3.length co66)) (by exact SX_ HO_640001.out) (Kd.R_typed HO_6.out) (by decide) hg); replace BK639 := A_ (blk_grown (g := gb639) (o := .cells #[.slice Ao16 t632.length co16, .slice Ao18 t635.length co18] 26 (0, 0)) (by exact KX_ BK639.out) hg (Kd.R_ne HO_6.out BK639.out (by decide))); replace HO_6 := A_ (hp_); replace HB := A_ ((by rw [hw]; exact below_set (HB.out) GB66.out : Below w.heap.size w w72)); clear hg hw hp_))
                go_roundg k3
                case measure => have := HJ3.out; have := HK2.out; have := HK3.out; omega
                case rel => exact ⟨(y666), (wrap64 (x9_3 + 1)), (by first | rfl | exact congrArg (fun b => Ending.returned (Value.bool b)) HR_.out | (simp; done) | (simp [*]; done)), H', ⟨by have := HJ3.out; have := HK2.out; have := HK3.out; omega⟩, ⟨by exact RM_ HO_5.out⟩, ⟨by exact RM_ HO_6.out⟩, ⟨by exact RM_ HO_8.out⟩, ⟨by exact SM_ HO_640000.out⟩, ⟨by exact SM_ HO_640001.out⟩, ⟨by exact KX_ BK639.out⟩, ⟨B1_⟩⟩
               rw [if_neg c65] at H
               exact absurd H (by simp)
              rw [if_neg c64] at H
              exact absurd H (by simp)
             rw [if_neg c27] at H
             exact absurd H (by simp)
            rw [if_neg c26] at H
            have c26b0 : decide (x9_3 < (t649.length : Int)) = false := decide_eq_false c26
            clear c26
            have H' := Aside0.mk H
            clear H
            obtain ⟨Ao73, co73, eo73⟩ := Kd.R_slice HO_8.out
            subst eo73
            go_wp2
            go_roundg k3
            case measure => have := HJ3.out; have := HK2.out; have := HK3.out; omega
            case rel => exact ⟨(x6_3), (wrap64 (x7_2 + 1)), (by first | rfl | exact congrArg (fun b => Ending.returned (Value.bool b)) HR_.out | (simp; done) | (simp [*]; done)), H', ⟨by have := HJ3.out; have := HK2.out; have := HK3.out; omega⟩, ⟨by (with_reducible repeat (first | apply Kd.R_alloc | apply Kd.R_drewN | apply Kd.R_drew)); exact Kd.R_mono HO_5.out (fun _ hk => trivial)⟩, ⟨by exact RM_ HO_6.out⟩, ⟨by (with_reducible repeat (first | apply Kd.S_alloc | apply Kd.S_drewN | apply Kd.S_drew)); exact Kd.S_mono HO_640000.out (fun _ hk => ⟨hk.1, hk.2.2⟩)⟩, ⟨by (with_reducible repeat (first | apply Kd.S_alloc | apply Kd.S_drewN | apply Kd.S_drew)); exact Kd.S_mono HO_640001.out (fun _ hk => ⟨hk.1, hk.2.2⟩)⟩, ⟨by exact KX_ BK639.out⟩, ⟨B1_⟩⟩
         rw [if_neg c22] at H
         have c22b0 : decide (x7_2 < (l0.length : Int)) = false := decide_eq_false c22
         clear c22
         have H' := Aside0.mk H
         clear H
         go_wp2
         go_loopg [10] k2 (fun kq v10 w' => ∃ (x10_3 : Int), v10 = .int .i64 x10_3 ∧ Aside0 (locksteplaw09_DepFrontier.l2 kq l0 t643 x6_2 x10_3 t632 t635 = some true) ∧ Aside0 (kq ≤ k2) ∧ Aside0 (Kd.R (Kd.int .i64) 3 w' w.heap.size (fun _ => True) v644 t643) ∧ Aside0 (Kd.R Kd.bool 4 w' w.heap.size (fun _ => True) v647 x6_2) ∧ Aside0 (Kd.S (Kd.slice 3 (Kd.int .i64)) 31 w' w.heap.size (fun k_ => some k_ ≠ (v644 : Value).ownBlock ∧ some k_ ≠ ((.slice Ao18 t635.length co18) : Value).ownBlock) (.slice Ao16 t632.length co16) t632) ∧ Aside0 (Kd.S (Kd.slice 3 (Kd.int .i64)) 31 w' w.heap.size (fun k_ => some k_ ≠ (v644 : Value).ownBlock ∧ some k_ ≠ ((.slice Ao16 t632.length co16) : Value).ownBlock) (.slice Ao18 t635.length co18) t635) ∧ Aside0 (w'.heap[gb639]? = some (.cells #[(.slice Ao16 t632.length co16), (.slice Ao18 t635.length co18)] 26 (0, 0))) ∧ Aside0 (Below w.heap.size w w'))
         case atStart => exact ⟨(0), (by first | rfl | exact congrArg (fun b => Ending.returned (Value.bool b)) HR_.out | (simp; done) | (simp [*]; done)), H', ⟨Nat.le_refl _⟩, ⟨by exact RM_ HO_5.out⟩, ⟨by exact RM_ HO_6.out⟩, ⟨by exact SM_ HO_640000.out⟩, ⟨by exact SM_ HO_640001.out⟩, ⟨by exact KX_ BK639.out⟩, ⟨B1_⟩⟩
         case round =>
          clear H'
          try clear c22b0
          obtain ⟨x10_3, rfl, HA, HK3, HO_5, HO_6, HO_640000, HO_640001, BK639, HB⟩ := hrel
          cases gk with
          | zero => exact absurd HA.out (by simp [locksteplaw09_DepFrontier.l2])
          | succ k3 =>
           have H := HA.out
           clear HA
           simp only [locksteplaw09_DepFrontier.l2] at H
           by_cases c74 : x10_3 < (l0.length : Int)
           ·rw [if_pos c74] at H
            have c74b0 : decide (x10_3 < (l0.length : Int)) = true := decide_eq_true c74
            clear c74
            have H' := Aside0.mk H
            clear H
            go_wp2
            go_loopg [11, 12] k3 (fun kq v11 v12 w' => ∃ (x11_4 : Int) (x12_4 : Int), v11 = .int .i64 x11_4 ∧ v12 = .int .i64 x12_4 ∧ Aside0 (locksteplaw09_DepFrontier.l3 kq l0 t643 x6_2 x10_3 x11_4 x12_4 t632 t635 = some true) ∧ Aside0 (kq ≤ k3) ∧ Aside0 (Kd.R (Kd.int .i64) 3 w' w.heap.size (fun _ => True) v644 t643) ∧ Aside0 (Kd.R Kd.bool 4 w' w.heap.size (fun _ => True) v647 x6_2) ∧ Aside0 (Kd.S (Kd.slice 3 (Kd.int .i64)) 31 w' w.heap.size (fun k_ => some k_ ≠ (v644 : Value).ownBlock ∧ some k_ ≠ ((.slice Ao18 t635.length co18) : Value).ownBlock) (.slice Ao16 t632.length co16) t632) ∧ Aside0 (Kd.S (Kd.slice 3 (Kd.int .i64)) 31 w' w.heap.size (fun k_ => some k_ ≠ (v644 : Value).ownBlock ∧ some k_ ≠ ((.slice Ao16 t632.length co16) : Value).ownBlock) (.slice Ao18 t635.length co18) t635) ∧ Aside0 (w'.heap[gb639]? = some (.cells #[(.slice Ao16 t632.length co16), (.slice Ao18 t635.length co18)] 26 (0, 0))) ∧ Aside0 (Below w.heap.size w w'))
            case atStart => exact ⟨(0), (0), (by first | rfl | exact congrArg (fun b => Ending.returned (Value.bool b)) HR_.out | (simp; done) | (simp [*]; done)), (by first | rfl | exact congrArg (fun b => Ending.returned (Value.bool b)) HR_.out | (simp; done) | (simp [*]; done)), H', ⟨Nat.le_refl _⟩, ⟨by exact RM_ HO_5.out⟩, ⟨by exact RM_ HO_6.out⟩, ⟨by exact SM_ HO_640000.out⟩, ⟨by exact SM_ HO_640001.out⟩, ⟨by exact KX_ BK639.out⟩, ⟨B1_⟩⟩
            case round =>
             clear H'
             try clear c74b0
             obtain ⟨x11_4, x12_4, rfl, rfl, HA, HK4, HO_5, HO_6, HO_640000, HO_640001, BK639, HB⟩ := hrel
             cases gk with
             | zero => exact absurd HA.out (by simp [locksteplaw09_DepFrontier.l3])
             | succ k4 =>
              have H := HA.out
              clear HA
              simp only [locksteplaw09_DepFrontier.l3] at H
              by_cases c75 : 0 ≤ x10_3
              ·rw [if_pos c75] at H
               have c75b0 : decide (0 ≤ x10_3) = true := decide_eq_true c75
               clear c75
               by_cases c76 : x10_3 < (t635.length : Int)
               ·rw [if_pos c76] at H
                have c76b0 : decide (x10_3 < (t635.length : Int)) = true := decide_eq_true c76
                clear c76
                by_cases c77 : x12_4 < ((rd_L1 t635 x10_3).length : Int)
                ·rw [if_pos c77] at H
                 have c77b0 : decide (x12_4 < ((rd_L1 t635 x10_3).length : Int)) = true := decide_eq_true c77
                 clear c77
                 by_cases c78 : 0 ≤ x12_4
                 ·rw [if_pos c78] at H
                  have c78b0 : decide (0 ≤ x12_4) = true := decide_eq_true c78
                  clear c78
                  replace H := Option.bind_eq_some_iff.mp H
                  obtain ⟨t672, A790, H⟩ := H
                  try dsimp only at H
                  have A79 := Aside0.mk A790
                  clear A790
                  by_cases c80 : t672 = true
                  ·subst c80
                   have H1 : (locksteplaw09_DepFrontier.l3 k4 l0 t643 x6_2 x10_3 (wrap64 (x11_4 + 1)) (wrap64 (x12_4 + 1)) t632 t635) = some true := by rw [if_pos rfl] at H; exact H
                   clear H
                   have H := H1
                   clear H1
                   have H' := Aside0.mk H
                   clear H
                   have hcz81_0 : wr.cell? ⟨gb639, 0, none⟩ = some (.slice Ao16 t632.length co16) := (blk_cell BK639.out 0).trans rfl
                   have hcz81_1 : wr.cell? ⟨gb639, 1, none⟩ = some (.slice Ao18 t635.length co18) := (blk_cell BK639.out 1).trans rfl
                   have hfz81_0 := blk_frozen BK639.out 0
                   have hfz81_1 := blk_frozen BK639.out 1
                   have p667 : 0 ≤ (x10_3 : Int) := D_
                   have q667 : x10_3 < (t635.length : Int) := D_
                   obtain ⟨ad667, A667_0, c667_0, e667, hx667_0, hl667_0, hi667_0⟩ := at_L1 (Kd.S_reads' HO_640001.out).2.2 x10_3 p667 q667
                   cases e667
                   obtain ⟨ce667, hce667, hMe667, hcc667⟩ := Kd.S_get HO_640001.out [] x10_3 p667 (by first | exact q667 | exact D_ | (have e_ := (Kd.S_reads' HO_640001.out).1; omega))
                   obtain ⟨ve667_0, rfl, ge667_0⟩ := hMe667
                   have hv667_0 := hcc667 0 _ rfl
                   rw [Nat.add_zero, show ((Kd.slice 3 (Kd.int .i64))).sz = 1 from rfl, Nat.mul_one] at hv667_0
                   replace hv667_0 := Option.some.inj (hv667_0.symm.trans hx667_0)
                   rw [hv667_0] at ge667_0
                   have HL667_0 := A_ (show Kd.R (Kd.int .i64) 3 _ _ _ _ (rd_L1 t635 x10_3) from ge667_0)
                   clear hv667_0 ge667_0
                   clear hcc667 hce667
                   have HR667_0 := Aside0.mk hi667_0
                   have HC667_0 := Aside0.mk hl667_0
                   clear hi667_0 hl667_0
                   replace p667 := eq_true p667
                   replace q667 := eq_true q667
                   try go_wp2
                   have n0_ := A_ (Kd.R_drew HO_5.out)
                   have n1_ := A_ (Kd.R_drew HO_6.out)
                   have n2_ := A_ (Kd.S_drew HO_640000.out)
                   have n3_ := A_ (Kd.S_drew HO_640001.out)
                   have n4_ := A_ (Kd.R_drew HL667_0.out)
                   have n5_ := A_ (blk_drew BK639.out)
                   have n6_ := A_ (Kd.C_drew HR667_0.out)
                   have n7_ := A_ (below_drew1 HB.out)
                   clear HO_5
                   clear HO_6
                   clear HO_640000
                   clear HO_640001
                   clear HL667_0
                   clear BK639
                   clear HR667_0
                   clear HB
                   have HO_5 := n0_
                   have HO_6 := n1_
                   have HO_640000 := n2_
                   have HO_640001 := n3_
                   have HL667_0 := n4_
                   have BK639 := n5_
                   have HR667_0 := n6_
                   have HB := n7_
                   clear n0_ n1_ n2_ n3_ n4_ n5_ n6_ n7_
                   have p668 : 0 ≤ (x10_3 : Int) := D_
                   have q668 : x10_3 < (t635.length : Int) := D_
                   obtain ⟨ad668, A668_0, c668_0, e668, hx668_0, hl668_0, hi668_0⟩ := at_L1 (Kd.S_reads' HO_640001.out).2.2 x10_3 p668 q668
                   obtain rfl : ad667 = ad668 := (by injection e668)
                   obtain ⟨ce668, hce668, hMe668, hcc668⟩ := Kd.S_get HO_640001.out [] x10_3 p668 (by first | exact q668 | exact D_ | (have e_ := (Kd.S_reads' HO_640001.out).1; omega))
                   obtain ⟨ve668_0, rfl, ge668_0⟩ := hMe668
                   have hv668_0 := hcc668 0 _ rfl
                   rw [Nat.add_zero, show ((Kd.slice 3 (Kd.int .i64))).sz = 1 from rfl, Nat.mul_one] at hv668_0
                   replace hv668_0 := Option.some.inj (hv668_0.symm.trans hx668_0)
                   rw [hv668_0] at ge668_0
                   have HL668_0 := A_ (show Kd.R (Kd.int .i64) 3 _ _ _ _ (rd_L1 t635 x10_3) from ge668_0)
                   clear hv668_0 ge668_0
                   clear hcc668 hce668
                   have HR668_0 := Aside0.mk hi668_0
                   have HC668_0 := Aside0.mk hl668_0
                   clear hi668_0 hl668_0
                   replace p668 := eq_true p668
                   replace q668 := eq_true q668
                   have p669 : 0 ≤ (x12_4 : Int) := D_
                   have q669 : x12_4 < ((rd_L1 t635 x10_3).length : Int) := D_
                   obtain ⟨ad669, e669, hx669_0⟩ := Kd.at_int (by repeat (first | (with_reducible exact HR668_0.out) | (with_reducible refine Kd.C_alloc ?_ _) | (with_reducible refine Kd.C_drewN ?_ _) | (with_reducible refine Kd.C_drew ?_) | exact HR668_0.out)) x12_4 p669 q669
                   cases e669
                   replace p669 := eq_true p669
                   replace q669 := eq_true q669
                   have p670 : 0 ≤ (x10_3 : Int) := D_
                   have q670 : x10_3 < (t635.length : Int) := D_
                   obtain ⟨ad670, A670_0, c670_0, e670, hx670_0, hl670_0, hi670_0⟩ := at_L1 (Kd.S_reads' HO_640001.out).2.2 x10_3 p670 q670
                   obtain rfl : ad667 = ad670 := (by injection e670)
                   obtain ⟨ce670, hce670, hMe670, hcc670⟩ := Kd.S_get HO_640001.out [] x10_3 p670 (by first | exact q670 | exact D_ | (have e_ := (Kd.S_reads' HO_640001.out).1; omega))
                   obtain ⟨ve670_0, rfl, ge670_0⟩ := hMe670
                   have hv670_0 := hcc670 0 _ rfl
                   rw [Nat.add_zero, show ((Kd.slice 3 (Kd.int .i64))).sz = 1 from rfl, Nat.mul_one] at hv670_0
                   replace hv670_0 := Option.some.inj (hv670_0.symm.trans hx670_0)
                   rw [hv670_0] at ge670_0
                   have HL670_0 := A_ (show Kd.R (Kd.int .i64) 3 _ _ _ _ (rd_L1 t635 x10_3) from ge670_0)
                   clear hv670_0 ge670_0
                   clear hcc670 hce670
                   have HR670_0 := Aside0.mk hi670_0
                   have HC670_0 := Aside0.mk hl670_0
                   clear hi670_0 hl670_0
                   replace p670 := eq_true p670
                   replace q670 := eq_true q670
                   have ea_ := Option.some.inj (hx668_0.symm.trans hx670_0)
                   injection ea_ with ea_ en_ ec_
                   subst ea_
                   subst ec_
                   clear en_
                   have p671 : 0 ≤ (x12_4 : Int) := D_
                   have q671 : x12_4 < ((rd_L1 t635 x10_3).length : Int) := D_
                   obtain ⟨ad671, e671, hx671_0⟩ := Kd.at_int (by repeat (first | (with_reducible exact HR670_0.out) | (with_reducible refine Kd.C_alloc ?_ _) | (with_reducible refine Kd.C_drewN ?_ _) | (with_reducible refine Kd.C_drew ?_) | exact HR670_0.out)) x12_4 p671 q671
                   cases e671
                   replace p671 := eq_true p671
                   replace q671 := eq_true q671
                   obtain ⟨Ao83, co83, eo83⟩ := Kd.R_slice HO_5.out
                   (first | subst eo83 | (injection eo83 with f1_ f2_ f3_; have f4_ := f1_.symm; have f5_ := f3_.symm; clear f1_ f2_ f3_; subst f4_; subst f5_))
                   refine start_ (n := 18) (S := fun w' => w'.cell? ⟨gb639, 0, none⟩ = some (.slice Ao16 t632.length co16) ∧ w'.cell? ⟨gb639, 1, none⟩ = some (.slice (some ad667) t635.length co18) ∧ w'.cell? (ad667.add (x10_3).toNat) = some (.slice (some ad669) (rd_L1 t635 x10_3).length c668_0) ∧ w'.cell? (ad669.add (x12_4).toNat) = some (.int .i64 (rd (rd_L1 t635 x10_3) x12_4)) ∧ w'.cell? (ad667.add (x10_3).toNat) = some (.slice (some ad669) (rd_L1 t635 x10_3).length c668_0) ∧ w'.cell? (ad669.add (x12_4).toNat) = some (.int .i64 (rd (rd_L1 t635 x10_3) x12_4))) (ds := []) #[F_,F_,F_,F_,F_,F_,F_,F_,F_,F_,F_,F_,F_,F_,F_,F_,F_,F_] (by kernel_rfl) rfl rfl ⟨(blk_cell BK639.out 0).trans rfl, (blk_cell BK639.out 1).trans rfl, hx668_0, hx669_0, hx670_0, hx671_0⟩ (fun hHeld => ?_); refine with_tabW locksteplaw09_DepFrontier.tab27 locksteplaw09_DepFrontier.bits27 (fun HT_ HW_ => ?_)
                   generalize wr.drew = w82 at HO_5 HO_6 HO_640000 HO_640001 HL667_0 BK639 HR667_0 HB HL668_0 HL670_0 HR668_0 HR670_0 hx668_0 hx669_0 hx670_0 hx671_0 hHeld ⊢
                   refine PU_ HT_ 0 107 #[T_,F_,F_,F_,F_,F_,F_,F_,F_,F_,F_,F_,F_,F_,F_,F_,F_,F_] (h := ?_); refine PU_ HT_ 1 108 #[T_,T_,F_,F_,F_,F_,F_,F_,F_,F_,F_,F_,F_,F_,F_,F_,F_,F_] (h := ?_); refine PU_ HT_ 3 110 #[T_,T_,F_,T_,F_,F_,F_,F_,F_,F_,F_,F_,F_,F_,F_,F_,F_,F_] (h := ?_); refine PU_ HT_ 6 113 #[T_,T_,F_,T_,F_,F_,T_,F_,F_,F_,F_,F_,F_,F_,F_,F_,F_,F_] (h := ?_); refine PU_ HT_ 9 116 #[T_,T_,F_,T_,F_,F_,T_,F_,F_,T_,F_,F_,F_,F_,F_,F_,F_,F_] (h := ?_); refine PU_ HT_ 11 118 #[T_,T_,F_,T_,F_,F_,T_,F_,F_,T_,F_,T_,F_,F_,F_,F_,F_,F_] (h := ?_); refine PU_ HT_ 14 121 #[T_,T_,F_,T_,F_,F_,T_,F_,F_,T_,F_,T_,F_,F_,T_,F_,F_,F_] (h := ?_); refine TA_ HT_ HW_ 2 109 hHeld #[T_,T_,T_,T_,F_,F_,T_,F_,F_,T_,F_,T_,F_,F_,T_,F_,F_,F_] (h := ?_); refine PU_ HT_ 4 111 #[T_,T_,T_,T_,T_,F_,T_,F_,F_,T_,F_,T_,F_,F_,T_,F_,F_,F_] (h := ?_); refine TA_ HT_ HW_ 5 112 hHeld #[T_,T_,T_,T_,T_,T_,T_,F_,F_,T_,F_,T_,F_,F_,T_,F_,F_,F_] (h := ?_); refine PU_ HT_ 7 114 #[T_,T_,T_,T_,T_,T_,T_,T_,F_,T_,F_,T_,F_,F_,T_,F_,F_,F_] (h := ?_); refine TA_ HT_ HW_ 8 115 hHeld #[T_,T_,T_,T_,T_,T_,T_,T_,T_,T_,F_,T_,F_,F_,T_,F_,F_,F_] (h := ?_); refine TA_ HT_ HW_ 10 117 hHeld #[T_,T_,T_,T_,T_,T_,T_,T_,T_,T_,T_,T_,F_,F_,T_,F_,F_,F_] (h := ?_); refine PU_ HT_ 12 119 #[T_,T_,T_,T_,T_,T_,T_,T_,T_,T_,T_,T_,T_,F_,T_,F_,F_,F_] (h := ?_); refine TA_ HT_ HW_ 13 120 hHeld #[T_,T_,T_,T_,T_,T_,T_,T_,T_,T_,T_,T_,T_,T_,T_,F_,F_,F_] (h := ?_); refine PU_ HT_ 15 122 #[T_,T_,T_,T_,T_,T_,T_,T_,T_,T_,T_,T_,T_,T_,T_,T_,F_,F_] (h := ?_); refine TA_ HT_ HW_ 16 123 hHeld #[T_,T_,T_,T_,T_,T_,T_,T_,T_,T_,T_,T_,T_,T_,T_,T_,T_,F_] (h := ?_)
                   refine one_ (i := 17) (N := some 124) #[T_,T_,T_,T_,T_,T_,T_,T_,T_,T_,T_,T_,T_,T_,T_,T_,T_,T_] rfl rfl (one_of HT_.out (by kernel_rfl)) (by decide) (fun K hK => ?_)
                   refine goes_ Try.func20 (by kernel_rfl) rfl #[.slice Ao83 t643.length co83, .int .i64 (rd (rd_L1 t635 x10_3) x12_4), .int .i64 (rd (rd_L1 t635 x10_3) x12_4)] (by rfl) rfl rfl (by (try simp only [List.map_toArray, List.map_cons, List.map_nil]); first | done | rfl | (simp only [List.length_drop, List.length_take]; rfl)) ?_
                   with_reducible refine (dom_Over.calls k4 _ _ t643 (rd (rd_L1 t635 x10_3) x12_4) (rd (rd_L1 t635 x10_3) x12_4) true _ ?side1 ?side2 A79.out).mono ?_
                   (case side1 => repeat (first | exact (Kd.R_reads' HO_5.out).2.2 | (with_reducible refine Kd.C_alloc ?_ _) | (with_reducible refine Kd.C_drewN ?_ _) | (with_reducible refine Kd.C_drew ?_)))
                   (case side2 => exact (Kd.R_reads' HO_5.out).2.1)
                   rintro e w84 ⟨rfl, hb⟩
                   have HS2_ := (hb.cell (World.block_lt_of_cell? _ _ (hHeld.2.2.1))).trans (hHeld.2.2.1)
                   have HS3_ := (hb.cell (World.block_lt_of_cell? _ _ (hHeld.2.2.2.1))).trans (hHeld.2.2.2.1)
                   have HS4_ := (hb.cell (World.block_lt_of_cell? _ _ (hHeld.2.2.2.2.1))).trans (hHeld.2.2.2.2.1)
                   have HS5_ := (hb.cell (World.block_lt_of_cell? _ _ (hHeld.2.2.2.2.2))).trans (hHeld.2.2.2.2.2)
                   refine ⟨_, rfl, ?_⟩
                   have n0_ := A_ (Kd.R_below (by exact RX_ HO_5.out) hb)
                   have n1_ := A_ (Kd.R_below (by exact RX_ HO_6.out) hb)
                   have n2_ := A_ (Kd.S_below (by exact SX_ HO_640000.out) hb)
                   have n3_ := A_ (Kd.S_below (by exact SX_ HO_640001.out) hb)
                   have n4_ := A_ (Kd.R_below (by exact RX_ HL667_0.out) hb)
                   have n5_ := A_ (Kd.R_below (by exact RX_ HL668_0.out) hb)
                   have n6_ := A_ (Kd.R_below (by exact RX_ HL670_0.out) hb)
                   have n7_ := A_ (blk_below (g := gb639) (o := .cells #[.slice Ao16 t632.length co16, .slice (some ad667) t635.length co18] 26 (0, 0)) (by exact KX_ BK639.out) hb)
                   have n8_ := A_ (Kd.C_below (by repeat (first | (with_reducible exact HR667_0.out) | (with_reducible refine Kd.C_alloc ?_ _) | (with_reducible refine Kd.C_drewN ?_ _) | (with_reducible refine Kd.C_drew ?_) | exact HR667_0.out)) hb)
                   have n9_ := A_ (Kd.C_below (by repeat (first | (with_reducible exact HR668_0.out) | (with_reducible refine Kd.C_alloc ?_ _) | (with_reducible refine Kd.C_drewN ?_ _) | (with_reducible refine Kd.C_drew ?_) | exact HR668_0.out)) hb)
                   have n10_ := A_ (Kd.C_below (by repeat (first | (with_reducible exact HR670_0.out) | (with_reducible refine Kd.C_alloc ?_ _) | (with_reducible refine Kd.C_drewN ?_ _) | (with_reducible refine Kd.C_drew ?_) | exact HR670_0.out)) hb)
                   have n11_ := A_ (below_step (B1_) hb)
                   clear HO_5
                   clear HO_6
                   clear HO_640000
                   clear HO_640001
                   clear HL667_0
                   clear HL668_0
                   clear HL670_0
                   clear BK639
                   clear HR667_0
                   clear HR668_0
                   clear HR670_0
                   clear HB
                   have HO_5 := n0_
                   have HO_6 := n1_
                   have HO_640000 := n2_
                   have HO_640001 := n3_
                   have HL667_0 := n4_
                   have HL668_0 := n5_
                   have HL670_0 := n6_
                   have BK639 := n7_
                   have HR667_0 := n8_
                   have HR668_0 := n9_
                   have HR670_0 := n10_
                   have HB := n11_
                   clear n0_ n1_ n2_ n3_ n4_ n5_ n6_ n7_ n8_ n9_ n10_ n11_
                   (try clear hb)
                   (try clear hb2)
                   (try clear hk)
                   (try clear hi)
                   refine hK.out _ _ ⟨(blk_cell BK639.out 0).trans rfl, (blk_cell BK639.out 1).trans rfl, HS2_, HS3_, HS4_, HS5_⟩ (fun hHeld => ?_)
                   clear hK K
                   refine norm_ (a' := ?_) ?_ ?_
                   rotate_left
                   ·show Act.put _ (some 124) _ = _
                    simp only [Act.put, List.setIfInBounds_toArray, List.set_cons_zero, List.set_cons_succ, i64_w, i32_w]
                    rfl
                   refine done_ (done_of HT_.out (by kernel_rfl)) ?_
                   try go_wp2
                   go_roundg k4
                   case measure => have := HJ3.out; have := HK2.out; have := HK3.out; have := HK4.out; omega
                   case rel => exact ⟨(wrap64 (x11_4 + 1)), (wrap64 (x12_4 + 1)), (by first | rfl | exact congrArg (fun b => Ending.returned (Value.bool b)) HR_.out | (simp; done) | (simp [*]; done)), (by first | rfl | exact congrArg (fun b => Ending.returned (Value.bool b)) HR_.out | (simp; done) | (simp [*]; done)), H', ⟨by have := HJ3.out; have := HK2.out; have := HK3.out; have := HK4.out; omega⟩, ⟨by exact RM_ HO_5.out⟩, ⟨by exact RM_ HO_6.out⟩, ⟨by exact SM_ HO_640000.out⟩, ⟨by exact SM_ HO_640001.out⟩, ⟨by exact KX_ BK639.out⟩, ⟨B1_⟩⟩
                  replace c80 := Bool.eq_false_iff.mpr c80
                  subst c80
                  have H1 : (locksteplaw09_DepFrontier.l3 k4 l0 t643 x6_2 x10_3 x11_4 (wrap64 (x12_4 + 1)) t632 t635) = some true := by rw [if_neg (show ¬ (false = true) by decide)] at H; exact H
                  clear H
                  have H := H1
                  clear H1
                  have H' := Aside0.mk H
                  clear H
                  have hcz85_0 : wr.cell? ⟨gb639, 0, none⟩ = some (.slice Ao16 t632.length co16) := (blk_cell BK639.out 0).trans rfl
                  have hcz85_1 : wr.cell? ⟨gb639, 1, none⟩ = some (.slice Ao18 t635.length co18) := (blk_cell BK639.out 1).trans rfl
                  have hfz85_0 := blk_frozen BK639.out 0
                  have hfz85_1 := blk_frozen BK639.out 1
                  have p667 : 0 ≤ (x10_3 : Int) := D_
                  have q667 : x10_3 < (t635.length : Int) := D_
                  obtain ⟨ad667, A667_0, c667_0, e667, hx667_0, hl667_0, hi667_0⟩ := at_L1 (Kd.S_reads' HO_640001.out).2.2 x10_3 p667 q667
                  cases e667
                  obtain ⟨ce667, hce667, hMe667, hcc667⟩ := Kd.S_get HO_640001.out [] x10_3 p667 (by first | exact q667 | exact D_ | (have e_ := (Kd.S_reads' HO_640001.out).1; omega))
                  obtain ⟨ve667_0, rfl, ge667_0⟩ := hMe667
                  have hv667_0 := hcc667 0 _ rfl
                  rw [Nat.add_zero, show ((Kd.slice 3 (Kd.int .i64))).sz = 1 from rfl, Nat.mul_one] at hv667_0
                  replace hv667_0 := Option.some.inj (hv667_0.symm.trans hx667_0)
                  rw [hv667_0] at ge667_0
                  have HL667_0 := A_ (show Kd.R (Kd.int .i64) 3 _ _ _ _ (rd_L1 t635 x10_3) from ge667_0)
                  clear hv667_0 ge667_0
                  clear hcc667 hce667
                  have HR667_0 := Aside0.mk hi667_0
                  have HC667_0 := Aside0.mk hl667_0
                  clear hi667_0 hl667_0
                  replace p667 := eq_true p667
                  replace q667 := eq_true q667
                  try go_wp2
                  have n0_ := A_ (Kd.R_drew HO_5.out)
                  have n1_ := A_ (Kd.R_drew HO_6.out)
                  have n2_ := A_ (Kd.S_drew HO_640000.out)
                  have n3_ := A_ (Kd.S_drew HO_640001.out)
                  have n4_ := A_ (Kd.R_drew HL667_0.out)
                  have n5_ := A_ (blk_drew BK639.out)
                  have n6_ := A_ (Kd.C_drew HR667_0.out)
                  have n7_ := A_ (below_drew1 HB.out)
                  clear HO_5
                  clear HO_6
                  clear HO_640000
                  clear HO_640001
                  clear HL667_0
                  clear BK639
                  clear HR667_0
                  clear HB
                  have HO_5 := n0_
                  have HO_6 := n1_
                  have HO_640000 := n2_
                  have HO_640001 := n3_
                  have HL667_0 := n4_
                  have BK639 := n5_
                  have HR667_0 := n6_
                  have HB := n7_
                  clear n0_ n1_ n2_ n3_ n4_ n5_ n6_ n7_
                  have p668 : 0 ≤ (x10_3 : Int) := D_
                  have q668 : x10_3 < (t635.length : Int) := D_
                  obtain ⟨ad668, A668_0, c668_0, e668, hx668_0, hl668_0, hi668_0⟩ := at_L1 (Kd.S_reads' HO_640001.out).2.2 x10_3 p668 q668
                  obtain rfl : ad667 = ad668 := (by injection e668)
                  obtain ⟨ce668, hce668, hMe668, hcc668⟩ := Kd.S_get HO_640001.out [] x10_3 p668 (by first | exact q668 | exact D_ | (have e_ := (Kd.S_reads' HO_640001.out).1; omega))
                  obtain ⟨ve668_0, rfl, ge668_0⟩ := hMe668
                  have hv668_0 := hcc668 0 _ rfl
                  rw [Nat.add_zero, show ((Kd.slice 3 (Kd.int .i64))).sz = 1 from rfl, Nat.mul_one] at hv668_0
                  replace hv668_0 := Option.some.inj (hv668_0.symm.trans hx668_0)
                  rw [hv668_0] at ge668_0
                  have HL668_0 := A_ (show Kd.R (Kd.int .i64) 3 _ _ _ _ (rd_L1 t635 x10_3) from ge668_0)
                  clear hv668_0 ge668_0
                  clear hcc668 hce668
                  have HR668_0 := Aside0.mk hi668_0
                  have HC668_0 := Aside0.mk hl668_0
                  clear hi668_0 hl668_0
                  replace p668 := eq_true p668
                  replace q668 := eq_true q668
                  have p669 : 0 ≤ (x12_4 : Int) := D_
                  have q669 : x12_4 < ((rd_L1 t635 x10_3).length : Int) := D_
                  obtain ⟨ad669, e669, hx669_0⟩ := Kd.at_int (by repeat (first | (with_reducible exact HR668_0.out) | (with_reducible refine Kd.C_alloc ?_ _) | (with_reducible refine Kd.C_drewN ?_ _) | (with_reducible refine Kd.C_drew ?_) | exact HR668_0.out)) x12_4 p669 q669
                  cases e669
                  replace p669 := eq_true p669
                  replace q669 := eq_true q669
                  have p670 : 0 ≤ (x10_3 : Int) := D_
                  have q670 : x10_3 < (t635.length : Int) := D_
                  obtain ⟨ad670, A670_0, c670_0, e670, hx670_0, hl670_0, hi670_0⟩ := at_L1 (Kd.S_reads' HO_640001.out).2.2 x10_3 p670 q670
                  obtain rfl : ad667 = ad670 := (by injection e670)
                  obtain ⟨ce670, hce670, hMe670, hcc670⟩ := Kd.S_get HO_640001.out [] x10_3 p670 (by first | exact q670 | exact D_ | (have e_ := (Kd.S_reads' HO_640001.out).1; omega))
                  obtain ⟨ve670_0, rfl, ge670_0⟩ := hMe670
                  have hv670_0 := hcc670 0 _ rfl
                  rw [Nat.add_zero, show ((Kd.slice 3 (Kd.int .i64))).sz = 1 from rfl, Nat.mul_one] at hv670_0
                  replace hv670_0 := Option.some.inj (hv670_0.symm.trans hx670_0)
                  rw [hv670_0] at ge670_0
                  have HL670_0 := A_ (show Kd.R (Kd.int .i64) 3 _ _ _ _ (rd_L1 t635 x10_3) from ge670_0)
                  clear hv670_0 ge670_0
                  clear hcc670 hce670
                  have HR670_0 := Aside0.mk hi670_0
                  have HC670_0 := Aside0.mk hl670_0
                  clear hi670_0 hl670_0
                  replace p670 := eq_true p670
                  replace q670 := eq_true q670
                  have ea_ := Option.some.inj (hx668_0.symm.trans hx670_0)
                  injection ea_ with ea_ en_ ec_
                  subst ea_
                  subst ec_
                  clear en_
                  have p671 : 0 ≤ (x12_4 : Int) := D_
                  have q671 : x12_4 < ((rd_L1 t635 x10_3).length : Int) := D_
                  obtain ⟨ad671, e671, hx671_0⟩ := Kd.at_int (by repeat (first | (with_reducible exact HR670_0.out) | (with_reducible refine Kd.C_alloc ?_ _) | (with_reducible refine Kd.C_drewN ?_ _) | (with_reducible refine Kd.C_drew ?_) | exact HR670_0.out)) x12_4 p671 q671
                  cases e671
                  replace p671 := eq_true p671
                  replace q671 := eq_true q671
                  obtain ⟨Ao87, co87, eo87⟩ := Kd.R_slice HO_5.out
                  (first | subst eo87 | (injection eo87 with f1_ f2_ f3_; have f4_ := f1_.symm; have f5_ := f3_.symm; clear f1_ f2_ f3_; subst f4_; subst f5_))
                  refine start_ (n := 18) (S := fun w' => w'.cell? ⟨gb639, 0, none⟩ = some (.slice Ao16 t632.length co16) ∧ w'.cell? ⟨gb639, 1, none⟩ = some (.slice (some ad667) t635.length co18) ∧ w'.cell? (ad667.add (x10_3).toNat) = some (.slice (some ad669) (rd_L1 t635 x10_3).length c668_0) ∧ w'.cell? (ad669.add (x12_4).toNat) = some (.int .i64 (rd (rd_L1 t635 x10_3) x12_4)) ∧ w'.cell? (ad667.add (x10_3).toNat) = some (.slice (some ad669) (rd_L1 t635 x10_3).length c668_0) ∧ w'.cell? (ad669.add (x12_4).toNat) = some (.int .i64 (rd (rd_L1 t635 x10_3) x12_4))) (ds := []) #[F_,F_,F_,F_,F_,F_,F_,F_,F_,F_,F_,F_,F_,F_,F_,F_,F_,F_] (by kernel_rfl) rfl rfl ⟨(blk_cell BK639.out 0).trans rfl, (blk_cell BK639.out 1).trans rfl, hx668_0, hx669_0, hx670_0, hx671_0⟩ (fun hHeld => ?_); refine with_tabW locksteplaw09_DepFrontier.tab27 locksteplaw09_DepFrontier.bits27 (fun HT_ HW_ => ?_)
                  generalize wr.drew = w86 at HO_5 HO_6 HO_640000 HO_640001 HL667_0 BK639 HR667_0 HB HL668_0 HL670_0 HR668_0 HR670_0 hx668_0 hx669_0 hx670_0 hx671_0 hHeld ⊢
                  refine PU_ HT_ 0 107 #[T_,F_,F_,F_,F_,F_,F_,F_,F_,F_,F_,F_,F_,F_,F_,F_,F_,F_] (h := ?_); refine PU_ HT_ 1 108 #[T_,T_,F_,F_,F_,F_,F_,F_,F_,F_,F_,F_,F_,F_,F_,F_,F_,F_] (h := ?_); refine PU_ HT_ 3 110 #[T_,T_,F_,T_,F_,F_,F_,F_,F_,F_,F_,F_,F_,F_,F_,F_,F_,F_] (h := ?_); refine PU_ HT_ 6 113 #[T_,T_,F_,T_,F_,F_,T_,F_,F_,F_,F_,F_,F_,F_,F_,F_,F_,F_] (h := ?_); refine PU_ HT_ 9 116 #[T_,T_,F_,T_,F_,F_,T_,F_,F_,T_,F_,F_,F_,F_,F_,F_,F_,F_] (h := ?_); refine PU_ HT_ 11 118 #[T_,T_,F_,T_,F_,F_,T_,F_,F_,T_,F_,T_,F_,F_,F_,F_,F_,F_] (h := ?_); refine PU_ HT_ 14 121 #[T_,T_,F_,T_,F_,F_,T_,F_,F_,T_,F_,T_,F_,F_,T_,F_,F_,F_] (h := ?_); refine TA_ HT_ HW_ 2 109 hHeld #[T_,T_,T_,T_,F_,F_,T_,F_,F_,T_,F_,T_,F_,F_,T_,F_,F_,F_] (h := ?_); refine PU_ HT_ 4 111 #[T_,T_,T_,T_,T_,F_,T_,F_,F_,T_,F_,T_,F_,F_,T_,F_,F_,F_] (h := ?_); refine TA_ HT_ HW_ 5 112 hHeld #[T_,T_,T_,T_,T_,T_,T_,F_,F_,T_,F_,T_,F_,F_,T_,F_,F_,F_] (h := ?_); refine PU_ HT_ 7 114 #[T_,T_,T_,T_,T_,T_,T_,T_,F_,T_,F_,T_,F_,F_,T_,F_,F_,F_] (h := ?_); refine TA_ HT_ HW_ 8 115 hHeld #[T_,T_,T_,T_,T_,T_,T_,T_,T_,T_,F_,T_,F_,F_,T_,F_,F_,F_] (h := ?_); refine TA_ HT_ HW_ 10 117 hHeld #[T_,T_,T_,T_,T_,T_,T_,T_,T_,T_,T_,T_,F_,F_,T_,F_,F_,F_] (h := ?_); refine PU_ HT_ 12 119 #[T_,T_,T_,T_,T_,T_,T_,T_,T_,T_,T_,T_,T_,F_,T_,F_,F_,F_] (h := ?_); refine TA_ HT_ HW_ 13 120 hHeld #[T_,T_,T_,T_,T_,T_,T_,T_,T_,T_,T_,T_,T_,T_,T_,F_,F_,F_] (h := ?_); refine PU_ HT_ 15 122 #[T_,T_,T_,T_,T_,T_,T_,T_,T_,T_,T_,T_,T_,T_,T_,T_,F_,F_] (h := ?_); refine TA_ HT_ HW_ 16 123 hHeld #[T_,T_,T_,T_,T_,T_,T_,T_,T_,T_,T_,T_,T_,T_,T_,T_,T_,F_] (h := ?_)
                  refine one_ (i := 17) (N := some 124) #[T_,T_,T_,T_,T_,T_,T_,T_,T_,T_,T_,T_,T_,T_,T_,T_,T_,T_] rfl rfl (one_of HT_.out (by kernel_rfl)) (by decide) (fun K hK => ?_)
                  refine goes_ Try.func20 (by kernel_rfl) rfl #[.slice Ao87 t643.length co87, .int .i64 (rd (rd_L1 t635 x10_3) x12_4), .int .i64 (rd (rd_L1 t635 x10_3) x12_4)] (by rfl) rfl rfl (by (try simp only [List.map_toArray, List.map_cons, List.map_nil]); first | done | rfl | (simp only [List.length_drop, List.length_take]; rfl)) ?_
                  with_reducible refine (dom_Over.calls k4 _ _ t643 (rd (rd_L1 t635 x10_3) x12_4) (rd (rd_L1 t635 x10_3) x12_4) false _ ?side1 ?side2 A79.out).mono ?_
                  (case side1 => repeat (first | exact (Kd.R_reads' HO_5.out).2.2 | (with_reducible refine Kd.C_alloc ?_ _) | (with_reducible refine Kd.C_drewN ?_ _) | (with_reducible refine Kd.C_drew ?_)))
                  (case side2 => exact (Kd.R_reads' HO_5.out).2.1)
                  rintro e w88 ⟨rfl, hb⟩
                  have HS2_ := (hb.cell (World.block_lt_of_cell? _ _ (hHeld.2.2.1))).trans (hHeld.2.2.1)
                  have HS3_ := (hb.cell (World.block_lt_of_cell? _ _ (hHeld.2.2.2.1))).trans (hHeld.2.2.2.1)
                  have HS4_ := (hb.cell (World.block_lt_of_cell? _ _ (hHeld.2.2.2.2.1))).trans (hHeld.2.2.2.2.1)
                  have HS5_ := (hb.cell (World.block_lt_of_cell? _ _ (hHeld.2.2.2.2.2))).trans (hHeld.2.2.2.2.2)
                  refine ⟨_, rfl, ?_⟩
                  have n0_ := A_ (Kd.R_below (by exact RX_ HO_5.out) hb)
                  have n1_ := A_ (Kd.R_below (by exact RX_ HO_6.out) hb)
                  have n2_ := A_ (Kd.S_below (by exact SX_ HO_640000.out) hb)
                  have n3_ := A_ (Kd.S_below (by exact SX_ HO_640001.out) hb)
                  have n4_ := A_ (Kd.R_below (by exact RX_ HL667_0.out) hb)
                  have n5_ := A_ (Kd.R_below (by exact RX_ HL668_0.out) hb)
                  have n6_ := A_ (Kd.R_below (by exact RX_ HL670_0.out) hb)
                  have n7_ := A_ (blk_below (g := gb639) (o := .cells #[.slice Ao16 t632.length co16, .slice (some ad667) t635.length co18] 26 (0, 0)) (by exact KX_ BK639.out) hb)
                  have n8_ := A_ (Kd.C_below (by repeat (first | (with_reducible exact HR667_0.out) | (with_reducible refine Kd.C_alloc ?_ _) | (with_reducible refine Kd.C_drewN ?_ _) | (with_reducible refine Kd.C_drew ?_) | exact HR667_0.out)) hb)
                  have n9_ := A_ (Kd.C_below (by repeat (first | (with_reducible exact HR668_0.out) | (with_reducible refine Kd.C_alloc ?_ _) | (with_reducible refine Kd.C_drewN ?_ _) | (with_reducible refine Kd.C_drew ?_) | exact HR668_0.out)) hb)
                  have n10_ := A_ (Kd.C_below (by repeat (first | (with_reducible exact HR670_0.out) | (with_reducible refine Kd.C_alloc ?_ _) | (with_reducible refine Kd.C_drewN ?_ _) | (with_reducible refine Kd.C_drew ?_) | exact HR670_0.out)) hb)
                  have n11_ := A_ (below_step (B1_) hb)
                  clear HO_5
                  clear HO_6
                  clear HO_640000
                  clear HO_640001
                  clear HL667_0
                  clear HL668_0
                  clear HL670_0
                  clear BK639
                  clear HR667_0
                  clear HR668_0
                  clear HR670_0
                  clear HB
                  have HO_5 := n0_
                  have HO_6 := n1_
                  have HO_640000 := n2_
                  have HO_640001 := n3_
                  have HL667_0 := n4_
                  have HL668_0 := n5_
                  have HL670_0 := n6_
                  have BK639 := n7_
                  have HR667_0 := n8_
                  have HR668_0 := n9_
                  have HR670_0 := n10_
                  have HB := n11_
                  clear n0_ n1_ n2_ n3_ n4_ n5_ n6_ n7_ n8_ n9_ n10_ n11_
                  (try clear hb)
                  (try clear hb2)
                  (try clear hk)
                  (try clear hi)
                  refine hK.out _ _ ⟨(blk_cell BK639.out 0).trans rfl, (blk_cell BK639.out 1).trans rfl, HS2_, HS3_, HS4_, HS5_⟩ (fun hHeld => ?_)
                  clear hK K
                  refine norm_ (a' := ?_) ?_ ?_
                  rotate_left
                  ·show Act.put _ (some 124) _ = _
                   simp only [Act.put, List.setIfInBounds_toArray, List.set_cons_zero, List.set_cons_succ, i64_w, i32_w]
                   rfl
                  refine done_ (done_of HT_.out (by kernel_rfl)) ?_
                  try go_wp2
                  go_roundg k4
                  case measure => have := HJ3.out; have := HK2.out; have := HK3.out; have := HK4.out; omega
                  case rel => exact ⟨(x11_4), (wrap64 (x12_4 + 1)), (by first | rfl | exact congrArg (fun b => Ending.returned (Value.bool b)) HR_.out | (simp; done) | (simp [*]; done)), (by first | rfl | exact congrArg (fun b => Ending.returned (Value.bool b)) HR_.out | (simp; done) | (simp [*]; done)), H', ⟨by have := HJ3.out; have := HK2.out; have := HK3.out; have := HK4.out; omega⟩, ⟨by exact RM_ HO_5.out⟩, ⟨by exact RM_ HO_6.out⟩, ⟨by exact SM_ HO_640000.out⟩, ⟨by exact SM_ HO_640001.out⟩, ⟨by exact KX_ BK639.out⟩, ⟨B1_⟩⟩
                 rw [if_neg c78] at H
                 exact absurd H (by simp)
                rw [if_neg c77] at H
                have c77b0 : decide (x12_4 < ((rd_L1 t635 x10_3).length : Int)) = false := decide_eq_false c77
                clear c77
                by_cases c89 : x11_4 ≥ 2
                ·rw [if_pos c89] at H
                 have c89b0 : decide (2 ≤ x11_4) = true := decide_eq_true c89
                 clear c89
                 by_cases c90 : x10_3 < (x6_2.length : Int)
                 ·rw [if_pos c90] at H
                  have c90b0 : decide (x10_3 < (x6_2.length : Int)) = true := decide_eq_true c90
                  clear c90
                  obtain ⟨bq91, hbq91⟩ : ∃ b_ : Bool, b_ = (rdOf false x6_2 x10_3) := ⟨_, rfl⟩
                  replace H : (if bq91 = true then (locksteplaw09_DepFrontier.l2 k4 l0 t643 x6_2 (wrap64 (x10_3 + 1)) t632 t635) else (some false)) = some true := by rw [← hbq91] at H; exact H
                  have Nbq91 := Aside0.mk hbq91
                  clear hbq91
                  by_cases c92 : bq91 = true
                  ·subst c92
                   have H1 : (locksteplaw09_DepFrontier.l2 k4 l0 t643 x6_2 (wrap64 (x10_3 + 1)) t632 t635) = some true := by rw [if_pos rfl] at H; exact H
                   clear H
                   have H := H1
                   clear H1
                   have H' := Aside0.mk H
                   clear H
                   have hcz93_0 : wr.cell? ⟨gb639, 0, none⟩ = some (.slice Ao16 t632.length co16) := (blk_cell BK639.out 0).trans rfl
                   have hcz93_1 : wr.cell? ⟨gb639, 1, none⟩ = some (.slice Ao18 t635.length co18) := (blk_cell BK639.out 1).trans rfl
                   have hfz93_0 := blk_frozen BK639.out 0
                   have hfz93_1 := blk_frozen BK639.out 1
                   have p667 : 0 ≤ (x10_3 : Int) := D_
                   have q667 : x10_3 < (t635.length : Int) := D_
                   obtain ⟨ad667, A667_0, c667_0, e667, hx667_0, hl667_0, hi667_0⟩ := at_L1 (Kd.S_reads' HO_640001.out).2.2 x10_3 p667 q667
                   cases e667
                   obtain ⟨ce667, hce667, hMe667, hcc667⟩ := Kd.S_get HO_640001.out [] x10_3 p667 (by first | exact q667 | exact D_ | (have e_ := (Kd.S_reads' HO_640001.out).1; omega))
                   obtain ⟨ve667_0, rfl, ge667_0⟩ := hMe667
                   have hv667_0 := hcc667 0 _ rfl
                   rw [Nat.add_zero, show ((Kd.slice 3 (Kd.int .i64))).sz = 1 from rfl, Nat.mul_one] at hv667_0
                   replace hv667_0 := Option.some.inj (hv667_0.symm.trans hx667_0)
                   rw [hv667_0] at ge667_0
                   have HL667_0 := A_ (show Kd.R (Kd.int .i64) 3 _ _ _ _ (rd_L1 t635 x10_3) from ge667_0)
                   clear hv667_0 ge667_0
                   clear hcc667 hce667
                   have HR667_0 := Aside0.mk hi667_0
                   have HC667_0 := Aside0.mk hl667_0
                   clear hi667_0 hl667_0
                   replace p667 := eq_true p667
                   replace q667 := eq_true q667
                   obtain ⟨Ao94, co94, eo94⟩ := Kd.R_slice HO_6.out
                   subst eo94
                   have p673 : 0 ≤ (x10_3 : Int) := D_
                   have q673 : x10_3 < (x6_2.length : Int) := D_
                   obtain ⟨ad673, e673, hx673_0⟩ := Kd.at_bool (Kd.R_reads' HO_6.out).2.2 x10_3 p673 q673
                   (try rw [← Nbq91.out] at hx673_0)
                   cases e673
                   replace p673 := eq_true p673
                   replace q673 := eq_true q673
                   go_wp2
                   go_roundg k4
                   case measure => have := HJ3.out; have := HK2.out; have := HK3.out; have := HK4.out; omega
                   case rel => exact ⟨(wrap64 (x10_3 + 1)), (by first | rfl | exact congrArg (fun b => Ending.returned (Value.bool b)) HR_.out | (simp; done) | (simp [*]; done)), H', ⟨by have := HJ3.out; have := HK2.out; have := HK3.out; have := HK4.out; omega⟩, ⟨by exact RM_ HO_5.out⟩, ⟨by exact RM_ HO_6.out⟩, ⟨by exact SM_ HO_640000.out⟩, ⟨by exact SM_ HO_640001.out⟩, ⟨by exact KX_ BK639.out⟩, ⟨B1_⟩⟩
                  replace c92 := Bool.eq_false_iff.mpr c92
                  subst c92
                  have H1 : (some false) = some true := by rw [if_neg (show ¬ (false = true) by decide)] at H; exact H
                  clear H
                  have H := H1
                  clear H1
                  exact absurd H (by simp)
                 rw [if_neg c90] at H
                 exact absurd H (by simp)
                rw [if_neg c89] at H
                have c89b0 : decide (2 ≤ x11_4) = false := decide_eq_false c89
                clear c89
                have H' := Aside0.mk H
                clear H
                have hcz95_0 : wr.cell? ⟨gb639, 0, none⟩ = some (.slice Ao16 t632.length co16) := (blk_cell BK639.out 0).trans rfl
                have hcz95_1 : wr.cell? ⟨gb639, 1, none⟩ = some (.slice Ao18 t635.length co18) := (blk_cell BK639.out 1).trans rfl
                have hfz95_0 := blk_frozen BK639.out 0
                have hfz95_1 := blk_frozen BK639.out 1
                have p667 : 0 ≤ (x10_3 : Int) := D_
                have q667 : x10_3 < (t635.length : Int) := D_
                obtain ⟨ad667, A667_0, c667_0, e667, hx667_0, hl667_0, hi667_0⟩ := at_L1 (Kd.S_reads' HO_640001.out).2.2 x10_3 p667 q667
                cases e667
                obtain ⟨ce667, hce667, hMe667, hcc667⟩ := Kd.S_get HO_640001.out [] x10_3 p667 (by first | exact q667 | exact D_ | (have e_ := (Kd.S_reads' HO_640001.out).1; omega))
                obtain ⟨ve667_0, rfl, ge667_0⟩ := hMe667
                have hv667_0 := hcc667 0 _ rfl
                rw [Nat.add_zero, show ((Kd.slice 3 (Kd.int .i64))).sz = 1 from rfl, Nat.mul_one] at hv667_0
                replace hv667_0 := Option.some.inj (hv667_0.symm.trans hx667_0)
                rw [hv667_0] at ge667_0
                have HL667_0 := A_ (show Kd.R (Kd.int .i64) 3 _ _ _ _ (rd_L1 t635 x10_3) from ge667_0)
                clear hv667_0 ge667_0
                clear hcc667 hce667
                have HR667_0 := Aside0.mk hi667_0
                have HC667_0 := Aside0.mk hl667_0
                clear hi667_0 hl667_0
                replace p667 := eq_true p667
                replace q667 := eq_true q667
                go_wp2
                go_roundg k4
                case measure => have := HJ3.out; have := HK2.out; have := HK3.out; have := HK4.out; omega
                case rel => exact ⟨(wrap64 (x10_3 + 1)), (by first | rfl | exact congrArg (fun b => Ending.returned (Value.bool b)) HR_.out | (simp; done) | (simp [*]; done)), H', ⟨by have := HJ3.out; have := HK2.out; have := HK3.out; have := HK4.out; omega⟩, ⟨by exact RM_ HO_5.out⟩, ⟨by exact RM_ HO_6.out⟩, ⟨by exact SM_ HO_640000.out⟩, ⟨by exact SM_ HO_640001.out⟩, ⟨by exact KX_ BK639.out⟩, ⟨B1_⟩⟩
               rw [if_neg c76] at H
               exact absurd H (by simp)
              rw [if_neg c75] at H
              exact absurd H (by simp)
           rw [if_neg c74] at H
           have c74b0 : decide (x10_3 < (l0.length : Int)) = false := decide_eq_false c74
           clear c74
           clear H
           go_wp2
           go_ret
           exact ⟨by first | rfl | exact congrArg (fun b => Ending.returned (Value.bool b)) HR_.out | (simp [errW_none, errW_some] <;> rfl) | (simp [*, errW_none, errW_some] <;> rfl), B1_⟩
      rw [if_neg c13] at H
      exact absurd H (by simp)
     rw [if_neg c12] at H
     exact absurd H (by simp)
    rw [if_neg c10] at H
    have c10b0 : (t638 == 0) = false := beq_eq_false_iff_ne.mpr c10
    have c10b1 : (t638 != 0) = true := bne_iff_ne.mpr c10
    replace H := Option.bind_eq_some_iff.mp H
    obtain ⟨t640, A960, H⟩ := H
    try dsimp only at H
    have A96 := Aside0.mk A960
    clear A960
    have HR_ := A_ (Option.some.inj H)
    clear H
    go_wp2_with (first | ((with_reducible refine gate_callee (f := 15) rfl ?_); refine goesL_ (some 25) rfl rfl Try.func15 (by kernel_rfl) rfl #[.slice A0 l0.length c0] rfl (by (try simp only [List.map_toArray, List.map_cons, List.map_nil]); first | done | rfl | (simp only [List.length_drop, List.length_take]; rfl)) ?_; (with_reducible refine (graph_Make.calls kj3 _ _ l0 t632 t635 t638 _ ?side1 ?side2 A9.out).mono ?_); (case side1 => exact CX_ (Kd.C_below HR0.out HB.out)); (case side2 => exact HC0.out); rintro e w97 ⟨v633, v636, rfl, ho0, ho1, hb⟩; refine ⟨_, rfl, ?_⟩; have HO634 := A_ (Kd.S_lower ho0 (below_size (B_))); have HO637 := A_ (Kd.S_lower ho1 (below_size (B_))); replace HB := A_ (below_step (B_) hb); (try clear hb); (try clear hb2); (try clear hk); (try clear hi); (try clear ho0); (try clear ho1)) | ((with_reducible refine gate_dst (N := 3) rfl ?_); refine box_event ?hg (N := 3) ?hd (cs := #[.slice none 0 0, .slice none 0 0]) (t := 26) ?hr ?_; (case hd => rfl); (case hg => rfl); (case hr => first | (go_simp; done) | (go_simp; rfl)); intro gb639 hg w98 hbox hb; replace HO634 := A_ (Kd.S_below (by exact SX_ HO634.out) hb); replace HO637 := A_ (Kd.S_below (by exact SX_ HO637.out) hb); have BK639 := A_ (hbox); have GW639 := A_ ((by rw [hg]; exact (below_size (B_)) : w.heap.size ≤ gb639)); have GE639 := A_ ((by rw [hg]; exact (below_size (B_)) : w.heap.size ≤ gb639)); replace HB := A_ (below_step (B_) hb); clear hb hbox hg; obtain ⟨Ao99, co99, eo99⟩ := Kd.S_slice HO634.out; subst eo99; have hcz100_0 : w98.cell? ⟨gb639, 0, none⟩ = some (.slice none 0 0) := (blk_cell BK639.out 0).trans rfl; have hcz100_1 : w98.cell? ⟨gb639, 1, none⟩ = some (.slice none 0 0) := (blk_cell BK639.out 1).trans rfl; have hfz100_0 := blk_frozen BK639.out 0; have hfz100_1 := blk_frozen BK639.out 1; obtain ⟨Ao101, co101, eo101⟩ := Kd.S_slice HO637.out; subst eo101) | ((with_reducible refine gate_callee (f := 13) rfl ?_); refine goesL_ (some 31) rfl rfl Try.func13 (by kernel_rfl) rfl #[.agg #[.slice Ao99 t632.length co99, .slice Ao101 t635.length co101], .int .i64 0] rfl (by (try simp only [List.map_toArray, List.map_cons, List.map_nil]); first | done | rfl | (simp only [List.length_drop, List.length_take]; rfl)) ?_; (with_reducible refine (dep_Frontier.calls kj3 _ _ t632 _ _ t635 0 t640 _ ?side1 ?side2 ?side3 ?side4 A96.out).mono ?_); (case side1 => refine (Kd.S_reads' (e := 31) (base := w.heap.size) (ok := fun k_ => some k_ ≠ (.slice Ao101 t635.length co101 : Value).ownBlock) (n := t632.length) (c := co99) ?_).2.2; exact (by (with_reducible repeat (first | apply Kd.S_alloc | apply Kd.S_drewN | apply Kd.S_drew)); exact (Kd.S_mono (Kd.S_far (p := ⟨gb639, 1, none⟩) (Kd.S_far (p := ⟨gb639, 0, none⟩) (Kd.S_types HO634.out BK639.out (by decide)) (fun _ hk => hk.2) (.slice Ao99 t632.length co99)) (fun _ hk => hk.2) (.slice Ao101 t635.length co101)) (fun _ h_ => h_.1)))); (case side2 => exact (Kd.S_reads' HO634.out).2.1); (case side3 => refine (Kd.S_reads' (e := 31) (base := w.heap.size) (ok := fun k_ => some k_ ≠ (.slice Ao99 t632.length co99 : Value).ownBlock) (n := t635.length) (c := co101) ?_).2.2; exact (by (with_reducible repeat (first | apply Kd.S_alloc | apply Kd.S_drewN | apply Kd.S_drew)); exact (Kd.S_mono (Kd.S_far (p := ⟨gb639, 1, none⟩) (Kd.S_far (p := ⟨gb639, 0, none⟩) (Kd.S_types HO637.out BK639.out (by decide)) (fun _ hk => hk.2) (.slice Ao99 t632.length co99)) (fun _ hk => hk.2) (.slice Ao101 t635.length co101)) (fun _ h_ => h_.1)))); (case side4 => exact (Kd.S_reads' HO637.out).2.1); rintro e w102 ⟨v641, rfl, ho0, hb⟩; refine ⟨_, rfl, ?_⟩; replace HO634 := A_ (Kd.S_elder' (by (with_reducible repeat (first | apply Kd.S_alloc | apply Kd.S_drewN | apply Kd.S_drew)); exact (Kd.S_mono (Kd.S_far (p := ⟨gb639, 1, none⟩) (Kd.S_far (p := ⟨gb639, 0, none⟩) (Kd.S_types HO634.out BK639.out (by decide)) (fun _ hk => hk.2) (.slice Ao99 t632.length co99)) (fun _ hk => hk.2) (.slice Ao101 t635.length co101)) (fun _ h_ => h_.1))) (Kd.R_base ho0) hb); replace HO637 := A_ (Kd.S_elder' (by (with_reducible repeat (first | apply Kd.S_alloc | apply Kd.S_drewN | apply Kd.S_drew)); exact (Kd.S_mono (Kd.S_far (p := ⟨gb639, 1, none⟩) (Kd.S_far (p := ⟨gb639, 0, none⟩) (Kd.S_types HO637.out BK639.out (by decide)) (fun _ hk => hk.2) (.slice Ao99 t632.length co99)) (fun _ hk => hk.2) (.slice Ao101 t635.length co101)) (fun _ h_ => h_.1))) (Kd.R_base ho0) hb); have HO642 := A_ (Kd.R_lower ho0 (below_size (B1_))); replace BK639 := A_ (blk_below (g := gb639) (o := .cells #[.slice Ao99 t632.length co99, .slice Ao101 t635.length co101] 26 (0, 0)) (by (with_reducible repeat (first | refine blk_drewN ?_ _ | refine blk_drew ?_ | refine blk_alloc ?_ _)); refine blk_put (cs := #[.slice Ao99 t632.length co99, .slice none 0 0]) ?_ 1 _ rfl; (with_reducible repeat (first | refine blk_drewN ?_ _ | refine blk_drew ?_ | refine blk_alloc ?_ _)); refine blk_put (cs := #[.slice none 0 0, .slice none 0 0]) ?_ 0 _ rfl; exact KX_ BK639.out) hb); replace HB := A_ (below_step (B1_) hb); (try clear hb); (try clear hb2); (try clear hk); (try clear hi); (try clear ho0); obtain ⟨Ao103, co103, eo103⟩ := Kd.R_slice HO642.out; subst eo103))
    go_ret
    exact ⟨by first | rfl | exact congrArg (fun b => Ending.returned (Value.bool b)) HR_.out | (simp [errW_none, errW_some] <;> rfl) | (simp [*, errW_none, errW_some] <;> rfl), B1_⟩
 replace c3 := Bool.eq_false_iff.mpr c3
 subst c3
 have H1 : (some false) = some true := by rw [if_neg (show ¬ (false = true) by decide)] at H; exact H
 clear H
 have H := H1
 clear H1
 exact absurd H (by simp)

/-- THE ONE PURE STATEMENT of locksteplaw09_DepFrontier: yours. -/
def locksteplaw09_DepFrontier.Pure : Prop := ∀ (l0 : List (List Int)), RowsOk .i64 l0 → ∃ k, locksteplaw09_DepFrontier.f k l0 = some true
theorem locksteplaw09_DepFrontier.walk (P : locksteplaw09_DepFrontier.Pure) (a0 : Option Addr) (cap0 : Nat) (l0 : List (List Int)) (w : World) (w0 : Kd.C (Kd.slice 3 (Kd.int .i64)) w a0 l0.length l0) (y0 : l0.length ≤ cap0) (m0 : RowsOk .i64 l0) :
 Calls Try.prog 6 #[.slice a0 l0.length cap0] w fun e w' => e = .returned (.bool true) ∧ Below w.heap.size w w' := by
 obtain ⟨k, h⟩ := P l0 m0
 refine (locksteplaw09_DepFrontier.calls k _ _ l0 w w0 y0 h).mono ?_
 rintro e w' ⟨rfl, hd⟩
 exact ⟨rfl, hd⟩

end Go.Proofs.Ytheillkpgmpnlaa.G
namespace Go.Proofs.Ytheillkpgmpnlaa.GP
open Go.RowKit Go.Proofs.Ytheillkpgmpnlaa.G Go.Proofs.YtheillkpgmpnlaaW.PrintWords

/-- With enough rounds the answer is v. -/
def Ev {α : Type} (f : Nat → Option α) (v : α) : Prop := ∃ K, ∀ k, K ≤ k → f k = some v
theorem Ev.succ {α : Type} {f : Nat → Option α} {v : α} (h : Ev (fun k => f (k + 1)) v) : Ev f v := by
  obtain ⟨K, h⟩ := h
  refine ⟨K + 1, fun k hk => ?_⟩
  obtain ⟨m, rfl⟩ : ∃ m, k = m + 1 := ⟨k - 1, by omega⟩
  exact h m (by omega)
theorem Ev.bind {α β : Type} {g : Nat → Option α} {h : Nat → α → Option β} {a : α} {r : β} (h1 : Ev g a) (h2 : Ev (fun k => h k a) r) : Ev (fun k => (g k).bind (fun t => h k t)) r := by
  obtain ⟨K1, h1⟩ := h1
  obtain ⟨K2, h2⟩ := h2
  refine ⟨K1 + K2, fun k hk => ?_⟩
  simp only [h1 k (by omega), Option.bind_some]
  exact h2 k (by omega)
theorem Ev.pure {α : Type} {v : α} : Ev (fun _ => some v) v := ⟨0, fun _ _ => rfl⟩
theorem Ev.ifp {α : Type} {c : Prop} [Decidable c] {a b : Nat → Option α} {v : α} (h : c) (H : Ev a v) : Ev (fun k => if c then a k else b k) v := by
  simp only [if_pos h]; exact H
theorem Ev.ifn {α : Type} {c : Prop} [Decidable c] {a b : Nat → Option α} {v : α} (h : ¬ c) (H : Ev b v) : Ev (fun k => if c then a k else b k) v := by
  simp only [if_neg h]; exact H
theorem Ev.at {α : Type} {f : Nat → Option α} {v : α} (h : Ev f v) : ∃ k, f k = some v := by
  obtain ⟨K, h⟩ := h; exact ⟨K, h K (Nat.le_refl _)⟩
theorem Ev.of_eq {α : Type} {f : Nat → Option α} {v w : α} (h : Ev f v) (e : v = w) : Ev f w := e ▸ h
theorem Ev.of_at {α : Type} {f : Nat → Option α} {v : α} (m : ∀ k, LeO (f k) (f (k + 1))) {K : Nat} (h : f K = some v) : Ev f v := by
  refine ⟨K, fun k hk => ?_⟩
  obtain ⟨d, rfl⟩ : ∃ d, k = K + d := ⟨k - K, by omega⟩
  clear hk
  induction d with
  | zero => exact h
  | succ d ih => exact m _ _ ih

theorem wrap_nat {i : Nat} (h : i < 9223372036854775807) : wrap64 ((i : Int) + 1) = ((i + 1 : Nat) : Int) := by unfold wrap64; omega
theorem wrap_id {x : Int} (h : -9223372036854775808 ≤ x) (h' : x ≤ 9223372036854775807) : wrap64 x = x := by unfold wrap64; omega

/-- Numbers as blocks' numbers. -/
def up (l : List Nat) : List Int := l.map (fun n : Nat => (n : Int))
def up2 (S : List (List Nat)) : List (List Int) := S.map up
@[simp] theorem up_length (l : List Nat) : (up l).length = l.length := by simp [up]
@[simp] theorem up2_length (S : List (List Nat)) : (up2 S).length = S.length := by simp [up2]
@[simp] theorem up_nil : up [] = [] := rfl
@[simp] theorem up2_nil : up2 [] = [] := rfl
theorem up_append (a b : List Nat) : up (a ++ b) = up a ++ up b := by simp [up]
theorem up_inj {a b : List Nat} (h : up a = up b) : a = b := by
  induction a generalizing b with
  | nil => cases b with
    | nil => rfl
    | cons y b => simp [up] at h
  | cons x a ih => cases b with
    | nil => simp [up] at h
    | cons y b =>
      simp only [up, List.map_cons, List.cons.injEq] at h
      rw [show x = y by omega, ih h.2]
theorem up2_inj {a b : List (List Nat)} (h : up2 a = up2 b) : a = b := by
  induction a generalizing b with
  | nil => cases b with
    | nil => rfl
    | cons y b => simp [up2] at h
  | cons x a ih => cases b with
    | nil => simp [up2] at h
    | cons y b =>
      simp only [up2, List.map_cons, List.cons.injEq] at h
      rw [up_inj h.1, ih h.2]
theorem rd_up (l : List Nat) (i : Nat) : rd (up l) (i : Int) = ((l.getD i 0 : Nat) : Int) := by
  simp only [rd, up, Int.toNat_natCast, List.getD_eq_getElem?_getD, List.getElem?_map]
  cases l[i]? <;> rfl
theorem rdL_up (S : List (List Nat)) (i : Nat) : rd_L1 (up2 S) (i : Int) = up (S.getD i []) := by
  simp only [rd_L1, up2, Int.toNat_natCast, List.getD_eq_getElem?_getD, List.getElem?_map]
  cases S[i]? <;> rfl
theorem getD_mem {α : Type} {l : List α} {i : Nat} {d : α} (h : i < l.length) : l.getD i d ∈ l := by
  rw [List.getD_eq_getElem?_getD, List.getElem?_eq_getElem h]; exact List.getElem_mem h
theorem drop_getD {α : Type} (l : List α) (i : Nat) (d : α) (h : i < l.length) : l.drop i = l.getD i d :: l.drop (i + 1) := by
  rw [List.drop_eq_getElem_cons h, List.getD_eq_getElem?_getD, List.getElem?_eq_getElem h]; rfl
theorem take_getD {α : Type} (l : List α) (i : Nat) (d : α) (h : i < l.length) : l.take (i + 1) = l.take i ++ [l.getD i d] := by
  rw [List.take_succ_eq_append_getElem h, List.getD_eq_getElem?_getD, List.getElem?_eq_getElem h]; rfl
theorem getD_map_range {α : Type} (n : Nat) (f : Nat → α) (i : Nat) (d : α) (h : i < n) : ((List.range n).map f).getD i d = f i := by
  rw [List.getD_eq_getElem?_getD, List.getElem?_map, List.getElem?_range h]; rfl
theorem set_map_range {α : Type} (n : Nat) (f g : Nat → α) (i : Nat) (v : α) (hv : g i = v) (he : ∀ j, j ≠ i → g j = f j) : ((List.range n).map f).set i v = (List.range n).map g := by
  apply List.ext_getElem
  · simp
  · intro j h1 h2
    simp only [List.getElem_set, List.getElem_map, List.getElem_range]
    split
    · next e => rw [← e, hv]
    · next e => rw [he j (fun h => e h.symm)]
theorem self_map_range {α : Type} (l : List α) (d : α) : l = (List.range l.length).map (fun i => l.getD i d) := by
  apply List.ext_getElem
  · simp
  · intro j h1 h2
    simp only [List.getElem_map, List.getElem_range, List.getD_eq_getElem?_getD, List.getElem?_eq_getElem h1]; rfl
theorem ext_getD {α : Type} {a b : List α} (d : α) (hl : a.length = b.length) (h : ∀ i, i < a.length → a.getD i d = b.getD i d) : a = b := by
  rw [self_map_range a d, self_map_range b d, hl]
  exact List.map_congr_left (fun i hi => h i (by have := List.mem_range.mp hi; omega))

/-- Each number greater than the one ahead, and below n. -/
def rsg (n : Int) : Int → List Int → Bool
  | _, [] => true
  | last, x :: xs => if x ≤ last then false else if x ≥ n then false else rsg n x xs

def big : Nat := 9223372036854775807

theorem rising_l0 (d : Nat) : ∀ (i : Nat) (n last : Int) (l : List Int), l.length ≤ big → i ≤ l.length → l.length - i = d → Ev (fun k => graph_rising.l0 k n last l (l.length : Int) (i : Int)) (rsg n last (l.drop i)) := by
  induction d with
  | zero =>
    intro i n last l hb hi hd
    refine Ev.succ ?_; simp only [graph_rising.l0]
    rw [List.drop_of_length_le (by omega)]
    exact Ev.ifn (by omega) Ev.pure
  | succ d ih =>
    intro i n last l hb hi hd
    have h1 : i < l.length := by omega
    have hbb : big = 9223372036854775807 := rfl
    refine Ev.succ ?_; simp only [graph_rising.l0]
    refine Ev.ifp (by omega) (Ev.ifp (by omega) (Ev.ifp (by omega) ?_))
    rw [drop_getD l i 0 h1, show rd l (i : Int) = l.getD i 0 by simp [rd]]
    simp only [rsg]
    split
    · exact Ev.pure
    · split
      · exact Ev.pure
      · rw [wrap_nat (by omega)]
        exact ih (i + 1) _ _ l hb (by omega) (by omega)
theorem make1_ok (l : List Int) (n : Int) (h : l.length ≤ big) : Ev (fun k => graph_Make_1.f k l n) (!rsg n (-1) l) := by
  unfold graph_Make_1.f graph_rising.f
  exact Ev.bind (a := rsg n (-1) l) (by simpa using rising_l0 l.length 0 n (-1) l h (by omega) (by omega)) Ev.pure
theorem index_l0 (d : Nat) : ∀ (i : Nat) (n : Int) (s : List (List Int)), s.length ≤ big → (∀ l ∈ s, l.length ≤ big) → i ≤ s.length → s.length - i = d →
    ∃ v, Ev (fun k => slices_IndexFunc_int_int_graph_Make_1.l0 k s (s.length : Int) (i : Int) n) v ∧ decide (v ≥ 0) = (s.drop i).any (fun l => !rsg n (-1) l) := by
  induction d with
  | zero =>
    intro i n s hb hr hi hd
    refine ⟨-1, Ev.succ ?_, by rw [List.drop_of_length_le (by omega)]; rfl⟩
    simp only [slices_IndexFunc_int_int_graph_Make_1.l0]
    exact Ev.ifn (by omega) Ev.pure
  | succ d ih =>
    intro i n s hb hr hi hd
    have h1 : i < s.length := by omega
    have hbb : big = 9223372036854775807 := rfl
    have hrd : rd_L1 s (i : Int) = s.getD i [] := by simp [rd_L1]
    rw [drop_getD s i [] h1, List.any_cons]
    cases hv : rsg n (-1) (s.getD i []) with
    | false =>
      refine ⟨(i : Int), Ev.succ ?_, by simp⟩
      simp only [slices_IndexFunc_int_int_graph_Make_1.l0]
      refine Ev.ifp (by omega) (Ev.ifp (by omega) (Ev.ifp (by omega) ?_))
      refine Ev.bind (make1_ok _ n (by rw [hrd]; exact hr _ (getD_mem h1))) ?_
      rw [hrd, hv]
      exact Ev.ifp rfl Ev.pure
    | true =>
      obtain ⟨v, he, hd'⟩ := ih (i + 1) n s hb hr (by omega) (by omega)
      refine ⟨v, Ev.succ ?_, by simpa using hd'⟩
      simp only [slices_IndexFunc_int_int_graph_Make_1.l0]
      refine Ev.ifp (by omega) (Ev.ifp (by omega) (Ev.ifp (by omega) ?_))
      refine Ev.bind (make1_ok _ n (by rw [hrd]; exact hr _ (getD_mem h1))) ?_
      rw [hrd, hv]
      refine Ev.ifn (by decide) ?_
      rw [wrap_nat (by omega)]; exact he
theorem contains_ok (s : List (List Int)) (n : Int) (hb : s.length ≤ big) (hr : ∀ l ∈ s, l.length ≤ big) : Ev (fun k => slices_ContainsFunc_int_int_graph_Make_1.f k s n) (s.any (fun l => !rsg n (-1) l)) := by
  obtain ⟨v, he, hd⟩ := index_l0 s.length 0 n s hb hr (by omega) (by omega)
  unfold slices_ContainsFunc_int_int_graph_Make_1.f slices_IndexFunc_int_int_graph_Make_1.f
  have hd' : decide (v ≥ 0) = s.any (fun l => !rsg n (-1) l) := by simpa using hd
  exact (Ev.bind (h := fun _ t => some (decide (t ≥ 0))) (by simpa using he) Ev.pure).of_eq hd'

/-- May these lists be a graph's ways on? -/
def goodb (s : List (List Int)) : Bool := decide (1 ≤ s.length) && (decide (s.length ≤ 64) && s.all (rsg (s.length : Int) (-1)))
/-- A graph's ways on. -/
structure Gr (S : List (List Nat)) : Prop where
  pos : 0 < S.length
  le : S.length ≤ 64
  row : ∀ i, i < S.length → (S.getD i []).Pairwise (· < ·) ∧ ∀ y ∈ S.getD i [], y < S.length
/-- Where blocks come from. -/
def pr (S : List (List Nat)) : List (List Nat) := (List.range S.length).map fun j => (List.range S.length).filter fun i => decide (j ∈ S.getD i [])

theorem rsg_spec : ∀ (l : List Int) (n last : Int), rsg n last l = true → l.Pairwise (· < ·) ∧ (∀ x ∈ l, last < x ∧ x < n) := by
  intro l
  induction l with
  | nil => intro n last _; simp
  | cons x l ih =>
    intro n last h
    simp only [rsg] at h
    split at h
    · cases h
    · split at h
      · cases h
      · obtain ⟨h1, h2⟩ := ih n x h
        refine ⟨List.pairwise_cons.mpr ⟨fun y hy => (h2 y hy).1, h1⟩, fun y hy => ?_⟩
        rcases List.mem_cons.mp hy with rfl | hy
        · omega
        · have := h2 y hy; omega
theorem rsg_of : ∀ (l : List Int) (n last : Int), l.Pairwise (· < ·) → (∀ x ∈ l, last < x ∧ x < n) → rsg n last l = true := by
  intro l
  induction l with
  | nil => intro n last _ _; rfl
  | cons x l ih =>
    intro n last h h2
    have h3 := h2 x (List.mem_cons_self ..)
    simp only [rsg]
    rw [if_neg (by omega), if_neg (by omega)]
    obtain ⟨h4, h5⟩ := List.pairwise_cons.mp h
    exact ih n x h5 (fun y hy => ⟨h4 y hy, (h2 y (List.mem_cons_of_mem _ hy)).2⟩)
theorem good_gr {s : List (List Int)} (h : goodb s = true) : ∃ S, Gr S ∧ s = up2 S := by
  simp only [goodb, Bool.and_eq_true, decide_eq_true_eq, List.all_eq_true] at h
  obtain ⟨h1, h2, h3⟩ := h
  have hr : ∀ l ∈ s, up (l.map Int.toNat) = l := by
    intro l hl
    have := rsg_spec l _ _ (h3 l hl)
    simp only [up, List.map_map]
    conv => rhs; rw [← List.map_id l]
    exact List.map_congr_left (fun x hx => by have := (this.2 x hx).1; simp; omega)
  have hs : up2 (s.map (fun l => l.map Int.toNat)) = s := by
    simp only [up2, List.map_map]
    conv => rhs; rw [← List.map_id s]
    exact List.map_congr_left (fun l hl => hr l hl)
  refine ⟨s.map (fun l => l.map Int.toNat), ⟨by simp; omega, by simpa using h2, fun i hi => ?_⟩, hs.symm⟩
  have hi' : i < s.length := by simpa using hi
  have hl := getD_mem (d := []) hi'
  have hq : (s.map (fun l => l.map Int.toNat)).getD i [] = (s.getD i []).map Int.toNat := by
    simp only [List.getD_eq_getElem?_getD, List.getElem?_map, List.getElem?_eq_getElem hi']; rfl
  have h4 := rsg_spec _ _ _ (h3 _ hl)
  rw [hq]
  refine ⟨List.pairwise_map.mpr (h4.1.imp_of_mem (fun ha hb hab => by have := h4.2 _ ha; have := h4.2 _ hb; omega)), fun y hy => ?_⟩
  obtain ⟨x, hx, rfl⟩ := List.mem_map.mp hy
  have := h4.2 x hx
  simp; omega
theorem gr_good {S : List (List Nat)} (h : Gr S) : goodb (up2 S) = true := by
  simp only [goodb, Bool.and_eq_true, decide_eq_true_eq, List.all_eq_true, up2_length]
  refine ⟨h.pos, h.le, fun l hl => ?_⟩
  obtain ⟨r, hr, rfl⟩ := List.mem_map.mp hl
  obtain ⟨i, hi, hri⟩ := List.getElem_of_mem hr
  have h2 := h.row i hi
  rw [List.getD_eq_getElem?_getD, List.getElem?_eq_getElem hi, hri] at h2
  simp only [Option.getD_some] at h2
  refine rsg_of _ _ _ (List.pairwise_map.mpr (h2.1.imp (fun h => by omega))) (fun x hx => ?_)
  obtain ⟨y, hy, rfl⟩ := List.mem_map.mp hx
  have := h2.2 y hy; omega

theorem pw_len (n : Nat) : ∀ (l : List Nat) (lo : Nat), l.Pairwise (· < ·) → (∀ x ∈ l, lo ≤ x ∧ x < n) → lo ≤ n → l.length + lo ≤ n := by
  intro l
  induction l with
  | nil => intro lo _ _ h; simpa using h
  | cons x l ih =>
    intro lo h h2 hlo
    obtain ⟨h4, h5⟩ := List.pairwise_cons.mp h
    have h3 := h2 x (List.mem_cons_self ..)
    have := ih (x + 1) h5 (fun y hy => ⟨h4 y hy, (h2 y (List.mem_cons_of_mem _ hy)).2⟩) (by omega)
    simp only [List.length_cons]; omega
theorem gr_len {S : List (List Nat)} (h : Gr S) {i : Nat} (hi : i < S.length) : (S.getD i []).length ≤ 64 := by
  have := pw_len S.length _ 0 (h.row i hi).1 (fun x hx => ⟨Nat.zero_le _, (h.row i hi).2 x hx⟩) (Nat.zero_le _)
  have := h.le; omega
/-! #### the ways back -/
theorem gr_nodup {S : List (List Nat)} (h : Gr S) {i : Nat} (hi : i < S.length) : (S.getD i []).Nodup := (h.row i hi).1.imp (fun h => Nat.ne_of_lt h)
/-- The ways back when i rows are gone through, and m of row i. -/
def prAt (S : List (List Nat)) (i m j : Nat) : List Nat := (List.range i).filter (fun i => decide (j ∈ S.getD i [])) ++ if j ∈ (S.getD i []).take m then [i] else []
def prI (S : List (List Nat)) (i m : Nat) : List (List Int) := (List.range S.length).map fun j => up (prAt S i m j)
theorem prI_succ (S : List (List Nat)) (i : Nat) : prI S i (S.getD i []).length = prI S (i + 1) 0 := by
  unfold prI
  refine List.map_congr_left (fun j _ => ?_)
  simp only [prAt, List.take_length, List.take_zero, List.range_succ, List.filter_append, List.not_mem_nil, if_false, List.append_nil]
  congr 2
  by_cases hj : j ∈ S.getD i []
  · rw [if_pos hj, List.filter_cons_of_pos (by simpa using hj)]; rfl
  · rw [if_neg hj, List.filter_cons_of_neg (by simpa using hj)]; rfl
theorem preds_end {S : List (List Nat)} : prI S S.length 0 = up2 (pr S) := by
  simp only [prI, pr, up2, List.map_map]
  refine List.map_congr_left (fun j _ => ?_)
  simp [prAt]
theorem preds_l1 {S : List (List Nat)} (h : Gr S) (i : Nat) (hi : i < S.length) (v : List (List Int)) (H : Ev (fun k => graph_preds.l0 k (prI S (i + 1) 0) (up2 S) (S.length : Int) ((i + 1 : Nat) : Int)) v) (d : Nat) :
    ∀ m, m ≤ (S.getD i []).length → (S.getD i []).length - m = d → Ev (fun k => graph_preds.l1 k (prI S i m) (i : Int) (up2 S) (S.length : Int) (i : Int) (up (S.getD i [])) ((S.getD i []).length : Int) (m : Int)) v := by
  have hle := h.le
  have hlen := gr_len h hi
  induction d with
  | zero =>
    intro m hm hd
    refine Ev.succ ?_; simp only [graph_preds.l1]
    refine Ev.ifn (by omega) ?_
    rw [wrap_nat (by omega), show m = (S.getD i []).length by omega, prI_succ]
    exact H
  | succ d ih =>
    intro m hm hd
    have h1 : m < (S.getD i []).length := by omega
    refine Ev.succ ?_; simp only [graph_preds.l1]
    rw [rd_up]
    have hy := (h.row i hi).2 _ (getD_mem (d := 0) h1)
    have hyn : (S.getD i []).getD m 0 ∉ (S.getD i []).take m := by
      intro hc
      have h3 : (S.getD i []).Nodup := gr_nodup h hi
      have h2 := take_getD _ m 0 h1
      have h4 : ((S.getD i []).take (m + 1)).Nodup := h3.sublist (List.take_sublist _ _)
      rw [h2, List.nodup_append] at h4
      exact h4.2.2 _ hc _ (List.mem_singleton.mpr rfl) rfl
    generalize hyv : (S.getD i []).getD m 0 = y at hy hyn
    have hrow : rd_L1 (prI S i m) (y : Int) = up (prAt S i m y) := by
      simp only [rd_L1, Int.toNat_natCast, prI]
      exact getD_map_range _ _ _ _ hy
    have hpl : (prAt S i m y).length ≤ 65 := by
      simp only [prAt, List.length_append]
      have := List.length_filter_le (fun i => decide (y ∈ S.getD i [])) (List.range i)
      simp only [List.length_range] at this
      split
      · rw [List.length_singleton]; omega
      · rw [List.length_nil]; omega
    refine Ev.ifp (by omega) (Ev.ifp (by omega) (Ev.ifp (by rw [up_length]; omega) (Ev.ifp (by omega) (Ev.ifp (by simp [prI]; omega) ?_))))
    rw [hrow]
    refine Ev.ifp (by rw [up_length]; omega) ?_
    have hset : (prI S i m).set y (up (prAt S i m y) ++ [(i : Int)]) = prI S i (m + 1) := by
      refine set_map_range _ _ _ _ _ ?_ (fun j hj => ?_)
      · simp only [prAt]
        rw [take_getD _ m 0 h1, hyv, if_neg hyn, if_pos (by simp)]
        simp [up]
      · simp only [prAt]
        rw [take_getD _ m 0 h1, hyv]
        congr 2
        simp [hj]
    rw [Int.toNat_natCast, hset, wrap_nat (by omega)]
    exact ih (m + 1) (by omega) (by omega)
theorem preds_l0 {S : List (List Nat)} (h : Gr S) (d : Nat) : ∀ i, i ≤ S.length → S.length - i = d → Ev (fun k => graph_preds.l0 k (prI S i 0) (up2 S) (S.length : Int) (i : Int)) (up2 (pr S)) := by
  have hle := h.le
  induction d with
  | zero =>
    intro i hi hd
    refine Ev.succ ?_; simp only [graph_preds.l0]
    refine Ev.ifn (by omega) ?_
    rw [show i = S.length by omega, preds_end]
    exact Ev.pure
  | succ d ih =>
    intro i hi hd
    refine Ev.succ ?_; simp only [graph_preds.l0]
    refine Ev.ifp (by omega) (Ev.ifp (by omega) (Ev.ifp (by simp; omega) ?_))
    rw [rdL_up, up_length]
    exact preds_l1 h i (by omega) _ (ih (i + 1) (by omega) (by omega)) _ 0 (by omega) rfl
theorem preds_ok {S : List (List Nat)} (h : Gr S) : Ev (fun k => graph_preds.f k (up2 S)) (up2 (pr S)) := by
  have hle := h.le
  unfold graph_preds.f
  refine Ev.ifp (by omega) (Ev.ifp (by simp; omega) ?_)
  have h0 := preds_l0 h S.length 0 (by omega) (by omega)
  have e : List.replicate (((up2 S).length : Int)).toNat ([] : List Int) = prI S 0 0 := by
    simp only [up2_length, Int.toNat_natCast, prI]
    apply List.ext_getElem
    · simp
    · intro j h1 h2; simp [prAt]
  rw [e, up2_length]
  exact h0

/-! #### graph.Make -/
theorem clone_ok (l : List Int) (h : l.length < 17592186044416) : slices_Clone_int_int.f l = some l := by
  simp [slices_Clone_int_int.f, h]
theorem make_l0 {S : List (List Nat)} (h : Gr S) (d : Nat) : ∀ i, i ≤ S.length → S.length - i = d → Ev (fun k => graph_Make.l0 k (up2 (S.take i)) (up2 S) (S.length : Int) (i : Int)) (up2 S, up2 (pr S), 0) := by
  have hle := h.le
  induction d with
  | zero =>
    intro i hi hd
    refine Ev.succ ?_; simp only [graph_Make.l0]
    refine Ev.ifn (by omega) ?_
    rw [List.take_of_length_le (by omega)]
    exact Ev.bind (preds_ok h) Ev.pure
  | succ d ih =>
    intro i hi hd
    have h1 : i < S.length := by omega
    have hlen := gr_len h h1
    refine Ev.succ ?_; simp only [graph_Make.l0]
    refine Ev.ifp (by omega) (Ev.ifp (by omega) (Ev.ifp (by simp; omega) ?_))
    rw [rdL_up, clone_ok _ (by rw [up_length]; omega)]
    simp only [Option.bind_some]
    refine Ev.ifp (by simp; omega) ?_
    have e : up2 (S.take i) ++ [up (S.getD i [])] = up2 (S.take (i + 1)) := by rw [take_getD S i [] h1]; simp [up2]
    rw [e, wrap_nat (by omega)]
    exact ih (i + 1) (by omega) (by omega)
theorem make_ok {S : List (List Nat)} (h : Gr S) : Ev (fun k => graph_Make.f k (up2 S)) (up2 S, up2 (pr S), 0) := by
  have hle := h.le; have hpos := h.pos
  have hg := gr_good h
  simp only [goodb, Bool.and_eq_true, decide_eq_true_eq, List.all_eq_true] at hg
  unfold graph_Make.f
  refine Ev.ifn (by simp; omega) (Ev.ifn (by simp; omega) ?_)
  have hrow : ∀ l ∈ up2 S, l.length ≤ big := by
    intro l hl
    obtain ⟨r, hr, rfl⟩ := List.mem_map.mp hl
    obtain ⟨i, hi, hri⟩ := List.getElem_of_mem hr
    have hsub := gr_len h hi
    rw [List.getD_eq_getElem?_getD, List.getElem?_eq_getElem hi, hri, Option.getD_some] at hsub
    rw [up_length]; simp only [big]; omega
  refine Ev.bind (contains_ok (up2 S) _ (by simp [big]; omega) hrow) ?_
  have e : (up2 S).any (fun l => !rsg ((up2 S).length : Int) (-1) l) = false := by
    rw [List.any_eq_false]
    intro l hl; rw [hg.2.2 l hl]; decide
  rw [e]
  refine Ev.succ ?_; simp only [graph_Make.j0]
  refine Ev.ifn (by decide) (Ev.ifp (by omega) (Ev.ifp (by simp; omega) ?_))
  simpa using make_l0 h S.length 0 (by omega) (by omega)
theorem make_bad {s : List (List Int)} (hb : s.length ≤ big) (hr : ∀ l ∈ s, l.length ≤ big) (h : goodb s = false) : Ev (fun k => graph_Make.f k s) ([], [], 5) := by
  unfold graph_Make.f
  have hj : ∀ n, Ev (fun k => graph_Make.j0 k s true n) (([] : List (List Int)), ([] : List (List Int)), (5 : Int)) := by
    intro n; refine Ev.succ ?_; simp only [graph_Make.j0]; exact Ev.ifp trivial Ev.pure
  by_cases h1 : (s.length : Int) < 1
  · exact Ev.ifp h1 (hj _)
  · refine Ev.ifn h1 ?_
    by_cases h2 : (s.length : Int) > 64
    · exact Ev.ifp h2 (hj _)
    · refine Ev.ifn h2 (Ev.bind (contains_ok s _ hb hr) ?_)
      have e : s.any (fun l => !rsg (s.length : Int) (-1) l) = true := by
        simp only [goodb] at h
        rw [decide_eq_true (by omega), decide_eq_true (by omega), Bool.true_and, Bool.true_and] at h
        rw [← Bool.not_eq_false, List.any_eq_false]
        intro hc
        have : s.all (rsg (s.length : Int) (-1)) = true := List.all_eq_true.mpr (fun l hl => by have := hc l hl; simpa using this)
        rw [h] at this; cases this
      rw [e]; exact hj _

theorem equal_l0 (d : Nat) : ∀ (i : Nat) (a b : List Int), a.length = b.length → a.length ≤ big → i ≤ a.length → a.length - i = d → Ev (fun k => slices_Equal_int_int.l0 k a b (a.length : Int) (i : Int)) (decide (a.drop i = b.drop i)) := by
  induction d with
  | zero =>
    intro i a b hl hb hi hd
    refine Ev.succ ?_; simp only [slices_Equal_int_int.l0]
    refine Ev.ifn (by omega) ?_
    rw [List.drop_of_length_le (by omega), List.drop_of_length_le (by omega)]
    exact Ev.pure.of_eq (by simp)
  | succ d ih =>
    intro i a b hl hb hi hd
    have hbb : big = 9223372036854775807 := rfl
    refine Ev.succ ?_; simp only [slices_Equal_int_int.l0]
    refine Ev.ifp (by omega) (Ev.ifp (by omega) (Ev.ifp (by omega) (Ev.ifp (by omega) ?_)))
    rw [show rd a (i : Int) = a.getD i 0 by simp [rd], show rd b (i : Int) = b.getD i 0 by simp [rd]]
    rw [drop_getD a i 0 (by omega), drop_getD b i 0 (by omega)]
    by_cases h : a.getD i 0 = b.getD i 0
    · refine Ev.ifp h ?_
      rw [wrap_nat (by omega)]
      exact (ih (i + 1) a b hl hb (by omega) (by omega)).of_eq (by rw [h]; simp)
    · refine Ev.ifn h (Ev.pure.of_eq ?_)
      rw [decide_eq_false]
      intro he; injection he with h1 _; exact h h1
theorem equal_ok (a b : List Int) (hb : a.length ≤ big) : Ev (fun k => slices_Equal_int_int.f k a b) (decide (a = b)) := by
  unfold slices_Equal_int_int.f
  by_cases h : a.length = b.length
  · refine Ev.ifp (by omega) ?_
    simpa using equal_l0 a.length 0 a b h hb (by omega) (by omega)
  · refine Ev.ifn (by omega) (Ev.pure.of_eq ?_)
    rw [decide_eq_false]
    intro he; exact h (by rw [he])
theorem eqf_l0 (d : Nat) : ∀ (i : Nat) (a b : List (List Int)), a.length = b.length → a.length ≤ big → (∀ l ∈ a, l.length ≤ big) → i ≤ a.length → a.length - i = d → Ev (fun k => slices_EqualFunc_int_int_int_int_slices_Equal_int_int.l0 k b a (a.length : Int) (i : Int)) (decide (a.drop i = b.drop i)) := by
  induction d with
  | zero =>
    intro i a b hl hb hr hi hd
    refine Ev.succ ?_; simp only [slices_EqualFunc_int_int_int_int_slices_Equal_int_int.l0]
    refine Ev.ifn (by omega) ?_
    rw [List.drop_of_length_le (by omega), List.drop_of_length_le (by omega)]
    exact Ev.pure.of_eq (by simp)
  | succ d ih =>
    intro i a b hl hb hr hi hd
    have hbb : big = 9223372036854775807 := rfl
    refine Ev.succ ?_; simp only [slices_EqualFunc_int_int_int_int_slices_Equal_int_int.l0]
    refine Ev.ifp (by omega) (Ev.ifp (by omega) (Ev.ifp (by omega) (Ev.ifp (by omega) ?_)))
    rw [show rd_L1 a (i : Int) = a.getD i [] by simp [rd_L1], show rd_L1 b (i : Int) = b.getD i [] by simp [rd_L1]]
    refine Ev.bind (equal_ok _ _ (hr _ (getD_mem (by omega)))) ?_
    rw [drop_getD a i [] (by omega), drop_getD b i [] (by omega)]
    by_cases h : a.getD i [] = b.getD i []
    · refine Ev.ifp (by rw [decide_eq_true h]) ?_
      rw [wrap_nat (by omega)]
      exact (ih (i + 1) a b hl hb hr (by omega) (by omega)).of_eq (by rw [h]; simp)
    · refine Ev.ifn (by rw [decide_eq_false h]; decide) (Ev.pure.of_eq ?_)
      rw [decide_eq_false]
      intro he; injection he with h1 _; exact h h1
theorem eqf_ok (a b : List (List Int)) (hb : a.length ≤ big) (hr : ∀ l ∈ a, l.length ≤ big) : Ev (fun k => slices_EqualFunc_int_int_int_int_slices_Equal_int_int.f k a b) (decide (a = b)) := by
  unfold slices_EqualFunc_int_int_int_int_slices_Equal_int_int.f
  by_cases h : a.length = b.length
  · refine Ev.ifp (by omega) ?_
    simpa using eqf_l0 a.length 0 a b h hb hr (by omega) (by omega)
  · refine Ev.ifn (by omega) (Ev.pure.of_eq ?_)
    rw [decide_eq_false]
    intro he; exact h (by rw [he])

theorem pr_length (S : List (List Nat)) : (pr S).length = S.length := by simp [pr]
theorem pr_getD {S : List (List Nat)} {j : Nat} (hj : j < S.length) : (pr S).getD j [] = (List.range S.length).filter fun i => decide (j ∈ S.getD i []) := getD_map_range _ _ _ _ hj
theorem mem_pr {S : List (List Nat)} {i j : Nat} (hj : j < S.length) : i ∈ (pr S).getD j [] ↔ i < S.length ∧ j ∈ S.getD i [] := by
  rw [pr_getD hj]; simp
theorem gr_pr {S : List (List Nat)} (h : Gr S) : Gr (pr S) := by
  refine ⟨by rw [pr_length]; exact h.pos, by rw [pr_length]; exact h.le, fun i hi => ?_⟩
  rw [pr_length] at hi ⊢
  refine ⟨?_, fun y hy => ((mem_pr hi).mp hy).1⟩
  rw [pr_getD hi]
  exact List.pairwise_lt_range.filter _
theorem sorted_ext : ∀ (a b : List Nat), a.Pairwise (· < ·) → b.Pairwise (· < ·) → (∀ x, x ∈ a ↔ x ∈ b) → a = b := by
  intro a
  induction a with
  | nil =>
    intro b _ _ h
    cases b with
    | nil => rfl
    | cons y b => exact absurd ((h y).mpr (List.mem_cons_self ..)) (by simp)
  | cons x a ih =>
    intro b ha hb h
    cases b with
    | nil => exact absurd ((h x).mp (List.mem_cons_self ..)) (by simp)
    | cons y b =>
      obtain ⟨ha1, ha2⟩ := List.pairwise_cons.mp ha
      obtain ⟨hb1, hb2⟩ := List.pairwise_cons.mp hb
      have e : x = y := by
        rcases List.mem_cons.mp ((h x).mp (List.mem_cons_self ..)) with e | e
        · exact e
        · rcases List.mem_cons.mp ((h y).mpr (List.mem_cons_self ..)) with e' | e'
          · exact e'.symm
          · have := hb1 x e; have := ha1 y e'; omega
      subst e
      rw [ih b ha2 hb2 (fun z => ⟨fun hz => ?_, fun hz => ?_⟩)]
      · rcases List.mem_cons.mp ((h z).mp (List.mem_cons_of_mem _ hz)) with e | e
        · have := ha1 z hz; omega
        · exact e
      · rcases List.mem_cons.mp ((h z).mpr (List.mem_cons_of_mem _ hz)) with e | e
        · have := hb1 z hz; omega
        · exact e
theorem pr_pr {S : List (List Nat)} (h : Gr S) : pr (pr S) = S := by
  have h1 := gr_pr h; have h2 := gr_pr h1
  refine ext_getD [] (by rw [pr_length, pr_length]) (fun i hi => ?_)
  rw [pr_length, pr_length] at hi
  refine sorted_ext _ _ (h2.row i (by rw [pr_length, pr_length]; exact hi)).1 (h.row i hi).1 (fun x => ?_)
  rw [mem_pr (by rw [pr_length]; exact hi), pr_length]
  constructor
  · rintro ⟨hx, hm⟩; exact ((mem_pr hx).mp hm).2
  · intro hm
    have hx := (h.row i hi).2 x hm
    exact ⟨hx, (mem_pr hx).mpr ⟨hi, hm⟩⟩
theorem gr_rows {S : List (List Nat)} (h : Gr S) : ∀ l ∈ up2 S, l.length ≤ 64 := by
  intro l hl
  obtain ⟨r, hr, rfl⟩ := List.mem_map.mp hl
  obtain ⟨i, hi, hri⟩ := List.getElem_of_mem hr
  have hsub := gr_len h hi
  rw [List.getD_eq_getElem?_getD, List.getElem?_eq_getElem hi, hri, Option.getD_some] at hsub
  rw [up_length]; exact hsub

theorem may_ok {S : List (List Nat)} (h : Gr S) (p : List (List Int)) : Ev (fun k => graph_May.f k (up2 S) p) (decide (up2 (pr S) = p)) := by
  unfold graph_May.f
  refine Ev.bind (make_ok h) ?_
  refine Ev.ifp rfl ?_
  have hle := (gr_pr h).le
  exact Ev.bind (eqf_ok _ _ (by rw [up2_length]; simp only [big]; omega) (fun l hl => by have := gr_rows (gr_pr h) l hl; simp only [big]; omega)) Ev.pure
theorem may_bad {s : List (List Int)} (hb : s.length ≤ big) (hr : ∀ l ∈ s, l.length ≤ big) (h : goodb s = false) (p : List (List Int)) : Ev (fun k => graph_May.f k s p) false := by
  unfold graph_May.f
  refine Ev.bind (make_bad hb hr h) ?_
  exact Ev.ifn (by decide) Ev.pure
end Go.Proofs.Ytheillkpgmpnlaa.GP
namespace Go.Proofs.Ytheillkpgmpnlaa.GP

abbrev Sn := Nat → Bool
def upd (s : Sn) (x : Nat) : Sn := fun z => if z = x then true else s z
theorem upd_self (s : Sn) (x : Nat) : upd s x x = true := by simp [upd]
theorem upd_true {s : Sn} {x z : Nat} : upd s x z = true ↔ z = x ∨ s z = true := by unfold upd; split <;> simp_all
/-- How many of the first n are not seen. -/
def cnt (n : Nat) (s : Sn) : Nat := ((List.range n).filter (fun z => !s z)).length
theorem filter_le {α : Type} (l : List α) (p q : α → Bool) (h : ∀ x ∈ l, p x = true → q x = true) : (l.filter p).length ≤ (l.filter q).length := by
  induction l with
  | nil => simp
  | cons x l ih =>
    have h1 := ih (fun y hy => h y (List.mem_cons_of_mem _ hy))
    have h2 := h x (List.mem_cons_self ..)
    cases hp : p x with
    | false => rw [List.filter_cons_of_neg (by simp [hp])]; by_cases hq : q x = true
               · rw [List.filter_cons_of_pos hq, List.length_cons]; omega
               · rw [List.filter_cons_of_neg hq]; exact h1
    | true => rw [List.filter_cons_of_pos hp, List.filter_cons_of_pos (h2 hp), List.length_cons, List.length_cons]; omega
theorem filter_lt {α : Type} (l : List α) (p q : α → Bool) (h : ∀ x ∈ l, p x = true → q x = true) (y : α) (hy : y ∈ l) (h1 : p y = false) (h2 : q y = true) : (l.filter p).length < (l.filter q).length := by
  induction l with
  | nil => simp at hy
  | cons x l ih =>
    have hl := filter_le l p q (fun y hy => h y (List.mem_cons_of_mem _ hy))
    by_cases hx : p x = true
    · have hne : y ≠ x := by rintro rfl; rw [hx] at h1; cases h1
      have hyl : y ∈ l := by rcases List.mem_cons.mp hy with e | e; exact absurd e hne; exact e
      have := ih (fun y hy => h y (List.mem_cons_of_mem _ hy)) hyl
      rw [List.filter_cons_of_pos hx, List.filter_cons_of_pos (h x (List.mem_cons_self ..) hx), List.length_cons, List.length_cons]; omega
    · rw [List.filter_cons_of_neg hx]
      rcases List.mem_cons.mp hy with e | e
      · subst e; rw [List.filter_cons_of_pos h2, List.length_cons]; omega
      · have := ih (fun y hy => h y (List.mem_cons_of_mem _ hy)) e
        by_cases hq : q x = true
        · rw [List.filter_cons_of_pos hq, List.length_cons]; omega
        · rw [List.filter_cons_of_neg hq]; exact this
theorem cnt_le {n : Nat} {s t : Sn} (h : ∀ z, s z = true → t z = true) : cnt n t ≤ cnt n s :=
  filter_le _ _ _ (fun x _ hx => by cases hs : s x; rfl; rw [h x hs] at hx; cases hx)
theorem cnt_lt {n : Nat} {s t : Sn} (h : ∀ z, s z = true → t z = true) {y : Nat} (hy : y < n) (h1 : s y = false) (h2 : t y = true) : cnt n t < cnt n s :=
  filter_lt _ _ _ (fun x _ hx => by cases hs : s x; rfl; rw [h x hs] at hx; cases hx) y (List.mem_range.mpr hy) (by rw [h2]; rfl) (by rw [h1]; rfl)
theorem filter_upd (l : List Nat) (hn : l.Nodup) (s : Sn) (x : Nat) (hx : x ∈ l) (hs : s x = false) : (l.filter (fun z => !upd s x z)).length + 1 = (l.filter (fun z => !s z)).length := by
  induction l with
  | nil => simp at hx
  | cons y l ih =>
    obtain ⟨hy, hl⟩ := List.nodup_cons.mp hn
    by_cases e : y = x
    · subst e
      have e2 : l.filter (fun z => !upd s y z) = l.filter (fun z => !s z) := List.filter_congr (fun z hz => by unfold upd; rw [if_neg (by rintro rfl; exact hy hz)])
      rw [List.filter_cons_of_neg (by simp [upd]), List.filter_cons_of_pos (by simp [hs]), e2]; rfl
    · have hx' : x ∈ l := by rcases List.mem_cons.mp hx with e' | e'; exact absurd e'.symm e; exact e'
      have e3 : upd s x y = s y := by unfold upd; rw [if_neg e]
      have := ih hl hx'
      cases hsy : s y with
      | true => rw [List.filter_cons_of_neg (by simp [e3, hsy]), List.filter_cons_of_neg (by simp [hsy])]; exact this
      | false => rw [List.filter_cons_of_pos (by simp [e3, hsy]), List.filter_cons_of_pos (by simp [hsy]), List.length_cons, List.length_cons]; omega
theorem cnt_upd {n : Nat} {s : Sn} {x : Nat} (hx : x < n) (hs : s x = false) : cnt n (upd s x) + 1 = cnt n s :=
  filter_upd _ List.nodup_range s x (List.mem_range.mpr hx) hs
theorem cnt_pos {n : Nat} {s : Sn} {x : Nat} (hx : x < n) (hs : s x = false) : 0 < cnt n s := by have := cnt_upd hx hs; omega

/-- On from a block: what is seen, and what was left, the first one first. -/
def visit (S : List (List Nat)) : Nat → Nat → Sn × List Nat → Sn × List Nat
  | 0, _, st => st
  | f + 1, x, st =>
    let r := (S.getD x []).foldl (fun st y => if st.1 y = true then st else visit S f y st) (upd st.1 x, st.2)
    (r.1, r.2 ++ [x])
def steps (S : List (List Nat)) (f : Nat) (l : List Nat) (st : Sn × List Nat) : Sn × List Nat := l.foldl (fun st y => if st.1 y = true then st else visit S f y st) st
theorem visit_succ (S : List (List Nat)) (f x : Nat) (st : Sn × List Nat) : visit S (f + 1) x st = ((steps S f (S.getD x []) (upd st.1 x, st.2)).1, (steps S f (S.getD x []) (upd st.1 x, st.2)).2 ++ [x]) := rfl
theorem steps_cons (S : List (List Nat)) (f y : Nat) (l : List Nat) (st : Sn × List Nat) : steps S f (y :: l) st = steps S f l (if st.1 y = true then st else visit S f y st) := rfl

/-- What can be reached. -/
inductive Rch (S : List (List Nat)) (w : Int) (r : Nat) : Nat → Prop
  | base : (r : Int) ≠ w → Rch S w r r
  | step {a y : Nat} : Rch S w r a → y ∈ S.getD a [] → (y : Int) ≠ w → Rch S w r y
theorem Rch.lt {S : List (List Nat)} (h : Gr S) {w : Int} {r : Nat} (hr : r < S.length) {x : Nat} (hx : Rch S w r x) : x < S.length := by
  induction hx with
  | base _ => exact hr
  | @step a y _ hy _ ih => exact (h.row a ih).2 y hy
theorem Rch.trans {S : List (List Nat)} {w : Int} {r a b : Nat} (h1 : Rch S w r a) (h2 : Rch S w a b) : Rch S w r b := by
  induction h2 with
  | base _ => exact h1
  | step _ hy hw ih => exact .step ih hy hw

/-- What a way through comes to. -/
structure Vis (S : List (List Nat)) (n : Nat) (st r : Sn × List Nat) : Prop where
  new : ∃ l, r.2 = st.2 ++ l ∧ (∀ z, r.1 z = true ↔ st.1 z = true ∨ z ∈ l) ∧ l.Nodup ∧ (∀ z ∈ l, st.1 z = false ∧ z < n) ∧ l.length + cnt n r.1 = cnt n st.1
theorem Vis.mono {S : List (List Nat)} {n : Nat} {st r : Sn × List Nat} (h : Vis S n st r) {z : Nat} (hz : st.1 z = true) : r.1 z = true := by
  obtain ⟨l, _, h2, _⟩ := h.new; exact (h2 z).mpr (.inl hz)
theorem Vis.refl (S : List (List Nat)) (n : Nat) (st : Sn × List Nat) : Vis S n st st := ⟨⟨[], by simp, by simp, by simp, by simp, by simp⟩⟩
theorem Vis.trans {S : List (List Nat)} {n : Nat} {a b c : Sn × List Nat} (h1 : Vis S n a b) (h2 : Vis S n b c) : Vis S n a c := by
  obtain ⟨l1, e1, s1, n1, u1, c1⟩ := h1.new
  obtain ⟨l2, e2, s2, n2, u2, c2⟩ := h2.new
  refine ⟨⟨l1 ++ l2, by rw [e2, e1, List.append_assoc], fun z => ?_, ?_, fun z hz => ?_, by rw [List.length_append]; omega⟩⟩
  · rw [s2, s1, List.mem_append, or_assoc]
  · rw [List.nodup_append]
    refine ⟨n1, n2, fun x hx y hy e => ?_⟩
    subst e
    have := (u2 _ hy).1
    rw [(s1 x).mpr (.inr hx)] at this; cases this
  · rcases List.mem_append.mp hz with hz | hz
    · exact u1 z hz
    · refine ⟨?_, (u2 z hz).2⟩
      cases ha : a.1 z with
      | false => rfl
      | true => have := (u2 z hz).1; rw [(s1 z).mpr (.inl ha)] at this; cases this

mutual
theorem visit_vis {S : List (List Nat)} (h : Gr S) : ∀ (f x : Nat) (st : Sn × List Nat), x < S.length → st.1 x = false → cnt S.length st.1 ≤ f → Vis S S.length st (visit S f x st) ∧ (visit S f x st).1 x = true
  | 0, x, st, hx, hs, hc => by have := cnt_pos hx hs; omega
  | f + 1, x, st, hx, hs, hc => by
    have hu := cnt_upd hx hs
    have h1 := steps_vis h f (S.getD x []) (upd st.1 x, st.2) (h.row x hx).2 (by show cnt _ (upd st.1 x) ≤ f; omega)
    rw [visit_succ]
    obtain ⟨l, e, s, nd, u, c⟩ := h1.new
    have hxl : x ∉ l := fun hm => by have := (u x hm).1; simp [upd] at this
    refine ⟨⟨⟨l ++ [x], by (show (steps S f (S.getD x []) (upd st.1 x, st.2)).2 ++ [x] = _); rw [e, List.append_assoc], fun z => ?_, ?_, fun z hz => ?_, ?_⟩⟩, (s x).mpr (.inl (upd_self _ _))⟩
    · show _ = true ↔ _
      rw [s]
      show upd st.1 x z = true ∨ _ ↔ _
      rw [upd_true, List.mem_append, List.mem_singleton]
      constructor
      · rintro ((e | e) | e)
        · exact .inr (.inr e)
        · exact .inl e
        · exact .inr (.inl e)
      · rintro (e | e | e)
        · exact .inl (.inr e)
        · exact .inr e
        · exact .inl (.inl e)
    · rw [List.nodup_append]
      refine ⟨nd, by simp, fun a ha b hb e' => ?_⟩
      rw [List.mem_singleton] at hb; rw [e', hb] at ha; exact hxl ha
    · rcases List.mem_append.mp hz with hz | hz
      · refine ⟨?_, (u z hz).2⟩
        have h2 := (u z hz).1
        cases ha : st.1 z with
        | false => rfl
        | true => have : upd st.1 x z = true := upd_true.mpr (.inr ha)
                  have h3 : upd st.1 x z = false := h2
                  rw [this] at h3; cases h3
      · rw [List.mem_singleton] at hz; subst hz; exact ⟨hs, hx⟩
    · rw [List.length_append, List.length_singleton]
      have c' : l.length + cnt S.length (steps S f (S.getD x []) (upd st.1 x, st.2)).1 = cnt S.length (upd st.1 x) := c
      show _ + cnt S.length (steps S f (S.getD x []) (upd st.1 x, st.2)).1 = _
      omega
theorem steps_vis {S : List (List Nat)} (h : Gr S) : ∀ (f : Nat) (l : List Nat) (st : Sn × List Nat), (∀ y ∈ l, y < S.length) → cnt S.length st.1 ≤ f → Vis S S.length st (steps S f l st)
  | _, [], st, _, _ => Vis.refl _ _ _
  | f, y :: l, st, hl, hc => by
    rw [steps_cons]
    by_cases hy : st.1 y = true
    · rw [if_pos hy]; exact steps_vis h f l st (fun z hz => hl z (List.mem_cons_of_mem _ hz)) hc
    · rw [if_neg hy]
      have h1 := (visit_vis h f y st (hl y (List.mem_cons_self ..)) (by simpa using hy) hc).1
      have h2 := steps_vis h f l (visit S f y st) (fun z hz => hl z (List.mem_cons_of_mem _ hz)) (Nat.le_trans (cnt_le (fun z hz => h1.mono hz)) hc)
      exact h1.trans h2
end
theorem steps_seen {S : List (List Nat)} (h : Gr S) (f : Nat) : ∀ (l : List Nat) (st : Sn × List Nat), (∀ y ∈ l, y < S.length) → cnt S.length st.1 ≤ f → ∀ y ∈ l, (steps S f l st).1 y = true := by
  intro l
  induction l with
  | nil => intro st _ _ y hy; simp at hy
  | cons x l ih =>
    intro st hl hc y hy
    rw [steps_cons]
    have hl' : ∀ z ∈ l, z < S.length := fun z hz => hl z (List.mem_cons_of_mem _ hz)
    by_cases hx : st.1 x = true
    · rw [if_pos hx]
      rcases List.mem_cons.mp hy with e | e
      · subst e; exact (steps_vis h f l st hl' hc).mono hx
      · exact ih st hl' hc y e
    · rw [if_neg hx]
      obtain ⟨h1, h2⟩ := visit_vis h f x st (hl x (List.mem_cons_self ..)) (by simpa using hx) hc
      have hc' : cnt S.length (visit S f x st).1 ≤ f := Nat.le_trans (cnt_le (fun z hz => h1.mono hz)) hc
      rcases List.mem_cons.mp hy with e | e
      · subst e; exact (steps_vis h f l _ hl' hc').mono h2
      · exact ih _ hl' hc' y e


/-! #### what is reached -/
mutual
theorem visit_rch {S : List (List Nat)} (r : Nat) : ∀ (f x : Nat) (st : Sn × List Nat), Rch S (-1) r x → ∀ z, (visit S f x st).1 z = true → st.1 z = true ∨ Rch S (-1) r z
  | 0, _, _, _, z, hz => .inl hz
  | f + 1, x, st, hx, z, hz => by
    rw [visit_succ] at hz
    rcases steps_rch r f (S.getD x []) (upd st.1 x, st.2) (fun y hy => .step hx hy (by omega)) z hz with e | e
    · rcases upd_true.mp e with e | e
      · subst e; exact .inr hx
      · exact .inl e
    · exact .inr e
theorem steps_rch {S : List (List Nat)} (r : Nat) : ∀ (f : Nat) (l : List Nat) (st : Sn × List Nat), (∀ y ∈ l, Rch S (-1) r y) → ∀ z, (steps S f l st).1 z = true → st.1 z = true ∨ Rch S (-1) r z
  | _, [], _, _, z, hz => .inl hz
  | f, y :: l, st, hl, z, hz => by
    rw [steps_cons] at hz
    have hl' : ∀ y ∈ l, Rch S (-1) r y := fun z hz => hl z (List.mem_cons_of_mem _ hz)
    by_cases hy : st.1 y = true
    · rw [if_pos hy] at hz; exact steps_rch r f l st hl' z hz
    · rw [if_neg hy] at hz
      rcases steps_rch r f l _ hl' z hz with e | e
      · exact visit_rch r f y st (hl y (List.mem_cons_self ..)) z e
      · exact .inr e
end
mutual
theorem visit_closed {S : List (List Nat)} (h : Gr S) : ∀ (f x : Nat) (st : Sn × List Nat), x < S.length → st.1 x = false → cnt S.length st.1 ≤ f → ∀ z, (visit S f x st).1 z = true → st.1 z = true ∨ ∀ y ∈ S.getD z [], (visit S f x st).1 y = true
  | 0, x, st, hx, hs, hc, _, _ => by have := cnt_pos hx hs; omega
  | f + 1, x, st, hx, hs, hc, z, hz => by
    have hu := cnt_upd hx hs
    have hcu : cnt S.length (upd st.1 x) ≤ f := by omega
    rw [visit_succ] at hz ⊢
    rcases steps_closed h f (S.getD x []) (upd st.1 x, st.2) (h.row x hx).2 hcu z hz with e | e
    · rcases upd_true.mp e with e | e
      · subst e; exact .inr (steps_seen h f _ _ (h.row z hx).2 hcu)
      · exact .inl e
    · exact .inr e
theorem steps_closed {S : List (List Nat)} (h : Gr S) : ∀ (f : Nat) (l : List Nat) (st : Sn × List Nat), (∀ y ∈ l, y < S.length) → cnt S.length st.1 ≤ f → ∀ z, (steps S f l st).1 z = true → st.1 z = true ∨ ∀ y ∈ S.getD z [], (steps S f l st).1 y = true
  | _, [], _, _, _, z, hz => .inl hz
  | f, y :: l, st, hl, hc, z, hz => by
    rw [steps_cons] at hz ⊢
    have hl' : ∀ y ∈ l, y < S.length := fun z hz => hl z (List.mem_cons_of_mem _ hz)
    by_cases hy : st.1 y = true
    · rw [if_pos hy] at hz ⊢; exact steps_closed h f l st hl' hc z hz
    · rw [if_neg hy] at hz ⊢
      have hy' : st.1 y = false := by simpa using hy
      have h1 := (visit_vis h f y st (hl y (List.mem_cons_self ..)) hy' hc).1
      have hc' : cnt S.length (visit S f y st).1 ≤ f := Nat.le_trans (cnt_le (fun z hz => h1.mono hz)) hc
      rcases steps_closed h f l _ hl' hc' z hz with e | e
      · rcases visit_closed h f y st (hl y (List.mem_cons_self ..)) hy' hc z e with e | e
        · exact .inl e
        · exact .inr (fun w hw => (steps_vis h f l _ hl' hc').mono (e w hw))
      · exact .inr e
end

/-! #### where all ways go up -/
/-- Each block ahead of which all those at which it goes on are left. -/
def Ord (S : List (List Nat)) (o : List Nat) : Prop := ∀ l a t, o = l ++ a :: t → ∀ y ∈ S.getD a [], y ∈ l
theorem ord_snoc {S : List (List Nat)} {o : List Nat} {x : Nat} (h : Ord S o) (hx : ∀ y ∈ S.getD x [], y ∈ o) : Ord S (o ++ [x]) := by
  intro l a t e y hy
  rcases List.append_eq_append_iff.mp e with ⟨m, hm1, hm2⟩ | ⟨m, hm1, hm2⟩
  · cases m with
    | nil =>
      have e2 : x :: [] = a :: t := by simpa using hm2
      injection e2 with e3 e4
      subst e3
      rw [List.append_nil] at hm1; subst hm1
      exact hx y hy
    | cons b m =>
      have e2 : [x] = (b :: m) ++ a :: t := hm2
      have := congrArg List.length e2
      simp only [List.length_append, List.length_cons, List.length_nil] at this; omega
  · cases m with
    | nil =>
      have e2 : a :: t = [x] := by simpa using hm2
      injection e2 with e3 e4
      subst e3
      rw [List.append_nil] at hm1; subst hm1
      exact hx y hy
    | cons b m =>
      have e2 : a :: t = (b :: m) ++ [x] := hm2
      injection e2 with e3 e4
      subst e3
      exact h l a m hm1 y hy
mutual
theorem visit_ord {S : List (List Nat)} (h : Gr S) (up : ∀ i, ∀ y ∈ S.getD i [], i < y) : ∀ (f x : Nat) (st : Sn × List Nat), x < S.length → st.1 x = false → cnt S.length st.1 ≤ f → Ord S st.2 → (∀ z, st.1 z = true → z ∈ st.2 ∨ z < x) → Ord S (visit S f x st).2
  | 0, x, st, hx, hs, hc, _, _ => by have := cnt_pos hx hs; omega
  | f + 1, x, st, hx, hs, hc, ho, hlt => by
    have hu := cnt_upd hx hs
    have hcu : cnt S.length (upd st.1 x) ≤ f := by omega
    rw [visit_succ]
    have hy := up x
    obtain ⟨h1, h2⟩ := steps_ord h up f x (S.getD x []) (upd st.1 x, st.2) (fun y hm => ⟨(h.row x hx).2 y hm, hy y hm⟩) hcu ho (fun z hz => by
      rcases upd_true.mp hz with e | e
      · exact .inr (Nat.le_of_eq e)
      · rcases hlt z e with e | e
        · exact .inl e
        · exact .inr (Nat.le_of_lt e))
    refine ord_snoc h1 (fun y hm => ?_)
    rcases h2 y (steps_seen h f _ _ (h.row x hx).2 hcu y hm) with e | e
    · exact e
    · have := hy y hm; omega
theorem steps_ord {S : List (List Nat)} (h : Gr S) (up : ∀ i, ∀ y ∈ S.getD i [], i < y) : ∀ (f x : Nat) (l : List Nat) (st : Sn × List Nat), (∀ y ∈ l, y < S.length ∧ x < y) → cnt S.length st.1 ≤ f → Ord S st.2 → (∀ z, st.1 z = true → z ∈ st.2 ∨ z ≤ x) → Ord S (steps S f l st).2 ∧ ∀ z, (steps S f l st).1 z = true → z ∈ (steps S f l st).2 ∨ z ≤ x
  | _, _, [], _, _, _, ho, hlt => ⟨ho, hlt⟩
  | f, x, y :: l, st, hl, hc, ho, hlt => by
    rw [steps_cons]
    have hl' : ∀ y ∈ l, y < S.length ∧ x < y := fun z hz => hl z (List.mem_cons_of_mem _ hz)
    by_cases hy : st.1 y = true
    · rw [if_pos hy]; exact steps_ord h up f x l st hl' hc ho hlt
    · rw [if_neg hy]
      have hy' : st.1 y = false := by simpa using hy
      obtain ⟨hyn, hyx⟩ := hl y (List.mem_cons_self ..)
      have h1 := (visit_vis h f y st hyn hy' hc).1
      have hc' : cnt S.length (visit S f y st).1 ≤ f := Nat.le_trans (cnt_le (fun z hz => h1.mono hz)) hc
      refine steps_ord h up f x l _ hl' hc' (visit_ord h up f y st hyn hy' hc ho (fun z hz => ?_)) (fun z hz => ?_)
      · rcases hlt z hz with e | e
        · exact .inl e
        · exact .inr (by omega)
      · obtain ⟨n, e1, e2, _⟩ := h1.new
        rw [e1]
        rcases (e2 z).mp hz with e | e
        · rcases hlt z e with e | e
          · exact .inl (List.mem_append.mpr (.inl e))
          · exact .inr e
        · exact .inl (List.mem_append.mpr (.inr e))
end

/-! #### the order from a root -/
def none' : Sn := fun _ => false
theorem cnt_none (n : Nat) : cnt n none' = n := by
  show ((List.range n).filter (fun z => !none' z)).length = n
  rw [show (List.range n).filter (fun z => !none' z) = List.range n from List.filter_eq_self.mpr (fun _ _ => rfl), List.length_range]
def dfs (S : List (List Nat)) (r : Nat) : List Nat := (visit S S.length r (none', [])).2.reverse
theorem dfs_vis {S : List (List Nat)} (h : Gr S) {r : Nat} (hr : r < S.length) : Vis S S.length (none', []) (visit S S.length r (none', [])) ∧ (visit S S.length r (none', [])).1 r = true :=
  visit_vis h S.length r (none', []) hr rfl (Nat.le_of_eq (cnt_none _))
theorem dfs_seen {S : List (List Nat)} (h : Gr S) {r : Nat} (hr : r < S.length) (z : Nat) : z ∈ dfs S r ↔ (visit S S.length r (none', [])).1 z = true := by
  obtain ⟨l, e1, e2, _⟩ := (dfs_vis h hr).1.new
  rw [dfs, List.mem_reverse, e1, e2, List.nil_append]
  constructor
  · exact .inr
  · rintro (e | e)
    · cases e
    · exact e
theorem dfs_mem {S : List (List Nat)} (h : Gr S) {r : Nat} (hr : r < S.length) (z : Nat) : z ∈ dfs S r ↔ Rch S (-1) r z := by
  rw [dfs_seen h hr]
  constructor
  · intro hz
    rcases visit_rch r S.length r (none', []) (.base (by omega)) z hz with e | e
    · cases e
    · exact e
  · intro hz
    induction hz with
    | base _ => exact (dfs_vis h hr).2
    | @step a y _ hy _ ih =>
      rcases visit_closed h S.length r (none', []) hr rfl (Nat.le_of_eq (cnt_none _)) a ih with e | e
      · cases e
      · exact e y hy
theorem dfs_nodup {S : List (List Nat)} (h : Gr S) {r : Nat} (hr : r < S.length) : (dfs S r).Nodup := by
  obtain ⟨l, e1, _, e3, _⟩ := (dfs_vis h hr).1.new
  rw [dfs, e1, List.nil_append]
  exact (List.reverse_perm l).nodup_iff.mpr e3
theorem dfs_lt {S : List (List Nat)} (h : Gr S) {r : Nat} (hr : r < S.length) : ∀ z ∈ dfs S r, z < S.length := by
  intro z hz
  exact ((dfs_mem h hr z).mp hz).lt h hr
theorem dfs_head {S : List (List Nat)} (h : Gr S) (r : Nat) : ∃ l, dfs S r = r :: l := by
  obtain ⟨f, hf⟩ : ∃ f, S.length = f + 1 := ⟨S.length - 1, by have := h.pos; omega⟩
  refine ⟨(steps S f (S.getD r []) (upd none' r, [])).2.reverse, ?_⟩
  rw [dfs, hf, visit_succ]
  simp
theorem dfs_len {S : List (List Nat)} (h : Gr S) {r : Nat} (hr : r < S.length) : (dfs S r).length ≤ S.length := by
  obtain ⟨l, e1, _, _, _, e5⟩ := (dfs_vis h hr).1.new
  have : cnt S.length none' = S.length := cnt_none _
  have e6 : l.length + cnt S.length (visit S S.length r (none', [])).1 = cnt S.length none' := e5
  rw [dfs, e1, List.length_reverse, List.nil_append]; omega
theorem dfs_ord {S : List (List Nat)} (h : Gr S) (hup : ∀ i, ∀ y ∈ S.getD i [], i < y) {r : Nat} (hr : r < S.length) : ∀ l a t, dfs S r = t ++ a :: l → ∀ y ∈ S.getD a [], y ∈ l := by
  intro l a t e y hy
  have h1 := visit_ord h hup S.length r (none', []) hr rfl (Nat.le_of_eq (cnt_none _)) (fun l a t e => by simp at e) (fun z hz => by cases hz)
  have e2 : (visit S S.length r (none', [])).2 = l.reverse ++ a :: t.reverse := by
    have := congrArg List.reverse e
    rw [dfs, List.reverse_reverse] at this
    rw [this]; simp
  exact List.mem_reverse.mp (h1 _ _ _ e2 y hy)

/-! #### dominance -/
/-- Blocks' places, and from where each is come to from ahead. -/
structure Pl (S : List (List Nat)) (r : Nat) (at_ par : Nat → Nat) : Prop where
  inj : ∀ x y, Rch S (-1) r x → Rch S (-1) r y → at_ x = at_ y → x = y
  par : ∀ x, Rch S (-1) r x → x ≠ r → Rch S (-1) r (par x) ∧ x ∈ S.getD (par x) [] ∧ at_ (par x) < at_ x
/-- A block dominates another one. -/
def Dm (S : List (List Nat)) (r d x : Nat) : Prop := Rch S (-1) r x ∧ ¬ Rch S (d : Int) r x
section
variable {S : List (List Nat)} {r : Nat}
theorem rch_no {d : Nat} : ¬ Rch S (d : Int) r d := fun h => by
  cases h with
  | base h => exact h rfl
  | step _ _ h => exact h rfl
theorem rch_all {w : Int} {x : Nat} (h : Rch S w r x) : Rch S (-1) r x := by
  induction h with
  | base _ => exact .base (by omega)
  | step _ hy _ ih => exact .step ih hy (by omega)
theorem rch_root {w : Int} {x : Nat} (h : Rch S w r x) : Rch S w r r := by
  induction h with
  | base h => exact .base h
  | step _ _ _ ih => exact ih
theorem Dm.rch {d x : Nat} (h : Dm S r d x) : Rch S (-1) r x := h.1
theorem dm_refl {x : Nat} (h : Rch S (-1) r x) : Dm S r x x := ⟨h, rch_no⟩
theorem dm_root {x : Nat} (h : Rch S (-1) r x) : Dm S r r x := ⟨h, fun h' => rch_no (rch_root h')⟩
theorem dm_of_root {d : Nat} (h : Dm S r d r) : d = r := by
  refine Classical.byContradiction (fun hn => h.2 (.base (by omega)))
theorem dm_pred {d x p : Nat} (h : Dm S r d x) (hd : d ≠ x) (hp : Rch S (-1) r p) (hx : x ∈ S.getD p []) : Dm S r d p :=
  ⟨hp, fun h' => h.2 (.step h' hx (by omega))⟩
theorem dm_past {a b c : Nat} (h : Rch S (a : Int) r c) : Dm S r b c → Rch S (a : Int) r b := by
  induction h with
  | base h => intro hb; rw [dm_of_root hb]; exact .base h
  | @step q y hq hy hw ih =>
    intro hb
    by_cases e : b = y
    · subst e; exact .step hq hy hw
    · exact ih (dm_pred hb e (rch_all hq) hy)
theorem dm_trans {a b c : Nat} (h1 : Dm S r a b) (h2 : Dm S r b c) : Dm S r a c := ⟨h2.1, fun h => h1.2 (dm_past h h2)⟩
theorem dm_rch {d x : Nat} (h : Dm S r d x) : Rch S (-1) r d := by
  refine Classical.byContradiction (fun hn => h.2 ?_)
  have : ∀ y, Rch S (-1) r y → Rch S (d : Int) r y := by
    intro y hy
    induction hy with
    | base h0 => exact .base (fun e => hn (by rw [← Int.ofNat_inj.mp e]; exact .base h0))
    | @step a y ha hya _ ih => exact .step ih hya (fun e => hn (by rw [← Int.ofNat_inj.mp e]; exact .step ha hya (by omega)))
  exact this x h.1
variable {at_ par : Nat → Nat}
theorem dm_le (hP : Pl S r at_ par) {d : Nat} : ∀ (n x : Nat), at_ x ≤ n → Dm S r d x → at_ d ≤ at_ x := by
  intro n
  induction n with
  | zero =>
    intro x hx h
    by_cases e : d = x
    · subst e; omega
    · by_cases er : x = r
      · subst er; exact absurd (dm_of_root h) e
      · have := (hP.par x h.1 er).2.2; omega
  | succ n ih =>
    intro x hx h
    by_cases e : d = x
    · subst e; omega
    · by_cases er : x = r
      · subst er; exact absurd (dm_of_root h) e
      · obtain ⟨h1, h2, h3⟩ := hP.par x h.1 er
        have := ih (par x) (by omega) (dm_pred h e h1 h2); omega
theorem dm_antisymm (hP : Pl S r at_ par) {a b : Nat} (h1 : Dm S r a b) (h2 : Dm S r b a) : a = b :=
  hP.inj a b h2.1 h1.1 (Nat.le_antisymm (dm_le hP _ _ (Nat.le_refl _) h1) (dm_le hP _ _ (Nat.le_refl _) h2))
/-- The nearest of those that dominate a block. -/
def Idm (S : List (List Nat)) (r z x : Nat) : Prop := Dm S r z x ∧ z ≠ x ∧ ∀ d, Dm S r d x → d ≠ x → Dm S r d z
theorem idm_unique (hP : Pl S r at_ par) {z z' x : Nat} (h : Idm S r z x) (h' : Idm S r z' x) : z = z' :=
  dm_antisymm hP (h'.2.2 z h.1 h.2.1) (h.2.2 z' h'.1 h'.2.1)

/-! #### trees that are being made -/
abbrev Tr := Nat → Option Nat
/-- One is got to from another one, going up. -/
inductive An (T : Tr) (r c : Nat) : Nat → Prop
  | refl {y : Nat} : T c = some y → An T r c c
  | up {x y : Nat} : T x = some y → x ≠ r → An T r c y → An T r c x
inductive Pa (r z : Nat) (par : Nat → Nat) : Nat → Prop
  | refl : Pa r z par z
  | step {x : Nat} : x ≠ r → Pa r z par (par x) → Pa r z par x
theorem Pa.trans {a b c : Nat} (h1 : Pa r a par b) (h2 : Pa r b par c) : Pa r a par c := by
  induction h2 with
  | refl => exact h1
  | step h _ ih => exact .step h ih
structure Inv (S : List (List Nat)) (r : Nat) (at_ par : Nat → Nat) (T : Tr) : Prop where
  root : T r = some r
  rch : ∀ x y, T x = some y → Rch S (-1) r x
  lt : ∀ x y, T x = some y → x ≠ r → at_ y < at_ x ∧ ∃ z, T y = some z
  pa : ∀ x y, T x = some y → x ≠ r → Pa r y par x
  dom : ∀ x y, T x = some y → x ≠ r → ∀ d, Dm S r d x → d ≠ x → Dm S r d y
  low : ∀ x y, T x = some y → x ≠ r → ∀ c, (∀ p z, x ∈ S.getD p [] → T p = some z → An T r c p) → at_ c ≤ at_ y
theorem An.has {T : Tr} {c x : Nat} (h : An T r c x) : ∃ y, T x = some y := by
  cases h with
  | refl h => exact ⟨_, h⟩
  | up h _ _ => exact ⟨_, h⟩
theorem An.top {T : Tr} {c x : Nat} (h : An T r c x) : ∃ y, T c = some y := by
  induction h with
  | refl h => exact ⟨_, h⟩
  | up _ _ _ ih => exact ih
theorem An.trans {T : Tr} {a b c : Nat} (h1 : An T r a b) (h2 : An T r b c) : An T r a c := by
  induction h2 with
  | refl h => exact h1
  | up h hr _ ih => exact .up h hr ih
theorem An.le {T : Tr} (hI : Inv S r at_ par T) {c x : Nat} (h : An T r c x) : at_ c ≤ at_ x := by
  induction h with
  | refl h => exact Nat.le_refl _
  | up h hr _ ih => have := (hI.lt _ _ h hr).1; omega
theorem An.lt {T : Tr} (hI : Inv S r at_ par T) {c x : Nat} (h : An T r c x) (hc : c ≠ x) : at_ c < at_ x := by
  cases h with
  | refl h => exact absurd rfl hc
  | up h hr h2 => have := (hI.lt _ _ h hr).1; have := h2.le hI; omega
theorem An.pa {T : Tr} (hI : Inv S r at_ par T) {c x : Nat} (h : An T r c x) : Pa r c par x := by
  induction h with
  | refl h => exact .refl
  | up h hr _ ih => exact ih.trans (hI.pa _ _ h hr)
theorem dm_an {T : Tr} (hI : Inv S r at_ par T) {d : Nat} : ∀ (n x y : Nat), at_ x ≤ n → T x = some y → Dm S r d x → An T r d x := by
  intro n
  induction n with
  | zero =>
    intro x y hn hx h
    by_cases e : d = x
    · subst e; exact .refl hx
    · by_cases er : x = r
      · subst er; exact absurd (dm_of_root h) e
      · have := (hI.lt x y hx er).1; omega
  | succ n ih =>
    intro x y hn hx h
    by_cases e : d = x
    · subst e; exact .refl hx
    · by_cases er : x = r
      · subst er; exact absurd (dm_of_root h) e
      · obtain ⟨h1, z, h2⟩ := hI.lt x y hx er
        exact .up hx er (ih y z (by omega) h2 (hI.dom x y hx er d h e))
theorem an_dm {T : Tr} (hI : Inv S r at_ par T) {d m q : Nat} (h : An T r m q) : Dm S r d q → at_ d ≤ at_ m → Dm S r d m := by
  induction h with
  | refl h => exact fun h _ => h
  | @up x y h hr h2 ih =>
    intro hd hl
    have h3 := (hI.lt _ _ h hr).1
    have h4 := h2.le hI
    exact ih (hI.dom _ _ h hr d hd (by rintro rfl; omega)) hl
/-- What is right as it is: it is over all from which one comes. -/
def Fx (S : List (List Nat)) (r : Nat) (T : Tr) (x : Nat) : Prop := ∃ z, T x = some z ∧ ∀ p y, x ∈ S.getD p [] → T p = some y → An T r z p
def put (T : Tr) (x m : Nat) : Tr := fun y => if y = x then some m else T y
theorem put_self (T : Tr) (x m : Nat) : put T x m x = some m := by simp [put]
theorem put_ne {T : Tr} {x m y : Nat} (h : y ≠ x) : put T x m y = T y := by simp [put, h]
/-- The nearest one to which one comes from all. -/
def Best (S : List (List Nat)) (r : Nat) (T : Tr) (x m : Nat) : Prop :=
  (∀ p y, x ∈ S.getD p [] → T p = some y → An T r m p) ∧ ∀ c, (∀ p y, x ∈ S.getD p [] → T p = some y → An T r c p) → An T r c m
theorem best_at (hP : Pl S r at_ par) {T : Tr} (hI : Inv S r at_ par T) {x m : Nat} (hx : Rch S (-1) r x) (hr : x ≠ r) (hF : ∀ y, Rch S (-1) r y → at_ y < at_ x → y ≠ r → Fx S r T y) (hB : Best S r T x m) :
    An T r m (par x) ∧ at_ m < at_ x ∧ Pa r m par x := by
  obtain ⟨h1, h2, h3⟩ := hP.par x hx hr
  have h4 : ∃ y, T (par x) = some y := by
    by_cases e : par x = r
    · rw [e]; exact ⟨_, hI.root⟩
    · obtain ⟨z, hz, _⟩ := hF _ h1 h3 e; exact ⟨z, hz⟩
  obtain ⟨y, h4⟩ := h4
  have h5 := hB.1 _ _ h2 h4
  have h6 := h5.le hI
  exact ⟨h5, by omega, .step hr (h5.pa hI)⟩
theorem best_up (hP : Pl S r at_ par) {T : Tr} (hI : Inv S r at_ par T) {x m y : Nat} (hF : ∀ y, Rch S (-1) r y → at_ y < at_ x → y ≠ r → Fx S r T y) (hm : at_ m ≤ at_ y) {v : Nat} (hpa : Pa r y par v) :
    Rch S (-1) r v → at_ v < at_ x → An T r m v → An T r m y := by
  induction hpa with
  | refl => exact fun _ _ h => h
  | @step v hv hp ih =>
    intro hR hv2 ha
    obtain ⟨h1, h2, h3⟩ := hP.par v hR hv
    have hle : at_ y ≤ at_ (par v) := by
      have : ∀ {w : Nat}, Pa r y par w → Rch S (-1) r w → at_ y ≤ at_ w := by
        intro w hw
        induction hw with
        | refl => exact fun _ => Nat.le_refl _
        | @step w hw _ ih => intro hR'; obtain ⟨g1, _, g3⟩ := hP.par w hR' hw; have := ih g1; omega
      exact this hp h1
    obtain ⟨z, hz, hf⟩ := hF v hR hv2 hv
    have hz2 : ∃ y, T (par v) = some y := by
      by_cases e : par v = r
      · rw [e]; exact ⟨_, hI.root⟩
      · obtain ⟨z, hz, _⟩ := hF _ h1 (by omega) e; exact ⟨z, hz⟩
    obtain ⟨z2, hz2⟩ := hz2
    refine ih h1 (by omega) ?_
    cases ha with
    | refl _ => omega
    | @up _ y' h _ h5 =>
      rw [hz] at h; cases h
      exact h5.trans (hf _ _ h2 hz2)
/-- One more step keeps all of it, and goes up. -/
theorem step_inv (hP : Pl S r at_ par) {T : Tr} (hI : Inv S r at_ par T) {x m : Nat} (hx : Rch S (-1) r x) (hr : x ≠ r) (hF : ∀ y, Rch S (-1) r y → at_ y < at_ x → y ≠ r → Fx S r T y) (hB : Best S r T x m) :
    Inv S r at_ par (put T x m) ∧ ∀ y, T x = some y → m ≠ y → at_ m < at_ y := by
  obtain ⟨h1, h2, h3⟩ := best_at hP hI hx hr hF hB
  obtain ⟨p1, p2, p3⟩ := hP.par x hx hr
  obtain ⟨mz, hmz⟩ := h1.top
  have hmx : m ≠ x := by rintro rfl; omega
  have hup : ∀ y, T x = some y → An T r m y := by
    intro y hy
    have hl := hI.low x y hy hr m hB.1
    have hpa := hI.pa x y hy hr
    cases hpa with
    | refl => have := (hI.lt x x hy hr).1; omega
    | step _ hpa => exact best_up hP hI hF hl hpa p1 p3 h1
  have hdown : ∀ {c v : Nat}, An (put T x m) r c v → ∀ z, T v = some z → An T r c v := by
    intro c v h
    induction h with
    | @refl y h => intro z hz; exact .refl hz
    | @up v y h hv h5 ih =>
      intro z hz
      by_cases e : v = x
      · subst e
        rw [put_self] at h; cases h
        exact .up hz hv ((ih _ hmz).trans (hup _ hz))
      · rw [put_ne e, hz] at h; cases h
        obtain ⟨_, z2, h6⟩ := hI.lt v _ hz hv
        exact .up hz hv (ih _ h6)
  have hthere : ∀ v z, T v = some z → ∃ z', put T x m v = some z' := by
    intro v z hz
    by_cases e : v = x
    · subst e; exact ⟨_, put_self _ _ _⟩
    · exact ⟨z, by rw [put_ne e]; exact hz⟩
  refine ⟨⟨?_, ?_, ?_, ?_, ?_, ?_⟩, ?_⟩
  · rw [put_ne (fun e => hr e.symm)]; exact hI.root
  · intro v y hv
    by_cases e : v = x
    · subst e; exact hx
    · rw [put_ne e] at hv; exact hI.rch _ _ hv
  · intro v y hv hvr
    by_cases e : v = x
    · subst e
      rw [put_self] at hv; cases hv
      exact ⟨h2, mz, by rw [put_ne hmx]; exact hmz⟩
    · rw [put_ne e] at hv
      obtain ⟨h6, z, h7⟩ := hI.lt v y hv hvr
      exact ⟨h6, hthere _ _ h7⟩
  · intro v y hv hvr
    by_cases e : v = x
    · subst e
      rw [put_self] at hv; cases hv; exact h3
    · rw [put_ne e] at hv; exact hI.pa v y hv hvr
  · intro v y hv hvr d hd hdv
    by_cases e : v = x
    · subst e
      rw [put_self] at hv; cases hv
      have hall : ∀ p y, v ∈ S.getD p [] → T p = some y → An T r d p := fun p y hp hy => dm_an hI _ p y (Nat.le_refl _) hy (dm_pred hd hdv (hI.rch _ _ hy) hp)
      exact an_dm hI h1 (dm_pred hd hdv p1 p2) ((hB.2 d hall).le hI)
    · rw [put_ne e] at hv; exact hI.dom v y hv hvr d hd hdv
  · intro v y hv hvr c hc
    have hc' : ∀ p z, v ∈ S.getD p [] → T p = some z → An T r c p := by
      intro p z hp hz
      obtain ⟨z', hz'⟩ := hthere p z hz
      exact hdown (hc p z' hp hz') z hz
    by_cases e : v = x
    · subst e
      rw [put_self] at hv; cases hv
      exact (hB.2 c hc').le hI
    · rw [put_ne e] at hv; exact hI.low v y hv hvr c hc'
  · intro y hy hne
    exact (hup y hy).lt hI hne
/-- Where all is right, each entry is the nearest one that dominates. -/
theorem fix_idm {T : Tr} (hI : Inv S r at_ par T) (hF : ∀ y, Rch S (-1) r y → y ≠ r → Fx S r T y) : ∀ x z, T x = some z → x ≠ r → Idm S r z x := by
  have key : ∀ (c x : Nat), Rch S (c : Int) r x → An T r c x → False := by
    intro c x h
    induction h with
    | base h =>
      intro ha
      cases ha with
      | refl _ => exact h rfl
      | up _ h2 _ => exact h2 rfl
    | @step a x ha hx hw ih =>
      intro hA
      have haR := rch_all ha
      cases hA with
      | refl _ => exact hw rfl
      | @up _ z h2 hr h3 =>
        obtain ⟨z', hz', hf⟩ := hF x (.step haR hx (by omega)) hr
        rw [h2] at hz'; cases hz'
        have : ∃ y, T a = some y := by
          by_cases e : a = r
          · rw [e]; exact ⟨_, hI.root⟩
          · obtain ⟨y, hy, _⟩ := hF a haR e; exact ⟨y, hy⟩
        obtain ⟨y, hy⟩ := this
        exact ih (h3.trans (hf a y hx hy))
  intro x z hx hr
  have hR := hI.rch _ _ hx
  obtain ⟨h1, z2, h2⟩ := hI.lt x z hx hr
  refine ⟨⟨hR, fun h => key z x h (.up hx hr (.refl h2))⟩, by rintro rfl; omega, hI.dom x z hx hr⟩
end
end Go.Proofs.Ytheillkpgmpnlaa.GP
namespace Go.Proofs.Ytheillkpgmpnlaa.GP
open Go.RowKit Go.Proofs.Ytheillkpgmpnlaa.G Go.Proofs.YtheillkpgmpnlaaW.PrintWords

/-! #### slices.Reverse -/
def rv (l : List Int) (n i t : Nat) : Int := if t < i ∨ n ≤ t + i then l.getD (n - 1 - t) 0 else l.getD t 0
theorem rv_end (l : List Int) (n i : Nat) (hn : l.length = n) (hi : n ≤ 2 * i + 1) : (List.range n).map (rv l n i) = l.reverse := by
  apply ext_getD 0
  · simp [hn]
  · intro t ht
    rw [List.length_map, List.length_range] at ht
    rw [getD_map_range _ _ _ _ ht]
    have e1 : l.reverse.getD t 0 = l.getD (n - 1 - t) 0 := by
      rw [List.getD_eq_getElem?_getD, List.getD_eq_getElem?_getD, List.getElem?_reverse (by omega), hn]
    rw [e1]
    unfold rv
    split
    · rfl
    · next hc => rw [show n - 1 - t = t by omega]
theorem reverse_l0 (l : List Int) (n : Nat) (hn : l.length = n) (hb : n ≤ big) (d : Nat) : ∀ i, 2 * i ≤ n + 1 → n + 1 - 2 * i ≤ d → Ev (fun k => slices_Reverse_int_int.l0 k ((List.range n).map (rv l n i)) (i : Int) ((n : Int) - 1 - (i : Int))) l.reverse := by
  have hbb : big = 9223372036854775807 := rfl
  induction d with
  | zero =>
    intro i hi hd
    refine Ev.succ ?_; simp only [slices_Reverse_int_int.l0]
    refine Ev.ifn (by omega) ?_
    rw [rv_end l n i hn (by omega)]; exact Ev.pure
  | succ d ih =>
    intro i hi hd
    refine Ev.succ ?_; simp only [slices_Reverse_int_int.l0]
    by_cases hc : (i : Int) < (n : Int) - 1 - (i : Int)
    · refine Ev.ifp hc (Ev.ifp (by omega) (Ev.ifp (by simp; omega) (Ev.ifp (by omega) (Ev.ifp (by simp; omega) ?_))))
      have ej : (n : Int) - 1 - (i : Int) = ((n - 1 - i : Nat) : Int) := by omega
      rw [ej]
      have r1 : rd ((List.range n).map (rv l n i)) ((n - 1 - i : Nat) : Int) = l.getD (n - 1 - i) 0 := by
        simp only [rd, Int.toNat_natCast]
        rw [getD_map_range _ _ _ _ (by omega)]
        unfold rv; rw [if_neg (by omega)]
      have r2 : rd ((List.range n).map (rv l n i)) ((i : Nat) : Int) = l.getD i 0 := by
        simp only [rd, Int.toNat_natCast]
        rw [getD_map_range _ _ _ _ (by omega)]
        unfold rv; rw [if_neg (by omega)]
      rw [r1, r2, Int.toNat_natCast, Int.toNat_natCast]
      have s1 : ((List.range n).map (rv l n i)).set i (l.getD (n - 1 - i) 0) = (List.range n).map (fun t => if t = i then l.getD (n - 1 - i) 0 else rv l n i t) :=
        set_map_range _ _ _ _ _ (by simp) (fun j hj => by simp [hj])
      have s2 : ((List.range n).map (fun t => if t = i then l.getD (n - 1 - i) 0 else rv l n i t)).set (n - 1 - i) (l.getD i 0) = (List.range n).map (rv l n (i + 1)) := by
        refine set_map_range _ _ _ _ _ ?_ (fun j hj => ?_)
        · unfold rv; rw [if_pos (by omega), show n - 1 - (n - 1 - i) = i by omega]
        · by_cases e : j = i
          · subst e; rw [if_pos rfl]; unfold rv; rw [if_pos (by omega)]
          · rw [if_neg e]; unfold rv
            by_cases hq : j < i ∨ n ≤ j + i
            · rw [if_pos hq, if_pos (by omega)]
            · rw [if_neg hq, if_neg (by omega)]
      rw [s1, s2, wrap_nat (by omega), wrap_id (by omega) (by omega), show ((n - 1 - i : Nat) : Int) - 1 = (n : Int) - 1 - ((i + 1 : Nat) : Int) by omega]
      exact ih (i + 1) (by omega) (by omega)
    · refine Ev.ifn hc ?_
      rw [rv_end l n i hn (by omega)]; exact Ev.pure
theorem reverse_ok (l : List Int) (hb : l.length ≤ big) : Ev (fun k => slices_Reverse_int_int.f k l) l.reverse := by
  have hbb : big = 9223372036854775807 := rfl
  unfold slices_Reverse_int_int.f
  have e : l = (List.range l.length).map (rv l l.length 0) := by
    apply ext_getD 0
    · simp
    · intro t ht
      rw [getD_map_range _ _ _ _ ht]
      unfold rv; rw [if_neg (by omega)]
  have h := reverse_l0 l l.length rfl hb (l.length + 1) 0 (by omega) (by omega)
  rw [← e] at h
  rw [wrap_id (by omega) (by omega)]
  simpa using h

/-! #### the machine's state -/
def rb (s : Sn) : List Bool := (List.range 64).map s
def ri (nx : Nat → Nat) : List Int := (List.range 64).map (fun z => ((nx z : Nat) : Int))
def updn (nx : Nat → Nat) (x m : Nat) : Nat → Nat := fun z => if z = x then m else nx z
theorem rd_rb (s : Sn) {y : Nat} (h : y < 64) : rdOf false (rb s) (y : Int) = s y := by
  simp only [rdOf, Int.toNat_natCast, rb]; exact getD_map_range _ _ _ _ h
theorem rd_ri (nx : Nat → Nat) {y : Nat} (h : y < 64) : rd (ri nx) (y : Int) = ((nx y : Nat) : Int) := by
  simp only [rd, Int.toNat_natCast, ri]; exact getD_map_range 64 (fun z => ((nx z : Nat) : Int)) _ _ h
theorem set_rb (s : Sn) (y : Nat) : (rb s).set y true = rb (upd s y) :=
  set_map_range _ _ _ _ _ (by simp [upd]) (fun j hj => by simp [upd, hj])
theorem set_ri (nx : Nat → Nat) (x m : Nat) : (ri nx).set x (m : Int) = ri (updn nx x m) :=
  set_map_range _ _ _ _ _ (by simp [updn]) (fun j hj => by simp [updn, hj])
theorem up_snoc (l : List Nat) (x : Nat) : up (l ++ [x]) = up l ++ [(x : Int)] := by simp [up]
theorem rd_snoc (l : List Nat) (x : Nat) : rd (up (l ++ [x])) (l.length : Int) = (x : Int) := by
  rw [rd_up, List.getD_eq_getElem?_getD, List.getElem?_append_right (Nat.le_refl _)]; simp

def After (S : List (List Nat)) (P : List (List Int)) (sn : Sn) (nx : Nat → Nat) (o st : List Nat) (v : List Int) : Prop :=
  Ev (fun k => if ((up st).length : Int) > 0 then graph_Order.l0 k (rb sn) (ri nx) (up o) (up st) (up2 S) P else (slices_Reverse_int_int.f k (up o)).bind fun t => some t) v
theorem order_l0 {S : List (List Nat)} {P : List (List Int)} {sn : Sn} {nx : Nat → Nat} {o st : List Nat} {x : Nat} {v : List Int} (hb : st.length ≤ 64)
    (h : Ev (fun k => graph_Order.l1 k (rb sn) (ri nx) (up o) (up (st ++ [x])) (x : Int) (up2 S) P) v) : Ev (fun k => graph_Order.l0 k (rb sn) (ri nx) (up o) (up (st ++ [x])) (up2 S) P) v := by
  refine Ev.succ ?_; simp only [graph_Order.l0]
  have e : wrap64 (((up (st ++ [x])).length : Int) - 1) = (st.length : Int) := by
    rw [up_length, List.length_append, List.length_singleton, wrap_id (by omega) (by omega)]; omega
  rw [e, rd_snoc]
  exact Ev.ifp (by omega) (Ev.ifp (by rw [up_length, List.length_append, List.length_singleton]; omega) h)

theorem sim {S : List (List Nat)} (h : Gr S) (P : List (List Int)) (v : List Int) : ∀ (f x : Nat) (sn : Sn) (nx : Nat → Nat) (o st : List Nat), x < S.length → sn x = false → cnt S.length sn ≤ f → (∀ z, sn z = false → nx z = 0) →
    o.length + st.length + cnt S.length sn ≤ 64 →
    (∀ nx', (∀ z, (visit S f x (sn, o)).1 z = false → nx' z = 0) → (∀ z, sn z = true → nx' z = nx z) → After S P (visit S f x (sn, o)).1 nx' (visit S f x (sn, o)).2 st v) →
    Ev (fun k => graph_Order.l1 k (rb (upd sn x)) (ri nx) (up o) (up (st ++ [x])) (x : Int) (up2 S) P) v := by
  have hle := h.le
  intro f
  induction f with
  | zero => intro x sn nx o st hx hs hc; have := cnt_pos hx hs; omega
  | succ f ihf =>
    intro x sn nx o st hx hs hc hz0 hB hK
    have hu := cnt_upd hx hs
    have hdeg := gr_len h hx
    rw [visit_succ] at hK
    have inner : ∀ (m j : Nat) (sn1 : Sn) (nx1 : Nat → Nat) (o1 : List Nat), (S.getD x []).length - j = m → j ≤ (S.getD x []).length → nx1 x = j → sn1 x = true → (∀ z, sn1 z = false → nx1 z = 0) → cnt S.length sn1 ≤ f →
        o1.length + (st.length + 1) + cnt S.length sn1 ≤ 64 → (∀ z, sn z = true → sn1 z = true ∧ nx1 z = nx z) → steps S f ((S.getD x []).drop j) (sn1, o1) = steps S f (S.getD x []) (upd sn x, o) →
        Ev (fun k => graph_Order.l1 k (rb sn1) (ri nx1) (up o1) (up (st ++ [x])) (x : Int) (up2 S) P) v := by
      intro m
      induction m with
      | zero =>
        intro j sn1 nx1 o1 hm hj hnx hsx hzz hcc hbb hkeep heq
        refine Ev.succ ?_; simp only [graph_Order.l1]
        rw [rdL_up, up_length, rd_ri nx1 (by omega), hnx]
        refine Ev.ifp (by omega) (Ev.ifp (by omega) (Ev.ifp (by rw [up2_length]; omega) (Ev.ifn (by omega) (Ev.ifp (by rw [up_length]; omega) ?_))))
        simp only [Option.bind_some]
        have e : wrap64 (((up (st ++ [x])).length : Int) - 1) = (st.length : Int) := by
          rw [up_length, List.length_append, List.length_singleton, wrap_id (by omega) (by omega)]; omega
        rw [e, Int.toNat_natCast]
        refine Ev.ifp (by omega) (Ev.ifp (by rw [up_length, List.length_append, List.length_singleton]; omega) ?_)
        have e2 : (up (st ++ [x])).take st.length = up st := by rw [up_snoc]; simp [up]
        rw [e2, ← up_snoc]
        rw [List.drop_of_length_le (by omega)] at heq
        have e3 : steps S f (S.getD x []) (upd sn x, o) = (sn1, o1) := heq.symm
        rw [e3] at hK
        exact hK nx1 hzz (fun z hz => (hkeep z hz).2)
      | succ m ihm =>
        intro j sn1 nx1 o1 hm hj hnx hsx hzz hcc hbb hkeep heq
        have hj1 : j < (S.getD x []).length := by omega
        have hy := (h.row x hx).2 _ (getD_mem (d := 0) hj1)
        have hxS : sn x = false := hs
        rw [drop_getD _ j 0 hj1, steps_cons] at heq
        refine Ev.succ ?_; simp only [graph_Order.l1]
        rw [rdL_up, up_length, rd_ri nx1 (by omega), hnx, rd_up]
        generalize (S.getD x []).getD j 0 = y at hy heq
        refine Ev.ifp (by omega) (Ev.ifp (by omega) (Ev.ifp (by rw [up2_length]; omega) (Ev.ifp (by omega) (Ev.ifp (by omega) ?_))))
        rw [wrap_nat (by omega), Int.toNat_natCast, set_ri]
        simp only [Option.bind_some]
        refine Ev.ifp (by omega) (Ev.ifp (by omega) ?_)
        rw [rd_rb sn1 (by omega)]
        have hkeep2 : ∀ z, sn z = true → sn1 z = true ∧ updn nx1 x (j + 1) z = nx z := fun z hz => by
          refine ⟨(hkeep z hz).1, ?_⟩
          unfold updn; rw [if_neg (by rintro rfl; rw [hz] at hxS; cases hxS)]; exact (hkeep z hz).2
        have hzz2 : ∀ z, sn1 z = false → updn nx1 x (j + 1) z = 0 := fun z hz => by
          unfold updn; rw [if_neg (by rintro rfl; rw [hz] at hsx; cases hsx)]; exact hzz z hz
        by_cases hys : sn1 y = true
        · refine Ev.ifp hys ?_
          rw [if_pos hys] at heq
          exact ihm (j + 1) sn1 (updn nx1 x (j + 1)) o1 (by omega) (by omega) (by simp [updn]) hsx hzz2 hcc hbb hkeep2 heq
        · refine Ev.ifn hys (Ev.ifp (by rw [up_length, List.length_append, List.length_singleton]; omega) ?_)
          rw [if_neg hys] at heq
          have hys' : sn1 y = false := by simpa using hys
          rw [Int.toNat_natCast, set_rb, ← up_snoc]
          refine order_l0 (by rw [List.length_append, List.length_singleton]; omega) ?_
          refine ihf y sn1 (updn nx1 x (j + 1)) o1 (st ++ [x]) hy hys' hcc hzz2 (by rw [List.length_append, List.length_singleton]; omega) (fun nx' hn1 hn2 => ?_)
          have hvis := (visit_vis h f y (sn1, o1) hy hys' hcc).1
          obtain ⟨l, e1, e2, _, _, e5⟩ := hvis.new
          have hmono : ∀ z, sn1 z = true → (visit S f y (sn1, o1)).1 z = true := fun z hz => hvis.mono hz
          unfold After
          refine Ev.ifp (by rw [up_length, List.length_append, List.length_singleton]; omega) ?_
          refine order_l0 (by omega) ?_
          have e5' : l.length + cnt S.length (visit S f y (sn1, o1)).1 = cnt S.length sn1 := e5
          have e1' : (visit S f y (sn1, o1)).2 = o1 ++ l := e1
          refine ihm (j + 1) _ nx' _ (by omega) (by omega) (by rw [hn2 x hsx]; simp [updn]) (hmono x hsx) hn1 (Nat.le_trans (cnt_le hmono) hcc) ?_ (fun z hz => ⟨hmono z (hkeep z hz).1, by rw [hn2 z (hkeep z hz).1]; exact (hkeep2 z hz).2⟩) heq
          rw [e1', List.length_append]; omega
    exact inner _ 0 (upd sn x) nx o rfl (by omega) (hz0 x hs) (upd_self _ _) (fun z hz => hz0 z (by
      cases hq : sn z with
      | false => rfl
      | true => rw [upd_true.mpr (.inr hq)] at hz; cases hz)) (by omega) (by omega) (fun z hz => ⟨upd_true.mpr (.inr hz), rfl⟩) rfl

theorem order_ok {S : List (List Nat)} (h : Gr S) {r : Nat} (hr : r < S.length) : Ev (fun k => graph_Order.f k (up2 S) (up2 (pr S)) (r : Int)) (up (dfs S r)) := by
  have hle := h.le
  unfold graph_Order.f
  refine Ev.bind (may_ok h _) ?_
  refine Ev.ifp (by simp) (Ev.ifn (by omega) ?_)
  refine Ev.succ ?_; simp only [graph_Order.j0]
  refine Ev.ifn (by rw [up2_length]; simp; omega) (Ev.ifp (by omega) (Ev.ifp (by omega) ?_))
  have e1 : (List.replicate 64 false).set ((r : Int)).toNat true = rb (upd none' r) := by
    rw [Int.toNat_natCast, ← set_rb]; rfl
  have e2 : List.replicate 64 (0 : Int) = ri (fun _ => 0) := rfl
  rw [e1, e2]
  have hl := dfs_len h hr
  have := sim h (up2 (pr S)) (up (dfs S r)) S.length r none' (fun _ => 0) [] [] hr rfl (Nat.le_of_eq (cnt_none _)) (fun _ _ => rfl) (by rw [cnt_none]; simp; exact hle) (fun nx' _ _ => by
    unfold After
    refine Ev.ifn (by simp) ?_
    refine Ev.bind (reverse_ok _ ?_) (Ev.pure.of_eq ?_)
    · rw [up_length]
      have e : (dfs S r).length = (visit S S.length r (none', [])).2.length := by rw [dfs, List.length_reverse]
      simp only [big]; omega
    · rw [dfs, up, up, List.map_reverse])
  exact order_l0 (st := []) (by simp) this
theorem order_out {S : List (List Nat)} (h : Gr S) (p : List (List Int)) (r : Int) (hr : r < 0 ∨ (S.length : Int) ≤ r) : Ev (fun k => graph_Order.f k (up2 S) p r) [] := by
  unfold graph_Order.f
  refine Ev.bind (may_ok h _) ?_
  have hj : Ev (fun k => graph_Order.j0 k r true (up2 S) p) ([] : List Int) := by
    refine Ev.succ ?_; simp only [graph_Order.j0]; exact Ev.ifp trivial Ev.pure
  by_cases hp : up2 (pr S) = p
  · refine Ev.ifp (by simp [hp]) ?_
    by_cases h0 : r < 0
    · exact Ev.ifp h0 hj
    · refine Ev.ifn h0 ?_
      rw [decide_eq_true (by rw [up2_length]; omega)]; exact hj
  · exact Ev.ifn (by simp [hp]) hj
theorem order_no {s p : List (List Int)} (r : Int) (hm : Ev (fun k => graph_May.f k s p) false) : Ev (fun k => graph_Order.f k s p r) [] := by
  unfold graph_Order.f
  refine Ev.bind hm (Ev.ifn (by decide) ?_)
  refine Ev.succ ?_; simp only [graph_Order.j0]; exact Ev.ifp trivial Ev.pure

/-! #### each block but the first one has one ahead of it from which it is come to -/
mutual
theorem visit_par (S : List (List Nat)) : ∀ (f x : Nat) (st : Sn × List Nat), ∃ l, (visit S f x st).2 = st.2 ++ l ∧ ∀ l1 z l2, l = l1 ++ z :: l2 → z = x ∨ ∃ p ∈ l2, z ∈ S.getD p []
  | 0, x, st => ⟨[], by simp [visit], fun l1 z l2 e => by simp at e⟩
  | f + 1, x, st => by
    obtain ⟨l, h1, h2⟩ := steps_par S f (S.getD x []) (upd st.1 x, st.2)
    refine ⟨l ++ [x], by rw [visit_succ]; show (steps S f (S.getD x []) (upd st.1 x, st.2)).2 ++ [x] = _; rw [h1, List.append_assoc], fun l1 z l2 e => ?_⟩
    rcases List.append_eq_append_iff.mp e with ⟨m, hm1, hm2⟩ | ⟨m, hm1, hm2⟩
    · cases m with
      | nil => simp at hm2; exact .inl hm2.1.symm
      | cons b m =>
        have := congrArg List.length hm2
        simp only [List.length_append, List.length_cons, List.length_nil] at this; omega
    · cases m with
      | nil => simp at hm2; exact .inl hm2.1
      | cons b m =>
        injection hm2 with e1 e2
        subst e1
        right
        rcases h2 l1 z m hm1 with e3 | ⟨p, hp, e3⟩
        · exact ⟨x, by rw [e2]; simp, e3⟩
        · exact ⟨p, by rw [e2]; exact List.mem_append_left _ hp, e3⟩
theorem steps_par (S : List (List Nat)) : ∀ (f : Nat) (ys : List Nat) (st : Sn × List Nat), ∃ l, (steps S f ys st).2 = st.2 ++ l ∧ ∀ l1 z l2, l = l1 ++ z :: l2 → z ∈ ys ∨ ∃ p ∈ l2, z ∈ S.getD p []
  | f, [], st => ⟨[], by simp [steps], fun l1 z l2 e => by simp at e⟩
  | f, y :: ys, st => by
    rw [steps_cons]
    by_cases hy : st.1 y = true
    · rw [if_pos hy]
      obtain ⟨l, h1, h2⟩ := steps_par S f ys st
      refine ⟨l, h1, fun l1 z l2 e => ?_⟩
      rcases h2 l1 z l2 e with e | e
      · exact .inl (List.mem_cons_of_mem _ e)
      · exact .inr e
    · rw [if_neg hy]
      obtain ⟨la, a1, a2⟩ := visit_par S f y st
      obtain ⟨lb, b1, b2⟩ := steps_par S f ys (visit S f y st)
      refine ⟨la ++ lb, by rw [b1, a1, List.append_assoc], fun l1 z l2 e => ?_⟩
      rcases List.append_eq_append_iff.mp e with ⟨m, hm1, hm2⟩ | ⟨m, hm1, hm2⟩
      · rcases b2 m z l2 hm2 with e | e
        · exact .inl (List.mem_cons_of_mem _ e)
        · exact .inr e
      · cases m with
        | nil =>
          rcases b2 [] z l2 hm2.symm with e | e
          · exact .inl (List.mem_cons_of_mem _ e)
          · exact .inr e
        | cons b m =>
          injection hm2 with e1 e2
          subst e1
          rcases a2 l1 z m hm1 with e3 | ⟨p, hp, e3⟩
          · exact .inl (e3 ▸ List.mem_cons_self ..)
          · exact .inr ⟨p, by rw [e2]; exact List.mem_append_left _ hp, e3⟩
end
theorem dfs_par {S : List (List Nat)} {r : Nat} {l1 l2 : List Nat} {z : Nat} (e : dfs S r = l1 ++ z :: l2) (hz : z ≠ r) : ∃ p ∈ l1, z ∈ S.getD p [] := by
  obtain ⟨l, h1, h2⟩ := visit_par S S.length r (none', [])
  have e2 : l = l2.reverse ++ z :: l1.reverse := by
    have e3 := congrArg List.reverse e
    rw [dfs, List.reverse_reverse, h1] at e3
    simpa using e3
  rcases h2 _ _ _ e2 with e3 | ⟨p, hp, e3⟩
  · exact absurd e3 hz
  · exact ⟨p, List.mem_reverse.mp hp, e3⟩
theorem nodup_inj : ∀ {l : List Nat}, l.Nodup → ∀ {i j : Nat} (hi : i < l.length) (hj : j < l.length), l[i] = l[j] → i = j := by
  intro l
  induction l with
  | nil => intro _ i j hi; simp at hi
  | cons x l ih =>
    intro hn i j hi hj e
    obtain ⟨h1, h2⟩ := List.nodup_cons.mp hn
    cases i with
    | zero => cases j with
      | zero => rfl
      | succ j => exact absurd (by simp at e; rw [e]; exact List.getElem_mem _) h1
    | succ i => cases j with
      | zero => exact absurd (by simp at e; rw [← e]; exact List.getElem_mem _) h1
      | succ j =>
        have := ih h2 (i := i) (j := j) (by simpa using hi) (by simpa using hj) (by simpa using e)
        omega
/-- Places by the order. -/
def Places (o : List Nat) (at_ : Nat → Nat) : Prop := ∀ j, j < o.length → at_ (o.getD j 0) = j
theorem mem_at {o : List Nat} {x : Nat} (h : x ∈ o) : ∃ i, i < o.length ∧ o.getD i 0 = x := by
  obtain ⟨i, hi, e⟩ := List.getElem_of_mem h
  exact ⟨i, hi, by rw [List.getD_eq_getElem?_getD, List.getElem?_eq_getElem hi]; exact e⟩
theorem dfs_pl {S : List (List Nat)} (h : Gr S) {r : Nat} (hr : r < S.length) {at_ : Nat → Nat} (ha : Places (dfs S r) at_) : ∃ par, Pl S r at_ par := by
  have key : ∀ x, Rch S (-1) r x → x ≠ r → ∃ p, Rch S (-1) r p ∧ x ∈ S.getD p [] ∧ at_ p < at_ x := by
    intro x hx hxr
    obtain ⟨i, hi, e⟩ := mem_at ((dfs_mem h hr x).mpr hx)
    have e2 : dfs S r = (dfs S r).take i ++ x :: (dfs S r).drop (i + 1) := by
      have e1 := drop_getD (dfs S r) i 0 hi
      rw [e] at e1
      rw [← e1, List.take_append_drop]
    obtain ⟨p, hp, hpx⟩ := dfs_par e2 hxr
    have hp2 := List.mem_of_mem_take hp
    refine ⟨p, (dfs_mem h hr p).mp hp2, hpx, ?_⟩
    obtain ⟨j, hj, e3⟩ := List.getElem_of_mem hp
    have hj' : j < i := by simp at hj; omega
    have e4 : (dfs S r).getD j 0 = p := by
      rw [List.getD_eq_getElem?_getD, List.getElem?_eq_getElem (by omega)]
      rw [List.getElem_take] at e3; exact e3
    rw [← e4, ha j (by omega), ← e, ha i hi]; exact hj'
  have := fun x => Classical.propDecidable (Rch S (-1) r x ∧ x ≠ r)
  refine ⟨fun x => if hx : Rch S (-1) r x ∧ x ≠ r then (key x hx.1 hx.2).choose else 0, ?_, ?_⟩
  · intro x y hx hy e
    obtain ⟨i, hi, e1⟩ := mem_at ((dfs_mem h hr x).mpr hx)
    obtain ⟨j, hj, e2⟩ := mem_at ((dfs_mem h hr y).mpr hy)
    rw [← e1, ← e2, ha i hi, ha j hj] at e
    rw [← e1, ← e2, e]
  · intro x hx hxr
    simp only [dif_pos (show Rch S (-1) r x ∧ x ≠ r from ⟨hx, hxr⟩)]
    exact (key x hx hxr).choose_spec

/-! #### lists of entries -/
def tv (T : Tr) (x : Nat) : Int := match T x with | none => -2 | some y => (y : Int)
def tl (n : Nat) (T : Tr) : List Int := (List.range n).map (tv T)
def li (n : Nat) (f : Nat → Nat) : List Int := (List.range n).map (fun x => ((f x : Nat) : Int))
@[simp] theorem tl_length (n : Nat) (T : Tr) : (tl n T).length = n := by simp [tl]
@[simp] theorem li_length (n : Nat) (f : Nat → Nat) : (li n f).length = n := by simp [li]
theorem rd_tl {n : Nat} (T : Tr) {x : Nat} (h : x < n) : rd (tl n T) (x : Int) = tv T x := by
  simp only [rd, Int.toNat_natCast, tl]; exact getD_map_range _ _ _ _ h
theorem rd_li {n : Nat} (f : Nat → Nat) {x : Nat} (h : x < n) : rd (li n f) (x : Int) = ((f x : Nat) : Int) := by
  simp only [rd, Int.toNat_natCast, li]; exact getD_map_range _ _ _ _ h
theorem set_tl (n : Nat) (T : Tr) (x y : Nat) : (tl n T).set x (y : Int) = tl n (put T x y) :=
  set_map_range _ _ _ _ _ (by simp [tv, put]) (fun j hj => by simp [tv, put, hj])
def updn' (f : Nat → Nat) (x v : Nat) : Nat → Nat := fun y => if y = x then v else f y
theorem set_li (n : Nat) (f : Nat → Nat) (x v : Nat) : (li n f).set x (v : Int) = li n (updn' f x v) :=
  set_map_range _ _ _ _ _ (by simp [updn']) (fun j hj => by simp [updn', hj])
theorem tv_some {T : Tr} {x y : Nat} (h : T x = some y) : tv T x = (y : Int) := by simp [tv, h]
theorem tv_none {T : Tr} {x : Nat} (h : T x = none) : tv T x = -2 := by simp [tv, h]

/-! #### where two ways up meet -/
def Lca (T : Tr) (r a b m : Nat) : Prop := An T r m a ∧ An T r m b ∧ ∀ c, An T r c a → An T r c b → An T r c m
section
variable {S : List (List Nat)} {r n : Nat} {at_ par : Nat → Nat} {T : Tr}
theorem lca_left (hI : Inv S r at_ par T) {a a' b m : Nat} (ha : T a = some a') (hr : a ≠ r) (hlt : at_ b < at_ a) (h : Lca T r a' b m) : Lca T r a b m := by
  refine ⟨.up ha hr h.1, h.2.1, fun c h1 h2 => ?_⟩
  cases h1 with
  | refl _ => have := h2.le hI; omega
  | up h3 _ h4 => rw [ha] at h3; cases h3; exact h.2.2 c h4 h2
theorem lca_right (hI : Inv S r at_ par T) {a b b' m : Nat} (hb : T b = some b') (hr : b ≠ r) (hlt : at_ a < at_ b) (h : Lca T r a b' m) : Lca T r a b m := by
  refine ⟨h.1, .up hb hr h.2.1, fun c h1 h2 => ?_⟩
  cases h2 with
  | refl _ => have := h1.le hI; omega
  | up h3 _ h4 => rw [hb] at h3; cases h3; exact h.2.2 c h1 h4
theorem meet_all (hG : Gr S) (hr : r < S.length) (hP : Pl S r at_ par) (h0 : at_ r = 0) (hI : Inv S r at_ par T) : ∀ (N a b a' b' : Nat), at_ a + at_ b ≤ N → T a = some a' → T b = some b' →
    (∃ m : Nat, Ev (fun k => dom_meet.l0 k (tl S.length T) (li S.length at_) (a : Int) (b : Int)) (m : Int) ∧ Lca T r a b m) ∧
    (∃ m : Nat, Ev (fun k => dom_meet.l1 k (tl S.length T) (li S.length at_) (a : Int) (b : Int)) (m : Int) ∧ Lca T r a b m) ∧
    (∃ m : Nat, Ev (fun k => dom_meet.l2 k (tl S.length T) (li S.length at_) (a : Int) (b : Int)) (m : Int) ∧ Lca T r a b m) := by
  intro N
  induction N with
  | zero =>
    intro a b a' b' hN ha hb
    have e : a = b := hP.inj a b (hI.rch _ _ ha) (hI.rch _ _ hb) (by omega)
    subst e
    have hal := (hI.rch _ _ ha).lt hG hr
    have hl : Lca T r a a a := ⟨.refl ha, .refl ha, fun c h _ => h⟩
    have l0 : Ev (fun k => dom_meet.l0 k (tl S.length T) (li S.length at_) (a : Int) (a : Int)) (a : Int) := by
      refine Ev.succ ?_; simp only [dom_meet.l0]; exact Ev.ifp trivial Ev.pure
    have l2 : Ev (fun k => dom_meet.l2 k (tl S.length T) (li S.length at_) (a : Int) (a : Int)) (a : Int) := by
      refine Ev.succ ?_; simp only [dom_meet.l2]
      exact Ev.ifp (by omega) (Ev.ifp (by rw [li_length]; omega) (Ev.ifp (by omega) (Ev.ifp (by rw [li_length]; omega) (Ev.ifn (by omega) l0))))
    have l1 : Ev (fun k => dom_meet.l1 k (tl S.length T) (li S.length at_) (a : Int) (a : Int)) (a : Int) := by
      refine Ev.succ ?_; simp only [dom_meet.l1]
      exact Ev.ifp (by omega) (Ev.ifp (by rw [li_length]; omega) (Ev.ifp (by omega) (Ev.ifp (by rw [li_length]; omega) (Ev.ifn (by omega) l2))))
    exact ⟨⟨a, l0, hl⟩, ⟨a, l1, hl⟩, ⟨a, l2, hl⟩⟩
  | succ N ih =>
    intro a b a' b' hN ha hb
    have hal := (hI.rch _ _ ha).lt hG hr
    have hbl := (hI.rch _ _ hb).lt hG hr
    have pass1 : ∀ {v : Int}, at_ a ≤ at_ b → Ev (fun k => dom_meet.l2 k (tl S.length T) (li S.length at_) (a : Int) (b : Int)) v → Ev (fun k => dom_meet.l1 k (tl S.length T) (li S.length at_) (a : Int) (b : Int)) v := by
      intro v hle h
      refine Ev.succ ?_; simp only [dom_meet.l1]
      exact Ev.ifp (by omega) (Ev.ifp (by rw [li_length]; omega) (Ev.ifp (by omega) (Ev.ifp (by rw [li_length]; omega) (Ev.ifn (by rw [rd_li _ hal, rd_li _ hbl]; omega) h))))
    have pass2 : ∀ {v : Int}, at_ b ≤ at_ a → Ev (fun k => dom_meet.l0 k (tl S.length T) (li S.length at_) (a : Int) (b : Int)) v → Ev (fun k => dom_meet.l2 k (tl S.length T) (li S.length at_) (a : Int) (b : Int)) v := by
      intro v hle h
      refine Ev.succ ?_; simp only [dom_meet.l2]
      exact Ev.ifp (by omega) (Ev.ifp (by rw [li_length]; omega) (Ev.ifp (by omega) (Ev.ifp (by rw [li_length]; omega) (Ev.ifn (by rw [rd_li _ hal, rd_li _ hbl]; omega) h))))
    have pass0 : ∀ {v : Int}, a ≠ b → Ev (fun k => dom_meet.l1 k (tl S.length T) (li S.length at_) (a : Int) (b : Int)) v → Ev (fun k => dom_meet.l0 k (tl S.length T) (li S.length at_) (a : Int) (b : Int)) v := by
      intro v hne h
      refine Ev.succ ?_; simp only [dom_meet.l0]
      exact Ev.ifn (by omega) h
    rcases Nat.lt_trichotomy (at_ a) (at_ b) with hlt | heq | hgt
    · have hbr : b ≠ r := by rintro rfl; omega
      obtain ⟨h1, z, h2⟩ := hI.lt b b' hb hbr
      have hb'l := (hI.rch _ _ h2).lt hG hr
      obtain ⟨_, _, m, h3, h4⟩ := ih a b' a' z (by omega) ha h2
      have h5 := lca_right hI hb hbr hlt h4
      have l2 : Ev (fun k => dom_meet.l2 k (tl S.length T) (li S.length at_) (a : Int) (b : Int)) (m : Int) := by
        refine Ev.succ ?_; simp only [dom_meet.l2]
        refine Ev.ifp (by omega) (Ev.ifp (by rw [li_length]; omega) (Ev.ifp (by omega) (Ev.ifp (by rw [li_length]; omega) (Ev.ifp (by rw [rd_li _ hal, rd_li _ hbl]; omega) (Ev.ifp (by rw [tl_length]; omega) ?_)))))
        rw [rd_tl _ hbl, tv_some hb]; exact h3
      have l1 := pass1 (by omega) l2
      exact ⟨⟨m, pass0 (by rintro rfl; omega) l1, h5⟩, ⟨m, l1, h5⟩, ⟨m, l2, h5⟩⟩
    · have e : a = b := hP.inj a b (hI.rch _ _ ha) (hI.rch _ _ hb) heq
      subst e
      have hl : Lca T r a a a := ⟨.refl ha, .refl ha, fun c h _ => h⟩
      have l0 : Ev (fun k => dom_meet.l0 k (tl S.length T) (li S.length at_) (a : Int) (a : Int)) (a : Int) := by
        refine Ev.succ ?_; simp only [dom_meet.l0]; exact Ev.ifp trivial Ev.pure
      have l2 := pass2 (by omega) l0
      exact ⟨⟨a, l0, hl⟩, ⟨a, pass1 (by omega) l2, hl⟩, ⟨a, l2, hl⟩⟩
    · have har : a ≠ r := by rintro rfl; omega
      obtain ⟨h1, z, h2⟩ := hI.lt a a' ha har
      obtain ⟨_, ⟨m, h3, h4⟩, _⟩ := ih a' b z b' (by omega) h2 hb
      have h5 := lca_left hI ha har hgt h4
      have l1 : Ev (fun k => dom_meet.l1 k (tl S.length T) (li S.length at_) (a : Int) (b : Int)) (m : Int) := by
        refine Ev.succ ?_; simp only [dom_meet.l1]
        refine Ev.ifp (by omega) (Ev.ifp (by rw [li_length]; omega) (Ev.ifp (by omega) (Ev.ifp (by rw [li_length]; omega) (Ev.ifp (by rw [rd_li _ hal, rd_li _ hbl]; omega) (Ev.ifp (by rw [tl_length]; omega) ?_)))))
        rw [rd_tl _ hal, tv_some ha]; exact h3
      have l0 := pass0 (by rintro rfl; omega) l1
      exact ⟨⟨m, l0, h5⟩, ⟨m, l1, h5⟩, ⟨m, pass2 (by omega) l0, h5⟩⟩
theorem meet3 (hG : Gr S) (hr : r < S.length) (hP : Pl S r at_ par) (h0 : at_ r = 0) (hI : Inv S r at_ par T) {a b a' b' : Nat} (ha : T a = some a') (hb : T b = some b') :
    ∃ m : Nat, Ev (fun k => dom_meet.f k (tl S.length T) (li S.length at_) (a : Int) (b : Int)) (m : Int) ∧ Lca T r a b m := by
  unfold dom_meet.f
  exact (meet_all hG hr hP h0 hI _ a b a' b' (Nat.le_refl _) ha hb).1

/-! #### the best one of those from which one comes -/
/-- What is best of some blocks from which one comes: nothing, or the nearest one over all that there is of them. -/
def BestOf (T : Tr) (r : Nat) (ps : List Nat) (best : Int) : Prop :=
  ((∀ p ∈ ps, T p = none) ∧ best = -2) ∨ ∃ b : Nat, best = (b : Int) ∧ (∃ z, T b = some z) ∧ (∀ p ∈ ps, ∀ z, T p = some z → An T r b p) ∧ ∀ c, (∀ p ∈ ps, ∀ z, T p = some z → An T r c p) → An T r c b
theorem bestOf_nil : BestOf T r [] (-2) := .inl ⟨by simp, rfl⟩
theorem tree_l3 (hG : Gr S) (hr : r < S.length) (hP : Pl S r at_ par) (h0 : at_ r = 0) (hI : Inv S r at_ par T) {x : Nat} (hx : x < S.length) (o y : List Int) (i : Int) (v : List Int)
    (d : Nat) : ∀ (j : Nat) (best : Int), ((pr S).getD x []).length - j = d → j ≤ ((pr S).getD x []).length → BestOf T r (((pr S).getD x []).take j) best →
    (∀ best', BestOf T r ((pr S).getD x []) best' → Ev (fun k => if tv T x = best' then dom_Tree.l2 k (r : Int) o (tl S.length T) (li S.length at_) y (y.length : Int) (wrap64 (i + 1)) (up2 S) (up2 (pr S)) else dom_Tree.l1 k (r : Int) o ((tl S.length T).set x best') (li S.length at_) (up2 S) (up2 (pr S))) v) →
    Ev (fun k => dom_Tree.l3 k (r : Int) o (tl S.length T) (li S.length at_) (x : Int) best y (y.length : Int) i (up ((pr S).getD x [])) ((up ((pr S).getD x [])).length : Int) (j : Int) (up2 S) (up2 (pr S))) v := by
  have hlen : ((pr S).getD x []).length ≤ 64 := gr_len (gr_pr hG) (by rw [pr_length]; exact hx)
  induction d with
  | zero =>
    intro j best hd hj hB hK
    refine Ev.succ ?_; simp only [dom_Tree.l3]
    refine Ev.ifn (by rw [up_length]; omega) (Ev.ifp (by omega) (Ev.ifp (by rw [tl_length]; omega) ?_))
    rw [rd_tl _ hx, Int.toNat_natCast]
    rw [List.take_of_length_le (by omega)] at hB
    exact hK best hB
  | succ d ih =>
    intro j best hd hj hB hK
    have hj1 : j < ((pr S).getD x []).length := by omega
    have hmem : ((pr S).getD x []).getD j 0 ∈ (pr S).getD x [] := getD_mem hj1
    have hp := (mem_pr hx).mp hmem
    have htk := take_getD ((pr S).getD x []) j 0 hj1
    refine Ev.succ ?_; simp only [dom_Tree.l3]
    rw [rd_up]
    generalize ((pr S).getD x []).getD j 0 = p at hmem hp htk
    have hstep : ∀ best', BestOf T r (((pr S).getD x []).take (j + 1)) best' → Ev (fun k => dom_Tree.l3 k (r : Int) o (tl S.length T) (li S.length at_) (x : Int) best' y (y.length : Int) i (up ((pr S).getD x [])) ((up ((pr S).getD x [])).length : Int) (wrap64 ((j : Int) + 1)) (up2 S) (up2 (pr S))) v := by
      intro best' hB'
      rw [wrap_nat (by omega)]
      exact ih (j + 1) best' (by omega) (by omega) hB' hK
    refine Ev.ifp (by rw [up_length]; omega) (Ev.ifp (by omega) (Ev.ifp (by rw [up_length]; omega) (Ev.ifp (by omega) (Ev.ifp (by rw [tl_length]; omega) ?_))))
    rw [rd_tl _ hp.1]
    cases hT : T p with
    | none =>
      refine Ev.ifp (tv_none hT) (hstep best ?_)
      rw [htk]
      rcases hB with ⟨h1, h2⟩ | ⟨b, h1, h2, h3, h4⟩
      · refine .inl ⟨fun q hq => ?_, h2⟩
        rcases List.mem_append.mp hq with e | e
        · exact h1 q e
        · rw [List.mem_singleton.mp e]; exact hT
      · refine .inr ⟨b, h1, h2, fun q hq z hz => ?_, fun c hc => h4 c (fun q hq => hc q (List.mem_append_left _ hq))⟩
        rcases List.mem_append.mp hq with e | e
        · exact h3 q e z hz
        · rw [List.mem_singleton.mp e, hT] at hz; cases hz
    | some p' =>
      refine Ev.ifn (by rw [tv_some hT]; omega) ?_
      rcases hB with ⟨h1, h2⟩ | ⟨b, h1, ⟨bz, h2⟩, h3, h4⟩
      · refine Ev.ifp h2 (hstep (p : Int) ?_)
        rw [htk]
        refine .inr ⟨p, rfl, ⟨p', hT⟩, fun q hq z hz => ?_, fun c hc => hc p (by simp) p' hT⟩
        rcases List.mem_append.mp hq with e | e
        · rw [h1 q e] at hz; cases hz
        · rw [List.mem_singleton.mp e]; exact .refl hT
      · refine Ev.ifn (by omega) ?_
        obtain ⟨m, g1, g2, g3, g4⟩ := meet3 hG hr hP h0 hI h2 hT
        rw [h1]
        refine Ev.bind g1 (hstep (m : Int) ?_)
        rw [htk]
        refine .inr ⟨m, rfl, g2.top, fun q hq z hz => ?_, fun c hc => g4 c (h4 c (fun q hq => hc q (List.mem_append_left _ hq))) (hc p (by simp) p' hT)⟩
        rcases List.mem_append.mp hq with e | e
        · exact g2.trans (h3 q e z hz)
        · rw [List.mem_singleton.mp e]; exact g3

/-! #### the whole -/
def wt (n : Nat) (at_ : Nat → Nat) (T : Tr) : Nat := ((List.range n).map (fun x => match T x with | none => n | some y => at_ y)).sum
theorem sum_le {l : List Nat} {f g : Nat → Nat} (h : ∀ x ∈ l, f x ≤ g x) : (l.map f).sum ≤ (l.map g).sum := by
  induction l with
  | nil => simp
  | cons x l ih =>
    have h1 := ih (fun y hy => h y (List.mem_cons_of_mem _ hy))
    have h2 := h x (List.mem_cons_self ..)
    simp only [List.map_cons, List.sum_cons]; omega
theorem sum_lt {l : List Nat} {f g : Nat → Nat} (h : ∀ x ∈ l, f x ≤ g x) {z : Nat} (hz : z ∈ l) (hl : f z < g z) : (l.map f).sum < (l.map g).sum := by
  induction l with
  | nil => cases hz
  | cons x l ih =>
    have h1 := sum_le (fun y hy => h y (List.mem_cons_of_mem x hy))
    have h2 := h x (List.mem_cons_self ..)
    simp only [List.map_cons, List.sum_cons]
    rcases List.mem_cons.mp hz with e | e
    · subst e; omega
    · have := ih (fun y hy => h y (List.mem_cons_of_mem _ hy)) e; omega
open Classical in
/-- A block's entry: the nearest of those that dominate it; -1: the root; -2: it isn't reached. -/
noncomputable def idv (S : List (List Nat)) (r x : Nat) : Int := if x = r then -1 else if h : ∃ z, Idm S r z x then (h.choose : Int) else -2
noncomputable def dtl (S : List (List Nat)) (r : Nat) : List Int := (List.range S.length).map (idv S r)
theorem idv_root : idv S r r = -1 := by simp [idv]
theorem idv_idm (hP : Pl S r at_ par) {x z : Nat} (hx : x ≠ r) (h : Idm S r z x) : idv S r x = (z : Int) := by
  have hex : ∃ z, Idm S r z x := ⟨z, h⟩
  unfold idv
  rw [if_neg hx, dif_pos hex, idm_unique hP hex.choose_spec h]
theorem idv_no {x : Nat} (hr : r < S.length) (hx : ¬ Rch S (-1) r x) : idv S r x = -2 := by
  unfold idv
  rw [if_neg (fun e => hx (by subst e; exact .base (by omega))), dif_neg (fun h => by obtain ⟨z, hz⟩ := h; exact hx hz.1.1)]
theorem tree_end (hP : Pl S r at_ par) (hr : r < S.length) (hI : Inv S r at_ par T) (hF : ∀ y, Rch S (-1) r y → y ≠ r → Fx S r T y) : (tl S.length T).set r (-1) = dtl S r := by
  refine set_map_range _ _ _ _ _ idv_root (fun j hj => ?_)
  by_cases hR : Rch S (-1) r j
  · obtain ⟨z, hz, _⟩ := hF j hR hj
    rw [tv_some hz]
    exact idv_idm hP hj (fix_idm hI hF j z hz hj)
  · rw [idv_no hr hR]
    cases hT : T j with
    | none => exact (tv_none hT).symm
    | some y => exact absurd (hI.rch _ _ hT) hR
theorem tree_go (hG : Gr S) (hr : r < S.length) (ha : Places (dfs S r) at_) (hP : Pl S r at_ par) (hI : Inv S r at_ par T)
    (hgo : ∀ T', Inv S r at_ par T' → wt S.length at_ T' < wt S.length at_ T → Ev (fun k => dom_Tree.l1 k (r : Int) (up (dfs S r)) (tl S.length T') (li S.length at_) (up2 S) (up2 (pr S))) (dtl S r)) :
    Ev (fun k => dom_Tree.l1 k (r : Int) (up (dfs S r)) (tl S.length T) (li S.length at_) (up2 S) (up2 (pr S))) (dtl S r) := by
  obtain ⟨tail, htail⟩ := dfs_head hG r
  have hle := hG.le
  have hdl := dfs_len hG hr
  have h0 : at_ r = 0 := by have := ha 0 (by rw [htail]; simp); rw [htail] at this; simpa using this
  have htl : tail.length + 1 = (dfs S r).length := by rw [htail]; simp
  have hget : ∀ i, (dfs S r).getD (i + 1) 0 = tail.getD i 0 := by intro i; rw [htail]; simp
  have hatn : ∀ y, Rch S (-1) r y → at_ y < S.length := by
    intro y hy
    obtain ⟨i, hi, e⟩ := mem_at ((dfs_mem hG hr y).mpr hy)
    rw [← e, ha i hi]; omega
  have l2 : ∀ (d i : Nat), tail.length - i = d → i ≤ tail.length → (∀ y, Rch S (-1) r y → at_ y ≤ i → y ≠ r → Fx S r T y) →
      Ev (fun k => dom_Tree.l2 k (r : Int) (up (dfs S r)) (tl S.length T) (li S.length at_) (up tail) ((up tail).length : Int) (i : Int) (up2 S) (up2 (pr S))) (dtl S r) := by
    intro d
    induction d with
    | zero =>
      intro i hd hi hF
      refine Ev.succ ?_; simp only [dom_Tree.l2]
      refine Ev.ifn (by rw [up_length]; omega) (Ev.ifp (by omega) (Ev.ifp (by rw [tl_length]; omega) (Ev.pure.of_eq ?_)))
      rw [Int.toNat_natCast]
      refine tree_end hP hr hI (fun y hy hyr => hF y hy ?_ hyr)
      obtain ⟨j, hj, e⟩ := mem_at ((dfs_mem hG hr y).mpr hy)
      rw [← e, ha j hj]; omega
    | succ d ih =>
      intro i hd hi hF
      have hi1 : i + 1 < (dfs S r).length := by omega
      have hmem : (dfs S r).getD (i + 1) 0 ∈ dfs S r := getD_mem hi1
      have hat := ha (i + 1) hi1
      rw [hget] at hmem hat
      have hxr : tail.getD i 0 ≠ r := by intro e; rw [e, h0] at hat; omega
      refine Ev.succ ?_; simp only [dom_Tree.l2]
      rw [rd_up]
      generalize tail.getD i 0 = x at hmem hat hxr
      have hxl := dfs_lt hG hr x hmem
      have hxR := (dfs_mem hG hr x).mp hmem
      have hF' : ∀ y, Rch S (-1) r y → at_ y < at_ x → y ≠ r → Fx S r T y := fun y hy hlt hyr => hF y hy (by omega) hyr
      refine Ev.ifp (by rw [up_length]; omega) (Ev.ifp (by omega) (Ev.ifp (by rw [up_length]; omega) (Ev.ifp (by omega) (Ev.ifp (by rw [up2_length, pr_length]; omega) ?_))))
      rw [rdL_up]
      refine tree_l3 hG hr hP h0 hI hxl (up (dfs S r)) (up tail) (i : Int) (dtl S r) _ 0 (-2) rfl (by omega) (by rw [List.take_zero]; exact bestOf_nil) (fun best hB => ?_)
      obtain ⟨pR, pS, pA⟩ := hP.par x hxR hxr
      have hpl := pR.lt hG hr
      obtain ⟨pz, hpz⟩ : ∃ z, T (par x) = some z := by
        by_cases e : par x = r
        · rw [e]; exact ⟨_, hI.root⟩
        · obtain ⟨z, hz, _⟩ := hF' _ pR pA e; exact ⟨z, hz⟩
      have hpm : par x ∈ (pr S).getD x [] := (mem_pr hxl).mpr ⟨hpl, pS⟩
      rcases hB with ⟨h1, _⟩ | ⟨b, h1, ⟨bz, h2⟩, h3, h4⟩
      · have := h1 _ hpm; rw [hpz] at this; cases this
      · have hall : ∀ p z, x ∈ S.getD p [] → T p = some z → p ∈ (pr S).getD x [] := fun p z hp hz => (mem_pr hxl).mpr ⟨(hI.rch _ _ hz).lt hG hr, hp⟩
        have hBest : Best S r T x b := ⟨fun p y hp hy => h3 p (hall p y hp hy) y hy, fun c hc => h4 c (fun p hp z hz => hc p z ((mem_pr hxl).mp hp).2 hz)⟩
        subst h1
        by_cases e : tv T x = (b : Int)
        · refine Ev.ifp e ?_
          rw [wrap_nat (by omega)]
          refine ih (i + 1) (by omega) (by omega) (fun y hy hyi hyr => ?_)
          by_cases e2 : at_ y ≤ i
          · exact hF y hy e2 hyr
          · have e3 : y = x := hP.inj y x hy hxR (by omega)
            subst e3
            refine ⟨b, ?_, hBest.1⟩
            cases hT : T y with
            | none => rw [tv_none hT] at e; omega
            | some q => rw [tv_some hT] at e; rw [Int.ofNat_inj.mp e]
        · refine Ev.ifn e ?_
          rw [set_tl]
          obtain ⟨g1, g2⟩ := step_inv hP hI hxR hxr hF' hBest
          refine hgo _ g1 ?_
          have hbn := hatn b (hI.rch _ _ h2)
          have hlt : at_ b < (match T x with | none => S.length | some y => at_ y) := by
            cases hT : T x with
            | none => exact hbn
            | some q => exact g2 q hT (fun e4 => e (by rw [tv_some hT, e4]))
          refine sum_lt (fun y _ => ?_) (List.mem_range.mpr hxl) (by simp only [put_self]; exact hlt)
          by_cases e5 : y = x
          · subst e5; simp only [put_self]; exact Nat.le_of_lt hlt
          · rw [put_ne e5]; exact Nat.le_refl _
  refine Ev.succ ?_; simp only [dom_Tree.l1]
  refine Ev.ifp (by rw [up_length]; omega) ?_
  simp only [Option.bind_some]
  have e : (up (dfs S r)).drop 1 = up tail := by rw [htail]; simp [up]
  rw [e]
  refine l2 _ 0 rfl (by omega) (fun y hy hy0 hyr => ?_)
  exact absurd (hP.inj y r hy (.base (by omega)) (by omega)) hyr
theorem tree_l1 (hG : Gr S) (hr : r < S.length) (ha : Places (dfs S r) at_) (hP : Pl S r at_ par) : ∀ (M : Nat) (T : Tr), Inv S r at_ par T → wt S.length at_ T < M →
    Ev (fun k => dom_Tree.l1 k (r : Int) (up (dfs S r)) (tl S.length T) (li S.length at_) (up2 S) (up2 (pr S))) (dtl S r) := by
  intro M
  induction M with
  | zero => intro T _ h; omega
  | succ M ih => intro T hI hM; exact tree_go hG hr ha hP hI (fun T' hI' h => ih T' hI' (by omega))
theorem tree_l0 (hG : Gr S) (hr : r < S.length) (d : Nat) : ∀ (i : Nat) (f : Nat → Nat), (dfs S r).length - i = d → i ≤ (dfs S r).length → (∀ j, j < i → f ((dfs S r).getD j 0) = j) →
    Ev (fun k => dom_Tree.l0 k (r : Int) (up (dfs S r)) (List.replicate S.length (-2)) (li S.length f) (up (dfs S r)) ((up (dfs S r)).length : Int) (i : Int) (up2 S) (up2 (pr S))) (dtl S r) := by
  have hle := hG.le
  have hdl := dfs_len hG hr
  induction d with
  | zero =>
    intro i f hd hi hf
    have ha : Places (dfs S r) f := fun j hj => hf j (by omega)
    obtain ⟨par, hP⟩ := dfs_pl hG hr ha
    refine Ev.succ ?_; simp only [dom_Tree.l0]
    refine Ev.ifn (by rw [up_length]; omega) (Ev.ifp (by omega) (Ev.ifp (by simp; omega) ?_))
    have e : (List.replicate S.length (-2 : Int)).set ((r : Int)).toNat (r : Int) = tl S.length (put (fun _ => none) r r) := by
      have e1 : List.replicate S.length (-2 : Int) = tl S.length (fun _ => none) := by
        apply List.ext_getElem
        · simp
        · intro j h1 h2; simp [tl, tv]
      rw [e1, Int.toNat_natCast, set_tl]
    rw [e]
    have hI : Inv S r f par (put (fun _ => none) r r) := by
      have hn : ∀ {x y : Nat}, put (fun _ => none) r r x = some y → x = r := by
        intro x y h
        by_cases e : x = r
        · exact e
        · rw [put_ne e] at h; cases h
      exact ⟨put_self _ _ _, fun x y h => by rw [hn h]; exact .base (by omega), fun x y h hx => absurd (hn h) hx, fun x y h hx => absurd (hn h) hx, fun x y h hx => absurd (hn h) hx, fun x y h hx => absurd (hn h) hx⟩
    exact tree_l1 hG hr ha hP _ _ hI (Nat.lt_succ_self _)
  | succ d ih =>
    intro i f hd hi hf
    have hi1 : i < (dfs S r).length := by omega
    have hmem : (dfs S r).getD i 0 ∈ dfs S r := getD_mem hi1
    have hxl := dfs_lt hG hr _ hmem
    refine Ev.succ ?_; simp only [dom_Tree.l0]
    rw [rd_up]
    refine Ev.ifp (by rw [up_length]; omega) (Ev.ifp (by omega) (Ev.ifp (by rw [up_length]; omega) (Ev.ifp (by omega) (Ev.ifp (by rw [li_length]; omega) ?_))))
    rw [Int.toNat_natCast, set_li, wrap_nat (by omega)]
    refine ih (i + 1) _ (by omega) (by omega) (fun j hj => ?_)
    unfold updn'
    by_cases e : (dfs S r).getD j 0 = (dfs S r).getD i 0
    · rw [if_pos e]
      have hj1 : j < (dfs S r).length := by omega
      have hnd := dfs_nodup hG hr
      rw [List.getD_eq_getElem?_getD, List.getD_eq_getElem?_getD, List.getElem?_eq_getElem hj1, List.getElem?_eq_getElem hi1] at e
      exact (nodup_inj hnd hj1 hi1 e).symm
    · rw [if_neg e]
      exact hf j (by have : j ≠ i := fun e2 => e (by rw [e2]); omega)
theorem tree_ok (hG : Gr S) (hr : r < S.length) : Ev (fun k => dom_Tree.f k (up2 S) (up2 (pr S)) (r : Int)) (dtl S r) := by
  have hle := hG.le
  obtain ⟨tail, htail⟩ := dfs_head hG r
  unfold dom_Tree.f
  refine Ev.bind (order_ok hG hr) (Ev.ifn (by rw [up_length, htail]; simp; omega) ?_)
  have e1 : slices_Repeat_int_int.f ([(-2)] : List Int) ((up2 S).length : Int) = some (List.replicate S.length (-2)) := by
    unfold slices_Repeat_int_int.f
    rw [if_pos ⟨rfl, by rw [up2_length]; have := hG.pos; omega, by rw [up2_length]; omega⟩, up2_length, Int.toNat_natCast]; rfl
  rw [e1]
  simp only [Option.bind_some]
  refine Ev.ifp (by omega) (Ev.ifp (by rw [up2_length]; omega) ?_)
  have e2 : List.replicate ((up2 S).length : Int).toNat (0 : Int) = li S.length (fun _ => 0) := by
    rw [up2_length, Int.toNat_natCast]
    apply List.ext_getElem
    · simp
    · intro j h1 h2; simp [li]
  rw [e2]
  exact tree_l0 hG hr _ 0 _ rfl (by omega) (fun j hj => by omega)
theorem tree_no {s p : List (List Int)} {r : Int} (ho : Ev (fun k => graph_Order.f k s p r) []) : Ev (fun k => dom_Tree.f k s p r) [] := by
  unfold dom_Tree.f
  exact Ev.bind ho (Ev.ifp rfl Ev.pure)
end

@[simp] theorem dtl_length (S : List (List Nat)) (r : Nat) : (dtl S r).length = S.length := by simp [dtl]
theorem rd_dtl {S : List (List Nat)} {r x : Nat} (h : x < S.length) : rd (dtl S r) (x : Int) = idv S r x := by
  simp only [rd, Int.toNat_natCast, dtl]; exact getD_map_range _ _ _ _ h
/-- A graph, its root, and places by its order. -/
structure Gd (S : List (List Nat)) (r : Nat) (at_ par : Nat → Nat) : Prop where
  gr : Gr S
  lt : r < S.length
  pl : Pl S r at_ par
  at0 : at_ r = 0
  atn : ∀ x, Rch S (-1) r x → at_ x < S.length
  idm : ∀ x, Rch S (-1) r x → x ≠ r → ∃ z, Idm S r z x
theorem places_ex {S : List (List Nat)} (h : Gr S) {r : Nat} (hr : r < S.length) : ∃ at_, Places (dfs S r) at_ := by
  refine ⟨fun x => (dfs S r).findIdx (fun y => decide (y = x)), fun j hj => ?_⟩
  have hex : ∃ y ∈ dfs S r, decide (y = (dfs S r).getD j 0) = true := ⟨(dfs S r).getD j 0, getD_mem hj, by simp⟩
  have h1 := List.findIdx_lt_length_of_exists hex
  have h2 := List.findIdx_getElem (w := h1)
  have h3 : (dfs S r)[j] = (dfs S r).getD j 0 := by rw [List.getD_eq_getElem?_getD, List.getElem?_eq_getElem hj]; rfl
  refine nodup_inj (dfs_nodup h hr) h1 hj ?_
  rw [h3]; exact of_decide_eq_true h2
theorem dm_last {S : List (List Nat)} {r d e : Nat} (hde : d ≠ e) {x : Nat} (h : Rch S (-1) r x) : Rch S (d : Int) r x ∨ Rch S (e : Int) d x ∨ Rch S (d : Int) e x := by
  induction h with
  | base _ =>
    by_cases e1 : r = d
    · subst e1; exact .inr (.inl (.base (by omega)))
    · by_cases e2 : r = e
      · subst e2; exact .inr (.inr (.base (by omega)))
      · exact .inl (.base (by omega))
  | @step a y _ hy _ ih =>
    by_cases e1 : y = d
    · subst e1; exact .inr (.inl (.base (by omega)))
    · by_cases e2 : y = e
      · subst e2; exact .inr (.inr (.base (by omega)))
      · rcases ih with h | h | h
        · exact .inl (.step h hy (by omega))
        · exact .inr (.inl (.step h hy (by omega)))
        · exact .inr (.inr (.step h hy (by omega)))
/-- Of two that dominate one, one dominates the other one. -/
theorem dm_line {S : List (List Nat)} {r d e x : Nat} (hd : Dm S r d x) (he : Dm S r e x) : Dm S r d e ∨ Dm S r e d := by
  by_cases hde : d = e
  · subst hde; exact .inl (dm_refl (dm_rch hd))
  · rcases dm_last hde hd.1 with h | h | h
    · exact absurd h hd.2
    · exact .inr ⟨dm_rch hd, fun h' => he.2 (h'.trans h)⟩
    · exact .inl ⟨dm_rch he, fun h' => hd.2 (h'.trans h)⟩
/-- The nearest dominator is there. -/
theorem idm_ex {S : List (List Nat)} {r : Nat} {at_ par : Nat → Nat} (hP : Pl S r at_ par) {x : Nat} (hx : Rch S (-1) r x) (hxr : x ≠ r) : ∃ z, Idm S r z x := by
  have key : ∀ (n z : Nat), Dm S r z x → z ≠ x → at_ x - at_ z ≤ n → ∃ z', Dm S r z' x ∧ z' ≠ x ∧ ∀ d, Dm S r d x → d ≠ x → at_ d ≤ at_ z' := by
    intro n
    induction n with
    | zero =>
      intro z hz hne hn
      have h1 := dm_le hP _ _ (Nat.le_refl _) hz
      exact absurd (hP.inj z x (dm_rch hz) hx (by omega)) hne
    | succ n ih =>
      intro z hz hne hn
      by_cases hex : ∃ d, Dm S r d x ∧ d ≠ x ∧ at_ z < at_ d
      · obtain ⟨d, h1, h2, h3⟩ := hex
        exact ih d h1 h2 (by have := dm_le hP _ _ (Nat.le_refl _) h1; omega)
      · exact ⟨z, hz, hne, fun d h1 h2 => Nat.le_of_not_lt (fun h3 => hex ⟨d, h1, h2, h3⟩)⟩
  obtain ⟨z, h1, h2, h3⟩ := key _ r (dm_root hx) (fun e => hxr e.symm) (Nat.le_refl _)
  refine ⟨z, h1, h2, fun d hd hdx => ?_⟩
  rcases dm_line hd h1 with h | h
  · exact h
  · have h4 := dm_le hP _ _ (Nat.le_refl _) h
    have h5 := h3 d hd hdx
    rw [hP.inj d z (dm_rch hd) (dm_rch h1) (by omega)]; exact dm_refl (dm_rch h1)
theorem gd_of {S : List (List Nat)} {r : Nat} (hG : Gr S) (hr : r < S.length) {at_ : Nat → Nat} (ha : Places (dfs S r) at_) : ∃ par, Gd S r at_ par := by
  obtain ⟨par, hP⟩ := dfs_pl hG hr ha
  refine ⟨par, hG, hr, hP, ?_, ?_, ?_⟩
  · obtain ⟨tail, htail⟩ := dfs_head hG r; have := ha 0 (by rw [htail]; simp); rw [htail] at this; simpa using this
  · intro y hy
    obtain ⟨i, hi, e⟩ := mem_at ((dfs_mem hG hr y).mpr hy)
    rw [← e, ha i hi]; have := dfs_len hG hr; omega
  · exact fun x hx hxr => idm_ex hP hx hxr
theorem gd_ex {S : List (List Nat)} {r : Nat} (hG : Gr S) (hr : r < S.length) : ∃ at_ par, Gd S r at_ par := by
  obtain ⟨at_, ha⟩ := places_ex hG hr
  exact ⟨at_, gd_of hG hr ha⟩


/-- The way up from a place. -/
def pth (t : List Int) : Nat → Int → Option (List Int)
  | 0, _ => none
  | f + 1, a => if a < 0 ∨ (t.length : Int) ≤ a then none else if rd t a = -1 then some [a] else (pth t f (rd t a)).map (a :: ·)
abbrev way (t : List Int) (a : Int) : Option (List Int) := pth t t.length a
theorem pth_step {t : List Int} {f : Nat} {a : Int} (h0 : 0 ≤ a) (h1 : a < (t.length : Int)) (ht : rd t a ≠ -1) : pth t (f + 1) a = (pth t f (rd t a)).map (a :: ·) := by
  rw [pth, if_neg (by omega), if_neg ht]
theorem pth_top {t : List Int} {f : Nat} {a : Int} (h0 : 0 ≤ a) (h1 : a < (t.length : Int)) (ht : rd t a = -1) : pth t (f + 1) a = some [a] := by
  rw [pth, if_neg (by omega), if_pos ht]
theorem pth_out {t : List Int} {f : Nat} {a : Int} (h : a < 0 ∨ (t.length : Int) ≤ a) : pth t f a = none := by
  cases f with
  | zero => rfl
  | succ f => rw [pth, if_pos h]
theorem pth_more {t : List Int} : ∀ {f g : Nat} {a : Int} {l : List Int}, f ≤ g → pth t f a = some l → pth t g a = some l := by
  intro f
  induction f with
  | zero => intro g a l _ h; simp [pth] at h
  | succ f ih =>
    intro g a l hg h
    obtain ⟨g, rfl⟩ : ∃ m, g = m + 1 := ⟨g - 1, by omega⟩
    rw [pth] at h ⊢
    by_cases ho : a < 0 ∨ (t.length : Int) ≤ a
    · rw [if_pos ho] at h; cases h
    · rw [if_neg ho] at h ⊢
      by_cases ht : rd t a = -1
      · rw [if_pos ht] at h ⊢; exact h
      · rw [if_neg ht] at h ⊢
        cases hq : pth t f (rd t a) with
        | none => rw [hq] at h; cases h
        | some m => rw [hq] at h; rw [ih (by omega) hq]; exact h
/-- A way is cut: from each place on it it goes on. -/
theorem pth_form {t : List Int} {f : Nat} {a : Int} {l : List Int} (h : pth t f a = some l) : 0 ≤ a ∧ a < (t.length : Int) ∧ l.length ≤ f ∧
    ((rd t a = -1 ∧ l = [a]) ∨ (rd t a ≠ -1 ∧ ∃ m, l = a :: m ∧ pth t (f - 1) (rd t a) = some m)) := by
  cases f with
  | zero => simp [pth] at h
  | succ f =>
    rw [pth] at h
    by_cases ho : a < 0 ∨ (t.length : Int) ≤ a
    · rw [if_pos ho] at h; cases h
    · rw [if_neg ho] at h
      refine ⟨by omega, by omega, ?_⟩
      have key : ∀ (g : Nat) (b : Int) (m : List Int), pth t g b = some m → m.length ≤ g := by
        intro g
        induction g with
        | zero => intro b m h; simp [pth] at h
        | succ g ih =>
          intro b m h
          rw [pth] at h
          by_cases ho : b < 0 ∨ (t.length : Int) ≤ b
          · rw [if_pos ho] at h; cases h
          · rw [if_neg ho] at h
            by_cases ht : rd t b = -1
            · rw [if_pos ht] at h; cases h; simp
            · rw [if_neg ht] at h
              cases hq : pth t g (rd t b) with
              | none => rw [hq] at h; cases h
              | some m' => rw [hq] at h; cases h; have := ih _ _ hq; simp; omega
      by_cases ht : rd t a = -1
      · rw [if_pos ht] at h; cases h
        exact ⟨by simp, .inl ⟨ht, rfl⟩⟩
      · rw [if_neg ht] at h
        cases hq : pth t f (rd t a) with
        | none => rw [hq] at h; cases h
        | some m =>
          rw [hq] at h; cases h
          have := key _ _ _ hq
          exact ⟨by simp; omega, .inr ⟨ht, m, rfl, hq⟩⟩
theorem way_form {t : List Int} {a : Int} {l : List Int} (h : way t a = some l) : 0 ≤ a ∧ a < (t.length : Int) ∧ l.length ≤ t.length ∧
    ((rd t a = -1 ∧ l = [a]) ∨ (rd t a ≠ -1 ∧ ∃ m, l = a :: m ∧ way t (rd t a) = some m)) := by
  obtain ⟨h1, h2, h3, h4⟩ := pth_form h
  refine ⟨h1, h2, h3, ?_⟩
  rcases h4 with h4 | ⟨h4, m, h5, h6⟩
  · exact .inl h4
  · exact .inr ⟨h4, m, h5, pth_more (by omega) h6⟩
theorem way_mem {t : List Int} : ∀ {l : List Int} {a x : Int}, way t a = some l → x ∈ l → x = a ∨ ∃ m, way t x = some m ∧ m.length < l.length := by
  intro l
  induction l with
  | nil => intro a x _ hx; cases hx
  | cons y l ih =>
    intro a x h hx
    obtain ⟨_, _, _, h4⟩ := way_form h
    rcases h4 with ⟨_, h5⟩ | ⟨_, m, h5, h6⟩
    · cases h5; left; simpa using hx
    · cases h5
      rcases List.mem_cons.mp hx with e | e
      · exact .inl e
      · rcases ih h6 e with e' | ⟨m', h7, h8⟩
        · subst e'; exact .inr ⟨l, h6, by simp⟩
        · exact .inr ⟨m', h7, by simp; omega⟩

/-! #### how far down -/
def dep (t : List Int) (a : Int) : Int := match way t a with | none => -1 | some l => (l.length : Int) - 1
theorem depth_l0 (t : List Int) (hb : t.length ≤ 1000) (d : Nat) : ∀ (i : Nat) (a : Int), t.length - i = d → i ≤ t.length →
    Ev (fun k => dom_depth.l0 k t a (t.length : Int) (i : Int)) (match pth t d a with | none => -1 | some l => (i : Int) + l.length - 1) := by
  induction d with
  | zero =>
    intro i a hd hi
    refine Ev.succ ?_; simp only [dom_depth.l0]
    exact Ev.ifn (by omega) (Ev.pure.of_eq (by simp [pth]))
  | succ d ih =>
    intro i a hd hi
    refine Ev.succ ?_; simp only [dom_depth.l0]
    refine Ev.ifp (by omega) ?_
    have hout : a < 0 ∨ (t.length : Int) ≤ a → Ev (fun k => dom_depth.j1 k t a (i : Int) (t.length : Int) (i : Int) true) (match pth t (d + 1) a with | none => -1 | some l => (i : Int) + l.length - 1) := by
      intro ho
      rw [pth_out ho]
      refine Ev.succ ?_; simp only [dom_depth.j1]
      exact Ev.ifp trivial Ev.pure
    by_cases h0 : a < 0
    · exact Ev.ifp h0 (hout (.inl h0))
    · refine Ev.ifn h0 ?_
      by_cases h1 : a ≥ (t.length : Int)
      · rw [decide_eq_true h1]; exact hout (.inr h1)
      · rw [decide_eq_false h1]
        refine Ev.succ ?_; simp only [dom_depth.j1]
        refine Ev.ifn (by decide) (Ev.ifp (by omega) (Ev.ifp (by omega) ?_))
        by_cases ht : rd t a = -1
        · refine Ev.ifp ht (Ev.pure.of_eq ?_)
          rw [pth_top (by omega) (by omega) ht]; simp
        · refine Ev.ifn ht ?_
          rw [wrap_nat (by omega)]
          refine (ih (i + 1) (rd t a) (by omega) (by omega)).of_eq ?_
          rw [pth_step (by omega) (by omega) ht]
          cases pth t d (rd t a) with
          | none => rfl
          | some l => simp; omega
theorem depth_ok (t : List Int) (hb : t.length ≤ 1000) (a : Int) : Ev (fun k => dom_depth.f k t a) (dep t a) := by
  unfold dom_depth.f
  refine (depth_l0 t hb t.length 0 a (by omega) (by omega)).of_eq ?_
  unfold dep way
  cases pth t t.length a <;> simp
theorem dep_neg {t : List Int} {a : Int} : dep t a < 0 ↔ way t a = none := by
  unfold dep
  cases h : way t a with
  | none => simp
  | some l =>
    have := (way_form h).2.2.2
    have h2 : 0 < l.length := by rcases this with ⟨_, e⟩ | ⟨_, m, e, _⟩ <;> rw [e] <;> simp
    simp; omega

/-! #### trees -/
/-- Whether all from i on come to the top, and the tops are one with those that are told. -/
def rgo (t : List Int) : Nat → Nat → Int → Bool
  | 0, _, tops => tops == 1
  | d + 1, i, tops => if rd t (i : Int) ≠ -2 ∧ way t (i : Int) = none then false else rgo t d (i + 1) (if rd t (i : Int) = -1 then tops + 1 else tops)
abbrev rgt (t : List Int) : Bool := rgo t t.length 0 0
theorem right_l0 (t : List Int) (hb : t.length ≤ 1000) (d : Nat) : ∀ (i : Nat) (tops : Int), t.length - i = d → i ≤ t.length → 0 ≤ tops → tops ≤ i →
    Ev (fun k => dom_right.l0 k t tops t (t.length : Int) (i : Int)) (rgo t d i tops) := by
  induction d with
  | zero =>
    intro i tops hd hi _ _
    refine Ev.succ ?_; simp only [dom_right.l0]
    exact Ev.ifn (by omega) (Ev.pure.of_eq rfl)
  | succ d ih =>
    intro i tops hd hi h0 h1
    have hwt : wrap64 (tops + 1) = tops + 1 := wrap_id (by omega) (by omega)
    refine Ev.succ ?_; simp only [dom_right.l0]
    refine Ev.ifp (by omega) (Ev.ifp (by omega) (Ev.ifp (by omega) ?_))
    rw [wrap_nat (by omega), hwt, rgo]
    have hcall : ∀ (tops' : Int), rd t (i : Int) ≠ -2 → 0 ≤ tops' → tops' ≤ ((i + 1 : Nat) : Int) → Ev (fun k => (dom_depth.f k t (i : Int)).bind fun t1 => (if t1 < 0 then (some false) else (dom_right.l0 k t tops' t (t.length : Int) ((i + 1 : Nat) : Int)))) (if rd t (i : Int) ≠ -2 ∧ way t (i : Int) = none then false else rgo t d (i + 1) tops') := by
      intro tops' h2 g0 g1
      refine Ev.bind (depth_ok t hb _) ?_
      by_cases hw : way t (i : Int) = none
      · rw [if_pos ⟨h2, hw⟩]; exact Ev.ifp (dep_neg.mpr hw) Ev.pure
      · rw [if_neg (fun h => hw h.2)]; exact Ev.ifn (fun h => hw (dep_neg.mp h)) (ih (i + 1) tops' (by omega) (by omega) g0 g1)
    by_cases e1 : rd t (i : Int) = -1
    · rw [if_pos e1]
      refine Ev.ifp e1 (Ev.ifn (by omega) ?_)
      exact hcall (tops + 1) (by omega) (by omega) (by omega)
    · rw [if_neg e1]
      refine Ev.ifn e1 ?_
      by_cases e2 : rd t (i : Int) = -2
      · rw [if_neg (fun h => h.1 e2)]
        exact Ev.ifp e2 (ih (i + 1) tops (by omega) (by omega) h0 (by omega))
      · exact Ev.ifn e2 (hcall tops e2 h0 (by omega))
theorem right_ok (t : List Int) (hb : t.length ≤ 1000) : Ev (fun k => dom_right.f k t) (rgt t) := by
  unfold dom_right.f
  exact right_l0 t hb t.length 0 0 (by omega) (by omega) (by omega) (by omega)
theorem rgo_le {t : List Int} : ∀ (d i : Nat) (tops : Int), rgo t d i tops = true → tops ≤ 1 := by
  intro d
  induction d with
  | zero => intro i tops h; simp [rgo] at h; omega
  | succ d ih =>
    intro i tops h
    rw [rgo] at h
    split at h
    · cases h
    · have := ih _ _ h; split at this <;> omega
theorem rgo_top {t : List Int} : ∀ (d i : Nat) (tops : Int), rgo t d i tops = true → ∀ a, i ≤ a → a < i + d → rd t (a : Int) = -1 → tops ≤ 0 := by
  intro d
  induction d with
  | zero => intro i tops h a h1 h2; omega
  | succ d ih =>
    intro i tops h a h1 h2 ha
    rw [rgo] at h
    split at h
    · cases h
    · by_cases e : a = i
      · subst e; rw [if_pos ha] at h; have := rgo_le _ _ _ h; omega
      · have := ih _ _ h a (by omega) (by omega) ha; split at this <;> omega
theorem rgo_one {t : List Int} : ∀ (d i : Nat) (tops : Int), rgo t d i tops = true → 0 ≤ tops → ∀ a b, i ≤ a → a < b → b < i + d → rd t (a : Int) = -1 → rd t (b : Int) = -1 → False := by
  intro d
  induction d with
  | zero => intro i tops h _ a b h1 h2 h3; omega
  | succ d ih =>
    intro i tops h h0 a b h1 h2 h3 ha hb
    rw [rgo] at h
    split at h
    · cases h
    · by_cases e : a = i
      · subst e; rw [if_pos ha] at h; have := rgo_top _ _ _ h b (by omega) (by omega) hb; omega
      · exact ih _ _ h (by split <;> omega) a b (by omega) h2 (by omega) ha hb
theorem rgt_one {t : List Int} (h : rgt t = true) {a b : Int} (ha0 : 0 ≤ a) (ha1 : a < (t.length : Int)) (hb0 : 0 ≤ b) (hb1 : b < (t.length : Int)) (ha : rd t a = -1) (hb : rd t b = -1) : a = b := by
  obtain ⟨x, rfl⟩ : ∃ x : Nat, a = (x : Int) := ⟨a.toNat, by omega⟩
  obtain ⟨y, rfl⟩ : ∃ y : Nat, b = (y : Int) := ⟨b.toNat, by omega⟩
  by_cases e : x = y
  · rw [e]
  · exfalso
    by_cases l : x < y
    · exact rgo_one _ _ _ h (by omega) x y (by omega) l (by omega) ha hb
    · exact rgo_one _ _ _ h (by omega) y x (by omega) (by omega) (by omega) hb ha

/-! #### in, Meet, Over, Kids -/
theorem ixf_l0 (t : List Int) (hb : t.length ≤ 1000) (d : Nat) : ∀ (i : Nat) (l : List Int), l.length ≤ 1000 → i ≤ l.length → l.length - i = d →
    ∃ v, Ev (fun k => slices_IndexFunc_int_int_dom_in_1.l0 k l (l.length : Int) (i : Int) t) v ∧ decide (v ≥ 0) = (l.drop i).any (fun a => (way t a).isNone) := by
  induction d with
  | zero =>
    intro i l hl hi hd
    refine ⟨-1, Ev.succ ?_, ?_⟩
    · simp only [slices_IndexFunc_int_int_dom_in_1.l0]; exact Ev.ifn (by omega) Ev.pure
    · rw [List.drop_of_length_le (by omega)]; rfl
  | succ d ih =>
    intro i l hl hi hd
    obtain ⟨v, h1, h2⟩ := ih (i + 1) l hl (by omega) (by omega)
    rw [drop_getD l i 0 (by omega), List.any_cons]
    have hrd : rd l (i : Int) = l.getD i 0 := by simp [rd]
    have hin : Ev (fun k => dom_in_1.f k (rd l (i : Int)) t) (way t (l.getD i 0)).isNone := by
      unfold dom_in_1.f
      refine Ev.bind (depth_ok t hb _) (Ev.pure.of_eq ?_)
      rw [hrd]
      cases hw : way t (l.getD i 0) with
      | none => rw [decide_eq_true (dep_neg.mpr hw)]; rfl
      | some m => rw [decide_eq_false (fun h => by rw [dep_neg.mp h] at hw; cases hw)]; rfl
    cases hw : (way t (l.getD i 0)).isNone with
    | true =>
      refine ⟨(i : Int), Ev.succ ?_, by simp⟩
      simp only [slices_IndexFunc_int_int_dom_in_1.l0]
      refine Ev.ifp (by omega) (Ev.ifp (by omega) (Ev.ifp (by omega) (Ev.bind hin ?_)))
      exact Ev.ifp hw Ev.pure
    | false =>
      refine ⟨v, Ev.succ ?_, by rw [h2]; rfl⟩
      simp only [slices_IndexFunc_int_int_dom_in_1.l0]
      refine Ev.ifp (by omega) (Ev.ifp (by omega) (Ev.ifp (by omega) (Ev.bind hin ?_)))
      refine Ev.ifn (by rw [hw]; decide) ?_
      rw [wrap_nat (by omega)]; exact h1
def inT (t : List Int) (l : List Int) : Bool := rgt t && l.all (fun a => (way t a).isSome)
theorem in_ok (t : List Int) (hb : t.length ≤ 1000) (l : List Int) (hl : l.length ≤ 1000) : Ev (fun k => dom_in.f k t l) (inT t l) := by
  unfold dom_in.f inT
  refine Ev.bind (right_ok t hb) ?_
  cases hr : rgt t with
  | false => exact Ev.ifn (by decide) Ev.pure
  | true =>
    refine Ev.ifp rfl ?_
    obtain ⟨v, h1, h2⟩ := ixf_l0 t hb l.length 0 l hl (by omega) (by omega)
    refine Ev.bind (a := decide (v ≥ 0)) ?_ (Ev.pure.of_eq ?_)
    · unfold slices_ContainsFunc_int_int_dom_in_1.f slices_IndexFunc_int_int_dom_in_1.f
      exact Ev.bind h1 Ev.pure
    · rw [h2, List.drop_zero, Bool.true_and, List.not_any_eq_all_not]
      congr 1
      funext a
      cases way t a <;> rfl
/-- The first of a list that lies in another one; -2: none. -/
def fst2 (p q : List Int) : Int := (p.find? (fun x => decide (x ∈ q))).getD (-2)
def meetT (t : List Int) (a b : Int) : Int := if rgt t = true then match way t a, way t b with | some p, some q => fst2 p q | _, _ => -2 else -2
theorem meet_l0 (t : List Int) (hb : t.length ≤ 1000) (hr : rgt t = true) : ∀ (m : Nat) (p q : List Int) (a b : Int), p.length + q.length ≤ m → way t a = some p → way t b = some q → Ev (fun k => dom_Meet.l0 k t a b) (fst2 p q) := by
  intro m
  induction m with
  | zero =>
    intro p q a b hm hp hq
    have h := (way_form hp).2.2.2
    rcases h with ⟨_, e⟩ | ⟨_, _, e, _⟩ <;> rw [e] at hm <;> simp at hm
  | succ m ih =>
    intro p q a b hm hp hq
    obtain ⟨pa0, pa1, pa2, pa3⟩ := way_form hp
    obtain ⟨qa0, qa1, qa2, qa3⟩ := way_form hq
    have hpd : dep t a = (p.length : Int) - 1 := by unfold dep; rw [hp]
    have hqd : dep t b = (q.length : Int) - 1 := by unfold dep; rw [hq]
    refine Ev.succ ?_; simp only [dom_Meet.l0]
    by_cases hab : a = b
    · refine Ev.ifp hab (Ev.pure.of_eq ?_)
      subst hab
      rw [hp] at hq; cases hq
      rcases pa3 with ⟨_, e⟩ | ⟨_, _, e, _⟩ <;> rw [e] <;> simp [fst2]
    · refine Ev.ifn hab (Ev.bind (depth_ok t hb a) (Ev.bind (depth_ok t hb b) ?_))
      rw [hpd, hqd]
      by_cases hge : (p.length : Int) - 1 ≥ (q.length : Int) - 1
      · refine Ev.ifp hge (Ev.ifp (by omega) (Ev.ifp (by omega) ?_))
        rcases pa3 with ⟨ht, e⟩ | ⟨_, p', e, hp'⟩
        · rw [e] at hge
          rcases qa3 with ⟨ht', e'⟩ | ⟨_, q', e', hq'⟩
          · exact absurd (rgt_one hr pa0 pa1 qa0 qa1 ht ht') hab
          · exfalso
            have h := (way_form hq').2.2.2
            rw [e'] at hge
            rcases h with ⟨_, e''⟩ | ⟨_, _, e'', _⟩ <;> rw [e''] at hge <;> simp at hge <;> omega
        · have hnot : ¬ a ∈ q := by
            intro hm'
            rcases way_mem hq hm' with e'' | ⟨m', h7, h8⟩
            · exact hab e''
            · rw [hp] at h7; cases h7; omega
          rw [e] at hm ⊢
          refine (ih p' q (rd t a) b (by simp at hm; omega) hp' hq).of_eq ?_
          unfold fst2
          rw [List.find?_cons_of_neg (by simpa using hnot)]
      · refine Ev.ifn hge (Ev.ifp (by omega) (Ev.ifp (by omega) ?_))
        rcases qa3 with ⟨ht, e⟩ | ⟨_, q', e, hq'⟩
        · exfalso
          rw [e] at hge
          rcases pa3 with ⟨_, e'⟩ | ⟨_, _, e', _⟩ <;> rw [e'] at hge <;> simp at hge <;> omega
        · have hnot : ¬ b ∈ p := by
            intro hm'
            rcases way_mem hp hm' with e'' | ⟨m', h7, h8⟩
            · exact hab e''.symm
            · rw [hq] at h7; cases h7; omega
          rw [e] at hm ⊢
          refine (ih p q' a (rd t b) (by simp at hm; omega) hp hq').of_eq ?_
          unfold fst2
          congr 1
          have : ∀ l : List Int, (∀ x ∈ l, x ∈ p) → l.find? (fun x => decide (x ∈ q')) = l.find? (fun x => decide (x ∈ b :: q')) := by
            intro l
            induction l with
            | nil => intro _; rfl
            | cons x l ih2 =>
              intro hl
              have hx : x ≠ b := fun e => hnot (e ▸ hl x (List.mem_cons_self ..))
              have e3 : decide (x ∈ b :: q') = decide (x ∈ q') := by simp [hx]
              rw [List.find?_cons, List.find?_cons, e3, ih2 (fun y hy => hl y (List.mem_cons_of_mem _ hy))]
          exact this p (fun _ h => h)
theorem inT_two {t : List Int} {a b : Int} : inT t [a, b] = true ↔ rgt t = true ∧ (∃ p, way t a = some p) ∧ ∃ q, way t b = some q := by
  unfold inT
  simp [Option.isSome_iff_exists]
theorem inT_one {t : List Int} {a : Int} : inT t [a] = true ↔ rgt t = true ∧ ∃ p, way t a = some p := by
  unfold inT
  simp [Option.isSome_iff_exists]
theorem meet_ok (t : List Int) (hb : t.length ≤ 1000) (a b : Int) : Ev (fun k => dom_Meet.f k t a b) (meetT t a b) := by
  unfold dom_Meet.f meetT
  refine Ev.bind (in_ok t hb _ (by simp)) ?_
  by_cases h : inT t [a, b] = true
  · obtain ⟨hr, ⟨p, hp⟩, q, hq⟩ := inT_two.mp h
    refine Ev.ifp h ?_
    rw [if_pos hr, hp, hq]
    exact meet_l0 t hb hr _ p q a b (Nat.le_refl _) hp hq
  · refine Ev.ifn h (Ev.pure.of_eq ?_)
    by_cases hr : rgt t = true
    · rw [if_pos hr]
      cases hp : way t a with
      | none => rfl
      | some p => cases hq : way t b with
        | none => rfl
        | some q => exact absurd (inT_two.mpr ⟨hr, ⟨p, hp⟩, q, hq⟩) h
    · rw [if_neg hr]
def overT (t : List Int) (a b : Int) : Bool := inT t [a, b] && (meetT t a b == a)
theorem over_ok (t : List Int) (hb : t.length ≤ 1000) (a b : Int) : Ev (fun k => dom_Over.f k t a b) (overT t a b) := by
  unfold dom_Over.f overT
  refine Ev.bind (in_ok t hb _ (by simp)) ?_
  cases h : inT t [a, b] with
  | false => exact Ev.ifn (by decide) Ev.pure
  | true => exact Ev.ifp rfl (Ev.bind (meet_ok t hb a b) Ev.pure)
/-- Whose entry one is, from i on. -/
def kdT (t : List Int) (a : Int) (i : Nat) : List Int := ((List.range t.length).drop i).filterMap (fun b => if rd t ((b : Nat) : Int) = a then some ((b : Nat) : Int) else none)
theorem kdT_end (t : List Int) (a : Int) (i : Nat) (h : t.length ≤ i) : kdT t a i = [] := by unfold kdT; rw [List.drop_of_length_le (by simpa using h)]; rfl
theorem kdT_step (t : List Int) (a : Int) (i : Nat) (h : i < t.length) : kdT t a i = (if rd t (i : Int) = a then [(i : Int)] else []) ++ kdT t a (i + 1) := by
  unfold kdT
  rw [drop_getD (List.range t.length) i 0 (by simpa using h), List.filterMap_cons, List.getD_eq_getElem?_getD, List.getElem?_range h, Option.getD_some]
  split <;> rename_i e <;> split at e <;> simp_all

section
variable {S : List (List Nat)} {r : Nat} {at_ par : Nat → Nat}
theorem Gd.rd_no (hD : Gd S r at_ par) {x : Nat} (hx : x < S.length) (h : ¬ Rch S (-1) r x) : rd (dtl S r) (x : Int) = -2 := by rw [rd_dtl hx, idv_no hD.lt h]
theorem Gd.rd_root (hD : Gd S r at_ par) : rd (dtl S r) (r : Int) = -1 := by rw [rd_dtl hD.lt, idv_root]
theorem Gd.rd_idm (hD : Gd S r at_ par) {x : Nat} (h : Rch S (-1) r x) (hr : x ≠ r) : ∃ z, Idm S r z x ∧ rd (dtl S r) (x : Int) = (z : Int) := by
  obtain ⟨z, hz⟩ := hD.idm x h hr
  exact ⟨z, hz, by rw [rd_dtl (h.lt hD.gr hD.lt), idv_idm hD.pl hr hz]⟩
theorem Gd.way_no (hD : Gd S r at_ par) {x : Nat} (hx : x < S.length) (h : ¬ Rch S (-1) r x) : way (dtl S r) (x : Int) = none := by
  cases hw : way (dtl S r) (x : Int) with
  | none => rfl
  | some l =>
    have h1 := (way_form hw).2.2.2
    rw [hD.rd_no hx h] at h1
    rcases h1 with ⟨h1, _⟩ | ⟨_, m, _, h2⟩
    · omega
    · rw [show way (dtl S r) (-2) = none from pth_out (.inl (by omega))] at h2; cases h2
theorem Gd.way_rch (hD : Gd S r at_ par) : ∀ (n x : Nat), at_ x ≤ n → Rch S (-1) r x → ∃ l, pth (dtl S r) (at_ x + 1) (x : Int) = some l ∧ ∀ a : Int, a ∈ l ↔ ∃ d : Nat, a = (d : Int) ∧ Dm S r d x := by
  intro n
  induction n with
  | zero =>
    intro x hn hx
    by_cases e : x = r
    · subst e
      refine ⟨[(x : Int)], pth_top (by omega) (by rw [dtl_length]; have := hD.lt; omega) hD.rd_root, fun a => ?_⟩
      rw [List.mem_singleton]
      exact ⟨fun h => ⟨x, h, dm_refl hx⟩, fun ⟨d, h1, h2⟩ => by rw [h1, dm_of_root h2]⟩
    · have := (hD.pl.par x hx e).2.2; omega
  | succ n ih =>
    intro x hn hx
    have hxl := hx.lt hD.gr hD.lt
    by_cases e : x = r
    · subst e
      refine ⟨[(x : Int)], pth_top (by omega) (by rw [dtl_length]; have := hD.lt; omega) hD.rd_root, fun a => ?_⟩
      rw [List.mem_singleton]
      exact ⟨fun h => ⟨x, h, dm_refl hx⟩, fun ⟨d, h1, h2⟩ => by rw [h1, dm_of_root h2]⟩
    · obtain ⟨z, hz, hrd⟩ := hD.rd_idm hx e
      have hzR := dm_rch hz.1
      have hzl : at_ z < at_ x := Nat.lt_of_le_of_ne (dm_le hD.pl _ _ (Nat.le_refl _) hz.1) (fun e2 => hz.2.1 (hD.pl.inj z x hzR hx e2))
      obtain ⟨m, h1, h2⟩ := ih z (by omega) hzR
      refine ⟨(x : Int) :: m, ?_, fun a => ?_⟩
      · rw [pth_step (by omega) (by rw [dtl_length]; omega) (by rw [hrd]; omega), hrd, pth_more (show at_ z + 1 ≤ at_ x by omega) h1]; rfl
      · rw [List.mem_cons, h2]
        constructor
        · rintro (h | ⟨d, h3, h4⟩)
          · exact ⟨x, h, dm_refl hx⟩
          · exact ⟨d, h3, dm_trans h4 hz.1⟩
        · rintro ⟨d, h3, h4⟩
          by_cases e2 : d = x
          · exact .inl (by rw [h3, e2])
          · exact .inr ⟨d, h3, hz.2.2 d h4 e2⟩
theorem Gd.way (hD : Gd S r at_ par) {x : Nat} (hx : Rch S (-1) r x) : ∃ l, way (dtl S r) (x : Int) = some l ∧ ∀ a : Int, a ∈ l ↔ ∃ d : Nat, a = (d : Int) ∧ Dm S r d x := by
  obtain ⟨l, h1, h2⟩ := hD.way_rch _ x (Nat.le_refl _) hx
  exact ⟨l, pth_more (by rw [dtl_length]; exact hD.atn x hx) h1, h2⟩
theorem Gd.way_iff (hD : Gd S r at_ par) {x : Nat} (hx : x < S.length) : (∃ l, GP.way (dtl S r) (x : Int) = some l) ↔ Rch S (-1) r x := by
  constructor
  · rintro ⟨l, h⟩
    refine Classical.byContradiction (fun hn => ?_)
    rw [hD.way_no hx hn] at h; cases h
  · intro h; obtain ⟨l, h1, _⟩ := hD.way h; exact ⟨l, h1⟩
theorem Gd.rgo (hD : Gd S r at_ par) (d : Nat) : ∀ i : Nat, i + d = S.length → rgo (dtl S r) d i (if r < i then 1 else 0) = true := by
  induction d with
  | zero =>
    intro i hi
    rw [if_pos (by have := hD.lt; omega)]; rfl
  | succ d ih =>
    intro i hi
    have h1 : ¬ (rd (dtl S r) (i : Int) ≠ -2 ∧ GP.way (dtl S r) (i : Int) = none) := by
      rintro ⟨h1, h2⟩
      by_cases hR : Rch S (-1) r i
      · obtain ⟨l, h3, _⟩ := hD.way hR; rw [h2] at h3; cases h3
      · exact h1 (hD.rd_no (by omega) hR)
    rw [GP.rgo, if_neg h1]
    have h2 := ih (i + 1) (by omega)
    by_cases e : i = r
    · rw [e, hD.rd_root, if_pos rfl, if_neg (Nat.lt_irrefl _)]
      rw [e, if_pos (Nat.lt_succ_self _)] at h2
      exact h2
    · have h3 : rd (dtl S r) (i : Int) ≠ -1 := by
        by_cases hR : Rch S (-1) r i
        · obtain ⟨z, _, h4⟩ := hD.rd_idm hR e; rw [h4]; omega
        · rw [hD.rd_no (by omega) hR]; omega
      rw [if_neg h3]
      by_cases hlt : r < i
      · rw [if_pos hlt]; rw [if_pos (by omega)] at h2; exact h2
      · rw [if_neg hlt]; rw [if_neg (by omega)] at h2; exact h2
theorem Gd.rgt (hD : Gd S r at_ par) : rgt (dtl S r) = true := by
  show GP.rgo (dtl S r) (dtl S r).length 0 0 = true
  rw [dtl_length]
  have := hD.rgo S.length 0 (by omega)
  simpa using this
theorem Gd.inT2 (hD : Gd S r at_ par) {a b : Nat} (ha : a < S.length) (hb : b < S.length) : inT (dtl S r) [(a : Int), (b : Int)] = true ↔ Rch S (-1) r a ∧ Rch S (-1) r b := by
  rw [inT_two, hD.way_iff ha, hD.way_iff hb]
  exact ⟨fun h => h.2, fun h => ⟨hD.rgt, h⟩⟩
theorem Gd.inT1 (hD : Gd S r at_ par) {a : Nat} (ha : a < S.length) : inT (dtl S r) [(a : Int)] = true ↔ Rch S (-1) r a := by
  rw [inT_one, hD.way_iff ha]
  exact ⟨fun h => h.2, fun h => ⟨hD.rgt, h⟩⟩
theorem fst2_way {t : List Int} {Q : List Int} : ∀ {l : List Int} {a : Int}, GP.way t a = some l → ∀ {c}, c ∈ l → c ∈ Q → fst2 l Q ∈ l ∧ fst2 l Q ∈ Q ∧ ∃ ml, GP.way t (fst2 l Q) = some ml ∧ c ∈ ml := by
  intro l
  induction l with
  | nil => intro a _ c hc; cases hc
  | cons x l ih =>
    intro a h c hc hcQ
    obtain ⟨_, _, _, h4⟩ := way_form h
    have hxa : x = a := by rcases h4 with ⟨_, e⟩ | ⟨_, m, e, _⟩ <;> injection e
    by_cases hx : x ∈ Q
    · have e : fst2 (x :: l) Q = x := by unfold fst2; rw [List.find?_cons, decide_eq_true hx]; rfl
      rw [e]
      exact ⟨List.mem_cons_self .., hx, x :: l, by rw [hxa] at h ⊢; exact h, hc⟩
    · have e : fst2 (x :: l) Q = fst2 l Q := by unfold fst2; rw [List.find?_cons, decide_eq_false hx]
      rw [e]
      have hcl : c ∈ l := by
        rcases List.mem_cons.mp hc with e2 | e2
        · subst e2; exact absurd hcQ hx
        · exact e2
      rcases h4 with ⟨_, e2⟩ | ⟨_, m, e2, h5⟩
      · injection e2 with _ e3; rw [e3] at hcl; cases hcl
      · injection e2 with _ e3
        subst e3
        obtain ⟨g1, g2, g3⟩ := ih h5 hcl hcQ
        exact ⟨List.mem_cons_of_mem _ g1, g2, g3⟩
/-- Where two meet: the nearest of those that dominate both. -/
theorem Gd.meet (hD : Gd S r at_ par) {a b : Nat} (ha : Rch S (-1) r a) (hb : Rch S (-1) r b) : ∃ m : Nat, meetT (dtl S r) (a : Int) (b : Int) = (m : Int) ∧ Dm S r m a ∧ Dm S r m b ∧ ∀ c, Dm S r c a → Dm S r c b → Dm S r c m := by
  obtain ⟨p, hp, hp2⟩ := hD.way ha
  obtain ⟨q, hq, hq2⟩ := hD.way hb
  have e : meetT (dtl S r) (a : Int) (b : Int) = fst2 p q := by unfold meetT; rw [if_pos hD.rgt, hp, hq]
  have hrp : (r : Int) ∈ p := (hp2 _).mpr ⟨r, rfl, dm_root ha⟩
  have hrq : (r : Int) ∈ q := (hq2 _).mpr ⟨r, rfl, dm_root hb⟩
  obtain ⟨g1, g2, _⟩ := fst2_way hp hrp hrq
  obtain ⟨m, hm, hma⟩ := (hp2 _).mp g1
  obtain ⟨m', hm', hmb⟩ := (hq2 _).mp g2
  have emm : m = m' := by omega
  subst emm
  refine ⟨m, by rw [e, hm], hma, hmb, fun c h1 h2 => ?_⟩
  obtain ⟨_, _, ml, g3, g4⟩ := fst2_way hp ((hp2 _).mpr ⟨c, rfl, h1⟩) ((hq2 _).mpr ⟨c, rfl, h2⟩)
  obtain ⟨l, h5, h6⟩ := hD.way (dm_rch hma)
  rw [hm, h5] at g3; cases g3
  obtain ⟨d, h7, h8⟩ := (h6 _).mp g4
  rw [show c = d by omega]; exact h8
theorem Gd.meet_no (hD : Gd S r at_ par) {a b : Nat} (ha : a < S.length) (hb : b < S.length) (h : ¬ (Rch S (-1) r a ∧ Rch S (-1) r b)) : meetT (dtl S r) (a : Int) (b : Int) = -2 := by
  unfold meetT
  rw [if_pos hD.rgt]
  cases hp : GP.way (dtl S r) (a : Int) with
  | none => rfl
  | some p => cases hq : GP.way (dtl S r) (b : Int) with
    | none => rfl
    | some q => exact absurd ⟨(hD.way_iff ha).mp ⟨p, hp⟩, (hD.way_iff hb).mp ⟨q, hq⟩⟩ h
theorem Gd.over (hD : Gd S r at_ par) {a b : Nat} (ha : a < S.length) (hb : b < S.length) : overT (dtl S r) (a : Int) (b : Int) = true ↔ Dm S r a b := by
  unfold overT
  rw [Bool.and_eq_true, hD.inT2 ha hb]
  constructor
  · rintro ⟨⟨h1, h2⟩, h3⟩
    obtain ⟨m, g1, g2, g3, _⟩ := hD.meet h1 h2
    have : m = a := by have := eq_of_beq h3; omega
    rw [← this]; exact g3
  · intro h
    have h1 := dm_rch h
    refine ⟨⟨h1, h.1⟩, ?_⟩
    obtain ⟨m, g1, g2, g3, g4⟩ := hD.meet h1 h.1
    have : a = m := dm_antisymm hD.pl (g4 a (dm_refl h1) h) g2
    rw [g1, this]; simp
theorem Gd.over_eq (hD : Gd S r at_ par) {a b : Nat} (ha : a < S.length) (hb : b < S.length) (v : Bool) (h : v = true ↔ Dm S r a b) : overT (dtl S r) (a : Int) (b : Int) = v := by
  have h2 := hD.over ha hb
  rw [← h] at h2
  cases v <;> cases h3 : overT (dtl S r) (a : Int) (b : Int) <;> simp_all
end
end Go.Proofs.Ytheillkpgmpnlaa.GP
