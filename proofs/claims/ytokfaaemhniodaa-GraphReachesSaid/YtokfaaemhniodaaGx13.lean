/- Printed by a program of this session (wip/tools/op.py, over the kit's print program): Go functions as plain Lean functions, each with a proof that the call answers so. Conditions: each theorem's own. -/
import Derived.Test.YtokfaaemhniodaaGx0
import Derived.Test.YtokfaaemhniodaaGx4
import Derived.Test.YtokfaaemhniodaaGx9
import Derived.Test.YtokfaaemhniodaaGx10
import Derived.Test.YtokfaaemhniodaaGx11
import Derived.Test.YtokfaaemhniodaaGx12
namespace Go.Proofs.Ytokfaaemhniodaa.G
open Go.Proofs.YtokfaaemhniodaaH
open Go.RowKit Go.Proofs.YtokfaaemhniodaaW.PrintWords Go.Proofs.YtokfaaemhniodaaW.PrintLast Go.Proofs.YtokfaaemhniodaaW.PrintMore
attribute [local go_sem] max2_int min2_int max_two min_two max_three min_three max_four min_four   -- for this text's walks alone
set_option linter.unusedVariables false
set_option linter.unusedSimpArgs false

/-! ### locksteplaw06_GraphReaches: function 8 -/
mutual
def locksteplaw06_GraphReaches.l0 : Nat → List (List Int) → Int → List Int → List Bool → List Int → Int → Option (Bool)
  | 0, _, _, _, _, _, _ => none
  | k + 1, x0, x7, x8, x9, x10, x11 => if x11 < (x8.length : Int) then (if 0 ≤ x11 then (if (rd x8 x11) < 0 then (some false) else (if (rd x8 x11) ≥ (x0.length : Int) then (some false) else (if 0 ≤ (rd x8 x11) then (if (rd x8 x11) < (x10.length : Int) then (if (rd x10 (rd x8 x11)) = 0 then (if (rd x8 x11) < (x9.length : Int) then (if (rdOf false x9 (rd x8 x11) = true) then (locksteplaw06_GraphReaches.l0 k x0 x7 x8 x9 (x10.set ((rd x8 x11) : Int).toNat (wrap64 (x11 + 1))) (wrap64 (x11 + 1))) else (some false)) else (none)) else (some false)) else (none)) else (none)))) else (none)) else (locksteplaw06_GraphReaches.l1 k x0 x7 x8 x9 x10 true 0)
def locksteplaw06_GraphReaches.l1 : Nat → List (List Int) → Int → List Int → List Bool → List Int → Bool → Int → Option (Bool)
  | 0, _, _, _, _, _, _, _ => none
  | k + 1, x0, x7, x8, x9, x10, x12, x13 => if x13 < (x0.length : Int) then (if 0 ≤ x13 then (if x13 < (x9.length : Int) then (if x13 < (x10.length : Int) then (if ((rdOf false x9 x13) != (decide ((rd x10 x13) > 0))) = true then (some false) else (locksteplaw06_GraphReaches.l2 k x0 x7 x8 x9 x10 x12 x13 0)) else (none)) else (none)) else (none)) else (locksteplaw06_GraphReaches.l3 k x0 x7 x8 x10 x12 0)
def locksteplaw06_GraphReaches.l2 : Nat → List (List Int) → Int → List Int → List Bool → List Int → Bool → Int → Int → Option (Bool)
  | 0, _, _, _, _, _, _, _, _ => none
  | k + 1, x0, x7, x8, x9, x10, x12, x13, x14 => if 0 ≤ x13 then (if x13 < (x0.length : Int) then (if x14 < ((rd_L1 x0 x13).length : Int) then (if x12 = true then (if 0 ≤ x14 then (locksteplaw06_GraphReaches.l2 k x0 x7 x8 x9 x10 (decide ((rd (rd_L1 x0 x13) x14) > x13)) x13 (wrap64 (x14 + 1))) else (none)) else (locksteplaw06_GraphReaches.l2 k x0 x7 x8 x9 x10 false x13 (wrap64 (x14 + 1)))) else (locksteplaw06_GraphReaches.l1 k x0 x7 x8 x9 x10 x12 (wrap64 (x13 + 1)))) else (none)) else (none)
def locksteplaw06_GraphReaches.l3 : Nat → List (List Int) → Int → List Int → List Int → Bool → Int → Option (Bool)
  | 0, _, _, _, _, _, _ => none
  | k + 1, x0, x7, x8, x10, x12, x15 => if x15 < (x0.length : Int) then (locksteplaw06_GraphReaches.j4 k x0 x7 x8 x10 x12 x15 x12) else (locksteplaw06_GraphReaches.j4 k x0 x7 x8 x10 x12 x15 false)
def locksteplaw06_GraphReaches.j4 : Nat → List (List Int) → Int → List Int → List Int → Bool → Int → Bool → Option (Bool)
  | 0, _, _, _, _, _, _, _ => none
  | k + 1, x0, x7, x8, x10, x12, x15, x138 => if x138 = true then (locksteplaw06_GraphReaches.l4 k x0 x7 x8 x10 x12 x15 0) else (if 0 < (x8.length : Int) then (some ((rd x8 0) == x7)) else (none))
def locksteplaw06_GraphReaches.l4 : Nat → List (List Int) → Int → List Int → List Int → Bool → Int → Int → Option (Bool)
  | 0, _, _, _, _, _, _, _ => none
  | k + 1, x0, x7, x8, x10, x12, x15, x16 => if 0 ≤ x15 then (if x15 < (x0.length : Int) then (if x16 < ((rd_L1 x0 x15).length : Int) then (if x15 < (x10.length : Int) then (if (rd x10 x15) > 0 then (if 0 ≤ x16 then (if 0 ≤ (rd (rd_L1 x0 x15) x16) then (if (rd (rd_L1 x0 x15) x16) < (x10.length : Int) then (if (rd x10 x15) ≥ (rd x10 (rd (rd_L1 x0 x15) x16)) then (some false) else (locksteplaw06_GraphReaches.l4 k x0 x7 x8 x10 x12 x15 (wrap64 (x16 + 1)))) else (none)) else (none)) else (none)) else (locksteplaw06_GraphReaches.l4 k x0 x7 x8 x10 x12 x15 (wrap64 (x16 + 1)))) else (none)) else (locksteplaw06_GraphReaches.l3 k x0 x7 x8 x10 x12 (wrap64 (x15 + 1)))) else (none)) else (none)
end
def locksteplaw06_GraphReaches.f (k : Nat) (l0 : List (List Int)) (a1 : Int) : Option (Bool) := (locksteplaw06_awake.f k).bind fun t259 => (if t259 = true then ((lockstepref06_Small.f k l0).bind fun t260 => (if t260 = true then ((graph_Make.f k l0).bind fun bt261 => (if bt261.2.2 = 0 then (if (l0.length : Int) = 0 then (none) else ((graph_Order.f k bt261.1 bt261.2.1 (Int.tmod (wrap64 (a1)) (l0.length : Int))).bind fun t272 => ((lockstepref06_Reach.f k bt261.1 bt261.2.1 (Int.tmod (wrap64 (a1)) (l0.length : Int)) (-1)).bind fun t275 => (if 0 ≤ (l0.length : Int) then (if ((l0.length : Int) : Int).toNat ≤ 35184372088832 then (locksteplaw06_GraphReaches.l0 k l0 (Int.tmod (wrap64 (a1)) (l0.length : Int)) t272 t275 (List.replicate ((l0.length : Int) : Int).toNat 0) 0) else (none)) else (none))))) else ((graph_Order.f k bt261.1 bt261.2.1 0).bind fun t269 => (some ((t269.length : Int) == 0))))) else (some true))) else (some false))
theorem locksteplaw06_GraphReaches.mono_l : ∀ k, (∀ y0 y1 y2 y3 y4 y5, LeO (locksteplaw06_GraphReaches.l0 k y0 y1 y2 y3 y4 y5) (locksteplaw06_GraphReaches.l0 (k + 1) y0 y1 y2 y3 y4 y5)) ∧ (∀ y0 y1 y2 y3 y4 y5 y6, LeO (locksteplaw06_GraphReaches.l1 k y0 y1 y2 y3 y4 y5 y6) (locksteplaw06_GraphReaches.l1 (k + 1) y0 y1 y2 y3 y4 y5 y6)) ∧ (∀ y0 y1 y2 y3 y4 y5 y6 y7, LeO (locksteplaw06_GraphReaches.l2 k y0 y1 y2 y3 y4 y5 y6 y7) (locksteplaw06_GraphReaches.l2 (k + 1) y0 y1 y2 y3 y4 y5 y6 y7)) ∧ (∀ y0 y1 y2 y3 y4 y5, LeO (locksteplaw06_GraphReaches.l3 k y0 y1 y2 y3 y4 y5) (locksteplaw06_GraphReaches.l3 (k + 1) y0 y1 y2 y3 y4 y5)) ∧ (∀ y0 y1 y2 y3 y4 y5 y6, LeO (locksteplaw06_GraphReaches.j4 k y0 y1 y2 y3 y4 y5 y6) (locksteplaw06_GraphReaches.j4 (k + 1) y0 y1 y2 y3 y4 y5 y6)) ∧ (∀ y0 y1 y2 y3 y4 y5 y6, LeO (locksteplaw06_GraphReaches.l4 k y0 y1 y2 y3 y4 y5 y6) (locksteplaw06_GraphReaches.l4 (k + 1) y0 y1 y2 y3 y4 y5 y6))
  | 0 => ⟨fun _ _ _ _ _ _ r h => by simp [locksteplaw06_GraphReaches.l0] at h, fun _ _ _ _ _ _ _ r h => by simp [locksteplaw06_GraphReaches.l1] at h, fun _ _ _ _ _ _ _ _ r h => by simp [locksteplaw06_GraphReaches.l2] at h, fun _ _ _ _ _ _ r h => by simp [locksteplaw06_GraphReaches.l3] at h, fun _ _ _ _ _ _ _ r h => by simp [locksteplaw06_GraphReaches.j4] at h, fun _ _ _ _ _ _ _ r h => by simp [locksteplaw06_GraphReaches.l4] at h⟩
  | k + 1 => by
    obtain ⟨ih0, ih1, ih2, ih3, ih4, ih5⟩ := locksteplaw06_GraphReaches.mono_l k
    refine ⟨?_, ?_, ?_, ?_, ?_, ?_⟩
    · intro y0 y1 y2 y3 y4 y5
      unfold locksteplaw06_GraphReaches.l0
      repeat' first
      | (with_reducible exact ih0 _ _ _ _ _ _)
      | (with_reducible exact ih1 _ _ _ _ _ _ _)
      | (with_reducible exact ih2 _ _ _ _ _ _ _ _)
      | (with_reducible exact ih3 _ _ _ _ _ _)
      | (with_reducible exact ih4 _ _ _ _ _ _ _)
      | (with_reducible exact ih5 _ _ _ _ _ _ _)
      | (with_reducible exact graph_Make.mono _ _)
      | (with_reducible exact graph_Order.mono _ _ _ _)
      | (with_reducible exact locksteplaw06_awake.mono _)
      | (with_reducible exact lockstepref06_Reach.mono _ _ _ _ _)
      | (with_reducible exact lockstepref06_Small.mono _ _)
      | (with_reducible exact LeO.refl _)
      | (with_reducible exact LeO.none _)
      | (with_reducible refine LeO.ite ?_ ?_)
      | (with_reducible refine LeO.bind ?_ (fun _ => ?_))
      | exact ih0 _ _ _ _ _ _
      | exact ih1 _ _ _ _ _ _ _
      | exact ih2 _ _ _ _ _ _ _ _
      | exact ih3 _ _ _ _ _ _
      | exact ih4 _ _ _ _ _ _ _
      | exact ih5 _ _ _ _ _ _ _
      | exact graph_Make.mono _ _
      | exact graph_Order.mono _ _ _ _
      | exact locksteplaw06_awake.mono _
      | exact lockstepref06_Reach.mono _ _ _ _ _
      | exact lockstepref06_Small.mono _ _
      | exact LeO.none _
      | refine LeO.ite ?_ ?_
      | refine LeO.bind ?_ (fun _ => ?_)
    · intro y0 y1 y2 y3 y4 y5 y6
      unfold locksteplaw06_GraphReaches.l1
      repeat' first
      | (with_reducible exact ih0 _ _ _ _ _ _)
      | (with_reducible exact ih1 _ _ _ _ _ _ _)
      | (with_reducible exact ih2 _ _ _ _ _ _ _ _)
      | (with_reducible exact ih3 _ _ _ _ _ _)
      | (with_reducible exact ih4 _ _ _ _ _ _ _)
      | (with_reducible exact ih5 _ _ _ _ _ _ _)
      | (with_reducible exact graph_Make.mono _ _)
      | (with_reducible exact graph_Order.mono _ _ _ _)
      | (with_reducible exact locksteplaw06_awake.mono _)
      | (with_reducible exact lockstepref06_Reach.mono _ _ _ _ _)
      | (with_reducible exact lockstepref06_Small.mono _ _)
      | (with_reducible exact LeO.refl _)
      | (with_reducible exact LeO.none _)
      | (with_reducible refine LeO.ite ?_ ?_)
      | (with_reducible refine LeO.bind ?_ (fun _ => ?_))
      | exact ih0 _ _ _ _ _ _
      | exact ih1 _ _ _ _ _ _ _
      | exact ih2 _ _ _ _ _ _ _ _
      | exact ih3 _ _ _ _ _ _
      | exact ih4 _ _ _ _ _ _ _
      | exact ih5 _ _ _ _ _ _ _
      | exact graph_Make.mono _ _
      | exact graph_Order.mono _ _ _ _
      | exact locksteplaw06_awake.mono _
      | exact lockstepref06_Reach.mono _ _ _ _ _
      | exact lockstepref06_Small.mono _ _
      | exact LeO.none _
      | refine LeO.ite ?_ ?_
      | refine LeO.bind ?_ (fun _ => ?_)
    · intro y0 y1 y2 y3 y4 y5 y6 y7
      unfold locksteplaw06_GraphReaches.l2
      repeat' first
      | (with_reducible exact ih0 _ _ _ _ _ _)
      | (with_reducible exact ih1 _ _ _ _ _ _ _)
      | (with_reducible exact ih2 _ _ _ _ _ _ _ _)
      | (with_reducible exact ih3 _ _ _ _ _ _)
      | (with_reducible exact ih4 _ _ _ _ _ _ _)
      | (with_reducible exact ih5 _ _ _ _ _ _ _)
      | (with_reducible exact graph_Make.mono _ _)
      | (with_reducible exact graph_Order.mono _ _ _ _)
      | (with_reducible exact locksteplaw06_awake.mono _)
      | (with_reducible exact lockstepref06_Reach.mono _ _ _ _ _)
      | (with_reducible exact lockstepref06_Small.mono _ _)
      | (with_reducible exact LeO.refl _)
      | (with_reducible exact LeO.none _)
      | (with_reducible refine LeO.ite ?_ ?_)
      | (with_reducible refine LeO.bind ?_ (fun _ => ?_))
      | exact ih0 _ _ _ _ _ _
      | exact ih1 _ _ _ _ _ _ _
      | exact ih2 _ _ _ _ _ _ _ _
      | exact ih3 _ _ _ _ _ _
      | exact ih4 _ _ _ _ _ _ _
      | exact ih5 _ _ _ _ _ _ _
      | exact graph_Make.mono _ _
      | exact graph_Order.mono _ _ _ _
      | exact locksteplaw06_awake.mono _
      | exact lockstepref06_Reach.mono _ _ _ _ _
      | exact lockstepref06_Small.mono _ _
      | exact LeO.none _
      | refine LeO.ite ?_ ?_
      | refine LeO.bind ?_ (fun _ => ?_)
    · intro y0 y1 y2 y3 y4 y5
      unfold locksteplaw06_GraphReaches.l3
      repeat' first
      | (with_reducible exact ih0 _ _ _ _ _ _)
      | (with_reducible exact ih1 _ _ _ _ _ _ _)
      | (with_reducible exact ih2 _ _ _ _ _ _ _ _)
      | (with_reducible exact ih3 _ _ _ _ _ _)
      | (with_reducible exact ih4 _ _ _ _ _ _ _)
      | (with_reducible exact ih5 _ _ _ _ _ _ _)
      | (with_reducible exact graph_Make.mono _ _)
      | (with_reducible exact graph_Order.mono _ _ _ _)
      | (with_reducible exact locksteplaw06_awake.mono _)
      | (with_reducible exact lockstepref06_Reach.mono _ _ _ _ _)
      | (with_reducible exact lockstepref06_Small.mono _ _)
      | (with_reducible exact LeO.refl _)
      | (with_reducible exact LeO.none _)
      | (with_reducible refine LeO.ite ?_ ?_)
      | (with_reducible refine LeO.bind ?_ (fun _ => ?_))
      | exact ih0 _ _ _ _ _ _
      | exact ih1 _ _ _ _ _ _ _
      | exact ih2 _ _ _ _ _ _ _ _
      | exact ih3 _ _ _ _ _ _
      | exact ih4 _ _ _ _ _ _ _
      | exact ih5 _ _ _ _ _ _ _
      | exact graph_Make.mono _ _
      | exact graph_Order.mono _ _ _ _
      | exact locksteplaw06_awake.mono _
      | exact lockstepref06_Reach.mono _ _ _ _ _
      | exact lockstepref06_Small.mono _ _
      | exact LeO.none _
      | refine LeO.ite ?_ ?_
      | refine LeO.bind ?_ (fun _ => ?_)
    · intro y0 y1 y2 y3 y4 y5 y6
      unfold locksteplaw06_GraphReaches.j4
      repeat' first
      | (with_reducible exact ih0 _ _ _ _ _ _)
      | (with_reducible exact ih1 _ _ _ _ _ _ _)
      | (with_reducible exact ih2 _ _ _ _ _ _ _ _)
      | (with_reducible exact ih3 _ _ _ _ _ _)
      | (with_reducible exact ih4 _ _ _ _ _ _ _)
      | (with_reducible exact ih5 _ _ _ _ _ _ _)
      | (with_reducible exact graph_Make.mono _ _)
      | (with_reducible exact graph_Order.mono _ _ _ _)
      | (with_reducible exact locksteplaw06_awake.mono _)
      | (with_reducible exact lockstepref06_Reach.mono _ _ _ _ _)
      | (with_reducible exact lockstepref06_Small.mono _ _)
      | (with_reducible exact LeO.refl _)
      | (with_reducible exact LeO.none _)
      | (with_reducible refine LeO.ite ?_ ?_)
      | (with_reducible refine LeO.bind ?_ (fun _ => ?_))
      | exact ih0 _ _ _ _ _ _
      | exact ih1 _ _ _ _ _ _ _
      | exact ih2 _ _ _ _ _ _ _ _
      | exact ih3 _ _ _ _ _ _
      | exact ih4 _ _ _ _ _ _ _
      | exact ih5 _ _ _ _ _ _ _
      | exact graph_Make.mono _ _
      | exact graph_Order.mono _ _ _ _
      | exact locksteplaw06_awake.mono _
      | exact lockstepref06_Reach.mono _ _ _ _ _
      | exact lockstepref06_Small.mono _ _
      | exact LeO.none _
      | refine LeO.ite ?_ ?_
      | refine LeO.bind ?_ (fun _ => ?_)
    · intro y0 y1 y2 y3 y4 y5 y6
      unfold locksteplaw06_GraphReaches.l4
      repeat' first
      | (with_reducible exact ih0 _ _ _ _ _ _)
      | (with_reducible exact ih1 _ _ _ _ _ _ _)
      | (with_reducible exact ih2 _ _ _ _ _ _ _ _)
      | (with_reducible exact ih3 _ _ _ _ _ _)
      | (with_reducible exact ih4 _ _ _ _ _ _ _)
      | (with_reducible exact ih5 _ _ _ _ _ _ _)
      | (with_reducible exact graph_Make.mono _ _)
      | (with_reducible exact graph_Order.mono _ _ _ _)
      | (with_reducible exact locksteplaw06_awake.mono _)
      | (with_reducible exact lockstepref06_Reach.mono _ _ _ _ _)
      | (with_reducible exact lockstepref06_Small.mono _ _)
      | (with_reducible exact LeO.refl _)
      | (with_reducible exact LeO.none _)
      | (with_reducible refine LeO.ite ?_ ?_)
      | (with_reducible refine LeO.bind ?_ (fun _ => ?_))
      | exact ih0 _ _ _ _ _ _
      | exact ih1 _ _ _ _ _ _ _
      | exact ih2 _ _ _ _ _ _ _ _
      | exact ih3 _ _ _ _ _ _
      | exact ih4 _ _ _ _ _ _ _
      | exact ih5 _ _ _ _ _ _ _
      | exact graph_Make.mono _ _
      | exact graph_Order.mono _ _ _ _
      | exact locksteplaw06_awake.mono _
      | exact lockstepref06_Reach.mono _ _ _ _ _
      | exact lockstepref06_Small.mono _ _
      | exact LeO.none _
      | refine LeO.ite ?_ ?_
      | refine LeO.bind ?_ (fun _ => ?_)
theorem locksteplaw06_GraphReaches.mono : ∀ a0 a1 k, LeO (locksteplaw06_GraphReaches.f k a0 a1) (locksteplaw06_GraphReaches.f (k + 1) a0 a1) := by
  intro a0 a1 k
  obtain ⟨ih0, ih1, ih2, ih3, ih4, ih5⟩ := locksteplaw06_GraphReaches.mono_l k
  unfold locksteplaw06_GraphReaches.f
  repeat' first
      | (with_reducible exact ih0 _ _ _ _ _ _)
      | (with_reducible exact ih1 _ _ _ _ _ _ _)
      | (with_reducible exact ih2 _ _ _ _ _ _ _ _)
      | (with_reducible exact ih3 _ _ _ _ _ _)
      | (with_reducible exact ih4 _ _ _ _ _ _ _)
      | (with_reducible exact ih5 _ _ _ _ _ _ _)
      | (with_reducible exact graph_Make.mono _ _)
      | (with_reducible exact graph_Order.mono _ _ _ _)
      | (with_reducible exact locksteplaw06_awake.mono _)
      | (with_reducible exact lockstepref06_Reach.mono _ _ _ _ _)
      | (with_reducible exact lockstepref06_Small.mono _ _)
      | (with_reducible exact LeO.refl _)
      | (with_reducible exact LeO.none _)
      | (with_reducible refine LeO.ite ?_ ?_)
      | (with_reducible refine LeO.bind ?_ (fun _ => ?_))
      | exact ih0 _ _ _ _ _ _
      | exact ih1 _ _ _ _ _ _ _
      | exact ih2 _ _ _ _ _ _ _ _
      | exact ih3 _ _ _ _ _ _
      | exact ih4 _ _ _ _ _ _ _
      | exact ih5 _ _ _ _ _ _ _
      | exact graph_Make.mono _ _
      | exact graph_Order.mono _ _ _ _
      | exact locksteplaw06_awake.mono _
      | exact lockstepref06_Reach.mono _ _ _ _ _
      | exact lockstepref06_Small.mono _ _
      | exact LeO.none _
      | refine LeO.ite ?_ ?_
      | refine LeO.bind ?_ (fun _ => ?_)
set_option maxHeartbeats 8000000 in
set_option maxRecDepth 100000 in
theorem locksteplaw06_GraphReaches.calls (k : Nat) (A0 : Option Addr) (c0 : Nat) (l0 : List (List Int)) (a1 : Int) (w : World) (hr0 : Kd.C (Kd.slice 3 (Kd.int .i64)) w A0 l0.length l0) (hc0 : l0.length ≤ c0) (h : locksteplaw06_GraphReaches.f k l0 a1 = some true) :
    Calls Try.prog 8 #[.slice A0 l0.length c0, .int .u8 a1] w fun e w' => e = .returned (.bool true) ∧ Below w.heap.size w w' := by
  have hu45 := Try.underlying45
  have HR0 := Aside0.mk hr0
  have HC0 := Aside0.mk hc0
  clear hr0 hc0
  have HB := Aside0.mk (Below.refl w.heap.size w)
  have H : ((locksteplaw06_awake.f k).bind fun t259 => (if t259 = true then ((lockstepref06_Small.f k l0).bind fun t260 => (if t260 = true then ((graph_Make.f k l0).bind fun bt261 => (if bt261.2.2 = 0 then (if (l0.length : Int) = 0 then (none) else ((graph_Order.f k bt261.1 bt261.2.1 (Int.tmod (wrap64 (a1)) (l0.length : Int))).bind fun t272 => ((lockstepref06_Reach.f k bt261.1 bt261.2.1 (Int.tmod (wrap64 (a1)) (l0.length : Int)) (-1)).bind fun t275 => (if 0 ≤ (l0.length : Int) then (if ((l0.length : Int) : Int).toNat ≤ 35184372088832 then (locksteplaw06_GraphReaches.l0 k l0 (Int.tmod (wrap64 (a1)) (l0.length : Int)) t272 t275 (List.replicate ((l0.length : Int) : Int).toNat 0) 0) else (none)) else (none))))) else ((graph_Order.f k bt261.1 bt261.2.1 0).bind fun t269 => (some ((t269.length : Int) == 0))))) else (some true))) else (some false))) = some true := h
  clear h
  replace H := Option.bind_eq_some_iff.mp H
  obtain ⟨t259, A30, H⟩ := H
  replace H : (if t259 = true then ((lockstepref06_Small.f k l0).bind fun t260 => (if t260 = true then ((graph_Make.f k l0).bind fun bt261 => (if bt261.2.2 = 0 then (if (l0.length : Int) = 0 then (none) else ((graph_Order.f k bt261.1 bt261.2.1 (Int.tmod (wrap64 (a1)) (l0.length : Int))).bind fun t272 => ((lockstepref06_Reach.f k bt261.1 bt261.2.1 (Int.tmod (wrap64 (a1)) (l0.length : Int)) (-1)).bind fun t275 => (if 0 ≤ (l0.length : Int) then (if ((l0.length : Int) : Int).toNat ≤ 35184372088832 then (locksteplaw06_GraphReaches.l0 k l0 (Int.tmod (wrap64 (a1)) (l0.length : Int)) t272 t275 (List.replicate ((l0.length : Int) : Int).toNat 0) 0) else (none)) else (none))))) else ((graph_Order.f k bt261.1 bt261.2.1 0).bind fun t269 => (some ((t269.length : Int) == 0))))) else (some true))) else (some false)) = some true := H
  have A3 := Aside0.mk A30
  clear A30
  by_cases c4 : t259 = true
  · subst c4
    have H1 : ((lockstepref06_Small.f k l0).bind fun t260 => (if t260 = true then ((graph_Make.f k l0).bind fun bt261 => (if bt261.2.2 = 0 then (if (l0.length : Int) = 0 then (none) else ((graph_Order.f k bt261.1 bt261.2.1 (Int.tmod (wrap64 (a1)) (l0.length : Int))).bind fun t272 => ((lockstepref06_Reach.f k bt261.1 bt261.2.1 (Int.tmod (wrap64 (a1)) (l0.length : Int)) (-1)).bind fun t275 => (if 0 ≤ (l0.length : Int) then (if ((l0.length : Int) : Int).toNat ≤ 35184372088832 then (locksteplaw06_GraphReaches.l0 k l0 (Int.tmod (wrap64 (a1)) (l0.length : Int)) t272 t275 (List.replicate ((l0.length : Int) : Int).toNat 0) 0) else (none)) else (none))))) else ((graph_Order.f k bt261.1 bt261.2.1 0).bind fun t269 => (some ((t269.length : Int) == 0))))) else (some true))) = some true := by rw [if_pos rfl] at H; exact H
    clear H
    have H := H1
    clear H1
    replace H := Option.bind_eq_some_iff.mp H
    obtain ⟨t260, A50, H⟩ := H
    replace H : (if t260 = true then ((graph_Make.f k l0).bind fun bt261 => (if bt261.2.2 = 0 then (if (l0.length : Int) = 0 then (none) else ((graph_Order.f k bt261.1 bt261.2.1 (Int.tmod (wrap64 (a1)) (l0.length : Int))).bind fun t272 => ((lockstepref06_Reach.f k bt261.1 bt261.2.1 (Int.tmod (wrap64 (a1)) (l0.length : Int)) (-1)).bind fun t275 => (if 0 ≤ (l0.length : Int) then (if ((l0.length : Int) : Int).toNat ≤ 35184372088832 then (locksteplaw06_GraphReaches.l0 k l0 (Int.tmod (wrap64 (a1)) (l0.length : Int)) t272 t275 (List.replicate ((l0.length : Int) : Int).toNat 0) 0) else (none)) else (none))))) else ((graph_Order.f k bt261.1 bt261.2.1 0).bind fun t269 => (some ((t269.length : Int) == 0))))) else (some true)) = some true := H
    have A5 := Aside0.mk A50
    clear A50
    by_cases c6 : t260 = true
    · subst c6
      have H1 : ((graph_Make.f k l0).bind fun bt261 => (if bt261.2.2 = 0 then (if (l0.length : Int) = 0 then (none) else ((graph_Order.f k bt261.1 bt261.2.1 (Int.tmod (wrap64 (a1)) (l0.length : Int))).bind fun t272 => ((lockstepref06_Reach.f k bt261.1 bt261.2.1 (Int.tmod (wrap64 (a1)) (l0.length : Int)) (-1)).bind fun t275 => (if 0 ≤ (l0.length : Int) then (if ((l0.length : Int) : Int).toNat ≤ 35184372088832 then (locksteplaw06_GraphReaches.l0 k l0 (Int.tmod (wrap64 (a1)) (l0.length : Int)) t272 t275 (List.replicate ((l0.length : Int) : Int).toNat 0) 0) else (none)) else (none))))) else ((graph_Order.f k bt261.1 bt261.2.1 0).bind fun t269 => (some ((t269.length : Int) == 0))))) = some true := by rw [if_pos rfl] at H; exact H
      clear H
      have H := H1
      clear H1
      replace H := Option.bind_eq_some_iff.mp H
      obtain ⟨⟨t261, t264, t267⟩, A70, H⟩ := H
      replace H : (if t267 = 0 then (if (l0.length : Int) = 0 then (none) else ((graph_Order.f k t261 t264 (Int.tmod (wrap64 (a1)) (l0.length : Int))).bind fun t272 => ((lockstepref06_Reach.f k t261 t264 (Int.tmod (wrap64 (a1)) (l0.length : Int)) (-1)).bind fun t275 => (if 0 ≤ (l0.length : Int) then (if ((l0.length : Int) : Int).toNat ≤ 35184372088832 then (locksteplaw06_GraphReaches.l0 k l0 (Int.tmod (wrap64 (a1)) (l0.length : Int)) t272 t275 (List.replicate ((l0.length : Int) : Int).toNat 0) 0) else (none)) else (none))))) else ((graph_Order.f k t261 t264 0).bind fun t269 => (some ((t269.length : Int) == 0)))) = some true := H
      have A7 := Aside0.mk A70
      clear A70
      by_cases c8 : t267 = 0
      · rw [if_pos c8] at H
        have c8b0 : (t267 == 0) = true := beq_iff_eq.mpr c8
        have c8b1 : (t267 != 0) = false := bne_eq_false_iff_eq.mpr c8
        clear c8
        by_cases c9 : (l0.length : Int) = 0
        · rw [if_pos c9] at H
          exact absurd H (by simp)
        · rw [if_neg c9] at H
          have c9b0 : ((l0.length : Int) == 0) = false := beq_eq_false_iff_ne.mpr c9
          have c9b1 : ((l0.length : Int) != 0) = true := bne_iff_ne.mpr c9
          have c9b2 : ¬ (l0 = []) := fun h_ => c9 (by rw [h_]; rfl)
          replace H := Option.bind_eq_some_iff.mp H
          obtain ⟨t272, A100, H⟩ := H
          replace H : ((lockstepref06_Reach.f k t261 t264 (Int.tmod (wrap64 (a1)) (l0.length : Int)) (-1)).bind fun t275 => (if 0 ≤ (l0.length : Int) then (if ((l0.length : Int) : Int).toNat ≤ 35184372088832 then (locksteplaw06_GraphReaches.l0 k l0 (Int.tmod (wrap64 (a1)) (l0.length : Int)) t272 t275 (List.replicate ((l0.length : Int) : Int).toNat 0) 0) else (none)) else (none))) = some true := H
          have A10 := Aside0.mk A100
          clear A100
          replace H := Option.bind_eq_some_iff.mp H
          obtain ⟨t275, A110, H⟩ := H
          replace H : (if 0 ≤ (l0.length : Int) then (if ((l0.length : Int) : Int).toNat ≤ 35184372088832 then (locksteplaw06_GraphReaches.l0 k l0 (Int.tmod (wrap64 (a1)) (l0.length : Int)) t272 t275 (List.replicate ((l0.length : Int) : Int).toNat 0) 0) else (none)) else (none)) = some true := H
          have A11 := Aside0.mk A110
          clear A110
          by_cases c12 : 0 ≤ (l0.length : Int)
          · rw [if_pos c12] at H
            have c12b0 := eq_true c12
            have c12b1 : decide (0 ≤ (l0.length : Int)) = true := decide_eq_true c12
            clear c12
            by_cases c13 : ((l0.length : Int) : Int).toNat ≤ 35184372088832
            · rw [if_pos c13] at H
              have c13b0 := eq_true c13
              have c13b1 : decide (((l0.length : Int) : Int).toNat ≤ 35184372088832) = true := decide_eq_true c13
              clear c13
              obtain ⟨y278, hy278⟩ : ∃ y_ : List Int, y_ = (List.replicate ((l0.length : Int) : Int).toNat 0) := ⟨_, rfl⟩
              replace H : (locksteplaw06_GraphReaches.l0 k l0 (Int.tmod (wrap64 (a1)) (l0.length : Int)) t272 t275 y278 0) = some true := by first | (rw [hy278]; with_reducible exact H) | (have H2_ := (Option.bind_some _ _).symm.trans H; rw [hy278]; with_reducible exact H2_) | (have H2_ := (Option.bind_some _ _).symm.trans H; with_reducible exact H2_) | with_reducible exact H | (rw [hy278]; exact H) | exact H
              have Ny278 := Aside0.mk hy278
              clear hy278
              have H' := Aside0.mk H
              clear H
              go_enter Try.func8, Try.ntmps8
              go_wp2_with (first | (go_at_call 21; (with_reducible refine (locksteplaw06_awake.calls k   _ A3.out).mono ?_); rintro e w14 ⟨rfl, hb⟩; have n0_ := Aside0.mk (below_step (by repeat (first | (with_reducible first | exact HB.out | apply below_alloc | apply pw_below_drewN | apply below_drew1) | exact HB.out)) hb); clear HB; have HB := n0_; clear n0_; (try clear hb); (try clear hb2); (try clear hk); (try clear hi)) | (go_at_call 22; (with_reducible refine (lockstepref06_Small.calls k _ _ l0 true _ ?side1 ?side2 A5.out).mono ?_); (case side1 => repeat (first | exact (Kd.C_below HR0.out HB.out) | (with_reducible refine Kd.C_alloc ?_ _) | (with_reducible refine Kd.C_drewN ?_ _) | (with_reducible refine Kd.C_drew ?_))); (case side2 => exact HC0.out); rintro e w' ⟨rfl, ⟨nd, rfl⟩⟩; (try first | exact ⟨rfl, _, World.drewN_drewN _ _ _⟩ | exact ⟨rfl, _, Eq.trans (World.drewN_drewN _ _ _) (congrArg (World.drewN _) (Nat.add_assoc _ _ _))⟩)) | (go_at_call 23; (with_reducible refine (graph_Make.calls k _ _ l0 t261 t264 t267 _ ?side1 ?side2 A7.out).mono ?_); (case side1 => repeat (first | exact (Kd.C_below HR0.out (by repeat (first | (with_reducible first | exact HB.out | apply below_alloc | apply pw_below_drewN | apply below_drew1) | exact HB.out))) | (with_reducible refine Kd.C_alloc ?_ _) | (with_reducible refine Kd.C_drewN ?_ _) | (with_reducible refine Kd.C_drew ?_))); (case side2 => exact HC0.out); rintro e w15 ⟨v262, v265, rfl, ho0, ho1, hb⟩; have n0_ := Aside0.mk (Kd.S_lower ho0 (below_size (by repeat (first | (with_reducible first | exact HB.out | apply below_alloc | apply pw_below_drewN | apply below_drew1) | exact HB.out)))); have n1_ := Aside0.mk (Kd.S_lower ho1 (below_size (by repeat (first | (with_reducible first | exact HB.out | apply below_alloc | apply pw_below_drewN | apply below_drew1) | exact HB.out)))); have n2_ := Aside0.mk (below_step (by repeat (first | (with_reducible first | exact HB.out | apply below_alloc | apply pw_below_drewN | apply below_drew1) | exact HB.out)) hb); clear HB; have HO263 := n0_; have HO266 := n1_; have HB := n2_; clear n0_ n1_ n2_; (try clear hb); (try clear hb2); (try clear hk); (try clear hi); (try clear ho0); (try clear ho1)) | ((with_reducible refine gate_dst (N := 5) rfl ?_); (try (refine gate_guard (by rfl) ?_; dsimp only)); refine box_event ?hg (N := 5) ?hd (cs := #[.slice none 0 0, .slice none 0 0]) (t := 45) ?hr ?_; (case hd => rfl); (case hg => rfl); (case hr => first | (go_simp; done) | (go_simp; rfl)); intro gb268 hg w16 hbox hb; have n0_ := Aside0.mk (Kd.S_below (by (with_reducible repeat (first | apply Kd.S_alloc | apply Kd.S_drewN | apply Kd.S_drew)); exact HO263.out) hb); have n1_ := Aside0.mk (Kd.S_below (by (with_reducible repeat (first | apply Kd.S_alloc | apply Kd.S_drewN | apply Kd.S_drew)); exact HO266.out) hb); have n2_ := Aside0.mk (below_step (by repeat (first | (with_reducible first | exact HB.out | apply below_alloc | apply pw_below_drewN | apply below_drew1) | exact HB.out)) hb); have n3_ := Aside0.mk (hbox); have n4_ := Aside0.mk ((by rw [hg]; exact (below_size (by repeat (first | (with_reducible first | exact HB.out | apply below_alloc | apply pw_below_drewN | apply below_drew1) | exact HB.out))) : w.heap.size ≤ gb268)); have n5_ := Aside0.mk ((by rw [hg]; exact (below_size (by repeat (first | (with_reducible first | exact HB.out | apply below_alloc | apply pw_below_drewN | apply below_drew1) | exact HB.out))) : w.heap.size ≤ gb268)); clear HO263; clear HO266; clear HB; have HO263 := n0_; have HO266 := n1_; have HB := n2_; have BK268 := n3_; have GW268 := n4_; have GE268 := n5_; clear n0_ n1_ n2_ n3_ n4_ n5_; clear hb hbox hg; obtain ⟨Ao17, co17, eo17⟩ := Kd.S_slice HO263.out; subst eo17; have hcz18_0 : w16.cell? ⟨gb268, 0, none⟩ = some (.slice none 0 0) := (blk_cell BK268.out 0).trans rfl; have hcz18_1 : w16.cell? ⟨gb268, 1, none⟩ = some (.slice none 0 0) := (blk_cell BK268.out 1).trans rfl; have hfz18_0 := blk_frozen BK268.out 0; have hfz18_1 := blk_frozen BK268.out 1; obtain ⟨Ao19, co19, eo19⟩ := Kd.S_slice HO266.out; subst eo19) | (go_at_call 24; (with_reducible refine (graph_Order.calls k _ _ t261 _ _ t264 (Int.tmod (wrap64 (a1)) (l0.length : Int)) t272 _ ?side1 ?side2 ?side3 ?side4 A10.out).mono ?_); (case side1 => refine (Kd.S_reads' (e := 33) (base := w.heap.size) (ok := fun k_ => some k_ ≠ (.slice Ao19 t264.length co19 : Value).ownBlock) (n := t261.length) (c := co17) ?_).2.2; exact (by (with_reducible repeat (first | apply Kd.S_alloc | apply Kd.S_drewN | apply Kd.S_drew)); exact (Kd.S_mono (Kd.S_far (p := ⟨gb268, 1, none⟩) (Kd.S_far (p := ⟨gb268, 0, none⟩) (Kd.S_types HO263.out BK268.out (by decide)) (fun _ hk => hk.2) (.slice Ao17 t261.length co17)) (fun _ hk => hk.2) (.slice Ao19 t264.length co19)) (fun _ h_ => h_.1)))); (case side2 => exact (Kd.S_reads' HO263.out).2.1); (case side3 => refine (Kd.S_reads' (e := 33) (base := w.heap.size) (ok := fun k_ => some k_ ≠ (.slice Ao17 t261.length co17 : Value).ownBlock) (n := t264.length) (c := co19) ?_).2.2; exact (by (with_reducible repeat (first | apply Kd.S_alloc | apply Kd.S_drewN | apply Kd.S_drew)); exact (Kd.S_mono (Kd.S_far (p := ⟨gb268, 1, none⟩) (Kd.S_far (p := ⟨gb268, 0, none⟩) (Kd.S_types HO266.out BK268.out (by decide)) (fun _ hk => hk.2) (.slice Ao17 t261.length co17)) (fun _ hk => hk.2) (.slice Ao19 t264.length co19)) (fun _ h_ => h_.1)))); (case side4 => exact (Kd.S_reads' HO266.out).2.1); rintro e w20 ⟨v273, rfl, ho0, hb⟩; have n0_ := Aside0.mk (Kd.S_elder' (by (with_reducible repeat (first | apply Kd.S_alloc | apply Kd.S_drewN | apply Kd.S_drew)); exact (Kd.S_mono (Kd.S_far (p := ⟨gb268, 1, none⟩) (Kd.S_far (p := ⟨gb268, 0, none⟩) (Kd.S_types HO263.out BK268.out (by decide)) (fun _ hk => hk.2) (.slice Ao17 t261.length co17)) (fun _ hk => hk.2) (.slice Ao19 t264.length co19)) (fun _ h_ => h_.1))) (Kd.R_base ho0) hb); have n1_ := Aside0.mk (Kd.S_elder' (by (with_reducible repeat (first | apply Kd.S_alloc | apply Kd.S_drewN | apply Kd.S_drew)); exact (Kd.S_mono (Kd.S_far (p := ⟨gb268, 1, none⟩) (Kd.S_far (p := ⟨gb268, 0, none⟩) (Kd.S_types HO266.out BK268.out (by decide)) (fun _ hk => hk.2) (.slice Ao17 t261.length co17)) (fun _ hk => hk.2) (.slice Ao19 t264.length co19)) (fun _ h_ => h_.1))) (Kd.R_base ho0) hb); have n2_ := Aside0.mk (Kd.R_lower ho0 (below_size (by repeat (first | (with_reducible first | exact HB.out | apply below_alloc | apply pw_below_drewN | apply below_drew1 | refine below_set ?_ GE268.out) | exact HB.out)))); have n3_ := Aside0.mk (blk_below (g := gb268) (o := .cells #[.slice Ao17 t261.length co17, .slice Ao19 t264.length co19] 45 (0, 0)) (by (with_reducible repeat (first | refine blk_drewN ?_ _ | refine blk_drew ?_ | refine blk_alloc ?_ _)); refine blk_put (cs := #[.slice Ao17 t261.length co17, .slice none 0 0]) ?_ 1 _ rfl; (with_reducible repeat (first | refine blk_drewN ?_ _ | refine blk_drew ?_ | refine blk_alloc ?_ _)); refine blk_put (cs := #[.slice none 0 0, .slice none 0 0]) ?_ 0 _ rfl; (with_reducible repeat (first | refine blk_drewN ?_ _ | refine blk_drew ?_ | refine blk_alloc ?_ _)); exact BK268.out) hb); have n4_ := Aside0.mk (below_step (by repeat (first | (with_reducible first | exact HB.out | apply below_alloc | apply pw_below_drewN | apply below_drew1 | refine below_set ?_ GE268.out) | exact HB.out)) hb); clear HO263; clear HO266; clear BK268; clear HB; have HO263 := n0_; have HO266 := n1_; have HO274 := n2_; have BK268 := n3_; have HB := n4_; clear n0_ n1_ n2_ n3_ n4_; (try clear hb); (try clear hb2); (try clear hk); (try clear hi); (try clear ho0); have hcz21_0 : w20.cell? ⟨gb268, 0, none⟩ = some (.slice Ao17 t261.length co17) := (blk_cell BK268.out 0).trans rfl; have hcz21_1 : w20.cell? ⟨gb268, 1, none⟩ = some (.slice Ao19 t264.length co19) := (blk_cell BK268.out 1).trans rfl; have hfz21_0 := blk_frozen BK268.out 0; have hfz21_1 := blk_frozen BK268.out 1) | (go_at_call 25; (with_reducible refine (lockstepref06_Reach.calls k _ _ t261 _ _ t264 (Int.tmod (wrap64 (a1)) (l0.length : Int)) (-1) t275 _ ?side1 ?side2 ?side3 ?side4 A11.out).mono ?_); (case side1 => repeat (first | exact (Kd.S_reads' HO263.out).2.2 | (with_reducible refine Kd.C_alloc ?_ _) | (with_reducible refine Kd.C_drewN ?_ _) | (with_reducible refine Kd.C_drew ?_))); (case side2 => exact (Kd.S_reads' HO263.out).2.1); (case side3 => repeat (first | exact (Kd.S_reads' HO266.out).2.2 | (with_reducible refine Kd.C_alloc ?_ _) | (with_reducible refine Kd.C_drewN ?_ _) | (with_reducible refine Kd.C_drew ?_))); (case side4 => exact (Kd.S_reads' HO266.out).2.1); rintro e w22 ⟨v276, rfl, ho0, hb⟩; have n0_ := Aside0.mk (Kd.S_below (by (with_reducible repeat (first | apply Kd.S_alloc | apply Kd.S_drewN | apply Kd.S_drew)); exact HO263.out) hb); have n1_ := Aside0.mk (Kd.S_below (by (with_reducible repeat (first | apply Kd.S_alloc | apply Kd.S_drewN | apply Kd.S_drew)); exact HO266.out) hb); have n2_ := Aside0.mk (Kd.R_below (by (with_reducible repeat (first | apply Kd.R_alloc | apply Kd.R_drewN | apply Kd.R_drew)); exact HO274.out) hb); have n3_ := Aside0.mk (Kd.R_lower ho0 (below_size (by repeat (first | (with_reducible first | exact HB.out | apply below_alloc | apply pw_below_drewN | apply below_drew1 | refine below_set ?_ GE268.out) | exact HB.out)))); have n4_ := Aside0.mk (blk_below (g := gb268) (o := .cells #[.slice Ao17 t261.length co17, .slice Ao19 t264.length co19] 45 (0, 0)) (by (with_reducible repeat (first | refine blk_drewN ?_ _ | refine blk_drew ?_ | refine blk_alloc ?_ _)); exact BK268.out) hb); have n5_ := Aside0.mk (below_step (by repeat (first | (with_reducible first | exact HB.out | apply below_alloc | apply pw_below_drewN | apply below_drew1 | refine below_set ?_ GE268.out) | exact HB.out)) hb); clear HO263; clear HO266; clear HO274; clear BK268; clear HB; have HO263 := n0_; have HO266 := n1_; have HO274 := n2_; have HO277 := n3_; have BK268 := n4_; have HB := n5_; clear n0_ n1_ n2_ n3_ n4_ n5_; (try clear hb); (try clear hb2); (try clear hk); (try clear hi); (try clear ho0)) | ((with_reducible refine gate_dst (N := 46) rfl ?_); (try (refine gate_guard (by rfl) ?_; dsimp only)); refine Kd.R_make (Kd.int .i64) _ 3 rfl (N := 46) rfl 33 _ _ rfl (l0.length : Int) rfl rfl Try.underlying33 (.int .i64 0) 8 info3 rfl (by decide) (by omega) 0 (ok := fun _ => True) (okp := fun _ => True) rfl (fun _ hk => hk) trivial (of_decide_eq_true (by first | (with_reducible assumption) | assumption)) (Nat.le_trans (Nat.mul_le_mul_right _ (of_decide_eq_true (by first | (with_reducible assumption) | assumption) : (l0.length : Int).toNat ≤ 35184372088832)) (by omega)) (Below.refl _ _) (Nat.le_refl _) ?_; intro v279 w23 ho24 hb hg_ hnew_; clear hg_ hnew_; (first | rw [← Ny278.out] at ho24 | (simp only [Int.reduceToNat] at ho24; rw [← Ny278.out] at ho24)); have n0_ := Aside0.mk (Kd.S_elder' (by (with_reducible repeat (first | apply Kd.S_alloc | apply Kd.S_drewN | apply Kd.S_drew)); exact HO263.out) (Kd.R_base ho24) hb); have n1_ := Aside0.mk (Kd.S_elder' (by (with_reducible repeat (first | apply Kd.S_alloc | apply Kd.S_drewN | apply Kd.S_drew)); exact HO266.out) (Kd.R_base ho24) hb); have n2_ := Aside0.mk (Kd.R_elder' (by (with_reducible repeat (first | apply Kd.R_alloc | apply Kd.R_drewN | apply Kd.R_drew)); exact HO274.out) (Kd.R_base ho24) hb); have n3_ := Aside0.mk (Kd.R_below (by (with_reducible repeat (first | apply Kd.R_alloc | apply Kd.R_drewN | apply Kd.R_drew)); exact HO277.out) hb); have n4_ := Aside0.mk (Kd.R_lower (Kd.R_new' ho24 (Kd.R_lt (by (with_reducible repeat (first | apply Kd.R_alloc | apply Kd.R_drewN | apply Kd.R_drew)); exact HO274.out))) (below_size (by repeat (first | (with_reducible first | exact HB.out | apply below_alloc | apply pw_below_drewN | apply below_drew1 | refine below_set ?_ GE268.out) | exact HB.out)))); have n5_ := Aside0.mk (blk_below (g := gb268) (o := .cells #[.slice Ao17 t261.length co17, .slice Ao19 t264.length co19] 45 (0, 0)) (by (with_reducible repeat (first | refine blk_drewN ?_ _ | refine blk_drew ?_ | refine blk_alloc ?_ _)); exact BK268.out) hb); have n6_ := Aside0.mk (below_step (by repeat (first | (with_reducible first | exact HB.out | apply below_alloc | apply pw_below_drewN | apply below_drew1 | refine below_set ?_ GE268.out) | exact HB.out)) hb); clear HO263; clear HO266; clear HO274; clear HO277; clear BK268; clear HB; have HO263 := n0_; have HO266 := n1_; have HO274 := n2_; have HO277 := n3_; have HO280 := n4_; have BK268 := n5_; have HB := n6_; clear n0_ n1_ n2_ n3_ n4_ n5_ n6_; clear hb ho24))
              repeat (go_quiet (first | (go_at_call 21; (with_reducible refine (locksteplaw06_awake.calls k   _ A3.out).mono ?_); rintro e w14 ⟨rfl, hb⟩; have n0_ := Aside0.mk (below_step (by repeat (first | (with_reducible first | exact HB.out | apply below_alloc | apply pw_below_drewN | apply below_drew1) | exact HB.out)) hb); clear HB; have HB := n0_; clear n0_; (try clear hb); (try clear hb2); (try clear hk); (try clear hi)) | (go_at_call 22; (with_reducible refine (lockstepref06_Small.calls k _ _ l0 true _ ?side1 ?side2 A5.out).mono ?_); (case side1 => repeat (first | exact (Kd.C_below HR0.out HB.out) | (with_reducible refine Kd.C_alloc ?_ _) | (with_reducible refine Kd.C_drewN ?_ _) | (with_reducible refine Kd.C_drew ?_))); (case side2 => exact HC0.out); rintro e w' ⟨rfl, ⟨nd, rfl⟩⟩; (try first | exact ⟨rfl, _, World.drewN_drewN _ _ _⟩ | exact ⟨rfl, _, Eq.trans (World.drewN_drewN _ _ _) (congrArg (World.drewN _) (Nat.add_assoc _ _ _))⟩)) | (go_at_call 23; (with_reducible refine (graph_Make.calls k _ _ l0 t261 t264 t267 _ ?side1 ?side2 A7.out).mono ?_); (case side1 => repeat (first | exact (Kd.C_below HR0.out (by repeat (first | (with_reducible first | exact HB.out | apply below_alloc | apply pw_below_drewN | apply below_drew1) | exact HB.out))) | (with_reducible refine Kd.C_alloc ?_ _) | (with_reducible refine Kd.C_drewN ?_ _) | (with_reducible refine Kd.C_drew ?_))); (case side2 => exact HC0.out); rintro e w15 ⟨v262, v265, rfl, ho0, ho1, hb⟩; have n0_ := Aside0.mk (Kd.S_lower ho0 (below_size (by repeat (first | (with_reducible first | exact HB.out | apply below_alloc | apply pw_below_drewN | apply below_drew1) | exact HB.out)))); have n1_ := Aside0.mk (Kd.S_lower ho1 (below_size (by repeat (first | (with_reducible first | exact HB.out | apply below_alloc | apply pw_below_drewN | apply below_drew1) | exact HB.out)))); have n2_ := Aside0.mk (below_step (by repeat (first | (with_reducible first | exact HB.out | apply below_alloc | apply pw_below_drewN | apply below_drew1) | exact HB.out)) hb); clear HB; have HO263 := n0_; have HO266 := n1_; have HB := n2_; clear n0_ n1_ n2_; (try clear hb); (try clear hb2); (try clear hk); (try clear hi); (try clear ho0); (try clear ho1)) | ((with_reducible refine gate_dst (N := 5) rfl ?_); (try (refine gate_guard (by rfl) ?_; dsimp only)); refine box_event ?hg (N := 5) ?hd (cs := #[.slice none 0 0, .slice none 0 0]) (t := 45) ?hr ?_; (case hd => rfl); (case hg => rfl); (case hr => first | (go_simp; done) | (go_simp; rfl)); intro gb268 hg w16 hbox hb; have n0_ := Aside0.mk (Kd.S_below (by (with_reducible repeat (first | apply Kd.S_alloc | apply Kd.S_drewN | apply Kd.S_drew)); exact HO263.out) hb); have n1_ := Aside0.mk (Kd.S_below (by (with_reducible repeat (first | apply Kd.S_alloc | apply Kd.S_drewN | apply Kd.S_drew)); exact HO266.out) hb); have n2_ := Aside0.mk (below_step (by repeat (first | (with_reducible first | exact HB.out | apply below_alloc | apply pw_below_drewN | apply below_drew1) | exact HB.out)) hb); have n3_ := Aside0.mk (hbox); have n4_ := Aside0.mk ((by rw [hg]; exact (below_size (by repeat (first | (with_reducible first | exact HB.out | apply below_alloc | apply pw_below_drewN | apply below_drew1) | exact HB.out))) : w.heap.size ≤ gb268)); have n5_ := Aside0.mk ((by rw [hg]; exact (below_size (by repeat (first | (with_reducible first | exact HB.out | apply below_alloc | apply pw_below_drewN | apply below_drew1) | exact HB.out))) : w.heap.size ≤ gb268)); clear HO263; clear HO266; clear HB; have HO263 := n0_; have HO266 := n1_; have HB := n2_; have BK268 := n3_; have GW268 := n4_; have GE268 := n5_; clear n0_ n1_ n2_ n3_ n4_ n5_; clear hb hbox hg; obtain ⟨Ao17, co17, eo17⟩ := Kd.S_slice HO263.out; subst eo17; have hcz18_0 : w16.cell? ⟨gb268, 0, none⟩ = some (.slice none 0 0) := (blk_cell BK268.out 0).trans rfl; have hcz18_1 : w16.cell? ⟨gb268, 1, none⟩ = some (.slice none 0 0) := (blk_cell BK268.out 1).trans rfl; have hfz18_0 := blk_frozen BK268.out 0; have hfz18_1 := blk_frozen BK268.out 1; obtain ⟨Ao19, co19, eo19⟩ := Kd.S_slice HO266.out; subst eo19) | (go_at_call 24; (with_reducible refine (graph_Order.calls k _ _ t261 _ _ t264 (Int.tmod (wrap64 (a1)) (l0.length : Int)) t272 _ ?side1 ?side2 ?side3 ?side4 A10.out).mono ?_); (case side1 => refine (Kd.S_reads' (e := 33) (base := w.heap.size) (ok := fun k_ => some k_ ≠ (.slice Ao19 t264.length co19 : Value).ownBlock) (n := t261.length) (c := co17) ?_).2.2; exact (by (with_reducible repeat (first | apply Kd.S_alloc | apply Kd.S_drewN | apply Kd.S_drew)); exact (Kd.S_mono (Kd.S_far (p := ⟨gb268, 1, none⟩) (Kd.S_far (p := ⟨gb268, 0, none⟩) (Kd.S_types HO263.out BK268.out (by decide)) (fun _ hk => hk.2) (.slice Ao17 t261.length co17)) (fun _ hk => hk.2) (.slice Ao19 t264.length co19)) (fun _ h_ => h_.1)))); (case side2 => exact (Kd.S_reads' HO263.out).2.1); (case side3 => refine (Kd.S_reads' (e := 33) (base := w.heap.size) (ok := fun k_ => some k_ ≠ (.slice Ao17 t261.length co17 : Value).ownBlock) (n := t264.length) (c := co19) ?_).2.2; exact (by (with_reducible repeat (first | apply Kd.S_alloc | apply Kd.S_drewN | apply Kd.S_drew)); exact (Kd.S_mono (Kd.S_far (p := ⟨gb268, 1, none⟩) (Kd.S_far (p := ⟨gb268, 0, none⟩) (Kd.S_types HO266.out BK268.out (by decide)) (fun _ hk => hk.2) (.slice Ao17 t261.length co17)) (fun _ hk => hk.2) (.slice Ao19 t264.length co19)) (fun _ h_ => h_.1)))); (case side4 => exact (Kd.S_reads' HO266.out).2.1); rintro e w20 ⟨v273, rfl, ho0, hb⟩; have n0_ := Aside0.mk (Kd.S_elder' (by (with_reducible repeat (first | apply Kd.S_alloc | apply Kd.S_drewN | apply Kd.S_drew)); exact (Kd.S_mono (Kd.S_far (p := ⟨gb268, 1, none⟩) (Kd.S_far (p := ⟨gb268, 0, none⟩) (Kd.S_types HO263.out BK268.out (by decide)) (fun _ hk => hk.2) (.slice Ao17 t261.length co17)) (fun _ hk => hk.2) (.slice Ao19 t264.length co19)) (fun _ h_ => h_.1))) (Kd.R_base ho0) hb); have n1_ := Aside0.mk (Kd.S_elder' (by (with_reducible repeat (first | apply Kd.S_alloc | apply Kd.S_drewN | apply Kd.S_drew)); exact (Kd.S_mono (Kd.S_far (p := ⟨gb268, 1, none⟩) (Kd.S_far (p := ⟨gb268, 0, none⟩) (Kd.S_types HO266.out BK268.out (by decide)) (fun _ hk => hk.2) (.slice Ao17 t261.length co17)) (fun _ hk => hk.2) (.slice Ao19 t264.length co19)) (fun _ h_ => h_.1))) (Kd.R_base ho0) hb); have n2_ := Aside0.mk (Kd.R_lower ho0 (below_size (by repeat (first | (with_reducible first | exact HB.out | apply below_alloc | apply pw_below_drewN | apply below_drew1 | refine below_set ?_ GE268.out) | exact HB.out)))); have n3_ := Aside0.mk (blk_below (g := gb268) (o := .cells #[.slice Ao17 t261.length co17, .slice Ao19 t264.length co19] 45 (0, 0)) (by (with_reducible repeat (first | refine blk_drewN ?_ _ | refine blk_drew ?_ | refine blk_alloc ?_ _)); refine blk_put (cs := #[.slice Ao17 t261.length co17, .slice none 0 0]) ?_ 1 _ rfl; (with_reducible repeat (first | refine blk_drewN ?_ _ | refine blk_drew ?_ | refine blk_alloc ?_ _)); refine blk_put (cs := #[.slice none 0 0, .slice none 0 0]) ?_ 0 _ rfl; (with_reducible repeat (first | refine blk_drewN ?_ _ | refine blk_drew ?_ | refine blk_alloc ?_ _)); exact BK268.out) hb); have n4_ := Aside0.mk (below_step (by repeat (first | (with_reducible first | exact HB.out | apply below_alloc | apply pw_below_drewN | apply below_drew1 | refine below_set ?_ GE268.out) | exact HB.out)) hb); clear HO263; clear HO266; clear BK268; clear HB; have HO263 := n0_; have HO266 := n1_; have HO274 := n2_; have BK268 := n3_; have HB := n4_; clear n0_ n1_ n2_ n3_ n4_; (try clear hb); (try clear hb2); (try clear hk); (try clear hi); (try clear ho0); have hcz21_0 : w20.cell? ⟨gb268, 0, none⟩ = some (.slice Ao17 t261.length co17) := (blk_cell BK268.out 0).trans rfl; have hcz21_1 : w20.cell? ⟨gb268, 1, none⟩ = some (.slice Ao19 t264.length co19) := (blk_cell BK268.out 1).trans rfl; have hfz21_0 := blk_frozen BK268.out 0; have hfz21_1 := blk_frozen BK268.out 1) | (go_at_call 25; (with_reducible refine (lockstepref06_Reach.calls k _ _ t261 _ _ t264 (Int.tmod (wrap64 (a1)) (l0.length : Int)) (-1) t275 _ ?side1 ?side2 ?side3 ?side4 A11.out).mono ?_); (case side1 => repeat (first | exact (Kd.S_reads' HO263.out).2.2 | (with_reducible refine Kd.C_alloc ?_ _) | (with_reducible refine Kd.C_drewN ?_ _) | (with_reducible refine Kd.C_drew ?_))); (case side2 => exact (Kd.S_reads' HO263.out).2.1); (case side3 => repeat (first | exact (Kd.S_reads' HO266.out).2.2 | (with_reducible refine Kd.C_alloc ?_ _) | (with_reducible refine Kd.C_drewN ?_ _) | (with_reducible refine Kd.C_drew ?_))); (case side4 => exact (Kd.S_reads' HO266.out).2.1); rintro e w22 ⟨v276, rfl, ho0, hb⟩; have n0_ := Aside0.mk (Kd.S_below (by (with_reducible repeat (first | apply Kd.S_alloc | apply Kd.S_drewN | apply Kd.S_drew)); exact HO263.out) hb); have n1_ := Aside0.mk (Kd.S_below (by (with_reducible repeat (first | apply Kd.S_alloc | apply Kd.S_drewN | apply Kd.S_drew)); exact HO266.out) hb); have n2_ := Aside0.mk (Kd.R_below (by (with_reducible repeat (first | apply Kd.R_alloc | apply Kd.R_drewN | apply Kd.R_drew)); exact HO274.out) hb); have n3_ := Aside0.mk (Kd.R_lower ho0 (below_size (by repeat (first | (with_reducible first | exact HB.out | apply below_alloc | apply pw_below_drewN | apply below_drew1 | refine below_set ?_ GE268.out) | exact HB.out)))); have n4_ := Aside0.mk (blk_below (g := gb268) (o := .cells #[.slice Ao17 t261.length co17, .slice Ao19 t264.length co19] 45 (0, 0)) (by (with_reducible repeat (first | refine blk_drewN ?_ _ | refine blk_drew ?_ | refine blk_alloc ?_ _)); exact BK268.out) hb); have n5_ := Aside0.mk (below_step (by repeat (first | (with_reducible first | exact HB.out | apply below_alloc | apply pw_below_drewN | apply below_drew1 | refine below_set ?_ GE268.out) | exact HB.out)) hb); clear HO263; clear HO266; clear HO274; clear BK268; clear HB; have HO263 := n0_; have HO266 := n1_; have HO274 := n2_; have HO277 := n3_; have BK268 := n4_; have HB := n5_; clear n0_ n1_ n2_ n3_ n4_ n5_; (try clear hb); (try clear hb2); (try clear hk); (try clear hi); (try clear ho0)) | ((with_reducible refine gate_dst (N := 46) rfl ?_); (try (refine gate_guard (by rfl) ?_; dsimp only)); refine Kd.R_make (Kd.int .i64) _ 3 rfl (N := 46) rfl 33 _ _ rfl (l0.length : Int) rfl rfl Try.underlying33 (.int .i64 0) 8 info3 rfl (by decide) (by omega) 0 (ok := fun _ => True) (okp := fun _ => True) rfl (fun _ hk => hk) trivial (of_decide_eq_true (by first | (with_reducible assumption) | assumption)) (Nat.le_trans (Nat.mul_le_mul_right _ (of_decide_eq_true (by first | (with_reducible assumption) | assumption) : (l0.length : Int).toNat ≤ 35184372088832)) (by omega)) (Below.refl _ _) (Nat.le_refl _) ?_; intro v279 w23 ho24 hb hg_ hnew_; clear hg_ hnew_; (first | rw [← Ny278.out] at ho24 | (simp only [Int.reduceToNat] at ho24; rw [← Ny278.out] at ho24)); have n0_ := Aside0.mk (Kd.S_elder' (by (with_reducible repeat (first | apply Kd.S_alloc | apply Kd.S_drewN | apply Kd.S_drew)); exact HO263.out) (Kd.R_base ho24) hb); have n1_ := Aside0.mk (Kd.S_elder' (by (with_reducible repeat (first | apply Kd.S_alloc | apply Kd.S_drewN | apply Kd.S_drew)); exact HO266.out) (Kd.R_base ho24) hb); have n2_ := Aside0.mk (Kd.R_elder' (by (with_reducible repeat (first | apply Kd.R_alloc | apply Kd.R_drewN | apply Kd.R_drew)); exact HO274.out) (Kd.R_base ho24) hb); have n3_ := Aside0.mk (Kd.R_below (by (with_reducible repeat (first | apply Kd.R_alloc | apply Kd.R_drewN | apply Kd.R_drew)); exact HO277.out) hb); have n4_ := Aside0.mk (Kd.R_lower (Kd.R_new' ho24 (Kd.R_lt (by (with_reducible repeat (first | apply Kd.R_alloc | apply Kd.R_drewN | apply Kd.R_drew)); exact HO274.out))) (below_size (by repeat (first | (with_reducible first | exact HB.out | apply below_alloc | apply pw_below_drewN | apply below_drew1 | refine below_set ?_ GE268.out) | exact HB.out)))); have n5_ := Aside0.mk (blk_below (g := gb268) (o := .cells #[.slice Ao17 t261.length co17, .slice Ao19 t264.length co19] 45 (0, 0)) (by (with_reducible repeat (first | refine blk_drewN ?_ _ | refine blk_drew ?_ | refine blk_alloc ?_ _)); exact BK268.out) hb); have n6_ := Aside0.mk (below_step (by repeat (first | (with_reducible first | exact HB.out | apply below_alloc | apply pw_below_drewN | apply below_drew1 | refine below_set ?_ GE268.out) | exact HB.out)) hb); clear HO263; clear HO266; clear HO274; clear HO277; clear BK268; clear HB; have HO263 := n0_; have HO266 := n1_; have HO274 := n2_; have HO277 := n3_; have HO280 := n4_; have BK268 := n5_; have HB := n6_; clear n0_ n1_ n2_ n3_ n4_ n5_ n6_; clear hb ho24)); try go_wp2_with (first | (go_at_call 21; (with_reducible refine (locksteplaw06_awake.calls k   _ A3.out).mono ?_); rintro e w14 ⟨rfl, hb⟩; have n0_ := Aside0.mk (below_step (by repeat (first | (with_reducible first | exact HB.out | apply below_alloc | apply pw_below_drewN | apply below_drew1) | exact HB.out)) hb); clear HB; have HB := n0_; clear n0_; (try clear hb); (try clear hb2); (try clear hk); (try clear hi)) | (go_at_call 22; (with_reducible refine (lockstepref06_Small.calls k _ _ l0 true _ ?side1 ?side2 A5.out).mono ?_); (case side1 => repeat (first | exact (Kd.C_below HR0.out HB.out) | (with_reducible refine Kd.C_alloc ?_ _) | (with_reducible refine Kd.C_drewN ?_ _) | (with_reducible refine Kd.C_drew ?_))); (case side2 => exact HC0.out); rintro e w' ⟨rfl, ⟨nd, rfl⟩⟩; (try first | exact ⟨rfl, _, World.drewN_drewN _ _ _⟩ | exact ⟨rfl, _, Eq.trans (World.drewN_drewN _ _ _) (congrArg (World.drewN _) (Nat.add_assoc _ _ _))⟩)) | (go_at_call 23; (with_reducible refine (graph_Make.calls k _ _ l0 t261 t264 t267 _ ?side1 ?side2 A7.out).mono ?_); (case side1 => repeat (first | exact (Kd.C_below HR0.out (by repeat (first | (with_reducible first | exact HB.out | apply below_alloc | apply pw_below_drewN | apply below_drew1) | exact HB.out))) | (with_reducible refine Kd.C_alloc ?_ _) | (with_reducible refine Kd.C_drewN ?_ _) | (with_reducible refine Kd.C_drew ?_))); (case side2 => exact HC0.out); rintro e w15 ⟨v262, v265, rfl, ho0, ho1, hb⟩; have n0_ := Aside0.mk (Kd.S_lower ho0 (below_size (by repeat (first | (with_reducible first | exact HB.out | apply below_alloc | apply pw_below_drewN | apply below_drew1) | exact HB.out)))); have n1_ := Aside0.mk (Kd.S_lower ho1 (below_size (by repeat (first | (with_reducible first | exact HB.out | apply below_alloc | apply pw_below_drewN | apply below_drew1) | exact HB.out)))); have n2_ := Aside0.mk (below_step (by repeat (first | (with_reducible first | exact HB.out | apply below_alloc | apply pw_below_drewN | apply below_drew1) | exact HB.out)) hb); clear HB; have HO263 := n0_; have HO266 := n1_; have HB := n2_; clear n0_ n1_ n2_; (try clear hb); (try clear hb2); (try clear hk); (try clear hi); (try clear ho0); (try clear ho1)) | ((with_reducible refine gate_dst (N := 5) rfl ?_); (try (refine gate_guard (by rfl) ?_; dsimp only)); refine box_event ?hg (N := 5) ?hd (cs := #[.slice none 0 0, .slice none 0 0]) (t := 45) ?hr ?_; (case hd => rfl); (case hg => rfl); (case hr => first | (go_simp; done) | (go_simp; rfl)); intro gb268 hg w16 hbox hb; have n0_ := Aside0.mk (Kd.S_below (by (with_reducible repeat (first | apply Kd.S_alloc | apply Kd.S_drewN | apply Kd.S_drew)); exact HO263.out) hb); have n1_ := Aside0.mk (Kd.S_below (by (with_reducible repeat (first | apply Kd.S_alloc | apply Kd.S_drewN | apply Kd.S_drew)); exact HO266.out) hb); have n2_ := Aside0.mk (below_step (by repeat (first | (with_reducible first | exact HB.out | apply below_alloc | apply pw_below_drewN | apply below_drew1) | exact HB.out)) hb); have n3_ := Aside0.mk (hbox); have n4_ := Aside0.mk ((by rw [hg]; exact (below_size (by repeat (first | (with_reducible first | exact HB.out | apply below_alloc | apply pw_below_drewN | apply below_drew1) | exact HB.out))) : w.heap.size ≤ gb268)); have n5_ := Aside0.mk ((by rw [hg]; exact (below_size (by repeat (first | (with_reducible first | exact HB.out | apply below_alloc | apply pw_below_drewN | apply below_drew1) | exact HB.out))) : w.heap.size ≤ gb268)); clear HO263; clear HO266; clear HB; have HO263 := n0_; have HO266 := n1_; have HB := n2_; have BK268 := n3_; have GW268 := n4_; have GE268 := n5_; clear n0_ n1_ n2_ n3_ n4_ n5_; clear hb hbox hg; obtain ⟨Ao17, co17, eo17⟩ := Kd.S_slice HO263.out; subst eo17; have hcz18_0 : w16.cell? ⟨gb268, 0, none⟩ = some (.slice none 0 0) := (blk_cell BK268.out 0).trans rfl; have hcz18_1 : w16.cell? ⟨gb268, 1, none⟩ = some (.slice none 0 0) := (blk_cell BK268.out 1).trans rfl; have hfz18_0 := blk_frozen BK268.out 0; have hfz18_1 := blk_frozen BK268.out 1; obtain ⟨Ao19, co19, eo19⟩ := Kd.S_slice HO266.out; subst eo19) | (go_at_call 24; (with_reducible refine (graph_Order.calls k _ _ t261 _ _ t264 (Int.tmod (wrap64 (a1)) (l0.length : Int)) t272 _ ?side1 ?side2 ?side3 ?side4 A10.out).mono ?_); (case side1 => refine (Kd.S_reads' (e := 33) (base := w.heap.size) (ok := fun k_ => some k_ ≠ (.slice Ao19 t264.length co19 : Value).ownBlock) (n := t261.length) (c := co17) ?_).2.2; exact (by (with_reducible repeat (first | apply Kd.S_alloc | apply Kd.S_drewN | apply Kd.S_drew)); exact (Kd.S_mono (Kd.S_far (p := ⟨gb268, 1, none⟩) (Kd.S_far (p := ⟨gb268, 0, none⟩) (Kd.S_types HO263.out BK268.out (by decide)) (fun _ hk => hk.2) (.slice Ao17 t261.length co17)) (fun _ hk => hk.2) (.slice Ao19 t264.length co19)) (fun _ h_ => h_.1)))); (case side2 => exact (Kd.S_reads' HO263.out).2.1); (case side3 => refine (Kd.S_reads' (e := 33) (base := w.heap.size) (ok := fun k_ => some k_ ≠ (.slice Ao17 t261.length co17 : Value).ownBlock) (n := t264.length) (c := co19) ?_).2.2; exact (by (with_reducible repeat (first | apply Kd.S_alloc | apply Kd.S_drewN | apply Kd.S_drew)); exact (Kd.S_mono (Kd.S_far (p := ⟨gb268, 1, none⟩) (Kd.S_far (p := ⟨gb268, 0, none⟩) (Kd.S_types HO266.out BK268.out (by decide)) (fun _ hk => hk.2) (.slice Ao17 t261.length co17)) (fun _ hk => hk.2) (.slice Ao19 t264.length co19)) (fun _ h_ => h_.1)))); (case side4 => exact (Kd.S_reads' HO266.out).2.1); rintro e w20 ⟨v273, rfl, ho0, hb⟩; have n0_ := Aside0.mk (Kd.S_elder' (by (with_reducible repeat (first | apply Kd.S_alloc | apply Kd.S_drewN | apply Kd.S_drew)); exact (Kd.S_mono (Kd.S_far (p := ⟨gb268, 1, none⟩) (Kd.S_far (p := ⟨gb268, 0, none⟩) (Kd.S_types HO263.out BK268.out (by decide)) (fun _ hk => hk.2) (.slice Ao17 t261.length co17)) (fun _ hk => hk.2) (.slice Ao19 t264.length co19)) (fun _ h_ => h_.1))) (Kd.R_base ho0) hb); have n1_ := Aside0.mk (Kd.S_elder' (by (with_reducible repeat (first | apply Kd.S_alloc | apply Kd.S_drewN | apply Kd.S_drew)); exact (Kd.S_mono (Kd.S_far (p := ⟨gb268, 1, none⟩) (Kd.S_far (p := ⟨gb268, 0, none⟩) (Kd.S_types HO266.out BK268.out (by decide)) (fun _ hk => hk.2) (.slice Ao17 t261.length co17)) (fun _ hk => hk.2) (.slice Ao19 t264.length co19)) (fun _ h_ => h_.1))) (Kd.R_base ho0) hb); have n2_ := Aside0.mk (Kd.R_lower ho0 (below_size (by repeat (first | (with_reducible first | exact HB.out | apply below_alloc | apply pw_below_drewN | apply below_drew1 | refine below_set ?_ GE268.out) | exact HB.out)))); have n3_ := Aside0.mk (blk_below (g := gb268) (o := .cells #[.slice Ao17 t261.length co17, .slice Ao19 t264.length co19] 45 (0, 0)) (by (with_reducible repeat (first | refine blk_drewN ?_ _ | refine blk_drew ?_ | refine blk_alloc ?_ _)); refine blk_put (cs := #[.slice Ao17 t261.length co17, .slice none 0 0]) ?_ 1 _ rfl; (with_reducible repeat (first | refine blk_drewN ?_ _ | refine blk_drew ?_ | refine blk_alloc ?_ _)); refine blk_put (cs := #[.slice none 0 0, .slice none 0 0]) ?_ 0 _ rfl; (with_reducible repeat (first | refine blk_drewN ?_ _ | refine blk_drew ?_ | refine blk_alloc ?_ _)); exact BK268.out) hb); have n4_ := Aside0.mk (below_step (by repeat (first | (with_reducible first | exact HB.out | apply below_alloc | apply pw_below_drewN | apply below_drew1 | refine below_set ?_ GE268.out) | exact HB.out)) hb); clear HO263; clear HO266; clear BK268; clear HB; have HO263 := n0_; have HO266 := n1_; have HO274 := n2_; have BK268 := n3_; have HB := n4_; clear n0_ n1_ n2_ n3_ n4_; (try clear hb); (try clear hb2); (try clear hk); (try clear hi); (try clear ho0); have hcz21_0 : w20.cell? ⟨gb268, 0, none⟩ = some (.slice Ao17 t261.length co17) := (blk_cell BK268.out 0).trans rfl; have hcz21_1 : w20.cell? ⟨gb268, 1, none⟩ = some (.slice Ao19 t264.length co19) := (blk_cell BK268.out 1).trans rfl; have hfz21_0 := blk_frozen BK268.out 0; have hfz21_1 := blk_frozen BK268.out 1) | (go_at_call 25; (with_reducible refine (lockstepref06_Reach.calls k _ _ t261 _ _ t264 (Int.tmod (wrap64 (a1)) (l0.length : Int)) (-1) t275 _ ?side1 ?side2 ?side3 ?side4 A11.out).mono ?_); (case side1 => repeat (first | exact (Kd.S_reads' HO263.out).2.2 | (with_reducible refine Kd.C_alloc ?_ _) | (with_reducible refine Kd.C_drewN ?_ _) | (with_reducible refine Kd.C_drew ?_))); (case side2 => exact (Kd.S_reads' HO263.out).2.1); (case side3 => repeat (first | exact (Kd.S_reads' HO266.out).2.2 | (with_reducible refine Kd.C_alloc ?_ _) | (with_reducible refine Kd.C_drewN ?_ _) | (with_reducible refine Kd.C_drew ?_))); (case side4 => exact (Kd.S_reads' HO266.out).2.1); rintro e w22 ⟨v276, rfl, ho0, hb⟩; have n0_ := Aside0.mk (Kd.S_below (by (with_reducible repeat (first | apply Kd.S_alloc | apply Kd.S_drewN | apply Kd.S_drew)); exact HO263.out) hb); have n1_ := Aside0.mk (Kd.S_below (by (with_reducible repeat (first | apply Kd.S_alloc | apply Kd.S_drewN | apply Kd.S_drew)); exact HO266.out) hb); have n2_ := Aside0.mk (Kd.R_below (by (with_reducible repeat (first | apply Kd.R_alloc | apply Kd.R_drewN | apply Kd.R_drew)); exact HO274.out) hb); have n3_ := Aside0.mk (Kd.R_lower ho0 (below_size (by repeat (first | (with_reducible first | exact HB.out | apply below_alloc | apply pw_below_drewN | apply below_drew1 | refine below_set ?_ GE268.out) | exact HB.out)))); have n4_ := Aside0.mk (blk_below (g := gb268) (o := .cells #[.slice Ao17 t261.length co17, .slice Ao19 t264.length co19] 45 (0, 0)) (by (with_reducible repeat (first | refine blk_drewN ?_ _ | refine blk_drew ?_ | refine blk_alloc ?_ _)); exact BK268.out) hb); have n5_ := Aside0.mk (below_step (by repeat (first | (with_reducible first | exact HB.out | apply below_alloc | apply pw_below_drewN | apply below_drew1 | refine below_set ?_ GE268.out) | exact HB.out)) hb); clear HO263; clear HO266; clear HO274; clear BK268; clear HB; have HO263 := n0_; have HO266 := n1_; have HO274 := n2_; have HO277 := n3_; have BK268 := n4_; have HB := n5_; clear n0_ n1_ n2_ n3_ n4_ n5_; (try clear hb); (try clear hb2); (try clear hk); (try clear hi); (try clear ho0)) | ((with_reducible refine gate_dst (N := 46) rfl ?_); (try (refine gate_guard (by rfl) ?_; dsimp only)); refine Kd.R_make (Kd.int .i64) _ 3 rfl (N := 46) rfl 33 _ _ rfl (l0.length : Int) rfl rfl Try.underlying33 (.int .i64 0) 8 info3 rfl (by decide) (by omega) 0 (ok := fun _ => True) (okp := fun _ => True) rfl (fun _ hk => hk) trivial (of_decide_eq_true (by first | (with_reducible assumption) | assumption)) (Nat.le_trans (Nat.mul_le_mul_right _ (of_decide_eq_true (by first | (with_reducible assumption) | assumption) : (l0.length : Int).toNat ≤ 35184372088832)) (by omega)) (Below.refl _ _) (Nat.le_refl _) ?_; intro v279 w23 ho24 hb hg_ hnew_; clear hg_ hnew_; (first | rw [← Ny278.out] at ho24 | (simp only [Int.reduceToNat] at ho24; rw [← Ny278.out] at ho24)); have n0_ := Aside0.mk (Kd.S_elder' (by (with_reducible repeat (first | apply Kd.S_alloc | apply Kd.S_drewN | apply Kd.S_drew)); exact HO263.out) (Kd.R_base ho24) hb); have n1_ := Aside0.mk (Kd.S_elder' (by (with_reducible repeat (first | apply Kd.S_alloc | apply Kd.S_drewN | apply Kd.S_drew)); exact HO266.out) (Kd.R_base ho24) hb); have n2_ := Aside0.mk (Kd.R_elder' (by (with_reducible repeat (first | apply Kd.R_alloc | apply Kd.R_drewN | apply Kd.R_drew)); exact HO274.out) (Kd.R_base ho24) hb); have n3_ := Aside0.mk (Kd.R_below (by (with_reducible repeat (first | apply Kd.R_alloc | apply Kd.R_drewN | apply Kd.R_drew)); exact HO277.out) hb); have n4_ := Aside0.mk (Kd.R_lower (Kd.R_new' ho24 (Kd.R_lt (by (with_reducible repeat (first | apply Kd.R_alloc | apply Kd.R_drewN | apply Kd.R_drew)); exact HO274.out))) (below_size (by repeat (first | (with_reducible first | exact HB.out | apply below_alloc | apply pw_below_drewN | apply below_drew1 | refine below_set ?_ GE268.out) | exact HB.out)))); have n5_ := Aside0.mk (blk_below (g := gb268) (o := .cells #[.slice Ao17 t261.length co17, .slice Ao19 t264.length co19] 45 (0, 0)) (by (with_reducible repeat (first | refine blk_drewN ?_ _ | refine blk_drew ?_ | refine blk_alloc ?_ _)); exact BK268.out) hb); have n6_ := Aside0.mk (below_step (by repeat (first | (with_reducible first | exact HB.out | apply below_alloc | apply pw_below_drewN | apply below_drew1 | refine below_set ?_ GE268.out) | exact HB.out)) hb); clear HO263; clear HO266; clear HO274; clear HO277; clear BK268; clear HB; have HO263 := n0_; have HO266 := n1_; have HO274 := n2_; have HO277 := n3_; have HO280 := n4_; have BK268 := n5_; have HB := n6_; clear n0_ n1_ n2_ n3_ n4_ n5_ n6_; clear hb ho24)))
              go_loopg [11] k (fun kq v11 w' => ∃ (x10_1 : List Int) (x11_1 : Int), v11 = .int .i64 x11_1 ∧ Aside0 (locksteplaw06_GraphReaches.l0 kq l0 (Int.tmod (wrap64 (a1)) (l0.length : Int)) t272 t275 x10_1 x11_1 = some true) ∧ Aside0 (kq ≤ k) ∧ Aside0 (Kd.R (Kd.int .i64) 3 w' w.heap.size (fun k_ => some k_ ≠ (v279 : Value).ownBlock) v273 t272) ∧ Aside0 (Kd.R Kd.bool 4 w' w.heap.size (fun _ => True) v276 t275) ∧ Aside0 (Kd.R (Kd.int .i64) 3 w' w.heap.size (fun k_ => some k_ ≠ (v273 : Value).ownBlock) v279 x10_1) ∧ Aside0 (Kd.S (Kd.slice 3 (Kd.int .i64)) 33 w' w.heap.size (fun k_ => some k_ ≠ (v273 : Value).ownBlock ∧ some k_ ≠ (v279 : Value).ownBlock ∧ some k_ ≠ ((.slice Ao19 t264.length co19) : Value).ownBlock) (.slice Ao17 t261.length co17) t261) ∧ Aside0 (Kd.S (Kd.slice 3 (Kd.int .i64)) 33 w' w.heap.size (fun k_ => some k_ ≠ (v273 : Value).ownBlock ∧ some k_ ≠ (v279 : Value).ownBlock ∧ some k_ ≠ ((.slice Ao17 t261.length co17) : Value).ownBlock) (.slice Ao19 t264.length co19) t264) ∧ Aside0 (w'.heap[gb268]? = some (.cells #[(.slice Ao17 t261.length co17), (.slice Ao19 t264.length co19)] 45 (0, 0))) ∧ Aside0 (Below w.heap.size w w'))
              case atStart => exact ⟨(y278), (0), (by first | rfl | exact congrArg (fun b => Ending.returned (Value.bool b)) HR_.out | (simp; done) | (simp [*]; done)), H', ⟨Nat.le_refl _⟩, ⟨by (with_reducible repeat (first | apply Kd.R_alloc | apply Kd.R_drewN | apply Kd.R_drew)); exact Kd.R_mono HO274.out (fun _ hk => by first | exact hk.2 | exact hk | exact ⟨hk.1, hk.2⟩ | simp_all)⟩, ⟨by (with_reducible repeat (first | apply Kd.R_alloc | apply Kd.R_drewN | apply Kd.R_drew)); first | exact HO277.out | exact Kd.R_mono HO277.out (fun _ hk e_ => hk (e_.trans own_len))⟩, ⟨by (with_reducible repeat (first | apply Kd.R_alloc | apply Kd.R_drewN | apply Kd.R_drew)); exact Kd.R_mono HO280.out (fun _ hk => by first | exact hk.2 | exact hk | exact ⟨hk.1, hk.2⟩ | simp_all)⟩, ⟨by (with_reducible repeat (first | apply Kd.S_alloc | apply Kd.S_drewN | apply Kd.S_drew)); exact Kd.S_mono HO263.out (fun _ hk => ⟨hk.1.2, ⟨hk.2, hk.1.1⟩⟩)⟩, ⟨by (with_reducible repeat (first | apply Kd.S_alloc | apply Kd.S_drewN | apply Kd.S_drew)); exact Kd.S_mono HO266.out (fun _ hk => ⟨hk.1.2, ⟨hk.2, hk.1.1⟩⟩)⟩, ⟨by (with_reducible repeat (first | refine blk_drewN ?_ _ | refine blk_drew ?_ | refine blk_alloc ?_ _)); exact BK268.out⟩, ⟨by repeat (first | (with_reducible first | exact HB.out | apply below_alloc | apply pw_below_drewN | apply below_drew1 | refine below_set ?_ GE268.out) | exact HB.out)⟩⟩
              case round =>
                clear H'
                try clear c1
                try clear p2
                try clear c4
                try clear c6
                try clear p6
                try clear c8
                try clear c8b0
                try clear c8b1
                try clear c9
                try clear c9b0
                try clear c9b1
                try clear c9b2
                try clear c12
                try clear c12b0
                try clear c12b1
                try clear c13
                try clear c13b0
                try clear c13b1
                try clear hcz18_0
                try clear hcz18_1
                try clear hcz21_0
                try clear hcz21_1
                try clear hfz18_0
                try clear hfz18_1
                try clear hfz21_0
                try clear hfz21_1
                obtain ⟨x10_1, x11_1, rfl, HA, HK1, HO_8, HO_9, HO_10, HO_269000, HO_269001, BK268, HB⟩ := hrel
                cases gk with
                | zero => exact absurd HA.out (by simp [locksteplaw06_GraphReaches.l0])
                | succ k1 =>
                  have H := HA.out
                  clear HA
                  simp only [locksteplaw06_GraphReaches.l0] at H
                  by_cases c25 : x11_1 < (t272.length : Int)
                  · rw [if_pos c25] at H
                    have c25b0 : decide (x11_1 < (t272.length : Int)) = true := decide_eq_true c25
                    clear c25
                    by_cases c26 : 0 ≤ x11_1
                    · rw [if_pos c26] at H
                      have c26b0 : decide (0 ≤ x11_1) = true := decide_eq_true c26
                      clear c26
                      by_cases c27 : (rd t272 x11_1) < 0
                      · rw [if_pos c27] at H
                        have c27b0 : decide ((rd t272 x11_1) < 0) = true := decide_eq_true c27
                        clear c27
                        exact absurd H (by simp)
                      · rw [if_neg c27] at H
                        have c27b0 : decide ((rd t272 x11_1) < 0) = false := decide_eq_false c27
                        clear c27
                        by_cases c28 : (rd t272 x11_1) ≥ (l0.length : Int)
                        · rw [if_pos c28] at H
                          have c28b0 : decide ((l0.length : Int) ≤ (rd t272 x11_1)) = true := decide_eq_true c28
                          clear c28
                          exact absurd H (by simp)
                        · rw [if_neg c28] at H
                          have c28b0 : decide ((l0.length : Int) ≤ (rd t272 x11_1)) = false := decide_eq_false c28
                          clear c28
                          by_cases c29 : 0 ≤ (rd t272 x11_1)
                          · rw [if_pos c29] at H
                            have c29b0 : decide (0 ≤ (rd t272 x11_1)) = true := decide_eq_true c29
                            clear c29
                            by_cases c30 : (rd t272 x11_1) < (x10_1.length : Int)
                            · rw [if_pos c30] at H
                              have c30b0 : decide ((rd t272 x11_1) < (x10_1.length : Int)) = true := decide_eq_true c30
                              clear c30
                              by_cases c31 : (rd x10_1 (rd t272 x11_1)) = 0
                              · rw [if_pos c31] at H
                                have c31b0 : ((rd x10_1 (rd t272 x11_1)) == 0) = true := beq_iff_eq.mpr c31
                                have c31b1 : ((rd x10_1 (rd t272 x11_1)) != 0) = false := bne_eq_false_iff_eq.mpr c31
                                clear c31
                                by_cases c32 : (rd t272 x11_1) < (t275.length : Int)
                                · rw [if_pos c32] at H
                                  have c32b0 : decide ((rd t272 x11_1) < (t275.length : Int)) = true := decide_eq_true c32
                                  clear c32
                                  obtain ⟨bq33, hbq33⟩ : ∃ b_ : Bool, b_ = (rdOf false t275 (rd t272 x11_1)) := ⟨_, rfl⟩
                                  replace H : (if (bq33 = true) then (locksteplaw06_GraphReaches.l0 k1 l0 (Int.tmod (wrap64 (a1)) (l0.length : Int)) t272 t275 (x10_1.set ((rd t272 x11_1) : Int).toNat (wrap64 (x11_1 + 1))) (wrap64 (x11_1 + 1))) else (some false)) = some true := by rw [← hbq33] at H; exact H
                                  have Nbq33 := Aside0.mk hbq33
                                  clear hbq33
                                  by_cases c34 : (bq33 = true)
                                  · subst c34
                                    have H1 : (locksteplaw06_GraphReaches.l0 k1 l0 (Int.tmod (wrap64 (a1)) (l0.length : Int)) t272 t275 (x10_1.set ((rd t272 x11_1) : Int).toNat (wrap64 (x11_1 + 1))) (wrap64 (x11_1 + 1))) = some true := by rw [if_pos rfl] at H; exact H
                                    clear H
                                    have H := H1
                                    clear H1
                                    obtain ⟨y288, hy288⟩ : ∃ y_ : List Int, y_ = (x10_1.set ((rd t272 x11_1) : Int).toNat (wrap64 (x11_1 + 1))) := ⟨_, rfl⟩
                                    replace H : (locksteplaw06_GraphReaches.l0 k1 l0 (Int.tmod (wrap64 (a1)) (l0.length : Int)) t272 t275 y288 (wrap64 (x11_1 + 1))) = some true := by first | (rw [hy288]; with_reducible exact H) | (have H2_ := (Option.bind_some _ _).symm.trans H; rw [hy288]; with_reducible exact H2_) | (have H2_ := (Option.bind_some _ _).symm.trans H; with_reducible exact H2_) | with_reducible exact H | (rw [hy288]; exact H) | exact H
                                    have Ny288 := Aside0.mk hy288
                                    clear hy288
                                    have H' := Aside0.mk H
                                    clear H
                                    obtain ⟨Ao36, co36, eo36⟩ := Kd.R_slice HO_8.out
                                    subst eo36
                                    have p281 : 0 ≤ (x11_1 : Int) := of_decide_eq_true (by first | (with_reducible assumption) | assumption)
                                    have q281 : x11_1 < (t272.length : Int) := of_decide_eq_true (by first | (with_reducible assumption) | assumption)
                                    obtain ⟨ad281, e281, hx281_0⟩ := Kd.at_int (Kd.R_reads' HO_8.out).2.2 x11_1 p281 q281
                                    cases e281
                                    replace p281 := eq_true p281
                                    replace q281 := eq_true q281
                                    have p282 : 0 ≤ (x11_1 : Int) := of_decide_eq_true (by first | (with_reducible assumption) | assumption)
                                    have q282 : x11_1 < (t272.length : Int) := of_decide_eq_true (by first | (with_reducible assumption) | assumption)
                                    obtain ⟨ad282, e282, hx282_0⟩ := Kd.at_int (Kd.R_reads' HO_8.out).2.2 x11_1 p282 q282
                                    obtain rfl : ad281 = ad282 := (by injection e282)
                                    replace p282 := eq_true p282
                                    replace q282 := eq_true q282
                                    have p283 : 0 ≤ (x11_1 : Int) := of_decide_eq_true (by first | (with_reducible assumption) | assumption)
                                    have q283 : x11_1 < (t272.length : Int) := of_decide_eq_true (by first | (with_reducible assumption) | assumption)
                                    obtain ⟨ad283, e283, hx283_0⟩ := Kd.at_int (Kd.R_reads' HO_8.out).2.2 x11_1 p283 q283
                                    obtain rfl : ad281 = ad283 := (by injection e283)
                                    replace p283 := eq_true p283
                                    replace q283 := eq_true q283
                                    obtain ⟨Ao37, co37, eo37⟩ := Kd.R_slice HO_10.out
                                    subst eo37
                                    have p284 : 0 ≤ ((rd t272 x11_1) : Int) := of_decide_eq_true (by first | (with_reducible assumption) | assumption)
                                    have q284 : (rd t272 x11_1) < (x10_1.length : Int) := of_decide_eq_true (by first | (with_reducible assumption) | assumption)
                                    obtain ⟨ad284, e284, hx284_0⟩ := Kd.at_int (Kd.R_reads' HO_10.out).2.2 (rd t272 x11_1) p284 q284
                                    cases e284
                                    replace p284 := eq_true p284
                                    replace q284 := eq_true q284
                                    have p285 : 0 ≤ (x11_1 : Int) := of_decide_eq_true (by first | (with_reducible assumption) | assumption)
                                    have q285 : x11_1 < (t272.length : Int) := of_decide_eq_true (by first | (with_reducible assumption) | assumption)
                                    obtain ⟨ad285, e285, hx285_0⟩ := Kd.at_int (Kd.R_reads' HO_8.out).2.2 x11_1 p285 q285
                                    obtain rfl : ad281 = ad285 := (by injection e285)
                                    replace p285 := eq_true p285
                                    replace q285 := eq_true q285
                                    obtain ⟨Ao38, co38, eo38⟩ := Kd.R_slice HO_9.out
                                    subst eo38
                                    have p286 : 0 ≤ ((rd t272 x11_1) : Int) := of_decide_eq_true (by first | (with_reducible assumption) | assumption)
                                    have q286 : (rd t272 x11_1) < (t275.length : Int) := of_decide_eq_true (by first | (with_reducible assumption) | assumption)
                                    obtain ⟨ad286, e286, hx286_0⟩ := Kd.at_bool (Kd.R_reads' HO_9.out).2.2 (rd t272 x11_1) p286 q286
                                    (try rw [← Nbq33.out] at hx286_0)
                                    cases e286
                                    replace p286 := eq_true p286
                                    replace q286 := eq_true q286
                                    have p287 : 0 ≤ (x11_1 : Int) := of_decide_eq_true (by first | (with_reducible assumption) | assumption)
                                    have q287 : x11_1 < (t272.length : Int) := of_decide_eq_true (by first | (with_reducible assumption) | assumption)
                                    obtain ⟨ad287, e287, hx287_0⟩ := Kd.at_int (Kd.R_reads' HO_8.out).2.2 x11_1 p287 q287
                                    obtain rfl : ad281 = ad287 := (by injection e287)
                                    replace p287 := eq_true p287
                                    replace q287 := eq_true q287
                                    have p35 : 0 ≤ ((rd t272 x11_1) : Int) := of_decide_eq_true (by first | (with_reducible assumption) | assumption)
                                    have q35 : ((rd t272 x11_1) : Int) < ((x10_1.length : Int) : Int) := of_decide_eq_true (by first | (with_reducible assumption) | assumption)
                                    obtain ⟨go35, co35, eo35, gb35, gl35, cl35, HG35⟩ := Kd.R_form HO_10.out (by omega)
                                    (first | cases eo35 | (injection eo35 with ea_ en_ ec_; (first | subst ea_ | (injection ea_ with ea_; subst ea_)); subst ec_; clear en_))
                                    have GB35 := Aside0.mk gb35
                                    have GG35 := Aside0.mk HG35
                                    clear gb35 gl35 HG35
                                    (first | simp only [add_plain] at hx284_0 | skip)
                                    obtain ⟨hx35_0, hf35_0⟩ := Kd.R_celln 0 HO_10.out ((rd t272 x11_1) : Int) p35 q35
                                    replace p35 := eq_true p35
                                    replace q35 := eq_true q35
                                    have HP39 := Kd.R_putg HO_10.out ((rd t272 x11_1) : Int) (wrap64 (x11_1 + 1))
                                    go_wp2_with (first | ((with_reducible refine gate_store (t := 3) (p := 94) rfl ?_); (try (rw [drewN_self wr]; generalize hq_ : World.drewN wr _ = wr; have n0_ := Aside0.mk (Kd.R_at hq_ HO_8.out); have n1_ := Aside0.mk (Kd.R_at hq_ HO_9.out); have n2_ := Aside0.mk (Kd.R_at hq_ HO_10.out); have n3_ := Aside0.mk (Kd.S_at hq_ HO_269000.out); have n4_ := Aside0.mk (Kd.S_at hq_ HO_269001.out); have n5_ := Aside0.mk (blk_at hq_ BK268.out); have n6_ := Aside0.mk (below_at hq_ HB.out); clear hq_ HO_8 HO_9 HO_10 HO_269000 HO_269001 BK268 HB; have HO_8 := n0_; have HO_9 := n1_; have HO_10 := n2_; have HO_269000 := n3_; have HO_269001 := n4_; have BK268 := n5_; have HB := n6_; clear n0_ n1_ n2_ n3_ n4_ n5_ n6_; (try (obtain ⟨hcx_, hcf_⟩ := Kd.R_celln 0 HO_10.out ((rd t272 x11_1) : Int) (of_decide_eq_true (by first | (with_reducible assumption) | assumption)) (by first | exact of_decide_eq_true (by first | (with_reducible assumption) | assumption) | (have z_ : ((rd t272 x11_1) : Int) < ((x10_1.length : Int) : Int) := of_decide_eq_true (by first | (with_reducible assumption) | assumption); exact z_)))); (try (have HP39 := Kd.R_putg HO_10.out ((rd t272 x11_1) : Int) (wrap64 (x11_1 + 1)))))); refine store_event (t := 3) (p := 94) (v := ?vo_w40) (w1 := (wr.setCell ⟨go35, ((rd t272 x11_1) : Int).toNat, none⟩ (.int .i64 (wrap64 (x11_1 + 1))))) ?hg ?ho ?hn ?hr ?_; (case ho => rfl); (case hg => rfl); (case hn => rfl); (case hr => first | (go_simp; done) | (go_simp; rfl)); intro w40 hw; have hg : wr.grownBy w40 (some go35) := (by rw [hw]; exact HP39.2); have hp_ : Kd.R (Kd.int .i64) 3 w40 w.heap.size (fun k_ => some k_ ≠ (.slice (some ad281) t272.length co36 : Value).ownBlock) (.slice (some ⟨go35, 0, none⟩) x10_1.length co37) y288 := (by rw [hw, Ny288.out]; exact HP39.1); clear HP39; have n0_ := Aside0.mk (Kd.R_after (v := (.slice (some ⟨go35, 0, none⟩) x10_1.length co37)) (v1 := (.slice (some ⟨go35, 0, none⟩) x10_1.length co37)) (ok := (fun _ => True)) (by (with_reducible repeat (first | apply Kd.R_alloc | apply Kd.R_drewN | apply Kd.R_drew)); exact Kd.R_mono HO_8.out (fun _ hk => by first | exact ⟨trivial, hk⟩ | exact hk | exact ⟨hk.1, hk.2⟩ | simp_all)) hg (.inl rfl)); have n1_ := Aside0.mk (Kd.R_over' (v := (.slice (some ⟨go35, 0, none⟩) x10_1.length co37)) (by (with_reducible repeat (first | apply Kd.R_alloc | apply Kd.R_drewN | apply Kd.R_drew)); exact HO_9.out) (Kd.R_typed HO_10.out) (by decide) hg); have n2_ := Aside0.mk (hp_); have n3_ := Aside0.mk (Kd.S_after (v := (.slice (some ⟨go35, 0, none⟩) x10_1.length co37)) (v1 := (.slice (some ⟨go35, 0, none⟩) x10_1.length co37)) (ok := (fun k_ => some k_ ≠ (.slice (some ad281) t272.length co36 : Value).ownBlock ∧ some k_ ≠ (.slice Ao19 t264.length co19 : Value).ownBlock)) (by (with_reducible repeat (first | apply Kd.S_alloc | apply Kd.S_drewN | apply Kd.S_drew)); exact Kd.S_mono HO_269000.out (fun _ hk => ⟨⟨hk.1, hk.2.2⟩, hk.2.1⟩)) hg (.inl rfl)); have n4_ := Aside0.mk (Kd.S_after (v := (.slice (some ⟨go35, 0, none⟩) x10_1.length co37)) (v1 := (.slice (some ⟨go35, 0, none⟩) x10_1.length co37)) (ok := (fun k_ => some k_ ≠ (.slice (some ad281) t272.length co36 : Value).ownBlock ∧ some k_ ≠ (.slice Ao17 t261.length co17 : Value).ownBlock)) (by (with_reducible repeat (first | apply Kd.S_alloc | apply Kd.S_drewN | apply Kd.S_drew)); exact Kd.S_mono HO_269001.out (fun _ hk => ⟨⟨hk.1, hk.2.2⟩, hk.2.1⟩)) hg (.inl rfl)); have n5_ := Aside0.mk (blk_grown (g := gb268) (o := .cells #[.slice Ao17 t261.length co17, .slice Ao19 t264.length co19] 45 (0, 0)) (by (with_reducible repeat (first | refine blk_drewN ?_ _ | refine blk_drew ?_ | refine blk_alloc ?_ _)); exact BK268.out) hg (Kd.R_ne HO_10.out BK268.out (by decide))); have n6_ := Aside0.mk ((by rw [hw]; exact below_set (HB.out) GB35.out : Below w.heap.size w w40)); clear HO_8; clear HO_9; clear HO_10; clear HO_269000; clear HO_269001; clear BK268; clear HB; have HO_8 := n0_; have HO_9 := n1_; have HO_10 := n2_; have HO_269000 := n3_; have HO_269001 := n4_; have BK268 := n5_; have HB := n6_; clear n0_ n1_ n2_ n3_ n4_ n5_ n6_; clear hg hw hp_))
                                    repeat (go_quiet (first | ((with_reducible refine gate_store (t := 3) (p := 94) rfl ?_); (try (rw [drewN_self wr]; generalize hq_ : World.drewN wr _ = wr; have n0_ := Aside0.mk (Kd.R_at hq_ HO_8.out); have n1_ := Aside0.mk (Kd.R_at hq_ HO_9.out); have n2_ := Aside0.mk (Kd.R_at hq_ HO_10.out); have n3_ := Aside0.mk (Kd.S_at hq_ HO_269000.out); have n4_ := Aside0.mk (Kd.S_at hq_ HO_269001.out); have n5_ := Aside0.mk (blk_at hq_ BK268.out); have n6_ := Aside0.mk (below_at hq_ HB.out); clear hq_ HO_8 HO_9 HO_10 HO_269000 HO_269001 BK268 HB; have HO_8 := n0_; have HO_9 := n1_; have HO_10 := n2_; have HO_269000 := n3_; have HO_269001 := n4_; have BK268 := n5_; have HB := n6_; clear n0_ n1_ n2_ n3_ n4_ n5_ n6_; (try (obtain ⟨hcx_, hcf_⟩ := Kd.R_celln 0 HO_10.out ((rd t272 x11_1) : Int) (of_decide_eq_true (by first | (with_reducible assumption) | assumption)) (by first | exact of_decide_eq_true (by first | (with_reducible assumption) | assumption) | (have z_ : ((rd t272 x11_1) : Int) < ((x10_1.length : Int) : Int) := of_decide_eq_true (by first | (with_reducible assumption) | assumption); exact z_)))); (try (have HP39 := Kd.R_putg HO_10.out ((rd t272 x11_1) : Int) (wrap64 (x11_1 + 1)))))); refine store_event (t := 3) (p := 94) (v := ?vo_w40) (w1 := (wr.setCell ⟨go35, ((rd t272 x11_1) : Int).toNat, none⟩ (.int .i64 (wrap64 (x11_1 + 1))))) ?hg ?ho ?hn ?hr ?_; (case ho => rfl); (case hg => rfl); (case hn => rfl); (case hr => first | (go_simp; done) | (go_simp; rfl)); intro w40 hw; have hg : wr.grownBy w40 (some go35) := (by rw [hw]; exact HP39.2); have hp_ : Kd.R (Kd.int .i64) 3 w40 w.heap.size (fun k_ => some k_ ≠ (.slice (some ad281) t272.length co36 : Value).ownBlock) (.slice (some ⟨go35, 0, none⟩) x10_1.length co37) y288 := (by rw [hw, Ny288.out]; exact HP39.1); clear HP39; have n0_ := Aside0.mk (Kd.R_after (v := (.slice (some ⟨go35, 0, none⟩) x10_1.length co37)) (v1 := (.slice (some ⟨go35, 0, none⟩) x10_1.length co37)) (ok := (fun _ => True)) (by (with_reducible repeat (first | apply Kd.R_alloc | apply Kd.R_drewN | apply Kd.R_drew)); exact Kd.R_mono HO_8.out (fun _ hk => by first | exact ⟨trivial, hk⟩ | exact hk | exact ⟨hk.1, hk.2⟩ | simp_all)) hg (.inl rfl)); have n1_ := Aside0.mk (Kd.R_over' (v := (.slice (some ⟨go35, 0, none⟩) x10_1.length co37)) (by (with_reducible repeat (first | apply Kd.R_alloc | apply Kd.R_drewN | apply Kd.R_drew)); exact HO_9.out) (Kd.R_typed HO_10.out) (by decide) hg); have n2_ := Aside0.mk (hp_); have n3_ := Aside0.mk (Kd.S_after (v := (.slice (some ⟨go35, 0, none⟩) x10_1.length co37)) (v1 := (.slice (some ⟨go35, 0, none⟩) x10_1.length co37)) (ok := (fun k_ => some k_ ≠ (.slice (some ad281) t272.length co36 : Value).ownBlock ∧ some k_ ≠ (.slice Ao19 t264.length co19 : Value).ownBlock)) (by (with_reducible repeat (first | apply Kd.S_alloc | apply Kd.S_drewN | apply Kd.S_drew)); exact Kd.S_mono HO_269000.out (fun _ hk => ⟨⟨hk.1, hk.2.2⟩, hk.2.1⟩)) hg (.inl rfl)); have n4_ := Aside0.mk (Kd.S_after (v := (.slice (some ⟨go35, 0, none⟩) x10_1.length co37)) (v1 := (.slice (some ⟨go35, 0, none⟩) x10_1.length co37)) (ok := (fun k_ => some k_ ≠ (.slice (some ad281) t272.length co36 : Value).ownBlock ∧ some k_ ≠ (.slice Ao17 t261.length co17 : Value).ownBlock)) (by (with_reducible repeat (first | apply Kd.S_alloc | apply Kd.S_drewN | apply Kd.S_drew)); exact Kd.S_mono HO_269001.out (fun _ hk => ⟨⟨hk.1, hk.2.2⟩, hk.2.1⟩)) hg (.inl rfl)); have n5_ := Aside0.mk (blk_grown (g := gb268) (o := .cells #[.slice Ao17 t261.length co17, .slice Ao19 t264.length co19] 45 (0, 0)) (by (with_reducible repeat (first | refine blk_drewN ?_ _ | refine blk_drew ?_ | refine blk_alloc ?_ _)); exact BK268.out) hg (Kd.R_ne HO_10.out BK268.out (by decide))); have n6_ := Aside0.mk ((by rw [hw]; exact below_set (HB.out) GB35.out : Below w.heap.size w w40)); clear HO_8; clear HO_9; clear HO_10; clear HO_269000; clear HO_269001; clear BK268; clear HB; have HO_8 := n0_; have HO_9 := n1_; have HO_10 := n2_; have HO_269000 := n3_; have HO_269001 := n4_; have BK268 := n5_; have HB := n6_; clear n0_ n1_ n2_ n3_ n4_ n5_ n6_; clear hg hw hp_)); try go_wp2_with (first | ((with_reducible refine gate_store (t := 3) (p := 94) rfl ?_); (try (rw [drewN_self wr]; generalize hq_ : World.drewN wr _ = wr; have n0_ := Aside0.mk (Kd.R_at hq_ HO_8.out); have n1_ := Aside0.mk (Kd.R_at hq_ HO_9.out); have n2_ := Aside0.mk (Kd.R_at hq_ HO_10.out); have n3_ := Aside0.mk (Kd.S_at hq_ HO_269000.out); have n4_ := Aside0.mk (Kd.S_at hq_ HO_269001.out); have n5_ := Aside0.mk (blk_at hq_ BK268.out); have n6_ := Aside0.mk (below_at hq_ HB.out); clear hq_ HO_8 HO_9 HO_10 HO_269000 HO_269001 BK268 HB; have HO_8 := n0_; have HO_9 := n1_; have HO_10 := n2_; have HO_269000 := n3_; have HO_269001 := n4_; have BK268 := n5_; have HB := n6_; clear n0_ n1_ n2_ n3_ n4_ n5_ n6_; (try (obtain ⟨hcx_, hcf_⟩ := Kd.R_celln 0 HO_10.out ((rd t272 x11_1) : Int) (of_decide_eq_true (by first | (with_reducible assumption) | assumption)) (by first | exact of_decide_eq_true (by first | (with_reducible assumption) | assumption) | (have z_ : ((rd t272 x11_1) : Int) < ((x10_1.length : Int) : Int) := of_decide_eq_true (by first | (with_reducible assumption) | assumption); exact z_)))); (try (have HP39 := Kd.R_putg HO_10.out ((rd t272 x11_1) : Int) (wrap64 (x11_1 + 1)))))); refine store_event (t := 3) (p := 94) (v := ?vo_w40) (w1 := (wr.setCell ⟨go35, ((rd t272 x11_1) : Int).toNat, none⟩ (.int .i64 (wrap64 (x11_1 + 1))))) ?hg ?ho ?hn ?hr ?_; (case ho => rfl); (case hg => rfl); (case hn => rfl); (case hr => first | (go_simp; done) | (go_simp; rfl)); intro w40 hw; have hg : wr.grownBy w40 (some go35) := (by rw [hw]; exact HP39.2); have hp_ : Kd.R (Kd.int .i64) 3 w40 w.heap.size (fun k_ => some k_ ≠ (.slice (some ad281) t272.length co36 : Value).ownBlock) (.slice (some ⟨go35, 0, none⟩) x10_1.length co37) y288 := (by rw [hw, Ny288.out]; exact HP39.1); clear HP39; have n0_ := Aside0.mk (Kd.R_after (v := (.slice (some ⟨go35, 0, none⟩) x10_1.length co37)) (v1 := (.slice (some ⟨go35, 0, none⟩) x10_1.length co37)) (ok := (fun _ => True)) (by (with_reducible repeat (first | apply Kd.R_alloc | apply Kd.R_drewN | apply Kd.R_drew)); exact Kd.R_mono HO_8.out (fun _ hk => by first | exact ⟨trivial, hk⟩ | exact hk | exact ⟨hk.1, hk.2⟩ | simp_all)) hg (.inl rfl)); have n1_ := Aside0.mk (Kd.R_over' (v := (.slice (some ⟨go35, 0, none⟩) x10_1.length co37)) (by (with_reducible repeat (first | apply Kd.R_alloc | apply Kd.R_drewN | apply Kd.R_drew)); exact HO_9.out) (Kd.R_typed HO_10.out) (by decide) hg); have n2_ := Aside0.mk (hp_); have n3_ := Aside0.mk (Kd.S_after (v := (.slice (some ⟨go35, 0, none⟩) x10_1.length co37)) (v1 := (.slice (some ⟨go35, 0, none⟩) x10_1.length co37)) (ok := (fun k_ => some k_ ≠ (.slice (some ad281) t272.length co36 : Value).ownBlock ∧ some k_ ≠ (.slice Ao19 t264.length co19 : Value).ownBlock)) (by (with_reducible repeat (first | apply Kd.S_alloc | apply Kd.S_drewN | apply Kd.S_drew)); exact Kd.S_mono HO_269000.out (fun _ hk => ⟨⟨hk.1, hk.2.2⟩, hk.2.1⟩)) hg (.inl rfl)); have n4_ := Aside0.mk (Kd.S_after (v := (.slice (some ⟨go35, 0, none⟩) x10_1.length co37)) (v1 := (.slice (some ⟨go35, 0, none⟩) x10_1.length co37)) (ok := (fun k_ => some k_ ≠ (.slice (some ad281) t272.length co36 : Value).ownBlock ∧ some k_ ≠ (.slice Ao17 t261.length co17 : Value).ownBlock)) (by (with_reducible repeat (first | apply Kd.S_alloc | apply Kd.S_drewN | apply Kd.S_drew)); exact Kd.S_mono HO_269001.out (fun _ hk => ⟨⟨hk.1, hk.2.2⟩, hk.2.1⟩)) hg (.inl rfl)); have n5_ := Aside0.mk (blk_grown (g := gb268) (o := .cells #[.slice Ao17 t261.length co17, .slice Ao19 t264.length co19] 45 (0, 0)) (by (with_reducible repeat (first | refine blk_drewN ?_ _ | refine blk_drew ?_ | refine blk_alloc ?_ _)); exact BK268.out) hg (Kd.R_ne HO_10.out BK268.out (by decide))); have n6_ := Aside0.mk ((by rw [hw]; exact below_set (HB.out) GB35.out : Below w.heap.size w w40)); clear HO_8; clear HO_9; clear HO_10; clear HO_269000; clear HO_269001; clear BK268; clear HB; have HO_8 := n0_; have HO_9 := n1_; have HO_10 := n2_; have HO_269000 := n3_; have HO_269001 := n4_; have BK268 := n5_; have HB := n6_; clear n0_ n1_ n2_ n3_ n4_ n5_ n6_; clear hg hw hp_)))
                                    go_roundg k1
                                    case measure => have := HK1.out; omega
                                    case rel => exact ⟨(y288), (wrap64 (x11_1 + 1)), (by first | rfl | exact congrArg (fun b => Ending.returned (Value.bool b)) HR_.out | (simp; done) | (simp [*]; done)), H', ⟨by have := HK1.out; omega⟩, ⟨by (with_reducible repeat (first | apply Kd.R_alloc | apply Kd.R_drewN | apply Kd.R_drew)); exact Kd.R_mono HO_8.out (fun _ hk => by first | exact hk.2 | exact hk | exact ⟨hk.1, hk.2⟩ | simp_all)⟩, ⟨by (with_reducible repeat (first | apply Kd.R_alloc | apply Kd.R_drewN | apply Kd.R_drew)); first | exact HO_9.out | exact Kd.R_mono HO_9.out (fun _ hk e_ => hk (e_.trans own_len))⟩, ⟨by (with_reducible repeat (first | apply Kd.R_alloc | apply Kd.R_drewN | apply Kd.R_drew)); first | exact HO_10.out | exact Kd.R_mono HO_10.out (fun _ hk e_ => hk (e_.trans own_len))⟩, ⟨by (with_reducible repeat (first | apply Kd.S_alloc | apply Kd.S_drewN | apply Kd.S_drew)); exact Kd.S_mono HO_269000.out (fun _ hk => ⟨hk.1.1, ⟨hk.2, hk.1.2⟩⟩)⟩, ⟨by (with_reducible repeat (first | apply Kd.S_alloc | apply Kd.S_drewN | apply Kd.S_drew)); exact Kd.S_mono HO_269001.out (fun _ hk => ⟨hk.1.1, ⟨hk.2, hk.1.2⟩⟩)⟩, ⟨by (with_reducible repeat (first | refine blk_drewN ?_ _ | refine blk_drew ?_ | refine blk_alloc ?_ _)); exact BK268.out⟩, ⟨by repeat (first | (with_reducible first | exact HB.out | apply below_alloc | apply pw_below_drewN | apply below_drew1 | refine below_set ?_ GE268.out) | exact HB.out)⟩⟩
                                  · replace c34 := Bool.eq_false_iff.mpr c34
                                    subst c34
                                    have H1 : (some false) = some true := by rw [if_neg (show ¬ (false = true) by decide)] at H; exact H
                                    clear H
                                    have H := H1
                                    clear H1
                                    exact absurd H (by simp)
                                · rw [if_neg c32] at H
                                  exact absurd H (by simp)
                              · rw [if_neg c31] at H
                                have c31b0 : ((rd x10_1 (rd t272 x11_1)) == 0) = false := beq_eq_false_iff_ne.mpr c31
                                have c31b1 : ((rd x10_1 (rd t272 x11_1)) != 0) = true := bne_iff_ne.mpr c31
                                exact absurd H (by simp)
                            · rw [if_neg c30] at H
                              exact absurd H (by simp)
                          · rw [if_neg c29] at H
                            exact absurd H (by simp)
                    · rw [if_neg c26] at H
                      exact absurd H (by simp)
                  · rw [if_neg c25] at H
                    have c25b0 : decide (x11_1 < (t272.length : Int)) = false := decide_eq_false c25
                    clear c25
                    have H' := Aside0.mk H
                    clear H
                    obtain ⟨Ao41, co41, eo41⟩ := Kd.R_slice HO_8.out
                    subst eo41
                    go_wp2
                    repeat (go_quiet (fail); try go_wp2)
                    go_loopg [12, 13] k1 (fun kq v12 v13 w' => ∃ (x12_2 : Bool) (x13_2 : Int), v12 = .bool x12_2 ∧ v13 = .int .i64 x13_2 ∧ Aside0 (locksteplaw06_GraphReaches.l1 kq l0 (Int.tmod (wrap64 (a1)) (l0.length : Int)) t272 t275 x10_1 x12_2 x13_2 = some true) ∧ Aside0 (kq ≤ k1) ∧ Aside0 (Kd.R (Kd.int .i64) 3 w' w.heap.size (fun k_ => some k_ ≠ (v279 : Value).ownBlock) (.slice Ao41 t272.length co41) t272) ∧ Aside0 (Kd.R Kd.bool 4 w' w.heap.size (fun _ => True) v276 t275) ∧ Aside0 (Kd.R (Kd.int .i64) 3 w' w.heap.size (fun k_ => some k_ ≠ ((.slice Ao41 t272.length co41) : Value).ownBlock) v279 x10_1) ∧ Aside0 (Kd.S (Kd.slice 3 (Kd.int .i64)) 33 w' w.heap.size (fun k_ => some k_ ≠ ((.slice Ao41 t272.length co41) : Value).ownBlock ∧ some k_ ≠ (v279 : Value).ownBlock ∧ some k_ ≠ ((.slice Ao19 t264.length co19) : Value).ownBlock) (.slice Ao17 t261.length co17) t261) ∧ Aside0 (Kd.S (Kd.slice 3 (Kd.int .i64)) 33 w' w.heap.size (fun k_ => some k_ ≠ ((.slice Ao41 t272.length co41) : Value).ownBlock ∧ some k_ ≠ (v279 : Value).ownBlock ∧ some k_ ≠ ((.slice Ao17 t261.length co17) : Value).ownBlock) (.slice Ao19 t264.length co19) t264) ∧ Aside0 (w'.heap[gb268]? = some (.cells #[(.slice Ao17 t261.length co17), (.slice Ao19 t264.length co19)] 45 (0, 0))) ∧ Aside0 (Below w.heap.size w w'))
                    case atStart => exact ⟨(true), (0), (by first | rfl | exact congrArg (fun b => Ending.returned (Value.bool b)) HR_.out | (simp; done) | (simp [*]; done)), (by first | rfl | exact congrArg (fun b => Ending.returned (Value.bool b)) HR_.out | (simp; done) | (simp [*]; done)), H', ⟨Nat.le_refl _⟩, ⟨by (with_reducible repeat (first | apply Kd.R_alloc | apply Kd.R_drewN | apply Kd.R_drew)); first | exact HO_8.out | exact Kd.R_mono HO_8.out (fun _ hk e_ => hk (e_.trans own_len))⟩, ⟨by (with_reducible repeat (first | apply Kd.R_alloc | apply Kd.R_drewN | apply Kd.R_drew)); first | exact HO_9.out | exact Kd.R_mono HO_9.out (fun _ hk e_ => hk (e_.trans own_len))⟩, ⟨by (with_reducible repeat (first | apply Kd.R_alloc | apply Kd.R_drewN | apply Kd.R_drew)); first | exact HO_10.out | exact Kd.R_mono HO_10.out (fun _ hk e_ => hk (e_.trans own_len))⟩, ⟨by (with_reducible repeat (first | apply Kd.S_alloc | apply Kd.S_drewN | apply Kd.S_drew)); first | exact HO_269000.out | exact Kd.R_mono HO_269000.out (fun _ hk e_ => hk (e_.trans own_len))⟩, ⟨by (with_reducible repeat (first | apply Kd.S_alloc | apply Kd.S_drewN | apply Kd.S_drew)); first | exact HO_269001.out | exact Kd.R_mono HO_269001.out (fun _ hk e_ => hk (e_.trans own_len))⟩, ⟨by (with_reducible repeat (first | refine blk_drewN ?_ _ | refine blk_drew ?_ | refine blk_alloc ?_ _)); exact BK268.out⟩, ⟨by repeat (first | (with_reducible first | exact HB.out | apply below_alloc | apply pw_below_drewN | apply below_drew1 | refine below_set ?_ GE268.out) | exact HB.out)⟩⟩
                    case round =>
                      clear H'
                      try clear c1
                      try clear c2
                      try clear p2
                      try clear q2
                      try clear hx2
                      try clear c3
                      try clear p3
                      try clear q3
                      try clear hx3
                      try clear hf3
                      try clear c4
                      try clear c6
                      try clear p6
                      try clear c8
                      try clear c8b0
                      try clear c8b1
                      try clear c9
                      try clear c9b0
                      try clear c9b1
                      try clear c9b2
                      try clear c12
                      try clear c12b0
                      try clear c12b1
                      try clear c13
                      try clear c13b0
                      try clear c13b1
                      try clear c25
                      try clear c25b0
                      try clear c26
                      try clear c26b0
                      try clear c27
                      try clear c27b0
                      try clear c28
                      try clear c28b0
                      try clear p28
                      try clear q28
                      try clear hx28
                      try clear c29
                      try clear c29b0
                      try clear c30
                      try clear c30b0
                      try clear c31
                      try clear c31b0
                      try clear c31b1
                      try clear c32
                      try clear c32b0
                      try clear q33
                      try clear c34
                      try clear p35
                      try clear q35
                      try clear hx35
                      try clear hf35
                      try clear hcz18_0
                      try clear hcz18_1
                      try clear hcz21_0
                      try clear hcz21_1
                      try clear hfz18_0
                      try clear hfz18_1
                      try clear hfz21_0
                      try clear hfz21_1
                      try clear hx281_0
                      try clear hx282_0
                      try clear hx283_0
                      try clear hx284_0
                      try clear hx285_0
                      try clear hx286_0
                      try clear hx287_0
                      try clear hx35_0
                      try clear p2
                      try clear p281
                      try clear p282
                      try clear p283
                      try clear p284
                      try clear p285
                      try clear p286
                      try clear p287
                      try clear p35
                      try clear p6
                      try clear q281
                      try clear q282
                      try clear q283
                      try clear q284
                      try clear q285
                      try clear q286
                      try clear q287
                      try clear q35
                      obtain ⟨x12_2, x13_2, rfl, rfl, HA, HK2, HO_8, HO_9, HO_10, HO_269000, HO_269001, BK268, HB⟩ := hrel
                      cases gk with
                      | zero => exact absurd HA.out (by simp [locksteplaw06_GraphReaches.l1])
                      | succ k2 =>
                        have H := HA.out
                        clear HA
                        simp only [locksteplaw06_GraphReaches.l1] at H
                        by_cases c42 : x13_2 < (l0.length : Int)
                        · rw [if_pos c42] at H
                          have c42b0 : decide (x13_2 < (l0.length : Int)) = true := decide_eq_true c42
                          clear c42
                          by_cases c43 : 0 ≤ x13_2
                          · rw [if_pos c43] at H
                            have c43b0 : decide (0 ≤ x13_2) = true := decide_eq_true c43
                            clear c43
                            by_cases c44 : x13_2 < (t275.length : Int)
                            · rw [if_pos c44] at H
                              have c44b0 : decide (x13_2 < (t275.length : Int)) = true := decide_eq_true c44
                              clear c44
                              by_cases c45 : x13_2 < (x10_1.length : Int)
                              · rw [if_pos c45] at H
                                have c45b0 : decide (x13_2 < (x10_1.length : Int)) = true := decide_eq_true c45
                                clear c45
                                by_cases c46 : ((rdOf false t275 x13_2) != (decide ((rd x10_1 x13_2) > 0))) = true
                                · rw [if_pos c46] at H
                                  have c46b0 : ((rdOf false t275 x13_2) != (decide ((rd x10_1 x13_2) > 0))) = true := c46
                                  (try (have c46b1 : decide ((rdOf false t275 x13_2) = (decide ((rd x10_1 x13_2) > 0))) = false := by simpa using c46))
                                  (try (have c46b2 : ((rdOf false t275 x13_2) == (decide ((rd x10_1 x13_2) > 0))) = false := by simpa using c46))
                                  (try (have c46b3 : ¬ ((rdOf false t275 x13_2) = (decide ((rd x10_1 x13_2) > 0))) := by simpa using c46))
                                  clear c46
                                  exact absurd H (by simp)
                                · rw [if_neg c46] at H
                                  have c46b0 : ((rdOf false t275 x13_2) != (decide ((rd x10_1 x13_2) > 0))) = false := by simpa using c46
                                  (try (have c46b1 : decide ((rdOf false t275 x13_2) = (decide ((rd x10_1 x13_2) > 0))) = true := by simpa using c46))
                                  (try (have c46b2 : ((rdOf false t275 x13_2) == (decide ((rd x10_1 x13_2) > 0))) = true := by simpa using c46))
                                  clear c46
                                  have H' := Aside0.mk H
                                  clear H
                                  obtain ⟨Ao47, co47, eo47⟩ := Kd.R_slice HO_9.out
                                  subst eo47
                                  have p289 : 0 ≤ (x13_2 : Int) := of_decide_eq_true (by first | (with_reducible assumption) | assumption)
                                  have q289 : x13_2 < (t275.length : Int) := of_decide_eq_true (by first | (with_reducible assumption) | assumption)
                                  obtain ⟨ad289, e289, hx289_0⟩ := Kd.at_bool (Kd.R_reads' HO_9.out).2.2 x13_2 p289 q289
                                  cases e289
                                  replace p289 := eq_true p289
                                  replace q289 := eq_true q289
                                  obtain ⟨Ao48, co48, eo48⟩ := Kd.R_slice HO_10.out
                                  subst eo48
                                  have p290 : 0 ≤ (x13_2 : Int) := of_decide_eq_true (by first | (with_reducible assumption) | assumption)
                                  have q290 : x13_2 < (x10_1.length : Int) := of_decide_eq_true (by first | (with_reducible assumption) | assumption)
                                  obtain ⟨ad290, e290, hx290_0⟩ := Kd.at_int (Kd.R_reads' HO_10.out).2.2 x13_2 p290 q290
                                  cases e290
                                  replace p290 := eq_true p290
                                  replace q290 := eq_true q290
                                  go_wp2
                                  repeat (go_quiet (fail); try go_wp2)
                                  go_loopg [12, 14] k2 (fun kq v12 v14 w' => ∃ (x12_3 : Bool) (x14_3 : Int), v12 = .bool x12_3 ∧ v14 = .int .i64 x14_3 ∧ Aside0 (locksteplaw06_GraphReaches.l2 kq l0 (Int.tmod (wrap64 (a1)) (l0.length : Int)) t272 t275 x10_1 x12_3 x13_2 x14_3 = some true) ∧ Aside0 (kq ≤ k2) ∧ Aside0 (Kd.R (Kd.int .i64) 3 w' w.heap.size (fun k_ => some k_ ≠ ((.slice (some ad290) x10_1.length co48) : Value).ownBlock) (.slice Ao41 t272.length co41) t272) ∧ Aside0 (Kd.R Kd.bool 4 w' w.heap.size (fun _ => True) (.slice (some ad289) t275.length co47) t275) ∧ Aside0 (Kd.R (Kd.int .i64) 3 w' w.heap.size (fun k_ => some k_ ≠ ((.slice Ao41 t272.length co41) : Value).ownBlock) (.slice (some ad290) x10_1.length co48) x10_1) ∧ Aside0 (Kd.S (Kd.slice 3 (Kd.int .i64)) 33 w' w.heap.size (fun k_ => some k_ ≠ ((.slice Ao41 t272.length co41) : Value).ownBlock ∧ some k_ ≠ ((.slice (some ad290) x10_1.length co48) : Value).ownBlock ∧ some k_ ≠ ((.slice Ao19 t264.length co19) : Value).ownBlock) (.slice Ao17 t261.length co17) t261) ∧ Aside0 (Kd.S (Kd.slice 3 (Kd.int .i64)) 33 w' w.heap.size (fun k_ => some k_ ≠ ((.slice Ao41 t272.length co41) : Value).ownBlock ∧ some k_ ≠ ((.slice (some ad290) x10_1.length co48) : Value).ownBlock ∧ some k_ ≠ ((.slice Ao17 t261.length co17) : Value).ownBlock) (.slice Ao19 t264.length co19) t264) ∧ Aside0 (w'.heap[gb268]? = some (.cells #[(.slice Ao17 t261.length co17), (.slice Ao19 t264.length co19)] 45 (0, 0))) ∧ Aside0 (Below w.heap.size w w'))
                                  case atStart => exact ⟨(x12_2), (0), (by first | rfl | exact congrArg (fun b => Ending.returned (Value.bool b)) HR_.out | (simp; done) | (simp [*]; done)), (by first | rfl | exact congrArg (fun b => Ending.returned (Value.bool b)) HR_.out | (simp; done) | (simp [*]; done)), H', ⟨Nat.le_refl _⟩, ⟨by (with_reducible repeat (first | apply Kd.R_alloc | apply Kd.R_drewN | apply Kd.R_drew)); first | exact HO_8.out | exact Kd.R_mono HO_8.out (fun _ hk e_ => hk (e_.trans own_len))⟩, ⟨by (with_reducible repeat (first | apply Kd.R_alloc | apply Kd.R_drewN | apply Kd.R_drew)); first | exact HO_9.out | exact Kd.R_mono HO_9.out (fun _ hk e_ => hk (e_.trans own_len))⟩, ⟨by (with_reducible repeat (first | apply Kd.R_alloc | apply Kd.R_drewN | apply Kd.R_drew)); first | exact HO_10.out | exact Kd.R_mono HO_10.out (fun _ hk e_ => hk (e_.trans own_len))⟩, ⟨by (with_reducible repeat (first | apply Kd.S_alloc | apply Kd.S_drewN | apply Kd.S_drew)); first | exact HO_269000.out | exact Kd.R_mono HO_269000.out (fun _ hk e_ => hk (e_.trans own_len))⟩, ⟨by (with_reducible repeat (first | apply Kd.S_alloc | apply Kd.S_drewN | apply Kd.S_drew)); first | exact HO_269001.out | exact Kd.R_mono HO_269001.out (fun _ hk e_ => hk (e_.trans own_len))⟩, ⟨by (with_reducible repeat (first | refine blk_drewN ?_ _ | refine blk_drew ?_ | refine blk_alloc ?_ _)); exact BK268.out⟩, ⟨by repeat (first | (with_reducible first | exact HB.out | apply below_alloc | apply pw_below_drewN | apply below_drew1 | refine below_set ?_ GE268.out) | exact HB.out)⟩⟩
                                  case round =>
                                    clear H'
                                    try clear c1
                                    try clear c2
                                    try clear p2
                                    try clear q2
                                    try clear hx2
                                    try clear c3
                                    try clear p3
                                    try clear q3
                                    try clear hx3
                                    try clear hf3
                                    try clear c4
                                    try clear c6
                                    try clear p6
                                    try clear c8
                                    try clear c8b0
                                    try clear c8b1
                                    try clear c9
                                    try clear c9b0
                                    try clear c9b1
                                    try clear c9b2
                                    try clear c12
                                    try clear c12b0
                                    try clear c12b1
                                    try clear c13
                                    try clear c13b0
                                    try clear c13b1
                                    try clear c25
                                    try clear c25b0
                                    try clear c26
                                    try clear c26b0
                                    try clear c27
                                    try clear c27b0
                                    try clear c28
                                    try clear c28b0
                                    try clear p28
                                    try clear q28
                                    try clear hx28
                                    try clear c29
                                    try clear c29b0
                                    try clear p29
                                    try clear q29
                                    try clear hx29
                                    try clear c30
                                    try clear c30b0
                                    try clear c31
                                    try clear c31b0
                                    try clear c31b1
                                    try clear c32
                                    try clear c32b0
                                    try clear q33
                                    try clear c34
                                    try clear p35
                                    try clear q35
                                    try clear hx35
                                    try clear hf35
                                    try clear c42
                                    try clear c42b0
                                    try clear c43
                                    try clear c43b0
                                    try clear c44
                                    try clear c44b0
                                    try clear c45
                                    try clear c45b0
                                    try clear c46
                                    try clear c46b0
                                    try clear c46b1
                                    try clear c46b2
                                    try clear hcz18_0
                                    try clear hcz18_1
                                    try clear hcz21_0
                                    try clear hcz21_1
                                    try clear hfz18_0
                                    try clear hfz18_1
                                    try clear hfz21_0
                                    try clear hfz21_1
                                    try clear hx281_0
                                    try clear hx282_0
                                    try clear hx283_0
                                    try clear hx284_0
                                    try clear hx285_0
                                    try clear hx286_0
                                    try clear hx287_0
                                    try clear hx289_0
                                    try clear hx290_0
                                    try clear hx35_0
                                    try clear p2
                                    try clear p28
                                    try clear p281
                                    try clear p282
                                    try clear p283
                                    try clear p284
                                    try clear p285
                                    try clear p286
                                    try clear p287
                                    try clear p289
                                    try clear p290
                                    try clear p3
                                    try clear p35
                                    try clear p6
                                    try clear q2
                                    try clear q28
                                    try clear q281
                                    try clear q282
                                    try clear q283
                                    try clear q284
                                    try clear q285
                                    try clear q286
                                    try clear q287
                                    try clear q289
                                    try clear q290
                                    try clear q3
                                    try clear q33
                                    try clear q35
                                    obtain ⟨x12_3, x14_3, rfl, rfl, HA, HK3, HO_8, HO_9, HO_10, HO_269000, HO_269001, BK268, HB⟩ := hrel
                                    cases gk with
                                    | zero => exact absurd HA.out (by simp [locksteplaw06_GraphReaches.l2])
                                    | succ k3 =>
                                      have H := HA.out
                                      clear HA
                                      simp only [locksteplaw06_GraphReaches.l2] at H
                                      by_cases c49 : 0 ≤ x13_2
                                      · rw [if_pos c49] at H
                                        have c49b0 : decide (0 ≤ x13_2) = true := decide_eq_true c49
                                        clear c49
                                        by_cases c50 : x13_2 < (l0.length : Int)
                                        · rw [if_pos c50] at H
                                          have c50b0 : decide (x13_2 < (l0.length : Int)) = true := decide_eq_true c50
                                          clear c50
                                          by_cases c51 : x14_3 < ((rd_L1 l0 x13_2).length : Int)
                                          · rw [if_pos c51] at H
                                            have c51b0 : decide (x14_3 < ((rd_L1 l0 x13_2).length : Int)) = true := decide_eq_true c51
                                            clear c51
                                            by_cases c52 : x12_3 = true
                                            · subst c52
                                              have H1 : (if 0 ≤ x14_3 then (locksteplaw06_GraphReaches.l2 k3 l0 (Int.tmod (wrap64 (a1)) (l0.length : Int)) t272 t275 x10_1 (decide ((rd (rd_L1 l0 x13_2) x14_3) > x13_2)) x13_2 (wrap64 (x14_3 + 1))) else (none)) = some true := by rw [if_pos rfl] at H; exact H
                                              clear H
                                              have H := H1
                                              clear H1
                                              by_cases c53 : 0 ≤ x14_3
                                              · rw [if_pos c53] at H
                                                have c53b0 : decide (0 ≤ x14_3) = true := decide_eq_true c53
                                                clear c53
                                                have H' := Aside0.mk H
                                                clear H
                                                have p291 : 0 ≤ (x13_2 : Int) := of_decide_eq_true (by first | (with_reducible assumption) | assumption)
                                                have q291 : x13_2 < (l0.length : Int) := of_decide_eq_true (by first | (with_reducible assumption) | assumption)
                                                obtain ⟨ad291, A291_0, c291_0, e291, hx291_0, hl291_0, hi291_0⟩ := at_L1 HR0.out x13_2 p291 q291
                                                cases e291
                                                replace hx291_0 := (HB.out.cell (World.block_lt_of_cell? w _ hx291_0)).trans hx291_0
                                                have HR291_0 := Aside0.mk hi291_0
                                                have HC291_0 := Aside0.mk hl291_0
                                                clear hi291_0 hl291_0
                                                replace p291 := eq_true p291
                                                replace q291 := eq_true q291
                                                have p292 : 0 ≤ (x13_2 : Int) := of_decide_eq_true (by first | (with_reducible assumption) | assumption)
                                                have q292 : x13_2 < (l0.length : Int) := of_decide_eq_true (by first | (with_reducible assumption) | assumption)
                                                obtain ⟨ad292, A292_0, c292_0, e292, hx292_0, hl292_0, hi292_0⟩ := at_L1 HR0.out x13_2 p292 q292
                                                obtain rfl : ad291 = ad292 := (by injection e292)
                                                replace hx292_0 := (HB.out.cell (World.block_lt_of_cell? w _ hx292_0)).trans hx292_0
                                                have HR292_0 := Aside0.mk hi292_0
                                                have HC292_0 := Aside0.mk hl292_0
                                                clear hi292_0 hl292_0
                                                replace p292 := eq_true p292
                                                replace q292 := eq_true q292
                                                have ea_ := Option.some.inj (hx291_0.symm.trans hx292_0)
                                                injection ea_ with ea_ en_ ec_
                                                subst ea_
                                                subst ec_
                                                clear en_
                                                have p293 : 0 ≤ (x14_3 : Int) := of_decide_eq_true (by first | (with_reducible assumption) | assumption)
                                                have q293 : x14_3 < ((rd_L1 l0 x13_2).length : Int) := of_decide_eq_true (by first | (with_reducible assumption) | assumption)
                                                obtain ⟨ad293, e293, hx293_0⟩ := Kd.at_int HR292_0.out x14_3 p293 q293
                                                cases e293
                                                replace hx293_0 := (HB.out.cell (World.block_lt_of_cell? w _ hx293_0)).trans hx293_0
                                                replace p293 := eq_true p293
                                                replace q293 := eq_true q293
                                                go_wp2
                                                repeat (go_quiet (fail); try go_wp2)
                                                go_roundg k3
                                                case measure => have := HK1.out; have := HK2.out; have := HK3.out; omega
                                                case rel => exact ⟨(decide ((rd (rd_L1 l0 x13_2) x14_3) > x13_2)), (wrap64 (x14_3 + 1)), (by first | rfl | exact congrArg (fun b => Ending.returned (Value.bool b)) HR_.out | (simp; done) | (simp [*]; done)), (by first | rfl | exact congrArg (fun b => Ending.returned (Value.bool b)) HR_.out | (simp; done) | (simp [*]; done)), H', ⟨by have := HK1.out; have := HK2.out; have := HK3.out; omega⟩, ⟨by (with_reducible repeat (first | apply Kd.R_alloc | apply Kd.R_drewN | apply Kd.R_drew)); first | exact HO_8.out | exact Kd.R_mono HO_8.out (fun _ hk e_ => hk (e_.trans own_len))⟩, ⟨by (with_reducible repeat (first | apply Kd.R_alloc | apply Kd.R_drewN | apply Kd.R_drew)); first | exact HO_9.out | exact Kd.R_mono HO_9.out (fun _ hk e_ => hk (e_.trans own_len))⟩, ⟨by (with_reducible repeat (first | apply Kd.R_alloc | apply Kd.R_drewN | apply Kd.R_drew)); first | exact HO_10.out | exact Kd.R_mono HO_10.out (fun _ hk e_ => hk (e_.trans own_len))⟩, ⟨by (with_reducible repeat (first | apply Kd.S_alloc | apply Kd.S_drewN | apply Kd.S_drew)); first | exact HO_269000.out | exact Kd.R_mono HO_269000.out (fun _ hk e_ => hk (e_.trans own_len))⟩, ⟨by (with_reducible repeat (first | apply Kd.S_alloc | apply Kd.S_drewN | apply Kd.S_drew)); first | exact HO_269001.out | exact Kd.R_mono HO_269001.out (fun _ hk e_ => hk (e_.trans own_len))⟩, ⟨by (with_reducible repeat (first | refine blk_drewN ?_ _ | refine blk_drew ?_ | refine blk_alloc ?_ _)); exact BK268.out⟩, ⟨by repeat (first | (with_reducible first | exact HB.out | apply below_alloc | apply pw_below_drewN | apply below_drew1 | refine below_set ?_ GE268.out) | exact HB.out)⟩⟩
                                              · rw [if_neg c53] at H
                                                exact absurd H (by simp)
                                            · replace c52 := Bool.eq_false_iff.mpr c52
                                              subst c52
                                              have H1 : (locksteplaw06_GraphReaches.l2 k3 l0 (Int.tmod (wrap64 (a1)) (l0.length : Int)) t272 t275 x10_1 false x13_2 (wrap64 (x14_3 + 1))) = some true := by rw [if_neg (show ¬ (false = true) by decide)] at H; exact H
                                              clear H
                                              have H := H1
                                              clear H1
                                              have H' := Aside0.mk H
                                              clear H
                                              have p291 : 0 ≤ (x13_2 : Int) := of_decide_eq_true (by first | (with_reducible assumption) | assumption)
                                              have q291 : x13_2 < (l0.length : Int) := of_decide_eq_true (by first | (with_reducible assumption) | assumption)
                                              obtain ⟨ad291, A291_0, c291_0, e291, hx291_0, hl291_0, hi291_0⟩ := at_L1 HR0.out x13_2 p291 q291
                                              cases e291
                                              replace hx291_0 := (HB.out.cell (World.block_lt_of_cell? w _ hx291_0)).trans hx291_0
                                              have HR291_0 := Aside0.mk hi291_0
                                              have HC291_0 := Aside0.mk hl291_0
                                              clear hi291_0 hl291_0
                                              replace p291 := eq_true p291
                                              replace q291 := eq_true q291
                                              go_wp2
                                              repeat (go_quiet (fail); try go_wp2)
                                              go_roundg k3
                                              case measure => have := HK1.out; have := HK2.out; have := HK3.out; omega
                                              case rel => exact ⟨(false), (wrap64 (x14_3 + 1)), (by first | rfl | exact congrArg (fun b => Ending.returned (Value.bool b)) HR_.out | (simp; done) | (simp [*]; done)), (by first | rfl | exact congrArg (fun b => Ending.returned (Value.bool b)) HR_.out | (simp; done) | (simp [*]; done)), H', ⟨by have := HK1.out; have := HK2.out; have := HK3.out; omega⟩, ⟨by (with_reducible repeat (first | apply Kd.R_alloc | apply Kd.R_drewN | apply Kd.R_drew)); first | exact HO_8.out | exact Kd.R_mono HO_8.out (fun _ hk e_ => hk (e_.trans own_len))⟩, ⟨by (with_reducible repeat (first | apply Kd.R_alloc | apply Kd.R_drewN | apply Kd.R_drew)); first | exact HO_9.out | exact Kd.R_mono HO_9.out (fun _ hk e_ => hk (e_.trans own_len))⟩, ⟨by (with_reducible repeat (first | apply Kd.R_alloc | apply Kd.R_drewN | apply Kd.R_drew)); first | exact HO_10.out | exact Kd.R_mono HO_10.out (fun _ hk e_ => hk (e_.trans own_len))⟩, ⟨by (with_reducible repeat (first | apply Kd.S_alloc | apply Kd.S_drewN | apply Kd.S_drew)); first | exact HO_269000.out | exact Kd.R_mono HO_269000.out (fun _ hk e_ => hk (e_.trans own_len))⟩, ⟨by (with_reducible repeat (first | apply Kd.S_alloc | apply Kd.S_drewN | apply Kd.S_drew)); first | exact HO_269001.out | exact Kd.R_mono HO_269001.out (fun _ hk e_ => hk (e_.trans own_len))⟩, ⟨by (with_reducible repeat (first | refine blk_drewN ?_ _ | refine blk_drew ?_ | refine blk_alloc ?_ _)); exact BK268.out⟩, ⟨by repeat (first | (with_reducible first | exact HB.out | apply below_alloc | apply pw_below_drewN | apply below_drew1 | refine below_set ?_ GE268.out) | exact HB.out)⟩⟩
                                          · rw [if_neg c51] at H
                                            have c51b0 : decide (x14_3 < ((rd_L1 l0 x13_2).length : Int)) = false := decide_eq_false c51
                                            clear c51
                                            have H' := Aside0.mk H
                                            clear H
                                            have p291 : 0 ≤ (x13_2 : Int) := of_decide_eq_true (by first | (with_reducible assumption) | assumption)
                                            have q291 : x13_2 < (l0.length : Int) := of_decide_eq_true (by first | (with_reducible assumption) | assumption)
                                            obtain ⟨ad291, A291_0, c291_0, e291, hx291_0, hl291_0, hi291_0⟩ := at_L1 HR0.out x13_2 p291 q291
                                            cases e291
                                            replace hx291_0 := (HB.out.cell (World.block_lt_of_cell? w _ hx291_0)).trans hx291_0
                                            have HR291_0 := Aside0.mk hi291_0
                                            have HC291_0 := Aside0.mk hl291_0
                                            clear hi291_0 hl291_0
                                            replace p291 := eq_true p291
                                            replace q291 := eq_true q291
                                            go_wp2
                                            repeat (go_quiet (fail); try go_wp2)
                                            go_roundg k3
                                            case measure => have := HK1.out; have := HK2.out; have := HK3.out; omega
                                            case rel => exact ⟨(x12_3), (wrap64 (x13_2 + 1)), (by first | rfl | exact congrArg (fun b => Ending.returned (Value.bool b)) HR_.out | (simp; done) | (simp [*]; done)), (by first | rfl | exact congrArg (fun b => Ending.returned (Value.bool b)) HR_.out | (simp; done) | (simp [*]; done)), H', ⟨by have := HK1.out; have := HK2.out; have := HK3.out; omega⟩, ⟨by (with_reducible repeat (first | apply Kd.R_alloc | apply Kd.R_drewN | apply Kd.R_drew)); first | exact HO_8.out | exact Kd.R_mono HO_8.out (fun _ hk e_ => hk (e_.trans own_len))⟩, ⟨by (with_reducible repeat (first | apply Kd.R_alloc | apply Kd.R_drewN | apply Kd.R_drew)); first | exact HO_9.out | exact Kd.R_mono HO_9.out (fun _ hk e_ => hk (e_.trans own_len))⟩, ⟨by (with_reducible repeat (first | apply Kd.R_alloc | apply Kd.R_drewN | apply Kd.R_drew)); first | exact HO_10.out | exact Kd.R_mono HO_10.out (fun _ hk e_ => hk (e_.trans own_len))⟩, ⟨by (with_reducible repeat (first | apply Kd.S_alloc | apply Kd.S_drewN | apply Kd.S_drew)); first | exact HO_269000.out | exact Kd.R_mono HO_269000.out (fun _ hk e_ => hk (e_.trans own_len))⟩, ⟨by (with_reducible repeat (first | apply Kd.S_alloc | apply Kd.S_drewN | apply Kd.S_drew)); first | exact HO_269001.out | exact Kd.R_mono HO_269001.out (fun _ hk e_ => hk (e_.trans own_len))⟩, ⟨by (with_reducible repeat (first | refine blk_drewN ?_ _ | refine blk_drew ?_ | refine blk_alloc ?_ _)); exact BK268.out⟩, ⟨by repeat (first | (with_reducible first | exact HB.out | apply below_alloc | apply pw_below_drewN | apply below_drew1 | refine below_set ?_ GE268.out) | exact HB.out)⟩⟩
                                        · rw [if_neg c50] at H
                                          exact absurd H (by simp)
                                      · rw [if_neg c49] at H
                                        exact absurd H (by simp)
                              · rw [if_neg c45] at H
                                exact absurd H (by simp)
                            · rw [if_neg c44] at H
                              exact absurd H (by simp)
                          · rw [if_neg c43] at H
                            exact absurd H (by simp)
                        · rw [if_neg c42] at H
                          have c42b0 : decide (x13_2 < (l0.length : Int)) = false := decide_eq_false c42
                          clear c42
                          have H' := Aside0.mk H
                          clear H
                          go_wp2
                          repeat (go_quiet (fail); try go_wp2)
                          go_loopg [15] k2 (fun kq v15 w' => ∃ (x15_3 : Int), v15 = .int .i64 x15_3 ∧ Aside0 (locksteplaw06_GraphReaches.l3 kq l0 (Int.tmod (wrap64 (a1)) (l0.length : Int)) t272 x10_1 x12_2 x15_3 = some true) ∧ Aside0 (kq ≤ k2) ∧ Aside0 (Kd.R (Kd.int .i64) 3 w' w.heap.size (fun k_ => some k_ ≠ (v279 : Value).ownBlock) (.slice Ao41 t272.length co41) t272) ∧ Aside0 (Kd.R (Kd.int .i64) 3 w' w.heap.size (fun k_ => some k_ ≠ ((.slice Ao41 t272.length co41) : Value).ownBlock) v279 x10_1) ∧ Aside0 (Kd.S (Kd.slice 3 (Kd.int .i64)) 33 w' w.heap.size (fun k_ => some k_ ≠ ((.slice Ao41 t272.length co41) : Value).ownBlock ∧ some k_ ≠ (v279 : Value).ownBlock ∧ some k_ ≠ ((.slice Ao19 t264.length co19) : Value).ownBlock) (.slice Ao17 t261.length co17) t261) ∧ Aside0 (Kd.S (Kd.slice 3 (Kd.int .i64)) 33 w' w.heap.size (fun k_ => some k_ ≠ ((.slice Ao41 t272.length co41) : Value).ownBlock ∧ some k_ ≠ (v279 : Value).ownBlock ∧ some k_ ≠ ((.slice Ao17 t261.length co17) : Value).ownBlock) (.slice Ao19 t264.length co19) t264) ∧ Aside0 (w'.heap[gb268]? = some (.cells #[(.slice Ao17 t261.length co17), (.slice Ao19 t264.length co19)] 45 (0, 0))) ∧ Aside0 (Below w.heap.size w w'))
                          case atStart => exact ⟨(0), (by first | rfl | exact congrArg (fun b => Ending.returned (Value.bool b)) HR_.out | (simp; done) | (simp [*]; done)), H', ⟨Nat.le_refl _⟩, ⟨by (with_reducible repeat (first | apply Kd.R_alloc | apply Kd.R_drewN | apply Kd.R_drew)); first | exact HO_8.out | exact Kd.R_mono HO_8.out (fun _ hk e_ => hk (e_.trans own_len))⟩, ⟨by (with_reducible repeat (first | apply Kd.R_alloc | apply Kd.R_drewN | apply Kd.R_drew)); first | exact HO_10.out | exact Kd.R_mono HO_10.out (fun _ hk e_ => hk (e_.trans own_len))⟩, ⟨by (with_reducible repeat (first | apply Kd.S_alloc | apply Kd.S_drewN | apply Kd.S_drew)); first | exact HO_269000.out | exact Kd.R_mono HO_269000.out (fun _ hk e_ => hk (e_.trans own_len))⟩, ⟨by (with_reducible repeat (first | apply Kd.S_alloc | apply Kd.S_drewN | apply Kd.S_drew)); first | exact HO_269001.out | exact Kd.R_mono HO_269001.out (fun _ hk e_ => hk (e_.trans own_len))⟩, ⟨by (with_reducible repeat (first | refine blk_drewN ?_ _ | refine blk_drew ?_ | refine blk_alloc ?_ _)); exact BK268.out⟩, ⟨by repeat (first | (with_reducible first | exact HB.out | apply below_alloc | apply pw_below_drewN | apply below_drew1 | refine below_set ?_ GE268.out) | exact HB.out)⟩⟩
                          case round =>
                            clear H'
                            try clear c1
                            try clear c2
                            try clear p2
                            try clear q2
                            try clear hx2
                            try clear c3
                            try clear p3
                            try clear q3
                            try clear hx3
                            try clear hf3
                            try clear c4
                            try clear c5
                            try clear c6
                            try clear p6
                            try clear c8
                            try clear c8b0
                            try clear c8b1
                            try clear c9
                            try clear c9b0
                            try clear c9b1
                            try clear c9b2
                            try clear c12
                            try clear c12b0
                            try clear c12b1
                            try clear c13
                            try clear c13b0
                            try clear c13b1
                            try clear c25
                            try clear c25b0
                            try clear c26
                            try clear c26b0
                            try clear c27
                            try clear c27b0
                            try clear c28
                            try clear c28b0
                            try clear p28
                            try clear q28
                            try clear hx28
                            try clear c29
                            try clear c29b0
                            try clear p29
                            try clear q29
                            try clear hx29
                            try clear c30
                            try clear c30b0
                            try clear c31
                            try clear c31b0
                            try clear c31b1
                            try clear c32
                            try clear c32b0
                            try clear q33
                            try clear c34
                            try clear p35
                            try clear q35
                            try clear hx35
                            try clear hf35
                            try clear c42
                            try clear c42b0
                            try clear c43
                            try clear c43b0
                            try clear c44
                            try clear c44b0
                            try clear c45
                            try clear c45b0
                            try clear c46
                            try clear c46b0
                            try clear c46b1
                            try clear c46b2
                            try clear c49
                            try clear c49b0
                            try clear c50
                            try clear c50b0
                            try clear c51
                            try clear c51b0
                            try clear c52
                            try clear c53
                            try clear c53b0
                            try clear hcz18_0
                            try clear hcz18_1
                            try clear hcz21_0
                            try clear hcz21_1
                            try clear hfz18_0
                            try clear hfz18_1
                            try clear hfz21_0
                            try clear hfz21_1
                            try clear hx281_0
                            try clear hx282_0
                            try clear hx283_0
                            try clear hx284_0
                            try clear hx285_0
                            try clear hx286_0
                            try clear hx287_0
                            try clear hx289_0
                            try clear hx290_0
                            try clear hx291_0
                            try clear hx292_0
                            try clear hx293_0
                            try clear hx35_0
                            try clear p2
                            try clear p28
                            try clear p281
                            try clear p282
                            try clear p283
                            try clear p284
                            try clear p285
                            try clear p286
                            try clear p287
                            try clear p289
                            try clear p29
                            try clear p290
                            try clear p291
                            try clear p292
                            try clear p293
                            try clear p3
                            try clear p35
                            try clear p6
                            try clear q2
                            try clear q28
                            try clear q281
                            try clear q282
                            try clear q283
                            try clear q284
                            try clear q285
                            try clear q286
                            try clear q287
                            try clear q289
                            try clear q29
                            try clear q290
                            try clear q291
                            try clear q292
                            try clear q293
                            try clear q3
                            try clear q33
                            try clear q35
                            obtain ⟨x15_3, rfl, HA, HK3, HO_8, HO_10, HO_269000, HO_269001, BK268, HB⟩ := hrel
                            cases gk with
                            | zero => exact absurd HA.out (by simp [locksteplaw06_GraphReaches.l3])
                            | succ k3 =>
                              have H := HA.out
                              clear HA
                              simp only [locksteplaw06_GraphReaches.l3] at H
                              have HC54 := Aside0.mk H
                              clear H
                              go_upto_region 29 with (fail)
                              repeat (go_quiet (fail); go_upto_region 29 with (fail))
                              go_cut [138] (fun v138 wc => ∃ (kq : Nat) (x138_53 : Bool), v138 = .bool x138_53 ∧ Aside0 (locksteplaw06_GraphReaches.j4 kq l0 (Int.tmod (wrap64 (a1)) (l0.length : Int)) t272 x10_1 x12_2 x15_3 x138_53 = some true) ∧ Aside0 (kq ≤ k3) ∧ Aside0 (Kd.R (Kd.int .i64) 3 wc w.heap.size (fun k_ => some k_ ≠ (v279 : Value).ownBlock) (.slice Ao41 t272.length co41) t272) ∧ Aside0 (Kd.R (Kd.int .i64) 3 wc w.heap.size (fun k_ => some k_ ≠ ((.slice Ao41 t272.length co41) : Value).ownBlock) v279 x10_1) ∧ Aside0 (Kd.S (Kd.slice 3 (Kd.int .i64)) 33 wc w.heap.size (fun k_ => some k_ ≠ ((.slice Ao41 t272.length co41) : Value).ownBlock ∧ some k_ ≠ (v279 : Value).ownBlock ∧ some k_ ≠ ((.slice Ao19 t264.length co19) : Value).ownBlock) (.slice Ao17 t261.length co17) t261) ∧ Aside0 (Kd.S (Kd.slice 3 (Kd.int .i64)) 33 wc w.heap.size (fun k_ => some k_ ≠ ((.slice Ao41 t272.length co41) : Value).ownBlock ∧ some k_ ≠ (v279 : Value).ownBlock ∧ some k_ ≠ ((.slice Ao17 t261.length co17) : Value).ownBlock) (.slice Ao19 t264.length co19) t264) ∧ Aside0 (wc.heap[gb268]? = some (.cells #[(.slice Ao17 t261.length co17), (.slice Ao19 t264.length co19)] 45 (0, 0))) ∧ Aside0 (Below w.heap.size w wc))
                              case first =>
                                have H := HC54.out
                                clear HC54
                                by_cases c55 : x15_3 < (l0.length : Int)
                                · rw [if_pos c55] at H
                                  have c55b0 : decide (x15_3 < (l0.length : Int)) = true := decide_eq_true c55
                                  clear c55
                                  (first | rw [c55b0] | (simp only [i64_w, i32_w]; rw [c55b0]) | skip)
                                  have H' := Aside0.mk H
                                  clear H
                                  go_wp2
                                  repeat (go_quiet (fail); try go_wp2)
                                  go_meet
                                  case rel => exact ⟨_, (x12_2), (by first | rfl | exact congrArg (fun b => Ending.returned (Value.bool b)) HR_.out | (simp; done) | (simp [*]; done)), H', ⟨by have := HK1.out; have := HK2.out; have := HK3.out; first | omega | exact Nat.le_refl _⟩, ⟨by (with_reducible repeat (first | apply Kd.R_alloc | apply Kd.R_drewN | apply Kd.R_drew)); first | exact HO_8.out | exact Kd.R_mono HO_8.out (fun _ hk e_ => hk (e_.trans own_len))⟩, ⟨by (with_reducible repeat (first | apply Kd.R_alloc | apply Kd.R_drewN | apply Kd.R_drew)); first | exact HO_10.out | exact Kd.R_mono HO_10.out (fun _ hk e_ => hk (e_.trans own_len))⟩, ⟨by (with_reducible repeat (first | apply Kd.S_alloc | apply Kd.S_drewN | apply Kd.S_drew)); first | exact HO_269000.out | exact Kd.R_mono HO_269000.out (fun _ hk e_ => hk (e_.trans own_len))⟩, ⟨by (with_reducible repeat (first | apply Kd.S_alloc | apply Kd.S_drewN | apply Kd.S_drew)); first | exact HO_269001.out | exact Kd.R_mono HO_269001.out (fun _ hk e_ => hk (e_.trans own_len))⟩, ⟨by (with_reducible repeat (first | refine blk_drewN ?_ _ | refine blk_drew ?_ | refine blk_alloc ?_ _)); exact BK268.out⟩, ⟨by repeat (first | (with_reducible first | exact HB.out | apply below_alloc | apply pw_below_drewN | apply below_drew1 | refine below_set ?_ GE268.out) | exact HB.out)⟩⟩
                                · rw [if_neg c55] at H
                                  have c55b0 : decide (x15_3 < (l0.length : Int)) = false := decide_eq_false c55
                                  clear c55
                                  (first | rw [c55b0] | (simp only [i64_w, i32_w]; rw [c55b0]) | skip)
                                  have H' := Aside0.mk H
                                  clear H
                                  go_wp2
                                  repeat (go_quiet (fail); try go_wp2)
                                  go_meet
                                  case rel => exact ⟨_, (false), (by first | rfl | exact congrArg (fun b => Ending.returned (Value.bool b)) HR_.out | (simp; done) | (simp [*]; done)), H', ⟨by have := HK1.out; have := HK2.out; have := HK3.out; first | omega | exact Nat.le_refl _⟩, ⟨by (with_reducible repeat (first | apply Kd.R_alloc | apply Kd.R_drewN | apply Kd.R_drew)); first | exact HO_8.out | exact Kd.R_mono HO_8.out (fun _ hk e_ => hk (e_.trans own_len))⟩, ⟨by (with_reducible repeat (first | apply Kd.R_alloc | apply Kd.R_drewN | apply Kd.R_drew)); first | exact HO_10.out | exact Kd.R_mono HO_10.out (fun _ hk e_ => hk (e_.trans own_len))⟩, ⟨by (with_reducible repeat (first | apply Kd.S_alloc | apply Kd.S_drewN | apply Kd.S_drew)); first | exact HO_269000.out | exact Kd.R_mono HO_269000.out (fun _ hk e_ => hk (e_.trans own_len))⟩, ⟨by (with_reducible repeat (first | apply Kd.S_alloc | apply Kd.S_drewN | apply Kd.S_drew)); first | exact HO_269001.out | exact Kd.R_mono HO_269001.out (fun _ hk e_ => hk (e_.trans own_len))⟩, ⟨by (with_reducible repeat (first | refine blk_drewN ?_ _ | refine blk_drew ?_ | refine blk_alloc ?_ _)); exact BK268.out⟩, ⟨by repeat (first | (with_reducible first | exact HB.out | apply below_alloc | apply pw_below_drewN | apply below_drew1 | refine below_set ?_ GE268.out) | exact HB.out)⟩⟩
                              case rest =>
                                clear HC54
                                try clear c1
                                try clear c2
                                try clear p2
                                try clear q2
                                try clear hx2
                                try clear c3
                                try clear p3
                                try clear q3
                                try clear hx3
                                try clear hf3
                                try clear c4
                                try clear c5
                                try clear c6
                                try clear p6
                                try clear c8
                                try clear c8b0
                                try clear c8b1
                                try clear c9
                                try clear c9b0
                                try clear c9b1
                                try clear c9b2
                                try clear c12
                                try clear c12b0
                                try clear c12b1
                                try clear c13
                                try clear c13b0
                                try clear c13b1
                                try clear c25
                                try clear c25b0
                                try clear c26
                                try clear c26b0
                                try clear c27
                                try clear c27b0
                                try clear c28
                                try clear c28b0
                                try clear p28
                                try clear q28
                                try clear hx28
                                try clear c29
                                try clear c29b0
                                try clear p29
                                try clear q29
                                try clear hx29
                                try clear c30
                                try clear c30b0
                                try clear c31
                                try clear c31b0
                                try clear c31b1
                                try clear c32
                                try clear c32b0
                                try clear q33
                                try clear c34
                                try clear p35
                                try clear q35
                                try clear hx35
                                try clear hf35
                                try clear c42
                                try clear c42b0
                                try clear c43
                                try clear c43b0
                                try clear c44
                                try clear c44b0
                                try clear c45
                                try clear c45b0
                                try clear c46
                                try clear c46b0
                                try clear c46b1
                                try clear c46b2
                                try clear c49
                                try clear c49b0
                                try clear c50
                                try clear c50b0
                                try clear c51
                                try clear c51b0
                                try clear c52
                                try clear c53
                                try clear c53b0
                                try clear c55
                                try clear c55b0
                                try clear hcz18_0
                                try clear hcz18_1
                                try clear hcz21_0
                                try clear hcz21_1
                                try clear hfz18_0
                                try clear hfz18_1
                                try clear hfz21_0
                                try clear hfz21_1
                                try clear hx281_0
                                try clear hx282_0
                                try clear hx283_0
                                try clear hx284_0
                                try clear hx285_0
                                try clear hx286_0
                                try clear hx287_0
                                try clear hx289_0
                                try clear hx290_0
                                try clear hx291_0
                                try clear hx292_0
                                try clear hx293_0
                                try clear hx35_0
                                try clear p2
                                try clear p28
                                try clear p281
                                try clear p282
                                try clear p283
                                try clear p284
                                try clear p285
                                try clear p286
                                try clear p287
                                try clear p289
                                try clear p29
                                try clear p290
                                try clear p291
                                try clear p292
                                try clear p293
                                try clear p3
                                try clear p35
                                try clear p6
                                try clear q2
                                try clear q28
                                try clear q281
                                try clear q282
                                try clear q283
                                try clear q284
                                try clear q285
                                try clear q286
                                try clear q287
                                try clear q289
                                try clear q29
                                try clear q290
                                try clear q291
                                try clear q292
                                try clear q293
                                try clear q3
                                try clear q33
                                try clear q35
                                obtain ⟨kq, x138_53, rfl, HA, HJ53, HO_8, HO_10, HO_269000, HO_269001, BK268, HB⟩ := hcut
                                cases kq with
                                | zero => exact absurd HA.out (by simp [locksteplaw06_GraphReaches.j4])
                                | succ kj53 =>
                                  have H := HA.out
                                  clear HA
                                  simp only [locksteplaw06_GraphReaches.j4] at H
                                  by_cases c56 : x138_53 = true
                                  · subst c56
                                    have H1 : (locksteplaw06_GraphReaches.l4 kj53 l0 (Int.tmod (wrap64 (a1)) (l0.length : Int)) t272 x10_1 x12_2 x15_3 0) = some true := by rw [if_pos rfl] at H; exact H
                                    clear H
                                    have H := H1
                                    clear H1
                                    have H' := Aside0.mk H
                                    clear H
                                    go_wp2
                                    repeat (go_quiet (fail); try go_wp2)
                                    go_loopg [16] kj53 (fun kq v16 w' => ∃ (x16_5 : Int), v16 = .int .i64 x16_5 ∧ Aside0 (locksteplaw06_GraphReaches.l4 kq l0 (Int.tmod (wrap64 (a1)) (l0.length : Int)) t272 x10_1 x12_2 x15_3 x16_5 = some true) ∧ Aside0 (kq ≤ kj53) ∧ Aside0 (Kd.R (Kd.int .i64) 3 w' w.heap.size (fun k_ => some k_ ≠ (v279 : Value).ownBlock) (.slice Ao41 t272.length co41) t272) ∧ Aside0 (Kd.R (Kd.int .i64) 3 w' w.heap.size (fun k_ => some k_ ≠ ((.slice Ao41 t272.length co41) : Value).ownBlock) v279 x10_1) ∧ Aside0 (Kd.S (Kd.slice 3 (Kd.int .i64)) 33 w' w.heap.size (fun k_ => some k_ ≠ ((.slice Ao41 t272.length co41) : Value).ownBlock ∧ some k_ ≠ (v279 : Value).ownBlock ∧ some k_ ≠ ((.slice Ao19 t264.length co19) : Value).ownBlock) (.slice Ao17 t261.length co17) t261) ∧ Aside0 (Kd.S (Kd.slice 3 (Kd.int .i64)) 33 w' w.heap.size (fun k_ => some k_ ≠ ((.slice Ao41 t272.length co41) : Value).ownBlock ∧ some k_ ≠ (v279 : Value).ownBlock ∧ some k_ ≠ ((.slice Ao17 t261.length co17) : Value).ownBlock) (.slice Ao19 t264.length co19) t264) ∧ Aside0 (w'.heap[gb268]? = some (.cells #[(.slice Ao17 t261.length co17), (.slice Ao19 t264.length co19)] 45 (0, 0))) ∧ Aside0 (Below w.heap.size w w'))
                                    case atStart => exact ⟨(0), (by first | rfl | exact congrArg (fun b => Ending.returned (Value.bool b)) HR_.out | (simp; done) | (simp [*]; done)), H', ⟨Nat.le_refl _⟩, ⟨by (with_reducible repeat (first | apply Kd.R_alloc | apply Kd.R_drewN | apply Kd.R_drew)); first | exact HO_8.out | exact Kd.R_mono HO_8.out (fun _ hk e_ => hk (e_.trans own_len))⟩, ⟨by (with_reducible repeat (first | apply Kd.R_alloc | apply Kd.R_drewN | apply Kd.R_drew)); first | exact HO_10.out | exact Kd.R_mono HO_10.out (fun _ hk e_ => hk (e_.trans own_len))⟩, ⟨by (with_reducible repeat (first | apply Kd.S_alloc | apply Kd.S_drewN | apply Kd.S_drew)); first | exact HO_269000.out | exact Kd.R_mono HO_269000.out (fun _ hk e_ => hk (e_.trans own_len))⟩, ⟨by (with_reducible repeat (first | apply Kd.S_alloc | apply Kd.S_drewN | apply Kd.S_drew)); first | exact HO_269001.out | exact Kd.R_mono HO_269001.out (fun _ hk e_ => hk (e_.trans own_len))⟩, ⟨by (with_reducible repeat (first | refine blk_drewN ?_ _ | refine blk_drew ?_ | refine blk_alloc ?_ _)); exact BK268.out⟩, ⟨by repeat (first | (with_reducible first | exact HB.out | apply below_alloc | apply pw_below_drewN | apply below_drew1 | refine below_set ?_ GE268.out) | exact HB.out)⟩⟩
                                    case round =>
                                      clear H'
                                      try clear c1
                                      try clear c2
                                      try clear p2
                                      try clear q2
                                      try clear hx2
                                      try clear c3
                                      try clear p3
                                      try clear q3
                                      try clear hx3
                                      try clear hf3
                                      try clear c4
                                      try clear c5
                                      try clear c6
                                      try clear p6
                                      try clear c8
                                      try clear c8b0
                                      try clear c8b1
                                      try clear c9
                                      try clear c9b0
                                      try clear c9b1
                                      try clear c9b2
                                      try clear c12
                                      try clear c12b0
                                      try clear c12b1
                                      try clear c13
                                      try clear c13b0
                                      try clear c13b1
                                      try clear c25
                                      try clear c25b0
                                      try clear c26
                                      try clear c26b0
                                      try clear c27
                                      try clear c27b0
                                      try clear c28
                                      try clear c28b0
                                      try clear p28
                                      try clear q28
                                      try clear hx28
                                      try clear c29
                                      try clear c29b0
                                      try clear p29
                                      try clear q29
                                      try clear hx29
                                      try clear c30
                                      try clear c30b0
                                      try clear c31
                                      try clear c31b0
                                      try clear c31b1
                                      try clear c32
                                      try clear c32b0
                                      try clear q33
                                      try clear c34
                                      try clear p35
                                      try clear q35
                                      try clear hx35
                                      try clear hf35
                                      try clear c42
                                      try clear c42b0
                                      try clear c43
                                      try clear c43b0
                                      try clear c44
                                      try clear c44b0
                                      try clear c45
                                      try clear c45b0
                                      try clear c46
                                      try clear c46b0
                                      try clear c46b1
                                      try clear c46b2
                                      try clear c49
                                      try clear c49b0
                                      try clear c50
                                      try clear c50b0
                                      try clear c51
                                      try clear c51b0
                                      try clear c52
                                      try clear c53
                                      try clear c53b0
                                      try clear c55
                                      try clear c55b0
                                      try clear c56
                                      try clear hcz18_0
                                      try clear hcz18_1
                                      try clear hcz21_0
                                      try clear hcz21_1
                                      try clear hfz18_0
                                      try clear hfz18_1
                                      try clear hfz21_0
                                      try clear hfz21_1
                                      try clear hx281_0
                                      try clear hx282_0
                                      try clear hx283_0
                                      try clear hx284_0
                                      try clear hx285_0
                                      try clear hx286_0
                                      try clear hx287_0
                                      try clear hx289_0
                                      try clear hx290_0
                                      try clear hx291_0
                                      try clear hx292_0
                                      try clear hx293_0
                                      try clear hx35_0
                                      try clear p2
                                      try clear p28
                                      try clear p281
                                      try clear p282
                                      try clear p283
                                      try clear p284
                                      try clear p285
                                      try clear p286
                                      try clear p287
                                      try clear p289
                                      try clear p29
                                      try clear p290
                                      try clear p291
                                      try clear p292
                                      try clear p293
                                      try clear p3
                                      try clear p35
                                      try clear p6
                                      try clear q2
                                      try clear q28
                                      try clear q281
                                      try clear q282
                                      try clear q283
                                      try clear q284
                                      try clear q285
                                      try clear q286
                                      try clear q287
                                      try clear q289
                                      try clear q29
                                      try clear q290
                                      try clear q291
                                      try clear q292
                                      try clear q293
                                      try clear q3
                                      try clear q33
                                      try clear q35
                                      obtain ⟨x16_5, rfl, HA, HK5, HO_8, HO_10, HO_269000, HO_269001, BK268, HB⟩ := hrel
                                      cases gk with
                                      | zero => exact absurd HA.out (by simp [locksteplaw06_GraphReaches.l4])
                                      | succ k5 =>
                                        have H := HA.out
                                        clear HA
                                        simp only [locksteplaw06_GraphReaches.l4] at H
                                        by_cases c57 : 0 ≤ x15_3
                                        · rw [if_pos c57] at H
                                          have c57b0 : decide (0 ≤ x15_3) = true := decide_eq_true c57
                                          clear c57
                                          by_cases c58 : x15_3 < (l0.length : Int)
                                          · rw [if_pos c58] at H
                                            have c58b0 : decide (x15_3 < (l0.length : Int)) = true := decide_eq_true c58
                                            clear c58
                                            by_cases c59 : x16_5 < ((rd_L1 l0 x15_3).length : Int)
                                            · rw [if_pos c59] at H
                                              have c59b0 : decide (x16_5 < ((rd_L1 l0 x15_3).length : Int)) = true := decide_eq_true c59
                                              clear c59
                                              by_cases c60 : x15_3 < (x10_1.length : Int)
                                              · rw [if_pos c60] at H
                                                have c60b0 : decide (x15_3 < (x10_1.length : Int)) = true := decide_eq_true c60
                                                clear c60
                                                by_cases c61 : (rd x10_1 x15_3) > 0
                                                · rw [if_pos c61] at H
                                                  have c61b0 : decide (0 < (rd x10_1 x15_3)) = true := decide_eq_true c61
                                                  clear c61
                                                  by_cases c62 : 0 ≤ x16_5
                                                  · rw [if_pos c62] at H
                                                    have c62b0 : decide (0 ≤ x16_5) = true := decide_eq_true c62
                                                    clear c62
                                                    by_cases c63 : 0 ≤ (rd (rd_L1 l0 x15_3) x16_5)
                                                    · rw [if_pos c63] at H
                                                      have c63b0 : decide (0 ≤ (rd (rd_L1 l0 x15_3) x16_5)) = true := decide_eq_true c63
                                                      clear c63
                                                      by_cases c64 : (rd (rd_L1 l0 x15_3) x16_5) < (x10_1.length : Int)
                                                      · rw [if_pos c64] at H
                                                        have c64b0 : decide ((rd (rd_L1 l0 x15_3) x16_5) < (x10_1.length : Int)) = true := decide_eq_true c64
                                                        clear c64
                                                        by_cases c65 : (rd x10_1 x15_3) ≥ (rd x10_1 (rd (rd_L1 l0 x15_3) x16_5))
                                                        · rw [if_pos c65] at H
                                                          have c65b0 : decide ((rd x10_1 (rd (rd_L1 l0 x15_3) x16_5)) ≤ (rd x10_1 x15_3)) = true := decide_eq_true c65
                                                          clear c65
                                                          exact absurd H (by simp)
                                                        · rw [if_neg c65] at H
                                                          have c65b0 : decide ((rd x10_1 (rd (rd_L1 l0 x15_3) x16_5)) ≤ (rd x10_1 x15_3)) = false := decide_eq_false c65
                                                          clear c65
                                                          have H' := Aside0.mk H
                                                          clear H
                                                          have p295 : 0 ≤ (x15_3 : Int) := of_decide_eq_true (by first | (with_reducible assumption) | assumption)
                                                          have q295 : x15_3 < (l0.length : Int) := of_decide_eq_true (by first | (with_reducible assumption) | assumption)
                                                          obtain ⟨ad295, A295_0, c295_0, e295, hx295_0, hl295_0, hi295_0⟩ := at_L1 HR0.out x15_3 p295 q295
                                                          cases e295
                                                          replace hx295_0 := (HB.out.cell (World.block_lt_of_cell? w _ hx295_0)).trans hx295_0
                                                          have HR295_0 := Aside0.mk hi295_0
                                                          have HC295_0 := Aside0.mk hl295_0
                                                          clear hi295_0 hl295_0
                                                          replace p295 := eq_true p295
                                                          replace q295 := eq_true q295
                                                          obtain ⟨Ao66, co66, eo66⟩ := Kd.R_slice HO_10.out
                                                          subst eo66
                                                          have p296 : 0 ≤ (x15_3 : Int) := of_decide_eq_true (by first | (with_reducible assumption) | assumption)
                                                          have q296 : x15_3 < (x10_1.length : Int) := of_decide_eq_true (by first | (with_reducible assumption) | assumption)
                                                          obtain ⟨ad296, e296, hx296_0⟩ := Kd.at_int (Kd.R_reads' HO_10.out).2.2 x15_3 p296 q296
                                                          cases e296
                                                          replace p296 := eq_true p296
                                                          replace q296 := eq_true q296
                                                          have p297 : 0 ≤ (x15_3 : Int) := of_decide_eq_true (by first | (with_reducible assumption) | assumption)
                                                          have q297 : x15_3 < (x10_1.length : Int) := of_decide_eq_true (by first | (with_reducible assumption) | assumption)
                                                          obtain ⟨ad297, e297, hx297_0⟩ := Kd.at_int (Kd.R_reads' HO_10.out).2.2 x15_3 p297 q297
                                                          obtain rfl : ad296 = ad297 := (by injection e297)
                                                          replace p297 := eq_true p297
                                                          replace q297 := eq_true q297
                                                          have p298 : 0 ≤ (x15_3 : Int) := of_decide_eq_true (by first | (with_reducible assumption) | assumption)
                                                          have q298 : x15_3 < (l0.length : Int) := of_decide_eq_true (by first | (with_reducible assumption) | assumption)
                                                          obtain ⟨ad298, A298_0, c298_0, e298, hx298_0, hl298_0, hi298_0⟩ := at_L1 HR0.out x15_3 p298 q298
                                                          obtain rfl : ad295 = ad298 := (by injection e298)
                                                          replace hx298_0 := (HB.out.cell (World.block_lt_of_cell? w _ hx298_0)).trans hx298_0
                                                          have HR298_0 := Aside0.mk hi298_0
                                                          have HC298_0 := Aside0.mk hl298_0
                                                          clear hi298_0 hl298_0
                                                          replace p298 := eq_true p298
                                                          replace q298 := eq_true q298
                                                          have ea_ := Option.some.inj (hx295_0.symm.trans hx298_0)
                                                          injection ea_ with ea_ en_ ec_
                                                          subst ea_
                                                          subst ec_
                                                          clear en_
                                                          have p299 : 0 ≤ (x16_5 : Int) := of_decide_eq_true (by first | (with_reducible assumption) | assumption)
                                                          have q299 : x16_5 < ((rd_L1 l0 x15_3).length : Int) := of_decide_eq_true (by first | (with_reducible assumption) | assumption)
                                                          obtain ⟨ad299, e299, hx299_0⟩ := Kd.at_int HR298_0.out x16_5 p299 q299
                                                          cases e299
                                                          replace hx299_0 := (HB.out.cell (World.block_lt_of_cell? w _ hx299_0)).trans hx299_0
                                                          replace p299 := eq_true p299
                                                          replace q299 := eq_true q299
                                                          have p300 : 0 ≤ ((rd (rd_L1 l0 x15_3) x16_5) : Int) := of_decide_eq_true (by first | (with_reducible assumption) | assumption)
                                                          have q300 : (rd (rd_L1 l0 x15_3) x16_5) < (x10_1.length : Int) := of_decide_eq_true (by first | (with_reducible assumption) | assumption)
                                                          obtain ⟨ad300, e300, hx300_0⟩ := Kd.at_int (Kd.R_reads' HO_10.out).2.2 (rd (rd_L1 l0 x15_3) x16_5) p300 q300
                                                          obtain rfl : ad296 = ad300 := (by injection e300)
                                                          replace p300 := eq_true p300
                                                          replace q300 := eq_true q300
                                                          go_wp2
                                                          repeat (go_quiet (fail); try go_wp2)
                                                          go_roundg k5
                                                          case measure => have := HK1.out; have := HK2.out; have := HK3.out; have := HJ53.out; have := HK5.out; omega
                                                          case rel => exact ⟨(wrap64 (x16_5 + 1)), (by first | rfl | exact congrArg (fun b => Ending.returned (Value.bool b)) HR_.out | (simp; done) | (simp [*]; done)), H', ⟨by have := HK1.out; have := HK2.out; have := HK3.out; have := HJ53.out; have := HK5.out; omega⟩, ⟨by (with_reducible repeat (first | apply Kd.R_alloc | apply Kd.R_drewN | apply Kd.R_drew)); first | exact HO_8.out | exact Kd.R_mono HO_8.out (fun _ hk e_ => hk (e_.trans own_len))⟩, ⟨by (with_reducible repeat (first | apply Kd.R_alloc | apply Kd.R_drewN | apply Kd.R_drew)); first | exact HO_10.out | exact Kd.R_mono HO_10.out (fun _ hk e_ => hk (e_.trans own_len))⟩, ⟨by (with_reducible repeat (first | apply Kd.S_alloc | apply Kd.S_drewN | apply Kd.S_drew)); first | exact HO_269000.out | exact Kd.R_mono HO_269000.out (fun _ hk e_ => hk (e_.trans own_len))⟩, ⟨by (with_reducible repeat (first | apply Kd.S_alloc | apply Kd.S_drewN | apply Kd.S_drew)); first | exact HO_269001.out | exact Kd.R_mono HO_269001.out (fun _ hk e_ => hk (e_.trans own_len))⟩, ⟨by (with_reducible repeat (first | refine blk_drewN ?_ _ | refine blk_drew ?_ | refine blk_alloc ?_ _)); exact BK268.out⟩, ⟨by repeat (first | (with_reducible first | exact HB.out | apply below_alloc | apply pw_below_drewN | apply below_drew1 | refine below_set ?_ GE268.out) | exact HB.out)⟩⟩
                                                      · rw [if_neg c64] at H
                                                        exact absurd H (by simp)
                                                    · rw [if_neg c63] at H
                                                      exact absurd H (by simp)
                                                  · rw [if_neg c62] at H
                                                    exact absurd H (by simp)
                                                · rw [if_neg c61] at H
                                                  have c61b0 : decide (0 < (rd x10_1 x15_3)) = false := decide_eq_false c61
                                                  clear c61
                                                  have H' := Aside0.mk H
                                                  clear H
                                                  have p295 : 0 ≤ (x15_3 : Int) := of_decide_eq_true (by first | (with_reducible assumption) | assumption)
                                                  have q295 : x15_3 < (l0.length : Int) := of_decide_eq_true (by first | (with_reducible assumption) | assumption)
                                                  obtain ⟨ad295, A295_0, c295_0, e295, hx295_0, hl295_0, hi295_0⟩ := at_L1 HR0.out x15_3 p295 q295
                                                  cases e295
                                                  replace hx295_0 := (HB.out.cell (World.block_lt_of_cell? w _ hx295_0)).trans hx295_0
                                                  have HR295_0 := Aside0.mk hi295_0
                                                  have HC295_0 := Aside0.mk hl295_0
                                                  clear hi295_0 hl295_0
                                                  replace p295 := eq_true p295
                                                  replace q295 := eq_true q295
                                                  obtain ⟨Ao67, co67, eo67⟩ := Kd.R_slice HO_10.out
                                                  subst eo67
                                                  have p296 : 0 ≤ (x15_3 : Int) := of_decide_eq_true (by first | (with_reducible assumption) | assumption)
                                                  have q296 : x15_3 < (x10_1.length : Int) := of_decide_eq_true (by first | (with_reducible assumption) | assumption)
                                                  obtain ⟨ad296, e296, hx296_0⟩ := Kd.at_int (Kd.R_reads' HO_10.out).2.2 x15_3 p296 q296
                                                  cases e296
                                                  replace p296 := eq_true p296
                                                  replace q296 := eq_true q296
                                                  go_wp2
                                                  repeat (go_quiet (fail); try go_wp2)
                                                  go_roundg k5
                                                  case measure => have := HK1.out; have := HK2.out; have := HK3.out; have := HJ53.out; have := HK5.out; omega
                                                  case rel => exact ⟨(wrap64 (x16_5 + 1)), (by first | rfl | exact congrArg (fun b => Ending.returned (Value.bool b)) HR_.out | (simp; done) | (simp [*]; done)), H', ⟨by have := HK1.out; have := HK2.out; have := HK3.out; have := HJ53.out; have := HK5.out; omega⟩, ⟨by (with_reducible repeat (first | apply Kd.R_alloc | apply Kd.R_drewN | apply Kd.R_drew)); first | exact HO_8.out | exact Kd.R_mono HO_8.out (fun _ hk e_ => hk (e_.trans own_len))⟩, ⟨by (with_reducible repeat (first | apply Kd.R_alloc | apply Kd.R_drewN | apply Kd.R_drew)); first | exact HO_10.out | exact Kd.R_mono HO_10.out (fun _ hk e_ => hk (e_.trans own_len))⟩, ⟨by (with_reducible repeat (first | apply Kd.S_alloc | apply Kd.S_drewN | apply Kd.S_drew)); first | exact HO_269000.out | exact Kd.R_mono HO_269000.out (fun _ hk e_ => hk (e_.trans own_len))⟩, ⟨by (with_reducible repeat (first | apply Kd.S_alloc | apply Kd.S_drewN | apply Kd.S_drew)); first | exact HO_269001.out | exact Kd.R_mono HO_269001.out (fun _ hk e_ => hk (e_.trans own_len))⟩, ⟨by (with_reducible repeat (first | refine blk_drewN ?_ _ | refine blk_drew ?_ | refine blk_alloc ?_ _)); exact BK268.out⟩, ⟨by repeat (first | (with_reducible first | exact HB.out | apply below_alloc | apply pw_below_drewN | apply below_drew1 | refine below_set ?_ GE268.out) | exact HB.out)⟩⟩
                                              · rw [if_neg c60] at H
                                                exact absurd H (by simp)
                                            · rw [if_neg c59] at H
                                              have c59b0 : decide (x16_5 < ((rd_L1 l0 x15_3).length : Int)) = false := decide_eq_false c59
                                              clear c59
                                              have H' := Aside0.mk H
                                              clear H
                                              have p295 : 0 ≤ (x15_3 : Int) := of_decide_eq_true (by first | (with_reducible assumption) | assumption)
                                              have q295 : x15_3 < (l0.length : Int) := of_decide_eq_true (by first | (with_reducible assumption) | assumption)
                                              obtain ⟨ad295, A295_0, c295_0, e295, hx295_0, hl295_0, hi295_0⟩ := at_L1 HR0.out x15_3 p295 q295
                                              cases e295
                                              replace hx295_0 := (HB.out.cell (World.block_lt_of_cell? w _ hx295_0)).trans hx295_0
                                              have HR295_0 := Aside0.mk hi295_0
                                              have HC295_0 := Aside0.mk hl295_0
                                              clear hi295_0 hl295_0
                                              replace p295 := eq_true p295
                                              replace q295 := eq_true q295
                                              go_wp2
                                              repeat (go_quiet (fail); try go_wp2)
                                              go_roundg k5
                                              case measure => have := HK1.out; have := HK2.out; have := HK3.out; have := HJ53.out; have := HK5.out; omega
                                              case rel => exact ⟨(wrap64 (x15_3 + 1)), (by first | rfl | exact congrArg (fun b => Ending.returned (Value.bool b)) HR_.out | (simp; done) | (simp [*]; done)), H', ⟨by have := HK1.out; have := HK2.out; have := HK3.out; have := HJ53.out; have := HK5.out; omega⟩, ⟨by (with_reducible repeat (first | apply Kd.R_alloc | apply Kd.R_drewN | apply Kd.R_drew)); first | exact HO_8.out | exact Kd.R_mono HO_8.out (fun _ hk e_ => hk (e_.trans own_len))⟩, ⟨by (with_reducible repeat (first | apply Kd.R_alloc | apply Kd.R_drewN | apply Kd.R_drew)); first | exact HO_10.out | exact Kd.R_mono HO_10.out (fun _ hk e_ => hk (e_.trans own_len))⟩, ⟨by (with_reducible repeat (first | apply Kd.S_alloc | apply Kd.S_drewN | apply Kd.S_drew)); first | exact HO_269000.out | exact Kd.R_mono HO_269000.out (fun _ hk e_ => hk (e_.trans own_len))⟩, ⟨by (with_reducible repeat (first | apply Kd.S_alloc | apply Kd.S_drewN | apply Kd.S_drew)); first | exact HO_269001.out | exact Kd.R_mono HO_269001.out (fun _ hk e_ => hk (e_.trans own_len))⟩, ⟨by (with_reducible repeat (first | refine blk_drewN ?_ _ | refine blk_drew ?_ | refine blk_alloc ?_ _)); exact BK268.out⟩, ⟨by repeat (first | (with_reducible first | exact HB.out | apply below_alloc | apply pw_below_drewN | apply below_drew1 | refine below_set ?_ GE268.out) | exact HB.out)⟩⟩
                                          · rw [if_neg c58] at H
                                            exact absurd H (by simp)
                                        · rw [if_neg c57] at H
                                          exact absurd H (by simp)
                                  · replace c56 := Bool.eq_false_iff.mpr c56
                                    subst c56
                                    have H1 : (if 0 < (t272.length : Int) then (some ((rd t272 0) == (Int.tmod (wrap64 (a1)) (l0.length : Int)))) else (none)) = some true := by rw [if_neg (show ¬ (false = true) by decide)] at H; exact H
                                    clear H
                                    have H := H1
                                    clear H1
                                    by_cases c68 : 0 < (t272.length : Int)
                                    · rw [if_pos c68] at H
                                      have c68b0 : decide (0 < (t272.length : Int)) = true := decide_eq_true c68
                                      have c68b1 : decide (0 < t272.length) = true := decide_eq_true (by omega)
                                      clear c68
                                      have HR_ := Aside0.mk (Option.some.inj H)
                                      clear H
                                      have p294 : 0 ≤ (0 : Int) := (by omega)
                                      have q294 : 0 < (t272.length : Int) := of_decide_eq_true (by first | (with_reducible assumption) | assumption)
                                      obtain ⟨ad294, e294, hx294_0⟩ := Kd.at_int (Kd.R_reads' HO_8.out).2.2 0 p294 q294
                                      cases e294
                                      have qi294 : (0 < t272.length) = True := eq_true (by omega)
                                      (try rw [show ((0 : Int)).toNat = 0 from rfl] at hx294_0)
                                      (try rw [Addr.add_zero'] at hx294_0)
                                      replace p294 := eq_true p294
                                      replace q294 := eq_true q294
                                      go_wp2
                                      repeat (go_quiet (fail); try go_wp2)
                                      go_ret
                                      exact ⟨by first | rfl | exact congrArg (fun b => Ending.returned (Value.bool b)) HR_.out | (simp [errW_none, errW_some] <;> rfl) | (simp [*, errW_none, errW_some] <;> rfl), by repeat (first | (with_reducible first | exact HB.out | apply below_alloc | apply pw_below_drewN | apply below_drew1 | refine below_set ?_ GE268.out) | exact HB.out)⟩
                                    · rw [if_neg c68] at H
                                      exact absurd H (by simp)
            · rw [if_neg c13] at H
              exact absurd H (by simp)
          · rw [if_neg c12] at H
            exact absurd H (by simp)
      · rw [if_neg c8] at H
        have c8b0 : (t267 == 0) = false := beq_eq_false_iff_ne.mpr c8
        have c8b1 : (t267 != 0) = true := bne_iff_ne.mpr c8
        replace H := Option.bind_eq_some_iff.mp H
        obtain ⟨t269, A690, H⟩ := H
        replace H : (some ((t269.length : Int) == 0)) = some true := H
        have A69 := Aside0.mk A690
        clear A690
        have HR_ := Aside0.mk (Option.some.inj H)
        clear H
        go_enter Try.func8, Try.ntmps8
        go_wp2_with (first | (go_at_call 21; (with_reducible refine (locksteplaw06_awake.calls k   _ A3.out).mono ?_); rintro e w70 ⟨rfl, hb⟩; have n0_ := Aside0.mk (below_step (by repeat (first | (with_reducible first | exact HB.out | apply below_alloc | apply pw_below_drewN | apply below_drew1) | exact HB.out)) hb); clear HB; have HB := n0_; clear n0_; (try clear hb); (try clear hb2); (try clear hk); (try clear hi)) | (go_at_call 22; (with_reducible refine (lockstepref06_Small.calls k _ _ l0 true _ ?side1 ?side2 A5.out).mono ?_); (case side1 => repeat (first | exact (Kd.C_below HR0.out HB.out) | (with_reducible refine Kd.C_alloc ?_ _) | (with_reducible refine Kd.C_drewN ?_ _) | (with_reducible refine Kd.C_drew ?_))); (case side2 => exact HC0.out); rintro e w' ⟨rfl, ⟨nd, rfl⟩⟩; (try first | exact ⟨rfl, _, World.drewN_drewN _ _ _⟩ | exact ⟨rfl, _, Eq.trans (World.drewN_drewN _ _ _) (congrArg (World.drewN _) (Nat.add_assoc _ _ _))⟩)) | (go_at_call 23; (with_reducible refine (graph_Make.calls k _ _ l0 t261 t264 t267 _ ?side1 ?side2 A7.out).mono ?_); (case side1 => repeat (first | exact (Kd.C_below HR0.out (by repeat (first | (with_reducible first | exact HB.out | apply below_alloc | apply pw_below_drewN | apply below_drew1) | exact HB.out))) | (with_reducible refine Kd.C_alloc ?_ _) | (with_reducible refine Kd.C_drewN ?_ _) | (with_reducible refine Kd.C_drew ?_))); (case side2 => exact HC0.out); rintro e w71 ⟨v262, v265, rfl, ho0, ho1, hb⟩; have n0_ := Aside0.mk (Kd.S_lower ho0 (below_size (by repeat (first | (with_reducible first | exact HB.out | apply below_alloc | apply pw_below_drewN | apply below_drew1) | exact HB.out)))); have n1_ := Aside0.mk (Kd.S_lower ho1 (below_size (by repeat (first | (with_reducible first | exact HB.out | apply below_alloc | apply pw_below_drewN | apply below_drew1) | exact HB.out)))); have n2_ := Aside0.mk (below_step (by repeat (first | (with_reducible first | exact HB.out | apply below_alloc | apply pw_below_drewN | apply below_drew1) | exact HB.out)) hb); clear HB; have HO263 := n0_; have HO266 := n1_; have HB := n2_; clear n0_ n1_ n2_; (try clear hb); (try clear hb2); (try clear hk); (try clear hi); (try clear ho0); (try clear ho1)) | ((with_reducible refine gate_dst (N := 5) rfl ?_); (try (refine gate_guard (by rfl) ?_; dsimp only)); refine box_event ?hg (N := 5) ?hd (cs := #[.slice none 0 0, .slice none 0 0]) (t := 45) ?hr ?_; (case hd => rfl); (case hg => rfl); (case hr => first | (go_simp; done) | (go_simp; rfl)); intro gb268 hg w72 hbox hb; have n0_ := Aside0.mk (Kd.S_below (by (with_reducible repeat (first | apply Kd.S_alloc | apply Kd.S_drewN | apply Kd.S_drew)); exact HO263.out) hb); have n1_ := Aside0.mk (Kd.S_below (by (with_reducible repeat (first | apply Kd.S_alloc | apply Kd.S_drewN | apply Kd.S_drew)); exact HO266.out) hb); have n2_ := Aside0.mk (below_step (by repeat (first | (with_reducible first | exact HB.out | apply below_alloc | apply pw_below_drewN | apply below_drew1) | exact HB.out)) hb); have n3_ := Aside0.mk (hbox); have n4_ := Aside0.mk ((by rw [hg]; exact (below_size (by repeat (first | (with_reducible first | exact HB.out | apply below_alloc | apply pw_below_drewN | apply below_drew1) | exact HB.out))) : w.heap.size ≤ gb268)); have n5_ := Aside0.mk ((by rw [hg]; exact (below_size (by repeat (first | (with_reducible first | exact HB.out | apply below_alloc | apply pw_below_drewN | apply below_drew1) | exact HB.out))) : w.heap.size ≤ gb268)); clear HO263; clear HO266; clear HB; have HO263 := n0_; have HO266 := n1_; have HB := n2_; have BK268 := n3_; have GW268 := n4_; have GE268 := n5_; clear n0_ n1_ n2_ n3_ n4_ n5_; clear hb hbox hg; obtain ⟨Ao73, co73, eo73⟩ := Kd.S_slice HO263.out; subst eo73; have hcz74_0 : w72.cell? ⟨gb268, 0, none⟩ = some (.slice none 0 0) := (blk_cell BK268.out 0).trans rfl; have hcz74_1 : w72.cell? ⟨gb268, 1, none⟩ = some (.slice none 0 0) := (blk_cell BK268.out 1).trans rfl; have hfz74_0 := blk_frozen BK268.out 0; have hfz74_1 := blk_frozen BK268.out 1; obtain ⟨Ao75, co75, eo75⟩ := Kd.S_slice HO266.out; subst eo75) | (go_at_call 24; (with_reducible refine (graph_Order.calls k _ _ t261 _ _ t264 0 t269 _ ?side1 ?side2 ?side3 ?side4 A69.out).mono ?_); (case side1 => refine (Kd.S_reads' (e := 33) (base := w.heap.size) (ok := fun k_ => some k_ ≠ (.slice Ao75 t264.length co75 : Value).ownBlock) (n := t261.length) (c := co73) ?_).2.2; exact (by (with_reducible repeat (first | apply Kd.S_alloc | apply Kd.S_drewN | apply Kd.S_drew)); exact (Kd.S_mono (Kd.S_far (p := ⟨gb268, 1, none⟩) (Kd.S_far (p := ⟨gb268, 0, none⟩) (Kd.S_types HO263.out BK268.out (by decide)) (fun _ hk => hk.2) (.slice Ao73 t261.length co73)) (fun _ hk => hk.2) (.slice Ao75 t264.length co75)) (fun _ h_ => h_.1)))); (case side2 => exact (Kd.S_reads' HO263.out).2.1); (case side3 => refine (Kd.S_reads' (e := 33) (base := w.heap.size) (ok := fun k_ => some k_ ≠ (.slice Ao73 t261.length co73 : Value).ownBlock) (n := t264.length) (c := co75) ?_).2.2; exact (by (with_reducible repeat (first | apply Kd.S_alloc | apply Kd.S_drewN | apply Kd.S_drew)); exact (Kd.S_mono (Kd.S_far (p := ⟨gb268, 1, none⟩) (Kd.S_far (p := ⟨gb268, 0, none⟩) (Kd.S_types HO266.out BK268.out (by decide)) (fun _ hk => hk.2) (.slice Ao73 t261.length co73)) (fun _ hk => hk.2) (.slice Ao75 t264.length co75)) (fun _ h_ => h_.1)))); (case side4 => exact (Kd.S_reads' HO266.out).2.1); rintro e w76 ⟨v270, rfl, ho0, hb⟩; have n0_ := Aside0.mk (Kd.S_elder' (by (with_reducible repeat (first | apply Kd.S_alloc | apply Kd.S_drewN | apply Kd.S_drew)); exact (Kd.S_mono (Kd.S_far (p := ⟨gb268, 1, none⟩) (Kd.S_far (p := ⟨gb268, 0, none⟩) (Kd.S_types HO263.out BK268.out (by decide)) (fun _ hk => hk.2) (.slice Ao73 t261.length co73)) (fun _ hk => hk.2) (.slice Ao75 t264.length co75)) (fun _ h_ => h_.1))) (Kd.R_base ho0) hb); have n1_ := Aside0.mk (Kd.S_elder' (by (with_reducible repeat (first | apply Kd.S_alloc | apply Kd.S_drewN | apply Kd.S_drew)); exact (Kd.S_mono (Kd.S_far (p := ⟨gb268, 1, none⟩) (Kd.S_far (p := ⟨gb268, 0, none⟩) (Kd.S_types HO266.out BK268.out (by decide)) (fun _ hk => hk.2) (.slice Ao73 t261.length co73)) (fun _ hk => hk.2) (.slice Ao75 t264.length co75)) (fun _ h_ => h_.1))) (Kd.R_base ho0) hb); have n2_ := Aside0.mk (Kd.R_lower ho0 (below_size (by repeat (first | (with_reducible first | exact HB.out | apply below_alloc | apply pw_below_drewN | apply below_drew1 | refine below_set ?_ GE268.out) | exact HB.out)))); have n3_ := Aside0.mk (blk_below (g := gb268) (o := .cells #[.slice Ao73 t261.length co73, .slice Ao75 t264.length co75] 45 (0, 0)) (by (with_reducible repeat (first | refine blk_drewN ?_ _ | refine blk_drew ?_ | refine blk_alloc ?_ _)); refine blk_put (cs := #[.slice Ao73 t261.length co73, .slice none 0 0]) ?_ 1 _ rfl; (with_reducible repeat (first | refine blk_drewN ?_ _ | refine blk_drew ?_ | refine blk_alloc ?_ _)); refine blk_put (cs := #[.slice none 0 0, .slice none 0 0]) ?_ 0 _ rfl; (with_reducible repeat (first | refine blk_drewN ?_ _ | refine blk_drew ?_ | refine blk_alloc ?_ _)); exact BK268.out) hb); have n4_ := Aside0.mk (below_step (by repeat (first | (with_reducible first | exact HB.out | apply below_alloc | apply pw_below_drewN | apply below_drew1 | refine below_set ?_ GE268.out) | exact HB.out)) hb); clear HO263; clear HO266; clear BK268; clear HB; have HO263 := n0_; have HO266 := n1_; have HO271 := n2_; have BK268 := n3_; have HB := n4_; clear n0_ n1_ n2_ n3_ n4_; (try clear hb); (try clear hb2); (try clear hk); (try clear hi); (try clear ho0); obtain ⟨Ao77, co77, eo77⟩ := Kd.R_slice HO271.out; subst eo77))
        repeat (go_quiet (first | (go_at_call 21; (with_reducible refine (locksteplaw06_awake.calls k   _ A3.out).mono ?_); rintro e w70 ⟨rfl, hb⟩; have n0_ := Aside0.mk (below_step (by repeat (first | (with_reducible first | exact HB.out | apply below_alloc | apply pw_below_drewN | apply below_drew1) | exact HB.out)) hb); clear HB; have HB := n0_; clear n0_; (try clear hb); (try clear hb2); (try clear hk); (try clear hi)) | (go_at_call 22; (with_reducible refine (lockstepref06_Small.calls k _ _ l0 true _ ?side1 ?side2 A5.out).mono ?_); (case side1 => repeat (first | exact (Kd.C_below HR0.out HB.out) | (with_reducible refine Kd.C_alloc ?_ _) | (with_reducible refine Kd.C_drewN ?_ _) | (with_reducible refine Kd.C_drew ?_))); (case side2 => exact HC0.out); rintro e w' ⟨rfl, ⟨nd, rfl⟩⟩; (try first | exact ⟨rfl, _, World.drewN_drewN _ _ _⟩ | exact ⟨rfl, _, Eq.trans (World.drewN_drewN _ _ _) (congrArg (World.drewN _) (Nat.add_assoc _ _ _))⟩)) | (go_at_call 23; (with_reducible refine (graph_Make.calls k _ _ l0 t261 t264 t267 _ ?side1 ?side2 A7.out).mono ?_); (case side1 => repeat (first | exact (Kd.C_below HR0.out (by repeat (first | (with_reducible first | exact HB.out | apply below_alloc | apply pw_below_drewN | apply below_drew1) | exact HB.out))) | (with_reducible refine Kd.C_alloc ?_ _) | (with_reducible refine Kd.C_drewN ?_ _) | (with_reducible refine Kd.C_drew ?_))); (case side2 => exact HC0.out); rintro e w71 ⟨v262, v265, rfl, ho0, ho1, hb⟩; have n0_ := Aside0.mk (Kd.S_lower ho0 (below_size (by repeat (first | (with_reducible first | exact HB.out | apply below_alloc | apply pw_below_drewN | apply below_drew1) | exact HB.out)))); have n1_ := Aside0.mk (Kd.S_lower ho1 (below_size (by repeat (first | (with_reducible first | exact HB.out | apply below_alloc | apply pw_below_drewN | apply below_drew1) | exact HB.out)))); have n2_ := Aside0.mk (below_step (by repeat (first | (with_reducible first | exact HB.out | apply below_alloc | apply pw_below_drewN | apply below_drew1) | exact HB.out)) hb); clear HB; have HO263 := n0_; have HO266 := n1_; have HB := n2_; clear n0_ n1_ n2_; (try clear hb); (try clear hb2); (try clear hk); (try clear hi); (try clear ho0); (try clear ho1)) | ((with_reducible refine gate_dst (N := 5) rfl ?_); (try (refine gate_guard (by rfl) ?_; dsimp only)); refine box_event ?hg (N := 5) ?hd (cs := #[.slice none 0 0, .slice none 0 0]) (t := 45) ?hr ?_; (case hd => rfl); (case hg => rfl); (case hr => first | (go_simp; done) | (go_simp; rfl)); intro gb268 hg w72 hbox hb; have n0_ := Aside0.mk (Kd.S_below (by (with_reducible repeat (first | apply Kd.S_alloc | apply Kd.S_drewN | apply Kd.S_drew)); exact HO263.out) hb); have n1_ := Aside0.mk (Kd.S_below (by (with_reducible repeat (first | apply Kd.S_alloc | apply Kd.S_drewN | apply Kd.S_drew)); exact HO266.out) hb); have n2_ := Aside0.mk (below_step (by repeat (first | (with_reducible first | exact HB.out | apply below_alloc | apply pw_below_drewN | apply below_drew1) | exact HB.out)) hb); have n3_ := Aside0.mk (hbox); have n4_ := Aside0.mk ((by rw [hg]; exact (below_size (by repeat (first | (with_reducible first | exact HB.out | apply below_alloc | apply pw_below_drewN | apply below_drew1) | exact HB.out))) : w.heap.size ≤ gb268)); have n5_ := Aside0.mk ((by rw [hg]; exact (below_size (by repeat (first | (with_reducible first | exact HB.out | apply below_alloc | apply pw_below_drewN | apply below_drew1) | exact HB.out))) : w.heap.size ≤ gb268)); clear HO263; clear HO266; clear HB; have HO263 := n0_; have HO266 := n1_; have HB := n2_; have BK268 := n3_; have GW268 := n4_; have GE268 := n5_; clear n0_ n1_ n2_ n3_ n4_ n5_; clear hb hbox hg; obtain ⟨Ao73, co73, eo73⟩ := Kd.S_slice HO263.out; subst eo73; have hcz74_0 : w72.cell? ⟨gb268, 0, none⟩ = some (.slice none 0 0) := (blk_cell BK268.out 0).trans rfl; have hcz74_1 : w72.cell? ⟨gb268, 1, none⟩ = some (.slice none 0 0) := (blk_cell BK268.out 1).trans rfl; have hfz74_0 := blk_frozen BK268.out 0; have hfz74_1 := blk_frozen BK268.out 1; obtain ⟨Ao75, co75, eo75⟩ := Kd.S_slice HO266.out; subst eo75) | (go_at_call 24; (with_reducible refine (graph_Order.calls k _ _ t261 _ _ t264 0 t269 _ ?side1 ?side2 ?side3 ?side4 A69.out).mono ?_); (case side1 => refine (Kd.S_reads' (e := 33) (base := w.heap.size) (ok := fun k_ => some k_ ≠ (.slice Ao75 t264.length co75 : Value).ownBlock) (n := t261.length) (c := co73) ?_).2.2; exact (by (with_reducible repeat (first | apply Kd.S_alloc | apply Kd.S_drewN | apply Kd.S_drew)); exact (Kd.S_mono (Kd.S_far (p := ⟨gb268, 1, none⟩) (Kd.S_far (p := ⟨gb268, 0, none⟩) (Kd.S_types HO263.out BK268.out (by decide)) (fun _ hk => hk.2) (.slice Ao73 t261.length co73)) (fun _ hk => hk.2) (.slice Ao75 t264.length co75)) (fun _ h_ => h_.1)))); (case side2 => exact (Kd.S_reads' HO263.out).2.1); (case side3 => refine (Kd.S_reads' (e := 33) (base := w.heap.size) (ok := fun k_ => some k_ ≠ (.slice Ao73 t261.length co73 : Value).ownBlock) (n := t264.length) (c := co75) ?_).2.2; exact (by (with_reducible repeat (first | apply Kd.S_alloc | apply Kd.S_drewN | apply Kd.S_drew)); exact (Kd.S_mono (Kd.S_far (p := ⟨gb268, 1, none⟩) (Kd.S_far (p := ⟨gb268, 0, none⟩) (Kd.S_types HO266.out BK268.out (by decide)) (fun _ hk => hk.2) (.slice Ao73 t261.length co73)) (fun _ hk => hk.2) (.slice Ao75 t264.length co75)) (fun _ h_ => h_.1)))); (case side4 => exact (Kd.S_reads' HO266.out).2.1); rintro e w76 ⟨v270, rfl, ho0, hb⟩; have n0_ := Aside0.mk (Kd.S_elder' (by (with_reducible repeat (first | apply Kd.S_alloc | apply Kd.S_drewN | apply Kd.S_drew)); exact (Kd.S_mono (Kd.S_far (p := ⟨gb268, 1, none⟩) (Kd.S_far (p := ⟨gb268, 0, none⟩) (Kd.S_types HO263.out BK268.out (by decide)) (fun _ hk => hk.2) (.slice Ao73 t261.length co73)) (fun _ hk => hk.2) (.slice Ao75 t264.length co75)) (fun _ h_ => h_.1))) (Kd.R_base ho0) hb); have n1_ := Aside0.mk (Kd.S_elder' (by (with_reducible repeat (first | apply Kd.S_alloc | apply Kd.S_drewN | apply Kd.S_drew)); exact (Kd.S_mono (Kd.S_far (p := ⟨gb268, 1, none⟩) (Kd.S_far (p := ⟨gb268, 0, none⟩) (Kd.S_types HO266.out BK268.out (by decide)) (fun _ hk => hk.2) (.slice Ao73 t261.length co73)) (fun _ hk => hk.2) (.slice Ao75 t264.length co75)) (fun _ h_ => h_.1))) (Kd.R_base ho0) hb); have n2_ := Aside0.mk (Kd.R_lower ho0 (below_size (by repeat (first | (with_reducible first | exact HB.out | apply below_alloc | apply pw_below_drewN | apply below_drew1 | refine below_set ?_ GE268.out) | exact HB.out)))); have n3_ := Aside0.mk (blk_below (g := gb268) (o := .cells #[.slice Ao73 t261.length co73, .slice Ao75 t264.length co75] 45 (0, 0)) (by (with_reducible repeat (first | refine blk_drewN ?_ _ | refine blk_drew ?_ | refine blk_alloc ?_ _)); refine blk_put (cs := #[.slice Ao73 t261.length co73, .slice none 0 0]) ?_ 1 _ rfl; (with_reducible repeat (first | refine blk_drewN ?_ _ | refine blk_drew ?_ | refine blk_alloc ?_ _)); refine blk_put (cs := #[.slice none 0 0, .slice none 0 0]) ?_ 0 _ rfl; (with_reducible repeat (first | refine blk_drewN ?_ _ | refine blk_drew ?_ | refine blk_alloc ?_ _)); exact BK268.out) hb); have n4_ := Aside0.mk (below_step (by repeat (first | (with_reducible first | exact HB.out | apply below_alloc | apply pw_below_drewN | apply below_drew1 | refine below_set ?_ GE268.out) | exact HB.out)) hb); clear HO263; clear HO266; clear BK268; clear HB; have HO263 := n0_; have HO266 := n1_; have HO271 := n2_; have BK268 := n3_; have HB := n4_; clear n0_ n1_ n2_ n3_ n4_; (try clear hb); (try clear hb2); (try clear hk); (try clear hi); (try clear ho0); obtain ⟨Ao77, co77, eo77⟩ := Kd.R_slice HO271.out; subst eo77)); try go_wp2_with (first | (go_at_call 21; (with_reducible refine (locksteplaw06_awake.calls k   _ A3.out).mono ?_); rintro e w70 ⟨rfl, hb⟩; have n0_ := Aside0.mk (below_step (by repeat (first | (with_reducible first | exact HB.out | apply below_alloc | apply pw_below_drewN | apply below_drew1) | exact HB.out)) hb); clear HB; have HB := n0_; clear n0_; (try clear hb); (try clear hb2); (try clear hk); (try clear hi)) | (go_at_call 22; (with_reducible refine (lockstepref06_Small.calls k _ _ l0 true _ ?side1 ?side2 A5.out).mono ?_); (case side1 => repeat (first | exact (Kd.C_below HR0.out HB.out) | (with_reducible refine Kd.C_alloc ?_ _) | (with_reducible refine Kd.C_drewN ?_ _) | (with_reducible refine Kd.C_drew ?_))); (case side2 => exact HC0.out); rintro e w' ⟨rfl, ⟨nd, rfl⟩⟩; (try first | exact ⟨rfl, _, World.drewN_drewN _ _ _⟩ | exact ⟨rfl, _, Eq.trans (World.drewN_drewN _ _ _) (congrArg (World.drewN _) (Nat.add_assoc _ _ _))⟩)) | (go_at_call 23; (with_reducible refine (graph_Make.calls k _ _ l0 t261 t264 t267 _ ?side1 ?side2 A7.out).mono ?_); (case side1 => repeat (first | exact (Kd.C_below HR0.out (by repeat (first | (with_reducible first | exact HB.out | apply below_alloc | apply pw_below_drewN | apply below_drew1) | exact HB.out))) | (with_reducible refine Kd.C_alloc ?_ _) | (with_reducible refine Kd.C_drewN ?_ _) | (with_reducible refine Kd.C_drew ?_))); (case side2 => exact HC0.out); rintro e w71 ⟨v262, v265, rfl, ho0, ho1, hb⟩; have n0_ := Aside0.mk (Kd.S_lower ho0 (below_size (by repeat (first | (with_reducible first | exact HB.out | apply below_alloc | apply pw_below_drewN | apply below_drew1) | exact HB.out)))); have n1_ := Aside0.mk (Kd.S_lower ho1 (below_size (by repeat (first | (with_reducible first | exact HB.out | apply below_alloc | apply pw_below_drewN | apply below_drew1) | exact HB.out)))); have n2_ := Aside0.mk (below_step (by repeat (first | (with_reducible first | exact HB.out | apply below_alloc | apply pw_below_drewN | apply below_drew1) | exact HB.out)) hb); clear HB; have HO263 := n0_; have HO266 := n1_; have HB := n2_; clear n0_ n1_ n2_; (try clear hb); (try clear hb2); (try clear hk); (try clear hi); (try clear ho0); (try clear ho1)) | ((with_reducible refine gate_dst (N := 5) rfl ?_); (try (refine gate_guard (by rfl) ?_; dsimp only)); refine box_event ?hg (N := 5) ?hd (cs := #[.slice none 0 0, .slice none 0 0]) (t := 45) ?hr ?_; (case hd => rfl); (case hg => rfl); (case hr => first | (go_simp; done) | (go_simp; rfl)); intro gb268 hg w72 hbox hb; have n0_ := Aside0.mk (Kd.S_below (by (with_reducible repeat (first | apply Kd.S_alloc | apply Kd.S_drewN | apply Kd.S_drew)); exact HO263.out) hb); have n1_ := Aside0.mk (Kd.S_below (by (with_reducible repeat (first | apply Kd.S_alloc | apply Kd.S_drewN | apply Kd.S_drew)); exact HO266.out) hb); have n2_ := Aside0.mk (below_step (by repeat (first | (with_reducible first | exact HB.out | apply below_alloc | apply pw_below_drewN | apply below_drew1) | exact HB.out)) hb); have n3_ := Aside0.mk (hbox); have n4_ := Aside0.mk ((by rw [hg]; exact (below_size (by repeat (first | (with_reducible first | exact HB.out | apply below_alloc | apply pw_below_drewN | apply below_drew1) | exact HB.out))) : w.heap.size ≤ gb268)); have n5_ := Aside0.mk ((by rw [hg]; exact (below_size (by repeat (first | (with_reducible first | exact HB.out | apply below_alloc | apply pw_below_drewN | apply below_drew1) | exact HB.out))) : w.heap.size ≤ gb268)); clear HO263; clear HO266; clear HB; have HO263 := n0_; have HO266 := n1_; have HB := n2_; have BK268 := n3_; have GW268 := n4_; have GE268 := n5_; clear n0_ n1_ n2_ n3_ n4_ n5_; clear hb hbox hg; obtain ⟨Ao73, co73, eo73⟩ := Kd.S_slice HO263.out; subst eo73; have hcz74_0 : w72.cell? ⟨gb268, 0, none⟩ = some (.slice none 0 0) := (blk_cell BK268.out 0).trans rfl; have hcz74_1 : w72.cell? ⟨gb268, 1, none⟩ = some (.slice none 0 0) := (blk_cell BK268.out 1).trans rfl; have hfz74_0 := blk_frozen BK268.out 0; have hfz74_1 := blk_frozen BK268.out 1; obtain ⟨Ao75, co75, eo75⟩ := Kd.S_slice HO266.out; subst eo75) | (go_at_call 24; (with_reducible refine (graph_Order.calls k _ _ t261 _ _ t264 0 t269 _ ?side1 ?side2 ?side3 ?side4 A69.out).mono ?_); (case side1 => refine (Kd.S_reads' (e := 33) (base := w.heap.size) (ok := fun k_ => some k_ ≠ (.slice Ao75 t264.length co75 : Value).ownBlock) (n := t261.length) (c := co73) ?_).2.2; exact (by (with_reducible repeat (first | apply Kd.S_alloc | apply Kd.S_drewN | apply Kd.S_drew)); exact (Kd.S_mono (Kd.S_far (p := ⟨gb268, 1, none⟩) (Kd.S_far (p := ⟨gb268, 0, none⟩) (Kd.S_types HO263.out BK268.out (by decide)) (fun _ hk => hk.2) (.slice Ao73 t261.length co73)) (fun _ hk => hk.2) (.slice Ao75 t264.length co75)) (fun _ h_ => h_.1)))); (case side2 => exact (Kd.S_reads' HO263.out).2.1); (case side3 => refine (Kd.S_reads' (e := 33) (base := w.heap.size) (ok := fun k_ => some k_ ≠ (.slice Ao73 t261.length co73 : Value).ownBlock) (n := t264.length) (c := co75) ?_).2.2; exact (by (with_reducible repeat (first | apply Kd.S_alloc | apply Kd.S_drewN | apply Kd.S_drew)); exact (Kd.S_mono (Kd.S_far (p := ⟨gb268, 1, none⟩) (Kd.S_far (p := ⟨gb268, 0, none⟩) (Kd.S_types HO266.out BK268.out (by decide)) (fun _ hk => hk.2) (.slice Ao73 t261.length co73)) (fun _ hk => hk.2) (.slice Ao75 t264.length co75)) (fun _ h_ => h_.1)))); (case side4 => exact (Kd.S_reads' HO266.out).2.1); rintro e w76 ⟨v270, rfl, ho0, hb⟩; have n0_ := Aside0.mk (Kd.S_elder' (by (with_reducible repeat (first | apply Kd.S_alloc | apply Kd.S_drewN | apply Kd.S_drew)); exact (Kd.S_mono (Kd.S_far (p := ⟨gb268, 1, none⟩) (Kd.S_far (p := ⟨gb268, 0, none⟩) (Kd.S_types HO263.out BK268.out (by decide)) (fun _ hk => hk.2) (.slice Ao73 t261.length co73)) (fun _ hk => hk.2) (.slice Ao75 t264.length co75)) (fun _ h_ => h_.1))) (Kd.R_base ho0) hb); have n1_ := Aside0.mk (Kd.S_elder' (by (with_reducible repeat (first | apply Kd.S_alloc | apply Kd.S_drewN | apply Kd.S_drew)); exact (Kd.S_mono (Kd.S_far (p := ⟨gb268, 1, none⟩) (Kd.S_far (p := ⟨gb268, 0, none⟩) (Kd.S_types HO266.out BK268.out (by decide)) (fun _ hk => hk.2) (.slice Ao73 t261.length co73)) (fun _ hk => hk.2) (.slice Ao75 t264.length co75)) (fun _ h_ => h_.1))) (Kd.R_base ho0) hb); have n2_ := Aside0.mk (Kd.R_lower ho0 (below_size (by repeat (first | (with_reducible first | exact HB.out | apply below_alloc | apply pw_below_drewN | apply below_drew1 | refine below_set ?_ GE268.out) | exact HB.out)))); have n3_ := Aside0.mk (blk_below (g := gb268) (o := .cells #[.slice Ao73 t261.length co73, .slice Ao75 t264.length co75] 45 (0, 0)) (by (with_reducible repeat (first | refine blk_drewN ?_ _ | refine blk_drew ?_ | refine blk_alloc ?_ _)); refine blk_put (cs := #[.slice Ao73 t261.length co73, .slice none 0 0]) ?_ 1 _ rfl; (with_reducible repeat (first | refine blk_drewN ?_ _ | refine blk_drew ?_ | refine blk_alloc ?_ _)); refine blk_put (cs := #[.slice none 0 0, .slice none 0 0]) ?_ 0 _ rfl; (with_reducible repeat (first | refine blk_drewN ?_ _ | refine blk_drew ?_ | refine blk_alloc ?_ _)); exact BK268.out) hb); have n4_ := Aside0.mk (below_step (by repeat (first | (with_reducible first | exact HB.out | apply below_alloc | apply pw_below_drewN | apply below_drew1 | refine below_set ?_ GE268.out) | exact HB.out)) hb); clear HO263; clear HO266; clear BK268; clear HB; have HO263 := n0_; have HO266 := n1_; have HO271 := n2_; have BK268 := n3_; have HB := n4_; clear n0_ n1_ n2_ n3_ n4_; (try clear hb); (try clear hb2); (try clear hk); (try clear hi); (try clear ho0); obtain ⟨Ao77, co77, eo77⟩ := Kd.R_slice HO271.out; subst eo77)))
        go_ret
        exact ⟨by first | rfl | exact congrArg (fun b => Ending.returned (Value.bool b)) HR_.out | (simp [errW_none, errW_some] <;> rfl) | (simp [*, errW_none, errW_some] <;> rfl), by repeat (first | (with_reducible first | exact HB.out | apply below_alloc | apply pw_below_drewN | apply below_drew1 | refine below_set ?_ GE268.out) | exact HB.out)⟩
    · replace c6 := Bool.eq_false_iff.mpr c6
      subst c6
      have H1 : (some true) = some true := rfl
      clear H
      have H := H1
      clear H1
      clear H
      go_enter Try.func8, Try.ntmps8
      go_wp2_with (first | (go_at_call 21; (with_reducible refine (locksteplaw06_awake.calls k   _ A3.out).mono ?_); rintro e w78 ⟨rfl, hb⟩; have n0_ := Aside0.mk (below_step (by repeat (first | (with_reducible first | exact HB.out | apply below_alloc | apply pw_below_drewN | apply below_drew1) | exact HB.out)) hb); clear HB; have HB := n0_; clear n0_; (try clear hb); (try clear hb2); (try clear hk); (try clear hi)) | (go_at_call 22; (with_reducible refine (lockstepref06_Small.calls k _ _ l0 false _ ?side1 ?side2 A5.out).mono ?_); (case side1 => repeat (first | exact (Kd.C_below HR0.out HB.out) | (with_reducible refine Kd.C_alloc ?_ _) | (with_reducible refine Kd.C_drewN ?_ _) | (with_reducible refine Kd.C_drew ?_))); (case side2 => exact HC0.out); rintro e w' ⟨rfl, ⟨nd, rfl⟩⟩; (try first | exact ⟨rfl, _, World.drewN_drewN _ _ _⟩ | exact ⟨rfl, _, Eq.trans (World.drewN_drewN _ _ _) (congrArg (World.drewN _) (Nat.add_assoc _ _ _))⟩)))
      repeat (go_quiet (first | (go_at_call 21; (with_reducible refine (locksteplaw06_awake.calls k   _ A3.out).mono ?_); rintro e w78 ⟨rfl, hb⟩; have n0_ := Aside0.mk (below_step (by repeat (first | (with_reducible first | exact HB.out | apply below_alloc | apply pw_below_drewN | apply below_drew1) | exact HB.out)) hb); clear HB; have HB := n0_; clear n0_; (try clear hb); (try clear hb2); (try clear hk); (try clear hi)) | (go_at_call 22; (with_reducible refine (lockstepref06_Small.calls k _ _ l0 false _ ?side1 ?side2 A5.out).mono ?_); (case side1 => repeat (first | exact (Kd.C_below HR0.out HB.out) | (with_reducible refine Kd.C_alloc ?_ _) | (with_reducible refine Kd.C_drewN ?_ _) | (with_reducible refine Kd.C_drew ?_))); (case side2 => exact HC0.out); rintro e w' ⟨rfl, ⟨nd, rfl⟩⟩; (try first | exact ⟨rfl, _, World.drewN_drewN _ _ _⟩ | exact ⟨rfl, _, Eq.trans (World.drewN_drewN _ _ _) (congrArg (World.drewN _) (Nat.add_assoc _ _ _))⟩))); try go_wp2_with (first | (go_at_call 21; (with_reducible refine (locksteplaw06_awake.calls k   _ A3.out).mono ?_); rintro e w78 ⟨rfl, hb⟩; have n0_ := Aside0.mk (below_step (by repeat (first | (with_reducible first | exact HB.out | apply below_alloc | apply pw_below_drewN | apply below_drew1) | exact HB.out)) hb); clear HB; have HB := n0_; clear n0_; (try clear hb); (try clear hb2); (try clear hk); (try clear hi)) | (go_at_call 22; (with_reducible refine (lockstepref06_Small.calls k _ _ l0 false _ ?side1 ?side2 A5.out).mono ?_); (case side1 => repeat (first | exact (Kd.C_below HR0.out HB.out) | (with_reducible refine Kd.C_alloc ?_ _) | (with_reducible refine Kd.C_drewN ?_ _) | (with_reducible refine Kd.C_drew ?_))); (case side2 => exact HC0.out); rintro e w' ⟨rfl, ⟨nd, rfl⟩⟩; (try first | exact ⟨rfl, _, World.drewN_drewN _ _ _⟩ | exact ⟨rfl, _, Eq.trans (World.drewN_drewN _ _ _) (congrArg (World.drewN _) (Nat.add_assoc _ _ _))⟩))))
      go_ret
      exact ⟨by first | rfl | exact congrArg (fun b => Ending.returned (Value.bool b)) HR_.out | (simp [errW_none, errW_some] <;> rfl) | (simp [*, errW_none, errW_some] <;> rfl), by repeat (first | (with_reducible first | exact HB.out | apply below_alloc | apply pw_below_drewN | apply below_drew1) | exact HB.out)⟩
  · replace c4 := Bool.eq_false_iff.mpr c4
    subst c4
    have H1 : (some false) = some true := by rw [if_neg (show ¬ (false = true) by decide)] at H; exact H
    clear H
    have H := H1
    clear H1
    exact absurd H (by simp)

/-- THE ONE PURE STATEMENT of locksteplaw06_GraphReaches: yours. -/
def locksteplaw06_GraphReaches.Pure : Prop := ∀ (l0 : List (List Int)) (a1 : Int), RowsOk .i64 l0 → (Lit.int .u8 a1).wf = true → ∃ k, locksteplaw06_GraphReaches.f k l0 a1 = some true
theorem locksteplaw06_GraphReaches.walk (P : locksteplaw06_GraphReaches.Pure) (a0 : Option Addr) (cap0 : Nat) (l0 : List (List Int)) (a1 : Int) (w : World) (w0 : Kd.C (Kd.slice 3 (Kd.int .i64)) w a0 l0.length l0) (y0 : l0.length ≤ cap0) (m0 : RowsOk .i64 l0) (w1 : (Lit.int .u8 a1).wf = true) :
    Calls Try.prog 8 #[.slice a0 l0.length cap0, .int .u8 a1] w fun e w' => e = .returned (.bool true) ∧ Below w.heap.size w w' := by
  obtain ⟨k, h⟩ := P l0 a1 m0 w1
  refine (locksteplaw06_GraphReaches.calls k _ _ l0 a1 w w0 y0 h).mono ?_
  rintro e w' ⟨rfl, hd⟩
  exact ⟨rfl, hd⟩

end Go.Proofs.Ytokfaaemhniodaa.G
