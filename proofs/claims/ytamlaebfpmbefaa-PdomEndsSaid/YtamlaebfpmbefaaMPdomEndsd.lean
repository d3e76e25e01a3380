/- Texts of this session, joined by wip/tools/merge.py. Conditions: each theorem's own. -/
import Derived.WalkMore
import Derived.Test.YtamlaebfpmbefaaWTab
import Derived.Test.YtamlaebfpmbefaaWWords
import Derived.Test.YtamlaebfpmbefaaHMake
import Derived.Test.YtamlaebfpmbefaaHArr
import Derived.Test.YtamlaebfpmbefaaGx0
import Derived.Test.YtamlaebfpmbefaaGx4
import Derived.Test.YtamlaebfpmbefaaGx7
import Derived.Test.YtamlaebfpmbefaaGx8
namespace Go.Proofs.YtamlaebfpmbefaaH
open Go Go.RowKit Go.Proofs.YtamlaebfpmbefaaW.PrintWords Go.Proofs.YtamlaebfpmbefaaW.PrintLast
section
variable {P : Program} {ops : Array Oper} {Q : Exit → Act → World → Prop} {md : Region.Mode} {S : World → Prop} {ds : List Nat} {T : Bool × List (List Nat × List Nat)}
/-- An operation that yields in every world. -/
theorem PU_ (HT : Aside0 (rtab md ops = T)) (i N : Nat) {oi : Oper} {v : Value} {fuel : Nat} {l : Array Bool} {a a' : Act} {w : World} (l' : Array Bool) (hi : ops[i]? = some oi := by exact rfl) (hN : oi.dst = some N := by exact rfl)
    (hc : anyT T l.toList l'.toList i = true := by kernel_rfl) (hw : Region.wanted oi (yielded ops a.tmps) = true := by rfl) (hy : ∀ w', (execOp a.eval oi).run P w' = .ok (.value v) w' := by (intro w'; go_simp; with_reducible rfl))
    (hQ : ∀ c a w, Q (.panic c) (a.put oi.dst v) w → Q (.panic c) a w := by exact fun _ _ _ h => h) (ha : a.put (some N) v = a' := by (simp only [Act.put, List.setIfInBounds_toArray, List.set_cons_zero, List.set_cons_succ, i64_w, i32_w]; rfl))
    (h : wpAnyLast P md ops Q S ds fuel l' a' w) : wpAnyLast P md ops Q S ds (fuel + 1) l a w := pure_ l' hi hN (any_of HT.out hc) hQ (Or.inl ⟨hw, hy⟩) ha h
/-- An operation that isn't wanted. -/
theorem PO_ (HT : Aside0 (rtab md ops = T)) (i N : Nat) {oi : Oper} {fuel : Nat} {l : Array Bool} {a a' : Act} {w : World} (l' : Array Bool) (hi : ops[i]? = some oi := by exact rfl) (hN : oi.dst = some N := by exact rfl)
    (hc : anyT T l.toList l'.toList i = true := by kernel_rfl) (hw : Region.wanted oi (yielded ops a.tmps) = false := by rfl)
    (hQ : ∀ c a w, Q (.panic c) (a.put oi.dst undef) w → Q (.panic c) a w := by exact fun _ _ _ h => h) (ha : a.put (some N) undef = a' := by (simp only [Act.put, List.setIfInBounds_toArray, List.set_cons_zero, List.set_cons_succ, i64_w, i32_w]; rfl))
    (h : wpAnyLast P md ops Q S ds fuel l' a' w) : wpAnyLast P md ops Q S ds (fuel + 1) l a w := pure_ l' hi hN (any_of HT.out hc) hQ (Or.inr ⟨hw, rfl⟩) ha h
/-- An operation that reads what is held. -/
theorem TA_ {B : List Nat} (HT : Aside0 (rtab md ops = T)) (HW : Aside0 (waitsOk T.2 B = true)) (i N : Nat) {oi : Oper} {v : Value} {fuel : Nat} {l : Array Bool} {a a' : Act} {w : World} (hH : S w) (l' : Array Bool) (hi : ops[i]? = some oi := by exact rfl) (hN : oi.dst = some N := by exact rfl)
    (hc : takeW T B ds l.toList l'.toList i = true := by kernel_rfl) (hw : Region.wanted oi (yielded ops a.tmps) = true := by rfl) (hy : ∀ w', S w' → (execOp a.eval oi).run P w' = .ok (.value v) w' := by (intro w' hs_; (repeat (obtain ⟨_, hs_⟩ := hs_)); go_simp; with_reducible rfl))
    (hQ : ∀ c a w, Q (.panic c) (a.put oi.dst v) w → Q (.panic c) a w := by exact fun _ _ _ h => h) (ha : a.put (some N) v = a' := by (simp only [Act.put, List.setIfInBounds_toArray, List.set_cons_zero, List.set_cons_succ, i64_w, i32_w]; rfl))
    (h : wpAnyLast P md ops Q S ds fuel l' a' w) : wpAnyLast P md ops Q S ds (fuel + 1) l a w := take_ l' hi hN (take_ofW HT.out HW.out hc) hQ (Or.inl ⟨hw, hy⟩) hH ha h
end
end Go.Proofs.YtamlaebfpmbefaaH
namespace Go.Proofs.Ytamlaebfpmbefaa.G
open Go.Proofs.YtamlaebfpmbefaaH
open Go.RowKit Go.Proofs.YtamlaebfpmbefaaW.PrintWords Go.Proofs.YtamlaebfpmbefaaW.PrintLast Go.Proofs.YtamlaebfpmbefaaW.PrintMore
attribute [local go_sem] max2_int min2_int max_two min_two max_three min_three max_four min_four   -- for this text's walks alone
set_option linter.unusedVariables false
set_option linter.unusedSimpArgs false

/-! ### pdom_missing: function 27 -/
-- needs HArr
def pdom_missing.l0 : Nat → List (List Int) → List Bool → Int → Option Int
 | 0, _, _, _ => none
 | k + 1, x0, m, i => if i < (x0.length : Int) then (if 0 ≤ i then (if i < 64 then (if rdOf false m i = true then (pdom_missing.l0 k x0 m (wrap64 (i + 1))) else some i) else none) else none) else some (x0.length : Int)
def pdom_missing.f (k : Nat) (l0_0 : List (List Int)) (l0_1 : List (List Int)) (l1 : List Bool) : Option Int := pdom_missing.l0 k l0_0 l1 0
theorem pdom_missing.mono_l : ∀ k y0 y1 y2, LeO (pdom_missing.l0 k y0 y1 y2) (pdom_missing.l0 (k + 1) y0 y1 y2)
 | 0 => fun _ _ _ r h => by simp [pdom_missing.l0] at h
 | k + 1 => by
  have ih0 := pdom_missing.mono_l k
  intro y0 y1 y2
  unfold pdom_missing.l0
  repeat' first
   | (with_reducible exact ih0 _ _ _)
   | (with_reducible exact LeO.refl _)
   | (with_reducible exact LeO.none _)
   | (with_reducible refine LeO.ite ?_ ?_)
theorem pdom_missing.mono : ∀ a0 a1 a2 k, LeO (pdom_missing.f k a0 a1 a2) (pdom_missing.f (k + 1) a0 a1 a2) := fun _ _ _ k => pdom_missing.mono_l k _ _ _
set_option maxHeartbeats 8000000 in
set_option maxRecDepth 100000 in
theorem pdom_missing.calls (k : Nat) (A0_0 : Option Addr) (c0_0 : Nat) (l0_0 : List (List Int)) (A0_1 : Option Addr) (c0_1 : Nat) (l0_1 : List (List Int)) (l1 : List Bool) (r : Int) (w : World) (hl1 : l1.length = 64) (h : pdom_missing.f k l0_0 l0_1 l1 = some r) :
 Calls Try.prog 27 #[.agg #[.slice A0_0 l0_0.length c0_0, .slice A0_1 l0_1.length c0_1], .agg (AV l1)] w fun e w' => e = .returned (.int .i64 r) ∧ Below w.heap.size w w' := by
 have HB := Aside0.mk (Below.refl w.heap.size w)
 have HM := Aside0.mk hl1
 have H : (pdom_missing.l0 k l0_0 l1 0) = some r := h
 clear h hl1
 have H' := Aside0.mk H
 clear H
 go_enter Try.func27, Try.ntmps27
 go_wp2_with (first
  | ((with_reducible refine gate_dst (N := 2) rfl ?_); refine box_event ?hg (N := 2) ?hd (cs := #[.slice A0_0 l0_0.length c0_0, .slice A0_1 l0_1.length c0_1]) (t := 26) ?hr ?_; (case hd => rfl); (case hg => rfl); (case hr => first | (go_simp; done) | (go_simp; rfl)); intro g1 hg w1 hbox hb; have n0_ := Aside0.mk (below_step (B_) hb); have n1_ := Aside0.mk hbox; clear HB; have HB := n0_; have BK1 := n1_; clear n0_ n1_ hb hbox hg)
  | ((with_reducible refine gate_dst (N := 3) rfl ?_); refine box_event ?hg (N := 3) ?hd (cs := AV l1) (t := 47) ?hr ?_; (case hd => rfl); (case hg => rfl); (case hr => first | (go_simp; done) | (go_simp; rfl) | (go_simp; kernel_rfl)); intro g2 hg w2 hbox hb; have n0_ := Aside0.mk (blk_below BK1.out hb); have n1_ := Aside0.mk (below_step (B_) hb); have n2_ := Aside0.mk hbox; clear BK1 HB; have BK1 := n0_; have HB := n1_; have BK2 := n2_; clear n0_ n1_ n2_ hb hbox hg; have hcz1_0 : w2.cell? ⟨g1, 0, none⟩ = some (.slice A0_0 l0_0.length c0_0) := (blk_cell BK1.out 0).trans rfl; have hfz1_0 := blk_frozen BK1.out 0))
 go_loopg [9] k (fun kq v9 w' => ∃ (i : Int), v9 = .int .i64 i ∧ Aside0 (pdom_missing.l0 kq l0_0 l1 i = some r) ∧ Aside0 (kq ≤ k) ∧ Aside0 (w'.heap[g1]? = some (.cells #[.slice A0_0 l0_0.length c0_0, .slice A0_1 l0_1.length c0_1] 26 (0, 0))) ∧ Aside0 (w'.heap[g2]? = some (.cells (AV l1) 47 (0, 0))) ∧ Aside0 (Below w.heap.size w w'))
 case atStart => exact ⟨0, (by first | rfl | (simp; done) | (simp [*]; done)), H', ⟨Nat.le_refl _⟩, ⟨KX_ BK1.out⟩, ⟨KX_ BK2.out⟩, ⟨B_⟩⟩
 case round =>
  clear H'
  obtain ⟨i, rfl, HA, HK1, BK1, BK2, HB⟩ := hrel
  cases gk with
  | zero => exact absurd HA.out (by simp [pdom_missing.l0])
  | succ k1 =>
   have H := HA.out
   clear HA
   simp only [pdom_missing.l0] at H
   have hcz1_0 : wr.cell? ⟨g1, 0, none⟩ = some (.slice A0_0 l0_0.length c0_0) := (blk_cell BK1.out 0).trans rfl
   have hfz1_0 := blk_frozen BK1.out 0
   by_cases c6 : i < (l0_0.length : Int)
   ·rw [if_pos c6] at H
    have c6b0 : decide (i < (l0_0.length : Int)) = true := decide_eq_true c6
    clear c6
    by_cases c7 : 0 ≤ i
    ·rw [if_pos c7] at H
     have C7 := Aside0.mk c7
     have p7 := eq_true c7
     clear c7
     by_cases c8 : i < 64
     ·rw [if_pos c8] at H
      have C8 := Aside0.mk c8
      clear c8
      have q64 : (i < (64 : Int)) = True := eq_true C8.out
      have hx3 := av_cell BK2.out i (by rw [HM.out]; exact C8.out) C7.out
      by_cases c9 : rdOf false l1 i = true
      ·rw [if_pos c9] at H
       rw [c9] at hx3
       clear c9
       have H' := Aside0.mk H
       clear H
       go_wp2
       go_roundg k1
       case measure => have := HK1.out; omega
       case rel => exact ⟨(wrap64 (i + 1)), (by first | rfl | (simp; done) | (simp [*]; done)), H', ⟨by have := HK1.out; omega⟩, ⟨KX_ BK1.out⟩, ⟨KX_ BK2.out⟩, ⟨B_⟩⟩
      rw [if_neg c9] at H
      rw [Bool.eq_false_iff.mpr c9] at hx3
      clear c9
      obtain rfl := Option.some.inj H
      go_wp2
      go_ret
      exact ⟨by first | rfl | (simp; done) | (simp [*]; done), B_⟩
     rw [if_neg c8] at H
     exact absurd H (by simp)
    rw [if_neg c7] at H
    exact absurd H (by simp)
   rw [if_neg c6] at H
   have c6b0 : decide (i < (l0_0.length : Int)) = false := decide_eq_false c6
   clear c6
   obtain rfl := Option.some.inj H
   go_wp2
   go_ret
   exact ⟨by first | rfl | (simp; done) | (simp [*]; done), B_⟩


/-! ### pdom_Exit: function 11 -/
-- needs HArr
def pdom_Exit.l1 : Nat → List (List Int) → List Bool → List (List Int) → Int → Option (List (List Int) × List (List Int) × Int)
 | 0, _, _, _, _ => none
 | k + 1, s, out, x, i => if i < (s.length : Int) then (if 0 ≤ i then (if i < (x.length : Int) then (if i < 64 then (if (rd_L1 x i).length + (rd_L1 s i).length < 17592186044416 then (if rdOf false out i = true then (if (rd_L1 (x.set i.toNat (rd_L1 x i ++ rd_L1 s i)) i).length < 17592186044416 then (pdom_Exit.l1 k s out ((x.set i.toNat (rd_L1 x i ++ rd_L1 s i)).set i.toNat (rd_L1 (x.set i.toNat (rd_L1 x i ++ rd_L1 s i)) i ++ [(s.length : Int)])) (wrap64 (i + 1))) else none) else (pdom_Exit.l1 k s out (x.set i.toNat (rd_L1 x i ++ rd_L1 s i)) (wrap64 (i + 1)))) else none) else none) else none) else none) else (graph_Make.f k x)
def pdom_Exit.l0 : Nat → List (List Int) → List (List Int) → List Bool → List Bool → Option (List (List Int) × List (List Int) × Int)
 | 0, _, _, _, _ => none
 | k + 1, s, p, out, m => (pdom_missing.f k s p m).bind fun i => if i < (s.length : Int) then (if 0 ≤ i then (if i < 64 then ((pdom_back.f k s p (m.set i.toNat true)).bind fun m2 => pdom_Exit.l0 k s p (out.set i.toNat true) m2) else none) else none) else (if 0 ≤ wrap64 ((s.length : Int) + 1) then (if (wrap64 ((s.length : Int) + 1)).toNat ≤ 11728124029610 then (pdom_Exit.l1 k s out (List.replicate (wrap64 ((s.length : Int) + 1)).toNat []) 0) else none) else none)
def pdom_Exit.f (k : Nat) (l0_0 : List (List Int)) (l0_1 : List (List Int)) : Option (List (List Int) × List (List Int) × Int) := (graph_May.f k l0_0 l0_1).bind fun t => if t = true then (if (l0_0.length : Int) ≥ 64 then some ([], [], 5) else ((pdom_ends.f k l0_0 l0_1).bind fun out => (pdom_back.f k l0_0 l0_1 out).bind fun m => pdom_Exit.l0 k l0_0 l0_1 out m)) else some ([], [], 5)
theorem pdom_Exit.mono_l1 : ∀ k y0 y1 y2 y3, LeO (pdom_Exit.l1 k y0 y1 y2 y3) (pdom_Exit.l1 (k + 1) y0 y1 y2 y3)
 | 0 => fun _ _ _ _ r h => by simp [pdom_Exit.l1] at h
 | k + 1 => by
  have ih0 := pdom_Exit.mono_l1 k
  intro y0 y1 y2 y3
  unfold pdom_Exit.l1
  repeat' first
   | (with_reducible exact ih0 _ _ _ _)
   | (with_reducible exact graph_Make.mono _ _)
   | (with_reducible exact LeO.refl _)
   | (with_reducible exact LeO.none _)
   | (with_reducible refine LeO.ite ?_ ?_)
theorem pdom_Exit.mono_l0 : ∀ k y0 y1 y2 y3, LeO (pdom_Exit.l0 k y0 y1 y2 y3) (pdom_Exit.l0 (k + 1) y0 y1 y2 y3)
 | 0 => fun _ _ _ _ r h => by simp [pdom_Exit.l0] at h
 | k + 1 => by
  have ih0 := pdom_Exit.mono_l0 k
  intro y0 y1 y2 y3
  unfold pdom_Exit.l0
  repeat' first
   | (with_reducible exact ih0 _ _ _ _)
   | (with_reducible exact pdom_Exit.mono_l1 _ _ _ _ _)
   | (with_reducible exact pdom_missing.mono _ _ _ _)
   | (with_reducible exact pdom_back.mono _ _ _ _)
   | (with_reducible exact LeO.none _)
   | (with_reducible refine LeO.ite ?_ ?_)
   | (with_reducible refine LeO.bind ?_ (fun _ => ?_))
theorem pdom_Exit.mono : ∀ a0 a1 k, LeO (pdom_Exit.f k a0 a1) (pdom_Exit.f (k + 1) a0 a1) := by
 intro a0 a1 k
 unfold pdom_Exit.f
 exact LeO.bind (graph_May.mono _ _ _) (fun _ => LeO.ite (LeO.ite (LeO.refl _) (LeO.bind (pdom_ends.mono _ _ _) (fun _ => LeO.bind (pdom_back.mono _ _ _ _) (fun _ => pdom_Exit.mono_l0 _ _ _ _ _)))) (LeO.refl _))
set_option maxHeartbeats 8000000 in
set_option maxRecDepth 100000 in
theorem pdom_Exit.calls (k : Nat) (A0_0 : Option Addr) (c0_0 : Nat) (l0_0 : List (List Int)) (A0_1 : Option Addr) (c0_1 : Nat) (l0_1 : List (List Int)) (r1 : List (List Int)) (r2 : List (List Int)) (r3 : Int) (w : World) (hr0_0 : Kd.C (Kd.slice 3 (Kd.int .i64)) w A0_0 l0_0.length l0_0) (hc0_0 : l0_0.length ≤ c0_0) (hr0_1 : Kd.C (Kd.slice 3 (Kd.int .i64)) w A0_1 l0_1.length l0_1) (hc0_1 : l0_1.length ≤ c0_1) (h : pdom_Exit.f k l0_0 l0_1 = some (r1, r2, r3)) :
 Calls Try.prog 11 #[.agg #[.slice A0_0 l0_0.length c0_0, .slice A0_1 l0_1.length c0_1]] w fun e w' => ∃ v0_ v1_ : Value, e = .returned (.tuple #[.agg #[v0_, v1_], .int .i64 r3]) ∧ Kd.S (Kd.slice 3 (Kd.int .i64)) 30 w' w.heap.size (fun k_ => some k_ ≠ (v1_ : Value).ownBlock) v0_ r1 ∧ Kd.S (Kd.slice 3 (Kd.int .i64)) 30 w' w.heap.size (fun k_ => some k_ ≠ (v0_ : Value).ownBlock) v1_ r2 ∧ Below w.heap.size w w' := by
 have HB := Aside0.mk (Below.refl w.heap.size w)
 have HR0_0 := Aside0.mk hr0_0
 have HC0_0 := Aside0.mk hc0_0
 have HR0_1 := Aside0.mk hr0_1
 have HC0_1 := Aside0.mk hc0_1
 have H : ((graph_May.f k l0_0 l0_1).bind fun t => if t = true then (if (l0_0.length : Int) ≥ 64 then some ([], [], 5) else ((pdom_ends.f k l0_0 l0_1).bind fun out => (pdom_back.f k l0_0 l0_1 out).bind fun m => pdom_Exit.l0 k l0_0 l0_1 out m)) else some ([], [], 5)) = some (r1, r2, r3) := h
 clear h hr0_0 hc0_0 hr0_1 hc0_1
 have H' := Aside0.mk H
 clear H
 go_enter Try.func11, Try.ntmps11
 go_wp2_with (first
  | ((with_reducible refine gate_dst (N := 1) rfl ?_); refine box_event ?hg (N := 1) ?hd (cs := #[.slice A0_0 l0_0.length c0_0, .slice A0_1 l0_1.length c0_1]) (t := 26) ?hr ?_; (case hd => rfl); (case hg => rfl); (case hr => first | (go_simp; done) | (go_simp; rfl)); intro g1 hg w1 hbox hb; have n0_ := Aside0.mk (below_step (B_) hb); have n1_ := Aside0.mk hbox; clear HB; have HB := n0_; have BK1 := n1_; clear n0_ n1_ hb hbox hg)
  | ((with_reducible refine gate_dst (N := 2) rfl ?_); refine box_event ?hg (N := 2) ?hd (cs := #[.slice none 0 0, .slice none 0 0]) (t := 26) ?hr ?_; (case hd => rfl); (case hg => rfl); (case hr => first | (go_simp; done) | (go_simp; rfl)); intro g2 hg w2 hbox hb; have n0_ := Aside0.mk (blk_below BK1.out hb); have n1_ := Aside0.mk (below_step (B_) hb); have n2_ := Aside0.mk hbox; have GE2 := Aside0.mk ((by rw [hg]; exact (below_size (B_)) : w.heap.size ≤ g2)); have NB1_2 := Aside0.mk ((by rw [hg]; exact Nat.ne_of_lt (blk_lt BK1.out) : g1 ≠ g2)); clear BK1 HB; have BK1 := n0_; have HB := n1_; have BK2 := n2_; clear n0_ n1_ n2_ hb hbox hg))
 apply lab_enter 0; (case hf => rfl)
 have H := H'.out
 clear H'
 replace H := Option.bind_eq_some_iff.mp H
 obtain ⟨t1, A1_, H⟩ := H
 have A1 := Aside0.mk A1_
 clear A1_
 have hcz1_0 : w2.cell? ⟨g1, 0, none⟩ = some (.slice A0_0 l0_0.length c0_0) := (blk_cell BK1.out 0).trans rfl
 have hcz1_1 : w2.cell? ⟨g1, 1, none⟩ = some (.slice A0_1 l0_1.length c0_1) := (blk_cell BK1.out 1).trans rfl
 have hfz1_0 := blk_frozen BK1.out 0
 have hfz1_1 := blk_frozen BK1.out 1
 by_cases c7 : t1 = true
 ·subst c7
  rw [if_pos rfl] at H
  by_cases c8 : (l0_0.length : Int) ≥ 64
  ·rw [if_pos c8] at H
   have c8b0 : decide (64 ≤ (l0_0.length : Int)) = true := decide_eq_true c8
   have c8b1 : decide (64 ≤ l0_0.length) = true := decide_eq_true (by omega)
   clear c8
   simp only [Option.some.injEq, Prod.mk.injEq] at H
   obtain ⟨rfl, rfl, rfl⟩ := H
   go_wp2_with (first | (go_at_call 24; (with_reducible refine (graph_May.calls k _ _ l0_0 _ _ l0_1 true _ ?side1 ?side2 ?side3 ?side4 A1.out).mono ?_); (case side1 => exact Kd.C_below HR0_0.out (B_)); (case side2 => exact HC0_0.out); (case side3 => exact Kd.C_below HR0_1.out (B_)); (case side4 => exact HC0_1.out); rintro e w3 ⟨rfl, hb⟩; clear hcz1_0 hcz1_1 hfz1_0 hfz1_1; have n0_ := Aside0.mk (blk_below (g := g1) (o := (.cells #[.slice A0_0 l0_0.length c0_0, .slice A0_1 l0_1.length c0_1] 26 (0, 0))) (by exact KX_ BK1.out) hb); have n1_ := Aside0.mk (blk_below (g := g2) (o := (.cells #[.slice none 0 0, .slice none 0 0] 26 (0, 0))) (by exact KX_ BK2.out) hb); have nb_ := Aside0.mk (below_step (B_) hb); clear BK1 BK2 HB; have BK1 := n0_; have BK2 := n1_; have HB := nb_; clear n0_ n1_ nb_ hb; have hcz1_0 : w3.cell? ⟨g1, 0, none⟩ = some (.slice A0_0 l0_0.length c0_0) := (blk_cell BK1.out 0).trans rfl; have hcz1_1 : w3.cell? ⟨g1, 1, none⟩ = some (.slice A0_1 l0_1.length c0_1) := (blk_cell BK1.out 1).trans rfl; have hfz1_0 := blk_frozen BK1.out 0; have hfz1_1 := blk_frozen BK1.out 1; have hcz2_0 : w3.cell? ⟨g2, 0, none⟩ = some (.slice none 0 0) := (blk_cell BK2.out 0).trans rfl; have hcz2_1 : w3.cell? ⟨g2, 1, none⟩ = some (.slice none 0 0) := (blk_cell BK2.out 1).trans rfl; have hfz2_0 := blk_frozen BK2.out 0; have hfz2_1 := blk_frozen BK2.out 1))
   (try simp only [jumpg_ret, Exit.then, Exit.inBlock])
   refine bodyPost_ret (results_ct rfl _ _ g2 26 #[.slice none 0 0, .slice none 0 0] (0, 0) _ rfl (blk_put (cs := #[.slice none 0 0, .slice none 0 0]) (blk_put (cs := #[.slice none 0 0, .slice none 0 0]) BK2.out 0 _ rfl) 1 _ rfl) Try.underlying26 rfl (by kernel_rfl)) rfl ?_
   exact ⟨_, _, by first | rfl | (simp; done), Kd.S_nil _ _ _ _ _, Kd.S_nil _ _ _ _ _, B1_⟩
  rw [if_neg c8] at H
  have c8b0 : decide (64 ≤ (l0_0.length : Int)) = false := decide_eq_false c8
  have c8b1 : decide (64 ≤ l0_0.length) = false := decide_eq_false (by omega)
  have C8 := Aside0.mk c8
  clear c8
  replace H := Option.bind_eq_some_iff.mp H
  obtain ⟨out, A2_, H⟩ := H
  replace H := Option.bind_eq_some_iff.mp H
  obtain ⟨m, A3_, H⟩ := H
  have A2 := Aside0.mk A2_
  have A3 := Aside0.mk A3_
  have HE := Aside0.mk (pdom_ends.len A2_)
  have HM := Aside0.mk ((pdom_back.len A3_).trans (pdom_ends.len A2_))
  clear A2_ A3_
  have H' := Aside0.mk H
  clear H
  go_wp2_with (first
   | (go_at_call 24; (with_reducible refine (graph_May.calls k _ _ l0_0 _ _ l0_1 true _ ?side1 ?side2 ?side3 ?side4 A1.out).mono ?_); (case side1 => exact Kd.C_below HR0_0.out (B_)); (case side2 => exact HC0_0.out); (case side3 => exact Kd.C_below HR0_1.out (B_)); (case side4 => exact HC0_1.out); rintro e w3 ⟨rfl, hb⟩; clear hcz1_0 hcz1_1 hfz1_0 hfz1_1; have n0_ := Aside0.mk (blk_below (g := g1) (o := (.cells #[.slice A0_0 l0_0.length c0_0, .slice A0_1 l0_1.length c0_1] 26 (0, 0))) (by exact KX_ BK1.out) hb); have n1_ := Aside0.mk (blk_below (g := g2) (o := (.cells #[.slice none 0 0, .slice none 0 0] 26 (0, 0))) (by exact KX_ BK2.out) hb); have nb_ := Aside0.mk (below_step (B_) hb); clear BK1 BK2 HB; have BK1 := n0_; have BK2 := n1_; have HB := nb_; clear n0_ n1_ nb_ hb; have hcz1_0 : w3.cell? ⟨g1, 0, none⟩ = some (.slice A0_0 l0_0.length c0_0) := (blk_cell BK1.out 0).trans rfl; have hcz1_1 : w3.cell? ⟨g1, 1, none⟩ = some (.slice A0_1 l0_1.length c0_1) := (blk_cell BK1.out 1).trans rfl; have hfz1_0 := blk_frozen BK1.out 0; have hfz1_1 := blk_frozen BK1.out 1)
   | (go_at_call 25; (with_reducible refine (pdom_ends.calls k _ _ l0_0 _ _ l0_1 out _ ?side1 ?side2 A2.out).mono ?_); (case side1 => exact Kd.C_below HR0_0.out (B_)); (case side2 => exact HC0_0.out); rintro e w4 ⟨rfl, hb⟩; clear hcz1_0 hcz1_1 hfz1_0 hfz1_1; have n0_ := Aside0.mk (blk_below (g := g1) (o := (.cells #[.slice A0_0 l0_0.length c0_0, .slice A0_1 l0_1.length c0_1] 26 (0, 0))) (by exact KX_ BK1.out) hb); have n1_ := Aside0.mk (blk_below (g := g2) (o := (.cells #[.slice none 0 0, .slice none 0 0] 26 (0, 0))) (by exact KX_ BK2.out) hb); have nb_ := Aside0.mk (below_step (B_) hb); clear BK1 BK2 HB; have BK1 := n0_; have BK2 := n1_; have HB := nb_; clear n0_ n1_ nb_ hb; have hcz1_0 : w4.cell? ⟨g1, 0, none⟩ = some (.slice A0_0 l0_0.length c0_0) := (blk_cell BK1.out 0).trans rfl; have hcz1_1 : w4.cell? ⟨g1, 1, none⟩ = some (.slice A0_1 l0_1.length c0_1) := (blk_cell BK1.out 1).trans rfl; have hfz1_0 := blk_frozen BK1.out 0; have hfz1_1 := blk_frozen BK1.out 1)
   | ((with_reducible refine gate_dst (N := 5) rfl ?_); refine box_event ?hg (N := 5) ?hd (cs := AV (List.replicate 64 false)) (t := 47) ?hr ?_; (case hd => rfl); (case hg => rfl); (case hr => first | (go_simp; done) | (go_simp; rfl) | (go_simp; kernel_rfl)); intro g5 hg w5 hbox hb; clear hcz1_0 hcz1_1 hfz1_0 hfz1_1; have n0_ := Aside0.mk (blk_below (g := g1) (o := (.cells #[.slice A0_0 l0_0.length c0_0, .slice A0_1 l0_1.length c0_1] 26 (0, 0))) (by exact KX_ BK1.out) hb); have n1_ := Aside0.mk (blk_below (g := g2) (o := (.cells #[.slice none 0 0, .slice none 0 0] 26 (0, 0))) (by exact KX_ BK2.out) hb); have nb_ := Aside0.mk (below_step (B_) hb); have nn_ := Aside0.mk hbox; have GE5 := Aside0.mk ((by rw [hg]; exact (below_size (B_)) : w.heap.size ≤ g5)); have NB1_5 := Aside0.mk ((by rw [hg]; exact Nat.ne_of_lt (blk_lt BK1.out) : g1 ≠ g5)); have NB2_5 := Aside0.mk ((by rw [hg]; exact Nat.ne_of_lt (blk_lt BK2.out) : g2 ≠ g5)); clear BK1 BK2 HB; have BK1 := n0_; have BK2 := n1_; have HB := nb_; have BK5 := nn_; clear n0_ n1_ nb_ nn_ hb hbox hg; have hcz1_0 : w5.cell? ⟨g1, 0, none⟩ = some (.slice A0_0 l0_0.length c0_0) := (blk_cell BK1.out 0).trans rfl; have hcz1_1 : w5.cell? ⟨g1, 1, none⟩ = some (.slice A0_1 l0_1.length c0_1) := (blk_cell BK1.out 1).trans rfl; have hfz1_0 := blk_frozen BK1.out 0; have hfz1_1 := blk_frozen BK1.out 1)
   | ((with_reducible refine gate_store (t := 47) (p := 5) rfl ?_); refine av_store (g := g5) (l' := out) rfl 47 _ _ rfl rfl ?hx ?hy BK5.out ?hi ?hl ?_; (case hx => first | (go_simp; done) | (go_simp; rfl)); (case hy => first | (go_simp; done) | (go_simp; rfl)); (case hi => rw [HE.out]; kernel_rfl); (case hl => rw [HE.out]; simp); intro w6 hw; clear hcz1_0 hcz1_1 hfz1_0 hfz1_1; have nn_ := Aside0.mk (by rw [hw]; exact av_stored BK5.out : w6.heap[g5]? = some (.cells (AV out) 47 (0, 0))); have nb_ := Aside0.mk ((by rw [hw]; exact below_setRow (B_) GE5.out _ : Below w.heap.size w w6)); have n0_ := Aside0.mk (by rw [hw]; exact blk_row (by exact KX_ BK1.out) NB1_5.out _ : w6.heap[g1]? = some (.cells #[.slice A0_0 l0_0.length c0_0, .slice A0_1 l0_1.length c0_1] 26 (0, 0))); have n1_ := Aside0.mk (by rw [hw]; exact blk_row (by exact KX_ BK2.out) NB2_5.out _ : w6.heap[g2]? = some (.cells #[.slice none 0 0, .slice none 0 0] 26 (0, 0))); clear BK5 BK1 BK2 HB; have BK1 := n0_; have BK2 := n1_; have HB := nb_; have BK5 := nn_; clear n0_ n1_ nb_ nn_ hw; have hcz1_0 : w6.cell? ⟨g1, 0, none⟩ = some (.slice A0_0 l0_0.length c0_0) := (blk_cell BK1.out 0).trans rfl; have hcz1_1 : w6.cell? ⟨g1, 1, none⟩ = some (.slice A0_1 l0_1.length c0_1) := (blk_cell BK1.out 1).trans rfl; have hfz1_0 := blk_frozen BK1.out 0; have hfz1_1 := blk_frozen BK1.out 1)
   | ((with_reducible refine gate_dst (N := 25) rfl ?_); refine av_load (g := g5) rfl 47 _ rfl ?hx BK5.out Try.underlying47 ?hi ?_; (case hx => first | (go_simp; done) | (go_simp; rfl)); (case hi => rw [HE.out]; kernel_rfl))
   | (go_at_call 26; (with_reducible refine (pdom_back.calls k _ _ l0_0 _ _ l0_1 out m _ ?side1 ?side2 ?side3 A3.out).mono ?_); (case side1 => exact Kd.C_below HR0_1.out (B_)); (case side2 => exact HC0_1.out); (case side3 => exact HE.out); rintro e w7 ⟨rfl, hb⟩; clear hcz1_0 hcz1_1 hfz1_0 hfz1_1; have n0_ := Aside0.mk (blk_below (g := g1) (o := (.cells #[.slice A0_0 l0_0.length c0_0, .slice A0_1 l0_1.length c0_1] 26 (0, 0))) (by exact KX_ BK1.out) hb); have n1_ := Aside0.mk (blk_below (g := g2) (o := (.cells #[.slice none 0 0, .slice none 0 0] 26 (0, 0))) (by exact KX_ BK2.out) hb); have n2_ := Aside0.mk (blk_below (g := g5) (o := (.cells (AV out) 47 (0, 0))) (by exact KX_ BK5.out) hb); have nb_ := Aside0.mk (below_step (B_) hb); clear BK1 BK2 BK5 HB; have BK1 := n0_; have BK2 := n1_; have BK5 := n2_; have HB := nb_; clear n0_ n1_ n2_ nb_ hb; have hcz1_0 : w7.cell? ⟨g1, 0, none⟩ = some (.slice A0_0 l0_0.length c0_0) := (blk_cell BK1.out 0).trans rfl; have hcz1_1 : w7.cell? ⟨g1, 1, none⟩ = some (.slice A0_1 l0_1.length c0_1) := (blk_cell BK1.out 1).trans rfl; have hfz1_0 := blk_frozen BK1.out 0; have hfz1_1 := blk_frozen BK1.out 1)
   | ((with_reducible refine gate_dst (N := 6) rfl ?_); refine box_event ?hg (N := 6) ?hd (cs := AV (List.replicate 64 false)) (t := 47) ?hr ?_; (case hd => rfl); (case hg => rfl); (case hr => first | (go_simp; done) | (go_simp; rfl) | (go_simp; kernel_rfl)); intro g6 hg w8 hbox hb; clear hcz1_0 hcz1_1 hfz1_0 hfz1_1; have n0_ := Aside0.mk (blk_below (g := g1) (o := (.cells #[.slice A0_0 l0_0.length c0_0, .slice A0_1 l0_1.length c0_1] 26 (0, 0))) (by exact KX_ BK1.out) hb); have n1_ := Aside0.mk (blk_below (g := g2) (o := (.cells #[.slice none 0 0, .slice none 0 0] 26 (0, 0))) (by exact KX_ BK2.out) hb); have n2_ := Aside0.mk (blk_below (g := g5) (o := (.cells (AV out) 47 (0, 0))) (by exact KX_ BK5.out) hb); have nb_ := Aside0.mk (below_step (B_) hb); have nn_ := Aside0.mk hbox; have GE6 := Aside0.mk ((by rw [hg]; exact (below_size (B_)) : w.heap.size ≤ g6)); have NB1_6 := Aside0.mk ((by rw [hg]; exact Nat.ne_of_lt (blk_lt BK1.out) : g1 ≠ g6)); have NB2_6 := Aside0.mk ((by rw [hg]; exact Nat.ne_of_lt (blk_lt BK2.out) : g2 ≠ g6)); have NB5_6 := Aside0.mk ((by rw [hg]; exact Nat.ne_of_lt (blk_lt BK5.out) : g5 ≠ g6)); clear BK1 BK2 BK5 HB; have BK1 := n0_; have BK2 := n1_; have BK5 := n2_; have HB := nb_; have BK6 := nn_; clear n0_ n1_ n2_ nb_ nn_ hb hbox hg; have hcz1_0 : w8.cell? ⟨g1, 0, none⟩ = some (.slice A0_0 l0_0.length c0_0) := (blk_cell BK1.out 0).trans rfl; have hcz1_1 : w8.cell? ⟨g1, 1, none⟩ = some (.slice A0_1 l0_1.length c0_1) := (blk_cell BK1.out 1).trans rfl; have hfz1_0 := blk_frozen BK1.out 0; have hfz1_1 := blk_frozen BK1.out 1)
   | ((with_reducible refine gate_store (t := 47) (p := 6) rfl ?_); refine av_store (g := g6) (l' := m) rfl 47 _ _ rfl rfl ?hx ?hy BK6.out ?hi ?hl ?_; (case hx => first | (go_simp; done) | (go_simp; rfl)); (case hy => first | (go_simp; done) | (go_simp; rfl)); (case hi => rw [HM.out]; kernel_rfl); (case hl => rw [HM.out]; simp); intro w9 hw; clear hcz1_0 hcz1_1 hfz1_0 hfz1_1; have nn_ := Aside0.mk (by rw [hw]; exact av_stored BK6.out : w9.heap[g6]? = some (.cells (AV m) 47 (0, 0))); have nb_ := Aside0.mk ((by rw [hw]; exact below_setRow (B_) GE6.out _ : Below w.heap.size w w9)); have n0_ := Aside0.mk (by rw [hw]; exact blk_row (by exact KX_ BK1.out) NB1_6.out _ : w9.heap[g1]? = some (.cells #[.slice A0_0 l0_0.length c0_0, .slice A0_1 l0_1.length c0_1] 26 (0, 0))); have n1_ := Aside0.mk (by rw [hw]; exact blk_row (by exact KX_ BK2.out) NB2_6.out _ : w9.heap[g2]? = some (.cells #[.slice none 0 0, .slice none 0 0] 26 (0, 0))); have n2_ := Aside0.mk (by rw [hw]; exact blk_row (by exact KX_ BK5.out) NB5_6.out _ : w9.heap[g5]? = some (.cells (AV out) 47 (0, 0))); clear BK6 BK1 BK2 BK5 HB; have BK1 := n0_; have BK2 := n1_; have BK5 := n2_; have HB := nb_; have BK6 := nn_; clear n0_ n1_ n2_ nb_ nn_ hw; have hcz1_0 : w9.cell? ⟨g1, 0, none⟩ = some (.slice A0_0 l0_0.length c0_0) := (blk_cell BK1.out 0).trans rfl; have hcz1_1 : w9.cell? ⟨g1, 1, none⟩ = some (.slice A0_1 l0_1.length c0_1) := (blk_cell BK1.out 1).trans rfl; have hfz1_0 := blk_frozen BK1.out 0; have hfz1_1 := blk_frozen BK1.out 1))
  (try simp only [Act.put, List.setIfInBounds_toArray, List.set_cons_zero, List.set_cons_succ])
  go_step3
  go_step
  try go_step
  apply lab_ghost_at (l := 0) (I := fun (a0_ : Act) (kq_ : Nat) (a_ : Act) (w_ : World) => ∃ u3 u7 u8 u9 u10 u27 u28 u29 u30 u31 u32 u33 u34 u35 u36 u37 u38 u39 u40 u41 u42 u43 u44 u45 u46 u47 u48 u49 u50 u51 u52 u53 u54 u55 u56 u57 u58 u59 u60 u61 u62 u63 u64 u65 u66 u67 u68 u69 u70 u71 u72 u73 u74 u75 u76 u77 : Value, ((fun kq w' => ∃ (out m : List Bool), Aside0 (pdom_Exit.l0 kq l0_0 l0_1 out m = some (r1, r2, r3)) ∧ Aside0 (kq ≤ k) ∧ Aside0 (out.length = 64) ∧ Aside0 (m.length = 64) ∧ Aside0 (w'.heap[g1]? = some (.cells #[.slice A0_0 l0_0.length c0_0, .slice A0_1 l0_1.length c0_1] 26 (0, 0))) ∧ Aside0 (w'.heap[g2]? = some (.cells #[.slice none 0 0, .slice none 0 0] 26 (0, 0))) ∧ Aside0 (w'.heap[g5]? = some (.cells (AV out) 47 (0, 0))) ∧ Aside0 (w'.heap[g6]? = some (.cells (AV m) 47 (0, 0))) ∧ Aside0 (Below w.heap.size w w')) kq_ w_) ∧ a_ = { tmps := ((((((((((((((((((((((((((((((((((((((((((((((((((((((((a0_.tmps.setIfInBounds 3 u3).setIfInBounds 7 u7).setIfInBounds 8 u8).setIfInBounds 9 u9).setIfInBounds 10 u10).setIfInBounds 27 u27).setIfInBounds 28 u28).setIfInBounds 29 u29).setIfInBounds 30 u30).setIfInBounds 31 u31).setIfInBounds 32 u32).setIfInBounds 33 u33).setIfInBounds 34 u34).setIfInBounds 35 u35).setIfInBounds 36 u36).setIfInBounds 37 u37).setIfInBounds 38 u38).setIfInBounds 39 u39).setIfInBounds 40 u40).setIfInBounds 41 u41).setIfInBounds 42 u42).setIfInBounds 43 u43).setIfInBounds 44 u44).setIfInBounds 45 u45).setIfInBounds 46 u46).setIfInBounds 47 u47).setIfInBounds 48 u48).setIfInBounds 49 u49).setIfInBounds 50 u50).setIfInBounds 51 u51).setIfInBounds 52 u52).setIfInBounds 53 u53).setIfInBounds 54 u54).setIfInBounds 55 u55).setIfInBounds 56 u56).setIfInBounds 57 u57).setIfInBounds 58 u58).setIfInBounds 59 u59).setIfInBounds 60 u60).setIfInBounds 61 u61).setIfInBounds 62 u62).setIfInBounds 63 u63).setIfInBounds 64 u64).setIfInBounds 65 u65).setIfInBounds 66 u66).setIfInBounds 67 u67).setIfInBounds 68 u68).setIfInBounds 69 u69).setIfInBounds 70 u70).setIfInBounds 71 u71).setIfInBounds 72 u72).setIfInBounds 73 u73).setIfInBounds 74 u74).setIfInBounds 75 u75).setIfInBounds 76 u76).setIfInBounds 77 u77), defers := a0_.defers }) (n₀ := k); (case hf => rfl)
  case h₀ =>
   (repeat apply Exists.intro)
   refine ⟨?_, ?hfr⟩
   (case hfr => (try simp only [List.setIfInBounds_toArray, List.set_cons_zero, List.set_cons_succ]); rfl)
   exact ⟨out, m, H', ⟨Nat.le_refl _⟩, HE, HM, ⟨KX_ BK1.out⟩, ⟨KX_ BK2.out⟩, ⟨KX_ BK5.out⟩, ⟨KX_ BK6.out⟩, ⟨B_⟩⟩
  intro gk _ wr hinv
  obtain ⟨u3, hinv⟩ := hinv
  obtain ⟨u7, hinv⟩ := hinv
  obtain ⟨u8, hinv⟩ := hinv
  obtain ⟨u9, hinv⟩ := hinv
  obtain ⟨u10, hinv⟩ := hinv
  obtain ⟨u27, hinv⟩ := hinv
  obtain ⟨u28, hinv⟩ := hinv
  obtain ⟨u29, hinv⟩ := hinv
  obtain ⟨u30, hinv⟩ := hinv
  obtain ⟨u31, hinv⟩ := hinv
  obtain ⟨u32, hinv⟩ := hinv
  obtain ⟨u33, hinv⟩ := hinv
  obtain ⟨u34, hinv⟩ := hinv
  obtain ⟨u35, hinv⟩ := hinv
  obtain ⟨u36, hinv⟩ := hinv
  obtain ⟨u37, hinv⟩ := hinv
  obtain ⟨u38, hinv⟩ := hinv
  obtain ⟨u39, hinv⟩ := hinv
  obtain ⟨u40, hinv⟩ := hinv
  obtain ⟨u41, hinv⟩ := hinv
  obtain ⟨u42, hinv⟩ := hinv
  obtain ⟨u43, hinv⟩ := hinv
  obtain ⟨u44, hinv⟩ := hinv
  obtain ⟨u45, hinv⟩ := hinv
  obtain ⟨u46, hinv⟩ := hinv
  obtain ⟨u47, hinv⟩ := hinv
  obtain ⟨u48, hinv⟩ := hinv
  obtain ⟨u49, hinv⟩ := hinv
  obtain ⟨u50, hinv⟩ := hinv
  obtain ⟨u51, hinv⟩ := hinv
  obtain ⟨u52, hinv⟩ := hinv
  obtain ⟨u53, hinv⟩ := hinv
  obtain ⟨u54, hinv⟩ := hinv
  obtain ⟨u55, hinv⟩ := hinv
  obtain ⟨u56, hinv⟩ := hinv
  obtain ⟨u57, hinv⟩ := hinv
  obtain ⟨u58, hinv⟩ := hinv
  obtain ⟨u59, hinv⟩ := hinv
  obtain ⟨u60, hinv⟩ := hinv
  obtain ⟨u61, hinv⟩ := hinv
  obtain ⟨u62, hinv⟩ := hinv
  obtain ⟨u63, hinv⟩ := hinv
  obtain ⟨u64, hinv⟩ := hinv
  obtain ⟨u65, hinv⟩ := hinv
  obtain ⟨u66, hinv⟩ := hinv
  obtain ⟨u67, hinv⟩ := hinv
  obtain ⟨u68, hinv⟩ := hinv
  obtain ⟨u69, hinv⟩ := hinv
  obtain ⟨u70, hinv⟩ := hinv
  obtain ⟨u71, hinv⟩ := hinv
  obtain ⟨u72, hinv⟩ := hinv
  obtain ⟨u73, hinv⟩ := hinv
  obtain ⟨u74, hinv⟩ := hinv
  obtain ⟨u75, hinv⟩ := hinv
  obtain ⟨u76, hinv⟩ := hinv
  obtain ⟨u77, hinv⟩ := hinv
  obtain ⟨hrel, ha⟩ := hinv; subst ha
  intro _ _ hJ_ hK_
  (try simp only [List.setIfInBounds_toArray, List.set_cons_zero, List.set_cons_succ])
  (try simp only [List.setIfInBounds_toArray, List.set_cons_zero, List.set_cons_succ] at hJ_)
  clear H' BK1 BK2 BK5 BK6 HB HE HM A2 A3 hcz1_0 hcz1_1 hfz1_0 hfz1_1
  obtain ⟨out, m, HA, HK1, HE, HM, BK1, BK2, BK5, BK6, HB⟩ := hrel
  cases gk with
  | zero => exact absurd HA.out (by simp [pdom_Exit.l0])
  | succ k1 =>
   have H := HA.out
   clear HA
   simp only [pdom_Exit.l0] at H
   replace H := Option.bind_eq_some_iff.mp H
   obtain ⟨i, A4_, H⟩ := H
   have A4 := Aside0.mk A4_
   clear A4_
   have hcz1_0 : wr.cell? ⟨g1, 0, none⟩ = some (.slice A0_0 l0_0.length c0_0) := (blk_cell BK1.out 0).trans rfl
   have hcz1_1 : wr.cell? ⟨g1, 1, none⟩ = some (.slice A0_1 l0_1.length c0_1) := (blk_cell BK1.out 1).trans rfl
   have hfz1_0 := blk_frozen BK1.out 0
   have hfz1_1 := blk_frozen BK1.out 1
   by_cases c9 : i < (l0_0.length : Int)
   ·rw [if_pos c9] at H
    have c9b0 : decide (i < (l0_0.length : Int)) = true := decide_eq_true c9
    clear c9
    by_cases c10 : 0 ≤ i
    ·rw [if_pos c10] at H
     by_cases c11 : i < 64
     ·rw [if_pos c11] at H
      replace H := Option.bind_eq_some_iff.mp H
      obtain ⟨m2, A5_, H⟩ := H
      have A5 := Aside0.mk A5_
      have HM2 := Aside0.mk ((pdom_back.len A5_).trans (by simp [HM.out] : (m.set i.toNat true).length = 64))
      clear A5_
      have H' := Aside0.mk H
      clear H
      have C10 := Aside0.mk c10
      have C11 := Aside0.mk c11
      have p10 := eq_true c10
      have p11 : (i < (64 : Int)) = True := eq_true c11
      clear c10 c11
      go_wp2_with (first
       | ((with_reducible refine gate_dst (N := 28) rfl ?_); refine av_load (g := g6) rfl 47 _ rfl ?hx BK6.out Try.underlying47 ?hi ?_; (case hx => first | (go_simp; done) | (go_simp; rfl)); (case hi => rw [HM.out]; kernel_rfl))
       | (go_at_call 27; (with_reducible refine (pdom_missing.calls k1 _ _ l0_0 _ _ l0_1 m i _ ?side1 A4.out).mono ?_); (case side1 => exact HM.out); rintro e w3 ⟨rfl, hb⟩; clear hcz1_0 hcz1_1 hfz1_0 hfz1_1; have n0_ := Aside0.mk (blk_below (g := g1) (o := (.cells #[.slice A0_0 l0_0.length c0_0, .slice A0_1 l0_1.length c0_1] 26 (0, 0))) (by exact KX_ BK1.out) hb); have n1_ := Aside0.mk (blk_below (g := g2) (o := (.cells #[.slice none 0 0, .slice none 0 0] 26 (0, 0))) (by exact KX_ BK2.out) hb); have n2_ := Aside0.mk (blk_below (g := g5) (o := (.cells (AV out) 47 (0, 0))) (by exact KX_ BK5.out) hb); have n3_ := Aside0.mk (blk_below (g := g6) (o := (.cells (AV m) 47 (0, 0))) (by exact KX_ BK6.out) hb); have nb_ := Aside0.mk (below_step (B_) hb); clear BK1 BK2 BK5 BK6 HB; have BK1 := n0_; have BK2 := n1_; have BK5 := n2_; have BK6 := n3_; have HB := nb_; clear n0_ n1_ n2_ n3_ nb_ hb; have hcz1_0 : w3.cell? ⟨g1, 0, none⟩ = some (.slice A0_0 l0_0.length c0_0) := (blk_cell BK1.out 0).trans rfl; have hcz1_1 : w3.cell? ⟨g1, 1, none⟩ = some (.slice A0_1 l0_1.length c0_1) := (blk_cell BK1.out 1).trans rfl; have hfz1_0 := blk_frozen BK1.out 0; have hfz1_1 := blk_frozen BK1.out 1; have hq5_ := av_cell BK5.out i (by rw [HE.out]; exact C11.out) C10.out; have hg5_ := blk_frozen BK5.out i.toNat)
       | ((with_reducible refine gate_store (t := 4) (p := 35) rfl ?_); refine store_event (t := 4) (p := 35) (v := ?vo) (w1 := (w3.setCell ⟨g5, i.toNat, none⟩ (.bool true))) ?hg ?ho ?hn ?hr ?_; (case ho => rfl); (case hg => rfl); (case hn => rfl); (case hr => first | (go_simp; done) | (go_simp; rfl)); intro w4 hw; clear hcz1_0 hcz1_1 hfz1_0 hfz1_1; have nn_ := Aside0.mk (by rw [hw]; exact av_put BK5.out i true : w4.heap[g5]? = some (.cells (AV (out.set i.toNat true)) 47 (0, 0))); have nb_ := Aside0.mk ((by rw [hw]; exact below_set (B_) GE5.out : Below w.heap.size w w4)); have n0_ := Aside0.mk (by rw [hw]; exact blk_far (by exact KX_ BK1.out) NB1_5.out _ : w4.heap[g1]? = some (.cells #[.slice A0_0 l0_0.length c0_0, .slice A0_1 l0_1.length c0_1] 26 (0, 0))); have n1_ := Aside0.mk (by rw [hw]; exact blk_far (by exact KX_ BK2.out) NB2_5.out _ : w4.heap[g2]? = some (.cells #[.slice none 0 0, .slice none 0 0] 26 (0, 0))); have n2_ := Aside0.mk (by rw [hw]; exact blk_far (by exact KX_ BK6.out) (Ne.symm NB5_6.out) _ : w4.heap[g6]? = some (.cells (AV m) 47 (0, 0))); clear BK5 BK1 BK2 BK6 HB; have BK1 := n0_; have BK2 := n1_; have BK6 := n2_; have HB := nb_; have BK5 := nn_; clear n0_ n1_ n2_ nb_ nn_ hw; (try (have hq6_ := av_cell BK6.out i (by rw [HM.out]; exact C11.out) C10.out)); (try (have hg6_ := blk_frozen BK6.out i.toNat)); have hcz1_0 : w4.cell? ⟨g1, 0, none⟩ = some (.slice A0_0 l0_0.length c0_0) := (blk_cell BK1.out 0).trans rfl; have hcz1_1 : w4.cell? ⟨g1, 1, none⟩ = some (.slice A0_1 l0_1.length c0_1) := (blk_cell BK1.out 1).trans rfl; have hfz1_0 := blk_frozen BK1.out 0; have hfz1_1 := blk_frozen BK1.out 1)
       | ((with_reducible refine gate_store (t := 4) (p := 36) rfl ?_); refine store_event (t := 4) (p := 36) (v := ?vo) (w1 := (w4.setCell ⟨g6, i.toNat, none⟩ (.bool true))) ?hg ?ho ?hn ?hr ?_; (case ho => rfl); (case hg => rfl); (case hn => rfl); (case hr => first | (go_simp; done) | (go_simp; rfl)); intro w5 hw; clear hcz1_0 hcz1_1 hfz1_0 hfz1_1; have nn_ := Aside0.mk (by rw [hw]; exact av_put BK6.out i true : w5.heap[g6]? = some (.cells (AV (m.set i.toNat true)) 47 (0, 0))); have nb_ := Aside0.mk ((by rw [hw]; exact below_set (B_) GE6.out : Below w.heap.size w w5)); have n0_ := Aside0.mk (by rw [hw]; exact blk_far (by exact KX_ BK1.out) NB1_6.out _ : w5.heap[g1]? = some (.cells #[.slice A0_0 l0_0.length c0_0, .slice A0_1 l0_1.length c0_1] 26 (0, 0))); have n1_ := Aside0.mk (by rw [hw]; exact blk_far (by exact KX_ BK2.out) NB2_6.out _ : w5.heap[g2]? = some (.cells #[.slice none 0 0, .slice none 0 0] 26 (0, 0))); have n2_ := Aside0.mk (by rw [hw]; exact blk_far (by exact KX_ BK5.out) NB5_6.out _ : w5.heap[g5]? = some (.cells (AV (out.set i.toNat true)) 47 (0, 0))); clear BK6 BK1 BK2 BK5 HB; have BK1 := n0_; have BK2 := n1_; have BK5 := n2_; have HB := nb_; have BK6 := nn_; clear n0_ n1_ n2_ nb_ nn_ hw; (try (have hq6_ := av_cell BK6.out i (by rw [HM.out]; exact C11.out) C10.out)); (try (have hg6_ := blk_frozen BK6.out i.toNat)); have hcz1_0 : w5.cell? ⟨g1, 0, none⟩ = some (.slice A0_0 l0_0.length c0_0) := (blk_cell BK1.out 0).trans rfl; have hcz1_1 : w5.cell? ⟨g1, 1, none⟩ = some (.slice A0_1 l0_1.length c0_1) := (blk_cell BK1.out 1).trans rfl; have hfz1_0 := blk_frozen BK1.out 0; have hfz1_1 := blk_frozen BK1.out 1)
       | ((with_reducible refine gate_dst (N := 38) rfl ?_); refine av_load (g := g6) rfl 47 _ rfl ?hx BK6.out Try.underlying47 ?hi ?_; (case hx => first | (go_simp; done) | (go_simp; rfl)); (case hi => rw [(show (m.set i.toNat true).length = 64 by simp [HM.out])]; kernel_rfl))
       | (go_at_call 26; (with_reducible refine (pdom_back.calls k1 _ _ l0_0 _ _ l0_1 (m.set i.toNat true) m2 _ ?side1 ?side2 ?side3 A5.out).mono ?_); (case side1 => exact Kd.C_below HR0_1.out (B_)); (case side2 => exact HC0_1.out); (case side3 => exact (by simp [HM.out])); rintro e w6 ⟨rfl, hb⟩; clear hcz1_0 hcz1_1 hfz1_0 hfz1_1; have n0_ := Aside0.mk (blk_below (g := g1) (o := (.cells #[.slice A0_0 l0_0.length c0_0, .slice A0_1 l0_1.length c0_1] 26 (0, 0))) (by exact KX_ BK1.out) hb); have n1_ := Aside0.mk (blk_below (g := g2) (o := (.cells #[.slice none 0 0, .slice none 0 0] 26 (0, 0))) (by exact KX_ BK2.out) hb); have n2_ := Aside0.mk (blk_below (g := g5) (o := (.cells (AV (out.set i.toNat true)) 47 (0, 0))) (by exact KX_ BK5.out) hb); have n3_ := Aside0.mk (blk_below (g := g6) (o := (.cells (AV (m.set i.toNat true)) 47 (0, 0))) (by exact KX_ BK6.out) hb); have nb_ := Aside0.mk (below_step (B_) hb); clear BK1 BK2 BK5 BK6 HB; have BK1 := n0_; have BK2 := n1_; have BK5 := n2_; have BK6 := n3_; have HB := nb_; clear n0_ n1_ n2_ n3_ nb_ hb; have hcz1_0 : w6.cell? ⟨g1, 0, none⟩ = some (.slice A0_0 l0_0.length c0_0) := (blk_cell BK1.out 0).trans rfl; have hcz1_1 : w6.cell? ⟨g1, 1, none⟩ = some (.slice A0_1 l0_1.length c0_1) := (blk_cell BK1.out 1).trans rfl; have hfz1_0 := blk_frozen BK1.out 0; have hfz1_1 := blk_frozen BK1.out 1)
       | ((with_reducible refine gate_store (t := 47) (p := 6) rfl ?_); refine av_store (g := g6) (l' := m2) rfl 47 _ _ rfl rfl ?hx ?hy BK6.out ?hi ?hl ?_; (case hx => first | (go_simp; done) | (go_simp; rfl)); (case hy => first | (go_simp; done) | (go_simp; rfl)); (case hi => rw [HM2.out]; kernel_rfl); (case hl => rw [HM2.out]; simp [HM.out]); intro w7 hw; clear hcz1_0 hcz1_1 hfz1_0 hfz1_1; have nn_ := Aside0.mk (by rw [hw]; exact av_stored BK6.out : w7.heap[g6]? = some (.cells (AV m2) 47 (0, 0))); have nb_ := Aside0.mk ((by rw [hw]; exact below_setRow (B_) GE6.out _ : Below w.heap.size w w7)); have n0_ := Aside0.mk (by rw [hw]; exact blk_row (by exact KX_ BK1.out) NB1_6.out _ : w7.heap[g1]? = some (.cells #[.slice A0_0 l0_0.length c0_0, .slice A0_1 l0_1.length c0_1] 26 (0, 0))); have n1_ := Aside0.mk (by rw [hw]; exact blk_row (by exact KX_ BK2.out) NB2_6.out _ : w7.heap[g2]? = some (.cells #[.slice none 0 0, .slice none 0 0] 26 (0, 0))); have n2_ := Aside0.mk (by rw [hw]; exact blk_row (by exact KX_ BK5.out) NB5_6.out _ : w7.heap[g5]? = some (.cells (AV (out.set i.toNat true)) 47 (0, 0))); clear BK6 BK1 BK2 BK5 HB; have BK1 := n0_; have BK2 := n1_; have BK5 := n2_; have HB := nb_; have BK6 := nn_; clear n0_ n1_ n2_ nb_ nn_ hw; have hcz1_0 : w7.cell? ⟨g1, 0, none⟩ = some (.slice A0_0 l0_0.length c0_0) := (blk_cell BK1.out 0).trans rfl; have hcz1_1 : w7.cell? ⟨g1, 1, none⟩ = some (.slice A0_1 l0_1.length c0_1) := (blk_cell BK1.out 1).trans rfl; have hfz1_0 := blk_frozen BK1.out 0; have hfz1_1 := blk_frozen BK1.out 1))
      go_step3
      try simp only [jumpg_goto, Exit.then, Exit.inBlock]
      go_step
      go_roundg k1
      case measure => have := HK1.out; omega
      case rel => exact ⟨_, _, H', ⟨by have := HK1.out; omega⟩, ⟨by simp [HE.out]⟩, HM2, ⟨KX_ BK1.out⟩, ⟨KX_ BK2.out⟩, ⟨KX_ BK5.out⟩, ⟨KX_ BK6.out⟩, ⟨B_⟩⟩
     rw [if_neg c11] at H
     exact absurd H (by simp)
    rw [if_neg c10] at H
    exact absurd H (by simp)
   rw [if_neg c9] at H
   have c9b0 : decide (i < (l0_0.length : Int)) = false := decide_eq_false c9
   clear c9
   obtain ⟨ji, hji⟩ : ∃ j_ : Int, (wrap64 ((l0_0.length : Int) + 1)) = j_ := ⟨_, rfl⟩
   rw [hji] at H
   have hjiw : (IntKind.i64.wrap ((l0_0.length : Int) + 1)) = ji := (i64_w _).trans hji
   by_cases c12 : 0 ≤ ji
   ·rw [if_pos c12] at H
    by_cases c13 : ji.toNat ≤ 11728124029610
    ·rw [if_pos c13] at H
     have H' := Aside0.mk H
     clear H
     go_wp2_with (first
      | ((with_reducible refine gate_dst (N := 28) rfl ?_); refine av_load (g := g6) rfl 47 _ rfl ?hx BK6.out Try.underlying47 ?hi ?_; (case hx => first | (go_simp; done) | (go_simp; rfl)); (case hi => rw [HM.out]; kernel_rfl))
      | (go_at_call 27; (with_reducible refine (pdom_missing.calls k1 _ _ l0_0 _ _ l0_1 m i _ ?side1 A4.out).mono ?_); (case side1 => exact HM.out); rintro e w3 ⟨rfl, hb⟩; clear hcz1_0 hcz1_1 hfz1_0 hfz1_1; have n0_ := Aside0.mk (blk_below (g := g1) (o := (.cells #[.slice A0_0 l0_0.length c0_0, .slice A0_1 l0_1.length c0_1] 26 (0, 0))) (by exact KX_ BK1.out) hb); have n1_ := Aside0.mk (blk_below (g := g2) (o := (.cells #[.slice none 0 0, .slice none 0 0] 26 (0, 0))) (by exact KX_ BK2.out) hb); have n2_ := Aside0.mk (blk_below (g := g5) (o := (.cells (AV out) 47 (0, 0))) (by exact KX_ BK5.out) hb); have n3_ := Aside0.mk (blk_below (g := g6) (o := (.cells (AV m) 47 (0, 0))) (by exact KX_ BK6.out) hb); have nb_ := Aside0.mk (below_step (B_) hb); clear BK1 BK2 BK5 BK6 HB; have BK1 := n0_; have BK2 := n1_; have BK5 := n2_; have BK6 := n3_; have HB := nb_; clear n0_ n1_ n2_ n3_ nb_ hb; have hcz1_0 : w3.cell? ⟨g1, 0, none⟩ = some (.slice A0_0 l0_0.length c0_0) := (blk_cell BK1.out 0).trans rfl; have hcz1_1 : w3.cell? ⟨g1, 1, none⟩ = some (.slice A0_1 l0_1.length c0_1) := (blk_cell BK1.out 1).trans rfl; have hfz1_0 := blk_frozen BK1.out 0; have hfz1_1 := blk_frozen BK1.out 1)
      | ((with_reducible refine gate_dst (N := 42) rfl ?_); refine Kd.S_make (Kd.slice 3 (Kd.int .i64)) _ 30 rfl (N := 42) rfl 22 _ _ rfl (ji : Int) rfl rfl Try.underlying22 (.slice none 0 0) 24 info30 rfl (by decide) (by omega) [] (ok := fun _ => True) (okp := fun _ => True) ⟨_, rfl, Kd.R_nil _ _ _ _ _⟩ (fun _ hk => hk) trivial c12 (Nat.le_trans (Nat.mul_le_mul_right _ c13) (by omega)) (Below.refl _ _) (Nat.le_refl _) ?_; intro v8 w4 ho hb hg_ hnew_; clear hg_ hnew_; have no_ := Aside0.mk (Kd.S_lower ho (below_size (B_))); clear ho; clear hcz1_0 hcz1_1 hfz1_0 hfz1_1; have n0_ := Aside0.mk (blk_below (g := g1) (o := (.cells #[.slice A0_0 l0_0.length c0_0, .slice A0_1 l0_1.length c0_1] 26 (0, 0))) (by exact KX_ BK1.out) hb); have n1_ := Aside0.mk (blk_below (g := g2) (o := (.cells #[.slice none 0 0, .slice none 0 0] 26 (0, 0))) (by exact KX_ BK2.out) hb); have n2_ := Aside0.mk (blk_below (g := g5) (o := (.cells (AV out) 47 (0, 0))) (by exact KX_ BK5.out) hb); have n3_ := Aside0.mk (blk_below (g := g6) (o := (.cells (AV m) 47 (0, 0))) (by exact KX_ BK6.out) hb); have nb_ := Aside0.mk (below_step (B_) hb); clear BK1 BK2 BK5 BK6 HB; have BK1 := n0_; have BK2 := n1_; have BK5 := n2_; have BK6 := n3_; have HB := nb_; clear n0_ n1_ n2_ n3_ nb_ hb; have hcz1_0 : w4.cell? ⟨g1, 0, none⟩ = some (.slice A0_0 l0_0.length c0_0) := (blk_cell BK1.out 0).trans rfl; have hcz1_1 : w4.cell? ⟨g1, 1, none⟩ = some (.slice A0_1 l0_1.length c0_1) := (blk_cell BK1.out 1).trans rfl; have hfz1_0 := blk_frozen BK1.out 0; have hfz1_1 := blk_frozen BK1.out 1; have HO8 := no_; clear no_))
     have LJ := Aside0.mk hji
     clear hji hjiw c12 c13
     go_loopg [46] k1 (fun kq v46 w' => ∃ (x : List (List Int)) (i : Int), v46 = .int .i64 i ∧ Aside0 (pdom_Exit.l1 kq l0_0 out x i = some (r1, r2, r3)) ∧ Aside0 (kq ≤ k1) ∧ Aside0 (Kd.S (Kd.slice 3 (Kd.int .i64)) 30 w' w.heap.size (fun _ => True) v8 x) ∧ Aside0 (w'.heap[g1]? = some (.cells #[.slice A0_0 l0_0.length c0_0, .slice A0_1 l0_1.length c0_1] 26 (0, 0))) ∧ Aside0 (w'.heap[g2]? = some (.cells #[.slice none 0 0, .slice none 0 0] 26 (0, 0))) ∧ Aside0 (w'.heap[g5]? = some (.cells (AV out) 47 (0, 0))) ∧ Aside0 (Below w.heap.size w w'))
     case atStart => exact ⟨_, 0, (by first | rfl | (simp; done) | (simp [*]; done)), H', ⟨Nat.le_refl _⟩, ⟨SX_ HO8.out⟩, ⟨KX_ BK1.out⟩, ⟨KX_ BK2.out⟩, ⟨KX_ BK5.out⟩, ⟨B_⟩⟩
     case round =>
      clear H' HO8 BK1 BK2 BK5 BK6 HB hcz1_0 hcz1_1 hfz1_0 hfz1_1 c9b0
      obtain ⟨x, i, rfl, HA, HK2, HO8, BK1, BK2, BK5, HB⟩ := hrel
      cases gk with
      | zero => exact absurd HA.out (by simp [pdom_Exit.l1])
      | succ k2 =>
       have H := HA.out
       clear HA
       simp only [pdom_Exit.l1] at H
       by_cases c19 : i < (l0_0.length : Int)
       ·rw [if_pos c19] at H
        have c19b0 : decide (i < (l0_0.length : Int)) = true := decide_eq_true c19
        by_cases c20 : 0 ≤ i
        ·rw [if_pos c20] at H
         by_cases c21 : i < (x.length : Int)
         ·rw [if_pos c21] at H
          by_cases c22 : i < 64
          ·rw [if_pos c22] at H
           by_cases c23 : (rd_L1 x i).length + (rd_L1 l0_0 i).length < 17592186044416
           ·rw [if_pos c23] at H
            have LM := Aside0.mk c23
            have C20 := Aside0.mk c20
            have C21 := Aside0.mk c21
            have C22 := Aside0.mk c22
            have p19 : (i < (l0_0.length : Int)) = True := eq_true c19
            have p20 := eq_true c20
            have p21 := eq_true c21
            have p22 : (i < (64 : Int)) = True := eq_true c22
            obtain ⟨ad1, A1_0, c1_0, e1, hx1_0, hl1_0, hi1_0⟩ := at_L1 HR0_0.out i c20 c19
            cases e1
            replace hx1_0 := (HB.out.cell (World.block_lt_of_cell? w _ hx1_0)).trans hx1_0
            have HR1 := Aside0.mk hi1_0
            have HC1 := Aside0.mk hl1_0
            clear hi1_0 hl1_0 c19 c20 c21 c22 c23
            obtain ⟨Ao1, co1, eo1⟩ := Kd.S_slice HO8.out
            subst eo1
            obtain ⟨ad1, Ax1, cx1, ex1, hx1, hl1, hi1⟩ := at_L1 (Kd.S_reads' HO8.out).2.2 i C20.out (by have := C21.out; first | exact this | simpa using this)
            cases ex1
            obtain ⟨ce1, hce1, hMe1, hcc1⟩ := Kd.S_get HO8.out [] i C20.out (by have := C21.out; first | exact this | simpa using this)
            obtain ⟨ve1, rfl, ge1⟩ := hMe1
            have hv1 := hcc1 0 _ rfl
            rw [Nat.add_zero, show ((Kd.slice 3 (Kd.int .i64))).sz = 1 from rfl, Nat.mul_one] at hv1
            replace hv1 := Option.some.inj (hv1.symm.trans hx1)
            have HX1 := Aside0.mk hx1
            clear hcc1 hce1 ge1 hv1 hl1 hi1
            obtain ⟨go1, cf1, ef1, gb1, gl1, cl1, HG1⟩ := Kd.S_form HO8.out (by have := C20.out; have h_ := (by have := C21.out; first | exact this | simpa using this); omega)
            (first | cases ef1 | (injection ef1 with ea_ en_ ec_; (first | subst ea_ | (injection ea_ with ea_; subst ea_)); subst ec_; clear en_))
            have GB1 := Aside0.mk gb1
            have NE1 := Aside0.mk (Kd.S_ne HO8.out BK1.out (by decide))
            have NE2 := Aside0.mk (Kd.S_ne HO8.out BK2.out (by decide))
            have NE5 := Aside0.mk (Kd.S_ne HO8.out BK5.out (by decide))
            clear gb1 gl1 HG1
            (first | simp only [add_plain] at hx1 | skip)
            obtain ⟨oki1, cg1, hcl1, hM1, hcd1, _, _, hH1⟩ := Kd.S_elem HO8.out [] i C20.out (by have := C21.out; first | exact this | simpa using this)
            obtain ⟨vf1, rfl, gf1⟩ := hM1
            have hw1 := hcd1 0 _ rfl
            have hX1 := HX1.out
            (try simp only [add_plain] at hX1)
            (try simp only [Nat.add_zero] at hw1)
            (try rw [show ((Kd.slice 3 (Kd.int .i64))).sz = 1 from rfl, Nat.mul_one] at hw1)
            replace hw1 := Option.some.inj (hw1.symm.trans hX1)
            subst hw1
            clear hX1 hcd1 hcl1
            have UU1 := Aside0.mk (show Kd.R (Kd.int .i64) 3 _ w.heap.size oki1 (.slice Ax1 (rd_L1 x i).length cx1) (rd_L1 x i) from gf1)
            have HH1 := Aside0.mk hH1
            have HN1 := Aside0.mk (Kd.S_reads' HO8.out).1
            clear hH1 gf1
            have hq5_ := av_cell BK5.out i (by rw [HE.out]; exact C22.out) C20.out
            have hg5_ := blk_frozen BK5.out i.toNat
            obtain ⟨y1, hy1_⟩ : ∃ y, rd_L1 x i ++ rd_L1 l0_0 i = y := ⟨_, rfl⟩
            rw [hy1_] at H
            have NY1 := Aside0.mk hy1_
            clear hy1_
            by_cases c24 : rdOf false out i = true
            ·rw [if_pos c24] at H
             have HF := Aside0.mk c24
             rw [HF.out] at hq5_
             clear c24
             obtain ⟨x2, hx2_⟩ : ∃ x2, x.set i.toNat y1 = x2 := ⟨_, rfl⟩
             rw [hx2_] at H
             have HX2 := Aside0.mk hx2_
             have HLX : Aside0 (x2.length = x.length) := ⟨by rw [← hx2_]; simp⟩
             clear hx2_
             by_cases c25 : (rd_L1 x2 i).length < 17592186044416
             ·rw [if_pos c25] at H
              have LM2 := Aside0.mk c25
              obtain ⟨y2, hy2_⟩ : ∃ y, rd_L1 x2 i ++ [(l0_0.length : Int)] = y := ⟨_, rfl⟩
              rw [hy2_] at H
              have NY2 := Aside0.mk hy2_
              clear hy2_
              clear c25
              have H' := Aside0.mk H
              clear H
              go_wp2_with (first
               | ((with_reducible refine gate_builtin (b := .append) (xs := #[.tmp 56, .tmp 57]) rfl ?_); at_builtin; refine Kd.R_append_rows (Kd.int .i64) (w0 := w) w.heap.size rfl (.tmp 56) (.tmp 57) 30 3 (.int .i64 0) 8 rfl Try.underlying30 info3 rfl (by decide) (by omega) (.slice Ax1 (rd_L1 x i).length cx1) (rd_L1 x i) (rd_L1 l0_0 i) _ _ _ (fun k_ => oki1 k_ ∨ ((fun _ => True)) k_ ∧ wr.heap.size ≤ k_) (fun _ => False) rfl rfl ?aO ?aR (fun _ _ h => h) (fun _ h => h.elim) ?aF ?aB ?aS ?aL ?_; (case aR => exact (Kd.C_below HR1.out (B_))); (case aB => exact (B_)); (case aF => exact (fun k_ hk => .inr ⟨trivial, hk⟩)); (case aO => exact (by (with_reducible repeat (first | apply Kd.R_alloc | apply Kd.R_drewN | apply Kd.R_drew)); exact Kd.R_mono UU1.out (fun _ hk => .inl hk))); (case aS => exact (below_size (B_))); (case aL => have := LM.out; omega); intro v9 w5 ho hb hg hat; rw [NY1.out] at ho; have n0_ := Aside0.mk (blk_grown (g := g1) (o := (.cells #[.slice (some ad1) l0_0.length c0_0, .slice A0_1 l0_1.length c0_1] 26 (0, 0))) (by exact KX_ BK1.out) hg (Kd.R_ne UU1.out BK1.out (by decide))); have n1_ := Aside0.mk (blk_grown (g := g2) (o := (.cells #[.slice none 0 0, .slice none 0 0] 26 (0, 0))) (by exact KX_ BK2.out) hg (Kd.R_ne UU1.out BK2.out (by decide))); have n2_ := Aside0.mk (blk_grown (g := g5) (o := (.cells (AV out) 47 (0, 0))) (by exact KX_ BK5.out) hg (Kd.R_ne UU1.out BK5.out (by decide))); clear BK1 BK2 BK5; have BK1 := n0_; have BK2 := n1_; have BK5 := n2_; clear n0_ n1_ n2_; have nb_ := Aside0.mk hb; have nh_ := Aside0.mk (Kd.H_grown (Kd.H_widen (by repeat (first | exact HH1.out | refine Kd.H_alloc ?_ _ | refine Kd.H_drewN ?_ _ | refine Kd.H_drew ?_))) hg (fun k_ e_ => .inl (UU1.out.1 k_ e_))); have no_ := Aside0.mk ho; clear HB HH1 HO8 UU1; have HB := nb_; have HH1 := nh_; have HO9 := no_; clear nb_ nh_ no_ ho hb hg hat; obtain ⟨Ao9, co9, eo9⟩ := Kd.R_slice HO9.out; subst eo9; obtain ⟨_, _, hraw1, _, _, hcc1, _⟩ := Kd.H_raw HH1.out C20.out (by have h_ := C21.out; first | exact h_ | (have e_ := (HN1.out); omega) | simpa using h_); obtain ⟨_, hfr1⟩ := Kd.H_at HH1.out C20.out (by have h_ := C21.out; first | exact h_ | (have e_ := (HN1.out); omega) | simpa using h_); have hx9 := hcc1 0 _ rfl; have hf9 := hfr1 0; (try simp only [Nat.add_zero] at hx9 hf9); (try rw [show ((Kd.slice 3 (Kd.int .i64))).sz = 1 from rfl, Nat.mul_one] at hx9); (try rw [show ((Kd.slice 3 (Kd.int .i64))).sz = 1 from rfl, Nat.mul_one] at hf9); have HP1 := Kd.S_seg0 HH1.out C20.out (by have h_ := C21.out; first | exact h_ | (have e_ := (HN1.out); omega) | simpa using h_) (seg := [.slice Ao9 y1.length co9]) (j := 0) (show 1 ≤ 1 from by decide) (x' := y1) (Kd.M_row HO9.out) (fun _ hk => hk); (try simp only [show ((Kd.slice 3 (Kd.int .i64))).sz = 1 from rfl, Nat.mul_one, Nat.add_zero] at HP1); clear hcc1 hfr1)
               | ((with_reducible refine gate_store (t := 30) (p := 59) rfl ?_); refine store_event (t := 30) (p := 59) (v := ?vo_l1) (w1 := (w5.setCell ⟨go1, i.toNat, none⟩ (.slice Ao9 y1.length co9))) ?hg ?ho ?hn ?hr ?_; (case ho => rfl); (case hg => rfl); (case hn => rfl); (case hr => first | (go_simp; done) | (go_simp; rfl)); intro w6 hw; have hg : w5.grownBy w6 (some go1) := (by rw [hw]; exact HP1.2); have hp_ : Kd.S (Kd.slice 3 (Kd.int .i64)) 30 w6 w.heap.size (fun _ => True) (.slice (some ⟨go1, 0, none⟩) x.length co1) x2 := (by rw [hw, ← HX2.out]; exact HP1.1); clear HP1; have n0_ := Aside0.mk (blk_grown (g := g1) (o := (.cells #[.slice (some ad1) l0_0.length c0_0, .slice A0_1 l0_1.length c0_1] 26 (0, 0))) (by exact KX_ BK1.out) hg (NE1.out)); have n1_ := Aside0.mk (blk_grown (g := g2) (o := (.cells #[.slice none 0 0, .slice none 0 0] 26 (0, 0))) (by exact KX_ BK2.out) hg (NE2.out)); have n2_ := Aside0.mk (blk_grown (g := g5) (o := (.cells (AV out) 47 (0, 0))) (by exact KX_ BK5.out) hg (NE5.out)); clear BK1 BK2 BK5; have BK1 := n0_; have BK2 := n1_; have BK5 := n2_; clear n0_ n1_ n2_; have nb_ := Aside0.mk ((by rw [hw]; exact below_set HB.out GB1.out : Below w.heap.size w w6)); have no_ := Aside0.mk hp_; clear HB HO9 HH1 hq5_ hg5_; have HB := nb_; have HO8 := no_; clear nb_ no_ hg hw hp_ hraw1 hx9 hf9; have hq5_ := av_cell BK5.out i (by rw [HE.out]; exact C22.out) C20.out; rw [HF.out] at hq5_; have hg5_ := blk_frozen BK5.out i.toNat; obtain ⟨ad2, Ax2, cx2, ex2, hx2, hl2, hi2⟩ := at_L1 (Kd.S_reads' HO8.out).2.2 i C20.out (by have := C21.out; have := HLX.out; omega); cases ex2; have HX3 := Aside0.mk hx2; clear hl2 hi2; (first | simp only [add_plain] at hx2 | skip); obtain ⟨oki2, cg2, hcl2, hM2, hcd2, _, _, hH2⟩ := Kd.S_elem HO8.out [] i C20.out (by have := C21.out; have := HLX.out; omega); obtain ⟨vf2, rfl, gf2⟩ := hM2; have hw2 := hcd2 0 _ rfl; have hX2 := HX3.out; (try simp only [add_plain] at hX2); (try simp only [Nat.add_zero] at hw2); (try rw [show ((Kd.slice 3 (Kd.int .i64))).sz = 1 from rfl, Nat.mul_one] at hw2); replace hw2 := Option.some.inj (hw2.symm.trans hX2); subst hw2; clear hX2 hcd2 hcl2 HX3; have UU2 := Aside0.mk (show Kd.R (Kd.int .i64) 3 _ w.heap.size oki2 (.slice Ax2 (rd_L1 x2 i).length cx2) (rd_L1 x2 i) from gf2); have HH2 := Aside0.mk hH2; have HN2 := Aside0.mk (Kd.S_reads' HO8.out).1; have WS := Aside0.mk (Nat.le_refl w6.heap.size); clear hH2 gf2)
               | ((with_reducible refine gate_builtin (b := .append) (xs := #[.tmp 68, .tmp 70]) rfl ?_); at_builtin; refine Kd.R_append (Kd.int .i64) (w0 := w) w.heap.size rfl (.tmp 68) (.tmp 70) 30 3 (.int .i64 0) 8 rfl Try.underlying30 info3 rfl (by decide) (by omega) (.slice Ax2 (rd_L1 x2 i).length cx2) (rd_L1 x2 i) (l0_0.length : Int) [.int .i64 (l0_0.length : Int)] (fun k_ => oki2 k_ ∨ ((fun _ => True)) k_ ∧ w6.heap.size ≤ k_) (fun _ => False) rfl rfl ?aP (fun _ hk => hk.elim) ?aF ?aO ?aB ?aS ?aL ?_; (case aP => exact rfl); (case aB => exact (B_)); (case aF => exact (fun k_ hk => .inr ⟨trivial, hk⟩)); (case aO => exact (by (with_reducible repeat (first | apply Kd.R_alloc | apply Kd.R_drewN | apply Kd.R_drew)); exact Kd.R_mono UU2.out (fun _ hk => .inl hk))); (case aS => exact (below_size (B_))); (case aL => have := LM2.out; omega); intro v12 w7 ho hb hg hat; rw [NY2.out] at ho; have n0_ := Aside0.mk (blk_grown (g := g1) (o := (.cells #[.slice (some ad1) l0_0.length c0_0, .slice A0_1 l0_1.length c0_1] 26 (0, 0))) (by exact KX_ BK1.out) hg (Kd.R_ne UU2.out BK1.out (by decide))); have n1_ := Aside0.mk (blk_grown (g := g2) (o := (.cells #[.slice none 0 0, .slice none 0 0] 26 (0, 0))) (by exact KX_ BK2.out) hg (Kd.R_ne UU2.out BK2.out (by decide))); have n2_ := Aside0.mk (blk_grown (g := g5) (o := (.cells (AV out) 47 (0, 0))) (by exact KX_ BK5.out) hg (Kd.R_ne UU2.out BK5.out (by decide))); clear BK1 BK2 BK5; have BK1 := n0_; have BK2 := n1_; have BK5 := n2_; clear n0_ n1_ n2_; have nb_ := Aside0.mk hb; have nh_ := Aside0.mk (Kd.H_grown (Kd.H_widen (by repeat (first | exact HH2.out | refine Kd.H_alloc ?_ _ | refine Kd.H_drewN ?_ _ | refine Kd.H_drew ?_))) hg (fun k_ e_ => .inl (UU2.out.1 k_ e_))); have no_ := Aside0.mk ho; clear HB HH2 HO8 UU2; have HB := nb_; have HH2 := nh_; have HO12 := no_; clear nb_ nh_ no_ ho hb hg hat; obtain ⟨Ao12, co12, eo12⟩ := Kd.R_slice HO12.out; subst eo12; obtain ⟨_, _, hraw2, _, _, hcc2, _⟩ := Kd.H_raw HH2.out C20.out (by have := C21.out; have := HLX.out; omega); obtain ⟨_, hfr2⟩ := Kd.H_at HH2.out C20.out (by have := C21.out; have := HLX.out; omega); have hx12 := hcc2 0 _ rfl; have hf12 := hfr2 0; (try simp only [Nat.add_zero] at hx12 hf12); (try rw [show ((Kd.slice 3 (Kd.int .i64))).sz = 1 from rfl, Nat.mul_one] at hx12); (try rw [show ((Kd.slice 3 (Kd.int .i64))).sz = 1 from rfl, Nat.mul_one] at hf12); have HP2 := Kd.S_seg0 HH2.out C20.out (by have := C21.out; have := HLX.out; omega) (seg := [.slice Ao12 y2.length co12]) (j := 0) (show 1 ≤ 1 from by decide) (x' := y2) (Kd.M_row HO12.out) (fun _ hk => hk); (try simp only [show ((Kd.slice 3 (Kd.int .i64))).sz = 1 from rfl, Nat.mul_one, Nat.add_zero] at HP2); clear hcc2 hfr2)
               | ((with_reducible refine gate_store (t := 30) (p := 72) rfl ?_); refine store_event (t := 30) (p := 72) (v := ?vo_l2) (w1 := (w7.setCell ⟨go1, i.toNat, none⟩ (.slice Ao12 y2.length co12))) ?hg ?ho ?hn ?hr ?_; (case ho => rfl); (case hg => rfl); (case hn => rfl); (case hr => first | (go_simp; done) | (go_simp; rfl)); intro w8 hw; have hg : w7.grownBy w8 (some go1) := (by rw [hw]; exact HP2.2); have hp_ : Kd.S (Kd.slice 3 (Kd.int .i64)) 30 w8 w.heap.size (fun _ => True) (.slice (some ⟨go1, 0, none⟩) x.length co1) (x2.set i.toNat y2) := (by rw [hw]; exact HP2.1); clear HP2; have n0_ := Aside0.mk (blk_grown (g := g1) (o := (.cells #[.slice (some ad1) l0_0.length c0_0, .slice A0_1 l0_1.length c0_1] 26 (0, 0))) (by exact KX_ BK1.out) hg (NE1.out)); have n1_ := Aside0.mk (blk_grown (g := g2) (o := (.cells #[.slice none 0 0, .slice none 0 0] 26 (0, 0))) (by exact KX_ BK2.out) hg (NE2.out)); have n2_ := Aside0.mk (blk_grown (g := g5) (o := (.cells (AV out) 47 (0, 0))) (by exact KX_ BK5.out) hg (NE5.out)); clear BK1 BK2 BK5; have BK1 := n0_; have BK2 := n1_; have BK5 := n2_; clear n0_ n1_ n2_; have nb_ := Aside0.mk ((by rw [hw]; exact below_set HB.out GB1.out : Below w.heap.size w w8)); have no_ := Aside0.mk hp_; clear HB HO12 HH2 hq5_ hg5_; have HB := nb_; have HO8 := no_; clear nb_ no_ hg hw hp_ hraw2 hx12 hf12; have hq5_ := av_cell BK5.out i (by rw [HE.out]; exact C22.out) C20.out; rw [HF.out] at hq5_; have hg5_ := blk_frozen BK5.out i.toNat))
              go_roundg k2
              case measure => have := HK1.out; have := HK2.out; omega
              case rel => exact ⟨_, (wrap64 (i + 1)), (by first | rfl | (simp; done) | (simp [*]; done)), H', ⟨by have := HK2.out; omega⟩, ⟨SX_ HO8.out⟩, ⟨KX_ BK1.out⟩, ⟨KX_ BK2.out⟩, ⟨KX_ BK5.out⟩, ⟨B_⟩⟩
             rw [if_neg c25] at H
             exact absurd H (by simp)
            rw [if_neg c24] at H
            have HF := Aside0.mk (Bool.eq_false_iff.mpr c24)
            rw [HF.out] at hq5_
            clear c24
            have H' := Aside0.mk H
            clear H
            go_wp2_with (first
             | ((with_reducible refine gate_builtin (b := .append) (xs := #[.tmp 56, .tmp 57]) rfl ?_); at_builtin; refine Kd.R_append_rows (Kd.int .i64) (w0 := w) w.heap.size rfl (.tmp 56) (.tmp 57) 30 3 (.int .i64 0) 8 rfl Try.underlying30 info3 rfl (by decide) (by omega) (.slice Ax1 (rd_L1 x i).length cx1) (rd_L1 x i) (rd_L1 l0_0 i) _ _ _ (fun k_ => oki1 k_ ∨ ((fun _ => True)) k_ ∧ wr.heap.size ≤ k_) (fun _ => False) rfl rfl ?aO ?aR (fun _ _ h => h) (fun _ h => h.elim) ?aF ?aB ?aS ?aL ?_; (case aR => exact (Kd.C_below HR1.out (B_))); (case aB => exact (B_)); (case aF => exact (fun k_ hk => .inr ⟨trivial, hk⟩)); (case aO => exact (by (with_reducible repeat (first | apply Kd.R_alloc | apply Kd.R_drewN | apply Kd.R_drew)); exact Kd.R_mono UU1.out (fun _ hk => .inl hk))); (case aS => exact (below_size (B_))); (case aL => have := LM.out; omega); intro v9 w5 ho hb hg hat; rw [NY1.out] at ho; have n0_ := Aside0.mk (blk_grown (g := g1) (o := (.cells #[.slice (some ad1) l0_0.length c0_0, .slice A0_1 l0_1.length c0_1] 26 (0, 0))) (by exact KX_ BK1.out) hg (Kd.R_ne UU1.out BK1.out (by decide))); have n1_ := Aside0.mk (blk_grown (g := g2) (o := (.cells #[.slice none 0 0, .slice none 0 0] 26 (0, 0))) (by exact KX_ BK2.out) hg (Kd.R_ne UU1.out BK2.out (by decide))); have n2_ := Aside0.mk (blk_grown (g := g5) (o := (.cells (AV out) 47 (0, 0))) (by exact KX_ BK5.out) hg (Kd.R_ne UU1.out BK5.out (by decide))); clear BK1 BK2 BK5; have BK1 := n0_; have BK2 := n1_; have BK5 := n2_; clear n0_ n1_ n2_; have nb_ := Aside0.mk hb; have nh_ := Aside0.mk (Kd.H_grown (Kd.H_widen (by repeat (first | exact HH1.out | refine Kd.H_alloc ?_ _ | refine Kd.H_drewN ?_ _ | refine Kd.H_drew ?_))) hg (fun k_ e_ => .inl (UU1.out.1 k_ e_))); have no_ := Aside0.mk ho; clear HB HH1 HO8 UU1; have HB := nb_; have HH1 := nh_; have HO9 := no_; clear nb_ nh_ no_ ho hb hg hat; obtain ⟨Ao9, co9, eo9⟩ := Kd.R_slice HO9.out; subst eo9; obtain ⟨_, _, hraw1, _, _, hcc1, _⟩ := Kd.H_raw HH1.out C20.out (by have h_ := C21.out; first | exact h_ | (have e_ := (HN1.out); omega) | simpa using h_); obtain ⟨_, hfr1⟩ := Kd.H_at HH1.out C20.out (by have h_ := C21.out; first | exact h_ | (have e_ := (HN1.out); omega) | simpa using h_); have hx9 := hcc1 0 _ rfl; have hf9 := hfr1 0; (try simp only [Nat.add_zero] at hx9 hf9); (try rw [show ((Kd.slice 3 (Kd.int .i64))).sz = 1 from rfl, Nat.mul_one] at hx9); (try rw [show ((Kd.slice 3 (Kd.int .i64))).sz = 1 from rfl, Nat.mul_one] at hf9); have HP1 := Kd.S_seg0 HH1.out C20.out (by have h_ := C21.out; first | exact h_ | (have e_ := (HN1.out); omega) | simpa using h_) (seg := [.slice Ao9 y1.length co9]) (j := 0) (show 1 ≤ 1 from by decide) (x' := y1) (Kd.M_row HO9.out) (fun _ hk => hk); (try simp only [show ((Kd.slice 3 (Kd.int .i64))).sz = 1 from rfl, Nat.mul_one, Nat.add_zero] at HP1); clear hcc1 hfr1)
             | ((with_reducible refine gate_store (t := 30) (p := 59) rfl ?_); refine store_event (t := 30) (p := 59) (v := ?vo_l3) (w1 := (w5.setCell ⟨go1, i.toNat, none⟩ (.slice Ao9 y1.length co9))) ?hg ?ho ?hn ?hr ?_; (case ho => rfl); (case hg => rfl); (case hn => rfl); (case hr => first | (go_simp; done) | (go_simp; rfl)); intro w6 hw; have hg : w5.grownBy w6 (some go1) := (by rw [hw]; exact HP1.2); have hp_ : Kd.S (Kd.slice 3 (Kd.int .i64)) 30 w6 w.heap.size (fun _ => True) (.slice (some ⟨go1, 0, none⟩) x.length co1) (x.set i.toNat y1) := (by rw [hw]; exact HP1.1); clear HP1; have n0_ := Aside0.mk (blk_grown (g := g1) (o := (.cells #[.slice (some ad1) l0_0.length c0_0, .slice A0_1 l0_1.length c0_1] 26 (0, 0))) (by exact KX_ BK1.out) hg (NE1.out)); have n1_ := Aside0.mk (blk_grown (g := g2) (o := (.cells #[.slice none 0 0, .slice none 0 0] 26 (0, 0))) (by exact KX_ BK2.out) hg (NE2.out)); have n2_ := Aside0.mk (blk_grown (g := g5) (o := (.cells (AV out) 47 (0, 0))) (by exact KX_ BK5.out) hg (NE5.out)); clear BK1 BK2 BK5; have BK1 := n0_; have BK2 := n1_; have BK5 := n2_; clear n0_ n1_ n2_; have nb_ := Aside0.mk ((by rw [hw]; exact below_set HB.out GB1.out : Below w.heap.size w w6)); have no_ := Aside0.mk hp_; clear HB HO9 HH1 hq5_ hg5_; have HB := nb_; have HO8 := no_; clear nb_ no_ hg hw hp_ hraw1 hx9 hf9; have hq5_ := av_cell BK5.out i (by rw [HE.out]; exact C22.out) C20.out; rw [HF.out] at hq5_; have hg5_ := blk_frozen BK5.out i.toNat))
            go_roundg k2
            case measure => have := HK1.out; have := HK2.out; omega
            case rel => exact ⟨_, (wrap64 (i + 1)), (by first | rfl | (simp; done) | (simp [*]; done)), H', ⟨by have := HK2.out; omega⟩, ⟨SX_ HO8.out⟩, ⟨KX_ BK1.out⟩, ⟨KX_ BK2.out⟩, ⟨KX_ BK5.out⟩, ⟨B_⟩⟩
           rw [if_neg c23] at H
           exact absurd H (by simp)
          rw [if_neg c22] at H
          exact absurd H (by simp)
         rw [if_neg c21] at H
         exact absurd H (by simp)
        rw [if_neg c20] at H
        exact absurd H (by simp)
       rw [if_neg c19] at H
       have c19b0 : decide (i < (l0_0.length : Int)) = false := decide_eq_false c19
       clear c19
       have A6 := Aside0.mk H
       clear H
       obtain ⟨Ao8, co8, eo8⟩ := Kd.S_slice HO8.out
       subst eo8
       go_wp2_with (first | (go_at_call 9; (with_reducible refine (graph_Make.calls k2 _ _ x r1 r2 r3 _ ?side1 ?side2 A6.out).mono ?_); (case side1 => exact CX_ (Kd.S_reads' HO8.out).2.2); (case side2 => exact (Kd.S_reads' HO8.out).2.1); rintro e w8 ⟨v0, v1, rfl, ho0, ho1, hb⟩; have n1_ := Aside0.mk (blk_below (g := g2) (o := .cells #[.slice none 0 0, .slice none 0 0] 26 (0, 0)) (by exact KX_ BK2.out) hb); have no0_ := Aside0.mk (Kd.S_lower (Kd.S_newB ho0 (g := g2) (o := .cells #[.slice none 0 0, .slice none 0 0] 26 (0, 0)) (by exact KX_ BK2.out)) (below_size (B_))); have no1_ := Aside0.mk (Kd.S_lower (Kd.S_newB ho1 (g := g2) (o := .cells #[.slice none 0 0, .slice none 0 0] 26 (0, 0)) (by exact KX_ BK2.out)) (below_size (B_))); have nb_ := Aside0.mk (below_step (B_) hb); clear BK1 BK2 BK5 HB HO8; have BK2 := n1_; have HB := nb_; have HO10 := no0_; have HO11 := no1_; clear n1_ nb_ no0_ no1_ hb ho0 ho1; obtain ⟨Ao10, co10, eo10⟩ := Kd.S_slice HO10.out; subst eo10; obtain ⟨Ao11, co11, eo11⟩ := Kd.S_slice HO11.out; subst eo11; have hcz2_0 : w8.cell? ⟨g2, 0, none⟩ = some (.slice none 0 0) := (blk_cell BK2.out 0).trans rfl; have hcz2_1 : w8.cell? ⟨g2, 1, none⟩ = some (.slice none 0 0) := (blk_cell BK2.out 1).trans rfl; have hfz2_0 := blk_frozen BK2.out 0; have hfz2_1 := blk_frozen BK2.out 1))
       (try simp only [jumpg_ret, Exit.then, Exit.inBlock])
       refine bodyPost_ret (results_ct rfl _ _ g2 26 #[.slice Ao10 r1.length co10, .slice Ao11 r2.length co11] (0, 0) _ rfl (blk_put (cs := #[.slice Ao10 r1.length co10, .slice none 0 0]) (blk_put (cs := #[.slice none 0 0, .slice none 0 0]) BK2.out 0 _ rfl) 1 _ rfl) Try.underlying26 rfl (by kernel_rfl)) rfl ?_
       exact ⟨_, _, by first | rfl | (simp; done), Kd.S_mono (Kd.S_far (p := ⟨g2, 1, none⟩) (Kd.S_far (p := ⟨g2, 0, none⟩) HO10.out (fun _ hk => hk.2) _) (fun _ hk => hk.2) _) (fun _ hk => hk.1), Kd.S_mono (Kd.S_far (p := ⟨g2, 1, none⟩) (Kd.S_far (p := ⟨g2, 0, none⟩) HO11.out (fun _ hk => hk.2) _) (fun _ hk => hk.2) _) (fun _ hk => hk.1), B1_⟩
    rw [if_neg c13] at H
    exact absurd H (by simp)
   rw [if_neg c12] at H
   exact absurd H (by simp)
 replace c7 := Bool.eq_false_iff.mpr c7
 subst c7
 rw [if_neg (show ¬ (false = true) by decide)] at H
 simp only [Option.some.injEq, Prod.mk.injEq] at H
 obtain ⟨rfl, rfl, rfl⟩ := H
 go_wp2_with (first | (go_at_call 24; (with_reducible refine (graph_May.calls k _ _ l0_0 _ _ l0_1 false _ ?side1 ?side2 ?side3 ?side4 A1.out).mono ?_); (case side1 => exact Kd.C_below HR0_0.out (B_)); (case side2 => exact HC0_0.out); (case side3 => exact Kd.C_below HR0_1.out (B_)); (case side4 => exact HC0_1.out); rintro e w3 ⟨rfl, hb⟩; clear hcz1_0 hcz1_1 hfz1_0 hfz1_1; have n0_ := Aside0.mk (blk_below (g := g1) (o := (.cells #[.slice A0_0 l0_0.length c0_0, .slice A0_1 l0_1.length c0_1] 26 (0, 0))) (by exact KX_ BK1.out) hb); have n1_ := Aside0.mk (blk_below (g := g2) (o := (.cells #[.slice none 0 0, .slice none 0 0] 26 (0, 0))) (by exact KX_ BK2.out) hb); have nb_ := Aside0.mk (below_step (B_) hb); clear BK1 BK2 HB; have BK1 := n0_; have BK2 := n1_; have HB := nb_; clear n0_ n1_ nb_ hb; have hcz1_0 : w3.cell? ⟨g1, 0, none⟩ = some (.slice A0_0 l0_0.length c0_0) := (blk_cell BK1.out 0).trans rfl; have hcz1_1 : w3.cell? ⟨g1, 1, none⟩ = some (.slice A0_1 l0_1.length c0_1) := (blk_cell BK1.out 1).trans rfl; have hfz1_0 := blk_frozen BK1.out 0; have hfz1_1 := blk_frozen BK1.out 1; have hcz2_0 : w3.cell? ⟨g2, 0, none⟩ = some (.slice none 0 0) := (blk_cell BK2.out 0).trans rfl; have hcz2_1 : w3.cell? ⟨g2, 1, none⟩ = some (.slice none 0 0) := (blk_cell BK2.out 1).trans rfl; have hfz2_0 := blk_frozen BK2.out 0; have hfz2_1 := blk_frozen BK2.out 1))
 (try simp only [jumpg_ret, Exit.then, Exit.inBlock])
 refine bodyPost_ret (results_ct rfl _ _ g2 26 #[.slice none 0 0, .slice none 0 0] (0, 0) _ rfl (blk_put (cs := #[.slice none 0 0, .slice none 0 0]) (blk_put (cs := #[.slice none 0 0, .slice none 0 0]) BK2.out 0 _ rfl) 1 _ rfl) Try.underlying26 rfl (by kernel_rfl)) rfl ?_
 exact ⟨_, _, by first | rfl | (simp; done), Kd.S_nil _ _ _ _ _, Kd.S_nil _ _ _ _ _, B1_⟩


/-! ### lockstepref02_Ints: function 16 -/
def lockstepref02_Ints.l0 : Nat → List Int → List Int → Int → Option (Bool)
 | 0, _, _, _ => none
 | k + 1, x0, x1, x5 => if x5 < (x0.length : Int) then (if 0 ≤ x5 then (if x5 < (x1.length : Int) then (if (rd x0 x5) = (rd x1 x5) then (lockstepref02_Ints.l0 k x0 x1 (wrap64 (x5 + 1))) else (some false)) else (none)) else (none)) else (some true)
def lockstepref02_Ints.f (k : Nat) (l0 : List Int) (l1 : List Int) : Option (Bool) := if (l0.length : Int) = (l1.length : Int) then (lockstepref02_Ints.l0 k l0 l1 0) else (some false)
theorem lockstepref02_Ints.mono_l : ∀ k, (∀ y0 y1 y2, LeO (lockstepref02_Ints.l0 k y0 y1 y2) (lockstepref02_Ints.l0 (k + 1) y0 y1 y2))
 | 0 => fun _ _ _ r h => by simp [lockstepref02_Ints.l0] at h
 | k + 1 => by
  have ih0 := lockstepref02_Ints.mono_l k
  ·intro y0 y1 y2
   unfold lockstepref02_Ints.l0
   repeat' first
   | (with_reducible exact ih0 _ _ _)
   | (with_reducible exact LeO.refl _)
   | (with_reducible exact LeO.none _)
   | (with_reducible refine LeO.ite ?_ ?_)
   | (with_reducible refine LeO.bind ?_ (fun _ => ?_))
   | exact ih0 _ _ _
   | exact LeO.none _
   | refine LeO.ite ?_ ?_
   | refine LeO.bind ?_ (fun _ => ?_)
theorem lockstepref02_Ints.mono : ∀ a0 a1 k, LeO (lockstepref02_Ints.f k a0 a1) (lockstepref02_Ints.f (k + 1) a0 a1) := by
 intro a0 a1 k
 have ih0 := lockstepref02_Ints.mono_l k
 unfold lockstepref02_Ints.f
 repeat' first
  | (with_reducible exact ih0 _ _ _)
  | (with_reducible exact LeO.refl _)
  | (with_reducible exact LeO.none _)
  | (with_reducible refine LeO.ite ?_ ?_)
  | (with_reducible refine LeO.bind ?_ (fun _ => ?_))
  | exact ih0 _ _ _
  | exact LeO.none _
  | refine LeO.ite ?_ ?_
  | refine LeO.bind ?_ (fun _ => ?_)
set_option maxHeartbeats 8000000 in
set_option maxRecDepth 100000 in
theorem lockstepref02_Ints.calls (k : Nat) (A0 : Option Addr) (c0 : Nat) (l0 : List Int) (A1 : Option Addr) (c1 : Nat) (l1 : List Int) (r : Bool) (w : World) (hr0 : Kd.C (Kd.int .i64) w A0 l0.length l0) (hc0 : l0.length ≤ c0) (hr1 : Kd.C (Kd.int .i64) w A1 l1.length l1) (hc1 : l1.length ≤ c1) (h : lockstepref02_Ints.f k l0 l1 = some r) :
 Calls Try.prog 16 #[.slice A0 l0.length c0, .slice A1 l1.length c1] w fun e w' => e = .returned (.bool r) ∧ Drawn0 w w' := by
 have HR0 := Aside0.mk hr0
 have HC0 := Aside0.mk hc0
 clear hr0 hc0
 have HR1 := Aside0.mk hr1
 have HC1 := Aside0.mk hc1
 clear hr1 hc1
 have H : (if (l0.length : Int) = (l1.length : Int) then (lockstepref02_Ints.l0 k l0 l1 0) else (some false)) = some r := h
 clear h
 by_cases c3 : (l0.length : Int) = (l1.length : Int)
 ·rw [if_pos c3] at H
  have c3b0 : ((l0.length : Int) == (l1.length : Int)) = true := beq_iff_eq.mpr c3
  have c3b1 : ((l0.length : Int) != (l1.length : Int)) = false := bne_eq_false_iff_eq.mpr c3
  have c3b2 : (l0.length == l1.length) = true := by first | simpa using c3 | (simp at c3 ⊢; omega)
  clear c3
  have H' := Aside0.mk H
  clear H
  go_enter Try.func16, Try.ntmps16
  go_wp2
  repeat (go_quiet (fail); try go_wp2)
  go_loopg [5] k (fun kq v5 w' => ∃ (x5_1 : Int), v5 = .int .i64 x5_1 ∧ Aside0 (lockstepref02_Ints.l0 kq l0 l1 x5_1 = some r) ∧ Aside0 (kq ≤ k) ∧ Drawn0 w w')
  case atStart => exact ⟨(0), (by first | rfl | (simp; done) | (simp [*]; done)), H', ⟨Nat.le_refl _⟩, by repeat (first | exact Drawn0.refl _ | apply Drawn0.step)⟩
  case round =>
   clear H'
   try clear c1
   try clear c3b0
   try clear c3b1
   try clear c3b2
   obtain ⟨x5_1, rfl, HA, HK1, ⟨m1, rfl⟩⟩ := hrel
   cases gk with
   | zero => exact absurd HA.out (by simp [lockstepref02_Ints.l0])
   | succ k1 =>
    have H := HA.out
    clear HA
    simp only [lockstepref02_Ints.l0] at H
    by_cases c4 : x5_1 < (l0.length : Int)
    ·rw [if_pos c4] at H
     have c4b0 : decide (x5_1 < (l0.length : Int)) = true := decide_eq_true c4
     clear c4
     by_cases c5 : 0 ≤ x5_1
     ·rw [if_pos c5] at H
      have c5b0 : decide (0 ≤ x5_1) = true := decide_eq_true c5
      clear c5
      by_cases c6 : x5_1 < (l1.length : Int)
      ·rw [if_pos c6] at H
       have c6b0 : decide (x5_1 < (l1.length : Int)) = true := decide_eq_true c6
       clear c6
       by_cases c7 : (rd l0 x5_1) = (rd l1 x5_1)
       ·rw [if_pos c7] at H
        have c7b0 : ((rd l0 x5_1) == (rd l1 x5_1)) = true := beq_iff_eq.mpr c7
        have c7b1 : ((rd l0 x5_1) != (rd l1 x5_1)) = false := bne_eq_false_iff_eq.mpr c7
        clear c7
        have H' := Aside0.mk H
        clear H
        have p288 : 0 ≤ (x5_1 : Int) := D_
        have q288 : x5_1 < (l0.length : Int) := D_
        obtain ⟨ad288, e288, hx288_0⟩ := Kd.at_int HR0.out x5_1 p288 q288
        cases e288
        replace p288 := eq_true p288
        replace q288 := eq_true q288
        have p289 : 0 ≤ (x5_1 : Int) := D_
        have q289 : x5_1 < (l1.length : Int) := D_
        obtain ⟨ad289, e289, hx289_0⟩ := Kd.at_int HR1.out x5_1 p289 q289
        cases e289
        replace p289 := eq_true p289
        replace q289 := eq_true q289
        go_wp2
        repeat (go_quiet (fail); try go_wp2)
        go_roundg k1
        case measure => have := HK1.out; omega
        case rel => exact ⟨(wrap64 (x5_1 + 1)), (by first | rfl | (simp; done) | (simp [*]; done)), H', ⟨by have := HK1.out; omega⟩, by repeat (first | exact Drawn0.refl _ | apply Drawn0.step)⟩
       rw [if_neg c7] at H
       have c7b0 : ((rd l0 x5_1) == (rd l1 x5_1)) = false := beq_eq_false_iff_ne.mpr c7
       have c7b1 : ((rd l0 x5_1) != (rd l1 x5_1)) = true := bne_iff_ne.mpr c7
       obtain rfl := Option.some.inj H
       have p288 : 0 ≤ (x5_1 : Int) := D_
       have q288 : x5_1 < (l0.length : Int) := D_
       obtain ⟨ad288, e288, hx288_0⟩ := Kd.at_int HR0.out x5_1 p288 q288
       cases e288
       replace p288 := eq_true p288
       replace q288 := eq_true q288
       have p289 : 0 ≤ (x5_1 : Int) := D_
       have q289 : x5_1 < (l1.length : Int) := D_
       obtain ⟨ad289, e289, hx289_0⟩ := Kd.at_int HR1.out x5_1 p289 q289
       cases e289
       replace p289 := eq_true p289
       replace q289 := eq_true q289
       go_wp2
       repeat (go_quiet (fail); try go_wp2)
       go_ret
       exact ⟨by first | rfl | (simp; done) | (simp [*]; done), by repeat (first | exact Drawn0.refl _ | apply Drawn0.step)⟩
      rw [if_neg c6] at H
      exact absurd H (by simp)
     rw [if_neg c5] at H
     exact absurd H (by simp)
    rw [if_neg c4] at H
    have c4b0 : decide (x5_1 < (l0.length : Int)) = false := decide_eq_false c4
    clear c4
    obtain rfl := Option.some.inj H
    go_wp2
    repeat (go_quiet (fail); try go_wp2)
    go_ret
    exact ⟨by first | rfl | (simp; done) | (simp [*]; done), by repeat (first | exact Drawn0.refl _ | apply Drawn0.step)⟩
 rw [if_neg c3] at H
 have c3b0 : ((l0.length : Int) == (l1.length : Int)) = false := beq_eq_false_iff_ne.mpr c3
 have c3b1 : ((l0.length : Int) != (l1.length : Int)) = true := bne_iff_ne.mpr c3
 have c3b2 : (l0.length == l1.length) = false := by first | simpa using c3 | (simp at c3 ⊢; omega)
 obtain rfl := Option.some.inj H
 go_enter Try.func16, Try.ntmps16
 go_wp2
 repeat (go_quiet (fail); try go_wp2)
 go_ret
 exact ⟨by first | rfl | (simp; done) | (simp [*]; done), by repeat (first | exact Drawn0.refl _ | apply Drawn0.step)⟩


/-! ### slices_Reverse_int_int: function 37 -/
def slices_Reverse_int_int.l0 : Nat → List Int → Int → Int → Option (List Int)
 | 0, _, _, _ => none
 | k + 1, x0, x2, x3 => if x2 < x3 then (if 0 ≤ x3 then (if x3 < (x0.length : Int) then (if 0 ≤ x2 then (if x2 < (x0.length : Int) then (slices_Reverse_int_int.l0 k ((x0.set (x2 : Int).toNat (rd x0 x3)).set (x3 : Int).toNat (rd x0 x2)) (wrap64 (x2 + 1)) (wrap64 (x3 - 1))) else (none)) else (none)) else (none)) else (none)) else (some x0)
def slices_Reverse_int_int.f (k : Nat) (l0 : List Int) : Option (List Int) := slices_Reverse_int_int.l0 k l0 0 (wrap64 ((l0.length : Int) - 1))
theorem slices_Reverse_int_int.mono_l : ∀ k, (∀ y0 y1 y2, LeO (slices_Reverse_int_int.l0 k y0 y1 y2) (slices_Reverse_int_int.l0 (k + 1) y0 y1 y2))
 | 0 => fun _ _ _ r h => by simp [slices_Reverse_int_int.l0] at h
 | k + 1 => by
  have ih0 := slices_Reverse_int_int.mono_l k
  ·intro y0 y1 y2
   unfold slices_Reverse_int_int.l0
   repeat' first
   | (with_reducible exact ih0 _ _ _)
   | (with_reducible exact LeO.refl _)
   | (with_reducible exact LeO.none _)
   | (with_reducible refine LeO.ite ?_ ?_)
   | (with_reducible refine LeO.bind ?_ (fun _ => ?_))
   | exact ih0 _ _ _
   | exact LeO.none _
   | refine LeO.ite ?_ ?_
   | refine LeO.bind ?_ (fun _ => ?_)
theorem slices_Reverse_int_int.mono : ∀ a0 k, LeO (slices_Reverse_int_int.f k a0) (slices_Reverse_int_int.f (k + 1) a0) := by
 intro a0 k
 have ih0 := slices_Reverse_int_int.mono_l k
 unfold slices_Reverse_int_int.f
 repeat' first
  | (with_reducible exact ih0 _ _ _)
  | (with_reducible exact LeO.refl _)
  | (with_reducible exact LeO.none _)
  | (with_reducible refine LeO.ite ?_ ?_)
  | (with_reducible refine LeO.bind ?_ (fun _ => ?_))
  | exact ih0 _ _ _
  | exact LeO.none _
  | refine LeO.ite ?_ ?_
  | refine LeO.bind ?_ (fun _ => ?_)
def slices_Reverse_int_int.T3 : Bool × List (List Nat × List Nat) := (true, [([], []), ([], []), ([], []), ([], []), ([], []), ([], []), ([4, 5], [4, 5]), ([6], [6]), ([], []), ([], []), ([8, 9], [8, 9]), ([10], [10]), ([0, 1, 0, 1, 4, 5, 6, 7, 11], [0, 1]), ([12, 7, 0, 1, 4, 5, 6, 7, 11], [7, 12]), ([2, 3, 0, 1, 2, 3, 4, 5, 6, 7, 8, 9, 10, 11, 12, 13], [2, 3]), ([14, 11, 13, 0, 1, 2, 3, 4, 5, 6, 7, 8, 9, 10, 11, 12, 13], [11, 14])])
def slices_Reverse_int_int.B3 : List Nat := [0, 0, 0, 0, 0, 0, 48, 112, 0, 0, 768, 1792, 4083, 8179, 16383, 32767]
theorem slices_Reverse_int_int.tab3 : rtab .any (opsOf Try.f37 3) = slices_Reverse_int_int.T3 := by kernel_rfl
theorem slices_Reverse_int_int.bits3 : waitsOk slices_Reverse_int_int.T3.2 slices_Reverse_int_int.B3 = true := by kernel_rfl
set_option maxHeartbeats 8000000 in
set_option maxRecDepth 100000 in
theorem slices_Reverse_int_int.calls (k : Nat) (P0_ : Nat → Prop) (u9000_ : Value) (l0 : List Int) (r : List Int) (w0 w : World) (hB : Below w0.heap.size w0 w) (ho0 : Kd.R (Kd.int .i64) 3 w w0.heap.size P0_ u9000_ l0) (h : slices_Reverse_int_int.f k l0 = some r) :
 Calls Try.prog 37 #[u9000_] w fun e w' => e = .returned (.tuple #[]) ∧ Kd.R (Kd.int .i64) 3 w' w0.heap.size (fun k_ => (P0_ k_ ∨ w.heap.size ≤ k_)) u9000_ r ∧ Below w0.heap.size w0 w' ∧ Kept w w' (fun k_ => P0_ k_) := by
 have HO0 := Aside0.mk (show Kd.R (Kd.int .i64) 3 w w0.heap.size (fun k_ => (P0_ k_ ∨ w.heap.size ≤ k_)) u9000_ l0 from Kd.R_mono ho0 (fun k_ hk => (.inl hk)))
 have HK := Aside0.mk (Kept.refl w (fun k_ => P0_ k_))
 have HW0 := Aside0.mk hB.size
 have HB := Aside0.mk hB
 clear hB
 have H : (slices_Reverse_int_int.l0 k l0 0 (wrap64 ((l0.length : Int) - 1))) = some r := h
 clear h
 have H' := Aside0.mk H
 clear H
 obtain ⟨Ao2, co2, eo2⟩ := Kd.R_slice HO0.out
 subst eo2
 go_enter Try.func37, Try.ntmps37
 go_wp2
 go_loopg [2, 3] k (fun kq v2 v3 w' => ∃ (x0_1 : List Int) (x2_1 : Int) (x3_1 : Int), v2 = .int .i64 x2_1 ∧ v3 = .int .i64 x3_1 ∧ Aside0 (slices_Reverse_int_int.l0 kq x0_1 x2_1 x3_1 = some r) ∧ Aside0 (kq ≤ k) ∧ Aside0 (Kd.R (Kd.int .i64) 3 w' w0.heap.size (fun k_ => (P0_ k_ ∨ w.heap.size ≤ k_)) (.slice Ao2 l0.length co2) x0_1) ∧ Aside0 (Kept w w' (fun k_ => P0_ k_)) ∧ Aside0 (Below w0.heap.size w0 w'))
 case atStart => exact ⟨(l0), (0), (wrap64 ((l0.length : Int) - 1)), (by first | rfl | (simp; done) | (simp [*]; done)), (by first | rfl | (simp; done) | (simp [*]; done)), H', ⟨Nat.le_refl _⟩, ⟨by exact RM_ HO0.out⟩, ⟨by repeat (first | (with_reducible first | exact HK.out | apply Kept.alloc | apply Kept.drewN | apply Kept.drew) | exact HK.out)⟩, ⟨B_⟩⟩
 case round =>
  clear H'
  obtain ⟨x0_1, x2_1, x3_1, rfl, rfl, HA, HK1, HO_0, HK, HB⟩ := hrel
  have hl0_1 := (Kd.R_reads' HO_0.out).1
  rw [hl0_1] at HO_0
  (try simp only [hl0_1])
  cases gk with
  | zero => exact absurd HA.out (by simp [slices_Reverse_int_int.l0])
  | succ k1 =>
   have H := HA.out
   clear HA
   simp only [slices_Reverse_int_int.l0] at H
   by_cases c3 : x2_1 < x3_1
   ·rw [if_pos c3] at H
    have c3b0 : decide (x2_1 < x3_1) = true := decide_eq_true c3
    clear c3
    by_cases c4 : 0 ≤ x3_1
    ·rw [if_pos c4] at H
     have c4b0 : decide (0 ≤ x3_1) = true := decide_eq_true c4
     clear c4
     by_cases c5 : x3_1 < (x0_1.length : Int)
     ·rw [if_pos c5] at H
      have c5b0 : decide (x3_1 < (x0_1.length : Int)) = true := decide_eq_true c5
      clear c5
      by_cases c6 : 0 ≤ x2_1
      ·rw [if_pos c6] at H
       have c6b0 : decide (0 ≤ x2_1) = true := decide_eq_true c6
       clear c6
       by_cases c7 : x2_1 < (x0_1.length : Int)
       ·rw [if_pos c7] at H
        have c7b0 : decide (x2_1 < (x0_1.length : Int)) = true := decide_eq_true c7
        clear c7
        obtain ⟨y168, hy168⟩ : ∃ y_ : List Int, y_ = (x0_1.set (x2_1 : Int).toNat (rd x0_1 x3_1)) := ⟨_, rfl⟩
        replace H : (slices_Reverse_int_int.l0 k1 (y168.set (x3_1 : Int).toNat (rd x0_1 x2_1)) (wrap64 (x2_1 + 1)) (wrap64 (x3_1 - 1))) = some r := by first | (rw [hy168]; with_reducible exact H) | (have H2_ := (Option.bind_some _ _).symm.trans H; rw [hy168]; with_reducible exact H2_) | (have H2_ := (Option.bind_some _ _).symm.trans H; with_reducible exact H2_) | with_reducible exact H | (rw [hy168]; exact H) | exact H
        have Ny168 := Aside0.mk hy168
        clear hy168
        obtain ⟨y169, hy169⟩ : ∃ y_ : List Int, y_ = (y168.set (x3_1 : Int).toNat (rd x0_1 x2_1)) := ⟨_, rfl⟩
        replace H : (slices_Reverse_int_int.l0 k1 y169 (wrap64 (x2_1 + 1)) (wrap64 (x3_1 - 1))) = some r := by first | (rw [hy169]; with_reducible exact H) | (have H2_ := (Option.bind_some _ _).symm.trans H; rw [hy169]; with_reducible exact H2_) | (have H2_ := (Option.bind_some _ _).symm.trans H; with_reducible exact H2_) | with_reducible exact H | (rw [hy169]; exact H) | exact H
        have Ny169 := Aside0.mk hy169
        clear hy169
        have H' := Aside0.mk H
        clear H
        try go_wp2
        have n0_ := Aside0.mk (Kd.R_drew HO_0.out)
        have n1_ := Aside0.mk (Kept.drew HK.out)
        have n2_ := Aside0.mk (below_drew1 HB.out)
        clear HO_0
        clear HK
        clear HB
        have HO_0 := n0_
        have HK := n1_
        have HB := n2_
        clear n0_ n1_ n2_
        have p166 : 0 ≤ (x3_1 : Int) := D_
        have q166 : x3_1 < (x0_1.length : Int) := D_
        obtain ⟨ad166, e166, hx166_0⟩ := Kd.at_int (Kd.R_reads' HO_0.out).2.2 x3_1 p166 q166
        cases e166
        replace p166 := eq_true p166
        replace q166 := eq_true q166
        have p167 : 0 ≤ (x2_1 : Int) := D_
        have q167 : x2_1 < (x0_1.length : Int) := D_
        obtain ⟨ad167, e167, hx167_0⟩ := Kd.at_int (Kd.R_reads' HO_0.out).2.2 x2_1 p167 q167
        obtain rfl : ad166 = ad167 := (by injection e167)
        replace p167 := eq_true p167
        replace q167 := eq_true q167
        have p8 : 0 ≤ (x2_1 : Int) := D_
        have q8 : (x2_1 : Int) < ((x0_1.length : Int) : Int) := D_
        obtain ⟨go8, co8, eo8, gb8, gl8, cl8, HG8⟩ := Kd.R_form HO_0.out (by omega)
        (first | cases eo8 | (injection eo8 with ea_ en_ ec_; (first | subst ea_ | (injection ea_ with ea_; subst ea_)); subst ec_; clear en_))
        have GB8 := Aside0.mk gb8
        have GG8 := Aside0.mk HG8
        clear gb8 gl8 HG8
        have HMgo8 := Aside0.mk (show (P0_ go8 ∨ w.heap.size ≤ go8) from (HO_0.out.1 _ rfl))
        (first | simp only [add_plain] at hx166_0 | skip)
        (first | simp only [add_plain] at hx167_0 | skip)
        obtain ⟨hx8_0, hf8_0⟩ := Kd.R_celln 0 HO_0.out (x2_1 : Int) p8 q8
        replace p8 := eq_true p8
        replace q8 := eq_true q8
        have HP11 := Kd.R_putn HO_0.out (x2_1 : Int) (rd x0_1 x3_1)
        rw [← Ny168.out] at HP11
        have HQ11 := Aside0.mk HP11
        clear HP11
        have p9 : 0 ≤ (x3_1 : Int) := D_
        have q9 : (x3_1 : Int) < ((x0_1.length : Int) : Int) := D_
        obtain ⟨hx9_0, hf9_0⟩ := Kd.R_celln 0 HQ11.out (x3_1 : Int) p9 q9
        replace p9 := eq_true p9
        replace q9 := eq_true q9
        have HP12 := Kd.R_putn HQ11.out (x3_1 : Int) (rd x0_1 x2_1)
        rw [← Ny169.out] at HP12
        have HQ12 := Aside0.mk HP12
        clear HP12
        refine start_ (n := 16) (S := fun w' => w'.cell? ⟨go8, (x3_1).toNat, none⟩ = some (.int .i64 (rd x0_1 x3_1)) ∧ w'.cell? ⟨go8, (x2_1).toNat, none⟩ = some (.int .i64 (rd x0_1 x2_1))) (ds := [13, 15]) #[false, false, false, false, false, false, false, false, false, false, false, false, false, false, false, false] (by kernel_rfl) rfl rfl ⟨hx166_0, hx167_0⟩ (fun hHeld => ?_); refine with_tabW slices_Reverse_int_int.tab3 slices_Reverse_int_int.bits3 (fun HT_ HW_ => ?_)
        generalize wr.drew = w10 at HO_0 HK HB GG8 HQ11 HQ12 hf8_0 hf9_0 hx166_0 hx167_0 hx8_0 hx9_0 hHeld ⊢
        refine pure_ (i := 0) (N := some 14) (v := ?_) (a' := ?_) #[true, false, false, false, false, false, false, false, false, false, false, false, false, false, false, false] rfl rfl (any_of HT_.out (by kernel_rfl)) (fun _ _ _ h => h) (Or.inl ⟨by rfl, ?_⟩) ?_ ?_
        rotate_left
        ·intro w'
         go_simp
         with_reducible rfl
        rotate_left
        ·exact P_
        refine pure_ (i := 1) (N := some 15) (v := ?_) (a' := ?_) #[true, true, false, false, false, false, false, false, false, false, false, false, false, false, false, false] rfl rfl (any_of HT_.out (by kernel_rfl)) (fun _ _ _ h => h) (Or.inl ⟨by rfl, ?_⟩) ?_ ?_
        rotate_left
        ·intro w'
         go_simp
         with_reducible rfl
        rotate_left
        ·exact P_
        refine pure_ (i := 2) (N := some 16) (v := ?_) (a' := ?_) #[true, true, true, false, false, false, false, false, false, false, false, false, false, false, false, false] rfl rfl (any_of HT_.out (by kernel_rfl)) (fun _ _ _ h => h) (Or.inl ⟨by rfl, ?_⟩) ?_ ?_
        rotate_left
        ·intro w'
         go_simp
         with_reducible rfl
        rotate_left
        ·exact P_
        refine pure_ (i := 3) (N := some 17) (v := ?_) (a' := ?_) #[true, true, true, true, false, false, false, false, false, false, false, false, false, false, false, false] rfl rfl (any_of HT_.out (by kernel_rfl)) (fun _ _ _ h => h) (Or.inl ⟨by rfl, ?_⟩) ?_ ?_
        rotate_left
        ·intro w'
         go_simp
         with_reducible rfl
        rotate_left
        ·exact P_
        refine pure_ (i := 4) (N := some 18) (v := ?_) (a' := ?_) #[true, true, true, true, true, false, false, false, false, false, false, false, false, false, false, false] rfl rfl (any_of HT_.out (by kernel_rfl)) (fun _ _ _ h => h) (Or.inl ⟨by rfl, ?_⟩) ?_ ?_
        rotate_left
        ·intro w'
         go_simp
         with_reducible rfl
        rotate_left
        ·exact P_
        refine pure_ (i := 5) (N := some 19) (v := ?_) (a' := ?_) #[true, true, true, true, true, true, false, false, false, false, false, false, false, false, false, false] rfl rfl (any_of HT_.out (by kernel_rfl)) (fun _ _ _ h => h) (Or.inl ⟨by rfl, ?_⟩) ?_ ?_
        rotate_left
        ·intro w'
         go_simp
         with_reducible rfl
        rotate_left
        ·exact P_
        refine pure_ (i := 6) (N := some 20) (v := ?_) (a' := ?_) #[true, true, true, true, true, true, true, false, false, false, false, false, false, false, false, false] rfl rfl (any_of HT_.out (by kernel_rfl)) (fun _ _ _ h => h) (Or.inl ⟨by rfl, ?_⟩) ?_ ?_
        rotate_left
        ·intro w'
         go_simp
         with_reducible rfl
        rotate_left
        ·exact P_
        refine pure_ (i := 8) (N := some 22) (v := ?_) (a' := ?_) #[true, true, true, true, true, true, true, false, true, false, false, false, false, false, false, false] rfl rfl (any_of HT_.out (by kernel_rfl)) (fun _ _ _ h => h) (Or.inl ⟨by rfl, ?_⟩) ?_ ?_
        rotate_left
        ·intro w'
         go_simp
         with_reducible rfl
        rotate_left
        ·exact P_
        refine pure_ (i := 9) (N := some 23) (v := ?_) (a' := ?_) #[true, true, true, true, true, true, true, false, true, true, false, false, false, false, false, false] rfl rfl (any_of HT_.out (by kernel_rfl)) (fun _ _ _ h => h) (Or.inl ⟨by rfl, ?_⟩) ?_ ?_
        rotate_left
        ·intro w'
         go_simp
         with_reducible rfl
        rotate_left
        ·exact P_
        refine pure_ (i := 10) (N := some 24) (v := ?_) (a' := ?_) #[true, true, true, true, true, true, true, false, true, true, true, false, false, false, false, false] rfl rfl (any_of HT_.out (by kernel_rfl)) (fun _ _ _ h => h) (Or.inl ⟨by rfl, ?_⟩) ?_ ?_
        rotate_left
        ·intro w'
         go_simp
         with_reducible rfl
        rotate_left
        ·exact P_
        refine take_ (i := 7) (N := some 21) (v := ?_) (a' := ?_) #[true, true, true, true, true, true, true, true, true, true, true, false, false, false, false, false] rfl rfl (take_ofW HT_.out HW_.out (by kernel_rfl)) (fun _ _ _ h => h) (Or.inl ⟨by rfl, ?_⟩) hHeld ?_ ?_
        rotate_left
        ·rintro w' ⟨s0, s1⟩
         go_simp
         with_reducible rfl
        rotate_left
        ·exact P_
        refine take_ (i := 11) (N := some 25) (v := ?_) (a' := ?_) #[true, true, true, true, true, true, true, true, true, true, true, true, false, false, false, false] rfl rfl (take_ofW HT_.out HW_.out (by kernel_rfl)) (fun _ _ _ h => h) (Or.inl ⟨by rfl, ?_⟩) hHeld ?_ ?_
        rotate_left
        ·rintro w' ⟨s0, s1⟩
         go_simp
         with_reducible rfl
        rotate_left
        ·exact P_
        refine pure_ (i := 12) (N := some 26) (v := ?_) (a' := ?_) #[true, true, true, true, true, true, true, true, true, true, true, true, true, false, false, false] rfl rfl (any_of HT_.out (by kernel_rfl)) (fun _ _ _ h => h) (Or.inl ⟨by rfl, ?_⟩) ?_ ?_
        rotate_left
        ·intro w'
         go_simp
         with_reducible rfl
        rotate_left
        ·exact P_
        refine last_ (i := 13) (N := none) #[true, true, true, true, true, true, true, true, true, true, true, true, true, true, false, false] rfl rfl (one_of HT_.out (by kernel_rfl)) (by decide) (fun K hK => ?_)
        refine skip_ (w1 := ?_) (by rfl) rfl ?_ ?_
        rotate_left
        ·go_simp
         rfl
        refine hK.out _ _ ?_
        clear hK K
        refine pure_ (i := 14) (N := some 27) (v := ?_) (a' := ?_) #[true, true, true, true, true, true, true, true, true, true, true, true, true, true, true, false] rfl rfl (any_of HT_.out (by kernel_rfl)) (fun _ _ _ h => h) (Or.inl ⟨by rfl, ?_⟩) ?_ ?_
        rotate_left
        ·intro w'
         go_simp
         with_reducible rfl
        rotate_left
        ·exact P_
        refine last_ (i := 15) (N := none) #[true, true, true, true, true, true, true, true, true, true, true, true, true, true, true, true] rfl rfl (one_of HT_.out (by kernel_rfl)) (by decide) (fun K hK => ?_)
        refine skip_ (w1 := ?_) (by rfl) rfl ?_ ?_
        rotate_left
        ·go_simp
         rfl
        refine hK.out _ _ ?_
        clear hK K
        refine done_ (done_of HT_.out (by kernel_rfl)) ?_
        try go_wp2
        (try simp only [← hl0_1])
        go_roundg k1
        case measure => have := HK1.out; omega
        case rel => exact ⟨(y169), (wrap64 (x2_1 + 1)), (wrap64 (x3_1 - 1)), (by first | rfl | (simp; done) | (simp [*]; done)), (by first | rfl | (simp; done) | (simp [*]; done)), H', ⟨by have := HK1.out; omega⟩, ⟨by (try simp only [hl0_1]); exact RX_ HQ12.out⟩, ⟨by repeat (first | (with_reducible first | exact HK.out | apply Kept.alloc | apply Kept.drewN | apply Kept.drew | refine Kept.setCell ?_ HMgo8.out _ | refine Kept.setCell ?_ HMgo8.out _) | exact HK.out)⟩, ⟨B1_⟩⟩
       rw [if_neg c7] at H
       exact absurd H (by simp)
      rw [if_neg c6] at H
      exact absurd H (by simp)
     rw [if_neg c5] at H
     exact absurd H (by simp)
    rw [if_neg c4] at H
    exact absurd H (by simp)
   rw [if_neg c3] at H
   have c3b0 : decide (x2_1 < x3_1) = false := decide_eq_false c3
   clear c3
   obtain rfl := Option.some.inj H
   go_wp2
   first | go_end0 | ((try simp only [Exit.inBlock, Exit.then]); refine bodyPost_ret (results_none rfl _ _ _) rfl ?_)
   exact ⟨by first | rfl | (simp [errW_none, errW_some] <;> rfl) | (simp [*, errW_none, errW_some] <;> rfl), (by first | exact (by exact RX_ HO_0.out) | (simp only [hl0_1]; exact (by exact RX_ HO_0.out))), B_, by repeat (first | (with_reducible first | exact HK.out | apply Kept.alloc | apply Kept.drewN | apply Kept.drew) | exact HK.out)⟩


/-! ### graph_Order: function 30 -/
mutual
def graph_Order.j0 : Nat → Int → Bool → List (List Int) → List (List Int) → Option (List Int)
 | 0, _, _, _, _ => none
 | k + 1, x1, x24, x171000, x171001 => if x24 = true then (some ([] : List Int)) else (if 0 ≤ x1 then (if x1 < 64 then (graph_Order.l0 k ((List.replicate 64 false).set (x1 : Int).toNat true) (List.replicate 64 0) ([] : List Int) (([x1] : List Int)) x171000 x171001) else (none)) else (none))
def graph_Order.l0 : Nat → List Bool → List Int → List Int → List Int → List (List Int) → List (List Int) → Option (List Int)
 | 0, _, _, _, _, _, _ => none
 | k + 1, x5, x6, x7, x8, x171000, x171001 => if 0 ≤ (wrap64 ((x8.length : Int) - 1)) then (if (wrap64 ((x8.length : Int) - 1)) < (x8.length : Int) then (graph_Order.l1 k x5 x6 x7 x8 (rd x8 (wrap64 ((x8.length : Int) - 1))) x171000 x171001) else (none)) else (none)
def graph_Order.l1 : Nat → List Bool → List Int → List Int → List Int → Int → List (List Int) → List (List Int) → Option (List Int)
 | 0, _, _, _, _, _, _, _ => none
 | k + 1, x5, x6, x7, x8, x9, x171000, x171001 => if 0 ≤ x9 then (if x9 < 64 then (if x9 < (x171000.length : Int) then (if (rd x6 x9) < ((rd_L1 x171000 x9).length : Int) then (if 0 ≤ (rd x6 x9) then ((some (x6.set (x9 : Int).toNat (wrap64 ((rd x6 x9) + 1)) : List Int)).bind fun y191 => (if 0 ≤ (rd (rd_L1 x171000 x9) (rd x6 x9)) then (if (rd (rd_L1 x171000 x9) (rd x6 x9)) < 64 then (if (rdOf false x5 (rd (rd_L1 x171000 x9) (rd x6 x9)) = true) then (graph_Order.l1 k x5 y191 x7 x8 x9 x171000 x171001) else (if x8.length < 17592186044416 then (graph_Order.l0 k (x5.set ((rd (rd_L1 x171000 x9) (rd x6 x9)) : Int).toNat true) y191 x7 (x8 ++ [rd (rd_L1 x171000 x9) (rd x6 x9)]) x171000 x171001) else (none))) else (none)) else (none))) else (none)) else (if x7.length < 17592186044416 then ((some (x7 ++ [x9] : List Int)).bind fun y197 => (if 0 ≤ (wrap64 ((x8.length : Int) - 1)) then (if (wrap64 ((x8.length : Int) - 1)) ≤ (x8.length : Int) then ((some (x8.take ((wrap64 ((x8.length : Int) - 1)) : Int).toNat : List Int)).bind fun y200 => (if (y200.length : Int) > 0 then (graph_Order.l0 k x5 x6 y197 y200 x171000 x171001) else ((slices_Reverse_int_int.f k y197).bind fun t203 => (some t203)))) else (none)) else (none))) else (none))) else (none)) else (none)) else (none)
end
def graph_Order.f (k : Nat) (l0_0 : List (List Int)) (l0_1 : List (List Int)) (a1 : Int) : Option (List Int) := (graph_May.f k l0_0 l0_1).bind fun t171 => (if t171 = true then (if a1 < 0 then (graph_Order.j0 k a1 true l0_0 l0_1) else (graph_Order.j0 k a1 (decide (a1 ≥ (l0_0.length : Int))) l0_0 l0_1)) else (graph_Order.j0 k a1 true l0_0 l0_1))
theorem graph_Order.mono_l : ∀ k, (∀ y0 y1 y2 y3, LeO (graph_Order.j0 k y0 y1 y2 y3) (graph_Order.j0 (k + 1) y0 y1 y2 y3)) ∧ (∀ y0 y1 y2 y3 y4 y5, LeO (graph_Order.l0 k y0 y1 y2 y3 y4 y5) (graph_Order.l0 (k + 1) y0 y1 y2 y3 y4 y5)) ∧ (∀ y0 y1 y2 y3 y4 y5 y6, LeO (graph_Order.l1 k y0 y1 y2 y3 y4 y5 y6) (graph_Order.l1 (k + 1) y0 y1 y2 y3 y4 y5 y6))
 | 0 => ⟨fun _ _ _ _ r h => by simp [graph_Order.j0] at h, fun _ _ _ _ _ _ r h => by simp [graph_Order.l0] at h, fun _ _ _ _ _ _ _ r h => by simp [graph_Order.l1] at h⟩
 | k + 1 => by
  obtain ⟨ih0, ih1, ih2⟩ := graph_Order.mono_l k
  refine ⟨?_, ?_, ?_⟩
  ·intro y0 y1 y2 y3
   unfold graph_Order.j0
   repeat' first
   | (with_reducible exact ih0 _ _ _ _)
   | (with_reducible exact ih1 _ _ _ _ _ _)
   | (with_reducible exact ih2 _ _ _ _ _ _ _)
   | (with_reducible exact graph_May.mono _ _ _)
   | (with_reducible exact slices_Reverse_int_int.mono _ _)
   | (with_reducible exact LeO.refl _)
   | (with_reducible exact LeO.none _)
   | (with_reducible refine LeO.ite ?_ ?_)
   | (with_reducible refine LeO.bind ?_ (fun _ => ?_))
   | exact ih0 _ _ _ _
   | exact ih1 _ _ _ _ _ _
   | exact ih2 _ _ _ _ _ _ _
   | exact graph_May.mono _ _ _
   | exact slices_Reverse_int_int.mono _ _
   | exact LeO.none _
   | refine LeO.ite ?_ ?_
   | refine LeO.bind ?_ (fun _ => ?_)
  ·intro y0 y1 y2 y3 y4 y5
   unfold graph_Order.l0
   repeat' first
   | (with_reducible exact ih0 _ _ _ _)
   | (with_reducible exact ih1 _ _ _ _ _ _)
   | (with_reducible exact ih2 _ _ _ _ _ _ _)
   | (with_reducible exact graph_May.mono _ _ _)
   | (with_reducible exact slices_Reverse_int_int.mono _ _)
   | (with_reducible exact LeO.refl _)
   | (with_reducible exact LeO.none _)
   | (with_reducible refine LeO.ite ?_ ?_)
   | (with_reducible refine LeO.bind ?_ (fun _ => ?_))
   | exact ih0 _ _ _ _
   | exact ih1 _ _ _ _ _ _
   | exact ih2 _ _ _ _ _ _ _
   | exact graph_May.mono _ _ _
   | exact slices_Reverse_int_int.mono _ _
   | exact LeO.none _
   | refine LeO.ite ?_ ?_
   | refine LeO.bind ?_ (fun _ => ?_)
  ·intro y0 y1 y2 y3 y4 y5 y6
   unfold graph_Order.l1
   repeat' first
   | (with_reducible exact ih0 _ _ _ _)
   | (with_reducible exact ih1 _ _ _ _ _ _)
   | (with_reducible exact ih2 _ _ _ _ _ _ _)
   | (with_reducible exact graph_May.mono _ _ _)
   | (with_reducible exact slices_Reverse_int_int.mono _ _)
   | (with_reducible exact LeO.refl _)
   | (with_reducible exact LeO.none _)
   | (with_reducible refine LeO.ite ?_ ?_)
   | (with_reducible refine LeO.bind ?_ (fun _ => ?_))
   | exact ih0 _ _ _ _
   | exact ih1 _ _ _ _ _ _
   | exact ih2 _ _ _ _ _ _ _
   | exact graph_May.mono _ _ _
   | exact slices_Reverse_int_int.mono _ _
   | exact LeO.none _
   | refine LeO.ite ?_ ?_
   | refine LeO.bind ?_ (fun _ => ?_)
theorem graph_Order.mono : ∀ a0 a1 a2 k, LeO (graph_Order.f k a0 a1 a2) (graph_Order.f (k + 1) a0 a1 a2) := by
 intro a0 a1 a2 k
 obtain ⟨ih0, ih1, ih2⟩ := graph_Order.mono_l k
 unfold graph_Order.f
 repeat' first
  | (with_reducible exact ih0 _ _ _ _)
  | (with_reducible exact ih1 _ _ _ _ _ _)
  | (with_reducible exact ih2 _ _ _ _ _ _ _)
  | (with_reducible exact graph_May.mono _ _ _)
  | (with_reducible exact slices_Reverse_int_int.mono _ _)
  | (with_reducible exact LeO.refl _)
  | (with_reducible exact LeO.none _)
  | (with_reducible refine LeO.ite ?_ ?_)
  | (with_reducible refine LeO.bind ?_ (fun _ => ?_))
  | exact ih0 _ _ _ _
  | exact ih1 _ _ _ _ _ _
  | exact ih2 _ _ _ _ _ _ _
  | exact graph_May.mono _ _ _
  | exact slices_Reverse_int_int.mono _ _
  | exact LeO.none _
  | refine LeO.ite ?_ ?_
  | refine LeO.bind ?_ (fun _ => ?_)
set_option maxHeartbeats 8000000 in
set_option maxRecDepth 100000 in
theorem graph_Order.calls (k : Nat) (A0_0 : Option Addr) (c0_0 : Nat) (l0_0 : List (List Int)) (A0_1 : Option Addr) (c0_1 : Nat) (l0_1 : List (List Int)) (a1 : Int) (r : List Int) (w : World) (hr0_0 : Kd.C (Kd.slice 3 (Kd.int .i64)) w A0_0 l0_0.length l0_0) (hc0_0 : l0_0.length ≤ c0_0) (hr0_1 : Kd.C (Kd.slice 3 (Kd.int .i64)) w A0_1 l0_1.length l0_1) (hc0_1 : l0_1.length ≤ c0_1) (h : graph_Order.f k l0_0 l0_1 a1 = some r) :
 Calls Try.prog 30 #[.agg #[.slice A0_0 l0_0.length c0_0, .slice A0_1 l0_1.length c0_1], .int .i64 a1] w fun e w' => ∃ v0_ : Value, e = .returned (v0_) ∧ Kd.R (Kd.int .i64) 3 w' w.heap.size (fun _ => True) v0_ r ∧ Below w.heap.size w w' := by
 have hu26 := Try.underlying26
 have HR0_0 := Aside0.mk hr0_0
 have HC0_0 := Aside0.mk hc0_0
 clear hr0_0 hc0_0
 have HR0_1 := Aside0.mk hr0_1
 have HC0_1 := Aside0.mk hc0_1
 clear hr0_1 hc0_1
 have HB := Aside0.mk (Below.refl w.heap.size w)
 have H : ((graph_May.f k l0_0 l0_1).bind fun t171 => (if t171 = true then (if a1 < 0 then (graph_Order.j0 k a1 true l0_0 l0_1) else (graph_Order.j0 k a1 (decide (a1 ≥ (l0_0.length : Int))) l0_0 l0_1)) else (graph_Order.j0 k a1 true l0_0 l0_1))) = some r := h
 clear h
 have H' := Aside0.mk H
 clear H
 go_enter Try.func30, Try.ntmps30
 go_wp2_with (first | ((with_reducible refine gate_dst (N := 2) rfl ?_); (try (refine gate_guard (by rfl) ?_; dsimp only)); refine box_event ?hg (N := 2) ?hd (cs := #[.slice A0_0 l0_0.length c0_0, .slice A0_1 l0_1.length c0_1]) (t := 26) ?hr ?_; (case hd => rfl); (case hg => rfl); (case hr => first | (go_simp; done) | (go_simp; rfl)); intro gb170 hg w3 hbox hb; have n0_ := Aside0.mk (below_step (B_) hb); have n1_ := Aside0.mk (hbox); have n2_ := Aside0.mk ((by rw [hg]; exact (below_size (B_)) : w.heap.size ≤ gb170)); have n3_ := Aside0.mk ((by rw [hg]; exact (below_size (B_)) : w.heap.size ≤ gb170)); clear HB; have HB := n0_; have BK170 := n1_; have GW170 := n2_; have GE170 := n3_; clear n0_ n1_ n2_ n3_; clear hb hbox hg))
 repeat (go_quiet (first | ((with_reducible refine gate_dst (N := 2) rfl ?_); (try (refine gate_guard (by rfl) ?_; dsimp only)); refine box_event ?hg (N := 2) ?hd (cs := #[.slice A0_0 l0_0.length c0_0, .slice A0_1 l0_1.length c0_1]) (t := 26) ?hr ?_; (case hd => rfl); (case hg => rfl); (case hr => first | (go_simp; done) | (go_simp; rfl)); intro gb170 hg w3 hbox hb; have n0_ := Aside0.mk (below_step (B_) hb); have n1_ := Aside0.mk (hbox); have n2_ := Aside0.mk ((by rw [hg]; exact (below_size (B_)) : w.heap.size ≤ gb170)); have n3_ := Aside0.mk ((by rw [hg]; exact (below_size (B_)) : w.heap.size ≤ gb170)); clear HB; have HB := n0_; have BK170 := n1_; have GW170 := n2_; have GE170 := n3_; clear n0_ n1_ n2_ n3_; clear hb hbox hg)); try go_wp2_with (first | ((with_reducible refine gate_dst (N := 2) rfl ?_); (try (refine gate_guard (by rfl) ?_; dsimp only)); refine box_event ?hg (N := 2) ?hd (cs := #[.slice A0_0 l0_0.length c0_0, .slice A0_1 l0_1.length c0_1]) (t := 26) ?hr ?_; (case hd => rfl); (case hg => rfl); (case hr => first | (go_simp; done) | (go_simp; rfl)); intro gb170 hg w3 hbox hb; have n0_ := Aside0.mk (below_step (B_) hb); have n1_ := Aside0.mk (hbox); have n2_ := Aside0.mk ((by rw [hg]; exact (below_size (B_)) : w.heap.size ≤ gb170)); have n3_ := Aside0.mk ((by rw [hg]; exact (below_size (B_)) : w.heap.size ≤ gb170)); clear HB; have HB := n0_; have BK170 := n1_; have GW170 := n2_; have GE170 := n3_; clear n0_ n1_ n2_ n3_; clear hb hbox hg)))
 apply lab_enter 0; (case hf => rfl)
 have H := H'.out
 clear H'
 have HC4 := Aside0.mk H
 clear H
 go_upto_region 1 with (fail)
 repeat (go_quiet (fail); go_upto_region 1 with (fail))
 go_cut [24] (fun v24 wc => ∃ (kq : Nat) (x24_3 : Bool), v24 = .bool x24_3 ∧ Aside0 (graph_Order.j0 kq a1 x24_3 l0_0 l0_1 = some r) ∧ Aside0 (kq ≤ k) ∧ Aside0 (wc.heap[gb170]? = some (.cells #[(.slice A0_0 l0_0.length c0_0), (.slice A0_1 l0_1.length c0_1)] 26 (0, 0))) ∧ Aside0 (Below w.heap.size w wc))
 case first =>
  have H := HC4.out
  clear HC4
  replace H := Option.bind_eq_some_iff.mp H
  obtain ⟨t171, A50, H⟩ := H
  replace H : (if t171 = true then (if a1 < 0 then (graph_Order.j0 k a1 true l0_0 l0_1) else (graph_Order.j0 k a1 (decide (a1 ≥ (l0_0.length : Int))) l0_0 l0_1)) else (graph_Order.j0 k a1 true l0_0 l0_1)) = some r := H
  have A5 := Aside0.mk A50
  clear A50
  by_cases c6 : t171 = true
  ·subst c6
   have H1 : (if a1 < 0 then (graph_Order.j0 k a1 true l0_0 l0_1) else (graph_Order.j0 k a1 (decide (a1 ≥ (l0_0.length : Int))) l0_0 l0_1)) = some r := by rw [if_pos rfl] at H; exact H
   clear H
   have H := H1
   clear H1
   by_cases c7 : a1 < 0
   ·rw [if_pos c7] at H
    have c7b0 : decide (a1 < 0) = true := decide_eq_true c7
    clear c7
    (first | rw [c7b0] | (simp only [i64_w, i32_w]; rw [c7b0]) | skip)
    have H' := Aside0.mk H
    clear H
    have hcz8_0 : w3.cell? ⟨gb170, 0, none⟩ = some (.slice A0_0 l0_0.length c0_0) := (blk_cell BK170.out 0).trans rfl
    have hcz8_1 : w3.cell? ⟨gb170, 1, none⟩ = some (.slice A0_1 l0_1.length c0_1) := (blk_cell BK170.out 1).trans rfl
    have hfz8_0 := blk_frozen BK170.out 0
    have hfz8_1 := blk_frozen BK170.out 1
    go_wp2_with (first | (go_at_call 24; (with_reducible refine (graph_May.calls k _ _ l0_0 _ _ l0_1 true _ ?side1 ?side2 ?side3 ?side4 A5.out).mono ?_); (case side1 => exact CX_ (Kd.C_below HR0_0.out HB.out)); (case side2 => exact HC0_0.out); (case side3 => exact CX_ (Kd.C_below HR0_1.out HB.out)); (case side4 => exact HC0_1.out); rintro e w9 ⟨rfl, hb⟩; have n0_ := Aside0.mk (blk_below (g := gb170) (o := .cells #[.slice A0_0 l0_0.length c0_0, .slice A0_1 l0_1.length c0_1] 26 (0, 0)) (by exact KX_ BK170.out) hb); have n1_ := Aside0.mk (below_step (B1_) hb); clear BK170; clear HB; have BK170 := n0_; have HB := n1_; clear n0_ n1_; (try clear hb); (try clear hb2); (try clear hk); (try clear hi)))
    repeat (go_quiet (first | (go_at_call 24; (with_reducible refine (graph_May.calls k _ _ l0_0 _ _ l0_1 true _ ?side1 ?side2 ?side3 ?side4 A5.out).mono ?_); (case side1 => exact CX_ (Kd.C_below HR0_0.out HB.out)); (case side2 => exact HC0_0.out); (case side3 => exact CX_ (Kd.C_below HR0_1.out HB.out)); (case side4 => exact HC0_1.out); rintro e w9 ⟨rfl, hb⟩; have n0_ := Aside0.mk (blk_below (g := gb170) (o := .cells #[.slice A0_0 l0_0.length c0_0, .slice A0_1 l0_1.length c0_1] 26 (0, 0)) (by exact KX_ BK170.out) hb); have n1_ := Aside0.mk (below_step (B1_) hb); clear BK170; clear HB; have BK170 := n0_; have HB := n1_; clear n0_ n1_; (try clear hb); (try clear hb2); (try clear hk); (try clear hi))); try go_wp2_with (first | (go_at_call 24; (with_reducible refine (graph_May.calls k _ _ l0_0 _ _ l0_1 true _ ?side1 ?side2 ?side3 ?side4 A5.out).mono ?_); (case side1 => exact CX_ (Kd.C_below HR0_0.out HB.out)); (case side2 => exact HC0_0.out); (case side3 => exact CX_ (Kd.C_below HR0_1.out HB.out)); (case side4 => exact HC0_1.out); rintro e w9 ⟨rfl, hb⟩; have n0_ := Aside0.mk (blk_below (g := gb170) (o := .cells #[.slice A0_0 l0_0.length c0_0, .slice A0_1 l0_1.length c0_1] 26 (0, 0)) (by exact KX_ BK170.out) hb); have n1_ := Aside0.mk (below_step (B1_) hb); clear BK170; clear HB; have BK170 := n0_; have HB := n1_; clear n0_ n1_; (try clear hb); (try clear hb2); (try clear hk); (try clear hi))))
    go_meet
    case rel => exact ⟨_, (true), (by first | rfl | (simp; done) | (simp [*]; done)), H', ⟨by first | omega | exact Nat.le_refl _⟩, ⟨by exact KX_ BK170.out⟩, ⟨B1_⟩⟩
   rw [if_neg c7] at H
   have c7b0 : decide (a1 < 0) = false := decide_eq_false c7
   clear c7
   (first | rw [c7b0] | (simp only [i64_w, i32_w]; rw [c7b0]) | skip)
   have H' := Aside0.mk H
   clear H
   have hcz10_0 : w3.cell? ⟨gb170, 0, none⟩ = some (.slice A0_0 l0_0.length c0_0) := (blk_cell BK170.out 0).trans rfl
   have hcz10_1 : w3.cell? ⟨gb170, 1, none⟩ = some (.slice A0_1 l0_1.length c0_1) := (blk_cell BK170.out 1).trans rfl
   have hfz10_0 := blk_frozen BK170.out 0
   have hfz10_1 := blk_frozen BK170.out 1
   go_wp2_with (first | (go_at_call 24; (with_reducible refine (graph_May.calls k _ _ l0_0 _ _ l0_1 true _ ?side1 ?side2 ?side3 ?side4 A5.out).mono ?_); (case side1 => exact CX_ (Kd.C_below HR0_0.out HB.out)); (case side2 => exact HC0_0.out); (case side3 => exact CX_ (Kd.C_below HR0_1.out HB.out)); (case side4 => exact HC0_1.out); rintro e w11 ⟨rfl, hb⟩; have n0_ := Aside0.mk (blk_below (g := gb170) (o := .cells #[.slice A0_0 l0_0.length c0_0, .slice A0_1 l0_1.length c0_1] 26 (0, 0)) (by exact KX_ BK170.out) hb); have n1_ := Aside0.mk (below_step (B1_) hb); clear BK170; clear HB; have BK170 := n0_; have HB := n1_; clear n0_ n1_; (try clear hb); (try clear hb2); (try clear hk); (try clear hi); have hcz12_0 : w11.cell? ⟨gb170, 0, none⟩ = some (.slice A0_0 l0_0.length c0_0) := (blk_cell BK170.out 0).trans rfl; have hcz12_1 : w11.cell? ⟨gb170, 1, none⟩ = some (.slice A0_1 l0_1.length c0_1) := (blk_cell BK170.out 1).trans rfl; have hfz12_0 := blk_frozen BK170.out 0; have hfz12_1 := blk_frozen BK170.out 1))
   repeat (go_quiet (first | (go_at_call 24; (with_reducible refine (graph_May.calls k _ _ l0_0 _ _ l0_1 true _ ?side1 ?side2 ?side3 ?side4 A5.out).mono ?_); (case side1 => exact CX_ (Kd.C_below HR0_0.out HB.out)); (case side2 => exact HC0_0.out); (case side3 => exact CX_ (Kd.C_below HR0_1.out HB.out)); (case side4 => exact HC0_1.out); rintro e w11 ⟨rfl, hb⟩; have n0_ := Aside0.mk (blk_below (g := gb170) (o := .cells #[.slice A0_0 l0_0.length c0_0, .slice A0_1 l0_1.length c0_1] 26 (0, 0)) (by exact KX_ BK170.out) hb); have n1_ := Aside0.mk (below_step (B1_) hb); clear BK170; clear HB; have BK170 := n0_; have HB := n1_; clear n0_ n1_; (try clear hb); (try clear hb2); (try clear hk); (try clear hi); have hcz12_0 : w11.cell? ⟨gb170, 0, none⟩ = some (.slice A0_0 l0_0.length c0_0) := (blk_cell BK170.out 0).trans rfl; have hcz12_1 : w11.cell? ⟨gb170, 1, none⟩ = some (.slice A0_1 l0_1.length c0_1) := (blk_cell BK170.out 1).trans rfl; have hfz12_0 := blk_frozen BK170.out 0; have hfz12_1 := blk_frozen BK170.out 1)); try go_wp2_with (first | (go_at_call 24; (with_reducible refine (graph_May.calls k _ _ l0_0 _ _ l0_1 true _ ?side1 ?side2 ?side3 ?side4 A5.out).mono ?_); (case side1 => exact CX_ (Kd.C_below HR0_0.out HB.out)); (case side2 => exact HC0_0.out); (case side3 => exact CX_ (Kd.C_below HR0_1.out HB.out)); (case side4 => exact HC0_1.out); rintro e w11 ⟨rfl, hb⟩; have n0_ := Aside0.mk (blk_below (g := gb170) (o := .cells #[.slice A0_0 l0_0.length c0_0, .slice A0_1 l0_1.length c0_1] 26 (0, 0)) (by exact KX_ BK170.out) hb); have n1_ := Aside0.mk (below_step (B1_) hb); clear BK170; clear HB; have BK170 := n0_; have HB := n1_; clear n0_ n1_; (try clear hb); (try clear hb2); (try clear hk); (try clear hi); have hcz12_0 : w11.cell? ⟨gb170, 0, none⟩ = some (.slice A0_0 l0_0.length c0_0) := (blk_cell BK170.out 0).trans rfl; have hcz12_1 : w11.cell? ⟨gb170, 1, none⟩ = some (.slice A0_1 l0_1.length c0_1) := (blk_cell BK170.out 1).trans rfl; have hfz12_0 := blk_frozen BK170.out 0; have hfz12_1 := blk_frozen BK170.out 1)))
   go_meet
   case rel => exact ⟨_, (decide (a1 ≥ (l0_0.length : Int))), (by first | rfl | (simp; done) | (simp [*]; done)), H', ⟨by first | omega | exact Nat.le_refl _⟩, ⟨by exact KX_ BK170.out⟩, ⟨B1_⟩⟩
  replace c6 := Bool.eq_false_iff.mpr c6
  subst c6
  have H1 : (graph_Order.j0 k a1 true l0_0 l0_1) = some r := by rw [if_neg (show ¬ (false = true) by decide)] at H; exact H
  clear H
  have H := H1
  clear H1
  have H' := Aside0.mk H
  clear H
  have hcz13_0 : w3.cell? ⟨gb170, 0, none⟩ = some (.slice A0_0 l0_0.length c0_0) := (blk_cell BK170.out 0).trans rfl
  have hcz13_1 : w3.cell? ⟨gb170, 1, none⟩ = some (.slice A0_1 l0_1.length c0_1) := (blk_cell BK170.out 1).trans rfl
  have hfz13_0 := blk_frozen BK170.out 0
  have hfz13_1 := blk_frozen BK170.out 1
  go_wp2_with (first | (go_at_call 24; (with_reducible refine (graph_May.calls k _ _ l0_0 _ _ l0_1 false _ ?side1 ?side2 ?side3 ?side4 A5.out).mono ?_); (case side1 => exact CX_ (Kd.C_below HR0_0.out HB.out)); (case side2 => exact HC0_0.out); (case side3 => exact CX_ (Kd.C_below HR0_1.out HB.out)); (case side4 => exact HC0_1.out); rintro e w14 ⟨rfl, hb⟩; have n0_ := Aside0.mk (blk_below (g := gb170) (o := .cells #[.slice A0_0 l0_0.length c0_0, .slice A0_1 l0_1.length c0_1] 26 (0, 0)) (by exact KX_ BK170.out) hb); have n1_ := Aside0.mk (below_step (B1_) hb); clear BK170; clear HB; have BK170 := n0_; have HB := n1_; clear n0_ n1_; (try clear hb); (try clear hb2); (try clear hk); (try clear hi)))
  repeat (go_quiet (first | (go_at_call 24; (with_reducible refine (graph_May.calls k _ _ l0_0 _ _ l0_1 false _ ?side1 ?side2 ?side3 ?side4 A5.out).mono ?_); (case side1 => exact CX_ (Kd.C_below HR0_0.out HB.out)); (case side2 => exact HC0_0.out); (case side3 => exact CX_ (Kd.C_below HR0_1.out HB.out)); (case side4 => exact HC0_1.out); rintro e w14 ⟨rfl, hb⟩; have n0_ := Aside0.mk (blk_below (g := gb170) (o := .cells #[.slice A0_0 l0_0.length c0_0, .slice A0_1 l0_1.length c0_1] 26 (0, 0)) (by exact KX_ BK170.out) hb); have n1_ := Aside0.mk (below_step (B1_) hb); clear BK170; clear HB; have BK170 := n0_; have HB := n1_; clear n0_ n1_; (try clear hb); (try clear hb2); (try clear hk); (try clear hi))); try go_wp2_with (first | (go_at_call 24; (with_reducible refine (graph_May.calls k _ _ l0_0 _ _ l0_1 false _ ?side1 ?side2 ?side3 ?side4 A5.out).mono ?_); (case side1 => exact CX_ (Kd.C_below HR0_0.out HB.out)); (case side2 => exact HC0_0.out); (case side3 => exact CX_ (Kd.C_below HR0_1.out HB.out)); (case side4 => exact HC0_1.out); rintro e w14 ⟨rfl, hb⟩; have n0_ := Aside0.mk (blk_below (g := gb170) (o := .cells #[.slice A0_0 l0_0.length c0_0, .slice A0_1 l0_1.length c0_1] 26 (0, 0)) (by exact KX_ BK170.out) hb); have n1_ := Aside0.mk (below_step (B1_) hb); clear BK170; clear HB; have BK170 := n0_; have HB := n1_; clear n0_ n1_; (try clear hb); (try clear hb2); (try clear hk); (try clear hi))))
  go_meet
  case rel => exact ⟨_, (true), (by first | rfl | (simp; done) | (simp [*]; done)), H', ⟨by first | omega | exact Nat.le_refl _⟩, ⟨by exact KX_ BK170.out⟩, ⟨B1_⟩⟩
 case rest =>
  clear HC4
  obtain ⟨kq, x24_3, rfl, HA, HJ3, BK170, HB⟩ := hcut
  cases kq with
  | zero => exact absurd HA.out (by simp [graph_Order.j0])
  | succ kj3 =>
   have H := HA.out
   clear HA
   simp only [graph_Order.j0] at H
   by_cases c15 : x24_3 = true
   ·subst c15
    have H1 : (some ([] : List Int)) = some r := by rw [if_pos rfl] at H; exact H
    clear H
    have H := H1
    clear H1
    obtain rfl := Option.some.inj H
    go_wp2
    repeat (go_quiet (fail); try go_wp2)
    (try simp only [jumpg_ret, Exit.then, Exit.inBlock])
    go_ret
    exact ⟨_, by first | rfl | (simp [errW_none, errW_some] <;> rfl) | (simp [*, errW_none, errW_some] <;> rfl), by first | exact Kd.R_nil _ _ _ _ _ | exact Kd.N_nil _ _ _ _ _ | exact Kd.V_nil _ _ _ _ _ | exact Kd.Q_nil _ _ _ _ _ | exact Kd.S_nil _ _ _ _ _, B1_⟩
   replace c15 := Bool.eq_false_iff.mpr c15
   subst c15
   have H1 : (if 0 ≤ a1 then (if a1 < 64 then (graph_Order.l0 kj3 ((List.replicate 64 false).set (a1 : Int).toNat true) (List.replicate 64 0) ([] : List Int) (([a1] : List Int)) l0_0 l0_1) else (none)) else (none)) = some r := by rw [if_neg (show ¬ (false = true) by decide)] at H; exact H
   clear H
   have H := H1
   clear H1
   obtain ⟨y172, hy172⟩ : ∃ y_ : List Bool, y_ = (List.replicate 64 false) := ⟨_, rfl⟩
   replace H : (if 0 ≤ a1 then (if a1 < 64 then (graph_Order.l0 kj3 (y172.set (a1 : Int).toNat true) (List.replicate 64 0) ([] : List Int) (([a1] : List Int)) l0_0 l0_1) else (none)) else (none)) = some r := by first | (rw [hy172]; with_reducible exact H) | (have H2_ := (Option.bind_some _ _).symm.trans H; rw [hy172]; with_reducible exact H2_) | (have H2_ := (Option.bind_some _ _).symm.trans H; with_reducible exact H2_) | with_reducible exact H | (rw [hy172]; exact H) | exact H
   have Ny172 := Aside0.mk hy172
   clear hy172
   obtain ⟨y176, hy176⟩ : ∃ y_ : List Int, y_ = (List.replicate 64 0) := ⟨_, rfl⟩
   replace H : (if 0 ≤ a1 then (if a1 < 64 then (graph_Order.l0 kj3 (y172.set (a1 : Int).toNat true) y176 ([] : List Int) (([a1] : List Int)) l0_0 l0_1) else (none)) else (none)) = some r := by first | (rw [hy176]; with_reducible exact H) | (have H2_ := (Option.bind_some _ _).symm.trans H; rw [hy176]; with_reducible exact H2_) | (have H2_ := (Option.bind_some _ _).symm.trans H; with_reducible exact H2_) | with_reducible exact H | (rw [hy176]; exact H) | exact H
   have Ny176 := Aside0.mk hy176
   clear hy176
   obtain ⟨y180, hy180⟩ : ∃ y_ : List Int, y_ = (([a1] : List Int)) := ⟨_, rfl⟩
   replace H : (if 0 ≤ a1 then (if a1 < 64 then (graph_Order.l0 kj3 (y172.set (a1 : Int).toNat true) y176 ([] : List Int) y180 l0_0 l0_1) else (none)) else (none)) = some r := by first | (rw [hy180]; with_reducible exact H) | (have H2_ := (Option.bind_some _ _).symm.trans H; rw [hy180]; with_reducible exact H2_) | (have H2_ := (Option.bind_some _ _).symm.trans H; with_reducible exact H2_) | with_reducible exact H | (rw [hy180]; exact H) | exact H
   have Ny180 := Aside0.mk hy180
   clear hy180
   by_cases c16 : 0 ≤ a1
   ·rw [if_pos c16] at H
    have c16b0 : decide (0 ≤ a1) = true := decide_eq_true c16
    clear c16
    by_cases c17 : a1 < 64
    ·rw [if_pos c17] at H
     have c17b0 : decide (a1 < 64) = true := decide_eq_true c17
     clear c17
     obtain ⟨y183, hy183⟩ : ∃ y_ : List Bool, y_ = (y172.set (a1 : Int).toNat true) := ⟨_, rfl⟩
     replace H : (graph_Order.l0 kj3 y183 y176 ([] : List Int) y180 l0_0 l0_1) = some r := by first | (rw [hy183]; with_reducible exact H) | (have H2_ := (Option.bind_some _ _).symm.trans H; rw [hy183]; with_reducible exact H2_) | (have H2_ := (Option.bind_some _ _).symm.trans H; with_reducible exact H2_) | with_reducible exact H | (rw [hy183]; exact H) | exact H
     have Ny183 := Aside0.mk hy183
     clear hy183
     have H' := Aside0.mk H
     clear H
     go_wp2_with (first | ((with_reducible refine gate_dst (N := 5) rfl ?_); (try (refine gate_guard (by rfl) ?_; dsimp only)); refine Kd0.R_alloc Kd.bool _ 46 rfl (N := 5) rfl 64 false (.bool false) ?hr rfl (by decide) rfl (ok := fun _ => True) trivial (Below.refl _ _) (Nat.le_refl _) (by decide) ?_; (case hr => first | (go_simp; done) | (go_simp; rfl) | (go_simp; kernel_rfl)); intro goA175 hge_ w19 ho20 hb hg_ hnew_; have GBA175 := Aside0.mk (Nat.le_trans (below_size (B1_)) hge_ : w.heap.size ≤ goA175); clear hge_; clear hg_ hnew_; (first | rw [← Ny172.out] at ho20 | (simp only [Int.reduceToNat] at ho20; rw [← Ny172.out] at ho20)); have n0_ := Aside0.mk (Kd.R_lower ho20 (below_size (B1_))); have n1_ := Aside0.mk (blk_below (g := gb170) (o := .cells #[.slice A0_0 l0_0.length c0_0, .slice A0_1 l0_1.length c0_1] 26 (0, 0)) (by exact KX_ BK170.out) hb); have n2_ := Aside0.mk (below_step (B1_) hb); clear BK170; clear HB; have HO174 := n0_; have BK170 := n1_; have HB := n2_; clear n0_ n1_ n2_; clear hb ho20) | ((with_reducible refine gate_dst (N := 6) rfl ?_); (try (refine gate_guard (by rfl) ?_; dsimp only)); refine Kd0.R_alloc (Kd.int .i64) _ 57 rfl (N := 6) rfl 64 0 (.int .i64 0) ?hr rfl (by decide) rfl (ok := fun _ => True) trivial (Below.refl _ _) (Nat.le_refl _) (by decide) ?_; (case hr => first | (go_simp; done) | (go_simp; rfl) | (go_simp; kernel_rfl)); intro goA179 hge_ w21 ho22 hb hg_ hnew_; have GBA179 := Aside0.mk (Nat.le_trans (below_size (B1_)) hge_ : w.heap.size ≤ goA179); clear hge_; clear hg_ hnew_; (first | rw [← Ny176.out] at ho22 | (simp only [Int.reduceToNat] at ho22; rw [← Ny176.out] at ho22)); have n0_ := Aside0.mk (Kd.R_below (by exact RX_ HO174.out) hb); have n1_ := Aside0.mk (Kd.R_lower ho22 (below_size (B1_))); have n2_ := Aside0.mk (blk_below (g := gb170) (o := .cells #[.slice A0_0 l0_0.length c0_0, .slice A0_1 l0_1.length c0_1] 26 (0, 0)) (by exact KX_ BK170.out) hb); have n3_ := Aside0.mk (below_step (B1_) hb); clear HO174; clear BK170; clear HB; have HO174 := n0_; have HO178 := n1_; have BK170 := n2_; have HB := n3_; clear n0_ n1_ n2_ n3_; clear hb ho22) | ((with_reducible refine gate_dst (N := 26) rfl ?_); (try (refine gate_guard (by rfl) ?_; dsimp only)); refine Kd.R_lit (Kd.int .i64) _ 3 ?hg (N := 26) ?hd (xs := ([a1] : List Int)) (inner := [.int .i64 a1]) (ok := fun _ => True) (okp := fun _ => True) ?hr ?hp (fun _ hk => hk) trivial (Below.refl _ _) (Nat.le_refl _) (by simp) ?_; (case hd => rfl); (case hg => rfl); (case hr => first | (go_simp; done) | (go_simp; rfl)); (case hp => exact (Reps.one (show Kd.M (Kd.int .i64) _ _ _ a1 [.int .i64 a1] from rfl) (Reps.none _ _))); intro v181 w23 ho24 hb hg_ hnew_; clear hg_ hnew_; (first | rw [← Ny180.out] at ho24 | (simp only [Int.reduceToNat] at ho24; rw [← Ny180.out] at ho24)); have n0_ := Aside0.mk (Kd.R_below (by exact RX_ HO174.out) hb); have n1_ := Aside0.mk (Kd.R_below (by exact RX_ HO178.out) hb); have n2_ := Aside0.mk (Kd.R_lower ho24 (below_size (B1_))); have n3_ := Aside0.mk (blk_below (g := gb170) (o := .cells #[.slice A0_0 l0_0.length c0_0, .slice A0_1 l0_1.length c0_1] 26 (0, 0)) (by exact KX_ BK170.out) hb); have n4_ := Aside0.mk (below_step (B1_) hb); clear HO174; clear HO178; clear BK170; clear HB; have HO174 := n0_; have HO178 := n1_; have HO182 := n2_; have BK170 := n3_; have HB := n4_; clear n0_ n1_ n2_ n3_ n4_; clear hb ho24; have p18 : 0 ≤ (a1 : Int) := D_; have q18 : (a1 : Int) < (64 : Int) := D_; obtain ⟨hx18_0, hf18_0⟩ := Kd.R_celln false HO174.out (a1 : Int) p18 q18; replace p18 := eq_true p18; replace q18 := eq_true q18; obtain ⟨hy25_, hz25_⟩ := Kd.R_celln false HO174.out (a1 : Int) (D_) (D_); have HP25 := Kd.R_putg HO174.out (a1 : Int) true) | ((with_reducible refine gate_store (t := 4) (p := 28) rfl ?_); (try (rw [drewN_self w23]; generalize hq_ : World.drewN w23 _ = w23; have n0_ := Aside0.mk (Kd.R_at hq_ HO174.out); have n1_ := Aside0.mk (Kd.R_at hq_ HO178.out); have n2_ := Aside0.mk (Kd.R_at hq_ HO182.out); have n3_ := Aside0.mk (blk_at hq_ BK170.out); have n4_ := Aside0.mk (below_at hq_ HB.out); clear hq_ HO174 HO178 HO182 BK170 HB; have HO174 := n0_; have HO178 := n1_; have HO182 := n2_; have BK170 := n3_; have HB := n4_; clear n0_ n1_ n2_ n3_ n4_; (try (obtain ⟨hy25_, hz25_⟩ := Kd.R_celln false HO174.out (a1 : Int) (D_) (D_))); (try (obtain ⟨hcx_, hcf_⟩ := Kd.R_celln false HO174.out (a1 : Int) (D_) (by first | exact D_ | (have z_ : (a1 : Int) < (64 : Int) := D_; exact z_)))); (try (have HP25 := Kd.R_putg HO174.out (a1 : Int) true)))); refine store_event (t := 4) (p := 28) (v := ?vo_w26) (w1 := (w23.setCell ⟨goA175, (a1 : Int).toNat, none⟩ (.bool true))) ?hg ?ho ?hn ?hr ?_; (case ho => rfl); (case hg => rfl); (case hn => rfl); (case hr => first | (go_simp; done) | (go_simp; rfl)); intro w26 hw; have hg : w23.grownBy w26 (some goA175) := (by rw [hw]; exact HP25.2); have hp_ : Kd.R Kd.bool 46 w26 w.heap.size (fun _ => True) (.slice (some ⟨goA175, 0, none⟩) 64 64) y183 := (by rw [hw, Ny183.out]; exact HP25.1); clear HP25; have n0_ := Aside0.mk (blk_grown (g := gb170) (o := .cells #[.slice A0_0 l0_0.length c0_0, .slice A0_1 l0_1.length c0_1] 26 (0, 0)) (by exact KX_ BK170.out) hg (Kd.R_ne HO174.out BK170.out (by decide))); have n1_ := Aside0.mk (hp_); have n2_ := Aside0.mk (Kd.R_over' (v := (.slice (some ⟨goA175, 0, none⟩) 64 64)) (by exact RX_ HO178.out) (Kd.R_typed HO174.out) (by decide) hg); have n3_ := Aside0.mk (Kd.R_over' (v := (.slice (some ⟨goA175, 0, none⟩) 64 64)) (by exact RX_ HO182.out) (Kd.R_typed HO174.out) (by decide) hg); have n4_ := Aside0.mk ((by rw [hw]; exact below_set (HB.out) GBA175.out : Below w.heap.size w w26)); clear BK170; clear HO174; clear HO178; clear HO182; clear HB; have BK170 := n0_; have HO174 := n1_; have HO178 := n2_; have HO182 := n3_; have HB := n4_; clear n0_ n1_ n2_ n3_ n4_; clear hg hw hp_))
     repeat (go_quiet (first | ((with_reducible refine gate_dst (N := 5) rfl ?_); (try (refine gate_guard (by rfl) ?_; dsimp only)); refine Kd0.R_alloc Kd.bool _ 46 rfl (N := 5) rfl 64 false (.bool false) ?hr rfl (by decide) rfl (ok := fun _ => True) trivial (Below.refl _ _) (Nat.le_refl _) (by decide) ?_; (case hr => first | (go_simp; done) | (go_simp; rfl) | (go_simp; kernel_rfl)); intro goA175 hge_ w19 ho20 hb hg_ hnew_; have GBA175 := Aside0.mk (Nat.le_trans (below_size (B1_)) hge_ : w.heap.size ≤ goA175); clear hge_; clear hg_ hnew_; (first | rw [← Ny172.out] at ho20 | (simp only [Int.reduceToNat] at ho20; rw [← Ny172.out] at ho20)); have n0_ := Aside0.mk (Kd.R_lower ho20 (below_size (B1_))); have n1_ := Aside0.mk (blk_below (g := gb170) (o := .cells #[.slice A0_0 l0_0.length c0_0, .slice A0_1 l0_1.length c0_1] 26 (0, 0)) (by exact KX_ BK170.out) hb); have n2_ := Aside0.mk (below_step (B1_) hb); clear BK170; clear HB; have HO174 := n0_; have BK170 := n1_; have HB := n2_; clear n0_ n1_ n2_; clear hb ho20) | ((with_reducible refine gate_dst (N := 6) rfl ?_); (try (refine gate_guard (by rfl) ?_; dsimp only)); refine Kd0.R_alloc (Kd.int .i64) _ 57 rfl (N := 6) rfl 64 0 (.int .i64 0) ?hr rfl (by decide) rfl (ok := fun _ => True) trivial (Below.refl _ _) (Nat.le_refl _) (by decide) ?_; (case hr => first | (go_simp; done) | (go_simp; rfl) | (go_simp; kernel_rfl)); intro goA179 hge_ w21 ho22 hb hg_ hnew_; have GBA179 := Aside0.mk (Nat.le_trans (below_size (B1_)) hge_ : w.heap.size ≤ goA179); clear hge_; clear hg_ hnew_; (first | rw [← Ny176.out] at ho22 | (simp only [Int.reduceToNat] at ho22; rw [← Ny176.out] at ho22)); have n0_ := Aside0.mk (Kd.R_below (by exact RX_ HO174.out) hb); have n1_ := Aside0.mk (Kd.R_lower ho22 (below_size (B1_))); have n2_ := Aside0.mk (blk_below (g := gb170) (o := .cells #[.slice A0_0 l0_0.length c0_0, .slice A0_1 l0_1.length c0_1] 26 (0, 0)) (by exact KX_ BK170.out) hb); have n3_ := Aside0.mk (below_step (B1_) hb); clear HO174; clear BK170; clear HB; have HO174 := n0_; have HO178 := n1_; have BK170 := n2_; have HB := n3_; clear n0_ n1_ n2_ n3_; clear hb ho22) | ((with_reducible refine gate_dst (N := 26) rfl ?_); (try (refine gate_guard (by rfl) ?_; dsimp only)); refine Kd.R_lit (Kd.int .i64) _ 3 ?hg (N := 26) ?hd (xs := ([a1] : List Int)) (inner := [.int .i64 a1]) (ok := fun _ => True) (okp := fun _ => True) ?hr ?hp (fun _ hk => hk) trivial (Below.refl _ _) (Nat.le_refl _) (by simp) ?_; (case hd => rfl); (case hg => rfl); (case hr => first | (go_simp; done) | (go_simp; rfl)); (case hp => exact (Reps.one (show Kd.M (Kd.int .i64) _ _ _ a1 [.int .i64 a1] from rfl) (Reps.none _ _))); intro v181 w23 ho24 hb hg_ hnew_; clear hg_ hnew_; (first | rw [← Ny180.out] at ho24 | (simp only [Int.reduceToNat] at ho24; rw [← Ny180.out] at ho24)); have n0_ := Aside0.mk (Kd.R_below (by exact RX_ HO174.out) hb); have n1_ := Aside0.mk (Kd.R_below (by exact RX_ HO178.out) hb); have n2_ := Aside0.mk (Kd.R_lower ho24 (below_size (B1_))); have n3_ := Aside0.mk (blk_below (g := gb170) (o := .cells #[.slice A0_0 l0_0.length c0_0, .slice A0_1 l0_1.length c0_1] 26 (0, 0)) (by exact KX_ BK170.out) hb); have n4_ := Aside0.mk (below_step (B1_) hb); clear HO174; clear HO178; clear BK170; clear HB; have HO174 := n0_; have HO178 := n1_; have HO182 := n2_; have BK170 := n3_; have HB := n4_; clear n0_ n1_ n2_ n3_ n4_; clear hb ho24; have p18 : 0 ≤ (a1 : Int) := D_; have q18 : (a1 : Int) < (64 : Int) := D_; obtain ⟨hx18_0, hf18_0⟩ := Kd.R_celln false HO174.out (a1 : Int) p18 q18; replace p18 := eq_true p18; replace q18 := eq_true q18; obtain ⟨hy25_, hz25_⟩ := Kd.R_celln false HO174.out (a1 : Int) (D_) (D_); have HP25 := Kd.R_putg HO174.out (a1 : Int) true) | ((with_reducible refine gate_store (t := 4) (p := 28) rfl ?_); (try (rw [drewN_self w23]; generalize hq_ : World.drewN w23 _ = w23; have n0_ := Aside0.mk (Kd.R_at hq_ HO174.out); have n1_ := Aside0.mk (Kd.R_at hq_ HO178.out); have n2_ := Aside0.mk (Kd.R_at hq_ HO182.out); have n3_ := Aside0.mk (blk_at hq_ BK170.out); have n4_ := Aside0.mk (below_at hq_ HB.out); clear hq_ HO174 HO178 HO182 BK170 HB; have HO174 := n0_; have HO178 := n1_; have HO182 := n2_; have BK170 := n3_; have HB := n4_; clear n0_ n1_ n2_ n3_ n4_; (try (obtain ⟨hy25_, hz25_⟩ := Kd.R_celln false HO174.out (a1 : Int) (D_) (D_))); (try (obtain ⟨hcx_, hcf_⟩ := Kd.R_celln false HO174.out (a1 : Int) (D_) (by first | exact D_ | (have z_ : (a1 : Int) < (64 : Int) := D_; exact z_)))); (try (have HP25 := Kd.R_putg HO174.out (a1 : Int) true)))); refine store_event (t := 4) (p := 28) (v := ?vo_w26) (w1 := (w23.setCell ⟨goA175, (a1 : Int).toNat, none⟩ (.bool true))) ?hg ?ho ?hn ?hr ?_; (case ho => rfl); (case hg => rfl); (case hn => rfl); (case hr => first | (go_simp; done) | (go_simp; rfl)); intro w26 hw; have hg : w23.grownBy w26 (some goA175) := (by rw [hw]; exact HP25.2); have hp_ : Kd.R Kd.bool 46 w26 w.heap.size (fun _ => True) (.slice (some ⟨goA175, 0, none⟩) 64 64) y183 := (by rw [hw, Ny183.out]; exact HP25.1); clear HP25; have n0_ := Aside0.mk (blk_grown (g := gb170) (o := .cells #[.slice A0_0 l0_0.length c0_0, .slice A0_1 l0_1.length c0_1] 26 (0, 0)) (by exact KX_ BK170.out) hg (Kd.R_ne HO174.out BK170.out (by decide))); have n1_ := Aside0.mk (hp_); have n2_ := Aside0.mk (Kd.R_over' (v := (.slice (some ⟨goA175, 0, none⟩) 64 64)) (by exact RX_ HO178.out) (Kd.R_typed HO174.out) (by decide) hg); have n3_ := Aside0.mk (Kd.R_over' (v := (.slice (some ⟨goA175, 0, none⟩) 64 64)) (by exact RX_ HO182.out) (Kd.R_typed HO174.out) (by decide) hg); have n4_ := Aside0.mk ((by rw [hw]; exact below_set (HB.out) GBA175.out : Below w.heap.size w w26)); clear BK170; clear HO174; clear HO178; clear HO182; clear HB; have BK170 := n0_; have HO174 := n1_; have HO178 := n2_; have HO182 := n3_; have HB := n4_; clear n0_ n1_ n2_ n3_ n4_; clear hg hw hp_)); try go_wp2_with (first | ((with_reducible refine gate_dst (N := 5) rfl ?_); (try (refine gate_guard (by rfl) ?_; dsimp only)); refine Kd0.R_alloc Kd.bool _ 46 rfl (N := 5) rfl 64 false (.bool false) ?hr rfl (by decide) rfl (ok := fun _ => True) trivial (Below.refl _ _) (Nat.le_refl _) (by decide) ?_; (case hr => first | (go_simp; done) | (go_simp; rfl) | (go_simp; kernel_rfl)); intro goA175 hge_ w19 ho20 hb hg_ hnew_; have GBA175 := Aside0.mk (Nat.le_trans (below_size (B1_)) hge_ : w.heap.size ≤ goA175); clear hge_; clear hg_ hnew_; (first | rw [← Ny172.out] at ho20 | (simp only [Int.reduceToNat] at ho20; rw [← Ny172.out] at ho20)); have n0_ := Aside0.mk (Kd.R_lower ho20 (below_size (B1_))); have n1_ := Aside0.mk (blk_below (g := gb170) (o := .cells #[.slice A0_0 l0_0.length c0_0, .slice A0_1 l0_1.length c0_1] 26 (0, 0)) (by exact KX_ BK170.out) hb); have n2_ := Aside0.mk (below_step (B1_) hb); clear BK170; clear HB; have HO174 := n0_; have BK170 := n1_; have HB := n2_; clear n0_ n1_ n2_; clear hb ho20) | ((with_reducible refine gate_dst (N := 6) rfl ?_); (try (refine gate_guard (by rfl) ?_; dsimp only)); refine Kd0.R_alloc (Kd.int .i64) _ 57 rfl (N := 6) rfl 64 0 (.int .i64 0) ?hr rfl (by decide) rfl (ok := fun _ => True) trivial (Below.refl _ _) (Nat.le_refl _) (by decide) ?_; (case hr => first | (go_simp; done) | (go_simp; rfl) | (go_simp; kernel_rfl)); intro goA179 hge_ w21 ho22 hb hg_ hnew_; have GBA179 := Aside0.mk (Nat.le_trans (below_size (B1_)) hge_ : w.heap.size ≤ goA179); clear hge_; clear hg_ hnew_; (first | rw [← Ny176.out] at ho22 | (simp only [Int.reduceToNat] at ho22; rw [← Ny176.out] at ho22)); have n0_ := Aside0.mk (Kd.R_below (by exact RX_ HO174.out) hb); have n1_ := Aside0.mk (Kd.R_lower ho22 (below_size (B1_))); have n2_ := Aside0.mk (blk_below (g := gb170) (o := .cells #[.slice A0_0 l0_0.length c0_0, .slice A0_1 l0_1.length c0_1] 26 (0, 0)) (by exact KX_ BK170.out) hb); have n3_ := Aside0.mk (below_step (B1_) hb); clear HO174; clear BK170; clear HB; have HO174 := n0_; have HO178 := n1_; have BK170 := n2_; have HB := n3_; clear n0_ n1_ n2_ n3_; clear hb ho22) | ((with_reducible refine gate_dst (N := 26) rfl ?_); (try (refine gate_guard (by rfl) ?_; dsimp only)); refine Kd.R_lit (Kd.int .i64) _ 3 ?hg (N := 26) ?hd (xs := ([a1] : List Int)) (inner := [.int .i64 a1]) (ok := fun _ => True) (okp := fun _ => True) ?hr ?hp (fun _ hk => hk) trivial (Below.refl _ _) (Nat.le_refl _) (by simp) ?_; (case hd => rfl); (case hg => rfl); (case hr => first | (go_simp; done) | (go_simp; rfl)); (case hp => exact (Reps.one (show Kd.M (Kd.int .i64) _ _ _ a1 [.int .i64 a1] from rfl) (Reps.none _ _))); intro v181 w23 ho24 hb hg_ hnew_; clear hg_ hnew_; (first | rw [← Ny180.out] at ho24 | (simp only [Int.reduceToNat] at ho24; rw [← Ny180.out] at ho24)); have n0_ := Aside0.mk (Kd.R_below (by exact RX_ HO174.out) hb); have n1_ := Aside0.mk (Kd.R_below (by exact RX_ HO178.out) hb); have n2_ := Aside0.mk (Kd.R_lower ho24 (below_size (B1_))); have n3_ := Aside0.mk (blk_below (g := gb170) (o := .cells #[.slice A0_0 l0_0.length c0_0, .slice A0_1 l0_1.length c0_1] 26 (0, 0)) (by exact KX_ BK170.out) hb); have n4_ := Aside0.mk (below_step (B1_) hb); clear HO174; clear HO178; clear BK170; clear HB; have HO174 := n0_; have HO178 := n1_; have HO182 := n2_; have BK170 := n3_; have HB := n4_; clear n0_ n1_ n2_ n3_ n4_; clear hb ho24; have p18 : 0 ≤ (a1 : Int) := D_; have q18 : (a1 : Int) < (64 : Int) := D_; obtain ⟨hx18_0, hf18_0⟩ := Kd.R_celln false HO174.out (a1 : Int) p18 q18; replace p18 := eq_true p18; replace q18 := eq_true q18; obtain ⟨hy25_, hz25_⟩ := Kd.R_celln false HO174.out (a1 : Int) (D_) (D_); have HP25 := Kd.R_putg HO174.out (a1 : Int) true) | ((with_reducible refine gate_store (t := 4) (p := 28) rfl ?_); (try (rw [drewN_self w23]; generalize hq_ : World.drewN w23 _ = w23; have n0_ := Aside0.mk (Kd.R_at hq_ HO174.out); have n1_ := Aside0.mk (Kd.R_at hq_ HO178.out); have n2_ := Aside0.mk (Kd.R_at hq_ HO182.out); have n3_ := Aside0.mk (blk_at hq_ BK170.out); have n4_ := Aside0.mk (below_at hq_ HB.out); clear hq_ HO174 HO178 HO182 BK170 HB; have HO174 := n0_; have HO178 := n1_; have HO182 := n2_; have BK170 := n3_; have HB := n4_; clear n0_ n1_ n2_ n3_ n4_; (try (obtain ⟨hy25_, hz25_⟩ := Kd.R_celln false HO174.out (a1 : Int) (D_) (D_))); (try (obtain ⟨hcx_, hcf_⟩ := Kd.R_celln false HO174.out (a1 : Int) (D_) (by first | exact D_ | (have z_ : (a1 : Int) < (64 : Int) := D_; exact z_)))); (try (have HP25 := Kd.R_putg HO174.out (a1 : Int) true)))); refine store_event (t := 4) (p := 28) (v := ?vo_w26) (w1 := (w23.setCell ⟨goA175, (a1 : Int).toNat, none⟩ (.bool true))) ?hg ?ho ?hn ?hr ?_; (case ho => rfl); (case hg => rfl); (case hn => rfl); (case hr => first | (go_simp; done) | (go_simp; rfl)); intro w26 hw; have hg : w23.grownBy w26 (some goA175) := (by rw [hw]; exact HP25.2); have hp_ : Kd.R Kd.bool 46 w26 w.heap.size (fun _ => True) (.slice (some ⟨goA175, 0, none⟩) 64 64) y183 := (by rw [hw, Ny183.out]; exact HP25.1); clear HP25; have n0_ := Aside0.mk (blk_grown (g := gb170) (o := .cells #[.slice A0_0 l0_0.length c0_0, .slice A0_1 l0_1.length c0_1] 26 (0, 0)) (by exact KX_ BK170.out) hg (Kd.R_ne HO174.out BK170.out (by decide))); have n1_ := Aside0.mk (hp_); have n2_ := Aside0.mk (Kd.R_over' (v := (.slice (some ⟨goA175, 0, none⟩) 64 64)) (by exact RX_ HO178.out) (Kd.R_typed HO174.out) (by decide) hg); have n3_ := Aside0.mk (Kd.R_over' (v := (.slice (some ⟨goA175, 0, none⟩) 64 64)) (by exact RX_ HO182.out) (Kd.R_typed HO174.out) (by decide) hg); have n4_ := Aside0.mk ((by rw [hw]; exact below_set (HB.out) GBA175.out : Below w.heap.size w w26)); clear BK170; clear HO174; clear HO178; clear HO182; clear HB; have BK170 := n0_; have HO174 := n1_; have HO178 := n2_; have HO182 := n3_; have HB := n4_; clear n0_ n1_ n2_ n3_ n4_; clear hg hw hp_)))
     go_step3
     go_step
     try go_step
     apply lab_ghost_at (l := 0) (I := fun (a0_ : Act) (kq_ : Nat) (a_ : Act) (w_ : World) => ∃ u4 u7 u8 u9 u10 u29 u30 u31 u32 u33 u34 u35 u36 u37 u38 u39 u40 u41 u42 u43 u44 u45 u46 u47 u48 u49 u50 u51 u52 u53 u54 u55 u56 u57 u58 u59 u60 u61 u62 u63 u64 u65 u66 u67 u68 u69 u70 u71 u72 u73 u74 u75 u76 u77 u78 u79 u80 u81 u82 u83 u84 : Value, ((fun kq v7 v8 w' => ∃ (x5_2 : List Bool) (x6_2 : List Int) (x7_2 : List Int) (x8_2 : List Int), Aside0 (graph_Order.l0 kq x5_2 x6_2 x7_2 x8_2 l0_0 l0_1 = some r) ∧ Aside0 (kq ≤ kj3) ∧ Aside0 (Kd.R Kd.bool 46 w' w.heap.size (fun _ => True) (.slice (some ⟨goA175, 0, none⟩) 64 64) x5_2) ∧ Aside0 (Kd.R (Kd.int .i64) 57 w' w.heap.size (fun _ => True) (.slice (some ⟨goA179, 0, none⟩) 64 64) x6_2) ∧ Aside0 (Kd.R (Kd.int .i64) 3 w' w.heap.size (fun k_ => some k_ ≠ (v8 : Value).ownBlock) v7 x7_2) ∧ Aside0 (Kd.R (Kd.int .i64) 3 w' w.heap.size (fun k_ => some k_ ≠ (v7 : Value).ownBlock) v8 x8_2) ∧ Aside0 (w'.heap[gb170]? = some (.cells #[(.slice A0_0 l0_0.length c0_0), (.slice A0_1 l0_1.length c0_1)] 26 (0, 0))) ∧ Aside0 (Below w.heap.size w w')) kq_ u7 u8 w_) ∧ a_ = { tmps := (((((((((((((((((((((((((((((((((((((((((((((((((((((((((((((a0_.tmps.setIfInBounds 4 u4).setIfInBounds 7 u7).setIfInBounds 8 u8).setIfInBounds 9 u9).setIfInBounds 10 u10).setIfInBounds 29 u29).setIfInBounds 30 u30).setIfInBounds 31 u31).setIfInBounds 32 u32).setIfInBounds 33 u33).setIfInBounds 34 u34).setIfInBounds 35 u35).setIfInBounds 36 u36).setIfInBounds 37 u37).setIfInBounds 38 u38).setIfInBounds 39 u39).setIfInBounds 40 u40).setIfInBounds 41 u41).setIfInBounds 42 u42).setIfInBounds 43 u43).setIfInBounds 44 u44).setIfInBounds 45 u45).setIfInBounds 46 u46).setIfInBounds 47 u47).setIfInBounds 48 u48).setIfInBounds 49 u49).setIfInBounds 50 u50).setIfInBounds 51 u51).setIfInBounds 52 u52).setIfInBounds 53 u53).setIfInBounds 54 u54).setIfInBounds 55 u55).setIfInBounds 56 u56).setIfInBounds 57 u57).setIfInBounds 58 u58).setIfInBounds 59 u59).setIfInBounds 60 u60).setIfInBounds 61 u61).setIfInBounds 62 u62).setIfInBounds 63 u63).setIfInBounds 64 u64).setIfInBounds 65 u65).setIfInBounds 66 u66).setIfInBounds 67 u67).setIfInBounds 68 u68).setIfInBounds 69 u69).setIfInBounds 70 u70).setIfInBounds 71 u71).setIfInBounds 72 u72).setIfInBounds 73 u73).setIfInBounds 74 u74).setIfInBounds 75 u75).setIfInBounds 76 u76).setIfInBounds 77 u77).setIfInBounds 78 u78).setIfInBounds 79 u79).setIfInBounds 80 u80).setIfInBounds 81 u81).setIfInBounds 82 u82).setIfInBounds 83 u83).setIfInBounds 84 u84), defers := a0_.defers }) (n₀ := kj3); (case hf => rfl)
     case h₀ =>
      (repeat apply Exists.intro)
      refine ⟨?_, ?hfr⟩
      (case hfr => (try simp only [List.setIfInBounds_toArray, List.set_cons_zero, List.set_cons_succ]); rfl)
      exact ⟨(y183), (y176), (([] : List Int)), (y180), H', ⟨Nat.le_refl _⟩, ⟨by exact RM_ HO174.out⟩, ⟨by exact RM_ HO178.out⟩, ⟨by first | exact Kd.R_nil _ _ _ _ _ | exact Kd.N_nil _ _ _ _ _ | exact Kd.V_nil _ _ _ _ _ | exact Kd.Q_nil _ _ _ _ _ | exact Kd.S_nil _ _ _ _ _⟩, ⟨by (with_reducible repeat (first | apply Kd.R_alloc | apply Kd.R_drewN | apply Kd.R_drew)); exact Kd.R_mono HO182.out (fun _ hk => (by simp [Value.ownBlock]))⟩, ⟨by exact KX_ BK170.out⟩, ⟨B1_⟩⟩
     intro gk _ wr hinv
     obtain ⟨u4, hinv⟩ := hinv
     obtain ⟨u7, hinv⟩ := hinv
     obtain ⟨u8, hinv⟩ := hinv
     obtain ⟨u9, hinv⟩ := hinv
     obtain ⟨u10, hinv⟩ := hinv
     obtain ⟨u29, hinv⟩ := hinv
     obtain ⟨u30, hinv⟩ := hinv
     obtain ⟨u31, hinv⟩ := hinv
     obtain ⟨u32, hinv⟩ := hinv
     obtain ⟨u33, hinv⟩ := hinv
     obtain ⟨u34, hinv⟩ := hinv
     obtain ⟨u35, hinv⟩ := hinv
     obtain ⟨u36, hinv⟩ := hinv
     obtain ⟨u37, hinv⟩ := hinv
     obtain ⟨u38, hinv⟩ := hinv
     obtain ⟨u39, hinv⟩ := hinv
     obtain ⟨u40, hinv⟩ := hinv
     obtain ⟨u41, hinv⟩ := hinv
     obtain ⟨u42, hinv⟩ := hinv
     obtain ⟨u43, hinv⟩ := hinv
     obtain ⟨u44, hinv⟩ := hinv
     obtain ⟨u45, hinv⟩ := hinv
     obtain ⟨u46, hinv⟩ := hinv
     obtain ⟨u47, hinv⟩ := hinv
     obtain ⟨u48, hinv⟩ := hinv
     obtain ⟨u49, hinv⟩ := hinv
     obtain ⟨u50, hinv⟩ := hinv
     obtain ⟨u51, hinv⟩ := hinv
     obtain ⟨u52, hinv⟩ := hinv
     obtain ⟨u53, hinv⟩ := hinv
     obtain ⟨u54, hinv⟩ := hinv
     obtain ⟨u55, hinv⟩ := hinv
     obtain ⟨u56, hinv⟩ := hinv
     obtain ⟨u57, hinv⟩ := hinv
     obtain ⟨u58, hinv⟩ := hinv
     obtain ⟨u59, hinv⟩ := hinv
     obtain ⟨u60, hinv⟩ := hinv
     obtain ⟨u61, hinv⟩ := hinv
     obtain ⟨u62, hinv⟩ := hinv
     obtain ⟨u63, hinv⟩ := hinv
     obtain ⟨u64, hinv⟩ := hinv
     obtain ⟨u65, hinv⟩ := hinv
     obtain ⟨u66, hinv⟩ := hinv
     obtain ⟨u67, hinv⟩ := hinv
     obtain ⟨u68, hinv⟩ := hinv
     obtain ⟨u69, hinv⟩ := hinv
     obtain ⟨u70, hinv⟩ := hinv
     obtain ⟨u71, hinv⟩ := hinv
     obtain ⟨u72, hinv⟩ := hinv
     obtain ⟨u73, hinv⟩ := hinv
     obtain ⟨u74, hinv⟩ := hinv
     obtain ⟨u75, hinv⟩ := hinv
     obtain ⟨u76, hinv⟩ := hinv
     obtain ⟨u77, hinv⟩ := hinv
     obtain ⟨u78, hinv⟩ := hinv
     obtain ⟨u79, hinv⟩ := hinv
     obtain ⟨u80, hinv⟩ := hinv
     obtain ⟨u81, hinv⟩ := hinv
     obtain ⟨u82, hinv⟩ := hinv
     obtain ⟨u83, hinv⟩ := hinv
     obtain ⟨u84, hinv⟩ := hinv
     obtain ⟨hrel, ha⟩ := hinv; subst ha
     intro _ _ hJ_ hK_
     (try simp only [List.setIfInBounds_toArray, List.set_cons_zero, List.set_cons_succ])
     (try simp only [List.setIfInBounds_toArray, List.set_cons_zero, List.set_cons_succ] at hJ_)
     clear H'
     try clear c15
     try clear c16b0
     try clear c17b0
     try clear p18
     try clear q18
     try clear hx18_0
     try clear p18
     try clear q18
     obtain ⟨x5_2, x6_2, x7_2, x8_2, HA, HK2, HO_5, HO_6, HO_7, HO_8, BK170, HB⟩ := hrel
     cases gk with
     | zero => exact absurd HA.out (by simp [graph_Order.l0])
     | succ k2 =>
      have H := HA.out
      clear HA
      simp only [graph_Order.l0] at H
      obtain ⟨ji27, hji27⟩ : ∃ j_ : Int, (wrap64 ((x8_2.length : Int) - 1)) = j_ := ⟨_, rfl⟩
      replace H : (if 0 ≤ (ji27) then (if (ji27) < (x8_2.length : Int) then (graph_Order.l1 k2 x5_2 x6_2 x7_2 x8_2 (rd x8_2 (ji27)) l0_0 l0_1) else (none)) else (none)) = some r := by first | (rw [hji27] at H; exact H) | (simp only [hji27] at H ⊢; exact H)
      have hji27w : (IntKind.i64.wrap ((x8_2.length : Int) - 1)) = ji27 := (i64_w _).trans hji27
      by_cases c28 : 0 ≤ (ji27)
      ·rw [if_pos c28] at H
       have c28b0 : decide (0 ≤ (ji27)) = true := decide_eq_true c28
       clear c28
       by_cases c29 : (ji27) < (x8_2.length : Int)
       ·rw [if_pos c29] at H
        have c29b0 : decide ((ji27) < (x8_2.length : Int)) = true := decide_eq_true c29
        clear c29
        have H' := Aside0.mk H
        clear H
        obtain ⟨Ao30, co30, eo30⟩ := Kd.R_slice HO_8.out
        subst eo30
        have p184 : 0 ≤ ((ji27) : Int) := D_
        have q184 : (ji27) < (x8_2.length : Int) := D_
        obtain ⟨ad184, e184, hx184_0⟩ := Kd.at_int (Kd.R_reads' HO_8.out).2.2 (ji27) p184 q184
        cases e184
        replace p184 := eq_true p184
        replace q184 := eq_true q184
        go_wp2
        repeat (go_quiet (fail); try go_wp2)
        go_loopg [8] k2 (fun kq v8 w' => ∃ (x5_3 : List Bool) (x6_3 : List Int) (x8_3 : List Int), Aside0 (graph_Order.l1 kq x5_3 x6_3 x7_2 x8_3 (rd x8_2 (ji27)) l0_0 l0_1 = some r) ∧ Aside0 (kq ≤ k2) ∧ Aside0 (Kd.R Kd.bool 46 w' w.heap.size (fun _ => True) (.slice (some ⟨goA175, 0, none⟩) 64 64) x5_3) ∧ Aside0 (Kd.R (Kd.int .i64) 57 w' w.heap.size (fun _ => True) (.slice (some ⟨goA179, 0, none⟩) 64 64) x6_3) ∧ Aside0 (Kd.R (Kd.int .i64) 3 w' w.heap.size (fun k_ => some k_ ≠ (v8 : Value).ownBlock) u7 x7_2) ∧ Aside0 (Kd.R (Kd.int .i64) 3 w' w.heap.size (fun k_ => some k_ ≠ (u7 : Value).ownBlock) v8 x8_3) ∧ Aside0 (w'.heap[gb170]? = some (.cells #[(.slice A0_0 l0_0.length c0_0), (.slice A0_1 l0_1.length c0_1)] 26 (0, 0))) ∧ Aside0 (Below w.heap.size w w'))
        case atStart => exact ⟨(x5_2), (x6_2), (x8_2), H', ⟨Nat.le_refl _⟩, ⟨by exact RM_ HO_5.out⟩, ⟨by exact RM_ HO_6.out⟩, ⟨by exact RM_ HO_7.out⟩, ⟨by exact RM_ HO_8.out⟩, ⟨by exact KX_ BK170.out⟩, ⟨B1_⟩⟩
        case round =>
         clear H'
         try clear c28b0
         try clear c29b0
         try clear hx184_0
         try clear p184
         try clear q184
         obtain ⟨x5_3, x6_3, x8_3, HA, HK3, HO_5, HO_6, HO_7, HO_8, BK170, HB⟩ := hrel
         cases gk with
         | zero => exact absurd HA.out (by simp [graph_Order.l1])
         | succ k3 =>
          have H := HA.out
          clear HA
          simp only [graph_Order.l1] at H
          by_cases c31 : 0 ≤ (rd x8_2 (ji27))
          ·rw [if_pos c31] at H
           have c31b0 : decide (0 ≤ (rd x8_2 (ji27))) = true := decide_eq_true c31
           clear c31
           by_cases c32 : (rd x8_2 (ji27)) < 64
           ·rw [if_pos c32] at H
            have c32b0 : decide ((rd x8_2 (ji27)) < 64) = true := decide_eq_true c32
            clear c32
            by_cases c33 : (rd x8_2 (ji27)) < (l0_0.length : Int)
            ·rw [if_pos c33] at H
             have c33b0 : decide ((rd x8_2 (ji27)) < (l0_0.length : Int)) = true := decide_eq_true c33
             clear c33
             by_cases c34 : (rd x6_3 (rd x8_2 (ji27))) < ((rd_L1 l0_0 (rd x8_2 (ji27))).length : Int)
             ·rw [if_pos c34] at H
              have c34b0 : decide ((rd x6_3 (rd x8_2 (ji27))) < ((rd_L1 l0_0 (rd x8_2 (ji27))).length : Int)) = true := decide_eq_true c34
              clear c34
              by_cases c35 : 0 ≤ (rd x6_3 (rd x8_2 (ji27)))
              ·rw [if_pos c35] at H
               have c35b0 : decide (0 ≤ (rd x6_3 (rd x8_2 (ji27)))) = true := decide_eq_true c35
               clear c35
               obtain ⟨y191, hy191⟩ : ∃ y_ : List Int, y_ = (x6_3.set ((rd x8_2 (ji27)) : Int).toNat (wrap64 ((rd x6_3 (rd x8_2 (ji27))) + 1))) := ⟨_, rfl⟩
               replace H : (if 0 ≤ (rd (rd_L1 l0_0 (rd x8_2 (ji27))) (rd x6_3 (rd x8_2 (ji27)))) then (if (rd (rd_L1 l0_0 (rd x8_2 (ji27))) (rd x6_3 (rd x8_2 (ji27)))) < 64 then (if (rdOf false x5_3 (rd (rd_L1 l0_0 (rd x8_2 (ji27))) (rd x6_3 (rd x8_2 (ji27)))) = true) then (graph_Order.l1 k3 x5_3 y191 x7_2 x8_3 (rd x8_2 (ji27)) l0_0 l0_1) else (if x8_3.length < 17592186044416 then (graph_Order.l0 k3 (x5_3.set ((rd (rd_L1 l0_0 (rd x8_2 (ji27))) (rd x6_3 (rd x8_2 (ji27)))) : Int).toNat true) y191 x7_2 (x8_3 ++ [rd (rd_L1 l0_0 (rd x8_2 (ji27))) (rd x6_3 (rd x8_2 (ji27)))]) l0_0 l0_1) else (none))) else (none)) else (none)) = some r := by first | (rw [hy191]; with_reducible exact H) | (have H2_ := (Option.bind_some _ _).symm.trans H; rw [hy191]; with_reducible exact H2_) | (have H2_ := (Option.bind_some _ _).symm.trans H; with_reducible exact H2_) | with_reducible exact H | (rw [hy191]; exact H) | exact H
               have Ny191 := Aside0.mk hy191
               clear hy191
               by_cases c37 : 0 ≤ (rd (rd_L1 l0_0 (rd x8_2 (ji27))) (rd x6_3 (rd x8_2 (ji27))))
               ·rw [if_pos c37] at H
                have c37b0 : decide (0 ≤ (rd (rd_L1 l0_0 (rd x8_2 (ji27))) (rd x6_3 (rd x8_2 (ji27))))) = true := decide_eq_true c37
                clear c37
                by_cases c38 : (rd (rd_L1 l0_0 (rd x8_2 (ji27))) (rd x6_3 (rd x8_2 (ji27)))) < 64
                ·rw [if_pos c38] at H
                 have c38b0 : decide ((rd (rd_L1 l0_0 (rd x8_2 (ji27))) (rd x6_3 (rd x8_2 (ji27)))) < 64) = true := decide_eq_true c38
                 clear c38
                 obtain ⟨bq39, hbq39⟩ : ∃ b_ : Bool, b_ = (rdOf false x5_3 (rd (rd_L1 l0_0 (rd x8_2 (ji27))) (rd x6_3 (rd x8_2 (ji27))))) := ⟨_, rfl⟩
                 replace H : (if (bq39 = true) then (graph_Order.l1 k3 x5_3 y191 x7_2 x8_3 (rd x8_2 (ji27)) l0_0 l0_1) else (if x8_3.length < 17592186044416 then (graph_Order.l0 k3 (x5_3.set ((rd (rd_L1 l0_0 (rd x8_2 (ji27))) (rd x6_3 (rd x8_2 (ji27)))) : Int).toNat true) y191 x7_2 (x8_3 ++ [rd (rd_L1 l0_0 (rd x8_2 (ji27))) (rd x6_3 (rd x8_2 (ji27)))]) l0_0 l0_1) else (none))) = some r := by rw [← hbq39] at H; exact H
                 have Nbq39 := Aside0.mk hbq39
                 clear hbq39
                 by_cases c40 : (bq39 = true)
                 ·subst c40
                  have H1 : (graph_Order.l1 k3 x5_3 y191 x7_2 x8_3 (rd x8_2 (ji27)) l0_0 l0_1) = some r := by rw [if_pos rfl] at H; exact H
                  clear H
                  have H := H1
                  clear H1
                  have H' := Aside0.mk H
                  clear H
                  have p185 : 0 ≤ ((rd x8_2 (ji27)) : Int) := D_
                  have ql185 : (((rd x8_2 (ji27)) : Int) < (64 : Int)) = True := eq_true (D_)
                  have q185 : (rd x8_2 (ji27)) < (x6_3.length : Int) := (by have h_ : ((rd x8_2 (ji27)) : Int) < (64 : Int) := D_; have e_ := (Kd.R_reads' HO_6.out).1; omega)
                  obtain ⟨ad185, e185, hx185_0⟩ := Kd.at_int (Kd.R_reads' HO_6.out).2.2 (rd x8_2 (ji27)) p185 q185
                  obtain rfl : (⟨goA179, 0, none⟩ : Addr) = ad185 := (by injection e185)
                  (first | simp only [add_plain] at hx185_0 | simp only [add_at] at hx185_0 | simp only [Addr.add, Nat.zero_add] at hx185_0 | skip)
                  replace p185 := eq_true p185
                  replace q185 := eq_true q185
                  have hcz41_0 : wr.cell? ⟨gb170, 0, none⟩ = some (.slice A0_0 l0_0.length c0_0) := (blk_cell BK170.out 0).trans rfl
                  have hcz41_1 : wr.cell? ⟨gb170, 1, none⟩ = some (.slice A0_1 l0_1.length c0_1) := (blk_cell BK170.out 1).trans rfl
                  have hfz41_0 := blk_frozen BK170.out 0
                  have hfz41_1 := blk_frozen BK170.out 1
                  have p186 : 0 ≤ ((rd x8_2 (ji27)) : Int) := D_
                  have q186 : (rd x8_2 (ji27)) < (l0_0.length : Int) := D_
                  obtain ⟨ad186, A186_0, c186_0, e186, hx186_0, hl186_0, hi186_0⟩ := at_L1 HR0_0.out (rd x8_2 (ji27)) p186 q186
                  cases e186
                  replace hx186_0 := (HB.out.cell (World.block_lt_of_cell? w _ hx186_0)).trans hx186_0
                  have HR186_0 := Aside0.mk hi186_0
                  have HC186_0 := Aside0.mk hl186_0
                  clear hi186_0 hl186_0
                  replace p186 := eq_true p186
                  replace q186 := eq_true q186
                  have p187 : 0 ≤ ((rd x8_2 (ji27)) : Int) := D_
                  have q187 : (rd x8_2 (ji27)) < (l0_0.length : Int) := D_
                  obtain ⟨ad187, A187_0, c187_0, e187, hx187_0, hl187_0, hi187_0⟩ := at_L1 HR0_0.out (rd x8_2 (ji27)) p187 q187
                  obtain rfl : ad186 = ad187 := (by injection e187)
                  replace hx187_0 := (HB.out.cell (World.block_lt_of_cell? w _ hx187_0)).trans hx187_0
                  have HR187_0 := Aside0.mk hi187_0
                  have HC187_0 := Aside0.mk hl187_0
                  clear hi187_0 hl187_0
                  replace p187 := eq_true p187
                  replace q187 := eq_true q187
                  have ea_ := Option.some.inj (hx186_0.symm.trans hx187_0)
                  injection ea_ with ea_ en_ ec_
                  subst ea_
                  subst ec_
                  clear en_
                  have p188 : 0 ≤ ((rd x8_2 (ji27)) : Int) := D_
                  have ql188 : (((rd x8_2 (ji27)) : Int) < (64 : Int)) = True := eq_true (D_)
                  have q188 : (rd x8_2 (ji27)) < (x6_3.length : Int) := (by have h_ : ((rd x8_2 (ji27)) : Int) < (64 : Int) := D_; have e_ := (Kd.R_reads' HO_6.out).1; omega)
                  obtain ⟨ad188, e188, hx188_0⟩ := Kd.at_int (Kd.R_reads' HO_6.out).2.2 (rd x8_2 (ji27)) p188 q188
                  obtain rfl : (⟨goA179, 0, none⟩ : Addr) = ad188 := (by injection e188)
                  (first | simp only [add_plain] at hx188_0 | simp only [add_at] at hx188_0 | simp only [Addr.add, Nat.zero_add] at hx188_0 | skip)
                  replace p188 := eq_true p188
                  replace q188 := eq_true q188
                  have p189 : 0 ≤ ((rd x6_3 (rd x8_2 (ji27))) : Int) := D_
                  have q189 : (rd x6_3 (rd x8_2 (ji27))) < ((rd_L1 l0_0 (rd x8_2 (ji27))).length : Int) := D_
                  obtain ⟨ad189, e189, hx189_0⟩ := Kd.at_int HR187_0.out (rd x6_3 (rd x8_2 (ji27))) p189 q189
                  cases e189
                  replace hx189_0 := (HB.out.cell (World.block_lt_of_cell? w _ hx189_0)).trans hx189_0
                  replace p189 := eq_true p189
                  replace q189 := eq_true q189
                  have p190 : 0 ≤ ((rd x8_2 (ji27)) : Int) := D_
                  have ql190 : (((rd x8_2 (ji27)) : Int) < (64 : Int)) = True := eq_true (D_)
                  have q190 : (rd x8_2 (ji27)) < (x6_3.length : Int) := (by have h_ : ((rd x8_2 (ji27)) : Int) < (64 : Int) := D_; have e_ := (Kd.R_reads' HO_6.out).1; omega)
                  obtain ⟨ad190, e190, hx190_0⟩ := Kd.at_int (Kd.R_reads' HO_6.out).2.2 (rd x8_2 (ji27)) p190 q190
                  obtain rfl : (⟨goA179, 0, none⟩ : Addr) = ad190 := (by injection e190)
                  (first | simp only [add_plain] at hx190_0 | simp only [add_at] at hx190_0 | simp only [Addr.add, Nat.zero_add] at hx190_0 | skip)
                  replace p190 := eq_true p190
                  replace q190 := eq_true q190
                  have p36 : 0 ≤ ((rd x8_2 (ji27)) : Int) := D_
                  have q36 : ((rd x8_2 (ji27)) : Int) < (64 : Int) := D_
                  obtain ⟨hx36_0, hf36_0⟩ := Kd.R_celln 0 HO_6.out ((rd x8_2 (ji27)) : Int) p36 q36
                  replace p36 := eq_true p36
                  replace q36 := eq_true q36
                  have HP42 := Kd.R_putg HO_6.out ((rd x8_2 (ji27)) : Int) (wrap64 ((rd x6_3 (rd x8_2 (ji27))) + 1))
                  go_wp2_with (first | ((with_reducible refine gate_store (t := 3) (p := 59) rfl ?_); (try (rw [drewN_self wr]; generalize hq_ : World.drewN wr _ = wr; have n0_ := Aside0.mk (Kd.R_at hq_ HO_5.out); have n1_ := Aside0.mk (Kd.R_at hq_ HO_6.out); have n2_ := Aside0.mk (Kd.R_at hq_ HO_7.out); have n3_ := Aside0.mk (Kd.R_at hq_ HO_8.out); have n4_ := Aside0.mk (blk_at hq_ BK170.out); have n5_ := Aside0.mk (below_at hq_ HB.out); clear hq_ HO_5 HO_6 HO_7 HO_8 BK170 HB; have HO_5 := n0_; have HO_6 := n1_; have HO_7 := n2_; have HO_8 := n3_; have BK170 := n4_; have HB := n5_; clear n0_ n1_ n2_ n3_ n4_ n5_; (try (obtain ⟨hcx_, hcf_⟩ := Kd.R_celln 0 HO_6.out ((rd x8_2 (ji27)) : Int) (D_) (by first | exact D_ | (have z_ : ((rd x8_2 (ji27)) : Int) < (64 : Int) := D_; exact z_)))); (try (have HP42 := Kd.R_putg HO_6.out ((rd x8_2 (ji27)) : Int) (wrap64 ((rd x6_3 (rd x8_2 (ji27))) + 1)))))); refine store_event (t := 3) (p := 59) (v := ?vo_w43) (w1 := (wr.setCell ⟨goA179, ((rd x8_2 (ji27)) : Int).toNat, none⟩ (.int .i64 (wrap64 ((rd x6_3 (rd x8_2 (ji27))) + 1))))) ?hg ?ho ?hn ?hr ?_; (case ho => rfl); (case hg => rfl); (case hn => rfl); (case hr => first | (go_simp; done) | (go_simp; rfl)); intro w43 hw; have hg : wr.grownBy w43 (some goA179) := (by rw [hw]; exact HP42.2); have hp_ : Kd.R (Kd.int .i64) 57 w43 w.heap.size (fun _ => True) (.slice (some ⟨goA179, 0, none⟩) 64 64) y191 := (by rw [hw, Ny191.out]; exact HP42.1); clear HP42; have n0_ := Aside0.mk (Kd.R_over' (v := (.slice (some ⟨goA179, 0, none⟩) 64 64)) (by exact RX_ HO_5.out) (Kd.R_typed HO_6.out) (by decide) hg); have n1_ := Aside0.mk (hp_); have n2_ := Aside0.mk (Kd.R_over' (v := (.slice (some ⟨goA179, 0, none⟩) 64 64)) (by exact RX_ HO_7.out) (Kd.R_typed HO_6.out) (by decide) hg); have n3_ := Aside0.mk (Kd.R_over' (v := (.slice (some ⟨goA179, 0, none⟩) 64 64)) (by exact RX_ HO_8.out) (Kd.R_typed HO_6.out) (by decide) hg); have n4_ := Aside0.mk (blk_grown (g := gb170) (o := .cells #[.slice (some ad186) l0_0.length c0_0, .slice A0_1 l0_1.length c0_1] 26 (0, 0)) (by exact KX_ BK170.out) hg (Kd.R_ne HO_6.out BK170.out (by decide))); have n5_ := Aside0.mk ((by rw [hw]; exact below_set (HB.out) GBA179.out : Below w.heap.size w w43)); clear HO_5; clear HO_6; clear HO_7; clear HO_8; clear BK170; clear HB; have HO_5 := n0_; have HO_6 := n1_; have HO_7 := n2_; have HO_8 := n3_; have BK170 := n4_; have HB := n5_; clear n0_ n1_ n2_ n3_ n4_ n5_; clear hg hw hp_; have p192 : 0 ≤ ((rd (rd_L1 l0_0 (rd x8_2 (ji27))) (rd x6_3 (rd x8_2 (ji27)))) : Int) := D_; have ql192 : (((rd (rd_L1 l0_0 (rd x8_2 (ji27))) (rd x6_3 (rd x8_2 (ji27)))) : Int) < (64 : Int)) = True := eq_true (D_); have q192 : (rd (rd_L1 l0_0 (rd x8_2 (ji27))) (rd x6_3 (rd x8_2 (ji27)))) < (x5_3.length : Int) := (by have h_ : ((rd (rd_L1 l0_0 (rd x8_2 (ji27))) (rd x6_3 (rd x8_2 (ji27)))) : Int) < (64 : Int) := D_; have e_ := (Kd.R_reads' HO_5.out).1; omega); obtain ⟨ad192, e192, hx192_0⟩ := Kd.at_bool (Kd.R_reads' HO_5.out).2.2 (rd (rd_L1 l0_0 (rd x8_2 (ji27))) (rd x6_3 (rd x8_2 (ji27)))) p192 q192; (try rw [← Nbq39.out] at hx192_0); obtain rfl : (⟨goA175, 0, none⟩ : Addr) = ad192 := (by injection e192); (first | simp only [add_plain] at hx192_0 | simp only [add_at] at hx192_0 | simp only [Addr.add, Nat.zero_add] at hx192_0 | skip); replace p192 := eq_true p192; replace q192 := eq_true q192))
                  repeat (go_quiet (first | ((with_reducible refine gate_store (t := 3) (p := 59) rfl ?_); (try (rw [drewN_self wr]; generalize hq_ : World.drewN wr _ = wr; have n0_ := Aside0.mk (Kd.R_at hq_ HO_5.out); have n1_ := Aside0.mk (Kd.R_at hq_ HO_6.out); have n2_ := Aside0.mk (Kd.R_at hq_ HO_7.out); have n3_ := Aside0.mk (Kd.R_at hq_ HO_8.out); have n4_ := Aside0.mk (blk_at hq_ BK170.out); have n5_ := Aside0.mk (below_at hq_ HB.out); clear hq_ HO_5 HO_6 HO_7 HO_8 BK170 HB; have HO_5 := n0_; have HO_6 := n1_; have HO_7 := n2_; have HO_8 := n3_; have BK170 := n4_; have HB := n5_; clear n0_ n1_ n2_ n3_ n4_ n5_; (try (obtain ⟨hcx_, hcf_⟩ := Kd.R_celln 0 HO_6.out ((rd x8_2 (ji27)) : Int) (D_) (by first | exact D_ | (have z_ : ((rd x8_2 (ji27)) : Int) < (64 : Int) := D_; exact z_)))); (try (have HP42 := Kd.R_putg HO_6.out ((rd x8_2 (ji27)) : Int) (wrap64 ((rd x6_3 (rd x8_2 (ji27))) + 1)))))); refine store_event (t := 3) (p := 59) (v := ?vo_w43) (w1 := (wr.setCell ⟨goA179, ((rd x8_2 (ji27)) : Int).toNat, none⟩ (.int .i64 (wrap64 ((rd x6_3 (rd x8_2 (ji27))) + 1))))) ?hg ?ho ?hn ?hr ?_; (case ho => rfl); (case hg => rfl); (case hn => rfl); (case hr => first | (go_simp; done) | (go_simp; rfl)); intro w43 hw; have hg : wr.grownBy w43 (some goA179) := (by rw [hw]; exact HP42.2); have hp_ : Kd.R (Kd.int .i64) 57 w43 w.heap.size (fun _ => True) (.slice (some ⟨goA179, 0, none⟩) 64 64) y191 := (by rw [hw, Ny191.out]; exact HP42.1); clear HP42; have n0_ := Aside0.mk (Kd.R_over' (v := (.slice (some ⟨goA179, 0, none⟩) 64 64)) (by exact RX_ HO_5.out) (Kd.R_typed HO_6.out) (by decide) hg); have n1_ := Aside0.mk (hp_); have n2_ := Aside0.mk (Kd.R_over' (v := (.slice (some ⟨goA179, 0, none⟩) 64 64)) (by exact RX_ HO_7.out) (Kd.R_typed HO_6.out) (by decide) hg); have n3_ := Aside0.mk (Kd.R_over' (v := (.slice (some ⟨goA179, 0, none⟩) 64 64)) (by exact RX_ HO_8.out) (Kd.R_typed HO_6.out) (by decide) hg); have n4_ := Aside0.mk (blk_grown (g := gb170) (o := .cells #[.slice (some ad186) l0_0.length c0_0, .slice A0_1 l0_1.length c0_1] 26 (0, 0)) (by exact KX_ BK170.out) hg (Kd.R_ne HO_6.out BK170.out (by decide))); have n5_ := Aside0.mk ((by rw [hw]; exact below_set (HB.out) GBA179.out : Below w.heap.size w w43)); clear HO_5; clear HO_6; clear HO_7; clear HO_8; clear BK170; clear HB; have HO_5 := n0_; have HO_6 := n1_; have HO_7 := n2_; have HO_8 := n3_; have BK170 := n4_; have HB := n5_; clear n0_ n1_ n2_ n3_ n4_ n5_; clear hg hw hp_; have p192 : 0 ≤ ((rd (rd_L1 l0_0 (rd x8_2 (ji27))) (rd x6_3 (rd x8_2 (ji27)))) : Int) := D_; have ql192 : (((rd (rd_L1 l0_0 (rd x8_2 (ji27))) (rd x6_3 (rd x8_2 (ji27)))) : Int) < (64 : Int)) = True := eq_true (D_); have q192 : (rd (rd_L1 l0_0 (rd x8_2 (ji27))) (rd x6_3 (rd x8_2 (ji27)))) < (x5_3.length : Int) := (by have h_ : ((rd (rd_L1 l0_0 (rd x8_2 (ji27))) (rd x6_3 (rd x8_2 (ji27)))) : Int) < (64 : Int) := D_; have e_ := (Kd.R_reads' HO_5.out).1; omega); obtain ⟨ad192, e192, hx192_0⟩ := Kd.at_bool (Kd.R_reads' HO_5.out).2.2 (rd (rd_L1 l0_0 (rd x8_2 (ji27))) (rd x6_3 (rd x8_2 (ji27)))) p192 q192; (try rw [← Nbq39.out] at hx192_0); obtain rfl : (⟨goA175, 0, none⟩ : Addr) = ad192 := (by injection e192); (first | simp only [add_plain] at hx192_0 | simp only [add_at] at hx192_0 | simp only [Addr.add, Nat.zero_add] at hx192_0 | skip); replace p192 := eq_true p192; replace q192 := eq_true q192)); try go_wp2_with (first | ((with_reducible refine gate_store (t := 3) (p := 59) rfl ?_); (try (rw [drewN_self wr]; generalize hq_ : World.drewN wr _ = wr; have n0_ := Aside0.mk (Kd.R_at hq_ HO_5.out); have n1_ := Aside0.mk (Kd.R_at hq_ HO_6.out); have n2_ := Aside0.mk (Kd.R_at hq_ HO_7.out); have n3_ := Aside0.mk (Kd.R_at hq_ HO_8.out); have n4_ := Aside0.mk (blk_at hq_ BK170.out); have n5_ := Aside0.mk (below_at hq_ HB.out); clear hq_ HO_5 HO_6 HO_7 HO_8 BK170 HB; have HO_5 := n0_; have HO_6 := n1_; have HO_7 := n2_; have HO_8 := n3_; have BK170 := n4_; have HB := n5_; clear n0_ n1_ n2_ n3_ n4_ n5_; (try (obtain ⟨hcx_, hcf_⟩ := Kd.R_celln 0 HO_6.out ((rd x8_2 (ji27)) : Int) (D_) (by first | exact D_ | (have z_ : ((rd x8_2 (ji27)) : Int) < (64 : Int) := D_; exact z_)))); (try (have HP42 := Kd.R_putg HO_6.out ((rd x8_2 (ji27)) : Int) (wrap64 ((rd x6_3 (rd x8_2 (ji27))) + 1)))))); refine store_event (t := 3) (p := 59) (v := ?vo_w43) (w1 := (wr.setCell ⟨goA179, ((rd x8_2 (ji27)) : Int).toNat, none⟩ (.int .i64 (wrap64 ((rd x6_3 (rd x8_2 (ji27))) + 1))))) ?hg ?ho ?hn ?hr ?_; (case ho => rfl); (case hg => rfl); (case hn => rfl); (case hr => first | (go_simp; done) | (go_simp; rfl)); intro w43 hw; have hg : wr.grownBy w43 (some goA179) := (by rw [hw]; exact HP42.2); have hp_ : Kd.R (Kd.int .i64) 57 w43 w.heap.size (fun _ => True) (.slice (some ⟨goA179, 0, none⟩) 64 64) y191 := (by rw [hw, Ny191.out]; exact HP42.1); clear HP42; have n0_ := Aside0.mk (Kd.R_over' (v := (.slice (some ⟨goA179, 0, none⟩) 64 64)) (by exact RX_ HO_5.out) (Kd.R_typed HO_6.out) (by decide) hg); have n1_ := Aside0.mk (hp_); have n2_ := Aside0.mk (Kd.R_over' (v := (.slice (some ⟨goA179, 0, none⟩) 64 64)) (by exact RX_ HO_7.out) (Kd.R_typed HO_6.out) (by decide) hg); have n3_ := Aside0.mk (Kd.R_over' (v := (.slice (some ⟨goA179, 0, none⟩) 64 64)) (by exact RX_ HO_8.out) (Kd.R_typed HO_6.out) (by decide) hg); have n4_ := Aside0.mk (blk_grown (g := gb170) (o := .cells #[.slice (some ad186) l0_0.length c0_0, .slice A0_1 l0_1.length c0_1] 26 (0, 0)) (by exact KX_ BK170.out) hg (Kd.R_ne HO_6.out BK170.out (by decide))); have n5_ := Aside0.mk ((by rw [hw]; exact below_set (HB.out) GBA179.out : Below w.heap.size w w43)); clear HO_5; clear HO_6; clear HO_7; clear HO_8; clear BK170; clear HB; have HO_5 := n0_; have HO_6 := n1_; have HO_7 := n2_; have HO_8 := n3_; have BK170 := n4_; have HB := n5_; clear n0_ n1_ n2_ n3_ n4_ n5_; clear hg hw hp_; have p192 : 0 ≤ ((rd (rd_L1 l0_0 (rd x8_2 (ji27))) (rd x6_3 (rd x8_2 (ji27)))) : Int) := D_; have ql192 : (((rd (rd_L1 l0_0 (rd x8_2 (ji27))) (rd x6_3 (rd x8_2 (ji27)))) : Int) < (64 : Int)) = True := eq_true (D_); have q192 : (rd (rd_L1 l0_0 (rd x8_2 (ji27))) (rd x6_3 (rd x8_2 (ji27)))) < (x5_3.length : Int) := (by have h_ : ((rd (rd_L1 l0_0 (rd x8_2 (ji27))) (rd x6_3 (rd x8_2 (ji27)))) : Int) < (64 : Int) := D_; have e_ := (Kd.R_reads' HO_5.out).1; omega); obtain ⟨ad192, e192, hx192_0⟩ := Kd.at_bool (Kd.R_reads' HO_5.out).2.2 (rd (rd_L1 l0_0 (rd x8_2 (ji27))) (rd x6_3 (rd x8_2 (ji27)))) p192 q192; (try rw [← Nbq39.out] at hx192_0); obtain rfl : (⟨goA175, 0, none⟩ : Addr) = ad192 := (by injection e192); (first | simp only [add_plain] at hx192_0 | simp only [add_at] at hx192_0 | simp only [Addr.add, Nat.zero_add] at hx192_0 | skip); replace p192 := eq_true p192; replace q192 := eq_true q192)))
                  go_roundg k3
                  case measure => have := HJ3.out; have := HK2.out; have := HK3.out; omega
                  case rel => exact ⟨(x5_3), (y191), (x8_3), H', ⟨by have := HJ3.out; have := HK2.out; have := HK3.out; omega⟩, ⟨by exact RM_ HO_5.out⟩, ⟨by exact RM_ HO_6.out⟩, ⟨by exact RM_ HO_7.out⟩, ⟨by exact RM_ HO_8.out⟩, ⟨by exact KX_ BK170.out⟩, ⟨B1_⟩⟩
                 replace c40 := Bool.eq_false_iff.mpr c40
                 subst c40
                 have H1 : (if x8_3.length < 17592186044416 then (graph_Order.l0 k3 (x5_3.set ((rd (rd_L1 l0_0 (rd x8_2 (ji27))) (rd x6_3 (rd x8_2 (ji27)))) : Int).toNat true) y191 x7_2 (x8_3 ++ [rd (rd_L1 l0_0 (rd x8_2 (ji27))) (rd x6_3 (rd x8_2 (ji27)))]) l0_0 l0_1) else (none)) = some r := by rw [if_neg (show ¬ (false = true) by decide)] at H; exact H
                 clear H
                 have H := H1
                 clear H1
                 obtain ⟨y193, hy193⟩ : ∃ y_ : List Bool, y_ = (x5_3.set ((rd (rd_L1 l0_0 (rd x8_2 (ji27))) (rd x6_3 (rd x8_2 (ji27)))) : Int).toNat true) := ⟨_, rfl⟩
                 replace H : (if x8_3.length < 17592186044416 then (graph_Order.l0 k3 y193 y191 x7_2 (x8_3 ++ [rd (rd_L1 l0_0 (rd x8_2 (ji27))) (rd x6_3 (rd x8_2 (ji27)))]) l0_0 l0_1) else (none)) = some r := by first | (rw [hy193]; with_reducible exact H) | (have H2_ := (Option.bind_some _ _).symm.trans H; rw [hy193]; with_reducible exact H2_) | (have H2_ := (Option.bind_some _ _).symm.trans H; with_reducible exact H2_) | with_reducible exact H | (rw [hy193]; exact H) | exact H
                 have Ny193 := Aside0.mk hy193
                 clear hy193
                 by_cases c45 : x8_3.length < 17592186044416
                 ·rw [if_pos c45] at H
                  have LMc45 := Aside0.mk c45
                  clear c45
                  obtain ⟨y194, hy194⟩ : ∃ y_ : List Int, y_ = (x8_3 ++ [rd (rd_L1 l0_0 (rd x8_2 (ji27))) (rd x6_3 (rd x8_2 (ji27)))]) := ⟨_, rfl⟩
                  replace H : (graph_Order.l0 k3 y193 y191 x7_2 y194 l0_0 l0_1) = some r := by first | (rw [hy194]; with_reducible exact H) | (have H2_ := (Option.bind_some _ _).symm.trans H; rw [hy194]; with_reducible exact H2_) | (have H2_ := (Option.bind_some _ _).symm.trans H; with_reducible exact H2_) | with_reducible exact H | (rw [hy194]; exact H) | exact H
                  have Ny194 := Aside0.mk hy194
                  clear hy194
                  have H' := Aside0.mk H
                  clear H
                  have p185 : 0 ≤ ((rd x8_2 (ji27)) : Int) := D_
                  have ql185 : (((rd x8_2 (ji27)) : Int) < (64 : Int)) = True := eq_true (D_)
                  have q185 : (rd x8_2 (ji27)) < (x6_3.length : Int) := (by have h_ : ((rd x8_2 (ji27)) : Int) < (64 : Int) := D_; have e_ := (Kd.R_reads' HO_6.out).1; omega)
                  obtain ⟨ad185, e185, hx185_0⟩ := Kd.at_int (Kd.R_reads' HO_6.out).2.2 (rd x8_2 (ji27)) p185 q185
                  obtain rfl : (⟨goA179, 0, none⟩ : Addr) = ad185 := (by injection e185)
                  (first | simp only [add_plain] at hx185_0 | simp only [add_at] at hx185_0 | simp only [Addr.add, Nat.zero_add] at hx185_0 | skip)
                  replace p185 := eq_true p185
                  replace q185 := eq_true q185
                  have hcz46_0 : wr.cell? ⟨gb170, 0, none⟩ = some (.slice A0_0 l0_0.length c0_0) := (blk_cell BK170.out 0).trans rfl
                  have hcz46_1 : wr.cell? ⟨gb170, 1, none⟩ = some (.slice A0_1 l0_1.length c0_1) := (blk_cell BK170.out 1).trans rfl
                  have hfz46_0 := blk_frozen BK170.out 0
                  have hfz46_1 := blk_frozen BK170.out 1
                  have p186 : 0 ≤ ((rd x8_2 (ji27)) : Int) := D_
                  have q186 : (rd x8_2 (ji27)) < (l0_0.length : Int) := D_
                  obtain ⟨ad186, A186_0, c186_0, e186, hx186_0, hl186_0, hi186_0⟩ := at_L1 HR0_0.out (rd x8_2 (ji27)) p186 q186
                  cases e186
                  replace hx186_0 := (HB.out.cell (World.block_lt_of_cell? w _ hx186_0)).trans hx186_0
                  have HR186_0 := Aside0.mk hi186_0
                  have HC186_0 := Aside0.mk hl186_0
                  clear hi186_0 hl186_0
                  replace p186 := eq_true p186
                  replace q186 := eq_true q186
                  have p187 : 0 ≤ ((rd x8_2 (ji27)) : Int) := D_
                  have q187 : (rd x8_2 (ji27)) < (l0_0.length : Int) := D_
                  obtain ⟨ad187, A187_0, c187_0, e187, hx187_0, hl187_0, hi187_0⟩ := at_L1 HR0_0.out (rd x8_2 (ji27)) p187 q187
                  obtain rfl : ad186 = ad187 := (by injection e187)
                  replace hx187_0 := (HB.out.cell (World.block_lt_of_cell? w _ hx187_0)).trans hx187_0
                  have HR187_0 := Aside0.mk hi187_0
                  have HC187_0 := Aside0.mk hl187_0
                  clear hi187_0 hl187_0
                  replace p187 := eq_true p187
                  replace q187 := eq_true q187
                  have ea_ := Option.some.inj (hx186_0.symm.trans hx187_0)
                  injection ea_ with ea_ en_ ec_
                  subst ea_
                  subst ec_
                  clear en_
                  have p188 : 0 ≤ ((rd x8_2 (ji27)) : Int) := D_
                  have ql188 : (((rd x8_2 (ji27)) : Int) < (64 : Int)) = True := eq_true (D_)
                  have q188 : (rd x8_2 (ji27)) < (x6_3.length : Int) := (by have h_ : ((rd x8_2 (ji27)) : Int) < (64 : Int) := D_; have e_ := (Kd.R_reads' HO_6.out).1; omega)
                  obtain ⟨ad188, e188, hx188_0⟩ := Kd.at_int (Kd.R_reads' HO_6.out).2.2 (rd x8_2 (ji27)) p188 q188
                  obtain rfl : (⟨goA179, 0, none⟩ : Addr) = ad188 := (by injection e188)
                  (first | simp only [add_plain] at hx188_0 | simp only [add_at] at hx188_0 | simp only [Addr.add, Nat.zero_add] at hx188_0 | skip)
                  replace p188 := eq_true p188
                  replace q188 := eq_true q188
                  have p189 : 0 ≤ ((rd x6_3 (rd x8_2 (ji27))) : Int) := D_
                  have q189 : (rd x6_3 (rd x8_2 (ji27))) < ((rd_L1 l0_0 (rd x8_2 (ji27))).length : Int) := D_
                  obtain ⟨ad189, e189, hx189_0⟩ := Kd.at_int HR187_0.out (rd x6_3 (rd x8_2 (ji27))) p189 q189
                  cases e189
                  replace hx189_0 := (HB.out.cell (World.block_lt_of_cell? w _ hx189_0)).trans hx189_0
                  replace p189 := eq_true p189
                  replace q189 := eq_true q189
                  have p190 : 0 ≤ ((rd x8_2 (ji27)) : Int) := D_
                  have ql190 : (((rd x8_2 (ji27)) : Int) < (64 : Int)) = True := eq_true (D_)
                  have q190 : (rd x8_2 (ji27)) < (x6_3.length : Int) := (by have h_ : ((rd x8_2 (ji27)) : Int) < (64 : Int) := D_; have e_ := (Kd.R_reads' HO_6.out).1; omega)
                  obtain ⟨ad190, e190, hx190_0⟩ := Kd.at_int (Kd.R_reads' HO_6.out).2.2 (rd x8_2 (ji27)) p190 q190
                  obtain rfl : (⟨goA179, 0, none⟩ : Addr) = ad190 := (by injection e190)
                  (first | simp only [add_plain] at hx190_0 | simp only [add_at] at hx190_0 | simp only [Addr.add, Nat.zero_add] at hx190_0 | skip)
                  replace p190 := eq_true p190
                  replace q190 := eq_true q190
                  have p36 : 0 ≤ ((rd x8_2 (ji27)) : Int) := D_
                  have q36 : ((rd x8_2 (ji27)) : Int) < (64 : Int) := D_
                  obtain ⟨hx36_0, hf36_0⟩ := Kd.R_celln 0 HO_6.out ((rd x8_2 (ji27)) : Int) p36 q36
                  replace p36 := eq_true p36
                  replace q36 := eq_true q36
                  have HP47 := Kd.R_putg HO_6.out ((rd x8_2 (ji27)) : Int) (wrap64 ((rd x6_3 (rd x8_2 (ji27))) + 1))
                  go_wp2_with (first | ((with_reducible refine gate_store (t := 3) (p := 59) rfl ?_); (try (rw [drewN_self wr]; generalize hq_ : World.drewN wr _ = wr; have n0_ := Aside0.mk (Kd.R_at hq_ HO_5.out); have n1_ := Aside0.mk (Kd.R_at hq_ HO_6.out); have n2_ := Aside0.mk (Kd.R_at hq_ HO_7.out); have n3_ := Aside0.mk (Kd.R_at hq_ HO_8.out); have n4_ := Aside0.mk (blk_at hq_ BK170.out); have n5_ := Aside0.mk (below_at hq_ HB.out); clear hq_ HO_5 HO_6 HO_7 HO_8 BK170 HB; have HO_5 := n0_; have HO_6 := n1_; have HO_7 := n2_; have HO_8 := n3_; have BK170 := n4_; have HB := n5_; clear n0_ n1_ n2_ n3_ n4_ n5_; (try (obtain ⟨hcx_, hcf_⟩ := Kd.R_celln 0 HO_6.out ((rd x8_2 (ji27)) : Int) (D_) (by first | exact D_ | (have z_ : ((rd x8_2 (ji27)) : Int) < (64 : Int) := D_; exact z_)))); (try (have HP47 := Kd.R_putg HO_6.out ((rd x8_2 (ji27)) : Int) (wrap64 ((rd x6_3 (rd x8_2 (ji27))) + 1)))))); refine store_event (t := 3) (p := 59) (v := ?vo_w48) (w1 := (wr.setCell ⟨goA179, ((rd x8_2 (ji27)) : Int).toNat, none⟩ (.int .i64 (wrap64 ((rd x6_3 (rd x8_2 (ji27))) + 1))))) ?hg ?ho ?hn ?hr ?_; (case ho => rfl); (case hg => rfl); (case hn => rfl); (case hr => first | (go_simp; done) | (go_simp; rfl)); intro w48 hw; have hg : wr.grownBy w48 (some goA179) := (by rw [hw]; exact HP47.2); have hp_ : Kd.R (Kd.int .i64) 57 w48 w.heap.size (fun _ => True) (.slice (some ⟨goA179, 0, none⟩) 64 64) y191 := (by rw [hw, Ny191.out]; exact HP47.1); clear HP47; have n0_ := Aside0.mk (Kd.R_over' (v := (.slice (some ⟨goA179, 0, none⟩) 64 64)) (by exact RX_ HO_5.out) (Kd.R_typed HO_6.out) (by decide) hg); have n1_ := Aside0.mk (hp_); have n2_ := Aside0.mk (Kd.R_over' (v := (.slice (some ⟨goA179, 0, none⟩) 64 64)) (by exact RX_ HO_7.out) (Kd.R_typed HO_6.out) (by decide) hg); have n3_ := Aside0.mk (Kd.R_over' (v := (.slice (some ⟨goA179, 0, none⟩) 64 64)) (by exact RX_ HO_8.out) (Kd.R_typed HO_6.out) (by decide) hg); have n4_ := Aside0.mk (blk_grown (g := gb170) (o := .cells #[.slice (some ad186) l0_0.length c0_0, .slice A0_1 l0_1.length c0_1] 26 (0, 0)) (by exact KX_ BK170.out) hg (Kd.R_ne HO_6.out BK170.out (by decide))); have n5_ := Aside0.mk ((by rw [hw]; exact below_set (HB.out) GBA179.out : Below w.heap.size w w48)); clear HO_5; clear HO_6; clear HO_7; clear HO_8; clear BK170; clear HB; have HO_5 := n0_; have HO_6 := n1_; have HO_7 := n2_; have HO_8 := n3_; have BK170 := n4_; have HB := n5_; clear n0_ n1_ n2_ n3_ n4_ n5_; clear hg hw hp_; have p192 : 0 ≤ ((rd (rd_L1 l0_0 (rd x8_2 (ji27))) (rd x6_3 (rd x8_2 (ji27)))) : Int) := D_; have ql192 : (((rd (rd_L1 l0_0 (rd x8_2 (ji27))) (rd x6_3 (rd x8_2 (ji27)))) : Int) < (64 : Int)) = True := eq_true (D_); have q192 : (rd (rd_L1 l0_0 (rd x8_2 (ji27))) (rd x6_3 (rd x8_2 (ji27)))) < (x5_3.length : Int) := (by have h_ : ((rd (rd_L1 l0_0 (rd x8_2 (ji27))) (rd x6_3 (rd x8_2 (ji27)))) : Int) < (64 : Int) := D_; have e_ := (Kd.R_reads' HO_5.out).1; omega); obtain ⟨ad192, e192, hx192_0⟩ := Kd.at_bool (Kd.R_reads' HO_5.out).2.2 (rd (rd_L1 l0_0 (rd x8_2 (ji27))) (rd x6_3 (rd x8_2 (ji27)))) p192 q192; (try rw [← Nbq39.out] at hx192_0); obtain rfl : (⟨goA175, 0, none⟩ : Addr) = ad192 := (by injection e192); (first | simp only [add_plain] at hx192_0 | simp only [add_at] at hx192_0 | simp only [Addr.add, Nat.zero_add] at hx192_0 | skip); replace p192 := eq_true p192; replace q192 := eq_true q192; have p44 : 0 ≤ ((rd (rd_L1 l0_0 (rd x8_2 (ji27))) (rd x6_3 (rd x8_2 (ji27)))) : Int) := D_; have q44 : ((rd (rd_L1 l0_0 (rd x8_2 (ji27))) (rd x6_3 (rd x8_2 (ji27)))) : Int) < (64 : Int) := D_; obtain ⟨hx44_0, hf44_0⟩ := Kd.R_celln false HO_5.out ((rd (rd_L1 l0_0 (rd x8_2 (ji27))) (rd x6_3 (rd x8_2 (ji27)))) : Int) p44 q44; replace p44 := eq_true p44; replace q44 := eq_true q44; obtain ⟨hy49_, hz49_⟩ := Kd.R_celln false HO_5.out ((rd (rd_L1 l0_0 (rd x8_2 (ji27))) (rd x6_3 (rd x8_2 (ji27)))) : Int) (D_) (D_); have HP49 := Kd.R_putg HO_5.out ((rd (rd_L1 l0_0 (rd x8_2 (ji27))) (rd x6_3 (rd x8_2 (ji27)))) : Int) true) | ((with_reducible refine gate_store (t := 4) (p := 65) rfl ?_); (try (rw [drewN_self w48]; generalize hq_ : World.drewN w48 _ = w48; have n0_ := Aside0.mk (Kd.R_at hq_ HO_5.out); have n1_ := Aside0.mk (Kd.R_at hq_ HO_6.out); have n2_ := Aside0.mk (Kd.R_at hq_ HO_7.out); have n3_ := Aside0.mk (Kd.R_at hq_ HO_8.out); have n4_ := Aside0.mk (blk_at hq_ BK170.out); have n5_ := Aside0.mk (below_at hq_ HB.out); clear hq_ HO_5 HO_6 HO_7 HO_8 BK170 HB; have HO_5 := n0_; have HO_6 := n1_; have HO_7 := n2_; have HO_8 := n3_; have BK170 := n4_; have HB := n5_; clear n0_ n1_ n2_ n3_ n4_ n5_; (try (obtain ⟨hy49_, hz49_⟩ := Kd.R_celln false HO_5.out ((rd (rd_L1 l0_0 (rd x8_2 (ji27))) (rd x6_3 (rd x8_2 (ji27)))) : Int) (D_) (D_))); (try (have HP49 := Kd.R_putg HO_5.out ((rd (rd_L1 l0_0 (rd x8_2 (ji27))) (rd x6_3 (rd x8_2 (ji27)))) : Int) true)))); refine store_event (t := 4) (p := 65) (v := ?vo_w50) (w1 := (w48.setCell ⟨goA175, ((rd (rd_L1 l0_0 (rd x8_2 (ji27))) (rd x6_3 (rd x8_2 (ji27)))) : Int).toNat, none⟩ (.bool true))) ?hg ?ho ?hn ?hr ?_; (case ho => rfl); (case hg => rfl); (case hn => rfl); (case hr => first | (go_simp; done) | (go_simp; rfl)); intro w50 hw; have hg : w48.grownBy w50 (some goA175) := (by rw [hw]; exact HP49.2); have hp_ : Kd.R Kd.bool 46 w50 w.heap.size (fun _ => True) (.slice (some ⟨goA175, 0, none⟩) 64 64) y193 := (by rw [hw, Ny193.out]; exact HP49.1); clear HP49; have n0_ := Aside0.mk (hp_); have n1_ := Aside0.mk (Kd.R_over' (v := (.slice (some ⟨goA175, 0, none⟩) 64 64)) (by exact RX_ HO_6.out) (Kd.R_typed HO_5.out) (by decide) hg); have n2_ := Aside0.mk (Kd.R_over' (v := (.slice (some ⟨goA175, 0, none⟩) 64 64)) (by exact RX_ HO_7.out) (Kd.R_typed HO_5.out) (by decide) hg); have n3_ := Aside0.mk (Kd.R_over' (v := (.slice (some ⟨goA175, 0, none⟩) 64 64)) (by exact RX_ HO_8.out) (Kd.R_typed HO_5.out) (by decide) hg); have n4_ := Aside0.mk (blk_grown (g := gb170) (o := .cells #[.slice (some ad186) l0_0.length c0_0, .slice A0_1 l0_1.length c0_1] 26 (0, 0)) (by exact KX_ BK170.out) hg (Kd.R_ne HO_5.out BK170.out (by decide))); have n5_ := Aside0.mk ((by rw [hw]; exact below_set (HB.out) GBA175.out : Below w.heap.size w w50)); clear HO_5; clear HO_6; clear HO_7; clear HO_8; clear BK170; clear HB; have HO_5 := n0_; have HO_6 := n1_; have HO_7 := n2_; have HO_8 := n3_; have BK170 := n4_; have HB := n5_; clear n0_ n1_ n2_ n3_ n4_ n5_; clear hg hw hp_) | ((with_reducible refine gate_builtin (b := .append) (xs := #[.tmp 66, .tmp 68]) rfl ?_); (try (refine gate_guard (by rfl) ?_; dsimp only)); at_builtin; refine Kd.R_append (Kd.int .i64) (w0 := w) w.heap.size rfl (.tmp 66) (.tmp 68) 30 3 (.int .i64 0) 8 rfl Try.underlying30 info3 rfl (by decide) (by omega) u8 x8_3 (rd (rd_L1 l0_0 (rd x8_2 (ji27))) (rd x6_3 (rd x8_2 (ji27)))) [.int .i64 (rd (rd_L1 l0_0 (rd x8_2 (ji27))) (rd x6_3 (rd x8_2 (ji27))))] (fun k_ => some k_ ≠ (u7 : Value).ownBlock) (fun _ => False) rfl rfl ?aP (fun _ hk => hk.elim) ?aF ?aO ?aB ?aS ?aL ?_; (case aP => exact rfl); (case aB => exact (B1_)); (case aF => exact (fun k_ hk => Kd.fresh' (Kd.R_lt (by exact RX_ HO_7.out)) k_ hk)); (case aO => exact (by exact RX_ HO_8.out)); (case aS => exact (below_size (B1_))); (case aL => have := LMc45.out; omega); intro v195 w51 ho hb hg hat; rw [← Ny194.out] at ho; have n0_ := Aside0.mk (Kd.R_over' (by exact RX_ HO_5.out) (Kd.R_typed (by exact RX_ HO_8.out)) (by decide) hg); have n1_ := Aside0.mk (Kd.R_over' (by exact RX_ HO_6.out) (Kd.R_typed (by exact RX_ HO_8.out)) (by decide) hg); have n2_ := Aside0.mk (Kd.R_after (ok := (fun _ => True)) (by (with_reducible repeat (first | apply Kd.R_alloc | apply Kd.R_drewN | apply Kd.R_drew)); exact Kd.R_mono HO_7.out (fun _ hk => by first | exact ⟨trivial, hk⟩ | exact hk | exact ⟨hk.1, hk.2⟩ | simp_all)) hg hat); have n3_ := Aside0.mk (blk_grown (g := gb170) (o := .cells #[.slice (some ad186) l0_0.length c0_0, .slice A0_1 l0_1.length c0_1] 26 (0, 0)) (by exact KX_ BK170.out) hg (Kd.R_ne HO_8.out BK170.out (by decide))); have n4_ := Aside0.mk (hb); have n5_ := Aside0.mk (ho); clear HO_5; clear HO_6; clear HO_7; clear BK170; clear HB; clear HO_8; have HO_5 := n0_; have HO_6 := n1_; have HO_7 := n2_; have BK170 := n3_; have HB := n4_; have HO196 := n5_; clear n0_ n1_ n2_ n3_ n4_ n5_; clear ho hb hg hat))
                  repeat (go_quiet (first | ((with_reducible refine gate_store (t := 3) (p := 59) rfl ?_); (try (rw [drewN_self wr]; generalize hq_ : World.drewN wr _ = wr; have n0_ := Aside0.mk (Kd.R_at hq_ HO_5.out); have n1_ := Aside0.mk (Kd.R_at hq_ HO_6.out); have n2_ := Aside0.mk (Kd.R_at hq_ HO_7.out); have n3_ := Aside0.mk (Kd.R_at hq_ HO_8.out); have n4_ := Aside0.mk (blk_at hq_ BK170.out); have n5_ := Aside0.mk (below_at hq_ HB.out); clear hq_ HO_5 HO_6 HO_7 HO_8 BK170 HB; have HO_5 := n0_; have HO_6 := n1_; have HO_7 := n2_; have HO_8 := n3_; have BK170 := n4_; have HB := n5_; clear n0_ n1_ n2_ n3_ n4_ n5_; (try (obtain ⟨hcx_, hcf_⟩ := Kd.R_celln 0 HO_6.out ((rd x8_2 (ji27)) : Int) (D_) (by first | exact D_ | (have z_ : ((rd x8_2 (ji27)) : Int) < (64 : Int) := D_; exact z_)))); (try (have HP47 := Kd.R_putg HO_6.out ((rd x8_2 (ji27)) : Int) (wrap64 ((rd x6_3 (rd x8_2 (ji27))) + 1)))))); refine store_event (t := 3) (p := 59) (v := ?vo_w48) (w1 := (wr.setCell ⟨goA179, ((rd x8_2 (ji27)) : Int).toNat, none⟩ (.int .i64 (wrap64 ((rd x6_3 (rd x8_2 (ji27))) + 1))))) ?hg ?ho ?hn ?hr ?_; (case ho => rfl); (case hg => rfl); (case hn => rfl); (case hr => first | (go_simp; done) | (go_simp; rfl)); intro w48 hw; have hg : wr.grownBy w48 (some goA179) := (by rw [hw]; exact HP47.2); have hp_ : Kd.R (Kd.int .i64) 57 w48 w.heap.size (fun _ => True) (.slice (some ⟨goA179, 0, none⟩) 64 64) y191 := (by rw [hw, Ny191.out]; exact HP47.1); clear HP47; have n0_ := Aside0.mk (Kd.R_over' (v := (.slice (some ⟨goA179, 0, none⟩) 64 64)) (by exact RX_ HO_5.out) (Kd.R_typed HO_6.out) (by decide) hg); have n1_ := Aside0.mk (hp_); have n2_ := Aside0.mk (Kd.R_over' (v := (.slice (some ⟨goA179, 0, none⟩) 64 64)) (by exact RX_ HO_7.out) (Kd.R_typed HO_6.out) (by decide) hg); have n3_ := Aside0.mk (Kd.R_over' (v := (.slice (some ⟨goA179, 0, none⟩) 64 64)) (by exact RX_ HO_8.out) (Kd.R_typed HO_6.out) (by decide) hg); have n4_ := Aside0.mk (blk_grown (g := gb170) (o := .cells #[.slice (some ad186) l0_0.length c0_0, .slice A0_1 l0_1.length c0_1] 26 (0, 0)) (by exact KX_ BK170.out) hg (Kd.R_ne HO_6.out BK170.out (by decide))); have n5_ := Aside0.mk ((by rw [hw]; exact below_set (HB.out) GBA179.out : Below w.heap.size w w48)); clear HO_5; clear HO_6; clear HO_7; clear HO_8; clear BK170; clear HB; have HO_5 := n0_; have HO_6 := n1_; have HO_7 := n2_; have HO_8 := n3_; have BK170 := n4_; have HB := n5_; clear n0_ n1_ n2_ n3_ n4_ n5_; clear hg hw hp_; have p192 : 0 ≤ ((rd (rd_L1 l0_0 (rd x8_2 (ji27))) (rd x6_3 (rd x8_2 (ji27)))) : Int) := D_; have ql192 : (((rd (rd_L1 l0_0 (rd x8_2 (ji27))) (rd x6_3 (rd x8_2 (ji27)))) : Int) < (64 : Int)) = True := eq_true (D_); have q192 : (rd (rd_L1 l0_0 (rd x8_2 (ji27))) (rd x6_3 (rd x8_2 (ji27)))) < (x5_3.length : Int) := (by have h_ : ((rd (rd_L1 l0_0 (rd x8_2 (ji27))) (rd x6_3 (rd x8_2 (ji27)))) : Int) < (64 : Int) := D_; have e_ := (Kd.R_reads' HO_5.out).1; omega); obtain ⟨ad192, e192, hx192_0⟩ := Kd.at_bool (Kd.R_reads' HO_5.out).2.2 (rd (rd_L1 l0_0 (rd x8_2 (ji27))) (rd x6_3 (rd x8_2 (ji27)))) p192 q192; (try rw [← Nbq39.out] at hx192_0); obtain rfl : (⟨goA175, 0, none⟩ : Addr) = ad192 := (by injection e192); (first | simp only [add_plain] at hx192_0 | simp only [add_at] at hx192_0 | simp only [Addr.add, Nat.zero_add] at hx192_0 | skip); replace p192 := eq_true p192; replace q192 := eq_true q192; have p44 : 0 ≤ ((rd (rd_L1 l0_0 (rd x8_2 (ji27))) (rd x6_3 (rd x8_2 (ji27)))) : Int) := D_; have q44 : ((rd (rd_L1 l0_0 (rd x8_2 (ji27))) (rd x6_3 (rd x8_2 (ji27)))) : Int) < (64 : Int) := D_; obtain ⟨hx44_0, hf44_0⟩ := Kd.R_celln false HO_5.out ((rd (rd_L1 l0_0 (rd x8_2 (ji27))) (rd x6_3 (rd x8_2 (ji27)))) : Int) p44 q44; replace p44 := eq_true p44; replace q44 := eq_true q44; obtain ⟨hy49_, hz49_⟩ := Kd.R_celln false HO_5.out ((rd (rd_L1 l0_0 (rd x8_2 (ji27))) (rd x6_3 (rd x8_2 (ji27)))) : Int) (D_) (D_); have HP49 := Kd.R_putg HO_5.out ((rd (rd_L1 l0_0 (rd x8_2 (ji27))) (rd x6_3 (rd x8_2 (ji27)))) : Int) true) | ((with_reducible refine gate_store (t := 4) (p := 65) rfl ?_); (try (rw [drewN_self w48]; generalize hq_ : World.drewN w48 _ = w48; have n0_ := Aside0.mk (Kd.R_at hq_ HO_5.out); have n1_ := Aside0.mk (Kd.R_at hq_ HO_6.out); have n2_ := Aside0.mk (Kd.R_at hq_ HO_7.out); have n3_ := Aside0.mk (Kd.R_at hq_ HO_8.out); have n4_ := Aside0.mk (blk_at hq_ BK170.out); have n5_ := Aside0.mk (below_at hq_ HB.out); clear hq_ HO_5 HO_6 HO_7 HO_8 BK170 HB; have HO_5 := n0_; have HO_6 := n1_; have HO_7 := n2_; have HO_8 := n3_; have BK170 := n4_; have HB := n5_; clear n0_ n1_ n2_ n3_ n4_ n5_; (try (obtain ⟨hy49_, hz49_⟩ := Kd.R_celln false HO_5.out ((rd (rd_L1 l0_0 (rd x8_2 (ji27))) (rd x6_3 (rd x8_2 (ji27)))) : Int) (D_) (D_))); (try (have HP49 := Kd.R_putg HO_5.out ((rd (rd_L1 l0_0 (rd x8_2 (ji27))) (rd x6_3 (rd x8_2 (ji27)))) : Int) true)))); refine store_event (t := 4) (p := 65) (v := ?vo_w50) (w1 := (w48.setCell ⟨goA175, ((rd (rd_L1 l0_0 (rd x8_2 (ji27))) (rd x6_3 (rd x8_2 (ji27)))) : Int).toNat, none⟩ (.bool true))) ?hg ?ho ?hn ?hr ?_; (case ho => rfl); (case hg => rfl); (case hn => rfl); (case hr => first | (go_simp; done) | (go_simp; rfl)); intro w50 hw; have hg : w48.grownBy w50 (some goA175) := (by rw [hw]; exact HP49.2); have hp_ : Kd.R Kd.bool 46 w50 w.heap.size (fun _ => True) (.slice (some ⟨goA175, 0, none⟩) 64 64) y193 := (by rw [hw, Ny193.out]; exact HP49.1); clear HP49; have n0_ := Aside0.mk (hp_); have n1_ := Aside0.mk (Kd.R_over' (v := (.slice (some ⟨goA175, 0, none⟩) 64 64)) (by exact RX_ HO_6.out) (Kd.R_typed HO_5.out) (by decide) hg); have n2_ := Aside0.mk (Kd.R_over' (v := (.slice (some ⟨goA175, 0, none⟩) 64 64)) (by exact RX_ HO_7.out) (Kd.R_typed HO_5.out) (by decide) hg); have n3_ := Aside0.mk (Kd.R_over' (v := (.slice (some ⟨goA175, 0, none⟩) 64 64)) (by exact RX_ HO_8.out) (Kd.R_typed HO_5.out) (by decide) hg); have n4_ := Aside0.mk (blk_grown (g := gb170) (o := .cells #[.slice (some ad186) l0_0.length c0_0, .slice A0_1 l0_1.length c0_1] 26 (0, 0)) (by exact KX_ BK170.out) hg (Kd.R_ne HO_5.out BK170.out (by decide))); have n5_ := Aside0.mk ((by rw [hw]; exact below_set (HB.out) GBA175.out : Below w.heap.size w w50)); clear HO_5; clear HO_6; clear HO_7; clear HO_8; clear BK170; clear HB; have HO_5 := n0_; have HO_6 := n1_; have HO_7 := n2_; have HO_8 := n3_; have BK170 := n4_; have HB := n5_; clear n0_ n1_ n2_ n3_ n4_ n5_; clear hg hw hp_) | ((with_reducible refine gate_builtin (b := .append) (xs := #[.tmp 66, .tmp 68]) rfl ?_); (try (refine gate_guard (by rfl) ?_; dsimp only)); at_builtin; refine Kd.R_append (Kd.int .i64) (w0 := w) w.heap.size rfl (.tmp 66) (.tmp 68) 30 3 (.int .i64 0) 8 rfl Try.underlying30 info3 rfl (by decide) (by omega) u8 x8_3 (rd (rd_L1 l0_0 (rd x8_2 (ji27))) (rd x6_3 (rd x8_2 (ji27)))) [.int .i64 (rd (rd_L1 l0_0 (rd x8_2 (ji27))) (rd x6_3 (rd x8_2 (ji27))))] (fun k_ => some k_ ≠ (u7 : Value).ownBlock) (fun _ => False) rfl rfl ?aP (fun _ hk => hk.elim) ?aF ?aO ?aB ?aS ?aL ?_; (case aP => exact rfl); (case aB => exact (B1_)); (case aF => exact (fun k_ hk => Kd.fresh' (Kd.R_lt (by exact RX_ HO_7.out)) k_ hk)); (case aO => exact (by exact RX_ HO_8.out)); (case aS => exact (below_size (B1_))); (case aL => have := LMc45.out; omega); intro v195 w51 ho hb hg hat; rw [← Ny194.out] at ho; have n0_ := Aside0.mk (Kd.R_over' (by exact RX_ HO_5.out) (Kd.R_typed (by exact RX_ HO_8.out)) (by decide) hg); have n1_ := Aside0.mk (Kd.R_over' (by exact RX_ HO_6.out) (Kd.R_typed (by exact RX_ HO_8.out)) (by decide) hg); have n2_ := Aside0.mk (Kd.R_after (ok := (fun _ => True)) (by (with_reducible repeat (first | apply Kd.R_alloc | apply Kd.R_drewN | apply Kd.R_drew)); exact Kd.R_mono HO_7.out (fun _ hk => by first | exact ⟨trivial, hk⟩ | exact hk | exact ⟨hk.1, hk.2⟩ | simp_all)) hg hat); have n3_ := Aside0.mk (blk_grown (g := gb170) (o := .cells #[.slice (some ad186) l0_0.length c0_0, .slice A0_1 l0_1.length c0_1] 26 (0, 0)) (by exact KX_ BK170.out) hg (Kd.R_ne HO_8.out BK170.out (by decide))); have n4_ := Aside0.mk (hb); have n5_ := Aside0.mk (ho); clear HO_5; clear HO_6; clear HO_7; clear BK170; clear HB; clear HO_8; have HO_5 := n0_; have HO_6 := n1_; have HO_7 := n2_; have BK170 := n3_; have HB := n4_; have HO196 := n5_; clear n0_ n1_ n2_ n3_ n4_ n5_; clear ho hb hg hat)); try go_wp2_with (first | ((with_reducible refine gate_store (t := 3) (p := 59) rfl ?_); (try (rw [drewN_self wr]; generalize hq_ : World.drewN wr _ = wr; have n0_ := Aside0.mk (Kd.R_at hq_ HO_5.out); have n1_ := Aside0.mk (Kd.R_at hq_ HO_6.out); have n2_ := Aside0.mk (Kd.R_at hq_ HO_7.out); have n3_ := Aside0.mk (Kd.R_at hq_ HO_8.out); have n4_ := Aside0.mk (blk_at hq_ BK170.out); have n5_ := Aside0.mk (below_at hq_ HB.out); clear hq_ HO_5 HO_6 HO_7 HO_8 BK170 HB; have HO_5 := n0_; have HO_6 := n1_; have HO_7 := n2_; have HO_8 := n3_; have BK170 := n4_; have HB := n5_; clear n0_ n1_ n2_ n3_ n4_ n5_; (try (obtain ⟨hcx_, hcf_⟩ := Kd.R_celln 0 HO_6.out ((rd x8_2 (ji27)) : Int) (D_) (by first | exact D_ | (have z_ : ((rd x8_2 (ji27)) : Int) < (64 : Int) := D_; exact z_)))); (try (have HP47 := Kd.R_putg HO_6.out ((rd x8_2 (ji27)) : Int) (wrap64 ((rd x6_3 (rd x8_2 (ji27))) + 1)))))); refine store_event (t := 3) (p := 59) (v := ?vo_w48) (w1 := (wr.setCell ⟨goA179, ((rd x8_2 (ji27)) : Int).toNat, none⟩ (.int .i64 (wrap64 ((rd x6_3 (rd x8_2 (ji27))) + 1))))) ?hg ?ho ?hn ?hr ?_; (case ho => rfl); (case hg => rfl); (case hn => rfl); (case hr => first | (go_simp; done) | (go_simp; rfl)); intro w48 hw; have hg : wr.grownBy w48 (some goA179) := (by rw [hw]; exact HP47.2); have hp_ : Kd.R (Kd.int .i64) 57 w48 w.heap.size (fun _ => True) (.slice (some ⟨goA179, 0, none⟩) 64 64) y191 := (by rw [hw, Ny191.out]; exact HP47.1); clear HP47; have n0_ := Aside0.mk (Kd.R_over' (v := (.slice (some ⟨goA179, 0, none⟩) 64 64)) (by exact RX_ HO_5.out) (Kd.R_typed HO_6.out) (by decide) hg); have n1_ := Aside0.mk (hp_); have n2_ := Aside0.mk (Kd.R_over' (v := (.slice (some ⟨goA179, 0, none⟩) 64 64)) (by exact RX_ HO_7.out) (Kd.R_typed HO_6.out) (by decide) hg); have n3_ := Aside0.mk (Kd.R_over' (v := (.slice (some ⟨goA179, 0, none⟩) 64 64)) (by exact RX_ HO_8.out) (Kd.R_typed HO_6.out) (by decide) hg); have n4_ := Aside0.mk (blk_grown (g := gb170) (o := .cells #[.slice (some ad186) l0_0.length c0_0, .slice A0_1 l0_1.length c0_1] 26 (0, 0)) (by exact KX_ BK170.out) hg (Kd.R_ne HO_6.out BK170.out (by decide))); have n5_ := Aside0.mk ((by rw [hw]; exact below_set (HB.out) GBA179.out : Below w.heap.size w w48)); clear HO_5; clear HO_6; clear HO_7; clear HO_8; clear BK170; clear HB; have HO_5 := n0_; have HO_6 := n1_; have HO_7 := n2_; have HO_8 := n3_; have BK170 := n4_; have HB := n5_; clear n0_ n1_ n2_ n3_ n4_ n5_; clear hg hw hp_; have p192 : 0 ≤ ((rd (rd_L1 l0_0 (rd x8_2 (ji27))) (rd x6_3 (rd x8_2 (ji27)))) : Int) := D_; have ql192 : (((rd (rd_L1 l0_0 (rd x8_2 (ji27))) (rd x6_3 (rd x8_2 (ji27)))) : Int) < (64 : Int)) = True := eq_true (D_); have q192 : (rd (rd_L1 l0_0 (rd x8_2 (ji27))) (rd x6_3 (rd x8_2 (ji27)))) < (x5_3.length : Int) := (by have h_ : ((rd (rd_L1 l0_0 (rd x8_2 (ji27))) (rd x6_3 (rd x8_2 (ji27)))) : Int) < (64 : Int) := D_; have e_ := (Kd.R_reads' HO_5.out).1; omega); obtain ⟨ad192, e192, hx192_0⟩ := Kd.at_bool (Kd.R_reads' HO_5.out).2.2 (rd (rd_L1 l0_0 (rd x8_2 (ji27))) (rd x6_3 (rd x8_2 (ji27)))) p192 q192; (try rw [← Nbq39.out] at hx192_0); obtain rfl : (⟨goA175, 0, none⟩ : Addr) = ad192 := (by injection e192); (first | simp only [add_plain] at hx192_0 | simp only [add_at] at hx192_0 | simp only [Addr.add, Nat.zero_add] at hx192_0 | skip); replace p192 := eq_true p192; replace q192 := eq_true q192; have p44 : 0 ≤ ((rd (rd_L1 l0_0 (rd x8_2 (ji27))) (rd x6_3 (rd x8_2 (ji27)))) : Int) := D_; have q44 : ((rd (rd_L1 l0_0 (rd x8_2 (ji27))) (rd x6_3 (rd x8_2 (ji27)))) : Int) < (64 : Int) := D_; obtain ⟨hx44_0, hf44_0⟩ := Kd.R_celln false HO_5.out ((rd (rd_L1 l0_0 (rd x8_2 (ji27))) (rd x6_3 (rd x8_2 (ji27)))) : Int) p44 q44; replace p44 := eq_true p44; replace q44 := eq_true q44; obtain ⟨hy49_, hz49_⟩ := Kd.R_celln false HO_5.out ((rd (rd_L1 l0_0 (rd x8_2 (ji27))) (rd x6_3 (rd x8_2 (ji27)))) : Int) (D_) (D_); have HP49 := Kd.R_putg HO_5.out ((rd (rd_L1 l0_0 (rd x8_2 (ji27))) (rd x6_3 (rd x8_2 (ji27)))) : Int) true) | ((with_reducible refine gate_store (t := 4) (p := 65) rfl ?_); (try (rw [drewN_self w48]; generalize hq_ : World.drewN w48 _ = w48; have n0_ := Aside0.mk (Kd.R_at hq_ HO_5.out); have n1_ := Aside0.mk (Kd.R_at hq_ HO_6.out); have n2_ := Aside0.mk (Kd.R_at hq_ HO_7.out); have n3_ := Aside0.mk (Kd.R_at hq_ HO_8.out); have n4_ := Aside0.mk (blk_at hq_ BK170.out); have n5_ := Aside0.mk (below_at hq_ HB.out); clear hq_ HO_5 HO_6 HO_7 HO_8 BK170 HB; have HO_5 := n0_; have HO_6 := n1_; have HO_7 := n2_; have HO_8 := n3_; have BK170 := n4_; have HB := n5_; clear n0_ n1_ n2_ n3_ n4_ n5_; (try (obtain ⟨hy49_, hz49_⟩ := Kd.R_celln false HO_5.out ((rd (rd_L1 l0_0 (rd x8_2 (ji27))) (rd x6_3 (rd x8_2 (ji27)))) : Int) (D_) (D_))); (try (have HP49 := Kd.R_putg HO_5.out ((rd (rd_L1 l0_0 (rd x8_2 (ji27))) (rd x6_3 (rd x8_2 (ji27)))) : Int) true)))); refine store_event (t := 4) (p := 65) (v := ?vo_w50) (w1 := (w48.setCell ⟨goA175, ((rd (rd_L1 l0_0 (rd x8_2 (ji27))) (rd x6_3 (rd x8_2 (ji27)))) : Int).toNat, none⟩ (.bool true))) ?hg ?ho ?hn ?hr ?_; (case ho => rfl); (case hg => rfl); (case hn => rfl); (case hr => first | (go_simp; done) | (go_simp; rfl)); intro w50 hw; have hg : w48.grownBy w50 (some goA175) := (by rw [hw]; exact HP49.2); have hp_ : Kd.R Kd.bool 46 w50 w.heap.size (fun _ => True) (.slice (some ⟨goA175, 0, none⟩) 64 64) y193 := (by rw [hw, Ny193.out]; exact HP49.1); clear HP49; have n0_ := Aside0.mk (hp_); have n1_ := Aside0.mk (Kd.R_over' (v := (.slice (some ⟨goA175, 0, none⟩) 64 64)) (by exact RX_ HO_6.out) (Kd.R_typed HO_5.out) (by decide) hg); have n2_ := Aside0.mk (Kd.R_over' (v := (.slice (some ⟨goA175, 0, none⟩) 64 64)) (by exact RX_ HO_7.out) (Kd.R_typed HO_5.out) (by decide) hg); have n3_ := Aside0.mk (Kd.R_over' (v := (.slice (some ⟨goA175, 0, none⟩) 64 64)) (by exact RX_ HO_8.out) (Kd.R_typed HO_5.out) (by decide) hg); have n4_ := Aside0.mk (blk_grown (g := gb170) (o := .cells #[.slice (some ad186) l0_0.length c0_0, .slice A0_1 l0_1.length c0_1] 26 (0, 0)) (by exact KX_ BK170.out) hg (Kd.R_ne HO_5.out BK170.out (by decide))); have n5_ := Aside0.mk ((by rw [hw]; exact below_set (HB.out) GBA175.out : Below w.heap.size w w50)); clear HO_5; clear HO_6; clear HO_7; clear HO_8; clear BK170; clear HB; have HO_5 := n0_; have HO_6 := n1_; have HO_7 := n2_; have HO_8 := n3_; have BK170 := n4_; have HB := n5_; clear n0_ n1_ n2_ n3_ n4_ n5_; clear hg hw hp_) | ((with_reducible refine gate_builtin (b := .append) (xs := #[.tmp 66, .tmp 68]) rfl ?_); (try (refine gate_guard (by rfl) ?_; dsimp only)); at_builtin; refine Kd.R_append (Kd.int .i64) (w0 := w) w.heap.size rfl (.tmp 66) (.tmp 68) 30 3 (.int .i64 0) 8 rfl Try.underlying30 info3 rfl (by decide) (by omega) u8 x8_3 (rd (rd_L1 l0_0 (rd x8_2 (ji27))) (rd x6_3 (rd x8_2 (ji27)))) [.int .i64 (rd (rd_L1 l0_0 (rd x8_2 (ji27))) (rd x6_3 (rd x8_2 (ji27))))] (fun k_ => some k_ ≠ (u7 : Value).ownBlock) (fun _ => False) rfl rfl ?aP (fun _ hk => hk.elim) ?aF ?aO ?aB ?aS ?aL ?_; (case aP => exact rfl); (case aB => exact (B1_)); (case aF => exact (fun k_ hk => Kd.fresh' (Kd.R_lt (by exact RX_ HO_7.out)) k_ hk)); (case aO => exact (by exact RX_ HO_8.out)); (case aS => exact (below_size (B1_))); (case aL => have := LMc45.out; omega); intro v195 w51 ho hb hg hat; rw [← Ny194.out] at ho; have n0_ := Aside0.mk (Kd.R_over' (by exact RX_ HO_5.out) (Kd.R_typed (by exact RX_ HO_8.out)) (by decide) hg); have n1_ := Aside0.mk (Kd.R_over' (by exact RX_ HO_6.out) (Kd.R_typed (by exact RX_ HO_8.out)) (by decide) hg); have n2_ := Aside0.mk (Kd.R_after (ok := (fun _ => True)) (by (with_reducible repeat (first | apply Kd.R_alloc | apply Kd.R_drewN | apply Kd.R_drew)); exact Kd.R_mono HO_7.out (fun _ hk => by first | exact ⟨trivial, hk⟩ | exact hk | exact ⟨hk.1, hk.2⟩ | simp_all)) hg hat); have n3_ := Aside0.mk (blk_grown (g := gb170) (o := .cells #[.slice (some ad186) l0_0.length c0_0, .slice A0_1 l0_1.length c0_1] 26 (0, 0)) (by exact KX_ BK170.out) hg (Kd.R_ne HO_8.out BK170.out (by decide))); have n4_ := Aside0.mk (hb); have n5_ := Aside0.mk (ho); clear HO_5; clear HO_6; clear HO_7; clear BK170; clear HB; clear HO_8; have HO_5 := n0_; have HO_6 := n1_; have HO_7 := n2_; have BK170 := n3_; have HB := n4_; have HO196 := n5_; clear n0_ n1_ n2_ n3_ n4_ n5_; clear ho hb hg hat)))
                  go_step3
                  try simp only [jumpg_goto, Exit.then, Exit.inBlock]
                  go_step
                  go_roundg k3
                  case measure => have := HJ3.out; have := HK2.out; have := HK3.out; omega
                  case rel => exact ⟨(y193), (y191), (x7_2), (y194), H', ⟨by have := HJ3.out; have := HK2.out; have := HK3.out; omega⟩, ⟨by exact RM_ HO_5.out⟩, ⟨by exact RM_ HO_6.out⟩, ⟨by (with_reducible repeat (first | apply Kd.R_alloc | apply Kd.R_drewN | apply Kd.R_drew)); exact Kd.R_mono HO_7.out (fun _ hk => by first | exact hk.2 | exact hk | exact ⟨hk.1, hk.2⟩ | simp_all)⟩, ⟨by exact RM_ HO196.out⟩, ⟨by exact KX_ BK170.out⟩, ⟨B1_⟩⟩
                 rw [if_neg c45] at H
                 exact absurd H (by simp)
                rw [if_neg c38] at H
                exact absurd H (by simp)
               rw [if_neg c37] at H
               exact absurd H (by simp)
              rw [if_neg c35] at H
              exact absurd H (by simp)
             rw [if_neg c34] at H
             have c34b0 : decide ((rd x6_3 (rd x8_2 (ji27))) < ((rd_L1 l0_0 (rd x8_2 (ji27))).length : Int)) = false := decide_eq_false c34
             clear c34
             by_cases c52 : x7_2.length < 17592186044416
             ·rw [if_pos c52] at H
              have LMc52 := Aside0.mk c52
              clear c52
              obtain ⟨y197, hy197⟩ : ∃ y_ : List Int, y_ = (x7_2 ++ [(rd x8_2 (ji27))]) := ⟨_, rfl⟩
              replace H : (if 0 ≤ (wrap64 ((x8_3.length : Int) - 1)) then (if (wrap64 ((x8_3.length : Int) - 1)) ≤ (x8_3.length : Int) then ((some (x8_3.take ((wrap64 ((x8_3.length : Int) - 1)) : Int).toNat : List Int)).bind fun y200 => (if (y200.length : Int) > 0 then (graph_Order.l0 k3 x5_3 x6_3 y197 y200 l0_0 l0_1) else ((slices_Reverse_int_int.f k3 y197).bind fun t203 => (some t203)))) else (none)) else (none)) = some r := by first | (rw [hy197]; with_reducible exact H) | (have H2_ := (Option.bind_some _ _).symm.trans H; rw [hy197]; with_reducible exact H2_) | (have H2_ := (Option.bind_some _ _).symm.trans H; with_reducible exact H2_) | with_reducible exact H | (rw [hy197]; exact H) | exact H
              have Ny197 := Aside0.mk hy197
              clear hy197
              obtain ⟨ji53, hji53⟩ : ∃ j_ : Int, (wrap64 ((x8_3.length : Int) - 1)) = j_ := ⟨_, rfl⟩
              replace H : (if 0 ≤ (ji53) then (if (ji53) ≤ (x8_3.length : Int) then ((some (x8_3.take ((ji53) : Int).toNat : List Int)).bind fun y200 => (if (y200.length : Int) > 0 then (graph_Order.l0 k3 x5_3 x6_3 y197 y200 l0_0 l0_1) else ((slices_Reverse_int_int.f k3 y197).bind fun t203 => (some t203)))) else (none)) else (none)) = some r := by first | (rw [hji53] at H; exact H) | (simp only [hji53] at H ⊢; exact H)
              have hji53w : (IntKind.i64.wrap ((x8_3.length : Int) - 1)) = ji53 := (i64_w _).trans hji53
              by_cases c54 : 0 ≤ (ji53)
              ·rw [if_pos c54] at H
               have c54b0 := eq_true c54
               have c54b1 : decide (0 ≤ (ji53)) = true := decide_eq_true c54
               clear c54
               by_cases c55 : (ji53) ≤ (x8_3.length : Int)
               ·rw [if_pos c55] at H
                have c55b0 := eq_true c55
                have c55b1 : decide ((ji53) ≤ (x8_3.length : Int)) = true := decide_eq_true c55
                clear c55
                obtain ⟨y200, hy200⟩ : ∃ y_ : List Int, y_ = (x8_3.take ((ji53) : Int).toNat) := ⟨_, rfl⟩
                replace H : (if (y200.length : Int) > 0 then (graph_Order.l0 k3 x5_3 x6_3 y197 y200 l0_0 l0_1) else ((slices_Reverse_int_int.f k3 y197).bind fun t203 => (some t203))) = some r := by first | (rw [hy200]; with_reducible exact H) | (have H2_ := (Option.bind_some _ _).symm.trans H; rw [hy200]; with_reducible exact H2_) | (have H2_ := (Option.bind_some _ _).symm.trans H; with_reducible exact H2_) | with_reducible exact H | (rw [hy200]; exact H) | exact H
                have Ny200 := Aside0.mk hy200
                clear hy200
                by_cases c56 : (y200.length : Int) > 0
                ·rw [if_pos c56] at H
                 have c56b0 : decide (0 < (y200.length : Int)) = true := decide_eq_true c56
                 have c56b1 : decide (0 < y200.length) = true := decide_eq_true (by omega)
                 clear c56
                 have H' := Aside0.mk H
                 clear H
                 have p185 : 0 ≤ ((rd x8_2 (ji27)) : Int) := D_
                 have ql185 : (((rd x8_2 (ji27)) : Int) < (64 : Int)) = True := eq_true (D_)
                 have q185 : (rd x8_2 (ji27)) < (x6_3.length : Int) := (by have h_ : ((rd x8_2 (ji27)) : Int) < (64 : Int) := D_; have e_ := (Kd.R_reads' HO_6.out).1; omega)
                 obtain ⟨ad185, e185, hx185_0⟩ := Kd.at_int (Kd.R_reads' HO_6.out).2.2 (rd x8_2 (ji27)) p185 q185
                 obtain rfl : (⟨goA179, 0, none⟩ : Addr) = ad185 := (by injection e185)
                 (first | simp only [add_plain] at hx185_0 | simp only [add_at] at hx185_0 | simp only [Addr.add, Nat.zero_add] at hx185_0 | skip)
                 replace p185 := eq_true p185
                 replace q185 := eq_true q185
                 have hcz57_0 : wr.cell? ⟨gb170, 0, none⟩ = some (.slice A0_0 l0_0.length c0_0) := (blk_cell BK170.out 0).trans rfl
                 have hcz57_1 : wr.cell? ⟨gb170, 1, none⟩ = some (.slice A0_1 l0_1.length c0_1) := (blk_cell BK170.out 1).trans rfl
                 have hfz57_0 := blk_frozen BK170.out 0
                 have hfz57_1 := blk_frozen BK170.out 1
                 have p186 : 0 ≤ ((rd x8_2 (ji27)) : Int) := D_
                 have q186 : (rd x8_2 (ji27)) < (l0_0.length : Int) := D_
                 obtain ⟨ad186, A186_0, c186_0, e186, hx186_0, hl186_0, hi186_0⟩ := at_L1 HR0_0.out (rd x8_2 (ji27)) p186 q186
                 cases e186
                 replace hx186_0 := (HB.out.cell (World.block_lt_of_cell? w _ hx186_0)).trans hx186_0
                 have HR186_0 := Aside0.mk hi186_0
                 have HC186_0 := Aside0.mk hl186_0
                 clear hi186_0 hl186_0
                 replace p186 := eq_true p186
                 replace q186 := eq_true q186
                 go_wp2_with (first | ((with_reducible refine gate_builtin (b := .append) (xs := #[.tmp 70, .tmp 72]) rfl ?_); (try (refine gate_guard (by rfl) ?_; dsimp only)); at_builtin; refine Kd.R_append (Kd.int .i64) (w0 := w) w.heap.size rfl (.tmp 70) (.tmp 72) 30 3 (.int .i64 0) 8 rfl Try.underlying30 info3 rfl (by decide) (by omega) u7 x7_2 (rd x8_2 (ji27)) [.int .i64 (rd x8_2 (ji27))] (fun k_ => some k_ ≠ (u8 : Value).ownBlock) (fun _ => False) rfl rfl ?aP (fun _ hk => hk.elim) ?aF ?aO ?aB ?aS ?aL ?_; (case aP => exact rfl); (case aB => exact (B1_)); (case aF => exact (fun k_ hk => Kd.fresh' (Kd.R_lt (by exact RX_ HO_8.out)) k_ hk)); (case aO => exact (by exact RX_ HO_7.out)); (case aS => exact (below_size (B1_))); (case aL => have := LMc52.out; omega); intro v198 w58 ho hb hg hat; rw [← Ny197.out] at ho; have n0_ := Aside0.mk (Kd.R_over' (by exact RX_ HO_5.out) (Kd.R_typed (by exact RX_ HO_7.out)) (by decide) hg); have n1_ := Aside0.mk (Kd.R_over' (by exact RX_ HO_6.out) (Kd.R_typed (by exact RX_ HO_7.out)) (by decide) hg); have n2_ := Aside0.mk (Kd.R_after (ok := (fun _ => True)) (by (with_reducible repeat (first | apply Kd.R_alloc | apply Kd.R_drewN | apply Kd.R_drew)); exact Kd.R_mono HO_8.out (fun _ hk => by first | exact ⟨trivial, hk⟩ | exact hk | exact ⟨hk.1, hk.2⟩ | simp_all)) hg hat); have n3_ := Aside0.mk (blk_grown (g := gb170) (o := .cells #[.slice (some ad186) l0_0.length c0_0, .slice A0_1 l0_1.length c0_1] 26 (0, 0)) (by exact KX_ BK170.out) hg (Kd.R_ne HO_7.out BK170.out (by decide))); have n4_ := Aside0.mk (hb); have n5_ := Aside0.mk (ho); clear HO_5; clear HO_6; clear HO_8; clear BK170; clear HB; clear HO_7; have HO_5 := n0_; have HO_6 := n1_; have HO_8 := n2_; have BK170 := n3_; have HB := n4_; have HO199 := n5_; clear n0_ n1_ n2_ n3_ n4_ n5_; clear ho hb hg hat; obtain ⟨Ao59, co59, eo59⟩ := Kd.R_slice HO_8.out; subst eo59; have q60 : ((ji53) : Int) ≤ ((x8_3.length : Int) : Int) := D_; obtain ⟨i060, hi060, _, hsz60, _⟩ := info_parts info3; have hcut60 := cut_to (P := Try.prog) 30 3 .i64 Try.underlying30 hi060 Ao59 x8_3.length co59 (ji53) (D_) q60 (Kd.R_reads' HO_8.out).2.1; have hr60 := Kd.R_take (m := ((ji53) : Int).toNat) HO_8.out (by omega); have hy60 : y200.length = ((ji53) : Int).toNat := (by rw [Ny200.out, List.length_take]; omega); rw [← Ny200.out] at hr60; rw [← hy60] at hr60 hcut60; clear hy60 hi060 hsz60 HO_8; have HO202 := Aside0.mk hr60; clear hr60; replace q60 := eq_true q60))
                 repeat (go_quiet (first | ((with_reducible refine gate_builtin (b := .append) (xs := #[.tmp 70, .tmp 72]) rfl ?_); (try (refine gate_guard (by rfl) ?_; dsimp only)); at_builtin; refine Kd.R_append (Kd.int .i64) (w0 := w) w.heap.size rfl (.tmp 70) (.tmp 72) 30 3 (.int .i64 0) 8 rfl Try.underlying30 info3 rfl (by decide) (by omega) u7 x7_2 (rd x8_2 (ji27)) [.int .i64 (rd x8_2 (ji27))] (fun k_ => some k_ ≠ (u8 : Value).ownBlock) (fun _ => False) rfl rfl ?aP (fun _ hk => hk.elim) ?aF ?aO ?aB ?aS ?aL ?_; (case aP => exact rfl); (case aB => exact (B1_)); (case aF => exact (fun k_ hk => Kd.fresh' (Kd.R_lt (by exact RX_ HO_8.out)) k_ hk)); (case aO => exact (by exact RX_ HO_7.out)); (case aS => exact (below_size (B1_))); (case aL => have := LMc52.out; omega); intro v198 w58 ho hb hg hat; rw [← Ny197.out] at ho; have n0_ := Aside0.mk (Kd.R_over' (by exact RX_ HO_5.out) (Kd.R_typed (by exact RX_ HO_7.out)) (by decide) hg); have n1_ := Aside0.mk (Kd.R_over' (by exact RX_ HO_6.out) (Kd.R_typed (by exact RX_ HO_7.out)) (by decide) hg); have n2_ := Aside0.mk (Kd.R_after (ok := (fun _ => True)) (by (with_reducible repeat (first | apply Kd.R_alloc | apply Kd.R_drewN | apply Kd.R_drew)); exact Kd.R_mono HO_8.out (fun _ hk => by first | exact ⟨trivial, hk⟩ | exact hk | exact ⟨hk.1, hk.2⟩ | simp_all)) hg hat); have n3_ := Aside0.mk (blk_grown (g := gb170) (o := .cells #[.slice (some ad186) l0_0.length c0_0, .slice A0_1 l0_1.length c0_1] 26 (0, 0)) (by exact KX_ BK170.out) hg (Kd.R_ne HO_7.out BK170.out (by decide))); have n4_ := Aside0.mk (hb); have n5_ := Aside0.mk (ho); clear HO_5; clear HO_6; clear HO_8; clear BK170; clear HB; clear HO_7; have HO_5 := n0_; have HO_6 := n1_; have HO_8 := n2_; have BK170 := n3_; have HB := n4_; have HO199 := n5_; clear n0_ n1_ n2_ n3_ n4_ n5_; clear ho hb hg hat; obtain ⟨Ao59, co59, eo59⟩ := Kd.R_slice HO_8.out; subst eo59; have q60 : ((ji53) : Int) ≤ ((x8_3.length : Int) : Int) := D_; obtain ⟨i060, hi060, _, hsz60, _⟩ := info_parts info3; have hcut60 := cut_to (P := Try.prog) 30 3 .i64 Try.underlying30 hi060 Ao59 x8_3.length co59 (ji53) (D_) q60 (Kd.R_reads' HO_8.out).2.1; have hr60 := Kd.R_take (m := ((ji53) : Int).toNat) HO_8.out (by omega); have hy60 : y200.length = ((ji53) : Int).toNat := (by rw [Ny200.out, List.length_take]; omega); rw [← Ny200.out] at hr60; rw [← hy60] at hr60 hcut60; clear hy60 hi060 hsz60 HO_8; have HO202 := Aside0.mk hr60; clear hr60; replace q60 := eq_true q60)); try go_wp2_with (first | ((with_reducible refine gate_builtin (b := .append) (xs := #[.tmp 70, .tmp 72]) rfl ?_); (try (refine gate_guard (by rfl) ?_; dsimp only)); at_builtin; refine Kd.R_append (Kd.int .i64) (w0 := w) w.heap.size rfl (.tmp 70) (.tmp 72) 30 3 (.int .i64 0) 8 rfl Try.underlying30 info3 rfl (by decide) (by omega) u7 x7_2 (rd x8_2 (ji27)) [.int .i64 (rd x8_2 (ji27))] (fun k_ => some k_ ≠ (u8 : Value).ownBlock) (fun _ => False) rfl rfl ?aP (fun _ hk => hk.elim) ?aF ?aO ?aB ?aS ?aL ?_; (case aP => exact rfl); (case aB => exact (B1_)); (case aF => exact (fun k_ hk => Kd.fresh' (Kd.R_lt (by exact RX_ HO_8.out)) k_ hk)); (case aO => exact (by exact RX_ HO_7.out)); (case aS => exact (below_size (B1_))); (case aL => have := LMc52.out; omega); intro v198 w58 ho hb hg hat; rw [← Ny197.out] at ho; have n0_ := Aside0.mk (Kd.R_over' (by exact RX_ HO_5.out) (Kd.R_typed (by exact RX_ HO_7.out)) (by decide) hg); have n1_ := Aside0.mk (Kd.R_over' (by exact RX_ HO_6.out) (Kd.R_typed (by exact RX_ HO_7.out)) (by decide) hg); have n2_ := Aside0.mk (Kd.R_after (ok := (fun _ => True)) (by (with_reducible repeat (first | apply Kd.R_alloc | apply Kd.R_drewN | apply Kd.R_drew)); exact Kd.R_mono HO_8.out (fun _ hk => by first | exact ⟨trivial, hk⟩ | exact hk | exact ⟨hk.1, hk.2⟩ | simp_all)) hg hat); have n3_ := Aside0.mk (blk_grown (g := gb170) (o := .cells #[.slice (some ad186) l0_0.length c0_0, .slice A0_1 l0_1.length c0_1] 26 (0, 0)) (by exact KX_ BK170.out) hg (Kd.R_ne HO_7.out BK170.out (by decide))); have n4_ := Aside0.mk (hb); have n5_ := Aside0.mk (ho); clear HO_5; clear HO_6; clear HO_8; clear BK170; clear HB; clear HO_7; have HO_5 := n0_; have HO_6 := n1_; have HO_8 := n2_; have BK170 := n3_; have HB := n4_; have HO199 := n5_; clear n0_ n1_ n2_ n3_ n4_ n5_; clear ho hb hg hat; obtain ⟨Ao59, co59, eo59⟩ := Kd.R_slice HO_8.out; subst eo59; have q60 : ((ji53) : Int) ≤ ((x8_3.length : Int) : Int) := D_; obtain ⟨i060, hi060, _, hsz60, _⟩ := info_parts info3; have hcut60 := cut_to (P := Try.prog) 30 3 .i64 Try.underlying30 hi060 Ao59 x8_3.length co59 (ji53) (D_) q60 (Kd.R_reads' HO_8.out).2.1; have hr60 := Kd.R_take (m := ((ji53) : Int).toNat) HO_8.out (by omega); have hy60 : y200.length = ((ji53) : Int).toNat := (by rw [Ny200.out, List.length_take]; omega); rw [← Ny200.out] at hr60; rw [← hy60] at hr60 hcut60; clear hy60 hi060 hsz60 HO_8; have HO202 := Aside0.mk hr60; clear hr60; replace q60 := eq_true q60)))
                 go_step3
                 try simp only [jumpg_goto, Exit.then, Exit.inBlock]
                 go_step
                 go_roundg k3
                 case measure => have := HJ3.out; have := HK2.out; have := HK3.out; omega
                 case rel => exact ⟨(x5_3), (x6_3), (y197), (y200), H', ⟨by have := HJ3.out; have := HK2.out; have := HK3.out; omega⟩, ⟨by exact RM_ HO_5.out⟩, ⟨by exact RM_ HO_6.out⟩, ⟨by exact RM_ HO199.out⟩, ⟨by (with_reducible repeat (first | apply Kd.R_alloc | apply Kd.R_drewN | apply Kd.R_drew)); exact Kd.R_mono HO202.out (fun _ hk => by first | exact hk.2 | exact hk | exact ⟨hk.1, hk.2⟩ | simp_all)⟩, ⟨by exact KX_ BK170.out⟩, ⟨B1_⟩⟩
                rw [if_neg c56] at H
                have c56b0 : decide (0 < (y200.length : Int)) = false := decide_eq_false c56
                have c56b1 : decide (0 < y200.length) = false := decide_eq_false (by omega)
                clear c56
                replace H := Option.bind_eq_some_iff.mp H
                obtain ⟨t203, A610, H⟩ := H
                replace H : (some t203) = some r := H
                have A61 := Aside0.mk A610
                clear A610
                obtain rfl := Option.some.inj H
                have p185 : 0 ≤ ((rd x8_2 (ji27)) : Int) := D_
                have ql185 : (((rd x8_2 (ji27)) : Int) < (64 : Int)) = True := eq_true (D_)
                have q185 : (rd x8_2 (ji27)) < (x6_3.length : Int) := (by have h_ : ((rd x8_2 (ji27)) : Int) < (64 : Int) := D_; have e_ := (Kd.R_reads' HO_6.out).1; omega)
                obtain ⟨ad185, e185, hx185_0⟩ := Kd.at_int (Kd.R_reads' HO_6.out).2.2 (rd x8_2 (ji27)) p185 q185
                obtain rfl : (⟨goA179, 0, none⟩ : Addr) = ad185 := (by injection e185)
                (first | simp only [add_plain] at hx185_0 | simp only [add_at] at hx185_0 | simp only [Addr.add, Nat.zero_add] at hx185_0 | skip)
                replace p185 := eq_true p185
                replace q185 := eq_true q185
                have hcz62_0 : wr.cell? ⟨gb170, 0, none⟩ = some (.slice A0_0 l0_0.length c0_0) := (blk_cell BK170.out 0).trans rfl
                have hcz62_1 : wr.cell? ⟨gb170, 1, none⟩ = some (.slice A0_1 l0_1.length c0_1) := (blk_cell BK170.out 1).trans rfl
                have hfz62_0 := blk_frozen BK170.out 0
                have hfz62_1 := blk_frozen BK170.out 1
                have p186 : 0 ≤ ((rd x8_2 (ji27)) : Int) := D_
                have q186 : (rd x8_2 (ji27)) < (l0_0.length : Int) := D_
                obtain ⟨ad186, A186_0, c186_0, e186, hx186_0, hl186_0, hi186_0⟩ := at_L1 HR0_0.out (rd x8_2 (ji27)) p186 q186
                cases e186
                replace hx186_0 := (HB.out.cell (World.block_lt_of_cell? w _ hx186_0)).trans hx186_0
                have HR186_0 := Aside0.mk hi186_0
                have HC186_0 := Aside0.mk hl186_0
                clear hi186_0 hl186_0
                replace p186 := eq_true p186
                replace q186 := eq_true q186
                go_wp2_with (first | ((with_reducible refine gate_builtin (b := .append) (xs := #[.tmp 70, .tmp 72]) rfl ?_); (try (refine gate_guard (by rfl) ?_; dsimp only)); at_builtin; refine Kd.R_append (Kd.int .i64) (w0 := w) w.heap.size rfl (.tmp 70) (.tmp 72) 30 3 (.int .i64 0) 8 rfl Try.underlying30 info3 rfl (by decide) (by omega) u7 x7_2 (rd x8_2 (ji27)) [.int .i64 (rd x8_2 (ji27))] (fun k_ => some k_ ≠ (u8 : Value).ownBlock) (fun _ => False) rfl rfl ?aP (fun _ hk => hk.elim) ?aF ?aO ?aB ?aS ?aL ?_; (case aP => exact rfl); (case aB => exact (B1_)); (case aF => exact (fun k_ hk => Kd.fresh' (Kd.R_lt (by exact RX_ HO_8.out)) k_ hk)); (case aO => exact (by exact RX_ HO_7.out)); (case aS => exact (below_size (B1_))); (case aL => have := LMc52.out; omega); intro v198 w63 ho hb hg hat; rw [← Ny197.out] at ho; have n0_ := Aside0.mk (Kd.R_over' (by exact RX_ HO_5.out) (Kd.R_typed (by exact RX_ HO_7.out)) (by decide) hg); have n1_ := Aside0.mk (Kd.R_over' (by exact RX_ HO_6.out) (Kd.R_typed (by exact RX_ HO_7.out)) (by decide) hg); have n2_ := Aside0.mk (Kd.R_after (ok := (fun _ => True)) (by (with_reducible repeat (first | apply Kd.R_alloc | apply Kd.R_drewN | apply Kd.R_drew)); exact Kd.R_mono HO_8.out (fun _ hk => by first | exact ⟨trivial, hk⟩ | exact hk | exact ⟨hk.1, hk.2⟩ | simp_all)) hg hat); have n3_ := Aside0.mk (blk_grown (g := gb170) (o := .cells #[.slice (some ad186) l0_0.length c0_0, .slice A0_1 l0_1.length c0_1] 26 (0, 0)) (by exact KX_ BK170.out) hg (Kd.R_ne HO_7.out BK170.out (by decide))); have n4_ := Aside0.mk (hb); have n5_ := Aside0.mk (ho); clear HO_5; clear HO_6; clear HO_8; clear BK170; clear HB; clear HO_7; have HO_5 := n0_; have HO_6 := n1_; have HO_8 := n2_; have BK170 := n3_; have HB := n4_; have HO199 := n5_; clear n0_ n1_ n2_ n3_ n4_ n5_; clear ho hb hg hat; obtain ⟨Ao64, co64, eo64⟩ := Kd.R_slice HO_8.out; subst eo64; have q65 : ((ji53) : Int) ≤ ((x8_3.length : Int) : Int) := D_; obtain ⟨i065, hi065, _, hsz65, _⟩ := info_parts info3; have hcut65 := cut_to (P := Try.prog) 30 3 .i64 Try.underlying30 hi065 Ao64 x8_3.length co64 (ji53) (D_) q65 (Kd.R_reads' HO_8.out).2.1; have hr65 := Kd.R_take (m := ((ji53) : Int).toNat) HO_8.out (by omega); have hy65 : y200.length = ((ji53) : Int).toNat := (by rw [Ny200.out, List.length_take]; omega); rw [← Ny200.out] at hr65; rw [← hy65] at hr65 hcut65; clear hy65 hi065 hsz65 HO_8; have HO202 := Aside0.mk hr65; clear hr65; replace q65 := eq_true q65; obtain ⟨Ao66, co66, eo66⟩ := Kd.R_slice HO199.out; subst eo66) | (go_at_call 37; (with_reducible refine (slices_Reverse_int_int.calls k3 (fun k_ => some k_ = (.slice Ao66 y197.length co66 : Value).ownBlock) (.slice Ao66 y197.length co66) y197 t203 w _ ?side1 ?side2 A61.out).mono ?_); (case side1 => repeat (first | (with_reducible first | exact HB.out | apply below_alloc | apply pw_below_drewN | apply below_drew1 | refine below_set ?_ GE170.out) | exact HB.out)); (case side2 => exact Kd.R_tight rfl HO199.out); rintro e w67 ⟨rfl, hy0, hb, hkp⟩; have n0_ := Aside0.mk (Kd.R_mono (ok' := fun k_ => True) (Kd.R_keptB ((Kd.R_apart' HO_5.out (Kd.R_typed HO199.out) (by decide))) hkp (fun k_ hk_ hs_ => (hk_.2) hs_)) (fun k_ hk_ => trivial)); have n1_ := Aside0.mk (Kd.R_mono (ok' := fun k_ => True) (Kd.R_keptB ((Kd.R_apart' HO_6.out (Kd.R_typed HO199.out) (by decide))) hkp (fun k_ hk_ hs_ => (hk_.2) hs_)) (fun k_ hk_ => trivial)); have n2_ := Aside0.mk (Kd.R_mono (ok' := fun k_ => some k_ ≠ (.slice Ao66 y197.length co66 : Value).ownBlock) (Kd.R_keptB (HO202.out) hkp (fun k_ hk_ hs_ => (hk_.2) hs_)) (fun k_ hk_ => hk_.1.2)); have n3_ := Aside0.mk (blk_kept (by exact KX_ BK170.out) hkp (fun hs_ => (fun e_ => (Kd.R_ne HO199.out BK170.out (by decide)) e_) hs_)); have n4_ := Aside0.mk (Kd.R_reok rfl hy0 (fun k_ e_ => HO199.out.1 k_ e_)); have n5_ := Aside0.mk (hb); clear HO_5; clear HO_6; clear HO202; clear BK170; clear HO199; clear HB; have HO_5 := n0_; have HO_6 := n1_; have HO202 := n2_; have BK170 := n3_; have HO199 := n4_; have HB := n5_; clear n0_ n1_ n2_ n3_ n4_ n5_; (try clear hb); (try clear hkp); (try clear hy0)))
                repeat (go_quiet (first | ((with_reducible refine gate_builtin (b := .append) (xs := #[.tmp 70, .tmp 72]) rfl ?_); (try (refine gate_guard (by rfl) ?_; dsimp only)); at_builtin; refine Kd.R_append (Kd.int .i64) (w0 := w) w.heap.size rfl (.tmp 70) (.tmp 72) 30 3 (.int .i64 0) 8 rfl Try.underlying30 info3 rfl (by decide) (by omega) u7 x7_2 (rd x8_2 (ji27)) [.int .i64 (rd x8_2 (ji27))] (fun k_ => some k_ ≠ (u8 : Value).ownBlock) (fun _ => False) rfl rfl ?aP (fun _ hk => hk.elim) ?aF ?aO ?aB ?aS ?aL ?_; (case aP => exact rfl); (case aB => exact (B1_)); (case aF => exact (fun k_ hk => Kd.fresh' (Kd.R_lt (by exact RX_ HO_8.out)) k_ hk)); (case aO => exact (by exact RX_ HO_7.out)); (case aS => exact (below_size (B1_))); (case aL => have := LMc52.out; omega); intro v198 w63 ho hb hg hat; rw [← Ny197.out] at ho; have n0_ := Aside0.mk (Kd.R_over' (by exact RX_ HO_5.out) (Kd.R_typed (by exact RX_ HO_7.out)) (by decide) hg); have n1_ := Aside0.mk (Kd.R_over' (by exact RX_ HO_6.out) (Kd.R_typed (by exact RX_ HO_7.out)) (by decide) hg); have n2_ := Aside0.mk (Kd.R_after (ok := (fun _ => True)) (by (with_reducible repeat (first | apply Kd.R_alloc | apply Kd.R_drewN | apply Kd.R_drew)); exact Kd.R_mono HO_8.out (fun _ hk => by first | exact ⟨trivial, hk⟩ | exact hk | exact ⟨hk.1, hk.2⟩ | simp_all)) hg hat); have n3_ := Aside0.mk (blk_grown (g := gb170) (o := .cells #[.slice (some ad186) l0_0.length c0_0, .slice A0_1 l0_1.length c0_1] 26 (0, 0)) (by exact KX_ BK170.out) hg (Kd.R_ne HO_7.out BK170.out (by decide))); have n4_ := Aside0.mk (hb); have n5_ := Aside0.mk (ho); clear HO_5; clear HO_6; clear HO_8; clear BK170; clear HB; clear HO_7; have HO_5 := n0_; have HO_6 := n1_; have HO_8 := n2_; have BK170 := n3_; have HB := n4_; have HO199 := n5_; clear n0_ n1_ n2_ n3_ n4_ n5_; clear ho hb hg hat; obtain ⟨Ao64, co64, eo64⟩ := Kd.R_slice HO_8.out; subst eo64; have q65 : ((ji53) : Int) ≤ ((x8_3.length : Int) : Int) := D_; obtain ⟨i065, hi065, _, hsz65, _⟩ := info_parts info3; have hcut65 := cut_to (P := Try.prog) 30 3 .i64 Try.underlying30 hi065 Ao64 x8_3.length co64 (ji53) (D_) q65 (Kd.R_reads' HO_8.out).2.1; have hr65 := Kd.R_take (m := ((ji53) : Int).toNat) HO_8.out (by omega); have hy65 : y200.length = ((ji53) : Int).toNat := (by rw [Ny200.out, List.length_take]; omega); rw [← Ny200.out] at hr65; rw [← hy65] at hr65 hcut65; clear hy65 hi065 hsz65 HO_8; have HO202 := Aside0.mk hr65; clear hr65; replace q65 := eq_true q65; obtain ⟨Ao66, co66, eo66⟩ := Kd.R_slice HO199.out; subst eo66) | (go_at_call 37; (with_reducible refine (slices_Reverse_int_int.calls k3 (fun k_ => some k_ = (.slice Ao66 y197.length co66 : Value).ownBlock) (.slice Ao66 y197.length co66) y197 t203 w _ ?side1 ?side2 A61.out).mono ?_); (case side1 => repeat (first | (with_reducible first | exact HB.out | apply below_alloc | apply pw_below_drewN | apply below_drew1 | refine below_set ?_ GE170.out) | exact HB.out)); (case side2 => exact Kd.R_tight rfl HO199.out); rintro e w67 ⟨rfl, hy0, hb, hkp⟩; have n0_ := Aside0.mk (Kd.R_mono (ok' := fun k_ => True) (Kd.R_keptB ((Kd.R_apart' HO_5.out (Kd.R_typed HO199.out) (by decide))) hkp (fun k_ hk_ hs_ => (hk_.2) hs_)) (fun k_ hk_ => trivial)); have n1_ := Aside0.mk (Kd.R_mono (ok' := fun k_ => True) (Kd.R_keptB ((Kd.R_apart' HO_6.out (Kd.R_typed HO199.out) (by decide))) hkp (fun k_ hk_ hs_ => (hk_.2) hs_)) (fun k_ hk_ => trivial)); have n2_ := Aside0.mk (Kd.R_mono (ok' := fun k_ => some k_ ≠ (.slice Ao66 y197.length co66 : Value).ownBlock) (Kd.R_keptB (HO202.out) hkp (fun k_ hk_ hs_ => (hk_.2) hs_)) (fun k_ hk_ => hk_.1.2)); have n3_ := Aside0.mk (blk_kept (by exact KX_ BK170.out) hkp (fun hs_ => (fun e_ => (Kd.R_ne HO199.out BK170.out (by decide)) e_) hs_)); have n4_ := Aside0.mk (Kd.R_reok rfl hy0 (fun k_ e_ => HO199.out.1 k_ e_)); have n5_ := Aside0.mk (hb); clear HO_5; clear HO_6; clear HO202; clear BK170; clear HO199; clear HB; have HO_5 := n0_; have HO_6 := n1_; have HO202 := n2_; have BK170 := n3_; have HO199 := n4_; have HB := n5_; clear n0_ n1_ n2_ n3_ n4_ n5_; (try clear hb); (try clear hkp); (try clear hy0))); try go_wp2_with (first | ((with_reducible refine gate_builtin (b := .append) (xs := #[.tmp 70, .tmp 72]) rfl ?_); (try (refine gate_guard (by rfl) ?_; dsimp only)); at_builtin; refine Kd.R_append (Kd.int .i64) (w0 := w) w.heap.size rfl (.tmp 70) (.tmp 72) 30 3 (.int .i64 0) 8 rfl Try.underlying30 info3 rfl (by decide) (by omega) u7 x7_2 (rd x8_2 (ji27)) [.int .i64 (rd x8_2 (ji27))] (fun k_ => some k_ ≠ (u8 : Value).ownBlock) (fun _ => False) rfl rfl ?aP (fun _ hk => hk.elim) ?aF ?aO ?aB ?aS ?aL ?_; (case aP => exact rfl); (case aB => exact (B1_)); (case aF => exact (fun k_ hk => Kd.fresh' (Kd.R_lt (by exact RX_ HO_8.out)) k_ hk)); (case aO => exact (by exact RX_ HO_7.out)); (case aS => exact (below_size (B1_))); (case aL => have := LMc52.out; omega); intro v198 w63 ho hb hg hat; rw [← Ny197.out] at ho; have n0_ := Aside0.mk (Kd.R_over' (by exact RX_ HO_5.out) (Kd.R_typed (by exact RX_ HO_7.out)) (by decide) hg); have n1_ := Aside0.mk (Kd.R_over' (by exact RX_ HO_6.out) (Kd.R_typed (by exact RX_ HO_7.out)) (by decide) hg); have n2_ := Aside0.mk (Kd.R_after (ok := (fun _ => True)) (by (with_reducible repeat (first | apply Kd.R_alloc | apply Kd.R_drewN | apply Kd.R_drew)); exact Kd.R_mono HO_8.out (fun _ hk => by first | exact ⟨trivial, hk⟩ | exact hk | exact ⟨hk.1, hk.2⟩ | simp_all)) hg hat); have n3_ := Aside0.mk (blk_grown (g := gb170) (o := .cells #[.slice (some ad186) l0_0.length c0_0, .slice A0_1 l0_1.length c0_1] 26 (0, 0)) (by exact KX_ BK170.out) hg (Kd.R_ne HO_7.out BK170.out (by decide))); have n4_ := Aside0.mk (hb); have n5_ := Aside0.mk (ho); clear HO_5; clear HO_6; clear HO_8; clear BK170; clear HB; clear HO_7; have HO_5 := n0_; have HO_6 := n1_; have HO_8 := n2_; have BK170 := n3_; have HB := n4_; have HO199 := n5_; clear n0_ n1_ n2_ n3_ n4_ n5_; clear ho hb hg hat; obtain ⟨Ao64, co64, eo64⟩ := Kd.R_slice HO_8.out; subst eo64; have q65 : ((ji53) : Int) ≤ ((x8_3.length : Int) : Int) := D_; obtain ⟨i065, hi065, _, hsz65, _⟩ := info_parts info3; have hcut65 := cut_to (P := Try.prog) 30 3 .i64 Try.underlying30 hi065 Ao64 x8_3.length co64 (ji53) (D_) q65 (Kd.R_reads' HO_8.out).2.1; have hr65 := Kd.R_take (m := ((ji53) : Int).toNat) HO_8.out (by omega); have hy65 : y200.length = ((ji53) : Int).toNat := (by rw [Ny200.out, List.length_take]; omega); rw [← Ny200.out] at hr65; rw [← hy65] at hr65 hcut65; clear hy65 hi065 hsz65 HO_8; have HO202 := Aside0.mk hr65; clear hr65; replace q65 := eq_true q65; obtain ⟨Ao66, co66, eo66⟩ := Kd.R_slice HO199.out; subst eo66) | (go_at_call 37; (with_reducible refine (slices_Reverse_int_int.calls k3 (fun k_ => some k_ = (.slice Ao66 y197.length co66 : Value).ownBlock) (.slice Ao66 y197.length co66) y197 t203 w _ ?side1 ?side2 A61.out).mono ?_); (case side1 => repeat (first | (with_reducible first | exact HB.out | apply below_alloc | apply pw_below_drewN | apply below_drew1 | refine below_set ?_ GE170.out) | exact HB.out)); (case side2 => exact Kd.R_tight rfl HO199.out); rintro e w67 ⟨rfl, hy0, hb, hkp⟩; have n0_ := Aside0.mk (Kd.R_mono (ok' := fun k_ => True) (Kd.R_keptB ((Kd.R_apart' HO_5.out (Kd.R_typed HO199.out) (by decide))) hkp (fun k_ hk_ hs_ => (hk_.2) hs_)) (fun k_ hk_ => trivial)); have n1_ := Aside0.mk (Kd.R_mono (ok' := fun k_ => True) (Kd.R_keptB ((Kd.R_apart' HO_6.out (Kd.R_typed HO199.out) (by decide))) hkp (fun k_ hk_ hs_ => (hk_.2) hs_)) (fun k_ hk_ => trivial)); have n2_ := Aside0.mk (Kd.R_mono (ok' := fun k_ => some k_ ≠ (.slice Ao66 y197.length co66 : Value).ownBlock) (Kd.R_keptB (HO202.out) hkp (fun k_ hk_ hs_ => (hk_.2) hs_)) (fun k_ hk_ => hk_.1.2)); have n3_ := Aside0.mk (blk_kept (by exact KX_ BK170.out) hkp (fun hs_ => (fun e_ => (Kd.R_ne HO199.out BK170.out (by decide)) e_) hs_)); have n4_ := Aside0.mk (Kd.R_reok rfl hy0 (fun k_ e_ => HO199.out.1 k_ e_)); have n5_ := Aside0.mk (hb); clear HO_5; clear HO_6; clear HO202; clear BK170; clear HO199; clear HB; have HO_5 := n0_; have HO_6 := n1_; have HO202 := n2_; have BK170 := n3_; have HO199 := n4_; have HB := n5_; clear n0_ n1_ n2_ n3_ n4_ n5_; (try clear hb); (try clear hkp); (try clear hy0))))
                (try simp only [jumpg_ret, Exit.then, Exit.inBlock])
                go_ret
                exact ⟨_, by first | rfl | (simp [errW_none, errW_some] <;> rfl) | (simp only [← hji27, ← hji53]; first | rfl | (simp [errW_none, errW_some] <;> rfl)) | (simp [*, errW_none, errW_some] <;> rfl), by (with_reducible repeat (first | apply Kd.R_alloc | apply Kd.R_drewN | apply Kd.R_drew)); exact Kd.R_mono HO199.out (fun _ hk => trivial), B1_⟩
               rw [if_neg c55] at H
               exact absurd H (by simp)
              rw [if_neg c54] at H
              exact absurd H (by simp)
             rw [if_neg c52] at H
             exact absurd H (by simp)
            rw [if_neg c33] at H
            exact absurd H (by simp)
           rw [if_neg c32] at H
           exact absurd H (by simp)
          rw [if_neg c31] at H
          exact absurd H (by simp)
       rw [if_neg c29] at H
       exact absurd H (by simp)
      rw [if_neg c28] at H
      exact absurd H (by simp)
    rw [if_neg c17] at H
    exact absurd H (by simp)
   rw [if_neg c16] at H
   exact absurd H (by simp)


/-! ### bits_Mul32: function 43 -/
def bits_Mul32.f (a0 : Int) (a1 : Int) : Option (Int × Int) := some (((IntKind.u64.wrap ((IntKind.u64.wrap (a0)) * (IntKind.u64.wrap (a1)))) / 4294967296) % 4294967296, (IntKind.u64.wrap ((IntKind.u64.wrap (a0)) * (IntKind.u64.wrap (a1)))) % 4294967296)
set_option maxHeartbeats 8000000 in
set_option maxRecDepth 100000 in
theorem bits_Mul32.calls (a0 : Int) (a1 : Int) (r1 : Int) (r2 : Int) (w : World) (h : bits_Mul32.f a0 a1 = some (r1, r2)) :
 Calls Try.prog 43 #[.int .u32 a0, .int .u32 a1] w fun e w' => e = .returned (.tuple #[.int .u32 r1, .int .u32 r2]) ∧ Drawn0 w w' := by
 have H : (some (((IntKind.u64.wrap ((IntKind.u64.wrap (a0)) * (IntKind.u64.wrap (a1)))) / 4294967296) % 4294967296, (IntKind.u64.wrap ((IntKind.u64.wrap (a0)) * (IntKind.u64.wrap (a1)))) % 4294967296)) = some (r1, r2) := h
 clear h
 simp only [Option.some.injEq, Prod.mk.injEq] at H
 obtain ⟨rfl, rfl⟩ := H
 go_enter Try.func43, Try.ntmps43
 go_wp2
 go_ret2
 exact ⟨by first | rfl | (simp; done) | (simp [*]; done), by repeat (first | exact Drawn0.refl _ | apply Drawn0.step)⟩

/-! ### bits_Mul64: function 44 -/
def bits_Mul64.f (a0 : Int) (a1 : Int) : Option (Int × Int) := some (IntKind.u64.wrap ((IntKind.u64.wrap ((IntKind.u64.wrap ((a0 / 4294967296) * (a1 / 4294967296))) + ((IntKind.u64.wrap ((IntKind.u64.wrap ((a0 / 4294967296) * (Go.bits .and .u64 a1 4294967295))) + ((IntKind.u64.wrap ((Go.bits .and .u64 a0 4294967295) * (Go.bits .and .u64 a1 4294967295))) / 4294967296))) / 4294967296))) + ((IntKind.u64.wrap ((Go.bits .and .u64 (IntKind.u64.wrap ((IntKind.u64.wrap ((a0 / 4294967296) * (Go.bits .and .u64 a1 4294967295))) + ((IntKind.u64.wrap ((Go.bits .and .u64 a0 4294967295) * (Go.bits .and .u64 a1 4294967295))) / 4294967296))) 4294967295) + (IntKind.u64.wrap ((Go.bits .and .u64 a0 4294967295) * (a1 / 4294967296))))) / 4294967296)), IntKind.u64.wrap (a0 * a1))
set_option maxHeartbeats 8000000 in
set_option maxRecDepth 100000 in
theorem bits_Mul64.calls (a0 : Int) (a1 : Int) (r1 : Int) (r2 : Int) (w : World) (h : bits_Mul64.f a0 a1 = some (r1, r2)) :
 Calls Try.prog 44 #[.int .u64 a0, .int .u64 a1] w fun e w' => e = .returned (.tuple #[.int .u64 r1, .int .u64 r2]) ∧ Drawn0 w w' := by
 have H : (some (IntKind.u64.wrap ((IntKind.u64.wrap ((IntKind.u64.wrap ((a0 / 4294967296) * (a1 / 4294967296))) + ((IntKind.u64.wrap ((IntKind.u64.wrap ((a0 / 4294967296) * (Go.bits .and .u64 a1 4294967295))) + ((IntKind.u64.wrap ((Go.bits .and .u64 a0 4294967295) * (Go.bits .and .u64 a1 4294967295))) / 4294967296))) / 4294967296))) + ((IntKind.u64.wrap ((Go.bits .and .u64 (IntKind.u64.wrap ((IntKind.u64.wrap ((a0 / 4294967296) * (Go.bits .and .u64 a1 4294967295))) + ((IntKind.u64.wrap ((Go.bits .and .u64 a0 4294967295) * (Go.bits .and .u64 a1 4294967295))) / 4294967296))) 4294967295) + (IntKind.u64.wrap ((Go.bits .and .u64 a0 4294967295) * (a1 / 4294967296))))) / 4294967296)), IntKind.u64.wrap (a0 * a1))) = some (r1, r2) := h
 clear h
 simp only [Option.some.injEq, Prod.mk.injEq] at H
 obtain ⟨rfl, rfl⟩ := H
 go_enter Try.func44, Try.ntmps44
 go_wp2
 go_ret2
 exact ⟨by first | rfl | (simp; done) | (simp [*]; done), by repeat (first | exact Drawn0.refl _ | apply Drawn0.step)⟩

/-! ### bits_Mul: function 38 -/
def bits_Mul.f (a0 : Int) (a1 : Int) : Option (Int × Int) := (bits_Mul64.f a0 a1).bind fun bt204 => (some (bt204.1, bt204.2))
set_option maxHeartbeats 8000000 in
set_option maxRecDepth 100000 in
theorem bits_Mul.calls (a0 : Int) (a1 : Int) (r1 : Int) (r2 : Int) (w : World) (h : bits_Mul.f a0 a1 = some (r1, r2)) :
 Calls Try.prog 38 #[.int .u64 a0, .int .u64 a1] w fun e w' => e = .returned (.tuple #[.int .u64 r1, .int .u64 r2]) ∧ Drawn0 w w' := by
 have H : ((bits_Mul64.f a0 a1).bind fun bt204 => (some (bt204.1, bt204.2))) = some (r1, r2) := h
 clear h
 replace H := Option.bind_eq_some_iff.mp H
 obtain ⟨⟨t204, t205⟩, A30, H⟩ := H
 replace H : (some (t204, t205)) = some (r1, r2) := H
 have A3 := Aside0.mk A30
 clear A30
 simp only [Option.some.injEq, Prod.mk.injEq] at H
 obtain ⟨rfl, rfl⟩ := H
 go_enter Try.func38, Try.ntmps38
 go_wp2_with (first | ((with_reducible refine gate_callee (f := 44) rfl ?_); refine goesL_ (some 25) rfl rfl Try.func44 (by kernel_rfl) rfl #[.int .u64 a0, .int .u64 a1] rfl (by (try simp only [List.map_toArray, List.map_cons, List.map_nil]); first | done | rfl | (simp only [List.length_drop, List.length_take]; rfl)) ?_; (with_reducible refine (bits_Mul64.calls a0 a1 t204 t205 _ A3.out).mono ?_); rintro e w' ⟨rfl, ⟨nd, rfl⟩⟩; refine ⟨_, rfl, ?_⟩))
 go_ret2
 exact ⟨by first | rfl | (simp; done) | (simp [*]; done), by repeat (first | exact Drawn0.refl _ | apply Drawn0.step)⟩


/-! ### slices_Repeat_int_int: function 31 -/
def slices_Repeat_int_int.f (l0 : List Int) (a1 : Int) : Option (List Int) := if l0.length = 1 ∧ 1 ≤ a1 ∧ a1 ≤ 64 then some (List.replicate a1.toNat (rd l0 0)) else none
theorem slices_Repeat_int_int.mul : ∀ n : Nat, n < 65 → bits_Mul.f 1 (n : Int) = some (0, (n : Int)) := by decide +kernel
theorem slices_Repeat_int_int.wrap : ∀ n : Nat, n < 65 → IntKind.u64.wrap (n : Int) = (n : Int) ∧ IntKind.i64.wrap (n : Int) = (n : Int) := by decide +kernel
set_option maxHeartbeats 8000000 in
set_option maxRecDepth 100000 in
theorem slices_Repeat_int_int.calls (A0 : Option Addr) (c0 : Nat) (l0 : List Int) (a1 : Int) (r : List Int) (w : World) (hr0 : Kd.C (Kd.int .i64) w A0 l0.length l0) (hc0 : l0.length ≤ c0) (h : slices_Repeat_int_int.f l0 a1 = some r) :
    Calls Try.prog 31 #[.slice A0 l0.length c0, .int .i64 a1] w fun e w' => ∃ v0_ : Value, e = .returned (v0_) ∧ Kd.R (Kd.int .i64) 3 w' w.heap.size (fun _ => True) v0_ r ∧ Below w.heap.size w w' := by
  unfold slices_Repeat_int_int.f at h
  by_cases hc : l0.length = 1 ∧ 1 ≤ a1 ∧ a1 ≤ 64
  · rw [if_pos hc] at h
    obtain rfl := Option.some.inj h
    obtain ⟨h1, h2, h3⟩ := hc
    obtain ⟨m, rfl⟩ : ∃ m : Nat, a1 = (m : Int) := ⟨a1.toNat, by omega⟩
    have hmm : m < 65 := by omega
    have A1 := Aside0.mk (slices_Repeat_int_int.mul m hmm)
    obtain ⟨hw1, hw2⟩ := slices_Repeat_int_int.wrap m hmm
    obtain ⟨ad, rfl, g0⟩ := Kd.at_int hr0 0 (by omega) (by omega)
    rw [h1] at hc0 ⊢
    have HG0 := Aside0.mk g0
    clear g0 hr0
    have n0 : ¬ ((m : Int) < 0) := by omega
    have n1 : ¬ (9223372036854775807 < (m : Int)) := by omega
    have HB := Aside0.mk (Below.refl w.heap.size w)
    have H2 := Aside0.mk h2
    have H3 := Aside0.mk h3
    have HM := Aside0.mk hmm
    clear h2 h3 hmm
    go_enter Try.func31, Try.ntmps31
    have hsrc_ : ∀ j, j < 1 * 1 → w.cell? (ad.add j) = ([.int .i64 (rd l0 0)] : List Value)[j % 1]? := by
      intro j hj
      match j, hj with
      | 0, _ => exact HG0.out
    have HS := Aside0.mk hsrc_
    clear hsrc_
    go_wp2_with (first | ((with_reducible refine gate_callee (f := 38) rfl ?_); refine goesL_ (some 18) rfl rfl Try.func38 (by kernel_rfl) rfl #[.int .u64 1, .int .u64 (m : Int)] rfl (by (try simp only [List.map_toArray, List.map_cons, List.map_nil]); first | done | rfl | (simp only [List.length_drop, List.length_take]; rfl)) ?_; (with_reducible refine (bits_Mul.calls 1 (m : Int) 0 (m : Int) _ A1.out).mono ?_); rintro e w' ⟨rfl, ⟨nd, rfl⟩⟩; refine ⟨_, rfl, ?_⟩) | ((with_reducible refine gate_dst (N := 30) rfl ?_); refine wp_rep_make (w0 := w) w.heap.size 3 rfl 30 _ _ rfl m rfl rfl Try.underlying30 _ 1 8 [.int .i64 (rd l0 0)] info3 (by have := HM.out; omega) (by have := HM.out; omega) (pw_below_drewN HB.out _) (Nat.le_refl _) ?_; intro g w1 hge hrep hbel; have HE := Aside0.mk hge; have HR := Aside0.mk hrep; have HB1 := Aside0.mk hbel; clear hge hrep hbel) | ((with_reducible refine gate_dst (N := 33) rfl ?_); refine wp_rep_copy rfl _ _ 30 30 rfl rfl rfl Try.underlying30 (by kernel_rfl) HR.out (by omega) (by omega) (by omega) (by simp [Value.oneCell']) rfl (k := 1) ?hk ?hs HB1.out HE.out ?_; (case hk => have := H2.out; simp only [Nat.min_def]; split <;> omega); (case hs => exact src_below HS.out (by simp) (by decide) HB1.out); intro w2 hrep hbel; have HR2 := Aside0.mk hrep; have HB2 := Aside0.mk hbel; clear hrep hbel HR HB1))
    go_loopg [8] m (fun kq v8 w' => ∃ n : Nat, v8 = .int .i64 (n : Int) ∧ Aside0 (1 ≤ n) ∧ Aside0 (m ≤ n + kq) ∧ Aside0 (Rep w' g 3 m 1 [.int .i64 (rd l0 0)] n) ∧ Aside0 (Below w.heap.size w w'))
    case atStart => exact ⟨1, (by first | rfl | (simp; done) | (simp [*]; done)), ⟨Nat.le_refl _⟩, ⟨by omega⟩, HR2, HB2⟩
    case round =>
      obtain ⟨n, rfl, HN, HK, HR, HB3⟩ := hrel
      by_cases c1 : (n : Int) < (m : Int)
      · have c1b : (n < m) = True := eq_true (by omega)
        have C1 := Aside0.mk c1
        obtain ⟨k', rfl⟩ : ∃ k', gk = k' + 1 := ⟨gk - 1, by have := HK.out; omega⟩
        clear c1
        obtain ⟨i0, hi0, _, hsz0, _⟩ := info_parts info3
        have hcut1 := cut_from (P := Try.prog) 30 3 .i64 Try.underlying30 hi0 1 hsz0 (some ⟨g, 0, none⟩) m m (n : Int) (by omega) (by have := C1.out; omega)
        rw [Int.toNat_natCast, if_neg (by have := C1.out; omega), show ((some (⟨g, 0, none⟩ : Addr)).map fun x => x.add (n * 1)) = some ⟨g, n * 1, none⟩ from congrArg some (add_plain g (n * 1))] at hcut1
        have hcut2 := cut_to (P := Try.prog) 30 3 .i64 Try.underlying30 hi0 (some ⟨g, 0, none⟩) m m (n : Int) (by omega) (by have := C1.out; omega) (Nat.le_refl _)
        rw [Int.toNat_natCast] at hcut2
        clear hi0 hsz0
        obtain ⟨q, hq⟩ : ∃ q : Nat, q = Nat.min n (m - n) := ⟨_, rfl⟩
        have hqm : q ≤ m - n := by rw [hq]; exact Nat.min_le_right _ _
        have HW := Aside0.mk (show IntKind.i64.wrap ((n : Int) + (q : Int)) = ((n + q : Nat) : Int) from (slices_Repeat_int_int.wrap (n + q) (by have := HM.out; have := C1.out; omega)).2)
        have HQ1 := Aside0.mk (show 1 ≤ q by rw [hq]; exact Nat.le_min.mpr ⟨HN.out, by have := C1.out; omega⟩)
        clear hqm
        have HQ := Aside0.mk hq
        clear hq
        obtain ⟨d, hd⟩ : ∃ d : Nat, d = m - n := ⟨_, rfl⟩
        rw [← hd] at hcut1
        have HD := Aside0.mk hd
        clear hd
        have HRD := Aside0.mk (show Rep wr.drew g 3 m 1 [.int .i64 (rd l0 0)] n from HR.out)
        have HBD := Aside0.mk (show Below w.heap.size w wr.drew from below_drew1 HB3.out)
        go_wp2
        go_region_law (refine step_rep_copy rfl (.tmp 41) (.tmp 44) 30 30 rfl (g := g) (off := n * 1) (dLen := d) (dCap := d) (ad := ⟨g, 0, none⟩) (sLen := n) (sCap := m) (by first | (go_simp; done) | (go_simp; rfl)) (by first | (go_simp; done) | (go_simp; rfl)) Try.underlying30 (by kernel_rfl) HRD.out rfl HD.out (by decide) (by simp [Value.oneCell']) rfl (k := q) (by rw [HD.out]; exact HQ.out.symm) (fun j hj => (by rw [add_plain]; exact HRD.out.cell (Nat.lt_of_lt_of_le hj (Nat.mul_le_mul_right _ (by rw [HQ.out]; exact Nat.min_le_left _ _))))) HBD.out HE.out ?_; intro w4 HR4 HB4)
        go_wp2
        go_roundg k'
        case measure => omega
        case rel => exact ⟨n + q, (by first | rfl | (simp; done) | (rw [HW.out])), ⟨by have := HN.out; omega⟩, ⟨by have := HK.out; have := HQ1.out; omega⟩, HR4, HB4⟩
      · have hn : n = m := by obtain ⟨_, _, _, h3, _⟩ := HR.out; omega
        subst hn
        have c1b : (n < n) = False := eq_false (by omega)
        go_wp2
        go_ret
        refine ⟨_, by first | rfl | (simp; done), rep_done (Kd.int .i64) HR.out rfl (by decide) rfl rfl HE.out (by have := HM.out; simp only [maxLen]; omega), HB3.out⟩
  · rw [if_neg hc] at h; cases h












































































































































































/-! ### dom_meet: function 32 -/
mutual
def dom_meet.l0 : Nat → List Int → List Int → Int → Int → Option (Int)
 | 0, _, _, _, _ => none
 | k + 1, x0, x1, x2, x3 => if x2 = x3 then (some x2) else (dom_meet.l1 k x0 x1 x2 x3)
def dom_meet.l1 : Nat → List Int → List Int → Int → Int → Option (Int)
 | 0, _, _, _, _ => none
 | k + 1, x0, x1, x2, x3 => if 0 ≤ x2 then (if x2 < (x1.length : Int) then (if 0 ≤ x3 then (if x3 < (x1.length : Int) then (if (rd x1 x2) > (rd x1 x3) then (if x2 < (x0.length : Int) then (dom_meet.l1 k x0 x1 (rd x0 x2) x3) else (none)) else (dom_meet.l2 k x0 x1 x2 x3)) else (none)) else (none)) else (none)) else (none)
def dom_meet.l2 : Nat → List Int → List Int → Int → Int → Option (Int)
 | 0, _, _, _, _ => none
 | k + 1, x0, x1, x2, x3 => if 0 ≤ x3 then (if x3 < (x1.length : Int) then (if 0 ≤ x2 then (if x2 < (x1.length : Int) then (if (rd x1 x3) > (rd x1 x2) then (if x3 < (x0.length : Int) then (dom_meet.l2 k x0 x1 x2 (rd x0 x3)) else (none)) else (dom_meet.l0 k x0 x1 x2 x3)) else (none)) else (none)) else (none)) else (none)
end
def dom_meet.f (k : Nat) (l0 : List Int) (l1 : List Int) (a2 : Int) (a3 : Int) : Option (Int) := dom_meet.l0 k l0 l1 a2 a3
theorem dom_meet.mono_l : ∀ k, (∀ y0 y1 y2 y3, LeO (dom_meet.l0 k y0 y1 y2 y3) (dom_meet.l0 (k + 1) y0 y1 y2 y3)) ∧ (∀ y0 y1 y2 y3, LeO (dom_meet.l1 k y0 y1 y2 y3) (dom_meet.l1 (k + 1) y0 y1 y2 y3)) ∧ (∀ y0 y1 y2 y3, LeO (dom_meet.l2 k y0 y1 y2 y3) (dom_meet.l2 (k + 1) y0 y1 y2 y3))
 | 0 => ⟨fun _ _ _ _ r h => by simp [dom_meet.l0] at h, fun _ _ _ _ r h => by simp [dom_meet.l1] at h, fun _ _ _ _ r h => by simp [dom_meet.l2] at h⟩
 | k + 1 => by
  obtain ⟨ih0, ih1, ih2⟩ := dom_meet.mono_l k
  refine ⟨?_, ?_, ?_⟩
  ·intro y0 y1 y2 y3
   unfold dom_meet.l0
   repeat' first
   | (with_reducible exact ih0 _ _ _ _)
   | (with_reducible exact ih1 _ _ _ _)
   | (with_reducible exact ih2 _ _ _ _)
   | (with_reducible exact LeO.refl _)
   | (with_reducible exact LeO.none _)
   | (with_reducible refine LeO.ite ?_ ?_)
   | (with_reducible refine LeO.bind ?_ (fun _ => ?_))
   | exact ih0 _ _ _ _
   | exact ih1 _ _ _ _
   | exact ih2 _ _ _ _
   | exact LeO.none _
   | refine LeO.ite ?_ ?_
   | refine LeO.bind ?_ (fun _ => ?_)
  ·intro y0 y1 y2 y3
   unfold dom_meet.l1
   repeat' first
   | (with_reducible exact ih0 _ _ _ _)
   | (with_reducible exact ih1 _ _ _ _)
   | (with_reducible exact ih2 _ _ _ _)
   | (with_reducible exact LeO.refl _)
   | (with_reducible exact LeO.none _)
   | (with_reducible refine LeO.ite ?_ ?_)
   | (with_reducible refine LeO.bind ?_ (fun _ => ?_))
   | exact ih0 _ _ _ _
   | exact ih1 _ _ _ _
   | exact ih2 _ _ _ _
   | exact LeO.none _
   | refine LeO.ite ?_ ?_
   | refine LeO.bind ?_ (fun _ => ?_)
  ·intro y0 y1 y2 y3
   unfold dom_meet.l2
   repeat' first
   | (with_reducible exact ih0 _ _ _ _)
   | (with_reducible exact ih1 _ _ _ _)
   | (with_reducible exact ih2 _ _ _ _)
   | (with_reducible exact LeO.refl _)
   | (with_reducible exact LeO.none _)
   | (with_reducible refine LeO.ite ?_ ?_)
   | (with_reducible refine LeO.bind ?_ (fun _ => ?_))
   | exact ih0 _ _ _ _
   | exact ih1 _ _ _ _
   | exact ih2 _ _ _ _
   | exact LeO.none _
   | refine LeO.ite ?_ ?_
   | refine LeO.bind ?_ (fun _ => ?_)
theorem dom_meet.mono : ∀ a0 a1 a2 a3 k, LeO (dom_meet.f k a0 a1 a2 a3) (dom_meet.f (k + 1) a0 a1 a2 a3) := by
 intro a0 a1 a2 a3 k
 obtain ⟨ih0, ih1, ih2⟩ := dom_meet.mono_l k
 unfold dom_meet.f
 repeat' first
  | (with_reducible exact ih0 _ _ _ _)
  | (with_reducible exact ih1 _ _ _ _)
  | (with_reducible exact ih2 _ _ _ _)
  | (with_reducible exact LeO.refl _)
  | (with_reducible exact LeO.none _)
  | (with_reducible refine LeO.ite ?_ ?_)
  | (with_reducible refine LeO.bind ?_ (fun _ => ?_))
  | exact ih0 _ _ _ _
  | exact ih1 _ _ _ _
  | exact ih2 _ _ _ _
  | exact LeO.none _
  | refine LeO.ite ?_ ?_
  | refine LeO.bind ?_ (fun _ => ?_)
set_option maxHeartbeats 8000000 in
set_option maxRecDepth 100000 in
theorem dom_meet.calls (k : Nat) (A0 : Option Addr) (c0 : Nat) (l0 : List Int) (A1 : Option Addr) (c1 : Nat) (l1 : List Int) (a2 : Int) (a3 : Int) (r : Int) (w : World) (hr0 : Kd.C (Kd.int .i64) w A0 l0.length l0) (hc0 : l0.length ≤ c0) (hr1 : Kd.C (Kd.int .i64) w A1 l1.length l1) (hc1 : l1.length ≤ c1) (h : dom_meet.f k l0 l1 a2 a3 = some r) :
 Calls Try.prog 32 #[.slice A0 l0.length c0, .slice A1 l1.length c1, .int .i64 a2, .int .i64 a3] w fun e w' => e = .returned (.int .i64 r) ∧ Drawn0 w w' := by
 have HR0 := Aside0.mk hr0
 have HC0 := Aside0.mk hc0
 clear hr0 hc0
 have HR1 := Aside0.mk hr1
 have HC1 := Aside0.mk hc1
 clear hr1 hc1
 have H : (dom_meet.l0 k l0 l1 a2 a3) = some r := h
 clear h
 have H' := Aside0.mk H
 clear H
 go_enter Try.func32, Try.ntmps32
 go_wp2
 repeat (go_quiet (fail); try go_wp2)
 go_loopg [2, 3] k (fun kq v2 v3 w' => ∃ (x2_1 : Int) (x3_1 : Int), v2 = .int .i64 x2_1 ∧ v3 = .int .i64 x3_1 ∧ Aside0 (dom_meet.l0 kq l0 l1 x2_1 x3_1 = some r) ∧ Aside0 (kq ≤ k) ∧ Drawn0 w w')
 case atStart => exact ⟨(a2), (a3), (by first | rfl | (simp; done) | (simp [*]; done)), (by first | rfl | (simp; done) | (simp [*]; done)), H', ⟨Nat.le_refl _⟩, by repeat (first | exact Drawn0.refl _ | apply Drawn0.step)⟩
 case round =>
  clear H'
  try clear c1
  obtain ⟨x2_1, x3_1, rfl, rfl, HA, HK1, ⟨m1, rfl⟩⟩ := hrel
  cases gk with
  | zero => exact absurd HA.out (by simp [dom_meet.l0])
  | succ k1 =>
   have H := HA.out
   clear HA
   simp only [dom_meet.l0] at H
   by_cases c5 : x2_1 = x3_1
   ·rw [if_pos c5] at H
    have c5b0 : (x2_1 == x3_1) = true := beq_iff_eq.mpr c5
    have c5b1 : (x2_1 != x3_1) = false := bne_eq_false_iff_eq.mpr c5
    clear c5
    obtain rfl := Option.some.inj H
    go_wp2
    repeat (go_quiet (fail); try go_wp2)
    go_ret
    exact ⟨by first | rfl | (simp; done) | (simp [*]; done), by repeat (first | exact Drawn0.refl _ | apply Drawn0.step)⟩
   rw [if_neg c5] at H
   have c5b0 : (x2_1 == x3_1) = false := beq_eq_false_iff_ne.mpr c5
   have c5b1 : (x2_1 != x3_1) = true := bne_iff_ne.mpr c5
   have H' := Aside0.mk H
   clear H
   go_wp2
   repeat (go_quiet (fail); try go_wp2)
   go_loopg [2] k1 (fun kq v2 w' => ∃ (x2_2 : Int), v2 = .int .i64 x2_2 ∧ Aside0 (dom_meet.l1 kq l0 l1 x2_2 x3_1 = some r) ∧ Aside0 (kq ≤ k1) ∧ Drawn0 w w')
   case atStart => exact ⟨(x2_1), (by first | rfl | (simp; done) | (simp [*]; done)), H', ⟨Nat.le_refl _⟩, by repeat (first | exact Drawn0.refl _ | apply Drawn0.step)⟩
   case round =>
    clear H'
    try clear c5
    try clear c5b0
    try clear c5b1
    obtain ⟨x2_2, rfl, HA, HK2, ⟨m2, rfl⟩⟩ := hrel
    cases gk with
    | zero => exact absurd HA.out (by simp [dom_meet.l1])
    | succ k2 =>
     have H := HA.out
     clear HA
     simp only [dom_meet.l1] at H
     by_cases c6 : 0 ≤ x2_2
     ·rw [if_pos c6] at H
      have c6b0 : decide (0 ≤ x2_2) = true := decide_eq_true c6
      clear c6
      by_cases c7 : x2_2 < (l1.length : Int)
      ·rw [if_pos c7] at H
       have c7b0 : decide (x2_2 < (l1.length : Int)) = true := decide_eq_true c7
       clear c7
       by_cases c8 : 0 ≤ x3_1
       ·rw [if_pos c8] at H
        have c8b0 : decide (0 ≤ x3_1) = true := decide_eq_true c8
        clear c8
        by_cases c9 : x3_1 < (l1.length : Int)
        ·rw [if_pos c9] at H
         have c9b0 : decide (x3_1 < (l1.length : Int)) = true := decide_eq_true c9
         clear c9
         by_cases c10 : (rd l1 x2_2) > (rd l1 x3_1)
         ·rw [if_pos c10] at H
          have c10b0 : decide ((rd l1 x3_1) < (rd l1 x2_2)) = true := decide_eq_true c10
          clear c10
          by_cases c11 : x2_2 < (l0.length : Int)
          ·rw [if_pos c11] at H
           have c11b0 : decide (x2_2 < (l0.length : Int)) = true := decide_eq_true c11
           clear c11
           have H' := Aside0.mk H
           clear H
           have p206 : 0 ≤ (x2_2 : Int) := D_
           have q206 : x2_2 < (l1.length : Int) := D_
           obtain ⟨ad206, e206, hx206_0⟩ := Kd.at_int HR1.out x2_2 p206 q206
           cases e206
           replace p206 := eq_true p206
           replace q206 := eq_true q206
           have p207 : 0 ≤ (x3_1 : Int) := D_
           have q207 : x3_1 < (l1.length : Int) := D_
           obtain ⟨ad207, e207, hx207_0⟩ := Kd.at_int HR1.out x3_1 p207 q207
           obtain rfl : ad206 = ad207 := (by injection e207)
           replace p207 := eq_true p207
           replace q207 := eq_true q207
           have p208 : 0 ≤ (x2_2 : Int) := D_
           have q208 : x2_2 < (l0.length : Int) := D_
           obtain ⟨ad208, e208, hx208_0⟩ := Kd.at_int HR0.out x2_2 p208 q208
           cases e208
           replace p208 := eq_true p208
           replace q208 := eq_true q208
           go_wp2
           repeat (go_quiet (fail); try go_wp2)
           go_roundg k2
           case measure => have := HK1.out; have := HK2.out; omega
           case rel => exact ⟨(rd l0 x2_2), (by first | rfl | (simp; done) | (simp [*]; done)), H', ⟨by have := HK1.out; have := HK2.out; omega⟩, by repeat (first | exact Drawn0.refl _ | apply Drawn0.step)⟩
          rw [if_neg c11] at H
          exact absurd H (by simp)
         rw [if_neg c10] at H
         have c10b0 : decide ((rd l1 x3_1) < (rd l1 x2_2)) = false := decide_eq_false c10
         clear c10
         have H' := Aside0.mk H
         clear H
         have p206 : 0 ≤ (x2_2 : Int) := D_
         have q206 : x2_2 < (l1.length : Int) := D_
         obtain ⟨ad206, e206, hx206_0⟩ := Kd.at_int HR1.out x2_2 p206 q206
         cases e206
         replace p206 := eq_true p206
         replace q206 := eq_true q206
         have p207 : 0 ≤ (x3_1 : Int) := D_
         have q207 : x3_1 < (l1.length : Int) := D_
         obtain ⟨ad207, e207, hx207_0⟩ := Kd.at_int HR1.out x3_1 p207 q207
         obtain rfl : ad206 = ad207 := (by injection e207)
         replace p207 := eq_true p207
         replace q207 := eq_true q207
         go_wp2
         repeat (go_quiet (fail); try go_wp2)
         go_loopg [3] k2 (fun kq v3 w' => ∃ (x3_3 : Int), v3 = .int .i64 x3_3 ∧ Aside0 (dom_meet.l2 kq l0 l1 x2_2 x3_3 = some r) ∧ Aside0 (kq ≤ k2) ∧ Drawn0 w w')
         case atStart => exact ⟨(x3_1), (by first | rfl | (simp; done) | (simp [*]; done)), H', ⟨Nat.le_refl _⟩, by repeat (first | exact Drawn0.refl _ | apply Drawn0.step)⟩
         case round =>
          clear H'
          try clear c6b0
          try clear c7b0
          try clear c8b0
          try clear c9b0
          try clear c10b0
          try clear hx206_0
          try clear hx207_0
          try clear p206
          try clear p207
          try clear q206
          try clear q207
          obtain ⟨x3_3, rfl, HA, HK3, ⟨m3, rfl⟩⟩ := hrel
          cases gk with
          | zero => exact absurd HA.out (by simp [dom_meet.l2])
          | succ k3 =>
           have H := HA.out
           clear HA
           simp only [dom_meet.l2] at H
           by_cases c12 : 0 ≤ x3_3
           ·rw [if_pos c12] at H
            have c12b0 : decide (0 ≤ x3_3) = true := decide_eq_true c12
            clear c12
            by_cases c13 : x3_3 < (l1.length : Int)
            ·rw [if_pos c13] at H
             have c13b0 : decide (x3_3 < (l1.length : Int)) = true := decide_eq_true c13
             clear c13
             by_cases c14 : 0 ≤ x2_2
             ·rw [if_pos c14] at H
              have c14b0 : decide (0 ≤ x2_2) = true := decide_eq_true c14
              clear c14
              by_cases c15 : x2_2 < (l1.length : Int)
              ·rw [if_pos c15] at H
               have c15b0 : decide (x2_2 < (l1.length : Int)) = true := decide_eq_true c15
               clear c15
               by_cases c16 : (rd l1 x3_3) > (rd l1 x2_2)
               ·rw [if_pos c16] at H
                have c16b0 : decide ((rd l1 x2_2) < (rd l1 x3_3)) = true := decide_eq_true c16
                clear c16
                by_cases c17 : x3_3 < (l0.length : Int)
                ·rw [if_pos c17] at H
                 have c17b0 : decide (x3_3 < (l0.length : Int)) = true := decide_eq_true c17
                 clear c17
                 have H' := Aside0.mk H
                 clear H
                 have p209 : 0 ≤ (x3_3 : Int) := D_
                 have q209 : x3_3 < (l1.length : Int) := D_
                 obtain ⟨ad209, e209, hx209_0⟩ := Kd.at_int HR1.out x3_3 p209 q209
                 obtain rfl : ad206 = ad209 := (by injection e209)
                 replace p209 := eq_true p209
                 replace q209 := eq_true q209
                 have p210 : 0 ≤ (x2_2 : Int) := D_
                 have q210 : x2_2 < (l1.length : Int) := D_
                 obtain ⟨ad210, e210, hx210_0⟩ := Kd.at_int HR1.out x2_2 p210 q210
                 obtain rfl : ad206 = ad210 := (by injection e210)
                 replace p210 := eq_true p210
                 replace q210 := eq_true q210
                 have p211 : 0 ≤ (x3_3 : Int) := D_
                 have q211 : x3_3 < (l0.length : Int) := D_
                 obtain ⟨ad211, e211, hx211_0⟩ := Kd.at_int HR0.out x3_3 p211 q211
                 cases e211
                 replace p211 := eq_true p211
                 replace q211 := eq_true q211
                 go_wp2
                 repeat (go_quiet (fail); try go_wp2)
                 go_roundg k3
                 case measure => have := HK1.out; have := HK2.out; have := HK3.out; omega
                 case rel => exact ⟨(rd l0 x3_3), (by first | rfl | (simp; done) | (simp [*]; done)), H', ⟨by have := HK1.out; have := HK2.out; have := HK3.out; omega⟩, by repeat (first | exact Drawn0.refl _ | apply Drawn0.step)⟩
                rw [if_neg c17] at H
                exact absurd H (by simp)
               rw [if_neg c16] at H
               have c16b0 : decide ((rd l1 x2_2) < (rd l1 x3_3)) = false := decide_eq_false c16
               clear c16
               have H' := Aside0.mk H
               clear H
               have p209 : 0 ≤ (x3_3 : Int) := D_
               have q209 : x3_3 < (l1.length : Int) := D_
               obtain ⟨ad209, e209, hx209_0⟩ := Kd.at_int HR1.out x3_3 p209 q209
               obtain rfl : ad206 = ad209 := (by injection e209)
               replace p209 := eq_true p209
               replace q209 := eq_true q209
               have p210 : 0 ≤ (x2_2 : Int) := D_
               have q210 : x2_2 < (l1.length : Int) := D_
               obtain ⟨ad210, e210, hx210_0⟩ := Kd.at_int HR1.out x2_2 p210 q210
               obtain rfl : ad206 = ad210 := (by injection e210)
               replace p210 := eq_true p210
               replace q210 := eq_true q210
               go_wp2
               repeat (go_quiet (fail); try go_wp2)
               go_roundg k3
               case measure => have := HK1.out; have := HK2.out; have := HK3.out; omega
               case rel => exact ⟨(x2_2), (x3_3), (by first | rfl | (simp; done) | (simp [*]; done)), (by first | rfl | (simp; done) | (simp [*]; done)), H', ⟨by have := HK1.out; have := HK2.out; have := HK3.out; omega⟩, by repeat (first | exact Drawn0.refl _ | apply Drawn0.step)⟩
              rw [if_neg c15] at H
              exact absurd H (by simp)
             rw [if_neg c14] at H
             exact absurd H (by simp)
            rw [if_neg c13] at H
            exact absurd H (by simp)
           rw [if_neg c12] at H
           exact absurd H (by simp)
        rw [if_neg c9] at H
        exact absurd H (by simp)
       rw [if_neg c8] at H
       exact absurd H (by simp)
      rw [if_neg c7] at H
      exact absurd H (by simp)
     rw [if_neg c6] at H
     exact absurd H (by simp)

end Go.Proofs.Ytamlaebfpmbefaa.G
