/- An operation (api.Op) that came in by value, as the print's contracts read it. No conditions beyond each theorem's own. -/
import Derived.Test.YtblhphjdjpodcaaWWords
import Derived.Lib.SmallJoins
import Derived.ChangeSlices
namespace Go.Proofs.YtblhphjdjpodcaaH
open Go Go.Joins Go.ChangeShapes Go.WideShapes Go.RowKit Go.Deep Go.Proofs.YtblhphjdjpodcaaW.PrintWords

/-- A slice of whole numbers that came in as one cell. -/
theorem C_of_ints {H : Type} {enc : TypeId × Value → H} {P : Program} {w : World} {base n : Nat} {held : Bool} {t e : TypeId} {k : IntKind} {v : Value} {y : DataW H × List MemPlace}
    (ht : P.underlying t = some (.slice e)) (he : P.underlying e = some (.int k)) (ce : P.cellsOf e = 1) (h : DataW.trod enc P w base (fun _ => true) held n t [v] = some y) :
    ∃ (A : Option Addr) (c : Nat) (l : List Int), v = .slice A l.length c ∧ Kd.C (Kd.int k) w A l.length l ∧ l.length ≤ c ∧ l.length ≤ maxLen ∧ ∀ x ∈ l, (Lit.int k x).wf = true := by
  rcases open_ints ht he ce h with ⟨hcs, _⟩ | ⟨a, len, cap, zs, hcs, _, hl, hm, hz, _, hc, hw⟩
  · obtain rfl : v = .slice none 0 0 := by simpa using hcs
    exact ⟨none, 0, [], rfl, Kd.C_nil _ _, Nat.le_refl _, by simp, by simp⟩
  · obtain rfl : v = .slice (some a) len cap := by simpa using hcs
    have hz' : zs.length = cap := by simpa using hz
    have hll : (zs.take len).length = len := by rw [List.length_take]; omega
    refine ⟨some a, cap, zs.take len, by rw [hll], ?_, by omega, by omega, fun x hx => hw x (List.mem_of_mem_take hx)⟩
    refine ⟨rfl, by simp only [maxLen] at hm; omega, fun _ => ⟨a, rfl, fun i y hi => ?_⟩⟩
    obtain ⟨hi1, hi2⟩ := List.getElem?_eq_some_iff.1 hi
    have h2 := hc i (by omega)
    refine ⟨[.int k y], rfl, rfl, fun i' u hu => ?_⟩
    cases i' with
    | zero =>
      have hu' : u = .int k y := by simpa using hu.symm
      subst hu'
      have e1 : zs.getD i 0 = y := by
        rw [← hi2, List.getElem_take, List.getD_eq_getElem?_getD, List.getElem?_eq_getElem (by omega)]; rfl
      rw [e1] at h2
      show w.cell? (a.add (i * 1 + 0)) = _
      simpa using h2
    | succ i' => simp at hu
theorem int_of {H : Type} {enc : TypeId × Value → H} {P : Program} {w : World} {base n : Nat} {s : Nat → Bool} {held : Bool} {t : TypeId} {k : IntKind} {v : Value} {y : DataW H × List MemPlace}
    (ht : P.underlying t = some (.int k)) (h : DataW.trod enc P w base s held n t [v] = some y) : ∃ a, v = .int k a ∧ (Lit.int k a).wf = true := by
  obtain ⟨a, e, _, hw⟩ := DataW.trod_int ht h
  exact ⟨a, by simpa using e, hw⟩
theorem open_op {H : Type} {enc : TypeId × Value → H} {P : Program} {w : World} {base : Nat} {held : Bool} {r : Reach} {b0 : Nat} {t e : TypeId} {f0 f1 f2 f3 f4 f5 : Field} {v : Value} {d : DataW H} {p : List MemPlace}
    (hs : P.underlying t = some (.struct #[f0, f1, f2, f3, f4, f5])) (hone : oneCellFields P #[f0, f1, f2, f3, f4, f5] = true) (hC : P.cellsOf t = 6)
    (u0 : P.underlying f0.type = some (.int .i64)) (u1 : P.underlying f1.type = some (.int .i64)) (u2 : P.underlying f2.type = some (.int .i64)) (u3 : P.underlying f3.type = some (.int .i64))
    (u4 : P.underlying f4.type = some (.slice e)) (ue : P.underlying e = some (.int .i64)) (ce : P.cellsOf e = 1) (u5 : P.underlying f5.type = some (.int .u64))
    (hv : Value.okWide P w r b0 t v) (h : DataW.Trod enc P w base (fun _ => true) held t v d p) :
    ∃ (a0 a1 a2 a3 : Int) (A : Option Addr) (c : Nat) (l : List Int) (a5 : Int), v = .agg #[.int .i64 a0, .int .i64 a1, .int .i64 a2, .int .i64 a3, .slice A l.length c, .int .u64 a5] ∧
      (Lit.int .i64 a0).wf = true ∧ (Lit.int .i64 a1).wf = true ∧ (Lit.int .i64 a2).wf = true ∧ (Lit.int .i64 a3).wf = true ∧ (Lit.int .u64 a5).wf = true ∧
      Kd.C (Kd.int .i64) w A l.length l ∧ l.length ≤ c ∧ l.length ≤ maxLen ∧ ∀ x ∈ l, (Lit.int .i64 x).wf = true := by
  obtain ⟨cs, rfl, hsz⟩ := okWide_struct hs hv
  obtain ⟨l⟩ := cs
  match l, hsz.trans hC with
  | [c0, c1, c2, c3, c4, c5], _ =>
    obtain ⟨fuel, hf⟩ := h
    obtain ⟨xs, n, _, _, _, hlen, hg⟩ := DataW.trod_struct hs hf
    obtain ⟨o0, k0⟩ := hone_of hone 0 f0 rfl
    obtain ⟨o1, k1⟩ := hone_of hone 1 f1 rfl
    obtain ⟨o2, k2⟩ := hone_of hone 2 f2 rfl
    obtain ⟨o3, k3⟩ := hone_of hone 3 f3 rfl
    obtain ⟨o4, k4⟩ := hone_of hone 4 f4 rfl
    obtain ⟨o5, k5⟩ := hone_of hone 5 f5 rfl
    match xs, hlen with
    | [y0, y1, y2, y3, y4, y5], _ =>
      obtain ⟨a0, rfl, w0⟩ := int_of u0 (show DataW.trod enc P w base _ held n f0.type [c0] = some y0 from by simpa [Value.cells, o0, k0] using hg 0 f0 rfl)
      obtain ⟨a1, rfl, w1⟩ := int_of u1 (show DataW.trod enc P w base _ held n f1.type [c1] = some y1 from by simpa [Value.cells, o1, k1] using hg 1 f1 rfl)
      obtain ⟨a2, rfl, w2⟩ := int_of u2 (show DataW.trod enc P w base _ held n f2.type [c2] = some y2 from by simpa [Value.cells, o2, k2] using hg 2 f2 rfl)
      obtain ⟨a3, rfl, w3⟩ := int_of u3 (show DataW.trod enc P w base _ held n f3.type [c3] = some y3 from by simpa [Value.cells, o3, k3] using hg 3 f3 rfl)
      obtain ⟨A, c, l, rfl, hl⟩ := C_of_ints u4 ue ce (show DataW.trod enc P w base _ held n f4.type [c4] = some y4 from by simpa [Value.cells, o4, k4] using hg 4 f4 rfl)
      obtain ⟨a5, rfl, w5⟩ := int_of u5 (show DataW.trod enc P w base _ held n f5.type [c5] = some y5 from by simpa [Value.cells, o5, k5] using hg 5 f5 rfl)
      exact ⟨a0, a1, a2, a3, A, c, l, a5, rfl, w0, w1, w2, w3, w5, hl⟩
end Go.Proofs.YtblhphjdjpodcaaH
