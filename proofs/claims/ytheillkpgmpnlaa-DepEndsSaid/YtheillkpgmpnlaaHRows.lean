/- A slice of slices of whole numbers that came in, as the print's contracts read it. No conditions beyond each theorem's own. -/
import Derived.Test.YtheillkpgmpnlaaWWords
import Derived.Deep.Matrix
namespace Go.Proofs.YtheillkpgmpnlaaH
open Go Go.RowKit Go.Deep Go.Proofs.YtheillkpgmpnlaaW.PrintWords

/-- What is asked of the rows' own numbers. -/
def RowsOk (k : IntKind) (l : List (List Int)) : Prop := l.length ≤ maxLen ∧ ∀ r ∈ l, r.length ≤ maxLen ∧ ∀ x ∈ r, (Lit.int k x).wf = true

theorem C_of_rows {H : Type} {enc : TypeId × Value → H} {P : Program} {w : World} {base : Nat} {held : Bool} {t e q : TypeId} {k : IntKind} {a : Option Addr} {len cap : Nat} {d : DataW H} {p : List MemPlace}
    (ht : P.underlying t = some (.slice e)) (he : P.underlying e = some (.slice q)) (hq : P.underlying q = some (.int k)) (ce : P.cellsOf e = 1) (cq : P.cellsOf q = 1)
    (h : DataW.Trod enc P w base (fun _ => true) held t (.slice a len cap) d p) :
    ∃ l : List (List Int), len = l.length ∧ Kd.C (Kd.slice q (Kd.int k)) w a l.length l ∧ l.length ≤ cap ∧ RowsOk k l := by
  obtain ⟨fuel, hf⟩ := h
  rcases open_int_rows ht he hq ce cq hf with ⟨hcs, _⟩ | ⟨x, len', cap', A, L, C, Z, hcs, _, hl, hm, _, hr⟩
  · simp [Value.cells] at hcs
    obtain ⟨rfl, rfl, rfl⟩ := hcs
    exact ⟨[], rfl, Kd.C_nil _ _, Nat.le_refl _, by simp, by simp⟩
  · simp [Value.cells] at hcs
    obtain ⟨rfl, rfl, rfl⟩ := hcs
    refine ⟨(List.range len).map (fun r => (Z r).take (L r)), by simp, ?_, by simpa using hl, ?_, ?_⟩
    · refine ⟨by simp, by have := hl; have := hm; simp only [maxLen] at this; simp; omega, fun _ => ⟨x, rfl, fun j p hj => ?_⟩⟩
      obtain ⟨hj1, hj2⟩ := List.getElem?_eq_some_iff.1 hj
      have hjl : j < len := by simpa using hj1
      have hp : p = (Z j).take (L j) := by rw [← hj2]; simp
      obtain ⟨hc, hLC, hCm, hZ, _, hn, hcells⟩ := hr j (by omega)
      have hpl : p.length = L j := by rw [hp, List.length_take]; omega
      refine ⟨[.slice (A j) (L j) (C j)], rfl, ⟨A j, C j, by rw [hpl], by omega, ?_⟩, fun i u hu => ?_⟩
      · refine ⟨rfl, by simp only [maxLen] at hCm; omega, fun hpos => ?_⟩
        cases hA : A j with
        | none => have := hn hA; omega
        | some a' =>
          refine ⟨a', rfl, fun i y hi => ?_⟩
          obtain ⟨hi1, hi2⟩ := List.getElem?_eq_some_iff.1 hi
          have h2 := (hcells a' hA).2 i (by omega)
          refine ⟨[.int k y], rfl, rfl, fun i' u hu => ?_⟩
          cases i' with
          | zero =>
            have hu' : u = .int k y := by simpa using hu.symm
            subst hu'
            have e1 : (Z j).getD i 0 = y := by
              rw [← hi2]
              simp only [hp, List.getElem_take]
              rw [List.getD_eq_getElem?_getD, List.getElem?_eq_getElem (by omega)]; rfl
            rw [e1] at h2
            show w.cell? (a'.add (i * 1 + 0)) = _
            simpa using h2
          | succ i' => simp at hu
      · cases i with
        | zero =>
          have hu' : u = .slice (A j) (L j) (C j) := by simpa using hu.symm
          subst hu'
          show w.cell? (x.add (j * 1 + 0)) = _
          simpa using hc
        | succ i => simp at hu
    · simp only [List.length_map, List.length_range]; exact Nat.le_trans hl hm
    · intro r hrm
      obtain ⟨j, hj, rfl⟩ := List.mem_map.1 hrm
      obtain ⟨_, hLC, hCm, hZ, hwf, _⟩ := hr j (by have := List.mem_range.1 hj; omega)
      refine ⟨by rw [List.length_take]; omega, fun y hy => hwf y (List.mem_of_mem_take hy)⟩
end Go.Proofs.YtheillkpgmpnlaaH
