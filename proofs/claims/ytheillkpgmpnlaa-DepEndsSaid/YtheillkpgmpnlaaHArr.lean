/- Arrays of bools as values and as variables: what is loaded, stored and told. No conditions beyond each theorem's own. -/
import Derived.Test.YtheillkpgmpnlaaWWords
import Derived.Test.YtheillkpgmpnlaaWNEv
import Derived.Laws.CopyOwn
import Derived.Laws.Tables
import Derived.Deep.RegionLaw
import Derived.Deep.RegionWith
namespace Go.Proofs.YtheillkpgmpnlaaH
open Go Go.RowKit Go.Proofs.YtheillkpgmpnlaaW.PrintWords Go.Proofs.YtheillkpgmpnlaaW.PrintWords.Kd
/-- An array of bools, as cells. -/
def AV (l : List Bool) : Array Value := (l.map Value.bool).toArray
theorem av_size (l : List Bool) : (AV l).size = l.length := by simp [AV]
theorem av_one (l : List Bool) : (AV l).all (·.oneCell') = true := by
  rw [Array.all_eq_true_iff_forall_mem]
  intro v hv
  obtain ⟨b, _, rfl⟩ := List.mem_map.1 (by simpa [AV] using hv : v ∈ l.map Value.bool)
  rfl
theorem av_get (l : List Bool) {i : Nat} (h : i < l.length) : (AV l)[i]? = some (.bool (l.getD i false)) := by
  simp [AV, List.getElem?_eq_getElem h, List.getD_eq_getElem?_getD]
theorem av_set (l : List Bool) (i : Nat) (b : Bool) : (AV l).setIfInBounds i (.bool b) = AV (l.set i b) := by
  simp [AV, List.map_set]
section
variable {w : World} {g t : Nat} {l : List Bool}
theorem av_cell (h : w.heap[g]? = some (.cells (AV l) t (0, 0))) (i : Int) (h1 : i < (l.length : Int)) (h0 : 0 ≤ i) : w.cell? ⟨g, i.toNat, none⟩ = some (.bool (rdOf false l i)) :=
  (blk_cell h _).trans (av_get l (by omega))
theorem av_put (h : w.heap[g]? = some (.cells (AV l) t (0, 0))) (i : Int) (b : Bool) : (w.setCell ⟨g, i.toNat, none⟩ (.bool b)).heap[g]? = some (.cells (AV (l.set i.toNat b)) t (0, 0)) :=
  blk_put h _ _ (av_set l _ b)
variable {P : Program} {ops : Array Oper} {rest : List Oper} {o : Oper} {a : Act} {Q : Exit → Act → World → Prop} {W : World}
/-- A whole array loaded. -/
theorem av_load (hgd : o.guard = none) (T : TypeId) (x : Operand) (ho : o.op = .load T x) (hx : a.eval x = .pointer (some ⟨g, 0, none⟩)) (hg : W.heap[g]? = some (.cells (AV l) t (0, 0)))
    {n e : Nat} (hu : P.underlying T = some (.array n e)) (hi : (P.info? T).map (·.size) = some l.length) (h : wpList P ops Q rest (a.put o.dst (.agg (AV l))) W) : wpList P ops Q (o :: rest) a W := by
  have hr := run_loadVar_row (P := P) W g t T (AV l) (0, 0) _ hg hu rfl (by rw [av_size]; exact hi)
  refine event_run hgd ?_ h
  unfold execOp
  simp only [ho, hx, Instr.loadAt, Instr.sureAddr, Sem.run_bind, Sem.run_pure, Result.andThen_ok, hr]
/-- A whole array stored. -/
theorem av_store {l' : List Bool} (hgd : o.guard = none) (T : TypeId) (x y : Operand) (ho : o.op = .store T x y) (hN : o.dst = none) (hx : a.eval x = .pointer (some ⟨g, 0, none⟩)) (hy : a.eval y = .agg (AV l'))
    (hg : W.heap[g]? = some (.cells (AV l) t (0, 0))) (hi : (P.info? T).map (·.size) = some l'.length) (hl : l.length = l'.length)
    (h : ∀ w', w' = W.setRow g (AV l') → wpList P ops Q rest a w') : wpList P ops Q (o :: rest) a W := by
  refine wpList_store_row hgd T x y ho g (AV l') hx hy t (AV l) hg (by rw [av_size]; exact hi) (by rw [av_size, av_size]; exact hl) (av_one _) ?_
  rw [hN]
  exact h _ rfl
theorem av_stored {l' : List Bool} (hg : W.heap[g]? = some (.cells (AV l) t (0, 0))) : (W.setRow g (AV l')).heap[g]? = some (.cells (AV l') t (0, 0)) := setRow_heap W g _ _ t _ hg
theorem blk_row {g' : Nat} {o : Obj} (h : W.heap[g']? = some o) (hne : g' ≠ g) (cs : Array Value) : (W.setRow g cs).heap[g']? = some o := by
  have hb : Below (g' + 1) W W ∨ True := .inr trivial
  clear hb
  unfold World.setRow
  simp_all [Array.getElem?_modify]
  try (intro e; exact absurd e.symm hne)
/-- A whole array's cells stored. -/
theorem av_cells {c : Array Value} {l' : List Bool} (h : W.heap[g]? = some (.cells c t (0, 0))) (hc : c.size = l'.length) : (storeCells ⟨g, 0, none⟩ (AV l').toList).run P W = .ok () (W.setRow g (AV l')) := by
  have h1 := run_storeCells_from (P := P) g t (AV l').toList 0 c W h (by simp [AV]; omega) (fun v hv => (Array.all_eq_true_iff_forall_mem.1 (av_one l')) v (by simpa using hv))
  rw [h1]
  congr 2
variable {Kc : Act → World → Prop} {E : Prop}
/-- A new variable, as one step of a region that draws. -/
theorem step_box (hgd : o.guard = none) {N : Tmp} (_hd : o.dst = some N) {cs : Array Value} {T : TypeId}
    (hrun : (execOp a.eval o).run P W = .ok (.value (.pointer (some ⟨W.heap.size, 0, none⟩))) (W.alloc (.cells cs T (0, 0))))
    (h : ∀ g, g = W.heap.size → ∀ w1, w1.heap[g]? = some (.cells cs T (0, 0)) → Below W.heap.size W w1 → Kc (a.put o.dst (.pointer (some ⟨g, 0, none⟩))) w1) : if Region.wanted o (yielded ops a.tmps) = true then Oper.wp P o a W Kc Q else E := by
  have hw : Region.wanted o (yielded ops a.tmps) = true := by simp [Region.wanted, hgd]
  rw [if_pos hw]
  unfold Oper.wp
  rw [hrun]
  exact h _ rfl _ (blk_new W _) (below_alloc (Below.refl _ _) _)
/-- A whole array stored, as one step of a region that draws. -/
theorem step_av_store {l' : List Bool} (hgd : o.guard = none) (T : TypeId) (x y : Operand) (ho : o.op = .store T x y) (hN : o.dst = none) (hx : a.eval x = .pointer (some ⟨g, 0, none⟩)) (hy : a.eval y = .agg (AV l'))
    (hg : W.heap[g]? = some (.cells (AV l) t (0, 0))) (hi : (P.info? T).map (·.size) = some l'.length) (hl : l.length = l'.length)
    (h : ∀ w', w' = W.setRow g (AV l') → Kc a w') : if Region.wanted o (yielded ops a.tmps) = true then Oper.wp P o a W Kc Q else E := by
  have hw : Region.wanted o (yielded ops a.tmps) = true := by simp [Region.wanted, hgd]
  rw [if_pos hw]
  refine wp_store_row T x y ho g (AV l') hx hy t (AV l) hg (by rw [av_size]; exact hi) (by rw [av_size, av_size]; exact hl) (av_one _) ?_
  rw [hN]
  exact h _ rfl
end
end Go.Proofs.YtheillkpgmpnlaaH
