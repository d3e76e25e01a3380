/- A map of slices of whole numbers that the call itself makes, beside other work, in regions that draw their order. No conditions beyond each theorem's own. -/
import Derived.WalkMore
import Derived.Maps.GroupsBeside
import Derived.Test.YtoekeknfeinphaaWTab
import Derived.Test.YtoekeknfeinphaaWWords
import Derived.Test.YtoekeknfeinphaaHMake
namespace Go.Proofs.YtoekeknfeinphaaH
open Go Go.Maps Go.MapKept Go.ChangeMaps Go.ChangeShapes Go.WideShapes Go.WideElems Go.RowKit Go.Proofs.YtoekeknfeinphaaW.PrintWords Go.Proofs.YtoekeknfeinphaaW.PrintLast

section
variable {H : Type} {P : Program} {k t e E : TypeId} {q : IntKind} {w w' w1 : World} {base b n : Nat} {D : DataW H} {zs zs' : List Int} {v v' : Value}
theorem grown_of {row : Option Nat} (hb : Below w.heap.size w w') : w.grownBy w' row := ⟨hb.os, hb.tape, hb.output, hb.size, fun i hi _ => hb.block i hi⟩
theorem groups_below (h : w.ownsGroups P k base e q b n D) (hb : Below w.heap.size w w') : w'.ownsGroups P k base e q b n D :=
  h.kept (row := none) (grown_of hb) (by simp) (fun _ _ _ x _ => by
    cases hx : x.val.ownBlock with
    | none => exact .inl rfl
    | some g => exact .inr (by simp))
theorem groups_start (hb : w.heap[b]? = some (.map #[] 0)) (hbb : b < base) : w.ownsGroups (H := H) P k base e q b 0 (.map []) :=
  ⟨#[], 0, hb, ⟨by simp, stamped_empty 0, by simp⟩, Nat.le_refl _, rfl, hbb, by simp, by simp⟩
theorem key_int (hk : P.underlying k = some (.int q)) {v : Value} {l : Lit} (h : keyOf P k v = some l) : IsKey (.int q) v := by
  have h2 : mapKey P k v = some l := by simpa [keyOf, hk] using h
  obtain ⟨d', hd', h1, _⟩ := mapKey_isKey h2
  rw [hk] at hd'
  cases hd'
  exact h1
/-- A look-up asks the map's own block alone. -/
theorem look_same (ht : P.underlying t = some (.map k E)) (hk : P.underlying k = some (.int q)) (hz : ∀ w : World, (zeroValue E).run P w = .ok (.slice none 0 0) w) {es : Array MapEntry} {clock : Nat} (hb : w.heap[b]? = some (.map es clock)) (hb' : w'.heap[b]? = some (.map es clock))
    (hks : ∀ x ∈ es.toList, ∃ l, keyOf P k x.key = some l) {key : Value} {kl : Lit} (hkey : keyOf P k key = some kl) (h : (Instr.lookup t (.map (some b)) key false).run P w = .ok v w) : (Instr.lookup t (.map (some b)) key false).run P w' = .ok v w' := by
  have K : Keyed P k := int_keyed hk
  have hi : ∀ x ∈ es.toList, IsKey (.int q) x.key := fun x hx => by obtain ⟨l, hl⟩ := hks x hx; exact key_int hk hl
  have c1 := K.check w es.isEmpty hkey
  have c2 := K.check w' es.isEmpty hkey
  rcases findNow_spec (key_int hk hkey) es.toList 0 hi with ⟨h1, _⟩ | ⟨j, e0, h1, _⟩
  · have f1 := run_findKey (w := w) hk h1
    have f2 := run_findKey (w := w') hk h1
    simp [Instr.lookup, run_underlying ht, MapKept.run_getObj_map hb, c1, f1, hz, Result.andThen] at h
    simp [Instr.lookup, run_underlying ht, MapKept.run_getObj_map hb', c2, f2, hz, Result.andThen, h]
  · have f1 := run_findKey (w := w) hk h1
    have f2 := run_findKey (w := w') hk h1
    simp [Instr.lookup, run_underlying ht, MapKept.run_getObj_map hb, c1, f1, Result.andThen] at h
    simp [Instr.lookup, run_underlying ht, MapKept.run_getObj_map hb', c2, f2, Result.andThen, h]
theorem groups_block (h : w.ownsGroups P k base e q b n D) : ∃ es clock, w.heap[b]? = some (.map es clock) ∧ ∀ x ∈ es.toList, ∃ l, keyOf P k x.key = some l := by
  obtain ⟨es, clock, hb, F, _⟩ := h
  exact ⟨es, clock, hb, F.keys⟩
/-- What the map reads as: at each number a list. -/
def Grp (D : DataW H) (q : IntKind) (f : Int → List Int) : Prop := IsMap D ∧ ∀ i, (Lit.int q i).wf = true → (D.atKey (.int q i) .nil = .nil ∧ f i = []) ∨ D.atKey (.int q i) .nil = .slice (lits q (f i)) []
theorem grp_start : Grp (H := H) (.map []) q (fun _ => []) := ⟨isMap_empty, fun _ _ => .inl ⟨rfl, rfl⟩⟩
theorem lits_inj {a c : List Int} (h : lits (H := H) q a = lits q c) : a = c := by
  unfold lits at h
  exact (List.map_inj_right (fun x y hxy => by cases hxy; rfl)).1 h
theorem grp_at {f : Int → List Int} (h : Grp D q f) {i : Int} (hi : (Lit.int q i).wf = true) (hat : D.atKey (.int q i) .nil = rowDatum q v zs) (ho : w.ownsInts base e q v zs) : zs = f i := by
  rcases ho.datum (H := H) with ⟨e1, e2⟩ | e1 <;> rcases h.2 i hi with ⟨g1, g2⟩ | g1
  · rw [e2, g2]
  · rw [hat, e1] at g1; cases g1
  · rw [hat, e1] at g1; cases g1
  · rw [hat, e1] at g1
    injection g1 with g2 _
    exact lits_inj g2
theorem grp_put {f f' : Int → List Int} (h : Grp D q f) {i : Int} (hk : P.underlying k = some (.int q)) (hi : (Lit.int q i).wf = true) (ho : w1.ownsInts base e q v' zs') (hne : zs' ≠ []) (h1 : f' i = zs') (h2 : ∀ j, j ≠ i → f' j = f j) :
    Grp (D.put (.int q i) (rowDatum q v' zs')) q f' := by
  refine ⟨h.1.put _ _, fun j hj => ?_⟩
  by_cases e1 : j = i
  · subst e1
    right
    rw [atKey_put_same h.1 ((int_keyed hk).key (keyOf_int_mk hk hi)), h1]
    exact ho.datum_pos hne
  · rw [atKey_put_other (fun e2 => e1 (by injection e2)), h2 j e1]
    exact h.2 j hj
/-- A slice that the call owns, as the print's contracts read it. -/
theorem ints_C (h : w.ownsInts base e q v zs) : ∃ A c, v = .slice A zs.length c ∧ zs.length ≤ c ∧ Kd.C (Kd.int q) w A zs.length zs := by
  have hrow := h.1
  rcases h.1.2 with ⟨rfl, h0⟩ | ⟨g, cap, cur, rfl, _, _, hn, hcap, _, _⟩
  · have : zs = [] := List.length_eq_zero_iff.1 h0
    subst this
    exact ⟨none, 0, rfl, Nat.le_refl _, Kd.C_nil _ _⟩
  · refine ⟨_, cap, rfl, hn, rfl, by simp only [maxLen] at hcap; omega, fun _ => ⟨_, rfl, fun j p hj => ⟨[.int q p], rfl, rfl, fun i u hu => ?_⟩⟩⟩
    obtain ⟨hj1, hj2⟩ := List.getElem?_eq_some_iff.1 hj
    cases i with
    | zero =>
      have hu' : u = .int q p := by simpa using hu.symm
      subst hu'
      have h2 := hrow.cellAt j (by simpa using hj1)
      rw [List.getElem?_map, hj] at h2
      show w.cell? ((⟨g, 0, none⟩ : Addr).add (j * 1 + 0)) = _
      rw [Nat.mul_one, Nat.add_zero, Go.Proofs.YtoekeknfeinphaaW.PrintWords.add_plain]; exact h2
    | succ i => simp at hu
/-- The block of such a slice is one of whole numbers. -/
theorem ints_block (h : w.ownsInts base e q v zs) {g : Nat} {o : TypeId} {cs : Array Value} (hg : w.heap[g]? = some (.cells cs o (0, 0))) (hne : o ≠ e) : some g ≠ v.ownBlock := by
  intro e1
  rcases h.1.2 with ⟨rfl, _⟩ | ⟨g', cap, cur, rfl, _, hh, _⟩
  · simp [Value.ownBlock] at e1
  · have : g = g' := by simpa [Value.ownBlock] using e1
    subst this
    rw [hg] at hh
    injection hh with hh
    injection hh with _ h2 _
    exact hne h2
end

section
variable {P : Program} {ops : Array Oper} {Q : Exit → Act → World → Prop} {md : Region.Mode} {S : World → Prop} {ds : List Nat} {T : Bool × List (List Nat × List Nat)}
/-- One operation alone may come up: what its run comes to is told. -/
theorem RU_ (HT : Aside0 (rtab md ops = T)) (i : Nat) {N : Option Tmp} {oi : Oper} {v : Value} {fuel : Nat} {l : Array Bool} {a a' : Act} {w w1 : World} (l' : Array Bool) (hi : ops[i]? = some oi) (hN : oi.dst = N)
    (hc : (readyT T.2 l.toList == [i] && l.toList.set i true == l'.toList) = true) (hd : i ∉ ds) (hw : Region.wanted oi (yielded ops a.tmps) = true) (hrun : (execOp a.eval oi).run P w = .ok (.value v) w1) (hS : S w1) (ha : a.put N v = a')
    (h : wpAnyLast P md ops Q S ds fuel l' a' w1) : wpAnyLast P md ops Q S ds (fuel + 1) l a w := by
  refine one_ l' hi hN (one_of HT.out hc) hd (fun K hK => ?_)
  rw [if_pos hw]
  unfold Oper.wp
  rw [hrun]
  show K (a.put oi.dst v) w1
  rw [hN, ha]
  exact hK.out _ _ hS (fun _ => h)
theorem RL_ (HT : Aside0 (rtab md ops = T)) (i : Nat) {N : Option Tmp} {oi : Oper} {fuel : Nat} {l : Array Bool} {a a' : Act} {w w1 : World} (l' : Array Bool) (hi : ops[i]? = some oi) (hN : oi.dst = N)
    (hc : (readyT T.2 l.toList == [i] && l.toList.set i true == l'.toList) = true) (hd : i ∈ ds) (hw : Region.wanted oi (yielded ops a.tmps) = true) (hrun : (execOp a.eval oi).run P w = .ok .skip w1) (ha : a.put N undef = a')
    (h : wpAnyLast P md ops Q S ds fuel l' a' w1) : wpAnyLast P md ops Q S ds (fuel + 1) l a w := by
  refine last_ l' hi hN (one_of HT.out hc) hd (fun K hK => ?_)
  rw [if_pos hw]
  unfold Oper.wp
  rw [hrun]
  show K (a.put oi.dst undef) w1
  rw [hN, ha]
  exact hK.out _ _ h
theorem exec_append {o : Oper} {a : Act} {w w1 : World} {s x : Operand} {t : TypeId} {u y v : Value} (ho : o.op = .call { callee := .builtin .append, args := #[s, x], argTypes := #[t, t] }) (hs : a.eval s = u) (hx : a.eval x = y)
    (hr : (Builtin.append_ #[t, t] o.type #[u, y]).run P w = .ok v w1) : (execOp a.eval o).run P w = .ok (.value v) w1 := by
  unfold execOp
  simp only [ho, resolve, invoke, builtin, Sem.run_bind, Sem.run_pure, Result.andThen_ok, List.map_toArray, List.map_cons, List.map_nil, hs, hx, hr]
theorem exec_look {o : Oper} {a : Act} {w w1 : World} {m x : Operand} {t : TypeId} {u y v : Value} (ho : o.op = .lookup t m x false) (hs : a.eval m = u) (hx : a.eval x = y)
    (hr : (Instr.lookup t u y false).run P w = .ok v w1) : (execOp a.eval o).run P w = .ok (.value v) w1 := by
  unfold execOp
  simp [ho, hs, hx, hr, Result.andThen]
theorem exec_update {o : Oper} {a : Act} {w w1 : World} {m x y : Operand} {t : TypeId} {u kv v : Value} (ho : o.op = .mapUpdate t m x y) (hs : a.eval m = u) (hx : a.eval x = kv) (hy : a.eval y = v)
    (hr : (Instr.mapUpdate t u kv v).run P w = .ok () w1) : (execOp a.eval o).run P w = .ok .skip w1 := by
  unfold execOp
  simp [ho, hs, hx, hy, hr, Result.andThen]
end
end Go.Proofs.YtoekeknfeinphaaH
