/- A row of one's own, behind the library's sort: its block's cells written over, draws on, new blocks behind. No conditions beyond each theorem's own. -/
import Derived.Test.YtheillkpgmpnlaaHMake
import Derived.Test.YtheillkpgmpnlaaWKept
import Derived.Test.YtheillkpgmpnlaaWWords
import Derived.Sort.Grow
namespace Go.Proofs.YtheillkpgmpnlaaH
open Go Go.RowKit Go.Sort Go.Proofs.YtheillkpgmpnlaaW.PrintWords Go.Proofs.YtheillkpgmpnlaaW.PrintWords.Kd

/-- What a block's cells are made of all of them, is a row's. -/
theorem putCells_take (cur : Array Value) (ds : List Value) (h : ds.length ≤ cur.size) : (putCells id 0 ds.toArray cur).toList.take ds.length = ds := by
  apply List.ext_getElem?
  intro j
  rw [List.getElem?_take]
  by_cases hj : j < ds.length
  · have hc : j < cur.size := by omega
    rw [if_pos hj, Array.getElem?_toList]
    simp [putCells, hj, hc]
  · rw [if_neg hj, List.getElem?_eq_none (by omega)]
theorem putCells_size (cur : Array Value) (d : Array Value) : (putCells id 0 d cur).size = cur.size := by simp [putCells]
/-- The world behind. -/
def sorted_ (w : World) (g q : Nat) (ds : List Value) (os : Array Obj) : World := grow (putRow id (Sort.ahead w q) g 0 ds.toArray) os
theorem sorted_grown (w : World) (g q : Nat) (ds : List Value) (os : Array Obj) : w.grownBy (sorted_ w g q ds os) (some g) := by
  refine ⟨rfl, rfl, rfl, ?_, fun k hk hne => ?_⟩
  · simp [sorted_, putRow, mapBlock, grow]
  · have hne : g ≠ k := fun e => hne (by rw [e])
    simp only [sorted_, grow, putRow, mapBlock]
    rw [Array.getElem?_append_left (by simpa using hk), Array.getElem?_modify, if_neg hne]
    rfl
theorem sorted_own {w : World} {base e size g n cap : Nat} {cs : List Value} (h : w.ownsRow base e size (.slice (some ⟨g, 0, none⟩) n cap) n cs) (q : Nat) (ds : List Value) (hd : ds.length = cs.length) (os : Array Obj) :
    (sorted_ w g q ds os).ownsRow base e size (.slice (some ⟨g, 0, none⟩) n cap) n ds := by
  obtain ⟨h1, h2⟩ := h
  refine ⟨hd.trans h1, ?_⟩
  rcases h2 with ⟨h2, _⟩ | ⟨g2, cap2, cur, h2, h3, h4, h5, h6, h7, h8⟩
  · cases h2
  · obtain ⟨rfl, rfl⟩ : g = g2 ∧ cap = cap2 := by simpa using h2
    have hg : g < w.heap.size := by
      rw [Array.getElem?_eq_some_iff] at h4; exact h4.1
    have hlen : ds.length ≤ cur.size := by
      rw [hd, h1, h7]; exact Nat.mul_le_mul_right _ h5
    refine .inr ⟨g, cap, putCells id 0 ds.toArray cur, rfl, h3, ?_, h5, h6, (putCells_size _ _).trans h7, ?_⟩
    · simp only [sorted_, grow, putRow, mapBlock]
      rw [Array.getElem?_append_left (by simpa using hg), Array.getElem?_modify, if_pos rfl]
      show (w.heap[g]?).map _ = _
      rw [h4]; rfl
    · have e : n * size = ds.length := by rw [hd, h1]
      rw [e]; exact putCells_take cur ds hlen
theorem own_holds {w : World} {base e size g n cap : Nat} {cs : List Value} (h : w.ownsRow base e size (.slice (some ⟨g, 0, none⟩) n cap) n cs) : Holds id w g 0 cs.toArray ∧ g < w.heap.size := by
  obtain ⟨h1, h2⟩ := h
  rcases h2 with ⟨h2, _⟩ | ⟨g2, cap2, cur, h2, h3, h4, h5, h6, h7, h8⟩
  · cases h2
  · obtain ⟨rfl, rfl⟩ : g = g2 ∧ cap = cap2 := by simpa using h2
    have hg : g < w.heap.size := by
      rw [Array.getElem?_eq_some_iff] at h4; exact h4.1
    refine ⟨fun j hj => ?_, hg⟩
    have hj : j < cs.length := by simpa using hj
    have hc : j < cur.size := by rw [h7]; have := Nat.mul_le_mul_right size h5; omega
    have hx : cur[j]? = some cs[j] := by
      have h9 : (cur.toList.take (n * size))[j]? = cs[j]? := by rw [h8]
      rw [List.getElem?_take, if_pos (by omega), Array.getElem?_toList, List.getElem?_eq_getElem hj] at h9
      exact h9
    constructor
    · simp [World.cell?, h4, hx, hj]
    · simp [World.frozen?, h4]
theorem holds_ints {w : World} {g : Nat} {xs : List Int} (h : Holds id w g 0 (xs.map fun x => Value.int .i64 x).toArray) : Holds (Value.int .i64) w g 0 xs.toArray := by
  intro j hj
  have hj : j < xs.length := by simpa using hj
  have := h j (by simpa using hj)
  simpa [hj] using this
theorem put_ints (w : World) (g : Nat) (xs : List Int) : putRow (Value.int .i64) w g 0 xs.toArray = putRow id w g 0 (xs.map fun x => Value.int .i64 x).toArray := by
  unfold putRow
  refine mapBlock_congr w g _ _ (fun c e fr _ => ?_)
  unfold putCells
  apply Array.ext_getElem?
  intro k
  simp only [Array.getElem?_mapIdx]
  cases c[k]? with
  | none => rfl
  | some x =>
    by_cases hk : k < xs.length
    · simp [hk]
    · simp [hk]
/-- Draws and new blocks behind, nothing else. -/
def Gn (w w' : World) : Prop := ∃ q os, w' = Go.Sort.grow (w.drewN q) os
theorem Gn.refl (w : World) : Gn w w := ⟨0, #[], by rw [Go.Sort.grow_empty]; rfl⟩
theorem Gn.trans {a b c : World} (h : Gn a b) (k : Gn b c) : Gn a c := by
  obtain ⟨q, os, rfl⟩ := h; obtain ⟨p, ot, rfl⟩ := k
  exact ⟨q + p, os ++ ot, by simp [Go.Sort.grow, World.drewN, Array.append_assoc, Nat.add_assoc]⟩
theorem Gn.drewN {a b : World} (h : Gn a b) (n : Nat) : Gn a (b.drewN n) := h.trans ⟨n, #[], by rw [Go.Sort.grow_empty]⟩
theorem Gn.drew {a b : World} (h : Gn a b) : Gn a b.drew := h.trans ⟨1, #[], by rw [Go.Sort.grow_empty]; rfl⟩
theorem Gn.alloc {a b : World} (h : Gn a b) (o : Obj) : Gn a (b.alloc o) := h.trans ⟨0, #[o], by rw [Go.Sort.alloc_eq_grow]; rfl⟩

theorem box_eventD {P : Program} {ops : Array Oper} {rest : List Oper} {o : Oper} {a : Act} {Q : Exit → Act → World → Prop} {W : World} (hgd : o.guard = none) {N : Tmp} (_hd : o.dst = some N) {cs : Array Value} {t : TypeId}
    (hrun : (execOp a.eval o).run P W = .ok (.value (.pointer (some ⟨W.heap.size, 0, none⟩))) (W.alloc (.cells cs t (0, 0))))
    (h : ∀ g, g = W.heap.size → ∀ w1, w1.heap[g]? = some (.cells cs t (0, 0)) → Below W.heap.size W w1 → Gn W w1 → wpList P ops Q rest (a.put o.dst (.pointer (some ⟨g, 0, none⟩))) w1) : wpList P ops Q (o :: rest) a W := by
  have e := h _ rfl (W.alloc (.cells cs t (0, 0))) (blk_new W _) (below_alloc (Below.refl _ _) _) (Gn.alloc (Gn.refl W) _)
  exact Kd.event_run hgd hrun e

theorem lit_stepD {P : Program} {ops : Array Oper} {o : Oper} {a : Act} {Q : Exit → Act → World → Prop} {Kc : Act → World → Prop} {W : World} (hw : Region.wanted o (yielded ops a.tmps) = true) {N : Tmp} (_hd : o.dst = some N) (xs : List Int)
    (hrun : (execOp a.eval o).run P W = .ok (.value (.slice (some ⟨W.heap.size, 0, none⟩) xs.length xs.length)) (W.alloc (.cells (xs.map (Value.int .i64)).toArray 3)))
    (h : ∀ v1 w1, (Kd.int .i64).R 3 w1 W.heap.size (fun _ => True) v1 xs → Below W.heap.size W w1 → Gn W w1 → Kc (a.put o.dst v1) w1) (hm : xs.length ≤ 9223372036854775807 := by simp) : if Region.wanted o (yielded ops a.tmps) = true then Oper.wp P o a W Kc Q else Kc (a.put o.dst undef) W := by
  refine event_step hw hrun (h _ _ (Kd.R_of_own ?_ (fun _ _ => trivial)) (below_alloc (Below.refl _ _) _) (Gn.alloc (Gn.refl W) _))
  have h2 := World.ownsRow_lit (base := W.heap.size) (e := 3) (size := 1) W (xs.map (Value.int .i64)).toArray xs.length (Nat.le_refl _) (by simpa [maxLen] using hm) (by simp)
  simpa [encs] using h2
def ins {α : Type} (le : α → α → Bool) (x : α) : List α → List α
  | [] => [x]
  | y :: l => if le x y = true then x :: y :: l else y :: ins le x l
def isort {α : Type} (le : α → α → Bool) : List α → List α
  | [] => []
  | x :: l => ins le x (isort le l)
theorem ins_perm {α : Type} (le : α → α → Bool) (x : α) : ∀ l, (ins le x l).Perm (x :: l)
  | [] => .refl _
  | y :: l => by
    unfold ins
    split
    · exact .refl _
    · exact ((ins_perm le x l).cons y).trans (.swap x y l)
theorem isort_perm {α : Type} (le : α → α → Bool) : ∀ l, (isort le l).Perm l
  | [] => .refl _
  | x :: l => (ins_perm le x _).trans ((isort_perm le l).cons x)
theorem ins_pw {α : Type} {le : α → α → Bool} (tot : ∀ a b, le a b = true ∨ le b a = true) (tr : ∀ a b c, le a b = true → le b c = true → le a c = true) (x : α) : ∀ l, l.Pairwise (fun a b => le a b = true) → (ins le x l).Pairwise (fun a b => le a b = true)
  | [], _ => by simp [ins]
  | y :: l, h => by
    have h1 := List.pairwise_cons.mp h
    unfold ins
    split
    · next hx =>
      refine List.pairwise_cons.mpr ⟨fun z hz => ?_, h⟩
      rcases List.mem_cons.mp hz with e | e
      · rw [e]; exact hx
      · exact tr _ _ _ hx (h1.1 z e)
    · next hx =>
      refine List.pairwise_cons.mpr ⟨fun z hz => ?_, ins_pw tot tr x l h1.2⟩
      rcases List.mem_cons.mp ((ins_perm le x l).mem_iff.mp hz) with e | e
      · rw [e]; exact (tot y x).resolve_right hx
      · exact h1.1 z e
theorem isort_pw {α : Type} {le : α → α → Bool} (tot : ∀ a b, le a b = true ∨ le b a = true) (tr : ∀ a b c, le a b = true → le b c = true → le a c = true) : ∀ l, (isort le l).Pairwise (fun a b => le a b = true)
  | [] => .nil
  | x :: l => ins_pw tot tr x _ (isort_pw tot tr l)
theorem pw_unique {α : Type} {le : α → α → Bool} (an : ∀ a b, le a b = true → le b a = true → a = b) : ∀ l m : List α, l.Perm m → l.Pairwise (fun a b => le a b = true) → m.Pairwise (fun a b => le a b = true) → l = m
  | [], m, hp, _, _ => (hp.symm.eq_nil).symm
  | a :: l, [], hp, _, _ => absurd hp.eq_nil (by simp)
  | a :: l, b :: m, hp, h1, h2 => by
    have h1' := List.pairwise_cons.mp h1
    have h2' := List.pairwise_cons.mp h2
    have hab : a = b := by
      rcases List.mem_cons.mp (hp.mem_iff.mp (List.mem_cons_self ..) : a ∈ b :: m) with e | e
      · exact e
      · rcases List.mem_cons.mp (hp.symm.mem_iff.mp (List.mem_cons_self ..) : b ∈ a :: l) with e2 | e2
        · exact e2.symm
        · exact an a b (h1'.1 b e2) (h2'.1 a e)
    subst hab
    rw [pw_unique an l m (hp.cons_inv) h1'.2 h2'.2]
theorem msort {α : Type} {le : α → α → Bool} (tot : ∀ a b, le a b = true ∨ le b a = true) (tr : ∀ a b c, le a b = true → le b c = true → le a c = true) (an : ∀ a b, le a b = true → le b a = true → a = b) (l : List α) : l.mergeSort le = isort le l := by
  refine pw_unique an _ _ ((List.mergeSort_perm l le).trans (isort_perm le l).symm) ?_ (isort_pw tot tr l)
  exact List.pairwise_mergeSort (fun a b c h1 h2 => tr a b c h1 h2) (fun a b => by rcases tot a b with h | h <;> simp [h]) l
end Go.Proofs.YtheillkpgmpnlaaH
