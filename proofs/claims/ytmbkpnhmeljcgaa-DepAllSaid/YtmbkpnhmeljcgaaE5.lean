/- A symbolic run of the code of functions, and the proof that what it tells is so. No conditions beyond each theorem's own. -/
import Derived.Test.YtmbkpnhmeljcgaaE4
import Derived.Sort.Grow
import Derived.Laws.AppendOwn
import Derived.Below
set_option linter.unusedVariables false
set_option linter.unusedSimpArgs false
namespace Go.Ev
/-- With enough fuel the answer is v. -/
def EvTo {α : Type} (f : Nat → Option α) (v : α) : Prop := ∃ K, ∀ k, K ≤ k → f k = some v
theorem EvTo.succ {α : Type} {f : Nat → Option α} {v : α} (h : EvTo (fun k => f (k + 1)) v) : EvTo f v := by
  obtain ⟨K, h⟩ := h
  refine ⟨K + 1, fun k hk => ?_⟩
  obtain ⟨m, rfl⟩ : ∃ m, k = m + 1 := ⟨k - 1, by omega⟩
  exact h m (by omega)
theorem EvTo.bind {α β : Type} {g : Nat → Option α} {h : Nat → α → Option β} {a : α} {r : β} (h1 : EvTo g a) (h2 : EvTo (fun k => h k a) r) : EvTo (fun k => (g k).bind (fun t => h k t)) r := by
  obtain ⟨K1, h1⟩ := h1
  obtain ⟨K2, h2⟩ := h2
  refine ⟨K1 + K2, fun k hk => ?_⟩
  simp only [h1 k (by omega), Option.bind_some]
  exact h2 k (by omega)
theorem EvTo.pure {α : Type} {v : α} : EvTo (fun _ => some v) v := ⟨0, fun _ _ => rfl⟩
theorem EvTo.pure' {α : Type} {v w : α} (h : v = w) : EvTo (fun _ => some v) w := h ▸ EvTo.pure
theorem EvTo.ifp {α : Type} {c : Prop} [Decidable c] {a b : Nat → Option α} {v : α} (h : c) (H : EvTo a v) : EvTo (fun k => if c then a k else b k) v := by
  simp only [if_pos h]; exact H
theorem EvTo.ifn {α : Type} {c : Prop} [Decidable c] {a b : Nat → Option α} {v : α} (h : ¬ c) (H : EvTo b v) : EvTo (fun k => if c then a k else b k) v := by
  simp only [if_neg h]; exact H
theorem EvTo.at {α : Type} {f : Nat → Option α} {v : α} (h : EvTo f v) : ∃ k, f k = some v := by
  obtain ⟨K, h⟩ := h; exact ⟨K, h K (Nat.le_refl _)⟩
theorem EvTo.to {α : Type} {f : Nat → Option α} {v w : α} (h : EvTo f v) (e : v = w) : EvTo f w := e ▸ h
theorem EvTo.from {α : Type} {f : Nat → Option α} {v : α} (K : Nat) (h : ∀ n, f (n + K) = some v) : EvTo f v := ⟨K, fun k hk => by
  obtain ⟨n, rfl⟩ : ∃ n, k = n + K := ⟨k - K, by omega⟩
  exact h n⟩
theorem EvTo.same {α : Type} {f : Nat → Option α} {v w : α} (h : EvTo f v) (h' : EvTo f w) : v = w := by
  obtain ⟨K, h⟩ := h
  obtain ⟨L, h'⟩ := h'
  have := (h (K + L) (by omega)).symm.trans (h' (K + L) (by omega))
  exact Option.some.inj this
/-- a list, gone through by its places; Inv holds at each -/
theorem EvTo.range {α β γ : Type} (l : List α) (F : Nat → Nat → γ → Option β) (spec : Nat → γ → List α → β) (Inv : Nat → γ → Prop)
    (h0 : ∀ a, Inv l.length a → EvTo (fun k => F k l.length a) (spec l.length a []))
    (hs : ∀ i (h : i < l.length) a, Inv i a → (∀ a', Inv (i + 1) a' → EvTo (fun k => F k (i + 1) a') (spec (i + 1) a' (l.drop (i + 1)))) → EvTo (fun k => F k i a) (spec i a (l[i] :: l.drop (i + 1)))) :
    ∀ a, Inv 0 a → EvTo (fun k => F k 0 a) (spec 0 a l) := by
  have key : ∀ d i a, l.length - i = d → i ≤ l.length → Inv i a → EvTo (fun k => F k i a) (spec i a (l.drop i)) := by
    intro d
    induction d with
    | zero =>
      intro i a hd hi hI
      have : i = l.length := by omega
      subst this
      rw [List.drop_of_length_le (Nat.le_refl _)]
      exact h0 a hI
    | succ d ih =>
      intro i a hd hi hI
      have hlt : i < l.length := by omega
      rw [List.drop_eq_getElem_cons hlt]
      exact hs i hlt a hI fun a' hI' => ih (i + 1) a' (by omega) (by omega) hI'
  intro a hI
  have := key l.length 0 a (by omega) (by omega) hI
  rwa [List.drop_zero] at this
/-- the same without anything that turns -/
theorem EvTo.range0 {α β : Type} (l : List α) (F : Nat → Nat → Option β) (spec : Nat → List α → β)
    (h0 : EvTo (fun k => F k l.length) (spec l.length []))
    (hs : ∀ i (h : i < l.length), EvTo (fun k => F k (i + 1)) (spec (i + 1) (l.drop (i + 1))) → EvTo (fun k => F k i) (spec i (l[i] :: l.drop (i + 1)))) :
    EvTo (fun k => F k 0) (spec 0 l) :=
  EvTo.range (γ := Unit) l (fun k i _ => F k i) (fun i _ l => spec i l) (fun _ _ => True) (fun _ _ => h0) (fun i h _ _ ih => hs i h (ih () trivial)) () trivial
/-- it comes to something -/
theorem EvTo.rangeE {α β γ : Type} (l : List α) (F : Nat → Nat → γ → Option β) (Q : β → Prop)
    (h0 : ∀ a, ∃ v, Q v ∧ EvTo (fun k => F k l.length a) v)
    (hs : ∀ i, i < l.length → ∀ a, (∀ a', ∃ v, Q v ∧ EvTo (fun k => F k (i + 1) a') v) → ∃ v, Q v ∧ EvTo (fun k => F k i a) v) :
    ∀ a, ∃ v, Q v ∧ EvTo (fun k => F k 0 a) v := by
  have key : ∀ d i a, l.length - i = d → i ≤ l.length → ∃ v, Q v ∧ EvTo (fun k => F k i a) v := by
    intro d
    induction d with
    | zero =>
      intro i a hd hi
      have : i = l.length := by omega
      subst this
      exact h0 a
    | succ d ih =>
      intro i a hd hi
      exact hs i (by omega) a fun a' => ih (i + 1) a' (by omega) (by omega)
  intro a
  exact key l.length 0 a (by omega) (by omega)
theorem getI {α : Type} {l : List α} {i : Nat} (h : i < l.length) (d : α) : l.getD ((i : Int)).toNat d = l[i] := by
  simp [List.getD_eq_getElem?_getD, h]
theorem getN {α : Type} {l : List α} {i : Nat} (h : i < l.length) (d : α) : l.getD i d = l[i] := by
  simp [List.getD_eq_getElem?_getD, h]
theorem wrap_i64 {x : Int} (h : -9223372036854775808 ≤ x) (h' : x ≤ 9223372036854775807) : IntKind.wrap .i64 x = x := by
  have e1 : (2 : Int) ^ IntKind.i64.bits = 18446744073709551616 := rfl
  have e2 : (2 : Int) ^ (IntKind.i64.bits - 1) = 9223372036854775808 := rfl
  simp only [IntKind.wrap, e1, e2, IntKind.signed]
  simp
  omega
theorem wrap_add (a b : Int) : IntKind.wrap .i64 (IntKind.wrap .i64 a + b) = IntKind.wrap .i64 (a + b) := by
  have e1 : (2 : Int) ^ IntKind.i64.bits = 18446744073709551616 := rfl
  have e2 : (2 : Int) ^ (IntKind.i64.bits - 1) = 9223372036854775808 := rfl
  simp only [IntKind.wrap, e1, e2, IntKind.signed]
  simp only [Bool.true_and, decide_eq_true_eq]
  split <;> split <;> split <;> omega
theorem wrap_add' (a b : Int) : IntKind.wrap .i64 (a + IntKind.wrap .i64 b) = IntKind.wrap .i64 (a + b) := by
  rw [Int.add_comm, wrap_add, Int.add_comm]
theorem wrap_u64 {x : Int} (h : 0 ≤ x) (h' : x < 18446744073709551616) : IntKind.wrap .u64 x = x := by
  have e1 : (2 : Int) ^ IntKind.u64.bits = 18446744073709551616 := rfl
  simp only [IntKind.wrap, e1, IntKind.signed]
  simp
  omega
theorem wrap_u8 {x : Int} (h : 0 ≤ x) (h' : x < 256) : IntKind.wrap .u8 x = x := by
  have e1 : (2 : Int) ^ IntKind.u8.bits = 256 := rfl
  simp only [IntKind.wrap, e1, IntKind.signed]
  simp
  omega
theorem wrap_u8_mod (x : Int) : IntKind.wrap .u8 x = x % 256 := by
  have e1 : (2 : Int) ^ IntKind.u8.bits = 256 := rfl
  simp only [IntKind.wrap, e1, IntKind.signed]
  simp
theorem wrapS {i n : Nat} (h : i < n) (hn : n ≤ 9223372036854775807) : IntKind.wrap .i64 ((i : Int) + 1) = ((i + 1 : Nat) : Int) := by
  rw [wrap_i64 (by omega) (by omega)]; rfl
theorem reach_le : reachBytes ≤ 140737488355328 := by decide
theorem reach_max : reachBytes ≤ maxLen := by decide
theorem maxLen_le : maxLen ≤ 9223372036854775807 := by decide
theorem most_eq : most = 8589934592 := rfl
theorem wf_int {x : Int} (h : OkD (.int .i64) x) : -9223372036854775808 ≤ x ∧ x ≤ 9223372036854775807 := by
  have h : (Lit.int .i64 x).wf = true := h
  simp [Lit.wf, IntKind.min, IntKind.max, IntKind.signed, IntKind.bits] at h
  omega
theorem wf_u64 {x : Int} (h : OkD (.int .u64) x) : 0 ≤ x ∧ x < 18446744073709551616 := by
  have h : (Lit.int .u64 x).wf = true := h
  simp [Lit.wf, IntKind.min, IntKind.max, IntKind.signed, IntKind.bits] at h
  omega
theorem wf_u16 {x : Int} (h : OkD (.int .u16) x) : 0 ≤ x ∧ x < 65536 := by
  have h : (Lit.int .u16 x).wf = true := h
  simp [Lit.wf, IntKind.min, IntKind.max, IntKind.signed, IntKind.bits] at h
  omega
theorem wf_u8 {x : Int} (h : OkD (.int .u8) x) : 0 ≤ x ∧ x < 256 := by
  have h : (Lit.int .u8 x).wf = true := h
  simp [Lit.wf, IntKind.min, IntKind.max, IntKind.signed, IntKind.bits] at h
  omega
/-! slices.IndexFunc, ContainsFunc -/
theorem index_gen {α : Type} (l : List α) (g : Nat → α → Option Bool) (p : α → Bool) (d : α) (F : Nat → Int → Option (Sum Unit Int)) (hlen : l.length ≤ maxLen)
    (hF : ∀ k i, F (k + 1) i = if (decide (i < (l.length : Int)) = true) then if ((0 ≤ i) ∧ (i < (l.length : Int))) then (g k (l.getD i.toNat d)).bind fun r0 => if (r0 = true) then some (.inr i) else F k (IntKind.wrap .i64 (i + 1)) else none else some (.inl ()))
    (hg : ∀ x ∈ l, EvTo (fun k => g k x) (p x)) : ∃ v : Sum Unit Int, EvTo (fun k => F k 0) v ∧ (match v with | .inl _ => l.any p = false | .inr i => 0 ≤ i ∧ l.any p = true) := by
  have key : EvTo (fun k => F k 0) ((fun (i : Nat) (r : List α) => match r.findIdx? p with | none => Sum.inl () | some j => Sum.inr (((i + j : Nat)) : Int)) 0 l) := by
    refine EvTo.range0 l (fun k i => F k (i : Int)) (fun (i : Nat) (r : List α) => match r.findIdx? p with | none => Sum.inl () | some j => Sum.inr (((i + j : Nat)) : Int)) ?_ ?_
    · refine EvTo.succ ?_
      simp only [hF]
      exact EvTo.ifn (by simp) EvTo.pure
    · intro i h ih
      refine EvTo.succ ?_
      simp only [hF]
      refine EvTo.ifp (by simpa using h) (EvTo.ifp (by omega) ?_)
      rw [getI h]
      refine EvTo.bind (hg _ (List.getElem_mem h)) ?_
      have hm := maxLen_le
      cases hp : p l[i] with
      | true =>
        refine EvTo.ifp rfl (EvTo.pure' ?_)
        simp only [List.findIdx?_cons, hp, if_true]
        rfl
      | false =>
        refine EvTo.ifn (by simp) ?_
        rw [wrapS h (by omega)]
        refine ih.to ?_
        simp only [List.findIdx?_cons, hp, Bool.false_eq_true, if_false]
        cases (l.drop (i + 1)).findIdx? p with
        | none => rfl
        | some j => simp only [Option.map_some]; congr 1; omega
  refine ⟨_, key, ?_⟩
  simp only
  cases hf : l.findIdx? p with
  | none =>
    simp only
    rw [List.findIdx?_eq_none_iff] at hf
    rw [List.any_eq_false]
    intro x hx
    simp [hf x hx]
  | some j =>
    refine ⟨by omega, ?_⟩
    rw [List.findIdx?_eq_some_iff_getElem] at hf
    obtain ⟨hj, hp, _⟩ := hf
    exact List.any_eq_true.2 ⟨_, List.getElem_mem hj, hp⟩
end Go.Ev
namespace Go.Ev
open Go.RowKit Go.Sort
variable {P : Program}
/-! contracts that are proved elsewhere, in E's words -/
theorem elem_ints {w : World} {G : Nat → Prop} : ∀ {l : List Int} {es : List Value}, Elem (RC w G (.int .i64)) l es ↔ es = l.map (Value.int .i64)
  | [], es => Iff.rfl
  | x :: l, es => by
    constructor
    · rintro ⟨c, d, rfl, h1, h2⟩
      have h1 : c = [.int .i64 x] := h1
      subst h1
      rw [elem_ints.1 h2]; rfl
    · intro h
      subst h
      exact ⟨[.int .i64 x], l.map (Value.int .i64), rfl, rfl, elem_ints.2 rfl⟩
theorem own_of_row {w : World} {base : Nat} {e : TypeId} {v : Value} {l : List Int} (h : w.ownsRow base e 1 v l.length (l.map (Value.int .i64))) :
    ∃ b, (∀ G, OwnV w G (.int .i64) l v b) ∧ v.cells = #[v] ∧ ∀ k, b = some k → base ≤ k ∧ k < w.heap.size := by
  obtain ⟨h1, ⟨rfl, h2⟩ | ⟨g, cap, cur, rfl, h3, h4, h5, h6, h7, h8⟩⟩ := h
  · exact ⟨none, fun G => ⟨List.eq_nil_of_length_eq_zero h2, none, rfl⟩, rfl, fun k hk => by cases hk⟩
  · refine ⟨some g, fun G => ⟨cap, cur, _, cur.toList.take (l.length * 1), cur.toList.drop (l.length * 1), rfl, h4, (List.take_append_drop _ _).symm, elem_ints.2 h8, h7, h5⟩, rfl, fun k hk => ?_⟩
    cases hk
    exact ⟨h3, (Array.getElem?_eq_some_iff.1 h4).1⟩
theorem cells_at {w : World} {b off : Nat} {l : List Int} (h : w.rangeAt b off (l.map (Value.int .i64))) : ∀ j, j < l.length → w.cell? ⟨b, off + j, none⟩ = some (.int .i64 (l[j]?.getD 0)) := fun j hj => by
  refine h j _ ?_
  simp [hj]
theorem WStep.ofBelow {w w' : World} {bs : List (Option Nat)} (h : Below w.heap.size w w') : WStep w w' bs := ⟨h.os, ⟨h.tape, fun e => by cases e⟩, h.output, h.size, fun b hb _ => h.block b hb⟩
/-- slices.Collect at what slices.Values gives -/
theorem collect_meets {f v1 : FuncId} {te : TypeId} (h : ∀ (Bs : Nat) (sv : Value) (zs : List Int), zs.length ≤ 1000000 → ∀ w : World, Bs < w.heap.size → w.cell? ⟨Bs, 0, none⟩ = some sv →
      ((∃ a cap, sv = .slice a 0 cap ∧ zs = []) ∨ ∃ b off cap, sv = .slice (some ⟨b, off, none⟩) zs.length cap ∧ b < w.heap.size ∧ ∀ j, j < zs.length → w.cell? ⟨b, off + j, none⟩ = some (.int .i64 (zs[j]?.getD 0))) →
      Calls P f #[.func (.func v1) #[] #[.pointer (some ⟨Bs, 0, none⟩)]] w fun e w' => ∃ v, e = .returned v ∧ w'.ownsRow w.heap.size te 1 v zs.length (zs.map (Value.int .i64)) ∧ Below w.heap.size w w') :
    Meets P f (mkCon [.func v1 0 (.box (.val (.list (.int .i64))))] [.own (.int .i64)] (fun x => if List.length (α := Int) x.1 ≤ 1000000 then some (x.1, x.1) else none)) := by
  intro x y hy w G vs bs hr hbs hnd hG
  obtain ⟨zs, u⟩ := x
  change List Int at zs
  have hy' : (if List.length (α := Int) zs ≤ 1000000 then some ((zs, zs) : List Int × List Int) else none) = some y := hy
  by_cases hlen : List.length (α := Int) zs ≤ 1000000
  · rw [if_pos hlen] at hy'
    obtain rfl := Option.some.inj hy'
    have hr0 := hr
    obtain ⟨v, vs', b1, b2, rfl, rfl, ⟨hvv, -⟩, h2, rfl, rfl⟩ := hr
    obtain ⟨a1, a2, h3, h4, h5⟩ := h2
    obtain ⟨b, bs', c, e, h6, rfl, h7, h8⟩ := h5
    obtain ⟨rfl, h9, h10⟩ := h8
    obtain ⟨a, cap, h11, h12, h13⟩ := h10 rfl
    have ha1 : a1 = #[] := Array.eq_empty_of_size_eq_zero h4
    subst ha1
    have ha2 : a2 = #[.pointer (some ⟨b, 0, none⟩)] := by
      have : a2.toList = [.pointer (some ⟨b, 0, none⟩)] := by simpa using h6
      exact Array.toList_inj.1 (by simpa using this)
    subst ha2
    have hv : v = .func (.func v1) #[] #[.pointer (some ⟨b, 0, none⟩)] := by
      have hvc : v.cells = #[v] := hvv
      rw [hvc] at h3
      simpa using h3
    subst hv
    have hbl := (hbs b (by simp)).2
    have hcell : w.cell? ⟨b, 0, none⟩ = some (.slice a (List.length (α := Int) zs) cap) := by
      have : c[0]? = some (.slice a (List.length (α := Int) zs) cap) := by
        rw [← Array.getElem?_toList, h11]; rfl
      simp [World.cell?, h7, this]
    have hcall := h b _ zs hlen w hbl hcell (by
      by_cases hz : zs = ([] : List Int)
      · exact .inl ⟨a, cap, by rw [hz]; rfl, hz⟩
      · obtain ⟨b', off, es, rfl, hGb, he, hra⟩ := h13 hz
        refine .inr ⟨b', off, cap, rfl, hG b' hGb, ?_⟩
        rw [elem_ints.1 he] at hra
        exact cells_at hra)
    refine hcall.mono ?_
    rintro e' w' ⟨v, rfl, hrow, hb⟩
    obtain ⟨bo, ho, hvc, hk⟩ := own_of_row hrow
    have hne : ∀ k, bo = some k → k ≠ b := fun k hk' e => by have := (hk k hk').1; omega
    refine ⟨[v], [some b], [bo], rfl, ?_, ?_, ?_⟩
    · exact RRs.up (rs := [.func v1 0 (.box (.val (.list (.int .i64))))]) (x := (zs, u)) ⟨Eq.refl zs, trivial⟩ (RRs.imp (fun b hb => .inl hb) (fun b hb' => hb.block b (hG b hb')) (fun k hk => hb.block k (hbs k (by simpa using hk)).2) hr0)
    · exact ⟨v, [], [bo], [], rfl, rfl, ⟨hvc, trivial⟩, ⟨v, bo, by rw [hvc], rfl, ho _⟩, rfl, rfl⟩
    · refine ⟨WStep.ofBelow hb, ?_, ?_⟩
      · cases bo with
        | none => simp [somes]
        | some k => simp [somes]; exact fun e => hne k rfl e.symm
      · intro k hk'
        simp only [List.cons_append, List.nil_append, List.mem_cons, List.not_mem_nil, or_false, Option.some.injEq] at hk'
        rcases hk' with rfl | hk'
        · exact ⟨.inl (by simp), Nat.lt_of_lt_of_le hbl hb.size⟩
        · exact ⟨.inr (hk k hk'.symm).1, (hk k hk'.symm).2⟩
  · rw [if_neg hlen] at hy'; cases hy'
/-! a row that is written over where it lies -/
theorem putCells_ints (cur : Array Value) (d : List Int) (h : d.length ≤ cur.size) : (Sort.putCells (Value.int .i64) 0 d.toArray cur).toList = d.map (Value.int .i64) ++ cur.toList.drop d.length := by
  apply List.ext_getElem?
  intro j
  rw [List.getElem?_append]
  by_cases hj : j < d.length
  · have hc : j < cur.size := by omega
    simp [Sort.putCells, hj, hc]
  · simp only [List.length_map, hj, if_false]
    rw [List.getElem?_drop, show d.length + (j - d.length) = j by omega]
    simp only [Sort.putCells, Array.toList_mapIdx, List.getElem?_mapIdx, Array.getElem?_toList]
    cases hc : cur[j]? with
    | none => rfl
    | some y =>
      simp [hj]
def overW (w : World) (b q : Nat) (d : List Int) (os : Array Go.Obj) : World := grow (putRow (Value.int .i64) (Sort.ahead w q) b 0 d.toArray) os
theorem overW_at {w : World} {b q : Nat} {d : List Int} {os : Array Go.Obj} {c : Array Value} {e : TypeId} (hb : w.heap[b]? = some (.cells c e (0, 0))) :
    (overW w b q d os).heap[b]? = some (.cells (Sort.putCells (Value.int .i64) 0 d.toArray c) e (0, 0)) := by
  have hg : b < w.heap.size := (Array.getElem?_eq_some_iff.1 hb).1
  simp only [overW, grow, putRow, mapBlock]
  rw [Array.getElem?_append_left (by simpa using hg), Array.getElem?_modify, if_pos rfl]
  show (w.heap[b]?).map _ = _
  rw [hb]; rfl
theorem overW_step {w : World} {b q : Nat} {d : List Int} {os : Array Go.Obj} : WStep w (overW w b q d os) [some b] := by
  refine ⟨rfl, ⟨rfl, fun _ => Nat.le_add_right _ _⟩, rfl, by simp [overW, putRow, mapBlock, grow], fun k hk hne => ?_⟩
  have hne : b ≠ k := fun e => hne (by rw [e]; simp)
  simp only [overW, grow, putRow, mapBlock]
  rw [Array.getElem?_append_left (by simpa using hk), Array.getElem?_modify, if_neg hne]
  rfl
theorem own_holds {w : World} {b : Nat} {c : Array Value} {e : TypeId} {l : List Int} {sp : List Value} (hb : w.heap[b]? = some (.cells c e (0, 0))) (hc : c.toList = l.map (Value.int .i64) ++ sp) : Holds (Value.int .i64) w b 0 l.toArray := by
  intro j hj
  have hj : j < l.length := by simpa using hj
  have hx : c[j]? = some (.int .i64 l[j]) := by
    rw [← Array.getElem?_toList, hc, List.getElem?_append_left (by simpa using hj)]
    simp [hj]
  constructor
  · simp [World.cell?, hb, hx, hj]
  · simp [World.frozen?, hb]
def ins (x : Int) : List Int → List Int
  | [] => [x]
  | y :: l => if x ≤ y then x :: y :: l else y :: ins x l
def isort : List Int → List Int
  | [] => []
  | x :: l => ins x (isort l)
theorem ins_perm (x : Int) : ∀ l, (ins x l).Perm (x :: l)
  | [] => .refl _
  | y :: l => by
    unfold ins
    split
    · exact .refl _
    · exact ((ins_perm x l).cons y).trans (.swap x y l)
theorem isort_perm : ∀ l, (isort l).Perm l
  | [] => .refl _
  | x :: l => (ins_perm x _).trans ((isort_perm l).cons x)
theorem isort_length (l : List Int) : (isort l).length = l.length := (isort_perm l).length_eq
theorem ins_pw (x : Int) : ∀ l : List Int, l.Pairwise (fun a b => a ≤ b) → (ins x l).Pairwise (fun a b => a ≤ b)
  | [], _ => by simp [ins]
  | y :: l, h => by
    have h1 := List.pairwise_cons.mp h
    unfold ins
    split
    · next hx =>
      refine List.pairwise_cons.mpr ⟨fun z hz => ?_, h⟩
      rcases List.mem_cons.mp hz with e | e
      · rw [e]; exact hx
      · exact Int.le_trans hx (h1.1 z e)
    · next hx =>
      refine List.pairwise_cons.mpr ⟨fun z hz => ?_, ins_pw x l h1.2⟩
      rcases List.mem_cons.mp ((ins_perm x l).mem_iff.mp hz) with e | e
      · rw [e]; omega
      · exact h1.1 z e
theorem isort_pw : ∀ l : List Int, (isort l).Pairwise (fun a b => a ≤ b)
  | [] => .nil
  | x :: l => ins_pw x _ (isort_pw l)
theorem pw_unique : ∀ l m : List Int, l.Perm m → l.Pairwise (fun a b => a ≤ b) → m.Pairwise (fun a b => a ≤ b) → l = m
  | [], m, hp, _, _ => (hp.symm.eq_nil).symm
  | a :: l, [], hp, _, _ => absurd hp.eq_nil (by simp)
  | a :: l, b :: m, hp, h1, h2 => by
    have h1' := List.pairwise_cons.mp h1
    have h2' := List.pairwise_cons.mp h2
    have hab : a = b := by
      rcases List.mem_cons.mp (hp.mem_iff.mp (List.mem_cons_self ..) : a ∈ b :: m) with e | e
      · exact e
      · rcases List.mem_cons.mp (hp.symm.mem_iff.mp (List.mem_cons_self ..) : b ∈ a :: l) with e2 | e2
        · exact e2.symm
        · exact Int.le_antisymm (h1'.1 b e2) (h2'.1 a e)
    subst hab
    rw [pw_unique l m (hp.cons_inv) h1'.2 h2'.2]
theorem msort (l : List Int) : l.mergeSort (fun x y => decide (x ≤ y)) = isort l := by
  refine pw_unique _ _ ((List.mergeSort_perm l _).trans (isort_perm l).symm) ?_ (isort_pw l)
  have := List.pairwise_mergeSort (le := fun x y : Int => decide (x ≤ y)) (fun a b c h1 h2 => by simp at *; omega) (fun a b => by simp; omega) l
  simpa using this
/-- slices.Sort of numbers, in place -/
theorem sort_meets {f : FuncId} (h : ∀ (blk off cap : Nat) (zs : List Int) (w : World), Holds (Value.int .i64) w blk off zs.toArray → blk < w.heap.size → zs.length < 4611686018427387904 →
      Calls P f #[.slice (some ⟨blk, off, none⟩) zs.length cap] w fun e w' => e = .returned (.tuple #[]) ∧ ∃ n os, w' = grow (putRow (Value.int .i64) (Sort.ahead w n) blk off (zs.mergeSort fun x y => decide (x ≤ y)).toArray) os) :
    Meets P f (mkCon [.ip (.int .i64)] [] (fun x => if List.length (α := Int) x.1 < 4611686018427387904 then some (isort x.1) else none)) := by
  intro x y hy w G vs bs hr hbs hnd hG
  obtain ⟨zs, u⟩ := x
  change List Int at zs
  have hy' : (if List.length (α := Int) zs < 4611686018427387904 then some (isort zs) else none) = some y := hy
  by_cases hlen : List.length (α := Int) zs < 4611686018427387904
  · rw [if_pos hlen] at hy'
    obtain rfl := Option.some.inj hy'
    obtain ⟨v, vs', b1, b2, rfl, rfl, ⟨hvv, -⟩, h2, rfl, rfl⟩ := hr
    obtain ⟨v', b, h3, rfl, ⟨cap, c, e, es, sp, rfl, h4, h5, h6, h7, h8⟩, h9⟩ := h2
    have hvc : v.cells = #[v] := hvv
    rw [hvc] at h3
    have h3' : v = .slice (some ⟨b, 0, none⟩) (List.length (α := Int) zs) cap := by
      have h3 := h3
      simp only [List.cons.injEq, and_true] at h3
      exact h3
    subst h3'
    replace h8 : zs.length ≤ cap := h8
    replace h9 : 0 < zs.length := h9
    obtain rfl := elem_ints.1 h6
    refine (h b 0 cap zs w (own_holds h4 h5) (hbs b (by simp)).2 hlen).mono ?_
    rintro e' w' ⟨rfl, q, os, rfl⟩
    rw [msort]
    have hcz : List.length (α := Int) zs ≤ c.size := by
      have : c.size = cap := by simpa [Ty.size] using h7
      omega
    have hat := overW_at (q := q) (d := isort zs) (os := os) h4
    refine ⟨[], [some b], [], rfl, ?_, ⟨rfl, rfl⟩, overW_step, by simp [somes], ?_⟩
    · refine ⟨_, [], [some b], [], rfl, rfl, ⟨hvv, trivial⟩, ⟨_, b, by rw [hvc], rfl, ⟨cap, _, e, _, _, by rw [← isort_length zs]; rfl, hat, putCells_ints c (isort zs) (by rw [isort_length]; exact hcz), elem_ints.2 rfl, ?_, ?_⟩, ?_⟩, rfl, rfl⟩
      · rw [← h7]; simp [Sort.putCells]
      · show (isort zs).length ≤ cap
        rw [isort_length]; exact h8
      · show 0 < (isort zs).length
        rw [isort_length]; exact h9
    · intro k hk
      obtain rfl : k = b := by simpa using hk
      exact ⟨.inl (by simp), Nat.lt_of_lt_of_le (hbs k (by simp)).2 overW_step.size⟩
  · rw [if_neg hlen] at hy'; cases hy'
/-- the same where there is none -/
theorem sort_empty_meets {f : FuncId} (h : ∀ (a : Option Addr) (cap : Nat) (w : World), Calls P f #[.slice a 0 cap] w fun e w' => e = .returned (.tuple #[]) ∧ w' = w) :
    Meets P f (mkCon [.val (.list (.int .i64))] [] (fun x => if List.length (α := Int) x.1 = 0 then some () else none)) := by
  intro x y hy w G vs bs hr hbs hnd hG
  obtain ⟨zs, u⟩ := x
  change List Int at zs
  have hy' : (if List.length (α := Int) zs = 0 then some () else none) = some y := hy
  by_cases hlen : List.length (α := Int) zs = 0
  · have hr0 := hr
    obtain ⟨v, vs', b1, b2, rfl, rfl, ⟨hvv, -⟩, ⟨rfl, -, h3⟩, rfl, rfl⟩ := hr
    obtain ⟨a, cap, h4, -, -⟩ := h3 rfl
    have hvc : v.cells = #[v] := hvv
    rw [hvc] at h4
    have h4' : v = .slice a (List.length (α := Int) zs) cap := by
      have h4 := h4
      simp only [List.cons.injEq, and_true] at h4
      exact h4
    subst h4'
    rw [hlen] at hr0 ⊢
    refine (h a cap w).mono ?_
    rintro e' w' ⟨rfl, rfl⟩
    refine ⟨[], [], [], rfl, RRs.up (rs := [.val (.list (.int .i64))]) (x := (zs, u)) ⟨trivial, trivial⟩ (RRs.imp (fun b hb => .inl hb) (fun _ _ => rfl) (fun _ _ => rfl) hr0), ⟨rfl, rfl⟩, ⟨rfl, Td.refl _, rfl, Nat.le_refl _, fun _ _ _ => rfl⟩, by simp [somes], fun k hk => by cases hk⟩
  · rw [if_neg hlen] at hy'; cases hy'
/-- slices.Compact of numbers that are given away -/
theorem compact_meets {f : FuncId} {cmp : List Int → List Int} (hc : ∀ zs, (cmp zs).length ≤ zs.length)
    (h : ∀ (blk off cap : Nat) (zs : List Int) (w : World), Holds (Value.int .i64) w blk off zs.toArray → zs.length ≤ 9223372036854775807 → zs.length ≤ cap →
      Calls P f #[.slice (some ⟨blk, off, none⟩) zs.length cap] w fun e w' => e = .returned (.slice (some ⟨blk, off, none⟩) (cmp zs).length cap) ∧ ∃ q, w' = putRow (Value.int .i64) (Sort.ahead w q) blk off (cmp zs ++ List.replicate (zs.length - (cmp zs).length) 0).toArray)
    (h0 : ∀ (a : Option Addr) (cap : Nat) (w : World), Calls P f #[.slice a 0 cap] w fun e w' => e = .returned (.slice a 0 cap) ∧ w' = w) :
    Meets P f (mkCon [.mv (.int .i64)] [.own (.int .i64)] (fun x => if List.length (α := Int) x.1 ≤ 9223372036854775807 then some (cmp x.1) else none)) := by
  intro x y hy w G vs bs hr hbs hnd hG
  obtain ⟨zs, u⟩ := x
  change List Int at zs
  have hy' : (if List.length (α := Int) zs ≤ 9223372036854775807 then some (cmp zs) else none) = some y := hy
  by_cases hlen : List.length (α := Int) zs ≤ 9223372036854775807
  · rw [if_pos hlen] at hy'
    obtain rfl := Option.some.inj hy'
    obtain ⟨v, vs', b1, b2, rfl, rfl, ⟨hvv, -⟩, h2, rfl, rfl⟩ := hr
    have hvc : v.cells = #[v] := hvv
    obtain ⟨v', bo, h3, rfl, h4⟩ := h2
    rw [hvc] at h3
    obtain rfl : v = v' := by simpa using h3
    cases bo with
    | none =>
      obtain ⟨rfl, a, rfl⟩ := h4
      refine (h0 a 0 w).mono ?_
      rintro e' w' ⟨rfl, rfl⟩
      have he : cmp [] = [] := List.eq_nil_of_length_eq_zero (by have := hc []; simpa using this)
      refine ⟨[.slice a 0 0], [], [none], rfl, ⟨_, [], [], [], rfl, rfl, ⟨hvv, trivial⟩, rfl, rfl, rfl⟩, ⟨_, [], [none], [], rfl, rfl, ⟨hvv, trivial⟩, ⟨_, none, rfl, rfl, he, a, rfl⟩, rfl, rfl⟩, ⟨rfl, Td.refl _, rfl, Nat.le_refl _, fun _ _ _ => rfl⟩, by simp [somes], fun k hk => by simp at hk⟩
    | some b =>
      obtain ⟨cap, c, e, es, sp, rfl, h5, h6, h7, h8, h9⟩ := h4
      replace h9 : zs.length ≤ cap := h9
      obtain rfl := elem_ints.1 h7
      refine (h b 0 cap zs w (own_holds h5 h6) hlen h9).mono ?_
      rintro e' w' ⟨rfl, q, rfl⟩
      have hw : ∀ w : World, putRow (Value.int .i64) (Sort.ahead w q) b 0 (cmp zs ++ List.replicate (zs.length - (cmp zs).length) 0).toArray = overW w b q (cmp zs ++ List.replicate (zs.length - (cmp zs).length) 0) #[] := fun w => by
        unfold overW; rw [grow_empty]
      rw [hw]
      have hcz : List.length (α := Int) zs ≤ c.size := by
        have : c.size = cap := by simpa [Ty.size] using h8
        omega
      have hl : (cmp zs ++ List.replicate (zs.length - (cmp zs).length) 0).length ≤ c.size := by
        have := hc zs
        simp only [List.length_append, List.length_replicate]
        omega
      have hat := overW_at (q := q) (d := cmp zs ++ List.replicate (zs.length - (cmp zs).length) 0) (os := #[]) h5
      have hpc := putCells_ints c (cmp zs ++ List.replicate (zs.length - (cmp zs).length) 0) hl
      rw [List.map_append, List.append_assoc] at hpc
      refine ⟨[.slice (some ⟨b, 0, none⟩) (cmp zs).length cap], [], [some b], rfl, ⟨_, [], [], [], rfl, rfl, ⟨hvv, trivial⟩, rfl, rfl, rfl⟩, ⟨_, [], [some b], [], rfl, rfl, ⟨rfl, trivial⟩, ⟨_, some b, rfl, rfl, ⟨cap, _, e, _, _, rfl, hat, hpc, elem_ints.2 rfl, ?_, ?_⟩⟩, rfl, rfl⟩, overW_step, by simp [somes], ?_⟩
      · rw [← h8]; simp [Sort.putCells]
      · exact Nat.le_trans (hc zs) h9
      · intro k hk
        obtain rfl : k = b := by simpa using hk
        exact ⟨.inl (by simp), Nat.lt_of_lt_of_le (hbs k (by simp)).2 overW_step.size⟩
  · rw [if_neg hlen] at hy'; cases hy'
/-- slices.Clone of numbers -/
theorem clone_meets {f : FuncId} {te : TypeId}
    (h : ∀ (b off n c : Nat) (zs : List Int) (w : World), n ≤ zs.length → n * 8 ≤ 140737488355328 → (∀ j, j < zs.length → w.cell? ⟨b, off + j, none⟩ = some (.int .i64 (zs.getD j 0))) →
      Calls P f #[.slice (some ⟨b, off, none⟩) n c] w fun e w' => ∃ v', e = .returned v' ∧ w'.ownsRow w.heap.size te 1 v' n ((zs.take n).map (Value.int .i64)) ∧ v' ≠ .slice none 0 0 ∧ Below w.heap.size w w')
    (h0 : ∀ (n c : Nat) (w : World), Calls P f #[.slice none n c] w fun e w' => e = .returned (.slice none 0 0) ∧ w' = w)
    (h1 : ∀ (a : Addr) (c : Nat) (w : World), Calls P f #[.slice (some a) 0 c] w fun e w' => ∃ v', e = .returned v' ∧ w'.ownsRow w.heap.size te 1 v' 0 [] ∧ v' ≠ .slice none 0 0 ∧ Below w.heap.size w w') :
    Meets P f (mkCon [.val (.list (.int .i64))] [.own (.int .i64)] (fun x => if List.length (α := Int) x.1 ≤ 1000000 then some x.1 else none)) := by
  intro x y hy w G vs bs hr hbs hnd hG
  obtain ⟨zs, u⟩ := x
  change List Int at zs
  have hy' : (if List.length (α := Int) zs ≤ 1000000 then some (zs : List Int) else none) = some y := hy
  by_cases hlen : List.length (α := Int) zs ≤ 1000000
  · rw [if_pos hlen] at hy'
    obtain rfl := Option.some.inj hy'
    have hr0 := hr
    obtain ⟨v, vs', b1, b2, rfl, rfl, ⟨hvv, -⟩, ⟨rfl, -, h3⟩, rfl, rfl⟩ := hr
    obtain ⟨a, cap, h4, h5, h6⟩ := h3 rfl
    have hvc : v.cells = #[v] := hvv
    rw [hvc] at h4
    have h4' : v = .slice a (List.length (α := Int) zs) cap := by
      have h4 := h4
      simp only [List.cons.injEq, and_true] at h4
      exact h4
    have hcall : Calls P f #[v] w fun e w' => ∃ v', e = .returned v' ∧ w'.ownsRow w.heap.size te 1 v' zs.length (zs.map (Value.int .i64)) ∧ Below w.heap.size w w' := by
      rw [h4']
      by_cases hz : zs = []
      · subst hz
        cases a with
        | none => exact (h0 0 cap w).mono fun e w' ⟨e1, e2⟩ => ⟨_, e1, ⟨rfl, .inl ⟨rfl, rfl⟩⟩, by rw [e2]; exact Below.refl _ _⟩
        | some a => exact (h1 a cap w).mono fun e w' ⟨v', e1, e2, _, e3⟩ => ⟨v', e1, e2, e3⟩
      · obtain ⟨b, off, es, rfl, hGb, he, hra⟩ := h6 hz
        rw [elem_ints.1 he] at hra
        refine (h b off zs.length cap zs w (Nat.le_refl _) (by omega) (fun j hj => by rw [cells_at hra j hj, List.getD_eq_getElem?_getD])).mono ?_
        rintro e w' ⟨v', e1, e2, _, e3⟩
        rw [List.take_length] at e2
        exact ⟨v', e1, e2, e3⟩
    refine hcall.mono ?_
    rintro e' w' ⟨v', rfl, hrow, hb⟩
    obtain ⟨bo, ho, hvc', hk⟩ := own_of_row hrow
    refine ⟨[v'], [], [bo], rfl, ?_, ?_, ?_⟩
    · exact RRs.up (rs := [.val (.list (.int .i64))]) (x := (zs, u)) ⟨trivial, trivial⟩ (RRs.imp (fun b hb => .inl hb) (fun b hb' => hb.block b (hG b hb')) (fun k hk => by simp at hk) hr0)
    · exact ⟨v', [], [bo], [], rfl, rfl, ⟨hvc', trivial⟩, ⟨v', bo, by rw [hvc'], rfl, ho _⟩, rfl, rfl⟩
    · refine ⟨WStep.ofBelow hb, ?_, ?_⟩
      · cases bo <;> simp [somes]
      · intro k hk'
        obtain rfl : bo = some k := by simpa [eq_comm] using hk'
        exact ⟨.inr (hk k rfl).1, (hk k rfl).2⟩
  · rw [if_neg hlen] at hy'; cases hy'
end Go.Ev
