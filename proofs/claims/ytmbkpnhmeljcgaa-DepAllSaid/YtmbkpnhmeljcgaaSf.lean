/- slices.SortFunc of what hangs on what, by dep.compare: the shelf's contract in the words of the printed functions. Conditions: each theorem's own. -/
import Derived.Test.YtmbkpnhmeljcgaaE5
import Derived.Test.YtmbkpnhmeljcgaaSc
import Derived.Shelf.GgSortFunc.RowK
import Derived.Shelf.SlSortCmp.InsertionK
set_option linter.unusedVariables false
set_option linter.unusedSimpArgs false
noncomputable section
namespace Go.PrD
open Go Go.Ev Go.Sort Go.RowKit Go.Proofs
abbrev Dep : Type := Int × (Int × (Int × Unit))
abbrev tDep : Ty := .pair (.int .i64) (.pair (.int .i64) (.pair (.int .i64) .unit))
def enc (x : Dep) : List Value := [.int .i64 x.1, .int .i64 x.2.1, .int .i64 x.2.2.1]
theorem flat_len (xs : List Dep) : (xs.flatMap enc).length = xs.length * 3 := by
  induction xs with
  | nil => rfl
  | cons x xs ih => rw [List.flatMap_cons, List.length_append, ih, List.length_cons]; simp only [enc, List.length_cons, List.length_nil]; omega
theorem flat_get : ∀ (xs : List Dep) (t : Nat), (xs.flatMap enc)[t]? = (xs[t / 3]?).bind fun x => (enc x)[t % 3]?
  | [], t => by simp
  | x :: xs, t => by
    rw [List.flatMap_cons, List.getElem?_append]
    by_cases h : t < 3
    · rw [if_pos (by simpa [enc] using h), Nat.div_eq_of_lt h, Nat.mod_eq_of_lt h]; rfl
    · rw [if_neg (by simpa [enc] using h), flat_get xs]
      obtain ⟨s, rfl⟩ : ∃ s, t = s + 3 := ⟨t - 3, by omega⟩
      rw [show (enc x).length = 3 from rfl, Nat.add_sub_cancel, Nat.add_div_right _ (by omega), Nat.add_mod_right]; rfl
theorem enc_flatK (xs : List Dep) : flatK enc 3 xs.toArray = (xs.flatMap enc).toArray := by
  apply Array.ext_getElem?
  intro t
  rw [show (xs.flatMap enc).toArray[t]? = (xs.flatMap enc)[t]? by simp, flat_get]
  simp only [flatK, Array.getElem?_map]
  by_cases h : t < xs.length * 3
  · have h1 : t / 3 < xs.length := by omega
    have h2 : t % 3 < 3 := Nat.mod_lt _ (by omega)
    have e3 : (enc xs[t / 3]).length = 3 := rfl
    simp [h, h1, List.getElem?_eq_getElem (show t % 3 < (enc xs[t / 3]).length by rw [e3]; exact h2)]
  · have h1 : ¬ t / 3 < xs.length := by omega
    simp [h, h1]
theorem rc_enc {w : World} {G : Nat → Prop} {x : Dep} {c : List Value} : RC w G tDep x c ↔ c = enc x := by
  obtain ⟨a, b, d, u⟩ := x
  constructor
  · rintro ⟨c1, c2, rfl, h1, c3, c4, rfl, h2, c5, c6, rfl, h3, h4⟩
    have h1 : c1 = [.int .i64 a] := h1
    have h2 : c3 = [.int .i64 b] := h2
    have h3 : c5 = [.int .i64 d] := h3
    have h4 : c6 = [] := h4
    subst h1 h2 h3 h4
    rfl
  · rintro rfl
    exact ⟨[.int .i64 a], [.int .i64 b, .int .i64 d], rfl, rfl, [.int .i64 b], [.int .i64 d], rfl, rfl, [.int .i64 d], [], rfl, rfl, rfl⟩
theorem elem_enc {w : World} {G : Nat → Prop} : ∀ {l : List Dep} {es : List Value}, Elem (RC w G tDep) l es ↔ es = l.flatMap enc
  | [], es => Iff.rfl
  | x :: l, es => by
    constructor
    · rintro ⟨c, d, rfl, h1, h2⟩
      rw [rc_enc.1 h1, elem_enc.1 h2]; rfl
    · intro h
      subst h
      exact ⟨enc x, l.flatMap enc, rfl, rc_enc.2 rfl, elem_enc.2 rfl⟩
/-- which one stands first -/
def dlt (x y : Dep) : Bool := decide (x.1 < y.1) || (decide (x.1 = y.1) && (decide (x.2.1 < y.2.1) || (decide (x.2.1 = y.2.1) && decide (x.2.2.1 < y.2.2.1))))
theorem dlt_true {x y : Dep} : dlt x y = true ↔ (x.1 < y.1 ∨ (x.1 = y.1 ∧ (x.2.1 < y.2.1 ∨ (x.2.1 = y.2.1 ∧ x.2.2.1 < y.2.2.1)))) := by simp [dlt]
theorem dlt_false {x y : Dep} : dlt x y = false ↔ ¬ (x.1 < y.1 ∨ (x.1 = y.1 ∧ (x.2.1 < y.2.1 ∨ (x.2.1 = y.2.1 ∧ x.2.2.1 < y.2.2.1)))) := by rw [← dlt_true]; simp
def cmpI (a b : Int) : Int := if a < b then -1 else if a > b then 1 else 0
def cmpD (x y : Dep) : Int := if cmpI x.1 y.1 ≠ 0 then cmpI x.1 y.1 else if cmpI x.2.1 y.2.1 ≠ 0 then cmpI x.2.1 y.2.1 else cmpI x.2.2.1 y.2.2.1
theorem cmp_lt (x y : Dep) : ltOf cmpD x y = dlt x y := by
  rw [Bool.eq_iff_iff, dlt_true]
  unfold ltOf
  rw [decide_eq_true_iff]
  unfold cmpD cmpI
  by_cases h1 : x.1 < y.1
  · simp [h1]
  · by_cases h2 : x.1 > y.1
    · have h3 : ¬ x.1 = y.1 := by omega
      simp [h1, h2, h3]
    · have h3 : x.1 = y.1 := by omega
      by_cases h4 : x.2.1 < y.2.1
      · simp [h3, h4]
      · by_cases h5 : x.2.1 > y.2.1
        · have h6 : ¬ x.2.1 = y.2.1 := by omega
          simp [h3, h4, h5, h6]
        · have h6 : x.2.1 = y.2.1 := by omega
          by_cases h7 : x.2.2.1 < y.2.2.1
          · simp [h3, h6, h7]
          · by_cases h8 : x.2.2.1 > y.2.2.1
            · simp [h3, h6, h7, h8]
            · simp [h3, h6, h7, h8]
theorem cmp_swo : SWO (ltOf cmpD) := by
  refine ⟨fun x => ?_, fun x y z h1 h2 => ?_, fun x y z h1 h2 => ?_⟩
  · rw [cmp_lt, dlt_false]; omega
  · rw [cmp_lt, dlt_true] at *; omega
  · rw [cmp_lt, dlt_false] at *; omega
theorem dep_ext {x y : Dep} (h1 : x.1 = y.1) (h2 : x.2.1 = y.2.1) (h3 : x.2.2.1 = y.2.2.1) : x = y := by
  obtain ⟨a, b, c, u⟩ := x
  obtain ⟨d, e, f, v⟩ := y
  simp only at h1 h2 h3
  subst h1 h2 h3
  rfl
theorem cmp_total (x y : Dep) (h1 : ltOf cmpD x y = false) (h2 : ltOf cmpD y x = false) : x = y := by
  rw [cmp_lt, dlt_false] at h1 h2
  exact dep_ext (by omega) (by omega) (by omega)
theorem cmpI_ok (n : Nat) (a b : Int) : PrC.cmp_Compare_int n a b = some (cmpI a b) := by
  unfold PrC.cmp_Compare_int PrC.cmp_isNaN_int cmpI
  simp
  split
  · rfl
  · split <;> rfl
theorem or3_ok (a b c : Int) : PrC.cmp_Or_int 5 [a, b, c] = some (if a ≠ 0 then a else if b ≠ 0 then b else c) := by
  have w1 : IntKind.wrap .i64 1 = 1 := by decide +kernel
  have w2 : IntKind.wrap .i64 2 = 2 := by decide +kernel
  have w3 : IntKind.wrap .i64 3 = 3 := by decide +kernel
  by_cases ha : a = 0
  · by_cases hb : b = 0
    · by_cases hc : c = 0
      · subst ha hb hc; simp [PrC.cmp_Or_int, PrC.cmp_Or_int_l3, w1, w2, w3]
      · subst ha hb; simp [PrC.cmp_Or_int, PrC.cmp_Or_int_l3, w1, w2, w3, hc]
    · subst ha; simp [PrC.cmp_Or_int, PrC.cmp_Or_int_l3, w1, w2, w3, hb]
  · simp [PrC.cmp_Or_int, PrC.cmp_Or_int_l3, w1, w2, w3, ha]
theorem cmpD_ok (x y : Dep) : PrC.dep_compare 5 x y = some (cmpD x y) := by
  unfold PrC.dep_compare
  rw [cmpI_ok, cmpI_ok, cmpI_ok]
  simp only [Option.bind_some]
  rw [or3_ok]; rfl
/-- what a call adds to the world: draws, and blocks behind -/
theorem gn_of {w w' : World} (h : @WStep ⟨true⟩ w w' []) : ∃ q os, w' = grow (w.drewN q) os := by
  obtain ⟨h1, h2, h3, h4, h5⟩ := h
  refine ⟨w'.drawn - w.drawn, w'.heap.extract w.heap.size w'.heap.size, ?_⟩
  have hd := h2.2 rfl
  have ht := h2.1
  obtain ⟨heap, tape, drawn, os, output⟩ := w
  obtain ⟨heap', tape', drawn', os', output'⟩ := w'
  simp only at h1 h3 h4 h5 hd ht
  subst h1 h3 ht
  simp only [grow, World.drewN, World.mk.injEq, true_and, and_true]
  refine ⟨?_, by omega⟩
  apply Array.ext_getElem?
  intro i
  rw [Array.getElem?_append]
  split
  · rename_i hi
    exact h5 i hi (by simp)
  · rename_i hi
    rw [Array.getElem?_extract]
    by_cases hj : i < heap'.size
    · rw [if_pos (by omega)]
      congr 1
      omega
    · rw [if_neg (by omega), Array.getElem?_eq_none (by omega)]
section
attribute [local instance high] PrC.strictI
/-- dep.compare, called with two values -/
theorem cmp_calls (W : World) (x y : Dep) : Calls Try.prog 18 (#[.agg (enc x).toArray, .agg (enc y).toArray] ++ #[]) W fun e w' => e = .returned (.int .i64 (cmpD x y)) ∧ ∃ q os, w' = grow (W.drewN q) os := by
  have hM := PrC.dep_compare_m 5 (x, y, ()) (cmpD x y) (cmpD_ok x y) W (fun _ => False) [.agg (enc x).toArray, .agg (enc y).toArray] []
    ⟨_, _, [], [], rfl, rfl, ⟨⟨_, rfl⟩, trivial⟩, ⟨rfl, rfl, fun _ => rc_enc.2 rfl⟩, _, _, [], [], rfl, rfl, ⟨⟨_, rfl⟩, trivial⟩, ⟨rfl, rfl, fun _ => rc_enc.2 rfl⟩, rfl, rfl⟩ (fun b hb => by cases hb) (by simp [somes]) (fun _ h => h.elim)
  refine hM.mono ?_
  rintro e w' ⟨us, bs1, bs2, rfl, hr1, hr2, ho⟩
  obtain ⟨v, vs', b1, b2, rfl, rfl, ⟨hvv, -⟩, ⟨rfl, -, h3⟩, rfl, rfl⟩ := hr2
  have h3 : v.cells.toList = [.int .i64 (cmpD x y)] := h3 rfl
  have hvc : v.cells = #[v] := hvv
  rw [hvc] at h3
  have h3 : v = .int .i64 (cmpD x y) := by simpa using h3
  subst h3
  exact ⟨rfl, gn_of ho.step⟩
end
/-! a row that is written over where it lies -/
theorem putCells_vals (cur : Array Value) (d : List Value) (h : d.length ≤ cur.size) : (Sort.putCells id 0 d.toArray cur).toList = d ++ cur.toList.drop d.length := by
  apply List.ext_getElem?
  intro j
  rw [List.getElem?_append]
  by_cases hj : j < d.length
  · have hc : j < cur.size := by omega
    simp [Sort.putCells, hj, hc]
  · simp only [hj, if_false]
    rw [List.getElem?_drop, show d.length + (j - d.length) = j by omega]
    simp only [Sort.putCells, Array.toList_mapIdx, List.getElem?_mapIdx, Array.getElem?_toList]
    cases hc : cur[j]? with
    | none => rfl
    | some y => simp [hj]
def overV (w : World) (b q : Nat) (d : List Value) (os : Array Go.Obj) : World := grow (putRow id (Sort.ahead w q) b 0 d.toArray) os
theorem overV_at {w : World} {b q : Nat} {d : List Value} {os : Array Go.Obj} {c : Array Value} {e : TypeId} (hb : w.heap[b]? = some (.cells c e (0, 0))) :
    (overV w b q d os).heap[b]? = some (.cells (Sort.putCells id 0 d.toArray c) e (0, 0)) := by
  have hg : b < w.heap.size := (Array.getElem?_eq_some_iff.1 hb).1
  simp only [overV, grow, putRow, mapBlock]
  rw [Array.getElem?_append_left (by simpa using hg), Array.getElem?_modify, if_pos rfl]
  show (w.heap[b]?).map _ = _
  rw [hb]; rfl
theorem overV_step {w : World} {b q : Nat} {d : List Value} {os : Array Go.Obj} : @WStep loose w (overV w b q d os) [some b] := by
  refine ⟨rfl, ⟨rfl, fun _ => Nat.le_add_right _ _⟩, rfl, by simp [overV, putRow, mapBlock, grow], fun k hk hne => ?_⟩
  have hne : b ≠ k := fun e => hne (by rw [e]; simp)
  simp only [overV, grow, putRow, mapBlock]
  rw [Array.getElem?_append_left (by simpa using hk), Array.getElem?_modify, if_neg hne]
  rfl
theorem own_holdsV {w : World} {b : Nat} {c : Array Value} {e : TypeId} {l sp : List Value} (hb : w.heap[b]? = some (.cells c e (0, 0))) (hc : c.toList = l ++ sp) : Holds id w b 0 l.toArray := by
  intro j hj
  have hj : j < l.length := by simpa using hj
  have hx : c[j]? = some l[j] := by
    rw [← Array.getElem?_toList, hc, List.getElem?_append_left (by simpa using hj)]
    simp [hj]
  constructor
  · simp [World.cell?, hb, hx, hj]
  · simp [World.frozen?, hb]
def ins (x : Dep) : List Dep → List Dep
  | [] => [x]
  | y :: l => if dlt y x then y :: ins x l else x :: y :: l
def isort : List Dep → List Dep
  | [] => []
  | x :: l => ins x (isort l)
abbrev Le (a b : Dep) : Prop := dlt b a = false
theorem le_total (a b : Dep) : Le a b ∨ Le b a := by unfold Le; rw [dlt_false, dlt_false]; omega
theorem le_trans' {a b c : Dep} (h1 : Le a b) (h2 : Le b c) : Le a c := by unfold Le at *; rw [dlt_false] at *; omega
theorem le_anti {a b : Dep} (h1 : Le a b) (h2 : Le b a) : a = b := by
  unfold Le at *; rw [dlt_false] at *
  exact dep_ext (by omega) (by omega) (by omega)
theorem ins_perm (x : Dep) : ∀ l, (ins x l).Perm (x :: l)
  | [] => .refl _
  | y :: l => by
    unfold ins
    split
    · exact ((ins_perm x l).cons y).trans (.swap x y l)
    · exact .refl _
theorem isort_perm : ∀ l, (isort l).Perm l
  | [] => .refl _
  | x :: l => (ins_perm x _).trans ((isort_perm l).cons x)
theorem isort_length (l : List Dep) : (isort l).length = l.length := (isort_perm l).length_eq
theorem ins_pw (x : Dep) : ∀ l : List Dep, l.Pairwise Le → (ins x l).Pairwise Le
  | [], _ => by simp [ins]
  | y :: l, h => by
    have h1 := List.pairwise_cons.mp h
    unfold ins
    split
    · next hx =>
      refine List.pairwise_cons.mpr ⟨fun z hz => ?_, ins_pw x l h1.2⟩
      rcases List.mem_cons.mp ((ins_perm x l).mem_iff.mp hz) with e | e
      · rw [e]
        unfold Le; rw [dlt_false]; rw [dlt_true] at hx; omega
      · exact h1.1 z e
    · next hx =>
      have hx : Le x y := by unfold Le; simpa using hx
      refine List.pairwise_cons.mpr ⟨fun z hz => ?_, h⟩
      rcases List.mem_cons.mp hz with e | e
      · rw [e]; exact hx
      · exact le_trans' hx (h1.1 z e)
theorem isort_pw : ∀ l : List Dep, (isort l).Pairwise Le
  | [] => .nil
  | x :: l => ins_pw x _ (isort_pw l)
theorem pw_unique : ∀ l m : List Dep, l.Perm m → l.Pairwise Le → m.Pairwise Le → l = m
  | [], m, hp, _, _ => (hp.symm.eq_nil).symm
  | a :: l, [], hp, _, _ => absurd hp.eq_nil (by simp)
  | a :: l, b :: m, hp, h1, h2 => by
    have h1' := List.pairwise_cons.mp h1
    have h2' := List.pairwise_cons.mp h2
    have hab : a = b := by
      rcases List.mem_cons.mp (hp.mem_iff.mp (List.mem_cons_self ..) : a ∈ b :: m) with e | e
      · exact e
      · rcases List.mem_cons.mp (hp.symm.mem_iff.mp (List.mem_cons_self ..) : b ∈ a :: l) with e2 | e2
        · exact e2.symm
        · exact le_anti (h1'.1 b e2) (h2'.1 a e)
    subst hab
    rw [pw_unique l m (hp.cons_inv) h1'.2 h2'.2]
theorem msort (l : List Dep) : (l.mergeSort fun x y => !(ltOf cmpD) y x) = isort l := by
  have e : (fun x y => !(ltOf cmpD) y x) = fun x y => !dlt y x := by funext x y; rw [cmp_lt]
  rw [e]
  refine pw_unique _ _ ((List.mergeSort_perm l _).trans (isort_perm l).symm) ?_ (isort_pw l)
  have := List.pairwise_mergeSort (le := fun x y : Dep => !dlt y x) (fun a b c h1 h2 => by simp only [Bool.not_eq_true'] at *; exact le_trans' h1 h2) (fun a b => by
    rcases le_total a b with h | h
    · simp [show dlt b a = false from h]
    · simp [show dlt a b = false from h]) l
  exact this.imp fun h => by simpa using h
/-- slices.SortFunc, in place -/
theorem sortf_meets (h : ∀ (blk off cap : Nat) (xs : List Dep) (w : World), HoldsK enc 3 w blk off xs.toArray → blk < w.heap.size → xs.length < 4611686018427387904 →
      Calls Try.prog 17 #[.slice (some ⟨blk, off, none⟩) xs.length cap, .func (.func 18) #[] #[]] w fun e w' => e = .returned (.tuple #[]) ∧ ∃ n os, w' = sortWorldK enc 3 w blk off n (xs.mergeSort fun x y => !(ltOf cmpD) y x).toArray os) :
    @Meets loose Try.prog 17 (mkCon [.ip tDep, .func 18 0 .unit] [] (fun x => if List.length (α := Dep) x.1 < 4611686018427387904 then some (isort x.1) else none)) := by
  intro x y hy w G vs bs hr hbs hnd hG
  obtain ⟨zs, u, u2⟩ := x
  change List Dep at zs
  have hy' : (if List.length (α := Dep) zs < 4611686018427387904 then some (isort zs) else none) = some y := hy
  by_cases hlen : List.length (α := Dep) zs < 4611686018427387904
  · rw [if_pos hlen] at hy'
    obtain rfl := Option.some.inj hy'
    obtain ⟨v, vs', b1, b2, rfl, rfl, ⟨hvv, -⟩, h2, hfn⟩ := hr
    obtain ⟨vf, vs2, b3, b4, rfl, rfl, ⟨hvf, hr1⟩, hf, rfl, rfl⟩ := hfn
    obtain ⟨a1, a2, h31, h32, h33, rfl⟩ := hf
    have ha1 : a1 = #[] := Array.eq_empty_of_size_eq_zero h32
    subst ha1
    have ha2 : a2 = #[] := by
      have : a2.toList = [] := by simpa using h33
      exact Array.toList_inj.1 (by simpa using this)
    subst ha2
    have hvfc : vf.cells = #[vf] := hvf
    have hvfe : vf = .func (.func 18) #[] #[] := by
      rw [hvfc] at h31
      simpa using h31
    subst hvfe
    obtain ⟨v', b, h3, rfl, ⟨cap, c, e, es, sp, rfl, h4, h5, h6, h7, h8⟩, h9⟩ := h2
    have hvc : v.cells = #[v] := hvv
    rw [hvc] at h3
    have h3' : v = .slice (some ⟨b, 0, none⟩) (List.length (α := Dep) zs) cap := by
      have h3 := h3
      simp only [List.cons.injEq, and_true] at h3
      exact h3
    subst h3'
    replace h8 : zs.length ≤ cap := h8
    replace h9 : 0 < zs.length := h9
    obtain rfl := elem_enc.1 h6
    have hH : HoldsK enc 3 w b 0 zs.toArray := by unfold HoldsK; rw [enc_flatK]; exact own_holdsV h4 h5
    refine (h b 0 cap zs w hH (hbs b (by simp)).2 hlen).mono ?_
    rintro e' w' ⟨rfl, q, os, rfl⟩
    rw [msort]
    have hw : sortWorldK enc 3 w b 0 q (isort zs).toArray os = overV w b q ((isort zs).flatMap enc) os := by
      unfold sortWorldK putRowK overV; rw [enc_flatK]
    rw [hw]
    have h7 : c.size = cap * 3 := h7
    have hcz : ((isort zs).flatMap enc).length ≤ c.size := by
      rw [flat_len, isort_length]; omega
    have hat := overV_at (q := q) (d := (isort zs).flatMap enc) (os := os) h4
    have hll : (zs.flatMap enc).length = ((isort zs).flatMap enc).length := by rw [flat_len, flat_len, isort_length]
    refine ⟨[], [some b], [], rfl, ?_, ⟨rfl, rfl⟩, overV_step, by simp [somes], ?_⟩
    · refine ⟨_, _, [some b], [], rfl, rfl, ⟨hvv, trivial⟩, ⟨_, b, by rw [hvc], rfl, ⟨cap, _, e, _, _, by rw [← isort_length zs]; rfl, hat, putCells_vals c _ hcz, elem_enc.2 rfl, ?_, ?_⟩, ?_⟩, ⟨_, [], [], [], rfl, rfl, ⟨hvf, hr1⟩, ⟨#[], #[], h31, h32, rfl, rfl⟩, rfl, rfl⟩⟩
      · show _ = cap * 3
        rw [← h7]; simp [Sort.putCells]
      · show (isort zs).length ≤ cap
        rw [isort_length]; exact h8
      · show 0 < (isort zs).length
        rw [isort_length]; exact h9
    · intro k hk
      obtain rfl : k = b := by simpa using hk
      exact ⟨.inl (by simp), Nat.lt_of_lt_of_le (hbs k (by simp)).2 overV_step.size⟩
  · rw [if_neg hlen] at hy'; cases hy'
/-- the same where there is none -/
theorem sortf_empty_meets (h : ∀ (a : Option Addr) (cap : Nat) (fv : Value) (w : World), Calls Try.prog 17 #[.slice a 0 cap, fv] w fun e w' => e = .returned (.tuple #[]) ∧ w' = w) :
    @Meets loose Try.prog 17 (mkCon [.val (.list tDep), .func 18 0 .unit] [] (fun x => if List.length (α := Dep) x.1 = 0 then some () else none)) := by
  intro x y hy w G vs bs hr hbs hnd hG
  obtain ⟨zs, u⟩ := x
  change List Dep at zs
  have hy' : (if List.length (α := Dep) zs = 0 then some () else none) = some y := hy
  by_cases hlen : List.length (α := Dep) zs = 0
  · have hr0 := hr
    obtain ⟨v, vs', b1, b2, rfl, rfl, ⟨hvv, -⟩, ⟨rfl, -, h3⟩, hfn⟩ := hr
    obtain ⟨vf, vs2, b3, b4, rfl, rfl, ⟨hvf, hr1⟩, hf, rfl, rfl⟩ := hfn
    obtain ⟨a1, a2, h31, h32, h33, rfl⟩ := hf
    obtain ⟨a, cap, h4, -, -⟩ := h3 rfl
    have hvc : v.cells = #[v] := hvv
    rw [hvc] at h4
    have h4' : v = .slice a (List.length (α := Dep) zs) cap := by
      have h4 := h4
      simp only [List.cons.injEq, and_true] at h4
      exact h4
    subst h4'
    rw [hlen] at hr0 ⊢
    refine (h a cap vf w).mono ?_
    rintro e' w' ⟨rfl, rfl⟩
    refine ⟨[], [], [], rfl, RRs.up (rs := [.val (.list tDep), .func 18 0 .unit]) (x := (zs, u)) ⟨trivial, trivial, trivial⟩ (RRs.imp (fun b hb => .inl hb) (fun _ _ => rfl) (fun _ _ => rfl) hr0), ⟨rfl, rfl⟩, ⟨rfl, @Td.refl loose _, rfl, Nat.le_refl _, fun _ _ _ => rfl⟩, by simp [somes], fun k hk => by cases hk⟩
  · rw [if_neg hlen] at hy'; cases hy'
end Go.PrD
