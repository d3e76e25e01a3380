/- What is read and told, part by part: a way to read, a way to tell, and that they fit. No conditions beyond each theorem's own. -/
import Derived.Test.YthbmdmphkeclmaaPGet
set_option linter.unusedVariables false
set_option linter.unusedSimpArgs false
namespace Go.PrS
open Go Go.Ev Go.Proofs
abbrev St : Type := List Int × (Int × Unit)
structure Codec (α : Type) where
  P : St → α × St
  E : α → List Int
  V : α → Prop
  bytes : ∀ x, V x → Bytes (E x)
  ok : ∀ {x : α} (more : List Int), V x → P (E x ++ more, 0, ()) = (x, more, 0, ())
  cut : ∀ {x : α} {j : Nat}, V x → j < (E x).length → (P ((E x).take j, 0, ())).2.2.1 = 2
  sound : ∀ s : St, Bytes s.1 → s.2.1 = 0 → (P s).2.2.1 = 0 → V (P s).1 ∧ s.1 = E (P s).1 ++ (P s).2.1
  err : ∀ s : St, s.2.1 ≠ 0 → (P s).2.2.1 = s.2.1
  suf : ∀ s, ∃ n, (P s).2.1 = s.1.drop n
theorem Codec.rest {α : Type} (c : Codec α) {s : St} (hb : Bytes s.1) (hl : s.1.length ≤ maxLen) : Bytes (c.P s).2.1 ∧ (c.P s).2.1.length ≤ maxLen := by
  obtain ⟨n, h⟩ := c.suf s
  rw [h]
  exact ⟨hb.drop n, by rw [List.length_drop]; omega⟩
/-- one behind the other -/
def Codec.seq {α β : Type} (c : Codec α) (d : Codec β) : Codec (α × β) where
  P s := (((c.P s).1, (d.P (c.P s).2).1), (d.P (c.P s).2).2)
  E x := c.E x.1 ++ d.E x.2
  V x := c.V x.1 ∧ d.V x.2
  bytes x h := (c.bytes _ h.1).append (d.bytes _ h.2)
  ok {x} more h := by
    simp only [List.append_assoc]
    rw [c.ok _ h.1]
    simp only
    rw [d.ok _ h.2]
  cut {x j} h hj := by
    rw [List.length_append] at hj
    by_cases hc : j < (c.E x.1).length
    · rw [List.take_append_of_le_length (by omega)]
      have h1 := c.cut h.1 hc
      exact (d.err _ (by rw [h1]; decide)).trans h1
    · have e1 : (c.E x.1 ++ d.E x.2).take j = c.E x.1 ++ (d.E x.2).take (j - (c.E x.1).length) := by
        rw [List.take_append, List.take_of_length_le (by omega)]
      rw [e1, c.ok _ h.1]
      exact d.cut h.2 (by omega)
  sound s hb he h := by
    have h1 : (c.P s).2.2.1 = 0 := by
      rcases Decidable.em ((c.P s).2.2.1 = 0) with h2 | h2
      · exact h2
      · have := d.err _ h2
        simp only at h
        rw [h] at this
        exact this.symm
    obtain ⟨k1, k2⟩ := c.sound s hb he h1
    have hb' : Bytes (c.P s).2.1 := by
      obtain ⟨n, hn⟩ := c.suf s
      rw [hn]; exact hb.drop n
    obtain ⟨q1, q2⟩ := d.sound _ hb' h1 h
    refine ⟨⟨k1, q1⟩, ?_⟩
    simp only
    rw [List.append_assoc, ← q2]
    exact k2
  err s he := by
    have h1 := c.err s he
    exact (d.err _ (by rw [h1]; exact he)).trans h1
  suf s := by
    obtain ⟨n, h⟩ := c.suf s
    obtain ⟨m, h'⟩ := d.suf (c.P s).2
    exact ⟨n + m, by rw [h', h, List.drop_drop]⟩
/-- put otherwise -/
def Codec.iso {α β : Type} (c : Codec α) (f : α → β) (g : β → α) (h1 : ∀ x, g (f x) = x) (h2 : ∀ y, f (g y) = y) : Codec β where
  P s := (f (c.P s).1, (c.P s).2)
  E y := c.E (g y)
  V y := c.V (g y)
  bytes y h := c.bytes _ h
  ok {y} more h := by rw [c.ok _ h]; simp only [h2]
  cut {y j} h hj := c.cut h hj
  sound s hb he h := by
    simp only [h1]
    exact c.sound s hb he h
  err s he := c.err s he
  suf s := c.suf s
/-- as many as are counted -/
def listP {α : Type} (P : St → α × St) : Nat → List α → St → List α × St
  | 0, acc, s => (acc, s)
  | n + 1, acc, s => if (P s).2.2.1 ≠ 0 then ([], (P s).2) else listP P n (acc ++ [(P s).1]) (P s).2
theorem listP_ok {α : Type} (c : Codec α) : ∀ (l : List α) (acc : List α) (more : List Int), (∀ x ∈ l, c.V x) → listP c.P l.length acc (l.flatMap c.E ++ more, 0, ()) = (acc ++ l, more, 0, ())
  | [], acc, more, _ => by simp [listP]
  | x :: l, acc, more, h => by
    simp only [List.length_cons, listP, List.flatMap_cons, List.append_assoc]
    rw [c.ok _ (h x (by simp))]
    simp only [ne_eq, not_true_eq_false, if_false]
    rw [listP_ok c l _ more (fun y hy => h y (List.mem_cons_of_mem _ hy))]
    simp
theorem listP_cut {α : Type} (c : Codec α) : ∀ (l : List α) (acc : List α) (j : Nat), (∀ x ∈ l, c.V x) → j < (l.flatMap c.E).length → (listP c.P l.length acc ((l.flatMap c.E).take j, 0, ())).2.2.1 = 2
  | [], acc, j, _, hj => by simp at hj
  | x :: l, acc, j, h, hj => by
    simp only [List.length_cons, listP, List.flatMap_cons] at hj ⊢
    rw [List.length_append] at hj
    by_cases hc : j < (c.E x).length
    · rw [List.take_append_of_le_length (by omega)]
      have h1 := c.cut (h x (by simp)) hc
      rw [if_pos (by rw [h1]; decide)]
      exact h1
    · have e1 : (c.E x ++ l.flatMap c.E).take j = c.E x ++ (l.flatMap c.E).take (j - (c.E x).length) := by
        rw [List.take_append, List.take_of_length_le (by omega)]
      rw [e1, c.ok _ (h x (by simp))]
      simp only [ne_eq, not_true_eq_false, if_false]
      exact listP_cut c l _ _ (fun y hy => h y (List.mem_cons_of_mem _ hy)) (by omega)
theorem listP_sound {α : Type} (c : Codec α) : ∀ (n : Nat) (acc : List α) (s : St), Bytes s.1 → s.2.1 = 0 → (listP c.P n acc s).2.2.1 = 0 → ∃ l, (listP c.P n acc s).1 = acc ++ l ∧ l.length = n ∧ (∀ x ∈ l, c.V x) ∧ s.1 = l.flatMap c.E ++ (listP c.P n acc s).2.1
  | 0, acc, s, _, _, h => ⟨[], by simp [listP], rfl, by simp, by simp [listP]⟩
  | n + 1, acc, s, hb, he, h => by
    simp only [listP] at h ⊢
    by_cases h0 : (c.P s).2.2.1 = 0
    · rw [if_neg (by rw [h0]; simp)] at h ⊢
      obtain ⟨k1, k2⟩ := c.sound s hb he h0
      have hb' : Bytes (c.P s).2.1 := by
        obtain ⟨m, hm⟩ := c.suf s
        rw [hm]; exact hb.drop m
      obtain ⟨l, l1, l2, l3, l4⟩ := listP_sound c n (acc ++ [(c.P s).1]) (c.P s).2 hb' h0 h
      refine ⟨(c.P s).1 :: l, by rw [l1]; simp, by simp [l2], fun x hx => ?_, ?_⟩
      · rcases List.mem_cons.1 hx with rfl | hx
        · exact k1
        · exact l3 x hx
      · rw [List.flatMap_cons, List.append_assoc, ← l4]
        exact k2
    · rw [if_pos h0] at h
      exact absurd h h0
theorem listP_suf {α : Type} (c : Codec α) : ∀ (n : Nat) (acc : List α) (s : St), ∃ m, (listP c.P n acc s).2.1 = s.1.drop m
  | 0, acc, s => ⟨0, by simp [listP]⟩
  | n + 1, acc, s => by
    obtain ⟨m, hm⟩ := c.suf s
    simp only [listP]
    split
    · exact ⟨m, hm⟩
    · obtain ⟨k, hk⟩ := listP_suf c n (acc ++ [(c.P s).1]) (c.P s).2
      exact ⟨m + k, by rw [hk, hm, List.drop_drop]⟩
theorem listP_err {α : Type} (c : Codec α) : ∀ (n : Nat) (acc : List α) (s : St), s.2.1 ≠ 0 → (listP c.P n acc s).2.2.1 = s.2.1
  | 0, acc, s, _ => rfl
  | n + 1, acc, s, h => by
    have := c.err s h
    simp only [listP]
    rw [if_pos (by rw [this]; exact h)]
    exact this
/-- a count, and as many -/
def Codec.many {α : Type} (k : Codec Int) (c : Codec α) (most : Nat) (hE : ∀ n : Nat, k.E (n : Int) = enc n) (hV : ∀ x, k.V x ↔ 0 ≤ x ∧ x ≤ (most : Int)) : Codec (List α) where
  P s := listP c.P (k.P s).1.toNat [] (k.P s).2
  E l := enc l.length ++ l.flatMap c.E
  V l := l.length ≤ most ∧ ∀ x ∈ l, c.V x
  bytes l h := (enc_bytes _).append fun x hx => by
    obtain ⟨y, hy, hx⟩ := List.mem_flatMap.1 hx
    exact c.bytes y (h.2 y hy) x hx
  ok {l} more h := by
    have hv : k.V (l.length : Int) := (hV _).2 ⟨by omega, by have := h.1; omega⟩
    rw [List.append_assoc, ← hE, k.ok _ hv]
    simp only [Int.toNat_natCast]
    rw [listP_ok c l [] more h.2]
    simp
  cut {l j} h hj := by
    have hv : k.V (l.length : Int) := (hV _).2 ⟨by omega, by have := h.1; omega⟩
    rw [← hE] at hj ⊢
    rw [List.length_append] at hj
    by_cases hc : j < (k.E (l.length : Int)).length
    · rw [List.take_append_of_le_length (by omega)]
      have h1 := k.cut hv hc
      exact (listP_err c _ [] _ (by rw [h1]; decide)).trans h1
    · have e1 : (k.E (l.length : Int) ++ l.flatMap c.E).take j = k.E (l.length : Int) ++ (l.flatMap c.E).take (j - (k.E (l.length : Int)).length) := by
        rw [List.take_append, List.take_of_length_le (by omega)]
      rw [e1, k.ok _ hv]
      simp only [Int.toNat_natCast]
      exact listP_cut c l [] _ h.2 (by omega)
  sound s hb he h := by
    have h1 : (k.P s).2.2.1 = 0 := by
      rcases Decidable.em ((k.P s).2.2.1 = 0) with h2 | h2
      · exact h2
      · exact (listP_err c (k.P s).1.toNat [] _ h2).symm.trans h
    obtain ⟨k1, k2⟩ := k.sound s hb he h1
    have hb' : Bytes (k.P s).2.1 := by
      obtain ⟨m, hm⟩ := k.suf s
      rw [hm]; exact hb.drop m
    obtain ⟨l, l1, l2, l3, l4⟩ := listP_sound c _ [] _ hb' h1 h
    rw [List.nil_append] at l1
    obtain ⟨v1, v2⟩ := (hV _).1 k1
    rw [l1]
    refine ⟨⟨by omega, l3⟩, ?_⟩
    have e : enc l.length = k.E (k.P s).1 := by
      rw [← hE, l2]
      congr 1; omega
    rw [e, List.append_assoc, ← l4]
    exact k2
  err s he := by
    have h1 := k.err s he
    exact (listP_err c _ [] _ (by rw [h1]; exact he)).trans h1
  suf s := by
    obtain ⟨n, h⟩ := k.suf s
    obtain ⟨m, h'⟩ := listP_suf c (k.P s).1.toNat [] (k.P s).2
    exact ⟨n + m, by rw [h', h, List.drop_drop]⟩
/-- nothing of it if something is wrong -/
def Codec.all {α : Type} (c : Codec α) (d : α) : Codec α where
  P s := if s.2.1 ≠ 0 then (d, s) else if (c.P s).2.2.1 ≠ 0 then (d, s.1, (c.P s).2.2.1, ()) else c.P s
  E := c.E
  V := c.V
  bytes := c.bytes
  ok {x} more h := by simp [c.ok more h]
  cut {x j} h hj := by
    have := c.cut h hj
    simp only [ne_eq, not_true_eq_false, if_false]
    rw [if_pos (by rw [this]; decide)]
    exact this
  sound s hb he h := by
    simp only [he, ne_eq, not_true_eq_false, if_false] at h ⊢
    split at h
    · rename_i h1; exact absurd h h1
    · rename_i h1
      rw [if_neg h1]
      exact c.sound s hb he h
  err s he := by rw [if_pos he]
  suf s := by
    split
    · exact ⟨0, by simp⟩
    · split
      · exact ⟨0, by simp⟩
      · exact c.suf s
end Go.PrS
