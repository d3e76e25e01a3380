/- What hangs on what: both sides say the same list. No conditions beyond each theorem's own. -/
import Derived.Test.YtmbkpnhmeljcgaaGra
set_option linter.unusedVariables false
set_option linter.unusedSimpArgs false
namespace Go.PrS
open Go Go.Ev Go.Proofs
section
variable {S : List (List Nat)}
theorem mem_rl3 {y : PrD.Dep} : y ∈ rl3 S S.length ↔ ∃ k a b : Nat, k < S.length ∧ a < S.length ∧ b < S.length ∧ cnd S k a b = true ∧ y = dp k a b := by
  unfold rl3 rl2 rl1
  simp only [List.mem_flatMap, List.mem_map, List.mem_filter, List.mem_range]
  constructor
  · rintro ⟨k, hk, a, ha, b, ⟨hb, hc⟩, rfl⟩
    exact ⟨k, a, b, hk, ha, hb, hc, rfl⟩
  · rintro ⟨k, a, b, hk, ha, hb, hc, rfl⟩
    exact ⟨k, hk, a, ha, b, ⟨hb, hc⟩, rfl⟩
abbrev Lt (x y : PrD.Dep) : Prop := PrD.dlt x y = true
theorem rl3_pw : (rl3 S S.length).Pairwise Lt := by
  unfold rl3
  rw [List.pairwise_flatMap]
  refine ⟨fun k _ => ?_, List.pairwise_lt_range.imp fun {k k'} hk x hx y hy => ?_⟩
  · unfold rl2
    rw [List.pairwise_flatMap]
    refine ⟨fun a _ => ?_, List.pairwise_lt_range.imp fun {a a'} ha x hx y hy => ?_⟩
    · unfold rl1
      rw [List.pairwise_map]
      refine (List.pairwise_lt_range.filter _).imp fun {b b'} hb => ?_
      show PrD.dlt _ _ = true
      rw [PrD.dlt_true]
      exact .inr ⟨rfl, .inr ⟨rfl, by show (b : Int) < (b' : Int); omega⟩⟩
    · obtain ⟨b, _, rfl⟩ := List.mem_map.mp hx
      obtain ⟨b', _, rfl⟩ := List.mem_map.mp hy
      show PrD.dlt _ _ = true
      rw [PrD.dlt_true]
      exact .inr ⟨rfl, .inl (by show (a : Int) < (a' : Int); omega)⟩
  · obtain ⟨a, _, hx⟩ := List.mem_flatMap.mp hx
    obtain ⟨b, _, rfl⟩ := List.mem_map.mp hx
    obtain ⟨a', _, hy⟩ := List.mem_flatMap.mp hy
    obtain ⟨b', _, rfl⟩ := List.mem_map.mp hy
    show PrD.dlt _ _ = true
    rw [PrD.dlt_true]
    exact .inl (by show (k : Int) < (k' : Int); omega)
theorem lt_ne {x y : PrD.Dep} (h : Lt x y) : x ≠ y := fun e => by
  subst e
  have : PrD.dlt x x = true := h
  rw [PrD.dlt_true] at this
  omega
theorem lt_le {x y : PrD.Dep} (h : Lt x y) : PrD.Le x y := by
  have h : PrD.dlt x y = true := h
  show PrD.dlt y x = false
  rw [PrD.dlt_true] at h
  rw [PrD.dlt_false]
  omega
theorem mem_rowd {f : Nat → Nat → List Nat} {y : PrD.Dep} {a m : Nat} : y ∈ rowd S f a m ↔ ∃ b ∈ (S.getD a []).take m, ∃ x ∈ f a b, y = dp x a b := by
  unfold rowd
  simp only [List.mem_flatMap, List.mem_map]
  constructor
  · rintro ⟨b, hb, x, hx, rfl⟩; exact ⟨b, hb, x, hx, rfl⟩
  · rintro ⟨b, hb, x, hx, rfl⟩; exact ⟨b, hb, x, hx, rfl⟩
theorem mem_alld {o : Sn} {f : Nat → Nat → List Nat} {y : PrD.Dep} : ∀ n, y ∈ alld S o f n ↔ ∃ a b x, a < n ∧ b ∈ S.getD a [] ∧ ¬ ((wx S o).getD a []).length < 2 ∧ x ∈ f a b ∧ y = dp x a b
  | 0 => by simp [alld]
  | n + 1 => by
    rw [alld, List.mem_append, mem_alld n]
    constructor
    · rintro (⟨a, b, x, h1, h2⟩ | h)
      · exact ⟨a, b, x, by omega, h2⟩
      · split at h
        · simp at h
        · next hl =>
          obtain ⟨b, hb, x, hx, rfl⟩ := mem_rowd.mp h
          rw [List.take_length] at hb
          exact ⟨n, b, x, by omega, hb, hl, hx, rfl⟩
    · rintro ⟨a, b, x, h1, h2, h3, h4, rfl⟩
      by_cases e : a = n
      · subst e
        right
        rw [if_neg h3]
        exact mem_rowd.mpr ⟨b, by rw [List.take_length]; exact h2, x, h4, rfl⟩
      · exact .inl ⟨a, b, x, by omega, h2, h3, h4, rfl⟩
theorem rowd_nodup (hG : Gr S) {f : Nat → Nat → List Nat} {a : Nat} (ha : a < S.length) (hf : ∀ b ∈ S.getD a [], (f a b).Nodup) : (rowd S f a (S.getD a []).length).Nodup := by
  unfold rowd
  rw [List.take_length]
  unfold List.Nodup
  rw [List.pairwise_flatMap]
  refine ⟨fun b hb => ?_, (gr_nodup hG ha).imp_of_mem fun {b b'} _ _ hne x hx y hy => ?_⟩
  · rw [List.pairwise_map]
    refine (hf b hb).imp fun {x y} hne e => hne ?_
    have : (x : Int) = (y : Int) := congrArg (·.1) e
    omega
  · obtain ⟨p, _, rfl⟩ := List.mem_map.mp hx
    obtain ⟨q, _, rfl⟩ := List.mem_map.mp hy
    intro e
    have : (b : Int) = (b' : Int) := congrArg (·.2.2.1) e
    exact hne (by omega)
theorem alld_nodup (hG : Gr S) {o : Sn} {f : Nat → Nat → List Nat} (hf : ∀ a b, a < S.length → b ∈ S.getD a [] → (f a b).Nodup) : ∀ n, n ≤ S.length → (alld S o f n).Nodup
  | 0, _ => by simp [alld]
  | n + 1, hn => by
    have h1 := alld_nodup hG (o := o) hf n (by omega)
    rw [alld]
    refine List.nodup_append.mpr ⟨h1, ?_, fun x hx y hy e => ?_⟩
    · split
      · exact .nil
      · exact rowd_nodup hG (by omega) (fun b hb => hf n b (by omega) hb)
    · split at hy
      · simp at hy
      · obtain ⟨a, b, p, q1, _, _, _, rfl⟩ := (mem_alld n).mp hx
        obtain ⟨b', _, p', _, rfl⟩ := mem_rowd.mp hy
        have : (a : Int) = (n : Int) := congrArg (·.2.1) e
        omega
theorem po_ov {at_ par : Nat → Nat} (h : Dp S (xo S S.length) at_ par) {k b : Nat} (hb : b ≤ S.length) : Po S (xo S S.length) k b ↔ ov S k b = true := by
  unfold Po ov
  rw [wx_dm h.hX h.hO h.ha hb, Bool.not_eq_true', ← Bool.not_eq_true, rchb_true]
theorem all_same (hG : Gr S) (hn : S.length < 64) {at_ par : Nat → Nat} {f : Nat → Nat → List Nat} (h : Dp S (xo S S.length) at_ par)
    (hf : ∀ a b, a < S.length → b ∈ S.getD a [] → (f a b).Nodup ∧ ∀ y, y ∈ f a b ↔ Po S (xo S S.length) y b ∧ (y = a ∨ ¬ Po S (xo S S.length) y a)) : PrD.isort (alld S (xo S S.length) f S.length) = rl3 S S.length := by
  refine PrD.pw_unique _ _ ?_ (PrD.isort_pw _) (rl3_pw.imp fun h => lt_le h)
  refine (PrD.isort_perm _).trans ((List.perm_ext_iff_of_nodup (alld_nodup hG (fun a b h1 h2 => (hf a b h1 h2).1) _ (Nat.le_refl _)) (rl3_pw.imp fun h => lt_ne h)).mpr fun y => ?_)
  rw [mem_alld, mem_rl3]
  constructor
  · rintro ⟨a, b, x, ha, hb, hl, hx, rfl⟩
    have hbl := (hG.row a ha).2 b hb
    obtain ⟨h1, h2⟩ := ((hf a b ha hb).2 x).mp hx
    have hxl : x < S.length := by
      have h3 : x < (pr (wx S (xo S S.length))).length := (dm_rch h1).lt (gr_pr h.hX) (by rw [pr_length, wx_length]; omega)
      rw [pr_length, wx_length] at h3
      by_cases e : x = S.length
      · subst e
        exfalso
        rcases h2 with e | h2
        · omega
        · refine h2 ((po_ov h (by omega)).mpr ?_)
          unfold ov
          rw [Bool.not_eq_true', ← Bool.not_eq_true, rchb_true]
          intro hr
          exact hr.ne rfl
      · omega
    refine ⟨x, a, b, hxl, ha, hbl, ?_, rfl⟩
    unfold cnd
    rw [decide_eq_true (by omega), decide_eq_true hb, (po_ov h (by omega)).mp h1, Bool.true_and, Bool.true_and, Bool.true_and, Bool.or_eq_true, decide_eq_true_eq, Bool.not_eq_true', ← Bool.not_eq_true, ← po_ov h (by omega)]
    exact h2
  · rintro ⟨k, a, b, hk, ha, hb, hc, rfl⟩
    unfold cnd at hc
    rw [Bool.and_eq_true, Bool.and_eq_true, Bool.and_eq_true, decide_eq_true_eq, decide_eq_true_eq, Bool.or_eq_true, decide_eq_true_eq, Bool.not_eq_true', ← Bool.not_eq_true, ← po_ov h (by omega), ← po_ov h (by omega)] at hc
    exact ⟨a, b, k, ha, hc.2.1, by omega, ((hf a b ha hc.2.1).2 k).mpr ⟨hc.2.2.1, hc.2.2.2⟩, rfl⟩
/-- what hangs on what, by both -/
theorem all_both (hG : Gr S) (hn : S.length < 64) : EvTo (fun k => dep_All k (ordG S (up2 (pr S)))) (rl3 S S.length) := by
  obtain ⟨at_, par, f, h, hf, _, he⟩ := all_ok hG hn
  rw [all_same hG hn h hf] at he
  exact he
end
/-! Same, Of -/
theorem dep_eq (x y : PrD.Dep) : (x.1 == y.1 && (x.2.1 == y.2.1 && x.2.2.1 == y.2.2.1)) = decide (x = y) := by
  rw [Bool.eq_iff_iff]
  simp only [Bool.and_eq_true, beq_iff_eq, decide_eq_true_eq]
  constructor
  · rintro ⟨h1, h2, h3⟩; exact PrD.dep_ext h1 h2 h3
  · rintro rfl; exact ⟨rfl, rfl, rfl⟩
theorem getDep {a : List PrD.Dep} {i : Nat} (h : i < a.length) : a.getD ((i : Int).toNat) (0, 0, 0, ()) = a[i] := by
  rw [Int.toNat_natCast, List.getD_eq_getElem?_getD, List.getElem?_eq_getElem h]; rfl
theorem dsame_ok {a b : List PrD.Dep} (ha : a.length ≤ reachBytes) : EvTo (fun k => lockstepref09_Same k a b) (decide (a = b)) := by
  have hm := reach_big
  unfold lockstepref09_Same
  by_cases hl : a.length = b.length
  · refine EvTo.ifn (by rw [hl]; simp) ?_
    have key : ∀ d i, i ≤ a.length → a.length - i = d → EvTo (fun k => lockstepref09_Same_l4 k a b (i : Int)) (if a.drop i = b.drop i then Sum.inl () else Sum.inr false) := by
      intro d
      induction d with
      | zero =>
        intro i hi hd
        refine EvTo.succ ?_; simp only [lockstepref09_Same_l4]
        exact EvTo.ifn (by rw [decide_eq_true_eq]; omega) (EvTo.pure' (by rw [List.drop_of_length_le (by omega), List.drop_of_length_le (by omega), if_pos rfl]))
      | succ d ih =>
        intro i hi hd
        have hia : i < a.length := by omega
        have hib : i < b.length := by omega
        have hn := ih (i + 1) (by omega) (by omega)
        refine EvTo.succ ?_; simp only [lockstepref09_Same_l4]
        rw [getDep hia, getDep hib, dep_eq, wrapS hia (by omega)]
        refine EvTo.ifp (decide_eq_true (by omega)) (EvTo.ifp (by omega) (EvTo.ifp (by omega) ?_))
        rw [List.drop_eq_getElem_cons hia, List.drop_eq_getElem_cons hib]
        by_cases e : a[i] = b[i]
        · refine EvTo.ifn (by rw [e]; simp) (hn.to ?_)
          by_cases q : a.drop (i + 1) = b.drop (i + 1)
          · rw [if_pos q, if_pos (by rw [e, q])]
          · rw [if_neg q, if_neg (fun hc => q (List.cons.inj hc).2)]
        · refine EvTo.ifp (by simp [e]) (EvTo.pure' ?_)
          rw [if_neg (fun h => e (List.cons.inj h).1)]
    have h0 := key a.length 0 (by omega) (by omega)
    simp only [List.drop_zero] at h0
    refine EvTo.bind h0 ?_
    by_cases e : a = b
    · simp only [e, if_true, decide_true]; exact EvTo.pure
    · simp only [e, if_false, decide_false]; exact EvTo.pure
  · refine EvTo.ifp (by rw [bne_iff_ne]; omega) (EvTo.pure' ?_)
    rw [decide_eq_false (fun e => hl (by rw [e]))]
/-- what hangs on one block -/
def onOne (x : Int) (l : List PrD.Dep) : List PrD.Dep := l.filter fun d => d.1 == x
theorem of_l {l : List PrD.Dep} (hl : l.length ≤ 1000000) (x : Int) (d : Nat) : ∀ i, i ≤ l.length → l.length - i = d → EvTo (fun k => dep_Of_l3 k x l (l.length : Int) (onOne x (l.take i)) (i : Int)) (onOne x l) := by
  induction d with
  | zero =>
    intro i hi hd
    refine EvTo.succ ?_; simp only [dep_Of_l3]
    exact EvTo.ifn (by rw [decide_eq_true_eq]; omega) (EvTo.pure' (by rw [List.take_of_length_le (by omega)]))
  | succ d ih =>
    intro i hi hd
    have hil : i < l.length := by omega
    have hn := ih (i + 1) (by omega) (by omega)
    have hfl := List.length_filter_le (fun d : PrD.Dep => d.1 == x) (l.take i)
    rw [List.length_take] at hfl
    have hs : onOne x (l.take (i + 1)) = onOne x (l.take i) ++ (if (l[i].1 == x) = true then [l[i]] else []) := by
      unfold onOne
      rw [List.take_add_one, List.getElem?_eq_getElem hil, List.filter_append]
      congr 1
      by_cases e : (l[i].1 == x) = true
      · rw [if_pos e]; exact List.filter_cons_of_pos e
      · rw [if_neg e]; exact List.filter_cons_of_neg e
    rw [hs] at hn
    refine EvTo.succ ?_; simp only [dep_Of_l3]
    rw [getDep hil, wrapS hil (by omega)]
    refine EvTo.ifp (decide_eq_true (by omega)) (EvTo.ifp (by omega) ?_)
    by_cases e : (l[i].1 == x) = true
    · rw [if_pos e] at hn
      exact EvTo.ifp e (EvTo.ifp (by rw [List.length_append, List.length_singleton, most_eq]; unfold onOne; omega) hn)
    · rw [if_neg e, List.append_nil] at hn
      exact EvTo.ifn e hn
theorem of_ok {g : L_api_Graph} {l : List PrD.Dep} (hl : l.length ≤ 1000000) (x : Int) (h : EvTo (fun k => dep_All k g) l) : EvTo (fun k => dep_Of k g x) (onOne x l) := by
  unfold dep_Of
  exact EvTo.bind h (EvTo.bind (of_l hl x l.length 0 (Nat.zero_le _) rfl) EvTo.pure)
theorem own_l {l : List PrD.Dep} (hl : l.length ≤ 1000000) (x : Int) (g : L_api_Graph) (d : Nat) : ∀ i, i ≤ l.length → l.length - i = d → EvTo (fun k => locksteplaw09_DepAll_l14 k x g l (onOne x (l.take i)) (i : Int)) (onOne x l, g) := by
  induction d with
  | zero =>
    intro i hi hd
    refine EvTo.succ ?_; simp only [locksteplaw09_DepAll_l14]
    exact EvTo.ifn (by rw [decide_eq_true_eq]; omega) (EvTo.pure' (by rw [List.take_of_length_le (by omega)]))
  | succ d ih =>
    intro i hi hd
    have hil : i < l.length := by omega
    have hn := ih (i + 1) (by omega) (by omega)
    have hfl := List.length_filter_le (fun d : PrD.Dep => d.1 == x) (l.take i)
    rw [List.length_take] at hfl
    have hs : onOne x (l.take (i + 1)) = onOne x (l.take i) ++ (if (l[i].1 == x) = true then [l[i]] else []) := by
      unfold onOne
      rw [List.take_add_one, List.getElem?_eq_getElem hil, List.filter_append]
      congr 1
      by_cases e : (l[i].1 == x) = true
      · rw [if_pos e]; exact List.filter_cons_of_pos e
      · rw [if_neg e]; exact List.filter_cons_of_neg e
    rw [hs] at hn
    refine EvTo.succ ?_; simp only [locksteplaw09_DepAll_l14]
    rw [getDep hil, wrapS hil (by omega)]
    refine EvTo.ifp (decide_eq_true (by omega)) (EvTo.ifp (by omega) ?_)
    by_cases e : (l[i].1 == x) = true
    · rw [if_pos e] at hn
      exact EvTo.ifp e (EvTo.ifp (by omega) (EvTo.ifp (by rw [List.length_append, List.length_singleton, most_eq]; unfold onOne; omega) hn))
    · rw [if_neg e, List.append_nil] at hn
      exact EvTo.ifn e hn
end Go.PrS
