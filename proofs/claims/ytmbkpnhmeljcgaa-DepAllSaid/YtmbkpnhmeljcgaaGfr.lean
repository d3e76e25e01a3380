/- Plain laws of both frontiers: dep.Frontier's and the document's are the same. No conditions beyond each theorem's own. -/
import Derived.Test.YtmbkpnhmeljcgaaGre
set_option linter.unusedVariables false
set_option linter.unusedSimpArgs false
namespace Go.PrS
open Go Go.Ev Go.Proofs
theorem cu (d : Array Int) (hs : ∀ i j, i ≤ j → j < d.size → d[i]! ≤ d[j]!) : ∀ m, m ≤ d.size → (Go.Lib.compactUpTo d m).Pairwise (· < ·) ∧ ∀ y, y ∈ Go.Lib.compactUpTo d m ↔ ∃ j, j < m ∧ y = d[j]!
  | 0, _ => ⟨by simp [Go.Lib.compactUpTo], fun y => by simp [Go.Lib.compactUpTo]⟩
  | m + 1, hm => by
    obtain ⟨h1, h2⟩ := cu d hs m (by omega)
    rw [Go.Lib.compactUpTo_succ]
    by_cases hk : Go.Lib.keeps d m = true
    · rw [if_pos hk]
      simp only [Go.Lib.keeps, decide_eq_true_eq] at hk
      refine ⟨List.pairwise_append.mpr ⟨h1, List.pairwise_singleton .., fun a ha b hb => ?_⟩, fun y => ?_⟩
      · obtain ⟨j, hj, rfl⟩ := (h2 a).mp ha
        rw [List.mem_singleton] at hb
        subst hb
        have e1 := hs j (m - 1) (by omega) (by omega)
        have e2 := hs (m - 1) m (by omega) (by omega)
        have e3 : d[m]! ≠ d[m - 1]! := hk.resolve_left (by omega)
        omega
      · rw [List.mem_append, h2, List.mem_singleton]
        constructor
        · rintro (⟨j, hj, e⟩ | e)
          · exact ⟨j, by omega, e⟩
          · exact ⟨m, by omega, e⟩
        · rintro ⟨j, hj, e⟩
          by_cases h : j = m
          · subst h; exact .inr e
          · exact .inl ⟨j, by omega, e⟩
    · rw [if_neg hk, List.append_nil]
      simp only [Go.Lib.keeps, decide_eq_true_eq] at hk
      have hk0 : ¬ m = 0 := fun e => hk (.inl e)
      have hk1 : d[m]! = d[m - 1]! := Classical.byContradiction (fun e => hk (.inr e))
      refine ⟨h1, fun y => ?_⟩
      rw [h2]
      constructor
      · rintro ⟨j, hj, e⟩; exact ⟨j, by omega, e⟩
      · rintro ⟨j, hj, e⟩
        by_cases h : j = m
        · subst h; exact ⟨j - 1, by omega, by rw [e, hk1]⟩
        · exact ⟨j, by omega, e⟩
theorem compact_sorted (zs : List Int) (hs : zs.Pairwise (· ≤ ·)) : (Go.Lib.compact zs).Pairwise (· < ·) ∧ ∀ y, y ∈ Go.Lib.compact zs ↔ y ∈ zs := by
  have h := cu zs.toArray (fun i j hij hj => by
    have hj : j < zs.length := by simpa using hj
    by_cases e : i = j
    · subst e; exact Int.le_refl _
    · have := List.pairwise_iff_getElem.mp hs i j (by omega) hj (by omega)
      simpa [hj, show i < zs.length by omega] using this) zs.length (by simp)
  refine ⟨h.1, fun y => (h.2 y).trans ?_⟩
  constructor
  · rintro ⟨j, hj, rfl⟩
    have : zs.toArray[j]! = zs[j] := by simp [hj]
    rw [this]; exact List.getElem_mem hj
  · intro hy
    obtain ⟨j, hj, rfl⟩ := List.getElem_of_mem hy
    exact ⟨j, hj, by simp [hj]⟩
open Classical in
noncomputable def dmb (S : List (List Nat)) (a b : Nat) : Bool := decide (Dm S 0 a b)
theorem dmb_true {S : List (List Nat)} {a b : Nat} : dmb S a b = true ↔ Dm S 0 a b := by simp [dmb]
noncomputable def pf (S : List (List Nat)) (x : Nat) : Nat → Bool := fun b => decide (b = x) || !dmb S x b
noncomputable def rowf (S : List (List Nat)) (x a m : Nat) : List Nat := ((S.getD a []).take m).filter (pf S x)
noncomputable def raw (S : List (List Nat)) (x : Nat) : Nat → List Nat
  | 0 => []
  | a + 1 => raw S x a ++ if dmb S x a = true then rowf S x a (S.getD a []).length else []
/-- A block's frontier. -/
noncomputable def fro (S : List (List Nat)) (x : Nat) : List Int := if dmb S x x = true then Go.Lib.compact (isort (up (raw S x S.length))) else []
section
variable {S : List (List Nat)} {at_ par : Nat → Nat}
theorem rowf_len (hG : Gr S) {x a : Nat} (ha : a < S.length) (m : Nat) : (rowf S x a m).length ≤ 64 := by
  unfold rowf
  have h1 := List.length_filter_le (pf S x) ((S.getD a []).take m)
  have h2 : ((S.getD a []).take m).length ≤ (S.getD a []).length := by rw [List.length_take]; omega
  have h3 := gr_len hG ha
  omega
theorem raw_len (hG : Gr S) (x : Nat) : ∀ a, a ≤ S.length → (raw S x a).length ≤ 64 * a
  | 0, _ => by simp [raw]
  | a + 1, ha => by
    have h1 := raw_len hG x a (by omega)
    have h2 := rowf_len hG (x := x) (a := a) (by omega) (S.getD a []).length
    rw [raw, List.length_append]
    split
    · omega
    · simp; omega
theorem raw_mem (hG : Gr S) {x y : Nat} : ∀ n, n ≤ S.length → (y ∈ raw S x n ↔ ∃ a, a < n ∧ Dm S 0 x a ∧ y ∈ S.getD a [] ∧ (y = x ∨ ¬ Dm S 0 x y))
  | 0, _ => by simp [raw]
  | n + 1, hn => by
    have hp : ∀ y, pf S x y = true ↔ (y = x ∨ ¬ Dm S 0 x y) := by
      intro y
      unfold pf
      rw [Bool.or_eq_true, decide_eq_true_eq, Bool.not_eq_true', ← Bool.not_eq_true, dmb_true]
    rw [raw, List.mem_append, raw_mem hG n (by omega)]
    have h2 : (y ∈ if dmb S x n = true then rowf S x n (S.getD n []).length else []) ↔ Dm S 0 x n ∧ y ∈ S.getD n [] ∧ (y = x ∨ ¬ Dm S 0 x y) := by
      by_cases h : dmb S x n = true
      · rw [if_pos h]
        unfold rowf
        rw [List.take_length, List.mem_filter, hp]
        exact ⟨fun h2 => ⟨dmb_true.mp h, h2⟩, fun h2 => h2.2⟩
      · rw [if_neg h]
        exact ⟨fun h2 => absurd h2 (by simp), fun h2 => absurd (dmb_true.mpr h2.1) h⟩
    rw [h2]
    constructor
    · rintro (⟨a, ha, h3⟩ | h3)
      · exact ⟨a, by omega, h3⟩
      · exact ⟨n, by omega, h3⟩
    · rintro ⟨a, ha, h3⟩
      by_cases e : a = n
      · subst e; exact .inr h3
      · exact .inl ⟨a, by omega, h3⟩
theorem over_dmb (hD : Gd S 0 at_ par) {a b : Nat} (ha : a < S.length) (hb : b < S.length) : EvTo (fun k => dom_Over k (dtl S 0) (a : Int) (b : Int)) (dmb S a b) := hD.over_ev ha hb dmb_true
theorem rowf_succ (S : List (List Nat)) (x a m : Nat) (hml : m < (S.getD a []).length) : rowf S x a (m + 1) = rowf S x a m ++ (if pf S x ((S.getD a []).getD m 0) = true then [(S.getD a []).getD m 0] else []) := by
  unfold rowf
  rw [take_getD _ m 0 hml, List.filter_append]
  cases e : pf S x ((S.getD a []).getD m 0) with
  | true => rw [List.filter_cons_of_pos e]; rfl
  | false => rw [List.filter_cons_of_neg (by rw [e]; decide)]; simp
theorem front_l1 (hD : Gd S 0 at_ par) {x a : Nat} (hx : x < S.length) (ha : a < S.length) (pre : List Nat) (hpre : pre.length ≤ 4096) (d : Nat) : ∀ m, m ≤ (S.getD a []).length → (S.getD a []).length - m = d →
    EvTo (fun k => dep_Frontier_l10 k (x : Int) (dtl S 0) (up2 S) (S.length : Int) (a : Int) (up (S.getD a [])) ((S.getD a []).length : Int) (up (pre ++ rowf S x a m)) (m : Int)) (up (pre ++ rowf S x a (S.getD a []).length)) := by
  have hG := hD.gr
  have hle := hG.le
  have hrl := gr_len hG ha
  induction d with
  | zero =>
    intro m hm hd
    obtain rfl : m = (S.getD a []).length := by omega
    refine EvTo.succ ?_; simp only [dep_Frontier_l10]
    exact EvTo.ifn (by rw [decide_eq_true_eq]; omega) EvTo.pure
  | succ d ih =>
    intro m hm hd
    have hml : m < (S.getD a []).length := by omega
    have hy := (hG.row a ha).2 _ (getD_mem (d := 0) hml)
    have h2 := rowf_len hG (x := x) ha m
    have hn := ih (m + 1) (by omega) (by omega)
    rw [rowf_succ S x a m hml, ← List.append_assoc] at hn
    have hlen : (up (pre ++ rowf S x a m ++ [(S.getD a []).getD m 0])).length ≤ Ev.most := by rw [up_length, List.length_append, List.length_append, List.length_singleton, most_eq]; omega
    refine EvTo.succ ?_; simp only [dep_Frontier_l10]
    rw [Int.toNat_natCast, getD_up, wrapS hml (by omega), up_length, ← up_snoc]
    refine EvTo.ifp (decide_eq_true (by omega)) (EvTo.ifp (by omega) ?_)
    by_cases e1 : (S.getD a []).getD m 0 = x
    · rw [if_pos (by unfold pf; rw [decide_eq_true e1]; rfl)] at hn
      exact EvTo.ifn (by rw [e1]; simp) (EvTo.ifp hlen hn)
    · refine EvTo.ifp (by rw [beq_eq_false_iff_ne]; omega) (EvTo.bind (over_dmb hD hx hy) ?_)
      cases e2 : dmb S x ((S.getD a []).getD m 0) with
      | true =>
        rw [if_neg (by unfold pf; rw [decide_eq_false e1, e2]; decide), List.append_nil] at hn
        exact EvTo.ifn (by decide) hn
      | false =>
        rw [if_pos (by unfold pf; rw [e2]; simp)] at hn
        exact EvTo.ifp (by decide) (EvTo.ifp hlen hn)
theorem front_l0 (hD : Gd S 0 at_ par) {x : Nat} (hx : x < S.length) (d : Nat) : ∀ a, a ≤ S.length → S.length - a = d →
    EvTo (fun k => dep_Frontier_l6 k (x : Int) (dtl S 0) (up2 S) (S.length : Int) (up (raw S x a)) (a : Int)) (up (raw S x S.length)) := by
  have hG := hD.gr
  have hle := hG.le
  induction d with
  | zero =>
    intro a ha hd
    obtain rfl : a = S.length := by omega
    refine EvTo.succ ?_; simp only [dep_Frontier_l6]
    exact EvTo.ifn (by rw [decide_eq_true_eq]; omega) EvTo.pure
  | succ d ih =>
    intro a ha hd
    have hal : a < S.length := by omega
    have hn := ih (a + 1) (by omega) (by omega)
    rw [raw] at hn
    have hl := raw_len hG x a (by omega)
    refine EvTo.succ ?_; simp only [dep_Frontier_l6]
    rw [wrapS hal (by omega), Int.toNat_natCast, getD_up2, up_length, up2_length]
    refine EvTo.ifp (decide_eq_true (by omega)) (EvTo.ifp (by omega) (EvTo.bind (over_dmb hD hx hal) ?_))
    cases e : dmb S x a with
    | true =>
      rw [if_pos e] at hn
      have h := front_l1 hD hx hal (raw S x a) (by omega) _ 0 (Nat.zero_le _) rfl
      rw [show rowf S x a 0 = [] by simp [rowf], List.append_nil] at h
      exact EvTo.ifn (by decide) (EvTo.bind h hn)
    | false =>
      rw [if_neg (by rw [e]; decide), List.append_nil] at hn
      exact EvTo.ifp (by decide) hn
theorem front_ok (hG : Gr S) {x : Nat} (hx : x < S.length) : EvTo (fun k => dep_Frontier k (ordG S (up2 (pr S))) (x : Int)) (fro S x) := by
  obtain ⟨at_, par, hD⟩ := gd_ex hG hG.pos
  have hle := hG.le
  unfold dep_Frontier fro
  have el : ((ordG S (up2 (pr S))).1.length : Int) = (S.length : Int) := by rw [up2_length]
  simp only [el]
  refine EvTo.bind (tree_ok hG (r := 0) hG.pos) (EvTo.bind (over_dmb hD hx hx) ?_)
  cases e : dmb S x x with
  | false => exact EvTo.ifp (by decide) (by rw [if_neg (by decide)]; exact EvTo.pure)
  | true =>
    have hl := raw_len hG x S.length (Nat.le_refl _)
    have h := front_l0 hD hx S.length 0 (Nat.zero_le _) rfl
    have e2 : EvTo (fun k => slices_Compact_int_int k (isort (up (raw S x S.length)))) (Go.Lib.compact (isort (up (raw S x S.length)))) := by
      unfold slices_Compact_int_int
      exact EvTo.ifp (by rw [isort_length, up_length]; omega) EvTo.pure
    rw [if_pos rfl]
    refine EvTo.ifn (by decide) (EvTo.bind (a := up (raw S x S.length)) h ?_)
    by_cases h0 : 0 < (up (raw S x S.length)).length
    · refine EvTo.ifp h0 (EvTo.ifp h0 (EvTo.bind (a := isort (up (raw S x S.length))) ?_ (EvTo.bind e2 EvTo.pure)))
      unfold slices_Sort_int_int
      exact EvTo.ifp (by rw [up_length]; omega) EvTo.pure
    · have e3 : up (raw S x S.length) = [] := List.length_eq_zero_iff.mp (by omega)
      rw [e3] at e2 ⊢
      refine EvTo.ifn (by simp) (EvTo.bind (a := ()) ?_ (EvTo.bind e2 EvTo.pure))
      unfold slices_Sort_int_int_f24
      exact EvTo.ifp rfl EvTo.pure
theorem front_out (hG : Gr S) {x : Int} (hx : x < 0 ∨ (S.length : Int) ≤ x) : EvTo (fun k => dep_Frontier k (ordG S (up2 (pr S))) x) [] := by
  have hle := hG.le
  have e : overT (dtl S 0) x x = false := by
    have hp : pth (dtl S 0) S.length x = none := pth_out (by rw [dtl_length]; exact hx)
    unfold overT inT
    simp [way, hp]
  unfold dep_Frontier
  refine EvTo.bind (tree_ok hG (r := 0) hG.pos) (EvTo.bind ((over_ok (dtl S 0) (by rw [dtl_length]; omega) x x).to e) (EvTo.ifp (by decide) EvTo.pure))
theorem front_no {g : L_api_Graph} {x : Int} (h : EvTo (fun k => dom_Tree k g 0) []) : EvTo (fun k => dep_Frontier k g x) [] := by
  have e : overT [] x x = false := by
    unfold overT inT
    simp [way, pth]
  unfold dep_Frontier
  refine EvTo.bind h (EvTo.bind ((over_ok [] (by simp) x x).to e) (EvTo.ifp (by decide) EvTo.pure))
theorem fro_pw (x : Nat) : (fro S x).Pairwise (· < ·) := by
  unfold fro
  split
  · exact (compact_sorted _ (isort_pw _)).1
  · exact .nil
theorem fro_mem (hG : Gr S) {x : Nat} {y : Int} : y ∈ fro S x ↔ ∃ b : Nat, y = (b : Int) ∧ ∃ a, Dm S 0 x a ∧ b ∈ S.getD a [] ∧ (b = x ∨ ¬ Dm S 0 x b) := by
  unfold fro
  by_cases h : dmb S x x = true
  · rw [if_pos h, (compact_sorted _ (isort_pw _)).2, (isort_perm _).mem_iff]
    simp only [up, List.mem_map, raw_mem hG S.length (Nat.le_refl _)]
    constructor
    · rintro ⟨b, ⟨a, _, h1⟩, rfl⟩; exact ⟨b, rfl, a, h1⟩
    · rintro ⟨b, rfl, a, h1⟩
      refine ⟨b, ⟨a, ?_, h1⟩, rfl⟩
      exact h1.1.1.lt hG hG.pos
  · rw [if_neg h]
    refine ⟨fun h1 => absurd h1 (by simp), ?_⟩
    rintro ⟨b, _, a, h1, _⟩
    exact absurd (dmb_true.mpr (dm_refl (dm_rch h1))) h
theorem int_ext : ∀ {l m : List Int}, l.Pairwise (· < ·) → m.Pairwise (· < ·) → (∀ y, y ∈ l ↔ y ∈ m) → l = m
  | [], [], _, _, _ => rfl
  | [], y :: m, _, _, h => absurd ((h y).mpr (by simp)) (by simp)
  | x :: l, [], _, _, h => absurd ((h x).mp (by simp)) (by simp)
  | x :: l, y :: m, h1, h2, h => by
    obtain ⟨h3, h4⟩ := List.pairwise_cons.mp h1
    obtain ⟨h5, h6⟩ := List.pairwise_cons.mp h2
    have e : x = y := by
      rcases List.mem_cons.mp ((h x).mp (by simp)) with q | q
      · exact q
      · rcases List.mem_cons.mp ((h y).mpr (by simp)) with q2 | q2
        · exact q2.symm
        · have := h3 y q2; have := h5 x q; omega
    subst e
    rw [int_ext h4 h6 (fun z => ?_)]
    constructor
    · intro hz
      rcases List.mem_cons.mp ((h z).mp (List.mem_cons_of_mem _ hz)) with q | q
      · have := h3 z hz; omega
      · exact q
    · intro hz
      rcases List.mem_cons.mp ((h z).mpr (List.mem_cons_of_mem _ hz)) with q | q
      · have := h5 z hz; omega
      · exact q
/-- do ways lead to a block from what another one dominates, the first ones looked at? -/
noncomputable def ld (S : List (List Nat)) (x b a : Nat) : Bool := (List.range a).any fun c => decide (b ∈ S.getD c []) && dmb S x c
theorem ld_succ (S : List (List Nat)) (x b a : Nat) : ld S x b (a + 1) = (ld S x b a || (decide (b ∈ S.getD a []) && dmb S x a)) := by
  unfold ld; rw [List.range_succ, List.any_append]; simp
theorem dm_eq (S : List (List Nat)) (x b : Nat) : (rchb S (-1) 0 b && !rchb S (x : Int) 0 b) = dmb S x b := by
  rw [Bool.eq_iff_iff, rover_dm, dmb_true]
theorem rfront_l9 (hG : Gr S) (P : List (List Int)) (x b : Nat) (out : List Int) (d : Nat) : ∀ a, a ≤ S.length → S.length - a = d →
    EvTo (fun k => lockstepref09_Frontier_l9 k (x : Int) (ordG S P) (b : Int) out (ld S x b a) (a : Int)) (out, ld S x b S.length, ordG S P) := by
  have hle := hG.le
  have hux : (ordG S P).1.length = S.length := up2_length S
  induction d with
  | zero =>
    intro a ha hd
    obtain rfl : a = S.length := by omega
    refine EvTo.succ ?_; simp only [lockstepref09_Frontier_l9]
    exact EvTo.ifn (by rw [hux, decide_eq_true_eq]; omega) EvTo.pure
  | succ d ih =>
    intro a ha hd
    have hal : a < S.length := by omega
    have hn := ih (a + 1) (by omega) (by omega)
    rw [ld_succ] at hn
    have hrl := gr_len hG hal
    refine EvTo.succ ?_; simp only [lockstepref09_Frontier_l9]
    rw [hux, Int.toNat_natCast, getD_up2, wrapS hal (by omega)]
    refine EvTo.ifp (decide_eq_true (by omega)) ?_
    cases e : ld S x b a with
    | true =>
      rw [e] at hn
      exact EvTo.ifn (by decide) hn
    | false =>
      rw [e, Bool.false_or] at hn
      refine EvTo.ifp rfl (EvTo.ifp (by omega) (EvTo.bind (has_up (S.getD a []) b (by have : reachBytes = 140737488351232 := rfl; omega)) ?_))
      by_cases hb : b ∈ S.getD a []
      · rw [decide_eq_true hb, Bool.true_and] at hn
        refine EvTo.ifp (decide_eq_true hb) (EvTo.bind (a := dmb S x a) ?_ hn)
        have h1 := rover_ok hG P (r := 0) (a := x) (b := a) hG.pos hal
        rw [dm_eq] at h1
        exact h1
      · rw [decide_eq_false hb, Bool.false_and] at hn
        exact EvTo.ifn (by rw [decide_eq_true_eq]; exact hb) hn
/-- is a block in another one's frontier? -/
noncomputable def inF (S : List (List Nat)) (x b : Nat) : Bool := ld S x b S.length && (decide (b = x) || !dmb S x b)
theorem rfront_l5 (hG : Gr S) (P : List (List Int)) (x : Nat) (d : Nat) : ∀ b, b ≤ S.length → S.length - b = d →
    EvTo (fun k => lockstepref09_Frontier_l5 k (x : Int) (ordG S P) (up ((List.range b).filter (inF S x))) (b : Int)) (up ((List.range S.length).filter (inF S x)), ordG S P) := by
  have hle := hG.le
  have hux : (ordG S P).1.length = S.length := up2_length S
  induction d with
  | zero =>
    intro b hb hd
    obtain rfl : b = S.length := by omega
    refine EvTo.succ ?_; simp only [lockstepref09_Frontier_l5]
    exact EvTo.ifn (by rw [hux, decide_eq_true_eq]; omega) EvTo.pure
  | succ d ih =>
    intro b hb hd
    have hbl : b < S.length := by omega
    have hn := ih (b + 1) (by omega) (by omega)
    rw [List.range_succ, List.filter_append] at hn
    have h9 := rfront_l9 hG P x b (up ((List.range b).filter (inF S x))) S.length 0 (Nat.zero_le _) rfl
    rw [show ld S x b 0 = false by simp [ld]] at h9
    have hfl := List.length_filter_le (inF S x) (List.range b)
    rw [List.length_range] at hfl
    have hlen : (up ((List.range b).filter (inF S x) ++ [b])).length ≤ Ev.most := by rw [up_length, List.length_append, List.length_singleton, most_eq]; omega
    refine EvTo.succ ?_; simp only [lockstepref09_Frontier_l5]
    rw [hux, wrapS hbl (by omega)]
    refine EvTo.ifp (decide_eq_true (by omega)) (EvTo.bind h9 ?_)
    dsimp only
    rw [← up_snoc]
    cases e : ld S x b S.length with
    | false =>
      rw [List.filter_cons_of_neg (by unfold inF; rw [e]; simp), List.filter_nil, List.append_nil] at hn
      exact EvTo.ifn (by decide) hn
    | true =>
      refine EvTo.ifp rfl ?_
      by_cases e1 : b = x
      · rw [List.filter_cons_of_pos (by unfold inF; rw [e, decide_eq_true e1]; rfl), List.filter_nil] at hn
        exact EvTo.ifn (by simp [e1]) (EvTo.ifp hlen hn)
      · have h1 := rover_ok hG P (r := 0) (a := x) (b := b) hG.pos hbl
        rw [dm_eq] at h1
        refine EvTo.ifp (by rw [beq_eq_false_iff_ne]; omega) (EvTo.bind h1 ?_)
        cases e2 : dmb S x b with
        | true =>
          rw [List.filter_cons_of_neg (by unfold inF; rw [e, e2, decide_eq_false e1]; decide), List.filter_nil, List.append_nil] at hn
          exact EvTo.ifn (by decide) hn
        | false =>
          rw [List.filter_cons_of_pos (by unfold inF; rw [e, e2]; simp), List.filter_nil] at hn
          exact EvTo.ifp (by decide) (EvTo.ifp hlen hn)
end
end Go.PrS
