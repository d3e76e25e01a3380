/- dom.meet and dom.Tree, the plain laws: what is found is each block's nearest dominator. No conditions beyond each theorem's own. -/
import Derived.Test.YtmbkpnhmeljcgaaGo
import Derived.Test.YtmbkpnhmeljcgaaGr
set_option linter.unusedVariables false
set_option linter.unusedSimpArgs false
namespace Go.PrS
open Go Go.Ev Go.Proofs
/-! #### each block but the first one has one ahead of it from which it is come to -/
mutual
theorem visit_par (S : List (List Nat)) : ∀ (f x : Nat) (st : Sn × List Nat), ∃ l, (visit S f x st).2 = st.2 ++ l ∧ ∀ l1 z l2, l = l1 ++ z :: l2 → z = x ∨ ∃ p ∈ l2, z ∈ S.getD p []
  | 0, x, st => ⟨[], by simp [visit], fun l1 z l2 e => by simp at e⟩
  | f + 1, x, st => by
    obtain ⟨l, h1, h2⟩ := steps_par S f (S.getD x []) (upd st.1 x, st.2)
    refine ⟨l ++ [x], by rw [visit_succ]; show (steps S f (S.getD x []) (upd st.1 x, st.2)).2 ++ [x] = _; rw [h1, List.append_assoc], fun l1 z l2 e => ?_⟩
    rcases List.append_eq_append_iff.mp e with ⟨m, hm1, hm2⟩ | ⟨m, hm1, hm2⟩
    · cases m with
      | nil => simp at hm2; exact .inl hm2.1.symm
      | cons b m =>
        have := congrArg List.length hm2
        simp only [List.length_append, List.length_cons, List.length_nil] at this; omega
    · cases m with
      | nil => simp at hm2; exact .inl hm2.1
      | cons b m =>
        injection hm2 with e1 e2
        subst e1
        right
        rcases h2 l1 z m hm1 with e3 | ⟨p, hp, e3⟩
        · exact ⟨x, by rw [e2]; simp, e3⟩
        · exact ⟨p, by rw [e2]; exact List.mem_append_left _ hp, e3⟩
theorem steps_par (S : List (List Nat)) : ∀ (f : Nat) (ys : List Nat) (st : Sn × List Nat), ∃ l, (steps S f ys st).2 = st.2 ++ l ∧ ∀ l1 z l2, l = l1 ++ z :: l2 → z ∈ ys ∨ ∃ p ∈ l2, z ∈ S.getD p []
  | f, [], st => ⟨[], by simp [steps], fun l1 z l2 e => by simp at e⟩
  | f, y :: ys, st => by
    rw [steps_cons]
    by_cases hy : st.1 y = true
    · rw [if_pos hy]
      obtain ⟨l, h1, h2⟩ := steps_par S f ys st
      refine ⟨l, h1, fun l1 z l2 e => ?_⟩
      rcases h2 l1 z l2 e with e | e
      · exact .inl (List.mem_cons_of_mem _ e)
      · exact .inr e
    · rw [if_neg hy]
      obtain ⟨la, a1, a2⟩ := visit_par S f y st
      obtain ⟨lb, b1, b2⟩ := steps_par S f ys (visit S f y st)
      refine ⟨la ++ lb, by rw [b1, a1, List.append_assoc], fun l1 z l2 e => ?_⟩
      rcases List.append_eq_append_iff.mp e with ⟨m, hm1, hm2⟩ | ⟨m, hm1, hm2⟩
      · rcases b2 m z l2 hm2 with e | e
        · exact .inl (List.mem_cons_of_mem _ e)
        · exact .inr e
      · cases m with
        | nil =>
          rcases b2 [] z l2 hm2.symm with e | e
          · exact .inl (List.mem_cons_of_mem _ e)
          · exact .inr e
        | cons b m =>
          injection hm2 with e1 e2
          subst e1
          rcases a2 l1 z m hm1 with e3 | ⟨p, hp, e3⟩
          · exact .inl (e3 ▸ List.mem_cons_self ..)
          · exact .inr ⟨p, by rw [e2]; exact List.mem_append_left _ hp, e3⟩
end
theorem dfs_par {S : List (List Nat)} {r : Nat} {l1 l2 : List Nat} {z : Nat} (e : dfs S r = l1 ++ z :: l2) (hz : z ≠ r) : ∃ p ∈ l1, z ∈ S.getD p [] := by
  obtain ⟨l, h1, h2⟩ := visit_par S S.length r (none', [])
  have e2 : l = l2.reverse ++ z :: l1.reverse := by
    have e3 := congrArg List.reverse e
    rw [dfs, List.reverse_reverse, h1] at e3
    simpa using e3
  rcases h2 _ _ _ e2 with e3 | ⟨p, hp, e3⟩
  · exact absurd e3 hz
  · exact ⟨p, List.mem_reverse.mp hp, e3⟩
theorem nodup_inj : ∀ {l : List Nat}, l.Nodup → ∀ {i j : Nat} (hi : i < l.length) (hj : j < l.length), l[i] = l[j] → i = j := by
  intro l
  induction l with
  | nil => intro _ i j hi; simp at hi
  | cons x l ih =>
    intro hn i j hi hj e
    obtain ⟨h1, h2⟩ := List.nodup_cons.mp hn
    cases i with
    | zero => cases j with
      | zero => rfl
      | succ j => exact absurd (by simp at e; rw [e]; exact List.getElem_mem _) h1
    | succ i => cases j with
      | zero => exact absurd (by simp at e; rw [← e]; exact List.getElem_mem _) h1
      | succ j =>
        have := ih h2 (i := i) (j := j) (by simpa using hi) (by simpa using hj) (by simpa using e)
        omega
/-- Places by the order. -/
def Places (o : List Nat) (at_ : Nat → Nat) : Prop := ∀ j, j < o.length → at_ (o.getD j 0) = j
theorem mem_at {o : List Nat} {x : Nat} (h : x ∈ o) : ∃ i, i < o.length ∧ o.getD i 0 = x := by
  obtain ⟨i, hi, e⟩ := List.getElem_of_mem h
  exact ⟨i, hi, by rw [List.getD_eq_getElem?_getD, List.getElem?_eq_getElem hi]; exact e⟩
theorem dfs_pl {S : List (List Nat)} (h : Gr S) {r : Nat} (hr : r < S.length) {at_ : Nat → Nat} (ha : Places (dfs S r) at_) : ∃ par, Pl S r at_ par := by
  have key : ∀ x, Rch S (-1) r x → x ≠ r → ∃ p, Rch S (-1) r p ∧ x ∈ S.getD p [] ∧ at_ p < at_ x := by
    intro x hx hxr
    obtain ⟨i, hi, e⟩ := mem_at ((dfs_mem h hr x).mpr hx)
    have e2 : dfs S r = (dfs S r).take i ++ x :: (dfs S r).drop (i + 1) := by
      have e1 := drop_getD (dfs S r) i 0 hi
      rw [e] at e1
      rw [← e1, List.take_append_drop]
    obtain ⟨p, hp, hpx⟩ := dfs_par e2 hxr
    have hp2 := List.mem_of_mem_take hp
    refine ⟨p, (dfs_mem h hr p).mp hp2, hpx, ?_⟩
    obtain ⟨j, hj, e3⟩ := List.getElem_of_mem hp
    have hj' : j < i := by simp at hj; omega
    have e4 : (dfs S r).getD j 0 = p := by
      rw [List.getD_eq_getElem?_getD, List.getElem?_eq_getElem (by omega)]
      rw [List.getElem_take] at e3; exact e3
    rw [← e4, ha j (by omega), ← e, ha i hi]; exact hj'
  have := fun x => Classical.propDecidable (Rch S (-1) r x ∧ x ≠ r)
  refine ⟨fun x => if hx : Rch S (-1) r x ∧ x ≠ r then (key x hx.1 hx.2).choose else 0, ?_, ?_⟩
  · intro x y hx hy e
    obtain ⟨i, hi, e1⟩ := mem_at ((dfs_mem h hr x).mpr hx)
    obtain ⟨j, hj, e2⟩ := mem_at ((dfs_mem h hr y).mpr hy)
    rw [← e1, ← e2, ha i hi, ha j hj] at e
    rw [← e1, ← e2, e]
  · intro x hx hxr
    simp only [dif_pos (show Rch S (-1) r x ∧ x ≠ r from ⟨hx, hxr⟩)]
    exact (key x hx hxr).choose_spec

/-! #### lists of entries -/
def tv (T : Tr) (x : Nat) : Int := match T x with | none => -2 | some y => (y : Int)
def tl (n : Nat) (T : Tr) : List Int := (List.range n).map (tv T)
def li (n : Nat) (f : Nat → Nat) : List Int := (List.range n).map (fun x => ((f x : Nat) : Int))
@[simp] theorem tl_length (n : Nat) (T : Tr) : (tl n T).length = n := by simp [tl]
@[simp] theorem li_length (n : Nat) (f : Nat → Nat) : (li n f).length = n := by simp [li]
theorem rd_tl {n : Nat} (T : Tr) {x : Nat} (h : x < n) : (tl n T).getD x 0 = tv T x := by
  simp only [tl]; exact getD_map_range _ _ _ _ h
theorem rd_li {n : Nat} (f : Nat → Nat) {x : Nat} (h : x < n) : (li n f).getD x 0 = ((f x : Nat) : Int) := by
  simp only [li]; exact getD_map_range n (fun x => ((f x : Nat) : Int)) _ _ h
theorem set_tl (n : Nat) (T : Tr) (x y : Nat) : (tl n T).set x (y : Int) = tl n (put T x y) :=
  set_map_range _ _ _ _ _ (by simp [tv, put]) (fun j hj => by simp [tv, put, hj])
def updn' (f : Nat → Nat) (x v : Nat) : Nat → Nat := fun y => if y = x then v else f y
theorem set_li (n : Nat) (f : Nat → Nat) (x v : Nat) : (li n f).set x (v : Int) = li n (updn' f x v) :=
  set_map_range _ _ _ _ _ (by simp [updn']) (fun j hj => by simp [updn', hj])
theorem tv_some {T : Tr} {x y : Nat} (h : T x = some y) : tv T x = (y : Int) := by simp [tv, h]
theorem tv_none {T : Tr} {x : Nat} (h : T x = none) : tv T x = -2 := by simp [tv, h]

def Lca (T : Tr) (r a b m : Nat) : Prop := An T r m a ∧ An T r m b ∧ ∀ c, An T r c a → An T r c b → An T r c m
section
variable {S : List (List Nat)} {r n : Nat} {at_ par : Nat → Nat} {T : Tr}
/-- up from a, as long as it lies behind b -/
def Climb (T : Tr) (r : Nat) (at_ : Nat → Nat) (a b a1 : Nat) : Prop := (∃ z, T a1 = some z) ∧ at_ a1 ≤ at_ b ∧ at_ a1 ≤ at_ a ∧ (at_ a ≤ at_ b → a1 = a) ∧ (at_ b < at_ a → at_ a1 < at_ a) ∧ An T r a1 a ∧ ∀ c, An T r c a → An T r c b → An T r c a1
theorem climb_up (hI : Inv S r at_ par T) {a b a' a1 : Nat} (ha : T a = some a') (har : a ≠ r) (hgt : at_ b < at_ a) (hlt : at_ a' < at_ a) (h : Climb T r at_ a' b a1) : Climb T r at_ a b a1 := by
  obtain ⟨h1, h2, h3, h4, h5, h6, h7⟩ := h
  refine ⟨h1, h2, by omega, fun h => by omega, fun _ => by omega, .up ha har h6, fun c g1 g2 => ?_⟩
  cases g1 with
  | refl _ => have := g2.le hI; omega
  | up g3 _ g4 => rw [ha] at g3; cases g3; exact h7 c g4 g2
theorem climb_end {a b a' : Nat} (ha : T a = some a') (hle : at_ a ≤ at_ b) : Climb T r at_ a b a := ⟨⟨a', ha⟩, hle, Nat.le_refl _, fun _ => rfl, fun h => by omega, .refl ha, fun _ h _ => h⟩
theorem meet_climb2 (hG : Gr S) (hr : r < S.length) (hI : Inv S r at_ par T) (h0 : at_ r = 0) {b b' : Nat} (hb : T b = some b') : ∀ (N a a' : Nat), at_ a ≤ N → T a = some a' →
    ∃ a1 : Nat, EvTo (fun k => dom_meet_l2 k (tl S.length T) (li S.length at_) (b : Int) (a : Int)) (a1 : Int) ∧ Climb T r at_ a b a1 := by
  have hbl := (hI.rch _ _ hb).lt hG hr
  intro N
  induction N with
  | zero =>
    intro a a' hN ha
    have hal := (hI.rch _ _ ha).lt hG hr
    refine ⟨a, EvTo.succ ?_, climb_end (at_ := at_) (b := b) ha (by omega)⟩
    simp only [dom_meet_l2]
    rw [Int.toNat_natCast, Int.toNat_natCast, rd_li _ hal, rd_li _ hbl]
    exact EvTo.ifp (by rw [li_length]; omega) (EvTo.ifp (by rw [li_length]; omega) (EvTo.ifn (by rw [decide_eq_true_eq]; omega) EvTo.pure))
  | succ N ih =>
    intro a a' hN ha
    have hal := (hI.rch _ _ ha).lt hG hr
    by_cases hgt : at_ b < at_ a
    · have har : a ≠ r := by rintro rfl; omega
      obtain ⟨h1, z, h2⟩ := hI.lt a a' ha har
      obtain ⟨a1, g1, g2⟩ := ih a' z (by omega) h2
      refine ⟨a1, EvTo.succ ?_, climb_up hI ha har hgt h1 g2⟩
      simp only [dom_meet_l2]
      rw [Int.toNat_natCast, Int.toNat_natCast, rd_li _ hal, rd_li _ hbl, rd_tl _ hal, tv_some ha]
      exact EvTo.ifp (by rw [li_length]; omega) (EvTo.ifp (by rw [li_length]; omega) (EvTo.ifp (decide_eq_true (by omega)) (EvTo.ifp (by rw [tl_length]; omega) g1)))
    · refine ⟨a, EvTo.succ ?_, climb_end (at_ := at_) (b := b) ha (by omega)⟩
      simp only [dom_meet_l2]
      rw [Int.toNat_natCast, Int.toNat_natCast, rd_li _ hal, rd_li _ hbl]
      exact EvTo.ifp (by rw [li_length]; omega) (EvTo.ifp (by rw [li_length]; omega) (EvTo.ifn (by rw [decide_eq_true_eq]; omega) EvTo.pure))
theorem meet_climb4 (hG : Gr S) (hr : r < S.length) (hI : Inv S r at_ par T) (h0 : at_ r = 0) {b b' : Nat} (hb : T b = some b') : ∀ (N a a' : Nat), at_ a ≤ N → T a = some a' →
    ∃ a1 : Nat, EvTo (fun k => dom_meet_l4 k (tl S.length T) (li S.length at_) (b : Int) (a : Int)) (a1 : Int) ∧ Climb T r at_ a b a1 := by
  have hbl := (hI.rch _ _ hb).lt hG hr
  intro N
  induction N with
  | zero =>
    intro a a' hN ha
    have hal := (hI.rch _ _ ha).lt hG hr
    refine ⟨a, EvTo.succ ?_, climb_end (at_ := at_) (b := b) ha (by omega)⟩
    simp only [dom_meet_l4]
    rw [Int.toNat_natCast, Int.toNat_natCast, rd_li _ hal, rd_li _ hbl]
    exact EvTo.ifp (by rw [li_length]; omega) (EvTo.ifp (by rw [li_length]; omega) (EvTo.ifn (by rw [decide_eq_true_eq]; omega) EvTo.pure))
  | succ N ih =>
    intro a a' hN ha
    have hal := (hI.rch _ _ ha).lt hG hr
    by_cases hgt : at_ b < at_ a
    · have har : a ≠ r := by rintro rfl; omega
      obtain ⟨h1, z, h2⟩ := hI.lt a a' ha har
      obtain ⟨a1, g1, g2⟩ := ih a' z (by omega) h2
      refine ⟨a1, EvTo.succ ?_, climb_up hI ha har hgt h1 g2⟩
      simp only [dom_meet_l4]
      rw [Int.toNat_natCast, Int.toNat_natCast, rd_li _ hal, rd_li _ hbl, rd_tl _ hal, tv_some ha]
      exact EvTo.ifp (by rw [li_length]; omega) (EvTo.ifp (by rw [li_length]; omega) (EvTo.ifp (decide_eq_true (by omega)) (EvTo.ifp (by rw [tl_length]; omega) g1)))
    · refine ⟨a, EvTo.succ ?_, climb_end (at_ := at_) (b := b) ha (by omega)⟩
      simp only [dom_meet_l4]
      rw [Int.toNat_natCast, Int.toNat_natCast, rd_li _ hal, rd_li _ hbl]
      exact EvTo.ifp (by rw [li_length]; omega) (EvTo.ifp (by rw [li_length]; omega) (EvTo.ifn (by rw [decide_eq_true_eq]; omega) EvTo.pure))
theorem meet_l (hG : Gr S) (hr : r < S.length) (hP : Pl S r at_ par) (h0 : at_ r = 0) (hI : Inv S r at_ par T) : ∀ (N a b a' b' : Nat), at_ a + at_ b < N → T a = some a' → T b = some b' →
    ∃ m : Nat, EvTo (fun k => dom_meet_l1 k (tl S.length T) (li S.length at_) (a : Int) (b : Int)) (m : Int) ∧ Lca T r a b m := by
  intro N
  induction N with
  | zero => intro a b a' b' h; omega
  | succ N ih =>
    intro a b a' b' hN ha hb
    by_cases hab : a = b
    · subst hab
      refine ⟨a, EvTo.succ ?_, .refl ha, .refl ha, fun c h _ => h⟩
      simp only [dom_meet_l1]
      exact EvTo.ifn (by simp) EvTo.pure
    · have hne : at_ a ≠ at_ b := fun e => hab (hP.inj a b (hI.rch _ _ ha) (hI.rch _ _ hb) e)
      obtain ⟨a1, g1, ⟨z1, c1⟩, c2, c3, c4, c5, c6, c7⟩ := meet_climb2 hG hr hI h0 hb _ a a' (Nat.le_refl _) ha
      obtain ⟨b1, k1, ⟨z2, d1⟩, d2, d3, d4, d5, d6, d7⟩ := meet_climb4 hG hr hI h0 c1 _ b b' (Nat.le_refl _) hb
      have hlt : at_ a1 + at_ b1 < at_ a + at_ b := by
        rcases Nat.lt_or_ge (at_ b) (at_ a) with h | h
        · have := c5 h; omega
        · have e := c4 h
          subst e
          have := d5 (by omega)
          omega
      obtain ⟨m, m1, m2, m3, m4⟩ := ih a1 b1 z1 z2 (by omega) c1 d1
      refine ⟨m, EvTo.succ ?_, m2.trans c6, m3.trans d6, fun c e1 e2 => ?_⟩
      · simp only [dom_meet_l1]
        exact EvTo.ifp (by simp; omega) (EvTo.bind g1 (EvTo.bind k1 m1))
      · have e3 := c7 c e1 e2
        exact m4 c e3 (d7 c e2 e3)
theorem meet3 (hG : Gr S) (hr : r < S.length) (hP : Pl S r at_ par) (h0 : at_ r = 0) (hI : Inv S r at_ par T) {a b a' b' : Nat} (ha : T a = some a') (hb : T b = some b') :
    ∃ m : Nat, EvTo (fun k => dom_meet k (tl S.length T) (li S.length at_) (a : Int) (b : Int)) (m : Int) ∧ Lca T r a b m := by
  obtain ⟨m, h1, h2⟩ := meet_l hG hr hP h0 hI _ a b a' b' (Nat.lt_succ_self _) ha hb
  unfold dom_meet
  exact ⟨m, EvTo.bind h1 EvTo.pure, h2⟩
/-- What is best of some blocks from which one comes: nothing, or the nearest one over all that there is of them. -/
def BestOf (T : Tr) (r : Nat) (ps : List Nat) (best : Int) : Prop :=
  ((∀ p ∈ ps, T p = none) ∧ best = -2) ∨ ∃ b : Nat, best = (b : Int) ∧ (∃ z, T b = some z) ∧ (∀ p ∈ ps, ∀ z, T p = some z → An T r b p) ∧ ∀ c, (∀ p ∈ ps, ∀ z, T p = some z → An T r c p) → An T r c b
theorem bestOf_nil : BestOf T r [] (-2) := .inl ⟨by simp, rfl⟩
theorem tree_best (hG : Gr S) (hr : r < S.length) (hP : Pl S r at_ par) (h0 : at_ r = 0) (hI : Inv S r at_ par T) {x : Nat} (hx : x < S.length) (o y : List Int) (yl i : Int) (d : Nat) :
    ∀ (j : Nat) (best : Int), ((pr S).getD x []).length - j = d → j ≤ ((pr S).getD x []).length → BestOf T r (((pr S).getD x []).take j) best →
    ∃ best', BestOf T r ((pr S).getD x []) best' ∧ EvTo (fun k => dom_Tree_l17 k (r : Int) (ordG S (up2 (pr S))) o (x : Int) y yl i (up ((pr S).getD x [])) (((pr S).getD x []).length : Int) (tl S.length T) (li S.length at_) best (j : Int)) (tl S.length T, li S.length at_, best', ordG S (up2 (pr S))) := by
  have hlen : ((pr S).getD x []).length ≤ 64 := gr_len (gr_pr hG) (by rw [pr_length]; exact hx)
  induction d with
  | zero =>
    intro j best hd hj hB
    rw [List.take_of_length_le (by omega)] at hB
    refine ⟨best, hB, EvTo.succ ?_⟩
    simp only [dom_Tree_l17]
    exact EvTo.ifn (by rw [decide_eq_true_eq]; omega) EvTo.pure
  | succ d ih =>
    intro j best hd hj hB
    have hj1 : j < ((pr S).getD x []).length := by omega
    have hmem : ((pr S).getD x []).getD j 0 ∈ (pr S).getD x [] := getD_mem hj1
    have hp := (mem_pr hx).mp hmem
    have htk := take_getD ((pr S).getD x []) j 0 hj1
    generalize hpv : ((pr S).getD x []).getD j 0 = p at hmem hp htk
    have hstep : ∀ bn, BestOf T r (((pr S).getD x []).take (j + 1)) bn → (∀ v, EvTo (fun k => dom_Tree_l17 k (r : Int) (ordG S (up2 (pr S))) o (x : Int) y yl i (up ((pr S).getD x [])) (((pr S).getD x []).length : Int) (tl S.length T) (li S.length at_) bn ((j + 1 : Nat) : Int)) v →
        EvTo (fun k => dom_Tree_l17 k (r : Int) (ordG S (up2 (pr S))) o (x : Int) y yl i (up ((pr S).getD x [])) (((pr S).getD x []).length : Int) (tl S.length T) (li S.length at_) best (j : Int)) v) →
        ∃ best', BestOf T r ((pr S).getD x []) best' ∧ EvTo (fun k => dom_Tree_l17 k (r : Int) (ordG S (up2 (pr S))) o (x : Int) y yl i (up ((pr S).getD x [])) (((pr S).getD x []).length : Int) (tl S.length T) (li S.length at_) best (j : Int)) (tl S.length T, li S.length at_, best', ordG S (up2 (pr S))) := by
      intro bn hbn hcont
      obtain ⟨best', g1, g2⟩ := ih (j + 1) bn (by omega) (by omega) hbn
      exact ⟨best', g1, hcont _ g2⟩
    cases hT : T p with
    | none =>
      refine hstep best ?_ (fun v hv => EvTo.succ ?_)
      · rw [htk]
        rcases hB with ⟨h1, h2⟩ | ⟨b, h1, h2, h3, h4⟩
        · refine .inl ⟨fun q hq => ?_, h2⟩
          rcases List.mem_append.mp hq with e | e
          · exact h1 q e
          · rw [List.mem_singleton.mp e]; exact hT
        · refine .inr ⟨b, h1, h2, fun q hq z hz => ?_, fun c hc => h4 c (fun q hq => hc q (List.mem_append_left _ hq))⟩
          rcases List.mem_append.mp hq with e | e
          · exact h3 q e z hz
          · rw [List.mem_singleton.mp e, hT] at hz; cases hz
      · simp only [dom_Tree_l17]
        rw [Int.toNat_natCast, getD_up, hpv, Int.toNat_natCast, rd_tl _ hp.1, tv_none hT, wrapS hj1 (by omega)]
        exact EvTo.ifp (decide_eq_true (by omega)) (EvTo.ifp (by rw [up_length]; omega) (EvTo.ifp (by rw [tl_length]; omega) (EvTo.ifp (by simp) hv)))
    | some p' =>
      rcases hB with ⟨h1, h2⟩ | ⟨b, h1, ⟨bz, h2⟩, h3, h4⟩
      · refine hstep (p : Int) ?_ (fun v hv => EvTo.succ ?_)
        · rw [htk]
          refine .inr ⟨p, rfl, ⟨p', hT⟩, fun q hq z hz => ?_, fun c hc => hc p (by simp) p' hT⟩
          rcases List.mem_append.mp hq with e | e
          · rw [h1 q e] at hz; cases hz
          · rw [List.mem_singleton.mp e]; exact .refl hT
        · simp only [dom_Tree_l17]
          rw [Int.toNat_natCast, getD_up, hpv, Int.toNat_natCast, rd_tl _ hp.1, tv_some hT, wrapS hj1 (by omega)]
          exact EvTo.ifp (decide_eq_true (by omega)) (EvTo.ifp (by rw [up_length]; omega) (EvTo.ifp (by rw [tl_length]; omega) (EvTo.ifn (by rw [beq_iff_eq]; omega) (EvTo.ifp (by simp [h2]) hv))))
      · obtain ⟨m, g1, g2, g3, g4⟩ := meet3 hG hr hP h0 hI h2 hT
        refine hstep (m : Int) ?_ (fun v hv => EvTo.succ ?_)
        · rw [htk]
          refine .inr ⟨m, rfl, g2.top, fun q hq z hz => ?_, fun c hc => g4 c (h4 c (fun q hq => hc q (List.mem_append_left _ hq))) (hc p (by simp) p' hT)⟩
          rcases List.mem_append.mp hq with e | e
          · exact g2.trans (h3 q e z hz)
          · rw [List.mem_singleton.mp e]; exact g3
        · simp only [dom_Tree_l17]
          rw [Int.toNat_natCast, getD_up, hpv, Int.toNat_natCast, rd_tl _ hp.1, tv_some hT, wrapS hj1 (by omega), h1]
          exact EvTo.ifp (decide_eq_true (by omega)) (EvTo.ifp (by rw [up_length]; omega) (EvTo.ifp (by rw [tl_length]; omega) (EvTo.ifn (by rw [beq_iff_eq]; omega) (EvTo.ifn (by rw [beq_iff_eq]; omega) (EvTo.bind g1 hv)))))
/-! the whole -/
def wt (n : Nat) (at_ : Nat → Nat) (T : Tr) : Nat := ((List.range n).map (fun x => match T x with | none => n | some y => at_ y)).sum
theorem sum_le {l : List Nat} {f g : Nat → Nat} (h : ∀ x ∈ l, f x ≤ g x) : (l.map f).sum ≤ (l.map g).sum := by
  induction l with
  | nil => simp
  | cons x l ih =>
    have h1 := ih (fun y hy => h y (List.mem_cons_of_mem _ hy))
    have h2 := h x (List.mem_cons_self ..)
    simp only [List.map_cons, List.sum_cons]; omega
theorem sum_lt {l : List Nat} {f g : Nat → Nat} (h : ∀ x ∈ l, f x ≤ g x) {z : Nat} (hz : z ∈ l) (hl : f z < g z) : (l.map f).sum < (l.map g).sum := by
  induction l with
  | nil => cases hz
  | cons x l ih =>
    have h1 := sum_le (fun y hy => h y (List.mem_cons_of_mem x hy))
    have h2 := h x (List.mem_cons_self ..)
    simp only [List.map_cons, List.sum_cons]
    rcases List.mem_cons.mp hz with e | e
    · subst e; omega
    · have := ih (fun y hy => h y (List.mem_cons_of_mem _ hy)) e; omega
open Classical in
/-- A block's entry: the nearest of those that dominate it; -1: the root; -2: it isn't reached. -/
noncomputable def idv (S : List (List Nat)) (r x : Nat) : Int := if x = r then -1 else if h : ∃ z, Idm S r z x then (h.choose : Int) else -2
noncomputable def dtl (S : List (List Nat)) (r : Nat) : List Int := (List.range S.length).map (idv S r)
theorem idv_root : idv S r r = -1 := by simp [idv]
theorem idv_idm (hP : Pl S r at_ par) {x z : Nat} (hx : x ≠ r) (h : Idm S r z x) : idv S r x = (z : Int) := by
  have hex : ∃ z, Idm S r z x := ⟨z, h⟩
  unfold idv
  rw [if_neg hx, dif_pos hex, idm_unique hP hex.choose_spec h]
theorem idv_no {x : Nat} (hr : r < S.length) (hx : ¬ Rch S (-1) r x) : idv S r x = -2 := by
  unfold idv
  rw [if_neg (fun e => hx (by subst e; exact .base (by omega))), dif_neg (fun h => by obtain ⟨z, hz⟩ := h; exact hx hz.1.1)]
theorem tree_end (hP : Pl S r at_ par) (hr : r < S.length) (hI : Inv S r at_ par T) (hF : ∀ y, Rch S (-1) r y → y ≠ r → Fx S r T y) : (tl S.length T).set r (-1) = dtl S r := by
  refine set_map_range _ _ _ _ _ idv_root (fun j hj => ?_)
  by_cases hR : Rch S (-1) r j
  · obtain ⟨z, hz, _⟩ := hF j hR hj
    rw [tv_some hz]
    exact idv_idm hP hj (fix_idm hI hF j z hz hj)
  · rw [idv_no hr hR]
    cases hT : T j with
    | none => exact (tv_none hT).symm
    | some y => exact absurd (hI.rch _ _ hT) hR
end
end Go.PrS
