/- GraphReaches, the plain law: the order has each block that can be reached once, the root first; where no way leads back, each block ahead of those at which it goes on. No conditions. -/
import Derived.Test.YtokfaaemhniodaaGReach
import Derived.Test.YtokfaaemhniodaaGx13
namespace Go.Proofs.Ytokfaaemhniodaa.GP
open Go.RowKit Go.Proofs.Ytokfaaemhniodaa.G Go.Proofs.YtokfaaemhniodaaW.PrintWords Go.Proofs.YtokfaaemhniodaaH

/-- Where a block stands, counted from one, when i of the order are gone through; else 0. -/
def pos (l : List Nat) (i z : Nat) : Nat := if l.idxOf z < i then l.idxOf z + 1 else 0
def posI (n : Nat) (l : List Nat) (i : Nat) : List Int := (List.range n).map (fun z => ((pos l i z : Nat) : Int))
theorem rd_posI {n : Nat} {l : List Nat} {i z : Nat} (h : z < n) : rd (posI n l i) (z : Int) = ((pos l i z : Nat) : Int) := by
  simp only [rd, Int.toNat_natCast, posI]; exact getD_map_range n (fun z => ((pos l i z : Nat) : Int)) _ _ h
@[simp] theorem posI_length (n : Nat) (l : List Nat) (i : Nat) : (posI n l i).length = n := by simp [posI]
theorem idx_getD {l : List Nat} (hn : l.Nodup) {i : Nat} (h : i < l.length) : l.idxOf (l.getD i 0) = i := by
  rw [List.getD_eq_getElem?_getD, List.getElem?_eq_getElem h]
  exact hn.idxOf_getElem i h
theorem pos_all {l : List Nat} (z : Nat) : 0 < pos l l.length z ↔ z ∈ l := by
  unfold pos
  constructor
  · intro h
    split at h
    · next h1 => exact List.idxOf_lt_length_iff.mp h1
    · omega
  · intro h
    rw [if_pos (List.idxOf_lt_length_iff.mpr h)]; omega
theorem pos_lt {S : List (List Nat)} (h : Gr S) (hup : ∀ i, ∀ y ∈ S.getD i [], i < y) {r : Nat} (hr : r < S.length) {a y : Nat} (ha : a ∈ dfs S r) (hy : y ∈ S.getD a []) : pos (dfs S r) (dfs S r).length a < pos (dfs S r) (dfs S r).length y := by
  obtain ⟨t, l, e⟩ := List.append_of_mem ha
  have hl := dfs_ord h hup hr l a t e y hy
  have hn := dfs_nodup h hr
  have hym : y ∈ dfs S r := by rw [e]; exact List.mem_append.mpr (.inr (List.mem_cons_of_mem _ hl))
  rw [e, List.nodup_append] at hn
  obtain ⟨_, hn2, hn3⟩ := hn
  obtain ⟨hn4, _⟩ := List.nodup_cons.mp hn2
  have h1 : a ∉ t := fun hc => hn3 a hc a (List.mem_cons_self ..) rfl
  have h2 : y ∉ t := fun hc => hn3 y hc y (List.mem_cons_of_mem _ hl) rfl
  have h3 : y ≠ a := by rintro rfl; exact hn4 hl
  have i1 : (dfs S r).idxOf a = t.length := by
    rw [e, List.idxOf_append, if_neg h1, List.idxOf_cons_self, Nat.zero_add]
  have i2 : t.length < (dfs S r).idxOf y := by
    rw [e, List.idxOf_append, if_neg h2, List.idxOf_cons, beq_eq_false_iff_ne.mpr (Ne.symm h3)]
    simp only [cond_false]; omega
  unfold pos
  rw [if_pos (List.idxOf_lt_length_iff.mpr ha), if_pos (List.idxOf_lt_length_iff.mpr hym)]
  omega

theorem gr_l4 {S : List (List Nat)} (h : Gr S) (hup : ∀ i, ∀ y ∈ S.getD i [], i < y) {r : Nat} (hr : r < S.length) (i : Nat) (hi : i < S.length)
    (H : Ev (fun k => locksteplaw06_GraphReaches.l3 k (up2 S) (r : Int) (up (dfs S r)) (posI S.length (dfs S r) (dfs S r).length) true ((i + 1 : Nat) : Int)) true) (d : Nat) :
    ∀ j, j ≤ (S.getD i []).length → (S.getD i []).length - j = d → Ev (fun k => locksteplaw06_GraphReaches.l4 k (up2 S) (r : Int) (up (dfs S r)) (posI S.length (dfs S r) (dfs S r).length) true (i : Int) (j : Int)) true := by
  have hle := h.le
  have hdeg := gr_len h hi
  induction d with
  | zero =>
    intro j hj hd
    refine Ev.succ ?_; simp only [locksteplaw06_GraphReaches.l4]
    rw [rdL_up, up_length, up2_length]
    refine Ev.ifp (by omega) (Ev.ifp (by omega) (Ev.ifn (by omega) ?_))
    rw [wrap_nat (by omega)]; exact H
  | succ d ih =>
    intro j hj hd
    have hj1 : j < (S.getD i []).length := by omega
    have hym := getD_mem (d := 0) hj1
    have hy := (h.row i hi).2 _ hym
    refine Ev.succ ?_; simp only [locksteplaw06_GraphReaches.l4]
    rw [rdL_up, up_length, up2_length, rd_posI hi, posI_length, rd_up]
    generalize (S.getD i []).getD j 0 = y at hym hy
    rw [rd_posI hy]
    refine Ev.ifp (by omega) (Ev.ifp (by omega) (Ev.ifp (by omega) (Ev.ifp (by omega) ?_)))
    by_cases hp : ((pos (dfs S r) (dfs S r).length i : Nat) : Int) > 0
    · refine Ev.ifp hp (Ev.ifp (by omega) (Ev.ifp (by omega) (Ev.ifp (by omega) ?_)))
      have := pos_lt h hup hr ((pos_all i).mp (by omega)) hym
      refine Ev.ifn (by omega) ?_
      rw [wrap_nat (by omega)]; exact ih (j + 1) (by omega) (by omega)
    · refine Ev.ifn hp ?_
      rw [wrap_nat (by omega)]; exact ih (j + 1) (by omega) (by omega)
theorem gr_end {S : List (List Nat)} (h : Gr S) (r : Nat) (b : Bool) (i : Int) (A : List Int) : Ev (fun k => locksteplaw06_GraphReaches.j4 k (up2 S) (r : Int) (up (dfs S r)) A b i false) true := by
  refine Ev.succ ?_; simp only [locksteplaw06_GraphReaches.j4]
  obtain ⟨l, e⟩ := dfs_head h r
  refine Ev.ifn (by decide) (Ev.ifp (by rw [e]; simp [up]) (Ev.pure.of_eq ?_))
  rw [e]; simp [up, rd]
theorem gr_l3 {S : List (List Nat)} (h : Gr S) {r : Nat} (hr : r < S.length) (b : Bool) (hb : b = true → ∀ i, ∀ y ∈ S.getD i [], i < y) (d : Nat) :
    ∀ i, i ≤ S.length → S.length - i = d → Ev (fun k => locksteplaw06_GraphReaches.l3 k (up2 S) (r : Int) (up (dfs S r)) (posI S.length (dfs S r) (dfs S r).length) b (i : Int)) true := by
  have hle := h.le
  induction d with
  | zero =>
    intro i hi hd
    refine Ev.succ ?_; simp only [locksteplaw06_GraphReaches.l3]
    exact Ev.ifn (by rw [up2_length]; omega) (gr_end h r _ _ _)
  | succ d ih =>
    intro i hi hd
    refine Ev.succ ?_; simp only [locksteplaw06_GraphReaches.l3]
    refine Ev.ifp (by rw [up2_length]; omega) ?_
    cases b with
    | false => exact gr_end h r _ _ _
    | true =>
      refine Ev.succ ?_; simp only [locksteplaw06_GraphReaches.j4]
      refine Ev.ifp trivial ?_
      exact gr_l4 h (hb rfl) hr i (by omega) (ih (i + 1) (by omega) (by omega)) _ 0 (by omega) rfl
theorem gr_l1 {S : List (List Nat)} (h : Gr S) {r : Nat} (hr : r < S.length) (d : Nat) :
    ∀ (i : Nat) (b : Bool), i ≤ S.length → S.length - i = d → (b = true → ∀ a, a < i → ∀ y ∈ S.getD a [], a < y) →
    Ev (fun k => locksteplaw06_GraphReaches.l1 k (up2 S) (r : Int) (up (dfs S r)) (rbn S.length (rchb S (-1) r)) (posI S.length (dfs S r) (dfs S r).length) b (i : Int)) true := by
  have hle := h.le
  induction d with
  | zero =>
    intro i b hi hd hb
    refine Ev.succ ?_; simp only [locksteplaw06_GraphReaches.l1]
    refine Ev.ifn (by rw [up2_length]; omega) ?_
    refine gr_l3 h hr b (fun hbt a y hy => ?_) S.length 0 (by omega) (by omega)
    by_cases ha : a < S.length
    · exact hb hbt a (by omega) y hy
    · rw [List.getD_eq_getElem?_getD, List.getElem?_eq_none (by omega)] at hy; cases hy
  | succ d ih =>
    intro i b hi hd hb
    have hi' : i < S.length := by omega
    have hdeg := gr_len h hi'
    refine Ev.succ ?_; simp only [locksteplaw06_GraphReaches.l1]
    rw [rd_rbn _ _ hi', rd_posI hi', up2_length, rbn_length, posI_length]
    refine Ev.ifp (by omega) (Ev.ifp (by omega) (Ev.ifp (by omega) (Ev.ifp (by omega) ?_)))
    have e : rchb S (-1) r i = decide (((pos (dfs S r) (dfs S r).length i : Nat) : Int) > 0) := by
      have h1 := pos_all (l := dfs S r) i
      have h2 := dfs_mem h hr i
      have h3 := rchb_true (S := S) (w := -1) (r := r) (z := i)
      cases hq : rchb S (-1) r i with
      | true => rw [decide_eq_true]; have := h1.mpr (h2.mpr (h3.mp hq)); omega
      | false =>
        rw [decide_eq_false]; intro hc
        have := h3.mpr (h2.mp (h1.mp (by omega)))
        rw [hq] at this; cases this
    rw [e]
    refine Ev.ifn (by simp) ?_
    have l2 : ∀ (m j : Nat) (b : Bool), (S.getD i []).length - j = m → j ≤ (S.getD i []).length → (b = true → (∀ a, a < i → ∀ y ∈ S.getD a [], a < y) ∧ ∀ y ∈ (S.getD i []).take j, i < y) →
        Ev (fun k => locksteplaw06_GraphReaches.l2 k (up2 S) (r : Int) (up (dfs S r)) (rbn S.length (rchb S (-1) r)) (posI S.length (dfs S r) (dfs S r).length) b (i : Int) (j : Int)) true := by
      intro m
      induction m with
      | zero =>
        intro j b hm hj hb
        refine Ev.succ ?_; simp only [locksteplaw06_GraphReaches.l2]
        rw [rdL_up, up_length, up2_length]
        refine Ev.ifp (by omega) (Ev.ifp (by omega) (Ev.ifn (by omega) ?_))
        rw [wrap_nat (by omega)]
        refine ih (i + 1) b (by omega) (by omega) (fun hbt a ha y hy => ?_)
        by_cases e : a = i
        · subst e; exact (hb hbt).2 y (by rw [List.take_of_length_le (by omega)]; exact hy)
        · exact (hb hbt).1 a (by omega) y hy
      | succ m ihm =>
        intro j b hm hj hb
        have hj1 : j < (S.getD i []).length := by omega
        refine Ev.succ ?_; simp only [locksteplaw06_GraphReaches.l2]
        rw [rdL_up, up_length, up2_length, rd_up]
        refine Ev.ifp (by omega) (Ev.ifp (by omega) (Ev.ifp (by omega) ?_))
        rw [wrap_nat (by omega)]
        cases b with
        | true =>
          refine Ev.ifp rfl (Ev.ifp (by omega) ?_)
          refine ihm (j + 1) _ (by omega) (by omega) (fun hc => ⟨(hb rfl).1, ?_⟩)
          have hc' := of_decide_eq_true hc
          rw [take_getD _ j 0 hj1]
          intro y hy
          rcases List.mem_append.mp hy with e | e
          · exact (hb rfl).2 y e
          · rw [List.mem_singleton] at e; omega
        | false =>
          refine Ev.ifn (by decide) ?_
          exact ihm (j + 1) false (by omega) (by omega) (fun hc => by cases hc)
    exact l2 _ 0 b rfl (by omega) (fun hbt => ⟨hb hbt, by simp⟩)
theorem gr_l0 {S : List (List Nat)} (h : Gr S) {r : Nat} (hr : r < S.length) (d : Nat) :
    ∀ i, i ≤ (dfs S r).length → (dfs S r).length - i = d → Ev (fun k => locksteplaw06_GraphReaches.l0 k (up2 S) (r : Int) (up (dfs S r)) (rbn S.length (rchb S (-1) r)) (posI S.length (dfs S r) i) (i : Int)) true := by
  have hle := h.le
  have hl := dfs_len h hr
  induction d with
  | zero =>
    intro i hi hd
    refine Ev.succ ?_; simp only [locksteplaw06_GraphReaches.l0]
    refine Ev.ifn (by rw [up_length]; omega) ?_
    rw [show i = (dfs S r).length by omega]
    exact gr_l1 h hr S.length 0 true (by omega) (by omega) (fun _ a ha => by omega)
  | succ d ih =>
    intro i hi hd
    have hi1 : i < (dfs S r).length := by omega
    have hzm := getD_mem (d := 0) hi1
    have hz := dfs_lt h hr _ hzm
    have hidx := idx_getD (dfs_nodup h hr) hi1
    refine Ev.succ ?_; simp only [locksteplaw06_GraphReaches.l0]
    rw [up_length, rd_up]
    generalize hzv : (dfs S r).getD i 0 = z at hzm hz hidx
    rw [rd_posI hz, rd_rbn _ _ hz, up2_length, posI_length, rbn_length]
    have hrz : rchb S (-1) r z = true := rchb_true.mpr ((dfs_mem h hr z).mp hzm)
    refine Ev.ifp (by omega) (Ev.ifp (by omega) (Ev.ifn (by omega) (Ev.ifn (by omega) (Ev.ifp (by omega) (Ev.ifp (by omega) (Ev.ifp ?_ (Ev.ifp (by omega) (Ev.ifp hrz ?_))))))))
    · unfold pos; rw [hidx, if_neg (by omega)]; rfl
    · rw [wrap_nat (by omega), Int.toNat_natCast]
      have e : (posI S.length (dfs S r) i).set z ((i + 1 : Nat) : Int) = posI S.length (dfs S r) (i + 1) := by
        refine set_map_range _ _ _ _ _ ?_ (fun j hj => ?_)
        · unfold pos; rw [hidx, if_pos (by omega)]
        · have hne : (dfs S r).idxOf j ≠ i := by
            intro he
            have hjl : (dfs S r).idxOf j < (dfs S r).length := by omega
            have h1 := List.getElem_idxOf hjl
            have h2 : (dfs S r).getD i 0 = j := by
              rw [List.getD_eq_getElem?_getD, ← he, List.getElem?_eq_getElem hjl, h1]; rfl
            exact hj (by rw [← h2, hzv])
          unfold pos
          by_cases hq : (dfs S r).idxOf j < i
          · rw [if_pos hq, if_pos (by omega)]
          · rw [if_neg hq, if_neg (by omega)]
      rw [e]; exact ih (i + 1) (by omega) (by omega)

theorem graphReaches : locksteplaw06_GraphReaches.Pure := by
  intro l0 a1 hrow ha
  apply Ev.at
  have ha' : 0 ≤ a1 ∧ a1 < 256 := by
    simp [Lit.wf, IntKind.min, IntKind.max, IntKind.signed, IntKind.bits] at ha; omega
  have hml : maxLen ≤ big := by decide
  have hb : l0.length ≤ big := Nat.le_trans hrow.1 hml
  unfold locksteplaw06_GraphReaches.f
  refine Ev.bind awake_ev (Ev.ifp rfl ?_)
  obtain ⟨b, h1, h2⟩ := small_ev l0 hb
  refine Ev.bind h1 ?_
  cases b with
  | false => exact Ev.ifn (by decide) Ev.pure
  | true =>
    refine Ev.ifp rfl ?_
    have hr : ∀ l ∈ l0, l.length ≤ big := fun l hl => by have := (h2 rfl).2 l hl; simp only [big]; omega
    cases hg : goodb l0 with
    | false =>
      refine Ev.bind (make_bad hb hr hg) (Ev.ifn (by decide) ?_)
      refine Ev.bind (order_no 0 (may_bad (s := []) (by simp [big]) (by simp) (by decide) [])) ?_
      exact Ev.pure.of_eq (by decide)
    | true =>
      obtain ⟨S, h, rfl⟩ := good_gr hg
      have hle := h.le; have hpos := h.pos
      refine Ev.bind (make_ok h) (Ev.ifp rfl (Ev.ifn (by rw [up2_length]; omega) ?_))
      have et : Int.tmod (wrap64 a1) ((up2 S).length : Int) = ((a1.toNat % S.length : Nat) : Int) := by
        rw [wrap_id (by omega) (by omega), up2_length, Int.tmod_eq_emod_of_nonneg (by omega), Int.natCast_emod]
        congr 1; omega
      have hr : a1.toNat % S.length < S.length := Nat.mod_lt _ hpos
      rw [et]
      generalize a1.toNat % S.length = r at hr
      refine Ev.bind (order_ok h hr) (Ev.bind (reach_ok h _ (-1) r hr) (Ev.ifp (by omega) (Ev.ifp (by rw [up2_length]; omega) ?_)))
      have e : List.replicate (((up2 S).length : Int)).toNat (0 : Int) = posI S.length (dfs S r) 0 := by
        rw [up2_length, Int.toNat_natCast]
        apply List.ext_getElem
        · simp
        · intro j h1 h2; simp [posI, pos]
      rw [e]
      exact gr_l0 h hr _ 0 (by omega) rfl
end Go.Proofs.Ytokfaaemhniodaa.GP
namespace Go.Proofs.Ytokfaaemhniodaa.Pure
theorem GraphReaches : Go.Proofs.Ytokfaaemhniodaa.G.locksteplaw06_GraphReaches.Pure := GP.graphReaches
end Go.Proofs.Ytokfaaemhniodaa.Pure
