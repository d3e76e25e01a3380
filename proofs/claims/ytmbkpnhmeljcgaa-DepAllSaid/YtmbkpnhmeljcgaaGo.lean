/- What slices.Reverse and graph.Order come to: the way through the graph from the root on. No conditions beyond each theorem's own. -/
import Derived.Test.YtmbkpnhmeljcgaaGb
import Derived.Test.YtmbkpnhmeljcgaaGv
set_option linter.unusedVariables false
set_option linter.unusedSimpArgs false
namespace Go.PrS
open Go Go.Ev Go.Proofs
theorem EvTo.shift {α : Type} {f : Nat → Option α} {v : α} (h : EvTo f v) : EvTo (fun k => f (k + 1)) v := by
  obtain ⟨K, h⟩ := h
  exact ⟨K, fun k hk => h (k + 1) (by omega)⟩
theorem EvTo.bind_inv {α β : Type} {g : Nat → Option α} {h : Nat → α → Option β} {a : α} {r : β} (h1 : EvTo g a) (h2 : EvTo (fun k => (g k).bind (fun t => h k t)) r) : EvTo (fun k => h k a) r := by
  obtain ⟨K1, h1⟩ := h1
  obtain ⟨K2, h2⟩ := h2
  refine ⟨K1 + K2, fun k hk => ?_⟩
  have := h2 k (by omega)
  simp only [h1 k (by omega), Option.bind_some] at this
  exact this
def rv (l : List Int) (n i t : Nat) : Int := if t < i ∨ n ≤ t + i then l.getD (n - 1 - t) 0 else l.getD t 0
theorem rv_end (l : List Int) (n i : Nat) (hn : l.length = n) (hi : n ≤ 2 * i + 1) : (List.range n).map (rv l n i) = l.reverse := by
  apply ext_getD 0
  · simp [hn]
  · intro t ht
    rw [List.length_map, List.length_range] at ht
    rw [getD_map_range _ _ _ _ ht]
    have e1 : l.reverse.getD t 0 = l.getD (n - 1 - t) 0 := by
      rw [List.getD_eq_getElem?_getD, List.getD_eq_getElem?_getD, List.getElem?_reverse (by omega), hn]
    rw [e1]
    unfold rv
    split
    · rfl
    · next hc => rw [show n - 1 - t = t by omega]
theorem reverse_l (l : List Int) (n : Nat) (hn : l.length = n) (h0 : 0 < n) (hb : n ≤ reachBytes) (d : Nat) : ∀ i, 2 * i ≤ n + 1 → n + 1 - 2 * i ≤ d → EvTo (fun k => slices_Reverse_int_int_l1 k ((List.range n).map (rv l n i)) (i : Int) ((n : Int) - 1 - (i : Int))) l.reverse := by
  have hm := reach_le
  induction d with
  | zero =>
    intro i hi hd
    refine EvTo.succ ?_; simp only [slices_Reverse_int_int_l1]
    refine EvTo.ifn (by simp; omega) ?_
    rw [rv_end l n i hn (by omega)]; exact EvTo.ifp (by simpa [hn] using h0) EvTo.pure
  | succ d ih =>
    intro i hi hd
    refine EvTo.succ ?_; simp only [slices_Reverse_int_int_l1]
    by_cases hc : (i : Int) < (n : Int) - 1 - (i : Int)
    · refine EvTo.ifp (by simpa using hc) (EvTo.ifp (by simp; omega) (EvTo.ifp (by simp; omega) (EvTo.ifp (by simp; omega) (EvTo.ifp (by simp; omega) (EvTo.ifp (by simp; omega) ?_)))))
      have ej : (n : Int) - 1 - (i : Int) = ((n - 1 - i : Nat) : Int) := by omega
      rw [ej]
      have r1 : ((List.range n).map (rv l n i)).getD (n - 1 - i) 0 = l.getD (n - 1 - i) 0 := by
        rw [getD_map_range _ _ _ _ (by omega)]
        unfold rv; rw [if_neg (by omega)]
      have r2 : ((List.range n).map (rv l n i)).getD i 0 = l.getD i 0 := by
        rw [getD_map_range _ _ _ _ (by omega)]
        unfold rv; rw [if_neg (by omega)]
      rw [Int.toNat_natCast, Int.toNat_natCast, r1, r2]
      have s1 : ((List.range n).map (rv l n i)).set i (l.getD (n - 1 - i) 0) = (List.range n).map (fun t => if t = i then l.getD (n - 1 - i) 0 else rv l n i t) :=
        set_map_range _ _ _ _ _ (by simp) (fun j hj => by simp [hj])
      have s2 : ((List.range n).map (fun t => if t = i then l.getD (n - 1 - i) 0 else rv l n i t)).set (n - 1 - i) (l.getD i 0) = (List.range n).map (rv l n (i + 1)) := by
        refine set_map_range _ _ _ _ _ ?_ (fun j hj => ?_)
        · unfold rv; rw [if_pos (by omega), show n - 1 - (n - 1 - i) = i by omega]
        · by_cases e : j = i
          · subst e; rw [if_pos rfl]; unfold rv; rw [if_pos (by omega)]
          · rw [if_neg e]; unfold rv
            by_cases hq : j < i ∨ n ≤ j + i
            · rw [if_pos hq, if_pos (by omega)]
            · rw [if_neg hq, if_neg (by omega)]
      rw [s1, s2, wrapS (show i < n by omega) (by omega), wrap_i64 (by omega) (by omega), show ((n - 1 - i : Nat) : Int) - 1 = (n : Int) - 1 - ((i + 1 : Nat) : Int) by omega]
      exact ih (i + 1) (by omega) (by omega)
    · refine EvTo.ifn (by simpa using hc) ?_
      rw [rv_end l n i hn (by omega)]; exact EvTo.ifp (by simpa [hn] using h0) EvTo.pure
theorem reverse_ok (l : List Int) (h0 : 0 < l.length) (hb : l.length ≤ reachBytes) : EvTo (fun k => slices_Reverse_int_int k l) l.reverse := by
  have hm := reach_le
  unfold slices_Reverse_int_int
  have e : l = (List.range l.length).map (rv l l.length 0) := by
    apply ext_getD 0
    · simp
    · intro t ht
      rw [getD_map_range _ _ _ _ ht]
      unfold rv; rw [if_neg (by omega)]
  have h := reverse_l l l.length rfl h0 hb (l.length + 1) 0 (by omega) (by omega)
  rw [← e] at h
  rw [wrap_i64 (by omega) (by omega)]
  refine EvTo.ifp h0 (EvTo.bind (a := l.reverse) (by simpa using h) (EvTo.ifp (by simpa using h0) EvTo.pure))
/-! the machine's state -/
def rb (s : Sn) : List Bool := (List.range 64).map s
def ri (nx : Nat → Nat) : List Int := (List.range 64).map (fun z => ((nx z : Nat) : Int))
def updn (nx : Nat → Nat) (x m : Nat) : Nat → Nat := fun z => if z = x then m else nx z
theorem rd_rb (s : Sn) {y : Nat} (h : y < 64) : (rb s).getD y false = s y := by
  simp only [rb]; exact getD_map_range _ _ _ _ h
theorem rd_ri (nx : Nat → Nat) {y : Nat} (h : y < 64) : (ri nx).getD y 0 = ((nx y : Nat) : Int) := by
  simp only [ri]; exact getD_map_range 64 (fun z => ((nx z : Nat) : Int)) _ _ h
theorem set_rb (s : Sn) (y : Nat) : (rb s).set y true = rb (upd s y) :=
  set_map_range _ _ _ _ _ (by simp [upd]) (fun j hj => by simp [upd, hj])
theorem set_ri (nx : Nat → Nat) (x m : Nat) : (ri nx).set x (m : Int) = ri (updn nx x m) :=
  set_map_range _ _ _ _ _ (by simp [updn]) (fun j hj => by simp [updn, hj])
theorem up_snoc (l : List Nat) (x : Nat) : up (l ++ [x]) = up l ++ [(x : Int)] := by simp [up]
theorem rd_snoc (l : List Nat) (x : Nat) : (up (l ++ [x])).getD l.length 0 = (x : Int) := by
  rw [getD_up, List.getD_eq_getElem?_getD, List.getElem?_append_right (Nat.le_refl _)]; simp
abbrev ordG (S : List (List Nat)) (P : List (List Int)) : L_api_Graph := (up2 S, P, ())
/-- the next one that wasn't seen -/
theorem order_next {S : List (List Nat)} (h : Gr S) (P : List (List Int)) (f x : Nat) (hx : x < S.length) (sn : Sn) (o st : List Nat) (hst : st.length < 64) (hxs : sn x = true) (m : Nat) : ∀ (j : Nat) (nx : Nat → Nat), (S.getD x []).length - j = m → j ≤ (S.getD x []).length → nx x = j →
    (∃ nx', (∀ z, sn z = false → nx z = 0 → nx' z = 0) ∧ (∀ z, z ≠ x → nx' z = nx z) ∧ EvTo (fun k => graph_Order_l9 k (ordG S P) (rb sn) (ri nx) (x : Int) (up o) (up (st ++ [x]))) (Sum.inl (up o, up (st ++ [x]), ordG S P, rb sn, ri nx')) ∧ ∀ q : Sn × List Nat, q.1 = sn → steps S f ((S.getD x []).drop j) q = q) ∨
    (∃ y j', j ≤ j' ∧ j' < (S.getD x []).length ∧ y < S.length ∧ sn y = false ∧ EvTo (fun k => graph_Order_l9 k (ordG S P) (rb sn) (ri nx) (x : Int) (up o) (up (st ++ [x]))) (Sum.inr (up o, up (st ++ [x, y]), ordG S P, rb (upd sn y), ri (updn nx x (j' + 1)))) ∧
      ∀ q : Sn × List Nat, q.1 = sn → steps S f ((S.getD x []).drop j) q = steps S f ((S.getD x []).drop (j' + 1)) (visit S f y q)) := by
  have hle := h.le
  have hdeg := gr_len h hx
  have hux : (up2 S).length = S.length := up2_length S
  induction m with
  | zero =>
    intro j nx hm hj hnx
    refine .inl ⟨nx, fun z _ hz => hz, fun _ _ => rfl, EvTo.succ ?_, fun q _ => ?_⟩
    · simp only [graph_Order_l9]
      rw [Int.toNat_natCast, getD_up2, up_length, rd_ri nx (by omega), hnx]
      exact EvTo.ifp (by omega) (EvTo.ifp (by omega) (EvTo.ifn (by rw [decide_eq_true_eq]; omega) EvTo.pure))
    · rw [List.drop_of_length_le (by omega)]; rfl
  | succ m ih =>
    intro j nx hm hj hnx
    have hj1 : j < (S.getD x []).length := by omega
    have hy := (h.row x hx).2 _ (getD_mem (d := 0) hj1)
    have hdrop := drop_getD (S.getD x []) j 0 hj1
    generalize hyv : (S.getD x []).getD j 0 = y at hy hdrop
    have hhead : ∀ v : Sum (List Int × (List Int × (L_api_Graph × (List Bool × List Int)))) (List Int × (List Int × (L_api_Graph × (List Bool × List Int)))),
        EvTo (fun k => if ((!(sn y)) = true) then (some (Sum.inr (up o, up (st ++ [x, y]), ordG S P, rb (upd sn y), ri (updn nx x (j + 1)))) : Option (Sum (List Int × (List Int × (L_api_Graph × (List Bool × List Int)))) (List Int × (List Int × (L_api_Graph × (List Bool × List Int)))))) else graph_Order_l9 k (ordG S P) (rb sn) (ri (updn nx x (j + 1))) (x : Int) (up o) (up (st ++ [x]))) v →
        EvTo (fun k => graph_Order_l9 k (ordG S P) (rb sn) (ri nx) (x : Int) (up o) (up (st ++ [x]))) v := by
      intro v hv
      refine EvTo.succ ?_
      simp only [graph_Order_l9]
      rw [Int.toNat_natCast, getD_up2, up_length, rd_ri nx (by omega), hnx, Int.toNat_natCast, getD_up, hyv, Int.toNat_natCast, rd_rb sn (by omega), wrapS hj1 (by omega), set_ri, set_rb]
      have e : up (st ++ [x]) ++ [(y : Int)] = up (st ++ [x, y]) := by rw [← up_snoc]; simp
      rw [e]
      refine EvTo.ifp (by omega) (EvTo.ifp (by omega) (EvTo.ifp (decide_eq_true (by omega)) (EvTo.ifp (by omega) (EvTo.ifp (by omega) (EvTo.ifp (by omega) (EvTo.ifp (by omega) (EvTo.ifp (by omega) (EvTo.ifp (by omega) ?_))))))))
      cases hs : sn y with
      | false =>
        rw [hs] at hv
        simp only [Bool.not_false, if_true] at hv
        exact EvTo.ifp (by simp) (EvTo.ifp (by omega) (EvTo.ifp (by rw [up_length, most_eq]; simp; omega) hv))
      | true =>
        rw [hs] at hv
        exact EvTo.ifn (by simp) (by simpa using hv)
    cases hs : sn y with
    | false =>
      refine .inr ⟨y, j, Nat.le_refl _, hj1, hy, hs, hhead _ ?_, fun q hq => ?_⟩
      · rw [hs]; exact EvTo.ifp rfl EvTo.pure
      · rw [hdrop, steps_cons, hq, hs]; rfl
    | true =>
      have hyx : True := trivial
      rcases ih (j + 1) (updn nx x (j + 1)) (by omega) (by omega) (by simp [updn]) with ⟨nx', g1, g2, g3, g4⟩ | ⟨y', j', g1, g2, g3, g4, g5, g6⟩
      · refine .inl ⟨nx', fun z hz h0 => ?_, fun z hz => ?_, hhead _ ?_, fun q hq => ?_⟩
        · refine g1 z hz ?_
          have : z ≠ x := fun e => by rw [e, hxs] at hz; cases hz
          simp [updn, this, h0]
        · rw [g2 z hz]; simp [updn, hz]
        · rw [hs]; exact EvTo.ifn (by simp) g3
        · rw [hdrop, steps_cons, hq, hs]; simp only [if_true]; exact g4 q hq
      · refine .inr ⟨y', j', by omega, g2, g3, g4, hhead _ ?_, fun q hq => ?_⟩
        · rw [hs]
          have e : updn (updn nx x (j + 1)) x (j' + 1) = updn nx x (j' + 1) := by
            funext z; unfold updn; split <;> rfl
          rw [e] at g5
          exact EvTo.ifn (by simp) g5
        · rw [hdrop, steps_cons, hq, hs]; simp only [if_true]; exact g6 q hq
/-- behind a block: on with the one ahead of it, or all is done -/
def AfterO (S : List (List Nat)) (P : List (List Int)) (t1 : Int) (sn : Sn) (nx : Nat → Nat) (o st : List Nat) (v : Sum ((List Int) × L_api_Graph) ((List Int) × L_api_Graph)) : Prop :=
  (st ≠ [] → EvTo (fun k => graph_Order_s1_j0 k t1 (ordG S P) (rb sn) (ri nx) (up o) (up st)) v) ∧ (st = [] → v = Sum.inl ((up o).reverse, ordG S P))
/-- one round at a block: it is left, or on to the next one -/
theorem order_round {S : List (List Nat)} (h : Gr S) (P : List (List Int)) (t1 : Int) (v : Sum ((List Int) × L_api_Graph) ((List Int) × L_api_Graph)) (f x : Nat) (hx : x < S.length) (sn : Sn) (nx : Nat → Nat) (o st : List Nat) (hst : st.length < 64) (ho : o.length < 64) (hxs : sn x = true) (j : Nat) (hj : j ≤ (S.getD x []).length) (hnx : nx x = j)
    (hleave : ∀ nx', (∀ z, sn z = false → nx z = 0 → nx' z = 0) → (∀ z, z ≠ x → nx' z = nx z) → (∀ q : Sn × List Nat, q.1 = sn → steps S f ((S.getD x []).drop j) q = q) → AfterO S P t1 sn nx' (o ++ [x]) st v)
    (hgo : ∀ y j', j ≤ j' → j' < (S.getD x []).length → y < S.length → sn y = false → (∀ q : Sn × List Nat, q.1 = sn → steps S f ((S.getD x []).drop j) q = steps S f ((S.getD x []).drop (j' + 1)) (visit S f y q)) →
      EvTo (fun k => graph_Order_s1_j0 k t1 (ordG S P) (rb (upd sn y)) (ri (updn nx x (j' + 1))) (up o) (up (st ++ [x, y]))) v) :
    EvTo (fun k => graph_Order_s1_j0 k t1 (ordG S P) (rb sn) (ri nx) (up o) (up (st ++ [x]))) v := by
  have h64 : (64 : Nat) ≤ reachBytes := by decide
  refine EvTo.succ ?_
  simp only [graph_Order_s1_j0]
  have hlen : (up (st ++ [x])).length = st.length + 1 := by simp
  have e : IntKind.wrap .i64 (((up (st ++ [x])).length : Int) - 1) = (st.length : Int) := by
    rw [hlen, wrap_i64 (by omega) (by omega)]; omega
  rw [e, Int.toNat_natCast, rd_snoc]
  refine EvTo.ifp (by rw [hlen]; omega) ?_
  rcases order_next h P f x hx sn o st hst hxs _ j nx rfl hj hnx with ⟨nx', g1, g2, g3, g4⟩ | ⟨y, j', g1, g2, g3, g4, g5, g6⟩
  · refine EvTo.bind g3 ?_
    obtain ⟨a1, a2⟩ := hleave nx' g1 g2 g4
    simp only [e, Int.toNat_natCast]
    have e2 : (up (st ++ [x])).take st.length = up st := by rw [up_snoc]; simp [up]
    rw [e2, ← up_snoc]
    have hol : (up (o ++ [x])).length = o.length + 1 := by simp
    refine EvTo.ifp (by rw [hol, most_eq]; omega) (EvTo.ifp (by rw [hlen]; omega) ?_)
    by_cases hs : st = []
    · refine EvTo.ifn (by rw [hs]; simp) (EvTo.ifp (by rw [hol]; omega) (EvTo.ifp (by rw [hol]; omega) (EvTo.bind (reverse_ok _ (by rw [hol]; omega) (by rw [hol]; omega)) (EvTo.pure' ?_))))
      exact (a2 hs).symm
    · refine EvTo.ifp ?_ (a1 hs)
      have : 0 < st.length := List.length_pos_iff.2 hs
      rw [up_length]
      exact decide_eq_true (by omega)
  · exact EvTo.bind g5 (hgo y j' g1 g2 g3 g4 g6)
theorem order_sim {S : List (List Nat)} (h : Gr S) (P : List (List Int)) (t1 : Int) (v : Sum ((List Int) × L_api_Graph) ((List Int) × L_api_Graph)) : ∀ (f x : Nat) (sn : Sn) (nx : Nat → Nat) (o st : List Nat), x < S.length → sn x = false → cnt S.length sn ≤ f → (∀ z, sn z = false → nx z = 0) →
    o.length + st.length + cnt S.length sn ≤ 64 →
    (∀ nx', (∀ z, (visit S f x (sn, o)).1 z = false → nx' z = 0) → (∀ z, sn z = true → nx' z = nx z) → AfterO S P t1 (visit S f x (sn, o)).1 nx' (visit S f x (sn, o)).2 st v) →
    EvTo (fun k => graph_Order_s1_j0 k t1 (ordG S P) (rb (upd sn x)) (ri nx) (up o) (up (st ++ [x]))) v := by
  have hle := h.le
  have hm := reach_le
  have h64 : (64 : Nat) ≤ reachBytes := by decide
  intro f
  induction f with
  | zero => intro x sn nx o st hx hs hc; have := cnt_pos hx hs; omega
  | succ f ihf =>
    intro x sn nx o st hx hs hc hz0 hB hK
    have hu := cnt_upd hx hs
    have hdeg := gr_len h hx
    rw [visit_succ] at hK
    have inner : ∀ (m j : Nat) (sn1 : Sn) (nx1 : Nat → Nat) (o1 : List Nat), (S.getD x []).length - j ≤ m → j ≤ (S.getD x []).length → nx1 x = j → sn1 x = true → (∀ z, sn1 z = false → nx1 z = 0) → cnt S.length sn1 ≤ f →
        o1.length + (st.length + 1) + cnt S.length sn1 ≤ 64 → (∀ z, sn z = true → sn1 z = true ∧ nx1 z = nx z) → steps S f ((S.getD x []).drop j) (sn1, o1) = steps S f (S.getD x []) (upd sn x, o) →
        EvTo (fun k => graph_Order_s1_j0 k t1 (ordG S P) (rb sn1) (ri nx1) (up o1) (up (st ++ [x]))) v := by
      intro m
      induction m with
      | zero =>
        intro j sn1 nx1 o1 hm' hj hnx hsx hzz hcc hbb hkeep heq
        refine order_round h P t1 v f x hx sn1 nx1 o1 st (by omega) (by omega) hsx j hj hnx (fun nx' q1 q2 q3 => ?_) (fun y j' _ hj' => by omega)
        rw [q3 (sn1, o1) rfl] at heq
        rw [← heq] at hK
        exact hK nx' (fun z hz => q1 z hz (hzz z hz)) (fun z hz => by
          have hzx : z ≠ x := fun e => by rw [e, hs] at hz; cases hz
          rw [q2 z hzx]; exact (hkeep z hz).2)
      | succ m ihm =>
        intro j sn1 nx1 o1 hm' hj hnx hsx hzz hcc hbb hkeep heq
        refine order_round h P t1 v f x hx sn1 nx1 o1 st (by omega) (by omega) hsx j hj hnx (fun nx' q1 q2 q3 => ?_) (fun y j' hjj hj' hy hys q3 => ?_)
        · rw [q3 (sn1, o1) rfl] at heq
          rw [← heq] at hK
          exact hK nx' (fun z hz => q1 z hz (hzz z hz)) (fun z hz => by
            have hzx : z ≠ x := fun e => by rw [e, hs] at hz; cases hz
            rw [q2 z hzx]; exact (hkeep z hz).2)
        · rw [q3 (sn1, o1) rfl] at heq
          have hkeep2 : ∀ z, sn z = true → sn1 z = true ∧ updn nx1 x (j' + 1) z = nx z := fun z hz => by
            refine ⟨(hkeep z hz).1, ?_⟩
            unfold updn; rw [if_neg (by rintro rfl; rw [hz] at hs; cases hs)]; exact (hkeep z hz).2
          have hzz2 : ∀ z, sn1 z = false → updn nx1 x (j' + 1) z = 0 := fun z hz => by
            unfold updn; rw [if_neg (by rintro rfl; rw [hz] at hsx; cases hsx)]; exact hzz z hz
          have e1 : st ++ [x, y] = (st ++ [x]) ++ [y] := by simp
          rw [e1]
          refine ihf y sn1 (updn nx1 x (j' + 1)) o1 (st ++ [x]) hy hys hcc hzz2 (by rw [List.length_append, List.length_singleton]; omega) (fun nx' hn1 hn2 => ?_)
          have hvis := (visit_vis h f y (sn1, o1) hy hys hcc).1
          obtain ⟨l, e1, e2, _, _, e5⟩ := hvis.new
          have hmono : ∀ z, sn1 z = true → (visit S f y (sn1, o1)).1 z = true := fun z hz => hvis.mono hz
          refine ⟨fun _ => ?_, fun he => by simp at he⟩
          have e5' : l.length + cnt S.length (visit S f y (sn1, o1)).1 = cnt S.length sn1 := e5
          have e1' : (visit S f y (sn1, o1)).2 = o1 ++ l := e1
          refine ihm (j' + 1) _ nx' _ (by omega) (by omega) (by rw [hn2 x hsx]; simp [updn]) (hmono x hsx) hn1 (Nat.le_trans (cnt_le hmono) hcc) ?_ (fun z hz => ⟨hmono z (hkeep z hz).1, by rw [hn2 z (hkeep z hz).1]; exact (hkeep2 z hz).2⟩) heq
          rw [e1', List.length_append]; omega
    exact inner _ 0 (upd sn x) nx o (Nat.le_refl _) (by omega) (hz0 x hs) (upd_self _ _) (fun z hz => hz0 z (by
      cases hq : sn z with
      | false => rfl
      | true => rw [upd_true.mpr (.inr hq)] at hz; cases hz)) (by omega) (by omega) (fun z hz => ⟨upd_true.mpr (.inr hz), rfl⟩) rfl
theorem order_ok {S : List (List Nat)} (h : Gr S) {r : Nat} (hr : r < S.length) : EvTo (fun k => graph_Order k (up2 S, up2 (pr S), ()) (r : Int)) (up (dfs S r)) := by
  have hle := h.le
  have hl := dfs_len h hr
  unfold graph_Order
  refine EvTo.bind (a := Sum.inl (up (dfs S r), ordG S (up2 (pr S)))) ?_ EvTo.pure
  unfold graph_Order_s1
  refine EvTo.bind (may_ok h _) (EvTo.ifp (by simp) (EvTo.ifp (by simp) (EvTo.ifn (by rw [decide_eq_true_eq, up2_length]; omega) (EvTo.ifp (by omega) ?_))))
  have key := EvTo.shift (order_sim h (up2 (pr S)) (r : Int) (Sum.inl (up (dfs S r), ordG S (up2 (pr S)))) S.length r none' (fun _ => 0) [] [] hr rfl (Nat.le_of_eq (cnt_none _)) (fun _ _ => rfl) (by rw [cnt_none]; simp; exact hle) (fun nx' _ _ => ⟨fun he => absurd rfl he, fun _ => by rw [dfs, up, up, List.map_reverse]⟩))
  simp only [graph_Order_s1_j0] at key
  have e1 : rb (upd none' r) = (List.replicate 64 false).set ((r : Int)).toNat true := by
    rw [Int.toNat_natCast, ← set_rb]; rfl
  have e2 : ri (fun _ => 0) = List.replicate 64 0 := rfl
  rw [e1, e2] at key
  obtain ⟨K, key⟩ := key
  refine ⟨K, fun k hk => ?_⟩
  have key2 := key k hk
  simp only at key2
  rw [if_pos ⟨(by decide : (0 : Int) ≤ IntKind.wrap .i64 (((1 : Nat) : Int) - 1)), (by decide : IntKind.wrap .i64 (((1 : Nat) : Int) - 1) < ((1 : Nat) : Int))⟩] at key2
  exact key2
theorem order_out {S : List (List Nat)} (h : Gr S) (p : List (List Int)) (r : Int) (hr : r < 0 ∨ (S.length : Int) ≤ r) : EvTo (fun k => graph_Order k (up2 S, p, ()) r) [] := by
  unfold graph_Order
  refine EvTo.bind (a := Sum.inl ([], (up2 S, p, ()))) ?_ EvTo.pure
  unfold graph_Order_s1
  refine EvTo.bind (may_ok h _) ?_
  by_cases hp : up2 (pr S) = p
  · refine EvTo.ifp (by simp [hp]) ?_
    by_cases h0 : r < 0
    · exact EvTo.ifn (by simpa using h0) EvTo.pure
    · refine EvTo.ifp (by simpa using h0) (EvTo.ifp ?_ EvTo.pure)
      rw [up2_length]
      exact decide_eq_true (by omega)
  · exact EvTo.ifn (by simp [hp]) EvTo.pure
theorem order_no {s p : List (List Int)} (r : Int) (hm : EvTo (fun k => graph_May k (s, p, ())) false) : EvTo (fun k => graph_Order k (s, p, ()) r) [] := by
  unfold graph_Order
  refine EvTo.bind (a := Sum.inl ([], (s, p, ()))) ?_ EvTo.pure
  unfold graph_Order_s1
  exact EvTo.bind hm (EvTo.ifn (by simp) EvTo.pure)
end Go.PrS
