/- dom.Tree, the plain law's end: what it comes to at a graph, and where there is none. No conditions beyond each theorem's own. -/
import Derived.Test.YtmbkpnhmeljcgaaGt
set_option linter.unusedVariables false
set_option linter.unusedSimpArgs false
namespace Go.PrS
open Go Go.Ev Go.Proofs
section
variable {S : List (List Nat)} {r n : Nat} {at_ par : Nat → Nat} {T : Tr}
theorem tree_round (hG : Gr S) (hr : r < S.length) (ha : Places (dfs S r) at_) (hP : Pl S r at_ par) (hI : Inv S r at_ par T) :
    (EvTo (fun k => dom_Tree_l13 k (r : Int) (ordG S (up2 (pr S))) (up (dfs S r)) ((up (dfs S r)).drop 1) (((up (dfs S r)).drop 1).length : Int) (tl S.length T) (li S.length at_) 0) (Sum.inl (tl S.length T, ordG S (up2 (pr S)))) ∧ ∀ y, Rch S (-1) r y → y ≠ r → Fx S r T y) ∨
    ∃ T', EvTo (fun k => dom_Tree_l13 k (r : Int) (ordG S (up2 (pr S))) (up (dfs S r)) ((up (dfs S r)).drop 1) (((up (dfs S r)).drop 1).length : Int) (tl S.length T) (li S.length at_) 0) (Sum.inr (tl S.length T', li S.length at_, ordG S (up2 (pr S)))) ∧ Inv S r at_ par T' ∧ wt S.length at_ T' < wt S.length at_ T := by
  obtain ⟨tail, htail⟩ := dfs_head hG r
  have hle := hG.le
  have hdl := dfs_len hG hr
  have h0 : at_ r = 0 := by have := ha 0 (by rw [htail]; simp); rw [htail] at this; simpa using this
  have htl : tail.length + 1 = (dfs S r).length := by rw [htail]; simp
  have hget : ∀ i, (dfs S r).getD (i + 1) 0 = tail.getD i 0 := by intro i; rw [htail]; simp
  have hatn : ∀ y, Rch S (-1) r y → at_ y < S.length := by
    intro y hy
    obtain ⟨i, hi, e⟩ := mem_at ((dfs_mem hG hr y).mpr hy)
    rw [← e, ha i hi]; omega
  have e : (up (dfs S r)).drop 1 = up tail := by rw [htail]; simp [up]
  rw [e, up_length]
  have l2 : ∀ (d i : Nat), tail.length - i = d → i ≤ tail.length → (∀ y, Rch S (-1) r y → at_ y ≤ i → y ≠ r → Fx S r T y) →
      (EvTo (fun k => dom_Tree_l13 k (r : Int) (ordG S (up2 (pr S))) (up (dfs S r)) (up tail) (tail.length : Int) (tl S.length T) (li S.length at_) (i : Int)) (Sum.inl (tl S.length T, ordG S (up2 (pr S)))) ∧ ∀ y, Rch S (-1) r y → y ≠ r → Fx S r T y) ∨
      ∃ T', EvTo (fun k => dom_Tree_l13 k (r : Int) (ordG S (up2 (pr S))) (up (dfs S r)) (up tail) (tail.length : Int) (tl S.length T) (li S.length at_) (i : Int)) (Sum.inr (tl S.length T', li S.length at_, ordG S (up2 (pr S)))) ∧ Inv S r at_ par T' ∧ wt S.length at_ T' < wt S.length at_ T := by
    intro d
    induction d with
    | zero =>
      intro i hd hi hF
      refine .inl ⟨EvTo.succ ?_, fun y hy hyr => hF y hy ?_ hyr⟩
      · simp only [dom_Tree_l13]
        exact EvTo.ifn (by rw [decide_eq_true_eq]; omega) EvTo.pure
      · obtain ⟨j, hj, e⟩ := mem_at ((dfs_mem hG hr y).mpr hy)
        rw [← e, ha j hj]; omega
    | succ d ih =>
      intro i hd hi hF
      have hi1 : i + 1 < (dfs S r).length := by omega
      have hil : i < tail.length := by omega
      have hmem : (dfs S r).getD (i + 1) 0 ∈ dfs S r := getD_mem hi1
      have hat := ha (i + 1) hi1
      rw [hget] at hmem hat
      have hxr : tail.getD i 0 ≠ r := by intro e; rw [e, h0] at hat; omega
      generalize hxv : tail.getD i 0 = x at hmem hat hxr
      have hxl := dfs_lt hG hr x hmem
      have hxR := (dfs_mem hG hr x).mp hmem
      have hF' : ∀ y, Rch S (-1) r y → at_ y < at_ x → y ≠ r → Fx S r T y := fun y hy hlt hyr => hF y hy (by omega) hyr
      obtain ⟨best, hB, hEv⟩ := tree_best hG hr hP h0 hI hxl (up (dfs S r)) (up tail) (tail.length : Int) (i : Int) _ 0 (-2) rfl (by omega) (by rw [List.take_zero]; exact bestOf_nil)
      obtain ⟨pR, pS, pA⟩ := hP.par x hxR hxr
      have hpl := pR.lt hG hr
      obtain ⟨pz, hpz⟩ : ∃ z, T (par x) = some z := by
        by_cases e : par x = r
        · rw [e]; exact ⟨_, hI.root⟩
        · obtain ⟨z, hz, _⟩ := hF' _ pR pA e; exact ⟨z, hz⟩
      have hpm : par x ∈ (pr S).getD x [] := (mem_pr hxl).mpr ⟨hpl, pS⟩
      rcases hB with ⟨h1, _⟩ | ⟨b, h1, ⟨bz, h2⟩, h3, h4⟩
      · have := h1 _ hpm; rw [hpz] at this; cases this
      · have hall : ∀ p z, x ∈ S.getD p [] → T p = some z → p ∈ (pr S).getD x [] := fun p z hp hz => (mem_pr hxl).mpr ⟨(hI.rch _ _ hz).lt hG hr, hp⟩
        have hBest : Best S r T x b := ⟨fun p y hp hy => h3 p (hall p y hp hy) y hy, fun c hc => h4 c (fun p hp z hz => hc p z ((mem_pr hxl).mp hp).2 hz)⟩
        subst h1
        have hupS : (up2 (pr S)).length = S.length := by rw [up2_length, pr_length]
        have head : ∀ v, EvTo (fun k => if (((tv T x) != (b : Int)) = true) then (if ((0 ≤ (x : Int)) ∧ ((x : Int) < ((tl S.length T).length : Int))) then (some (Sum.inr ((tl S.length T).set x (b : Int), li S.length at_, ordG S (up2 (pr S)))) : Option (Sum ((List Int) × L_api_Graph) ((List Int) × ((List Int) × L_api_Graph)))) else none) else dom_Tree_l13 k (r : Int) (ordG S (up2 (pr S))) (up (dfs S r)) (up tail) (tail.length : Int) (tl S.length T) (li S.length at_) ((i + 1 : Nat) : Int)) v →
            EvTo (fun k => dom_Tree_l13 k (r : Int) (ordG S (up2 (pr S))) (up (dfs S r)) (up tail) (tail.length : Int) (tl S.length T) (li S.length at_) (i : Int)) v := by
          intro v hv
          refine EvTo.succ ?_
          simp only [dom_Tree_l13]
          rw [Int.toNat_natCast, getD_up, hxv, Int.toNat_natCast, getD_up2, wrapS hil (by omega)]
          simp only [up_length]
          refine EvTo.ifp (decide_eq_true (by omega)) (EvTo.ifp (by omega) (EvTo.ifp (by omega) (EvTo.bind hEv (EvTo.ifp (by rw [tl_length]; omega) ?_))))
          simp only [rd_tl _ hxl]
          exact hv
        by_cases e : tv T x = (b : Int)
        · have hF2 : ∀ y, Rch S (-1) r y → at_ y ≤ i + 1 → y ≠ r → Fx S r T y := fun y hy hyi hyr => by
            by_cases e2 : at_ y ≤ i
            · exact hF y hy e2 hyr
            · have e3 : y = x := hP.inj y x hy hxR (by omega)
              subst e3
              refine ⟨b, ?_, hBest.1⟩
              cases hT : T y with
              | none => rw [tv_none hT] at e; omega
              | some q => rw [tv_some hT] at e; rw [Int.ofNat_inj.mp e]
          rcases ih (i + 1) (by omega) (by omega) hF2 with ⟨g1, g2⟩ | ⟨T', g1, g2⟩
          · exact .inl ⟨head _ (EvTo.ifn (by simp [e]) g1), g2⟩
          · exact .inr ⟨T', head _ (EvTo.ifn (by simp [e]) g1), g2⟩
        · obtain ⟨g1, g2⟩ := step_inv hP hI hxR hxr hF' hBest
          refine .inr ⟨put T x b, head _ (EvTo.ifp (by simpa using e) (EvTo.ifp (by rw [tl_length]; omega) (EvTo.pure' (by rw [set_tl])))), g1, ?_⟩
          have hbn := hatn b (hI.rch _ _ h2)
          have hlt : at_ b < (match T x with | none => S.length | some y => at_ y) := by
            cases hT : T x with
            | none => exact hbn
            | some q => exact g2 q hT (fun e4 => e (by rw [tv_some hT, e4]))
          refine sum_lt (fun y _ => ?_) (List.mem_range.mpr hxl) (by simp only [put_self]; exact hlt)
          by_cases e5 : y = x
          · subst e5; simp only [put_self]; exact Nat.le_of_lt hlt
          · rw [put_ne e5]; exact Nat.le_refl _
  exact l2 _ 0 rfl (by omega) (fun y hy hy0 hyr => absurd (hP.inj y r hy (.base (by omega)) (by omega)) hyr)
theorem tree_j (hG : Gr S) (hr : r < S.length) (ha : Places (dfs S r) at_) (hP : Pl S r at_ par) : ∀ (M : Nat) (T : Tr), Inv S r at_ par T → wt S.length at_ T < M →
    EvTo (fun k => dom_Tree_s1_j0 k (r : Int) (ordG S (up2 (pr S))) (up (dfs S r)) (tl S.length T) (li S.length at_)) (Sum.inl (dtl S r, ordG S (up2 (pr S)))) := by
  obtain ⟨tail, htail⟩ := dfs_head hG r
  intro M
  induction M with
  | zero => intro T _ h; omega
  | succ M ih =>
    intro T hI hM
    refine EvTo.succ ?_
    simp only [dom_Tree_s1_j0]
    refine EvTo.ifp (by rw [up_length, htail]; simp; omega) ?_
    rcases tree_round hG hr ha hP hI with ⟨g1, g2⟩ | ⟨T', g1, g2, g3⟩
    · refine EvTo.bind g1 (EvTo.ifp (by simp only [tl_length]; omega) (EvTo.pure' ?_))
      rw [Int.toNat_natCast, tree_end hP hr hI g2]
    · exact EvTo.bind g1 (ih T' g2 (by omega))
theorem tree_at (hG : Gr S) (hr : r < S.length) (d : Nat) : ∀ (i : Nat) (f : Nat → Nat), (dfs S r).length - i = d → i ≤ (dfs S r).length → (∀ j, j < i → f ((dfs S r).getD j 0) = j) →
    ∃ f', Places (dfs S r) f' ∧ EvTo (fun k => dom_Tree_l7 k (r : Int) (ordG S (up2 (pr S))) (up (dfs S r)) (up (dfs S r)) ((up (dfs S r)).length : Int) (List.replicate S.length (-2)) (li S.length f) (i : Int)) (List.replicate S.length (-2), li S.length f', ordG S (up2 (pr S))) := by
  have hle := hG.le
  have hdl := dfs_len hG hr
  induction d with
  | zero =>
    intro i f hd hi hf
    refine ⟨f, fun j hj => hf j (by omega), EvTo.succ ?_⟩
    simp only [dom_Tree_l7]
    exact EvTo.ifn (by rw [decide_eq_true_eq, up_length]; omega) EvTo.pure
  | succ d ih =>
    intro i f hd hi hf
    have hi1 : i < (dfs S r).length := by omega
    have hmem : (dfs S r).getD i 0 ∈ dfs S r := getD_mem hi1
    have hxl := dfs_lt hG hr _ hmem
    obtain ⟨f', g1, g2⟩ := ih (i + 1) (updn' f ((dfs S r).getD i 0) i) (by omega) (by omega) (fun j hj => by
      unfold updn'
      by_cases e : (dfs S r).getD j 0 = (dfs S r).getD i 0
      · rw [if_pos e]
        have hj1 : j < (dfs S r).length := by omega
        have hnd := dfs_nodup hG hr
        rw [List.getD_eq_getElem?_getD, List.getD_eq_getElem?_getD, List.getElem?_eq_getElem hj1, List.getElem?_eq_getElem hi1] at e
        exact (nodup_inj hnd hj1 hi1 e).symm
      · rw [if_neg e]
        exact hf j (by have : j ≠ i := fun e2 => e (by rw [e2]); omega))
    refine ⟨f', g1, EvTo.succ ?_⟩
    simp only [dom_Tree_l7]
    rw [Int.toNat_natCast, getD_up, Int.toNat_natCast, set_li, wrapS hi1 (by omega)]
    exact EvTo.ifp (decide_eq_true (by rw [up_length]; omega)) (EvTo.ifp (by rw [up_length]; omega) (EvTo.ifp (by rw [li_length]; omega) g2))
theorem tree_ok (hG : Gr S) (hr : r < S.length) : EvTo (fun k => dom_Tree k (up2 S, up2 (pr S), ()) (r : Int)) (dtl S r) := by
  have hle := hG.le
  obtain ⟨tail, htail⟩ := dfs_head hG r
  unfold dom_Tree
  refine EvTo.bind (a := Sum.inl (dtl S r, ordG S (up2 (pr S)))) ?_ EvTo.pure
  unfold dom_Tree_s1
  refine EvTo.bind (order_ok hG hr) (EvTo.ifn (by rw [up_length, htail]; simp; omega) ?_)
  simp only [up2_length]
  refine EvTo.bind (repeat_ok (-2) S.length hle) (EvTo.ifp (by omega) ?_)
  have e2 : List.replicate ((S.length : Int)).toNat (0 : Int) = li S.length (fun _ => 0) := by
    rw [Int.toNat_natCast]
    apply List.ext_getElem
    · simp
    · intro j h1 h2; simp [li]
  rw [e2]
  obtain ⟨f, ha, g⟩ := tree_at hG hr _ 0 (fun _ => 0) rfl (by omega) (fun j hj => by omega)
  refine EvTo.bind g ?_
  obtain ⟨par, hP⟩ := dfs_pl hG hr ha
  have e : (List.replicate S.length (-2 : Int)).set ((r : Int)).toNat (r : Int) = tl S.length (put (fun _ => none) r r) := by
    have e1 : List.replicate S.length (-2 : Int) = tl S.length (fun _ => none) := by
      apply List.ext_getElem
      · simp
      · intro j h1 h2; simp [tl, tv]
    rw [e1, Int.toNat_natCast, set_tl]
  simp only [e]
  refine EvTo.ifp (by rw [List.length_replicate]; omega) (EvTo.ifp (by rw [up_length, htail]; simp; omega) ?_)
  have hI : Inv S r f par (put (fun _ => none) r r) := by
    have hn : ∀ {x y : Nat}, put (fun _ => none) r r x = some y → x = r := by
      intro x y h
      by_cases e : x = r
      · exact e
      · rw [put_ne e] at h; cases h
    exact ⟨put_self _ _ _, fun x y h => by rw [hn h]; exact .base (by omega), fun x y h hx => absurd (hn h) hx, fun x y h hx => absurd (hn h) hx, fun x y h hx => absurd (hn h) hx, fun x y h hx => absurd (hn h) hx⟩
  rcases tree_round hG hr ha hP hI with ⟨g1, g2⟩ | ⟨T', g1, g2, g3⟩
  · refine EvTo.bind g1 (EvTo.ifp (by simp only [tl_length]; omega) (EvTo.pure' ?_))
    rw [Int.toNat_natCast, tree_end hP hr hI g2]
  · exact EvTo.bind g1 (tree_j hG hr ha hP _ T' g2 (Nat.lt_succ_self _))
theorem tree_no {s p : List (List Int)} {r : Int} (ho : EvTo (fun k => graph_Order k (s, p, ()) r) []) : EvTo (fun k => dom_Tree k (s, p, ()) r) [] := by
  unfold dom_Tree
  refine EvTo.bind (a := Sum.inl ([], (s, p, ()))) ?_ EvTo.pure
  unfold dom_Tree_s1
  exact EvTo.bind ho (EvTo.ifp rfl EvTo.pure)
end
end Go.PrS
