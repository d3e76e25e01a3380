/- Plain laws of pdom.Exit and pdom.Tree: who goes on at the exit is told in order. No conditions beyond each theorem's own. -/
import Derived.Test.YtmbkpnhmeljcgaaGbk
import Derived.Test.YtmbkpnhmeljcgaaGw
set_option linter.unusedVariables false
set_option linter.unusedSimpArgs false
namespace Go.PrS
open Go Go.Ev Go.Proofs
def wx (S : List (List Nat)) (out : Sn) : List (List Nat) := (List.range (S.length + 1)).map fun j => if j < S.length then S.getD j [] ++ (if out j = true then [S.length] else []) else []
@[simp] theorem wx_length (S : List (List Nat)) (out : Sn) : (wx S out).length = S.length + 1 := by simp [wx]
theorem wx_get {S : List (List Nat)} {out : Sn} {j : Nat} (h : j < S.length) : (wx S out).getD j [] = S.getD j [] ++ (if out j = true then [S.length] else []) := by
  rw [wx, getD_map_range _ _ _ _ (by omega), if_pos h]
theorem wx_end {S : List (List Nat)} {out : Sn} : (wx S out).getD S.length [] = [] := by
  rw [wx, getD_map_range _ _ _ _ (by omega), if_neg (by omega)]
theorem wx_mem {S : List (List Nat)} {out : Sn} {j y : Nat} (h : y ∈ (wx S out).getD j []) : j < S.length ∧ (y ∈ S.getD j [] ∨ (out j = true ∧ y = S.length)) := by
  have hj := getD_lt h
  rw [wx_length] at hj
  by_cases e : j = S.length
  · subst e; rw [wx_end] at h; simp at h
  · have hj' : j < S.length := by omega
    refine ⟨hj', ?_⟩
    rw [wx_get hj'] at h
    rcases List.mem_append.mp h with h | h
    · exact .inl h
    · cases ho : out j with
      | true => rw [ho, if_pos rfl] at h; exact .inr ⟨rfl, List.mem_singleton.mp h⟩
      | false => rw [ho, if_neg (by decide)] at h; simp at h
theorem gr_wx {S : List (List Nat)} (h : Gr S) (hn : S.length < 64) (out : Sn) : Gr (wx S out) := by
  refine ⟨by rw [wx_length]; omega, by rw [wx_length]; omega, fun i hi => ⟨?_, fun y hy => ?_⟩⟩
  · rw [wx_length] at hi
    by_cases e : i = S.length
    · subst e; rw [wx_end]; exact List.Pairwise.nil
    · have hi' : i < S.length := by omega
      rw [wx_get hi', List.pairwise_append]
      refine ⟨(h.row i hi').1, ?_, fun a ha b hb => ?_⟩
      · cases out i <;> simp
      · have := (h.row i hi').2 a ha
        cases ho : out i with
        | true => rw [ho, if_pos rfl] at hb; rw [List.mem_singleton.mp hb]; exact this
        | false => rw [ho, if_neg (by decide)] at hb; simp at hb
  · obtain ⟨hj, hy | ⟨_, hy⟩⟩ := wx_mem hy
    · rw [wx_length]; have := (h.row i hj).2 y hy; omega
    · rw [wx_length]; omega

theorem rep_nil (n : Nat) (f : Nat → List Nat) : List.replicate n ([] : List Int) = up2 ((List.range n).map fun j => if j < 0 then f j else []) := by
  apply List.ext_getElem
  · simp
  · intro j h1 h2; simp [up2]
def wxTo (S : List (List Nat)) (out : Sn) (i : Nat) : List (List Nat) := (List.range (S.length + 1)).map fun j => if j < i then S.getD j [] ++ (if out j = true then [S.length] else []) else []
theorem wxTo_length (S : List (List Nat)) (out : Sn) (i : Nat) : (wxTo S out i).length = S.length + 1 := by simp [wxTo]
theorem wxTo_all (S : List (List Nat)) (out : Sn) : wxTo S out S.length = wx S out := rfl
theorem wxTo_get (S : List (List Nat)) (out : Sn) {i : Nat} (hi : i < S.length + 1) : (wxTo S out i).getD i [] = [] := by
  unfold wxTo; rw [getD_map_range _ _ _ _ hi, if_neg (by omega)]
theorem wxTo_succ (S : List (List Nat)) (out : Sn) (i : Nat) : (wxTo S out i).set i (S.getD i [] ++ (if out i = true then [S.length] else [])) = wxTo S out (i + 1) :=
  set_map_range _ _ _ _ _ (by rw [if_pos (by omega)]) (fun j hj => by
    by_cases h : j < i
    · rw [if_pos h, if_pos (by omega)]
    · rw [if_neg h, if_neg (by omega)])
theorem up2_set (T : List (List Nat)) (i : Nat) (l : List Nat) : (up2 T).set i (up l) = up2 (T.set i l) := by unfold up2; rw [List.map_set]
theorem exit_l {S : List (List Nat)} (h : Gr S) (hn : S.length < 64) (t2 : L_api_Graph) (out : Sn) (d : Nat) : ∀ i, i ≤ S.length → S.length - i = d →
    EvTo (fun k => pdom_Exit_l12 k t2 (S.length : Int) (rb out) (up2 S) (S.length : Int) (up2 (wxTo S out i)) (i : Int)) (up2 (wx S out), t2, rb out) := by
  induction d with
  | zero =>
    intro i hi hd
    have e : i = S.length := by omega
    subst e
    refine EvTo.succ ?_; simp only [pdom_Exit_l12]
    exact EvTo.ifn (by rw [decide_eq_true_eq]; omega) (EvTo.pure' (by rw [wxTo_all]))
  | succ d ih =>
    intro i hi hd
    have hil : i < S.length := by omega
    have hl := gr_len h (i := i) (by omega)
    have hn1 := ih (i + 1) (by omega) (by omega)
    rw [← wxTo_succ] at hn1
    refine EvTo.succ ?_; simp only [pdom_Exit_l12]
    rw [Int.toNat_natCast, getD_up2, getD_up2, wxTo_get S out (by omega), up_nil, List.nil_append, up2_set, up_length, up2_length, up2_length, up2_length, wxTo_length, List.length_set, wxTo_length, rd_rb _ (by omega), wrapS hil (by omega), getD_up2]
    have e1 : ((wxTo S out i).set i (S.getD i [])).getD i [] = S.getD i [] := by
      rw [List.getD_eq_getElem?_getD, List.getElem?_set_self (by rw [wxTo_length]; omega)]; rfl
    rw [e1, ← up_snoc, up2_set, List.set_set, up_length, List.length_append, List.length_singleton]
    refine EvTo.ifp (decide_eq_true (by omega)) (EvTo.ifp (by omega) (EvTo.ifp (by omega) (EvTo.ifp (by rw [most_eq]; omega) (EvTo.ifp (by omega) (EvTo.ifp trivial (EvTo.ifp (by omega) ?_))))))
    cases ho : out i with
    | true =>
      rw [ho, if_pos rfl] at hn1
      exact EvTo.ifp rfl (EvTo.ifp (by omega) (EvTo.ifp (by rw [most_eq]; omega) (EvTo.ifp (by omega) (EvTo.ifp trivial hn1))))
    | false =>
      rw [ho, if_neg (by decide), List.append_nil] at hn1
      exact EvTo.ifn (by decide) hn1
/-- Who goes on at the exit: those that go on nowhere, and some of those that reach none of these; all reach one. -/
structure Ox (S : List (List Nat)) (out : Sn) : Prop where
  lt : ∀ y, out y = true → y < S.length
  ends : ∀ y, endb S y = true → out y = true
  only : ∀ y, out y = true → S.getD y [] = [] ∨ bk S (endb S) y = false
theorem bk_upd {S : List (List Nat)} {s : Sn} {i : Nat} : bk S (upd (bk S s) i) = bk S (upd s i) := by
  funext x
  have hh : bk S (upd (bk S s) i) x = true ↔ bk S (upd s i) x = true := by
    constructor
    · intro h
      obtain ⟨y, h1, h2⟩ := bk_true.mp h
      rcases upd_true.mp h1 with rfl | h1
      · exact bk_true.mpr ⟨_, upd_self s _, h2⟩
      · obtain ⟨z, h3, h4⟩ := bk_true.mp h1
        exact bk_true.mpr ⟨z, upd_true.mpr (.inr h3), h2.trans h4⟩
    · intro h
      obtain ⟨y, h1, h2⟩ := bk_true.mp h
      rcases upd_true.mp h1 with rfl | h1
      · exact bk_true.mpr ⟨_, upd_self _ _, h2⟩
      · exact bk_true.mpr ⟨y, upd_true.mpr (.inr (bk_self h1)), h2⟩
  cases e : bk S (upd (bk S s) i) x with
  | true => exact (hh.mp e).symm
  | false => cases e2 : bk S (upd s i) x with
    | true => rw [hh.mpr e2] at e; cases e
    | false => rfl
theorem bk_mono {S : List (List Nat)} {s t : Sn} (h : ∀ y, s y = true → t y = true) {x : Nat} (hx : bk S s x = true) : bk S t x = true := by
  obtain ⟨y, h1, h2⟩ := bk_true.mp hx; exact bk_true.mpr ⟨y, h y h1, h2⟩
/-- who goes on at the exit, the first ones looked at -/
noncomputable def xo (S : List (List Nat)) : Nat → Sn
  | 0 => endb S
  | i + 1 => if bk S (xo S i) i = true then xo S i else upd (xo S i) i
theorem xo_sub {S : List (List Nat)} {i : Nat} {y : Nat} (h : xo S i y = true) : xo S (i + 1) y = true := by
  simp only [xo]
  split
  · exact h
  · exact upd_true.mpr (.inr h)
theorem xo_ox {S : List (List Nat)} : ∀ i, i ≤ S.length → Ox S (xo S i)
  | 0, _ => ⟨fun y hy => (endb_true.mp hy).1, fun _ h => h, fun y hy => .inl (endb_true.mp hy).2⟩
  | i + 1, hi => by
    have hO := xo_ox (S := S) i (by omega)
    simp only [xo]
    split
    · exact hO
    · rename_i hf
      refine ⟨fun y hy => ?_, fun y hy => upd_true.mpr (.inr (hO.ends y hy)), fun y hy => ?_⟩
      · rcases upd_true.mp hy with rfl | hy
        · omega
        · exact hO.lt y hy
      · rcases upd_true.mp hy with rfl | hy
        · refine .inr ?_
          cases e2 : bk S (endb S) y with
          | false => rfl
          | true => exact absurd (bk_mono hO.ends e2) hf
        · exact hO.only y hy
theorem xo_bk {S : List (List Nat)} : ∀ i j, j < i → bk S (xo S i) j = true
  | 0, j, h => by omega
  | i + 1, j, h => by
    by_cases e : j = i
    · subst e
      simp only [xo]
      split
      · next hb => exact hb
      · exact bk_self (upd_self _ _)
    · exact bk_mono (fun y hy => xo_sub hy) (xo_bk i j (by omega))
theorem xo_stay {S : List (List Nat)} {i : Nat} (d : Nat) (h : ∀ j, j < i + d → bk S (xo S i) j = true) : xo S (i + d) = xo S i := by
  induction d with
  | zero => rfl
  | succ d ih =>
    have e := ih (fun j hj => h j (by omega))
    show xo S (i + d + 1) = _
    simp only [xo]
    rw [e, if_pos (h (i + d) (by omega))]
theorem exit_end {S : List (List Nat)} (h : Gr S) (hn : S.length < 64) (t2 : L_api_Graph) (out : Sn) :
    EvTo (fun k => if ((0 ≤ (IntKind.wrap .i64 ((S.length : Int) + 1))) ∧ (((IntKind.wrap .i64 ((S.length : Int) + 1)) ≤ (IntKind.wrap .i64 ((S.length : Int) + 1))) ∧ ((IntKind.wrap .i64 ((S.length : Int) + 1)) ≤ 8589934592))) then
      (pdom_Exit_l12 k t2 (S.length : Int) (rb out) (up2 S) ((up2 S).length : Int) (List.replicate ((IntKind.wrap .i64 ((S.length : Int) + 1)).toNat) []) 0).bind fun r1 =>
       (graph_Make k r1.1).bind fun r2 =>
        some ((.inl (r2.2, ordG S (up2 (pr S)), r2.1)) : Sum (Int × (L_api_Graph × L_api_Graph)) (Int × (L_api_Graph × L_api_Graph)))
     else none) (.inl (0, ordG S (up2 (pr S)), up2 (wx S out), up2 (pr (wx S out)), ())) := by
  have h1 := exit_l h hn t2 out S.length 0 (by omega) (by omega)
  have e : up2 (wxTo S out 0) = List.replicate (S.length + 1) [] := (rep_nil (S.length + 1) (fun j => S.getD j [] ++ (if out j = true then [S.length] else []))).symm
  rw [e] at h1
  rw [wrap_i64 (x := (S.length : Int) + 1) (by omega) (by omega), up2_length, show ((S.length : Int) + 1).toNat = S.length + 1 by omega]
  refine EvTo.ifp (by omega) (EvTo.bind h1 (EvTo.bind (make_ok (gr_wx h hn out)) EvTo.pure))
theorem exit_j {S : List (List Nat)} (h : Gr S) (hn : S.length < 64) (t2 : L_api_Graph) (d : Nat) : ∀ i, i ≤ S.length → S.length - i = d →
    EvTo (fun k => pdom_Exit_s1_j0 k (ordG S (up2 (pr S))) t2 (S.length : Int) (rb (xo S i)) (rb (bk S (xo S i)))) (.inl (0, ordG S (up2 (pr S)), up2 (wx S (xo S S.length)), up2 (pr (wx S (xo S S.length))), ())) := by
  induction d using Nat.strongRecOn with
  | _ d ih =>
    intro i hi hd
    obtain ⟨r, h1, h2, h3, h4⟩ := missing_ok h (up2 (pr S)) (bk S (xo S i))
    refine EvTo.succ ?_
    simp only [pdom_Exit_s1_j0]
    refine EvTo.bind h1 ?_
    by_cases e : r = S.length
    · have e2 : xo S S.length = xo S i := by
        have := xo_stay (S := S) (i := i) (S.length - i) (fun j hj => h4 e j (by omega))
        rwa [show i + (S.length - i) = S.length by omega] at this
      rw [e2]
      exact EvTo.ifn (by rw [decide_eq_true_eq]; omega) (exit_end h hn t2 (xo S i))
    · have hr : r < S.length := by omega
      obtain ⟨h5, h6⟩ := h3 hr
      have hir : i ≤ r := by
        rcases Nat.lt_or_ge r i with hlt | hge
        · rw [xo_bk i r hlt] at h5; cases h5
        · exact hge
      have e2 : xo S r = xo S i := by
        have := xo_stay (S := S) (i := i) (r - i) (fun j hj => h6 j (by omega))
        rwa [show i + (r - i) = r by omega] at this
      have e3 : xo S (r + 1) = upd (xo S i) r := by
        simp only [xo]
        rw [e2, h5, if_neg (by decide)]
      have hO := xo_ox (S := S) i hi
      have hn1 := ih (S.length - (r + 1)) (by omega) (r + 1) (by omega) rfl
      rw [e3, ← bk_upd] at hn1
      rw [Int.toNat_natCast, set_rb, set_rb]
      refine EvTo.ifp (decide_eq_true (by omega)) (EvTo.ifp (by omega) (EvTo.ifp (by omega) (EvTo.bind (back_ok h (upd (bk S (xo S i)) r) (fun y hy => ?_)) hn1)))
      rcases upd_true.mp hy with rfl | hy
      · exact hr
      · exact bk_lt hO.lt hy
theorem exit_s {S : List (List Nat)} (h : Gr S) (hn : S.length < 64) (t2 : L_api_Graph) :
    EvTo (fun k => pdom_Exit_s1 k (ordG S (up2 (pr S))) t2) (.inl (0, ordG S (up2 (pr S)), up2 (wx S (xo S S.length)), up2 (pr (wx S (xo S S.length))), ())) := by
  have hj := exit_j h hn t2 S.length 0 (by omega) (by omega)
  have hO := xo_ox (S := S) 0 (by omega)
  obtain ⟨r, h1, h2, h3, h4⟩ := missing_ok h (up2 (pr S)) (bk S (endb S))
  unfold pdom_Exit_s1
  have el : ((ordG S (up2 (pr S))).1.length : Int) = (S.length : Int) := by rw [up2_length]
  simp only [el]
  refine EvTo.bind (may_ok h _) (EvTo.ifp (by simp) (EvTo.ifn (by rw [decide_eq_true_eq]; omega) (EvTo.bind (ends_ok h _) (EvTo.bind (back_ok h (endb S) hO.lt) (EvTo.bind h1 ?_)))))
  by_cases e : r = S.length
  · have e2 : xo S S.length = xo S 0 := by
      have := xo_stay (S := S) (i := 0) S.length (fun j hj => h4 e j (by omega))
      rwa [Nat.zero_add] at this
    rw [e2]
    have := exit_end h hn t2 (xo S 0)
    rw [up2_length] at this
    exact EvTo.ifn (by rw [decide_eq_true_eq]; omega) this
  · have hr : r < S.length := by omega
    obtain ⟨h5, h6⟩ := h3 hr
    have e2 : xo S r = xo S 0 := by
      have := xo_stay (S := S) (i := 0) r (fun j hj => h6 j (by omega))
      rwa [Nat.zero_add] at this
    have e3 : xo S (r + 1) = upd (endb S) r := by
      simp only [xo]
      rw [e2]
      show (if bk S (endb S) r = true then _ else _) = _
      rw [h5, if_neg (by decide)]; rfl
    have hn1 := exit_j h hn t2 (S.length - (r + 1)) (r + 1) (by omega) rfl
    rw [e3, ← bk_upd] at hn1
    rw [Int.toNat_natCast, set_rb, set_rb]
    refine EvTo.ifp (decide_eq_true (by omega)) (EvTo.ifp (by omega) (EvTo.ifp (by omega) (EvTo.bind (back_ok h (upd (bk S (endb S)) r) (fun y hy => ?_)) hn1)))
    rcases upd_true.mp hy with rfl | hy
    · exact hr
    · exact bk_lt hO.lt hy
/-- the graph with its exit -/
noncomputable abbrev wX (S : List (List Nat)) : List (List Nat) := wx S (xo S S.length)
theorem exit_ok {S : List (List Nat)} (h : Gr S) (hn : S.length < 64) : EvTo (fun k => pdom_Exit k (ordG S (up2 (pr S)))) ((up2 (wX S), up2 (pr (wX S)), ()), 0) := by
  unfold pdom_Exit
  exact EvTo.bind (exit_s h hn _) (by show EvTo (fun _ => some _) _; exact EvTo.pure)
theorem exit_no {g : L_api_Graph} (h : EvTo (fun k => graph_May k g) false) : EvTo (fun k => pdom_Exit k g) (([], [], ()), 5) := by
  unfold pdom_Exit pdom_Exit_s1
  exact EvTo.bind (EvTo.bind h (EvTo.ifn (by decide) EvTo.pure)) (by show EvTo (fun _ => some _) _; exact EvTo.pure)
theorem exit_big {S : List (List Nat)} (h : Gr S) (hn : ¬ S.length < 64) : EvTo (fun k => pdom_Exit k (ordG S (up2 (pr S)))) (([], [], ()), 5) := by
  unfold pdom_Exit pdom_Exit_s1
  refine EvTo.bind (EvTo.bind (may_ok h _) (EvTo.ifp (by simp) (EvTo.ifp (decide_eq_true ?_) EvTo.pure))) (by show EvTo (fun _ => some _) _; exact EvTo.pure)
  show ((up2 S).length : Int) ≥ 64
  rw [up2_length]; omega
theorem turned_ok {S : List (List Nat)} (h : Gr S) : EvTo (fun k => graph_Turned k (ordG S (up2 (pr S)))) (up2 (pr S), up2 S, ()) := by
  have h1 := make_ok (gr_pr h)
  rw [pr_pr h] at h1
  unfold graph_Turned
  exact EvTo.bind (may_ok h _) (EvTo.ifn (by simp) (EvTo.bind h1 EvTo.pure))
theorem ptree_ok {S : List (List Nat)} (h : Gr S) (hn : S.length < 64) : EvTo (fun k => pdom_Tree k (ordG S (up2 (pr S)))) (dtl (pr (wX S)) S.length) := by
  have hX := gr_wx h hn (xo S S.length)
  have h2 := tree_ok (gr_pr hX) (r := S.length) (by rw [pr_length, wx_length]; omega)
  rw [pr_pr hX] at h2
  unfold pdom_Tree
  refine EvTo.bind (exit_ok h hn) (EvTo.ifn (by show ¬ (((0 : Int) != 0) = true); decide) (EvTo.bind (turned_ok hX) (EvTo.bind (a := dtl (pr (wX S)) S.length) ?_ EvTo.pure)))
  rw [show ((ordG S (up2 (pr S))).1.length : Int) = (S.length : Int) by rw [up2_length]]
  exact h2
/-- In the graph with its exit each block reaches the exit. -/
theorem wx_rch {S : List (List Nat)} {o : Sn} (hO : Ox S o) (ha : ∀ x, x < S.length → bk S o x = true) {x : Nat} (hx : x ≤ S.length) : Rch (wx S o) (-1) x S.length := by
  by_cases e : x = S.length
  · subst e; exact .base (by omega)
  · obtain ⟨y, h1, h2⟩ := bk_true.mp (ha x (by omega))
    have hsub : ∀ z, Rch S (-1) x z → Rch (wx S o) (-1) x z := by
      intro z hz
      induction hz with
      | base h => exact .base h
      | @step a b _ hb hw ih => exact .step ih (by rw [wx_get (getD_lt hb)]; exact List.mem_append.mpr (.inl hb)) hw
    exact .step (hsub y h2) (by rw [wx_get (hO.lt y h1), h1, if_pos rfl]; exact List.mem_append.mpr (.inr (List.mem_singleton.mpr rfl))) (by omega)
theorem wx_dm {S : List (List Nat)} {o : Sn} (hX : Gr (wx S o)) (hO : Ox S o) (ha : ∀ x, x < S.length → bk S o x = true) {a b : Nat} (hb : b ≤ S.length) : Dm (pr (wx S o)) S.length a b ↔ ¬ Rch (wx S o) (a : Int) b S.length := by
  unfold Dm
  rw [rch_dual hX, rch_dual hX]
  exact ⟨fun h => h.2, fun h => ⟨wx_rch hO ha hb, h⟩⟩
end Go.PrS
