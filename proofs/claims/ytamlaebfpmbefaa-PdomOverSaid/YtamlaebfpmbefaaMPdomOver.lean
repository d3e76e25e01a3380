/- Texts of this session, joined by wip/tools/merge.py. Conditions: each theorem's own. -/
import Derived.Test.YtamlaebfpmbefaaMPdomOverb
import Derived.Test.YtamlaebfpmbefaaMPdomOvere
import Derived.Test.YtamlaebfpmbefaaMPdomOverc
import Derived.Test.YtamlaebfpmbefaaHRows
import Derived.Test.YtamlaebfpmbefaaRows
import Derived.WalkKit
import Derived.ProofKit
import Derived.OpenShut
import Derived.ShutString
import Derived.ChangeOld
import Derived.Below
import Derived.SizedLaws
import Derived.ChangeSlices
namespace Go.Proofs.Ytamlaebfpmbefaa.GP
open Go.RowKit Go.Proofs.Ytamlaebfpmbefaa.G Go.Proofs.YtamlaebfpmbefaaW.PrintWords

/-! #### the graph with its exit -/
def wx (S : List (List Nat)) (out : Sn) : List (List Nat) := (List.range (S.length + 1)).map fun j => if j < S.length then S.getD j [] ++ (if out j = true then [S.length] else []) else []
@[simp] theorem wx_length (S : List (List Nat)) (out : Sn) : (wx S out).length = S.length + 1 := by simp [wx]
theorem wx_get {S : List (List Nat)} {out : Sn} {j : Nat} (h : j < S.length) : (wx S out).getD j [] = S.getD j [] ++ (if out j = true then [S.length] else []) := by
  rw [wx, getD_map_range _ _ _ _ (by omega), if_pos h]
theorem wx_end {S : List (List Nat)} {out : Sn} : (wx S out).getD S.length [] = [] := by
  rw [wx, getD_map_range _ _ _ _ (by omega), if_neg (by omega)]
theorem wx_mem {S : List (List Nat)} {out : Sn} {j y : Nat} (h : y ∈ (wx S out).getD j []) : j < S.length ∧ (y ∈ S.getD j [] ∨ (out j = true ∧ y = S.length)) := by
  have hj := getD_lt h
  rw [wx_length] at hj
  by_cases e : j = S.length
  · subst e; rw [wx_end] at h; simp at h
  · have hj' : j < S.length := by omega
    refine ⟨hj', ?_⟩
    rw [wx_get hj'] at h
    rcases List.mem_append.mp h with h | h
    · exact .inl h
    · cases ho : out j with
      | true => rw [ho, if_pos rfl] at h; exact .inr ⟨rfl, List.mem_singleton.mp h⟩
      | false => rw [ho, if_neg (by decide)] at h; simp at h
theorem gr_wx {S : List (List Nat)} (h : Gr S) (hn : S.length < 64) (out : Sn) : Gr (wx S out) := by
  refine ⟨by rw [wx_length]; omega, by rw [wx_length]; omega, fun i hi => ⟨?_, fun y hy => ?_⟩⟩
  · rw [wx_length] at hi
    by_cases e : i = S.length
    · subst e; rw [wx_end]; exact List.Pairwise.nil
    · have hi' : i < S.length := by omega
      rw [wx_get hi', List.pairwise_append]
      refine ⟨(h.row i hi').1, ?_, fun a ha b hb => ?_⟩
      · cases out i <;> simp
      · have := (h.row i hi').2 a ha
        cases ho : out i with
        | true => rw [ho, if_pos rfl] at hb; rw [List.mem_singleton.mp hb]; exact this
        | false => rw [ho, if_neg (by decide)] at hb; simp at hb
  · obtain ⟨hj, hy | ⟨_, hy⟩⟩ := wx_mem hy
    · rw [wx_length]; have := (h.row i hj).2 y hy; omega
    · rw [wx_length]; omega

/-! #### Exit -/
theorem rep_nil (n : Nat) (f : Nat → List Nat) : List.replicate n ([] : List Int) = up2 ((List.range n).map fun j => if j < 0 then f j else []) := by
  apply List.ext_getElem
  · simp
  · intro j h1 h2; simp [up2]
theorem exit_l1 {S : List (List Nat)} (h : Gr S) (hn : S.length < 64) (out : Sn) (d : Nat) : ∀ i, i ≤ S.length → S.length - i = d →
    Ev (fun k => pdom_Exit.l1 k (up2 S) (rb out) (up2 ((List.range (S.length + 1)).map fun j => if j < i then S.getD j [] ++ (if out j = true then [S.length] else []) else [])) (i : Int)) (up2 (wx S out), up2 (pr (wx S out)), 0) := by
  induction d with
  | zero =>
    intro i hi hd
    have e : i = S.length := by omega
    subst e
    refine Ev.succ ?_; simp only [pdom_Exit.l1]
    exact Ev.ifn (by rw [up2_length]; omega) (make_ok (gr_wx h hn out))
  | succ d ih =>
    intro i hi hd
    have hl := gr_len h (i := i) (by omega)
    refine Ev.succ ?_; simp only [pdom_Exit.l1]
    refine Ev.ifp (by rw [up2_length]; omega) (Ev.ifp (by omega) (Ev.ifp (by rw [up2_length, List.length_map, List.length_range]; omega) (Ev.ifp (by omega) ?_)))
    have e0 : ((List.range (S.length + 1)).map fun j => if j < i then S.getD j [] ++ (if out j = true then [S.length] else []) else []).getD i [] = [] := by
      rw [getD_map_range _ _ _ _ (by omega), if_neg (by omega)]
    have hset : ∀ l : List Nat, (up2 ((List.range (S.length + 1)).map fun j => if j < i then S.getD j [] ++ (if out j = true then [S.length] else []) else [])).set i (up l) = up2 ((List.range (S.length + 1)).map fun j => if j = i then l else if j < i then S.getD j [] ++ (if out j = true then [S.length] else []) else []) := by
      intro l
      unfold up2
      rw [← List.map_set]
      congr 1
      exact set_map_range _ _ _ _ _ (by rw [if_pos rfl]) (fun j hj => by rw [if_neg hj])
    have hnext : ∀ l : List Nat, l = S.getD i [] ++ (if out i = true then [S.length] else []) → ((List.range (S.length + 1)).map fun j => if j = i then l else if j < i then S.getD j [] ++ (if out j = true then [S.length] else []) else []) = ((List.range (S.length + 1)).map fun j => if j < i + 1 then S.getD j [] ++ (if out j = true then [S.length] else []) else []) := by
      intro l hl
      refine List.map_congr_left (fun j _ => ?_)
      by_cases e : j = i
      · subst e; rw [if_pos rfl, if_pos (by omega), hl]
      · rw [if_neg e]
        by_cases e2 : j < i
        · rw [if_pos e2, if_pos (show j < i + 1 by omega)]
        · rw [if_neg e2, if_neg (by omega)]
    rw [rdL_up, rdL_up, e0, Int.toNat_natCast, up_nil, List.nil_append, hset, rd_rb _ (by omega), wrap_nat (by omega), rdL_up]
    have e1 : ((List.range (S.length + 1)).map fun j => if j = i then S.getD i [] else if j < i then S.getD j [] ++ (if out j = true then [S.length] else []) else []).getD i [] = S.getD i [] := by
      rw [getD_map_range _ _ _ _ (by omega), if_pos rfl]
    rw [e1]
    refine Ev.ifp (by rw [up_length]; simp only [List.length_nil]; omega) ?_
    cases ho : out i with
    | true =>
      refine Ev.ifp rfl (Ev.ifp (by rw [up_length]; omega) ?_)
      rw [up2_length, ← up_snoc]
      have e2 : (up2 ((List.range (S.length + 1)).map fun j => if j = i then S.getD i [] else if j < i then S.getD j [] ++ (if out j = true then [S.length] else []) else [])).set i (up (S.getD i [] ++ [S.length])) = up2 ((List.range (S.length + 1)).map fun j => if j < i + 1 then S.getD j [] ++ (if out j = true then [S.length] else []) else []) := by
        unfold up2
        rw [← List.map_set]
        congr 1
        rw [← hnext _ (by rw [ho, if_pos rfl])]
        exact set_map_range _ _ _ _ _ (by rw [if_pos rfl]) (fun j hj => by rw [if_neg hj, if_neg hj])
      rw [e2]
      exact ih (i + 1) (by omega) (by omega)
    | false =>
      refine Ev.ifn (by decide) ?_
      rw [hnext _ (by rw [ho, if_neg (by decide), List.append_nil])]
      exact ih (i + 1) (by omega) (by omega)
/-- Who goes on at the exit: those that go on nowhere, and some of those that reach none of these; all reach one. -/
structure Ox (S : List (List Nat)) (out : Sn) : Prop where
  lt : ∀ y, out y = true → y < S.length
  ends : ∀ y, endb S y = true → out y = true
  only : ∀ y, out y = true → S.getD y [] = [] ∨ bk S (endb S) y = false
theorem bk_upd {S : List (List Nat)} {s : Sn} {i : Nat} : bk S (upd (bk S s) i) = bk S (upd s i) := by
  funext x
  have hh : bk S (upd (bk S s) i) x = true ↔ bk S (upd s i) x = true := by
    constructor
    · intro h
      obtain ⟨y, h1, h2⟩ := bk_true.mp h
      rcases upd_true.mp h1 with rfl | h1
      · exact bk_true.mpr ⟨_, upd_self s _, h2⟩
      · obtain ⟨z, h3, h4⟩ := bk_true.mp h1
        exact bk_true.mpr ⟨z, upd_true.mpr (.inr h3), h2.trans h4⟩
    · intro h
      obtain ⟨y, h1, h2⟩ := bk_true.mp h
      rcases upd_true.mp h1 with rfl | h1
      · exact bk_true.mpr ⟨_, upd_self _ _, h2⟩
      · exact bk_true.mpr ⟨y, upd_true.mpr (.inr (bk_self h1)), h2⟩
  cases e : bk S (upd (bk S s) i) x with
  | true => exact (hh.mp e).symm
  | false => cases e2 : bk S (upd s i) x with
    | true => rw [hh.mpr e2] at e; cases e
    | false => rfl
theorem bk_mono {S : List (List Nat)} {s t : Sn} (h : ∀ y, s y = true → t y = true) {x : Nat} (hx : bk S s x = true) : bk S t x = true := by
  obtain ⟨y, h1, h2⟩ := bk_true.mp hx; exact bk_true.mpr ⟨y, h y h1, h2⟩
theorem exit_l0 {S : List (List Nat)} (h : Gr S) (hn : S.length < 64) (M : Nat) : ∀ (out : Sn), Ox S out → cnt S.length (bk S out) ≤ M →
    ∃ o, Ox S o ∧ (∀ x, x < S.length → bk S o x = true) ∧ Ev (fun k => pdom_Exit.l0 k (up2 S) (up2 (pr S)) (rb out) (rb (bk S out))) (up2 (wx S o), up2 (pr (wx S o)), 0) := by
  induction M with
  | zero =>
    intro out hO hM
    obtain ⟨r, h1, h2, h3, h4⟩ := missing_ok h (up2 (pr S)) (bk S out)
    have e : r = S.length := by
      by_cases e : r = S.length
      · exact e
      · have hr : r < S.length := by omega
        have := cnt_pos hr (h3 hr); omega
    refine ⟨out, hO, h4 e, Ev.succ ?_⟩
    simp only [pdom_Exit.l0]
    refine Ev.bind h1 (Ev.ifn (by rw [up2_length]; omega) ?_)
    rw [up2_length, wrap_nat (by omega), Int.toNat_natCast]
    refine Ev.ifp (by omega) (Ev.ifp (by omega) ?_)
    rw [rep_nil (S.length + 1) (fun j => S.getD j [] ++ (if out j = true then [S.length] else []))]
    exact exit_l1 h hn out S.length 0 (by omega) (by omega)
  | succ M ih =>
    intro out hO hM
    obtain ⟨r, h1, h2, h3, h4⟩ := missing_ok h (up2 (pr S)) (bk S out)
    by_cases e : r = S.length
    · refine ⟨out, hO, h4 e, Ev.succ ?_⟩
      simp only [pdom_Exit.l0]
      refine Ev.bind h1 (Ev.ifn (by rw [up2_length]; omega) ?_)
      rw [up2_length, wrap_nat (by omega), Int.toNat_natCast]
      refine Ev.ifp (by omega) (Ev.ifp (by omega) ?_)
      rw [rep_nil (S.length + 1) (fun j => S.getD j [] ++ (if out j = true then [S.length] else []))]
      exact exit_l1 h hn out S.length 0 (by omega) (by omega)
    · have hr : r < S.length := by omega
      have hf := h3 hr
      have hO' : Ox S (upd out r) := by
        refine ⟨fun y hy => ?_, fun y hy => upd_true.mpr (.inr (hO.ends y hy)), fun y hy => ?_⟩
        · rcases upd_true.mp hy with rfl | hy
          · exact hr
          · exact hO.lt y hy
        · rcases upd_true.mp hy with rfl | hy
          · refine .inr ?_
            cases e2 : bk S (endb S) y with
            | false => rfl
            | true => rw [bk_mono hO.ends e2] at hf; cases hf
          · exact hO.only y hy
      have hc : cnt S.length (bk S (upd out r)) < cnt S.length (bk S out) := cnt_lt (fun z hz => bk_mono (fun y hy => upd_true.mpr (.inr hy)) hz) hr hf (bk_self (upd_self out r))
      obtain ⟨o, ho1, ho2, ho3⟩ := ih (upd out r) hO' (by omega)
      refine ⟨o, ho1, ho2, Ev.succ ?_⟩
      simp only [pdom_Exit.l0]
      refine Ev.bind h1 (Ev.ifp (by rw [up2_length]; omega) (Ev.ifp (by omega) (Ev.ifp (by omega) ?_)))
      rw [Int.toNat_natCast, set_rb, set_rb]
      refine Ev.bind (back_ok h (upd (bk S out) r) (fun y hy => ?_)) ?_
      · rcases upd_true.mp hy with rfl | hy
        · exact hr
        · exact bk_lt hO.lt hy
      · rw [bk_upd]; exact ho3
theorem exit_ok {S : List (List Nat)} (h : Gr S) (hn : S.length < 64) : ∃ o, Ox S o ∧ (∀ x, x < S.length → bk S o x = true) ∧ Ev (fun k => pdom_Exit.f k (up2 S) (up2 (pr S))) (up2 (wx S o), up2 (pr (wx S o)), 0) := by
  have hO : Ox S (endb S) := ⟨fun y hy => (endb_true.mp hy).1, fun _ h => h, fun y hy => .inl (endb_true.mp hy).2⟩
  obtain ⟨o, h1, h2, h3⟩ := exit_l0 h hn _ (endb S) hO (Nat.le_refl _)
  refine ⟨o, h1, h2, ?_⟩
  unfold pdom_Exit.f
  refine Ev.bind (may_ok h _) (Ev.ifp (by simp) (Ev.ifn (by rw [up2_length]; omega) (Ev.bind (ends_ok h _) (Ev.bind (back_ok h (endb S) hO.lt) h3))))
theorem exit_no {s p : List (List Int)} (h : Ev (fun k => graph_May.f k s p) false) : Ev (fun k => pdom_Exit.f k s p) ([], [], 5) := by
  unfold pdom_Exit.f
  exact Ev.bind h (Ev.ifn (by decide) Ev.pure)

/-! #### Shut -/
def shutl (S : List (List Nat)) (m : Sn) : List Nat := (List.range S.length).filter fun i => !m i
theorem shut_l0 {S : List (List Nat)} (h : Gr S) (m : Sn) (d : Nat) : ∀ i, i ≤ S.length → S.length - i = d →
    Ev (fun k => pdom_Shut.l0 k (up2 S) (rb m) (up ((List.range i).filter fun j => !m j)) (i : Int)) (up (shutl S m)) := by
  have hle := h.le
  induction d with
  | zero =>
    intro i hi hd
    have e : i = S.length := by omega
    subst e
    refine Ev.succ ?_; simp only [pdom_Shut.l0]
    exact Ev.ifn (by rw [up2_length]; omega) Ev.pure
  | succ d ih =>
    intro i hi hd
    have h1 := List.length_filter_le (fun j => !m j) (List.range i)
    rw [List.length_range] at h1
    have h2 := ih (i + 1) (by omega) (by omega)
    rw [List.range_succ, List.filter_append] at h2
    refine Ev.succ ?_; simp only [pdom_Shut.l0]
    refine Ev.ifp (by rw [up2_length]; omega) (Ev.ifp (by omega) (Ev.ifp (by omega) ?_))
    rw [rd_rb _ (by omega), wrap_nat (by omega), ← up_snoc]
    cases e : m i with
    | true =>
      rw [List.filter_cons_of_neg (by simp [e]), List.filter_nil, List.append_nil] at h2
      exact Ev.ifp rfl h2
    | false =>
      rw [List.filter_cons_of_pos (by simp [e])] at h2
      exact Ev.ifn (by decide) (Ev.ifp (by rw [up_length]; omega) h2)
/-- The blocks that reach none that goes on nowhere. -/
noncomputable def shuts (S : List (List Nat)) : List Nat := shutl S (bk S (endb S))
theorem mem_shuts {S : List (List Nat)} {i : Nat} : i ∈ shuts S ↔ i < S.length ∧ bk S (endb S) i = false := by simp [shuts, shutl]
theorem shuts_len {S : List (List Nat)} : (shuts S).length ≤ S.length := by
  have := List.length_filter_le (fun i => !bk S (endb S) i) (List.range S.length)
  rw [List.length_range] at this; exact this
theorem shut_ok {S : List (List Nat)} (h : Gr S) : Ev (fun k => pdom_Shut.f k (up2 S) (up2 (pr S))) (up (shuts S)) := by
  unfold pdom_Shut.f
  refine Ev.bind (may_ok h _) (Ev.ifp (by simp) (Ev.bind (ends_ok h _) (Ev.bind (back_ok h (endb S) (fun y hy => (endb_true.mp hy).1)) ?_)))
  exact shut_l0 h _ S.length 0 (by omega) (by omega)
theorem shut_no {s p : List (List Int)} (h : Ev (fun k => graph_May.f k s p) false) : Ev (fun k => pdom_Shut.f k s p) [] := by
  unfold pdom_Shut.f
  exact Ev.bind h (Ev.ifn (by decide) Ev.pure)

/-! #### Tree -/
theorem ptree_ok {S : List (List Nat)} (h : Gr S) {o : Sn} (hn : S.length < 64) (he : Ev (fun k => pdom_Exit.f k (up2 S) (up2 (pr S))) (up2 (wx S o), up2 (pr (wx S o)), 0)) : Ev (fun k => pdom_Tree.f k (up2 S) (up2 (pr S))) (dtl (pr (wx S o)) S.length) := by
  have hX := gr_wx h hn o
  have h2 := tree_ok (gr_pr hX) (r := S.length) (by rw [pr_length, wx_length]; omega)
  rw [pr_pr hX] at h2
  unfold pdom_Tree.f
  refine Ev.bind he (Ev.ifp rfl (Ev.bind (turned_ok hX) (Ev.bind ?_ Ev.pure)))
  rw [up2_length]; exact h2
theorem ptree_no {s p : List (List Int)} (h : Ev (fun k => graph_May.f k s p) false) : Ev (fun k => pdom_Tree.f k s p) [] := by
  unfold pdom_Tree.f
  exact Ev.bind (exit_no h) (Ev.ifn (by decide) Ev.pure)
theorem may_nil : Ev (fun k => graph_May.f k [] []) false := may_bad (s := []) (by simp) (by simp) (by decide) []
/-- In the graph with its exit each block reaches the exit. -/
theorem wx_rch {S : List (List Nat)} {o : Sn} (hO : Ox S o) (ha : ∀ x, x < S.length → bk S o x = true) {x : Nat} (hx : x ≤ S.length) : Rch (wx S o) (-1) x S.length := by
  by_cases e : x = S.length
  · subst e; exact .base (by omega)
  · obtain ⟨y, h1, h2⟩ := bk_true.mp (ha x (by omega))
    have hsub : ∀ z, Rch S (-1) x z → Rch (wx S o) (-1) x z := by
      intro z hz
      induction hz with
      | base h => exact .base h
      | @step a b _ hb hw ih => exact .step ih (by rw [wx_get (getD_lt hb)]; exact List.mem_append.mpr (.inl hb)) hw
    exact .step (hsub y h2) (by rw [wx_get (hO.lt y h1), h1, if_pos rfl]; exact List.mem_append.mpr (.inr (List.mem_singleton.mpr rfl))) (by omega)
theorem wx_dm {S : List (List Nat)} {o : Sn} (hX : Gr (wx S o)) (hO : Ox S o) (ha : ∀ x, x < S.length → bk S o x = true) {a b : Nat} (hb : b ≤ S.length) : Dm (pr (wx S o)) S.length a b ↔ ¬ Rch (wx S o) (a : Int) b S.length := by
  unfold Dm
  rw [rch_dual hX, rch_dual hX]
  exact ⟨fun h => h.2, fun h => ⟨wx_rch hO ha hb, h⟩⟩
open Classical in
theorem pover_ev {S : List (List Nat)} {o : Sn} (hX : Gr (wx S o)) (hO : Ox S o) (ha : ∀ x, x < S.length → bk S o x = true) {a b : Nat} (hal : a ≤ S.length) (hbl : b ≤ S.length) : Ev (fun k => pdom_Over.f k (dtl (pr (wx S o)) S.length) (a : Int) (b : Int)) (!rchb (wx S o) (a : Int) b S.length) := by
  obtain ⟨at_, par, hD⟩ := gd_ex (gr_pr hX) (r := S.length) (by rw [pr_length, wx_length]; omega)
  unfold pdom_Over.f
  refine Ev.bind (hD.over_ev (a := a) (b := b) (v := !rchb (wx S o) (a : Int) b S.length) (by rw [pr_length, wx_length]; omega) (by rw [pr_length, wx_length]; omega) ?_) Ev.pure
  rw [wx_dm hX hO ha hbl, ← rchb_true, Bool.not_eq_true']
  cases rchb (wx S o) (a : Int) b S.length <;> simp

theorem pover_l1 {S : List (List Nat)} {o : Sn} (hX : Gr (wx S o)) (hO : Ox S o) (ha : ∀ x, x < S.length → bk S o x = true) {b : Nat} (hb : b ≤ S.length)
    (hK : Ev (fun k => locksteplaw08_PdomOver.l0 k (S.length : Int) (dtl (pr (wx S o)) S.length) ((b + 1 : Nat) : Int) (up2 (wx S o)) (up2 (pr (wx S o)))) true) (d : Nat) : ∀ a : Nat, S.length + 1 - a = d → a ≤ S.length + 1 →
    Ev (fun k => locksteplaw08_PdomOver.l1 k (S.length : Int) (dtl (pr (wx S o)) S.length) (b : Int) (a : Int) (up2 (wx S o)) (up2 (pr (wx S o)))) true := by
  have hle := hX.le
  rw [wx_length] at hle
  induction d with
  | zero =>
    intro a hd hal
    refine Ev.succ ?_; simp only [locksteplaw08_PdomOver.l1]
    refine Ev.ifn (by omega) ?_
    rw [wrap_nat (by omega)]; exact hK
  | succ d ih =>
    intro a hd hal
    have hr := reach_ok hX (up2 (pr (wx S o))) (a : Int) b (by rw [wx_length]; omega)
    refine Ev.succ ?_; simp only [locksteplaw08_PdomOver.l1]
    refine Ev.ifp (by omega) (Ev.bind (pover_ev hX hO ha (by omega) hb) (Ev.bind hr (Ev.ifp (by omega) (Ev.ifp (by rw [rbn_length, wx_length]; omega) ?_))))
    rw [rd_rbn _ _ (by rw [wx_length]; omega), wrap_nat (by omega)]
    exact Ev.ifn (by simp) (ih (a + 1) (by omega) (by omega))
theorem pover_l0 {S : List (List Nat)} {o : Sn} (hX : Gr (wx S o)) (hO : Ox S o) (ha : ∀ x, x < S.length → bk S o x = true) (d : Nat) : ∀ b : Nat, S.length + 1 - b = d → b ≤ S.length + 1 →
    Ev (fun k => locksteplaw08_PdomOver.l0 k (S.length : Int) (dtl (pr (wx S o)) S.length) (b : Int) (up2 (wx S o)) (up2 (pr (wx S o)))) true := by
  induction d with
  | zero =>
    intro b hd hb
    refine Ev.succ ?_; simp only [locksteplaw08_PdomOver.l0]
    exact Ev.ifn (by omega) Ev.pure
  | succ d ih =>
    intro b hd hb
    have hr := reach_ok hX (up2 (pr (wx S o))) (-1) b (by rw [wx_length]; omega)
    refine Ev.succ ?_; simp only [locksteplaw08_PdomOver.l0]
    refine Ev.ifp (by omega) (Ev.bind hr (Ev.ifp (by omega) (Ev.ifp (by rw [rbn_length, wx_length]; omega) (Ev.ifp ?_ ?_))))
    · rw [rd_rbn _ _ (by rw [wx_length]; omega)]
      exact rchb_true.mpr (wx_rch hO ha (by omega))
    · have h1 : rchb (wx S o) (S.length : Int) b S.length = false := by
        cases e : rchb (wx S o) (S.length : Int) b S.length with
        | false => rfl
        | true => exact absurd rfl (rchb_true.mp e).ne
      have h2 := pover_ev hX hO ha (a := S.length) (b := b) (by omega) (by omega)
      rw [h1] at h2
      refine Ev.bind h2 (Ev.succ ?_)
      simp only [locksteplaw08_PdomOver.j3]
      exact Ev.ifn (by decide) (pover_l1 hX hO ha (by omega) (ih (b + 1) (by omega) (by omega)) _ 0 rfl (by omega))
theorem pdomOver : locksteplaw08_PdomOver.Pure := by
  intro l0 hrow
  refine Ev.at ?_
  have hbb : big = 9223372036854775807 := rfl
  have hml : maxLen ≤ big := by decide
  have hb : l0.length ≤ big := Nat.le_trans hrow.1 hml
  unfold locksteplaw08_PdomOver.f
  refine Ev.bind awake_ev (Ev.ifp rfl ?_)
  have ht : Ev (fun k => locksteplaw08_PdomOver.j0 k l0 true) true := by
    refine Ev.succ ?_; simp only [locksteplaw08_PdomOver.j0]; exact Ev.ifp trivial Ev.pure
  by_cases h16 : (l0.length : Int) > 16
  · exact Ev.ifp h16 ht
  · refine Ev.ifn h16 ?_
    obtain ⟨b, h1, h2⟩ := small_ev l0 hb
    refine Ev.bind h1 ?_
    cases b with
    | false => exact ht
    | true =>
      have hr : ∀ l ∈ l0, l.length ≤ big := fun l hl => by have := (h2 rfl).2 l hl; omega
      refine Ev.succ ?_; simp only [locksteplaw08_PdomOver.j0]
      refine Ev.ifn (by decide) ?_
      cases hg : goodb l0 with
      | false => exact Ev.bind (make_bad hb hr hg) (Ev.ifn (by decide) (Ev.bind (ptree_no may_nil) Ev.pure))
      | true =>
        obtain ⟨S, h, rfl⟩ := good_gr hg
        rw [up2_length] at h16
        obtain ⟨o, hO, ha, he⟩ := exit_ok h (by omega)
        have hX := gr_wx h (by omega) o
        refine Ev.bind (make_ok h) (Ev.ifp rfl (Ev.bind he (Ev.bind (ptree_ok h (by omega) he) (Ev.ifp rfl ?_))))
        simp only [up2_length]
        rw [wrap_nat (by omega)]
        refine Ev.ifp (by rw [wx_length]) ?_
        rw [show (((dtl (pr (wx S o)) S.length).length : Int) != ((S.length + 1 : Nat) : Int)) = false by rw [dtl_length, pr_length, wx_length]; simp]
        refine Ev.succ ?_; simp only [locksteplaw08_PdomOver.j1]
        exact Ev.ifn (by decide) (pover_l0 hX hO ha _ 0 rfl (by omega))
end Go.Proofs.Ytamlaebfpmbefaa.GP
namespace Go.Proofs.Ytamlaebfpmbefaa.Pure
theorem PdomOver : Go.Proofs.Ytamlaebfpmbefaa.G.locksteplaw08_PdomOver.Pure := GP.pdomOver
end Go.Proofs.Ytamlaebfpmbefaa.Pure
namespace Go.Proofs.Ytamlaebfpmbefaa.pdomOver
open Go.Proofs.YtamlaebfpmbefaaH Go.Proofs.Ytamlaebfpmbefaa.G
open Go.ChangeShapes Go.WideShapes Go.ChangeAt Go.RowKit
open Go.ChangeMaps (open_string shut_string)
set_option linter.unusedVariables false
theorem own : ownKnob Try.prog.godebug = none := by kernel_rfl
theorem laidOut : laidOutB Try.prog = true := by kernel_rfl
def IsRow (k : IntKind) (w : World) (a : Option Addr) (len cap : Nat) (zs : List Int) : Prop :=
  (a = none ∧ len = 0 ∧ cap = 0 ∧ zs = []) ∨
  ∃ x, a = some x ∧ len ≤ cap ∧ cap ≤ maxLen ∧ zs.length = cap ∧ (∀ i, i < zs.length → w.cell? (x.add i) = some (.int k (zs.getD i 0))) ∧ ∀ n ∈ zs, (Lit.int k n).wf = true
set_option maxRecDepth 100000 in
theorem lifted (os : Os) (started : os.Started) (H : Type) (enc : TypeId × Value → H) :
    ReturnsInHanded {} Try.checked os 3 .any (Rows.pdomOverSpec.pre6 enc Try.prog Try.f3 Rows.pdomOverRow.domain false) (Rows.pdomOverSpec.post enc Try.prog Try.f3 false true false false) := by
  refine returnsInHanded_of_change_sized (C := Try.checked) own started (by kernel_rfl) Try.func3
    (ChangeSpec.witness6 (enc := enc) (C := Try.checked) false ⟨#[], #[.slice none 0 0], []⟩ 8 (by kernel_rfl) (by kernel_rfl) (by kernel_rfl) (by kernel_rfl)) ?_
  intro W base args ds gs before hval0 hW hcnd hsz0 _
  have hsz : (DataW.weightsEach Try.prog (Try.f3.params.toList ++ Rows.pdomOverSpec.plain.varTypes Try.prog) (ds ++ gs)).all (· ≤ reachBytes) = true := hsz0
  have hval : ∀ (j : Nat) t v, Try.f3.params[j]? = some t → args[j]? = some v → Value.okWide Try.prog W .any base t v := hval0
  have hW' := hW
  obtain ⟨p, q, hA0, hV, rfl, hfz, hnd⟩ := hW
  have hA : DataW.TrodAll enc Try.prog W 0 (fun _ => true) true Try.f3.params.toList args.toList ds p := hA0
  rw [Try.params3] at hA hval hsz
  obtain ⟨v0, vs0, d0, ds0, p0, q0, hargs, rfl, rfl, h0, r0⟩ := trodAll_cons hA
  obtain ⟨rfl, rfl, rfl⟩ := trodAll_nil r0
  obtain rfl : args = #[v0] := by cases args; simp_all
  obtain ⟨rfl, rfl⟩ := trodVars_none hV
  obtain ⟨a0, len0, cap0, rfl⟩ := okWide_slice Try.underlying22 (hval 0 22 v0 rfl rfl)
  have k0 := h0
  have lt0 : ∀ x ∈ p0, x.block < W.heap.size := by obtain ⟨m, hm⟩ := k0; exact DataW.trod_lt m _ _ _ hm
  obtain ⟨l0, rfl, w0, y0, m0⟩ := C_of_rows Try.underlying22 Try.underlying30 Try.underlying3 (by kernel_rfl) (by kernel_rfl) h0
  clear hA0 hval0 hsz0 hsz
  refine (G.locksteplaw08_PdomOver.walk Pure.PdomOver a0 cap0 l0 W w0 y0 m0).mono fun e W' ⟨he, bel⟩ => ?_
  subst he
  exact ⟨_, rfl, _, _, _, [], _, [], hW', trodAll_mk1 (shut_bool Try.underlying4 _), (trodAll_cons_mk (Below.trod laidOut (by kernel_rfl) (of_decide_eq_true (by kernel_rfl)) k0 bel lt0) trodAll_mk0), rfl, bel.frame _, fun h => by cases h⟩
theorem over : Rows.pdomOverRow.holds Try.pinned (OpenSpec.ofChange Rows.pdomOverSpec) :=
  OpenClaim.holds_of_wide 3 Try.f3 rfl rfl rfl rfl rfl rfl rfl ⟨rfl, rfl, rfl, rfl, rfl⟩ rfl rfl rfl rfl rfl (by kernel_rfl) Try.func3 (by kernel_rfl)
    (of_decide_eq_true (by kernel_rfl)) (by unfold Func.isWrapper; first | (rw [if_pos (by decide +kernel)]; kernel_rfl) | (rw [if_neg (by decide +kernel)]; exact ⟨rfl, rfl⟩))
    (fun os started H enc _ => lifted os started H enc)
theorem proved : Rows.PdomOverSaid := over
#print axioms proved
end Go.Proofs.Ytamlaebfpmbefaa.pdomOver
namespace Go.Proofs.Ytamlaebfpmbefaa
/-- The row, under a short name, for the claim. -/
theorem pdomOver_holds : Rows.PdomOverSaid := pdomOver.proved
end Go.Proofs.Ytamlaebfpmbefaa
