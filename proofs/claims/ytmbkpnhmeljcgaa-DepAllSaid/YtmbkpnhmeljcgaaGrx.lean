/- Plain laws of the document's May and Exit: the graph with its exit is the one that pdom.Exit makes. No conditions beyond each theorem's own. -/
import Derived.Test.YtmbkpnhmeljcgaaGx
import Derived.Test.YtmbkpnhmeljcgaaGre
import Derived.Test.YtmbkpnhmeljcgaaGc
set_option linter.unusedVariables false
set_option linter.unusedSimpArgs false
namespace Go.PrS
open Go Go.Ev Go.Proofs
theorem reach_big : reachBytes = 140737488351232 := rfl
theorem rmay_ok {S : List (List Nat)} (h : Gr S) (p : List (List Int)) : EvTo (fun k => lockstepref06_May k (up2 S, p, ())) (decide (up2 (pr S) = p)) := by
  have hle := h.le
  obtain ⟨r1, r2⟩ := gr_reach h
  obtain ⟨r3, r4⟩ := gr_reach (gr_pr h)
  unfold lockstepref06_May
  refine EvTo.bind (rmake_ok h) (EvTo.ifp rfl (EvTo.bind ((same_ok (up2 S) (up2 (pr S)) (up2 S) p r1 r2 r3 r4).to ?_) EvTo.pure))
  simp
theorem rmay_bad {s : List (List Int)} (hr : ∀ l ∈ s, l.length ≤ reachBytes) (h : goodb s = false) (p : List (List Int)) : EvTo (fun k => lockstepref06_May k (s, p, ())) false := by
  unfold lockstepref06_May
  exact EvTo.bind (rmake_bad hr h) (EvTo.ifn (by show ¬ (((5 : Int) == 0) = true); decide) EvTo.pure)
/-! with -/
def cpTo (T : List (List Nat)) (i : Nat) : List (List Nat) := (List.range T.length).map fun j => if j < i then T.getD j [] else []
theorem cpTo_length (T : List (List Nat)) (i : Nat) : (cpTo T i).length = T.length := by simp [cpTo]
theorem cpTo_all (T : List (List Nat)) : cpTo T T.length = T := by
  refine ext_getD (d := []) (cpTo_length T _) (fun j hj => ?_)
  rw [cpTo_length] at hj
  unfold cpTo
  rw [getD_map_range _ _ _ _ hj, if_pos hj]
theorem cpTo_zero (T : List (List Nat)) : List.replicate T.length ([] : List Int) = up2 (cpTo T 0) := rep_nil T.length (fun j => T.getD j [])
theorem cpTo_succ (T : List (List Nat)) (i : Nat) : (cpTo T i).set i (T.getD i []) = cpTo T (i + 1) :=
  set_map_range _ _ _ _ _ (by rw [if_pos (by omega)]) (fun j hj => by
    by_cases h : j < i
    · rw [if_pos h, if_pos (by omega)]
    · rw [if_neg h, if_neg (by omega)])
theorem with_l {T : List (List Nat)} (hT : Gr T) (P : List (List Int)) (t1 : Int) (t4 : L_api_Graph) (d : Nat) : ∀ i, i ≤ T.length → T.length - i = d →
    EvTo (fun k => lockstepref08_with_l3 k t1 (ordG T P) t4 (up2 (cpTo T i)) (i : Int)) (up2 T, ordG T P, t4) := by
  have hle := hT.le
  have hux : (ordG T P).1.length = T.length := up2_length T
  induction d with
  | zero =>
    intro i hi hd
    obtain rfl : i = T.length := by omega
    refine EvTo.succ ?_; simp only [lockstepref08_with_l3]
    exact EvTo.ifn (by rw [up2_length, cpTo_length, decide_eq_true_eq]; omega) (EvTo.pure' (by rw [cpTo_all]))
  | succ d ih =>
    intro i hi hd
    have hil : i < T.length := by omega
    have hrl := gr_len hT hil
    have hn := ih (i + 1) (by omega) (by omega)
    rw [← cpTo_succ] at hn
    refine EvTo.succ ?_; simp only [lockstepref08_with_l3]
    rw [hux, up2_length, cpTo_length, Int.toNat_natCast, getD_up2, List.nil_append, up2_set, up_length, wrapS hil (by omega)]
    exact EvTo.ifp (decide_eq_true (by omega)) (EvTo.ifp (by omega) (EvTo.ifp (by rw [most_eq]; omega) (EvTo.ifp (by omega) hn)))
theorem with_ok {T : List (List Nat)} (hT : Gr T) (P : List (List Int)) {i : Nat} (hi : i < T.length) (hT' : Gr (T.set i (T.getD i [] ++ [T.length - 1]))) :
    EvTo (fun k => lockstepref08_with k (ordG T P) (i : Int)) (ordG (T.set i (T.getD i [] ++ [T.length - 1])) (up2 (pr (T.set i (T.getD i [] ++ [T.length - 1]))))) := by
  have hle := hT.le
  have hrl := gr_len hT hi
  have h1 := with_l hT P (i : Int) ([], [], ()) T.length 0 (Nat.zero_le _) rfl
  rw [← cpTo_zero] at h1
  unfold lockstepref08_with
  have el : ((ordG T P).1.length : Int) = (T.length : Int) := by rw [up2_length]
  simp only [el]
  refine EvTo.ifp (by omega) (EvTo.bind (by rw [Int.toNat_natCast]; exact h1) ?_)
  dsimp only
  have e1 : IntKind.wrap .i64 (((up2 T).length : Int) - 1) = ((T.length - 1 : Nat) : Int) := by rw [up2_length, wrap_i64 (by omega) (by omega)]; omega
  rw [e1, Int.toNat_natCast, getD_up2, ← up_snoc, up2_set, up_length, up2_length]
  exact EvTo.ifp (by omega) (EvTo.ifp (by rw [List.length_append, List.length_singleton, most_eq]; omega) (EvTo.ifp (by omega) (EvTo.ifp trivial (EvTo.bind (rmake_ok hT') EvTo.pure))))
/-! Exit -/
theorem wx_set {S : List (List Nat)} {o : Sn} {i : Nat} (hi : i < S.length) (ho : o i = false) : (wx S o).set i ((wx S o).getD i [] ++ [(wx S o).length - 1]) = wx S (upd o i) := by
  rw [wx_length, Nat.add_sub_cancel, wx_get hi, ho, if_neg (by decide), List.append_nil]
  unfold wx
  refine set_map_range _ _ _ _ _ ?_ (fun j hj => ?_)
  · rw [if_pos hi, if_pos (upd_self o i)]
  · by_cases hjl : j < S.length
    · rw [if_pos hjl, if_pos hjl]
      have : upd o i j = o j := by simp [upd, hj]
      rw [this]
    · rw [if_neg hjl, if_neg hjl]
theorem rwith_ok {S : List (List Nat)} (h : Gr S) (hn : S.length < 64) {o : Sn} {i : Nat} (hi : i < S.length) (ho : o i = false) (P : List (List Int)) :
    EvTo (fun k => lockstepref08_with k (ordG (wx S o) P) (i : Int)) (ordG (wx S (upd o i)) (up2 (pr (wx S (upd o i))))) := by
  have h1 := with_ok (gr_wx h hn o) P (i := i) (by rw [wx_length]; omega) (by rw [wx_set hi ho]; exact gr_wx h hn _)
  rw [wx_set hi ho] at h1
  exact h1
abbrev wG (S : List (List Nat)) (o : Sn) : L_api_Graph := ordG (wx S o) (up2 (pr (wx S o)))
def eo (S : List (List Nat)) (i : Nat) : Sn := fun y => decide (y < i) && endb S y
theorem eo_succ (S : List (List Nat)) (i : Nat) : eo S (i + 1) = if endb S i = true then upd (eo S i) i else eo S i := by
  funext y
  by_cases hy : y = i
  · subst hy
    cases e : endb S y with
    | true => simp [eo, upd, e]
    | false => simp [eo, e]
  · have e1 : decide (y < i + 1) = decide (y < i) := decide_eq_decide.mpr (by omega)
    split
    · simp [eo, upd, hy, e1]
    · simp [eo, e1]
theorem eo_all (S : List (List Nat)) : eo S S.length = endb S := by
  funext y
  by_cases hy : y < S.length
  · simp [eo, hy]
  · have : endb S y = false := by simp [endb]; omega
    simp [eo, this]
theorem rexit_l6 {S : List (List Nat)} (h : Gr S) (hn : S.length < 64) (P : List (List Int)) (t2 : L_api_Graph) (d : Nat) : ∀ i, i ≤ S.length → S.length - i = d →
    EvTo (fun k => lockstepref08_Exit_l6 k (ordG S P) t2 (S.length : Int) (wG S (eo S i)) (i : Int)) (ordG S P, t2, wG S (endb S)) := by
  have hux : (ordG S P).1.length = S.length := up2_length S
  induction d with
  | zero =>
    intro i hi hd
    obtain rfl : i = S.length := by omega
    refine EvTo.succ ?_; simp only [lockstepref08_Exit_l6]
    exact EvTo.ifn (by rw [decide_eq_true_eq]; omega) (EvTo.pure' (by rw [eo_all]))
  | succ d ih =>
    intro i hi hd
    have hil : i < S.length := by omega
    have hn1 := ih (i + 1) (by omega) (by omega)
    rw [eo_succ] at hn1
    refine EvTo.succ ?_; simp only [lockstepref08_Exit_l6]
    rw [hux, Int.toNat_natCast, getD_up2, up_length, wrapS hil (by omega)]
    refine EvTo.ifp (decide_eq_true (by omega)) (EvTo.ifp (by omega) ?_)
    by_cases he : S.getD i [] = []
    · rw [if_pos (endb_true.mpr ⟨hil, he⟩)] at hn1
      exact EvTo.ifp (by rw [he]; rfl) (EvTo.bind (rwith_ok h hn hil (by simp [eo]) _) hn1)
    · rw [if_neg (fun hc => he (endb_true.mp hc).2)] at hn1
      refine EvTo.ifn ?_ hn1
      have : (S.getD i []).length ≠ 0 := fun hc => he (List.length_eq_zero_iff.mp hc)
      rw [beq_iff_eq]; omega
theorem wx_bk {S : List (List Nat)} (hG : Gr S) {o : Sn} (hO : Ox S o) {i : Nat} (hi : i < S.length) : Rch (wx S o) (-1) i S.length ↔ bk S o i = true := by
  constructor
  · intro hr
    have key : ∀ z, Rch (wx S o) (-1) i z → (z < S.length → Rch S (-1) i z) ∧ (z = S.length → bk S o i = true) := by
      intro z hz
      induction hz with
      | base hb => exact ⟨fun _ => .base hb, fun e => by omega⟩
      | @step c y _ hy hw ih =>
        obtain ⟨hc, hy2⟩ := wx_mem hy
        rcases hy2 with hy2 | ⟨hoc, rfl⟩
        · have := (hG.row c hc).2 y hy2
          exact ⟨fun _ => .step (ih.1 hc) hy2 hw, fun e => by omega⟩
        · exact ⟨fun e => by omega, fun _ => bk_true.mpr ⟨c, hoc, ih.1 hc⟩⟩
    exact (key _ hr).2 rfl
  · intro hb
    obtain ⟨y, h1, h2⟩ := bk_true.mp hb
    have hsub : ∀ z, Rch S (-1) i z → Rch (wx S o) (-1) i z := by
      intro z hz
      induction hz with
      | base h => exact .base h
      | @step a b _ hb hw ih => exact .step ih (by rw [wx_get (getD_lt hb)]; exact List.mem_append.mpr (.inl hb)) hw
    exact .step (hsub y h2) (by rw [wx_get (hO.lt y h1), h1, if_pos rfl]; exact List.mem_append.mpr (.inr (List.mem_singleton.mpr rfl))) (by omega)
theorem rexit_l11 {S : List (List Nat)} (h : Gr S) (hn : S.length < 64) (t2 : L_api_Graph) (d : Nat) : ∀ i, i ≤ S.length → S.length - i = d →
    EvTo (fun k => lockstepref08_Exit_l11 k t2 (S.length : Int) (wG S (xo S i)) (i : Int)) (t2, wG S (xo S S.length)) := by
  induction d with
  | zero =>
    intro i hi hd
    obtain rfl : i = S.length := by omega
    refine EvTo.succ ?_; simp only [lockstepref08_Exit_l11]
    exact EvTo.ifn (by rw [decide_eq_true_eq]; omega) EvTo.pure
  | succ d ih =>
    intro i hi hd
    have hil : i < S.length := by omega
    have hn1 := ih (i + 1) (by omega) (by omega)
    have hO := xo_ox (S := S) i (by omega)
    refine EvTo.succ ?_; simp only [lockstepref08_Exit_l11]
    rw [wrapS hil (by omega)]
    refine EvTo.ifp (decide_eq_true (by omega)) (EvTo.bind (reach_ok (gr_wx h hn (xo S i)) (up2 (pr (wx S (xo S i)))) (-1) i (by rw [wx_length]; omega)) ?_)
    rw [rbn_length, wx_length, Int.toNat_natCast, rd_rbn _ _ (by omega)]
    refine EvTo.ifp (by omega) ?_
    simp only [xo] at hn1
    by_cases hb : bk S (xo S i) i = true
    · rw [if_pos hb] at hn1
      exact EvTo.ifn (by rw [rchb_true.mpr ((wx_bk h hO hil).mpr hb)]; decide) hn1
    · rw [if_neg hb] at hn1
      have hr : rchb (wx S (xo S i)) (-1) i S.length = false := by
        rw [← Bool.not_eq_true, rchb_true, wx_bk h hO hil]; exact hb
      have ho : xo S i i = false := by
        rw [← Bool.not_eq_true]; exact fun hc => hb (bk_self hc)
      exact EvTo.ifp (by rw [hr]; decide) (EvTo.bind (rwith_ok h hn hil ho _) hn1)
theorem wx_none {S : List (List Nat)} : up2 S ++ [[]] = up2 (wx S (eo S 0)) := by
  have : S ++ [[]] = wx S (eo S 0) := by
    refine ext_getD (d := []) (by rw [wx_length]; simp) (fun j hj => ?_)
    simp only [List.length_append, List.length_singleton] at hj
    by_cases e : j < S.length
    · rw [wx_get e, List.getD_eq_getElem?_getD, List.getElem?_append_left e, ← List.getD_eq_getElem?_getD]
      simp [eo]
    · have : j = S.length := by omega
      subst this
      rw [wx_end, List.getD_eq_getElem?_getD, List.getElem?_append_right (Nat.le_refl _)]
      simp
  rw [← this]; simp [up2, up]
theorem rexit_ok {S : List (List Nat)} (h : Gr S) (hn : S.length < 64) : EvTo (fun k => lockstepref08_Exit k (ordG S (up2 (pr S)))) (wG S (xo S S.length), 0) := by
  have hle := h.le
  unfold lockstepref08_Exit
  have el : ((ordG S (up2 (pr S))).1.length : Int) = (S.length : Int) := by rw [up2_length]
  simp only [el, List.nil_append]
  refine EvTo.bind (rmay_ok h _) (EvTo.ifp (by simp) (EvTo.ifn (by rw [decide_eq_true_eq]; omega) (EvTo.ifp (by rw [up2_length, most_eq]; omega) (EvTo.ifp (by rw [List.length_append, up2_length, most_eq]; simp only [List.length_singleton]; omega) ?_))))
  rw [wx_none]
  exact EvTo.bind (rmake_ok (gr_wx h hn _)) (EvTo.bind (rexit_l6 h hn _ _ S.length 0 (Nat.zero_le _) rfl) (EvTo.bind (rexit_l11 h hn _ S.length 0 (Nat.zero_le _) rfl) EvTo.pure))
theorem rexit_no {g : L_api_Graph} (h : EvTo (fun k => lockstepref06_May k g) false) : EvTo (fun k => lockstepref08_Exit k g) (([], [], ()), 5) := by
  unfold lockstepref08_Exit
  exact EvTo.bind h (EvTo.ifn (by decide) EvTo.pure)
theorem rexit_big {S : List (List Nat)} (h : Gr S) (hn : ¬ S.length < 64) : EvTo (fun k => lockstepref08_Exit k (ordG S (up2 (pr S)))) (([], [], ()), 5) := by
  unfold lockstepref08_Exit
  refine EvTo.bind (rmay_ok h _) (EvTo.ifp (by simp) (EvTo.ifp ?_ EvTo.pure))
  rw [decide_eq_true_eq]
  show ((up2 S).length : Int) ≥ 64
  rw [up2_length]; omega
end Go.PrS
