/- Plain laws of the document's All: it is what dep.All says. No conditions beyond each theorem's own. -/
import Derived.Test.YtmbkpnhmeljcgaaGrx
import Derived.Test.YtmbkpnhmeljcgaaGdp
set_option linter.unusedVariables false
set_option linter.unusedSimpArgs false
namespace Go.PrS
open Go Go.Ev Go.Proofs
/-- does a block postdominate another one? -/
noncomputable def ov (S : List (List Nat)) (a b : Nat) : Bool := !rchb (wX S) (a : Int) b S.length
theorem set_self {α : Type} (l : List α) (d : α) (i : Nat) : l.set i (l.getD i d) = l := by
  apply List.ext_getElem?
  intro j
  rw [List.getElem?_set]
  split
  · rename_i h
    subst h
    split
    · rename_i h2
      rw [List.getD_eq_getElem?_getD, List.getElem?_eq_getElem h2]; rfl
    · rename_i h2
      rw [List.getElem?_eq_none (by omega)]
  · rfl
theorem set_rbnv (n : Nat) (s : Sn) (y : Nat) (v : Bool) : (rbn n s).set y v = rbn n (fun z => if z = y then v else s z) :=
  set_map_range _ _ _ _ _ (by simp) (fun j hj => by simp [hj])
noncomputable def tb (S : List (List Nat)) (i : Nat) : List (List Bool) := (List.range S.length).map fun a => if a < i then rbn S.length (ov S a) else []
theorem tb_length (S : List (List Nat)) (i : Nat) : (tb S i).length = S.length := by simp [tb]
theorem tb_get (S : List (List Nat)) {a : Nat} (h : a < S.length) : (tb S S.length).getD a [] = rbn S.length (ov S a) := by
  unfold tb
  rw [getD_map_range _ _ _ _ h, if_pos h]
theorem tb_succ (S : List (List Nat)) (i : Nat) : (tb S i).set i (rbn S.length (ov S i)) = tb S (i + 1) :=
  set_map_range _ _ _ _ _ (by rw [if_pos (by omega)]) (fun j hj => by
    by_cases h : j < i
    · rw [if_pos h, if_pos (by omega)]
    · rw [if_neg h, if_neg (by omega)])
theorem tb_zero (S : List (List Nat)) : List.replicate S.length ([] : List Bool) = tb S 0 := by
  apply List.ext_getElem
  · simp [tb]
  · intro j h1 h2; simp [tb]
theorem rall_l12 {S : List (List Nat)} (h : Gr S) (hn : S.length < 64) (t1 : L_api_Graph) (out : List PrD.Dep) (a : Nat) (ha : a < S.length) (d : Nat) : ∀ b, b ≤ S.length → S.length - b = d →
    EvTo (fun k => lockstepref09_All_l12 k t1 (wG S (xo S S.length)) (S.length : Int) (a : Int) out ((tb S a).set a (rbn S.length (fun z => decide (z < b) && ov S a z))) (b : Int)) (out, tb S (a + 1), t1, wG S (xo S S.length)) := by
  induction d with
  | zero =>
    intro b hb hd
    obtain rfl : b = S.length := by omega
    refine EvTo.succ ?_; simp only [lockstepref09_All_l12]
    refine EvTo.ifn (by rw [decide_eq_true_eq]; omega) (EvTo.pure' ?_)
    have e : rbn S.length (fun z => decide (z < S.length) && ov S a z) = rbn S.length (ov S a) := by
      unfold rbn
      refine List.map_congr_left (fun z hz => ?_)
      rw [decide_eq_true (List.mem_range.mp hz), Bool.true_and]
    rw [e, tb_succ]
  | succ d ih =>
    intro b hb hd
    have hbl : b < S.length := by omega
    have hn1 := ih (b + 1) (by omega) (by omega)
    have hX := gr_wx h hn (xo S S.length)
    refine EvTo.succ ?_; simp only [lockstepref09_All_l12]
    have e0 : ((tb S a).set a (rbn S.length (fun z => decide (z < b) && ov S a z))).getD ((a : Int).toNat) [] = rbn S.length (fun z => decide (z < b) && ov S a z) := by
      rw [Int.toNat_natCast, List.getD_eq_getElem?_getD, List.getElem?_set_self (by rw [tb_length]; exact ha)]; rfl
    rw [List.length_set, tb_length, e0, wrapS hbl (by omega)]
    refine EvTo.ifp (decide_eq_true (by omega)) (EvTo.ifp (by omega) (EvTo.bind (reach_ok hX (up2 (pr (wX S))) (a : Int) b (by rw [wx_length]; omega)) ?_))
    rw [rbn_length, rbn_length, wx_length, Int.toNat_natCast, Int.toNat_natCast, Int.toNat_natCast, rd_rbn _ _ (by omega), List.set_set, set_rbnv]
    refine EvTo.ifp (by omega) (EvTo.ifp (by omega) ?_)
    have e2 : (fun z => if z = b then !rchb (wX S) (a : Int) b S.length else decide (z < b) && ov S a z) = fun z => decide (z < b + 1) && ov S a z := by
      funext z
      by_cases hz : z = b
      · subst hz; rw [if_pos rfl, decide_eq_true (by omega), Bool.true_and]; rfl
      · rw [if_neg hz, show decide (z < b + 1) = decide (z < b) from decide_eq_decide.mpr (by omega)]
    rw [e2]
    exact hn1
theorem rall_l8 {S : List (List Nat)} (h : Gr S) (hn : S.length < 64) (t1 : L_api_Graph) (out : List PrD.Dep) (d : Nat) : ∀ a, a ≤ S.length → S.length - a = d →
    EvTo (fun k => lockstepref09_All_l8 k t1 (wG S (xo S S.length)) (S.length : Int) out (tb S a) (a : Int)) (out, tb S S.length, t1, wG S (xo S S.length)) := by
  induction d with
  | zero =>
    intro a ha hd
    obtain rfl : a = S.length := by omega
    refine EvTo.succ ?_; simp only [lockstepref09_All_l8]
    exact EvTo.ifn (by rw [decide_eq_true_eq]; omega) EvTo.pure
  | succ d ih =>
    intro a ha hd
    have hal : a < S.length := by omega
    have hn1 := ih (a + 1) (by omega) (by omega)
    have h1 := rall_l12 h hn t1 out a hal S.length 0 (Nat.zero_le _) rfl
    refine EvTo.succ ?_; simp only [lockstepref09_All_l8]
    rw [tb_length, Int.toNat_natCast, Int.toNat_natCast, wrapS hal (by omega)]
    have e : List.replicate S.length false = rbn S.length (fun z => decide (z < 0) && ov S a z) := by
      apply List.ext_getElem
      · simp
      · intro j h1 h2; simp [rbn]
    rw [e]
    exact EvTo.ifp (decide_eq_true (by omega)) (EvTo.ifp (by omega) (EvTo.ifp (by omega) (EvTo.bind h1 hn1)))
/-- does a block hang on another one by one of its ways on? -/
noncomputable def cnd (S : List (List Nat)) (k a b : Nat) : Bool := decide (1 < ((wx S (xo S S.length)).getD a []).length) && (decide (b ∈ S.getD a []) && (ov S k b && (decide (k = a) || !ov S k a)))
noncomputable def rl1 (S : List (List Nat)) (k a n : Nat) : List PrD.Dep := ((List.range n).filter (cnd S k a)).map (dp k a)
noncomputable def rl2 (S : List (List Nat)) (k n : Nat) : List PrD.Dep := (List.range n).flatMap fun a => rl1 S k a S.length
noncomputable def rl3 (S : List (List Nat)) (n : Nat) : List PrD.Dep := (List.range n).flatMap fun k => rl2 S k S.length
theorem rl1_len (S : List (List Nat)) (k a n : Nat) : (rl1 S k a n).length ≤ n := by
  unfold rl1
  rw [List.length_map]
  exact Nat.le_trans (List.length_filter_le _ _) (by simp)
theorem rl2_succ (S : List (List Nat)) (k n : Nat) : rl2 S k (n + 1) = rl2 S k n ++ rl1 S k n S.length := by
  unfold rl2; rw [List.range_succ, List.flatMap_append]; simp
theorem rl3_succ (S : List (List Nat)) (n : Nat) : rl3 S (n + 1) = rl3 S n ++ rl2 S n S.length := by
  unfold rl3; rw [List.range_succ, List.flatMap_append]; simp
theorem rl2_len (S : List (List Nat)) (k : Nat) : ∀ n, (rl2 S k n).length ≤ S.length * n
  | 0 => by simp [rl2]
  | n + 1 => by
    have := rl2_len S k n
    have h2 := rl1_len S k n S.length
    rw [rl2_succ, List.length_append, Nat.mul_add, Nat.mul_one]; omega
theorem rl3_len (S : List (List Nat)) : ∀ n, (rl3 S n).length ≤ S.length * S.length * n
  | 0 => by simp [rl3]
  | n + 1 => by
    have := rl3_len S n
    have h2 := rl2_len S n S.length
    rw [rl3_succ, List.length_append, Nat.mul_add, Nat.mul_one]; omega
theorem rl1_succ (S : List (List Nat)) (k a b : Nat) : rl1 S k a (b + 1) = rl1 S k a b ++ (if cnd S k a b = true then [dp k a b] else []) := by
  unfold rl1
  rw [List.range_succ, List.filter_append, List.map_append]
  cases e : cnd S k a b with
  | true => rw [List.filter_cons_of_pos e]; rfl
  | false => rw [List.filter_cons_of_neg (by rw [e]; decide)]; rfl
theorem rall_l22 {S : List (List Nat)} (h : Gr S) (hn : S.length < 64) (k a : Nat) (hk : k < S.length) (ha : a < S.length) (out : List PrD.Dep) (hout : out.length ≤ 1000000) (d : Nat) : ∀ b, b ≤ S.length → S.length - b = d →
    EvTo (fun q => lockstepref09_All_l22 q (ordG S (up2 (pr S))) (wG S (xo S S.length)) (S.length : Int) (k : Int) (a : Int) (out ++ rl1 S k a b) (tb S S.length) (b : Int)) (out ++ rl1 S k a S.length, tb S S.length, ordG S (up2 (pr S)), wG S (xo S S.length)) := by
  have hux : (ordG S (up2 (pr S))).1.length = S.length := up2_length S
  have hxx : (wG S (xo S S.length)).1.length = S.length + 1 := by rw [up2_length, wx_length]
  have hrl := gr_len h ha
  induction d with
  | zero =>
    intro b hb hd
    obtain rfl : b = S.length := by omega
    refine EvTo.succ ?_; simp only [lockstepref09_All_l22]
    exact EvTo.ifn (by rw [decide_eq_true_eq]; omega) EvTo.pure
  | succ d ih =>
    intro b hb hd
    have hbl : b < S.length := by omega
    have hn1 := ih (b + 1) (by omega) (by omega)
    have hl1 := rl1_len S k a b
    by_cases hlen : 1 < ((wx S (xo S S.length)).getD a []).length
    · rw [rl1_succ, ← List.append_assoc] at hn1
      refine EvTo.succ ?_; simp only [lockstepref09_All_l22]
      rw [Int.toNat_natCast, Int.toNat_natCast, Int.toNat_natCast]
      simp only [set_self]
      rw [hux, hxx, getD_up2, getD_up2, up_length, tb_length, tb_get S hk, rbn_length, rd_rbn _ _ hbl, rd_rbn _ _ ha, wrapS hbl (by omega)]
      refine EvTo.ifp (decide_eq_true (by omega)) (EvTo.ifp (by omega) (EvTo.ifp (decide_eq_true (by omega)) (EvTo.ifp (by omega) (EvTo.bind (has_up (S.getD a []) b (by rw [reach_big]; omega)) ?_))))
      have hpl : (out ++ rl1 S k a b ++ [((k : Int), (a : Int), (b : Int), ())]).length ≤ Ev.most := by rw [List.length_append, List.length_append, List.length_singleton, most_eq]; omega
      by_cases e1 : b ∈ S.getD a []
      · refine EvTo.ifp (decide_eq_true e1) (EvTo.ifp (by omega) (EvTo.ifp (by omega) ?_))
        cases e2 : ov S k b with
        | false =>
          rw [if_neg (by unfold cnd; rw [e2]; simp), List.append_nil] at hn1
          exact EvTo.ifn (by decide) hn1
        | true =>
          refine EvTo.ifp rfl ?_
          by_cases e3 : k = a
          · rw [if_pos (by unfold cnd; rw [e2, decide_eq_true e1, decide_eq_true hlen, decide_eq_true e3]; rfl)] at hn1
            exact EvTo.ifn (by rw [e3]; simp) (EvTo.ifp hpl hn1)
          · refine EvTo.ifp (by rw [beq_eq_false_iff_ne]; omega) (EvTo.ifp (by omega) (EvTo.ifp (by omega) ?_))
            cases e4 : ov S k a with
            | true =>
              rw [if_neg (by unfold cnd; rw [e2, e4, decide_eq_false e3]; simp), List.append_nil] at hn1
              exact EvTo.ifn (by decide) hn1
            | false =>
              rw [if_pos (by unfold cnd; rw [e2, e4, decide_eq_true e1, decide_eq_true hlen]; simp)] at hn1
              exact EvTo.ifp (by decide) (EvTo.ifp hpl hn1)
      · rw [if_neg (by unfold cnd; rw [decide_eq_false e1]; simp), List.append_nil] at hn1
        exact EvTo.ifn (by rw [decide_eq_true_eq]; exact e1) hn1
    · have hnil : ∀ m, rl1 S k a m = [] := fun m => by
        unfold rl1
        rw [List.filter_eq_nil_iff.mpr (fun z _ => by unfold cnd; rw [decide_eq_false hlen]; simp)]; rfl
      rw [hnil, hnil]
      refine EvTo.succ ?_; simp only [lockstepref09_All_l22]
      rw [Int.toNat_natCast, hxx, getD_up2, up_length]
      exact EvTo.ifp (decide_eq_true (by omega)) (EvTo.ifp (by omega) (EvTo.ifn (by rw [decide_eq_true_eq]; omega) EvTo.pure))
theorem rall_l19 {S : List (List Nat)} (h : Gr S) (hn : S.length < 64) (k : Nat) (hk : k < S.length) (out : List PrD.Dep) (hout : out.length ≤ 500000) (d : Nat) : ∀ a, a ≤ S.length → S.length - a = d →
    EvTo (fun q => lockstepref09_All_l19 q (ordG S (up2 (pr S))) (wG S (xo S S.length)) (S.length : Int) (k : Int) (out ++ rl2 S k a) (tb S S.length) (a : Int)) (out ++ rl2 S k S.length, tb S S.length, ordG S (up2 (pr S)), wG S (xo S S.length)) := by
  induction d with
  | zero =>
    intro a ha hd
    obtain rfl : a = S.length := by omega
    refine EvTo.succ ?_; simp only [lockstepref09_All_l19]
    exact EvTo.ifn (by rw [decide_eq_true_eq]; omega) EvTo.pure
  | succ d ih =>
    intro a ha hd
    have hal : a < S.length := by omega
    have hn1 := ih (a + 1) (by omega) (by omega)
    rw [rl2_succ, ← List.append_assoc] at hn1
    have hl := rl2_len S k a
    have hm : S.length * a ≤ 64 * 64 := Nat.mul_le_mul (by omega) (by omega)
    have h1 := rall_l22 h hn k a hk hal (out ++ rl2 S k a) (by rw [List.length_append]; omega) S.length 0 (Nat.zero_le _) rfl
    rw [show rl1 S k a 0 = [] by simp [rl1], List.append_nil] at h1
    refine EvTo.succ ?_; simp only [lockstepref09_All_l19]
    rw [wrapS hal (by omega)]
    exact EvTo.ifp (decide_eq_true (by omega)) (EvTo.bind h1 hn1)
theorem rall_l16 {S : List (List Nat)} (h : Gr S) (hn : S.length < 64) (d : Nat) : ∀ k, k ≤ S.length → S.length - k = d →
    EvTo (fun q => lockstepref09_All_l16 q (ordG S (up2 (pr S))) (wG S (xo S S.length)) (S.length : Int) (rl3 S k) (tb S S.length) (k : Int)) (rl3 S S.length, ordG S (up2 (pr S)), wG S (xo S S.length)) := by
  induction d with
  | zero =>
    intro a ha hd
    obtain rfl : a = S.length := by omega
    refine EvTo.succ ?_; simp only [lockstepref09_All_l16]
    exact EvTo.ifn (by rw [decide_eq_true_eq]; omega) EvTo.pure
  | succ d ih =>
    intro k hk hd
    have hkl : k < S.length := by omega
    have hn1 := ih (k + 1) (by omega) (by omega)
    rw [rl3_succ] at hn1
    have hl := rl3_len S k
    have hm : S.length * S.length * k ≤ 64 * 64 * 64 := Nat.mul_le_mul (Nat.mul_le_mul (by omega) (by omega)) (by omega)
    have h1 := rall_l19 h hn k hkl (rl3 S k) (by omega) S.length 0 (Nat.zero_le _) rfl
    rw [show rl2 S k 0 = [] by simp [rl2], List.append_nil] at h1
    refine EvTo.succ ?_; simp only [lockstepref09_All_l16]
    rw [wrapS hkl (by omega)]
    exact EvTo.ifp (decide_eq_true (by omega)) (EvTo.bind h1 hn1)
theorem rall_ok {S : List (List Nat)} (h : Gr S) (hn : S.length < 64) : EvTo (fun k => lockstepref09_All k (ordG S (up2 (pr S)))) (rl3 S S.length) := by
  have el : ((ordG S (up2 (pr S))).1.length : Int) = (S.length : Int) := by rw [up2_length]
  unfold lockstepref09_All
  simp only [el]
  have h8 := rall_l8 h hn (ordG S (up2 (pr S))) [] S.length 0 (Nat.zero_le _) rfl
  rw [← tb_zero] at h8
  refine EvTo.bind (rexit_ok h hn) (EvTo.ifn (by show ¬ (((0 : Int) != 0) = true); decide) (EvTo.ifp (by omega) (EvTo.bind (by rw [Int.toNat_natCast]; exact h8) (EvTo.bind (a := (rl3 S S.length, ordG S (up2 (pr S)), wG S (xo S S.length))) ?_ EvTo.pure))))
  have h16 := rall_l16 h hn S.length 0 (Nat.zero_le _) rfl
  rw [show rl3 S 0 = [] by simp [rl3]] at h16
  exact h16
theorem rall_no {g : L_api_Graph} (h : EvTo (fun k => lockstepref08_Exit k g) (([], [], ()), 5)) : EvTo (fun k => lockstepref09_All k g) [] := by
  unfold lockstepref09_All
  exact EvTo.bind h (EvTo.ifp (by show ((5 : Int) != 0) = true; decide) EvTo.pure)
end Go.PrS
