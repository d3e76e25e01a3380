/- GraphLine, the plain law: of blocks that go on one at the next the order is they, one by one, from any on; round it is so, too. No conditions. -/
import Derived.Test.YtokfaaemhniodaaGSame
import Derived.Test.YtokfaaemhniodaaGReach
import Derived.Test.YtokfaaemhniodaaGRef
import Derived.Test.YtokfaaemhniodaaGLine
import Derived.Test.YtokfaaemhniodaaGx19
namespace Go.Proofs.Ytokfaaemhniodaa.GP
open Go.RowKit Go.Proofs.Ytokfaaemhniodaa.G Go.Proofs.YtokfaaemhniodaaW.PrintWords Go.Proofs.YtokfaaemhniodaaH

/-- The first i of what is wanted. -/
def wantl (K r : Nat) (b : Bool) (i : Nat) : List Nat := (List.range (if b then i else min i (K - r))).map fun j => (r + j) % K
theorem wantl_len (K r : Nat) (b : Bool) (i : Nat) : (wantl K r b i).length ≤ i := by
  unfold wantl; rw [List.length_map, List.length_range]; split <;> omega
theorem wantl_succ {K r : Nat} {b : Bool} {i : Nat} (h : b = true ∨ r + i < K) : wantl K r b (i + 1) = wantl K r b i ++ [(r + i) % K] := by
  unfold wantl
  have e : (if b then i + 1 else min (i + 1) (K - r)) = (if b then i else min i (K - r)) + 1 := by
    cases b with
    | true => rfl
    | false => simp at h ⊢; omega
  have e2 : (if b then i else min i (K - r)) = i := by
    cases b with
    | true => rfl
    | false => simp at h ⊢; omega
  rw [e, e2, List.range_succ, List.map_append]; rfl
theorem wantl_stay {K r i : Nat} (h : ¬ r + i < K) : wantl K r false (i + 1) = wantl K r false i := by
  unfold wantl
  have : min (i + 1) (K - r) = min i (K - r) := by omega
  simp only [Bool.false_eq_true, if_false, this]
theorem wantl_end {K r : Nat} (b : Bool) (hr : r < K) : dfs (line K b) r = wantl K r b K := by
  unfold wantl
  cases b with
  | true => exact line_dfs_round hr
  | false =>
    have : min K (K - r) = K - r := by omega
    rw [line_dfs hr]; simp only [Bool.false_eq_true, if_false, this]
theorem gl_l1 {K r : Nat} (b : Bool) (hK : K ≤ 60) (hr : r < K) (d : Nat) : ∀ i, i ≤ K → K - i = d →
    Ev (fun k => locksteplaw06_GraphLine.l1 k b (K : Int) 0 (r : Int) (up (wantl K r b i)) (i : Int) (up2 (line K b)) (up2 (pr (line K b)))) true := by
  have hg := line_gr b (by omega : 0 < K) (by omega : K ≤ 64)
  have hbb : big = 9223372036854775807 := rfl
  induction d with
  | zero =>
    intro i hi hd
    obtain rfl : i = K := by omega
    refine Ev.succ ?_; simp only [locksteplaw06_GraphLine.l1]
    refine Ev.ifn (by omega) (Ev.ifp trivial ?_)
    refine Ev.bind (rmay_ok hg _) ?_
    refine Ev.ifp (by simp) ?_
    refine Ev.bind (order_ok hg (r := r) (by rw [line_length]; exact hr)) ?_
    have hl := dfs_len hg (r := r) (by rw [line_length]; exact hr)
    rw [line_length] at hl
    refine Ev.bind (ints_ok _ _ (by rw [up_length]; omega)) ?_
    rw [wantl_end b hr]
    exact Ev.pure.of_eq (by simp)
  | succ d ih =>
    intro i hi hd
    have hl := wantl_len K r b i
    have hm : ((r + i : Nat) : Int).tmod (K : Int) = (((r + i) % K : Nat) : Int) := by rw [Int.ofNat_tmod]
    have hw : wrap64 ((r : Int) + (i : Int)) = ((r + i : Nat) : Int) := by rw [wrap_id (by omega) (by omega)]; omega
    have ha : b = true ∨ r + i < K → up (wantl K r b i) ++ [(((r + i) % K : Nat) : Int)] = up (wantl K r b (i + 1)) := fun h => by rw [wantl_succ h, up_append]; rfl
    have hn := ih (i + 1) (by omega) (by omega)
    refine Ev.succ ?_; simp only [locksteplaw06_GraphLine.l1]
    rw [hw, hm, wrap_nat (by omega)]
    refine Ev.ifp (by omega) ?_
    cases b with
    | true =>
      refine Ev.ifp rfl (Ev.ifn (by omega) (Ev.ifp (by rw [up_length]; omega) ?_))
      rw [ha (.inl rfl)]; exact hn
    | false =>
      refine Ev.ifn (by decide) ?_
      by_cases hc : r + i < K
      · refine Ev.ifp (by omega) (Ev.ifn (by omega) (Ev.ifp (by rw [up_length]; omega) ?_))
        rw [ha (.inr hc)]; exact hn
      · refine Ev.ifn (by omega) ?_
        rw [← wantl_stay hc]; exact hn
theorem gl_j1 {K m : Nat} (b : Bool) (h0 : 0 < K) (hK : K ≤ 60) (hm : m < 256) : Ev (fun k => locksteplaw06_GraphLine.j1 k (m : Int) b (K : Int) (up2 (line K b))) true := by
  refine Ev.succ ?_; simp only [locksteplaw06_GraphLine.j1]
  refine Ev.bind (make_ok (line_gr b h0 (by omega))) (Ev.ifn (by omega) ?_)
  have e : Int.tmod (wrap64 (m : Int)) (K : Int) = ((m % K : Nat) : Int) := by rw [wrap_id (by omega) (by omega), Int.ofNat_tmod]
  rw [e]
  have h := gl_l1 b hK (Nat.mod_lt m h0) K 0 (by omega) (by omega)
  have e0 : wantl K (m % K) b 0 = [] := by
    unfold wantl; cases b <;> simp
  rw [e0] at h; exact h
theorem set_map_range2 {α : Type} (n : Nat) (f g : Nat → α) (i : Nat) (v : α) (hv : g i = v) (he : ∀ j, j < n → j ≠ i → g j = f j) : ((List.range n).map f).set i v = (List.range n).map g := by
  apply List.ext_getElem
  · simp
  · intro j h1 h2
    have hj : j < n := by simpa using h2
    simp only [List.getElem_set, List.getElem_map, List.getElem_range]
    split
    · next e => rw [← e, hv]
    · next e => rw [he j hj (fun h => e h.symm)]
/-- The first i blocks told. -/
def lineI (K i : Nat) : List (List Int) := (List.range K).map fun j => if j < i then [((j + 1 : Nat) : Int)] else []
theorem gl_l0 {K m : Nat} (b : Bool) (h0 : 0 < K) (hK : K ≤ 60) (hm : m < 256) (d : Nat) : ∀ i, i < K → K - 1 - i = d → Ev (fun k => locksteplaw06_GraphLine.l0 k (m : Int) b (K : Int) (lineI K i) (i : Int)) true := by
  induction d with
  | zero =>
    intro i hi hd
    obtain rfl : K = i + 1 := by omega
    refine Ev.succ ?_; simp only [locksteplaw06_GraphLine.l0]
    rw [wrap_nat (by omega)]
    refine Ev.ifn (by omega) ?_
    have hj := gl_j1 b h0 hK hm
    cases b with
    | true =>
      have ew : wrap64 (((i + 1 : Nat) : Int) - 1) = (i : Int) := by rw [wrap_id (by omega) (by omega)]; omega
      rw [ew]
      refine Ev.ifp rfl (Ev.ifp (by omega) (Ev.ifp (by simp [lineI]; omega) ?_))
      have e : (lineI (i + 1) i).set (i : Int).toNat [(0 : Int)] = up2 (line (i + 1) true) := by
        unfold lineI line up2
        rw [Int.toNat_natCast, List.map_map]
        apply set_map_range2
        · simp [up]
        · intro j hj hne
          show up (if j + 1 < i + 1 then [j + 1] else [0]) = if j < i then [((j + 1 : Nat) : Int)] else []
          rw [if_pos (show j + 1 < i + 1 by omega), if_pos (show j < i by omega)]; rfl
      rw [e]; exact hj
    | false =>
      refine Ev.ifn (by decide) ?_
      have e : lineI (i + 1) i = up2 (line (i + 1) false) := by
        unfold lineI line up2
        rw [List.map_map]
        apply List.map_congr_left
        intro j hj
        have hj := List.mem_range.mp hj
        show (if j < i then [((j + 1 : Nat) : Int)] else []) = up (if j + 1 < i + 1 then [j + 1] else [])
        by_cases h : j < i
        · rw [if_pos h, if_pos (show j + 1 < i + 1 by omega)]; rfl
        · rw [if_neg h, if_neg (show ¬ j + 1 < i + 1 by omega)]; rfl
      rw [e]; exact hj
  | succ d ih =>
    intro i hi hd
    refine Ev.succ ?_; simp only [locksteplaw06_GraphLine.l0]
    rw [wrap_nat (by omega)]
    refine Ev.ifp (by omega) (Ev.ifp (by omega) (Ev.ifp (by simp [lineI]; omega) ?_))
    have e : (lineI K i).set (i : Int).toNat [((i + 1 : Nat) : Int)] = lineI K (i + 1) := by
      unfold lineI
      rw [Int.toNat_natCast]
      apply set_map_range
      · simp
      · intro j hj
        by_cases h : j < i
        · rw [if_pos h, if_pos (by omega)]
        · rw [if_neg h, if_neg (by omega)]
    rw [e]
    exact ih (i + 1) (by omega) (by omega)
theorem graphLine : locksteplaw06_GraphLine.Pure := by
  intro a0 a1 b h0 h1
  apply Ev.at
  obtain ⟨n, rfl⟩ : ∃ n : Nat, a0 = (n : Int) := ⟨a0.toNat, by simp [Lit.wf, IntKind.min, IntKind.max, IntKind.signed, IntKind.bits] at h0; omega⟩
  obtain ⟨m, rfl⟩ : ∃ m : Nat, a1 = (m : Int) := ⟨a1.toNat, by simp [Lit.wf, IntKind.min, IntKind.max, IntKind.signed, IntKind.bits] at h1; omega⟩
  have hn : n < 256 := by simp [Lit.wf, IntKind.min, IntKind.max, IntKind.signed, IntKind.bits] at h0; omega
  have hm : m < 256 := by simp [Lit.wf, IntKind.min, IntKind.max, IntKind.signed, IntKind.bits] at h1; omega
  have e : wrap64 (1 + Int.tmod (wrap64 (n : Int)) 60) = ((1 + n % 60 : Nat) : Int) := by
    rw [show wrap64 (n : Int) = (n : Int) from wrap_id (by omega) (by omega), show (60 : Int) = ((60 : Nat) : Int) from rfl, ← Int.ofNat_tmod, wrap_id (by omega) (by omega)]; omega
  unfold locksteplaw06_GraphLine.f
  refine Ev.bind awake_ev (Ev.ifp rfl ?_)
  rw [e]
  have hK : 1 + n % 60 ≤ 60 := by omega
  have hK0 : 0 < 1 + n % 60 := by omega
  generalize 1 + n % 60 = K at hK hK0
  refine Ev.ifp (by omega) (Ev.ifp (by omega) ?_)
  have h := gl_l0 b hK0 hK hm (K - 1) 0 hK0 (by omega)
  have e0 : lineI K 0 = List.replicate K [] := by
    unfold lineI; simp only [Nat.not_lt_zero, if_false]; apply List.ext_getElem <;> simp
  rw [e0] at h
  rw [Int.toNat_natCast]; exact h
end Go.Proofs.Ytokfaaemhniodaa.GP
namespace Go.Proofs.Ytokfaaemhniodaa.Pure
theorem GraphLine : Go.Proofs.Ytokfaaemhniodaa.G.locksteplaw06_GraphLine.Pure := GP.graphLine
end Go.Proofs.Ytokfaaemhniodaa.Pure
