/- DepAll, the plain law: of any graph what its blocks hang on, and each one's frontier, is what the document says. No conditions beyond each theorem's own. -/
import Derived.Test.YtmbkpnhmeljcgaaGal
import Derived.Test.YtmbkpnhmeljcgaaGfr
set_option linter.unusedVariables false
set_option linter.unusedSimpArgs false
namespace Go.PrS
open Go Go.Ev Go.Proofs
section
variable {S : List (List Nat)}
theorem mem_ld {x b n : Nat} : ld S x b n = true ↔ ∃ a, a < n ∧ b ∈ S.getD a [] ∧ Dm S 0 x a := by
  unfold ld
  simp only [List.any_eq_true, List.mem_range, Bool.and_eq_true, decide_eq_true_eq, dmb_true]
theorem fro_same (hG : Gr S) {x : Nat} : up ((List.range S.length).filter (inF S x)) = fro S x := by
  refine int_ext ?_ (fro_pw x) (fun y => ?_)
  · unfold up
    rw [List.pairwise_map]
    exact (List.pairwise_lt_range.filter _).imp fun {a b} h => by omega
  · rw [fro_mem hG]
    unfold up
    simp only [List.mem_map, List.mem_filter, List.mem_range]
    constructor
    · rintro ⟨b, ⟨hb, hi⟩, rfl⟩
      unfold inF at hi
      rw [Bool.and_eq_true, mem_ld, Bool.or_eq_true, decide_eq_true_eq, Bool.not_eq_true', ← Bool.not_eq_true, dmb_true] at hi
      obtain ⟨⟨a, _, h1, h2⟩, h3⟩ := hi
      exact ⟨b, rfl, a, h2, h1, h3⟩
    · rintro ⟨b, rfl, a, h1, h2, h3⟩
      have ha := h1.1.lt hG hG.pos
      refine ⟨b, ⟨(hG.row a ha).2 b h2, ?_⟩, rfl⟩
      unfold inF
      rw [Bool.and_eq_true, mem_ld, Bool.or_eq_true, decide_eq_true_eq, Bool.not_eq_true', ← Bool.not_eq_true, dmb_true]
      exact ⟨⟨a, ha, h2, h1⟩, h3⟩
theorem fro_len (hG : Gr S) {x : Nat} : (fro S x).length ≤ 64 := by
  rw [← fro_same hG, up_length]
  have := List.length_filter_le (inF S x) (List.range S.length)
  rw [List.length_range] at this
  have := hG.le
  omega
theorem rfront_ok (hG : Gr S) {x : Nat} (hx : x < S.length) : EvTo (fun k => lockstepref09_Frontier k (ordG S (up2 (pr S))) (x : Int)) (fro S x) := by
  have hle := hG.le
  have el : ((ordG S (up2 (pr S))).1.length : Int) = (S.length : Int) := by rw [up2_length]
  unfold lockstepref09_Frontier
  simp only [el]
  refine EvTo.bind (rmay_ok hG _) (EvTo.ifp (by simp) (EvTo.ifp (decide_eq_false (by omega)) (EvTo.ifp (decide_eq_false (by omega)) (EvTo.bind (reach_ok hG (up2 (pr S)) (-1) 0 hG.pos) ?_))))
  rw [rbn_length, Int.toNat_natCast, rd_rbn _ _ hx]
  refine EvTo.ifp (by omega) ?_
  cases e : rchb S (-1) 0 x with
  | false =>
    refine EvTo.ifp (by decide) (EvTo.pure' ?_)
    unfold fro
    rw [if_neg]
    rw [dmb_true]
    intro hd
    rw [rchb_true.mpr (dm_rch hd)] at e
    cases e
  | true =>
    have h5 := rfront_l5 hG (up2 (pr S)) x S.length 0 (Nat.zero_le _) rfl
    rw [show up ((List.range 0).filter (inF S x)) = [] by simp [up], fro_same hG] at h5
    exact EvTo.ifn (by decide) (EvTo.bind h5 EvTo.pure)
theorem rfront_out (hG : Gr S) {x : Int} (hx : x < 0 ∨ (S.length : Int) ≤ x) : EvTo (fun k => lockstepref09_Frontier k (ordG S (up2 (pr S))) x) [] := by
  have el : ((ordG S (up2 (pr S))).1.length : Int) = (S.length : Int) := by rw [up2_length]
  unfold lockstepref09_Frontier
  simp only [el]
  refine EvTo.bind (rmay_ok hG _) (EvTo.ifp (by simp) ?_)
  by_cases h : x < 0
  · exact EvTo.ifn (by rw [decide_eq_true h]; decide) EvTo.pure
  · exact EvTo.ifp (decide_eq_false h) (EvTo.ifn (by rw [decide_eq_true (by omega)]; decide) EvTo.pure)
end
theorem rfront_no {g : L_api_Graph} {x : Int} (h : EvTo (fun k => lockstepref06_May k g) false) : EvTo (fun k => lockstepref09_Frontier k g x) [] := by
  unfold lockstepref09_Frontier
  exact EvTo.bind h (EvTo.ifn (by decide) EvTo.pure)
/-- both sides say the same -/
def Both (g : L_api_Graph) (x : Int) : Prop := ∃ L F, EvTo (fun k => dep_All k g) L ∧ EvTo (fun k => lockstepref09_All k g) L ∧ L.length ≤ 1000000 ∧ EvTo (fun k => dep_Frontier k g x) F ∧ EvTo (fun k => lockstepref09_Frontier k g x) F ∧ F.length ≤ 64
theorem both_made {S : List (List Nat)} (hG : Gr S) (hn : S.length < 64) (x : Int) : Both (ordG S (up2 (pr S))) x := by
  have hl := rl3_len S S.length
  have hm : S.length * S.length * S.length ≤ 64 * 64 * 64 := Nat.mul_le_mul (Nat.mul_le_mul (by omega) (by omega)) (by omega)
  by_cases hx : x < 0 ∨ (S.length : Int) ≤ x
  · exact ⟨_, [], all_both hG hn, rall_ok hG hn, by omega, front_out hG hx, rfront_out hG hx, by simp⟩
  · obtain ⟨y, rfl⟩ : ∃ y : Nat, x = (y : Int) := ⟨x.toNat, by omega⟩
    exact ⟨_, _, all_both hG hn, rall_ok hG hn, by omega, front_ok hG (x := y) (by omega), rfront_ok hG (by omega), fro_len hG⟩
theorem both_no {s p : List (List Int)} {x : Int} (h1 : EvTo (fun k => graph_May k (s, p, ())) false) (h2 : EvTo (fun k => lockstepref06_May k (s, p, ())) false) : Both (s, p, ()) x :=
  ⟨[], [], all_no (exit_no h1), rall_no (rexit_no h2), by simp, front_no (tree_no (order_no 0 h1)), rfront_no h2, by simp⟩
theorem both_any {s p : List (List Int)} (hl : s.length ≤ 16) (hr : ∀ l ∈ s, l.length ≤ 100) (x : Int) : Both (s, p, ()) x := by
  have hb := reach_big
  have hr' : ∀ l ∈ s, l.length ≤ reachBytes := fun l h => by have := hr l h; omega
  cases hg : goodb s with
  | false => exact both_no (may_bad (by omega) hr' hg p) (rmay_bad hr' hg p)
  | true =>
    obtain ⟨S, hG, rfl⟩ := good_gr hg
    rw [up2_length] at hl
    by_cases hp : up2 (pr S) = p
    · subst hp
      exact both_made hG (by omega) x
    · exact both_no ((may_ok hG p).to (decide_eq_false hp)) ((rmay_ok hG p).to (decide_eq_false hp))
theorem awake_ok : EvTo (fun k => locksteplaw09_awake k) true := EvTo.from 60 (fun n => by kernel_rfl)
theorem depAll_pure (succ pred : List (List Int)) (x : Int) (hs : OkD (.list (.list (.int .i64))) succ) (hp : OkD (.list (.list (.int .i64))) pred) (hx : OkD (.int .i64) x) : ∃ n, locksteplaw09_DepAll n succ pred x = some true := by
  refine EvTo.at ?_
  have hb := reach_big
  unfold locksteplaw09_DepAll
  refine EvTo.bind awake_ok (EvTo.ifn (by decide) ?_)
  by_cases h1 : (succ.length : Int) > 16
  · exact EvTo.ifn (by rw [decide_eq_true h1]; decide) EvTo.pure
  refine EvTo.ifp (decide_eq_false h1) ?_
  obtain ⟨b1, e1, f1⟩ := small_ev succ (by omega)
  refine EvTo.bind e1 ?_
  cases b1 with
  | false => exact EvTo.ifn (by decide) EvTo.pure
  | true =>
    refine EvTo.ifp rfl ?_
    obtain ⟨b2, e2, f2⟩ := small_ev pred hp.1
    refine EvTo.bind e2 ?_
    cases b2 with
    | false => exact EvTo.ifp rfl EvTo.pure
    | true =>
      obtain ⟨g1, g2⟩ := f1 rfl
      have hl : succ.length ≤ 16 := by omega
      refine EvTo.ifn (by decide) ?_
      obtain ⟨L, F, k1, k2, k3, k4, k5, k6⟩ := both_any (p := pred) hl g2 x
      refine EvTo.bind k1 (EvTo.bind k2 (EvTo.bind (dsame_ok (by omega)) (EvTo.ifp (by simp) (EvTo.bind k4 (EvTo.bind k5 (EvTo.bind (ints_ok (by omega)) (EvTo.ifn (by simp) ?_)))))))
      have hr' : ∀ l ∈ succ, l.length ≤ reachBytes := fun l h => by have := g2 l h; omega
      cases hg : goodb succ with
      | false => exact EvTo.bind (make_bad (by omega) hr' hg) (EvTo.ifp (by show ((5 : Int) != 0) = true; decide) EvTo.pure)
      | true =>
        obtain ⟨S, hG, rfl⟩ := good_gr hg
        rw [up2_length] at hl
        obtain ⟨L, F, k1, k2, k3, k4, k5, k6⟩ := both_made hG (by omega) x
        have ho := own_l k3 x (ordG S (up2 (pr S))) L.length 0 (Nat.zero_le _) rfl
        rw [show onOne x (L.take 0) = [] by simp [onOne]] at ho
        have hfl := List.length_filter_le (fun d : PrD.Dep => d.1 == x) L
        refine EvTo.bind (make_ok hG) (EvTo.ifn (by show ¬ (((0 : Int) != 0) = true); decide) (EvTo.bind k2 (EvTo.bind ho (EvTo.bind k1 (EvTo.bind (dsame_ok (by omega)) (EvTo.ifp (by simp) (EvTo.bind (of_ok k3 x k1) (EvTo.bind (dsame_ok (by unfold onOne; omega)) (EvTo.ifp (by simp) (EvTo.bind k4 (EvTo.bind k5 (EvTo.bind ((ints_ok (by omega)).to (by simp)) EvTo.pure))))))))))))
end Go.PrS
