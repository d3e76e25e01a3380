/- Plain laws of pdom.ends, pdom.back and pdom.missing: who goes on nowhere, who reaches some, who isn't marked. No conditions beyond each theorem's own. -/
import Derived.Test.YtmbkpnhmeljcgaaGo
set_option linter.unusedVariables false
set_option linter.unusedSimpArgs false
namespace Go.PrS
open Go Go.Ev Go.Proofs
/-! #### ways, the other way about -/
theorem Rch.ne {S : List (List Nat)} {w : Int} {r x : Nat} (h : Rch S w r x) : (x : Int) ≠ w := by cases h <;> assumption
theorem Rch.ne0 {S : List (List Nat)} {w : Int} {r x : Nat} (h : Rch S w r x) : (r : Int) ≠ w := by
  induction h with
  | base h => exact h
  | step _ _ _ ih => exact ih
theorem getD_lt {S : List (List Nat)} {a y : Nat} (h : y ∈ S.getD a []) : a < S.length := by
  by_cases h1 : a < S.length
  · exact h1
  · rw [List.getD_eq_getElem?_getD, List.getElem?_eq_none (by omega)] at h; simp at h
theorem Rch.dual {S : List (List Nat)} (hG : Gr S) {w : Int} {a b : Nat} (h : Rch S w a b) : Rch (pr S) w b a := by
  induction h with
  | base h => exact .base h
  | @step c y hc hy hw ih =>
    have hcl := getD_lt hy
    have hyl := (hG.row c hcl).2 y hy
    exact Rch.trans (.step (.base hw) ((mem_pr hyl).mpr ⟨hcl, hy⟩) hc.ne) ih
theorem rch_dual {S : List (List Nat)} (hG : Gr S) {w : Int} {a b : Nat} : Rch (pr S) w b a ↔ Rch S w a b :=
  ⟨fun h => by have := h.dual (gr_pr hG); rwa [pr_pr hG] at this, fun h => h.dual hG⟩
theorem Rch.head {S : List (List Nat)} {w : Int} {a y b : Nat} (ha : (a : Int) ≠ w) (hy : y ∈ S.getD a []) (h : Rch S w y b) : Rch S w a b := Rch.trans (.step (.base ha) hy h.ne0) h
theorem Rch.cases_head {S : List (List Nat)} {w : Int} {a b : Nat} (h : Rch S w a b) : a = b ∨ ∃ y ∈ S.getD a [], Rch S w y b := by
  induction h with
  | base _ => exact .inl rfl
  | @step c y _ hy hw ih =>
    rcases ih with rfl | ⟨z, hz, hr⟩
    · exact .inr ⟨y, hy, .base hw⟩
    · exact .inr ⟨z, hz, .step hr hy hw⟩

/-! #### ends -/
def endb (S : List (List Nat)) : Sn := fun i => decide (i < S.length) && (S.getD i []).isEmpty
theorem endb_true {S : List (List Nat)} {i : Nat} : endb S i = true ↔ i < S.length ∧ S.getD i [] = [] := by simp [endb]
theorem set_rbv (s : Sn) (y : Nat) (v : Bool) : (rb s).set y v = rb (fun z => if z = y then v else s z) :=
  set_map_range _ _ _ _ _ (by simp) (fun j hj => by simp [hj])
theorem rb_zero (f : Sn) (h : ∀ j, j < 64 → f j = false) : List.replicate 64 false = rb f := by
  apply List.ext_getElem
  · simp [rb]
  · intro j h1 h2
    rw [List.getElem_replicate]
    simp only [rb, List.getElem_map, List.getElem_range]
    exact (h j (by simpa using h1)).symm
theorem ends_l {S : List (List Nat)} (h : Gr S) (z : List Bool) (d : Nat) : ∀ i, i ≤ S.length → S.length - i = d →
    EvTo (fun k => pdom_ends_l3 k z (rb (fun j => decide (j < i) && endb S j)) (up2 S) (S.length : Int) (i : Int)) (z, rb (endb S)) := by
  have hle := h.le
  induction d with
  | zero =>
    intro i hi hd
    refine EvTo.succ ?_; simp only [pdom_ends_l3]
    refine EvTo.ifn (by rw [decide_eq_true_eq]; omega) (EvTo.pure' ?_)
    congr 2; funext j
    by_cases hj : j < i
    · simp [hj]
    · have : endb S j = false := by simp [endb]; omega
      simp [this]
  | succ d ih =>
    intro i hi hd
    have hil : i < S.length := by omega
    refine EvTo.succ ?_; simp only [pdom_ends_l3]
    rw [up2_length, Int.toNat_natCast, getD_up2, up_length, wrapS hil (by omega)]
    refine EvTo.ifp (decide_eq_true (by omega)) (EvTo.ifp (by omega) (EvTo.ifp (by omega) ?_))
    have e : (rb (fun j => decide (j < i) && endb S j)).set i (((S.getD i []).length : Int) == 0) = rb (fun j => decide (j < i + 1) && endb S j) := by
      rw [set_rbv]
      congr 1; funext j
      by_cases hj : j = i
      · subst hj
        rw [if_pos rfl, show decide (j < j + 1) = true by simp, Bool.true_and, endb, show decide (j < S.length) = true by simp; omega, Bool.true_and]
        cases S.getD j [] with
        | nil => rfl
        | cons a l => simp; omega
      · rw [if_neg hj, show decide (j < i + 1) = decide (j < i) from decide_eq_decide.mpr (by omega)]
    rw [e]
    exact ih (i + 1) (by omega) (by omega)
theorem ends_ok {S : List (List Nat)} (h : Gr S) (P : List (List Int)) : EvTo (fun k => pdom_ends k (up2 S, P, ())) (rb (endb S)) := by
  unfold pdom_ends
  have e := rb_zero (fun j => decide (j < 0) && endb S j) (fun j _ => by simp)
  have h1 := ends_l h (List.replicate 64 false) S.length 0 (by omega) (by omega)
  rw [← e] at h1
  refine EvTo.bind (a := (List.replicate 64 false, rb (endb S))) ?_ EvTo.pure
  rw [up2_length]
  exact h1

theorem missing_l {S : List (List Nat)} (h : Gr S) (P : List (List Int)) (m : Sn) (d : Nat) : ∀ i, i ≤ S.length → S.length - i = d → (∀ j, j < i → m j = true) →
    ∃ r : Nat, (r = S.length → EvTo (fun k => pdom_missing_l2 k (ordG S P) (rb m) (S.length : Int) (i : Int)) (.inl (ordG S P, rb m))) ∧ (r < S.length → EvTo (fun k => pdom_missing_l2 k (ordG S P) (rb m) (S.length : Int) (i : Int)) (.inr ((r : Int), ordG S P, rb m))) ∧
      r ≤ S.length ∧ (r < S.length → m r = false ∧ ∀ j, j < r → m j = true) ∧ (r = S.length → ∀ j, j < S.length → m j = true) := by
  have hle := h.le
  induction d with
  | zero =>
    intro i hi hd hm
    refine ⟨S.length, fun _ => EvTo.succ ?_, fun h => by omega, Nat.le_refl _, fun h => by omega, fun _ j hj => hm j (by omega)⟩
    simp only [pdom_missing_l2]
    exact EvTo.ifn (by rw [decide_eq_true_eq]; omega) EvTo.pure
  | succ d ih =>
    intro i hi hd hm
    have hil : i < S.length := by omega
    cases e : m i with
    | true =>
      obtain ⟨r, h0, h1, h2⟩ := ih (i + 1) (by omega) (by omega) (fun j hj => by by_cases e' : j = i; rw [e', e]; exact hm j (by omega))
      have hst : ∀ v, EvTo (fun k => pdom_missing_l2 k (ordG S P) (rb m) (S.length : Int) ((i + 1 : Nat) : Int)) v → EvTo (fun k => pdom_missing_l2 k (ordG S P) (rb m) (S.length : Int) (i : Int)) v := fun v hv => by
        refine EvTo.succ ?_; simp only [pdom_missing_l2]
        rw [Int.toNat_natCast, rd_rb _ (by omega), wrapS hil (by omega)]
        exact EvTo.ifp (decide_eq_true (by omega)) (EvTo.ifp (by omega) (EvTo.ifn (by rw [e]; decide) hv))
      exact ⟨r, fun hr => hst _ (h0 hr), fun hr => hst _ (h1 hr), h2⟩
    | false =>
      refine ⟨i, fun hc => by omega, fun _ => EvTo.succ ?_, by omega, fun _ => ⟨e, hm⟩, fun hc => by omega⟩
      simp only [pdom_missing_l2]
      rw [Int.toNat_natCast, rd_rb _ (by omega)]
      exact EvTo.ifp (decide_eq_true (by omega)) (EvTo.ifp (by omega) (EvTo.ifp (by rw [e]; decide) EvTo.pure))
theorem missing_ok {S : List (List Nat)} (h : Gr S) (P : List (List Int)) (m : Sn) :
    ∃ r : Nat, EvTo (fun k => pdom_missing k (ordG S P) (rb m)) (r : Int) ∧ r ≤ S.length ∧ (r < S.length → m r = false ∧ ∀ j, j < r → m j = true) ∧ (r = S.length → ∀ j, j < S.length → m j = true) := by
  obtain ⟨r, h0, h1, h2, h3⟩ := missing_l h P m S.length 0 (by omega) (by omega) (fun j hj => by omega)
  refine ⟨r, ?_, h2, h3⟩
  unfold pdom_missing
  by_cases hr : r = S.length
  · refine EvTo.bind (a := .inl (ordG S P, rb m)) (by rw [show ((ordG S P).1.length : Int) = (S.length : Int) by rw [up2_length]]; exact h0 hr) ?_
    show EvTo (fun _ => some ((up2 S).length : Int)) _
    rw [hr, up2_length]; exact EvTo.pure
  · exact EvTo.bind (a := .inr ((r : Int), ordG S P, rb m)) (by rw [show ((ordG S P).1.length : Int) = (S.length : Int) by rw [up2_length]]; exact h1 (by omega)) (by show EvTo (fun _ => some (r : Int)) _; exact EvTo.pure)
/-! #### back -/
open Classical in
/-- Who reaches some, the marked ones. -/
noncomputable def bk (S : List (List Nat)) (s : Sn) : Sn := fun x => decide (∃ y, s y = true ∧ Rch S (-1) x y)
theorem bk_true {S : List (List Nat)} {s : Sn} {x : Nat} : bk S s x = true ↔ ∃ y, s y = true ∧ Rch S (-1) x y := by simp [bk]
theorem bk_self {S : List (List Nat)} {s : Sn} {x : Nat} (h : s x = true) : bk S s x = true := bk_true.mpr ⟨x, h, .base (by omega)⟩
theorem bk_lt {S : List (List Nat)} {s : Sn} (hs : ∀ y, s y = true → y < S.length) {x : Nat} (h : bk S s x = true) : x < S.length := by
  obtain ⟨y, h1, h2⟩ := bk_true.mp h
  rcases h2.cases_head with rfl | ⟨z, hz, _⟩
  · exact hs _ h1
  · exact getD_lt hz
/-- What going back through a graph has come to: st are the ones still to be looked at, x the one that is looked at, j of whose forerunners are seen. -/
structure Bk (S : List (List Nat)) (s m : Sn) (st : List Nat) (x j : Nat) : Prop where
  lt : ∀ y, m y = true → y < S.length
  stk : ∀ y ∈ st, m y = true
  sub : ∀ y, s y = true → m y = true
  sound : ∀ y, m y = true → bk S s y = true
  clo : ∀ a, m a = true → a ∉ st → a ≠ x → ∀ p ∈ (pr S).getD a [], m p = true
  at_ : x < S.length → ∀ p ∈ ((pr S).getD x []).take j, m p = true
theorem Bk.all {S : List (List Nat)} {s m : Sn} {j : Nat} (h : Bk S s m [] S.length j) : m = bk S s := by
  funext x
  have hh : m x = true ↔ bk S s x = true := by
    refine ⟨h.sound x, fun hx => ?_⟩
    obtain ⟨y, h1, h2⟩ := bk_true.mp hx
    have hy := h.sub y h1
    clear h1 hx
    induction h2 with
    | base _ => exact hy
    | @step a y _ hya _ ih =>
      have hal := getD_lt hya
      exact ih (h.clo y hy (by simp) (by have := h.lt y hy; omega) a ((mem_pr (h.lt y hy)).mpr ⟨hal, hya⟩))
  cases e : m x with
  | true => exact (hh.mp e).symm
  | false => cases e2 : bk S s x with
    | true => rw [hh.mpr e2] at e; cases e
    | false => rfl
theorem back_l2 {S : List (List Nat)} (hG : Gr S) (s : Sn) (z : List Bool) (x : Nat) (hx : x < S.length) (M : Nat) (d : Nat) :
    ∀ (j : Nat) (m : Sn) (st : List Nat), ((pr S).getD x []).length - j = d → j ≤ ((pr S).getD x []).length → Bk S s m st x j → m x = true → st.length + 2 * cnt S.length m ≤ M → st.length + cnt S.length m ≤ 64 * 64 →
      ∃ m' st', EvTo (fun k => pdom_back_l12 k (ordG S (up2 (pr S))) (rb m) z (up ((pr S).getD x [])) (((pr S).getD x []).length : Int) (up st) (j : Int)) (up st', ordG S (up2 (pr S)), rb m', z) ∧ Bk S s m' st' S.length 0 ∧ st'.length + 2 * cnt S.length m' ≤ M ∧ st'.length + cnt S.length m' ≤ 64 * 64 := by
  have hle := hG.le
  have hrl := gr_len (gr_pr hG) (i := x) (by rw [pr_length]; exact hx)
  induction d with
  | zero =>
    intro j m st hd hj hB hmx hM hC
    refine ⟨m, st, EvTo.succ ?_, ?_, hM, hC⟩
    · simp only [pdom_back_l12]
      exact EvTo.ifn (by rw [decide_eq_true_eq]; omega) EvTo.pure
    refine ⟨hB.lt, hB.stk, hB.sub, hB.sound, fun a ha hs hne => ?_, fun hc => absurd hc (Nat.lt_irrefl _)⟩
    by_cases e : a = x
    · subst e
      have := hB.at_ hx
      rwa [List.take_of_length_le (by omega)] at this
    · exact hB.clo a ha hs e
  | succ d ih =>
    intro j m st hd hj hB hmx hM hC
    have hjl : j < ((pr S).getD x []).length := by omega
    have hmem : ((pr S).getD x []).getD j 0 ∈ (pr S).getD x [] := getD_mem hjl
    obtain ⟨hpl, hpS⟩ := (mem_pr hx).mp hmem
    have htk := take_getD ((pr S).getD x []) j 0 hjl
    have hB2 : m (((pr S).getD x []).getD j 0) = true → Bk S s m st x (j + 1) := fun e => by
      refine ⟨hB.lt, hB.stk, hB.sub, hB.sound, hB.clo, fun _ p hp => ?_⟩
      rw [htk] at hp
      rcases List.mem_append.mp hp with hp | hp
      · exact hB.at_ hx p hp
      · rw [List.mem_singleton.mp hp]; exact e
    cases e : m (((pr S).getD x []).getD j 0) with
    | true =>
      obtain ⟨m', st', h1, h2⟩ := ih (j + 1) m st (by omega) (by omega) (hB2 e) hmx hM hC
      refine ⟨m', st', EvTo.succ ?_, h2⟩
      simp only [pdom_back_l12]
      rw [up_length, Int.toNat_natCast, getD_up, Int.toNat_natCast, wrapS hjl (by omega), rd_rb _ (by omega)]
      exact EvTo.ifp (decide_eq_true (by omega)) (EvTo.ifp (by omega) (EvTo.ifp (by omega) (EvTo.ifn (by rw [e]; decide) h1)))
    | false =>
      have hc := cnt_upd (n := S.length) hpl e
      obtain ⟨m', st', h1, h2⟩ := ih (j + 1) (upd m (((pr S).getD x []).getD j 0)) (st ++ [((pr S).getD x []).getD j 0]) (by omega) (by omega) (by
        refine ⟨fun y hy => ?_, fun y hy => ?_, fun y hy => upd_true.mpr (.inr (hB.sub y hy)), fun y hy => ?_, fun a ha hs hne p hp => ?_, fun _ p hp => ?_⟩
        · rcases upd_true.mp hy with rfl | h
          · exact hpl
          · exact hB.lt y h
        · rcases List.mem_append.mp hy with h | h
          · exact upd_true.mpr (.inr (hB.stk y h))
          · exact upd_true.mpr (.inl (List.mem_singleton.mp h))
        · rcases upd_true.mp hy with rfl | h
          · obtain ⟨z, h1, h2⟩ := bk_true.mp (hB.sound x hmx)
            exact bk_true.mpr ⟨z, h1, Rch.head (by omega) hpS h2⟩
          · exact hB.sound y h
        · rcases upd_true.mp ha with rfl | h
          · exact absurd (List.mem_append.mpr (.inr (List.mem_singleton.mpr rfl))) hs
          · exact upd_true.mpr (.inr (hB.clo a h (fun hc => hs (List.mem_append.mpr (.inl hc))) hne p hp))
        · rw [htk] at hp
          rcases List.mem_append.mp hp with hp | hp
          · exact upd_true.mpr (.inr (hB.at_ hx p hp))
          · exact upd_true.mpr (.inl (List.mem_singleton.mp hp))) (by rw [upd_true]; exact .inr hmx) (by rw [List.length_append, List.length_singleton]; omega) (by rw [List.length_append, List.length_singleton]; omega)
      refine ⟨m', st', EvTo.succ ?_, h2⟩
      simp only [pdom_back_l12]
      rw [up_length, Int.toNat_natCast, getD_up, Int.toNat_natCast, wrapS hjl (by omega), rd_rb _ (by omega), set_rb, ← up_snoc]
      exact EvTo.ifp (decide_eq_true (by omega)) (EvTo.ifp (by omega) (EvTo.ifp (by omega) (EvTo.ifp (by rw [e]; decide) (EvTo.ifp (by omega) (EvTo.ifp (by rw [up_length, List.length_append, List.length_singleton, most_eq]; omega) h1)))))
theorem back_l1 {S : List (List Nat)} (hG : Gr S) (s : Sn) (z : List Bool) (M : Nat) : ∀ (m : Sn) (st : List Nat), Bk S s m st S.length 0 → st.length + 2 * cnt S.length m ≤ M → st.length + cnt S.length m ≤ 64 * 64 →
    EvTo (fun k => pdom_back_l8 k (ordG S (up2 (pr S))) (rb m) z (up st)) (ordG S (up2 (pr S)), rb (bk S s), z) := by
  have hle := hG.le
  induction M with
  | zero =>
    intro m st hB hM _
    have e : st = [] := List.length_eq_zero_iff.mp (by omega)
    subst e
    refine EvTo.succ ?_; simp only [pdom_back_l8]
    exact EvTo.ifn (by simp [up]) (EvTo.pure' (by rw [hB.all]))
  | succ M ih =>
    intro m st hB hM hC
    rcases List.eq_nil_or_concat st with rfl | ⟨st0, x, rfl⟩
    · refine EvTo.succ ?_; simp only [pdom_back_l8]
      exact EvTo.ifn (by simp [up]) (EvTo.pure' (by rw [hB.all]))
    · rw [List.concat_eq_append] at *
      have hl : (st0 ++ [x]).length = st0.length + 1 := by simp
      have hmx := hB.stk x (by simp)
      have hx := hB.lt x hmx
      have e1 : IntKind.wrap .i64 (((up (st0 ++ [x])).length : Int) - 1) = (st0.length : Int) := by rw [up_length, hl, wrap_i64 (by omega) (by omega)]; omega
      rw [hl] at hM hC
      obtain ⟨m', st', h1, h2, h3, h4⟩ := back_l2 hG s z x hx M _ 0 m st0 rfl (by omega) ⟨hB.lt, fun y hy => hB.stk y (List.mem_append.mpr (.inl hy)), hB.sub, hB.sound, fun a ha hs hne => hB.clo a ha (fun hc => by
        rcases List.mem_append.mp hc with h | h
        · exact hs h
        · exact hne (List.mem_singleton.mp h)) (by have := hB.lt a ha; omega), fun _ p hp => by simp at hp⟩ hmx (by omega) (by omega)
      refine EvTo.succ ?_; simp only [pdom_back_l8]
      rw [e1, Int.toNat_natCast, rd_snoc, Int.toNat_natCast, getD_up2, up_length, up_length, hl, up2_length, pr_length, up_snoc, List.take_left' (by simp)]
      refine EvTo.ifp (decide_eq_true (by omega)) (EvTo.ifp (by omega) (EvTo.ifp (by omega) (EvTo.ifp (by omega) (EvTo.bind h1 (ih m' st' h2 h3 h4)))))
theorem back_l0 {S : List (List Nat)} (hG : Gr S) (s : Sn) (z : List Bool) (d : Nat) : ∀ i, i ≤ S.length → S.length - i = d →
    EvTo (fun k => pdom_back_l3 k (ordG S (up2 (pr S))) (rb s) z (S.length : Int) (up ((List.range i).filter s)) (i : Int)) (up ((List.range S.length).filter s), ordG S (up2 (pr S)), rb s, z) := by
  have hle := hG.le
  induction d with
  | zero =>
    intro i hi hd
    have e : i = S.length := by omega
    subst e
    refine EvTo.succ ?_; simp only [pdom_back_l3]
    exact EvTo.ifn (by rw [decide_eq_true_eq]; omega) EvTo.pure
  | succ d ih =>
    intro i hi hd
    have hil : i < S.length := by omega
    have h1 := List.length_filter_le s (List.range i)
    rw [List.length_range] at h1
    refine EvTo.succ ?_; simp only [pdom_back_l3]
    rw [Int.toNat_natCast, rd_rb _ (by omega), wrapS hil (by omega), ← up_snoc]
    refine EvTo.ifp (decide_eq_true (by omega)) (EvTo.ifp (by omega) ?_)
    have h2 := ih (i + 1) (by omega) (by omega)
    rw [List.range_succ, List.filter_append] at h2
    cases e : s i with
    | true =>
      rw [List.filter_cons_of_pos e] at h2
      exact EvTo.ifp rfl (EvTo.ifp (by rw [up_length, List.length_append, List.length_singleton, most_eq]; omega) h2)
    | false =>
      rw [List.filter_cons_of_neg (by simp [e]), List.filter_nil, List.append_nil] at h2
      exact EvTo.ifn (by decide) h2
theorem back_ok {S : List (List Nat)} (hG : Gr S) (s : Sn) (hs : ∀ y, s y = true → y < S.length) : EvTo (fun k => pdom_back k (ordG S (up2 (pr S))) (rb s)) (rb (bk S s)) := by
  unfold pdom_back
  have hle := hG.le
  have h0 := back_l0 hG s (List.replicate 64 false) S.length 0 (by omega) (by omega)
  refine EvTo.bind (a := (up ((List.range S.length).filter s), ordG S (up2 (pr S)), rb s, List.replicate 64 false)) (by
    rw [show ((ordG S (up2 (pr S))).1.length : Int) = (S.length : Int) by rw [up2_length]]; exact h0) (EvTo.bind (a := (ordG S (up2 (pr S)), rb (bk S s), List.replicate 64 false)) (back_l1 hG s _ _ _ _ ⟨hs, fun y hy => (List.mem_filter.mp hy).2, fun _ h => h, fun _ h => bk_self h, fun a ha hn => ?_, fun h => absurd h (Nat.lt_irrefl _)⟩ (Nat.le_refl _) ?_) EvTo.pure)
  · exact absurd (List.mem_filter.mpr ⟨List.mem_range.mpr (hs a ha), ha⟩) hn
  · have h1 := List.length_filter_le s (List.range S.length)
    have h2 := List.length_filter_le (fun z => !s z) (List.range S.length)
    rw [List.length_range] at h1 h2
    unfold cnt; omega
end Go.PrS
