/- Ways through graphs and what dominates what, with no program in it. No conditions beyond each theorem's own. -/
import Derived.Test.YtmbkpnhmeljcgaaGu
import Derived.Test.YtmbkpnhmeljcgaaGp
set_option linter.unusedVariables false
set_option linter.unusedSimpArgs false
namespace Go.PrS
open Go Go.Ev
@[simp] theorem dtl_length (S : List (List Nat)) (r : Nat) : (dtl S r).length = S.length := by simp [dtl]
theorem rd_dtl {S : List (List Nat)} {r x : Nat} (h : x < S.length) : rd (dtl S r) (x : Int) = idv S r x := by
  simp only [rd, Int.toNat_natCast, dtl]; exact getD_map_range _ _ _ _ h
/-- A graph, its root, and places by its order. -/
structure Gd (S : List (List Nat)) (r : Nat) (at_ par : Nat → Nat) : Prop where
  gr : Gr S
  lt : r < S.length
  pl : Pl S r at_ par
  at0 : at_ r = 0
  atn : ∀ x, Rch S (-1) r x → at_ x < S.length
  idm : ∀ x, Rch S (-1) r x → x ≠ r → ∃ z, Idm S r z x
theorem places_ex {S : List (List Nat)} (h : Gr S) {r : Nat} (hr : r < S.length) : ∃ at_, Places (dfs S r) at_ := by
  refine ⟨fun x => (dfs S r).findIdx (fun y => decide (y = x)), fun j hj => ?_⟩
  have hex : ∃ y ∈ dfs S r, decide (y = (dfs S r).getD j 0) = true := ⟨(dfs S r).getD j 0, getD_mem hj, by simp⟩
  have h1 := List.findIdx_lt_length_of_exists hex
  have h2 := List.findIdx_getElem (w := h1)
  have h3 : (dfs S r)[j] = (dfs S r).getD j 0 := by rw [List.getD_eq_getElem?_getD, List.getElem?_eq_getElem hj]; rfl
  refine nodup_inj (dfs_nodup h hr) h1 hj ?_
  rw [h3]; exact of_decide_eq_true h2
theorem dm_last {S : List (List Nat)} {r d e : Nat} (hde : d ≠ e) {x : Nat} (h : Rch S (-1) r x) : Rch S (d : Int) r x ∨ Rch S (e : Int) d x ∨ Rch S (d : Int) e x := by
  induction h with
  | base _ =>
    by_cases e1 : r = d
    · subst e1; exact .inr (.inl (.base (by omega)))
    · by_cases e2 : r = e
      · subst e2; exact .inr (.inr (.base (by omega)))
      · exact .inl (.base (by omega))
  | @step a y _ hy _ ih =>
    by_cases e1 : y = d
    · subst e1; exact .inr (.inl (.base (by omega)))
    · by_cases e2 : y = e
      · subst e2; exact .inr (.inr (.base (by omega)))
      · rcases ih with h | h | h
        · exact .inl (.step h hy (by omega))
        · exact .inr (.inl (.step h hy (by omega)))
        · exact .inr (.inr (.step h hy (by omega)))
/-- Of two that dominate one, one dominates the other one. -/
theorem dm_line {S : List (List Nat)} {r d e x : Nat} (hd : Dm S r d x) (he : Dm S r e x) : Dm S r d e ∨ Dm S r e d := by
  by_cases hde : d = e
  · subst hde; exact .inl (dm_refl (dm_rch hd))
  · rcases dm_last hde hd.1 with h | h | h
    · exact absurd h hd.2
    · exact .inr ⟨dm_rch hd, fun h' => he.2 (h'.trans h)⟩
    · exact .inl ⟨dm_rch he, fun h' => hd.2 (h'.trans h)⟩
/-- The nearest dominator is there. -/
theorem idm_ex {S : List (List Nat)} {r : Nat} {at_ par : Nat → Nat} (hP : Pl S r at_ par) {x : Nat} (hx : Rch S (-1) r x) (hxr : x ≠ r) : ∃ z, Idm S r z x := by
  have key : ∀ (n z : Nat), Dm S r z x → z ≠ x → at_ x - at_ z ≤ n → ∃ z', Dm S r z' x ∧ z' ≠ x ∧ ∀ d, Dm S r d x → d ≠ x → at_ d ≤ at_ z' := by
    intro n
    induction n with
    | zero =>
      intro z hz hne hn
      have h1 := dm_le hP _ _ (Nat.le_refl _) hz
      exact absurd (hP.inj z x (dm_rch hz) hx (by omega)) hne
    | succ n ih =>
      intro z hz hne hn
      by_cases hex : ∃ d, Dm S r d x ∧ d ≠ x ∧ at_ z < at_ d
      · obtain ⟨d, h1, h2, h3⟩ := hex
        exact ih d h1 h2 (by have := dm_le hP _ _ (Nat.le_refl _) h1; omega)
      · exact ⟨z, hz, hne, fun d h1 h2 => Nat.le_of_not_lt (fun h3 => hex ⟨d, h1, h2, h3⟩)⟩
  obtain ⟨z, h1, h2, h3⟩ := key _ r (dm_root hx) (fun e => hxr e.symm) (Nat.le_refl _)
  refine ⟨z, h1, h2, fun d hd hdx => ?_⟩
  rcases dm_line hd h1 with h | h
  · exact h
  · have h4 := dm_le hP _ _ (Nat.le_refl _) h
    have h5 := h3 d hd hdx
    rw [hP.inj d z (dm_rch hd) (dm_rch h1) (by omega)]; exact dm_refl (dm_rch h1)
theorem gd_of {S : List (List Nat)} {r : Nat} (hG : Gr S) (hr : r < S.length) {at_ : Nat → Nat} (ha : Places (dfs S r) at_) : ∃ par, Gd S r at_ par := by
  obtain ⟨par, hP⟩ := dfs_pl hG hr ha
  refine ⟨par, hG, hr, hP, ?_, ?_, ?_⟩
  · obtain ⟨tail, htail⟩ := dfs_head hG r; have := ha 0 (by rw [htail]; simp); rw [htail] at this; simpa using this
  · intro y hy
    obtain ⟨i, hi, e⟩ := mem_at ((dfs_mem hG hr y).mpr hy)
    rw [← e, ha i hi]; have := dfs_len hG hr; omega
  · exact fun x hx hxr => idm_ex hP hx hxr
theorem gd_ex {S : List (List Nat)} {r : Nat} (hG : Gr S) (hr : r < S.length) : ∃ at_ par, Gd S r at_ par := by
  obtain ⟨at_, ha⟩ := places_ex hG hr
  exact ⟨at_, gd_of hG hr ha⟩
section
variable {S : List (List Nat)} {r : Nat} {at_ par : Nat → Nat}
theorem Gd.rd_no (hD : Gd S r at_ par) {x : Nat} (hx : x < S.length) (h : ¬ Rch S (-1) r x) : rd (dtl S r) (x : Int) = -2 := by rw [rd_dtl hx, idv_no hD.lt h]
theorem Gd.rd_root (hD : Gd S r at_ par) : rd (dtl S r) (r : Int) = -1 := by rw [rd_dtl hD.lt, idv_root]
theorem Gd.rd_idm (hD : Gd S r at_ par) {x : Nat} (h : Rch S (-1) r x) (hr : x ≠ r) : ∃ z, Idm S r z x ∧ rd (dtl S r) (x : Int) = (z : Int) := by
  obtain ⟨z, hz⟩ := hD.idm x h hr
  exact ⟨z, hz, by rw [rd_dtl (h.lt hD.gr hD.lt), idv_idm hD.pl hr hz]⟩
theorem Gd.way_no (hD : Gd S r at_ par) {x : Nat} (hx : x < S.length) (h : ¬ Rch S (-1) r x) : way (dtl S r) (x : Int) = none := by
  cases hw : way (dtl S r) (x : Int) with
  | none => rfl
  | some l =>
    have h1 := (way_form hw).2.2.2
    rw [hD.rd_no hx h] at h1
    rcases h1 with ⟨h1, _⟩ | ⟨_, m, _, h2⟩
    · omega
    · rw [show way (dtl S r) (-2) = none from pth_out (.inl (by omega))] at h2; cases h2
theorem Gd.way_rch (hD : Gd S r at_ par) : ∀ (n x : Nat), at_ x ≤ n → Rch S (-1) r x → ∃ l, pth (dtl S r) (at_ x + 1) (x : Int) = some l ∧ ∀ a : Int, a ∈ l ↔ ∃ d : Nat, a = (d : Int) ∧ Dm S r d x := by
  intro n
  induction n with
  | zero =>
    intro x hn hx
    by_cases e : x = r
    · subst e
      refine ⟨[(x : Int)], pth_top (by omega) (by rw [dtl_length]; have := hD.lt; omega) hD.rd_root, fun a => ?_⟩
      rw [List.mem_singleton]
      exact ⟨fun h => ⟨x, h, dm_refl hx⟩, fun ⟨d, h1, h2⟩ => by rw [h1, dm_of_root h2]⟩
    · have := (hD.pl.par x hx e).2.2; omega
  | succ n ih =>
    intro x hn hx
    have hxl := hx.lt hD.gr hD.lt
    by_cases e : x = r
    · subst e
      refine ⟨[(x : Int)], pth_top (by omega) (by rw [dtl_length]; have := hD.lt; omega) hD.rd_root, fun a => ?_⟩
      rw [List.mem_singleton]
      exact ⟨fun h => ⟨x, h, dm_refl hx⟩, fun ⟨d, h1, h2⟩ => by rw [h1, dm_of_root h2]⟩
    · obtain ⟨z, hz, hrd⟩ := hD.rd_idm hx e
      have hzR := dm_rch hz.1
      have hzl : at_ z < at_ x := Nat.lt_of_le_of_ne (dm_le hD.pl _ _ (Nat.le_refl _) hz.1) (fun e2 => hz.2.1 (hD.pl.inj z x hzR hx e2))
      obtain ⟨m, h1, h2⟩ := ih z (by omega) hzR
      refine ⟨(x : Int) :: m, ?_, fun a => ?_⟩
      · rw [pth_step (by omega) (by rw [dtl_length]; omega) (by rw [hrd]; omega), hrd, pth_more (show at_ z + 1 ≤ at_ x by omega) h1]; rfl
      · rw [List.mem_cons, h2]
        constructor
        · rintro (h | ⟨d, h3, h4⟩)
          · exact ⟨x, h, dm_refl hx⟩
          · exact ⟨d, h3, dm_trans h4 hz.1⟩
        · rintro ⟨d, h3, h4⟩
          by_cases e2 : d = x
          · exact .inl (by rw [h3, e2])
          · exact .inr ⟨d, h3, hz.2.2 d h4 e2⟩
theorem Gd.way (hD : Gd S r at_ par) {x : Nat} (hx : Rch S (-1) r x) : ∃ l, way (dtl S r) (x : Int) = some l ∧ ∀ a : Int, a ∈ l ↔ ∃ d : Nat, a = (d : Int) ∧ Dm S r d x := by
  obtain ⟨l, h1, h2⟩ := hD.way_rch _ x (Nat.le_refl _) hx
  exact ⟨l, pth_more (by rw [dtl_length]; exact hD.atn x hx) h1, h2⟩
theorem Gd.way_iff (hD : Gd S r at_ par) {x : Nat} (hx : x < S.length) : (∃ l, PrS.way (dtl S r) (x : Int) = some l) ↔ Rch S (-1) r x := by
  constructor
  · rintro ⟨l, h⟩
    refine Classical.byContradiction (fun hn => ?_)
    rw [hD.way_no hx hn] at h; cases h
  · intro h; obtain ⟨l, h1, _⟩ := hD.way h; exact ⟨l, h1⟩
theorem Gd.rgo (hD : Gd S r at_ par) (d : Nat) : ∀ i : Nat, i + d = S.length → rgo (dtl S r) d i (if r < i then 1 else 0) = true := by
  induction d with
  | zero =>
    intro i hi
    rw [if_pos (by have := hD.lt; omega)]; rfl
  | succ d ih =>
    intro i hi
    have h1 : ¬ (rd (dtl S r) (i : Int) ≠ -2 ∧ PrS.way (dtl S r) (i : Int) = none) := by
      rintro ⟨h1, h2⟩
      by_cases hR : Rch S (-1) r i
      · obtain ⟨l, h3, _⟩ := hD.way hR; rw [h2] at h3; cases h3
      · exact h1 (hD.rd_no (by omega) hR)
    rw [PrS.rgo, if_neg h1]
    have h2 := ih (i + 1) (by omega)
    by_cases e : i = r
    · rw [e, hD.rd_root, if_pos rfl, if_neg (Nat.lt_irrefl _)]
      rw [e, if_pos (Nat.lt_succ_self _)] at h2
      exact h2
    · have h3 : rd (dtl S r) (i : Int) ≠ -1 := by
        by_cases hR : Rch S (-1) r i
        · obtain ⟨z, _, h4⟩ := hD.rd_idm hR e; rw [h4]; omega
        · rw [hD.rd_no (by omega) hR]; omega
      rw [if_neg h3]
      by_cases hlt : r < i
      · rw [if_pos hlt]; rw [if_pos (by omega)] at h2; exact h2
      · rw [if_neg hlt]; rw [if_neg (by omega)] at h2; exact h2
theorem Gd.rgt (hD : Gd S r at_ par) : rgt (dtl S r) = true := by
  show PrS.rgo (dtl S r) (dtl S r).length 0 0 = true
  rw [dtl_length]
  have := hD.rgo S.length 0 (by omega)
  simpa using this
theorem Gd.inT2 (hD : Gd S r at_ par) {a b : Nat} (ha : a < S.length) (hb : b < S.length) : inT (dtl S r) [(a : Int), (b : Int)] = true ↔ Rch S (-1) r a ∧ Rch S (-1) r b := by
  rw [inT_two, hD.way_iff ha, hD.way_iff hb]
  exact ⟨fun h => h.2, fun h => ⟨hD.rgt, h⟩⟩
theorem Gd.inT1 (hD : Gd S r at_ par) {a : Nat} (ha : a < S.length) : inT (dtl S r) [(a : Int)] = true ↔ Rch S (-1) r a := by
  rw [inT_one, hD.way_iff ha]
  exact ⟨fun h => h.2, fun h => ⟨hD.rgt, h⟩⟩
theorem fst2_way {t : List Int} {Q : List Int} : ∀ {l : List Int} {a : Int}, PrS.way t a = some l → ∀ {c}, c ∈ l → c ∈ Q → fst2 l Q ∈ l ∧ fst2 l Q ∈ Q ∧ ∃ ml, PrS.way t (fst2 l Q) = some ml ∧ c ∈ ml := by
  intro l
  induction l with
  | nil => intro a _ c hc; cases hc
  | cons x l ih =>
    intro a h c hc hcQ
    obtain ⟨_, _, _, h4⟩ := way_form h
    have hxa : x = a := by rcases h4 with ⟨_, e⟩ | ⟨_, m, e, _⟩ <;> injection e
    by_cases hx : x ∈ Q
    · have e : fst2 (x :: l) Q = x := by unfold fst2; rw [List.find?_cons, decide_eq_true hx]; rfl
      rw [e]
      exact ⟨List.mem_cons_self .., hx, x :: l, by rw [hxa] at h ⊢; exact h, hc⟩
    · have e : fst2 (x :: l) Q = fst2 l Q := by unfold fst2; rw [List.find?_cons, decide_eq_false hx]
      rw [e]
      have hcl : c ∈ l := by
        rcases List.mem_cons.mp hc with e2 | e2
        · subst e2; exact absurd hcQ hx
        · exact e2
      rcases h4 with ⟨_, e2⟩ | ⟨_, m, e2, h5⟩
      · injection e2 with _ e3; rw [e3] at hcl; cases hcl
      · injection e2 with _ e3
        subst e3
        obtain ⟨g1, g2, g3⟩ := ih h5 hcl hcQ
        exact ⟨List.mem_cons_of_mem _ g1, g2, g3⟩
/-- Where two meet: the nearest of those that dominate both. -/
theorem Gd.meet (hD : Gd S r at_ par) {a b : Nat} (ha : Rch S (-1) r a) (hb : Rch S (-1) r b) : ∃ m : Nat, meetT (dtl S r) (a : Int) (b : Int) = (m : Int) ∧ Dm S r m a ∧ Dm S r m b ∧ ∀ c, Dm S r c a → Dm S r c b → Dm S r c m := by
  obtain ⟨p, hp, hp2⟩ := hD.way ha
  obtain ⟨q, hq, hq2⟩ := hD.way hb
  have e : meetT (dtl S r) (a : Int) (b : Int) = fst2 p q := by unfold meetT; rw [if_pos hD.rgt, hp, hq]
  have hrp : (r : Int) ∈ p := (hp2 _).mpr ⟨r, rfl, dm_root ha⟩
  have hrq : (r : Int) ∈ q := (hq2 _).mpr ⟨r, rfl, dm_root hb⟩
  obtain ⟨g1, g2, _⟩ := fst2_way hp hrp hrq
  obtain ⟨m, hm, hma⟩ := (hp2 _).mp g1
  obtain ⟨m', hm', hmb⟩ := (hq2 _).mp g2
  have emm : m = m' := by omega
  subst emm
  refine ⟨m, by rw [e, hm], hma, hmb, fun c h1 h2 => ?_⟩
  obtain ⟨_, _, ml, g3, g4⟩ := fst2_way hp ((hp2 _).mpr ⟨c, rfl, h1⟩) ((hq2 _).mpr ⟨c, rfl, h2⟩)
  obtain ⟨l, h5, h6⟩ := hD.way (dm_rch hma)
  rw [hm, h5] at g3; cases g3
  obtain ⟨d, h7, h8⟩ := (h6 _).mp g4
  rw [show c = d by omega]; exact h8
theorem Gd.meet_no (hD : Gd S r at_ par) {a b : Nat} (ha : a < S.length) (hb : b < S.length) (h : ¬ (Rch S (-1) r a ∧ Rch S (-1) r b)) : meetT (dtl S r) (a : Int) (b : Int) = -2 := by
  unfold meetT
  rw [if_pos hD.rgt]
  cases hp : PrS.way (dtl S r) (a : Int) with
  | none => rfl
  | some p => cases hq : PrS.way (dtl S r) (b : Int) with
    | none => rfl
    | some q => exact absurd ⟨(hD.way_iff ha).mp ⟨p, hp⟩, (hD.way_iff hb).mp ⟨q, hq⟩⟩ h
theorem Gd.over (hD : Gd S r at_ par) {a b : Nat} (ha : a < S.length) (hb : b < S.length) : overT (dtl S r) (a : Int) (b : Int) = true ↔ Dm S r a b := by
  unfold overT
  rw [Bool.and_eq_true, hD.inT2 ha hb]
  constructor
  · rintro ⟨⟨h1, h2⟩, h3⟩
    obtain ⟨m, g1, g2, g3, _⟩ := hD.meet h1 h2
    have : m = a := by have := eq_of_beq h3; omega
    rw [← this]; exact g3
  · intro h
    have h1 := dm_rch h
    refine ⟨⟨h1, h.1⟩, ?_⟩
    obtain ⟨m, g1, g2, g3, g4⟩ := hD.meet h1 h.1
    have : a = m := dm_antisymm hD.pl (g4 a (dm_refl h1) h) g2
    rw [g1, this]; simp
theorem Gd.over_eq (hD : Gd S r at_ par) {a b : Nat} (ha : a < S.length) (hb : b < S.length) (v : Bool) (h : v = true ↔ Dm S r a b) : overT (dtl S r) (a : Int) (b : Int) = v := by
  have h2 := hD.over ha hb
  rw [← h] at h2
  cases v <;> cases h3 : overT (dtl S r) (a : Int) (b : Int) <;> simp_all
end
end Go.PrS
