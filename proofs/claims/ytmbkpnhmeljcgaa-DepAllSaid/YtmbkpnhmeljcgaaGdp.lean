/- Plain laws of dep.up and dep.All: what hangs on a block by one of its ways on are those that postdominate where it goes and not the block itself (or are the block). No conditions beyond each theorem's own. -/
import Derived.Test.YtmbkpnhmeljcgaaGx
import Derived.Test.YtmbkpnhmeljcgaaGre
set_option linter.unusedVariables false
set_option linter.unusedSimpArgs false
namespace Go.PrS
open Go Go.Ev Go.Proofs
abbrev dp (x a b : Nat) : PrD.Dep := ((x : Int), (a : Int), (b : Int), ())
theorem up_first (k : Nat) (t : List Int) (a b : Int) : dep_up_s1 k t a b = dep_up_s1_j0 (k + 1) t a b [] b := by
  simp only [dep_up_s1, dep_up_s1_j0, List.nil_append]
  have e : ([(b, a, b, ())] : List L_api_Dep).length ≤ Ev.most := by simp [most_eq]
  simp only [if_pos e]
section
variable {T : List (List Nat)} {r : Nat} {at_ par : Nat → Nat}
/-- Up the tree of a graph from a block, to what is nearest over another one. -/
theorem up_from (hD : Gd T r at_ par) (a b : Nat) (ha : a < T.length) {z : Nat} (hz : rd (dtl T r) (a : Int) = (z : Int)) : ∀ (n x : Nat) (acc : List PrD.Dep), at_ x ≤ n → Dm T r z x → acc.length + at_ x ≤ 1000 →
    ∃ l : List Nat, EvTo (fun k => dep_up_s1_j0 k (dtl T r) (a : Int) (b : Int) acc (x : Int)) (.inl (acc ++ l.map fun x : Nat => dp x a b)) ∧ l.Nodup ∧ l.length ≤ at_ x ∧ ∀ y, y ∈ l ↔ Dm T r y x ∧ ¬ Dm T r y z := by
  intro n
  have hza : (dtl T r).getD ((a : Int).toNat) 0 = (z : Int) := hz
  induction n with
  | zero =>
    intro x acc hn hx hacc
    have hxl := hx.1.lt hD.gr hD.lt
    have h1 := dm_le hD.pl _ _ (Nat.le_refl _) hx
    have e : z = x := hD.pl.inj z x (dm_rch hx) hx.1 (by omega)
    subst e
    refine ⟨[], EvTo.succ ?_, .nil, Nat.zero_le _, fun y => ⟨fun h => absurd h (by simp), fun h => absurd h.1 h.2⟩⟩
    simp only [dep_up_s1_j0]
    rw [hza]
    exact EvTo.ifp (by rw [dtl_length]; omega) (EvTo.ifn (by simp) (EvTo.pure' (by simp)))
  | succ n ih =>
    intro x acc hn hx hacc
    have hxl := hx.1.lt hD.gr hD.lt
    by_cases e : z = x
    · subst e
      refine ⟨[], EvTo.succ ?_, .nil, Nat.zero_le _, fun y => ⟨fun h => absurd h (by simp), fun h => absurd h.1 h.2⟩⟩
      simp only [dep_up_s1_j0]
      rw [hza]
      exact EvTo.ifp (by rw [dtl_length]; omega) (EvTo.ifn (by simp) (EvTo.pure' (by simp)))
    · have hxr : x ≠ r := fun hc => by
        subst hc
        exact e (dm_of_root hx)
      obtain ⟨u, hu, hru⟩ := hD.rd_idm hx.1 hxr
      have hru : (dtl T r).getD ((x : Int).toNat) 0 = (u : Int) := hru
      have hzu : Dm T r z u := hu.2.2 z hx e
      have hlt : at_ u < at_ x := by
        have h1 := dm_le hD.pl _ _ (Nat.le_refl _) hu.1
        have h2 : at_ u ≠ at_ x := fun hc => hu.2.1 (hD.pl.inj u x (dm_rch hu.1) hx.1 hc)
        omega
      obtain ⟨l, hl1, hl2, hl4, hl3⟩ := ih u (acc ++ [dp x a b]) (by omega) hzu (by rw [List.length_append]; simp only [List.length_cons, List.length_nil]; omega)
      refine ⟨x :: l, EvTo.succ ?_, List.nodup_cons.mpr ⟨fun hc => ?_, hl2⟩, by rw [List.length_cons]; omega, fun y => ?_⟩
      · simp only [dep_up_s1_j0]
        rw [hza, hru]
        rw [List.append_assoc] at hl1
        exact EvTo.ifp (by rw [dtl_length]; omega) (EvTo.ifp (by rw [bne_iff_ne]; omega) (EvTo.ifp (decide_eq_true (by omega)) (EvTo.ifp (by rw [List.length_append, most_eq]; simp only [List.length_cons, List.length_nil]; omega) (EvTo.ifp (by rw [dtl_length]; omega) hl1))))
      · exact hu.2.1 (dm_antisymm hD.pl hu.1 ((hl3 x).mp hc).1)
      · rw [List.mem_cons, hl3]
        constructor
        · rintro (rfl | ⟨h1, h2⟩)
          · exact ⟨dm_refl hx.1, fun hc => e (dm_antisymm hD.pl hx hc)⟩
          · exact ⟨dm_trans h1 hu.1, h2⟩
        · rintro ⟨h1, h2⟩
          by_cases hy : y = x
          · exact .inl hy
          · exact .inr ⟨hu.2.2 y h1 hy, h2⟩
end
/-- A graph with its exit, and the tree the other way round. -/
structure Dp (S : List (List Nat)) (o : Sn) (at_ par : Nat → Nat) : Prop where
  hG : Gr S
  hn : S.length < 64
  hO : Ox S o
  ha : ∀ x, x < S.length → bk S o x = true
  hD : Gd (pr (wx S o)) S.length at_ par
/-- One block postdominates another one. -/
def Po (S : List (List Nat)) (o : Sn) (x y : Nat) : Prop := Dm (pr (wx S o)) S.length x y
section
variable {S : List (List Nat)} {o : Sn} {at_ par : Nat → Nat}
theorem Dp.hX (h : Dp S o at_ par) : Gr (wx S o) := gr_wx h.hG h.hn o
theorem Dp.rch (h : Dp S o at_ par) {x : Nat} (hx : x ≤ S.length) : Rch (pr (wx S o)) (-1) S.length x := (rch_dual h.hX).mpr (wx_rch h.hO h.ha hx)
theorem up_ok (h : Dp S o at_ par) {a b : Nat} (ha : a < S.length) (hab : b ∈ S.getD a []) :
    ∃ l : List Nat, EvTo (fun k => dep_up k (dtl (pr (wx S o)) S.length) (a : Int) (b : Int)) (l.map fun x : Nat => dp x a b) ∧ l.Nodup ∧ l.length ≤ 64 ∧ ∀ y, y ∈ l ↔ Po S o y b ∧ (y = a ∨ ¬ Po S o y a) := by
  have hb := (h.hG.row a ha).2 b hab
  have hn := h.hn
  have hX := h.hX
  have hab2 : b ∈ (wx S o).getD a [] := by rw [wx_get ha]; exact List.mem_append.mpr (.inl hab)
  have hba : a ∈ (pr (wx S o)).getD b [] := (mem_pr (by rw [wx_length]; omega)).mpr ⟨by rw [wx_length]; omega, hab2⟩
  obtain ⟨z, hz, hrz⟩ := h.hD.rd_idm (h.rch (x := a) (by omega)) (by omega)
  have hzb := dm_pred hz.1 hz.2.1 (h.rch (x := b) (by omega)) hba
  have hat := h.hD.atn b (h.rch (x := b) (by omega))
  rw [pr_length, wx_length] at hat
  obtain ⟨l, h1, h2, h4, h3⟩ := up_from h.hD a b (by rw [pr_length, wx_length]; omega) hrz (at_ b) b [] (Nat.le_refl _) hzb (by simp only [List.length_nil]; omega)
  refine ⟨l, ?_, h2, by omega, fun y => ?_⟩
  · unfold dep_up
    refine EvTo.bind (a := .inl (l.map fun x : Nat => dp x a b)) ?_ (by show EvTo (fun _ => some _) _; exact EvTo.pure)
    simp only [up_first]
    exact EvTo.shift (f := fun k => dep_up_s1_j0 k (dtl (pr (wx S o)) S.length) (a : Int) (b : Int) [] (b : Int)) (by simpa using h1)
  · rw [h3]
    unfold Po
    constructor
    · rintro ⟨h5, h6⟩
      refine ⟨h5, ?_⟩
      by_cases e : y = a
      · exact .inl e
      · exact .inr (fun hc => h6 (hz.2.2 y hc e))
    · rintro ⟨h5, h6⟩
      refine ⟨h5, fun hc => ?_⟩
      rcases h6 with e | h6
      · subst e; exact hz.2.1 (dm_antisymm h.hD.pl hz.1 hc)
      · exact h6 (dm_trans hc hz.1)
theorem up_fun (h : Dp S o at_ par) : ∃ f : Nat → Nat → List Nat, ∀ a b, a < S.length → b ∈ S.getD a [] → EvTo (fun k => dep_up k (dtl (pr (wx S o)) S.length) (a : Int) (b : Int)) ((f a b).map fun x : Nat => dp x a b) ∧ (f a b).Nodup ∧ (f a b).length ≤ 64 ∧ ∀ y, y ∈ f a b ↔ Po S o y b ∧ (y = a ∨ ¬ Po S o y a) := by
  classical
  refine ⟨fun a b => if q : a < S.length ∧ b ∈ S.getD a [] then (up_ok h q.1 q.2).choose else [], fun a b ha hab => ?_⟩
  dsimp only
  rw [dif_pos ⟨ha, hab⟩]
  exact (up_ok h ha hab).choose_spec
def rowd (S : List (List Nat)) (f : Nat → Nat → List Nat) (a m : Nat) : List PrD.Dep := ((S.getD a []).take m).flatMap fun b => (f a b).map fun x : Nat => dp x a b
def alld (S : List (List Nat)) (o : Sn) (f : Nat → Nat → List Nat) : Nat → List PrD.Dep
  | 0 => []
  | a + 1 => alld S o f a ++ if ((wx S o).getD a []).length < 2 then [] else rowd S f a (S.getD a []).length
theorem rowd_succ (S : List (List Nat)) (f : Nat → Nat → List Nat) (a m : Nat) (h : m < (S.getD a []).length) : rowd S f a (m + 1) = rowd S f a m ++ (f a ((S.getD a []).getD m 0)).map fun x : Nat => dp x a ((S.getD a []).getD m 0) := by
  unfold rowd
  rw [take_getD _ m 0 h, List.flatMap_append]
  simp
theorem all_l1 (h : Dp S o at_ par) {f : Nat → Nat → List Nat} (hf : ∀ a b, a < S.length → b ∈ S.getD a [] → EvTo (fun k => dep_up k (dtl (pr (wx S o)) S.length) (a : Int) (b : Int)) ((f a b).map fun x : Nat => dp x a b) ∧ (f a b).Nodup ∧ (f a b).length ≤ 64 ∧ ∀ y, y ∈ f a b ↔ Po S o y b ∧ (y = a ∨ ¬ Po S o y a))
    (t3 : L_api_Graph) {a : Nat} (ha : a < S.length) (pre : List PrD.Dep) (hpre : pre.length ≤ 4096 * 64) (d : Nat) : ∀ m, m ≤ (S.getD a []).length → (S.getD a []).length - m = d → (rowd S f a m).length ≤ 64 * m →
    EvTo (fun k => dep_All_l11 k t3 (dtl (pr (wx S o)) S.length) (a : Int) (up2 S) (S.length : Int) (a : Int) (up (S.getD a [])) ((S.getD a []).length : Int) (pre ++ rowd S f a m) (m : Int)) (pre ++ rowd S f a (S.getD a []).length, t3) := by
  have hG := h.hG
  have hle := hG.le
  have hrl := gr_len hG ha
  induction d with
  | zero =>
    intro m hm hd hl
    obtain rfl : m = (S.getD a []).length := by omega
    refine EvTo.succ ?_; simp only [dep_All_l11]
    exact EvTo.ifn (by rw [decide_eq_true_eq]; omega) EvTo.pure
  | succ d ih =>
    intro m hm hd hl
    have hml : m < (S.getD a []).length := by omega
    have hy := getD_mem (l := S.getD a []) (d := 0) hml
    obtain ⟨h1, _, h2, _⟩ := hf a _ ha hy
    have hs := rowd_succ S f a m hml
    have hn := ih (m + 1) (by omega) (by omega) (by rw [hs, List.length_append, List.length_map]; omega)
    rw [hs, ← List.append_assoc] at hn
    refine EvTo.succ ?_; simp only [dep_All_l11]
    rw [Int.toNat_natCast, getD_up, wrapS hml (by omega), up_length]
    exact EvTo.ifp (decide_eq_true (by omega)) (EvTo.ifp (by omega) (EvTo.bind h1 (EvTo.ifp (by rw [List.length_append, List.length_append, List.length_map, most_eq]; omega) hn)))
theorem all_l0 (h : Dp S o at_ par) {f : Nat → Nat → List Nat} (hf : ∀ a b, a < S.length → b ∈ S.getD a [] → EvTo (fun k => dep_up k (dtl (pr (wx S o)) S.length) (a : Int) (b : Int)) ((f a b).map fun x : Nat => dp x a b) ∧ (f a b).Nodup ∧ (f a b).length ≤ 64 ∧ ∀ y, y ∈ f a b ↔ Po S o y b ∧ (y = a ∨ ¬ Po S o y a)) (P : List (List Int)) (d : Nat) : ∀ a, a ≤ S.length → S.length - a = d → (alld S o f a).length ≤ 4096 * a →
    EvTo (fun k => dep_All_l7 k (ordG (wx S o) P) (dtl (pr (wx S o)) S.length) (up2 S) (S.length : Int) (alld S o f a) (a : Int)) (alld S o f S.length, ordG (wx S o) P) := by
  have hG := h.hG
  have hle := hG.le
  have hwx := h.hX.le
  have hux : (ordG (wx S o) P).1.length = (wx S o).length := up2_length _
  induction d with
  | zero =>
    intro a ha hd hl
    obtain rfl : a = S.length := by omega
    refine EvTo.succ ?_; simp only [dep_All_l7]
    exact EvTo.ifn (by rw [decide_eq_true_eq]; omega) EvTo.pure
  | succ d ih =>
    intro a ha hd hl
    have hal : a < S.length := by omega
    have hxl := gr_len h.hX (i := a) (by rw [wx_length]; omega)
    have hn := ih (a + 1) (by omega) (by omega)
    rw [alld] at hn
    refine EvTo.succ ?_; simp only [dep_All_l7]
    rw [hux, Int.toNat_natCast, getD_up2, getD_up2, up_length, up_length, wrapS hal (by omega), up2_length, wx_length]
    refine EvTo.ifp (decide_eq_true (by omega)) (EvTo.ifp (by omega) (EvTo.ifp (by omega) ?_))
    by_cases hc : ((wx S o).getD a []).length < 2
    · rw [if_pos hc, List.append_nil] at hn
      exact EvTo.ifp (decide_eq_true (by omega)) (hn (by omega))
    · rw [if_neg hc] at hn
      have hrl := gr_len hG hal
      have hrw : ∀ m, m ≤ (S.getD a []).length → (rowd S f a m).length ≤ 64 * m := by
        intro m
        induction m with
        | zero => intro _; simp [rowd]
        | succ m ih =>
          intro hm
          have h3 := ih (by omega)
          have h4 := (hf a _ hal (getD_mem (l := S.getD a []) (i := m) (d := 0) (by omega))).2.2.1
          rw [rowd_succ S f a m (by omega), List.length_append, List.length_map]; omega
      have h1 := all_l1 h hf (ordG (wx S o) P) hal (alld S o f a) (by omega) _ 0 (Nat.zero_le _) rfl (by simp [rowd])
      rw [show rowd S f a 0 = [] by simp [rowd], List.append_nil] at h1
      have h2 := hrw _ (Nat.le_refl _)
      exact EvTo.ifn (by rw [decide_eq_true_eq]; omega) (EvTo.bind h1 (hn (by rw [List.length_append]; omega)))
theorem all_in {f : Nat → Nat → List Nat} {y a b : Nat} (hab : b ∈ S.getD a []) (h2 : ¬ ((wx S o).getD a []).length < 2) (hy : y ∈ f a b) : ∀ n, a < n → dp y a b ∈ alld S o f n
  | 0, hn => by omega
  | n + 1, hn => by
    rw [alld, List.mem_append]
    by_cases e : a = n
    · subst e
      right
      rw [if_neg h2]
      unfold rowd
      rw [List.take_length]
      exact List.mem_flatMap.mpr ⟨b, hab, List.mem_map.mpr ⟨y, hy, rfl⟩⟩
    · exact .inl (all_in hab h2 hy n (by omega))
theorem alld_len (h : Dp S o at_ par) {f : Nat → Nat → List Nat} (hf : ∀ a b, a < S.length → b ∈ S.getD a [] → (f a b).length ≤ 64) : ∀ n, n ≤ S.length → (alld S o f n).length ≤ 4096 * n
  | 0, _ => by simp [alld]
  | n + 1, hn => by
    have h1 := alld_len h hf n (by omega)
    have hrl := gr_len h.hG (i := n) (by omega)
    have h2 : ∀ m, m ≤ (S.getD n []).length → (rowd S f n m).length ≤ 64 * m := by
      intro m
      induction m with
      | zero => intro _; simp [rowd]
      | succ m ih =>
        intro hm
        have h3 := ih (by omega)
        have h4 := hf n _ (by omega) (getD_mem (l := S.getD n []) (i := m) (d := 0) (by omega))
        have hs : rowd S f n (m + 1) = rowd S f n m ++ (f n ((S.getD n []).getD m 0)).map fun x : Nat => dp x n ((S.getD n []).getD m 0) := by
          unfold rowd
          rw [take_getD _ m 0 (by omega), List.flatMap_append]
          simp
        rw [hs, List.length_append, List.length_map]; omega
    have h5 := h2 _ (Nat.le_refl _)
    rw [alld, List.length_append]
    split
    · simp; omega
    · omega
/-- What hangs on all blocks: all that is told of it. -/
theorem all_ok (hG : Gr S) (hn : S.length < 64) : ∃ (at_ par : Nat → Nat) (f : Nat → Nat → List Nat), Dp S (xo S S.length) at_ par ∧ (∀ a b, a < S.length → b ∈ S.getD a [] → (f a b).Nodup ∧ ∀ y, y ∈ f a b ↔ Po S (xo S S.length) y b ∧ (y = a ∨ ¬ Po S (xo S S.length) y a)) ∧ (alld S (xo S S.length) f S.length).length ≤ 4096 * S.length ∧
    EvTo (fun k => dep_All k (ordG S (up2 (pr S)))) (PrD.isort (alld S (xo S S.length) f S.length)) := by
  have hle := hG.le
  have hX := gr_wx hG hn (xo S S.length)
  obtain ⟨at_, par, hD⟩ := gd_ex (gr_pr hX) (r := S.length) (by rw [pr_length, wx_length]; omega)
  have h : Dp S (xo S S.length) at_ par := ⟨hG, hn, xo_ox _ (Nat.le_refl _), fun x hx => xo_bk _ x hx, hD⟩
  obtain ⟨f, hf⟩ := up_fun h
  have hlen := alld_len h (fun a b h1 h2 => (hf a b h1 h2).2.2.1) _ (Nat.le_refl _)
  refine ⟨at_, par, f, h, fun a b h1 h2 => ⟨(hf a b h1 h2).2.1, (hf a b h1 h2).2.2.2⟩, hlen, ?_⟩
  unfold dep_All
  refine EvTo.bind (exit_ok hG hn) (EvTo.ifn (by show ¬ (((0 : Int) != 0) = true); decide) (EvTo.bind (ptree_ok hG hn) (EvTo.bind (a := (alld S (xo S S.length) f S.length, ordG (wX S) (up2 (pr (wX S))))) ?_ ?_)))
  · rw [show ((ordG S (up2 (pr S))).1.length : Int) = (S.length : Int) by rw [up2_length]]
    exact all_l0 h hf _ S.length 0 (Nat.zero_le _) rfl (by simp [alld])
  · show EvTo (fun k => if 0 < (alld S (xo S S.length) f S.length).length then _ else _) _
    by_cases h0 : 0 < (alld S (xo S S.length) f S.length).length
    · refine EvTo.ifp h0 (EvTo.ifp h0 (EvTo.bind (a := PrD.isort (alld S (xo S S.length) f S.length)) ?_ EvTo.pure))
      unfold slices_SortFunc_api_Dep_api_Dep_dep_compare
      exact EvTo.ifp (by show (alld S (xo S S.length) f S.length).length < 4611686018427387904; omega) EvTo.pure
    · have e : alld S (xo S S.length) f S.length = [] := List.length_eq_zero_iff.mp (by omega)
      refine EvTo.ifn h0 (EvTo.bind (a := ()) ?_ (EvTo.pure' (by rw [e]; rfl)))
      unfold slices_SortFunc_api_Dep_api_Dep_dep_compare_f17
      exact EvTo.ifp (by show (alld S (xo S S.length) f S.length).length = 0; omega) EvTo.pure
theorem all_no {g : L_api_Graph} (h : EvTo (fun k => pdom_Exit k g) (([], [], ()), 5)) : EvTo (fun k => dep_All k g) [] := by
  unfold dep_All
  exact EvTo.bind h (EvTo.ifp (by show ((5 : Int) != 0) = true; decide) EvTo.pure)
end
end Go.PrS
