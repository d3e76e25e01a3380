/- Texts of this session, joined by wip/tools/merge.py. Conditions: each theorem's own. -/
import Derived.Test.YtoekeknfeinphaaMDomMorec
import Derived.Test.YtoekeknfeinphaaGx11
import Derived.Test.YtoekeknfeinphaaGx15
import Derived.Test.YtoekeknfeinphaaGx14
import Derived.Test.YtoekeknfeinphaaGx16
import Derived.Test.YtoekeknfeinphaaGx17
import Derived.Test.YtoekeknfeinphaaGx19
import Derived.Test.YtoekeknfeinphaaGx20
import Derived.Test.YtoekeknfeinphaaGx21
import Derived.ChangeKeysEq
import Derived.Test.YtoekeknfeinphaaGx0
import Derived.Test.YtoekeknfeinphaaGx6
import Derived.Test.YtoekeknfeinphaaGx9
import Derived.Test.YtoekeknfeinphaaGx22
import Derived.Test.YtoekeknfeinphaaGx24
namespace Go.Proofs.Ytoekeknfeinphaa.GP

/-! #### dominance -/
/-- Blocks' places, and from where each is come to from ahead. -/
structure Pl (S : List (List Nat)) (r : Nat) (at_ par : Nat → Nat) : Prop where
  inj : ∀ x y, Rch S (-1) r x → Rch S (-1) r y → at_ x = at_ y → x = y
  par : ∀ x, Rch S (-1) r x → x ≠ r → Rch S (-1) r (par x) ∧ x ∈ S.getD (par x) [] ∧ at_ (par x) < at_ x
/-- A block dominates another one. -/
def Dm (S : List (List Nat)) (r d x : Nat) : Prop := Rch S (-1) r x ∧ ¬ Rch S (d : Int) r x
section
variable {S : List (List Nat)} {r : Nat}
theorem rch_no {d : Nat} : ¬ Rch S (d : Int) r d := fun h => by
  cases h with
  | base h => exact h rfl
  | step _ _ h => exact h rfl
theorem rch_all {w : Int} {x : Nat} (h : Rch S w r x) : Rch S (-1) r x := by
  induction h with
  | base _ => exact .base (by omega)
  | step _ hy _ ih => exact .step ih hy (by omega)
theorem rch_root {w : Int} {x : Nat} (h : Rch S w r x) : Rch S w r r := by
  induction h with
  | base h => exact .base h
  | step _ _ _ ih => exact ih
theorem Dm.rch {d x : Nat} (h : Dm S r d x) : Rch S (-1) r x := h.1
theorem dm_refl {x : Nat} (h : Rch S (-1) r x) : Dm S r x x := ⟨h, rch_no⟩
theorem dm_root {x : Nat} (h : Rch S (-1) r x) : Dm S r r x := ⟨h, fun h' => rch_no (rch_root h')⟩
theorem dm_of_root {d : Nat} (h : Dm S r d r) : d = r := by
  refine Classical.byContradiction (fun hn => h.2 (.base (by omega)))
theorem dm_pred {d x p : Nat} (h : Dm S r d x) (hd : d ≠ x) (hp : Rch S (-1) r p) (hx : x ∈ S.getD p []) : Dm S r d p :=
  ⟨hp, fun h' => h.2 (.step h' hx (by omega))⟩
theorem dm_past {a b c : Nat} (h : Rch S (a : Int) r c) : Dm S r b c → Rch S (a : Int) r b := by
  induction h with
  | base h => intro hb; rw [dm_of_root hb]; exact .base h
  | @step q y hq hy hw ih =>
    intro hb
    by_cases e : b = y
    · subst e; exact .step hq hy hw
    · exact ih (dm_pred hb e (rch_all hq) hy)
theorem dm_trans {a b c : Nat} (h1 : Dm S r a b) (h2 : Dm S r b c) : Dm S r a c := ⟨h2.1, fun h => h1.2 (dm_past h h2)⟩
theorem dm_rch {d x : Nat} (h : Dm S r d x) : Rch S (-1) r d := by
  refine Classical.byContradiction (fun hn => h.2 ?_)
  have : ∀ y, Rch S (-1) r y → Rch S (d : Int) r y := by
    intro y hy
    induction hy with
    | base h0 => exact .base (fun e => hn (by rw [← Int.ofNat_inj.mp e]; exact .base h0))
    | @step a y ha hya _ ih => exact .step ih hya (fun e => hn (by rw [← Int.ofNat_inj.mp e]; exact .step ha hya (by omega)))
  exact this x h.1
variable {at_ par : Nat → Nat}
theorem dm_le (hP : Pl S r at_ par) {d : Nat} : ∀ (n x : Nat), at_ x ≤ n → Dm S r d x → at_ d ≤ at_ x := by
  intro n
  induction n with
  | zero =>
    intro x hx h
    by_cases e : d = x
    · subst e; omega
    · by_cases er : x = r
      · subst er; exact absurd (dm_of_root h) e
      · have := (hP.par x h.1 er).2.2; omega
  | succ n ih =>
    intro x hx h
    by_cases e : d = x
    · subst e; omega
    · by_cases er : x = r
      · subst er; exact absurd (dm_of_root h) e
      · obtain ⟨h1, h2, h3⟩ := hP.par x h.1 er
        have := ih (par x) (by omega) (dm_pred h e h1 h2); omega
theorem dm_antisymm (hP : Pl S r at_ par) {a b : Nat} (h1 : Dm S r a b) (h2 : Dm S r b a) : a = b :=
  hP.inj a b h2.1 h1.1 (Nat.le_antisymm (dm_le hP _ _ (Nat.le_refl _) h1) (dm_le hP _ _ (Nat.le_refl _) h2))
/-- The nearest of those that dominate a block. -/
def Idm (S : List (List Nat)) (r z x : Nat) : Prop := Dm S r z x ∧ z ≠ x ∧ ∀ d, Dm S r d x → d ≠ x → Dm S r d z
theorem idm_unique (hP : Pl S r at_ par) {z z' x : Nat} (h : Idm S r z x) (h' : Idm S r z' x) : z = z' :=
  dm_antisymm hP (h'.2.2 z h.1 h.2.1) (h.2.2 z' h'.1 h'.2.1)

/-! #### trees that are being made -/
abbrev Tr := Nat → Option Nat
/-- One is got to from another one, going up. -/
inductive An (T : Tr) (r c : Nat) : Nat → Prop
  | refl {y : Nat} : T c = some y → An T r c c
  | up {x y : Nat} : T x = some y → x ≠ r → An T r c y → An T r c x
inductive Pa (r z : Nat) (par : Nat → Nat) : Nat → Prop
  | refl : Pa r z par z
  | step {x : Nat} : x ≠ r → Pa r z par (par x) → Pa r z par x
theorem Pa.trans {a b c : Nat} (h1 : Pa r a par b) (h2 : Pa r b par c) : Pa r a par c := by
  induction h2 with
  | refl => exact h1
  | step h _ ih => exact .step h ih
structure Inv (S : List (List Nat)) (r : Nat) (at_ par : Nat → Nat) (T : Tr) : Prop where
  root : T r = some r
  rch : ∀ x y, T x = some y → Rch S (-1) r x
  lt : ∀ x y, T x = some y → x ≠ r → at_ y < at_ x ∧ ∃ z, T y = some z
  pa : ∀ x y, T x = some y → x ≠ r → Pa r y par x
  dom : ∀ x y, T x = some y → x ≠ r → ∀ d, Dm S r d x → d ≠ x → Dm S r d y
  low : ∀ x y, T x = some y → x ≠ r → ∀ c, (∀ p z, x ∈ S.getD p [] → T p = some z → An T r c p) → at_ c ≤ at_ y
theorem An.has {T : Tr} {c x : Nat} (h : An T r c x) : ∃ y, T x = some y := by
  cases h with
  | refl h => exact ⟨_, h⟩
  | up h _ _ => exact ⟨_, h⟩
theorem An.top {T : Tr} {c x : Nat} (h : An T r c x) : ∃ y, T c = some y := by
  induction h with
  | refl h => exact ⟨_, h⟩
  | up _ _ _ ih => exact ih
theorem An.trans {T : Tr} {a b c : Nat} (h1 : An T r a b) (h2 : An T r b c) : An T r a c := by
  induction h2 with
  | refl h => exact h1
  | up h hr _ ih => exact .up h hr ih
theorem An.le {T : Tr} (hI : Inv S r at_ par T) {c x : Nat} (h : An T r c x) : at_ c ≤ at_ x := by
  induction h with
  | refl h => exact Nat.le_refl _
  | up h hr _ ih => have := (hI.lt _ _ h hr).1; omega
theorem An.lt {T : Tr} (hI : Inv S r at_ par T) {c x : Nat} (h : An T r c x) (hc : c ≠ x) : at_ c < at_ x := by
  cases h with
  | refl h => exact absurd rfl hc
  | up h hr h2 => have := (hI.lt _ _ h hr).1; have := h2.le hI; omega
theorem An.pa {T : Tr} (hI : Inv S r at_ par T) {c x : Nat} (h : An T r c x) : Pa r c par x := by
  induction h with
  | refl h => exact .refl
  | up h hr _ ih => exact ih.trans (hI.pa _ _ h hr)
theorem dm_an {T : Tr} (hI : Inv S r at_ par T) {d : Nat} : ∀ (n x y : Nat), at_ x ≤ n → T x = some y → Dm S r d x → An T r d x := by
  intro n
  induction n with
  | zero =>
    intro x y hn hx h
    by_cases e : d = x
    · subst e; exact .refl hx
    · by_cases er : x = r
      · subst er; exact absurd (dm_of_root h) e
      · have := (hI.lt x y hx er).1; omega
  | succ n ih =>
    intro x y hn hx h
    by_cases e : d = x
    · subst e; exact .refl hx
    · by_cases er : x = r
      · subst er; exact absurd (dm_of_root h) e
      · obtain ⟨h1, z, h2⟩ := hI.lt x y hx er
        exact .up hx er (ih y z (by omega) h2 (hI.dom x y hx er d h e))
theorem an_dm {T : Tr} (hI : Inv S r at_ par T) {d m q : Nat} (h : An T r m q) : Dm S r d q → at_ d ≤ at_ m → Dm S r d m := by
  induction h with
  | refl h => exact fun h _ => h
  | @up x y h hr h2 ih =>
    intro hd hl
    have h3 := (hI.lt _ _ h hr).1
    have h4 := h2.le hI
    exact ih (hI.dom _ _ h hr d hd (by rintro rfl; omega)) hl
/-- What is right as it is: it is over all from which one comes. -/
def Fx (S : List (List Nat)) (r : Nat) (T : Tr) (x : Nat) : Prop := ∃ z, T x = some z ∧ ∀ p y, x ∈ S.getD p [] → T p = some y → An T r z p
def put (T : Tr) (x m : Nat) : Tr := fun y => if y = x then some m else T y
theorem put_self (T : Tr) (x m : Nat) : put T x m x = some m := by simp [put]
theorem put_ne {T : Tr} {x m y : Nat} (h : y ≠ x) : put T x m y = T y := by simp [put, h]
/-- The nearest one to which one comes from all. -/
def Best (S : List (List Nat)) (r : Nat) (T : Tr) (x m : Nat) : Prop :=
  (∀ p y, x ∈ S.getD p [] → T p = some y → An T r m p) ∧ ∀ c, (∀ p y, x ∈ S.getD p [] → T p = some y → An T r c p) → An T r c m
theorem best_at (hP : Pl S r at_ par) {T : Tr} (hI : Inv S r at_ par T) {x m : Nat} (hx : Rch S (-1) r x) (hr : x ≠ r) (hF : ∀ y, Rch S (-1) r y → at_ y < at_ x → y ≠ r → Fx S r T y) (hB : Best S r T x m) :
    An T r m (par x) ∧ at_ m < at_ x ∧ Pa r m par x := by
  obtain ⟨h1, h2, h3⟩ := hP.par x hx hr
  have h4 : ∃ y, T (par x) = some y := by
    by_cases e : par x = r
    · rw [e]; exact ⟨_, hI.root⟩
    · obtain ⟨z, hz, _⟩ := hF _ h1 h3 e; exact ⟨z, hz⟩
  obtain ⟨y, h4⟩ := h4
  have h5 := hB.1 _ _ h2 h4
  have h6 := h5.le hI
  exact ⟨h5, by omega, .step hr (h5.pa hI)⟩
theorem best_up (hP : Pl S r at_ par) {T : Tr} (hI : Inv S r at_ par T) {x m y : Nat} (hF : ∀ y, Rch S (-1) r y → at_ y < at_ x → y ≠ r → Fx S r T y) (hm : at_ m ≤ at_ y) {v : Nat} (hpa : Pa r y par v) :
    Rch S (-1) r v → at_ v < at_ x → An T r m v → An T r m y := by
  induction hpa with
  | refl => exact fun _ _ h => h
  | @step v hv hp ih =>
    intro hR hv2 ha
    obtain ⟨h1, h2, h3⟩ := hP.par v hR hv
    have hle : at_ y ≤ at_ (par v) := by
      have : ∀ {w : Nat}, Pa r y par w → Rch S (-1) r w → at_ y ≤ at_ w := by
        intro w hw
        induction hw with
        | refl => exact fun _ => Nat.le_refl _
        | @step w hw _ ih => intro hR'; obtain ⟨g1, _, g3⟩ := hP.par w hR' hw; have := ih g1; omega
      exact this hp h1
    obtain ⟨z, hz, hf⟩ := hF v hR hv2 hv
    have hz2 : ∃ y, T (par v) = some y := by
      by_cases e : par v = r
      · rw [e]; exact ⟨_, hI.root⟩
      · obtain ⟨z, hz, _⟩ := hF _ h1 (by omega) e; exact ⟨z, hz⟩
    obtain ⟨z2, hz2⟩ := hz2
    refine ih h1 (by omega) ?_
    cases ha with
    | refl _ => omega
    | @up _ y' h _ h5 =>
      rw [hz] at h; cases h
      exact h5.trans (hf _ _ h2 hz2)
/-- One more step keeps all of it, and goes up. -/
theorem step_inv (hP : Pl S r at_ par) {T : Tr} (hI : Inv S r at_ par T) {x m : Nat} (hx : Rch S (-1) r x) (hr : x ≠ r) (hF : ∀ y, Rch S (-1) r y → at_ y < at_ x → y ≠ r → Fx S r T y) (hB : Best S r T x m) :
    Inv S r at_ par (put T x m) ∧ ∀ y, T x = some y → m ≠ y → at_ m < at_ y := by
  obtain ⟨h1, h2, h3⟩ := best_at hP hI hx hr hF hB
  obtain ⟨p1, p2, p3⟩ := hP.par x hx hr
  obtain ⟨mz, hmz⟩ := h1.top
  have hmx : m ≠ x := by rintro rfl; omega
  have hup : ∀ y, T x = some y → An T r m y := by
    intro y hy
    have hl := hI.low x y hy hr m hB.1
    have hpa := hI.pa x y hy hr
    cases hpa with
    | refl => have := (hI.lt x x hy hr).1; omega
    | step _ hpa => exact best_up hP hI hF hl hpa p1 p3 h1
  have hdown : ∀ {c v : Nat}, An (put T x m) r c v → ∀ z, T v = some z → An T r c v := by
    intro c v h
    induction h with
    | @refl y h => intro z hz; exact .refl hz
    | @up v y h hv h5 ih =>
      intro z hz
      by_cases e : v = x
      · subst e
        rw [put_self] at h; cases h
        exact .up hz hv ((ih _ hmz).trans (hup _ hz))
      · rw [put_ne e, hz] at h; cases h
        obtain ⟨_, z2, h6⟩ := hI.lt v _ hz hv
        exact .up hz hv (ih _ h6)
  have hthere : ∀ v z, T v = some z → ∃ z', put T x m v = some z' := by
    intro v z hz
    by_cases e : v = x
    · subst e; exact ⟨_, put_self _ _ _⟩
    · exact ⟨z, by rw [put_ne e]; exact hz⟩
  refine ⟨⟨?_, ?_, ?_, ?_, ?_, ?_⟩, ?_⟩
  · rw [put_ne (fun e => hr e.symm)]; exact hI.root
  · intro v y hv
    by_cases e : v = x
    · subst e; exact hx
    · rw [put_ne e] at hv; exact hI.rch _ _ hv
  · intro v y hv hvr
    by_cases e : v = x
    · subst e
      rw [put_self] at hv; cases hv
      exact ⟨h2, mz, by rw [put_ne hmx]; exact hmz⟩
    · rw [put_ne e] at hv
      obtain ⟨h6, z, h7⟩ := hI.lt v y hv hvr
      exact ⟨h6, hthere _ _ h7⟩
  · intro v y hv hvr
    by_cases e : v = x
    · subst e
      rw [put_self] at hv; cases hv; exact h3
    · rw [put_ne e] at hv; exact hI.pa v y hv hvr
  · intro v y hv hvr d hd hdv
    by_cases e : v = x
    · subst e
      rw [put_self] at hv; cases hv
      have hall : ∀ p y, v ∈ S.getD p [] → T p = some y → An T r d p := fun p y hp hy => dm_an hI _ p y (Nat.le_refl _) hy (dm_pred hd hdv (hI.rch _ _ hy) hp)
      exact an_dm hI h1 (dm_pred hd hdv p1 p2) ((hB.2 d hall).le hI)
    · rw [put_ne e] at hv; exact hI.dom v y hv hvr d hd hdv
  · intro v y hv hvr c hc
    have hc' : ∀ p z, v ∈ S.getD p [] → T p = some z → An T r c p := by
      intro p z hp hz
      obtain ⟨z', hz'⟩ := hthere p z hz
      exact hdown (hc p z' hp hz') z hz
    by_cases e : v = x
    · subst e
      rw [put_self] at hv; cases hv
      exact (hB.2 c hc').le hI
    · rw [put_ne e] at hv; exact hI.low v y hv hvr c hc'
  · intro y hy hne
    exact (hup y hy).lt hI hne
/-- Where all is right, each entry is the nearest one that dominates. -/
theorem fix_idm {T : Tr} (hI : Inv S r at_ par T) (hF : ∀ y, Rch S (-1) r y → y ≠ r → Fx S r T y) : ∀ x z, T x = some z → x ≠ r → Idm S r z x := by
  have key : ∀ (c x : Nat), Rch S (c : Int) r x → An T r c x → False := by
    intro c x h
    induction h with
    | base h =>
      intro ha
      cases ha with
      | refl _ => exact h rfl
      | up _ h2 _ => exact h2 rfl
    | @step a x ha hx hw ih =>
      intro hA
      have haR := rch_all ha
      cases hA with
      | refl _ => exact hw rfl
      | @up _ z h2 hr h3 =>
        obtain ⟨z', hz', hf⟩ := hF x (.step haR hx (by omega)) hr
        rw [h2] at hz'; cases hz'
        have : ∃ y, T a = some y := by
          by_cases e : a = r
          · rw [e]; exact ⟨_, hI.root⟩
          · obtain ⟨y, hy, _⟩ := hF a haR e; exact ⟨y, hy⟩
        obtain ⟨y, hy⟩ := this
        exact ih (h3.trans (hf a y hx hy))
  intro x z hx hr
  have hR := hI.rch _ _ hx
  obtain ⟨h1, z2, h2⟩ := hI.lt x z hx hr
  refine ⟨⟨hR, fun h => key z x h (.up hx hr (.refl h2))⟩, by rintro rfl; omega, hI.dom x z hx hr⟩
end
end Go.Proofs.Ytoekeknfeinphaa.GP
namespace Go.Proofs.Ytoekeknfeinphaa.GP
open Go.RowKit Go.Proofs.Ytoekeknfeinphaa.G Go.Proofs.YtoekeknfeinphaaW.PrintWords

/-! #### slices.Reverse -/
def rv (l : List Int) (n i t : Nat) : Int := if t < i ∨ n ≤ t + i then l.getD (n - 1 - t) 0 else l.getD t 0
theorem rv_end (l : List Int) (n i : Nat) (hn : l.length = n) (hi : n ≤ 2 * i + 1) : (List.range n).map (rv l n i) = l.reverse := by
  apply ext_getD 0
  · simp [hn]
  · intro t ht
    rw [List.length_map, List.length_range] at ht
    rw [getD_map_range _ _ _ _ ht]
    have e1 : l.reverse.getD t 0 = l.getD (n - 1 - t) 0 := by
      rw [List.getD_eq_getElem?_getD, List.getD_eq_getElem?_getD, List.getElem?_reverse (by omega), hn]
    rw [e1]
    unfold rv
    split
    · rfl
    · next hc => rw [show n - 1 - t = t by omega]
theorem reverse_l0 (l : List Int) (n : Nat) (hn : l.length = n) (hb : n ≤ big) (d : Nat) : ∀ i, 2 * i ≤ n + 1 → n + 1 - 2 * i ≤ d → Ev (fun k => slices_Reverse_int_int.l0 k ((List.range n).map (rv l n i)) (i : Int) ((n : Int) - 1 - (i : Int))) l.reverse := by
  have hbb : big = 9223372036854775807 := rfl
  induction d with
  | zero =>
    intro i hi hd
    refine Ev.succ ?_; simp only [slices_Reverse_int_int.l0]
    refine Ev.ifn (by omega) ?_
    rw [rv_end l n i hn (by omega)]; exact Ev.pure
  | succ d ih =>
    intro i hi hd
    refine Ev.succ ?_; simp only [slices_Reverse_int_int.l0]
    by_cases hc : (i : Int) < (n : Int) - 1 - (i : Int)
    · refine Ev.ifp hc (Ev.ifp (by omega) (Ev.ifp (by simp; omega) (Ev.ifp (by omega) (Ev.ifp (by simp; omega) ?_))))
      have ej : (n : Int) - 1 - (i : Int) = ((n - 1 - i : Nat) : Int) := by omega
      rw [ej]
      have r1 : rd ((List.range n).map (rv l n i)) ((n - 1 - i : Nat) : Int) = l.getD (n - 1 - i) 0 := by
        simp only [rd, Int.toNat_natCast]
        rw [getD_map_range _ _ _ _ (by omega)]
        unfold rv; rw [if_neg (by omega)]
      have r2 : rd ((List.range n).map (rv l n i)) ((i : Nat) : Int) = l.getD i 0 := by
        simp only [rd, Int.toNat_natCast]
        rw [getD_map_range _ _ _ _ (by omega)]
        unfold rv; rw [if_neg (by omega)]
      rw [r1, r2, Int.toNat_natCast, Int.toNat_natCast]
      have s1 : ((List.range n).map (rv l n i)).set i (l.getD (n - 1 - i) 0) = (List.range n).map (fun t => if t = i then l.getD (n - 1 - i) 0 else rv l n i t) :=
        set_map_range _ _ _ _ _ (by simp) (fun j hj => by simp [hj])
      have s2 : ((List.range n).map (fun t => if t = i then l.getD (n - 1 - i) 0 else rv l n i t)).set (n - 1 - i) (l.getD i 0) = (List.range n).map (rv l n (i + 1)) := by
        refine set_map_range _ _ _ _ _ ?_ (fun j hj => ?_)
        · unfold rv; rw [if_pos (by omega), show n - 1 - (n - 1 - i) = i by omega]
        · by_cases e : j = i
          · subst e; rw [if_pos rfl]; unfold rv; rw [if_pos (by omega)]
          · rw [if_neg e]; unfold rv
            by_cases hq : j < i ∨ n ≤ j + i
            · rw [if_pos hq, if_pos (by omega)]
            · rw [if_neg hq, if_neg (by omega)]
      rw [s1, s2, wrap_nat (by omega), wrap_id (by omega) (by omega), show ((n - 1 - i : Nat) : Int) - 1 = (n : Int) - 1 - ((i + 1 : Nat) : Int) by omega]
      exact ih (i + 1) (by omega) (by omega)
    · refine Ev.ifn hc ?_
      rw [rv_end l n i hn (by omega)]; exact Ev.pure
theorem reverse_ok (l : List Int) (hb : l.length ≤ big) : Ev (fun k => slices_Reverse_int_int.f k l) l.reverse := by
  have hbb : big = 9223372036854775807 := rfl
  unfold slices_Reverse_int_int.f
  have e : l = (List.range l.length).map (rv l l.length 0) := by
    apply ext_getD 0
    · simp
    · intro t ht
      rw [getD_map_range _ _ _ _ ht]
      unfold rv; rw [if_neg (by omega)]
  have h := reverse_l0 l l.length rfl hb (l.length + 1) 0 (by omega) (by omega)
  rw [← e] at h
  rw [wrap_id (by omega) (by omega)]
  simpa using h

/-! #### the machine's state -/
def rb (s : Sn) : List Bool := (List.range 64).map s
def ri (nx : Nat → Nat) : List Int := (List.range 64).map (fun z => ((nx z : Nat) : Int))
def updn (nx : Nat → Nat) (x m : Nat) : Nat → Nat := fun z => if z = x then m else nx z
theorem rd_rb (s : Sn) {y : Nat} (h : y < 64) : rdOf false (rb s) (y : Int) = s y := by
  simp only [rdOf, Int.toNat_natCast, rb]; exact getD_map_range _ _ _ _ h
theorem rd_ri (nx : Nat → Nat) {y : Nat} (h : y < 64) : rd (ri nx) (y : Int) = ((nx y : Nat) : Int) := by
  simp only [rd, Int.toNat_natCast, ri]; exact getD_map_range 64 (fun z => ((nx z : Nat) : Int)) _ _ h
theorem set_rb (s : Sn) (y : Nat) : (rb s).set y true = rb (upd s y) :=
  set_map_range _ _ _ _ _ (by simp [upd]) (fun j hj => by simp [upd, hj])
theorem set_ri (nx : Nat → Nat) (x m : Nat) : (ri nx).set x (m : Int) = ri (updn nx x m) :=
  set_map_range _ _ _ _ _ (by simp [updn]) (fun j hj => by simp [updn, hj])
theorem up_snoc (l : List Nat) (x : Nat) : up (l ++ [x]) = up l ++ [(x : Int)] := by simp [up]
theorem rd_snoc (l : List Nat) (x : Nat) : rd (up (l ++ [x])) (l.length : Int) = (x : Int) := by
  rw [rd_up, List.getD_eq_getElem?_getD, List.getElem?_append_right (Nat.le_refl _)]; simp

def After (S : List (List Nat)) (P : List (List Int)) (sn : Sn) (nx : Nat → Nat) (o st : List Nat) (v : List Int) : Prop :=
  Ev (fun k => if ((up st).length : Int) > 0 then graph_Order.l0 k (rb sn) (ri nx) (up o) (up st) (up2 S) P else (slices_Reverse_int_int.f k (up o)).bind fun t => some t) v
theorem order_l0 {S : List (List Nat)} {P : List (List Int)} {sn : Sn} {nx : Nat → Nat} {o st : List Nat} {x : Nat} {v : List Int} (hb : st.length ≤ 64)
    (h : Ev (fun k => graph_Order.l1 k (rb sn) (ri nx) (up o) (up (st ++ [x])) (x : Int) (up2 S) P) v) : Ev (fun k => graph_Order.l0 k (rb sn) (ri nx) (up o) (up (st ++ [x])) (up2 S) P) v := by
  refine Ev.succ ?_; simp only [graph_Order.l0]
  have e : wrap64 (((up (st ++ [x])).length : Int) - 1) = (st.length : Int) := by
    rw [up_length, List.length_append, List.length_singleton, wrap_id (by omega) (by omega)]; omega
  rw [e, rd_snoc]
  exact Ev.ifp (by omega) (Ev.ifp (by rw [up_length, List.length_append, List.length_singleton]; omega) h)

theorem sim {S : List (List Nat)} (h : Gr S) (P : List (List Int)) (v : List Int) : ∀ (f x : Nat) (sn : Sn) (nx : Nat → Nat) (o st : List Nat), x < S.length → sn x = false → cnt S.length sn ≤ f → (∀ z, sn z = false → nx z = 0) →
    o.length + st.length + cnt S.length sn ≤ 64 →
    (∀ nx', (∀ z, (visit S f x (sn, o)).1 z = false → nx' z = 0) → (∀ z, sn z = true → nx' z = nx z) → After S P (visit S f x (sn, o)).1 nx' (visit S f x (sn, o)).2 st v) →
    Ev (fun k => graph_Order.l1 k (rb (upd sn x)) (ri nx) (up o) (up (st ++ [x])) (x : Int) (up2 S) P) v := by
  have hle := h.le
  intro f
  induction f with
  | zero => intro x sn nx o st hx hs hc; have := cnt_pos hx hs; omega
  | succ f ihf =>
    intro x sn nx o st hx hs hc hz0 hB hK
    have hu := cnt_upd hx hs
    have hdeg := gr_len h hx
    rw [visit_succ] at hK
    have inner : ∀ (m j : Nat) (sn1 : Sn) (nx1 : Nat → Nat) (o1 : List Nat), (S.getD x []).length - j = m → j ≤ (S.getD x []).length → nx1 x = j → sn1 x = true → (∀ z, sn1 z = false → nx1 z = 0) → cnt S.length sn1 ≤ f →
        o1.length + (st.length + 1) + cnt S.length sn1 ≤ 64 → (∀ z, sn z = true → sn1 z = true ∧ nx1 z = nx z) → steps S f ((S.getD x []).drop j) (sn1, o1) = steps S f (S.getD x []) (upd sn x, o) →
        Ev (fun k => graph_Order.l1 k (rb sn1) (ri nx1) (up o1) (up (st ++ [x])) (x : Int) (up2 S) P) v := by
      intro m
      induction m with
      | zero =>
        intro j sn1 nx1 o1 hm hj hnx hsx hzz hcc hbb hkeep heq
        refine Ev.succ ?_; simp only [graph_Order.l1]
        rw [rdL_up, up_length, rd_ri nx1 (by omega), hnx]
        refine Ev.ifp (by omega) (Ev.ifp (by omega) (Ev.ifp (by rw [up2_length]; omega) (Ev.ifn (by omega) (Ev.ifp (by rw [up_length]; omega) ?_))))
        simp only [Option.bind_some]
        have e : wrap64 (((up (st ++ [x])).length : Int) - 1) = (st.length : Int) := by
          rw [up_length, List.length_append, List.length_singleton, wrap_id (by omega) (by omega)]; omega
        rw [e, Int.toNat_natCast]
        refine Ev.ifp (by omega) (Ev.ifp (by rw [up_length, List.length_append, List.length_singleton]; omega) ?_)
        have e2 : (up (st ++ [x])).take st.length = up st := by rw [up_snoc]; simp [up]
        rw [e2, ← up_snoc]
        rw [List.drop_of_length_le (by omega)] at heq
        have e3 : steps S f (S.getD x []) (upd sn x, o) = (sn1, o1) := heq.symm
        rw [e3] at hK
        exact hK nx1 hzz (fun z hz => (hkeep z hz).2)
      | succ m ihm =>
        intro j sn1 nx1 o1 hm hj hnx hsx hzz hcc hbb hkeep heq
        have hj1 : j < (S.getD x []).length := by omega
        have hy := (h.row x hx).2 _ (getD_mem (d := 0) hj1)
        have hxS : sn x = false := hs
        rw [drop_getD _ j 0 hj1, steps_cons] at heq
        refine Ev.succ ?_; simp only [graph_Order.l1]
        rw [rdL_up, up_length, rd_ri nx1 (by omega), hnx, rd_up]
        generalize (S.getD x []).getD j 0 = y at hy heq
        refine Ev.ifp (by omega) (Ev.ifp (by omega) (Ev.ifp (by rw [up2_length]; omega) (Ev.ifp (by omega) (Ev.ifp (by omega) ?_))))
        rw [wrap_nat (by omega), Int.toNat_natCast, set_ri]
        simp only [Option.bind_some]
        refine Ev.ifp (by omega) (Ev.ifp (by omega) ?_)
        rw [rd_rb sn1 (by omega)]
        have hkeep2 : ∀ z, sn z = true → sn1 z = true ∧ updn nx1 x (j + 1) z = nx z := fun z hz => by
          refine ⟨(hkeep z hz).1, ?_⟩
          unfold updn; rw [if_neg (by rintro rfl; rw [hz] at hxS; cases hxS)]; exact (hkeep z hz).2
        have hzz2 : ∀ z, sn1 z = false → updn nx1 x (j + 1) z = 0 := fun z hz => by
          unfold updn; rw [if_neg (by rintro rfl; rw [hz] at hsx; cases hsx)]; exact hzz z hz
        by_cases hys : sn1 y = true
        · refine Ev.ifp hys ?_
          rw [if_pos hys] at heq
          exact ihm (j + 1) sn1 (updn nx1 x (j + 1)) o1 (by omega) (by omega) (by simp [updn]) hsx hzz2 hcc hbb hkeep2 heq
        · refine Ev.ifn hys (Ev.ifp (by rw [up_length, List.length_append, List.length_singleton]; omega) ?_)
          rw [if_neg hys] at heq
          have hys' : sn1 y = false := by simpa using hys
          rw [Int.toNat_natCast, set_rb, ← up_snoc]
          refine order_l0 (by rw [List.length_append, List.length_singleton]; omega) ?_
          refine ihf y sn1 (updn nx1 x (j + 1)) o1 (st ++ [x]) hy hys' hcc hzz2 (by rw [List.length_append, List.length_singleton]; omega) (fun nx' hn1 hn2 => ?_)
          have hvis := (visit_vis h f y (sn1, o1) hy hys' hcc).1
          obtain ⟨l, e1, e2, _, _, e5⟩ := hvis.new
          have hmono : ∀ z, sn1 z = true → (visit S f y (sn1, o1)).1 z = true := fun z hz => hvis.mono hz
          unfold After
          refine Ev.ifp (by rw [up_length, List.length_append, List.length_singleton]; omega) ?_
          refine order_l0 (by omega) ?_
          have e5' : l.length + cnt S.length (visit S f y (sn1, o1)).1 = cnt S.length sn1 := e5
          have e1' : (visit S f y (sn1, o1)).2 = o1 ++ l := e1
          refine ihm (j + 1) _ nx' _ (by omega) (by omega) (by rw [hn2 x hsx]; simp [updn]) (hmono x hsx) hn1 (Nat.le_trans (cnt_le hmono) hcc) ?_ (fun z hz => ⟨hmono z (hkeep z hz).1, by rw [hn2 z (hkeep z hz).1]; exact (hkeep2 z hz).2⟩) heq
          rw [e1', List.length_append]; omega
    exact inner _ 0 (upd sn x) nx o rfl (by omega) (hz0 x hs) (upd_self _ _) (fun z hz => hz0 z (by
      cases hq : sn z with
      | false => rfl
      | true => rw [upd_true.mpr (.inr hq)] at hz; cases hz)) (by omega) (by omega) (fun z hz => ⟨upd_true.mpr (.inr hz), rfl⟩) rfl

theorem order_ok {S : List (List Nat)} (h : Gr S) {r : Nat} (hr : r < S.length) : Ev (fun k => graph_Order.f k (up2 S) (up2 (pr S)) (r : Int)) (up (dfs S r)) := by
  have hle := h.le
  unfold graph_Order.f
  refine Ev.bind (may_ok h _) ?_
  refine Ev.ifp (by simp) (Ev.ifn (by omega) ?_)
  refine Ev.succ ?_; simp only [graph_Order.j0]
  refine Ev.ifn (by rw [up2_length]; simp; omega) (Ev.ifp (by omega) (Ev.ifp (by omega) ?_))
  have e1 : (List.replicate 64 false).set ((r : Int)).toNat true = rb (upd none' r) := by
    rw [Int.toNat_natCast, ← set_rb]; rfl
  have e2 : List.replicate 64 (0 : Int) = ri (fun _ => 0) := rfl
  rw [e1, e2]
  have hl := dfs_len h hr
  have := sim h (up2 (pr S)) (up (dfs S r)) S.length r none' (fun _ => 0) [] [] hr rfl (Nat.le_of_eq (cnt_none _)) (fun _ _ => rfl) (by rw [cnt_none]; simp; exact hle) (fun nx' _ _ => by
    unfold After
    refine Ev.ifn (by simp) ?_
    refine Ev.bind (reverse_ok _ ?_) (Ev.pure.of_eq ?_)
    · rw [up_length]
      have e : (dfs S r).length = (visit S S.length r (none', [])).2.length := by rw [dfs, List.length_reverse]
      simp only [big]; omega
    · rw [dfs, up, up, List.map_reverse])
  exact order_l0 (st := []) (by simp) this
theorem order_out {S : List (List Nat)} (h : Gr S) (p : List (List Int)) (r : Int) (hr : r < 0 ∨ (S.length : Int) ≤ r) : Ev (fun k => graph_Order.f k (up2 S) p r) [] := by
  unfold graph_Order.f
  refine Ev.bind (may_ok h _) ?_
  have hj : Ev (fun k => graph_Order.j0 k r true (up2 S) p) ([] : List Int) := by
    refine Ev.succ ?_; simp only [graph_Order.j0]; exact Ev.ifp trivial Ev.pure
  by_cases hp : up2 (pr S) = p
  · refine Ev.ifp (by simp [hp]) ?_
    by_cases h0 : r < 0
    · exact Ev.ifp h0 hj
    · refine Ev.ifn h0 ?_
      rw [decide_eq_true (by rw [up2_length]; omega)]; exact hj
  · exact Ev.ifn (by simp [hp]) hj
theorem order_no {s p : List (List Int)} (r : Int) (hm : Ev (fun k => graph_May.f k s p) false) : Ev (fun k => graph_Order.f k s p r) [] := by
  unfold graph_Order.f
  refine Ev.bind hm (Ev.ifn (by decide) ?_)
  refine Ev.succ ?_; simp only [graph_Order.j0]; exact Ev.ifp trivial Ev.pure

/-! #### each block but the first one has one ahead of it from which it is come to -/
mutual
theorem visit_par (S : List (List Nat)) : ∀ (f x : Nat) (st : Sn × List Nat), ∃ l, (visit S f x st).2 = st.2 ++ l ∧ ∀ l1 z l2, l = l1 ++ z :: l2 → z = x ∨ ∃ p ∈ l2, z ∈ S.getD p []
  | 0, x, st => ⟨[], by simp [visit], fun l1 z l2 e => by simp at e⟩
  | f + 1, x, st => by
    obtain ⟨l, h1, h2⟩ := steps_par S f (S.getD x []) (upd st.1 x, st.2)
    refine ⟨l ++ [x], by rw [visit_succ]; show (steps S f (S.getD x []) (upd st.1 x, st.2)).2 ++ [x] = _; rw [h1, List.append_assoc], fun l1 z l2 e => ?_⟩
    rcases List.append_eq_append_iff.mp e with ⟨m, hm1, hm2⟩ | ⟨m, hm1, hm2⟩
    · cases m with
      | nil => simp at hm2; exact .inl hm2.1.symm
      | cons b m =>
        have := congrArg List.length hm2
        simp only [List.length_append, List.length_cons, List.length_nil] at this; omega
    · cases m with
      | nil => simp at hm2; exact .inl hm2.1
      | cons b m =>
        injection hm2 with e1 e2
        subst e1
        right
        rcases h2 l1 z m hm1 with e3 | ⟨p, hp, e3⟩
        · exact ⟨x, by rw [e2]; simp, e3⟩
        · exact ⟨p, by rw [e2]; exact List.mem_append_left _ hp, e3⟩
theorem steps_par (S : List (List Nat)) : ∀ (f : Nat) (ys : List Nat) (st : Sn × List Nat), ∃ l, (steps S f ys st).2 = st.2 ++ l ∧ ∀ l1 z l2, l = l1 ++ z :: l2 → z ∈ ys ∨ ∃ p ∈ l2, z ∈ S.getD p []
  | f, [], st => ⟨[], by simp [steps], fun l1 z l2 e => by simp at e⟩
  | f, y :: ys, st => by
    rw [steps_cons]
    by_cases hy : st.1 y = true
    · rw [if_pos hy]
      obtain ⟨l, h1, h2⟩ := steps_par S f ys st
      refine ⟨l, h1, fun l1 z l2 e => ?_⟩
      rcases h2 l1 z l2 e with e | e
      · exact .inl (List.mem_cons_of_mem _ e)
      · exact .inr e
    · rw [if_neg hy]
      obtain ⟨la, a1, a2⟩ := visit_par S f y st
      obtain ⟨lb, b1, b2⟩ := steps_par S f ys (visit S f y st)
      refine ⟨la ++ lb, by rw [b1, a1, List.append_assoc], fun l1 z l2 e => ?_⟩
      rcases List.append_eq_append_iff.mp e with ⟨m, hm1, hm2⟩ | ⟨m, hm1, hm2⟩
      · rcases b2 m z l2 hm2 with e | e
        · exact .inl (List.mem_cons_of_mem _ e)
        · exact .inr e
      · cases m with
        | nil =>
          rcases b2 [] z l2 hm2.symm with e | e
          · exact .inl (List.mem_cons_of_mem _ e)
          · exact .inr e
        | cons b m =>
          injection hm2 with e1 e2
          subst e1
          rcases a2 l1 z m hm1 with e3 | ⟨p, hp, e3⟩
          · exact .inl (e3 ▸ List.mem_cons_self ..)
          · exact .inr ⟨p, by rw [e2]; exact List.mem_append_left _ hp, e3⟩
end
theorem dfs_par {S : List (List Nat)} {r : Nat} {l1 l2 : List Nat} {z : Nat} (e : dfs S r = l1 ++ z :: l2) (hz : z ≠ r) : ∃ p ∈ l1, z ∈ S.getD p [] := by
  obtain ⟨l, h1, h2⟩ := visit_par S S.length r (none', [])
  have e2 : l = l2.reverse ++ z :: l1.reverse := by
    have e3 := congrArg List.reverse e
    rw [dfs, List.reverse_reverse, h1] at e3
    simpa using e3
  rcases h2 _ _ _ e2 with e3 | ⟨p, hp, e3⟩
  · exact absurd e3 hz
  · exact ⟨p, List.mem_reverse.mp hp, e3⟩
theorem nodup_inj : ∀ {l : List Nat}, l.Nodup → ∀ {i j : Nat} (hi : i < l.length) (hj : j < l.length), l[i] = l[j] → i = j := by
  intro l
  induction l with
  | nil => intro _ i j hi; simp at hi
  | cons x l ih =>
    intro hn i j hi hj e
    obtain ⟨h1, h2⟩ := List.nodup_cons.mp hn
    cases i with
    | zero => cases j with
      | zero => rfl
      | succ j => exact absurd (by simp at e; rw [e]; exact List.getElem_mem _) h1
    | succ i => cases j with
      | zero => exact absurd (by simp at e; rw [← e]; exact List.getElem_mem _) h1
      | succ j =>
        have := ih h2 (i := i) (j := j) (by simpa using hi) (by simpa using hj) (by simpa using e)
        omega
/-- Places by the order. -/
def Places (o : List Nat) (at_ : Nat → Nat) : Prop := ∀ j, j < o.length → at_ (o.getD j 0) = j
theorem mem_at {o : List Nat} {x : Nat} (h : x ∈ o) : ∃ i, i < o.length ∧ o.getD i 0 = x := by
  obtain ⟨i, hi, e⟩ := List.getElem_of_mem h
  exact ⟨i, hi, by rw [List.getD_eq_getElem?_getD, List.getElem?_eq_getElem hi]; exact e⟩
theorem dfs_pl {S : List (List Nat)} (h : Gr S) {r : Nat} (hr : r < S.length) {at_ : Nat → Nat} (ha : Places (dfs S r) at_) : ∃ par, Pl S r at_ par := by
  have key : ∀ x, Rch S (-1) r x → x ≠ r → ∃ p, Rch S (-1) r p ∧ x ∈ S.getD p [] ∧ at_ p < at_ x := by
    intro x hx hxr
    obtain ⟨i, hi, e⟩ := mem_at ((dfs_mem h hr x).mpr hx)
    have e2 : dfs S r = (dfs S r).take i ++ x :: (dfs S r).drop (i + 1) := by
      have e1 := drop_getD (dfs S r) i 0 hi
      rw [e] at e1
      rw [← e1, List.take_append_drop]
    obtain ⟨p, hp, hpx⟩ := dfs_par e2 hxr
    have hp2 := List.mem_of_mem_take hp
    refine ⟨p, (dfs_mem h hr p).mp hp2, hpx, ?_⟩
    obtain ⟨j, hj, e3⟩ := List.getElem_of_mem hp
    have hj' : j < i := by simp at hj; omega
    have e4 : (dfs S r).getD j 0 = p := by
      rw [List.getD_eq_getElem?_getD, List.getElem?_eq_getElem (by omega)]
      rw [List.getElem_take] at e3; exact e3
    rw [← e4, ha j (by omega), ← e, ha i hi]; exact hj'
  have := fun x => Classical.propDecidable (Rch S (-1) r x ∧ x ≠ r)
  refine ⟨fun x => if hx : Rch S (-1) r x ∧ x ≠ r then (key x hx.1 hx.2).choose else 0, ?_, ?_⟩
  · intro x y hx hy e
    obtain ⟨i, hi, e1⟩ := mem_at ((dfs_mem h hr x).mpr hx)
    obtain ⟨j, hj, e2⟩ := mem_at ((dfs_mem h hr y).mpr hy)
    rw [← e1, ← e2, ha i hi, ha j hj] at e
    rw [← e1, ← e2, e]
  · intro x hx hxr
    simp only [dif_pos (show Rch S (-1) r x ∧ x ≠ r from ⟨hx, hxr⟩)]
    exact (key x hx hxr).choose_spec

/-! #### lists of entries -/
def tv (T : Tr) (x : Nat) : Int := match T x with | none => -2 | some y => (y : Int)
def tl (n : Nat) (T : Tr) : List Int := (List.range n).map (tv T)
def li (n : Nat) (f : Nat → Nat) : List Int := (List.range n).map (fun x => ((f x : Nat) : Int))
@[simp] theorem tl_length (n : Nat) (T : Tr) : (tl n T).length = n := by simp [tl]
@[simp] theorem li_length (n : Nat) (f : Nat → Nat) : (li n f).length = n := by simp [li]
theorem rd_tl {n : Nat} (T : Tr) {x : Nat} (h : x < n) : rd (tl n T) (x : Int) = tv T x := by
  simp only [rd, Int.toNat_natCast, tl]; exact getD_map_range _ _ _ _ h
theorem rd_li {n : Nat} (f : Nat → Nat) {x : Nat} (h : x < n) : rd (li n f) (x : Int) = ((f x : Nat) : Int) := by
  simp only [rd, Int.toNat_natCast, li]; exact getD_map_range _ _ _ _ h
theorem set_tl (n : Nat) (T : Tr) (x y : Nat) : (tl n T).set x (y : Int) = tl n (put T x y) :=
  set_map_range _ _ _ _ _ (by simp [tv, put]) (fun j hj => by simp [tv, put, hj])
def updn' (f : Nat → Nat) (x v : Nat) : Nat → Nat := fun y => if y = x then v else f y
theorem set_li (n : Nat) (f : Nat → Nat) (x v : Nat) : (li n f).set x (v : Int) = li n (updn' f x v) :=
  set_map_range _ _ _ _ _ (by simp [updn']) (fun j hj => by simp [updn', hj])
theorem tv_some {T : Tr} {x y : Nat} (h : T x = some y) : tv T x = (y : Int) := by simp [tv, h]
theorem tv_none {T : Tr} {x : Nat} (h : T x = none) : tv T x = -2 := by simp [tv, h]

/-! #### where two ways up meet -/
def Lca (T : Tr) (r a b m : Nat) : Prop := An T r m a ∧ An T r m b ∧ ∀ c, An T r c a → An T r c b → An T r c m
section
variable {S : List (List Nat)} {r n : Nat} {at_ par : Nat → Nat} {T : Tr}
theorem lca_left (hI : Inv S r at_ par T) {a a' b m : Nat} (ha : T a = some a') (hr : a ≠ r) (hlt : at_ b < at_ a) (h : Lca T r a' b m) : Lca T r a b m := by
  refine ⟨.up ha hr h.1, h.2.1, fun c h1 h2 => ?_⟩
  cases h1 with
  | refl _ => have := h2.le hI; omega
  | up h3 _ h4 => rw [ha] at h3; cases h3; exact h.2.2 c h4 h2
theorem lca_right (hI : Inv S r at_ par T) {a b b' m : Nat} (hb : T b = some b') (hr : b ≠ r) (hlt : at_ a < at_ b) (h : Lca T r a b' m) : Lca T r a b m := by
  refine ⟨h.1, .up hb hr h.2.1, fun c h1 h2 => ?_⟩
  cases h2 with
  | refl _ => have := h1.le hI; omega
  | up h3 _ h4 => rw [hb] at h3; cases h3; exact h.2.2 c h1 h4
theorem meet_all (hG : Gr S) (hr : r < S.length) (hP : Pl S r at_ par) (h0 : at_ r = 0) (hI : Inv S r at_ par T) : ∀ (N a b a' b' : Nat), at_ a + at_ b ≤ N → T a = some a' → T b = some b' →
    (∃ m : Nat, Ev (fun k => dom_meet.l0 k (tl S.length T) (li S.length at_) (a : Int) (b : Int)) (m : Int) ∧ Lca T r a b m) ∧
    (∃ m : Nat, Ev (fun k => dom_meet.l1 k (tl S.length T) (li S.length at_) (a : Int) (b : Int)) (m : Int) ∧ Lca T r a b m) ∧
    (∃ m : Nat, Ev (fun k => dom_meet.l2 k (tl S.length T) (li S.length at_) (a : Int) (b : Int)) (m : Int) ∧ Lca T r a b m) := by
  intro N
  induction N with
  | zero =>
    intro a b a' b' hN ha hb
    have e : a = b := hP.inj a b (hI.rch _ _ ha) (hI.rch _ _ hb) (by omega)
    subst e
    have hal := (hI.rch _ _ ha).lt hG hr
    have hl : Lca T r a a a := ⟨.refl ha, .refl ha, fun c h _ => h⟩
    have l0 : Ev (fun k => dom_meet.l0 k (tl S.length T) (li S.length at_) (a : Int) (a : Int)) (a : Int) := by
      refine Ev.succ ?_; simp only [dom_meet.l0]; exact Ev.ifp trivial Ev.pure
    have l2 : Ev (fun k => dom_meet.l2 k (tl S.length T) (li S.length at_) (a : Int) (a : Int)) (a : Int) := by
      refine Ev.succ ?_; simp only [dom_meet.l2]
      exact Ev.ifp (by omega) (Ev.ifp (by rw [li_length]; omega) (Ev.ifp (by omega) (Ev.ifp (by rw [li_length]; omega) (Ev.ifn (by omega) l0))))
    have l1 : Ev (fun k => dom_meet.l1 k (tl S.length T) (li S.length at_) (a : Int) (a : Int)) (a : Int) := by
      refine Ev.succ ?_; simp only [dom_meet.l1]
      exact Ev.ifp (by omega) (Ev.ifp (by rw [li_length]; omega) (Ev.ifp (by omega) (Ev.ifp (by rw [li_length]; omega) (Ev.ifn (by omega) l2))))
    exact ⟨⟨a, l0, hl⟩, ⟨a, l1, hl⟩, ⟨a, l2, hl⟩⟩
  | succ N ih =>
    intro a b a' b' hN ha hb
    have hal := (hI.rch _ _ ha).lt hG hr
    have hbl := (hI.rch _ _ hb).lt hG hr
    have pass1 : ∀ {v : Int}, at_ a ≤ at_ b → Ev (fun k => dom_meet.l2 k (tl S.length T) (li S.length at_) (a : Int) (b : Int)) v → Ev (fun k => dom_meet.l1 k (tl S.length T) (li S.length at_) (a : Int) (b : Int)) v := by
      intro v hle h
      refine Ev.succ ?_; simp only [dom_meet.l1]
      exact Ev.ifp (by omega) (Ev.ifp (by rw [li_length]; omega) (Ev.ifp (by omega) (Ev.ifp (by rw [li_length]; omega) (Ev.ifn (by rw [rd_li _ hal, rd_li _ hbl]; omega) h))))
    have pass2 : ∀ {v : Int}, at_ b ≤ at_ a → Ev (fun k => dom_meet.l0 k (tl S.length T) (li S.length at_) (a : Int) (b : Int)) v → Ev (fun k => dom_meet.l2 k (tl S.length T) (li S.length at_) (a : Int) (b : Int)) v := by
      intro v hle h
      refine Ev.succ ?_; simp only [dom_meet.l2]
      exact Ev.ifp (by omega) (Ev.ifp (by rw [li_length]; omega) (Ev.ifp (by omega) (Ev.ifp (by rw [li_length]; omega) (Ev.ifn (by rw [rd_li _ hal, rd_li _ hbl]; omega) h))))
    have pass0 : ∀ {v : Int}, a ≠ b → Ev (fun k => dom_meet.l1 k (tl S.length T) (li S.length at_) (a : Int) (b : Int)) v → Ev (fun k => dom_meet.l0 k (tl S.length T) (li S.length at_) (a : Int) (b : Int)) v := by
      intro v hne h
      refine Ev.succ ?_; simp only [dom_meet.l0]
      exact Ev.ifn (by omega) h
    rcases Nat.lt_trichotomy (at_ a) (at_ b) with hlt | heq | hgt
    · have hbr : b ≠ r := by rintro rfl; omega
      obtain ⟨h1, z, h2⟩ := hI.lt b b' hb hbr
      have hb'l := (hI.rch _ _ h2).lt hG hr
      obtain ⟨_, _, m, h3, h4⟩ := ih a b' a' z (by omega) ha h2
      have h5 := lca_right hI hb hbr hlt h4
      have l2 : Ev (fun k => dom_meet.l2 k (tl S.length T) (li S.length at_) (a : Int) (b : Int)) (m : Int) := by
        refine Ev.succ ?_; simp only [dom_meet.l2]
        refine Ev.ifp (by omega) (Ev.ifp (by rw [li_length]; omega) (Ev.ifp (by omega) (Ev.ifp (by rw [li_length]; omega) (Ev.ifp (by rw [rd_li _ hal, rd_li _ hbl]; omega) (Ev.ifp (by rw [tl_length]; omega) ?_)))))
        rw [rd_tl _ hbl, tv_some hb]; exact h3
      have l1 := pass1 (by omega) l2
      exact ⟨⟨m, pass0 (by rintro rfl; omega) l1, h5⟩, ⟨m, l1, h5⟩, ⟨m, l2, h5⟩⟩
    · have e : a = b := hP.inj a b (hI.rch _ _ ha) (hI.rch _ _ hb) heq
      subst e
      have hl : Lca T r a a a := ⟨.refl ha, .refl ha, fun c h _ => h⟩
      have l0 : Ev (fun k => dom_meet.l0 k (tl S.length T) (li S.length at_) (a : Int) (a : Int)) (a : Int) := by
        refine Ev.succ ?_; simp only [dom_meet.l0]; exact Ev.ifp trivial Ev.pure
      have l2 := pass2 (by omega) l0
      exact ⟨⟨a, l0, hl⟩, ⟨a, pass1 (by omega) l2, hl⟩, ⟨a, l2, hl⟩⟩
    · have har : a ≠ r := by rintro rfl; omega
      obtain ⟨h1, z, h2⟩ := hI.lt a a' ha har
      obtain ⟨_, ⟨m, h3, h4⟩, _⟩ := ih a' b z b' (by omega) h2 hb
      have h5 := lca_left hI ha har hgt h4
      have l1 : Ev (fun k => dom_meet.l1 k (tl S.length T) (li S.length at_) (a : Int) (b : Int)) (m : Int) := by
        refine Ev.succ ?_; simp only [dom_meet.l1]
        refine Ev.ifp (by omega) (Ev.ifp (by rw [li_length]; omega) (Ev.ifp (by omega) (Ev.ifp (by rw [li_length]; omega) (Ev.ifp (by rw [rd_li _ hal, rd_li _ hbl]; omega) (Ev.ifp (by rw [tl_length]; omega) ?_)))))
        rw [rd_tl _ hal, tv_some ha]; exact h3
      have l0 := pass0 (by rintro rfl; omega) l1
      exact ⟨⟨m, l0, h5⟩, ⟨m, l1, h5⟩, ⟨m, pass2 (by omega) l0, h5⟩⟩
theorem meet3 (hG : Gr S) (hr : r < S.length) (hP : Pl S r at_ par) (h0 : at_ r = 0) (hI : Inv S r at_ par T) {a b a' b' : Nat} (ha : T a = some a') (hb : T b = some b') :
    ∃ m : Nat, Ev (fun k => dom_meet.f k (tl S.length T) (li S.length at_) (a : Int) (b : Int)) (m : Int) ∧ Lca T r a b m := by
  unfold dom_meet.f
  exact (meet_all hG hr hP h0 hI _ a b a' b' (Nat.le_refl _) ha hb).1

/-! #### the best one of those from which one comes -/
/-- What is best of some blocks from which one comes: nothing, or the nearest one over all that there is of them. -/
def BestOf (T : Tr) (r : Nat) (ps : List Nat) (best : Int) : Prop :=
  ((∀ p ∈ ps, T p = none) ∧ best = -2) ∨ ∃ b : Nat, best = (b : Int) ∧ (∃ z, T b = some z) ∧ (∀ p ∈ ps, ∀ z, T p = some z → An T r b p) ∧ ∀ c, (∀ p ∈ ps, ∀ z, T p = some z → An T r c p) → An T r c b
theorem bestOf_nil : BestOf T r [] (-2) := .inl ⟨by simp, rfl⟩
theorem tree_l3 (hG : Gr S) (hr : r < S.length) (hP : Pl S r at_ par) (h0 : at_ r = 0) (hI : Inv S r at_ par T) {x : Nat} (hx : x < S.length) (o y : List Int) (i : Int) (v : List Int)
    (d : Nat) : ∀ (j : Nat) (best : Int), ((pr S).getD x []).length - j = d → j ≤ ((pr S).getD x []).length → BestOf T r (((pr S).getD x []).take j) best →
    (∀ best', BestOf T r ((pr S).getD x []) best' → Ev (fun k => if tv T x = best' then dom_Tree.l2 k (r : Int) o (tl S.length T) (li S.length at_) y (y.length : Int) (wrap64 (i + 1)) (up2 S) (up2 (pr S)) else dom_Tree.l1 k (r : Int) o ((tl S.length T).set x best') (li S.length at_) (up2 S) (up2 (pr S))) v) →
    Ev (fun k => dom_Tree.l3 k (r : Int) o (tl S.length T) (li S.length at_) (x : Int) best y (y.length : Int) i (up ((pr S).getD x [])) ((up ((pr S).getD x [])).length : Int) (j : Int) (up2 S) (up2 (pr S))) v := by
  have hlen : ((pr S).getD x []).length ≤ 64 := gr_len (gr_pr hG) (by rw [pr_length]; exact hx)
  induction d with
  | zero =>
    intro j best hd hj hB hK
    refine Ev.succ ?_; simp only [dom_Tree.l3]
    refine Ev.ifn (by rw [up_length]; omega) (Ev.ifp (by omega) (Ev.ifp (by rw [tl_length]; omega) ?_))
    rw [rd_tl _ hx, Int.toNat_natCast]
    rw [List.take_of_length_le (by omega)] at hB
    exact hK best hB
  | succ d ih =>
    intro j best hd hj hB hK
    have hj1 : j < ((pr S).getD x []).length := by omega
    have hmem : ((pr S).getD x []).getD j 0 ∈ (pr S).getD x [] := getD_mem hj1
    have hp := (mem_pr hx).mp hmem
    have htk := take_getD ((pr S).getD x []) j 0 hj1
    refine Ev.succ ?_; simp only [dom_Tree.l3]
    rw [rd_up]
    generalize ((pr S).getD x []).getD j 0 = p at hmem hp htk
    have hstep : ∀ best', BestOf T r (((pr S).getD x []).take (j + 1)) best' → Ev (fun k => dom_Tree.l3 k (r : Int) o (tl S.length T) (li S.length at_) (x : Int) best' y (y.length : Int) i (up ((pr S).getD x [])) ((up ((pr S).getD x [])).length : Int) (wrap64 ((j : Int) + 1)) (up2 S) (up2 (pr S))) v := by
      intro best' hB'
      rw [wrap_nat (by omega)]
      exact ih (j + 1) best' (by omega) (by omega) hB' hK
    refine Ev.ifp (by rw [up_length]; omega) (Ev.ifp (by omega) (Ev.ifp (by rw [up_length]; omega) (Ev.ifp (by omega) (Ev.ifp (by rw [tl_length]; omega) ?_))))
    rw [rd_tl _ hp.1]
    cases hT : T p with
    | none =>
      refine Ev.ifp (tv_none hT) (hstep best ?_)
      rw [htk]
      rcases hB with ⟨h1, h2⟩ | ⟨b, h1, h2, h3, h4⟩
      · refine .inl ⟨fun q hq => ?_, h2⟩
        rcases List.mem_append.mp hq with e | e
        · exact h1 q e
        · rw [List.mem_singleton.mp e]; exact hT
      · refine .inr ⟨b, h1, h2, fun q hq z hz => ?_, fun c hc => h4 c (fun q hq => hc q (List.mem_append_left _ hq))⟩
        rcases List.mem_append.mp hq with e | e
        · exact h3 q e z hz
        · rw [List.mem_singleton.mp e, hT] at hz; cases hz
    | some p' =>
      refine Ev.ifn (by rw [tv_some hT]; omega) ?_
      rcases hB with ⟨h1, h2⟩ | ⟨b, h1, ⟨bz, h2⟩, h3, h4⟩
      · refine Ev.ifp h2 (hstep (p : Int) ?_)
        rw [htk]
        refine .inr ⟨p, rfl, ⟨p', hT⟩, fun q hq z hz => ?_, fun c hc => hc p (by simp) p' hT⟩
        rcases List.mem_append.mp hq with e | e
        · rw [h1 q e] at hz; cases hz
        · rw [List.mem_singleton.mp e]; exact .refl hT
      · refine Ev.ifn (by omega) ?_
        obtain ⟨m, g1, g2, g3, g4⟩ := meet3 hG hr hP h0 hI h2 hT
        rw [h1]
        refine Ev.bind g1 (hstep (m : Int) ?_)
        rw [htk]
        refine .inr ⟨m, rfl, g2.top, fun q hq z hz => ?_, fun c hc => g4 c (h4 c (fun q hq => hc q (List.mem_append_left _ hq))) (hc p (by simp) p' hT)⟩
        rcases List.mem_append.mp hq with e | e
        · exact g2.trans (h3 q e z hz)
        · rw [List.mem_singleton.mp e]; exact g3

/-! #### the whole -/
def wt (n : Nat) (at_ : Nat → Nat) (T : Tr) : Nat := ((List.range n).map (fun x => match T x with | none => n | some y => at_ y)).sum
theorem sum_le {l : List Nat} {f g : Nat → Nat} (h : ∀ x ∈ l, f x ≤ g x) : (l.map f).sum ≤ (l.map g).sum := by
  induction l with
  | nil => simp
  | cons x l ih =>
    have h1 := ih (fun y hy => h y (List.mem_cons_of_mem _ hy))
    have h2 := h x (List.mem_cons_self ..)
    simp only [List.map_cons, List.sum_cons]; omega
theorem sum_lt {l : List Nat} {f g : Nat → Nat} (h : ∀ x ∈ l, f x ≤ g x) {z : Nat} (hz : z ∈ l) (hl : f z < g z) : (l.map f).sum < (l.map g).sum := by
  induction l with
  | nil => cases hz
  | cons x l ih =>
    have h1 := sum_le (fun y hy => h y (List.mem_cons_of_mem x hy))
    have h2 := h x (List.mem_cons_self ..)
    simp only [List.map_cons, List.sum_cons]
    rcases List.mem_cons.mp hz with e | e
    · subst e; omega
    · have := ih (fun y hy => h y (List.mem_cons_of_mem _ hy)) e; omega
open Classical in
/-- A block's entry: the nearest of those that dominate it; -1: the root; -2: it isn't reached. -/
noncomputable def idv (S : List (List Nat)) (r x : Nat) : Int := if x = r then -1 else if h : ∃ z, Idm S r z x then (h.choose : Int) else -2
noncomputable def dtl (S : List (List Nat)) (r : Nat) : List Int := (List.range S.length).map (idv S r)
theorem idv_root : idv S r r = -1 := by simp [idv]
theorem idv_idm (hP : Pl S r at_ par) {x z : Nat} (hx : x ≠ r) (h : Idm S r z x) : idv S r x = (z : Int) := by
  have hex : ∃ z, Idm S r z x := ⟨z, h⟩
  unfold idv
  rw [if_neg hx, dif_pos hex, idm_unique hP hex.choose_spec h]
theorem idv_no {x : Nat} (hr : r < S.length) (hx : ¬ Rch S (-1) r x) : idv S r x = -2 := by
  unfold idv
  rw [if_neg (fun e => hx (by subst e; exact .base (by omega))), dif_neg (fun h => by obtain ⟨z, hz⟩ := h; exact hx hz.1.1)]
theorem tree_end (hP : Pl S r at_ par) (hr : r < S.length) (hI : Inv S r at_ par T) (hF : ∀ y, Rch S (-1) r y → y ≠ r → Fx S r T y) : (tl S.length T).set r (-1) = dtl S r := by
  refine set_map_range _ _ _ _ _ idv_root (fun j hj => ?_)
  by_cases hR : Rch S (-1) r j
  · obtain ⟨z, hz, _⟩ := hF j hR hj
    rw [tv_some hz]
    exact idv_idm hP hj (fix_idm hI hF j z hz hj)
  · rw [idv_no hr hR]
    cases hT : T j with
    | none => exact (tv_none hT).symm
    | some y => exact absurd (hI.rch _ _ hT) hR
theorem tree_go (hG : Gr S) (hr : r < S.length) (ha : Places (dfs S r) at_) (hP : Pl S r at_ par) (hI : Inv S r at_ par T)
    (hgo : ∀ T', Inv S r at_ par T' → wt S.length at_ T' < wt S.length at_ T → Ev (fun k => dom_Tree.l1 k (r : Int) (up (dfs S r)) (tl S.length T') (li S.length at_) (up2 S) (up2 (pr S))) (dtl S r)) :
    Ev (fun k => dom_Tree.l1 k (r : Int) (up (dfs S r)) (tl S.length T) (li S.length at_) (up2 S) (up2 (pr S))) (dtl S r) := by
  obtain ⟨tail, htail⟩ := dfs_head hG r
  have hle := hG.le
  have hdl := dfs_len hG hr
  have h0 : at_ r = 0 := by have := ha 0 (by rw [htail]; simp); rw [htail] at this; simpa using this
  have htl : tail.length + 1 = (dfs S r).length := by rw [htail]; simp
  have hget : ∀ i, (dfs S r).getD (i + 1) 0 = tail.getD i 0 := by intro i; rw [htail]; simp
  have hatn : ∀ y, Rch S (-1) r y → at_ y < S.length := by
    intro y hy
    obtain ⟨i, hi, e⟩ := mem_at ((dfs_mem hG hr y).mpr hy)
    rw [← e, ha i hi]; omega
  have l2 : ∀ (d i : Nat), tail.length - i = d → i ≤ tail.length → (∀ y, Rch S (-1) r y → at_ y ≤ i → y ≠ r → Fx S r T y) →
      Ev (fun k => dom_Tree.l2 k (r : Int) (up (dfs S r)) (tl S.length T) (li S.length at_) (up tail) ((up tail).length : Int) (i : Int) (up2 S) (up2 (pr S))) (dtl S r) := by
    intro d
    induction d with
    | zero =>
      intro i hd hi hF
      refine Ev.succ ?_; simp only [dom_Tree.l2]
      refine Ev.ifn (by rw [up_length]; omega) (Ev.ifp (by omega) (Ev.ifp (by rw [tl_length]; omega) (Ev.pure.of_eq ?_)))
      rw [Int.toNat_natCast]
      refine tree_end hP hr hI (fun y hy hyr => hF y hy ?_ hyr)
      obtain ⟨j, hj, e⟩ := mem_at ((dfs_mem hG hr y).mpr hy)
      rw [← e, ha j hj]; omega
    | succ d ih =>
      intro i hd hi hF
      have hi1 : i + 1 < (dfs S r).length := by omega
      have hmem : (dfs S r).getD (i + 1) 0 ∈ dfs S r := getD_mem hi1
      have hat := ha (i + 1) hi1
      rw [hget] at hmem hat
      have hxr : tail.getD i 0 ≠ r := by intro e; rw [e, h0] at hat; omega
      refine Ev.succ ?_; simp only [dom_Tree.l2]
      rw [rd_up]
      generalize tail.getD i 0 = x at hmem hat hxr
      have hxl := dfs_lt hG hr x hmem
      have hxR := (dfs_mem hG hr x).mp hmem
      have hF' : ∀ y, Rch S (-1) r y → at_ y < at_ x → y ≠ r → Fx S r T y := fun y hy hlt hyr => hF y hy (by omega) hyr
      refine Ev.ifp (by rw [up_length]; omega) (Ev.ifp (by omega) (Ev.ifp (by rw [up_length]; omega) (Ev.ifp (by omega) (Ev.ifp (by rw [up2_length, pr_length]; omega) ?_))))
      rw [rdL_up]
      refine tree_l3 hG hr hP h0 hI hxl (up (dfs S r)) (up tail) (i : Int) (dtl S r) _ 0 (-2) rfl (by omega) (by rw [List.take_zero]; exact bestOf_nil) (fun best hB => ?_)
      obtain ⟨pR, pS, pA⟩ := hP.par x hxR hxr
      have hpl := pR.lt hG hr
      obtain ⟨pz, hpz⟩ : ∃ z, T (par x) = some z := by
        by_cases e : par x = r
        · rw [e]; exact ⟨_, hI.root⟩
        · obtain ⟨z, hz, _⟩ := hF' _ pR pA e; exact ⟨z, hz⟩
      have hpm : par x ∈ (pr S).getD x [] := (mem_pr hxl).mpr ⟨hpl, pS⟩
      rcases hB with ⟨h1, _⟩ | ⟨b, h1, ⟨bz, h2⟩, h3, h4⟩
      · have := h1 _ hpm; rw [hpz] at this; cases this
      · have hall : ∀ p z, x ∈ S.getD p [] → T p = some z → p ∈ (pr S).getD x [] := fun p z hp hz => (mem_pr hxl).mpr ⟨(hI.rch _ _ hz).lt hG hr, hp⟩
        have hBest : Best S r T x b := ⟨fun p y hp hy => h3 p (hall p y hp hy) y hy, fun c hc => h4 c (fun p hp z hz => hc p z ((mem_pr hxl).mp hp).2 hz)⟩
        subst h1
        by_cases e : tv T x = (b : Int)
        · refine Ev.ifp e ?_
          rw [wrap_nat (by omega)]
          refine ih (i + 1) (by omega) (by omega) (fun y hy hyi hyr => ?_)
          by_cases e2 : at_ y ≤ i
          · exact hF y hy e2 hyr
          · have e3 : y = x := hP.inj y x hy hxR (by omega)
            subst e3
            refine ⟨b, ?_, hBest.1⟩
            cases hT : T y with
            | none => rw [tv_none hT] at e; omega
            | some q => rw [tv_some hT] at e; rw [Int.ofNat_inj.mp e]
        · refine Ev.ifn e ?_
          rw [set_tl]
          obtain ⟨g1, g2⟩ := step_inv hP hI hxR hxr hF' hBest
          refine hgo _ g1 ?_
          have hbn := hatn b (hI.rch _ _ h2)
          have hlt : at_ b < (match T x with | none => S.length | some y => at_ y) := by
            cases hT : T x with
            | none => exact hbn
            | some q => exact g2 q hT (fun e4 => e (by rw [tv_some hT, e4]))
          refine sum_lt (fun y _ => ?_) (List.mem_range.mpr hxl) (by simp only [put_self]; exact hlt)
          by_cases e5 : y = x
          · subst e5; simp only [put_self]; exact Nat.le_of_lt hlt
          · rw [put_ne e5]; exact Nat.le_refl _
  refine Ev.succ ?_; simp only [dom_Tree.l1]
  refine Ev.ifp (by rw [up_length]; omega) ?_
  simp only [Option.bind_some]
  have e : (up (dfs S r)).drop 1 = up tail := by rw [htail]; simp [up]
  rw [e]
  refine l2 _ 0 rfl (by omega) (fun y hy hy0 hyr => ?_)
  exact absurd (hP.inj y r hy (.base (by omega)) (by omega)) hyr
theorem tree_l1 (hG : Gr S) (hr : r < S.length) (ha : Places (dfs S r) at_) (hP : Pl S r at_ par) : ∀ (M : Nat) (T : Tr), Inv S r at_ par T → wt S.length at_ T < M →
    Ev (fun k => dom_Tree.l1 k (r : Int) (up (dfs S r)) (tl S.length T) (li S.length at_) (up2 S) (up2 (pr S))) (dtl S r) := by
  intro M
  induction M with
  | zero => intro T _ h; omega
  | succ M ih => intro T hI hM; exact tree_go hG hr ha hP hI (fun T' hI' h => ih T' hI' (by omega))
theorem tree_l0 (hG : Gr S) (hr : r < S.length) (d : Nat) : ∀ (i : Nat) (f : Nat → Nat), (dfs S r).length - i = d → i ≤ (dfs S r).length → (∀ j, j < i → f ((dfs S r).getD j 0) = j) →
    Ev (fun k => dom_Tree.l0 k (r : Int) (up (dfs S r)) (List.replicate S.length (-2)) (li S.length f) (up (dfs S r)) ((up (dfs S r)).length : Int) (i : Int) (up2 S) (up2 (pr S))) (dtl S r) := by
  have hle := hG.le
  have hdl := dfs_len hG hr
  induction d with
  | zero =>
    intro i f hd hi hf
    have ha : Places (dfs S r) f := fun j hj => hf j (by omega)
    obtain ⟨par, hP⟩ := dfs_pl hG hr ha
    refine Ev.succ ?_; simp only [dom_Tree.l0]
    refine Ev.ifn (by rw [up_length]; omega) (Ev.ifp (by omega) (Ev.ifp (by simp; omega) ?_))
    have e : (List.replicate S.length (-2 : Int)).set ((r : Int)).toNat (r : Int) = tl S.length (put (fun _ => none) r r) := by
      have e1 : List.replicate S.length (-2 : Int) = tl S.length (fun _ => none) := by
        apply List.ext_getElem
        · simp
        · intro j h1 h2; simp [tl, tv]
      rw [e1, Int.toNat_natCast, set_tl]
    rw [e]
    have hI : Inv S r f par (put (fun _ => none) r r) := by
      have hn : ∀ {x y : Nat}, put (fun _ => none) r r x = some y → x = r := by
        intro x y h
        by_cases e : x = r
        · exact e
        · rw [put_ne e] at h; cases h
      exact ⟨put_self _ _ _, fun x y h => by rw [hn h]; exact .base (by omega), fun x y h hx => absurd (hn h) hx, fun x y h hx => absurd (hn h) hx, fun x y h hx => absurd (hn h) hx, fun x y h hx => absurd (hn h) hx⟩
    exact tree_l1 hG hr ha hP _ _ hI (Nat.lt_succ_self _)
  | succ d ih =>
    intro i f hd hi hf
    have hi1 : i < (dfs S r).length := by omega
    have hmem : (dfs S r).getD i 0 ∈ dfs S r := getD_mem hi1
    have hxl := dfs_lt hG hr _ hmem
    refine Ev.succ ?_; simp only [dom_Tree.l0]
    rw [rd_up]
    refine Ev.ifp (by rw [up_length]; omega) (Ev.ifp (by omega) (Ev.ifp (by rw [up_length]; omega) (Ev.ifp (by omega) (Ev.ifp (by rw [li_length]; omega) ?_))))
    rw [Int.toNat_natCast, set_li, wrap_nat (by omega)]
    refine ih (i + 1) _ (by omega) (by omega) (fun j hj => ?_)
    unfold updn'
    by_cases e : (dfs S r).getD j 0 = (dfs S r).getD i 0
    · rw [if_pos e]
      have hj1 : j < (dfs S r).length := by omega
      have hnd := dfs_nodup hG hr
      rw [List.getD_eq_getElem?_getD, List.getD_eq_getElem?_getD, List.getElem?_eq_getElem hj1, List.getElem?_eq_getElem hi1] at e
      exact (nodup_inj hnd hj1 hi1 e).symm
    · rw [if_neg e]
      exact hf j (by have : j ≠ i := fun e2 => e (by rw [e2]); omega)
theorem tree_ok (hG : Gr S) (hr : r < S.length) : Ev (fun k => dom_Tree.f k (up2 S) (up2 (pr S)) (r : Int)) (dtl S r) := by
  have hle := hG.le
  obtain ⟨tail, htail⟩ := dfs_head hG r
  unfold dom_Tree.f
  refine Ev.bind (order_ok hG hr) (Ev.ifn (by rw [up_length, htail]; simp; omega) ?_)
  have e1 : slices_Repeat_int_int.f ([(-2)] : List Int) ((up2 S).length : Int) = some (List.replicate S.length (-2)) := by
    unfold slices_Repeat_int_int.f
    rw [if_pos ⟨rfl, by rw [up2_length]; have := hG.pos; omega, by rw [up2_length]; omega⟩, up2_length, Int.toNat_natCast]; rfl
  rw [e1]
  simp only [Option.bind_some]
  refine Ev.ifp (by omega) (Ev.ifp (by rw [up2_length]; omega) ?_)
  have e2 : List.replicate ((up2 S).length : Int).toNat (0 : Int) = li S.length (fun _ => 0) := by
    rw [up2_length, Int.toNat_natCast]
    apply List.ext_getElem
    · simp
    · intro j h1 h2; simp [li]
  rw [e2]
  exact tree_l0 hG hr _ 0 _ rfl (by omega) (fun j hj => by omega)
theorem tree_no {s p : List (List Int)} {r : Int} (ho : Ev (fun k => graph_Order.f k s p r) []) : Ev (fun k => dom_Tree.f k s p r) [] := by
  unfold dom_Tree.f
  exact Ev.bind ho (Ev.ifp rfl Ev.pure)
end

@[simp] theorem dtl_length (S : List (List Nat)) (r : Nat) : (dtl S r).length = S.length := by simp [dtl]
theorem rd_dtl {S : List (List Nat)} {r x : Nat} (h : x < S.length) : rd (dtl S r) (x : Int) = idv S r x := by
  simp only [rd, Int.toNat_natCast, dtl]; exact getD_map_range _ _ _ _ h
/-- A graph, its root, and places by its order. -/
structure Gd (S : List (List Nat)) (r : Nat) (at_ par : Nat → Nat) : Prop where
  gr : Gr S
  lt : r < S.length
  pl : Pl S r at_ par
  at0 : at_ r = 0
  atn : ∀ x, Rch S (-1) r x → at_ x < S.length
  idm : ∀ x, Rch S (-1) r x → x ≠ r → ∃ z, Idm S r z x
theorem places_ex {S : List (List Nat)} (h : Gr S) {r : Nat} (hr : r < S.length) : ∃ at_, Places (dfs S r) at_ := by
  refine ⟨fun x => (dfs S r).findIdx (fun y => decide (y = x)), fun j hj => ?_⟩
  have hex : ∃ y ∈ dfs S r, decide (y = (dfs S r).getD j 0) = true := ⟨(dfs S r).getD j 0, getD_mem hj, by simp⟩
  have h1 := List.findIdx_lt_length_of_exists hex
  have h2 := List.findIdx_getElem (w := h1)
  have h3 : (dfs S r)[j] = (dfs S r).getD j 0 := by rw [List.getD_eq_getElem?_getD, List.getElem?_eq_getElem hj]; rfl
  refine nodup_inj (dfs_nodup h hr) h1 hj ?_
  rw [h3]; exact of_decide_eq_true h2
theorem dm_last {S : List (List Nat)} {r d e : Nat} (hde : d ≠ e) {x : Nat} (h : Rch S (-1) r x) : Rch S (d : Int) r x ∨ Rch S (e : Int) d x ∨ Rch S (d : Int) e x := by
  induction h with
  | base _ =>
    by_cases e1 : r = d
    · subst e1; exact .inr (.inl (.base (by omega)))
    · by_cases e2 : r = e
      · subst e2; exact .inr (.inr (.base (by omega)))
      · exact .inl (.base (by omega))
  | @step a y _ hy _ ih =>
    by_cases e1 : y = d
    · subst e1; exact .inr (.inl (.base (by omega)))
    · by_cases e2 : y = e
      · subst e2; exact .inr (.inr (.base (by omega)))
      · rcases ih with h | h | h
        · exact .inl (.step h hy (by omega))
        · exact .inr (.inl (.step h hy (by omega)))
        · exact .inr (.inr (.step h hy (by omega)))
/-- Of two that dominate one, one dominates the other one. -/
theorem dm_line {S : List (List Nat)} {r d e x : Nat} (hd : Dm S r d x) (he : Dm S r e x) : Dm S r d e ∨ Dm S r e d := by
  by_cases hde : d = e
  · subst hde; exact .inl (dm_refl (dm_rch hd))
  · rcases dm_last hde hd.1 with h | h | h
    · exact absurd h hd.2
    · exact .inr ⟨dm_rch hd, fun h' => he.2 (h'.trans h)⟩
    · exact .inl ⟨dm_rch he, fun h' => hd.2 (h'.trans h)⟩
/-- The nearest dominator is there. -/
theorem idm_ex {S : List (List Nat)} {r : Nat} {at_ par : Nat → Nat} (hP : Pl S r at_ par) {x : Nat} (hx : Rch S (-1) r x) (hxr : x ≠ r) : ∃ z, Idm S r z x := by
  have key : ∀ (n z : Nat), Dm S r z x → z ≠ x → at_ x - at_ z ≤ n → ∃ z', Dm S r z' x ∧ z' ≠ x ∧ ∀ d, Dm S r d x → d ≠ x → at_ d ≤ at_ z' := by
    intro n
    induction n with
    | zero =>
      intro z hz hne hn
      have h1 := dm_le hP _ _ (Nat.le_refl _) hz
      exact absurd (hP.inj z x (dm_rch hz) hx (by omega)) hne
    | succ n ih =>
      intro z hz hne hn
      by_cases hex : ∃ d, Dm S r d x ∧ d ≠ x ∧ at_ z < at_ d
      · obtain ⟨d, h1, h2, h3⟩ := hex
        exact ih d h1 h2 (by have := dm_le hP _ _ (Nat.le_refl _) h1; omega)
      · exact ⟨z, hz, hne, fun d h1 h2 => Nat.le_of_not_lt (fun h3 => hex ⟨d, h1, h2, h3⟩)⟩
  obtain ⟨z, h1, h2, h3⟩ := key _ r (dm_root hx) (fun e => hxr e.symm) (Nat.le_refl _)
  refine ⟨z, h1, h2, fun d hd hdx => ?_⟩
  rcases dm_line hd h1 with h | h
  · exact h
  · have h4 := dm_le hP _ _ (Nat.le_refl _) h
    have h5 := h3 d hd hdx
    rw [hP.inj d z (dm_rch hd) (dm_rch h1) (by omega)]; exact dm_refl (dm_rch h1)
theorem gd_of {S : List (List Nat)} {r : Nat} (hG : Gr S) (hr : r < S.length) {at_ : Nat → Nat} (ha : Places (dfs S r) at_) : ∃ par, Gd S r at_ par := by
  obtain ⟨par, hP⟩ := dfs_pl hG hr ha
  refine ⟨par, hG, hr, hP, ?_, ?_, ?_⟩
  · obtain ⟨tail, htail⟩ := dfs_head hG r; have := ha 0 (by rw [htail]; simp); rw [htail] at this; simpa using this
  · intro y hy
    obtain ⟨i, hi, e⟩ := mem_at ((dfs_mem hG hr y).mpr hy)
    rw [← e, ha i hi]; have := dfs_len hG hr; omega
  · exact fun x hx hxr => idm_ex hP hx hxr
theorem gd_ex {S : List (List Nat)} {r : Nat} (hG : Gr S) (hr : r < S.length) : ∃ at_ par, Gd S r at_ par := by
  obtain ⟨at_, ha⟩ := places_ex hG hr
  exact ⟨at_, gd_of hG hr ha⟩


/-- The way up from a place. -/
def pth (t : List Int) : Nat → Int → Option (List Int)
  | 0, _ => none
  | f + 1, a => if a < 0 ∨ (t.length : Int) ≤ a then none else if rd t a = -1 then some [a] else (pth t f (rd t a)).map (a :: ·)
abbrev way (t : List Int) (a : Int) : Option (List Int) := pth t t.length a
theorem pth_step {t : List Int} {f : Nat} {a : Int} (h0 : 0 ≤ a) (h1 : a < (t.length : Int)) (ht : rd t a ≠ -1) : pth t (f + 1) a = (pth t f (rd t a)).map (a :: ·) := by
  rw [pth, if_neg (by omega), if_neg ht]
theorem pth_top {t : List Int} {f : Nat} {a : Int} (h0 : 0 ≤ a) (h1 : a < (t.length : Int)) (ht : rd t a = -1) : pth t (f + 1) a = some [a] := by
  rw [pth, if_neg (by omega), if_pos ht]
theorem pth_out {t : List Int} {f : Nat} {a : Int} (h : a < 0 ∨ (t.length : Int) ≤ a) : pth t f a = none := by
  cases f with
  | zero => rfl
  | succ f => rw [pth, if_pos h]
theorem pth_more {t : List Int} : ∀ {f g : Nat} {a : Int} {l : List Int}, f ≤ g → pth t f a = some l → pth t g a = some l := by
  intro f
  induction f with
  | zero => intro g a l _ h; simp [pth] at h
  | succ f ih =>
    intro g a l hg h
    obtain ⟨g, rfl⟩ : ∃ m, g = m + 1 := ⟨g - 1, by omega⟩
    rw [pth] at h ⊢
    by_cases ho : a < 0 ∨ (t.length : Int) ≤ a
    · rw [if_pos ho] at h; cases h
    · rw [if_neg ho] at h ⊢
      by_cases ht : rd t a = -1
      · rw [if_pos ht] at h ⊢; exact h
      · rw [if_neg ht] at h ⊢
        cases hq : pth t f (rd t a) with
        | none => rw [hq] at h; cases h
        | some m => rw [hq] at h; rw [ih (by omega) hq]; exact h
/-- A way is cut: from each place on it it goes on. -/
theorem pth_form {t : List Int} {f : Nat} {a : Int} {l : List Int} (h : pth t f a = some l) : 0 ≤ a ∧ a < (t.length : Int) ∧ l.length ≤ f ∧
    ((rd t a = -1 ∧ l = [a]) ∨ (rd t a ≠ -1 ∧ ∃ m, l = a :: m ∧ pth t (f - 1) (rd t a) = some m)) := by
  cases f with
  | zero => simp [pth] at h
  | succ f =>
    rw [pth] at h
    by_cases ho : a < 0 ∨ (t.length : Int) ≤ a
    · rw [if_pos ho] at h; cases h
    · rw [if_neg ho] at h
      refine ⟨by omega, by omega, ?_⟩
      have key : ∀ (g : Nat) (b : Int) (m : List Int), pth t g b = some m → m.length ≤ g := by
        intro g
        induction g with
        | zero => intro b m h; simp [pth] at h
        | succ g ih =>
          intro b m h
          rw [pth] at h
          by_cases ho : b < 0 ∨ (t.length : Int) ≤ b
          · rw [if_pos ho] at h; cases h
          · rw [if_neg ho] at h
            by_cases ht : rd t b = -1
            · rw [if_pos ht] at h; cases h; simp
            · rw [if_neg ht] at h
              cases hq : pth t g (rd t b) with
              | none => rw [hq] at h; cases h
              | some m' => rw [hq] at h; cases h; have := ih _ _ hq; simp; omega
      by_cases ht : rd t a = -1
      · rw [if_pos ht] at h; cases h
        exact ⟨by simp, .inl ⟨ht, rfl⟩⟩
      · rw [if_neg ht] at h
        cases hq : pth t f (rd t a) with
        | none => rw [hq] at h; cases h
        | some m =>
          rw [hq] at h; cases h
          have := key _ _ _ hq
          exact ⟨by simp; omega, .inr ⟨ht, m, rfl, hq⟩⟩
theorem way_form {t : List Int} {a : Int} {l : List Int} (h : way t a = some l) : 0 ≤ a ∧ a < (t.length : Int) ∧ l.length ≤ t.length ∧
    ((rd t a = -1 ∧ l = [a]) ∨ (rd t a ≠ -1 ∧ ∃ m, l = a :: m ∧ way t (rd t a) = some m)) := by
  obtain ⟨h1, h2, h3, h4⟩ := pth_form h
  refine ⟨h1, h2, h3, ?_⟩
  rcases h4 with h4 | ⟨h4, m, h5, h6⟩
  · exact .inl h4
  · exact .inr ⟨h4, m, h5, pth_more (by omega) h6⟩
theorem way_mem {t : List Int} : ∀ {l : List Int} {a x : Int}, way t a = some l → x ∈ l → x = a ∨ ∃ m, way t x = some m ∧ m.length < l.length := by
  intro l
  induction l with
  | nil => intro a x _ hx; cases hx
  | cons y l ih =>
    intro a x h hx
    obtain ⟨_, _, _, h4⟩ := way_form h
    rcases h4 with ⟨_, h5⟩ | ⟨_, m, h5, h6⟩
    · cases h5; left; simpa using hx
    · cases h5
      rcases List.mem_cons.mp hx with e | e
      · exact .inl e
      · rcases ih h6 e with e' | ⟨m', h7, h8⟩
        · subst e'; exact .inr ⟨l, h6, by simp⟩
        · exact .inr ⟨m', h7, by simp; omega⟩

/-! #### how far down -/
def dep (t : List Int) (a : Int) : Int := match way t a with | none => -1 | some l => (l.length : Int) - 1
theorem depth_l0 (t : List Int) (hb : t.length ≤ 1000) (d : Nat) : ∀ (i : Nat) (a : Int), t.length - i = d → i ≤ t.length →
    Ev (fun k => dom_depth.l0 k t a (t.length : Int) (i : Int)) (match pth t d a with | none => -1 | some l => (i : Int) + l.length - 1) := by
  induction d with
  | zero =>
    intro i a hd hi
    refine Ev.succ ?_; simp only [dom_depth.l0]
    exact Ev.ifn (by omega) (Ev.pure.of_eq (by simp [pth]))
  | succ d ih =>
    intro i a hd hi
    refine Ev.succ ?_; simp only [dom_depth.l0]
    refine Ev.ifp (by omega) ?_
    have hout : a < 0 ∨ (t.length : Int) ≤ a → Ev (fun k => dom_depth.j1 k t a (i : Int) (t.length : Int) (i : Int) true) (match pth t (d + 1) a with | none => -1 | some l => (i : Int) + l.length - 1) := by
      intro ho
      rw [pth_out ho]
      refine Ev.succ ?_; simp only [dom_depth.j1]
      exact Ev.ifp trivial Ev.pure
    by_cases h0 : a < 0
    · exact Ev.ifp h0 (hout (.inl h0))
    · refine Ev.ifn h0 ?_
      by_cases h1 : a ≥ (t.length : Int)
      · rw [decide_eq_true h1]; exact hout (.inr h1)
      · rw [decide_eq_false h1]
        refine Ev.succ ?_; simp only [dom_depth.j1]
        refine Ev.ifn (by decide) (Ev.ifp (by omega) (Ev.ifp (by omega) ?_))
        by_cases ht : rd t a = -1
        · refine Ev.ifp ht (Ev.pure.of_eq ?_)
          rw [pth_top (by omega) (by omega) ht]; simp
        · refine Ev.ifn ht ?_
          rw [wrap_nat (by omega)]
          refine (ih (i + 1) (rd t a) (by omega) (by omega)).of_eq ?_
          rw [pth_step (by omega) (by omega) ht]
          cases pth t d (rd t a) with
          | none => rfl
          | some l => simp; omega
theorem depth_ok (t : List Int) (hb : t.length ≤ 1000) (a : Int) : Ev (fun k => dom_depth.f k t a) (dep t a) := by
  unfold dom_depth.f
  refine (depth_l0 t hb t.length 0 a (by omega) (by omega)).of_eq ?_
  unfold dep way
  cases pth t t.length a <;> simp
theorem dep_neg {t : List Int} {a : Int} : dep t a < 0 ↔ way t a = none := by
  unfold dep
  cases h : way t a with
  | none => simp
  | some l =>
    have := (way_form h).2.2.2
    have h2 : 0 < l.length := by rcases this with ⟨_, e⟩ | ⟨_, m, e, _⟩ <;> rw [e] <;> simp
    simp; omega

/-! #### trees -/
/-- Whether all from i on come to the top, and the tops are one with those that are told. -/
def rgo (t : List Int) : Nat → Nat → Int → Bool
  | 0, _, tops => tops == 1
  | d + 1, i, tops => if rd t (i : Int) ≠ -2 ∧ way t (i : Int) = none then false else rgo t d (i + 1) (if rd t (i : Int) = -1 then tops + 1 else tops)
abbrev rgt (t : List Int) : Bool := rgo t t.length 0 0
theorem right_l0 (t : List Int) (hb : t.length ≤ 1000) (d : Nat) : ∀ (i : Nat) (tops : Int), t.length - i = d → i ≤ t.length → 0 ≤ tops → tops ≤ i →
    Ev (fun k => dom_right.l0 k t tops t (t.length : Int) (i : Int)) (rgo t d i tops) := by
  induction d with
  | zero =>
    intro i tops hd hi _ _
    refine Ev.succ ?_; simp only [dom_right.l0]
    exact Ev.ifn (by omega) (Ev.pure.of_eq rfl)
  | succ d ih =>
    intro i tops hd hi h0 h1
    have hwt : wrap64 (tops + 1) = tops + 1 := wrap_id (by omega) (by omega)
    refine Ev.succ ?_; simp only [dom_right.l0]
    refine Ev.ifp (by omega) (Ev.ifp (by omega) (Ev.ifp (by omega) ?_))
    rw [wrap_nat (by omega), hwt, rgo]
    have hcall : ∀ (tops' : Int), rd t (i : Int) ≠ -2 → 0 ≤ tops' → tops' ≤ ((i + 1 : Nat) : Int) → Ev (fun k => (dom_depth.f k t (i : Int)).bind fun t1 => (if t1 < 0 then (some false) else (dom_right.l0 k t tops' t (t.length : Int) ((i + 1 : Nat) : Int)))) (if rd t (i : Int) ≠ -2 ∧ way t (i : Int) = none then false else rgo t d (i + 1) tops') := by
      intro tops' h2 g0 g1
      refine Ev.bind (depth_ok t hb _) ?_
      by_cases hw : way t (i : Int) = none
      · rw [if_pos ⟨h2, hw⟩]; exact Ev.ifp (dep_neg.mpr hw) Ev.pure
      · rw [if_neg (fun h => hw h.2)]; exact Ev.ifn (fun h => hw (dep_neg.mp h)) (ih (i + 1) tops' (by omega) (by omega) g0 g1)
    by_cases e1 : rd t (i : Int) = -1
    · rw [if_pos e1]
      refine Ev.ifp e1 (Ev.ifn (by omega) ?_)
      exact hcall (tops + 1) (by omega) (by omega) (by omega)
    · rw [if_neg e1]
      refine Ev.ifn e1 ?_
      by_cases e2 : rd t (i : Int) = -2
      · rw [if_neg (fun h => h.1 e2)]
        exact Ev.ifp e2 (ih (i + 1) tops (by omega) (by omega) h0 (by omega))
      · exact Ev.ifn e2 (hcall tops e2 h0 (by omega))
theorem right_ok (t : List Int) (hb : t.length ≤ 1000) : Ev (fun k => dom_right.f k t) (rgt t) := by
  unfold dom_right.f
  exact right_l0 t hb t.length 0 0 (by omega) (by omega) (by omega) (by omega)
theorem rgo_le {t : List Int} : ∀ (d i : Nat) (tops : Int), rgo t d i tops = true → tops ≤ 1 := by
  intro d
  induction d with
  | zero => intro i tops h; simp [rgo] at h; omega
  | succ d ih =>
    intro i tops h
    rw [rgo] at h
    split at h
    · cases h
    · have := ih _ _ h; split at this <;> omega
theorem rgo_top {t : List Int} : ∀ (d i : Nat) (tops : Int), rgo t d i tops = true → ∀ a, i ≤ a → a < i + d → rd t (a : Int) = -1 → tops ≤ 0 := by
  intro d
  induction d with
  | zero => intro i tops h a h1 h2; omega
  | succ d ih =>
    intro i tops h a h1 h2 ha
    rw [rgo] at h
    split at h
    · cases h
    · by_cases e : a = i
      · subst e; rw [if_pos ha] at h; have := rgo_le _ _ _ h; omega
      · have := ih _ _ h a (by omega) (by omega) ha; split at this <;> omega
theorem rgo_one {t : List Int} : ∀ (d i : Nat) (tops : Int), rgo t d i tops = true → 0 ≤ tops → ∀ a b, i ≤ a → a < b → b < i + d → rd t (a : Int) = -1 → rd t (b : Int) = -1 → False := by
  intro d
  induction d with
  | zero => intro i tops h _ a b h1 h2 h3; omega
  | succ d ih =>
    intro i tops h h0 a b h1 h2 h3 ha hb
    rw [rgo] at h
    split at h
    · cases h
    · by_cases e : a = i
      · subst e; rw [if_pos ha] at h; have := rgo_top _ _ _ h b (by omega) (by omega) hb; omega
      · exact ih _ _ h (by split <;> omega) a b (by omega) h2 (by omega) ha hb
theorem rgt_one {t : List Int} (h : rgt t = true) {a b : Int} (ha0 : 0 ≤ a) (ha1 : a < (t.length : Int)) (hb0 : 0 ≤ b) (hb1 : b < (t.length : Int)) (ha : rd t a = -1) (hb : rd t b = -1) : a = b := by
  obtain ⟨x, rfl⟩ : ∃ x : Nat, a = (x : Int) := ⟨a.toNat, by omega⟩
  obtain ⟨y, rfl⟩ : ∃ y : Nat, b = (y : Int) := ⟨b.toNat, by omega⟩
  by_cases e : x = y
  · rw [e]
  · exfalso
    by_cases l : x < y
    · exact rgo_one _ _ _ h (by omega) x y (by omega) l (by omega) ha hb
    · exact rgo_one _ _ _ h (by omega) y x (by omega) (by omega) (by omega) hb ha

/-! #### in, Meet, Over, Kids -/
theorem ixf_l0 (t : List Int) (hb : t.length ≤ 1000) (d : Nat) : ∀ (i : Nat) (l : List Int), l.length ≤ 1000 → i ≤ l.length → l.length - i = d →
    ∃ v, Ev (fun k => slices_IndexFunc_int_int_dom_in_1.l0 k l (l.length : Int) (i : Int) t) v ∧ decide (v ≥ 0) = (l.drop i).any (fun a => (way t a).isNone) := by
  induction d with
  | zero =>
    intro i l hl hi hd
    refine ⟨-1, Ev.succ ?_, ?_⟩
    · simp only [slices_IndexFunc_int_int_dom_in_1.l0]; exact Ev.ifn (by omega) Ev.pure
    · rw [List.drop_of_length_le (by omega)]; rfl
  | succ d ih =>
    intro i l hl hi hd
    obtain ⟨v, h1, h2⟩ := ih (i + 1) l hl (by omega) (by omega)
    rw [drop_getD l i 0 (by omega), List.any_cons]
    have hrd : rd l (i : Int) = l.getD i 0 := by simp [rd]
    have hin : Ev (fun k => dom_in_1.f k (rd l (i : Int)) t) (way t (l.getD i 0)).isNone := by
      unfold dom_in_1.f
      refine Ev.bind (depth_ok t hb _) (Ev.pure.of_eq ?_)
      rw [hrd]
      cases hw : way t (l.getD i 0) with
      | none => rw [decide_eq_true (dep_neg.mpr hw)]; rfl
      | some m => rw [decide_eq_false (fun h => by rw [dep_neg.mp h] at hw; cases hw)]; rfl
    cases hw : (way t (l.getD i 0)).isNone with
    | true =>
      refine ⟨(i : Int), Ev.succ ?_, by simp⟩
      simp only [slices_IndexFunc_int_int_dom_in_1.l0]
      refine Ev.ifp (by omega) (Ev.ifp (by omega) (Ev.ifp (by omega) (Ev.bind hin ?_)))
      exact Ev.ifp hw Ev.pure
    | false =>
      refine ⟨v, Ev.succ ?_, by rw [h2]; rfl⟩
      simp only [slices_IndexFunc_int_int_dom_in_1.l0]
      refine Ev.ifp (by omega) (Ev.ifp (by omega) (Ev.ifp (by omega) (Ev.bind hin ?_)))
      refine Ev.ifn (by rw [hw]; decide) ?_
      rw [wrap_nat (by omega)]; exact h1
def inT (t : List Int) (l : List Int) : Bool := rgt t && l.all (fun a => (way t a).isSome)
theorem in_ok (t : List Int) (hb : t.length ≤ 1000) (l : List Int) (hl : l.length ≤ 1000) : Ev (fun k => dom_in.f k t l) (inT t l) := by
  unfold dom_in.f inT
  refine Ev.bind (right_ok t hb) ?_
  cases hr : rgt t with
  | false => exact Ev.ifn (by decide) Ev.pure
  | true =>
    refine Ev.ifp rfl ?_
    obtain ⟨v, h1, h2⟩ := ixf_l0 t hb l.length 0 l hl (by omega) (by omega)
    refine Ev.bind (a := decide (v ≥ 0)) ?_ (Ev.pure.of_eq ?_)
    · unfold slices_ContainsFunc_int_int_dom_in_1.f slices_IndexFunc_int_int_dom_in_1.f
      exact Ev.bind h1 Ev.pure
    · rw [h2, List.drop_zero, Bool.true_and, List.not_any_eq_all_not]
      congr 1
      funext a
      cases way t a <;> rfl
/-- The first of a list that lies in another one; -2: none. -/
def fst2 (p q : List Int) : Int := (p.find? (fun x => decide (x ∈ q))).getD (-2)
def meetT (t : List Int) (a b : Int) : Int := if rgt t = true then match way t a, way t b with | some p, some q => fst2 p q | _, _ => -2 else -2
theorem meet_l0 (t : List Int) (hb : t.length ≤ 1000) (hr : rgt t = true) : ∀ (m : Nat) (p q : List Int) (a b : Int), p.length + q.length ≤ m → way t a = some p → way t b = some q → Ev (fun k => dom_Meet.l0 k t a b) (fst2 p q) := by
  intro m
  induction m with
  | zero =>
    intro p q a b hm hp hq
    have h := (way_form hp).2.2.2
    rcases h with ⟨_, e⟩ | ⟨_, _, e, _⟩ <;> rw [e] at hm <;> simp at hm
  | succ m ih =>
    intro p q a b hm hp hq
    obtain ⟨pa0, pa1, pa2, pa3⟩ := way_form hp
    obtain ⟨qa0, qa1, qa2, qa3⟩ := way_form hq
    have hpd : dep t a = (p.length : Int) - 1 := by unfold dep; rw [hp]
    have hqd : dep t b = (q.length : Int) - 1 := by unfold dep; rw [hq]
    refine Ev.succ ?_; simp only [dom_Meet.l0]
    by_cases hab : a = b
    · refine Ev.ifp hab (Ev.pure.of_eq ?_)
      subst hab
      rw [hp] at hq; cases hq
      rcases pa3 with ⟨_, e⟩ | ⟨_, _, e, _⟩ <;> rw [e] <;> simp [fst2]
    · refine Ev.ifn hab (Ev.bind (depth_ok t hb a) (Ev.bind (depth_ok t hb b) ?_))
      rw [hpd, hqd]
      by_cases hge : (p.length : Int) - 1 ≥ (q.length : Int) - 1
      · refine Ev.ifp hge (Ev.ifp (by omega) (Ev.ifp (by omega) ?_))
        rcases pa3 with ⟨ht, e⟩ | ⟨_, p', e, hp'⟩
        · rw [e] at hge
          rcases qa3 with ⟨ht', e'⟩ | ⟨_, q', e', hq'⟩
          · exact absurd (rgt_one hr pa0 pa1 qa0 qa1 ht ht') hab
          · exfalso
            have h := (way_form hq').2.2.2
            rw [e'] at hge
            rcases h with ⟨_, e''⟩ | ⟨_, _, e'', _⟩ <;> rw [e''] at hge <;> simp at hge <;> omega
        · have hnot : ¬ a ∈ q := by
            intro hm'
            rcases way_mem hq hm' with e'' | ⟨m', h7, h8⟩
            · exact hab e''
            · rw [hp] at h7; cases h7; omega
          rw [e] at hm ⊢
          refine (ih p' q (rd t a) b (by simp at hm; omega) hp' hq).of_eq ?_
          unfold fst2
          rw [List.find?_cons_of_neg (by simpa using hnot)]
      · refine Ev.ifn hge (Ev.ifp (by omega) (Ev.ifp (by omega) ?_))
        rcases qa3 with ⟨ht, e⟩ | ⟨_, q', e, hq'⟩
        · exfalso
          rw [e] at hge
          rcases pa3 with ⟨_, e'⟩ | ⟨_, _, e', _⟩ <;> rw [e'] at hge <;> simp at hge <;> omega
        · have hnot : ¬ b ∈ p := by
            intro hm'
            rcases way_mem hp hm' with e'' | ⟨m', h7, h8⟩
            · exact hab e''.symm
            · rw [hq] at h7; cases h7; omega
          rw [e] at hm ⊢
          refine (ih p q' a (rd t b) (by simp at hm; omega) hp hq').of_eq ?_
          unfold fst2
          congr 1
          have : ∀ l : List Int, (∀ x ∈ l, x ∈ p) → l.find? (fun x => decide (x ∈ q')) = l.find? (fun x => decide (x ∈ b :: q')) := by
            intro l
            induction l with
            | nil => intro _; rfl
            | cons x l ih2 =>
              intro hl
              have hx : x ≠ b := fun e => hnot (e ▸ hl x (List.mem_cons_self ..))
              have e3 : decide (x ∈ b :: q') = decide (x ∈ q') := by simp [hx]
              rw [List.find?_cons, List.find?_cons, e3, ih2 (fun y hy => hl y (List.mem_cons_of_mem _ hy))]
          exact this p (fun _ h => h)
theorem inT_two {t : List Int} {a b : Int} : inT t [a, b] = true ↔ rgt t = true ∧ (∃ p, way t a = some p) ∧ ∃ q, way t b = some q := by
  unfold inT
  simp [Option.isSome_iff_exists]
theorem inT_one {t : List Int} {a : Int} : inT t [a] = true ↔ rgt t = true ∧ ∃ p, way t a = some p := by
  unfold inT
  simp [Option.isSome_iff_exists]
theorem meet_ok (t : List Int) (hb : t.length ≤ 1000) (a b : Int) : Ev (fun k => dom_Meet.f k t a b) (meetT t a b) := by
  unfold dom_Meet.f meetT
  refine Ev.bind (in_ok t hb _ (by simp)) ?_
  by_cases h : inT t [a, b] = true
  · obtain ⟨hr, ⟨p, hp⟩, q, hq⟩ := inT_two.mp h
    refine Ev.ifp h ?_
    rw [if_pos hr, hp, hq]
    exact meet_l0 t hb hr _ p q a b (Nat.le_refl _) hp hq
  · refine Ev.ifn h (Ev.pure.of_eq ?_)
    by_cases hr : rgt t = true
    · rw [if_pos hr]
      cases hp : way t a with
      | none => rfl
      | some p => cases hq : way t b with
        | none => rfl
        | some q => exact absurd (inT_two.mpr ⟨hr, ⟨p, hp⟩, q, hq⟩) h
    · rw [if_neg hr]
def overT (t : List Int) (a b : Int) : Bool := inT t [a, b] && (meetT t a b == a)
theorem over_ok (t : List Int) (hb : t.length ≤ 1000) (a b : Int) : Ev (fun k => dom_Over.f k t a b) (overT t a b) := by
  unfold dom_Over.f overT
  refine Ev.bind (in_ok t hb _ (by simp)) ?_
  cases h : inT t [a, b] with
  | false => exact Ev.ifn (by decide) Ev.pure
  | true => exact Ev.ifp rfl (Ev.bind (meet_ok t hb a b) Ev.pure)
/-- Whose entry one is, from i on. -/
def kdT (t : List Int) (a : Int) (i : Nat) : List Int := ((List.range t.length).drop i).filterMap (fun b => if rd t ((b : Nat) : Int) = a then some ((b : Nat) : Int) else none)
theorem kdT_end (t : List Int) (a : Int) (i : Nat) (h : t.length ≤ i) : kdT t a i = [] := by unfold kdT; rw [List.drop_of_length_le (by simpa using h)]; rfl
theorem kdT_step (t : List Int) (a : Int) (i : Nat) (h : i < t.length) : kdT t a i = (if rd t (i : Int) = a then [(i : Int)] else []) ++ kdT t a (i + 1) := by
  unfold kdT
  rw [drop_getD (List.range t.length) i 0 (by simpa using h), List.filterMap_cons, List.getD_eq_getElem?_getD, List.getElem?_range h, Option.getD_some]
  split <;> rename_i e <;> split at e <;> simp_all
theorem kids_l0 (t : List Int) (hb : t.length ≤ 1000) (a : Int) (d : Nat) : ∀ (i : Nat) (o : List Int), t.length - i = d → i ≤ t.length → o.length ≤ i →
    Ev (fun k => dom_Kids.l0 k t a o t (t.length : Int) (i : Int)) (o ++ if inT t [a] = true then kdT t a i else []) := by
  induction d with
  | zero =>
    intro i o hd hi _
    refine Ev.succ ?_; simp only [dom_Kids.l0]
    refine Ev.ifn (by omega) (Ev.pure.of_eq ?_)
    rw [kdT_end _ _ _ (by omega)]; simp
  | succ d ih =>
    intro i o hd hi ho
    refine Ev.succ ?_; simp only [dom_Kids.l0]
    refine Ev.ifp (by omega) (Ev.ifp (by omega) (Ev.ifp (by omega) ?_))
    rw [kdT_step _ _ _ (show i < t.length by omega), wrap_nat (by omega)]
    by_cases e : rd t (i : Int) = a
    · refine Ev.ifp e (Ev.bind (in_ok t hb [a] (by simp)) ?_)
      rw [if_pos e]
      by_cases hin : inT t [a] = true
      · refine Ev.ifp hin (Ev.ifp (by omega) ?_)
        refine (ih (i + 1) (o ++ [(i : Int)]) (by omega) (by omega) (by simp; omega)).of_eq ?_
        rw [if_pos hin, if_pos hin]; simp
      · refine Ev.ifn hin ?_
        refine (ih (i + 1) o (by omega) (by omega) (by omega)).of_eq ?_
        rw [if_neg hin, if_neg hin]
    · refine Ev.ifn e ?_
      rw [if_neg e]
      exact (ih (i + 1) o (by omega) (by omega) (by omega)).of_eq (by simp)
def kidsT (t : List Int) (a : Int) : List Int := if inT t [a] = true then kdT t a 0 else []
theorem kids_ok (t : List Int) (hb : t.length ≤ 1000) (a : Int) : Ev (fun k => dom_Kids.f k t a) (kidsT t a) := by
  unfold dom_Kids.f
  exact (kids_l0 t hb a t.length 0 [] (by omega) (by omega) (by simp)).of_eq (by simp [kidsT])

section
variable {S : List (List Nat)} {r : Nat} {at_ par : Nat → Nat}
theorem Gd.rd_no (hD : Gd S r at_ par) {x : Nat} (hx : x < S.length) (h : ¬ Rch S (-1) r x) : rd (dtl S r) (x : Int) = -2 := by rw [rd_dtl hx, idv_no hD.lt h]
theorem Gd.rd_root (hD : Gd S r at_ par) : rd (dtl S r) (r : Int) = -1 := by rw [rd_dtl hD.lt, idv_root]
theorem Gd.rd_idm (hD : Gd S r at_ par) {x : Nat} (h : Rch S (-1) r x) (hr : x ≠ r) : ∃ z, Idm S r z x ∧ rd (dtl S r) (x : Int) = (z : Int) := by
  obtain ⟨z, hz⟩ := hD.idm x h hr
  exact ⟨z, hz, by rw [rd_dtl (h.lt hD.gr hD.lt), idv_idm hD.pl hr hz]⟩
theorem Gd.way_no (hD : Gd S r at_ par) {x : Nat} (hx : x < S.length) (h : ¬ Rch S (-1) r x) : way (dtl S r) (x : Int) = none := by
  cases hw : way (dtl S r) (x : Int) with
  | none => rfl
  | some l =>
    have h1 := (way_form hw).2.2.2
    rw [hD.rd_no hx h] at h1
    rcases h1 with ⟨h1, _⟩ | ⟨_, m, _, h2⟩
    · omega
    · rw [show way (dtl S r) (-2) = none from pth_out (.inl (by omega))] at h2; cases h2
theorem Gd.way_rch (hD : Gd S r at_ par) : ∀ (n x : Nat), at_ x ≤ n → Rch S (-1) r x → ∃ l, pth (dtl S r) (at_ x + 1) (x : Int) = some l ∧ ∀ a : Int, a ∈ l ↔ ∃ d : Nat, a = (d : Int) ∧ Dm S r d x := by
  intro n
  induction n with
  | zero =>
    intro x hn hx
    by_cases e : x = r
    · subst e
      refine ⟨[(x : Int)], pth_top (by omega) (by rw [dtl_length]; have := hD.lt; omega) hD.rd_root, fun a => ?_⟩
      rw [List.mem_singleton]
      exact ⟨fun h => ⟨x, h, dm_refl hx⟩, fun ⟨d, h1, h2⟩ => by rw [h1, dm_of_root h2]⟩
    · have := (hD.pl.par x hx e).2.2; omega
  | succ n ih =>
    intro x hn hx
    have hxl := hx.lt hD.gr hD.lt
    by_cases e : x = r
    · subst e
      refine ⟨[(x : Int)], pth_top (by omega) (by rw [dtl_length]; have := hD.lt; omega) hD.rd_root, fun a => ?_⟩
      rw [List.mem_singleton]
      exact ⟨fun h => ⟨x, h, dm_refl hx⟩, fun ⟨d, h1, h2⟩ => by rw [h1, dm_of_root h2]⟩
    · obtain ⟨z, hz, hrd⟩ := hD.rd_idm hx e
      have hzR := dm_rch hz.1
      have hzl : at_ z < at_ x := Nat.lt_of_le_of_ne (dm_le hD.pl _ _ (Nat.le_refl _) hz.1) (fun e2 => hz.2.1 (hD.pl.inj z x hzR hx e2))
      obtain ⟨m, h1, h2⟩ := ih z (by omega) hzR
      refine ⟨(x : Int) :: m, ?_, fun a => ?_⟩
      · rw [pth_step (by omega) (by rw [dtl_length]; omega) (by rw [hrd]; omega), hrd, pth_more (show at_ z + 1 ≤ at_ x by omega) h1]; rfl
      · rw [List.mem_cons, h2]
        constructor
        · rintro (h | ⟨d, h3, h4⟩)
          · exact ⟨x, h, dm_refl hx⟩
          · exact ⟨d, h3, dm_trans h4 hz.1⟩
        · rintro ⟨d, h3, h4⟩
          by_cases e2 : d = x
          · exact .inl (by rw [h3, e2])
          · exact .inr ⟨d, h3, hz.2.2 d h4 e2⟩
theorem Gd.way (hD : Gd S r at_ par) {x : Nat} (hx : Rch S (-1) r x) : ∃ l, way (dtl S r) (x : Int) = some l ∧ ∀ a : Int, a ∈ l ↔ ∃ d : Nat, a = (d : Int) ∧ Dm S r d x := by
  obtain ⟨l, h1, h2⟩ := hD.way_rch _ x (Nat.le_refl _) hx
  exact ⟨l, pth_more (by rw [dtl_length]; exact hD.atn x hx) h1, h2⟩
theorem Gd.way_iff (hD : Gd S r at_ par) {x : Nat} (hx : x < S.length) : (∃ l, GP.way (dtl S r) (x : Int) = some l) ↔ Rch S (-1) r x := by
  constructor
  · rintro ⟨l, h⟩
    refine Classical.byContradiction (fun hn => ?_)
    rw [hD.way_no hx hn] at h; cases h
  · intro h; obtain ⟨l, h1, _⟩ := hD.way h; exact ⟨l, h1⟩
theorem Gd.rgo (hD : Gd S r at_ par) (d : Nat) : ∀ i : Nat, i + d = S.length → rgo (dtl S r) d i (if r < i then 1 else 0) = true := by
  induction d with
  | zero =>
    intro i hi
    rw [if_pos (by have := hD.lt; omega)]; rfl
  | succ d ih =>
    intro i hi
    have h1 : ¬ (rd (dtl S r) (i : Int) ≠ -2 ∧ GP.way (dtl S r) (i : Int) = none) := by
      rintro ⟨h1, h2⟩
      by_cases hR : Rch S (-1) r i
      · obtain ⟨l, h3, _⟩ := hD.way hR; rw [h2] at h3; cases h3
      · exact h1 (hD.rd_no (by omega) hR)
    rw [GP.rgo, if_neg h1]
    have h2 := ih (i + 1) (by omega)
    by_cases e : i = r
    · rw [e, hD.rd_root, if_pos rfl, if_neg (Nat.lt_irrefl _)]
      rw [e, if_pos (Nat.lt_succ_self _)] at h2
      exact h2
    · have h3 : rd (dtl S r) (i : Int) ≠ -1 := by
        by_cases hR : Rch S (-1) r i
        · obtain ⟨z, _, h4⟩ := hD.rd_idm hR e; rw [h4]; omega
        · rw [hD.rd_no (by omega) hR]; omega
      rw [if_neg h3]
      by_cases hlt : r < i
      · rw [if_pos hlt]; rw [if_pos (by omega)] at h2; exact h2
      · rw [if_neg hlt]; rw [if_neg (by omega)] at h2; exact h2
theorem Gd.rgt (hD : Gd S r at_ par) : rgt (dtl S r) = true := by
  show GP.rgo (dtl S r) (dtl S r).length 0 0 = true
  rw [dtl_length]
  have := hD.rgo S.length 0 (by omega)
  simpa using this
theorem Gd.inT2 (hD : Gd S r at_ par) {a b : Nat} (ha : a < S.length) (hb : b < S.length) : inT (dtl S r) [(a : Int), (b : Int)] = true ↔ Rch S (-1) r a ∧ Rch S (-1) r b := by
  rw [inT_two, hD.way_iff ha, hD.way_iff hb]
  exact ⟨fun h => h.2, fun h => ⟨hD.rgt, h⟩⟩
theorem Gd.inT1 (hD : Gd S r at_ par) {a : Nat} (ha : a < S.length) : inT (dtl S r) [(a : Int)] = true ↔ Rch S (-1) r a := by
  rw [inT_one, hD.way_iff ha]
  exact ⟨fun h => h.2, fun h => ⟨hD.rgt, h⟩⟩
theorem fst2_way {t : List Int} {Q : List Int} : ∀ {l : List Int} {a : Int}, GP.way t a = some l → ∀ {c}, c ∈ l → c ∈ Q → fst2 l Q ∈ l ∧ fst2 l Q ∈ Q ∧ ∃ ml, GP.way t (fst2 l Q) = some ml ∧ c ∈ ml := by
  intro l
  induction l with
  | nil => intro a _ c hc; cases hc
  | cons x l ih =>
    intro a h c hc hcQ
    obtain ⟨_, _, _, h4⟩ := way_form h
    have hxa : x = a := by rcases h4 with ⟨_, e⟩ | ⟨_, m, e, _⟩ <;> injection e
    by_cases hx : x ∈ Q
    · have e : fst2 (x :: l) Q = x := by unfold fst2; rw [List.find?_cons, decide_eq_true hx]; rfl
      rw [e]
      exact ⟨List.mem_cons_self .., hx, x :: l, by rw [hxa] at h ⊢; exact h, hc⟩
    · have e : fst2 (x :: l) Q = fst2 l Q := by unfold fst2; rw [List.find?_cons, decide_eq_false hx]
      rw [e]
      have hcl : c ∈ l := by
        rcases List.mem_cons.mp hc with e2 | e2
        · subst e2; exact absurd hcQ hx
        · exact e2
      rcases h4 with ⟨_, e2⟩ | ⟨_, m, e2, h5⟩
      · injection e2 with _ e3; rw [e3] at hcl; cases hcl
      · injection e2 with _ e3
        subst e3
        obtain ⟨g1, g2, g3⟩ := ih h5 hcl hcQ
        exact ⟨List.mem_cons_of_mem _ g1, g2, g3⟩
/-- Where two meet: the nearest of those that dominate both. -/
theorem Gd.meet (hD : Gd S r at_ par) {a b : Nat} (ha : Rch S (-1) r a) (hb : Rch S (-1) r b) : ∃ m : Nat, meetT (dtl S r) (a : Int) (b : Int) = (m : Int) ∧ Dm S r m a ∧ Dm S r m b ∧ ∀ c, Dm S r c a → Dm S r c b → Dm S r c m := by
  obtain ⟨p, hp, hp2⟩ := hD.way ha
  obtain ⟨q, hq, hq2⟩ := hD.way hb
  have e : meetT (dtl S r) (a : Int) (b : Int) = fst2 p q := by unfold meetT; rw [if_pos hD.rgt, hp, hq]
  have hrp : (r : Int) ∈ p := (hp2 _).mpr ⟨r, rfl, dm_root ha⟩
  have hrq : (r : Int) ∈ q := (hq2 _).mpr ⟨r, rfl, dm_root hb⟩
  obtain ⟨g1, g2, _⟩ := fst2_way hp hrp hrq
  obtain ⟨m, hm, hma⟩ := (hp2 _).mp g1
  obtain ⟨m', hm', hmb⟩ := (hq2 _).mp g2
  have emm : m = m' := by omega
  subst emm
  refine ⟨m, by rw [e, hm], hma, hmb, fun c h1 h2 => ?_⟩
  obtain ⟨_, _, ml, g3, g4⟩ := fst2_way hp ((hp2 _).mpr ⟨c, rfl, h1⟩) ((hq2 _).mpr ⟨c, rfl, h2⟩)
  obtain ⟨l, h5, h6⟩ := hD.way (dm_rch hma)
  rw [hm, h5] at g3; cases g3
  obtain ⟨d, h7, h8⟩ := (h6 _).mp g4
  rw [show c = d by omega]; exact h8
theorem Gd.meet_no (hD : Gd S r at_ par) {a b : Nat} (ha : a < S.length) (hb : b < S.length) (h : ¬ (Rch S (-1) r a ∧ Rch S (-1) r b)) : meetT (dtl S r) (a : Int) (b : Int) = -2 := by
  unfold meetT
  rw [if_pos hD.rgt]
  cases hp : GP.way (dtl S r) (a : Int) with
  | none => rfl
  | some p => cases hq : GP.way (dtl S r) (b : Int) with
    | none => rfl
    | some q => exact absurd ⟨(hD.way_iff ha).mp ⟨p, hp⟩, (hD.way_iff hb).mp ⟨q, hq⟩⟩ h
theorem Gd.over (hD : Gd S r at_ par) {a b : Nat} (ha : a < S.length) (hb : b < S.length) : overT (dtl S r) (a : Int) (b : Int) = true ↔ Dm S r a b := by
  unfold overT
  rw [Bool.and_eq_true, hD.inT2 ha hb]
  constructor
  · rintro ⟨⟨h1, h2⟩, h3⟩
    obtain ⟨m, g1, g2, g3, _⟩ := hD.meet h1 h2
    have : m = a := by have := eq_of_beq h3; omega
    rw [← this]; exact g3
  · intro h
    have h1 := dm_rch h
    refine ⟨⟨h1, h.1⟩, ?_⟩
    obtain ⟨m, g1, g2, g3, g4⟩ := hD.meet h1 h.1
    have : a = m := dm_antisymm hD.pl (g4 a (dm_refl h1) h) g2
    rw [g1, this]; simp
theorem Gd.over_eq (hD : Gd S r at_ par) {a b : Nat} (ha : a < S.length) (hb : b < S.length) (v : Bool) (h : v = true ↔ Dm S r a b) : overT (dtl S r) (a : Int) (b : Int) = v := by
  have h2 := hD.over ha hb
  rw [← h] at h2
  cases v <;> cases h3 : overT (dtl S r) (a : Int) (b : Int) <;> simp_all
end
end Go.Proofs.Ytoekeknfeinphaa.GP
namespace Go.Proofs.Ytoekeknfeinphaa.G
open Go.Proofs.YtoekeknfeinphaaH
open Go.RowKit Go.Proofs.YtoekeknfeinphaaW.PrintWords Go.Proofs.YtoekeknfeinphaaW.PrintLast Go.Proofs.YtoekeknfeinphaaW.PrintMore
attribute [local go_sem] max2_int min2_int max_two min_two max_three min_three max_four min_four   -- for this text's walks alone
set_option linter.unusedVariables false
set_option linter.unusedSimpArgs false

theorem eqA48 (d : Nat) (w : World) (x0 y0 : Int) (x1 y1 : Int) :
    (Op.equalIn (d + 2) 48 (.agg #[.int .i64 x0, .int .i64 x1]) (.agg #[.int .i64 y0, .int .i64 y1])).run Try.prog w = .ok (x0 == y0 && (x1 == y1)) w := by
  obtain ⟨i0, hi0, h2⟩ : ∃ i, Try.prog.info? 3 = some i ∧ i.size = 1 := ⟨_, rfl, rfl⟩
  have hu3 := Try.underlying3
  have hp0 : ∀ x y : Int, (part 3 #[.int .i64 x, .int .i64 y] 0).run Try.prog w = .ok (.int .i64 x) w := fun x y => by go_simp
  have hp1 : ∀ x y : Int, (part 3 #[.int .i64 x, .int .i64 y] 1).run Try.prog w = .ok (.int .i64 y) w := fun x y => by go_simp
  have he : ∀ x y : Int, (Op.equalIn (d + 1) 3 (.int .i64 x) (.int .i64 y)).run Try.prog w = .ok (x == y) w := fun x y => by simp [Op.equalIn, run_underlying hu3]
  rw [run_equalIn_array w (d + 1) _ _ Try.underlying48 hi0, show List.range 2 = [0, 1] from rfl, show Try.prog.cellsOf 3 = 1 by kernel_rfl]
  simp only [Op.eqItems, Sem.run_bind, Nat.zero_mul, Nat.one_mul, hp0, hp1, he, Result.andThen_ok]
  cases hx : (x0 == y0) <;> cases hy : (x1 == y1) <;> simp [hp1, he, hy]

attribute [local go_sem high] eqA48
/-! ### slices_Index_2_int_2_int: function 58 -/
def slices_Index_2_int_2_int.l0 : Nat → List (S48) → Int → Int → Int → Int → Option (Int)
 | 0, _, _, _, _, _ => none
 | k + 1, x0, x7, x8, x294000, x294001 => if x8 < x7 then (if 0 ≤ x8 then (if x8 < (x0.length : Int) then (if (x294000 == ((rd_T48 x0 x8).f0) && (x294001 == ((rd_T48 x0 x8).f1))) = true then (some x8) else (slices_Index_2_int_2_int.l0 k x0 x7 (wrap64 (x8 + 1)) x294000 x294001)) else (none)) else (none)) else (some (-1))
def slices_Index_2_int_2_int.f (k : Nat) (l0 : List (S48)) (a1_0 : Int) (a1_1 : Int) : Option (Int) := slices_Index_2_int_2_int.l0 k l0 (l0.length : Int) 0 a1_0 a1_1
theorem slices_Index_2_int_2_int.mono_l : ∀ k, (∀ y0 y1 y2 y3 y4, LeO (slices_Index_2_int_2_int.l0 k y0 y1 y2 y3 y4) (slices_Index_2_int_2_int.l0 (k + 1) y0 y1 y2 y3 y4))
 | 0 => fun _ _ _ _ _ r h => by simp [slices_Index_2_int_2_int.l0] at h
 | k + 1 => by
  have ih0 := slices_Index_2_int_2_int.mono_l k
  ·intro y0 y1 y2 y3 y4
   unfold slices_Index_2_int_2_int.l0
   repeat' first
   | (with_reducible exact ih0 _ _ _ _ _)
   | (with_reducible exact LeO.refl _)
   | (with_reducible exact LeO.none _)
   | (with_reducible refine LeO.ite ?_ ?_)
   | (with_reducible refine LeO.bind ?_ (fun _ => ?_))
   | exact ih0 _ _ _ _ _
   | exact LeO.none _
   | refine LeO.ite ?_ ?_
   | refine LeO.bind ?_ (fun _ => ?_)
theorem slices_Index_2_int_2_int.mono : ∀ a0 a1 a2 k, LeO (slices_Index_2_int_2_int.f k a0 a1 a2) (slices_Index_2_int_2_int.f (k + 1) a0 a1 a2) := by
 intro a0 a1 a2 k
 have ih0 := slices_Index_2_int_2_int.mono_l k
 unfold slices_Index_2_int_2_int.f
 repeat' first
  | (with_reducible exact ih0 _ _ _ _ _)
  | (with_reducible exact LeO.refl _)
  | (with_reducible exact LeO.none _)
  | (with_reducible refine LeO.ite ?_ ?_)
  | (with_reducible refine LeO.bind ?_ (fun _ => ?_))
  | exact ih0 _ _ _ _ _
  | exact LeO.none _
  | refine LeO.ite ?_ ?_
  | refine LeO.bind ?_ (fun _ => ?_)
set_option maxHeartbeats 8000000 in
set_option maxRecDepth 100000 in
theorem slices_Index_2_int_2_int.calls (k : Nat) (A0 : Option Addr) (c0 : Nat) (l0 : List (S48)) (a1_0 : Int) (a1_1 : Int) (r : Int) (w : World) (hr0 : Kd.C k48 w A0 l0.length l0) (hc0 : l0.length ≤ c0) (h : slices_Index_2_int_2_int.f k l0 a1_0 a1_1 = some r) :
 Calls Try.prog 58 #[.slice A0 l0.length c0, .agg #[.int .i64 a1_0, .int .i64 a1_1]] w fun e w' => e = .returned (.int .i64 r) ∧ Below w.heap.size w w' := by
 have hu48 := Try.underlying48
 have HR0 := Aside0.mk hr0
 have HC0 := Aside0.mk hc0
 clear hr0 hc0
 have HB := Aside0.mk (Below.refl w.heap.size w)
 have H : (slices_Index_2_int_2_int.l0 k l0 (l0.length : Int) 0 a1_0 a1_1) = some r := h
 clear h
 have H' := Aside0.mk H
 clear H
 go_enter Try.func58, Try.ntmps58
 go_wp2_with (first | ((with_reducible refine gate_dst (N := 3) rfl ?_); refine box_event ?hg (N := 3) ?hd (cs := #[.int .i64 a1_0, .int .i64 a1_1]) (t := 48) ?hr ?_; (case hd => rfl); (case hg => rfl); (case hr => first | (go_simp; done) | (go_simp; rfl)); intro gb293 hg w3 hbox hb; have n0_ := Aside0.mk (below_step (B_) hb); have n1_ := Aside0.mk (hbox); have n2_ := Aside0.mk ((by rw [hg]; exact (below_size (B_)) : w.heap.size ≤ gb293)); have n3_ := Aside0.mk ((by rw [hg]; exact (below_size (B_)) : w.heap.size ≤ gb293)); clear HB; have HB := n0_; have BK293 := n1_; have GW293 := n2_; have GE293 := n3_; clear n0_ n1_ n2_ n3_; clear hb hbox hg))
 repeat (go_quiet (first | ((with_reducible refine gate_dst (N := 3) rfl ?_); refine box_event ?hg (N := 3) ?hd (cs := #[.int .i64 a1_0, .int .i64 a1_1]) (t := 48) ?hr ?_; (case hd => rfl); (case hg => rfl); (case hr => first | (go_simp; done) | (go_simp; rfl)); intro gb293 hg w3 hbox hb; have n0_ := Aside0.mk (below_step (B_) hb); have n1_ := Aside0.mk (hbox); have n2_ := Aside0.mk ((by rw [hg]; exact (below_size (B_)) : w.heap.size ≤ gb293)); have n3_ := Aside0.mk ((by rw [hg]; exact (below_size (B_)) : w.heap.size ≤ gb293)); clear HB; have HB := n0_; have BK293 := n1_; have GW293 := n2_; have GE293 := n3_; clear n0_ n1_ n2_ n3_; clear hb hbox hg)); try go_wp2_with (first | ((with_reducible refine gate_dst (N := 3) rfl ?_); refine box_event ?hg (N := 3) ?hd (cs := #[.int .i64 a1_0, .int .i64 a1_1]) (t := 48) ?hr ?_; (case hd => rfl); (case hg => rfl); (case hr => first | (go_simp; done) | (go_simp; rfl)); intro gb293 hg w3 hbox hb; have n0_ := Aside0.mk (below_step (B_) hb); have n1_ := Aside0.mk (hbox); have n2_ := Aside0.mk ((by rw [hg]; exact (below_size (B_)) : w.heap.size ≤ gb293)); have n3_ := Aside0.mk ((by rw [hg]; exact (below_size (B_)) : w.heap.size ≤ gb293)); clear HB; have HB := n0_; have BK293 := n1_; have GW293 := n2_; have GE293 := n3_; clear n0_ n1_ n2_ n3_; clear hb hbox hg)))
 go_loopg [8] k (fun kq v8 w' => ∃ (x8_1 : Int), v8 = .int .i64 x8_1 ∧ Aside0 (slices_Index_2_int_2_int.l0 kq l0 (l0.length : Int) x8_1 a1_0 a1_1 = some r) ∧ Aside0 (kq ≤ k) ∧ Aside0 (w'.heap[gb293]? = some (.cells #[.int .i64 a1_0, .int .i64 a1_1] 48 (0, 0))) ∧ Aside0 (Below w.heap.size w w'))
 case atStart => exact ⟨(0), (by first | rfl | (simp; done) | (simp [*]; done)), H', ⟨Nat.le_refl _⟩, ⟨by exact KX_ BK293.out⟩, ⟨B1_⟩⟩
 case round =>
  clear H'
  obtain ⟨x8_1, rfl, HA, HK1, BK293, HB⟩ := hrel
  cases gk with
  | zero => exact absurd HA.out (by simp [slices_Index_2_int_2_int.l0])
  | succ k1 =>
   have H := HA.out
   clear HA
   simp only [slices_Index_2_int_2_int.l0] at H
   by_cases c4 : x8_1 < (l0.length : Int)
   ·rw [if_pos c4] at H
    have c4b0 : decide (x8_1 < (l0.length : Int)) = true := decide_eq_true c4
    clear c4
    by_cases c5 : 0 ≤ x8_1
    ·rw [if_pos c5] at H
     have c5b0 : decide (0 ≤ x8_1) = true := decide_eq_true c5
     clear c5
     by_cases c6 : x8_1 < (l0.length : Int)
     ·rw [if_pos c6] at H
      have c6b0 : decide (x8_1 < (l0.length : Int)) = true := decide_eq_true c6
      clear c6
      by_cases c7 : (a1_0 == ((rd_T48 l0 x8_1).f0) && (a1_1 == ((rd_T48 l0 x8_1).f1))) = true
      ·rw [if_pos c7] at H
       have c7b0 : (a1_0 == ((rd_T48 l0 x8_1).f0) && (a1_1 == ((rd_T48 l0 x8_1).f1))) = true := c7
       (try (have c7b1 : decide (a1_0 = ((rd_T48 l0 x8_1).f0) && (a1_1 == ((rd_T48 l0 x8_1).f1))) = true := by simpa using c7))
       (try (have c7b2 : (a1_0 == ((rd_T48 l0 x8_1).f0) && (a1_1 == ((rd_T48 l0 x8_1).f1))) = true := by simpa using c7))
       clear c7
       obtain rfl := Option.some.inj H
       have hcz8_0 : wr.cell? ⟨gb293, 0, none⟩ = some (.int .i64 a1_0) := (blk_cell BK293.out 0).trans rfl
       have hcz8_1 : wr.cell? ⟨gb293, 1, none⟩ = some (.int .i64 a1_1) := (blk_cell BK293.out 1).trans rfl
       have hfz8_0 := blk_frozen BK293.out 0
       have hfz8_1 := blk_frozen BK293.out 1
       have p294 : 0 ≤ (x8_1 : Int) := D_
       have q294 : x8_1 < (l0.length : Int) := D_
       obtain ⟨ad294, e294, hx294_0, hx294_1⟩ := at_T48 HR0.out x8_1 p294 q294
       cases e294
       replace hx294_0 := (HB.out.cell (World.block_lt_of_cell? w _ hx294_0)).trans hx294_0
       replace hx294_1 := (HB.out.cell (World.block_lt_of_cell? w _ hx294_1)).trans hx294_1
       replace p294 := eq_true p294
       replace q294 := eq_true q294
       go_wp2
       repeat (go_quiet (fail); try go_wp2)
       go_ret
       exact ⟨by first | rfl | (simp [errW_none, errW_some] <;> rfl) | (simp [*, errW_none, errW_some] <;> rfl), B1_⟩
      rw [if_neg c7] at H
      have c7b0 : (a1_0 == ((rd_T48 l0 x8_1).f0) && (a1_1 == ((rd_T48 l0 x8_1).f1))) = false := by simpa using c7
      (try (have c7b1 : decide (a1_0 = ((rd_T48 l0 x8_1).f0) && (a1_1 == ((rd_T48 l0 x8_1).f1))) = false := by simpa using c7))
      (try (have c7b2 : (a1_0 == ((rd_T48 l0 x8_1).f0) && (a1_1 == ((rd_T48 l0 x8_1).f1))) = false := by simpa using c7))
      (try (have c7b3 : ¬ (a1_0 = ((rd_T48 l0 x8_1).f0) && (a1_1 == ((rd_T48 l0 x8_1).f1))) := by simpa using c7))
      clear c7
      have H' := Aside0.mk H
      clear H
      have hcz9_0 : wr.cell? ⟨gb293, 0, none⟩ = some (.int .i64 a1_0) := (blk_cell BK293.out 0).trans rfl
      have hcz9_1 : wr.cell? ⟨gb293, 1, none⟩ = some (.int .i64 a1_1) := (blk_cell BK293.out 1).trans rfl
      have hfz9_0 := blk_frozen BK293.out 0
      have hfz9_1 := blk_frozen BK293.out 1
      have p294 : 0 ≤ (x8_1 : Int) := D_
      have q294 : x8_1 < (l0.length : Int) := D_
      obtain ⟨ad294, e294, hx294_0, hx294_1⟩ := at_T48 HR0.out x8_1 p294 q294
      cases e294
      replace hx294_0 := (HB.out.cell (World.block_lt_of_cell? w _ hx294_0)).trans hx294_0
      replace hx294_1 := (HB.out.cell (World.block_lt_of_cell? w _ hx294_1)).trans hx294_1
      replace p294 := eq_true p294
      replace q294 := eq_true q294
      go_wp2
      repeat (go_quiet (fail); try go_wp2)
      go_roundg k1
      case measure => have := HK1.out; omega
      case rel => exact ⟨(wrap64 (x8_1 + 1)), (by first | rfl | (simp; done) | (simp [*]; done)), H', ⟨by have := HK1.out; omega⟩, ⟨by exact KX_ BK293.out⟩, ⟨B1_⟩⟩
     rw [if_neg c6] at H
     exact absurd H (by simp)
    rw [if_neg c5] at H
    exact absurd H (by simp)
   rw [if_neg c4] at H
   have c4b0 : decide (x8_1 < (l0.length : Int)) = false := decide_eq_false c4
   clear c4
   obtain rfl := Option.some.inj H
   go_wp2
   repeat (go_quiet (fail); try go_wp2)
   go_ret
   exact ⟨by first | rfl | (simp [errW_none, errW_some] <;> rfl) | (simp [*, errW_none, errW_some] <;> rfl), B1_⟩

/-! ### slices_Contains_2_int_2_int: function 43 -/
def slices_Contains_2_int_2_int.f (k : Nat) (l0 : List (S48)) (a1_0 : Int) (a1_1 : Int) : Option (Bool) := (slices_Index_2_int_2_int.f k l0 a1_0 a1_1).bind fun t296 => (some (decide (t296 ≥ 0)))
theorem slices_Contains_2_int_2_int.mono : ∀ a0 a1 a2 k, LeO (slices_Contains_2_int_2_int.f k a0 a1 a2) (slices_Contains_2_int_2_int.f (k + 1) a0 a1 a2) := by
 intro a0 a1 a2 k
 unfold slices_Contains_2_int_2_int.f
 repeat' first
  | (with_reducible exact slices_Index_2_int_2_int.mono _ _ _ _)
  | (with_reducible exact LeO.refl _)
  | (with_reducible exact LeO.none _)
  | (with_reducible refine LeO.ite ?_ ?_)
  | (with_reducible refine LeO.bind ?_ (fun _ => ?_))
  | exact slices_Index_2_int_2_int.mono _ _ _ _
  | exact LeO.none _
  | refine LeO.ite ?_ ?_
  | refine LeO.bind ?_ (fun _ => ?_)
set_option maxHeartbeats 8000000 in
set_option maxRecDepth 100000 in
theorem slices_Contains_2_int_2_int.calls (k : Nat) (A0 : Option Addr) (c0 : Nat) (l0 : List (S48)) (a1_0 : Int) (a1_1 : Int) (r : Bool) (w : World) (hr0 : Kd.C k48 w A0 l0.length l0) (hc0 : l0.length ≤ c0) (h : slices_Contains_2_int_2_int.f k l0 a1_0 a1_1 = some r) :
 Calls Try.prog 43 #[.slice A0 l0.length c0, .agg #[.int .i64 a1_0, .int .i64 a1_1]] w fun e w' => e = .returned (.bool r) ∧ Below w.heap.size w w' := by
 have hu48 := Try.underlying48
 have HR0 := Aside0.mk hr0
 have HC0 := Aside0.mk hc0
 clear hr0 hc0
 have HB := Aside0.mk (Below.refl w.heap.size w)
 have H : ((slices_Index_2_int_2_int.f k l0 a1_0 a1_1).bind fun t296 => (some (decide (t296 ≥ 0)))) = some r := h
 clear h
 replace H := Option.bind_eq_some_iff.mp H
 obtain ⟨t296, A30, H⟩ := H
 replace H : (some (decide (t296 ≥ 0))) = some r := H
 have A3 := Aside0.mk A30
 clear A30
 obtain rfl := Option.some.inj H
 go_enter Try.func43, Try.ntmps43
 go_wp2_with (first | ((with_reducible refine gate_dst (N := 3) rfl ?_); refine box_event ?hg (N := 3) ?hd (cs := #[.int .i64 a1_0, .int .i64 a1_1]) (t := 48) ?hr ?_; (case hd => rfl); (case hg => rfl); (case hr => first | (go_simp; done) | (go_simp; rfl)); intro gb295 hg w4 hbox hb; have n0_ := Aside0.mk (below_step (B_) hb); have n1_ := Aside0.mk (hbox); have n2_ := Aside0.mk ((by rw [hg]; exact (below_size (B_)) : w.heap.size ≤ gb295)); have n3_ := Aside0.mk ((by rw [hg]; exact (below_size (B_)) : w.heap.size ≤ gb295)); clear HB; have HB := n0_; have BK295 := n1_; have GW295 := n2_; have GE295 := n3_; clear n0_ n1_ n2_ n3_; clear hb hbox hg; have hcz5_0 : w4.cell? ⟨gb295, 0, none⟩ = some (.int .i64 a1_0) := (blk_cell BK295.out 0).trans rfl; have hcz5_1 : w4.cell? ⟨gb295, 1, none⟩ = some (.int .i64 a1_1) := (blk_cell BK295.out 1).trans rfl; have hfz5_0 := blk_frozen BK295.out 0; have hfz5_1 := blk_frozen BK295.out 1) | ((with_reducible refine gate_callee (f := 58) rfl ?_); refine goesL_ (some 7) rfl rfl Try.func58 (by kernel_rfl) rfl #[.slice A0 l0.length c0, .agg #[.int .i64 a1_0, .int .i64 a1_1]] rfl (by (try simp only [List.map_toArray, List.map_cons, List.map_nil]); first | done | rfl | (simp only [List.length_drop, List.length_take]; rfl)) ?_; (with_reducible refine (slices_Index_2_int_2_int.calls k _ _ l0 a1_0 a1_1 t296 _ ?side1 ?side2 A3.out).mono ?_); (case side1 => exact CX_ (Kd.C_below HR0.out HB.out)); (case side2 => exact HC0.out); rintro e w6 ⟨rfl, hb⟩; refine ⟨_, rfl, ?_⟩; have n0_ := Aside0.mk (blk_below (g := gb295) (o := .cells #[.int .i64 a1_0, .int .i64 a1_1] 48 (0, 0)) (by exact KX_ BK295.out) hb); have n1_ := Aside0.mk (below_step (B1_) hb); clear BK295; clear HB; have BK295 := n0_; have HB := n1_; clear n0_ n1_; (try clear hb); (try clear hb2); (try clear hk); (try clear hi)))
 go_ret
 exact ⟨by first | rfl | (simp [errW_none, errW_some] <;> rfl) | (simp [*, errW_none, errW_some] <;> rfl), B1_⟩


/-! ### slices_Index_int_int: function 59 -/
def slices_Index_int_int.l0 : Nat → List Int → Int → Int → Int → Option (Int)
 | 0, _, _, _, _ => none
 | k + 1, x0, x1, x7, x8 => if x8 < x7 then (if 0 ≤ x8 then (if x8 < (x0.length : Int) then (if x1 = (rd x0 x8) then (some x8) else (slices_Index_int_int.l0 k x0 x1 x7 (wrap64 (x8 + 1)))) else (none)) else (none)) else (some (-1))
def slices_Index_int_int.f (k : Nat) (l0 : List Int) (a1 : Int) : Option (Int) := slices_Index_int_int.l0 k l0 a1 (l0.length : Int) 0
theorem slices_Index_int_int.mono_l : ∀ k, (∀ y0 y1 y2 y3, LeO (slices_Index_int_int.l0 k y0 y1 y2 y3) (slices_Index_int_int.l0 (k + 1) y0 y1 y2 y3))
 | 0 => fun _ _ _ _ r h => by simp [slices_Index_int_int.l0] at h
 | k + 1 => by
  have ih0 := slices_Index_int_int.mono_l k
  ·intro y0 y1 y2 y3
   unfold slices_Index_int_int.l0
   repeat' first
   | (with_reducible exact ih0 _ _ _ _)
   | (with_reducible exact LeO.refl _)
   | (with_reducible exact LeO.none _)
   | (with_reducible refine LeO.ite ?_ ?_)
   | (with_reducible refine LeO.bind ?_ (fun _ => ?_))
   | exact ih0 _ _ _ _
   | exact LeO.none _
   | refine LeO.ite ?_ ?_
   | refine LeO.bind ?_ (fun _ => ?_)
theorem slices_Index_int_int.mono : ∀ a0 a1 k, LeO (slices_Index_int_int.f k a0 a1) (slices_Index_int_int.f (k + 1) a0 a1) := by
 intro a0 a1 k
 have ih0 := slices_Index_int_int.mono_l k
 unfold slices_Index_int_int.f
 repeat' first
  | (with_reducible exact ih0 _ _ _ _)
  | (with_reducible exact LeO.refl _)
  | (with_reducible exact LeO.none _)
  | (with_reducible refine LeO.ite ?_ ?_)
  | (with_reducible refine LeO.bind ?_ (fun _ => ?_))
  | exact ih0 _ _ _ _
  | exact LeO.none _
  | refine LeO.ite ?_ ?_
  | refine LeO.bind ?_ (fun _ => ?_)
set_option maxHeartbeats 8000000 in
set_option maxRecDepth 100000 in
theorem slices_Index_int_int.calls (k : Nat) (A0 : Option Addr) (c0 : Nat) (l0 : List Int) (a1 : Int) (r : Int) (w : World) (hr0 : Kd.C (Kd.int .i64) w A0 l0.length l0) (hc0 : l0.length ≤ c0) (h : slices_Index_int_int.f k l0 a1 = some r) :
 Calls Try.prog 59 #[.slice A0 l0.length c0, .int .i64 a1] w fun e w' => e = .returned (.int .i64 r) ∧ Drawn0 w w' := by
 have HR0 := Aside0.mk hr0
 have HC0 := Aside0.mk hc0
 clear hr0 hc0
 have H : (slices_Index_int_int.l0 k l0 a1 (l0.length : Int) 0) = some r := h
 clear h
 have H' := Aside0.mk H
 clear H
 go_enter Try.func59, Try.ntmps59
 go_wp2
 go_loopg [8] k (fun kq v8 w' => ∃ (x8_1 : Int), v8 = .int .i64 x8_1 ∧ Aside0 (slices_Index_int_int.l0 kq l0 a1 (l0.length : Int) x8_1 = some r) ∧ Aside0 (kq ≤ k) ∧ Drawn0 w w')
 case atStart => exact ⟨(0), (by first | rfl | (simp; done) | (simp [*]; done)), H', ⟨Nat.le_refl _⟩, by repeat (first | exact Drawn0.refl _ | apply Drawn0.step)⟩
 case round =>
  clear H'
  obtain ⟨x8_1, rfl, HA, HK1, ⟨m1, rfl⟩⟩ := hrel
  cases gk with
  | zero => exact absurd HA.out (by simp [slices_Index_int_int.l0])
  | succ k1 =>
   have H := HA.out
   clear HA
   simp only [slices_Index_int_int.l0] at H
   by_cases c3 : x8_1 < (l0.length : Int)
   ·rw [if_pos c3] at H
    have c3b0 : decide (x8_1 < (l0.length : Int)) = true := decide_eq_true c3
    clear c3
    by_cases c4 : 0 ≤ x8_1
    ·rw [if_pos c4] at H
     have c4b0 : decide (0 ≤ x8_1) = true := decide_eq_true c4
     clear c4
     by_cases c5 : x8_1 < (l0.length : Int)
     ·rw [if_pos c5] at H
      have c5b0 : decide (x8_1 < (l0.length : Int)) = true := decide_eq_true c5
      clear c5
      by_cases c6 : a1 = (rd l0 x8_1)
      ·rw [if_pos c6] at H
       have c6b0 : (a1 == (rd l0 x8_1)) = true := beq_iff_eq.mpr c6
       have c6b1 : (a1 != (rd l0 x8_1)) = false := bne_eq_false_iff_eq.mpr c6
       clear c6
       obtain rfl := Option.some.inj H
       have p297 : 0 ≤ (x8_1 : Int) := D_
       have q297 : x8_1 < (l0.length : Int) := D_
       obtain ⟨ad297, e297, hx297_0⟩ := Kd.at_int HR0.out x8_1 p297 q297
       cases e297
       replace p297 := eq_true p297
       replace q297 := eq_true q297
       go_wp2
       go_ret
       exact ⟨by first | rfl | (simp; done) | (simp [*]; done), by repeat (first | exact Drawn0.refl _ | apply Drawn0.step)⟩
      rw [if_neg c6] at H
      have c6b0 : (a1 == (rd l0 x8_1)) = false := beq_eq_false_iff_ne.mpr c6
      have c6b1 : (a1 != (rd l0 x8_1)) = true := bne_iff_ne.mpr c6
      have H' := Aside0.mk H
      clear H
      have p297 : 0 ≤ (x8_1 : Int) := D_
      have q297 : x8_1 < (l0.length : Int) := D_
      obtain ⟨ad297, e297, hx297_0⟩ := Kd.at_int HR0.out x8_1 p297 q297
      cases e297
      replace p297 := eq_true p297
      replace q297 := eq_true q297
      go_wp2
      go_roundg k1
      case measure => have := HK1.out; omega
      case rel => exact ⟨(wrap64 (x8_1 + 1)), (by first | rfl | (simp; done) | (simp [*]; done)), H', ⟨by have := HK1.out; omega⟩, by repeat (first | exact Drawn0.refl _ | apply Drawn0.step)⟩
     rw [if_neg c5] at H
     exact absurd H (by simp)
    rw [if_neg c4] at H
    exact absurd H (by simp)
   rw [if_neg c3] at H
   have c3b0 : decide (x8_1 < (l0.length : Int)) = false := decide_eq_false c3
   clear c3
   obtain rfl := Option.some.inj H
   go_wp2
   go_ret
   exact ⟨by first | rfl | (simp; done) | (simp [*]; done), by repeat (first | exact Drawn0.refl _ | apply Drawn0.step)⟩


/-! ### loop_forward: function 44 -/
mutual
def loop_forward.l0 : Nat → List Int → List Int → Int → Int → List (List Int) → List (List Int) → Option (Bool)
 | 0, _, _, _, _, _, _ => none
 | k + 1, x3, x10, x11, x12, x299000, x299001 => if x12 < x11 then (if 0 ≤ x12 then (if x12 < (x10.length : Int) then (if 0 ≤ (rd x10 x12) then (if (rd x10 x12) < (x299000.length : Int) then (loop_forward.l1 k x3 x12 x10 x11 x12 (rd_L1 x299000 (rd x10 x12)) ((rd_L1 x299000 (rd x10 x12)).length : Int) 0 x299000 x299001) else (none)) else (none)) else (none)) else (none)) else (some (decide ((x3.length : Int) > 0)))
def loop_forward.l1 : Nat → List Int → Int → List Int → Int → Int → List Int → Int → Int → List (List Int) → List (List Int) → Option (Bool)
 | 0, _, _, _, _, _, _, _, _, _, _ => none
 | k + 1, x3, x4, x10, x11, x12, x21, x22, x23, x299000, x299001 => if x23 < x22 then (if 0 ≤ x23 then (if x23 < (x21.length : Int) then ((slices_Index_int_int.f k x3 (rd x21 x23)).bind fun t305 => (if t305 ≤ x4 then (some false) else (loop_forward.l1 k x3 x4 x10 x11 x12 x21 x22 (wrap64 (x23 + 1)) x299000 x299001))) else (none)) else (none)) else (loop_forward.l0 k x3 x10 x11 (wrap64 (x12 + 1)) x299000 x299001)
end
def loop_forward.f (k : Nat) (l0_0 : List (List Int)) (l0_1 : List (List Int)) : Option (Bool) := (graph_Order.f k l0_0 l0_1 0).bind fun t299 => (loop_forward.l0 k t299 t299 (t299.length : Int) 0 l0_0 l0_1)
theorem loop_forward.mono_l : ∀ k, (∀ y0 y1 y2 y3 y4 y5, LeO (loop_forward.l0 k y0 y1 y2 y3 y4 y5) (loop_forward.l0 (k + 1) y0 y1 y2 y3 y4 y5)) ∧ (∀ y0 y1 y2 y3 y4 y5 y6 y7 y8 y9, LeO (loop_forward.l1 k y0 y1 y2 y3 y4 y5 y6 y7 y8 y9) (loop_forward.l1 (k + 1) y0 y1 y2 y3 y4 y5 y6 y7 y8 y9))
 | 0 => ⟨fun _ _ _ _ _ _ r h => by simp [loop_forward.l0] at h, fun _ _ _ _ _ _ _ _ _ _ r h => by simp [loop_forward.l1] at h⟩
 | k + 1 => by
  obtain ⟨ih0, ih1⟩ := loop_forward.mono_l k
  refine ⟨?_, ?_⟩
  ·intro y0 y1 y2 y3 y4 y5
   unfold loop_forward.l0
   repeat' first
   | (with_reducible exact ih0 _ _ _ _ _ _)
   | (with_reducible exact ih1 _ _ _ _ _ _ _ _ _ _)
   | (with_reducible exact graph_Order.mono _ _ _ _)
   | (with_reducible exact slices_Index_int_int.mono _ _ _)
   | (with_reducible exact LeO.refl _)
   | (with_reducible exact LeO.none _)
   | (with_reducible refine LeO.ite ?_ ?_)
   | (with_reducible refine LeO.bind ?_ (fun _ => ?_))
   | exact ih0 _ _ _ _ _ _
   | exact ih1 _ _ _ _ _ _ _ _ _ _
   | exact graph_Order.mono _ _ _ _
   | exact slices_Index_int_int.mono _ _ _
   | exact LeO.none _
   | refine LeO.ite ?_ ?_
   | refine LeO.bind ?_ (fun _ => ?_)
  ·intro y0 y1 y2 y3 y4 y5 y6 y7 y8 y9
   unfold loop_forward.l1
   repeat' first
   | (with_reducible exact ih0 _ _ _ _ _ _)
   | (with_reducible exact ih1 _ _ _ _ _ _ _ _ _ _)
   | (with_reducible exact graph_Order.mono _ _ _ _)
   | (with_reducible exact slices_Index_int_int.mono _ _ _)
   | (with_reducible exact LeO.refl _)
   | (with_reducible exact LeO.none _)
   | (with_reducible refine LeO.ite ?_ ?_)
   | (with_reducible refine LeO.bind ?_ (fun _ => ?_))
   | exact ih0 _ _ _ _ _ _
   | exact ih1 _ _ _ _ _ _ _ _ _ _
   | exact graph_Order.mono _ _ _ _
   | exact slices_Index_int_int.mono _ _ _
   | exact LeO.none _
   | refine LeO.ite ?_ ?_
   | refine LeO.bind ?_ (fun _ => ?_)
theorem loop_forward.mono : ∀ a0 a1 k, LeO (loop_forward.f k a0 a1) (loop_forward.f (k + 1) a0 a1) := by
 intro a0 a1 k
 obtain ⟨ih0, ih1⟩ := loop_forward.mono_l k
 unfold loop_forward.f
 repeat' first
  | (with_reducible exact ih0 _ _ _ _ _ _)
  | (with_reducible exact ih1 _ _ _ _ _ _ _ _ _ _)
  | (with_reducible exact graph_Order.mono _ _ _ _)
  | (with_reducible exact slices_Index_int_int.mono _ _ _)
  | (with_reducible exact LeO.refl _)
  | (with_reducible exact LeO.none _)
  | (with_reducible refine LeO.ite ?_ ?_)
  | (with_reducible refine LeO.bind ?_ (fun _ => ?_))
  | exact ih0 _ _ _ _ _ _
  | exact ih1 _ _ _ _ _ _ _ _ _ _
  | exact graph_Order.mono _ _ _ _
  | exact slices_Index_int_int.mono _ _ _
  | exact LeO.none _
  | refine LeO.ite ?_ ?_
  | refine LeO.bind ?_ (fun _ => ?_)
set_option maxHeartbeats 8000000 in
set_option maxRecDepth 100000 in
theorem loop_forward.calls (k : Nat) (A0_0 : Option Addr) (c0_0 : Nat) (l0_0 : List (List Int)) (A0_1 : Option Addr) (c0_1 : Nat) (l0_1 : List (List Int)) (r : Bool) (w : World) (hr0_0 : Kd.C (Kd.slice 3 (Kd.int .i64)) w A0_0 l0_0.length l0_0) (hc0_0 : l0_0.length ≤ c0_0) (hr0_1 : Kd.C (Kd.slice 3 (Kd.int .i64)) w A0_1 l0_1.length l0_1) (hc0_1 : l0_1.length ≤ c0_1) (h : loop_forward.f k l0_0 l0_1 = some r) :
 Calls Try.prog 44 #[.agg #[.slice A0_0 l0_0.length c0_0, .slice A0_1 l0_1.length c0_1]] w fun e w' => e = .returned (.bool r) ∧ Below w.heap.size w w' := by
 have hu26 := Try.underlying26
 have HR0_0 := Aside0.mk hr0_0
 have HC0_0 := Aside0.mk hc0_0
 clear hr0_0 hc0_0
 have HR0_1 := Aside0.mk hr0_1
 have HC0_1 := Aside0.mk hc0_1
 clear hr0_1 hc0_1
 have HB := Aside0.mk (Below.refl w.heap.size w)
 have H : ((graph_Order.f k l0_0 l0_1 0).bind fun t299 => (loop_forward.l0 k t299 t299 (t299.length : Int) 0 l0_0 l0_1)) = some r := h
 clear h
 replace H := Option.bind_eq_some_iff.mp H
 obtain ⟨t299, A20, H⟩ := H
 replace H : (loop_forward.l0 k t299 t299 (t299.length : Int) 0 l0_0 l0_1) = some r := H
 have A2 := Aside0.mk A20
 clear A20
 have H' := Aside0.mk H
 clear H
 go_enter Try.func44, Try.ntmps44
 go_wp2_with (first | ((with_reducible refine gate_dst (N := 1) rfl ?_); refine box_event ?hg (N := 1) ?hd (cs := #[.slice A0_0 l0_0.length c0_0, .slice A0_1 l0_1.length c0_1]) (t := 26) ?hr ?_; (case hd => rfl); (case hg => rfl); (case hr => first | (go_simp; done) | (go_simp; rfl)); intro gb298 hg w3 hbox hb; have n0_ := Aside0.mk (below_step (B_) hb); have n1_ := Aside0.mk (hbox); have n2_ := Aside0.mk ((by rw [hg]; exact (below_size (B_)) : w.heap.size ≤ gb298)); have n3_ := Aside0.mk ((by rw [hg]; exact (below_size (B_)) : w.heap.size ≤ gb298)); clear HB; have HB := n0_; have BK298 := n1_; have GW298 := n2_; have GE298 := n3_; clear n0_ n1_ n2_ n3_; clear hb hbox hg; have hcz4_0 : w3.cell? ⟨gb298, 0, none⟩ = some (.slice A0_0 l0_0.length c0_0) := (blk_cell BK298.out 0).trans rfl; have hcz4_1 : w3.cell? ⟨gb298, 1, none⟩ = some (.slice A0_1 l0_1.length c0_1) := (blk_cell BK298.out 1).trans rfl; have hfz4_0 := blk_frozen BK298.out 0; have hfz4_1 := blk_frozen BK298.out 1) | ((with_reducible refine gate_callee (f := 24) rfl ?_); refine goesL_ (some 9) rfl rfl Try.func24 (by kernel_rfl) rfl #[.agg #[.slice A0_0 l0_0.length c0_0, .slice A0_1 l0_1.length c0_1], .int .i64 0] rfl (by (try simp only [List.map_toArray, List.map_cons, List.map_nil]); first | done | rfl | (simp only [List.length_drop, List.length_take]; rfl)) ?_; (with_reducible refine (graph_Order.calls k _ _ l0_0 _ _ l0_1 0 t299 _ ?side1 ?side2 ?side3 ?side4 A2.out).mono ?_); (case side1 => exact CX_ (Kd.C_below HR0_0.out HB.out)); (case side2 => exact HC0_0.out); (case side3 => exact CX_ (Kd.C_below HR0_1.out HB.out)); (case side4 => exact HC0_1.out); rintro e w5 ⟨v300, rfl, ho0, hb⟩; refine ⟨_, rfl, ?_⟩; have n0_ := Aside0.mk (Kd.R_lower ho0 (below_size (B1_))); have n1_ := Aside0.mk (blk_below (g := gb298) (o := .cells #[.slice A0_0 l0_0.length c0_0, .slice A0_1 l0_1.length c0_1] 26 (0, 0)) (by exact KX_ BK298.out) hb); have n2_ := Aside0.mk (below_step (B1_) hb); clear BK298; clear HB; have HO301 := n0_; have BK298 := n1_; have HB := n2_; clear n0_ n1_ n2_; (try clear hb); (try clear hb2); (try clear hk); (try clear hi); (try clear ho0); obtain ⟨Ao6, co6, eo6⟩ := Kd.R_slice HO301.out; subst eo6))
 go_loopg [12] k (fun kq v12 w' => ∃ (x12_1 : Int), v12 = .int .i64 x12_1 ∧ Aside0 (loop_forward.l0 kq t299 t299 (t299.length : Int) x12_1 l0_0 l0_1 = some r) ∧ Aside0 (kq ≤ k) ∧ Aside0 (Kd.R (Kd.int .i64) 3 w' w.heap.size (fun _ => True) (.slice Ao6 t299.length co6) t299) ∧ Aside0 (Kd.R (Kd.int .i64) 3 w' w.heap.size (fun _ => True) (.slice Ao6 t299.length co6) t299) ∧ Aside0 (w'.heap[gb298]? = some (.cells #[(.slice A0_0 l0_0.length c0_0), (.slice A0_1 l0_1.length c0_1)] 26 (0, 0))) ∧ Aside0 (Below w.heap.size w w'))
 case atStart => exact ⟨(0), (by first | rfl | (simp; done) | (simp [*]; done)), H', ⟨Nat.le_refl _⟩, ⟨by exact RM_ HO301.out⟩, ⟨by exact RM_ HO301.out⟩, ⟨by exact KX_ BK298.out⟩, ⟨B1_⟩⟩
 case round =>
  clear H'
  try clear hcz4_0
  try clear hcz4_1
  try clear hfz4_0
  try clear hfz4_1
  obtain ⟨x12_1, rfl, HA, HK1, HO_3, HO_10, BK298, HB⟩ := hrel
  cases gk with
  | zero => exact absurd HA.out (by simp [loop_forward.l0])
  | succ k1 =>
   have H := HA.out
   clear HA
   simp only [loop_forward.l0] at H
   by_cases c7 : x12_1 < (t299.length : Int)
   ·rw [if_pos c7] at H
    have c7b0 : decide (x12_1 < (t299.length : Int)) = true := decide_eq_true c7
    clear c7
    by_cases c8 : 0 ≤ x12_1
    ·rw [if_pos c8] at H
     have c8b0 : decide (0 ≤ x12_1) = true := decide_eq_true c8
     clear c8
     by_cases c9 : x12_1 < (t299.length : Int)
     ·rw [if_pos c9] at H
      have c9b0 : decide (x12_1 < (t299.length : Int)) = true := decide_eq_true c9
      clear c9
      by_cases c10 : 0 ≤ (rd t299 x12_1)
      ·rw [if_pos c10] at H
       have c10b0 : decide (0 ≤ (rd t299 x12_1)) = true := decide_eq_true c10
       clear c10
       by_cases c11 : (rd t299 x12_1) < (l0_0.length : Int)
       ·rw [if_pos c11] at H
        have c11b0 : decide ((rd t299 x12_1) < (l0_0.length : Int)) = true := decide_eq_true c11
        clear c11
        have H' := Aside0.mk H
        clear H
        have p302 : 0 ≤ (x12_1 : Int) := D_
        have q302 : x12_1 < (t299.length : Int) := D_
        obtain ⟨ad302, e302, hx302_0⟩ := Kd.at_int (Kd.R_reads' HO_10.out).2.2 x12_1 p302 q302
        cases e302
        replace p302 := eq_true p302
        replace q302 := eq_true q302
        have hcz12_0 : wr.cell? ⟨gb298, 0, none⟩ = some (.slice A0_0 l0_0.length c0_0) := (blk_cell BK298.out 0).trans rfl
        have hcz12_1 : wr.cell? ⟨gb298, 1, none⟩ = some (.slice A0_1 l0_1.length c0_1) := (blk_cell BK298.out 1).trans rfl
        have hfz12_0 := blk_frozen BK298.out 0
        have hfz12_1 := blk_frozen BK298.out 1
        have p303 : 0 ≤ ((rd t299 x12_1) : Int) := D_
        have q303 : (rd t299 x12_1) < (l0_0.length : Int) := D_
        obtain ⟨ad303, A303_0, c303_0, e303, hx303_0, hl303_0, hi303_0⟩ := at_L1 HR0_0.out (rd t299 x12_1) p303 q303
        cases e303
        replace hx303_0 := (HB.out.cell (World.block_lt_of_cell? w _ hx303_0)).trans hx303_0
        have HR303_0 := Aside0.mk hi303_0
        have HC303_0 := Aside0.mk hl303_0
        clear hi303_0 hl303_0
        replace p303 := eq_true p303
        replace q303 := eq_true q303
        go_wp2
        go_loopg [23] k1 (fun kq v23 w' => ∃ (x23_2 : Int), v23 = .int .i64 x23_2 ∧ Aside0 (loop_forward.l1 kq t299 x12_1 t299 (t299.length : Int) x12_1 (rd_L1 l0_0 (rd t299 x12_1)) ((rd_L1 l0_0 (rd t299 x12_1)).length : Int) x23_2 l0_0 l0_1 = some r) ∧ Aside0 (kq ≤ k1) ∧ Aside0 (Kd.R (Kd.int .i64) 3 w' w.heap.size (fun _ => True) (.slice (some ad302) t299.length co6) t299) ∧ Aside0 (Kd.R (Kd.int .i64) 3 w' w.heap.size (fun _ => True) (.slice (some ad302) t299.length co6) t299) ∧ Aside0 (w'.heap[gb298]? = some (.cells #[(.slice (some ad303) l0_0.length c0_0), (.slice A0_1 l0_1.length c0_1)] 26 (0, 0))) ∧ Aside0 (Below w.heap.size w w'))
        case atStart => exact ⟨(0), (by first | rfl | (simp; done) | (simp [*]; done)), H', ⟨Nat.le_refl _⟩, ⟨by exact RM_ HO_3.out⟩, ⟨by exact RM_ HO_10.out⟩, ⟨by exact KX_ BK298.out⟩, ⟨B1_⟩⟩
        case round =>
         clear H'
         try clear c7b0
         try clear c8b0
         try clear c9b0
         try clear c10b0
         try clear c11b0
         try clear hcz12_0
         try clear hcz12_1
         try clear hfz12_0
         try clear hfz12_1
         try clear hx302_0
         try clear hx303_0
         try clear p302
         try clear p303
         try clear q302
         try clear q303
         obtain ⟨x23_2, rfl, HA, HK2, HO_3, HO_10, BK298, HB⟩ := hrel
         cases gk with
         | zero => exact absurd HA.out (by simp [loop_forward.l1])
         | succ k2 =>
          have H := HA.out
          clear HA
          simp only [loop_forward.l1] at H
          by_cases c13 : x23_2 < ((rd_L1 l0_0 (rd t299 x12_1)).length : Int)
          ·rw [if_pos c13] at H
           have c13b0 : decide (x23_2 < ((rd_L1 l0_0 (rd t299 x12_1)).length : Int)) = true := decide_eq_true c13
           clear c13
           by_cases c14 : 0 ≤ x23_2
           ·rw [if_pos c14] at H
            have c14b0 : decide (0 ≤ x23_2) = true := decide_eq_true c14
            clear c14
            by_cases c15 : x23_2 < ((rd_L1 l0_0 (rd t299 x12_1)).length : Int)
            ·rw [if_pos c15] at H
             have c15b0 : decide (x23_2 < ((rd_L1 l0_0 (rd t299 x12_1)).length : Int)) = true := decide_eq_true c15
             clear c15
             replace H := Option.bind_eq_some_iff.mp H
             obtain ⟨t305, A160, H⟩ := H
             replace H : (if t305 ≤ x12_1 then (some false) else (loop_forward.l1 k2 t299 x12_1 t299 (t299.length : Int) x12_1 (rd_L1 l0_0 (rd t299 x12_1)) ((rd_L1 l0_0 (rd t299 x12_1)).length : Int) (wrap64 (x23_2 + 1)) l0_0 l0_1)) = some r := H
             have A16 := Aside0.mk A160
             clear A160
             by_cases c17 : t305 ≤ x12_1
             ·rw [if_pos c17] at H
              have c17b0 : decide (t305 ≤ x12_1) = true := decide_eq_true c17
              clear c17
              obtain rfl := Option.some.inj H
              have p304 : 0 ≤ (x23_2 : Int) := D_
              have q304 : x23_2 < ((rd_L1 l0_0 (rd t299 x12_1)).length : Int) := D_
              obtain ⟨ad304, e304, hx304_0⟩ := Kd.at_int HR303_0.out x23_2 p304 q304
              cases e304
              replace hx304_0 := (HB.out.cell (World.block_lt_of_cell? w _ hx304_0)).trans hx304_0
              replace p304 := eq_true p304
              replace q304 := eq_true q304
              go_wp2_with (first | ((with_reducible refine gate_callee (f := 59) rfl ?_); refine goesL_ (some 29) rfl rfl Try.func59 (by kernel_rfl) rfl #[.slice (some ad302) t299.length co6, .int .i64 (rd (rd_L1 l0_0 (rd t299 x12_1)) x23_2)] rfl (by (try simp only [List.map_toArray, List.map_cons, List.map_nil]); first | done | rfl | (simp only [List.length_drop, List.length_take]; rfl)) ?_; (with_reducible refine (slices_Index_int_int.calls k2 _ _ t299 (rd (rd_L1 l0_0 (rd t299 x12_1)) x23_2) t305 _ ?side1 ?side2 A16.out).mono ?_); (case side1 => repeat (first | exact (Kd.R_reads' HO_3.out).2.2 | (with_reducible refine Kd.C_alloc ?_ _) | (with_reducible refine Kd.C_drewN ?_ _) | (with_reducible refine Kd.C_drew ?_))); (case side2 => exact (Kd.R_reads' HO_3.out).2.1); rintro e w' ⟨rfl, ⟨nd, rfl⟩⟩; refine ⟨_, rfl, ?_⟩))
              go_ret
              exact ⟨by first | rfl | (simp [errW_none, errW_some] <;> rfl) | (simp [*, errW_none, errW_some] <;> rfl), B1_⟩
             rw [if_neg c17] at H
             have c17b0 : decide (t305 ≤ x12_1) = false := decide_eq_false c17
             clear c17
             have H' := Aside0.mk H
             clear H
             have p304 : 0 ≤ (x23_2 : Int) := D_
             have q304 : x23_2 < ((rd_L1 l0_0 (rd t299 x12_1)).length : Int) := D_
             obtain ⟨ad304, e304, hx304_0⟩ := Kd.at_int HR303_0.out x23_2 p304 q304
             cases e304
             replace hx304_0 := (HB.out.cell (World.block_lt_of_cell? w _ hx304_0)).trans hx304_0
             replace p304 := eq_true p304
             replace q304 := eq_true q304
             go_wp2_with (first | ((with_reducible refine gate_callee (f := 59) rfl ?_); refine goesL_ (some 29) rfl rfl Try.func59 (by kernel_rfl) rfl #[.slice (some ad302) t299.length co6, .int .i64 (rd (rd_L1 l0_0 (rd t299 x12_1)) x23_2)] rfl (by (try simp only [List.map_toArray, List.map_cons, List.map_nil]); first | done | rfl | (simp only [List.length_drop, List.length_take]; rfl)) ?_; (with_reducible refine (slices_Index_int_int.calls k2 _ _ t299 (rd (rd_L1 l0_0 (rd t299 x12_1)) x23_2) t305 _ ?side1 ?side2 A16.out).mono ?_); (case side1 => repeat (first | exact (Kd.R_reads' HO_3.out).2.2 | (with_reducible refine Kd.C_alloc ?_ _) | (with_reducible refine Kd.C_drewN ?_ _) | (with_reducible refine Kd.C_drew ?_))); (case side2 => exact (Kd.R_reads' HO_3.out).2.1); rintro e w' ⟨rfl, ⟨nd, rfl⟩⟩; refine ⟨_, rfl, ?_⟩))
             go_roundg k2
             case measure => have := HK1.out; have := HK2.out; omega
             case rel => exact ⟨(wrap64 (x23_2 + 1)), (by first | rfl | (simp; done) | (simp [*]; done)), H', ⟨by have := HK1.out; have := HK2.out; omega⟩, ⟨by exact RM_ HO_3.out⟩, ⟨by exact RM_ HO_10.out⟩, ⟨by exact KX_ BK298.out⟩, ⟨B1_⟩⟩
            rw [if_neg c15] at H
            exact absurd H (by simp)
           rw [if_neg c14] at H
           exact absurd H (by simp)
          rw [if_neg c13] at H
          have c13b0 : decide (x23_2 < ((rd_L1 l0_0 (rd t299 x12_1)).length : Int)) = false := decide_eq_false c13
          clear c13
          have H' := Aside0.mk H
          clear H
          go_wp2
          go_roundg k2
          case measure => have := HK1.out; have := HK2.out; omega
          case rel => exact ⟨(wrap64 (x12_1 + 1)), (by first | rfl | (simp; done) | (simp [*]; done)), H', ⟨by have := HK1.out; have := HK2.out; omega⟩, ⟨by exact RM_ HO_3.out⟩, ⟨by exact RM_ HO_10.out⟩, ⟨by exact KX_ BK298.out⟩, ⟨B1_⟩⟩
       rw [if_neg c11] at H
       exact absurd H (by simp)
      rw [if_neg c10] at H
      exact absurd H (by simp)
     rw [if_neg c9] at H
     exact absurd H (by simp)
    rw [if_neg c8] at H
    exact absurd H (by simp)
   rw [if_neg c7] at H
   have c7b0 : decide (x12_1 < (t299.length : Int)) = false := decide_eq_false c7
   clear c7
   obtain rfl := Option.some.inj H
   go_wp2
   go_ret
   exact ⟨by first | rfl | (simp [errW_none, errW_some] <;> rfl) | (simp [*, errW_none, errW_some] <;> rfl), B1_⟩


/-! ### loop_Reducible: function 19 -/
mutual
def loop_Reducible.l0 : Nat → List (S48) → List (List Int) → List (List Int) → Int → Int → Option (Bool)
 | 0, _, _, _, _, _ => none
 | k + 1, x3, x4, x21, x22, x23 => if x23 < x22 then (if 0 ≤ x23 then (if x23 < (x21.length : Int) then (loop_Reducible.l1 k x3 x4 x23 x21 x22 x23 (rd_L1 x21 x23) ((rd_L1 x21 x23).length : Int) 0) else (none)) else (none)) else ((graph_Make.f k x4).bind fun bt314 => ((loop_forward.f k bt314.1 bt314.2.1).bind fun t322 => (some t322)))
def loop_Reducible.l1 : Nat → List (S48) → List (List Int) → Int → List (List Int) → Int → Int → List Int → Int → Int → Option (Bool)
 | 0, _, _, _, _, _, _, _, _, _ => none
 | k + 1, x3, x4, x5, x21, x22, x23, x28, x29, x30 => if x30 < x29 then (if 0 ≤ x30 then (if x30 < (x28.length : Int) then ((slices_Contains_2_int_2_int.f k x3 x5 (rd x28 x30)).bind fun t325 => (if t325 = true then (loop_Reducible.l1 k x3 x4 x5 x21 x22 x23 x28 x29 (wrap64 (x30 + 1))) else (if 0 ≤ x5 then (if x5 < (x4.length : Int) then (if (rd_L1 x4 x5).length < 17592186044416 then (loop_Reducible.l1 k x3 (x4.set (x5 : Int).toNat ((rd_L1 x4 x5) ++ [rd x28 x30])) x5 x21 x22 x23 x28 x29 (wrap64 (x30 + 1))) else (none)) else (none)) else (none)))) else (none)) else (none)) else (loop_Reducible.l0 k x3 x4 x21 x22 (wrap64 (x23 + 1)))
end
def loop_Reducible.f (k : Nat) (l0_0 : List (List Int)) (l0_1 : List (List Int)) : Option (Bool) := (graph_May.f k l0_0 l0_1).bind fun t307 => (if t307 = true then ((loop_Backs.f k l0_0 l0_1).bind fun t308 => (if 0 ≤ (l0_0.length : Int) then (if ((l0_0.length : Int) : Int).toNat ≤ 11728124029610 then (loop_Reducible.l0 k t308 (List.replicate ((l0_0.length : Int) : Int).toNat []) l0_0 (l0_0.length : Int) 0) else (none)) else (none))) else (some false))
theorem loop_Reducible.mono_l : ∀ k, (∀ y0 y1 y2 y3 y4, LeO (loop_Reducible.l0 k y0 y1 y2 y3 y4) (loop_Reducible.l0 (k + 1) y0 y1 y2 y3 y4)) ∧ (∀ y0 y1 y2 y3 y4 y5 y6 y7 y8, LeO (loop_Reducible.l1 k y0 y1 y2 y3 y4 y5 y6 y7 y8) (loop_Reducible.l1 (k + 1) y0 y1 y2 y3 y4 y5 y6 y7 y8))
 | 0 => ⟨fun _ _ _ _ _ r h => by simp [loop_Reducible.l0] at h, fun _ _ _ _ _ _ _ _ _ r h => by simp [loop_Reducible.l1] at h⟩
 | k + 1 => by
  obtain ⟨ih0, ih1⟩ := loop_Reducible.mono_l k
  refine ⟨?_, ?_⟩
  ·intro y0 y1 y2 y3 y4
   unfold loop_Reducible.l0
   repeat' first
   | (with_reducible exact ih0 _ _ _ _ _)
   | (with_reducible exact ih1 _ _ _ _ _ _ _ _ _)
   | (with_reducible exact graph_Make.mono _ _)
   | (with_reducible exact graph_May.mono _ _ _)
   | (with_reducible exact loop_Backs.mono _ _ _)
   | (with_reducible exact loop_forward.mono _ _ _)
   | (with_reducible exact slices_Contains_2_int_2_int.mono _ _ _ _)
   | (with_reducible exact LeO.refl _)
   | (with_reducible exact LeO.none _)
   | (with_reducible refine LeO.ite ?_ ?_)
   | (with_reducible refine LeO.bind ?_ (fun _ => ?_))
   | exact ih0 _ _ _ _ _
   | exact ih1 _ _ _ _ _ _ _ _ _
   | exact graph_Make.mono _ _
   | exact graph_May.mono _ _ _
   | exact loop_Backs.mono _ _ _
   | exact loop_forward.mono _ _ _
   | exact slices_Contains_2_int_2_int.mono _ _ _ _
   | exact LeO.none _
   | refine LeO.ite ?_ ?_
   | refine LeO.bind ?_ (fun _ => ?_)
  ·intro y0 y1 y2 y3 y4 y5 y6 y7 y8
   unfold loop_Reducible.l1
   repeat' first
   | (with_reducible exact ih0 _ _ _ _ _)
   | (with_reducible exact ih1 _ _ _ _ _ _ _ _ _)
   | (with_reducible exact graph_Make.mono _ _)
   | (with_reducible exact graph_May.mono _ _ _)
   | (with_reducible exact loop_Backs.mono _ _ _)
   | (with_reducible exact loop_forward.mono _ _ _)
   | (with_reducible exact slices_Contains_2_int_2_int.mono _ _ _ _)
   | (with_reducible exact LeO.refl _)
   | (with_reducible exact LeO.none _)
   | (with_reducible refine LeO.ite ?_ ?_)
   | (with_reducible refine LeO.bind ?_ (fun _ => ?_))
   | exact ih0 _ _ _ _ _
   | exact ih1 _ _ _ _ _ _ _ _ _
   | exact graph_Make.mono _ _
   | exact graph_May.mono _ _ _
   | exact loop_Backs.mono _ _ _
   | exact loop_forward.mono _ _ _
   | exact slices_Contains_2_int_2_int.mono _ _ _ _
   | exact LeO.none _
   | refine LeO.ite ?_ ?_
   | refine LeO.bind ?_ (fun _ => ?_)
theorem loop_Reducible.mono : ∀ a0 a1 k, LeO (loop_Reducible.f k a0 a1) (loop_Reducible.f (k + 1) a0 a1) := by
 intro a0 a1 k
 obtain ⟨ih0, ih1⟩ := loop_Reducible.mono_l k
 unfold loop_Reducible.f
 repeat' first
  | (with_reducible exact ih0 _ _ _ _ _)
  | (with_reducible exact ih1 _ _ _ _ _ _ _ _ _)
  | (with_reducible exact graph_Make.mono _ _)
  | (with_reducible exact graph_May.mono _ _ _)
  | (with_reducible exact loop_Backs.mono _ _ _)
  | (with_reducible exact loop_forward.mono _ _ _)
  | (with_reducible exact slices_Contains_2_int_2_int.mono _ _ _ _)
  | (with_reducible exact LeO.refl _)
  | (with_reducible exact LeO.none _)
  | (with_reducible refine LeO.ite ?_ ?_)
  | (with_reducible refine LeO.bind ?_ (fun _ => ?_))
  | exact ih0 _ _ _ _ _
  | exact ih1 _ _ _ _ _ _ _ _ _
  | exact graph_Make.mono _ _
  | exact graph_May.mono _ _ _
  | exact loop_Backs.mono _ _ _
  | exact loop_forward.mono _ _ _
  | exact slices_Contains_2_int_2_int.mono _ _ _ _
  | exact LeO.none _
  | refine LeO.ite ?_ ?_
  | refine LeO.bind ?_ (fun _ => ?_)
set_option maxHeartbeats 8000000 in
set_option maxRecDepth 100000 in
theorem loop_Reducible.calls (k : Nat) (A0_0 : Option Addr) (c0_0 : Nat) (l0_0 : List (List Int)) (A0_1 : Option Addr) (c0_1 : Nat) (l0_1 : List (List Int)) (r : Bool) (w : World) (hr0_0 : Kd.C (Kd.slice 3 (Kd.int .i64)) w A0_0 l0_0.length l0_0) (hc0_0 : l0_0.length ≤ c0_0) (hr0_1 : Kd.C (Kd.slice 3 (Kd.int .i64)) w A0_1 l0_1.length l0_1) (hc0_1 : l0_1.length ≤ c0_1) (h : loop_Reducible.f k l0_0 l0_1 = some r) :
 Calls Try.prog 19 #[.agg #[.slice A0_0 l0_0.length c0_0, .slice A0_1 l0_1.length c0_1]] w fun e w' => e = .returned (.bool r) ∧ Below w.heap.size w w' := by
 have hu26 := Try.underlying26
 have hu48 := Try.underlying48
 have HR0_0 := Aside0.mk hr0_0
 have HC0_0 := Aside0.mk hc0_0
 clear hr0_0 hc0_0
 have HR0_1 := Aside0.mk hr0_1
 have HC0_1 := Aside0.mk hc0_1
 clear hr0_1 hc0_1
 have HB := Aside0.mk (Below.refl w.heap.size w)
 have H : ((graph_May.f k l0_0 l0_1).bind fun t307 => (if t307 = true then ((loop_Backs.f k l0_0 l0_1).bind fun t308 => (if 0 ≤ (l0_0.length : Int) then (if ((l0_0.length : Int) : Int).toNat ≤ 11728124029610 then (loop_Reducible.l0 k t308 (List.replicate ((l0_0.length : Int) : Int).toNat []) l0_0 (l0_0.length : Int) 0) else (none)) else (none))) else (some false))) = some r := h
 clear h
 replace H := Option.bind_eq_some_iff.mp H
 obtain ⟨t307, A20, H⟩ := H
 replace H : (if t307 = true then ((loop_Backs.f k l0_0 l0_1).bind fun t308 => (if 0 ≤ (l0_0.length : Int) then (if ((l0_0.length : Int) : Int).toNat ≤ 11728124029610 then (loop_Reducible.l0 k t308 (List.replicate ((l0_0.length : Int) : Int).toNat []) l0_0 (l0_0.length : Int) 0) else (none)) else (none))) else (some false)) = some r := H
 have A2 := Aside0.mk A20
 clear A20
 by_cases c3 : t307 = true
 ·subst c3
  have H1 : ((loop_Backs.f k l0_0 l0_1).bind fun t308 => (if 0 ≤ (l0_0.length : Int) then (if ((l0_0.length : Int) : Int).toNat ≤ 11728124029610 then (loop_Reducible.l0 k t308 (List.replicate ((l0_0.length : Int) : Int).toNat []) l0_0 (l0_0.length : Int) 0) else (none)) else (none))) = some r := by rw [if_pos rfl] at H; exact H
  clear H
  have H := H1
  clear H1
  replace H := Option.bind_eq_some_iff.mp H
  obtain ⟨t308, A40, H⟩ := H
  replace H : (if 0 ≤ (l0_0.length : Int) then (if ((l0_0.length : Int) : Int).toNat ≤ 11728124029610 then (loop_Reducible.l0 k t308 (List.replicate ((l0_0.length : Int) : Int).toNat []) l0_0 (l0_0.length : Int) 0) else (none)) else (none)) = some r := H
  have A4 := Aside0.mk A40
  clear A40
  by_cases c5 : 0 ≤ (l0_0.length : Int)
  ·rw [if_pos c5] at H
   have c5b0 := eq_true c5
   have c5b1 : decide (0 ≤ (l0_0.length : Int)) = true := decide_eq_true c5
   clear c5
   by_cases c6 : ((l0_0.length : Int) : Int).toNat ≤ 11728124029610
   ·rw [if_pos c6] at H
    have c6b0 := eq_true c6
    have c6b1 : decide (((l0_0.length : Int) : Int).toNat ≤ 11728124029610) = true := decide_eq_true c6
    clear c6
    obtain ⟨y311, hy311⟩ : ∃ y_ : List (List Int), y_ = (List.replicate ((l0_0.length : Int) : Int).toNat []) := ⟨_, rfl⟩
    replace H : (loop_Reducible.l0 k t308 y311 l0_0 (l0_0.length : Int) 0) = some r := by first | (rw [hy311]; with_reducible exact H) | (have H2_ := (Option.bind_some _ _).symm.trans H; rw [hy311]; with_reducible exact H2_) | (have H2_ := (Option.bind_some _ _).symm.trans H; with_reducible exact H2_) | with_reducible exact H | (rw [hy311]; exact H) | exact H
    have Ny311 := Aside0.mk hy311
    clear hy311
    have H' := Aside0.mk H
    clear H
    go_enter Try.func19, Try.ntmps19
    go_wp2_with (first | ((with_reducible refine gate_dst (N := 1) rfl ?_); refine box_event ?hg (N := 1) ?hd (cs := #[.slice A0_0 l0_0.length c0_0, .slice A0_1 l0_1.length c0_1]) (t := 26) ?hr ?_; (case hd => rfl); (case hg => rfl); (case hr => first | (go_simp; done) | (go_simp; rfl)); intro gb306 hg w7 hbox hb; have n0_ := Aside0.mk (below_step (B_) hb); have n1_ := Aside0.mk (hbox); have n2_ := Aside0.mk ((by rw [hg]; exact (below_size (B_)) : w.heap.size ≤ gb306)); have n3_ := Aside0.mk ((by rw [hg]; exact (below_size (B_)) : w.heap.size ≤ gb306)); clear HB; have HB := n0_; have BK306 := n1_; have GW306 := n2_; have GE306 := n3_; clear n0_ n1_ n2_ n3_; clear hb hbox hg; have hcz8_0 : w7.cell? ⟨gb306, 0, none⟩ = some (.slice A0_0 l0_0.length c0_0) := (blk_cell BK306.out 0).trans rfl; have hcz8_1 : w7.cell? ⟨gb306, 1, none⟩ = some (.slice A0_1 l0_1.length c0_1) := (blk_cell BK306.out 1).trans rfl; have hfz8_0 := blk_frozen BK306.out 0; have hfz8_1 := blk_frozen BK306.out 1) | ((with_reducible refine gate_callee (f := 42) rfl ?_); refine goesL_ (some 12) rfl rfl Try.func42 (by kernel_rfl) rfl #[.agg #[.slice A0_0 l0_0.length c0_0, .slice A0_1 l0_1.length c0_1]] rfl (by (try simp only [List.map_toArray, List.map_cons, List.map_nil]); first | done | rfl | (simp only [List.length_drop, List.length_take]; rfl)) ?_; (with_reducible refine (graph_May.calls k _ _ l0_0 _ _ l0_1 true _ ?side1 ?side2 ?side3 ?side4 A2.out).mono ?_); (case side1 => exact CX_ (Kd.C_below HR0_0.out HB.out)); (case side2 => exact HC0_0.out); (case side3 => exact CX_ (Kd.C_below HR0_1.out HB.out)); (case side4 => exact HC0_1.out); rintro e w9 ⟨rfl, hb⟩; refine ⟨_, rfl, ?_⟩; have n0_ := Aside0.mk (blk_below (g := gb306) (o := .cells #[.slice A0_0 l0_0.length c0_0, .slice A0_1 l0_1.length c0_1] 26 (0, 0)) (by exact KX_ BK306.out) hb); have n1_ := Aside0.mk (below_step (B1_) hb); clear BK306; clear HB; have BK306 := n0_; have HB := n1_; clear n0_ n1_; (try clear hb); (try clear hb2); (try clear hk); (try clear hi); have hcz10_0 : w9.cell? ⟨gb306, 0, none⟩ = some (.slice A0_0 l0_0.length c0_0) := (blk_cell BK306.out 0).trans rfl; have hcz10_1 : w9.cell? ⟨gb306, 1, none⟩ = some (.slice A0_1 l0_1.length c0_1) := (blk_cell BK306.out 1).trans rfl; have hfz10_0 := blk_frozen BK306.out 0; have hfz10_1 := blk_frozen BK306.out 1) | ((with_reducible refine gate_callee (f := 22) rfl ?_); refine goesL_ (some 15) rfl rfl Try.func22 (by kernel_rfl) rfl #[.agg #[.slice A0_0 l0_0.length c0_0, .slice A0_1 l0_1.length c0_1]] rfl (by (try simp only [List.map_toArray, List.map_cons, List.map_nil]); first | done | rfl | (simp only [List.length_drop, List.length_take]; rfl)) ?_; (with_reducible refine (loop_Backs.calls k _ _ l0_0 _ _ l0_1 t308 _ ?side1 ?side2 ?side3 ?side4 A4.out).mono ?_); (case side1 => exact CX_ (Kd.C_below HR0_0.out HB.out)); (case side2 => exact HC0_0.out); (case side3 => exact CX_ (Kd.C_below HR0_1.out HB.out)); (case side4 => exact HC0_1.out); rintro e w11 ⟨v309, rfl, ho0, hb⟩; refine ⟨_, rfl, ?_⟩; have n0_ := Aside0.mk (Kd.R_lower ho0 (below_size (B1_))); have n1_ := Aside0.mk (blk_below (g := gb306) (o := .cells #[.slice A0_0 l0_0.length c0_0, .slice A0_1 l0_1.length c0_1] 26 (0, 0)) (by exact KX_ BK306.out) hb); have n2_ := Aside0.mk (below_step (B1_) hb); clear BK306; clear HB; have HO310 := n0_; have BK306 := n1_; have HB := n2_; clear n0_ n1_ n2_; (try clear hb); (try clear hb2); (try clear hk); (try clear hi); (try clear ho0); have hcz12_0 : w11.cell? ⟨gb306, 0, none⟩ = some (.slice A0_0 l0_0.length c0_0) := (blk_cell BK306.out 0).trans rfl; have hcz12_1 : w11.cell? ⟨gb306, 1, none⟩ = some (.slice A0_1 l0_1.length c0_1) := (blk_cell BK306.out 1).trans rfl; have hfz12_0 := blk_frozen BK306.out 0; have hfz12_1 := blk_frozen BK306.out 1) | ((with_reducible refine gate_dst (N := 19) rfl ?_); refine Kd.S_make (Kd.slice 3 (Kd.int .i64)) _ 31 rfl (N := 19) rfl 22 _ _ rfl (l0_0.length : Int) rfl rfl Try.underlying22 (.slice none 0 0) 24 info31 rfl (by decide) (by omega) [] (ok := fun _ => True) (okp := fun _ => True) ⟨_, rfl, Kd.R_nil _ _ _ _ _⟩ (fun _ hk => hk) trivial (D_) (Nat.le_trans (Nat.mul_le_mul_right _ (D_ : (l0_0.length : Int).toNat ≤ 11728124029610)) (by omega)) (Below.refl _ _) (Nat.le_refl _) ?_; intro v312 w13 ho14 hb hg_ hnew_; clear hg_ hnew_; (first | rw [← Ny311.out] at ho14 | (simp only [Int.reduceToNat] at ho14; rw [← Ny311.out] at ho14)); have n0_ := Aside0.mk (Kd.R_below (by exact RX_ HO310.out) hb); have n1_ := Aside0.mk (Kd.S_lower ho14 (below_size (B1_))); have n2_ := Aside0.mk (blk_below (g := gb306) (o := .cells #[.slice A0_0 l0_0.length c0_0, .slice A0_1 l0_1.length c0_1] 26 (0, 0)) (by exact KX_ BK306.out) hb); have n3_ := Aside0.mk (below_step (B1_) hb); clear HO310; clear BK306; clear HB; have HO310 := n0_; have HO313 := n1_; have BK306 := n2_; have HB := n3_; clear n0_ n1_ n2_ n3_; clear hb ho14; have hcz15_0 : w13.cell? ⟨gb306, 0, none⟩ = some (.slice A0_0 l0_0.length c0_0) := (blk_cell BK306.out 0).trans rfl; have hcz15_1 : w13.cell? ⟨gb306, 1, none⟩ = some (.slice A0_1 l0_1.length c0_1) := (blk_cell BK306.out 1).trans rfl; have hfz15_0 := blk_frozen BK306.out 0; have hfz15_1 := blk_frozen BK306.out 1))
    go_loopg [23] k (fun kq v23 w' => ∃ (x4_1 : List (List Int)) (x23_1 : Int), v23 = .int .i64 x23_1 ∧ Aside0 (loop_Reducible.l0 kq t308 x4_1 l0_0 (l0_0.length : Int) x23_1 = some r) ∧ Aside0 (kq ≤ k) ∧ Aside0 (Kd.R k48 48 w' w.heap.size (fun _ => True) v309 t308) ∧ Aside0 (Kd.S (Kd.slice 3 (Kd.int .i64)) 31 w' w.heap.size (fun _ => True) v312 x4_1) ∧ Aside0 (w'.heap[gb306]? = some (.cells #[(.slice A0_0 l0_0.length c0_0), (.slice A0_1 l0_1.length c0_1)] 26 (0, 0))) ∧ Aside0 (Below w.heap.size w w'))
    case atStart => exact ⟨(y311), (0), (by first | rfl | (simp; done) | (simp [*]; done)), H', ⟨Nat.le_refl _⟩, ⟨by exact RM_ HO310.out⟩, ⟨by exact SM_ HO313.out⟩, ⟨by exact KX_ BK306.out⟩, ⟨B1_⟩⟩
    case round =>
     clear H'
     try clear c3
     try clear c5b0
     try clear c5b1
     try clear c6b0
     try clear c6b1
     try clear hcz10_0
     try clear hcz10_1
     try clear hcz12_0
     try clear hcz12_1
     try clear hcz15_0
     try clear hcz15_1
     try clear hcz8_0
     try clear hcz8_1
     try clear hfz10_0
     try clear hfz10_1
     try clear hfz12_0
     try clear hfz12_1
     try clear hfz15_0
     try clear hfz15_1
     try clear hfz8_0
     try clear hfz8_1
     obtain ⟨x4_1, x23_1, rfl, HA, HK1, HO_3, HO_4, BK306, HB⟩ := hrel
     cases gk with
     | zero => exact absurd HA.out (by simp [loop_Reducible.l0])
     | succ k1 =>
      have H := HA.out
      clear HA
      simp only [loop_Reducible.l0] at H
      by_cases c16 : x23_1 < (l0_0.length : Int)
      ·rw [if_pos c16] at H
       have c16b0 : decide (x23_1 < (l0_0.length : Int)) = true := decide_eq_true c16
       clear c16
       by_cases c17 : 0 ≤ x23_1
       ·rw [if_pos c17] at H
        have c17b0 : decide (0 ≤ x23_1) = true := decide_eq_true c17
        clear c17
        by_cases c18 : x23_1 < (l0_0.length : Int)
        ·rw [if_pos c18] at H
         have c18b0 : decide (x23_1 < (l0_0.length : Int)) = true := decide_eq_true c18
         clear c18
         have H' := Aside0.mk H
         clear H
         have p323 : 0 ≤ (x23_1 : Int) := D_
         have q323 : x23_1 < (l0_0.length : Int) := D_
         obtain ⟨ad323, A323_0, c323_0, e323, hx323_0, hl323_0, hi323_0⟩ := at_L1 HR0_0.out x23_1 p323 q323
         cases e323
         replace hx323_0 := (HB.out.cell (World.block_lt_of_cell? w _ hx323_0)).trans hx323_0
         have HR323_0 := Aside0.mk hi323_0
         have HC323_0 := Aside0.mk hl323_0
         clear hi323_0 hl323_0
         replace p323 := eq_true p323
         replace q323 := eq_true q323
         go_wp2
         go_loopg [30] k1 (fun kq v30 w' => ∃ (x4_2 : List (List Int)) (x30_2 : Int), v30 = .int .i64 x30_2 ∧ Aside0 (loop_Reducible.l1 kq t308 x4_2 x23_1 l0_0 (l0_0.length : Int) x23_1 (rd_L1 l0_0 x23_1) ((rd_L1 l0_0 x23_1).length : Int) x30_2 = some r) ∧ Aside0 (kq ≤ k1) ∧ Aside0 (Kd.R k48 48 w' w.heap.size (fun _ => True) v309 t308) ∧ Aside0 (Kd.S (Kd.slice 3 (Kd.int .i64)) 31 w' w.heap.size (fun _ => True) v312 x4_2) ∧ Aside0 (w'.heap[gb306]? = some (.cells #[(.slice (some ad323) l0_0.length c0_0), (.slice A0_1 l0_1.length c0_1)] 26 (0, 0))) ∧ Aside0 (Below w.heap.size w w'))
         case atStart => exact ⟨(x4_1), (0), (by first | rfl | (simp; done) | (simp [*]; done)), H', ⟨Nat.le_refl _⟩, ⟨by exact RM_ HO_3.out⟩, ⟨by exact SM_ HO_4.out⟩, ⟨by exact KX_ BK306.out⟩, ⟨B1_⟩⟩
         case round =>
          clear H'
          try clear c16b0
          try clear c17b0
          try clear c18b0
          try clear hx323_0
          try clear p323
          try clear q323
          obtain ⟨x4_2, x30_2, rfl, HA, HK2, HO_3, HO_4, BK306, HB⟩ := hrel
          cases gk with
          | zero => exact absurd HA.out (by simp [loop_Reducible.l1])
          | succ k2 =>
           have H := HA.out
           clear HA
           simp only [loop_Reducible.l1] at H
           by_cases c19 : x30_2 < ((rd_L1 l0_0 x23_1).length : Int)
           ·rw [if_pos c19] at H
            have c19b0 : decide (x30_2 < ((rd_L1 l0_0 x23_1).length : Int)) = true := decide_eq_true c19
            clear c19
            by_cases c20 : 0 ≤ x30_2
            ·rw [if_pos c20] at H
             have c20b0 : decide (0 ≤ x30_2) = true := decide_eq_true c20
             clear c20
             by_cases c21 : x30_2 < ((rd_L1 l0_0 x23_1).length : Int)
             ·rw [if_pos c21] at H
              have c21b0 : decide (x30_2 < ((rd_L1 l0_0 x23_1).length : Int)) = true := decide_eq_true c21
              clear c21
              replace H := Option.bind_eq_some_iff.mp H
              obtain ⟨t325, A220, H⟩ := H
              replace H : (if t325 = true then (loop_Reducible.l1 k2 t308 x4_2 x23_1 l0_0 (l0_0.length : Int) x23_1 (rd_L1 l0_0 x23_1) ((rd_L1 l0_0 x23_1).length : Int) (wrap64 (x30_2 + 1))) else (if 0 ≤ x23_1 then (if x23_1 < (x4_2.length : Int) then (if (rd_L1 x4_2 x23_1).length < 17592186044416 then (loop_Reducible.l1 k2 t308 (x4_2.set (x23_1 : Int).toNat ((rd_L1 x4_2 x23_1) ++ [rd (rd_L1 l0_0 x23_1) x30_2])) x23_1 l0_0 (l0_0.length : Int) x23_1 (rd_L1 l0_0 x23_1) ((rd_L1 l0_0 x23_1).length : Int) (wrap64 (x30_2 + 1))) else (none)) else (none)) else (none))) = some r := H
              have A22 := Aside0.mk A220
              clear A220
              by_cases c23 : t325 = true
              ·subst c23
               have H1 : (loop_Reducible.l1 k2 t308 x4_2 x23_1 l0_0 (l0_0.length : Int) x23_1 (rd_L1 l0_0 x23_1) ((rd_L1 l0_0 x23_1).length : Int) (wrap64 (x30_2 + 1))) = some r := by rw [if_pos rfl] at H; exact H
               clear H
               have H := H1
               clear H1
               have H' := Aside0.mk H
               clear H
               have p324 : 0 ≤ (x30_2 : Int) := D_
               have q324 : x30_2 < ((rd_L1 l0_0 x23_1).length : Int) := D_
               obtain ⟨ad324, e324, hx324_0⟩ := Kd.at_int HR323_0.out x30_2 p324 q324
               cases e324
               replace hx324_0 := (HB.out.cell (World.block_lt_of_cell? w _ hx324_0)).trans hx324_0
               replace p324 := eq_true p324
               replace q324 := eq_true q324
               obtain ⟨Ao24, co24, eo24⟩ := Kd.R_slice HO_3.out
               subst eo24
               go_wp2_with (first | ((with_reducible refine gate_callee (f := 43) rfl ?_); refine goesL_ (some 38) rfl rfl Try.func43 (by kernel_rfl) rfl #[.slice Ao24 t308.length co24, .agg #[.int .i64 x23_1, .int .i64 (rd (rd_L1 l0_0 x23_1) x30_2)]] rfl (by (try simp only [List.map_toArray, List.map_cons, List.map_nil]); first | done | rfl | (simp only [List.length_drop, List.length_take]; rfl)) ?_; (with_reducible refine (slices_Contains_2_int_2_int.calls k2 _ _ t308 x23_1 (rd (rd_L1 l0_0 x23_1) x30_2) true _ ?side1 ?side2 A22.out).mono ?_); (case side1 => repeat (first | exact (Kd.R_reads' HO_3.out).2.2 | (with_reducible refine Kd.C_alloc ?_ _) | (with_reducible refine Kd.C_drewN ?_ _) | (with_reducible refine Kd.C_drew ?_))); (case side2 => exact (Kd.R_reads' HO_3.out).2.1); rintro e w25 ⟨rfl, hb⟩; refine ⟨_, rfl, ?_⟩; have n0_ := Aside0.mk (Kd.R_below (by exact RX_ HO_3.out) hb); have n1_ := Aside0.mk (Kd.S_below (by exact SX_ HO_4.out) hb); have n2_ := Aside0.mk (blk_below (g := gb306) (o := .cells #[.slice (some ad323) l0_0.length c0_0, .slice A0_1 l0_1.length c0_1] 26 (0, 0)) (by exact KX_ BK306.out) hb); have n3_ := Aside0.mk (below_step (B1_) hb); clear HO_3; clear HO_4; clear BK306; clear HB; have HO_3 := n0_; have HO_4 := n1_; have BK306 := n2_; have HB := n3_; clear n0_ n1_ n2_ n3_; (try clear hb); (try clear hb2); (try clear hk); (try clear hi)))
               go_roundg k2
               case measure => have := HK1.out; have := HK2.out; omega
               case rel => exact ⟨(x4_2), (wrap64 (x30_2 + 1)), (by first | rfl | (simp; done) | (simp [*]; done)), H', ⟨by have := HK1.out; have := HK2.out; omega⟩, ⟨by exact RM_ HO_3.out⟩, ⟨by exact SM_ HO_4.out⟩, ⟨by exact KX_ BK306.out⟩, ⟨B1_⟩⟩
              replace c23 := Bool.eq_false_iff.mpr c23
              subst c23
              have H1 : (if 0 ≤ x23_1 then (if x23_1 < (x4_2.length : Int) then (if (rd_L1 x4_2 x23_1).length < 17592186044416 then (loop_Reducible.l1 k2 t308 (x4_2.set (x23_1 : Int).toNat ((rd_L1 x4_2 x23_1) ++ [rd (rd_L1 l0_0 x23_1) x30_2])) x23_1 l0_0 (l0_0.length : Int) x23_1 (rd_L1 l0_0 x23_1) ((rd_L1 l0_0 x23_1).length : Int) (wrap64 (x30_2 + 1))) else (none)) else (none)) else (none)) = some r := by rw [if_neg (show ¬ (false = true) by decide)] at H; exact H
              clear H
              have H := H1
              clear H1
              by_cases c26 : 0 ≤ x23_1
              ·rw [if_pos c26] at H
               have c26b0 : decide (0 ≤ x23_1) = true := decide_eq_true c26
               clear c26
               by_cases c27 : x23_1 < (x4_2.length : Int)
               ·rw [if_pos c27] at H
                have c27b0 : decide (x23_1 < (x4_2.length : Int)) = true := decide_eq_true c27
                clear c27
                by_cases c28 : (rd_L1 x4_2 x23_1).length < 17592186044416
                ·rw [if_pos c28] at H
                 have LMc28 := Aside0.mk c28
                 clear c28
                 obtain ⟨y327, hy327⟩ : ∃ y_ : List Int, y_ = ((rd_L1 x4_2 x23_1) ++ [rd (rd_L1 l0_0 x23_1) x30_2]) := ⟨_, rfl⟩
                 replace H : (loop_Reducible.l1 k2 t308 (x4_2.set (x23_1 : Int).toNat y327) x23_1 l0_0 (l0_0.length : Int) x23_1 (rd_L1 l0_0 x23_1) ((rd_L1 l0_0 x23_1).length : Int) (wrap64 (x30_2 + 1))) = some r := by first | (rw [hy327]; with_reducible exact H) | (have H2_ := (Option.bind_some _ _).symm.trans H; rw [hy327]; with_reducible exact H2_) | (have H2_ := (Option.bind_some _ _).symm.trans H; with_reducible exact H2_) | with_reducible exact H | (rw [hy327]; exact H) | exact H
                 have Ny327 := Aside0.mk hy327
                 clear hy327
                 obtain ⟨y330, hy330⟩ : ∃ y_ : List (List Int), y_ = (x4_2.set (x23_1 : Int).toNat y327) := ⟨_, rfl⟩
                 replace H : (loop_Reducible.l1 k2 t308 y330 x23_1 l0_0 (l0_0.length : Int) x23_1 (rd_L1 l0_0 x23_1) ((rd_L1 l0_0 x23_1).length : Int) (wrap64 (x30_2 + 1))) = some r := by first | (rw [hy330]; with_reducible exact H) | (have H2_ := (Option.bind_some _ _).symm.trans H; rw [hy330]; with_reducible exact H2_) | (have H2_ := (Option.bind_some _ _).symm.trans H; with_reducible exact H2_) | with_reducible exact H | (rw [hy330]; exact H) | exact H
                 have Ny330 := Aside0.mk hy330
                 clear hy330
                 have H' := Aside0.mk H
                 clear H
                 have p324 : 0 ≤ (x30_2 : Int) := D_
                 have q324 : x30_2 < ((rd_L1 l0_0 x23_1).length : Int) := D_
                 obtain ⟨ad324, e324, hx324_0⟩ := Kd.at_int HR323_0.out x30_2 p324 q324
                 cases e324
                 replace hx324_0 := (HB.out.cell (World.block_lt_of_cell? w _ hx324_0)).trans hx324_0
                 replace p324 := eq_true p324
                 replace q324 := eq_true q324
                 obtain ⟨Ao30, co30, eo30⟩ := Kd.R_slice HO_3.out
                 subst eo30
                 go_wp2_with (first | ((with_reducible refine gate_callee (f := 43) rfl ?_); refine goesL_ (some 38) rfl rfl Try.func43 (by kernel_rfl) rfl #[.slice Ao30 t308.length co30, .agg #[.int .i64 x23_1, .int .i64 (rd (rd_L1 l0_0 x23_1) x30_2)]] rfl (by (try simp only [List.map_toArray, List.map_cons, List.map_nil]); first | done | rfl | (simp only [List.length_drop, List.length_take]; rfl)) ?_; (with_reducible refine (slices_Contains_2_int_2_int.calls k2 _ _ t308 x23_1 (rd (rd_L1 l0_0 x23_1) x30_2) false _ ?side1 ?side2 A22.out).mono ?_); (case side1 => repeat (first | exact (Kd.R_reads' HO_3.out).2.2 | (with_reducible refine Kd.C_alloc ?_ _) | (with_reducible refine Kd.C_drewN ?_ _) | (with_reducible refine Kd.C_drew ?_))); (case side2 => exact (Kd.R_reads' HO_3.out).2.1); rintro e w31 ⟨rfl, hb⟩; refine ⟨_, rfl, ?_⟩; have n0_ := Aside0.mk (Kd.R_below (by exact RX_ HO_3.out) hb); have n1_ := Aside0.mk (Kd.S_below (by exact SX_ HO_4.out) hb); have n2_ := Aside0.mk (blk_below (g := gb306) (o := .cells #[.slice (some ad323) l0_0.length c0_0, .slice A0_1 l0_1.length c0_1] 26 (0, 0)) (by exact KX_ BK306.out) hb); have n3_ := Aside0.mk (below_step (B1_) hb); clear HO_3; clear HO_4; clear BK306; clear HB; have HO_3 := n0_; have HO_4 := n1_; have BK306 := n2_; have HB := n3_; clear n0_ n1_ n2_ n3_; (try clear hb); (try clear hb2); (try clear hk); (try clear hi); obtain ⟨Ao32, co32, eo32⟩ := Kd.S_slice HO_4.out; subst eo32; have p326 : 0 ≤ (x23_1 : Int) := D_; have q326 : x23_1 < (x4_2.length : Int) := D_; obtain ⟨ad326, A326_0, c326_0, e326, hx326_0, hl326_0, hi326_0⟩ := at_L1 (Kd.S_reads' HO_4.out).2.2 x23_1 p326 q326; cases e326; obtain ⟨ce326, hce326, hMe326, hcc326⟩ := Kd.S_get HO_4.out [] x23_1 p326 (by first | exact q326 | exact D_ | (have e_ := (Kd.S_reads' HO_4.out).1; omega)); obtain ⟨ve326_0, rfl, ge326_0⟩ := hMe326; have hv326_0 := hcc326 0 _ rfl; rw [Nat.add_zero, show ((Kd.slice 3 (Kd.int .i64))).sz = 1 from rfl, Nat.mul_one] at hv326_0; replace hv326_0 := Option.some.inj (hv326_0.symm.trans hx326_0); rw [hv326_0] at ge326_0; have HL326_0 := Aside0.mk (show Kd.R (Kd.int .i64) 3 _ _ _ _ (rd_L1 x4_2 x23_1) from ge326_0); clear hv326_0 ge326_0; have HX326_0 := Aside0.mk hx326_0; clear hcc326 hce326; have HR326_0 := Aside0.mk hi326_0; have HC326_0 := Aside0.mk hl326_0; clear hi326_0 hl326_0; replace p326 := eq_true p326; replace q326 := eq_true q326; obtain ⟨go33, co33, eo33, gb33, gl33, cl33, HG33⟩ := Kd.S_form HO_4.out (by have h_ : (x23_1 : Int) < ((x4_2.length : Int) : Int) := D_; have h2_ : 0 ≤ (x23_1 : Int) := (D_); omega); (first | cases eo33 | (injection eo33 with ea_ en_ ec_; (first | subst ea_ | (injection ea_ with ea_; subst ea_)); subst ec_; clear en_)); have GB33 := Aside0.mk gb33; have GG33 := Aside0.mk HG33; clear gb33 gl33 HG33; (first | simp only [add_plain] at hx326_0 | skip); obtain ⟨oki33, ce33, hcl33, hM33, hcc33, _, _, hH33⟩ := Kd.S_elem HO_4.out [] (x23_1 : Int) (D_) (by have h_ : (x23_1 : Int) < ((x4_2.length : Int) : Int) := D_; first | exact h_ | (have e_ := (Kd.S_reads' HO_4.out).1; omega) | simpa using h_); obtain ⟨ve33_0, rfl, ge33_0⟩ := hM33; have hv33 := hcc33 0 _ rfl; have hX33 := HX326_0.out; (try simp only [add_plain] at hX33); (try simp only [Nat.add_zero] at hv33); (try rw [show ((Kd.slice 3 (Kd.int .i64))).sz = 1 from rfl, Nat.mul_one] at hv33); replace hv33 := Option.some.inj (hv33.symm.trans hX33); subst hv33; clear hX33 hcc33 hcl33; have UU33 := Aside0.mk (show Kd.R (Kd.int .i64) 3 _ w.heap.size oki33 (.slice A326_0 (rd_L1 x4_2 x23_1).length c326_0) (rd_L1 x4_2 x23_1) from ge33_0); have HH33 := Aside0.mk hH33; have HN33 := Aside0.mk (Kd.S_reads' HO_4.out).1; clear hH33 ge33_0) | ((with_reducible refine gate_builtin (b := .append) (xs := #[.tmp 45, .tmp 47]) rfl ?_); at_builtin; refine Kd.R_append (Kd.int .i64) (w0 := w) w.heap.size rfl (.tmp 45) (.tmp 47) 31 3 (.int .i64 0) 8 rfl Try.underlying31 info3 rfl (by decide) (by omega) (.slice A326_0 (rd_L1 x4_2 x23_1).length c326_0) (rd_L1 x4_2 x23_1) (rd (rd_L1 l0_0 x23_1) x30_2) [.int .i64 (rd (rd_L1 l0_0 x23_1) x30_2)] (fun k_ => oki33 k_ ∨ ((fun _ => True)) k_ ∧ w31.heap.size ≤ k_) (fun _ => False) rfl rfl ?aP (fun _ hk => hk.elim) ?aF ?aO ?aB ?aS ?aL ?_; (case aP => exact rfl); (case aB => exact (B1_)); (case aF => exact (fun k_ hk => .inr ⟨trivial, hk⟩)); (case aO => exact (by (with_reducible repeat (first | apply Kd.R_alloc | apply Kd.R_drewN | apply Kd.R_drew)); exact Kd.R_mono UU33.out (fun _ hk => .inl hk))); (case aS => exact (below_size (B1_))); (case aL => have := LMc28.out; omega); intro v328 w34 ho hb hg hat; rw [← Ny327.out] at ho; have n0_ := Aside0.mk (Kd.R_over' (v := (.slice A326_0 (rd_L1 x4_2 x23_1).length c326_0)) (by exact RX_ HO_3.out) (Kd.R_typed HL326_0.out) (by decide) hg); have n1_ := Aside0.mk (blk_grown (g := gb306) (o := .cells #[.slice (some ad323) l0_0.length c0_0, .slice A0_1 l0_1.length c0_1] 26 (0, 0)) (by exact KX_ BK306.out) hg (Kd.R_ne HL326_0.out BK306.out (by decide))); have n2_ := Aside0.mk (hb); have n3_ := Aside0.mk (Kd.H_grown (Kd.H_widen (by repeat (first | exact HH33.out | refine Kd.H_alloc ?_ _ | refine Kd.H_drewN ?_ _ | refine Kd.H_drew ?_))) hg (fun k_ e_ => .inl (UU33.out.1 k_ e_))); have n4_ := Aside0.mk (ho); clear HO_3; clear BK306; clear HB; clear HH33; clear HO_4; clear UU33; clear HL326_0; have HO_3 := n0_; have BK306 := n1_; have HB := n2_; have HH33 := n3_; have HO329 := n4_; clear n0_ n1_ n2_ n3_ n4_; clear ho hb hg hat; have p29 : 0 ≤ (x23_1 : Int) := D_; have q29 : (x23_1 : Int) < ((x4_2.length : Int) : Int) := D_; replace p29 := eq_true p29; replace q29 := eq_true q29; obtain ⟨Ao37, co37, eo37⟩ := Kd.R_slice HO329.out; subst eo37; obtain ⟨_, _, hraw35, _, _, hcc35, _⟩ := Kd.H_raw HH33.out (D_) (by have h_ : (x23_1 : Int) < ((x4_2.length : Int) : Int) := D_; first | exact h_ | (have e_ := (HN33.out); omega) | simpa using h_); obtain ⟨_, hfr35⟩ := Kd.H_at HH33.out (D_) (by have h_ : (x23_1 : Int) < ((x4_2.length : Int) : Int) := D_; first | exact h_ | (have e_ := (HN33.out); omega) | simpa using h_); have hx35_0 := hcc35 0 _ rfl; have hf35_0 := hfr35 0; (try simp only [Nat.add_zero] at hx35_0 hf35_0); (try rw [show ((Kd.slice 3 (Kd.int .i64))).sz = 1 from rfl, Nat.mul_one] at hx35_0); (try rw [show ((Kd.slice 3 (Kd.int .i64))).sz = 1 from rfl, Nat.mul_one] at hf35_0); have HP35 := Kd.S_seg0 HH33.out (D_) (by have h_ : (x23_1 : Int) < ((x4_2.length : Int) : Int) := D_; first | exact h_ | (have e_ := (HN33.out); omega) | simpa using h_) (seg := [.slice Ao37 y327.length co37]) (j := 0) (show 1 ≤ 1 from by decide) (x' := y327) (Kd.M_row HO329.out) (fun _ hk => hk); (try simp only [show ((Kd.slice 3 (Kd.int .i64))).sz = 1 from rfl, Nat.mul_one, Nat.add_zero] at HP35); clear hcc35 hfr35) | ((with_reducible refine gate_store (t := 31) (p := 49) rfl ?_); refine store_event (t := 31) (p := 49) (v := ?vo_w36) (w1 := (w34.setCell ⟨go33, (x23_1 : Int).toNat, none⟩ (.slice Ao37 y327.length co37))) ?hg ?ho ?hn ?hr ?_; (case ho => rfl); (case hg => rfl); (case hn => rfl); (case hr => first | (go_simp; done) | (go_simp; rfl)); intro w36 hw; have hg : w34.grownBy w36 (some go33) := (by rw [hw]; exact HP35.2); have hp_ : Kd.S (Kd.slice 3 (Kd.int .i64)) 31 w36 w.heap.size (fun _ => True) (.slice (some ⟨go33, 0, none⟩) x4_2.length co32) y330 := (by rw [hw, Ny330.out]; exact HP35.1); clear HP35; have n0_ := Aside0.mk (Kd.R_over' (v := (.slice (some ⟨go33, 0, none⟩) x4_2.length co32)) (by exact RX_ HO_3.out) (Kd.R_typed hraw35) (by decide) hg); have n1_ := Aside0.mk (blk_grown (g := gb306) (o := .cells #[.slice (some ad323) l0_0.length c0_0, .slice A0_1 l0_1.length c0_1] 26 (0, 0)) (by exact KX_ BK306.out) hg (Kd.R_ne hraw35 BK306.out (by decide))); have n2_ := Aside0.mk ((by rw [hw]; exact below_set HB.out GB33.out : Below w.heap.size w w36)); have n3_ := Aside0.mk (hp_); clear HO_3; clear BK306; clear HB; clear HO329; clear HH33; have HO_3 := n0_; have BK306 := n1_; have HB := n2_; have HO_4 := n3_; clear n0_ n1_ n2_ n3_; clear hg hw hp_ hraw35))
                 go_roundg k2
                 case measure => have := HK1.out; have := HK2.out; omega
                 case rel => exact ⟨(y330), (wrap64 (x30_2 + 1)), (by first | rfl | (simp; done) | (simp [*]; done)), H', ⟨by have := HK1.out; have := HK2.out; omega⟩, ⟨by exact RM_ HO_3.out⟩, ⟨by exact SM_ HO_4.out⟩, ⟨by exact KX_ BK306.out⟩, ⟨B1_⟩⟩
                rw [if_neg c28] at H
                exact absurd H (by simp)
               rw [if_neg c27] at H
               exact absurd H (by simp)
              rw [if_neg c26] at H
              exact absurd H (by simp)
             rw [if_neg c21] at H
             exact absurd H (by simp)
            rw [if_neg c20] at H
            exact absurd H (by simp)
           rw [if_neg c19] at H
           have c19b0 : decide (x30_2 < ((rd_L1 l0_0 x23_1).length : Int)) = false := decide_eq_false c19
           clear c19
           have H' := Aside0.mk H
           clear H
           go_wp2
           go_roundg k2
           case measure => have := HK1.out; have := HK2.out; omega
           case rel => exact ⟨(x4_2), (wrap64 (x23_1 + 1)), (by first | rfl | (simp; done) | (simp [*]; done)), H', ⟨by have := HK1.out; have := HK2.out; omega⟩, ⟨by exact RM_ HO_3.out⟩, ⟨by exact SM_ HO_4.out⟩, ⟨by exact KX_ BK306.out⟩, ⟨B1_⟩⟩
        rw [if_neg c18] at H
        exact absurd H (by simp)
       rw [if_neg c17] at H
       exact absurd H (by simp)
      rw [if_neg c16] at H
      have c16b0 : decide (x23_1 < (l0_0.length : Int)) = false := decide_eq_false c16
      clear c16
      replace H := Option.bind_eq_some_iff.mp H
      obtain ⟨⟨t314, t317, t320⟩, A380, H⟩ := H
      replace H : ((loop_forward.f k1 t314 t317).bind fun t322 => (some t322)) = some r := H
      have A38 := Aside0.mk A380
      clear A380
      replace H := Option.bind_eq_some_iff.mp H
      obtain ⟨t322, A390, H⟩ := H
      replace H : (some t322) = some r := H
      have A39 := Aside0.mk A390
      clear A390
      obtain rfl := Option.some.inj H
      obtain ⟨Ao40, co40, eo40⟩ := Kd.S_slice HO_4.out
      subst eo40
      go_wp2_with (first | ((with_reducible refine gate_callee (f := 11) rfl ?_); refine goesL_ (some 54) rfl rfl Try.func11 (by kernel_rfl) rfl #[.slice Ao40 x4_1.length co40] rfl (by (try simp only [List.map_toArray, List.map_cons, List.map_nil]); first | done | rfl | (simp only [List.length_drop, List.length_take]; rfl)) ?_; (with_reducible refine (graph_Make.calls k1 _ _ x4_1 t314 t317 t320 _ ?side1 ?side2 A38.out).mono ?_); (case side1 => repeat (first | exact (Kd.S_reads' HO_4.out).2.2 | (with_reducible refine Kd.C_alloc ?_ _) | (with_reducible refine Kd.C_drewN ?_ _) | (with_reducible refine Kd.C_drew ?_))); (case side2 => exact (Kd.S_reads' HO_4.out).2.1); rintro e w41 ⟨v315, v318, rfl, ho0, ho1, hb⟩; refine ⟨_, rfl, ?_⟩; have n0_ := Aside0.mk (Kd.R_below (by exact RX_ HO_3.out) hb); have n1_ := Aside0.mk (Kd.S_mono (Kd.S_told (Kd.S_told (Kd.S_old (by exact SX_ HO_4.out) hb) (Kd.S_base ho0)) (Kd.S_base ho1)) (fun _ h_ => h_.1)); have n2_ := Aside0.mk (Kd.S_lower (Kd.S_new' ho0 (Kd.S_lt (by exact SX_ HO_4.out))) (below_size (B1_))); have n3_ := Aside0.mk (Kd.S_lower (Kd.S_new' ho1 (Kd.S_lt (by exact SX_ HO_4.out))) (below_size (B1_))); have n4_ := Aside0.mk (blk_below (g := gb306) (o := .cells #[.slice A0_0 l0_0.length c0_0, .slice A0_1 l0_1.length c0_1] 26 (0, 0)) (by exact KX_ BK306.out) hb); have n5_ := Aside0.mk (below_step (B1_) hb); clear HO_3; clear HO_4; clear BK306; clear HB; have HO_3 := n0_; have HO_4 := n1_; have HO316 := n2_; have HO319 := n3_; have BK306 := n4_; have HB := n5_; clear n0_ n1_ n2_ n3_ n4_ n5_; (try clear hb); (try clear hb2); (try clear hk); (try clear hi); (try clear ho0); (try clear ho1)) | ((with_reducible refine gate_dst (N := 9) rfl ?_); refine box_event ?hg (N := 9) ?hd (cs := #[.slice none 0 0, .slice none 0 0]) (t := 26) ?hr ?_; (case hd => rfl); (case hg => rfl); (case hr => first | (go_simp; done) | (go_simp; rfl)); intro gb321 hg w42 hbox hb; have n0_ := Aside0.mk (Kd.R_below (by exact RX_ HO_3.out) hb); have n1_ := Aside0.mk (Kd.S_below (by exact SX_ HO_4.out) hb); have n2_ := Aside0.mk (Kd.S_below (by exact SX_ HO316.out) hb); have n3_ := Aside0.mk (Kd.S_below (by exact SX_ HO319.out) hb); have n4_ := Aside0.mk (blk_below (g := gb306) (o := .cells #[.slice A0_0 l0_0.length c0_0, .slice A0_1 l0_1.length c0_1] 26 (0, 0)) (by exact KX_ BK306.out) hb); have n5_ := Aside0.mk (below_step (B1_) hb); have n6_ := Aside0.mk (hbox); have n7_ := Aside0.mk ((by rw [hg]; exact (below_size (B1_)) : w.heap.size ≤ gb321)); have n8_ := Aside0.mk ((by rw [hg]; exact (below_size (B1_)) : w.heap.size ≤ gb321)); have n9_ := Aside0.mk ((by rw [hg]; exact Nat.ne_of_lt (blk_lt (g := gb306) (o := .cells #[.slice A0_0 l0_0.length c0_0, .slice A0_1 l0_1.length c0_1] 26 (0, 0)) (by exact KX_ BK306.out)) : gb306 ≠ gb321)); have n10_ := Aside0.mk ((by rw [hg]; exact Nat.ne_of_gt (blk_lt (g := gb306) (o := .cells #[.slice A0_0 l0_0.length c0_0, .slice A0_1 l0_1.length c0_1] 26 (0, 0)) (by exact KX_ BK306.out)) : gb321 ≠ gb306)); clear HO_3; clear HO_4; clear HO316; clear HO319; clear BK306; clear HB; have HO_3 := n0_; have HO_4 := n1_; have HO316 := n2_; have HO319 := n3_; have BK306 := n4_; have HB := n5_; have BK321 := n6_; have GW321 := n7_; have GE321 := n8_; have NB306_321 := n9_; have NB321_306 := n10_; clear n0_ n1_ n2_ n3_ n4_ n5_ n6_ n7_ n8_ n9_ n10_; clear hb hbox hg; obtain ⟨Ao43, co43, eo43⟩ := Kd.S_slice HO316.out; subst eo43; have hnb44 := NB321_306.out; have hnc44 := NB306_321.out; have hcz45_0 : w42.cell? ⟨gb321, 0, none⟩ = some (.slice none 0 0) := (blk_cell BK321.out 0).trans rfl; have hcz45_1 : w42.cell? ⟨gb321, 1, none⟩ = some (.slice none 0 0) := (blk_cell BK321.out 1).trans rfl; have hfz45_0 := blk_frozen BK321.out 0; have hfz45_1 := blk_frozen BK321.out 1; obtain ⟨Ao46, co46, eo46⟩ := Kd.S_slice HO319.out; subst eo46) | ((with_reducible refine gate_callee (f := 44) rfl ?_); refine goesL_ (some 58) rfl rfl Try.func44 (by kernel_rfl) rfl #[.agg #[.slice Ao43 t314.length co43, .slice Ao46 t317.length co46]] rfl (by (try simp only [List.map_toArray, List.map_cons, List.map_nil]); first | done | rfl | (simp only [List.length_drop, List.length_take]; rfl)) ?_; (with_reducible refine (loop_forward.calls k1 _ _ t314 _ _ t317 t322 _ ?side1 ?side2 ?side3 ?side4 A39.out).mono ?_); (case side1 => refine (Kd.S_reads' (e := 31) (base := w.heap.size) (ok := fun k_ => (some k_ ≠ (.slice Ao46 t317.length co46 : Value).ownBlock ∧ some k_ ≠ (.slice Ao40 x4_1.length co40 : Value).ownBlock)) (n := t314.length) (c := co43) ?_).2.2; exact (by (with_reducible repeat (first | apply Kd.S_alloc | apply Kd.S_drewN | apply Kd.S_drew)); exact (Kd.S_mono (Kd.S_far (p := ⟨gb321, 1, none⟩) (Kd.S_far (p := ⟨gb321, 0, none⟩) (Kd.S_types HO316.out BK321.out (by decide)) (fun _ hk => hk.2) (.slice Ao43 t314.length co43)) (fun _ hk => hk.2) (.slice Ao46 t317.length co46)) (fun _ h_ => h_.1)))); (case side2 => exact (Kd.S_reads' HO316.out).2.1); (case side3 => refine (Kd.S_reads' (e := 31) (base := w.heap.size) (ok := fun k_ => (some k_ ≠ (.slice Ao43 t314.length co43 : Value).ownBlock ∧ some k_ ≠ (.slice Ao40 x4_1.length co40 : Value).ownBlock)) (n := t317.length) (c := co46) ?_).2.2; exact (by (with_reducible repeat (first | apply Kd.S_alloc | apply Kd.S_drewN | apply Kd.S_drew)); exact (Kd.S_mono (Kd.S_far (p := ⟨gb321, 1, none⟩) (Kd.S_far (p := ⟨gb321, 0, none⟩) (Kd.S_types HO319.out BK321.out (by decide)) (fun _ hk => hk.2) (.slice Ao43 t314.length co43)) (fun _ hk => hk.2) (.slice Ao46 t317.length co46)) (fun _ h_ => h_.1)))); (case side4 => exact (Kd.S_reads' HO319.out).2.1); rintro e w47 ⟨rfl, hb⟩; refine ⟨_, rfl, ?_⟩; have n0_ := Aside0.mk (Kd.R_below (by (with_reducible repeat (first | apply Kd.R_alloc | apply Kd.R_drewN | apply Kd.R_drew)); exact (Kd.R_mono (Kd.R_far (p := ⟨gb321, 1, none⟩) (Kd.R_far (p := ⟨gb321, 0, none⟩) (Kd.R_types HO_3.out BK321.out (by decide)) (fun _ hk => hk.2) (.slice Ao43 t314.length co43)) (fun _ hk => hk.2) (.slice Ao46 t317.length co46)) (fun _ h_ => h_.1))) hb); have n1_ := Aside0.mk (Kd.S_below (by (with_reducible repeat (first | apply Kd.S_alloc | apply Kd.S_drewN | apply Kd.S_drew)); exact (Kd.S_mono (Kd.S_far (p := ⟨gb321, 1, none⟩) (Kd.S_far (p := ⟨gb321, 0, none⟩) (Kd.S_types HO_4.out BK321.out (by decide)) (fun _ hk => hk.2) (.slice Ao43 t314.length co43)) (fun _ hk => hk.2) (.slice Ao46 t317.length co46)) (fun _ h_ => h_.1))) hb); have n2_ := Aside0.mk (Kd.S_below (by (with_reducible repeat (first | apply Kd.S_alloc | apply Kd.S_drewN | apply Kd.S_drew)); exact (Kd.S_mono (Kd.S_far (p := ⟨gb321, 1, none⟩) (Kd.S_far (p := ⟨gb321, 0, none⟩) (Kd.S_types HO316.out BK321.out (by decide)) (fun _ hk => hk.2) (.slice Ao43 t314.length co43)) (fun _ hk => hk.2) (.slice Ao46 t317.length co46)) (fun _ h_ => h_.1))) hb); have n3_ := Aside0.mk (Kd.S_below (by (with_reducible repeat (first | apply Kd.S_alloc | apply Kd.S_drewN | apply Kd.S_drew)); exact (Kd.S_mono (Kd.S_far (p := ⟨gb321, 1, none⟩) (Kd.S_far (p := ⟨gb321, 0, none⟩) (Kd.S_types HO319.out BK321.out (by decide)) (fun _ hk => hk.2) (.slice Ao43 t314.length co43)) (fun _ hk => hk.2) (.slice Ao46 t317.length co46)) (fun _ h_ => h_.1))) hb); have n4_ := Aside0.mk (blk_below (g := gb306) (o := .cells #[.slice A0_0 l0_0.length c0_0, .slice A0_1 l0_1.length c0_1] 26 (0, 0)) (by (with_reducible repeat (first | refine blk_drewN ?_ _ | refine blk_drew ?_ | refine blk_alloc ?_ _)); refine blk_far ?_ NB306_321.out _; (with_reducible repeat (first | refine blk_drewN ?_ _ | refine blk_drew ?_ | refine blk_alloc ?_ _)); refine blk_far ?_ NB306_321.out _; exact KX_ BK306.out) hb); have n5_ := Aside0.mk (blk_below (g := gb321) (o := .cells #[.slice Ao43 t314.length co43, .slice Ao46 t317.length co46] 26 (0, 0)) (by (with_reducible repeat (first | refine blk_drewN ?_ _ | refine blk_drew ?_ | refine blk_alloc ?_ _)); refine blk_put (cs := #[.slice Ao43 t314.length co43, .slice none 0 0]) ?_ 1 _ rfl; (with_reducible repeat (first | refine blk_drewN ?_ _ | refine blk_drew ?_ | refine blk_alloc ?_ _)); refine blk_put (cs := #[.slice none 0 0, .slice none 0 0]) ?_ 0 _ rfl; exact KX_ BK321.out) hb); have n6_ := Aside0.mk (below_step (B1_) hb); clear HO_3; clear HO_4; clear HO316; clear HO319; clear BK306; clear BK321; clear HB; have HO_3 := n0_; have HO_4 := n1_; have HO316 := n2_; have HO319 := n3_; have BK306 := n4_; have BK321 := n5_; have HB := n6_; clear n0_ n1_ n2_ n3_ n4_ n5_ n6_; (try clear hb); (try clear hb2); (try clear hk); (try clear hi)))
      go_ret
      exact ⟨by first | rfl | (simp [errW_none, errW_some] <;> rfl) | (simp [*, errW_none, errW_some] <;> rfl), B1_⟩
   rw [if_neg c6] at H
   exact absurd H (by simp)
  rw [if_neg c5] at H
  exact absurd H (by simp)
 replace c3 := Bool.eq_false_iff.mpr c3
 subst c3
 have H1 : (some false) = some r := by rw [if_neg (show ¬ (false = true) by decide)] at H; exact H
 clear H
 have H := H1
 clear H1
 obtain rfl := Option.some.inj H
 go_enter Try.func19, Try.ntmps19
 go_wp2_with (first | ((with_reducible refine gate_dst (N := 1) rfl ?_); refine box_event ?hg (N := 1) ?hd (cs := #[.slice A0_0 l0_0.length c0_0, .slice A0_1 l0_1.length c0_1]) (t := 26) ?hr ?_; (case hd => rfl); (case hg => rfl); (case hr => first | (go_simp; done) | (go_simp; rfl)); intro gb306 hg w48 hbox hb; have n0_ := Aside0.mk (below_step (B_) hb); have n1_ := Aside0.mk (hbox); have n2_ := Aside0.mk ((by rw [hg]; exact (below_size (B_)) : w.heap.size ≤ gb306)); have n3_ := Aside0.mk ((by rw [hg]; exact (below_size (B_)) : w.heap.size ≤ gb306)); clear HB; have HB := n0_; have BK306 := n1_; have GW306 := n2_; have GE306 := n3_; clear n0_ n1_ n2_ n3_; clear hb hbox hg; have hcz49_0 : w48.cell? ⟨gb306, 0, none⟩ = some (.slice A0_0 l0_0.length c0_0) := (blk_cell BK306.out 0).trans rfl; have hcz49_1 : w48.cell? ⟨gb306, 1, none⟩ = some (.slice A0_1 l0_1.length c0_1) := (blk_cell BK306.out 1).trans rfl; have hfz49_0 := blk_frozen BK306.out 0; have hfz49_1 := blk_frozen BK306.out 1) | ((with_reducible refine gate_callee (f := 42) rfl ?_); refine goesL_ (some 12) rfl rfl Try.func42 (by kernel_rfl) rfl #[.agg #[.slice A0_0 l0_0.length c0_0, .slice A0_1 l0_1.length c0_1]] rfl (by (try simp only [List.map_toArray, List.map_cons, List.map_nil]); first | done | rfl | (simp only [List.length_drop, List.length_take]; rfl)) ?_; (with_reducible refine (graph_May.calls k _ _ l0_0 _ _ l0_1 false _ ?side1 ?side2 ?side3 ?side4 A2.out).mono ?_); (case side1 => exact CX_ (Kd.C_below HR0_0.out HB.out)); (case side2 => exact HC0_0.out); (case side3 => exact CX_ (Kd.C_below HR0_1.out HB.out)); (case side4 => exact HC0_1.out); rintro e w50 ⟨rfl, hb⟩; refine ⟨_, rfl, ?_⟩; have n0_ := Aside0.mk (blk_below (g := gb306) (o := .cells #[.slice A0_0 l0_0.length c0_0, .slice A0_1 l0_1.length c0_1] 26 (0, 0)) (by exact KX_ BK306.out) hb); have n1_ := Aside0.mk (below_step (B1_) hb); clear BK306; clear HB; have BK306 := n0_; have HB := n1_; clear n0_ n1_; (try clear hb); (try clear hb2); (try clear hk); (try clear hi)))
 go_ret
 exact ⟨by first | rfl | (simp [errW_none, errW_some] <;> rfl) | (simp [*, errW_none, errW_some] <;> rfl), B1_⟩


/-! ### loop_Forward: function 21 -/
def loop_Forward.f (k : Nat) (l0_0 : List (List Int)) (l0_1 : List (List Int)) : Option (Bool) := (loop_forward.f k l0_0 l0_1).bind fun t332 => (some t332)
theorem loop_Forward.mono : ∀ a0 a1 k, LeO (loop_Forward.f k a0 a1) (loop_Forward.f (k + 1) a0 a1) := by
 intro a0 a1 k
 unfold loop_Forward.f
 repeat' first
  | (with_reducible exact loop_forward.mono _ _ _)
  | (with_reducible exact LeO.refl _)
  | (with_reducible exact LeO.none _)
  | (with_reducible refine LeO.ite ?_ ?_)
  | (with_reducible refine LeO.bind ?_ (fun _ => ?_))
  | exact loop_forward.mono _ _ _
  | exact LeO.none _
  | refine LeO.ite ?_ ?_
  | refine LeO.bind ?_ (fun _ => ?_)
set_option maxHeartbeats 8000000 in
set_option maxRecDepth 100000 in
theorem loop_Forward.calls (k : Nat) (A0_0 : Option Addr) (c0_0 : Nat) (l0_0 : List (List Int)) (A0_1 : Option Addr) (c0_1 : Nat) (l0_1 : List (List Int)) (r : Bool) (w : World) (hr0_0 : Kd.C (Kd.slice 3 (Kd.int .i64)) w A0_0 l0_0.length l0_0) (hc0_0 : l0_0.length ≤ c0_0) (hr0_1 : Kd.C (Kd.slice 3 (Kd.int .i64)) w A0_1 l0_1.length l0_1) (hc0_1 : l0_1.length ≤ c0_1) (h : loop_Forward.f k l0_0 l0_1 = some r) :
 Calls Try.prog 21 #[.agg #[.slice A0_0 l0_0.length c0_0, .slice A0_1 l0_1.length c0_1]] w fun e w' => e = .returned (.bool r) ∧ Below w.heap.size w w' := by
 have hu26 := Try.underlying26
 have HR0_0 := Aside0.mk hr0_0
 have HC0_0 := Aside0.mk hc0_0
 clear hr0_0 hc0_0
 have HR0_1 := Aside0.mk hr0_1
 have HC0_1 := Aside0.mk hc0_1
 clear hr0_1 hc0_1
 have HB := Aside0.mk (Below.refl w.heap.size w)
 have H : ((loop_forward.f k l0_0 l0_1).bind fun t332 => (some t332)) = some r := h
 clear h
 replace H := Option.bind_eq_some_iff.mp H
 obtain ⟨t332, A20, H⟩ := H
 replace H : (some t332) = some r := H
 have A2 := Aside0.mk A20
 clear A20
 obtain rfl := Option.some.inj H
 go_enter Try.func21, Try.ntmps21
 go_wp2_with (first | ((with_reducible refine gate_dst (N := 1) rfl ?_); refine box_event ?hg (N := 1) ?hd (cs := #[.slice A0_0 l0_0.length c0_0, .slice A0_1 l0_1.length c0_1]) (t := 26) ?hr ?_; (case hd => rfl); (case hg => rfl); (case hr => first | (go_simp; done) | (go_simp; rfl)); intro gb331 hg w3 hbox hb; have n0_ := Aside0.mk (below_step (B_) hb); have n1_ := Aside0.mk (hbox); have n2_ := Aside0.mk ((by rw [hg]; exact (below_size (B_)) : w.heap.size ≤ gb331)); have n3_ := Aside0.mk ((by rw [hg]; exact (below_size (B_)) : w.heap.size ≤ gb331)); clear HB; have HB := n0_; have BK331 := n1_; have GW331 := n2_; have GE331 := n3_; clear n0_ n1_ n2_ n3_; clear hb hbox hg; have hcz4_0 : w3.cell? ⟨gb331, 0, none⟩ = some (.slice A0_0 l0_0.length c0_0) := (blk_cell BK331.out 0).trans rfl; have hcz4_1 : w3.cell? ⟨gb331, 1, none⟩ = some (.slice A0_1 l0_1.length c0_1) := (blk_cell BK331.out 1).trans rfl; have hfz4_0 := blk_frozen BK331.out 0; have hfz4_1 := blk_frozen BK331.out 1) | ((with_reducible refine gate_callee (f := 44) rfl ?_); refine goesL_ (some 4) rfl rfl Try.func44 (by kernel_rfl) rfl #[.agg #[.slice A0_0 l0_0.length c0_0, .slice A0_1 l0_1.length c0_1]] rfl (by (try simp only [List.map_toArray, List.map_cons, List.map_nil]); first | done | rfl | (simp only [List.length_drop, List.length_take]; rfl)) ?_; (with_reducible refine (loop_forward.calls k _ _ l0_0 _ _ l0_1 t332 _ ?side1 ?side2 ?side3 ?side4 A2.out).mono ?_); (case side1 => exact CX_ (Kd.C_below HR0_0.out HB.out)); (case side2 => exact HC0_0.out); (case side3 => exact CX_ (Kd.C_below HR0_1.out HB.out)); (case side4 => exact HC0_1.out); rintro e w5 ⟨rfl, hb⟩; refine ⟨_, rfl, ?_⟩; have n0_ := Aside0.mk (blk_below (g := gb331) (o := .cells #[.slice A0_0 l0_0.length c0_0, .slice A0_1 l0_1.length c0_1] 26 (0, 0)) (by exact KX_ BK331.out) hb); have n1_ := Aside0.mk (below_step (B1_) hb); clear BK331; clear HB; have BK331 := n0_; have HB := n1_; clear n0_ n1_; (try clear hb); (try clear hb2); (try clear hk); (try clear hi)))
 go_ret
 exact ⟨by first | rfl | (simp [errW_none, errW_some] <;> rfl) | (simp [*, errW_none, errW_some] <;> rfl), B1_⟩

/-! ### slices_Contains_int_int: function 45 -/
def slices_Contains_int_int.f (k : Nat) (l0 : List Int) (a1 : Int) : Option (Bool) := (slices_Index_int_int.f k l0 a1).bind fun t333 => (some (decide (t333 ≥ 0)))
theorem slices_Contains_int_int.mono : ∀ a0 a1 k, LeO (slices_Contains_int_int.f k a0 a1) (slices_Contains_int_int.f (k + 1) a0 a1) := by
 intro a0 a1 k
 unfold slices_Contains_int_int.f
 repeat' first
  | (with_reducible exact slices_Index_int_int.mono _ _ _)
  | (with_reducible exact LeO.refl _)
  | (with_reducible exact LeO.none _)
  | (with_reducible refine LeO.ite ?_ ?_)
  | (with_reducible refine LeO.bind ?_ (fun _ => ?_))
  | exact slices_Index_int_int.mono _ _ _
  | exact LeO.none _
  | refine LeO.ite ?_ ?_
  | refine LeO.bind ?_ (fun _ => ?_)
set_option maxHeartbeats 8000000 in
set_option maxRecDepth 100000 in
theorem slices_Contains_int_int.calls (k : Nat) (A0 : Option Addr) (c0 : Nat) (l0 : List Int) (a1 : Int) (r : Bool) (w : World) (hr0 : Kd.C (Kd.int .i64) w A0 l0.length l0) (hc0 : l0.length ≤ c0) (h : slices_Contains_int_int.f k l0 a1 = some r) :
 Calls Try.prog 45 #[.slice A0 l0.length c0, .int .i64 a1] w fun e w' => e = .returned (.bool r) ∧ Drawn0 w w' := by
 have HR0 := Aside0.mk hr0
 have HC0 := Aside0.mk hc0
 clear hr0 hc0
 have H : ((slices_Index_int_int.f k l0 a1).bind fun t333 => (some (decide (t333 ≥ 0)))) = some r := h
 clear h
 replace H := Option.bind_eq_some_iff.mp H
 obtain ⟨t333, A30, H⟩ := H
 replace H : (some (decide (t333 ≥ 0))) = some r := H
 have A3 := Aside0.mk A30
 clear A30
 obtain rfl := Option.some.inj H
 go_enter Try.func45, Try.ntmps45
 go_wp2_with (first | ((with_reducible refine gate_callee (f := 59) rfl ?_); refine goesL_ (some 7) rfl rfl Try.func59 (by kernel_rfl) rfl #[.slice A0 l0.length c0, .int .i64 a1] rfl (by (try simp only [List.map_toArray, List.map_cons, List.map_nil]); first | done | rfl | (simp only [List.length_drop, List.length_take]; rfl)) ?_; (with_reducible refine (slices_Index_int_int.calls k _ _ l0 a1 t333 _ ?side1 ?side2 A3.out).mono ?_); (case side1 => exact CX_ HR0.out); (case side2 => exact HC0.out); rintro e w' ⟨rfl, ⟨nd, rfl⟩⟩; refine ⟨_, rfl, ?_⟩))
 go_ret
 exact ⟨by first | rfl | (simp; done) | (simp [*]; done), by repeat (first | exact Drawn0.refl _ | apply Drawn0.step)⟩


/-! ### loop_Depth: function 23 -/
def loop_Depth.l0 : Nat → Int → Int → List (S43) → Int → Int → Option (Int)
 | 0, _, _, _, _, _ => none
 | k + 1, x1, x5, x9, x10, x11 => if x11 < x10 then (if 0 ≤ x11 then (if x11 < (x9.length : Int) then ((slices_Contains_int_int.f k ((rd_T43 x9 x11).f1) x1).bind fun t340 => (if t340 = true then (loop_Depth.l0 k x1 (wrap64 (x5 + 1)) x9 x10 (wrap64 (x11 + 1))) else (loop_Depth.l0 k x1 x5 x9 x10 (wrap64 (x11 + 1))))) else (none)) else (none)) else (some x5)
def loop_Depth.f (k : Nat) (l0_0 : List (List Int)) (l0_1 : List (List Int)) (a1 : Int) : Option (Int) := (loop_All.f k l0_0 l0_1).bind fun t335 => (loop_Depth.l0 k a1 0 t335 (t335.length : Int) 0)
theorem loop_Depth.mono_l : ∀ k, (∀ y0 y1 y2 y3 y4, LeO (loop_Depth.l0 k y0 y1 y2 y3 y4) (loop_Depth.l0 (k + 1) y0 y1 y2 y3 y4))
 | 0 => fun _ _ _ _ _ r h => by simp [loop_Depth.l0] at h
 | k + 1 => by
  have ih0 := loop_Depth.mono_l k
  ·intro y0 y1 y2 y3 y4
   unfold loop_Depth.l0
   repeat' first
   | (with_reducible exact ih0 _ _ _ _ _)
   | (with_reducible exact loop_All.mono _ _ _)
   | (with_reducible exact slices_Contains_int_int.mono _ _ _)
   | (with_reducible exact LeO.refl _)
   | (with_reducible exact LeO.none _)
   | (with_reducible refine LeO.ite ?_ ?_)
   | (with_reducible refine LeO.bind ?_ (fun _ => ?_))
   | exact ih0 _ _ _ _ _
   | exact loop_All.mono _ _ _
   | exact slices_Contains_int_int.mono _ _ _
   | exact LeO.none _
   | refine LeO.ite ?_ ?_
   | refine LeO.bind ?_ (fun _ => ?_)
theorem loop_Depth.mono : ∀ a0 a1 a2 k, LeO (loop_Depth.f k a0 a1 a2) (loop_Depth.f (k + 1) a0 a1 a2) := by
 intro a0 a1 a2 k
 have ih0 := loop_Depth.mono_l k
 unfold loop_Depth.f
 repeat' first
  | (with_reducible exact ih0 _ _ _ _ _)
  | (with_reducible exact loop_All.mono _ _ _)
  | (with_reducible exact slices_Contains_int_int.mono _ _ _)
  | (with_reducible exact LeO.refl _)
  | (with_reducible exact LeO.none _)
  | (with_reducible refine LeO.ite ?_ ?_)
  | (with_reducible refine LeO.bind ?_ (fun _ => ?_))
  | exact ih0 _ _ _ _ _
  | exact loop_All.mono _ _ _
  | exact slices_Contains_int_int.mono _ _ _
  | exact LeO.none _
  | refine LeO.ite ?_ ?_
  | refine LeO.bind ?_ (fun _ => ?_)
set_option maxHeartbeats 8000000 in
set_option maxRecDepth 100000 in
theorem loop_Depth.calls (k : Nat) (A0_0 : Option Addr) (c0_0 : Nat) (l0_0 : List (List Int)) (A0_1 : Option Addr) (c0_1 : Nat) (l0_1 : List (List Int)) (a1 : Int) (r : Int) (w : World) (hr0_0 : Kd.C (Kd.slice 3 (Kd.int .i64)) w A0_0 l0_0.length l0_0) (hc0_0 : l0_0.length ≤ c0_0) (hr0_1 : Kd.C (Kd.slice 3 (Kd.int .i64)) w A0_1 l0_1.length l0_1) (hc0_1 : l0_1.length ≤ c0_1) (h : loop_Depth.f k l0_0 l0_1 a1 = some r) :
 Calls Try.prog 23 #[.agg #[.slice A0_0 l0_0.length c0_0, .slice A0_1 l0_1.length c0_1], .int .i64 a1] w fun e w' => e = .returned (.int .i64 r) ∧ Below w.heap.size w w' := by
 have hu26 := Try.underlying26
 have hu43 := Try.underlying43
 have HR0_0 := Aside0.mk hr0_0
 have HC0_0 := Aside0.mk hc0_0
 clear hr0_0 hc0_0
 have HR0_1 := Aside0.mk hr0_1
 have HC0_1 := Aside0.mk hc0_1
 clear hr0_1 hc0_1
 have HB := Aside0.mk (Below.refl w.heap.size w)
 have H : ((loop_All.f k l0_0 l0_1).bind fun t335 => (loop_Depth.l0 k a1 0 t335 (t335.length : Int) 0)) = some r := h
 clear h
 replace H := Option.bind_eq_some_iff.mp H
 obtain ⟨t335, A30, H⟩ := H
 replace H : (loop_Depth.l0 k a1 0 t335 (t335.length : Int) 0) = some r := H
 have A3 := Aside0.mk A30
 clear A30
 have H' := Aside0.mk H
 clear H
 go_enter Try.func23, Try.ntmps23
 go_wp2_with (first | ((with_reducible refine gate_dst (N := 2) rfl ?_); refine box_event ?hg (N := 2) ?hd (cs := #[.slice A0_0 l0_0.length c0_0, .slice A0_1 l0_1.length c0_1]) (t := 26) ?hr ?_; (case hd => rfl); (case hg => rfl); (case hr => first | (go_simp; done) | (go_simp; rfl)); intro gb334 hg w4 hbox hb; have n0_ := Aside0.mk (below_step (B_) hb); have n1_ := Aside0.mk (hbox); have n2_ := Aside0.mk ((by rw [hg]; exact (below_size (B_)) : w.heap.size ≤ gb334)); have n3_ := Aside0.mk ((by rw [hg]; exact (below_size (B_)) : w.heap.size ≤ gb334)); clear HB; have HB := n0_; have BK334 := n1_; have GW334 := n2_; have GE334 := n3_; clear n0_ n1_ n2_ n3_; clear hb hbox hg; have hcz5_0 : w4.cell? ⟨gb334, 0, none⟩ = some (.slice A0_0 l0_0.length c0_0) := (blk_cell BK334.out 0).trans rfl; have hcz5_1 : w4.cell? ⟨gb334, 1, none⟩ = some (.slice A0_1 l0_1.length c0_1) := (blk_cell BK334.out 1).trans rfl; have hfz5_0 := blk_frozen BK334.out 0; have hfz5_1 := blk_frozen BK334.out 1) | ((with_reducible refine gate_callee (f := 18) rfl ?_); refine goesL_ (some 9) rfl rfl Try.func18 (by kernel_rfl) rfl #[.agg #[.slice A0_0 l0_0.length c0_0, .slice A0_1 l0_1.length c0_1]] rfl (by (try simp only [List.map_toArray, List.map_cons, List.map_nil]); first | done | rfl | (simp only [List.length_drop, List.length_take]; rfl)) ?_; (with_reducible refine (loop_All.calls k _ _ l0_0 _ _ l0_1 t335 _ ?side1 ?side2 ?side3 ?side4 A3.out).mono ?_); (case side1 => exact CX_ (Kd.C_below HR0_0.out HB.out)); (case side2 => exact HC0_0.out); (case side3 => exact CX_ (Kd.C_below HR0_1.out HB.out)); (case side4 => exact HC0_1.out); rintro e w6 ⟨v336, rfl, ho0, hb⟩; refine ⟨_, rfl, ?_⟩; have n0_ := Aside0.mk (Kd.S_lower ho0 (below_size (B1_))); have n1_ := Aside0.mk (blk_below (g := gb334) (o := .cells #[.slice A0_0 l0_0.length c0_0, .slice A0_1 l0_1.length c0_1] 26 (0, 0)) (by exact KX_ BK334.out) hb); have n2_ := Aside0.mk (below_step (B1_) hb); clear BK334; clear HB; have HO337 := n0_; have BK334 := n1_; have HB := n2_; clear n0_ n1_ n2_; (try clear hb); (try clear hb2); (try clear hk); (try clear hi); (try clear ho0); obtain ⟨Ao7, co7, eo7⟩ := Kd.S_slice HO337.out; subst eo7))
 go_loopg [5, 11] k (fun kq v5 v11 w' => ∃ (x5_1 : Int) (x11_1 : Int), v5 = .int .i64 x5_1 ∧ v11 = .int .i64 x11_1 ∧ Aside0 (loop_Depth.l0 kq a1 x5_1 t335 (t335.length : Int) x11_1 = some r) ∧ Aside0 (kq ≤ k) ∧ Aside0 (Kd.S k43 43 w' w.heap.size (fun _ => True) (.slice Ao7 t335.length co7) t335) ∧ Aside0 (w'.heap[gb334]? = some (.cells #[(.slice A0_0 l0_0.length c0_0), (.slice A0_1 l0_1.length c0_1)] 26 (0, 0))) ∧ Aside0 (Below w.heap.size w w'))
 case atStart => exact ⟨(0), (0), (by first | rfl | (simp; done) | (simp [*]; done)), (by first | rfl | (simp; done) | (simp [*]; done)), H', ⟨Nat.le_refl _⟩, ⟨by exact SM_ HO337.out⟩, ⟨by exact KX_ BK334.out⟩, ⟨B1_⟩⟩
 case round =>
  clear H'
  try clear hcz5_0
  try clear hcz5_1
  try clear hfz5_0
  try clear hfz5_1
  obtain ⟨x5_1, x11_1, rfl, rfl, HA, HK1, HO_9, BK334, HB⟩ := hrel
  cases gk with
  | zero => exact absurd HA.out (by simp [loop_Depth.l0])
  | succ k1 =>
   have H := HA.out
   clear HA
   simp only [loop_Depth.l0] at H
   by_cases c8 : x11_1 < (t335.length : Int)
   ·rw [if_pos c8] at H
    have c8b0 : decide (x11_1 < (t335.length : Int)) = true := decide_eq_true c8
    clear c8
    by_cases c9 : 0 ≤ x11_1
    ·rw [if_pos c9] at H
     have c9b0 : decide (0 ≤ x11_1) = true := decide_eq_true c9
     clear c9
     by_cases c10 : x11_1 < (t335.length : Int)
     ·rw [if_pos c10] at H
      have c10b0 : decide (x11_1 < (t335.length : Int)) = true := decide_eq_true c10
      clear c10
      replace H := Option.bind_eq_some_iff.mp H
      obtain ⟨t340, A110, H⟩ := H
      replace H : (if t340 = true then (loop_Depth.l0 k1 a1 (wrap64 (x5_1 + 1)) t335 (t335.length : Int) (wrap64 (x11_1 + 1))) else (loop_Depth.l0 k1 a1 x5_1 t335 (t335.length : Int) (wrap64 (x11_1 + 1)))) = some r := H
      have A11 := Aside0.mk A110
      clear A110
      by_cases c12 : t340 = true
      ·subst c12
       have H1 : (loop_Depth.l0 k1 a1 (wrap64 (x5_1 + 1)) t335 (t335.length : Int) (wrap64 (x11_1 + 1))) = some r := by rw [if_pos rfl] at H; exact H
       clear H
       have H := H1
       clear H1
       have H' := Aside0.mk H
       clear H
       have p338 : 0 ≤ (x11_1 : Int) := D_
       have q338 : x11_1 < (t335.length : Int) := D_
       obtain ⟨ad338, A338_1, c338_1, e338, hx338_0, hx338_1, hl338_1, hi338_1⟩ := at_T43 (Kd.S_reads' HO_9.out).2.2 x11_1 p338 q338
       cases e338
       obtain ⟨ce338, hce338, hMe338, hcc338⟩ := Kd.S_get HO_9.out z43 x11_1 p338 (by first | exact q338 | exact D_ | (have e_ := (Kd.S_reads' HO_9.out).1; omega))
       obtain ⟨ve338_1, rfl, ge338_1⟩ := k43_openM hMe338
       have hv338_1 := hcc338 1 _ rfl
       rw [add_field _ _ 1 (by omega)] at hv338_1
       replace hv338_1 := Option.some.inj (hv338_1.symm.trans hx338_1)
       rw [hv338_1] at ge338_1
       have HL338_1 := Aside0.mk (show Kd.R (Kd.int .i64) 3 _ _ _ _ ((rd_T43 t335 x11_1).f1) from ge338_1)
       clear hv338_1 ge338_1
       clear hcc338 hce338
       have HR338_1 := Aside0.mk hi338_1
       have HC338_1 := Aside0.mk hl338_1
       clear hi338_1 hl338_1
       replace p338 := eq_true p338
       replace q338 := eq_true q338
       go_wp2_with (first | ((with_reducible refine gate_dst (N := 7) rfl ?_); refine box_event ?hg (N := 7) ?hd (cs := #[.int .i64 0, .slice none 0 0]) (t := 43) ?hr ?_; (case hd => rfl); (case hg => rfl); (case hr => first | (go_simp; done) | (go_simp; rfl)); intro gb339 hg w13 hbox hb; have n0_ := Aside0.mk (Kd.S_below (Kd.S_elderB (by exact SX_ HO_9.out) gb339 (Nat.le_of_eq hg.symm)) hb); have n1_ := Aside0.mk (Kd.R_below (by exact RX_ HL338_1.out) hb); have n2_ := Aside0.mk (blk_below (g := gb334) (o := .cells #[.slice A0_0 l0_0.length c0_0, .slice A0_1 l0_1.length c0_1] 26 (0, 0)) (by exact KX_ BK334.out) hb); have n3_ := Aside0.mk (Kd.C_below (by repeat (first | (with_reducible exact HR338_1.out) | (with_reducible refine Kd.C_alloc ?_ _) | (with_reducible refine Kd.C_drewN ?_ _) | (with_reducible refine Kd.C_drew ?_) | exact HR338_1.out)) hb); have n4_ := Aside0.mk (below_step (B1_) hb); have n5_ := Aside0.mk (hbox); have n6_ := Aside0.mk ((by rw [hg]; exact (below_size (B1_)) : w.heap.size ≤ gb339)); have n7_ := Aside0.mk ((by rw [hg]; exact (below_size (B1_)) : w.heap.size ≤ gb339)); have n8_ := Aside0.mk ((by rw [hg]; exact Nat.ne_of_lt (blk_lt (g := gb334) (o := .cells #[.slice A0_0 l0_0.length c0_0, .slice A0_1 l0_1.length c0_1] 26 (0, 0)) (by exact KX_ BK334.out)) : gb334 ≠ gb339)); have n9_ := Aside0.mk ((by rw [hg]; exact Nat.ne_of_gt (blk_lt (g := gb334) (o := .cells #[.slice A0_0 l0_0.length c0_0, .slice A0_1 l0_1.length c0_1] 26 (0, 0)) (by exact KX_ BK334.out)) : gb339 ≠ gb334)); clear HO_9; clear HL338_1; clear BK334; clear HR338_1; clear HB; have HO_9 := n0_; have HL338_1 := n1_; have BK334 := n2_; have HR338_1 := n3_; have HB := n4_; have BK339 := n5_; have GW339 := n6_; have GE339 := n7_; have NB334_339 := n8_; have NB339_334 := n9_; clear n0_ n1_ n2_ n3_ n4_ n5_ n6_ n7_ n8_ n9_; clear hb hbox hg; have hnb14 := NB339_334.out; have hnc14 := NB334_339.out; have hcz15_0 : w13.cell? ⟨gb339, 0, none⟩ = some (.int .i64 0) := (blk_cell BK339.out 0).trans rfl; have hcz15_1 : w13.cell? ⟨gb339, 1, none⟩ = some (.slice none 0 0) := (blk_cell BK339.out 1).trans rfl; have hfz15_0 := blk_frozen BK339.out 0; have hfz15_1 := blk_frozen BK339.out 1) | ((with_reducible refine gate_callee (f := 45) rfl ?_); refine goesL_ (some 18) rfl rfl Try.func45 (by kernel_rfl) rfl #[.slice A338_1 ((rd_T43 t335 x11_1).f1).length c338_1, .int .i64 a1] rfl (by (try simp only [List.map_toArray, List.map_cons, List.map_nil]); first | done | rfl | (simp only [List.length_drop, List.length_take]; rfl)) ?_; (with_reducible refine (slices_Contains_int_int.calls k1 _ _ ((rd_T43 t335 x11_1).f1) a1 true _ ?side1 ?side2 A11.out).mono ?_); (case side1 => repeat (first | exact ((Kd.R_reads' (by (with_reducible repeat (first | apply Kd.R_alloc | apply Kd.R_drewN | apply Kd.R_drew)); exact (Kd.R_mono (Kd.R_far (p := ⟨gb339, 1, none⟩) (Kd.R_far (p := ⟨gb339, 0, none⟩) (Kd.R_types HL338_1.out BK339.out (by decide)) (fun _ hk => hk.2) (.int .i64 ((rd_T43 t335 x11_1).f0))) (fun _ hk => hk.2) (.slice A338_1 ((rd_T43 t335 x11_1).f1).length c338_1)) (fun _ h_ => h_.1)))).2.2) | (with_reducible refine Kd.C_alloc ?_ _) | (with_reducible refine Kd.C_drewN ?_ _) | (with_reducible refine Kd.C_drew ?_))); (case side2 => exact HC338_1.out); rintro e w' ⟨rfl, ⟨nd, rfl⟩⟩; refine ⟨_, rfl, ?_⟩))
       go_roundg k1
       case measure => have := HK1.out; omega
       case rel => exact ⟨(wrap64 (x5_1 + 1)), (wrap64 (x11_1 + 1)), (by first | rfl | (simp; done) | (simp [*]; done)), (by first | rfl | (simp; done) | (simp [*]; done)), H', ⟨by have := HK1.out; omega⟩, ⟨by (with_reducible repeat (first | apply Kd.S_alloc | apply Kd.S_drewN | apply Kd.S_drew)); exact Kd.S_mono (Kd.S_far (p := ⟨gb339, 1, none⟩) (Kd.S_far (p := ⟨gb339, 0, none⟩) (Kd.S_mono HO_9.out (fun k_ hk => (⟨hk, hk.2⟩ : _ ∧ k_ ≠ gb339))) (fun _ hk => hk.2) (.int .i64 ((rd_T43 t335 x11_1).f0))) (fun _ hk => hk.2) (.slice A338_1 ((rd_T43 t335 x11_1).f1).length c338_1)) (fun _ hk => trivial)⟩, ⟨by (with_reducible repeat (first | refine blk_drewN ?_ _ | refine blk_drew ?_ | refine blk_alloc ?_ _)); refine blk_far ?_ NB334_339.out _; (with_reducible repeat (first | refine blk_drewN ?_ _ | refine blk_drew ?_ | refine blk_alloc ?_ _)); refine blk_far ?_ NB334_339.out _; exact KX_ BK334.out⟩, ⟨B1_⟩⟩
      replace c12 := Bool.eq_false_iff.mpr c12
      subst c12
      have H1 : (loop_Depth.l0 k1 a1 x5_1 t335 (t335.length : Int) (wrap64 (x11_1 + 1))) = some r := by rw [if_neg (show ¬ (false = true) by decide)] at H; exact H
      clear H
      have H := H1
      clear H1
      have H' := Aside0.mk H
      clear H
      have p338 : 0 ≤ (x11_1 : Int) := D_
      have q338 : x11_1 < (t335.length : Int) := D_
      obtain ⟨ad338, A338_1, c338_1, e338, hx338_0, hx338_1, hl338_1, hi338_1⟩ := at_T43 (Kd.S_reads' HO_9.out).2.2 x11_1 p338 q338
      cases e338
      obtain ⟨ce338, hce338, hMe338, hcc338⟩ := Kd.S_get HO_9.out z43 x11_1 p338 (by first | exact q338 | exact D_ | (have e_ := (Kd.S_reads' HO_9.out).1; omega))
      obtain ⟨ve338_1, rfl, ge338_1⟩ := k43_openM hMe338
      have hv338_1 := hcc338 1 _ rfl
      rw [add_field _ _ 1 (by omega)] at hv338_1
      replace hv338_1 := Option.some.inj (hv338_1.symm.trans hx338_1)
      rw [hv338_1] at ge338_1
      have HL338_1 := Aside0.mk (show Kd.R (Kd.int .i64) 3 _ _ _ _ ((rd_T43 t335 x11_1).f1) from ge338_1)
      clear hv338_1 ge338_1
      clear hcc338 hce338
      have HR338_1 := Aside0.mk hi338_1
      have HC338_1 := Aside0.mk hl338_1
      clear hi338_1 hl338_1
      replace p338 := eq_true p338
      replace q338 := eq_true q338
      go_wp2_with (first | ((with_reducible refine gate_dst (N := 7) rfl ?_); refine box_event ?hg (N := 7) ?hd (cs := #[.int .i64 0, .slice none 0 0]) (t := 43) ?hr ?_; (case hd => rfl); (case hg => rfl); (case hr => first | (go_simp; done) | (go_simp; rfl)); intro gb339 hg w16 hbox hb; have n0_ := Aside0.mk (Kd.S_below (Kd.S_elderB (by exact SX_ HO_9.out) gb339 (Nat.le_of_eq hg.symm)) hb); have n1_ := Aside0.mk (Kd.R_below (by exact RX_ HL338_1.out) hb); have n2_ := Aside0.mk (blk_below (g := gb334) (o := .cells #[.slice A0_0 l0_0.length c0_0, .slice A0_1 l0_1.length c0_1] 26 (0, 0)) (by exact KX_ BK334.out) hb); have n3_ := Aside0.mk (Kd.C_below (by repeat (first | (with_reducible exact HR338_1.out) | (with_reducible refine Kd.C_alloc ?_ _) | (with_reducible refine Kd.C_drewN ?_ _) | (with_reducible refine Kd.C_drew ?_) | exact HR338_1.out)) hb); have n4_ := Aside0.mk (below_step (B1_) hb); have n5_ := Aside0.mk (hbox); have n6_ := Aside0.mk ((by rw [hg]; exact (below_size (B1_)) : w.heap.size ≤ gb339)); have n7_ := Aside0.mk ((by rw [hg]; exact (below_size (B1_)) : w.heap.size ≤ gb339)); have n8_ := Aside0.mk ((by rw [hg]; exact Nat.ne_of_lt (blk_lt (g := gb334) (o := .cells #[.slice A0_0 l0_0.length c0_0, .slice A0_1 l0_1.length c0_1] 26 (0, 0)) (by exact KX_ BK334.out)) : gb334 ≠ gb339)); have n9_ := Aside0.mk ((by rw [hg]; exact Nat.ne_of_gt (blk_lt (g := gb334) (o := .cells #[.slice A0_0 l0_0.length c0_0, .slice A0_1 l0_1.length c0_1] 26 (0, 0)) (by exact KX_ BK334.out)) : gb339 ≠ gb334)); clear HO_9; clear HL338_1; clear BK334; clear HR338_1; clear HB; have HO_9 := n0_; have HL338_1 := n1_; have BK334 := n2_; have HR338_1 := n3_; have HB := n4_; have BK339 := n5_; have GW339 := n6_; have GE339 := n7_; have NB334_339 := n8_; have NB339_334 := n9_; clear n0_ n1_ n2_ n3_ n4_ n5_ n6_ n7_ n8_ n9_; clear hb hbox hg; have hnb17 := NB339_334.out; have hnc17 := NB334_339.out; have hcz18_0 : w16.cell? ⟨gb339, 0, none⟩ = some (.int .i64 0) := (blk_cell BK339.out 0).trans rfl; have hcz18_1 : w16.cell? ⟨gb339, 1, none⟩ = some (.slice none 0 0) := (blk_cell BK339.out 1).trans rfl; have hfz18_0 := blk_frozen BK339.out 0; have hfz18_1 := blk_frozen BK339.out 1) | ((with_reducible refine gate_callee (f := 45) rfl ?_); refine goesL_ (some 18) rfl rfl Try.func45 (by kernel_rfl) rfl #[.slice A338_1 ((rd_T43 t335 x11_1).f1).length c338_1, .int .i64 a1] rfl (by (try simp only [List.map_toArray, List.map_cons, List.map_nil]); first | done | rfl | (simp only [List.length_drop, List.length_take]; rfl)) ?_; (with_reducible refine (slices_Contains_int_int.calls k1 _ _ ((rd_T43 t335 x11_1).f1) a1 false _ ?side1 ?side2 A11.out).mono ?_); (case side1 => repeat (first | exact ((Kd.R_reads' (by (with_reducible repeat (first | apply Kd.R_alloc | apply Kd.R_drewN | apply Kd.R_drew)); exact (Kd.R_mono (Kd.R_far (p := ⟨gb339, 1, none⟩) (Kd.R_far (p := ⟨gb339, 0, none⟩) (Kd.R_types HL338_1.out BK339.out (by decide)) (fun _ hk => hk.2) (.int .i64 ((rd_T43 t335 x11_1).f0))) (fun _ hk => hk.2) (.slice A338_1 ((rd_T43 t335 x11_1).f1).length c338_1)) (fun _ h_ => h_.1)))).2.2) | (with_reducible refine Kd.C_alloc ?_ _) | (with_reducible refine Kd.C_drewN ?_ _) | (with_reducible refine Kd.C_drew ?_))); (case side2 => exact HC338_1.out); rintro e w' ⟨rfl, ⟨nd, rfl⟩⟩; refine ⟨_, rfl, ?_⟩))
      go_roundg k1
      case measure => have := HK1.out; omega
      case rel => exact ⟨(x5_1), (wrap64 (x11_1 + 1)), (by first | rfl | (simp; done) | (simp [*]; done)), (by first | rfl | (simp; done) | (simp [*]; done)), H', ⟨by have := HK1.out; omega⟩, ⟨by (with_reducible repeat (first | apply Kd.S_alloc | apply Kd.S_drewN | apply Kd.S_drew)); exact Kd.S_mono (Kd.S_far (p := ⟨gb339, 1, none⟩) (Kd.S_far (p := ⟨gb339, 0, none⟩) (Kd.S_mono HO_9.out (fun k_ hk => (⟨hk, hk.2⟩ : _ ∧ k_ ≠ gb339))) (fun _ hk => hk.2) (.int .i64 ((rd_T43 t335 x11_1).f0))) (fun _ hk => hk.2) (.slice A338_1 ((rd_T43 t335 x11_1).f1).length c338_1)) (fun _ hk => trivial)⟩, ⟨by (with_reducible repeat (first | refine blk_drewN ?_ _ | refine blk_drew ?_ | refine blk_alloc ?_ _)); refine blk_far ?_ NB334_339.out _; (with_reducible repeat (first | refine blk_drewN ?_ _ | refine blk_drew ?_ | refine blk_alloc ?_ _)); refine blk_far ?_ NB334_339.out _; exact KX_ BK334.out⟩, ⟨B1_⟩⟩
     rw [if_neg c10] at H
     exact absurd H (by simp)
    rw [if_neg c9] at H
    exact absurd H (by simp)
   rw [if_neg c8] at H
   have c8b0 : decide (x11_1 < (t335.length : Int)) = false := decide_eq_false c8
   clear c8
   obtain rfl := Option.some.inj H
   go_wp2
   go_ret
   exact ⟨by first | rfl | (simp [errW_none, errW_some] <;> rfl) | (simp [*, errW_none, errW_some] <;> rfl), B1_⟩


attribute [local go_sem high] eqA48
/-! ### locksteplaw10_awake: function 16 -/
def locksteplaw10_awake.f (k : Nat)  : Option (Bool) := (graph_Make.f k (([(([1] : List Int)), (([2, 3] : List Int)), (([1] : List Int)), []] : List (List Int)))).bind fun bt355 => ((loop_All.f k bt355.1 bt355.2.1).bind fun t363 => ((loop_Backs.f k bt355.1 bt355.2.1).bind fun t366 => (if bt355.2.2 = 0 then (if (t363.length : Int) = 1 then (if 0 < (t363.length : Int) then (if ((rd_T43 t363 0).f0) = 1 then ((lockstepref02_Ints.f k ((rd_T43 t363 0).f1) (([1, 2] : List Int))).bind fun t374 => (if t374 = true then (if (t366.length : Int) = 1 then (if 0 < (t366.length : Int) then (if (((rd_T48 t366 0).f0) == 2 && (((rd_T48 t366 0).f1) == 1)) = true then ((loop_Depth.f k bt355.1 bt355.2.1 2).bind fun t376 => (if t376 = 1 then ((loop_Depth.f k bt355.1 bt355.2.1 3).bind fun t377 => (if t377 = 0 then ((loop_Reducible.f k bt355.1 bt355.2.1).bind fun t378 => (if t378 = true then ((loop_Forward.f k bt355.1 bt355.2.1).bind fun t379 => (some (!t379))) else (some false))) else (some false))) else (some false))) else (some false)) else (none)) else (some false)) else (some false))) else (some false)) else (none)) else (some false)) else (some false))))
theorem locksteplaw10_awake.mono : ∀ k, LeO (locksteplaw10_awake.f k ) (locksteplaw10_awake.f (k + 1) ) := by
 intro  k
 unfold locksteplaw10_awake.f
 repeat' first
  | (with_reducible exact graph_Make.mono _ _)
  | (with_reducible exact lockstepref02_Ints.mono _ _ _)
  | (with_reducible exact loop_All.mono _ _ _)
  | (with_reducible exact loop_Backs.mono _ _ _)
  | (with_reducible exact loop_Depth.mono _ _ _ _)
  | (with_reducible exact loop_Forward.mono _ _ _)
  | (with_reducible exact loop_Reducible.mono _ _ _)
  | (with_reducible exact LeO.refl _)
  | (with_reducible exact LeO.none _)
  | (with_reducible refine LeO.ite ?_ ?_)
  | (with_reducible refine LeO.bind ?_ (fun _ => ?_))
  | exact graph_Make.mono _ _
  | exact lockstepref02_Ints.mono _ _ _
  | exact loop_All.mono _ _ _
  | exact loop_Backs.mono _ _ _
  | exact loop_Depth.mono _ _ _ _
  | exact loop_Forward.mono _ _ _
  | exact loop_Reducible.mono _ _ _
  | exact LeO.none _
  | refine LeO.ite ?_ ?_
  | refine LeO.bind ?_ (fun _ => ?_)
set_option maxHeartbeats 8000000 in
set_option maxRecDepth 100000 in
theorem locksteplaw10_awake.calls (k : Nat)  (w : World) (h : locksteplaw10_awake.f k  = some true) :
 Calls Try.prog 16 #[] w fun e w' => e = .returned (.bool true) ∧ Below w.heap.size w w' := by
 have hu26 := Try.underlying26
 have hu48 := Try.underlying48
 have HB := Aside0.mk (Below.refl w.heap.size w)
 have H : ((graph_Make.f k (([(([1] : List Int)), (([2, 3] : List Int)), (([1] : List Int)), []] : List (List Int)))).bind fun bt355 => ((loop_All.f k bt355.1 bt355.2.1).bind fun t363 => ((loop_Backs.f k bt355.1 bt355.2.1).bind fun t366 => (if bt355.2.2 = 0 then (if (t363.length : Int) = 1 then (if 0 < (t363.length : Int) then (if ((rd_T43 t363 0).f0) = 1 then ((lockstepref02_Ints.f k ((rd_T43 t363 0).f1) (([1, 2] : List Int))).bind fun t374 => (if t374 = true then (if (t366.length : Int) = 1 then (if 0 < (t366.length : Int) then (if (((rd_T48 t366 0).f0) == 2 && (((rd_T48 t366 0).f1) == 1)) = true then ((loop_Depth.f k bt355.1 bt355.2.1 2).bind fun t376 => (if t376 = 1 then ((loop_Depth.f k bt355.1 bt355.2.1 3).bind fun t377 => (if t377 = 0 then ((loop_Reducible.f k bt355.1 bt355.2.1).bind fun t378 => (if t378 = true then ((loop_Forward.f k bt355.1 bt355.2.1).bind fun t379 => (some (!t379))) else (some false))) else (some false))) else (some false))) else (some false)) else (none)) else (some false)) else (some false))) else (some false)) else (none)) else (some false)) else (some false))))) = some true := h
 clear h
 obtain ⟨y343, hy343⟩ : ∃ y_ : List Int, y_ = (([1] : List Int)) := ⟨_, rfl⟩
 replace H : ((graph_Make.f k (([y343, (([2, 3] : List Int)), (([1] : List Int)), []] : List (List Int)))).bind fun bt355 => ((loop_All.f k bt355.1 bt355.2.1).bind fun t363 => ((loop_Backs.f k bt355.1 bt355.2.1).bind fun t366 => (if bt355.2.2 = 0 then (if (t363.length : Int) = 1 then (if 0 < (t363.length : Int) then (if ((rd_T43 t363 0).f0) = 1 then ((lockstepref02_Ints.f k ((rd_T43 t363 0).f1) (([1, 2] : List Int))).bind fun t374 => (if t374 = true then (if (t366.length : Int) = 1 then (if 0 < (t366.length : Int) then (if (((rd_T48 t366 0).f0) == 2 && (((rd_T48 t366 0).f1) == 1)) = true then ((loop_Depth.f k bt355.1 bt355.2.1 2).bind fun t376 => (if t376 = 1 then ((loop_Depth.f k bt355.1 bt355.2.1 3).bind fun t377 => (if t377 = 0 then ((loop_Reducible.f k bt355.1 bt355.2.1).bind fun t378 => (if t378 = true then ((loop_Forward.f k bt355.1 bt355.2.1).bind fun t379 => (some (!t379))) else (some false))) else (some false))) else (some false))) else (some false)) else (none)) else (some false)) else (some false))) else (some false)) else (none)) else (some false)) else (some false))))) = some true := by first | (rw [hy343]; with_reducible exact H) | (have H2_ := (Option.bind_some _ _).symm.trans H; rw [hy343]; with_reducible exact H2_) | (have H2_ := (Option.bind_some _ _).symm.trans H; with_reducible exact H2_) | with_reducible exact H | (rw [hy343]; exact H) | exact H
 have Ny343 := Aside0.mk hy343
 clear hy343
 obtain ⟨y346, hy346⟩ : ∃ y_ : List Int, y_ = (([2, 3] : List Int)) := ⟨_, rfl⟩
 replace H : ((graph_Make.f k (([y343, y346, (([1] : List Int)), []] : List (List Int)))).bind fun bt355 => ((loop_All.f k bt355.1 bt355.2.1).bind fun t363 => ((loop_Backs.f k bt355.1 bt355.2.1).bind fun t366 => (if bt355.2.2 = 0 then (if (t363.length : Int) = 1 then (if 0 < (t363.length : Int) then (if ((rd_T43 t363 0).f0) = 1 then ((lockstepref02_Ints.f k ((rd_T43 t363 0).f1) (([1, 2] : List Int))).bind fun t374 => (if t374 = true then (if (t366.length : Int) = 1 then (if 0 < (t366.length : Int) then (if (((rd_T48 t366 0).f0) == 2 && (((rd_T48 t366 0).f1) == 1)) = true then ((loop_Depth.f k bt355.1 bt355.2.1 2).bind fun t376 => (if t376 = 1 then ((loop_Depth.f k bt355.1 bt355.2.1 3).bind fun t377 => (if t377 = 0 then ((loop_Reducible.f k bt355.1 bt355.2.1).bind fun t378 => (if t378 = true then ((loop_Forward.f k bt355.1 bt355.2.1).bind fun t379 => (some (!t379))) else (some false))) else (some false))) else (some false))) else (some false)) else (none)) else (some false)) else (some false))) else (some false)) else (none)) else (some false)) else (some false))))) = some true := by first | (rw [hy346]; with_reducible exact H) | (have H2_ := (Option.bind_some _ _).symm.trans H; rw [hy346]; with_reducible exact H2_) | (have H2_ := (Option.bind_some _ _).symm.trans H; with_reducible exact H2_) | with_reducible exact H | (rw [hy346]; exact H) | exact H
 have Ny346 := Aside0.mk hy346
 clear hy346
 obtain ⟨y349, hy349⟩ : ∃ y_ : List Int, y_ = (([1] : List Int)) := ⟨_, rfl⟩
 replace H : ((graph_Make.f k (([y343, y346, y349, []] : List (List Int)))).bind fun bt355 => ((loop_All.f k bt355.1 bt355.2.1).bind fun t363 => ((loop_Backs.f k bt355.1 bt355.2.1).bind fun t366 => (if bt355.2.2 = 0 then (if (t363.length : Int) = 1 then (if 0 < (t363.length : Int) then (if ((rd_T43 t363 0).f0) = 1 then ((lockstepref02_Ints.f k ((rd_T43 t363 0).f1) (([1, 2] : List Int))).bind fun t374 => (if t374 = true then (if (t366.length : Int) = 1 then (if 0 < (t366.length : Int) then (if (((rd_T48 t366 0).f0) == 2 && (((rd_T48 t366 0).f1) == 1)) = true then ((loop_Depth.f k bt355.1 bt355.2.1 2).bind fun t376 => (if t376 = 1 then ((loop_Depth.f k bt355.1 bt355.2.1 3).bind fun t377 => (if t377 = 0 then ((loop_Reducible.f k bt355.1 bt355.2.1).bind fun t378 => (if t378 = true then ((loop_Forward.f k bt355.1 bt355.2.1).bind fun t379 => (some (!t379))) else (some false))) else (some false))) else (some false))) else (some false)) else (none)) else (some false)) else (some false))) else (some false)) else (none)) else (some false)) else (some false))))) = some true := by first | (rw [hy349]; with_reducible exact H) | (have H2_ := (Option.bind_some _ _).symm.trans H; rw [hy349]; with_reducible exact H2_) | (have H2_ := (Option.bind_some _ _).symm.trans H; with_reducible exact H2_) | with_reducible exact H | (rw [hy349]; exact H) | exact H
 have Ny349 := Aside0.mk hy349
 clear hy349
 obtain ⟨y352, hy352⟩ : ∃ y_ : List (List Int), y_ = (([y343, y346, y349, []] : List (List Int))) := ⟨_, rfl⟩
 replace H : ((graph_Make.f k y352).bind fun bt355 => ((loop_All.f k bt355.1 bt355.2.1).bind fun t363 => ((loop_Backs.f k bt355.1 bt355.2.1).bind fun t366 => (if bt355.2.2 = 0 then (if (t363.length : Int) = 1 then (if 0 < (t363.length : Int) then (if ((rd_T43 t363 0).f0) = 1 then ((lockstepref02_Ints.f k ((rd_T43 t363 0).f1) (([1, 2] : List Int))).bind fun t374 => (if t374 = true then (if (t366.length : Int) = 1 then (if 0 < (t366.length : Int) then (if (((rd_T48 t366 0).f0) == 2 && (((rd_T48 t366 0).f1) == 1)) = true then ((loop_Depth.f k bt355.1 bt355.2.1 2).bind fun t376 => (if t376 = 1 then ((loop_Depth.f k bt355.1 bt355.2.1 3).bind fun t377 => (if t377 = 0 then ((loop_Reducible.f k bt355.1 bt355.2.1).bind fun t378 => (if t378 = true then ((loop_Forward.f k bt355.1 bt355.2.1).bind fun t379 => (some (!t379))) else (some false))) else (some false))) else (some false))) else (some false)) else (none)) else (some false)) else (some false))) else (some false)) else (none)) else (some false)) else (some false))))) = some true := by first | (rw [hy352]; with_reducible exact H) | (have H2_ := (Option.bind_some _ _).symm.trans H; rw [hy352]; with_reducible exact H2_) | (have H2_ := (Option.bind_some _ _).symm.trans H; with_reducible exact H2_) | with_reducible exact H | (rw [hy352]; exact H) | exact H
 have Ny352 := Aside0.mk hy352
 clear hy352
 replace H := Option.bind_eq_some_iff.mp H
 obtain ⟨⟨t355, t358, t361⟩, A10, H⟩ := H
 replace H : ((loop_All.f k t355 t358).bind fun t363 => ((loop_Backs.f k t355 t358).bind fun t366 => (if t361 = 0 then (if (t363.length : Int) = 1 then (if 0 < (t363.length : Int) then (if ((rd_T43 t363 0).f0) = 1 then ((lockstepref02_Ints.f k ((rd_T43 t363 0).f1) (([1, 2] : List Int))).bind fun t374 => (if t374 = true then (if (t366.length : Int) = 1 then (if 0 < (t366.length : Int) then (if (((rd_T48 t366 0).f0) == 2 && (((rd_T48 t366 0).f1) == 1)) = true then ((loop_Depth.f k t355 t358 2).bind fun t376 => (if t376 = 1 then ((loop_Depth.f k t355 t358 3).bind fun t377 => (if t377 = 0 then ((loop_Reducible.f k t355 t358).bind fun t378 => (if t378 = true then ((loop_Forward.f k t355 t358).bind fun t379 => (some (!t379))) else (some false))) else (some false))) else (some false))) else (some false)) else (none)) else (some false)) else (some false))) else (some false)) else (none)) else (some false)) else (some false)))) = some true := H
 have A1 := Aside0.mk A10
 clear A10
 replace H := Option.bind_eq_some_iff.mp H
 obtain ⟨t363, A20, H⟩ := H
 replace H : ((loop_Backs.f k t355 t358).bind fun t366 => (if t361 = 0 then (if (t363.length : Int) = 1 then (if 0 < (t363.length : Int) then (if ((rd_T43 t363 0).f0) = 1 then ((lockstepref02_Ints.f k ((rd_T43 t363 0).f1) (([1, 2] : List Int))).bind fun t374 => (if t374 = true then (if (t366.length : Int) = 1 then (if 0 < (t366.length : Int) then (if (((rd_T48 t366 0).f0) == 2 && (((rd_T48 t366 0).f1) == 1)) = true then ((loop_Depth.f k t355 t358 2).bind fun t376 => (if t376 = 1 then ((loop_Depth.f k t355 t358 3).bind fun t377 => (if t377 = 0 then ((loop_Reducible.f k t355 t358).bind fun t378 => (if t378 = true then ((loop_Forward.f k t355 t358).bind fun t379 => (some (!t379))) else (some false))) else (some false))) else (some false))) else (some false)) else (none)) else (some false)) else (some false))) else (some false)) else (none)) else (some false)) else (some false))) = some true := H
 have A2 := Aside0.mk A20
 clear A20
 replace H := Option.bind_eq_some_iff.mp H
 obtain ⟨t366, A30, H⟩ := H
 replace H : (if t361 = 0 then (if (t363.length : Int) = 1 then (if 0 < (t363.length : Int) then (if ((rd_T43 t363 0).f0) = 1 then ((lockstepref02_Ints.f k ((rd_T43 t363 0).f1) (([1, 2] : List Int))).bind fun t374 => (if t374 = true then (if (t366.length : Int) = 1 then (if 0 < (t366.length : Int) then (if (((rd_T48 t366 0).f0) == 2 && (((rd_T48 t366 0).f1) == 1)) = true then ((loop_Depth.f k t355 t358 2).bind fun t376 => (if t376 = 1 then ((loop_Depth.f k t355 t358 3).bind fun t377 => (if t377 = 0 then ((loop_Reducible.f k t355 t358).bind fun t378 => (if t378 = true then ((loop_Forward.f k t355 t358).bind fun t379 => (some (!t379))) else (some false))) else (some false))) else (some false))) else (some false)) else (none)) else (some false)) else (some false))) else (some false)) else (none)) else (some false)) else (some false)) = some true := H
 have A3 := Aside0.mk A30
 clear A30
 by_cases c4 : t361 = 0
 ·rw [if_pos c4] at H
  have c4b0 : (t361 == 0) = true := beq_iff_eq.mpr c4
  have c4b1 : (t361 != 0) = false := bne_eq_false_iff_eq.mpr c4
  clear c4
  by_cases c5 : (t363.length : Int) = 1
  ·rw [if_pos c5] at H
   have c5b0 : ((t363.length : Int) == 1) = true := beq_iff_eq.mpr c5
   have c5b1 : ((t363.length : Int) != 1) = false := bne_eq_false_iff_eq.mpr c5
   clear c5
   by_cases c6 : 0 < (t363.length : Int)
   ·rw [if_pos c6] at H
    have c6b0 : decide (0 < (t363.length : Int)) = true := decide_eq_true c6
    have c6b1 : decide (0 < t363.length) = true := decide_eq_true (by omega)
    clear c6
    by_cases c7 : ((rd_T43 t363 0).f0) = 1
    ·rw [if_pos c7] at H
     have c7b0 : (((rd_T43 t363 0).f0) == 1) = true := beq_iff_eq.mpr c7
     have c7b1 : (((rd_T43 t363 0).f0) != 1) = false := bne_eq_false_iff_eq.mpr c7
     clear c7
     obtain ⟨y371, hy371⟩ : ∃ y_ : List Int, y_ = (([1, 2] : List Int)) := ⟨_, rfl⟩
     replace H : ((lockstepref02_Ints.f k ((rd_T43 t363 0).f1) y371).bind fun t374 => (if t374 = true then (if (t366.length : Int) = 1 then (if 0 < (t366.length : Int) then (if (((rd_T48 t366 0).f0) == 2 && (((rd_T48 t366 0).f1) == 1)) = true then ((loop_Depth.f k t355 t358 2).bind fun t376 => (if t376 = 1 then ((loop_Depth.f k t355 t358 3).bind fun t377 => (if t377 = 0 then ((loop_Reducible.f k t355 t358).bind fun t378 => (if t378 = true then ((loop_Forward.f k t355 t358).bind fun t379 => (some (!t379))) else (some false))) else (some false))) else (some false))) else (some false)) else (none)) else (some false)) else (some false))) = some true := by first | (rw [hy371]; with_reducible exact H) | (have H2_ := (Option.bind_some _ _).symm.trans H; rw [hy371]; with_reducible exact H2_) | (have H2_ := (Option.bind_some _ _).symm.trans H; with_reducible exact H2_) | with_reducible exact H | (rw [hy371]; exact H) | exact H
     have Ny371 := Aside0.mk hy371
     clear hy371
     replace H := Option.bind_eq_some_iff.mp H
     obtain ⟨t374, A80, H⟩ := H
     replace H : (if t374 = true then (if (t366.length : Int) = 1 then (if 0 < (t366.length : Int) then (if (((rd_T48 t366 0).f0) == 2 && (((rd_T48 t366 0).f1) == 1)) = true then ((loop_Depth.f k t355 t358 2).bind fun t376 => (if t376 = 1 then ((loop_Depth.f k t355 t358 3).bind fun t377 => (if t377 = 0 then ((loop_Reducible.f k t355 t358).bind fun t378 => (if t378 = true then ((loop_Forward.f k t355 t358).bind fun t379 => (some (!t379))) else (some false))) else (some false))) else (some false))) else (some false)) else (none)) else (some false)) else (some false)) = some true := H
     have A8 := Aside0.mk A80
     clear A80
     by_cases c9 : t374 = true
     ·subst c9
      have H1 : (if (t366.length : Int) = 1 then (if 0 < (t366.length : Int) then (if (((rd_T48 t366 0).f0) == 2 && (((rd_T48 t366 0).f1) == 1)) = true then ((loop_Depth.f k t355 t358 2).bind fun t376 => (if t376 = 1 then ((loop_Depth.f k t355 t358 3).bind fun t377 => (if t377 = 0 then ((loop_Reducible.f k t355 t358).bind fun t378 => (if t378 = true then ((loop_Forward.f k t355 t358).bind fun t379 => (some (!t379))) else (some false))) else (some false))) else (some false))) else (some false)) else (none)) else (some false)) = some true := by rw [if_pos rfl] at H; exact H
      clear H
      have H := H1
      clear H1
      by_cases c10 : (t366.length : Int) = 1
      ·rw [if_pos c10] at H
       have c10b0 : ((t366.length : Int) == 1) = true := beq_iff_eq.mpr c10
       have c10b1 : ((t366.length : Int) != 1) = false := bne_eq_false_iff_eq.mpr c10
       clear c10
       by_cases c11 : 0 < (t366.length : Int)
       ·rw [if_pos c11] at H
        have c11b0 : decide (0 < (t366.length : Int)) = true := decide_eq_true c11
        have c11b1 : decide (0 < t366.length) = true := decide_eq_true (by omega)
        clear c11
        by_cases c12 : (((rd_T48 t366 0).f0) == 2 && (((rd_T48 t366 0).f1) == 1)) = true
        ·rw [if_pos c12] at H
         have c12b0 : (((rd_T48 t366 0).f0) == 2 && (((rd_T48 t366 0).f1) == 1)) = true := c12
         (try (have c12b1 : decide (((rd_T48 t366 0).f0) = 2 && (((rd_T48 t366 0).f1) == 1)) = true := by simpa using c12))
         (try (have c12b2 : (((rd_T48 t366 0).f0) == 2 && (((rd_T48 t366 0).f1) == 1)) = true := by simpa using c12))
         clear c12
         replace H := Option.bind_eq_some_iff.mp H
         obtain ⟨t376, A130, H⟩ := H
         replace H : (if t376 = 1 then ((loop_Depth.f k t355 t358 3).bind fun t377 => (if t377 = 0 then ((loop_Reducible.f k t355 t358).bind fun t378 => (if t378 = true then ((loop_Forward.f k t355 t358).bind fun t379 => (some (!t379))) else (some false))) else (some false))) else (some false)) = some true := H
         have A13 := Aside0.mk A130
         clear A130
         by_cases c14 : t376 = 1
         ·rw [if_pos c14] at H
          have c14b0 : (t376 == 1) = true := beq_iff_eq.mpr c14
          have c14b1 : (t376 != 1) = false := bne_eq_false_iff_eq.mpr c14
          clear c14
          replace H := Option.bind_eq_some_iff.mp H
          obtain ⟨t377, A150, H⟩ := H
          replace H : (if t377 = 0 then ((loop_Reducible.f k t355 t358).bind fun t378 => (if t378 = true then ((loop_Forward.f k t355 t358).bind fun t379 => (some (!t379))) else (some false))) else (some false)) = some true := H
          have A15 := Aside0.mk A150
          clear A150
          by_cases c16 : t377 = 0
          ·rw [if_pos c16] at H
           have c16b0 : (t377 == 0) = true := beq_iff_eq.mpr c16
           have c16b1 : (t377 != 0) = false := bne_eq_false_iff_eq.mpr c16
           clear c16
           replace H := Option.bind_eq_some_iff.mp H
           obtain ⟨t378, A170, H⟩ := H
           replace H : (if t378 = true then ((loop_Forward.f k t355 t358).bind fun t379 => (some (!t379))) else (some false)) = some true := H
           have A17 := Aside0.mk A170
           clear A170
           by_cases c18 : t378 = true
           ·subst c18
            have H1 : ((loop_Forward.f k t355 t358).bind fun t379 => (some (!t379))) = some true := by rw [if_pos rfl] at H; exact H
            clear H
            have H := H1
            clear H1
            replace H := Option.bind_eq_some_iff.mp H
            obtain ⟨t379, A190, H⟩ := H
            replace H : (some (!t379)) = some true := H
            have A19 := Aside0.mk A190
            clear A190
            have HR_ := Aside0.mk (Option.some.inj H)
            clear H
            go_enter Try.func16, Try.ntmps16
            go_wp2_with (first | ((with_reducible refine gate_dst (N := 6) rfl ?_); (try (refine gate_guard (by rfl) ?_; dsimp only)); refine Kd.R_lit (Kd.int .i64) _ 3 ?hg (N := 6) ?hd (xs := ([1] : List Int)) (inner := [.int .i64 1]) (ok := fun _ => True) (okp := fun _ => True) ?hr ?hp (fun _ hk => hk) trivial (Below.refl _ _) (Nat.le_refl _) (by simp) ?_; (case hd => rfl); (case hg => rfl); (case hr => first | (go_simp; done) | (go_simp; rfl)); (case hp => exact (Reps.one (show Kd.M (Kd.int .i64) _ _ _ 1 [.int .i64 1] from rfl) (Reps.none _ _))); intro v344 w20 ho21 hb hg_ hnew_; clear hg_ hnew_; (first | rw [← Ny343.out] at ho21 | (simp only [Int.reduceToNat] at ho21; rw [← Ny343.out] at ho21)); have n0_ := Aside0.mk (Kd.R_lower ho21 (below_size (B_))); have n1_ := Aside0.mk (below_step (B_) hb); clear HB; have HO345 := n0_; have HB := n1_; clear n0_ n1_; clear hb ho21) | ((with_reducible refine gate_dst (N := 7) rfl ?_); (try (refine gate_guard (by rfl) ?_; dsimp only)); refine Kd.R_lit (Kd.int .i64) _ 3 ?hg (N := 7) ?hd (xs := ([2, 3] : List Int)) (inner := [.int .i64 2, .int .i64 3]) (ok := fun _ => True) (okp := fun _ => True) ?hr ?hp (fun _ hk => hk) trivial (Below.refl _ _) (Nat.le_refl _) (by simp) ?_; (case hd => rfl); (case hg => rfl); (case hr => first | (go_simp; done) | (go_simp; rfl)); (case hp => exact (Reps.one (show Kd.M (Kd.int .i64) _ _ _ 2 [.int .i64 2] from rfl) (Reps.one (show Kd.M (Kd.int .i64) _ _ _ 3 [.int .i64 3] from rfl) (Reps.none _ _)))); intro v347 w22 ho23 hb hg_ hnew_; clear hg_ hnew_; (first | rw [← Ny346.out] at ho23 | (simp only [Int.reduceToNat] at ho23; rw [← Ny346.out] at ho23)); have n0_ := Aside0.mk (Kd.R_elder' (by exact RX_ HO345.out) (Kd.R_base ho23) hb); have n1_ := Aside0.mk (Kd.R_lower (Kd.R_new' ho23 (Kd.R_lt (by exact RX_ HO345.out))) (below_size (B_))); have n2_ := Aside0.mk (below_step (B_) hb); clear HO345; clear HB; have HO345 := n0_; have HO348 := n1_; have HB := n2_; clear n0_ n1_ n2_; clear hb ho23) | ((with_reducible refine gate_dst (N := 8) rfl ?_); (try (refine gate_guard (by rfl) ?_; dsimp only)); refine Kd.R_lit (Kd.int .i64) _ 3 ?hg (N := 8) ?hd (xs := ([1] : List Int)) (inner := [.int .i64 1]) (ok := fun _ => True) (okp := fun _ => True) ?hr ?hp (fun _ hk => hk) trivial (Below.refl _ _) (Nat.le_refl _) (by simp) ?_; (case hd => rfl); (case hg => rfl); (case hr => first | (go_simp; done) | (go_simp; rfl)); (case hp => exact (Reps.one (show Kd.M (Kd.int .i64) _ _ _ 1 [.int .i64 1] from rfl) (Reps.none _ _))); intro v350 w24 ho25 hb hg_ hnew_; clear hg_ hnew_; (first | rw [← Ny349.out] at ho25 | (simp only [Int.reduceToNat] at ho25; rw [← Ny349.out] at ho25)); have n0_ := Aside0.mk (Kd.R_elder' (by exact RX_ HO345.out) (Kd.R_base ho25) hb); have n1_ := Aside0.mk (Kd.R_elder' (by exact RX_ HO348.out) (Kd.R_base ho25) hb); have n2_ := Aside0.mk (Kd.R_lower (Kd.R_new' (Kd.R_new' ho25 (Kd.R_lt (by exact RX_ HO345.out))) (Kd.R_lt (by exact RX_ HO348.out))) (below_size (B_))); have n3_ := Aside0.mk (below_step (B_) hb); clear HO345; clear HO348; clear HB; have HO345 := n0_; have HO348 := n1_; have HO351 := n2_; have HB := n3_; clear n0_ n1_ n2_ n3_; clear hb ho25; obtain ⟨Ao26, co26, eo26⟩ := Kd.R_slice HO345.out; subst eo26; obtain ⟨Ao27, co27, eo27⟩ := Kd.R_slice HO348.out; subst eo27; obtain ⟨Ao28, co28, eo28⟩ := Kd.R_slice HO351.out; subst eo28) | ((with_reducible refine gate_dst (N := 9) rfl ?_); (try (refine gate_guard (by rfl) ?_; dsimp only)); refine Kd.N_lit (Kd.slice 3 (Kd.int .i64)) _ 31 ?hg (N' := 9) ?hd (xs := ([y343, y346, y349, []] : List (List Int))) (inner := [.slice Ao26 y343.length co26, .slice Ao27 y346.length co27, .slice Ao28 y349.length co28, .slice none 0 0]) (ok := (fun _ => True)) (okp := (fun _ => True)) ?hr ?hp (fun _ hk => hk) ((show ∀ k_, w24.heap.size ≤ k_ → (fun _ => True) k_ from fun k_ hk => trivial) _ (Nat.le_refl _)) (Below.refl _ _) (Nat.le_refl _) (by simp) ?_; (case hd => rfl); (case hg => rfl); (case hr => first | (go_simp; done) | (go_simp; rfl)); (case hp => exact (Reps.one (show Kd.FK (Kd.slice 3 (Kd.int .i64)) _ _ y343 [.slice Ao26 y343.length co26] from (Kd.FK_slice_mk (Kd.R_reads' (Kd.R_mono (ok' := (fun _ => True)) (HO345.out) (fun k_ hk => trivial))).2.1 (Kd.R_F (Kd.R_mono (ok' := (fun _ => True)) (HO345.out) (fun k_ hk => trivial))))) (Reps.one (show Kd.FK (Kd.slice 3 (Kd.int .i64)) _ _ y346 [.slice Ao27 y346.length co27] from (Kd.FK_slice_mk (Kd.R_reads' (Kd.R_mono (ok' := (fun _ => True)) (HO348.out) (fun k_ hk => trivial))).2.1 (Kd.R_F (Kd.R_mono (ok' := (fun _ => True)) (HO348.out) (fun k_ hk => trivial))))) (Reps.one (show Kd.FK (Kd.slice 3 (Kd.int .i64)) _ _ y349 [.slice Ao28 y349.length co28] from (Kd.FK_slice_mk (Kd.R_reads' (Kd.R_mono (ok' := (fun _ => True)) (HO351.out) (fun k_ hk => trivial))).2.1 (Kd.R_F (Kd.R_mono (ok' := (fun _ => True)) (HO351.out) (fun k_ hk => trivial))))) (Reps.one (show Kd.FK (Kd.slice 3 (Kd.int .i64)) _ _ [] [.slice none 0 0] from (Kd.FK_slice_mk (Nat.le_refl _) (Kd.F_nil _ _ _))) (Reps.none _ _)))))); intro v353 w29 ho30 hb hg_ hnew_; clear hg_ hnew_; (first | rw [← Ny352.out] at ho30 | (simp only [Int.reduceToNat] at ho30; rw [← Ny352.out] at ho30)); have n0_ := Aside0.mk (Kd.N_lower ho30 (below_size (B_))); have n1_ := Aside0.mk (below_step (B_) hb); clear HB; clear HO345; clear HO348; clear HO351; have HO354 := n0_; have HB := n1_; clear n0_ n1_; clear hb ho30; obtain ⟨Ao31, co31, eo31⟩ := Kd.N_slice HO354.out; subst eo31) | ((with_reducible refine gate_callee (f := 11) rfl ?_); refine goesL_ (some 10) rfl rfl Try.func11 (by kernel_rfl) rfl #[.slice Ao31 y352.length co31] rfl (by (try simp only [List.map_toArray, List.map_cons, List.map_nil]); first | done | rfl | (simp only [List.length_drop, List.length_take]; rfl)) ?_; (with_reducible refine (graph_Make.calls k _ _ y352 t355 t358 t361 _ ?side1 ?side2 A1.out).mono ?_); (case side1 => repeat (first | exact (Kd.N_reads' HO354.out).2.2 | (with_reducible refine Kd.C_alloc ?_ _) | (with_reducible refine Kd.C_drewN ?_ _) | (with_reducible refine Kd.C_drew ?_))); (case side2 => exact (Kd.N_reads' HO354.out).2.1); rintro e w32 ⟨v356, v359, rfl, ho0, ho1, hb⟩; refine ⟨_, rfl, ?_⟩; have n0_ := Aside0.mk (Kd.N_mono (Kd.N_told (Kd.N_told (Kd.N_old (by (with_reducible repeat (first | apply Kd.N_alloc | apply Kd.N_drewN | apply Kd.N_drew)); exact HO354.out) hb) (Kd.N_base (Kd.S_N ho0))) (Kd.N_base (Kd.S_N ho1))) (fun _ h_ => h_.1)); have n1_ := Aside0.mk (Kd.N_lower (Kd.N_mono (ok' := fun k_ => some k_ ≠ (v359 : Value).ownBlock ∧ some k_ ≠ (.slice Ao31 y352.length co31 : Value).ownBlock) (Kd.S_N (Kd.S_bound ho0)) (fun k_ hk_ => ⟨hk_.1, (Kd.fresh' (Kd.N_lt (by (with_reducible repeat (first | apply Kd.N_alloc | apply Kd.N_drewN | apply Kd.N_drew)); exact HO354.out)) k_ hk_.2.1)⟩)) (below_size (B_))); have n2_ := Aside0.mk (Kd.N_lower (Kd.N_mono (ok' := fun k_ => some k_ ≠ (v356 : Value).ownBlock ∧ some k_ ≠ (.slice Ao31 y352.length co31 : Value).ownBlock) (Kd.S_N (Kd.S_bound ho1)) (fun k_ hk_ => ⟨hk_.1, (Kd.fresh' (Kd.N_lt (by (with_reducible repeat (first | apply Kd.N_alloc | apply Kd.N_drewN | apply Kd.N_drew)); exact HO354.out)) k_ hk_.2.1)⟩)) (below_size (B_))); have n3_ := Aside0.mk (below_step (B_) hb); clear HO354; clear HB; have HO354 := n0_; have HO357 := n1_; have HO360 := n2_; have HB := n3_; clear n0_ n1_ n2_ n3_; (try clear hb); (try clear hb2); (try clear hk); (try clear hi); (try clear ho0); (try clear ho1)) | ((with_reducible refine gate_dst (N := 1) rfl ?_); (try (refine gate_guard (by rfl) ?_; dsimp only)); refine box_event ?hg (N := 1) ?hd (cs := #[.slice none 0 0, .slice none 0 0]) (t := 26) ?hr ?_; (case hd => rfl); (case hg => rfl); (case hr => first | (go_simp; done) | (go_simp; rfl)); intro gb362 hg w33 hbox hb; have n0_ := Aside0.mk (Kd.N_below (Kd.N_elderB (by (with_reducible repeat (first | apply Kd.N_alloc | apply Kd.N_drewN | apply Kd.N_drew)); exact HO354.out) gb362 (Nat.le_of_eq hg.symm)) hb); have n1_ := Aside0.mk (Kd.N_below (Kd.N_elderB (by (with_reducible repeat (first | apply Kd.N_alloc | apply Kd.N_drewN | apply Kd.N_drew)); exact HO357.out) gb362 (Nat.le_of_eq hg.symm)) hb); have n2_ := Aside0.mk (Kd.N_below (Kd.N_elderB (by (with_reducible repeat (first | apply Kd.N_alloc | apply Kd.N_drewN | apply Kd.N_drew)); exact HO360.out) gb362 (Nat.le_of_eq hg.symm)) hb); have n3_ := Aside0.mk (below_step (B_) hb); have n4_ := Aside0.mk (hbox); have n5_ := Aside0.mk ((by rw [hg]; exact (below_size (B_)) : w.heap.size ≤ gb362)); have n6_ := Aside0.mk ((by rw [hg]; exact (below_size (B_)) : w.heap.size ≤ gb362)); clear HO354; clear HO357; clear HO360; clear HB; have HO354 := n0_; have HO357 := n1_; have HO360 := n2_; have HB := n3_; have BK362 := n4_; have GW362 := n5_; have GE362 := n6_; clear n0_ n1_ n2_ n3_ n4_ n5_ n6_; clear hb hbox hg; obtain ⟨Ao34, co34, eo34⟩ := Kd.N_slice HO357.out; subst eo34; have hcz35_0 : w33.cell? ⟨gb362, 0, none⟩ = some (.slice none 0 0) := (blk_cell BK362.out 0).trans rfl; have hcz35_1 : w33.cell? ⟨gb362, 1, none⟩ = some (.slice none 0 0) := (blk_cell BK362.out 1).trans rfl; have hfz35_0 := blk_frozen BK362.out 0; have hfz35_1 := blk_frozen BK362.out 1; obtain ⟨Ao36, co36, eo36⟩ := Kd.N_slice HO360.out; subst eo36) | ((with_reducible refine gate_callee (f := 18) rfl ?_); refine goesL_ (some 14) rfl rfl Try.func18 (by kernel_rfl) rfl #[.agg #[.slice Ao34 t355.length co34, .slice Ao36 t358.length co36]] rfl (by (try simp only [List.map_toArray, List.map_cons, List.map_nil]); first | done | rfl | (simp only [List.length_drop, List.length_take]; rfl)) ?_; (with_reducible refine (loop_All.calls k _ _ t355 _ _ t358 t363 _ ?side1 ?side2 ?side3 ?side4 A2.out).mono ?_); (case side1 => refine (Kd.N_reads' (e := 31) (base := w.heap.size) (ok := fun k_ => ((some k_ ≠ (.slice Ao36 t358.length co36 : Value).ownBlock ∧ some k_ ≠ (.slice Ao31 y352.length co31 : Value).ownBlock) ∧ k_ ≠ gb362)) (n := t355.length) (c := co34) ?_).2.2; exact (by (with_reducible repeat (first | apply Kd.N_alloc | apply Kd.N_drewN | apply Kd.N_drew)); exact (Kd.N_mono (Kd.N_far (p := ⟨gb362, 1, none⟩) (Kd.N_far (p := ⟨gb362, 0, none⟩) (Kd.N_mono HO357.out (fun k_ hk => (⟨hk, hk.2⟩ : _ ∧ k_ ≠ gb362))) (fun _ hk => hk.2) (.slice Ao34 t355.length co34)) (fun _ hk => hk.2) (.slice Ao36 t358.length co36)) (fun _ h_ => h_.1)))); (case side2 => exact (Kd.N_reads' HO357.out).2.1); (case side3 => refine (Kd.N_reads' (e := 31) (base := w.heap.size) (ok := fun k_ => ((some k_ ≠ (.slice Ao34 t355.length co34 : Value).ownBlock ∧ some k_ ≠ (.slice Ao31 y352.length co31 : Value).ownBlock) ∧ k_ ≠ gb362)) (n := t358.length) (c := co36) ?_).2.2; exact (by (with_reducible repeat (first | apply Kd.N_alloc | apply Kd.N_drewN | apply Kd.N_drew)); exact (Kd.N_mono (Kd.N_far (p := ⟨gb362, 1, none⟩) (Kd.N_far (p := ⟨gb362, 0, none⟩) (Kd.N_mono HO360.out (fun k_ hk => (⟨hk, hk.2⟩ : _ ∧ k_ ≠ gb362))) (fun _ hk => hk.2) (.slice Ao34 t355.length co34)) (fun _ hk => hk.2) (.slice Ao36 t358.length co36)) (fun _ h_ => h_.1)))); (case side4 => exact (Kd.N_reads' HO360.out).2.1); rintro e w37 ⟨v364, rfl, ho0, hb⟩; refine ⟨_, rfl, ?_⟩; have n0_ := Aside0.mk (Kd.N_elder' (by (with_reducible repeat (first | apply Kd.N_alloc | apply Kd.N_drewN | apply Kd.N_drew)); exact (Kd.N_mono (Kd.N_far (p := ⟨gb362, 1, none⟩) (Kd.N_far (p := ⟨gb362, 0, none⟩) (Kd.N_mono HO354.out (fun k_ hk => (⟨hk, hk.2⟩ : _ ∧ k_ ≠ gb362))) (fun _ hk => hk.2) (.slice Ao34 t355.length co34)) (fun _ hk => hk.2) (.slice Ao36 t358.length co36)) (fun _ h_ => h_.1))) (Kd.N_base (Kd.S_N ho0)) hb); have n1_ := Aside0.mk (Kd.N_elder' (by (with_reducible repeat (first | apply Kd.N_alloc | apply Kd.N_drewN | apply Kd.N_drew)); exact (Kd.N_mono (Kd.N_far (p := ⟨gb362, 1, none⟩) (Kd.N_far (p := ⟨gb362, 0, none⟩) (Kd.N_mono HO357.out (fun k_ hk => (⟨hk, hk.2⟩ : _ ∧ k_ ≠ gb362))) (fun _ hk => hk.2) (.slice Ao34 t355.length co34)) (fun _ hk => hk.2) (.slice Ao36 t358.length co36)) (fun _ h_ => h_.1))) (Kd.N_base (Kd.S_N ho0)) hb); have n2_ := Aside0.mk (Kd.N_elder' (by (with_reducible repeat (first | apply Kd.N_alloc | apply Kd.N_drewN | apply Kd.N_drew)); exact (Kd.N_mono (Kd.N_far (p := ⟨gb362, 1, none⟩) (Kd.N_far (p := ⟨gb362, 0, none⟩) (Kd.N_mono HO360.out (fun k_ hk => (⟨hk, hk.2⟩ : _ ∧ k_ ≠ gb362))) (fun _ hk => hk.2) (.slice Ao34 t355.length co34)) (fun _ hk => hk.2) (.slice Ao36 t358.length co36)) (fun _ h_ => h_.1))) (Kd.N_base (Kd.S_N ho0)) hb); have n3_ := Aside0.mk (Kd.N_lower (Kd.N_mono (ok' := fun k_ => some k_ ≠ (.slice Ao31 y352.length co31 : Value).ownBlock ∧ some k_ ≠ (.slice Ao34 t355.length co34 : Value).ownBlock ∧ some k_ ≠ (.slice Ao36 t358.length co36 : Value).ownBlock ∧ k_ ≠ gb362) (Kd.S_N (Kd.S_bound ho0)) (fun k_ hk_ => ⟨(Kd.fresh' (Kd.N_lt (by (with_reducible repeat (first | apply Kd.N_alloc | apply Kd.N_drewN | apply Kd.N_drew)); exact (Kd.N_mono (Kd.N_far (p := ⟨gb362, 1, none⟩) (Kd.N_far (p := ⟨gb362, 0, none⟩) (Kd.N_mono HO354.out (fun k_ hk => (⟨hk, hk.2⟩ : _ ∧ k_ ≠ gb362))) (fun _ hk => hk.2) (.slice Ao34 t355.length co34)) (fun _ hk => hk.2) (.slice Ao36 t358.length co36)) (fun _ h_ => h_.1)))) k_ hk_.2.1), (Kd.fresh' (Kd.N_lt (by (with_reducible repeat (first | apply Kd.N_alloc | apply Kd.N_drewN | apply Kd.N_drew)); exact (Kd.N_mono (Kd.N_far (p := ⟨gb362, 1, none⟩) (Kd.N_far (p := ⟨gb362, 0, none⟩) (Kd.N_mono HO357.out (fun k_ hk => (⟨hk, hk.2⟩ : _ ∧ k_ ≠ gb362))) (fun _ hk => hk.2) (.slice Ao34 t355.length co34)) (fun _ hk => hk.2) (.slice Ao36 t358.length co36)) (fun _ h_ => h_.1)))) k_ hk_.2.1), (Kd.fresh' (Kd.N_lt (by (with_reducible repeat (first | apply Kd.N_alloc | apply Kd.N_drewN | apply Kd.N_drew)); exact (Kd.N_mono (Kd.N_far (p := ⟨gb362, 1, none⟩) (Kd.N_far (p := ⟨gb362, 0, none⟩) (Kd.N_mono HO360.out (fun k_ hk => (⟨hk, hk.2⟩ : _ ∧ k_ ≠ gb362))) (fun _ hk => hk.2) (.slice Ao34 t355.length co34)) (fun _ hk => hk.2) (.slice Ao36 t358.length co36)) (fun _ h_ => h_.1)))) k_ hk_.2.1), (Kd.freshB (g := gb362) (o := .cells #[.slice Ao34 t355.length co34, .slice Ao36 t358.length co36] 26 (0, 0)) (by (with_reducible repeat (first | refine blk_drewN ?_ _ | refine blk_drew ?_ | refine blk_alloc ?_ _)); refine blk_put (cs := #[.slice Ao34 t355.length co34, .slice none 0 0]) ?_ 1 _ rfl; (with_reducible repeat (first | refine blk_drewN ?_ _ | refine blk_drew ?_ | refine blk_alloc ?_ _)); refine blk_put (cs := #[.slice none 0 0, .slice none 0 0]) ?_ 0 _ rfl; exact KX_ BK362.out) k_ hk_.2.1)⟩)) (below_size (B1_))); have n4_ := Aside0.mk (blk_below (g := gb362) (o := .cells #[.slice Ao34 t355.length co34, .slice Ao36 t358.length co36] 26 (0, 0)) (by (with_reducible repeat (first | refine blk_drewN ?_ _ | refine blk_drew ?_ | refine blk_alloc ?_ _)); refine blk_put (cs := #[.slice Ao34 t355.length co34, .slice none 0 0]) ?_ 1 _ rfl; (with_reducible repeat (first | refine blk_drewN ?_ _ | refine blk_drew ?_ | refine blk_alloc ?_ _)); refine blk_put (cs := #[.slice none 0 0, .slice none 0 0]) ?_ 0 _ rfl; exact KX_ BK362.out) hb); have n5_ := Aside0.mk (below_step (B1_) hb); clear HO354; clear HO357; clear HO360; clear BK362; clear HB; have HO354 := n0_; have HO357 := n1_; have HO360 := n2_; have HO365 := n3_; have BK362 := n4_; have HB := n5_; clear n0_ n1_ n2_ n3_ n4_ n5_; (try clear hb); (try clear hb2); (try clear hk); (try clear hi); (try clear ho0); have hcz38_0 : w37.cell? ⟨gb362, 0, none⟩ = some (.slice Ao34 t355.length co34) := (blk_cell BK362.out 0).trans rfl; have hcz38_1 : w37.cell? ⟨gb362, 1, none⟩ = some (.slice Ao36 t358.length co36) := (blk_cell BK362.out 1).trans rfl; have hfz38_0 := blk_frozen BK362.out 0; have hfz38_1 := blk_frozen BK362.out 1) | ((with_reducible refine gate_callee (f := 22) rfl ?_); refine goesL_ (some 16) rfl rfl Try.func22 (by kernel_rfl) rfl #[.agg #[.slice Ao34 t355.length co34, .slice Ao36 t358.length co36]] rfl (by (try simp only [List.map_toArray, List.map_cons, List.map_nil]); first | done | rfl | (simp only [List.length_drop, List.length_take]; rfl)) ?_; (with_reducible refine (loop_Backs.calls k _ _ t355 _ _ t358 t366 _ ?side1 ?side2 ?side3 ?side4 A3.out).mono ?_); (case side1 => repeat (first | exact (Kd.N_reads' HO357.out).2.2 | (with_reducible refine Kd.C_alloc ?_ _) | (with_reducible refine Kd.C_drewN ?_ _) | (with_reducible refine Kd.C_drew ?_))); (case side2 => exact (Kd.N_reads' HO357.out).2.1); (case side3 => repeat (first | exact (Kd.N_reads' HO360.out).2.2 | (with_reducible refine Kd.C_alloc ?_ _) | (with_reducible refine Kd.C_drewN ?_ _) | (with_reducible refine Kd.C_drew ?_))); (case side4 => exact (Kd.N_reads' HO360.out).2.1); rintro e w39 ⟨v367, rfl, ho0, hb⟩; refine ⟨_, rfl, ?_⟩; have n0_ := Aside0.mk (Kd.N_elder' (by (with_reducible repeat (first | apply Kd.N_alloc | apply Kd.N_drewN | apply Kd.N_drew)); exact HO354.out) (Kd.R_base ho0) hb); have n1_ := Aside0.mk (Kd.N_elder' (by (with_reducible repeat (first | apply Kd.N_alloc | apply Kd.N_drewN | apply Kd.N_drew)); exact HO357.out) (Kd.R_base ho0) hb); have n2_ := Aside0.mk (Kd.N_elder' (by (with_reducible repeat (first | apply Kd.N_alloc | apply Kd.N_drewN | apply Kd.N_drew)); exact HO360.out) (Kd.R_base ho0) hb); have n3_ := Aside0.mk (Kd.N_elder' (by (with_reducible repeat (first | apply Kd.N_alloc | apply Kd.N_drewN | apply Kd.N_drew)); exact HO365.out) (Kd.R_base ho0) hb); have n4_ := Aside0.mk (Kd.R_lower ho0 (below_size (B1_))); have n5_ := Aside0.mk (blk_below (g := gb362) (o := .cells #[.slice Ao34 t355.length co34, .slice Ao36 t358.length co36] 26 (0, 0)) (by exact KX_ BK362.out) hb); have n6_ := Aside0.mk (below_step (B1_) hb); clear HO354; clear HO357; clear HO360; clear HO365; clear BK362; clear HB; have HO354 := n0_; have HO357 := n1_; have HO360 := n2_; have HO365 := n3_; have HO368 := n4_; have BK362 := n5_; have HB := n6_; clear n0_ n1_ n2_ n3_ n4_ n5_ n6_; (try clear hb); (try clear hb2); (try clear hk); (try clear hi); (try clear ho0); obtain ⟨Ao40, co40, eo40⟩ := Kd.N_slice HO365.out; subst eo40; have p369 : 0 ≤ (0 : Int) := (by omega); have q369 : 0 < (t363.length : Int) := D_; obtain ⟨ad369, A369_1, c369_1, e369, hx369_0, hx369_1, hl369_1, hi369_1⟩ := at_T43 (Kd.N_reads' HO365.out).2.2 0 p369 q369; cases e369; obtain ⟨ce369, hce369, hMe369, hcc369⟩ := Kd.N_get HO365.out z43 0 p369 (by first | exact q369 | exact D_ | (have e_ := (Kd.N_reads' HO365.out).1; omega)); obtain ⟨ua369_1, uc369_1, rfl, ul369_1, ge369_1⟩ := k43_openF hMe369; have hv369_1 := hcc369 1 _ rfl; rw [add_field _ _ 1 (by omega)] at hv369_1; replace hv369_1 := Option.some.inj (hv369_1.symm.trans hx369_1); injection hv369_1 with hva_ hvn_ hvc_; rw [hva_] at ge369_1; rw [hvc_] at ul369_1; have HL369_1 := Aside0.mk (show Kd.V (Kd.int .i64) 3 _ w.heap.size _ _ ((rd_T43 t363 0).f1) from Kd.V_mk ul369_1 ge369_1); clear hva_ hvn_ hvc_ ge369_1 ul369_1; clear hcc369 hce369; have qi369 : (0 < t363.length) = True := eq_true (by omega); (try rw [show ((0 : Int)).toNat = 0 from rfl] at hx369_0); (try rw [show 0 * 2 = 0 from rfl] at hx369_0); (try rw [Addr.add_zero'] at hx369_0); (try rw [show ((0 : Int)).toNat = 0 from rfl] at hx369_1); (try rw [show 0 * 2 = 0 from rfl] at hx369_1); (try rw [Addr.add_zero'] at hx369_1); have HR369_1 := Aside0.mk hi369_1; have HC369_1 := Aside0.mk hl369_1; clear hi369_1 hl369_1; replace p369 := eq_true p369; replace q369 := eq_true q369; have p370 : 0 ≤ (0 : Int) := (by omega); have q370 : 0 < (t363.length : Int) := D_; obtain ⟨ad370, A370_1, c370_1, e370, hx370_0, hx370_1, hl370_1, hi370_1⟩ := at_T43 (Kd.N_reads' HO365.out).2.2 0 p370 q370; obtain rfl : ad369 = ad370 := (by injection e370); obtain ⟨ce370, hce370, hMe370, hcc370⟩ := Kd.N_get HO365.out z43 0 p370 (by first | exact q370 | exact D_ | (have e_ := (Kd.N_reads' HO365.out).1; omega)); obtain ⟨ua370_1, uc370_1, rfl, ul370_1, ge370_1⟩ := k43_openF hMe370; have hv370_1 := hcc370 1 _ rfl; rw [add_field _ _ 1 (by omega)] at hv370_1; replace hv370_1 := Option.some.inj (hv370_1.symm.trans hx370_1); injection hv370_1 with hva_ hvn_ hvc_; rw [hva_] at ge370_1; rw [hvc_] at ul370_1; have HL370_1 := Aside0.mk (show Kd.V (Kd.int .i64) 3 _ w.heap.size _ _ ((rd_T43 t363 0).f1) from Kd.V_mk ul370_1 ge370_1); clear hva_ hvn_ hvc_ ge370_1 ul370_1; clear hcc370 hce370; have qi370 : (0 < t363.length) = True := eq_true (by omega); (try rw [show ((0 : Int)).toNat = 0 from rfl] at hx370_0); (try rw [show 0 * 2 = 0 from rfl] at hx370_0); (try rw [Addr.add_zero'] at hx370_0); (try rw [show ((0 : Int)).toNat = 0 from rfl] at hx370_1); (try rw [show 0 * 2 = 0 from rfl] at hx370_1); (try rw [Addr.add_zero'] at hx370_1); have HR370_1 := Aside0.mk hi370_1; have HC370_1 := Aside0.mk hl370_1; clear hi370_1 hl370_1; replace p370 := eq_true p370; replace q370 := eq_true q370; have ea_ := Option.some.inj (hx369_1.symm.trans hx370_1); injection ea_ with ea_ en_ ec_; subst ea_; subst ec_; clear en_) | ((with_reducible refine gate_dst (N := 36) rfl ?_); (try (refine gate_guard (by rfl) ?_; dsimp only)); refine Kd.R_lit (Kd.int .i64) _ 3 ?hg (N := 36) ?hd (xs := ([1, 2] : List Int)) (inner := [.int .i64 1, .int .i64 2]) (ok := fun _ => True) (okp := fun _ => True) ?hr ?hp (fun _ hk => hk) trivial (Below.refl _ _) (Nat.le_refl _) (by simp) ?_; (case hd => rfl); (case hg => rfl); (case hr => first | (go_simp; done) | (go_simp; rfl)); (case hp => exact (Reps.one (show Kd.M (Kd.int .i64) _ _ _ 1 [.int .i64 1] from rfl) (Reps.one (show Kd.M (Kd.int .i64) _ _ _ 2 [.int .i64 2] from rfl) (Reps.none _ _)))); intro v372 w41 ho42 hb hg_ hnew_; clear hg_ hnew_; (first | rw [← Ny371.out] at ho42 | (simp only [Int.reduceToNat] at ho42; rw [← Ny371.out] at ho42)); have n0_ := Aside0.mk (Kd.N_elder' (by (with_reducible repeat (first | apply Kd.N_alloc | apply Kd.N_drewN | apply Kd.N_drew)); exact HO354.out) (Kd.R_base ho42) hb); have n1_ := Aside0.mk (Kd.N_elder' (by (with_reducible repeat (first | apply Kd.N_alloc | apply Kd.N_drewN | apply Kd.N_drew)); exact HO357.out) (Kd.R_base ho42) hb); have n2_ := Aside0.mk (Kd.N_elder' (by (with_reducible repeat (first | apply Kd.N_alloc | apply Kd.N_drewN | apply Kd.N_drew)); exact HO360.out) (Kd.R_base ho42) hb); have n3_ := Aside0.mk (Kd.N_elder' (by (with_reducible repeat (first | apply Kd.N_alloc | apply Kd.N_drewN | apply Kd.N_drew)); exact HO365.out) (Kd.R_base ho42) hb); have n4_ := Aside0.mk (Kd.R_below (by exact RX_ HO368.out) hb); have n5_ := Aside0.mk (Kd.V_elder' (by (with_reducible repeat (first | apply Kd.V_alloc | apply Kd.V_drewN | apply Kd.V_drew)); exact HL369_1.out) (Kd.R_base ho42) hb); have n6_ := Aside0.mk (Kd.V_elder' (by (with_reducible repeat (first | apply Kd.V_alloc | apply Kd.V_drewN | apply Kd.V_drew)); exact HL370_1.out) (Kd.R_base ho42) hb); have n7_ := Aside0.mk (Kd.R_lower ho42 (below_size (B1_))); have n8_ := Aside0.mk (blk_below (g := gb362) (o := .cells #[.slice Ao34 t355.length co34, .slice Ao36 t358.length co36] 26 (0, 0)) (by exact KX_ BK362.out) hb); have n9_ := Aside0.mk (Kd.C_below (by repeat (first | (with_reducible exact HR369_1.out) | (with_reducible refine Kd.C_alloc ?_ _) | (with_reducible refine Kd.C_drewN ?_ _) | (with_reducible refine Kd.C_drew ?_) | exact HR369_1.out)) hb); have n10_ := Aside0.mk (Kd.C_below (by repeat (first | (with_reducible exact HR370_1.out) | (with_reducible refine Kd.C_alloc ?_ _) | (with_reducible refine Kd.C_drewN ?_ _) | (with_reducible refine Kd.C_drew ?_) | exact HR370_1.out)) hb); have n11_ := Aside0.mk (below_step (B1_) hb); clear HO354; clear HO357; clear HO360; clear HO365; clear HO368; clear HL369_1; clear HL370_1; clear BK362; clear HR369_1; clear HR370_1; clear HB; have HO354 := n0_; have HO357 := n1_; have HO360 := n2_; have HO365 := n3_; have HO368 := n4_; have HL369_1 := n5_; have HL370_1 := n6_; have HO373 := n7_; have BK362 := n8_; have HR369_1 := n9_; have HR370_1 := n10_; have HB := n11_; clear n0_ n1_ n2_ n3_ n4_ n5_ n6_ n7_ n8_ n9_ n10_ n11_; clear hb ho42; obtain ⟨Ao43, co43, eo43⟩ := Kd.R_slice HO373.out; subst eo43) | (go_at_call 25; (with_reducible refine (lockstepref02_Ints.calls k _ _ ((rd_T43 t363 0).f1) _ _ y371 true _ ?side1 ?side2 ?side3 ?side4 A8.out).mono ?_); (case side1 => repeat (first | exact (by repeat (first | (with_reducible exact HR370_1.out) | (with_reducible refine Kd.C_alloc ?_ _) | (with_reducible refine Kd.C_drewN ?_ _) | (with_reducible refine Kd.C_drew ?_) | exact HR370_1.out)) | (with_reducible refine Kd.C_alloc ?_ _) | (with_reducible refine Kd.C_drewN ?_ _) | (with_reducible refine Kd.C_drew ?_))); (case side2 => exact HC370_1.out); (case side3 => repeat (first | exact (Kd.R_reads' HO373.out).2.2 | (with_reducible refine Kd.C_alloc ?_ _) | (with_reducible refine Kd.C_drewN ?_ _) | (with_reducible refine Kd.C_drew ?_))); (case side4 => exact (Kd.R_reads' HO373.out).2.1); rintro e w' ⟨rfl, ⟨nd, rfl⟩⟩; obtain ⟨Ao44, co44, eo44⟩ := Kd.R_slice HO368.out; subst eo44; have p375 : 0 ≤ (0 : Int) := (by omega); have q375 : 0 < (t366.length : Int) := D_; obtain ⟨ad375, e375, hx375_0, hx375_1⟩ := at_T48 (Kd.R_reads' HO368.out).2.2 0 p375 q375; cases e375; have qi375 : (0 < t366.length) = True := eq_true (by omega); (try rw [show ((0 : Int)).toNat = 0 from rfl] at hx375_0); (try rw [show 0 * 2 = 0 from rfl] at hx375_0); (try rw [Addr.add_zero'] at hx375_0); (try rw [show ((0 : Int)).toNat = 0 from rfl] at hx375_1); (try rw [show 0 * 2 = 0 from rfl] at hx375_1); (try rw [Addr.add_zero'] at hx375_1); replace p375 := eq_true p375; replace q375 := eq_true q375; have hcz45_0 : w41.cell? ⟨gb362, 0, none⟩ = some (.slice Ao34 t355.length co34) := (blk_cell BK362.out 0).trans rfl; have hcz45_1 : w41.cell? ⟨gb362, 1, none⟩ = some (.slice Ao36 t358.length co36) := (blk_cell BK362.out 1).trans rfl; have hfz45_0 := blk_frozen BK362.out 0; have hfz45_1 := blk_frozen BK362.out 1) | (go_at_call 23; (with_reducible refine (loop_Depth.calls k _ _ t355 _ _ t358 2 t376 _ ?side1 ?side2 ?side3 ?side4 A13.out).mono ?_); (case side1 => repeat (first | exact (Kd.N_reads' HO357.out).2.2 | (with_reducible refine Kd.C_alloc ?_ _) | (with_reducible refine Kd.C_drewN ?_ _) | (with_reducible refine Kd.C_drew ?_))); (case side2 => exact (Kd.N_reads' HO357.out).2.1); (case side3 => repeat (first | exact (Kd.N_reads' HO360.out).2.2 | (with_reducible refine Kd.C_alloc ?_ _) | (with_reducible refine Kd.C_drewN ?_ _) | (with_reducible refine Kd.C_drew ?_))); (case side4 => exact (Kd.N_reads' HO360.out).2.1); rintro e w46 ⟨rfl, hb⟩; have n0_ := Aside0.mk (Kd.N_below (by (with_reducible repeat (first | apply Kd.N_alloc | apply Kd.N_drewN | apply Kd.N_drew)); exact HO354.out) hb); have n1_ := Aside0.mk (Kd.N_below (by (with_reducible repeat (first | apply Kd.N_alloc | apply Kd.N_drewN | apply Kd.N_drew)); exact HO357.out) hb); have n2_ := Aside0.mk (Kd.N_below (by (with_reducible repeat (first | apply Kd.N_alloc | apply Kd.N_drewN | apply Kd.N_drew)); exact HO360.out) hb); have n3_ := Aside0.mk (Kd.N_below (by (with_reducible repeat (first | apply Kd.N_alloc | apply Kd.N_drewN | apply Kd.N_drew)); exact HO365.out) hb); have n4_ := Aside0.mk (Kd.R_below (by exact RX_ HO368.out) hb); have n5_ := Aside0.mk (Kd.V_below (by (with_reducible repeat (first | apply Kd.V_alloc | apply Kd.V_drewN | apply Kd.V_drew)); exact HL369_1.out) hb); have n6_ := Aside0.mk (Kd.V_below (by (with_reducible repeat (first | apply Kd.V_alloc | apply Kd.V_drewN | apply Kd.V_drew)); exact HL370_1.out) hb); have n7_ := Aside0.mk (Kd.R_below (by exact RX_ HO373.out) hb); have n8_ := Aside0.mk (blk_below (g := gb362) (o := .cells #[.slice Ao34 t355.length co34, .slice Ao36 t358.length co36] 26 (0, 0)) (by exact KX_ BK362.out) hb); have n9_ := Aside0.mk (Kd.C_below (by repeat (first | (with_reducible exact HR369_1.out) | (with_reducible refine Kd.C_alloc ?_ _) | (with_reducible refine Kd.C_drewN ?_ _) | (with_reducible refine Kd.C_drew ?_) | exact HR369_1.out)) hb); have n10_ := Aside0.mk (Kd.C_below (by repeat (first | (with_reducible exact HR370_1.out) | (with_reducible refine Kd.C_alloc ?_ _) | (with_reducible refine Kd.C_drewN ?_ _) | (with_reducible refine Kd.C_drew ?_) | exact HR370_1.out)) hb); have n11_ := Aside0.mk (below_step (B1_) hb); clear HO354; clear HO357; clear HO360; clear HO365; clear HO368; clear HL369_1; clear HL370_1; clear HO373; clear BK362; clear HR369_1; clear HR370_1; clear HB; have HO354 := n0_; have HO357 := n1_; have HO360 := n2_; have HO365 := n3_; have HO368 := n4_; have HL369_1 := n5_; have HL370_1 := n6_; have HO373 := n7_; have BK362 := n8_; have HR369_1 := n9_; have HR370_1 := n10_; have HB := n11_; clear n0_ n1_ n2_ n3_ n4_ n5_ n6_ n7_ n8_ n9_ n10_ n11_; (try clear hb); (try clear hb2); (try clear hk); (try clear hi); have hcz47_0 : w46.cell? ⟨gb362, 0, none⟩ = some (.slice Ao34 t355.length co34) := (blk_cell BK362.out 0).trans rfl; have hcz47_1 : w46.cell? ⟨gb362, 1, none⟩ = some (.slice Ao36 t358.length co36) := (blk_cell BK362.out 1).trans rfl; have hfz47_0 := blk_frozen BK362.out 0; have hfz47_1 := blk_frozen BK362.out 1) | (go_at_call 23; (with_reducible refine (loop_Depth.calls k _ _ t355 _ _ t358 3 t377 _ ?side1 ?side2 ?side3 ?side4 A15.out).mono ?_); (case side1 => repeat (first | exact (Kd.N_reads' HO357.out).2.2 | (with_reducible refine Kd.C_alloc ?_ _) | (with_reducible refine Kd.C_drewN ?_ _) | (with_reducible refine Kd.C_drew ?_))); (case side2 => exact (Kd.N_reads' HO357.out).2.1); (case side3 => repeat (first | exact (Kd.N_reads' HO360.out).2.2 | (with_reducible refine Kd.C_alloc ?_ _) | (with_reducible refine Kd.C_drewN ?_ _) | (with_reducible refine Kd.C_drew ?_))); (case side4 => exact (Kd.N_reads' HO360.out).2.1); rintro e w48 ⟨rfl, hb⟩; have n0_ := Aside0.mk (Kd.N_below (by (with_reducible repeat (first | apply Kd.N_alloc | apply Kd.N_drewN | apply Kd.N_drew)); exact HO354.out) hb); have n1_ := Aside0.mk (Kd.N_below (by (with_reducible repeat (first | apply Kd.N_alloc | apply Kd.N_drewN | apply Kd.N_drew)); exact HO357.out) hb); have n2_ := Aside0.mk (Kd.N_below (by (with_reducible repeat (first | apply Kd.N_alloc | apply Kd.N_drewN | apply Kd.N_drew)); exact HO360.out) hb); have n3_ := Aside0.mk (Kd.N_below (by (with_reducible repeat (first | apply Kd.N_alloc | apply Kd.N_drewN | apply Kd.N_drew)); exact HO365.out) hb); have n4_ := Aside0.mk (Kd.R_below (by exact RX_ HO368.out) hb); have n5_ := Aside0.mk (Kd.V_below (by (with_reducible repeat (first | apply Kd.V_alloc | apply Kd.V_drewN | apply Kd.V_drew)); exact HL369_1.out) hb); have n6_ := Aside0.mk (Kd.V_below (by (with_reducible repeat (first | apply Kd.V_alloc | apply Kd.V_drewN | apply Kd.V_drew)); exact HL370_1.out) hb); have n7_ := Aside0.mk (Kd.R_below (by exact RX_ HO373.out) hb); have n8_ := Aside0.mk (blk_below (g := gb362) (o := .cells #[.slice Ao34 t355.length co34, .slice Ao36 t358.length co36] 26 (0, 0)) (by exact KX_ BK362.out) hb); have n9_ := Aside0.mk (Kd.C_below (by repeat (first | (with_reducible exact HR369_1.out) | (with_reducible refine Kd.C_alloc ?_ _) | (with_reducible refine Kd.C_drewN ?_ _) | (with_reducible refine Kd.C_drew ?_) | exact HR369_1.out)) hb); have n10_ := Aside0.mk (Kd.C_below (by repeat (first | (with_reducible exact HR370_1.out) | (with_reducible refine Kd.C_alloc ?_ _) | (with_reducible refine Kd.C_drewN ?_ _) | (with_reducible refine Kd.C_drew ?_) | exact HR370_1.out)) hb); have n11_ := Aside0.mk (below_step (B1_) hb); clear HO354; clear HO357; clear HO360; clear HO365; clear HO368; clear HL369_1; clear HL370_1; clear HO373; clear BK362; clear HR369_1; clear HR370_1; clear HB; have HO354 := n0_; have HO357 := n1_; have HO360 := n2_; have HO365 := n3_; have HO368 := n4_; have HL369_1 := n5_; have HL370_1 := n6_; have HO373 := n7_; have BK362 := n8_; have HR369_1 := n9_; have HR370_1 := n10_; have HB := n11_; clear n0_ n1_ n2_ n3_ n4_ n5_ n6_ n7_ n8_ n9_ n10_ n11_; (try clear hb); (try clear hb2); (try clear hk); (try clear hi); have hcz49_0 : w48.cell? ⟨gb362, 0, none⟩ = some (.slice Ao34 t355.length co34) := (blk_cell BK362.out 0).trans rfl; have hcz49_1 : w48.cell? ⟨gb362, 1, none⟩ = some (.slice Ao36 t358.length co36) := (blk_cell BK362.out 1).trans rfl; have hfz49_0 := blk_frozen BK362.out 0; have hfz49_1 := blk_frozen BK362.out 1) | (go_at_call 19; (with_reducible refine (loop_Reducible.calls k _ _ t355 _ _ t358 true _ ?side1 ?side2 ?side3 ?side4 A17.out).mono ?_); (case side1 => repeat (first | exact (Kd.N_reads' HO357.out).2.2 | (with_reducible refine Kd.C_alloc ?_ _) | (with_reducible refine Kd.C_drewN ?_ _) | (with_reducible refine Kd.C_drew ?_))); (case side2 => exact (Kd.N_reads' HO357.out).2.1); (case side3 => repeat (first | exact (Kd.N_reads' HO360.out).2.2 | (with_reducible refine Kd.C_alloc ?_ _) | (with_reducible refine Kd.C_drewN ?_ _) | (with_reducible refine Kd.C_drew ?_))); (case side4 => exact (Kd.N_reads' HO360.out).2.1); rintro e w50 ⟨rfl, hb⟩; have n0_ := Aside0.mk (Kd.N_below (by (with_reducible repeat (first | apply Kd.N_alloc | apply Kd.N_drewN | apply Kd.N_drew)); exact HO354.out) hb); have n1_ := Aside0.mk (Kd.N_below (by (with_reducible repeat (first | apply Kd.N_alloc | apply Kd.N_drewN | apply Kd.N_drew)); exact HO357.out) hb); have n2_ := Aside0.mk (Kd.N_below (by (with_reducible repeat (first | apply Kd.N_alloc | apply Kd.N_drewN | apply Kd.N_drew)); exact HO360.out) hb); have n3_ := Aside0.mk (Kd.N_below (by (with_reducible repeat (first | apply Kd.N_alloc | apply Kd.N_drewN | apply Kd.N_drew)); exact HO365.out) hb); have n4_ := Aside0.mk (Kd.R_below (by exact RX_ HO368.out) hb); have n5_ := Aside0.mk (Kd.V_below (by (with_reducible repeat (first | apply Kd.V_alloc | apply Kd.V_drewN | apply Kd.V_drew)); exact HL369_1.out) hb); have n6_ := Aside0.mk (Kd.V_below (by (with_reducible repeat (first | apply Kd.V_alloc | apply Kd.V_drewN | apply Kd.V_drew)); exact HL370_1.out) hb); have n7_ := Aside0.mk (Kd.R_below (by exact RX_ HO373.out) hb); have n8_ := Aside0.mk (blk_below (g := gb362) (o := .cells #[.slice Ao34 t355.length co34, .slice Ao36 t358.length co36] 26 (0, 0)) (by exact KX_ BK362.out) hb); have n9_ := Aside0.mk (Kd.C_below (by repeat (first | (with_reducible exact HR369_1.out) | (with_reducible refine Kd.C_alloc ?_ _) | (with_reducible refine Kd.C_drewN ?_ _) | (with_reducible refine Kd.C_drew ?_) | exact HR369_1.out)) hb); have n10_ := Aside0.mk (Kd.C_below (by repeat (first | (with_reducible exact HR370_1.out) | (with_reducible refine Kd.C_alloc ?_ _) | (with_reducible refine Kd.C_drewN ?_ _) | (with_reducible refine Kd.C_drew ?_) | exact HR370_1.out)) hb); have n11_ := Aside0.mk (below_step (B1_) hb); clear HO354; clear HO357; clear HO360; clear HO365; clear HO368; clear HL369_1; clear HL370_1; clear HO373; clear BK362; clear HR369_1; clear HR370_1; clear HB; have HO354 := n0_; have HO357 := n1_; have HO360 := n2_; have HO365 := n3_; have HO368 := n4_; have HL369_1 := n5_; have HL370_1 := n6_; have HO373 := n7_; have BK362 := n8_; have HR369_1 := n9_; have HR370_1 := n10_; have HB := n11_; clear n0_ n1_ n2_ n3_ n4_ n5_ n6_ n7_ n8_ n9_ n10_ n11_; (try clear hb); (try clear hb2); (try clear hk); (try clear hi); have hcz51_0 : w50.cell? ⟨gb362, 0, none⟩ = some (.slice Ao34 t355.length co34) := (blk_cell BK362.out 0).trans rfl; have hcz51_1 : w50.cell? ⟨gb362, 1, none⟩ = some (.slice Ao36 t358.length co36) := (blk_cell BK362.out 1).trans rfl; have hfz51_0 := blk_frozen BK362.out 0; have hfz51_1 := blk_frozen BK362.out 1) | (go_at_call 21; (with_reducible refine (loop_Forward.calls k _ _ t355 _ _ t358 t379 _ ?side1 ?side2 ?side3 ?side4 A19.out).mono ?_); (case side1 => repeat (first | exact (Kd.N_reads' HO357.out).2.2 | (with_reducible refine Kd.C_alloc ?_ _) | (with_reducible refine Kd.C_drewN ?_ _) | (with_reducible refine Kd.C_drew ?_))); (case side2 => exact (Kd.N_reads' HO357.out).2.1); (case side3 => repeat (first | exact (Kd.N_reads' HO360.out).2.2 | (with_reducible refine Kd.C_alloc ?_ _) | (with_reducible refine Kd.C_drewN ?_ _) | (with_reducible refine Kd.C_drew ?_))); (case side4 => exact (Kd.N_reads' HO360.out).2.1); rintro e w52 ⟨rfl, hb⟩; have n0_ := Aside0.mk (Kd.N_below (by (with_reducible repeat (first | apply Kd.N_alloc | apply Kd.N_drewN | apply Kd.N_drew)); exact HO354.out) hb); have n1_ := Aside0.mk (Kd.N_below (by (with_reducible repeat (first | apply Kd.N_alloc | apply Kd.N_drewN | apply Kd.N_drew)); exact HO357.out) hb); have n2_ := Aside0.mk (Kd.N_below (by (with_reducible repeat (first | apply Kd.N_alloc | apply Kd.N_drewN | apply Kd.N_drew)); exact HO360.out) hb); have n3_ := Aside0.mk (Kd.N_below (by (with_reducible repeat (first | apply Kd.N_alloc | apply Kd.N_drewN | apply Kd.N_drew)); exact HO365.out) hb); have n4_ := Aside0.mk (Kd.R_below (by exact RX_ HO368.out) hb); have n5_ := Aside0.mk (Kd.V_below (by (with_reducible repeat (first | apply Kd.V_alloc | apply Kd.V_drewN | apply Kd.V_drew)); exact HL369_1.out) hb); have n6_ := Aside0.mk (Kd.V_below (by (with_reducible repeat (first | apply Kd.V_alloc | apply Kd.V_drewN | apply Kd.V_drew)); exact HL370_1.out) hb); have n7_ := Aside0.mk (Kd.R_below (by exact RX_ HO373.out) hb); have n8_ := Aside0.mk (blk_below (g := gb362) (o := .cells #[.slice Ao34 t355.length co34, .slice Ao36 t358.length co36] 26 (0, 0)) (by exact KX_ BK362.out) hb); have n9_ := Aside0.mk (Kd.C_below (by repeat (first | (with_reducible exact HR369_1.out) | (with_reducible refine Kd.C_alloc ?_ _) | (with_reducible refine Kd.C_drewN ?_ _) | (with_reducible refine Kd.C_drew ?_) | exact HR369_1.out)) hb); have n10_ := Aside0.mk (Kd.C_below (by repeat (first | (with_reducible exact HR370_1.out) | (with_reducible refine Kd.C_alloc ?_ _) | (with_reducible refine Kd.C_drewN ?_ _) | (with_reducible refine Kd.C_drew ?_) | exact HR370_1.out)) hb); have n11_ := Aside0.mk (below_step (B1_) hb); clear HO354; clear HO357; clear HO360; clear HO365; clear HO368; clear HL369_1; clear HL370_1; clear HO373; clear BK362; clear HR369_1; clear HR370_1; clear HB; have HO354 := n0_; have HO357 := n1_; have HO360 := n2_; have HO365 := n3_; have HO368 := n4_; have HL369_1 := n5_; have HL370_1 := n6_; have HO373 := n7_; have BK362 := n8_; have HR369_1 := n9_; have HR370_1 := n10_; have HB := n11_; clear n0_ n1_ n2_ n3_ n4_ n5_ n6_ n7_ n8_ n9_ n10_ n11_; (try clear hb); (try clear hb2); (try clear hk); (try clear hi)))
            go_ret
            exact ⟨by first | rfl | exact congrArg (fun b => Ending.returned (Value.bool b)) HR_.out | (simp [errW_none, errW_some] <;> rfl) | (simp [*, errW_none, errW_some] <;> rfl), B1_⟩
           replace c18 := Bool.eq_false_iff.mpr c18
           subst c18
           have H1 : (some false) = some true := by rw [if_neg (show ¬ (false = true) by decide)] at H; exact H
           clear H
           have H := H1
           clear H1
           exact absurd H (by simp)
          rw [if_neg c16] at H
          have c16b0 : (t377 == 0) = false := beq_eq_false_iff_ne.mpr c16
          have c16b1 : (t377 != 0) = true := bne_iff_ne.mpr c16
          exact absurd H (by simp)
         rw [if_neg c14] at H
         have c14b0 : (t376 == 1) = false := beq_eq_false_iff_ne.mpr c14
         have c14b1 : (t376 != 1) = true := bne_iff_ne.mpr c14
         exact absurd H (by simp)
        rw [if_neg c12] at H
        have c12b0 : (((rd_T48 t366 0).f0) == 2 && (((rd_T48 t366 0).f1) == 1)) = false := by simpa using c12
        (try (have c12b1 : decide (((rd_T48 t366 0).f0) = 2 && (((rd_T48 t366 0).f1) == 1)) = false := by simpa using c12))
        (try (have c12b2 : (((rd_T48 t366 0).f0) == 2 && (((rd_T48 t366 0).f1) == 1)) = false := by simpa using c12))
        (try (have c12b3 : ¬ (((rd_T48 t366 0).f0) = 2 && (((rd_T48 t366 0).f1) == 1)) := by simpa using c12))
        clear c12
        exact absurd H (by simp)
       rw [if_neg c11] at H
       exact absurd H (by simp)
      rw [if_neg c10] at H
      have c10b0 : ((t366.length : Int) == 1) = false := beq_eq_false_iff_ne.mpr c10
      have c10b1 : ((t366.length : Int) != 1) = true := bne_iff_ne.mpr c10
      exact absurd H (by simp)
     replace c9 := Bool.eq_false_iff.mpr c9
     subst c9
     have H1 : (some false) = some true := by rw [if_neg (show ¬ (false = true) by decide)] at H; exact H
     clear H
     have H := H1
     clear H1
     exact absurd H (by simp)
    rw [if_neg c7] at H
    have c7b0 : (((rd_T43 t363 0).f0) == 1) = false := beq_eq_false_iff_ne.mpr c7
    have c7b1 : (((rd_T43 t363 0).f0) != 1) = true := bne_iff_ne.mpr c7
    exact absurd H (by simp)
   rw [if_neg c6] at H
   exact absurd H (by simp)
  rw [if_neg c5] at H
  have c5b0 : ((t363.length : Int) == 1) = false := beq_eq_false_iff_ne.mpr c5
  have c5b1 : ((t363.length : Int) != 1) = true := bne_iff_ne.mpr c5
  exact absurd H (by simp)
 rw [if_neg c4] at H
 have c4b0 : (t361 == 0) = false := beq_eq_false_iff_ne.mpr c4
 have c4b1 : (t361 != 0) = true := bne_iff_ne.mpr c4
 exact absurd H (by simp)

end Go.Proofs.Ytoekeknfeinphaa.G
