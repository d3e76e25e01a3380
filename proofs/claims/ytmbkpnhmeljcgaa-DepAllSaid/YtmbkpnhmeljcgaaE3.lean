/- A symbolic run of the code of functions, and the proof that what it tells is so. No conditions beyond each theorem's own. -/
import Derived.Test.YtmbkpnhmeljcgaaE2
set_option linter.unusedVariables false
set_option linter.unusedSimpArgs false
namespace Go.Ev
open Go.RowKit
variable {R : Type} {B : Base}
/-- is the value of this kind: a struct's, or one cell's? -/
def VV (r : RT) (v : Value) : Prop := match r.agg with | true => ∃ c, v = .agg c | false => v.cells = #[v]
/-- a value among others -/
def RR1 (all : List Value) (r : RT) (v : Value) : Prop := match r with
  | .pal f true i => v = .func (.func f) #[all.getD i undef] #[]
  | .pal f false i => v = .func (.func f) #[] #[all.getD i undef]
  | _ => True
def RRsA (u : Bool) (w : World) (G : Nat → Prop) (all : List Value) : (rs : List RT) → dens rs → List Value → List (Option Nat) → Prop
  | [], _, vs, bs => vs = [] ∧ bs = []
  | r :: rs, p, vs, bs => ∃ v vs' b1 b2, vs = v :: vs' ∧ bs = b1 ++ b2 ∧ (VV r v ∧ RR1 all r v) ∧ RR u w G r p.1 v.cells.toList b1 ∧ RRsA u w G all rs p.2 vs' b2
def RRs (u : Bool) (w : World) (G : Nat → Prop) (rs : List RT) (x : dens rs) (vs : List Value) (bs : List (Option Nat)) : Prop := RRsA u w G vs rs x vs bs
theorem RRsA.imp [Str] {w w' : World} {G G' : Nat → Prop} (hG : ∀ b, G b → G' b) (hA : Agree G w w') {u : Bool} {all : List Value} : ∀ {rs : List RT} {x : dens rs} {vs : List Value} {bs : List (Option Nat)}, (∀ k, some k ∈ bs → w'.heap[k]? = w.heap[k]?) → RRsA u w G all rs x vs bs → RRsA u w' G' all rs x vs bs
  | [], _, _, _, _, h => h
  | r :: rs, _, _, _, hb, ⟨v, vs', b1, b2, h1, h2, h3, h4, h5⟩ => ⟨v, vs', b1, b2, h1, h2, h3, h4.imp hG hA (fun k hk => hb k (by rw [h2]; exact List.mem_append_left _ hk)), h5.imp hG hA (fun k hk => hb k (by rw [h2]; exact List.mem_append_right _ hk))⟩
theorem RRs.imp [Str] {w w' : World} {G G' : Nat → Prop} (hG : ∀ b, G b → G' b) (hA : Agree G w w') {u : Bool} {rs : List RT} {x : dens rs} {vs : List Value} {bs : List (Option Nat)} (hb : ∀ k, some k ∈ bs → w'.heap[k]? = w.heap[k]?) (h : RRs u w G rs x vs bs) : RRs u w' G' rs x vs bs := RRsA.imp hG hA hb h
/-- what is told of scalars alone doesn't hang on G -/
theorem RC.scalar {w : World} {G G' : Nat → Prop} : ∀ {t : Ty} {x : t.den} {cs : List Value}, t.scalar = true → RC w G t x cs → RC w G' t x cs
  | .int _, _, _, _, h => h
  | .bool, _, _, _, h => h
  | .str, _, _, _, h => h
  | .list _, _, _, hs, _ => by cases hs
  | .unit, _, _, _, h => h
  | .pair a b, _, _, hs, ⟨c, d, e, h1, h2⟩ => by
    simp only [Ty.scalar, Bool.and_eq_true] at hs
    exact ⟨c, d, e, RC.scalar hs.1 h1, RC.scalar hs.2 h2⟩
  | .arr n t, _, _, hs, ⟨h1, h2⟩ => ⟨h1, h2.imp (fun _ _ h => RC.scalar (t := t) hs h)⟩
theorem RowsV.scalar [Str] {w : World} {G G' : Nat → Prop} {t : Ty} (hs : t.scalar = true) : ∀ {hole : Option Nat} {ll : List (List t.den)} {vs : List Value}, RowsV w G t hole ll vs → RowsV w G' t hole ll vs := by
  have key : ∀ {l : List t.den} {v : Value} {b : Option Nat}, OwnV w G t l v b → OwnV w G' t l v b := fun {l v b} h3 => by
    cases b with
    | none => exact h3
    | some b =>
      obtain ⟨cap, c, e, es, sp, k1, k2, k3, k4, k5⟩ := h3
      exact ⟨cap, c, e, es, sp, k1, k2, k3, k4.imp (fun _ _ h => RC.scalar hs h), k5⟩
  intro hole ll
  induction ll generalizing hole with
  | nil => intro vs h; simpa [RowsV] using h
  | cons l ll ih =>
    intro vs h
    cases vs with
    | nil => simp [RowsV] at h
    | cons v vs =>
      cases hole with
      | none => simp only [RowsV] at h ⊢; exact ⟨key h.1, ih h.2⟩
      | some k =>
        cases k with
        | zero => simp only [RowsV] at h ⊢; exact ⟨h.1, ih h.2⟩
        | succ k => simp only [RowsV] at h ⊢; exact ⟨key h.1, ih h.2⟩
theorem RR.rowsScalar [Str] {w : World} {G G' : Nat → Prop} {u u' : Bool} {t : Ty} {x : List (List t.den)} {cs : List Value} {bs : List (Option Nat)} (hs : t.scalar = true) (h : RR u w G (.rows t) x cs bs) : RR u' w G' (.rows t) x cs bs := by
  obtain ⟨a, b, cap, c, e, vs, sp, h1, h2, h3, h4, h5, h6⟩ := h
  exact ⟨a, b, cap, c, e, vs, sp, h1, h2, h3, h4, RowsV.scalar hs h5, h6⟩
theorem RR.scalar [Str] {w : World} {G G' : Nat → Prop} : ∀ {u : Bool} {r : RT} {x : r.den} {cs : List Value} {bs : List (Option Nat)}, r.scalar = true → RR u w G r x cs bs → RR u w G' r x cs bs
  | _, .val _, _, _, _, hs, ⟨h1, h2, h3⟩ => ⟨h1, h2, fun hu => RC.scalar hs (h3 hu)⟩
  | _, .own _, _, _, _, hs, ⟨v, b, h1, h2, h3⟩ => ⟨v, b, h1, h2, by
    cases b with
    | none => exact h3
    | some b =>
      obtain ⟨cap, c, e, es, sp, k1, k2, k3, k4, k5⟩ := h3
      exact ⟨cap, c, e, es, sp, k1, k2, k3, k4.imp (fun _ _ h => RC.scalar hs h), k5⟩⟩
  | _, .box r, _, _, _, hs, ⟨b, bs', c, e, h1, h2, h3, h4⟩ => ⟨b, bs', c, e, h1, h2, h3, RR.scalar (r := r) hs h4⟩
  | _, .unit, _, _, _, _, h => h
  | _, .pair p q, _, _, _, hs, ⟨c1, c2, b1, b2, h1, h2, h3, h4⟩ => by
    simp only [RT.scalar, Bool.and_eq_true] at hs
    exact ⟨c1, c2, b1, b2, h1, h2, RR.scalar hs.1 h3, RR.scalar hs.2 h4⟩
  | _, .func f nf r, _, _, _, hs, ⟨a1, a2, h1, h2, h3⟩ => ⟨a1, a2, h1, h2, RR.scalar (r := r) hs h3⟩
  | true, .mv _, _, _, _, _, h => h
  | false, .mv t, _, _, _, hs, ⟨v, b, h1, h2, h3⟩ => ⟨v, b, h1, h2, by
    cases b with
    | none => exact h3
    | some b =>
      obtain ⟨cap, c, e, es, sp, k1, k2, k3, k4, k5⟩ := h3
      exact ⟨cap, c, e, es, sp, k1, k2, k3, k4.imp (fun _ _ h => RC.scalar hs h), k5⟩⟩
  | _, .nil, _, _, _, _, h => h
  | _, .pal _ _ _, _, _, _, _, h => h
  | _, .rows _, _, _, _, hs, h => RR.rowsScalar hs h
  | _, .ip _, _, _, _, hs, ⟨v, b, h1, h2, h3, h4⟩ => ⟨v, b, h1, h2, by
    obtain ⟨cap, c, e, es, sp, k1, k2, k3, k4, k5⟩ := h3
    exact ⟨cap, c, e, es, sp, k1, k2, k3, k4.imp (fun _ _ h => RC.scalar hs h), k5⟩, h4⟩
theorem RR.fixed [Str] {w : World} {G G' : Nat → Prop} : ∀ {r : RT} {x : r.den} {cs : List Value} {bs : List (Option Nat)}, fixScalar r = true → RR true w G r x cs bs → RR true w G' r x cs bs
  | .val _, _, _, _, _, ⟨h1, h2, _⟩ => ⟨h1, h2, fun h => by cases h⟩
  | .own t, _, _, _, hs, h => RR.scalar (r := .own t) hs h
  | .box r, _, _, _, hs, h => RR.scalar (r := .box r) hs h
  | .unit, _, _, _, _, h => h
  | .pair p q, _, _, _, hs, ⟨c1, c2, b1, b2, h1, h2, h3, h4⟩ => by
    simp only [fixScalar, Bool.and_eq_true] at hs
    exact ⟨c1, c2, b1, b2, h1, h2, RR.fixed hs.1 h3, RR.fixed hs.2 h4⟩
  | .func f nf r, _, _, _, hs, ⟨a1, a2, h1, h2, h3⟩ => ⟨a1, a2, h1, h2, RR.fixed (r := r) hs h3⟩
  | .mv _, _, _, _, _, h => h
  | .nil, _, _, _, _, h => h
  | .pal _ _ _, _, _, _, _, h => h
  | .rows _, _, _, _, hs, h => RR.rowsScalar hs h
  | .ip t, _, _, _, hs, h => RR.scalar (r := .ip t) hs h
theorem RRsA.scalar [Str] {w : World} {G G' : Nat → Prop} {u : Bool} {all : List Value} : ∀ {rs : List RT} {x : dens rs} {vs : List Value} {bs : List (Option Nat)}, rs.all RT.scalar = true → RRsA u w G all rs x vs bs → RRsA u w G' all rs x vs bs
  | [], _, _, _, _, h => h
  | r :: rs, _, _, _, hs, ⟨v, vs', b1, b2, h1, h2, h3, h4, h5⟩ => by
    simp only [List.all_cons, Bool.and_eq_true] at hs
    exact ⟨v, vs', b1, b2, h1, h2, h3, h4.scalar hs.1, h5.scalar hs.2⟩
theorem RRsA.fixed [Str] {w : World} {G G' : Nat → Prop} {all : List Value} : ∀ {rs : List RT} {x : dens rs} {vs : List Value} {bs : List (Option Nat)}, rs.all fixScalar = true → RRsA true w G all rs x vs bs → RRsA true w G' all rs x vs bs
  | [], _, _, _, _, h => h
  | r :: rs, _, _, _, hs, ⟨v, vs', b1, b2, h1, h2, h3, h4, h5⟩ => by
    simp only [List.all_cons, Bool.and_eq_true] at hs
    exact ⟨v, vs', b1, b2, h1, h2, h3, h4.fixed hs.1, h5.fixed hs.2⟩
theorem RRs.scalar [Str] {w : World} {G G' : Nat → Prop} {u : Bool} {rs : List RT} {x : dens rs} {vs : List Value} {bs : List (Option Nat)} (hs : rs.all RT.scalar = true) (h : RRs u w G rs x vs bs) : RRs u w G' rs x vs bs := RRsA.scalar hs h
theorem RRs.fixed [Str] {w : World} {G G' : Nat → Prop} {rs : List RT} {x : dens rs} {vs : List Value} {bs : List (Option Nat)} (hs : rs.all fixScalar = true) (h : RRs true w G rs x vs bs) : RRs true w G' rs x vs bs := RRsA.fixed hs h
/-! several values -/
noncomputable def topsL : List RT → List SV → List (Option Nat)
  | r :: rs, v :: vs => topsOf r v.leaves ++ topsL rs vs
  | _, _ => []
def TopL (O : Objs) : List RT → List SV → Prop
  | r :: rs, v :: vs => TopOK O r v.leaves ∧ clean v.leaves = true ∧ TopL O rs vs
  | [], [] => True
  | _, _ => False
structure DecsA (X : Cx) (fixed : Bool) (all : List Value) (rs : List RT) (l : List SV) (x : dens rs) (ns : Names) (vs : List Value) (bs : List (Option Nat)) : Prop where
  along : Along X ns.own bs
  own : ∀ n, some n ∈ ns.own → ∃ o, X.O n = some o ∧ o.frozen = false
  lent : ∀ n ∈ ns.lent, ∃ o, X.O n = some o
  top : fixed = true → TopL X.O rs l ∧ ns.own.Perm (topsL rs l ++ ns.inner)
  rr : ∀ Lt : Nat → Prop, (∀ n ∈ ns.lent, ∀ b, X.β n = some b → Lt b) → RRsA false X.w (fun b => X.G b ∨ Lt b) all rs x vs bs
abbrev Decs (X : Cx) (fixed : Bool) (rs : List RT) (l : List SV) (x : dens rs) (ns : Names) (vs : List Value) (bs : List (Option Nat)) : Prop := DecsA X fixed vs rs l x ns vs bs
theorem HVs.nth {X : Cx} : ∀ {l : List SV} {vs : List Value} (rest : List Value), HVs X l vs → ∀ t, HV X (nthS l t) ((vs ++ rest).getD t undef)
  | [], _, _, _, _ => trivial
  | s :: r, _, rest, ⟨v, l', e, h1, h2⟩, 0 => by subst e; exact h1
  | s :: r, _, rest, ⟨v, l', e, h1, h2⟩, t + 1 => by subst e; simpa [nthS] using h2.nth rest t
theorem HVs.nth' [Str] {X : Cx} {l : List SV} {vs : List Value} (h : HVs X l vs) (t : Nat) : HV X (nthS l t) (vs.getD t undef) := by
  have := h.nth [] t
  rwa [List.append_nil] at this
/-- is what is no aggregate one cell? -/
theorem cells_one [Str] {X : Cx} {s : SV} {v : Value} (hv : HV X s v) (hc : clean s.leaves = true) (ha : isAggS s = false) : v.cells = #[v] := by
  have hlv := hv.leaves hc
  cases s with
  | agg fs => cases ha
  | undef => simp [SV.leaves, clean] at hc
  | tup _ => simp [SV.leaves, clean] at hc
  | arr _ _ _ => exact hv.elim
  | _ =>
    have hone := hlv.one
    have hlen := hlv.len
    simp only [SV.leaves, widths, SV.width] at hlen
    cases v <;> first | rfl | skip
    all_goals
      rename_i cs
      exfalso
      obtain ⟨u, e1, e2, e3⟩ := hlv.single (by simp)
      first
        | (simp only [HV] at hv; first | (cases hv; done) | (obtain ⟨hq, _⟩ := hv; cases hq; done) | (obtain ⟨_, _, hq, _⟩ := hv; cases hq; done) | (obtain ⟨_, _, _, _, hq, _⟩ := hv; cases hq; done) | (simp [RC] at hv; done))
theorem of_sameP [Str] {X : Cx} {x y : SV} {v u : Value} (hx : HV X x v) (hy : HV X y u) {res : R} {K : Unit → Objs → Option R} (h : (sameP x y).run X.O K = some res) : K () X.O = some res ∧ v = u := by
  unfold sameP at h
  split at h
  · rename_i n g n' g'
    rw [run_bind, run_get] at h
    split at h
    · rename_i g2 fr cs ho
      obtain ⟨h1, h2⟩ := of_sure h
      rw [Bool.and_eq_true, Bool.and_eq_true] at h1
      have e1 := Nat.eq_of_beq_eq_true h1.1
      have e2 := Nat.eq_of_beq_eq_true h1.2.1
      have e3 := Nat.eq_of_beq_eq_true h1.2.2
      subst e1 e2 e3
      obtain ⟨_, o, o1, _, o2⟩ := hx
      obtain ⟨_, p, p1, _, p2⟩ := hy
      rw [ho] at o1 p1
      cases o1; cases p1
      obtain ⟨b, b1, b2⟩ := o2 rfl
      obtain ⟨c, c1, c2⟩ := p2 rfl
      rw [b1] at c1; cases c1
      exact ⟨h2, b2.trans c2.symm⟩
    · simp [run_fail'] at h
  · cases h
theorem of_palP [Str] {X : Cx} {f : FuncId} {first : Bool} {s x : SV} {v u : Value} (hs : HV X s v) (hx : HV X x u) {res : R} {K : Unit → Objs → Option R} (h : (palP f first s x).run X.O K = some res) :
    K () X.O = some res ∧ (∃ fs cs, s = .func f fs cs) ∧ v = (match first with | true => .func (.func f) #[u] #[] | false => .func (.func f) #[] #[u]) := by
  unfold palP at h
  split at h
  · rename_i f' y
    rw [run_bind] at h
    obtain ⟨h1, h2⟩ := of_sure h
    have := Nat.eq_of_beq_eq_true h1
    subst this
    obtain ⟨a1, a2, hval, ⟨w, l', e, v1, v1'⟩, v2⟩ := hs
    cases v1'
    obtain ⟨k1, k2⟩ := of_sameP v1 hx h2
    refine ⟨k1, ⟨_, _, rfl⟩, ?_⟩
    rw [hval]
    have e1 : a1 = #[w] := by apply Array.ext'; rw [e]
    have e2 : a2 = #[] := by apply Array.ext'; exact v2
    rw [e1, e2, k2]
  · rename_i f' y
    rw [run_bind] at h
    obtain ⟨h1, h2⟩ := of_sure h
    have := Nat.eq_of_beq_eq_true h1
    subst this
    obtain ⟨a1, a2, hval, v2, ⟨w, l', e, v1, v1'⟩⟩ := hs
    cases v1'
    obtain ⟨k1, k2⟩ := of_sameP v1 hx h2
    refine ⟨k1, ⟨_, _, rfl⟩, ?_⟩
    rw [hval]
    have e1 : a2 = #[w] := by apply Array.ext'; rw [e]
    have e2 : a1 = #[] := by apply Array.ext'; exact v2
    rw [e1, e2, k2]
  · cases h
structure Dec1 (X : Cx) (fixed : Bool) (all : List Value) (r : RT) (s : SV) (x : r.den) (ns : Names) (v : Value) (bs : List (Option Nat)) : Prop where
  along : Along X ns.own bs
  own : ∀ n, some n ∈ ns.own → ∃ o, X.O n = some o ∧ o.frozen = false
  lent : ∀ n ∈ ns.lent, ∃ o, X.O n = some o
  top : fixed = true → (TopOK X.O r s.leaves ∧ clean s.leaves = true) ∧ ns.own.Perm (topsOf r s.leaves ++ ns.inner)
  vv : VV r v ∧ RR1 all r v
  rr : ∀ Lt : Nat → Prop, (∀ n ∈ ns.lent, ∀ b, X.β n = some b → Lt b) → RR false X.w (fun b => X.G b ∨ Lt b) r x v.cells.toList bs
theorem RR1.other {all : List Value} {r : RT} {v : Value} (h : ∀ f b i, r ≠ .pal f b i) : RR1 all r v := by
  cases r with
  | pal f b i => exact absurd rfl (h f b i)
  | _ => trivial
theorem of_decOne [Str] {X : Cx} (hg : Good B X) {res : R} {fixed : Bool} (r : RT) {all : List SV} {alls : List Value} (hall : HVs X all alls) {s : SV} {v : Value} {K : r.den × Names → Objs → Option R} (hv : HV X s v) (h : (decOne fixed all r s).run X.O K = some res) :
    ∃ x ns bs, K (x, ns) X.O = some res ∧ Dec1 X fixed alls r s x ns v bs := by
  have key : (∀ f b i, r ≠ .pal f b i) → (do
      sure (clean s.leaves && (isAggS s == r.agg))
      let p ← dec fixed r s.leaves
      sure (isNil p.2.1)
      pure (p.1, p.2.2) : Prog (r.den × Names)).run X.O K = some res → ∃ x ns bs, K (x, ns) X.O = some res ∧ Dec1 X fixed alls r s x ns v bs := fun hne h => by
    rw [run_bind] at h
    obtain ⟨c1, h2⟩ := of_sure h
    rw [Bool.and_eq_true] at c1
    have hlv := hv.leaves c1.1
    rw [run_bind] at h2
    obtain ⟨x, ns, c, d, bs, k1, k2, k3, k4⟩ := of_dec hg r hlv h2
    rw [run_bind] at k1
    obtain ⟨k5, k6⟩ := of_sure k1
    have hz := isNil_eq k5
    dsimp only at hz
    rw [hz] at k3
    have hd := k3.nil_eq
    subst hd
    rw [List.append_nil] at k2
    refine ⟨x, ns, bs, k6, ⟨k4.along, k4.own, k4.lent, fun hf => ⟨⟨(k4.top hf).1, c1.1⟩, (k4.top hf).2⟩, ⟨?_, RR1.other hne⟩, fun Lt hL => by rw [k2]; exact k4.rr Lt hL⟩⟩
    have hag : isAggS s = r.agg := by simpa using c1.2
    unfold VV
    rw [← hag]
    cases ha : isAggS s with
    | true =>
      cases s <;> first | (cases ha; done) | skip
      obtain ⟨cs, rfl, _⟩ := hv
      exact ⟨cs, rfl⟩
    | false => exact cells_one hv c1.1 ha
  cases r with
  | pal f b i =>
    have h : (palP f b s (nthS all i)).run X.O (fun _ O' => K ((), .none) O') = some res := (run_bind _ _ _ _).symm.trans h
    obtain ⟨k1, ⟨fs, cs, k2⟩, k3⟩ := of_palP hv (hall.nth' i) h
    subst k2
    refine ⟨(), .none, [], k1, ⟨rfl, (fun n hn => by cases hn), (fun n hn => by cases hn), fun _ => ⟨⟨trivial, rfl⟩, .refl _⟩, ⟨?_, ?_⟩, fun _ _ => ?_⟩⟩
    · subst k3; cases b <;> rfl
    · subst k3; cases b <;> rfl
    · subst k3; cases b <;> exact ⟨rfl, rfl⟩
  | _ => exact key (fun f b i e => by cases e) h
theorem of_decsA [Str] {X : Cx} (hg : Good B X) {res : R} {fixed : Bool} {all : List SV} {alls : List Value} (hall : HVs X all alls) : ∀ (rs : List RT) {l : List SV} {vs : List Value} {K : dens rs × Names → Objs → Option R}, HVs X l vs → (decsA fixed all rs l).run X.O K = some res →
    ∃ x ns bs, K (x, ns) X.O = some res ∧ DecsA X fixed alls rs l x ns vs bs
  | [], l, vs, K, hl, h => by
    cases l with
    | nil => cases hl; exact ⟨(), .none, [], h, ⟨rfl, (fun n hn => by cases hn), (fun n hn => by cases hn), fun _ => ⟨trivial, .refl _⟩, fun _ _ => ⟨rfl, rfl⟩⟩⟩
    | cons s r => cases h
  | r :: rs, l, vs, K, hl, h => by
    cases l with
    | nil => cases h
    | cons s rest =>
      obtain ⟨v, vs', rfl, hv, hvs⟩ := hl
      have h1 : (decOne fixed all r s).run X.O (fun p O' => (decsA fixed all rs rest).run O' fun q O4 => K ((p.1, q.1), p.2.add q.2) O4) = some res := by
        have e : (decsA fixed all (r :: rs) (s :: rest)).run X.O K = (decOne fixed all r s).run X.O (fun p O' => (decsA fixed all rs rest).run O' fun q O4 => K ((p.1, q.1), p.2.add q.2) O4) := by
          have e0 : decsA fixed all (r :: rs) (s :: rest) = (decOne fixed all r s >>= fun p => decsA fixed all rs rest >>= fun q => (pure ((p.1, q.1), p.2.add q.2) : Prog ((r.den × dens rs) × Names))) := rfl
          rw [e0]
          refine (run_bind _ _ _ _).trans ?_
          congr 1; funext p O'
          exact run_bind _ _ _ _
        rw [← e]; exact h
      obtain ⟨x, ns, bs, k6, k4⟩ := of_decOne hg r hall hv h1
      obtain ⟨y, ms, bs', q1, q2⟩ := of_decsA hg hall rs hvs k6
      refine ⟨(x, y), ns.add ms, bs ++ bs', q1, ⟨k4.along.append q2.along, fun n hn => ?_, fun n hn => ?_, fun hf => ?_, fun Lt hL => ⟨v, vs', bs, bs', rfl, rfl, k4.vv, k4.rr Lt fun n hn => hL n (List.mem_append_left _ hn), q2.rr Lt fun n hn => hL n (List.mem_append_right _ hn)⟩⟩⟩
      · rcases List.mem_append.1 hn with hn | hn
        · exact k4.own n hn
        · exact q2.own n hn
      · rcases List.mem_append.1 hn with hn | hn
        · exact k4.lent n hn
        · exact q2.lent n hn
      · obtain ⟨t1, t2⟩ := k4.top hf
        obtain ⟨u1, u2⟩ := q2.top hf
        refine ⟨⟨t1.1, t1.2, u1⟩, ?_⟩
        refine (t2.append u2).trans ?_
        simp only [topsL, Names.add, List.append_assoc]
        refine List.Perm.append_left _ ?_
        rw [← List.append_assoc, ← List.append_assoc]
        exact List.Perm.append_right _ List.perm_append_comm
theorem of_decs [Str] {X : Cx} (hg : Good B X) {res : R} {fixed : Bool} (rs : List RT) {l : List SV} {vs : List Value} {K : dens rs × Names → Objs → Option R} (hl : HVs X l vs) (h : (decs fixed rs l).run X.O K = some res) :
    ∃ x ns bs, K (x, ns) X.O = some res ∧ Decs X fixed rs l x ns vs bs := of_decsA hg hl rs hl h
/-- at a function's end -/
structure End1 (X : Cx) (all : List Value) (r : RT) (x : r.den) (ns : Names) (v : Value) (bs : List (Option Nat)) : Prop where
  along : Along X ns.own bs
  own : ∀ n, some n ∈ ns.own → ∃ o, X.O n = some o ∧ o.frozen = false
  lent : ∀ n ∈ ns.lent, ∃ o, X.O n = some o
  vv : VV r v ∧ RR1 all r v
  rr : ∀ Lt : Nat → Prop, (∀ n ∈ ns.lent, ∀ b, X.β n = some b → Lt b) → (∀ t, r = .mv t → v.cells = #[v] ∧ bs = []) ∧ ((∀ t, r ≠ .mv t) → RR false X.w (fun b => X.G b ∨ Lt b) r x v.cells.toList bs)
theorem VV.mv {t : Ty} {v : Value} (h : v.cells = #[v]) : VV (.mv t) v := h
/-- what has become of the arguments -/
def RRsE (w : World) (G : Nat → Prop) (all : List Value) : (rs : List RT) → dens rs → List Value → List (Option Nat) → Prop
  | [], _, vs, bs => vs = [] ∧ bs = []
  | r :: rs, p, vs, bs => ∃ v vs' b1 b2, vs = v :: vs' ∧ bs = b1 ++ b2 ∧ (VV r v ∧ RR1 all r v) ∧ ((∃ t, r = .mv t) ∧ b1 = [] ∨ RR false w G r p.1 v.cells.toList b1) ∧ RRsE w G all rs p.2 vs' b2
structure Ends (X : Cx) (all : List Value) (rs : List RT) (x : dens rs) (ns : Names) (vs : List Value) (bs : List (Option Nat)) : Prop where
  along : Along X ns.own bs
  own : ∀ n, some n ∈ ns.own → ∃ o, X.O n = some o ∧ o.frozen = false
  lent : ∀ n ∈ ns.lent, ∃ o, X.O n = some o
  rr : ∀ Lt : Nat → Prop, (∀ n ∈ ns.lent, ∀ b, X.β n = some b → Lt b) → RRsE X.w (fun b => X.G b ∨ Lt b) all rs x vs bs
theorem of_decsE [Str] {X : Cx} (hg : Good B X) {res : R} {all : List SV} {alls : List Value} (hall : HVs X all alls) : ∀ (rs : List RT) {l : List SV} {vs : List Value} {K : dens rs × Names → Objs → Option R}, HVs X l vs → (decsE all rs l).run X.O K = some res →
    ∃ x ns bs, K (x, ns) X.O = some res ∧ Ends X alls rs x ns vs bs
  | [], l, vs, K, hl, h => by
    cases l with
    | nil => cases hl; exact ⟨(), .none, [], h, ⟨rfl, (fun n hn => by cases hn), (fun n hn => by cases hn), fun _ _ => ⟨rfl, rfl⟩⟩⟩
    | cons s r => cases h
  | r :: rs, l, vs, K, hl, h => by
    cases l with
    | nil => cases h
    | cons s rest =>
      obtain ⟨v, vs', rfl, hv, hvs⟩ := hl
      have h1 : (decEnd all r s).run X.O (fun p O' => (decsE all rs rest).run O' fun q O4 => K ((p.1, q.1), p.2.add q.2) O4) = some res := by
        have e : (decsE all (r :: rs) (s :: rest)).run X.O K = (decEnd all r s).run X.O (fun p O' => (decsE all rs rest).run O' fun q O4 => K ((p.1, q.1), p.2.add q.2) O4) := by
          have e0 : decsE all (r :: rs) (s :: rest) = (decEnd all r s >>= fun p => decsE all rs rest >>= fun q => (pure ((p.1, q.1), p.2.add q.2) : Prog ((r.den × dens rs) × Names))) := rfl
          rw [e0]
          refine (run_bind _ _ _ _).trans ?_
          congr 1; funext p O'
          exact run_bind _ _ _ _
        rw [← e]; exact h
      have hother : (decOne true all r s).run X.O (fun p O' => (decsE all rs rest).run O' fun q O4 => K ((p.1, q.1), p.2.add q.2) O4) = some res → ∃ x ns bs, K (x, ns) X.O = some res ∧ Ends X alls (r :: rs) x ns (v :: vs') bs := fun h1 => by
        obtain ⟨x, ns, bs, k6, k4⟩ := of_decOne hg r hall hv h1
        obtain ⟨y, ms, bs', q1, q2⟩ := of_decsE hg hall rs hvs k6
        refine ⟨(x, y), ns.add ms, bs ++ bs', q1, ⟨k4.along.append q2.along, fun n hn => ?_, fun n hn => ?_, fun Lt hL => ⟨v, vs', bs, bs', rfl, rfl, k4.vv, .inr (k4.rr Lt fun n hn => hL n (List.mem_append_left _ hn)), q2.rr Lt fun n hn => hL n (List.mem_append_right _ hn)⟩⟩⟩
        · rcases List.mem_append.1 hn with hn | hn
          · exact k4.own n hn
          · exact q2.own n hn
        · rcases List.mem_append.1 hn with hn | hn
          · exact k4.lent n hn
          · exact q2.lent n hn
      unfold decEnd at h1
      split at h1
      · rename_i t n g w
        obtain ⟨y, ms, bs', q1, q2⟩ := of_decsE hg hall rs hvs h1
        have hc := cells_one hv rfl rfl
        exact ⟨([], y), _, bs', q1, ⟨by simpa [Names.add, Names.none] using q2.along, fun n hn => q2.own n (by simpa [Names.add, Names.none] using hn), fun n hn => q2.lent n (by simpa [Names.add, Names.none] using hn), fun Lt hL => ⟨v, vs', [], bs', rfl, rfl, ⟨hc, trivial⟩, .inl ⟨⟨t, rfl⟩, rfl⟩, q2.rr Lt fun n hn => hL n (by simpa [Names.add, Names.none] using hn)⟩⟩⟩
      · exact hother h1
theorem HV.ofLeaves [Str] {X : Cx} {r : RT} {l : List SV} {v : Value} (hv : VV r v) (h : HLs X l v.cells.toList) : HV X (ofLeaves r.agg l) v := by
  unfold VV at hv
  unfold Ev.ofLeaves
  cases ha : r.agg with
  | true => rw [ha] at hv; obtain ⟨c, rfl⟩ := hv; exact ⟨c, rfl, h⟩
  | false =>
    rw [ha] at hv
    have hv : v.cells = #[v] := hv
    cases l with
    | nil => trivial
    | cons s rest =>
      cases s with
      | arr _ _ _ => trivial
      | _ =>
        obtain ⟨u, d, e, _, hu, _⟩ := h.uncons1 (by simp)
        rw [hv] at e
        simp only [List.singleton_append] at e
        cases e
        exact hu
theorem nthS_none : ∀ {l : List SV} {i : Nat}, l.length ≤ i → nthS l i = .undef
  | [], _, _ => rfl
  | _ :: r, 0, h => by simp at h
  | _ :: r, i + 1, h => nthS_none (l := r) (by simpa using h)
theorem of_encOne [Str] {N : Nat → Prop} {res : R} (r : RT) {x : r.den} {nm : Nat} {X : Cx} {acc : List SV} {accs : List Value} (hacc : HVs X acc accs) {all : List Value} (hall : ∀ i, i < accs.length → all.getD i undef = accs.getD i undef) {v : Value} {bs : List (Option Nat)} {K : SV × Nat → Objs → Option R} (hg : GoodX N B X) (hvv : VV r v ∧ RR1 all r v) (hr : RR false X.w X.G r x v.cells.toList bs) (hf : Free N B X bs)
    (h : (encOne acc r x nm).run X.O K = some res) : ∃ s X' nm', K (s, nm') X'.O = some res ∧ GoodX N B X' ∧ Laid X X' bs ∧ HV X' s v := by
  have key : (do let l ← enc r x nm; pure (ofLeaves r.agg l.1, l.2) : Prog (SV × Nat)).run X.O K = some res → ∃ s X' nm', K (s, nm') X'.O = some res ∧ GoodX N B X' ∧ Laid X X' bs ∧ HV X' s v := fun h => by
    rw [run_bind] at h
    obtain ⟨l1, X1, nm1, k1, k2, k3, k4, _⟩ := of_enc r hg hr hf h
    exact ⟨_, X1, nm1, k1, k2, k3, HV.ofLeaves hvv.1 k4⟩
  cases r with
  | pal f b i =>
    obtain ⟨h1, h2⟩ := hr
    subst h2
    have hn : HV X (nthS acc i) (all.getD i undef) := by
      by_cases hi : i < accs.length
      · rw [hall i hi]; exact hacc.nth' i
      · have e : nthS acc i = .undef := nthS_none (by have := hacc.len; omega)
        rw [e]; trivial
    cases b with
    | true =>
      refine ⟨.func f [nthS acc i] [], X, _, h, hg, .refl X _, _, _, hvv.2, ⟨_, _, rfl, hn, rfl⟩, rfl⟩
    | false =>
      refine ⟨.func f [] [nthS acc i], X, _, h, hg, .refl X _, _, _, hvv.2, rfl, ⟨_, _, rfl, hn, rfl⟩⟩
  | _ => exact key h
theorem HVs.append1 [Str] {X : Cx} : ∀ {a : List SV} {c : List Value} {s : SV} {v : Value}, HVs X a c → HV X s v → HVs X (a ++ [s]) (c ++ [v]) := fun h h' => h.append ⟨_, _, rfl, h', rfl⟩
theorem of_encsA [Str] {N : Nat → Prop} {res : R} {all : List Value} : ∀ (rs : List RT) {x : dens rs} {nm : Nat} {X : Cx} {acc : List SV} {accs vs : List Value} {bs : List (Option Nat)} {K : List SV × Nat → Objs → Option R}, HVs X acc accs → all = accs ++ vs → GoodX N B X → RRsA false X.w X.G all rs x vs bs → Free N B X bs →
    (encsA acc rs x nm).run X.O K = some res → ∃ l X' nm', K (l, nm') X'.O = some res ∧ GoodX N B X' ∧ Laid X X' bs ∧ HVs X' l vs
  | [], x, nm, X, acc, accs, vs, bs, K, _, _, hg, ⟨h1, h2⟩, _, h => by
    subst h1 h2
    exact ⟨[], X, _, h, hg, .refl X _, rfl⟩
  | r :: rs, x, nm, X, acc, accs, vs, bs, K, hacc, hall, hg, ⟨v, vs', b1, b2, h1, h2, h3, h4, h5⟩, hfree, h => by
    subst h1 h2
    simp only [encsA, run_bind] at h
    obtain ⟨s, X1, nm1, k1, k2, k3, k4⟩ := of_encOne r hacc (all := all) (fun i hi => by rw [hall, List.getD_eq_getElem?_getD, List.getD_eq_getElem?_getD, List.getElem?_append_left hi]) hg h3 h4 hfree.left h
    have h5' : RRsA false X1.w X1.G all rs x.2 vs' b2 := by rw [k3.w, k3.G]; exact h5
    obtain ⟨l2, X2, nm2, q1, q2, q3, q4⟩ := of_encsA rs ((hacc.ext k3.ext).append1 k4) (by rw [hall]; simp) k2 h5' (hfree.behind k3) k1
    exact ⟨s :: l2, X2, nm2, q1, q2, k3.trans q3, v, vs', rfl, k4.ext q3.ext, q4⟩
theorem of_encs [Str] {N : Nat → Prop} {res : R} (rs : List RT) {x : dens rs} {nm : Nat} {X : Cx} {vs : List Value} {bs : List (Option Nat)} {K : List SV × Nat → Objs → Option R} (hg : GoodX N B X) (hr : RRs false X.w X.G rs x vs bs) (hf : Free N B X bs)
    (h : (encs rs x nm).run X.O K = some res) : ∃ l X' nm', K (l, nm') X'.O = some res ∧ GoodX N B X' ∧ Laid X X' bs ∧ HVs X' l vs := of_encsA rs (acc := []) (accs := []) (by simp only [HVs]) rfl hg hr hf h
end Go.Ev
namespace Go.Ev
open Go.RowKit
variable {R : Type} {B : Base}
theorem of_kills [Str] {res : R} : ∀ (ns : List (Option Nat)) {X : Cx} {K : Unit → Objs → Option R}, Good B X → (kills ns).run X.O K = some res →
    ∃ X', K () X'.O = some res ∧ Good B X' ∧ Ext X X' ∧ X'.w = X.w ∧ X'.G = X.G ∧ (∀ m, some m ∉ ns → X'.O m = X.O m ∧ X'.β m = X.β m) ∧ (∀ m o, some m ∈ ns → X.O m = some o → X'.β m = none)
  | [], X, K, hg, h => ⟨X, h, hg, .refl X, rfl, rfl, fun _ _ => ⟨rfl, rfl⟩, fun _ _ hm => by cases hm⟩
  | none :: ns, X, K, hg, h => by
    obtain ⟨X', h1, h2, h3, h4, h5, h6, h7⟩ := of_kills ns hg h
    exact ⟨X', h1, h2, h3, h4, h5, fun m hm => h6 m (fun hm' => hm (List.mem_cons_of_mem _ hm')), fun m o hm => h7 m o (by simpa using hm)⟩
  | some n :: ns, X, K, hg, h => by
    simp only [kills, run_bind, kill, run_get] at h
    cases ho : X.O n with
    | none =>
      rw [ho] at h
      obtain ⟨X', h1, h2, h3, h4, h5, h6, h7⟩ := of_kills ns hg h
      refine ⟨X', h1, h2, h3, h4, h5, fun m hm => h6 m (fun hm' => hm (List.mem_cons_of_mem _ hm')), fun m o hm hmo => ?_⟩
      rcases List.mem_cons.1 hm with hm | hm
      · cases hm; rw [ho] at hmo; cases hmo
      · exact h7 m o hm hmo
    | some o =>
      rw [ho] at h
      obtain ⟨k1, k2⟩ := hg.kill n o ho
      obtain ⟨X', h1, h2, h3, h4, h5, h6, h7⟩ := of_kills ns (X := ⟨X.w, X.G, setB X.β n none, X.O.set n ⟨Nat.succ o.gen, true, .row .unit []⟩⟩) k1 h
      refine ⟨X', h1, h2, k2.trans h3, h4, h5, fun m hm => ?_, fun m p hm hmo => ?_⟩
      · have hne : m ≠ n := fun e => hm (by rw [e]; simp)
        obtain ⟨q1, q2⟩ := h6 m (fun hm' => hm (List.mem_cons_of_mem _ hm'))
        exact ⟨q1.trans (set_ne _ _ hne), q2.trans (setB_ne _ _ hne)⟩
      · by_cases hmn : some m ∈ ns
        · by_cases he : m = n
          · exact h7 m _ hmn (by rw [he]; exact set_same _ _ _)
          · exact h7 m p hmn (by simp only [set_ne _ _ he]; exact hmo)
        · rcases List.mem_cons.1 hm with hm | hm
          · simp only [Option.some.injEq] at hm
            subst hm
            rw [(h6 _ hmn).2]
            exact setB_same _ _ _
          · exact absurd hm hmn
theorem of_freezes [Str] {res : R} : ∀ (ns : List Nat) {X : Cx} {K : Unit → Objs → Option R}, Good B X → (freezes ns).run X.O K = some res →
    ∃ X', K () X'.O = some res ∧ Good B X' ∧ Ext X X' ∧ X'.w = X.w ∧ X'.β = X.β ∧ (∀ b, X'.G b ↔ X.G b ∨ ∃ n ∈ ns, ∃ o, X.O n = some o ∧ X.β n = some b) ∧ (∀ m, m ∉ ns → X'.O m = X.O m) ∧ (∀ m o, m ∈ ns → X'.O m = some o → o.frozen = true)
  | [], X, K, hg, h => ⟨X, h, hg, .refl X, rfl, rfl, fun b => ⟨fun h => .inl h, fun h => by rcases h with h | ⟨n, hn, _⟩; exact h; cases hn⟩, fun _ _ => rfl, fun _ _ h => by cases h⟩
  | n :: ns, X, K, hg, h => by
    simp only [freezes, run_bind, freeze, run_get] at h
    cases ho : X.O n with
    | none =>
      rw [ho] at h
      obtain ⟨X', h1, h2, h3, h4, h5, h6, h7, h70⟩ := of_freezes ns hg h
      refine ⟨X', h1, h2, h3, h4, h5, fun b => (h6 b).trans ?_, fun m hm => h7 m (fun hm' => hm (List.mem_cons_of_mem _ hm')), fun m p hm hmp => ?_⟩
      rotate_left
      · by_cases hmn : m ∈ ns
        · exact h70 m p hmn hmp
        · rcases List.mem_cons.1 hm with rfl | hm
          · rw [h7 _ hmn, ho] at hmp; cases hmp
          · exact absurd hm hmn
      constructor
      · rintro (h | ⟨k, hk, o, h8, h9⟩)
        · exact .inl h
        · exact .inr ⟨k, List.mem_cons_of_mem _ hk, o, h8, h9⟩
      · rintro (h | ⟨k, hk, o, h8, h9⟩)
        · exact .inl h
        · rcases List.mem_cons.1 hk with rfl | hk
          · rw [ho] at h8; cases h8
          · exact .inr ⟨k, hk, o, h8, h9⟩
    | some o =>
      rw [ho] at h
      rw [run_bind] at h
      obtain ⟨hr, h⟩ := of_sure h
      have hr : o.body.isRows = false := by simpa using hr
      obtain ⟨k1, k2⟩ := hg.freeze n o ho hr
      obtain ⟨X', h1, h2, h3, h4, h5, h6, h7, h70⟩ := of_freezes ns (X := ⟨X.w, fun b => X.G b ∨ X.β n = some b, X.β, X.O.set n ⟨o.gen, true, o.body⟩⟩) k1 h
      refine ⟨X', h1, h2, k2.trans h3, h4, h5, fun b => (h6 b).trans ?_, fun m hm => ?_, fun m p hm hmp => ?_⟩
      rotate_right
      · by_cases hmn : m ∈ ns
        · exact h70 m p hmn hmp
        · rcases List.mem_cons.1 hm with rfl | hm
          · rw [h7 _ hmn] at hmp
            have hmp : X.O.set m ⟨o.gen, true, o.body⟩ m = some p := hmp
            rw [set_same] at hmp; cases hmp; rfl
          · exact absurd hm hmn
      · constructor
        · rintro ((h | h) | ⟨k, hk, p, h8, h9⟩)
          · exact .inl h
          · exact .inr ⟨n, by simp, o, ho, h⟩
          · refine .inr ⟨k, List.mem_cons_of_mem _ hk, ?_⟩
            by_cases hkn : k = n
            · subst hkn; exact ⟨o, ho, h9⟩
            · simp only [set_ne _ _ hkn] at h8; exact ⟨p, h8, h9⟩
        · rintro (h | ⟨k, hk, p, h8, h9⟩)
          · exact .inl (.inl h)
          · rcases List.mem_cons.1 hk with rfl | hk
            · exact .inl (.inr h9)
            · refine .inr ⟨k, hk, ?_⟩
              by_cases hkn : k = n
              · subst hkn; exact ⟨_, set_same _ _ _, h9⟩
              · exact ⟨p, by simp only [set_ne _ _ hkn]; exact h8, h9⟩
      · have hne : m ≠ n := fun e => hm (by rw [e]; simp)
        exact (h7 m (fun hm' => hm (List.mem_cons_of_mem _ hm'))).trans (set_ne _ _ hne)
/-- a suspended object is told anew -/
theorem GoodX.revive [Str] {N : Nat → Prop} {X : Cx} (h : GoodX N B X) (n : Nat) (o : Obj) (ho : X.O n = some o) (bd : Body) (hl : like o.body bd)
    (hb : ∀ b, X.β n = some b → ¬ X.G b ∧ (B.Im b ∨ B.w0.heap.size ≤ b) ∧ b < X.w.heap.size ∧ ∀ m p, ¬ N m → X.O m = some p → p.frozen = false → X.β m ≠ some b)
    (hbp : ∀ b, X.β n = some b → ∀ m, ¬ N m → some b ∉ X.parts m)
    (hobj : Ext X ⟨X.w, X.G, X.β, X.O.set n ⟨o.gen, false, bd⟩⟩ → ObjH ⟨X.w, X.G, X.β, X.O.set n ⟨o.gen, false, bd⟩⟩ n ⟨o.gen, false, bd⟩) (hr : bd.isRows = false := by rfl) :
    GoodX (fun m => N m ∧ m ≠ n) B ⟨X.w, X.G, X.β, X.O.set n ⟨o.gen, false, bd⟩⟩ ∧ Ext X ⟨X.w, X.G, X.β, X.O.set n ⟨o.gen, false, bd⟩⟩ := by
  have hE : Ext X ⟨X.w, X.G, X.β, X.O.set n ⟨o.gen, false, bd⟩⟩ := by
    refine ⟨fun _ hb => hb, fun _ _ => rfl, fun m p hm => ?_⟩
    by_cases hmn : m = n
    · subst hmn
      rw [ho] at hm; cases hm
      exact ⟨_, set_same _ _ _, Nat.le_refl _, fun _ => ⟨rfl, hl, fun _ _ _ b c e _ hc => ⟨c, e, hc, rfl⟩⟩⟩
    · exact ⟨p, by simp only [set_ne _ _ hmn]; exact hm, Nat.le_refl _, fun _ => ⟨rfl, by cases p.body <;> simp [like], fun _ _ _ b c e _ hc => ⟨c, e, hc, rfl⟩⟩⟩
  have hN : ∀ m, ¬ (N m ∧ m ≠ n) → m ≠ n → ¬ N m := fun m h1 h2 h3 => h1 ⟨h3, h2⟩
  refine ⟨⟨h.os, h.tape, h.output, h.size, h.old, h.g0, h.glt, h.gfrom, ?_, ?_, ?_, ?_, ?_, ?_⟩, hE⟩
  · intro m p b hm0 hm hp hbm
    by_cases hmn : m = n
    · subst hmn; exact ⟨(hb b hbm).1, (hb b hbm).2.1⟩
    · simp only [set_ne _ _ hmn] at hm
      exact h.ownx m p b (hN m hm0 hmn) hm hp hbm
  · intro m k p q b hm0 hk0 hm hk hp hq hbm hbk
    by_cases hmn : m = n
    · by_cases hkn : k = n
      · rw [hmn, hkn]
      · subst hmn
        simp only [set_ne _ _ hkn] at hk
        exact absurd hbk ((hb b hbm).2.2.2 k q (hN k hk0 hkn) hk hq)
    · simp only [set_ne _ _ hmn] at hm
      by_cases hkn : k = n
      · subst hkn
        exact absurd hbm ((hb b hbk).2.2.2 m p (hN m hm0 hmn) hm hp)
      · simp only [set_ne _ _ hkn] at hk
        exact h.injx m k p q b (hN m hm0 hmn) (hN k hk0 hkn) hm hk hp hq hbm hbk
  · intro m p b hm0 hm hp hbm
    by_cases hmn : m = n
    · subst hmn
      simp only [set_same] at hm
      cases hm; cases hp
    · simp only [set_ne _ _ hmn] at hm
      exact h.frzx m p b (hN m hm0 hmn) hm hp hbm
  · intro m p b hm0 hm hbm
    by_cases hmn : m = n
    · subst hmn; exact (hb b hbm).2.2.1
    · simp only [set_ne _ _ hmn] at hm
      exact h.ltx m p b (hN m hm0 hmn) hm hbm
  · intro m p hm0 hm
    by_cases hmn : m = n
    · subst hmn
      simp only [set_same] at hm
      cases hm
      exact hobj hE
    · simp only [set_ne _ _ hmn] at hm
      exact (h.objx m p (hN m hm0 hmn) hm).ext hE hm rfl (fun _ _ => rfl) (fun _ _ => rfl)
  · have hpn : Cx.parts ⟨X.w, X.G, X.β, X.O.set n ⟨o.gen, false, bd⟩⟩ n = [] := parts_of (o := ⟨o.gen, false, bd⟩) (set_same _ _ _) hr
    have hpe : ∀ m, m ≠ n → Cx.parts ⟨X.w, X.G, X.β, X.O.set n ⟨o.gen, false, bd⟩⟩ m = X.parts m := fun m hmn => parts_eq (set_ne _ _ hmn) rfl (fun _ _ _ _ _ => rfl)
    intro m b hm0 hm
    by_cases hmn : m = n
    · subst hmn; rw [hpn] at hm; cases hm
    · rw [hpe m hmn] at hm
      obtain ⟨h1, h2, h3, h4, h5⟩ := h.partx m b (hN m hm0 hmn) hm
      refine ⟨h1, h2, h3, fun k p hk0 hk hf => ?_, fun k hk0 hk => ?_⟩
      · by_cases hkn : k = n
        · subst hkn
          intro hbb
          exact hbp b hbb m (hN m hm0 hmn) hm
        · simp only [set_ne _ _ hkn] at hk
          exact h4 k p (hN k hk0 hkn) hk hf
      · by_cases hkn : k = n
        · subst hkn; rw [hpn] at hk; cases hk
        · rw [hpe k hkn] at hk; exact h5 k (hN k hk0 hkn) hk
theorem GoodX.weaken [Str] {N N' : Nat → Prop} {X : Cx} (h : GoodX N B X) (hN : ∀ m, N m → N' m) : GoodX N' B X :=
  ⟨h.os, h.tape, h.output, h.size, h.old, h.g0, h.glt, h.gfrom, fun n o b hn => h.ownx n o b (fun h' => hn (hN n h')), fun n m o p b hn hm => h.injx n m o p b (fun h' => hn (hN n h')) (fun h' => hm (hN m h')),
   fun n o b hn => h.frzx n o b (fun h' => hn (hN n h')), fun n o b hn => h.ltx n o b (fun h' => hn (hN n h')), fun n o hn => h.objx n o (fun h' => hn (hN n h')), fun n b hn hb => by
    obtain ⟨h1, h2, h3, h4, h5⟩ := h.partx n b (fun h' => hn (hN n h')) hb
    exact ⟨h1, h2, h3, fun m o hm => h4 m o (fun h' => hm (hN m h')), fun m hm => h5 m (fun h' => hm (hN m h'))⟩⟩
theorem TopOK.congr {O O' : Objs} : ∀ {r : RT} {l : List SV}, (∀ n, some n ∈ topsOf r l → O' n = O n) → TopOK O r l → TopOK O' r l
  | .val _, l, _, h' => by cases l with | nil => exact h' | cons s _ => cases s <;> exact h'
  | .unit, l, _, _ => by cases l with | nil => trivial | cons s _ => cases s <;> trivial
  | .own t, l, h, h' => by
    cases l with
    | nil => exact h'.elim
    | cons s r => cases s <;> exact h'.elim
  | .ip t, l, h, h' => by
    cases l with
    | nil => exact h'.elim
    | cons s r =>
      cases s <;> first | exact h'.elim | skip
      rename_i n g v
      cases v <;> first | exact h'.elim | skip
      obtain ⟨l0, h2, h3⟩ := h'
      exact ⟨l0, (h n (by simp [topsOf])).trans h2, h3⟩
  | .rows t, l, h, h' => by
    cases l with
    | nil => exact h'.elim
    | cons s r => cases s <;> exact h'.elim
  | .box r0, l, h, h' => by
    cases l with
    | nil => exact h'.elim
    | cons s r =>
      cases s <;> first | exact h'.elim | skip
      rename_i n g off
      cases off with
      | zero => obtain ⟨cs, h2⟩ := h'; exact ⟨cs, (h n (by simp [topsOf])).trans h2⟩
      | succ _ => exact h'.elim
  | .pair a b, l, h, h' => ⟨TopOK.congr (fun n hn => h n (by simp only [topsOf]; exact List.mem_append_left _ hn)) h'.1, TopOK.congr (fun n hn => h n (by simp only [topsOf]; exact List.mem_append_right _ hn)) h'.2⟩
  | .func f nf r0, l, h, h' => by
    cases l with
    | nil => exact h'.elim
    | cons s r =>
      cases s <;> first | exact h'.elim | skip
      exact ⟨TopOK.congr (r := r0) (fun n hn => h n hn) h'.1, h'.2⟩
  | .mv _, l, _, h' => by
    cases l with
    | nil => exact h'.elim
    | cons s r => cases s <;> first | exact h'.elim | trivial
  | .nil, l, _, h' => by
    cases l with
    | nil => exact h'.elim
    | cons s r => cases s <;> first | exact h'.elim | trivial
  | .pal _ _ _, l, _, h' => by
    cases l with
    | nil => exact h'.elim
    | cons s r => cases s <;> first | exact h'.elim | trivial
theorem topObj {O : Objs} : ∀ {r : RT} {l : List SV}, TopOK O r l → ∀ {n : Nat}, some n ∈ topsOf r l → ∃ o, O n = some o
  | .val _, l, _, n, h => by cases l with | nil => cases h | cons s _ => cases s <;> cases h
  | .unit, l, _, n, h => by cases l with | nil => cases h | cons s _ => cases s <;> cases h
  | .own t, l, h', n, h => by
    cases l with
    | nil => exact h'.elim
    | cons s r => cases s <;> exact h'.elim
  | .ip t, l, h', n, h => by
    cases l with
    | nil => exact h'.elim
    | cons s r =>
      cases s <;> first | exact h'.elim | skip
      rename_i n' g v
      cases v <;> first | exact h'.elim | skip
      obtain ⟨l0, h2, h3⟩ := h'
      simp only [topsOf, List.mem_singleton, Option.some.injEq] at h
      subst h
      exact ⟨_, h2⟩
  | .rows t, l, h', n, h => by
    cases l with
    | nil => exact h'.elim
    | cons s r => cases s <;> exact h'.elim
  | .box r0, l, h', n, h => by
    cases l with
    | nil => exact h'.elim
    | cons s r =>
      cases s <;> first | exact h'.elim | skip
      rename_i n' g off
      cases off with
      | zero =>
        obtain ⟨cs, h2⟩ := h'
        simp only [topsOf, List.mem_singleton, Option.some.injEq] at h
        subst h
        exact ⟨_, h2⟩
      | succ _ => exact h'.elim
  | .pair a b, l, h', n, h => by
    have e : topsOf (.pair a b) l = topsOf a l ++ topsOf b (l.drop a.nleaves) := by cases l with | nil => rfl | cons s _ => cases s <;> rfl
    have e' : TopOK O a l ∧ TopOK O b (l.drop a.nleaves) := by cases l with | nil => exact h' | cons s _ => cases s <;> exact h'
    rw [e] at h
    rcases List.mem_append.1 h with h | h
    · exact topObj e'.1 h
    · exact topObj e'.2 h
  | .func f nf r0, l, h', n, h => by
    cases l with
    | nil => exact h'.elim
    | cons s r =>
      cases s <;> first | exact h'.elim | skip
      exact topObj (r := r0) h'.1 h
  | .mv _, l, h', n, h => by cases l with | nil => cases h | cons s _ => cases s <;> cases h
  | .nil, l, h', n, h => by cases l with | nil => cases h | cons s _ => cases s <;> cases h
  | .pal _ _ _, l, h', n, h => by cases l with | nil => cases h | cons s _ => cases s <;> cases h
theorem TopOK.widths [Str] {O : Objs} : ∀ {r : RT} {l : List SV}, TopOK O r l → Ev.widths (l.take r.nleaves) = r.size
  | .val _, l, h => by cases l with | nil => exact h | cons s _ => cases s <;> exact h
  | .unit, l, h => by simp [RT.nleaves, RT.size, Ev.widths]
  | .own t, l, h' => by
    cases l with
    | nil => exact h'.elim
    | cons s r => cases s <;> exact h'.elim
  | .ip t, l, h' => by
    cases l with
    | nil => exact h'.elim
    | cons s r => cases s <;> first | exact h'.elim | rfl
  | .rows t, l, h' => by
    cases l with
    | nil => exact h'.elim
    | cons s r => cases s <;> exact h'.elim
  | .box r0, l, h' => by
    cases l with
    | nil => exact h'.elim
    | cons s r => cases s <;> first | exact h'.elim | rfl
  | .pair a b, l, h' => by
    have e' : TopOK O a l ∧ TopOK O b (l.drop a.nleaves) := by cases l with | nil => exact h' | cons s _ => cases s <;> exact h'
    simp only [RT.nleaves, RT.size]
    rw [List.take_add, widths_append, e'.1.widths, e'.2.widths]
  | .func f nf r0, l, h' => by
    cases l with
    | nil => exact h'.elim
    | cons s r => cases s <;> first | exact h'.elim | rfl
  | .mv _, l, h' => by
    cases l with
    | nil => exact h'.elim
    | cons s r => cases s <;> first | exact h'.elim | rfl
  | .nil, l, h' => by
    cases l with
    | nil => exact h'.elim
    | cons s r => cases s <;> first | exact h'.elim | rfl
  | .pal _ _ _, l, h' => by
    cases l with
    | nil => exact h'.elim
    | cons s r => cases s <;> first | exact h'.elim | rfl
structure Turned (N N' : Nat → Prop) (X X' : Cx) (bs : List (Option Nat)) : Prop where
  w : X'.w = X.w
  G : X'.G = X.G
  ext : Ext X X'
  β : ∀ m o, X.O m = some o → X'.β m = X.β m
  old : ∀ m o, (N' m ∨ ¬ N m) → X.O m = some o → X'.O m = some o
  new : ∀ m o b, ¬ N' m → X'.O m = some o → o.frozen = false → X'.β m = some b → (¬ N m ∧ X.O m = some o ∧ X.β m = some b) ∨ some b ∈ bs
  newp : ∀ m b, ¬ N' m → some b ∈ X'.parts m → (¬ N m ∧ some b ∈ X.parts m) ∨ some b ∈ bs
theorem of_turn [Str] {res : R} : ∀ (r : RT) {x : r.den} {nm : Nat} {N : Nat → Prop} {X : Cx} {l : List SV} {cs d : List Value} {bs : List (Option Nat)} {K : List SV × Nat → Objs → Option R}, GoodX N B X → HLs X l (cs ++ d) → TopOK X.O r l → RR true X.w X.G r x cs bs → Free N B X bs →
    (somes (topsOf r l)).Nodup → (∀ n, some n ∈ topsOf r l → N n) → (turn r x l nm).run X.O K = some res →
    ∃ X' nm', K (l.drop r.nleaves, nm') X'.O = some res ∧ GoodX (fun m => N m ∧ some m ∉ topsOf r l) B X' ∧ Turned N (fun m => N m ∧ some m ∉ topsOf r l) X X' bs
  | .val t, x, nm, N, X, l, cs, d, bs, K, hg, hl, ht, ⟨hr, _, _⟩, hf, hd, hN, h => by
    subst hr
    have e : topsOf (.val t) l = [] := by cases l with | nil => rfl | cons s _ => cases s <;> rfl
    have h' : K (l.drop t.nleaves, nm) X.O = some res := by cases l with | nil => exact h | cons s _ => cases s <;> exact h
    rw [e]
    exact ⟨X, nm, h', hg.weaken (fun m hm => ⟨hm, by simp⟩), ⟨rfl, rfl, .refl X, fun _ _ _ => rfl, fun _ _ _ h => h, fun m o b hm h1 _ h2 => .inl ⟨fun hn => hm ⟨hn, by simp⟩, h1, h2⟩, fun m b hm hp => .inl ⟨fun hn => hm ⟨hn, by simp⟩, hp⟩⟩⟩
  | .unit, x, nm, N, X, l, cs, d, bs, K, hg, hl, ht, ⟨hr, hr'⟩, hf, hd, hN, h => by
    subst hr hr'
    have e : topsOf .unit l = [] := by cases l with | nil => rfl | cons s _ => cases s <;> rfl
    have h' : K (l, nm) X.O = some res := by cases l with | nil => exact h | cons s _ => cases s <;> exact h
    rw [e]
    exact ⟨X, nm, h', hg.weaken (fun m hm => ⟨hm, by simp⟩), ⟨rfl, rfl, .refl X, fun _ _ _ => rfl, fun _ _ _ h => h, fun m o b hm h1 _ h2 => .inl ⟨fun hn => hm ⟨hn, by simp⟩, h1, h2⟩, fun m b hm hp => .inl ⟨fun hn => hm ⟨hn, by simp⟩, hp⟩⟩⟩
  | .mv t, x, nm, N, X, l, cs, d, bs, K, hg, hl, ht, hr', hf, hd, hN, h => by
    have e : topsOf (.mv t) l = [] := by cases l with | nil => rfl | cons s _ => cases s <;> rfl
    have h' : K (l.drop 1, nm) X.O = some res := by cases l with | nil => exact h | cons s _ => cases s <;> exact h
    rw [e]
    exact ⟨X, nm, h', hg.weaken (fun m hm => ⟨hm, by simp⟩), ⟨rfl, rfl, .refl X, fun _ _ _ => rfl, fun _ _ _ h => h, fun m o b hm h1 _ h2 => .inl ⟨fun hn => hm ⟨hn, by simp⟩, h1, h2⟩, fun m b hm hp => .inl ⟨fun hn => hm ⟨hn, by simp⟩, hp⟩⟩⟩
  | .nil, x, nm, N, X, l, cs, d, bs, K, hg, hl, ht, ⟨_, hr'⟩, hf, hd, hN, h => by
    subst hr'
    have e : topsOf .nil l = [] := by cases l with | nil => rfl | cons s _ => cases s <;> rfl
    have h' : K (l.drop 1, nm) X.O = some res := by cases l with | nil => exact h | cons s _ => cases s <;> exact h
    rw [e]
    exact ⟨X, nm, h', hg.weaken (fun m hm => ⟨hm, by simp⟩), ⟨rfl, rfl, .refl X, fun _ _ _ => rfl, fun _ _ _ h => h, fun m o b hm h1 _ h2 => .inl ⟨fun hn => hm ⟨hn, by simp⟩, h1, h2⟩, fun m b hm hp => .inl ⟨fun hn => hm ⟨hn, by simp⟩, hp⟩⟩⟩
  | .pal f b i, x, nm, N, X, l, cs, d, bs, K, hg, hl, ht, ⟨_, hr'⟩, hf, hd, hN, h => by
    subst hr'
    have e : topsOf (.pal f b i) l = [] := by cases l with | nil => rfl | cons s _ => cases s <;> rfl
    have h' : K (l.drop 1, nm) X.O = some res := by cases l with | nil => exact h | cons s _ => cases s <;> exact h
    rw [e]
    exact ⟨X, nm, h', hg.weaken (fun m hm => ⟨hm, by simp⟩), ⟨rfl, rfl, .refl X, fun _ _ _ => rfl, fun _ _ _ h => h, fun m o b hm h1 _ h2 => .inl ⟨fun hn => hm ⟨hn, by simp⟩, h1, h2⟩, fun m b hm hp => .inl ⟨fun hn => hm ⟨hn, by simp⟩, hp⟩⟩⟩
  | .own t, x, nm, N, X, l, cs, d, bs, K, hg, hl, ht, hr, hf, hd, hN, h => by
    cases l with
    | nil => exact ht.elim
    | cons s rest => cases s <;> exact ht.elim
  | .ip t, x, nm, N, X, l, cs, d, bs, K, hg, hl, ht, ⟨v, b, hr, hr', hr2, hr3⟩, hf, hd, hN, h => by
    subst hr hr'
    cases l with
    | nil => exact ht.elim
    | cons s rest =>
      cases s <;> first | exact ht.elim | skip
      rename_i n g vw
      cases vw <;> first | exact ht.elim | skip
      obtain ⟨l0, ho, hpos⟩ := ht
      obtain ⟨val, dd, e1, _, hv, _⟩ := hl.uncons1 (by simp)
      simp only [List.cons_append, List.nil_append, List.cons.injEq] at e1
      obtain ⟨rfl, rfl⟩ := e1
      obtain ⟨_, o, o1, _, o2⟩ := hv
      rw [ho] at o1; cases o1
      have o2 := o2 rfl
      simp only [RowH, Body.shape, View.of, View.lo] at o2
      obtain ⟨_, a, cap, hval, hcap, hb⟩ := o2
      have hr4 := hr2
      obtain ⟨cap', c, e, es, sp, k1, k2, k3, k4, k5, k6⟩ := hr2
      rw [hval] at k1
      simp only [Value.slice.injEq] at k1
      obtain ⟨a1, a2, a3⟩ := k1
      have hbn : X.β n = some b := by
        cases hbb : X.β n with
        | none => rw [hbb] at hb; rw [hb.1] at hpos; exact absurd hpos (by simp)
        | some b2 =>
          rw [hbb] at hb
          obtain ⟨c2, e2, _, q2⟩ := hb
          rcases q2 with q2 | ⟨q2, _⟩
          · omega
          · rw [a1, Nat.zero_mul] at q2; cases q2; rfl
      have h' : K (rest, nm) (X.O.set n ⟨g, false, .row t x⟩) = some res := h
      obtain ⟨g1, g2⟩ := hg.revive n _ ho (.row t x) ⟨rfl, a2⟩ (fun b' hb' => by
        rw [hbn] at hb'; cases hb'
        obtain ⟨f1, f2, f3⟩ := hf.g b (by simp)
        exact ⟨f1, f2, f3, fun m p hm hmo hfr => hf.none b (by simp) m p hm hmo hfr⟩) (fun b' hb' m hm hp => by
        rw [hbn] at hb'; cases hb'
        exact hf.part b (by simp) m hm hp) (fun hE => by
        simp only [ObjH, hbn]
        exact ⟨c, e, es, sp, cap', k2, k3, k4.imp (fun _ _ h => RC.imp hE.g hE.agree h), k5, k6⟩)
      have e5 : topsOf (.ip t) (.row n g .full :: rest) = [some n] := rfl
      rw [e5]
      have e6 : (fun m => N m ∧ some m ∉ [some n]) = (fun m => N m ∧ m ≠ n) := by funext m; simp
      rw [e6]
      refine ⟨⟨X.w, X.G, X.β, X.O.set n ⟨g, false, .row t x⟩⟩, _, h', g1, ⟨rfl, rfl, g2, fun m o hm => rfl, fun m o hm hmo => ?_, fun m o b' hm hmo hfr hb => ?_, fun m b' hm hp => ?_⟩⟩
      · have hne : m ≠ n := by
          rcases hm with hm | hm
          · exact hm.2
          · exact fun e => hm (by rw [e]; exact hN n (by simp [topsOf]))
        simp only [set_ne _ _ hne]; exact hmo
      · by_cases hne : m = n
        · subst hne
          have hb : X.β m = some b' := hb
          rw [hbn] at hb; cases hb
          exact .inr (by simp)
        · simp only [set_ne _ _ hne] at hmo
          exact .inl ⟨fun hn => hm ⟨hn, hne⟩, hmo, hb⟩
      · by_cases hne : m = n
        · subst hne
          rw [parts_of (o := ⟨g, false, .row t x⟩) (set_same _ _ _) rfl] at hp; cases hp
        · rw [parts_eq (X := X) (X' := ⟨X.w, X.G, X.β, X.O.set n ⟨g, false, .row t x⟩⟩) (set_ne _ _ hne) rfl (fun _ _ _ _ _ => rfl)] at hp
          exact .inl ⟨fun hn => hm ⟨hn, hne⟩, hp⟩
  | .rows t, x, nm, N, X, l, cs, d, bs, K, hg, hl, ht, hr, hf, hd, hN, h => by
    cases l with
    | nil => exact ht.elim
    | cons s rest => cases s <;> exact ht.elim
  | .box r, x, nm, N, X, l, cs, d, bs, K, hg, hl, ht, ⟨b, bs', c, e, hr, hr', hr2, hr3⟩, hf, hd, hN, h => by
    subst hr hr'
    cases l with
    | nil => exact ht.elim
    | cons s rest =>
      cases s <;> first | exact ht.elim | skip
      rename_i n g off
      cases off with
      | succ _ => exact ht.elim
      | zero =>
        obtain ⟨cs0, ho⟩ := ht
        obtain ⟨val, dd, e1, _, hv, _⟩ := hl.uncons1 (by simp)
        simp only [List.cons_append, List.nil_append, List.cons.injEq] at e1
        obtain ⟨rfl, rfl⟩ := e1
        obtain ⟨_, o, o1, _, o2⟩ := hv
        rw [ho] at o1; cases o1
        obtain ⟨b2, hbn, e2⟩ := o2 rfl
        cases e2
        simp only [turn, run_bind] at h
        have hf' : Free N B X ([some b] ++ bs') := hf
        obtain ⟨l1, X1, nm1, k1, k2, k3, k4, _⟩ := of_enc r hg hr3 (hf'.behind (.refl X _)) h
        obtain ⟨ho1, hb1⟩ := k3.old n _ ho
        have hdd := hf'.dup
        rw [somes_append, List.nodup_append] at hdd
        obtain ⟨g1, g2⟩ := k2.revive n _ ho1 (.box l1) trivial (fun b' hb' => by
          rw [hb1, hbn] at hb'; cases hb'
          obtain ⟨f1, f2, f3⟩ := hf.g b (by simp)
          refine ⟨by rw [k3.G]; exact f1, f2, by rw [k3.w]; exact f3, fun m p hm hmo hfr hb => ?_⟩
          rcases k3.new m p b hmo hfr hb with ⟨q1, q2⟩ | q1
          · exact hf.none b (by simp) m p hm q1 hfr q2
          · exact hdd.2.2 b (by simp [somes]) b (mem_somes.2 q1) rfl) (fun b' hb' m hm hp => by
          rw [hb1, hbn] at hb'; cases hb'
          rcases k3.newp m b hp with q1 | q1
          · exact hf.part b (by simp) m hm q1
          · exact hdd.2.2 b (by simp [somes]) b (mem_somes.2 q1) rfl) (fun hE => ⟨b, c, e, hb1.trans hbn, by rw [k3.w]; exact hr2, k4.ext hE⟩)
        have e5 : topsOf (.box r) (.ptr n g 0 :: rest) = [some n] := rfl
        rw [e5]
        have e6 : (fun m => N m ∧ some m ∉ [some n]) = (fun m => N m ∧ m ≠ n) := by funext m; simp
        rw [e6]
        refine ⟨⟨X1.w, X1.G, X1.β, X1.O.set n ⟨g, false, .box l1⟩⟩, _, k1, g1, ⟨k3.w, k3.G, k3.ext.trans g2, fun m o hm => (k3.old m o hm).2, fun m o hm hmo => ?_, fun m o b' hm hmo hfr hb => ?_, fun m b' hm hp => ?_⟩⟩
        rotate_right
        · by_cases hne : m = n
          · subst hne
            rw [parts_of (o := ⟨g, false, .box l1⟩) (set_same _ _ _) rfl] at hp; cases hp
          · rw [parts_eq (X := X1) (X' := ⟨X1.w, X1.G, X1.β, X1.O.set n ⟨g, false, .box l1⟩⟩) (set_ne _ _ hne) rfl (fun _ _ _ _ _ => rfl)] at hp
            rcases k3.newp m b' hp with q1 | q1
            · exact .inl ⟨fun hn => hm ⟨hn, hne⟩, q1⟩
            · exact .inr (List.mem_cons_of_mem _ q1)
        · have hne : m ≠ n := by
            rcases hm with hm | hm
            · exact hm.2
            · exact fun e => hm (by rw [e]; exact hN n (by simp [topsOf]))
          simp only [set_ne _ _ hne]; exact (k3.old m o hmo).1
        · by_cases hne : m = n
          · subst hne
            have hb : X1.β m = some b' := hb
            rw [hb1, hbn] at hb; cases hb
            exact .inr (by simp)
          · simp only [set_ne _ _ hne] at hmo
            rcases k3.new m o b' hmo hfr hb with ⟨q1, q2⟩ | q1
            · exact .inl ⟨fun hn => hm ⟨hn, hne⟩, q1, q2⟩
            · exact .inr (List.mem_cons_of_mem _ q1)
  | .pair p q, x, nm, N, X, l, cs, d, bs, K, hg, hl, ht, ⟨c1, c2, b1, b2, hr, hr', hr1, hr2⟩, hf, hd, hN, h => by
    subst hr hr'
    have et : topsOf (.pair p q) l = topsOf p l ++ topsOf q (l.drop p.nleaves) := by cases l with | nil => rfl | cons s _ => cases s <;> rfl
    have ht' : TopOK X.O p l ∧ TopOK X.O q (l.drop p.nleaves) := by cases l with | nil => exact ht | cons s _ => cases s <;> exact ht
    have h' : (turn p x.1 l nm).run X.O (fun z O' => (turn q x.2 z.1 z.2).run O' K) = some res := by
      have e : turn (.pair p q) x l nm = (turn p x.1 l nm >>= fun z => turn q x.2 z.1 z.2) := by cases l with | nil => rfl | cons s _ => cases s <;> rfl
      rw [e, run_bind] at h
      exact h
    rw [et] at hd hN
    rw [somes_append, List.nodup_append] at hd
    rw [List.append_assoc] at hl
    obtain ⟨X1, nm1, k1, k2, k3⟩ := of_turn p hg hl ht'.1 hr1 hf.left hd.1 (fun n hn => hN n (List.mem_append_left _ hn)) h'
    have hl1 : HLs X1 (l.drop p.nleaves) (c2 ++ d) := by
      have e3 := hl.dropLeaves p.nleaves
      rw [ht'.1.widths, ← hr1.len, List.drop_left] at e3
      exact e3.ext k3.ext
    have hO1 : ∀ n, some n ∈ topsOf q (l.drop p.nleaves) → X1.O n = X.O n := fun n hn => by
      obtain ⟨o, ho⟩ := topObj ht'.2 hn
      rw [ho]
      refine k3.old n o (.inl ⟨hN n (List.mem_append_right _ hn), fun hn' => ?_⟩) ho
      exact hd.2.2 n (mem_somes.2 hn') n (mem_somes.2 hn) rfl
    have hfd := hf.dup
    rw [somes_append, List.nodup_append] at hfd
    have hf2 : Free (fun m => N m ∧ some m ∉ topsOf p l) B X1 b2 := by
      refine ⟨fun b hb => ?_, fun b hb m o hm hmo hfr hbm => ?_, fun b hb m hm hp => ?_, hfd.2.1⟩
      rotate_right
      · rcases k3.newp m b hm hp with ⟨q1, q2⟩ | q1
        · exact hf.part b (List.mem_append_right _ hb) m q1 q2
        · exact hfd.2.2 b (mem_somes.2 q1) b (mem_somes.2 hb) rfl
      · rw [k3.G, k3.w]; exact hf.g b (List.mem_append_right _ hb)
      · rcases k3.new m o b hm hmo hfr hbm with ⟨q1, q2, q3⟩ | q1
        · exact hf.none b (List.mem_append_right _ hb) m o q1 q2 hfr q3
        · exact hfd.2.2 b (mem_somes.2 q1) b (mem_somes.2 hb) rfl
    obtain ⟨X2, nm2, q1, q2, q3⟩ := of_turn q k2 hl1 (ht'.2.congr hO1) (by rw [k3.w, k3.G]; exact hr2) hf2 hd.2.1 (fun n hn => ⟨hN n (List.mem_append_right _ hn), fun hn' => hd.2.2 n (mem_somes.2 hn') n (mem_somes.2 hn) rfl⟩) k1
    rw [List.drop_drop] at q1
    rw [et]
    have e6 : (fun m => (N m ∧ some m ∉ topsOf p l) ∧ some m ∉ topsOf q (l.drop p.nleaves)) = (fun m => N m ∧ some m ∉ topsOf p l ++ topsOf q (l.drop p.nleaves)) := by
      funext m; simp [and_assoc]
    rw [e6] at q2 q3
    refine ⟨X2, nm2, q1, q2, ⟨q3.w.trans k3.w, q3.G.trans k3.G, k3.ext.trans q3.ext, fun m o hm => ?_, fun m o hm hmo => ?_, fun m o b hm hmo hfr hb => ?_, fun m b hm hp => ?_⟩⟩
    rotate_right
    · rcases q3.newp m b hm hp with ⟨u1, u2⟩ | u1
      · rcases k3.newp m b u1 u2 with ⟨w1, w2⟩ | w1
        · exact .inl ⟨w1, w2⟩
        · exact .inr (List.mem_append_left _ w1)
      · exact .inr (List.mem_append_right _ u1)
    · obtain ⟨o', ho', _⟩ := k3.ext.obj m o hm
      exact (q3.β m o' ho').trans (k3.β m o hm)
    · have h1 : X1.O m = some o := k3.old m o (hm.imp (fun h => ⟨h.1, fun h' => h.2 (List.mem_append_left _ h')⟩) id) hmo
      exact q3.old m o (hm.imp id (fun h h' => h h'.1)) h1
    · rcases q3.new m o b hm hmo hfr hb with ⟨u1, u2, u3⟩ | u1
      · rcases k3.new m o b u1 u2 hfr u3 with ⟨w1, w2, w3⟩ | w1
        · exact .inl ⟨w1, w2, w3⟩
        · exact .inr (List.mem_append_left _ w1)
      · exact .inr (List.mem_append_right _ u1)
  | .func f nf r, x, nm, N, X, l, cs, d, bs, K, hg, hl, ht, ⟨a1, a2, hr, hr', hr2⟩, hf, hd, hN, h => by
    subst hr
    cases l with
    | nil => exact ht.elim
    | cons s rest =>
      cases s <;> first | exact ht.elim | skip
      rename_i f' first caps
      obtain ⟨val, dd, e1, _, hv, _⟩ := hl.uncons1 (by simp)
      simp only [List.cons_append, List.nil_append, List.cons.injEq] at e1
      obtain ⟨rfl, rfl⟩ := e1
      obtain ⟨b1, b2, e2, v1, v2⟩ := hv
      cases e2
      simp only [turn, run_bind] at h
      obtain ⟨h9, h⟩ := of_sure h
      obtain ⟨X1, nm1, k1, k2, k3⟩ := of_turn r (d := []) hg (by simpa using (v1.append v2).leaves h9) ht.1 hr2 hf hd hN h
      exact ⟨X1, nm1, k1, k2, k3⟩
end Go.Ev
namespace Go.Ev
open Go.RowKit
variable {R : Type} {B : Base}
theorem topsL_obj [Str] {O : Objs} : ∀ {rs : List RT} {l : List SV}, TopL O rs l → ∀ {n : Nat}, some n ∈ topsL rs l → ∃ o, O n = some o
  | [], [], _, n, h => by cases h
  | r :: rs, v :: vs, ⟨h1, _, h2⟩, n, h => by
    rcases List.mem_append.1 h with h | h
    · exact topObj h1 h
    · exact topsL_obj h2 h
  | [], _ :: _, h, _, _ => h.elim
  | _ :: _, [], h, _, _ => h.elim
theorem TopL.congr [Str] {O O' : Objs} : ∀ {rs : List RT} {l : List SV}, (∀ n, some n ∈ topsL rs l → O' n = O n) → TopL O rs l → TopL O' rs l
  | [], [], _, _ => trivial
  | r :: rs, v :: vs, h, ⟨h1, h3, h2⟩ => ⟨h1.congr (fun n hn => h n (List.mem_append_left _ hn)), h3, TopL.congr (fun n hn => h n (List.mem_append_right _ hn)) h2⟩
  | [], _ :: _, _, h => h.elim
  | _ :: _, [], _, h => h.elim
/-- what is owned outright: rows keep their length -/
theorem topRow [Str] {X : Cx} {w' : World} {G' : Nat → Prop} : ∀ {r : RT} {x : r.den} {l : List SV} {cs d : List Value} {bs : List (Option Nat)}, TopOK X.O r l → HLs X l (cs ++ d) → RR true w' G' r x cs bs →
    ∀ {n : Nat} {o : Obj} {t : Ty} {m : List t.den} {b : Nat} {c : Array Value} {e : TypeId}, some n ∈ topsOf r l → X.O n = some o → o.body.shape = some ⟨t, m⟩ → X.β n = some b → X.w.heap[b]? = some (.cells c e (0, 0)) → ∃ c' e', w'.heap[b]? = some (.cells c' e' (0, 0)) ∧ c'.size = c.size
  | .val _, x, l, cs, d, bs, _, _, _, n, o, t, m, b, c, e, h, _, _, _, _ => by cases l with | nil => cases h | cons s _ => cases s <;> cases h
  | .unit, x, l, cs, d, bs, _, _, _, n, o, t, m, b, c, e, h, _, _, _, _ => by cases l with | nil => cases h | cons s _ => cases s <;> cases h
  | .mv _, x, l, cs, d, bs, _, _, _, n, o, t, m, b, c, e, h, _, _, _, _ => by cases l with | nil => cases h | cons s _ => cases s <;> cases h
  | .nil, x, l, cs, d, bs, _, _, _, n, o, t, m, b, c, e, h, _, _, _, _ => by cases l with | nil => cases h | cons s _ => cases s <;> cases h
  | .pal _ _ _, x, l, cs, d, bs, _, _, _, n, o, t, m, b, c, e, h, _, _, _, _ => by cases l with | nil => cases h | cons s _ => cases s <;> cases h
  | .own _, x, l, cs, d, bs, h', _, _, n, o, t, m, b, c, e, h, _, _, _, _ => by cases l with | nil => exact h'.elim | cons s _ => cases s <;> exact h'.elim
  | .rows _, x, l, cs, d, bs, h', _, _, n, o, t, m, b, c, e, h, _, _, _, _ => by cases l with | nil => exact h'.elim | cons s _ => cases s <;> exact h'.elim
  | .box r0, x, l, cs, d, bs, h', hl, hrr, n, o, t, m, b, c, e, h, ho, hs, hb, hc => by
    cases l with
    | nil => exact h'.elim
    | cons s r =>
      cases s <;> first | exact h'.elim | skip
      rename_i n' g off
      cases off with
      | zero =>
        obtain ⟨cs2, h2⟩ := h'
        simp only [topsOf, List.mem_singleton, Option.some.injEq] at h
        subst h
        rw [ho] at h2; cases h2
        cases hs
      | succ _ => exact h'.elim
  | .ip t0, x, l, cs, d, bs, h', hl, ⟨v, b0, hr, _, hr2, hr3⟩, n, o, t, m, b, c, e, h, ho, hs, hb, hc => by
    subst hr
    cases l with
    | nil => exact h'.elim
    | cons s r =>
      cases s <;> first | exact h'.elim | skip
      rename_i n' g vw
      cases vw <;> first | exact h'.elim | skip
      obtain ⟨l0, h2, hpos⟩ := h'
      simp only [topsOf, List.mem_singleton, Option.some.injEq] at h
      subst h
      rw [ho] at h2; cases h2
      cases hs
      obtain ⟨val, dd, e1, _, hv, _⟩ := hl.uncons1 (by simp)
      simp only [List.cons_append, List.nil_append, List.cons.injEq] at e1
      obtain ⟨rfl, rfl⟩ := e1
      obtain ⟨_, o', o1, _, o2⟩ := hv
      rw [ho] at o1; cases o1
      have o2 := o2 rfl
      simp only [RowH, Body.shape, View.of, View.lo, hb] at o2
      obtain ⟨_, a, cap, hval, hcap, c2, e2, q1, q2⟩ := o2
      rw [hc] at q1; cases q1
      obtain ⟨cap', c3, e3, es, sp, k1, k2, k3, k4, k5, k6⟩ := hr2
      rw [hval] at k1
      simp only [Value.slice.injEq] at k1
      obtain ⟨a1, a2, a3⟩ := k1
      rcases q2 with q2 | ⟨q2, q3⟩
      · omega
      · rw [a1, Nat.zero_mul] at q2; cases q2
        exact ⟨c3, e3, k2, by rw [k5, ← q3, ← a3]; simp⟩
  | .pair p q, x, l, cs, d, bs, h', hl, ⟨c1, c2, b1, b2, hr, hr', hr1, hr2⟩, n, o, t, m, b, c, e, h, ho, hs, hb, hc => by
    subst hr hr'
    have e0 : topsOf (.pair p q) l = topsOf p l ++ topsOf q (l.drop p.nleaves) := by cases l with | nil => rfl | cons s _ => cases s <;> rfl
    have e' : TopOK X.O p l ∧ TopOK X.O q (l.drop p.nleaves) := by cases l with | nil => exact h' | cons s _ => cases s <;> exact h'
    rw [e0] at h
    rw [List.append_assoc] at hl
    rcases List.mem_append.1 h with h | h
    · exact topRow e'.1 hl hr1 h ho hs hb hc
    · have e3 := hl.dropLeaves p.nleaves
      rw [e'.1.widths, ← hr1.len, List.drop_left] at e3
      exact topRow e'.2 e3 hr2 h ho hs hb hc
  | .func f nf r0, x, l, cs, d, bs, h', hl, ⟨a1, a2, hr, hr', hr2⟩, n, o, t, m, b, c, e, h, ho, hs, hb, hc => by
    subst hr
    cases l with
    | nil => exact h'.elim
    | cons s r =>
      cases s <;> first | exact h'.elim | skip
      rename_i f' first caps
      obtain ⟨val, dd, e1, _, hv, _⟩ := hl.uncons1 (by simp)
      simp only [List.cons_append, List.nil_append, List.cons.injEq] at e1
      obtain ⟨rfl, rfl⟩ := e1
      obtain ⟨b1, b2, e2, v1, v2⟩ := hv
      cases e2
      exact topRow (r := r0) (d := []) h'.1 (by simpa using (v1.append v2).leaves h'.2) hr2 h ho hs hb hc
theorem topsRow [Str] {X : Cx} {w' : World} {G' : Nat → Prop} {all : List Value} : ∀ {rs : List RT} {x : dens rs} {l : List SV} {vs : List Value} {bs : List (Option Nat)}, TopL X.O rs l → HVs X l vs → RRsA true w' G' all rs x vs bs →
    ∀ {n : Nat} {o : Obj} {t : Ty} {m : List t.den} {b : Nat} {c : Array Value} {e : TypeId}, some n ∈ topsL rs l → X.O n = some o → o.body.shape = some ⟨t, m⟩ → X.β n = some b → X.w.heap[b]? = some (.cells c e (0, 0)) → ∃ c' e', w'.heap[b]? = some (.cells c' e' (0, 0)) ∧ c'.size = c.size
  | [], x, [], vs, bs, _, _, _, n, o, t, m, b, c, e, h, _, _, _, _ => by cases h
  | [], x, _ :: _, vs, bs, h', _, _, n, o, t, m, b, c, e, h, _, _, _, _ => h'.elim
  | _ :: _, x, [], vs, bs, h', _, _, n, o, t, m, b, c, e, h, _, _, _, _ => h'.elim
  | r :: rs, x, s :: l, vs, bs, ⟨h1, h3, h2⟩, hl, ⟨v, vs', b1, b2, hr, hr', hv, hr1, hr2⟩, n, o, t, m, b, c, e, h, ho, hs, hb, hc => by
    subst hr
    obtain ⟨v2, l2, e1, hv1, hv2⟩ := hl
    simp only [List.cons.injEq] at e1
    obtain ⟨rfl, rfl⟩ := e1
    rcases List.mem_append.1 h with h | h
    · exact topRow (d := []) h1 (by simpa using hv1.leaves h3) hr1 h ho hs hb hc
    · exact topsRow h2 hv2 hr2 h ho hs hb hc
theorem of_turnsA [Str] {res : R} {all : List Value} : ∀ (rs : List RT) {x : dens rs} {nm : Nat} {N : Nat → Prop} {X : Cx} {l : List SV} {vs : List Value} {bs : List (Option Nat)} {K : Nat → Objs → Option R}, GoodX N B X → HVs X l vs → TopL X.O rs l → RRsA true X.w X.G all rs x vs bs → Free N B X bs →
    (somes (topsL rs l)).Nodup → (∀ n, some n ∈ topsL rs l → N n) → (turns rs x l nm).run X.O K = some res →
    ∃ X' nm', K nm' X'.O = some res ∧ GoodX (fun m => N m ∧ some m ∉ topsL rs l) B X' ∧ Turned N (fun m => N m ∧ some m ∉ topsL rs l) X X' bs
  | [], x, nm, N, X, l, vs, bs, K, hg, hl, ht, ⟨hr, hr'⟩, hf, hd, hN, h => by
    subst hr'
    cases l with
    | cons s r => exact ht.elim
    | nil => exact ⟨X, nm, h, hg.weaken (fun m hm => ⟨hm, by simp [topsL]⟩), ⟨rfl, rfl, .refl X, fun _ _ _ => rfl, fun _ _ _ h => h, fun m o b hm h1 _ h2 => .inl ⟨fun hn => hm ⟨hn, by simp [topsL]⟩, h1, h2⟩, fun m b hm hp => .inl ⟨fun hn => hm ⟨hn, by simp [topsL]⟩, hp⟩⟩⟩
  | r :: rs, x, nm, N, X, l, vs, bs, K, hg, hl, ht, ⟨v, vs', b1, b2, hr, hr', hv, hr1, hr2⟩, hf, hd, hN, h => by
    subst hr hr'
    cases l with
    | nil => exact ht.elim
    | cons s rest =>
      obtain ⟨t1, t2, t3⟩ := ht
      obtain ⟨v2, l2, e1, hv1, hv2⟩ := hl
      simp only [List.cons.injEq] at e1
      obtain ⟨rfl, rfl⟩ := e1
      simp only [topsL] at hd hN ⊢
      rw [somes_append, List.nodup_append] at hd
      simp only [turns, run_bind] at h
      obtain ⟨X1, nm1, k1, k2, k3⟩ := of_turn r (d := []) hg (by simpa using hv1.leaves t2) t1 hr1 hf.left hd.1 (fun n hn => hN n (List.mem_append_left _ hn)) h
      have hO1 : ∀ n, some n ∈ topsL rs rest → X1.O n = X.O n := fun n hn => by
        obtain ⟨o, ho⟩ := topsL_obj t3 hn
        rw [ho]
        refine k3.old n o (.inl ⟨hN n (List.mem_append_right _ hn), fun hn' => ?_⟩) ho
        exact hd.2.2 n (mem_somes.2 hn') n (mem_somes.2 hn) rfl
      have hfd := hf.dup
      rw [somes_append, List.nodup_append] at hfd
      have hf2 : Free (fun m => N m ∧ some m ∉ topsOf r s.leaves) B X1 b2 := by
        refine ⟨fun b hb => ?_, fun b hb m o hm hmo hfr hbm => ?_, fun b hb m hm hp => ?_, hfd.2.1⟩
        rotate_right
        · rcases k3.newp m b hm hp with ⟨q1, q2⟩ | q1
          · exact hf.part b (List.mem_append_right _ hb) m q1 q2
          · exact hfd.2.2 b (mem_somes.2 q1) b (mem_somes.2 hb) rfl
        · rw [k3.G, k3.w]; exact hf.g b (List.mem_append_right _ hb)
        · rcases k3.new m o b hm hmo hfr hbm with ⟨q1, q2, q3⟩ | q1
          · exact hf.none b (List.mem_append_right _ hb) m o q1 q2 hfr q3
          · exact hfd.2.2 b (mem_somes.2 q1) b (mem_somes.2 hb) rfl
      obtain ⟨X2, nm2, q1, q2, q3⟩ := of_turnsA rs k2 (hv2.ext k3.ext) (t3.congr hO1) (by rw [k3.w, k3.G]; exact hr2) hf2 hd.2.1 (fun n hn => ⟨hN n (List.mem_append_right _ hn), fun hn' => hd.2.2 n (mem_somes.2 hn') n (mem_somes.2 hn) rfl⟩) k1
      have e6 : (fun m => (N m ∧ some m ∉ topsOf r s.leaves) ∧ some m ∉ topsL rs rest) = (fun m => N m ∧ some m ∉ topsOf r s.leaves ++ topsL rs rest) := by
        funext m; simp [and_assoc]
      rw [e6] at q2 q3
      refine ⟨X2, nm2, q1, q2, ⟨q3.w.trans k3.w, q3.G.trans k3.G, k3.ext.trans q3.ext, fun m o hm => ?_, fun m o hm hmo => ?_, fun m o b hm hmo hfr hb => ?_, fun m b hm hp => ?_⟩⟩
      rotate_right
      · rcases q3.newp m b hm hp with ⟨u1, u2⟩ | u1
        · rcases k3.newp m b u1 u2 with ⟨w1, w2⟩ | w1
          · exact .inl ⟨w1, w2⟩
          · exact .inr (List.mem_append_left _ w1)
        · exact .inr (List.mem_append_right _ u1)
      · obtain ⟨o', ho', _⟩ := k3.ext.obj m o hm
        exact (q3.β m o' ho').trans (k3.β m o hm)
      · have h1 : X1.O m = some o := k3.old m o (hm.imp (fun h => ⟨h.1, fun h' => h.2 (List.mem_append_left _ h')⟩) id) hmo
        exact q3.old m o (hm.imp id (fun h h' => h h'.1)) h1
      · rcases q3.new m o b hm hmo hfr hb with ⟨u1, u2, u3⟩ | u1
        · rcases k3.new m o b u1 u2 hfr u3 with ⟨w1, w2, w3⟩ | w1
          · exact .inl ⟨w1, w2, w3⟩
          · exact .inr (List.mem_append_left _ w1)
        · exact .inr (List.mem_append_right _ u1)
theorem of_turns [Str] {res : R} (rs : List RT) {x : dens rs} {nm : Nat} {N : Nat → Prop} {X : Cx} {l : List SV} {vs : List Value} {bs : List (Option Nat)} {K : Nat → Objs → Option R} (hg : GoodX N B X) (hl : HVs X l vs) (ht : TopL X.O rs l) (hr : RRs true X.w X.G rs x vs bs) (hf : Free N B X bs)
    (hd : (somes (topsL rs l)).Nodup) (hN : ∀ n, some n ∈ topsL rs l → N n) (h : (turns rs x l nm).run X.O K = some res) :
    ∃ X' nm', K nm' X'.O = some res ∧ GoodX (fun m => N m ∧ some m ∉ topsL rs l) B X' ∧ Turned N (fun m => N m ∧ some m ∉ topsL rs l) X X' bs := of_turnsA rs hg hl ht hr hf hd hN h
/-! the world behind a piece of code that kept a contract -/
structure WStep [Str] (w w' : World) (bs : List (Option Nat)) : Prop where
  os : w'.os = w.os
  tape : Td w' w
  output : w'.output = w.output
  size : w.heap.size ≤ w'.heap.size
  heap : ∀ b, b < w.heap.size → some b ∉ bs → w'.heap[b]? = w.heap[b]?
/-- what may be looked at behind it: what might be ahead, and what became nobody's -/
def Seeable (G : Nat → Prop) (w w' : World) (bs bs' : List (Option Nat)) : Nat → Prop := fun b => G b ∨ ((some b ∈ bs ∨ w.heap.size ≤ b) ∧ b < w'.heap.size ∧ some b ∉ bs')
structure Own [Str] (w w' : World) (bs bs' : List (Option Nat)) : Prop where
  step : WStep w w' bs
  dup : (somes bs').Nodup
  at_ : ∀ b, some b ∈ bs' → (some b ∈ bs ∨ w.heap.size ≤ b) ∧ b < w'.heap.size
theorem memN_iff {n : Nat} : ∀ {l : List Nat}, memN n l = true ↔ n ∈ l
  | [] => by simp [memN]
  | m :: r => by
    simp only [memN, Bool.or_eq_true, List.mem_cons, memN_iff]
    constructor
    · rintro (h | h)
      · exact .inl (Nat.eq_of_beq_eq_true h)
      · exact .inr h
    · rintro (h | h)
      · exact .inl (by rw [h]; exact Nat.beq_refl m)
      · exact .inr h
theorem nodupN_iff [Str] : ∀ {l : List Nat}, nodupN l = true → l.Nodup
  | [], _ => List.nodup_nil
  | n :: r, h => by
    simp only [nodupN, Bool.and_eq_true, Bool.not_eq_true'] at h
    exact List.nodup_cons.2 ⟨fun hn => by rw [memN_iff.2 hn] at h; simp at h, nodupN_iff h.2⟩
theorem apartN_iff [Str] {l : List Nat} : ∀ {m : List Nat}, apartN l m = true → ∀ n ∈ m, n ∉ l
  | [], _, n, h => by cases h
  | a :: r, h, n, hn => by
    simp only [apartN, Bool.and_eq_true, Bool.not_eq_true'] at h
    rcases List.mem_cons.1 hn with rfl | hn
    · exact fun h' => by rw [memN_iff.2 h'] at h; simp at h
    · exact apartN_iff h.2 n hn
/-- the world has gone on: what was lent is frozen (if it need be), what was owned inside is gone, what was owned outright is suspended -/
theorem Good.gone [Str] {X Xa Xk : Cx} (hg : Good B X) {own inner : List (Option Nat)} {tops : List (Option Nat)} {lent : List Nat} {bs bs' : List (Option Nat)} {w' : World}
    (hal : Along X own bs) (hown : ∀ n, some n ∈ own → ∃ o, X.O n = some o ∧ o.frozen = false) (hnd : (somes own).Nodup) (hperm : ∀ n, some n ∈ own → some n ∈ tops ∨ some n ∈ inner) (hlent : ∀ n ∈ lent, some n ∉ own) (hlo : ∀ n ∈ lent, ∃ o, X.O n = some o)
    (hga : Good B Xa) (haw : Xa.w = X.w) (haβ : Xa.β = X.β) (haG : ∀ b, Xa.G b → X.G b ∨ ∃ n ∈ lent, X.β n = some b) (haO : ∀ m o, Xa.O m = some o → o.frozen = false → X.O m = some o)
    (hgk : Good B Xk) (hkw : Xk.w = Xa.w) (hkG : Xk.G = Xa.G) (hkO : ∀ m, some m ∉ inner → Xk.O m = Xa.O m ∧ Xk.β m = Xa.β m) (hkβ : ∀ m o, some m ∈ inner → Xa.O m = some o → Xk.β m = none) (hkS : ∀ m o, Xk.O m = some o → ∃ p, Xa.O m = some p)
    (hrow : ∀ (n : Nat) (o : Obj) (t : Ty) (m : List t.den) (b : Nat) (c : Array Value) (e : TypeId), some n ∈ tops → Xk.O n = some o → o.body.shape = some ⟨t, m⟩ → Xk.β n = some b → Xk.w.heap[b]? = some (.cells c e (0, 0)) → ∃ c' e', w'.heap[b]? = some (.cells c' e' (0, 0)) ∧ c'.size = c.size)
    (hst : Own X.w w' bs bs') :
    GoodX (fun m => some m ∈ tops) B ⟨w', Seeable Xk.G X.w w' bs bs', Xk.β, Xk.O⟩ ∧ Ext Xk ⟨w', Seeable Xk.G X.w w' bs bs', Xk.β, Xk.O⟩ ∧ Free (fun m => some m ∈ tops) B ⟨w', Seeable Xk.G X.w w' bs bs', Xk.β, Xk.O⟩ bs' := by
  have hbown : ∀ b, some b ∈ bs → ∃ n o, some n ∈ own ∧ Blk X n b ∧ X.O n = some o ∧ o.frozen = false := fun b hb => by
    obtain ⟨n, h1, h2⟩ := hal.mem hb
    obtain ⟨o, h3, h4⟩ := hown n h1
    exact ⟨n, o, h1, h2, h3, h4⟩
  have hGbs : ∀ b, some b ∈ bs → ¬ Xk.G b := fun b hb hG => by
    obtain ⟨n, o, h1, h2, h3, h4⟩ := hbown b hb
    rw [hkG] at hG
    rcases haG b hG with h | ⟨m, h5, h6⟩
    · exact (hg.blk h3 h4 h2).1 h
    · obtain ⟨p, hp⟩ := hlo m h5
      cases hf : p.frozen with
      | true => exact (hg.blk h3 h4 h2).1 (hg.frz m p b hp hf h6)
      | false =>
        have := hg.blk_inj hp h3 hf h4 (.inl h6) h2
        subst this
        exact hlent m h5 h1
  have hfree : ∀ m o b, some m ∉ tops → Xk.O m = some o → o.frozen = false → Xk.β m = some b → some b ∉ bs ∧ b < X.w.heap.size := fun m o b hm hmo hf hb => by
    have hmi : some m ∉ inner := fun hmi => by
      obtain ⟨p, hp⟩ := hkS m o hmo
      rw [hkβ m p hmi hp] at hb; cases hb
    obtain ⟨k1, k2⟩ := hkO m hmi
    rw [k1] at hmo
    rw [k2, haβ] at hb
    have hx := haO m o hmo hf
    refine ⟨fun hbs => ?_, hg.lt m o b hx hb⟩
    obtain ⟨n, p, h1, h2, h3, h4⟩ := hbown b hbs
    have := hg.blk_inj hx h3 hf h4 (.inl hb) h2
    subst this
    rcases hperm m h1 with h | h
    · exact hm h
    · exact hmi h
  have hwk : Xk.w = X.w := hkw.trans haw
  have hfreep : ∀ m b, some m ∉ tops → some b ∈ Xk.parts m → some b ∉ bs ∧ b < X.w.heap.size := fun m b hm hb => by
    obtain ⟨o, hmo, hf, k, hk⟩ := parts_obj hb
    have hmi : some m ∉ inner := fun hmi => by
      obtain ⟨p, hp⟩ := hkS m o hmo
      rw [hkβ m p hmi hp] at hk; cases hk
    obtain ⟨k1, k2⟩ := hkO m hmi
    have hx := haO m o (by rw [← k1]; exact hmo) hf
    have hpx : Xk.parts m = X.parts m := parts_eq (by rw [hmo, hx]) (by rw [k2, haβ]) (fun _ _ _ _ _ => by rw [hwk])
    rw [hpx] at hb
    refine ⟨fun hbs => ?_, (hg.part m b hb).2.2.1⟩
    obtain ⟨n, p, h1, h2, h3, h4⟩ := hbown b hbs
    have := hg.blk_inj hx h3 hf h4 (.inr hb) h2
    subst this
    rcases hperm m h1 with h | h
    · exact hm h
    · exact hmi h
  have hagree : ∀ b, Xk.G b → w'.heap[b]? = Xk.w.heap[b]? := fun b hb => by
    rw [hwk]
    exact hst.step.heap b (by rw [← hwk]; exact hgk.glt b hb) (fun h => hGbs b h hb)
  have hE : Ext Xk ⟨w', Seeable Xk.G X.w w' bs bs', Xk.β, Xk.O⟩ := by
    refine ⟨fun b hb => .inl hb, hagree, fun m o hm => ⟨o, hm, Nat.le_refl _, fun _ => ⟨rfl, by cases o.body <;> simp [like], fun t l hbd b c e hb hc => ?_⟩⟩⟩
    by_cases hmt : some m ∈ tops
    · exact hrow m o t l b c e hmt hm hbd hb hc
    refine ⟨c, e, ?_, rfl⟩
    have : w'.heap[b]? = Xk.w.heap[b]? := by
      cases hf : o.frozen with
      | true => exact hagree b (hgk.frz m o b hm hf hb)
      | false =>
        obtain ⟨q1, q2⟩ := hfree m o b hmt hm hf hb
        rw [hwk]; exact hst.step.heap b q2 q1
    exact this.trans hc
  have hpe : ∀ m, some m ∉ tops → Cx.parts ⟨w', Seeable Xk.G X.w w' bs bs', Xk.β, Xk.O⟩ m = Xk.parts m := fun m hm => parts_eq rfl rfl (fun b o ho hf hb => by
    obtain ⟨q1, q2⟩ := hfree m o b hm ho hf hb
    show w'.heap[b]? = Xk.w.heap[b]?
    rw [hwk]; exact hst.step.heap b q2 q1)
  refine ⟨⟨hst.step.os.trans (by rw [← hwk]; exact hgk.os), hst.step.tape.trans (by rw [← hwk]; exact hgk.tape), hst.step.output.trans (by rw [← hwk]; exact hgk.output), Nat.le_trans hg.size hst.step.size, ?_, fun b hb => .inl (hgk.g0 b hb), ?_, ?_, ?_, ?_, ?_, ?_, ?_, ?_⟩, hE, ⟨?_, ?_, ?_, hst.dup⟩⟩
  · intro b hb hi
    refine (hst.step.heap b (Nat.lt_of_lt_of_le hb hg.size) (fun h => ?_)).trans (hg.old b hb hi)
    obtain ⟨n, o, h1, h2, h3, h4⟩ := hbown b h
    rcases (hg.blk h3 h4 h2).2.1 with h5 | h5
    · exact hi h5
    · omega
  · rintro b (hb | ⟨_, hb, _⟩)
    · have := hgk.glt b hb
      rw [hwk] at this
      exact Nat.lt_of_lt_of_le this hst.step.size
    · exact hb
  · rintro b (hb | ⟨hb | hb, _, _⟩)
    · exact hgk.gfrom b hb
    · obtain ⟨n, o, h1, h2, h3, h4⟩ := hbown b hb
      exact .inr (hg.blk h3 h4 h2).2.1
    · exact .inr (.inr (Nat.le_trans hg.size hb))
  · intro m o b hm hmo hf hb
    refine ⟨?_, (hgk.own m o b hmo hf hb).2⟩
    obtain ⟨q1, q2⟩ := hfree m o b hm hmo hf hb
    rintro (h | ⟨h | h, _, _⟩)
    · exact (hgk.own m o b hmo hf hb).1 h
    · exact q1 h
    · exact absurd q2 (Nat.not_lt.2 h)
  · intro m k o p b _ _ hm hk hf hf' hb hb'
    exact hgk.inj m k o p b hm hk hf hf' hb hb'
  · intro m o b _ hm hf hb
    exact .inl (hgk.frz m o b hm hf hb)
  · intro m o b _ hm hb
    have := hgk.lt m o b hm hb
    rw [hwk] at this
    exact Nat.lt_of_lt_of_le this hst.step.size
  · intro m o hmt hm
    refine (hgk.obj m o hm).ext hE hm rfl (fun b hb => ?_) (fun b hb => ?_)
    rotate_right
    · obtain ⟨q1, q2⟩ := hfreep m b hmt hb
      show w'.heap[b]? = Xk.w.heap[b]?
      rw [hwk]; exact hst.step.heap b q2 q1
    cases hf : o.frozen with
    | true => exact hagree b (hgk.frz m o b hm hf hb)
    | false =>
      obtain ⟨q1, q2⟩ := hfree m o b hmt hm hf hb
      show w'.heap[b]? = Xk.w.heap[b]?
      rw [hwk]; exact hst.step.heap b q2 q1
  · intro m b hm hmp
    rw [hpe m hm] at hmp
    obtain ⟨h1, h2, h3, h4, h5⟩ := hgk.part m b hmp
    obtain ⟨q1, q2⟩ := hfreep m b hm hmp
    refine ⟨?_, h2, Nat.lt_of_lt_of_le q2 hst.step.size, fun k p _ hk hf => h4 k p hk hf, fun k hk hkp => h5 k (by rw [hpe k hk] at hkp; exact hkp)⟩
    rintro (h | ⟨h | h, _, _⟩)
    · exact h1 h
    · exact q1 h
    · exact absurd q2 (Nat.not_lt.2 h)
  · intro b hb
    obtain ⟨h1, h2⟩ := hst.at_ b hb
    refine ⟨?_, ?_, h2⟩
    · rintro (h | ⟨_, _, h⟩)
      · rcases h1 with h1 | h1
        · exact hGbs b h1 h
        · have := hgk.glt b h
          rw [hwk] at this
          omega
      · exact h hb
    · rcases h1 with h1 | h1
      · obtain ⟨n, o, h3, h4, h5, h6⟩ := hbown b h1
        exact (hg.blk h5 h6 h4).2.1
      · exact .inr (Nat.le_trans hg.size h1)
  · intro b hb m o hm hmo hf hbm
    obtain ⟨q1, q2⟩ := hfree m o b hm hmo hf hbm
    rcases (hst.at_ b hb).1 with h1 | h1
    · exact q1 h1
    · omega
  · intro b hb m hm hp
    rw [hpe m hm] at hp
    obtain ⟨q1, q2⟩ := hfreep m b hm hp
    rcases (hst.at_ b hb).1 with h1 | h1
    · exact q1 h1
    · omega
end Go.Ev
namespace Go.Ev
open Go.RowKit
variable {R : Type} {B : Base} {P : Program}
def retVal : List Value → Value
  | [v] => v
  | vs => .tuple vs.toArray
/-- a function keeps its contract -/
def Meets [Str] (P : Program) (f : FuncId) (c : Con) : Prop := ∀ (x : dens c.ats) (y : c.α), c.F x = some y → ∀ (w : World) (G : Nat → Prop) (vs : List Value) (bs : List (Option Nat)),
  RRs false w G c.ats x vs bs → (∀ b, some b ∈ bs → ¬ G b ∧ b < w.heap.size) → (somes bs).Nodup → (∀ b, G b → b < w.heap.size) →
  Calls P f vs.toArray w fun e w' => ∃ us bs1 bs2, e = .returned (retVal us) ∧ RRs true w' (Seeable G w w' bs (bs1 ++ bs2)) c.ats (c.up x y) vs bs1 ∧ RRs false w' (Seeable G w w' bs (bs1 ++ bs2)) c.rts (c.res y) us bs2 ∧ Own w w' bs (bs1 ++ bs2)
def FnOK (P : Program) (f : FuncId) : Prop := ∃ fn, P.funcs[f]? = some fn ∧ (fn.name == "runtime.NumGoroutine") = false ∧ fn.body.isNone = false
structure EnvOK [Str] (P : Program) (E : Env) : Prop where
  tab : TabOK P E
  con : ∀ f c, c ∈ E.con f → Meets P f c ∧ FnOK P f
  fns : ∀ t, E.fns t = true → FnTyOK P t
theorem HVs.ret {X : Cx} {l : List SV} {us : List Value} (h : HVs X l us) : HV X (retV l) (retVal us) := by
  match l, us, h with
  | [], [], _ => exact ⟨#[], rfl, rfl⟩
  | [s], us, ⟨v, l', e, h1, h2⟩ => cases h2; subst e; exact h1
  | s :: t :: r, us, h =>
    obtain ⟨v, l', e, h1, v', l'', e', h2⟩ := h
    subst e e'
    exact ⟨_, rfl, v, _, rfl, h1, v', l'', rfl, h2⟩
theorem choose_mem : ∀ {cs : List Con} {l : List SV} {c : Con}, choose cs l = some c → c ∈ cs
  | [], _, _, h => by cases h
  | d :: cs, l, c, h => by
    simp only [choose] at h
    cases hf : fits d.ats l with
    | true => rw [hf] at h; cases h; simp
    | false => rw [hf] at h; exact List.mem_cons_of_mem _ (choose_mem h)
theorem chooseV_mem : ∀ {cs : List Con} {l : List SV} {c : Con}, chooseV cs l = some c → c ∈ cs
  | [], _, _, h => by cases h
  | d :: cs, l, c, h => by
    simp only [chooseV] at h
    cases hf : (noIp d.ats && fits d.ats l) with
    | true => rw [hf] at h; cases h; simp
    | false => rw [hf] at h; exact List.mem_cons_of_mem _ (chooseV_mem h)
theorem Seeable.mono {G G' : Nat → Prop} {w w' : World} {bs bs' : List (Option Nat)} (h : ∀ b, G b → G' b) : ∀ b, Seeable G w w' bs bs' b → Seeable G' w w' bs bs' b := fun b hb => hb.imp (h b) id
theorem somes_perm {a b : List (Option Nat)} (h : a.Perm b) : (somes a).Perm (somes b) := by
  induction h with
  | nil => exact .refl _
  | cons x _ ih => cases x with
    | none => exact ih
    | some x => exact .cons x ih
  | swap x y l =>
    cases x with
    | none => cases y <;> exact .refl _
    | some x => cases y with
      | none => exact .refl _
      | some y => exact .swap x y (somes l)
  | trans _ _ h1 h2 => exact h1.trans h2
theorem nodup_somes_perm [Str] {a b : List (Option Nat)} (h : a.Perm b) (hd : (somes a).Nodup) : (somes b).Nodup := (somes_perm h).nodup_iff.1 hd
/-- what a call that keeps a contract has done -/
theorem of_callC1 [Str] {X : Cx} {f : FuncId} {c : Con} (hM : Meets P f c) (hg : Good B X) {l : List SV} {vs : List Value} (hl : HVs X l vs) {nm : Nat} {K : SV → Objs → Option R} {r : R} (h : (callC1 c l nm).run X.O K = some r) :
    Calls P f vs.toArray X.w fun e w' => ∃ (v : Value) (s : SV) (X' : Cx), e = .returned v ∧ X'.w = w' ∧ K s X'.O = some r ∧ Good B X' ∧ Ext X X' ∧ HV X' s v := by
  unfold callC1 at h
  rw [run_bind] at h
  obtain ⟨x, ns, bs, h1, hD⟩ := of_decs hg c.ats hl h
  clear h
  rw [run_bind] at h1
  obtain ⟨hok, h2⟩ := of_sure h1
  rw [run_bind] at h2
  obtain ⟨y, hy, h3⟩ := of_come h2
  clear h1 h2
  rw [run_bind] at h3
  simp only [Names.ok, Bool.and_eq_true] at hok
  have hnd := nodupN_iff hok.1
  have hap := apartN_iff hok.2
  obtain ⟨hT, hperm⟩ := hD.top rfl
  have hlt : ∀ n ∈ ns.lent, some n ∉ ns.own := fun n hn h => hap n hn (mem_somes.2 h)
  -- the call
  have hrr := hD.rr (fun b => ∃ n ∈ ns.lent, X.β n = some b) (fun n hn b hb => ⟨n, hn, hb⟩)
  have hbown : ∀ b, some b ∈ bs → ∃ n o, some n ∈ ns.own ∧ Blk X n b ∧ X.O n = some o ∧ o.frozen = false := fun b hb => by
    obtain ⟨n, h1, h2⟩ := hD.along.mem hb
    obtain ⟨o, h3, h4⟩ := hD.own n h1
    exact ⟨n, o, h1, h2, h3, h4⟩
  have hcall := hM x y hy X.w _ vs bs hrr (fun b hb => by
    obtain ⟨n, o, q1, q2, q3, q4⟩ := hbown b hb
    refine ⟨?_, (hg.blk q3 q4 q2).2.2⟩
    rintro (hG | ⟨m, hm, hmb⟩)
    · exact (hg.blk q3 q4 q2).1 hG
    · obtain ⟨p, hp⟩ := hD.lent m hm
      cases hf : p.frozen with
      | true => exact (hg.blk q3 q4 q2).1 (hg.frz m p b hp hf hmb)
      | false =>
        have := hg.blk_inj hp q3 hf q4 (.inl hmb) q2
        subst this
        exact hlt m hm q1) (hD.along.nodup hg hnd hD.own) (fun b hb => by
    rcases hb with hG | ⟨m, hm, hmb⟩
    · exact hg.glt b hG
    · obtain ⟨p, hp⟩ := hD.lent m hm
      exact hg.lt m p b hp hmb)
  refine hcall.mono ?_
  rintro e w' ⟨us, bs1, bs2, rfl, hr1, hr2, hown⟩
  -- what was lent, what was owned inside
  obtain ⟨Xa, a1, a2, a3, a4, a5, a6, a7, a8⟩ := of_freezes _ hg h3
  rw [run_bind] at a1
  obtain ⟨Xk, k1, k2, k3, k4, k5, k6, k7⟩ := of_kills _ a2 a1
  rw [run_bind] at k1
  have hlist : ∀ m, m ∈ (match c.plain with | true => [] | false => ns.lent) → m ∈ ns.lent := fun m hm => by
    cases hp : c.plain with
    | true => rw [hp] at hm; cases hm
    | false => rw [hp] at hm; exact hm
  have hperm' : ∀ n, some n ∈ ns.own → some n ∈ topsL c.ats l ∨ some n ∈ ns.inner := fun n hn => List.mem_append.1 (hperm.mem_iff.1 hn)
  have hnd2 : (somes (topsL c.ats l ++ ns.inner)).Nodup := nodup_somes_perm hperm hnd
  rw [somes_append, List.nodup_append] at hnd2
  have hti : ∀ n, some n ∈ topsL c.ats l → some n ∉ ns.inner := fun n h1 h2 => hnd2.2.2 n (mem_somes.2 h1) n (mem_somes.2 h2) rfl
  have htl : ∀ n, some n ∈ topsL c.ats l → n ∉ (match c.plain with | true => [] | false => ns.lent) := fun n h1 h2 => hlt n (hlist n h2) (hperm.mem_iff.2 (List.mem_append_left _ h1))
  have hTk : TopL Xk.O c.ats l := hT.congr fun n hn => by rw [(k6 n (hti n hn)).1, a7 n (htl n hn)]
  obtain ⟨g1, g2, g3⟩ := hg.gone (Xa := Xa) (Xk := Xk) (inner := ns.inner) (tops := topsL c.ats l) hD.along hD.own hnd hperm' hlt hD.lent a2 a4 a5 (fun b hb => by
      rcases (a6 b).1 hb with h | ⟨n, hn, o, ho, hb⟩
      · exact .inl h
      · exact .inr ⟨n, hlist n hn, hb⟩) (fun m o hm hf => by
      by_cases hmem : m ∈ (match c.plain with | true => [] | false => ns.lent)
      · rw [a8 m o hmem hm] at hf; cases hf
      · rw [← a7 m hmem]; exact hm) k2 k4 k5 (fun m hm => k6 m hm) k7 (fun m o hm => by
      by_cases hmi : some m ∈ ns.inner
      · obtain ⟨p, hp, _⟩ := hD.own m (hperm.mem_iff.2 (List.mem_append_right _ hmi))
        obtain ⟨q, hq, _⟩ := a3.obj m p hp
        exact ⟨q, hq⟩
      · exact ⟨o, by rw [← (k6 m hmi).1]; exact hm⟩) (fun n o t m b c0 e0 hn ho hs hb hc => topsRow hTk ((hl.ext a3).ext k3) hr1 hn ho hs hb hc) hown
  -- what was owned outright, what is given
  have hnew : ∀ b, Seeable (fun b => X.G b ∨ ∃ n ∈ ns.lent, X.β n = some b) X.w w' bs (bs1 ++ bs2) b → c.plain = false → Seeable Xk.G X.w w' bs (bs1 ++ bs2) b := fun b hb hp => Seeable.mono (fun b hb => by
    rw [k5]
    refine (a6 b).2 ?_
    rcases hb with hb | ⟨n, hn, hb⟩
    · exact .inl hb
    · obtain ⟨o, ho⟩ := hD.lent n hn
      exact .inr ⟨n, by rw [hp]; exact hn, o, ho, hb⟩) b hb
  have hr1' : RRs true w' (Seeable Xk.G X.w w' bs (bs1 ++ bs2)) c.ats (c.up x y) vs bs1 := by
    cases hp : c.plain with
    | true =>
      simp only [Con.plain, Bool.and_eq_true] at hp
      exact hr1.fixed hp.2
    | false => exact hr1.imp (fun b hb => hnew b hb hp) (fun _ _ => rfl) (fun _ _ => rfl)
  have hr2' : RRs false w' (Seeable Xk.G X.w w' bs (bs1 ++ bs2)) c.rts (c.res y) us bs2 := by
    cases hp : c.plain with
    | true =>
      simp only [Con.plain, Bool.and_eq_true] at hp
      exact hr2.scalar hp.1
    | false => exact hr2.imp (fun b hb => hnew b hb hp) (fun _ _ => rfl) (fun _ _ => rfl)
  obtain ⟨X2, nm2, t1, t2, t3⟩ := of_turns c.ats (X := ⟨w', Seeable Xk.G X.w w' bs (bs1 ++ bs2), Xk.β, Xk.O⟩) g1 (((hl.ext a3).ext k3).ext g2) hTk hr1' g3.left hnd2.1 (fun n hn => hn) k1
  rw [run_bind] at t1
  have t2' : Good B X2 := t2.weaken (fun m hm => (hm.2 hm.1).elim)
  have hfree2 : Free (fun _ => False) B X2 bs2 := by
    have hfd := g3.dup
    rw [somes_append, List.nodup_append] at hfd
    refine ⟨fun b hb => ?_, fun b hb m o _ hmo hfr hbm => ?_, fun b hb m _ hp => ?_, hfd.2.1⟩
    rotate_right
    · rcases t3.newp m b (fun hm => hm.2 hm.1) hp with ⟨q1, q2⟩ | q1
      · exact g3.part b (List.mem_append_right _ hb) m q1 q2
      · exact hfd.2.2 b (mem_somes.2 q1) b (mem_somes.2 hb) rfl
    · rw [t3.G, t3.w]; exact g3.g b (List.mem_append_right _ hb)
    · rcases t3.new m o b (fun hm => hm.2 hm.1) hmo hfr hbm with ⟨q1, q2, q3⟩ | q1
      · exact g3.none b (List.mem_append_right _ hb) m o q1 q2 hfr q3
      · exact hfd.2.2 b (mem_somes.2 q1) b (mem_somes.2 hb) rfl
  obtain ⟨sl, X3, nm3, e1, e2, e3, e4⟩ := of_encs c.rts t2' (by rw [t3.w, t3.G]; exact hr2') hfree2 t1
  exact ⟨retVal us, retV sl, X3, rfl, e3.w.trans t3.w, e1, e2, ((a3.trans k3).trans g2).trans (t3.ext.trans e3.ext), e4.ret⟩
theorem of_callC [Str] {X : Cx} {f : FuncId} {c : Con} (hM : Meets P f c) (hg : Good B X) {l : List SV} {vs : List Value} (hl : HVs X l vs) {nm : Nat} {K : SV → Objs → Option R} {r : R} (h : (callC c l nm).run X.O K = some r) :
    Calls P f vs.toArray X.w fun e w' => ∃ (v : Value) (s : SV) (X' : Cx), e = .returned v ∧ X'.w = w' ∧ K s X'.O = some r ∧ Good B X' ∧ Ext X X' ∧ HV X' s v := by
  unfold callC at h
  rw [run_bind] at h
  obtain ⟨Xr, h, hgr, her, hwr⟩ := of_readyRs _ _ hg h
  rw [← hwr]
  refine (of_callC1 hM hgr (hl.ext her) h).mono ?_
  rintro e w' ⟨v, s, X', a1, a2, a3, a4, a5, a6⟩
  exact ⟨v, s, X', a1, a2, a3, a4, her.trans a5, a6⟩
section
variable {E : Env} {X : Cx} {tm : Nat → SV} {a : Act} {o : Oper} {nm : Nat} {K : SV → Objs → Option R} {r : R} {next : Act → World → Prop} {Q : Exit → Act → World → Prop}
theorem op_call [Str] (hE : EnvOK P E) (hg : Good B X) (htm : ∀ t, HV X (tm t) (a.eval (.tmp t))) (hn : Then B X a o.dst K r next) {c : Call} (ho : o.op = .call c) {f : Operand} (hc : c.callee = .value f)
    (h : (match evalS tm f with
      | .func f first caps => callP (E.con f) (first ++ evl tm c.args.toList ++ caps) nm
      | _ => .fail).run X.O K = some r) : o.wp P a X.w next Q := by
  have hf := HV.eval htm f
  split at h
  · rename_i fid first caps hs
    rw [hs] at hf
    obtain ⟨a1, a2, hval, v1, v2⟩ := hf
    have key : ∀ con : Con, con ∈ E.con fid → (callC con (first ++ evl tm c.args.toList ++ caps) nm).run X.O K = some r → o.wp P a X.w next Q := fun con hmem h => by
      obtain ⟨hM, fn, f1, f2, f3⟩ := hE.con fid con hmem
      have hvs : HVs X (first ++ evl tm c.args.toList ++ caps) (a1.toList ++ c.args.toList.map a.eval ++ a2.toList) := (v1.append (HVs.evl htm _)).append v2
      have hcall := of_callC hM hg hvs h
      have hexec : (execOp a.eval o).run P X.w = .ok (.enter fid (a1.toList ++ c.args.toList.map a.eval ++ a2.toList).toArray) X.w := by
        have e1 : (a1 ++ c.args.map a.eval ++ a2) = (a1.toList ++ c.args.toList.map a.eval ++ a2.toList).toArray := by apply Array.ext'; simp
        have f2' : ¬ fn.name = "runtime.NumGoroutine" := by simpa using f2
        have f3' : ¬ fn.body = none := fun e => by rw [e] at f3; cases f3
        simp [execOp, ho, resolve, hc, hval, Deferred.ofValue, invoke, callFunc, f1, f2', f3']
      unfold Oper.wp
      rw [hexec]
      simp only [Oper.upon]
      refine hcall.mono ?_
      rintro e w' ⟨v, s, X', rfl, rfl, h1, h2, h3, h4⟩
      exact hn s X' v h1 h2 h3 h4
    unfold callP at h
    split at h
    · cases h
    · rename_i con hch
      split at h
      · exact key con (choose_mem hch) h
      · rw [run_bind, run_get] at h
        split at h
        · rw [run_ask] at h
          split at h
          · exact key con (choose_mem hch) h
          · split at h
            · rename_i con' hch'
              exact key con' (chooseV_mem hch') h
            · cases h
        · simp [run_fail'] at h
  · cases h
end
end Go.Ev
namespace Go.Ev
open Go.RowKit
section
variable {P : Program} {E : Env} {B : Base} {X : Cx} {tm : Nat → SV} {a : Act} {o : Oper} {nm : Nat} {R : Type} {K : SV → Objs → Option R} {r : R} {next : Act → World → Prop} {Q : Exit → Act → World → Prop}
theorem Then.ext [Str] {X' : Cx} {d : Option Nat} (h : Then B X a d K r next) (hx : Ext X X') : Then B X' a d K r next := fun v X2 val hk hg hx2 hv => h v X2 val hk hg (hx.trans hx2) hv
theorem op_sound [Str] (hE : EnvOK P E) (hg : Good B X) (htm : ∀ t, HV X (tm t) (a.eval (.tmp t))) (hn : Then B X a o.dst K r next) (h : (opP E o tm nm).run X.O K = some r) : o.wp P a X.w next Q := by
  have hT := hE.tab
  unfold opP at h
  split at h
  case h_1 x ho => exact op_move hg htm hn (.inl ho) h
  case h_2 x ho => exact op_move hg htm hn (.inr ho) h
  case h_3 c x y ho => exact op_pick hg htm hn ho h
  case h_4 e ho =>
    split at h
    · exact op_allocF hg hn ho (hE.fns e) h
    · exact op_alloc hT hg hn ho h
  case h_5 e x ho => exact op_box hg htm hn ho h
  case h_6 t parts ho => exact op_build hT hg htm hn ho h
  case h_7 t n parts ho =>
    rw [run_bind] at h
    obtain ⟨Xr, h, hgr, hxr, hwr⟩ := of_readyRs _ _ hg h
    rw [run_bind] at h
    obtain ⟨X', h1, hg', hx, hw, _⟩ := of_freezes _ hgr h
    rw [← hwr, ← hw]
    exact op_buildSlice hT hg' (fun t => ((htm t).ext hxr).ext hx) ((hn.ext hxr).ext hx) ho h1
  case h_8 t x ho =>
    split at h
    · exact op_loadF hg htm hn ho (hE.fns t) h
    · exact op_load hT hg htm hn ho h
  case h_9 t x y ho =>
    split at h
    · exact op_storeF hg htm hn ho (hE.fns t) h
    · rw [run_bind] at h
      obtain ⟨ns, h⟩ := of_storeRows h
      rw [run_bind] at h
      obtain ⟨Xr, h, hgr, hxr, hwr⟩ := of_readyRs _ _ hg h
      rw [run_bind] at h
      obtain ⟨X', h1, hg', hx, hw, _⟩ := of_freezes _ hgr h
      rw [← hwr, ← hw]
      exact op_store hT hg' (fun t => ((htm t).ext hxr).ext hx) ((hn.ext hxr).ext hx) ho h1
  case h_10 x ho => exact op_nilCheck hg htm hn ho h
  case h_11 op t x y u ho => exact op_bin hT hg htm hn ho h
  case h_12 op t x ho => exact op_un hg htm hn ho h
  case h_13 src dst x ho => exact op_convert hT hg htm hn ho h
  case h_14 f xs ys ho => exact op_makeFunc hg htm hn ho h
  case h_15 t x y ho => exact op_makeSlice hT hg htm hn ho h
  case h_16 t x lo hi ho => exact op_slice hT hg htm hn ho h
  case h_17 s x f ho => exact op_fieldAddr hT hg htm hn ho h
  case h_18 s x f ho => exact op_field hT hg htm hn ho h
  case h_19 t x ix ho => exact op_indexAddr hT hg htm hn ho h
  case h_20 t x ix ho => exact op_index hT hg htm hn ho h
  case h_21 x i ho => exact op_extract hg htm hn ho h
  case h_22 c ho =>
    split at h
    case h_1 f hc => exact op_call hE hg htm hn ho hc h
    case h_2 hc => exact op_append hT hg htm hn ho hc h
    case h_3 hc => exact op_cap hT hg htm hn ho hc h
    case h_4 hc => exact op_clear hT hg htm hn ho hc h
    case h_5 hc => exact op_copy hT hg htm hn ho hc h
    case h_6 hc => exact op_len hT hg htm hn ho hc h
    case h_7 hc => exact op_max hg htm hn ho hc h
    case h_8 hc => exact op_min hg htm hn ho hc h
    case h_9 => cases h
  case h_23 => cases h
/-! regions -/
/-- slots and objects, as they are in a frame -/
structure Rel [Str] (Z : Cx) (B : Base) (E : Env) (keep : Nat → Bool) (a0 : Array Value) (S : St) (a : Act) (X : Cx) : Prop where
  good : Good B X
  ext : Ext Z X
  objs : X.O = S.objs
  slot : ∀ t, HV X (S.tmps t) (a.tmps.getD t undef)
  size : a.tmps.size = E.ntmps
  kept : ∀ t, keep t = true → a.tmps.getD t undef = a0.getD t undef
  defers : a.defers = []
theorem Rel.put [Str] {Z : Cx} {keep : Nat → Bool} {a0 : Array Value} {S : St} (h : Rel Z B E keep a0 S a X) {d : Option Nat} (hd : dstOk keep E.ntmps d = true) {X' : Cx} (hg : Good B X') (hx : Ext X X') {v : SV} {val : Value} (hv : HV X' v val) :
    Rel Z B E keep a0 (S.put d v X'.O) (a.put d val) X' := by
  cases d with
  | none => exact ⟨hg, h.ext.trans hx, rfl, fun t => (h.slot t).ext hx, h.size, h.kept, h.defers⟩
  | some d =>
    simp only [dstOk, Bool.and_eq_true, Bool.not_eq_true'] at hd
    have hlt : d < a.tmps.size := by rw [h.size]; exact Nat.lt_of_lt_of_le (Nat.lt_succ_self d) (Nat.le_of_ble_eq_true hd.2)
    refine ⟨hg, h.ext.trans hx, rfl, fun t => ?_, by simp [Act.put, h.size], fun t ht => ?_, h.defers⟩
    · by_cases e : t = d
      · subst e
        simp only [St.put, Nat.beq_refl, cond_true, Act.put]
        simpa [hlt] using hv
      · simp only [St.put, beq_false e, cond_false, Act.put]
        have e1 : (a.tmps.setIfInBounds d val).getD t undef = a.tmps.getD t undef := by
          simp only [Array.getD_eq_getD_getElem?]
          rw [Array.getElem?_setIfInBounds_ne (Ne.symm e)]
        rw [e1]
        exact (h.slot t).ext hx
    · have hne : t ≠ d := fun e => by subst e; rw [hd.1] at ht; cases ht
      have e1 : (a.put (some d) val).tmps.getD t undef = a.tmps.getD t undef := by
        simp only [Act.put, Array.getD_eq_getD_getElem?]
        rw [Array.getElem?_setIfInBounds_ne (Ne.symm hne)]
      rw [e1]
      exact h.kept t ht
theorem Rel.know [Str] {Z : Cx} {keep : Nat → Bool} {a0 : Array Value} {S : St} (h : Rel Z B E keep a0 S a X) {d : Nat} {b : Bool} (hd : S.tmps d = .bool b) {c : Bool} (hc : b = c) : Rel Z B E keep a0 (S.put (some d) (.bool c) S.objs) a X := by
  subst hc
  refine ⟨h.good, h.ext, h.objs, fun t => ?_, h.size, h.kept, h.defers⟩
  by_cases e : t = d
  · subst e
    simp only [St.put, Nat.beq_refl, cond_true]
    rw [← hd]; exact h.slot t
  · simp only [St.put, beq_false e, cond_false]
    exact h.slot t
theorem yielded_of [Str] {Z : Cx} {keep : Nat → Bool} {a0 : Array Value} {S : St} (h : Rel Z B E keep a0 S a X) {ops : Array Oper} {j d : Nat} (hd : dstAt ops.toList j = some d) {b : Bool} (hb : S.tmps d = .bool b) (hlt : d < E.ntmps) : yielded ops a.tmps j = some b := by
  have hv := h.slot d
  rw [hb] at hv
  have hv : a.tmps.getD d undef = .bool b := hv
  have e1 : (ops[j]?).bind (·.dst) = some d := by
    unfold dstAt at hd
    simp only [Array.getElem?_toList] at hd
    split at hd
    · rename_i o ho; rw [ho]; exact hd
    · cases hd
  have hlt' : d < a.tmps.size := by rw [h.size]; exact hlt
  have hv' : a.tmps[d]? = some (.bool b) := by
    rw [Array.getElem?_eq_getElem hlt']
    rw [Array.getD_eq_getD_getElem?, Array.getElem?_eq_getElem hlt'] at hv
    simpa using hv
  unfold yielded
  rw [e1]
  simp [hv']
theorem yielded_skip [Str] {Z : Cx} {keep : Nat → Bool} {a0 : Array Value} {S : St} (h : Rel Z B E keep a0 S a X) {ops : Array Oper} {j d : Nat} (hd : dstAt ops.toList j = some d) (hb : S.tmps d = .tup []) (b : Bool) : ¬ yielded ops a.tmps j = some b := by
  have hv := h.slot d
  rw [hb] at hv
  obtain ⟨c, hv, _⟩ := hv
  have e1 : (ops[j]?).bind (·.dst) = some d := by
    unfold dstAt at hd
    simp only [Array.getElem?_toList] at hd
    split at hd
    · rename_i o ho; rw [ho]; exact hd
    · cases hd
  unfold yielded
  rw [e1]
  intro hy
  by_cases hl : d < a.tmps.size
  · have hv' : a.tmps[d]? = some (.tuple c) := by
      rw [Array.getElem?_eq_getElem hl]
      rw [Array.getD_eq_getD_getElem?, Array.getElem?_eq_getElem hl] at hv
      simpa using hv
    simp [hv'] at hy
  · have hv' : a.tmps[d]? = none := Array.getElem?_eq_none (by omega)
    simp [hv'] at hy
theorem skipV {X : Cx} : HV X (.tup []) undef := ⟨#[], rfl, rfl⟩
theorem reg_sound [Str] {Z : Cx} (hE : EnvOK P E) {keep : Nat → Bool} {a0 : Array Value} {ops : Array Oper} {K : St → Option R} (hK : ∀ S a X, K S = some r → Rel Z B E keep a0 S a X → Q .normal a X.w) :
    ∀ (os : List Oper) (i : Nat) {S : St} {a : Act} {X : Cx}, ops.toList.drop i = os → Rel Z B E keep a0 S a X → regK E keep ops.toList os i S K = some r → wpOps P ops Q (List.range' i os.length) a X.w
  | [], i, S, a, X, _, hr, h => hK S a X h hr
  | o :: os, i, S, a, X, hd, hr, h => by
    have hoi : ops[i]? = some o := by
      rw [← Array.getElem?_toList]
      have := congrArg (fun l => l[0]?) hd
      simpa using this
    have hd' : ops.toList.drop (i + 1) = os := by
      have := congrArg (List.drop 1) hd
      simpa using this
    rw [List.length_cons, List.range'_succ]
    simp only [wpOps, hoi]
    simp only [regK] at h
    cases hk : dstOk keep E.ntmps o.dst with
    | false => rw [hk] at h; cases h
    | true =>
      rw [hk] at h
      simp only [cond_true] at h
      have hrun : ∀ {S' : St}, Rel Z B E keep a0 S' a X → ((opP E o S'.tmps (nmOf i o.dst)).run S'.objs fun v O => regK E keep ops.toList os (i + 1) (S'.put o.dst v O) K) = some r → o.wp P a X.w (wpOps P ops Q (List.range' (i + 1) os.length)) Q := fun {S'} hr' h' => by
        rw [← hr'.objs] at h'
        refine op_sound hE hr'.good hr'.slot ?_ h'
        intro v X' val hk' hg' hx' hv'
        exact reg_sound hE hK os (i + 1) hd' (hr'.put hk hg' hx' hv') hk'
      cases hgd : o.guard with
      | none =>
        rw [hgd] at h
        rw [if_pos (by simp [Region.wanted, hgd])]
        exact .inl (hrun hr h)
      | some jw =>
        obtain ⟨j, want⟩ := jw
        rw [hgd] at h
        simp only at h
        split at h
        · rename_i d hdj
          split at h
          · rename_i b hb
            have hlt : d < E.ntmps := by
              by_cases hl : d < E.ntmps
              · exact hl
              · exfalso
                have hv := hr.slot d
                rw [hb] at hv
                have hv : a.tmps.getD d undef = .bool b := hv
                rw [Array.getD_eq_getD_getElem?, Array.getElem?_eq_none (by rw [hr.size]; omega)] at hv
                cases hv
            have hy := yielded_of hr hdj hb hlt
            by_cases hbw : b = want
            · rw [if_pos hbw] at h
              rw [if_pos (by simp [Region.wanted, hgd, hy, hbw])]
              exact .inl (hrun (hr.know hb hbw) h)
            · rw [if_neg hbw] at h
              rw [if_neg (by simp [Region.wanted, hgd, hy, hbw])]
              have hbn : b = !want := by cases b <;> cases want <;> simp at hbw ⊢
              have hr2 := (hr.know hb hbn).put (d := o.dst) hk hr.good (.refl X) (v := .tup []) (val := undef) skipV
              rw [hr.objs] at hr2
              exact reg_sound hE hK os (i + 1) hd' hr2 h
          · rename_i hb
            rw [if_neg (by simp [Region.wanted, hgd, yielded_skip hr hdj hb])]
            have hr2 := hr.put (d := o.dst) hk hr.good (.refl X) (v := .tup []) (val := undef) skipV
            rw [hr.objs] at hr2
            exact reg_sound hE hK os (i + 1) hd' hr2 h
          · cases h
        · cases h
end
end Go.Ev
namespace Go.Ev
open Go.RowKit
variable {R : Type} {B : Base} {P : Program}
def exOf : Ex → Exit | .normal => .normal | .exit id => .exit id | .goto l => .goto l | .ret => .ret
def valsAt (a : Act) : List (Nat × RT) → List Value | [] => [] | (t, _) :: r => a.tmps.getD t undef :: valsAt a r
/-- a piece of code keeps its contract -/
def CutMeets [Str] (P : Program) (code : Code) (nt : Nat) (c : Cut) : Prop := ∀ x y z, c.F x y = some z → ∀ (a : Act) (w : World) (G : Nat → Prop) (bs bs' : List (Option Nat)), a.tmps.size = nt → a.defers = [] →
  RRs false w G (rtsOf c.fix) x (valsAt a c.fix) bs → RRs false w G (rtsOf c.ins) y (valsAt a c.ins) bs' → (∀ b, some b ∈ bs ++ bs' → ¬ G b ∧ b < w.heap.size) → (somes (bs ++ bs')).Nodup → (∀ b, G b → b < w.heap.size) →
  code.wp P (fun e a' w' => ∃ bs1 bs2, e = exOf (wayAt c.ways (c.out z).1).ex ∧ a'.tmps.size = nt ∧ a'.defers = [] ∧ (∀ t, memN t c.writes = false → a'.tmps.getD t undef = a.tmps.getD t undef) ∧
    RRs true w' (Seeable G w w' (bs ++ bs') (bs1 ++ bs2)) (rtsOf c.fix) (c.up x z) (valsAt a c.fix) bs1 ∧
    RRs false w' (Seeable G w w' (bs ++ bs') (bs1 ++ bs2)) (rtsOf (wayAt c.ways (c.out z).1).outs) (c.out z).2 (valsAt a' (wayAt c.ways (c.out z).1).outs) bs2 ∧ Own w w' (bs ++ bs') (bs1 ++ bs2)) a w
theorem HVs.slots {X : Cx} {tm : Nat → SV} {a : Act} (h : ∀ t, HV X (tm t) (a.tmps.getD t undef)) : ∀ D : List (Nat × RT), HVs X (slots tm D) (valsAt a D)
  | [] => rfl
  | (t, _) :: r => ⟨_, _, rfl, h t, HVs.slots h r⟩
/-- what a piece of code that keeps a contract has done -/
theorem of_cutP1 [Str] {X : Cx} {code : Code} {nt : Nat} {c : Cut} (hM : CutMeets P code nt c) (hg : Good B X) {tm : Nat → SV} {a : Act} (hl : ∀ t, HV X (tm t) (a.tmps.getD t undef)) (hsz : a.tmps.size = nt) (hdf : a.defers = []) {nm : Nat} {K : (i : Nat) × List SV → Objs → Option R} {r : R}
    (h : (cutP1 c tm nm).run X.O K = some r) :
    code.wp P (fun e a' w' => ∃ (i : Nat) (l : List SV) (X' : Cx), e = exOf (wayAt c.ways i).ex ∧ X'.w = w' ∧ K ⟨i, l⟩ X'.O = some r ∧ Good B X' ∧ Ext X X' ∧ HVs X' l (valsAt a' (wayAt c.ways i).outs) ∧ a'.tmps.size = nt ∧ a'.defers = [] ∧
      (∀ t, memN t c.writes = false → a'.tmps.getD t undef = a.tmps.getD t undef)) a X.w := by
  unfold cutP1 at h
  rw [run_bind] at h
  obtain ⟨x, ns, bs, h1, hD⟩ := of_decs hg (rtsOf c.fix) (HVs.slots hl c.fix) h
  clear h
  rw [run_bind] at h1
  obtain ⟨x', ns', bs', h2, hD'⟩ := of_decs hg (rtsOf c.ins) (HVs.slots hl c.ins) h1
  clear h1
  rw [run_bind] at h2
  obtain ⟨hok, h3⟩ := of_sure h2
  rw [run_bind] at h3
  obtain ⟨z, hz, h4⟩ := of_comeS h3
  clear h2 h3
  rw [run_bind] at h4
  simp only [Names.ok, Names.add, Bool.and_eq_true] at hok
  have hnd := nodupN_iff hok.1
  have hap := apartN_iff hok.2
  obtain ⟨hT, hperm⟩ := hD.top rfl
  have hlt : ∀ n ∈ ns.lent ++ ns'.lent, some n ∉ ns.own ++ ns'.own := fun n hn h => hap n hn (mem_somes.2 h)
  have hal := hD.along.append hD'.along
  have hown0 : ∀ n, some n ∈ ns.own ++ ns'.own → ∃ o, X.O n = some o ∧ o.frozen = false := fun n hn => (List.mem_append.1 hn).elim (hD.own n) (hD'.own n)
  have hlent0 : ∀ n ∈ ns.lent ++ ns'.lent, ∃ o, X.O n = some o := fun n hn => (List.mem_append.1 hn).elim (hD.lent n) (hD'.lent n)
  have hrr := hD.rr (fun b => ∃ n ∈ ns.lent ++ ns'.lent, X.β n = some b) (fun n hn b hb => ⟨n, List.mem_append_left _ hn, hb⟩)
  have hrr' := hD'.rr (fun b => ∃ n ∈ ns.lent ++ ns'.lent, X.β n = some b) (fun n hn b hb => ⟨n, List.mem_append_right _ hn, hb⟩)
  have hbown : ∀ b, some b ∈ bs ++ bs' → ∃ n o, some n ∈ ns.own ++ ns'.own ∧ Blk X n b ∧ X.O n = some o ∧ o.frozen = false := fun b hb => by
    obtain ⟨n, h1, h2⟩ := hal.mem hb
    obtain ⟨o, h3, h4⟩ := hown0 n h1
    exact ⟨n, o, h1, h2, h3, h4⟩
  have hcall := hM x x' z hz a X.w _ bs bs' hsz hdf hrr hrr' (fun b hb => by
    obtain ⟨n, o, q1, q2, q3, q4⟩ := hbown b hb
    refine ⟨?_, (hg.blk q3 q4 q2).2.2⟩
    rintro (hG | ⟨m, hm, hmb⟩)
    · exact (hg.blk q3 q4 q2).1 hG
    · obtain ⟨p, hp⟩ := hlent0 m hm
      cases hf : p.frozen with
      | true => exact (hg.blk q3 q4 q2).1 (hg.frz m p b hp hf hmb)
      | false =>
        have := hg.blk_inj hp q3 hf q4 (.inl hmb) q2
        subst this
        exact hlt m hm q1) (hal.nodup hg hnd hown0) (fun b hb => by
    rcases hb with hG | ⟨m, hm, hmb⟩
    · exact hg.glt b hG
    · obtain ⟨p, hp⟩ := hlent0 m hm
      exact hg.lt m p b hp hmb)
  refine wp_mono hcall ?_
  rintro e a' w' ⟨bs1, bs2, he, hsz', hdf', hkeep, hr1, hr2, hown⟩
  obtain ⟨Xa, a1, a2, a3, a4, a5, a6, a7, a8⟩ := of_freezes _ hg h4
  rw [run_bind] at a1
  obtain ⟨Xk, k1, k2, k3, k4, k5, k6, k7⟩ := of_kills _ a2 a1
  rw [run_bind] at k1
  have hlist : ∀ m, m ∈ (match c.plain (c.out z).1 with | true => [] | false => ns.lent ++ ns'.lent) → m ∈ ns.lent ++ ns'.lent := fun m hm => by
    cases hp : c.plain (c.out z).1 with
    | true => rw [hp] at hm; cases hm
    | false => rw [hp] at hm; exact hm
  have hperm2 : (ns.own ++ ns'.own).Perm (topsL (rtsOf c.fix) (slots tm c.fix) ++ (ns.inner ++ ns'.own)) := by
    rw [← List.append_assoc]; exact hperm.append_right _
  have hperm' : ∀ n, some n ∈ ns.own ++ ns'.own → some n ∈ topsL (rtsOf c.fix) (slots tm c.fix) ∨ some n ∈ ns.inner ++ ns'.own := fun n hn => List.mem_append.1 (hperm2.mem_iff.1 hn)
  have hnd2 : (somes (topsL (rtsOf c.fix) (slots tm c.fix) ++ (ns.inner ++ ns'.own))).Nodup := nodup_somes_perm hperm2 hnd
  rw [somes_append, List.nodup_append] at hnd2
  have hti : ∀ n, some n ∈ topsL (rtsOf c.fix) (slots tm c.fix) → some n ∉ ns.inner ++ ns'.own := fun n h1 h2 => hnd2.2.2 n (mem_somes.2 h1) n (mem_somes.2 h2) rfl
  have htl : ∀ n, some n ∈ topsL (rtsOf c.fix) (slots tm c.fix) → n ∉ (match c.plain (c.out z).1 with | true => [] | false => ns.lent ++ ns'.lent) := fun n h1 h2 => hlt n (hlist n h2) (hperm2.mem_iff.2 (List.mem_append_left _ h1))
  have hTk : TopL Xk.O (rtsOf c.fix) (slots tm c.fix) := hT.congr fun n hn => by rw [(k6 n (hti n hn)).1, a7 n (htl n hn)]
  obtain ⟨g1, g2, g3⟩ := hg.gone (Xa := Xa) (Xk := Xk) (inner := ns.inner ++ ns'.own) (tops := topsL (rtsOf c.fix) (slots tm c.fix)) hal hown0 hnd hperm' hlt hlent0 a2 a4 a5 (fun b hb => by
      rcases (a6 b).1 hb with h | ⟨n, hn, o, ho, hb⟩
      · exact .inl h
      · exact .inr ⟨n, hlist n hn, hb⟩) (fun m o hm hf => by
      by_cases hmem : m ∈ (match c.plain (c.out z).1 with | true => [] | false => ns.lent ++ ns'.lent)
      · rw [a8 m o hmem hm] at hf; cases hf
      · rw [← a7 m hmem]; exact hm) k2 k4 k5 (fun m hm => k6 m hm) k7 (fun m o hm => by
      by_cases hmi : some m ∈ ns.inner ++ ns'.own
      · obtain ⟨p, hp, _⟩ := hown0 m (hperm2.mem_iff.2 (List.mem_append_right _ hmi))
        obtain ⟨q, hq, _⟩ := a3.obj m p hp
        exact ⟨q, hq⟩
      · exact ⟨o, by rw [← (k6 m hmi).1]; exact hm⟩) (fun n o t m b c0 e0 hn ho hs hb hc => topsRow hTk (((HVs.slots hl c.fix).ext a3).ext k3) hr1 hn ho hs hb hc) hown
  have hnew : ∀ b, Seeable (fun b => X.G b ∨ ∃ n ∈ ns.lent ++ ns'.lent, X.β n = some b) X.w w' (bs ++ bs') (bs1 ++ bs2) b → c.plain (c.out z).1 = false → Seeable Xk.G X.w w' (bs ++ bs') (bs1 ++ bs2) b := fun b hb hp => Seeable.mono (fun b hb => by
    rw [k5]
    refine (a6 b).2 ?_
    rcases hb with hb | ⟨n, hn, hb⟩
    · exact .inl hb
    · obtain ⟨o, ho⟩ := hlent0 n hn
      exact .inr ⟨n, by rw [hp]; exact hn, o, ho, hb⟩) b hb
  have hr1' : RRs true w' (Seeable Xk.G X.w w' (bs ++ bs') (bs1 ++ bs2)) (rtsOf c.fix) (c.up x z) (valsAt a c.fix) bs1 := by
    cases hp : c.plain (c.out z).1 with
    | true =>
      simp only [Cut.plain, Bool.and_eq_true] at hp
      exact hr1.fixed hp.2
    | false => exact hr1.imp (fun b hb => hnew b hb hp) (fun _ _ => rfl) (fun _ _ => rfl)
  have hr2' : RRs false w' (Seeable Xk.G X.w w' (bs ++ bs') (bs1 ++ bs2)) (rtsOf (wayAt c.ways (c.out z).1).outs) (c.out z).2 (valsAt a' (wayAt c.ways (c.out z).1).outs) bs2 := by
    cases hp : c.plain (c.out z).1 with
    | true =>
      simp only [Cut.plain, Bool.and_eq_true] at hp
      exact hr2.scalar hp.1
    | false => exact hr2.imp (fun b hb => hnew b hb hp) (fun _ _ => rfl) (fun _ _ => rfl)
  obtain ⟨X2, nm2, t1, t2, t3⟩ := of_turns (rtsOf c.fix) (X := ⟨w', Seeable Xk.G X.w w' (bs ++ bs') (bs1 ++ bs2), Xk.β, Xk.O⟩) g1 ((((HVs.slots hl c.fix).ext a3).ext k3).ext g2) hTk hr1' g3.left hnd2.1 (fun n hn => hn) k1
  rw [run_bind] at t1
  have t2' : Good B X2 := t2.weaken (fun m hm => (hm.2 hm.1).elim)
  have hfree2 : Free (fun _ => False) B X2 bs2 := by
    have hfd := g3.dup
    rw [somes_append, List.nodup_append] at hfd
    refine ⟨fun b hb => ?_, fun b hb m o _ hmo hfr hbm => ?_, fun b hb m _ hp => ?_, hfd.2.1⟩
    rotate_right
    · rcases t3.newp m b (fun hm => hm.2 hm.1) hp with ⟨q1, q2⟩ | q1
      · exact g3.part b (List.mem_append_right _ hb) m q1 q2
      · exact hfd.2.2 b (mem_somes.2 q1) b (mem_somes.2 hb) rfl
    · rw [t3.G, t3.w]; exact g3.g b (List.mem_append_right _ hb)
    · rcases t3.new m o b (fun hm => hm.2 hm.1) hmo hfr hbm with ⟨q1, q2, q3⟩ | q1
      · exact g3.none b (List.mem_append_right _ hb) m o q1 q2 hfr q3
      · exact hfd.2.2 b (mem_somes.2 q1) b (mem_somes.2 hb) rfl
  obtain ⟨sl, X3, nm3, e1, e2, e3, e4⟩ := of_encs (rtsOf (wayAt c.ways (c.out z).1).outs) t2' (by rw [t3.w, t3.G]; exact hr2') hfree2 t1
  exact ⟨(c.out z).1, sl, X3, he, e3.w.trans t3.w, e1, e2, ((a3.trans k3).trans g2).trans (t3.ext.trans e3.ext), e4, hsz', hdf', hkeep⟩
theorem of_cutP [Str] {X : Cx} {code : Code} {nt : Nat} {c : Cut} (hM : CutMeets P code nt c) (hg : Good B X) {tm : Nat → SV} {a : Act} (hl : ∀ t, HV X (tm t) (a.tmps.getD t undef)) (hsz : a.tmps.size = nt) (hdf : a.defers = []) {nm : Nat} {K : (i : Nat) × List SV → Objs → Option R} {r : R}
    (h : (cutP c tm nm).run X.O K = some r) :
    code.wp P (fun e a' w' => ∃ (i : Nat) (l : List SV) (X' : Cx), e = exOf (wayAt c.ways i).ex ∧ X'.w = w' ∧ K ⟨i, l⟩ X'.O = some r ∧ Good B X' ∧ Ext X X' ∧ HVs X' l (valsAt a' (wayAt c.ways i).outs) ∧ a'.tmps.size = nt ∧ a'.defers = [] ∧
      (∀ t, memN t c.writes = false → a'.tmps.getD t undef = a.tmps.getD t undef)) a X.w := by
  unfold cutP at h
  rw [run_bind] at h
  obtain ⟨Xr, h, hgr, her, hwr⟩ := of_readyRs _ _ hg h
  rw [← hwr]
  refine wp_mono (of_cutP1 hM hgr (fun t => (hl t).ext her) hsz hdf h) ?_
  rintro e a' w' ⟨i, l, X', b1, b2, b3, b4, b5, b6⟩
  exact ⟨i, l, X', b1, b2, b3, b4, her.trans b5, b6⟩
section
variable {E : Env}
theorem puts_objs : ∀ (D : List (Nat × RT)) (l : List SV) (S : St), (S.puts D l).objs = S.objs
  | [], _, _ => rfl
  | _ :: _, [], _ => rfl
  | (t, _) :: r, v :: vs, S => puts_objs r vs _
theorem puts_slot [Str] {X : Cx} {a : Act} : ∀ (D : List (Nat × RT)) {l : List SV} {S : St}, HVs X l (valsAt a D) → (∀ t, HV X (S.tmps t) (a.tmps.getD t undef)) → ∀ t, HV X ((S.puts D l).tmps t) (a.tmps.getD t undef)
  | [], _, _, _, hs => hs
  | (t, _) :: r, [], _, _, hs => hs
  | (t, _) :: r, s :: l, S, h, hs => by
    obtain ⟨v, l', e, h1, h2⟩ := h
    simp only [valsAt, List.cons.injEq] at e
    obtain ⟨rfl, rfl⟩ := e
    refine puts_slot r h2 (fun t' => ?_)
    by_cases e : t' = t
    · subst e
      simp only [Nat.beq_refl, cond_true]; exact h1
    · simp only [beq_false e, cond_false]; exact hs t'
theorem nokeep_of [Str] {keep : Nat → Bool} : ∀ {ws : List Nat}, nokeep keep ws = true → ∀ t, keep t = true → memN t ws = false
  | [], _, _, _ => rfl
  | w :: r, h, t, ht => by
    simp only [nokeep, Bool.and_eq_true, Bool.not_eq_true'] at h
    have hne : t ≠ w := fun e => by subst e; rw [h.1] at ht; cases ht
    simp [memN, beq_false hne, nokeep_of h.2 t ht]
theorem cut_sound [Str] {Z : Cx} {code : Code} {c : Cut} (hM : CutMeets P code E.ntmps c) {keep : Nat → Bool} {a0 : Array Value} {nm : Nat} {S : St} {a : Act} {X : Cx} {K : Ex → St → Option R} {r : R} {Q : Exit → Act → World → Prop}
    (hK : ∀ e S' a' X', K e S' = some r → Rel Z B E keep a0 S' a' X' → Q (exOf e) a' X'.w) (hr : Rel Z B E keep a0 S a X) (h : cutK c keep nm S K = some r) : code.wp P Q a X.w := by
  unfold cutK at h
  cases hk : nokeep keep c.writes && slotsOut c.fix c.writes with
  | false => rw [hk] at h; cases h
  | true =>
    rw [hk] at h
    simp only [cond_true] at h
    rw [Bool.and_eq_true] at hk
    rw [← hr.objs] at h
    refine wp_mono (of_cutP hM hr.good hr.slot hr.size hr.defers h) ?_
    rintro e a' w' ⟨i, l, X', rfl, rfl, h1, h2, h3, h4, h5, h6, h7⟩
    cases hs : slotsIn (wayAt c.ways i).outs c.writes with
    | false => rw [hs] at h1; cases h1
    | true =>
      rw [hs] at h1
      refine hK _ _ a' X' h1 ⟨h2, hr.ext.trans h3, (puts_objs _ _ _).symm ▸ rfl, puts_slot _ h4 (fun t => ?_), h5, fun t ht => ?_, h6⟩
      · simp only [St.clear]
        cases hm : memN t c.writes with
        | true => trivial
        | false =>
          simp only [cond_false]
          rw [h7 t hm]
          exact (hr.slot t).ext h3
      · rw [h7 t (nokeep_of hk.1 t ht)]
        exact hr.kept t ht
/-! code -/
theorem labelIn_none : ∀ {c : Code} {l : Nat}, labelIn c l = false → findLabel c l = none
  | .seq a b, l, h => by
    simp only [labelIn, Bool.or_eq_false_iff] at h
    simp [findLabel, labelIn_none h.1, labelIn_none h.2]
  | .label l', l, h => by
    simp only [labelIn] at h
    have : (l' == l) = false := by
      cases hb : l' == l with
      | false => rfl
      | true => have := beq_iff_eq.1 hb; subst this; rw [Nat.beq_refl] at h; cases h
    simp [findLabel, this]
  | .skip, _, _ => rfl
  | .region .., _, _ => rfl
  | .cond .., _, _ => rfl
  | .block .., _, _ => rfl
  | .loop .., _, _ => rfl
  | .rangeFunc .., _, _ => rfl
  | .exit .., _, _ => rfl
  | .scope .., _, _ => rfl
  | .goto .., _, _ => rfl
  | .ret, _, _ => rfl
  | .refuse .., _, _ => rfl
def ExScope (body : Code) (Q : Exit → Act → World → Prop) : Exit → Act → World → Prop
  | .goto l, a, w => findLabel body l = none ∧ Q (.goto l) a w
  | e, a, w => Q e a w
theorem wp_scope' {c : Code} {Q : Exit → Act → World → Prop} {a : Act} {w : World} (h : c.wp P (ExScope c Q) a w) : (Code.scope c).wp P Q a w := by
  intro b k cs
  obtain ⟨e, a₁, w₁, hq, harr⟩ := h b (.inScope c :: k) cs
  cases e with
  | normal => exact ⟨.normal, a₁, w₁, hq, .head step_scope (Steps.trans harr (.one step_inScope))⟩
  | exit id => exact ⟨.exit id, a₁, w₁, hq, fun k' hk => .head step_scope (harr k' (by simp [exitTo, hk]))⟩
  | goto l => exact ⟨.goto l, a₁, w₁, hq.2, fun k' hk => .head step_scope (harr k' (by simp [gotoIn, hq.1, hk]))⟩
  | ret => exact ⟨_, a₁, w₁, hq, .of_steps (.one step_scope) harr⟩
  | panic ch => exact ⟨_, a₁, w₁, hq, .of_steps (.one step_scope) harr⟩
  | outgrown => exact ⟨_, a₁, w₁, hq, .of_steps (.one step_scope) harr⟩
/-- the cuts that are met -/
noncomputable def pick (E : Env) (c : Code) (l : List (Code × Cut)) : List (Code × Cut) := match hasCut c with
  | true => (match E.cut (kindR c) (firstR c) (lastR c) with | some t => [(c, t)] | none => l)
  | false => l
noncomputable def cutsOf (E : Env) : Code → List (Code × Cut)
  | .seq a b => pick E a (cutsOf E a) ++ pick E b (cutsOf E b)
  | .cond _ a b => pick E a (cutsOf E a) ++ pick E b (cutsOf E b)
  | .block _ b => pick E b (cutsOf E b)
  | .scope b => pick E b (cutsOf E b)
  | _ => []
/-- the cuts keep their contracts -/
def CutsOK [Str] (P : Program) (E : Env) (l : List (Code × Cut)) : Prop := ∀ p ∈ l, CutMeets P p.1 E.ntmps p.2
theorem orCut_sound [Str] {Z : Cx} {keep : Nat → Bool} {a0 : Array Value} {c : Code} {S : St} {a : Act} {X : Cx} {K : Ex → St → Option R} {r : R} {Q : Exit → Act → World → Prop}
    (hK : ∀ e S' a' X', K e S' = some r → Rel Z B E keep a0 S' a' X' → Q (exOf e) a' X'.w) (hr : Rel Z B E keep a0 S a X) {run : Option R} (hC : CutsOK P E (pick E c (cutsOf E c))) (hrun : CutsOK P E (cutsOf E c) → run = some r → c.wp P Q a X.w) (h : orCut E keep c S K run = some r) : c.wp P Q a X.w := by
  unfold orCut at h
  unfold pick at hC
  cases hc : hasCut c with
  | false => rw [hc] at h hC; exact hrun hC h
  | true =>
    rw [hc] at h hC
    simp only [cond_true] at h hC
    split at h
    · rename_i t ht
      rw [ht] at hC
      exact cut_sound (hC (c, t) (by simp)) hK hr h
    · rename_i ht
      rw [ht] at hC
      exact hrun hC h
def DrawOK [Str] (P : Program) (E : Env) : Prop := ∀ (R : Type) (Z : Cx) (B : Base) (keep : Nat → Bool) (a0 : Array Value) (id : Nat) (ops : Array Oper) (S : St) (a : Act) (X : Cx) (K : St → Option R) (r : R) (Q : Exit → Act → World → Prop),
  (∀ S a X, K S = some r → Rel Z B E keep a0 S a X → Q .normal a X.w) → Rel Z B E keep a0 S a X → drawK E keep ops S K = some r → (Code.region id ops true).wp P Q a X.w
theorem code_sound [Str] {Z : Cx} (hE : EnvOK P E) (hD : DrawOK P E) {keep : Nat → Bool} {a0 : Array Value} {r : R} : ∀ (c : Code) {S : St} {a : Act} {X : Cx} {K : Ex → St → Option R} {Q : Exit → Act → World → Prop}, CutsOK P E (cutsOf E c) →
    (∀ e S' a' X', K e S' = some r → Rel Z B E keep a0 S' a' X' → Q (exOf e) a' X'.w) → Rel Z B E keep a0 S a X → codeK E keep c S K = some r → c.wp P Q a X.w
  | .skip, S, a, X, K, Q, _, hK, hr, h => wp_skip (hK .normal S a X h hr)
  | .label _, S, a, X, K, Q, _, hK, hr, h => wp_label (hK .normal S a X h hr)
  | .exit id, S, a, X, K, Q, _, hK, hr, h => wp_exit (hK (.exit id) S a X h hr)
  | .goto l, S, a, X, K, Q, _, hK, hr, h => wp_goto (hK (.goto l) S a X h hr)
  | .ret, S, a, X, K, Q, _, hK, hr, h => wp_ret (hK .ret S a X h hr)
  | .region id ops draw, S, a, X, K, Q, _, hK, hr, h => by
    cases draw with
    | true => exact hD R Z B keep a0 id ops S a X (K .normal) r Q (fun S a X => hK .normal S a X) hr h
    | false =>
      refine wp_region ?_
      have := reg_sound (P := P) (Q := Q) hE (fun S a X => hK .normal S a X) ops.toList 0 rfl hr h
      rwa [Array.length_toList, ← List.range_eq_range'] at this
  | .seq x y, S, a, X, K, Q, hC, hK, hr, h => by
    refine wp_seq ?_
    refine orCut_sound (Q := Exit.then (y.wp P Q) Q) (K := fun e S' => match e with | .normal => orCut E keep y S' K (codeK E keep y S' K) | e => K e S') ?_ hr (fun p hp => hC p (List.mem_append_left _ hp)) (fun hC' h' => code_sound hE hD x hC' ?_ hr h') h
    all_goals
      intro e S' a' X' h' hr'
      cases e with
      | normal => exact orCut_sound hK hr' (fun p hp => hC p (List.mem_append_right _ hp)) (fun hC' h'' => code_sound hE hD y hC' hK hr' h'') h'
      | exit id => exact hK _ _ _ _ h' hr'
      | goto l => exact hK _ _ _ _ h' hr'
      | ret => exact hK _ _ _ _ h' hr'
  | .cond c x y, S, a, X, K, Q, hC, hK, hr, h => by
    simp only [codeK] at h
    split at h
    · rename_i t ht
      have hv := HV.eval (a := a) hr.slot c
      rw [ht] at hv
      have hv : a.eval c = .bool t := hv
      have hknow : ∀ b : Bool, t = b → Rel Z B E keep a0 (S.know c b) a X := fun b hb => by
        unfold St.know
        cases c with
        | tmp d => exact hr.know ht hb
        | _ => exact hr
      refine wp_cond hv ?_
      cases t with
      | true =>
        rw [if_pos rfl] at h ⊢
        exact orCut_sound hK (hknow true rfl) (fun p hp => hC p (List.mem_append_left _ hp)) (fun hC' h'' => code_sound hE hD x hC' hK (hknow true rfl) h'') h
      | false =>
        rw [if_neg (by simp)] at h ⊢
        exact orCut_sound hK (hknow false rfl) (fun p hp => hC p (List.mem_append_right _ hp)) (fun hC' h'' => code_sound hE hD y hC' hK (hknow false rfl) h'') h
    · cases h
  | .block id b, S, a, X, K, Q, hC, hK, hr, h => by
    refine wp_block ?_
    refine orCut_sound (Q := Exit.inBlock id Q) (K := fun e S' => match e with | .exit i => bif Nat.beq i id then K .normal S' else K (.exit i) S' | e => K e S') ?_ hr hC (fun hC' h' => code_sound hE hD b hC' ?_ hr h') h
    all_goals
      intro e S' a' X' h' hr'
      cases e with
      | normal => exact hK _ _ _ _ h' hr'
      | exit i =>
        simp only [exOf, Exit.inBlock]
        by_cases hi : i = id
        · subst hi
          simp only [Nat.beq_refl, cond_true] at h'
          rw [if_pos rfl]
          exact hK _ _ _ _ h' hr'
        · simp only [beq_false hi, cond_false] at h'
          rw [if_neg hi]
          exact hK _ _ _ _ h' hr'
      | goto l => exact hK _ _ _ _ h' hr'
      | ret => exact hK _ _ _ _ h' hr'
  | .scope b, S, a, X, K, Q, hC, hK, hr, h => by
    refine wp_scope' ?_
    refine orCut_sound (Q := ExScope b Q) (K := fun e S' => match e with | .goto l => bif labelIn b l then none else K (.goto l) S' | e => K e S') ?_ hr hC (fun hC' h' => code_sound hE hD b hC' ?_ hr h') h
    all_goals
      intro e S' a' X' h' hr'
      cases e with
      | normal => exact hK _ _ _ _ h' hr'
      | exit i => exact hK _ _ _ _ h' hr'
      | goto l =>
        cases hl : labelIn b l with
        | true => simp only [hl, cond_true] at h'; cases h'
        | false =>
          simp only [hl, cond_false] at h'
          exact ⟨labelIn_none hl, hK _ _ _ _ h' hr'⟩
      | ret => exact hK _ _ _ _ h' hr'
  | .loop _, _, _, _, _, _, _, _, _, h => by cases h
  | .rangeFunc .., _, _, _, _, _, _, _, _, h => by cases h
  | .refuse _, _, _, _, _, _, _, _, _, h => by cases h
end
end Go.Ev
