/- A symbolic run of the code of functions, and the proof that what it tells is so. No conditions beyond each theorem's own. -/
import Derived.Test.YtmbkpnhmeljcgaaE3
import Derived.OpenShut
import Derived.ChangeSlices
import Derived.Carry
import Derived.Deep.Slices
import Derived.SizedLaws
import Derived.WideShapes
set_option linter.unusedVariables false
set_option linter.unusedSimpArgs false
namespace Go.Ev
open Go.RowKit
variable {R : Type} {P : Program} {E : Env}
/-- what is owned is the same -/
def UpEq : (r : RT) → r.den → r.den → Prop
  | .val _, _, _ => True
  | .own _, x, y => x = y
  | .box _, x, y => x = y
  | .unit, _, _ => True
  | .pair a b, x, y => UpEq a x.1 y.1 ∧ UpEq b x.2 y.2
  | .func _ _ r, x, y => UpEq r x y
  | .mv _, _, _ => True
  | .nil, _, _ => True
  | .pal _ _ _, _, _ => True
  | .rows _, x, y => x = y
  | .ip _, x, y => x = y
def UpEqs : (rs : List RT) → dens rs → dens rs → Prop
  | [], _, _ => True
  | r :: rs, x, y => UpEq r x.1 y.1 ∧ UpEqs rs x.2 y.2
theorem RR.up {w : World} {G : Nat → Prop} : ∀ {u : Bool} {r : RT} {x y : r.den} {cs : List Value} {bs : List (Option Nat)}, UpEq r y x → RR u w G r x cs bs → RR true w G r y cs bs
  | _, .val _, _, _, _, _, _, ⟨h1, h2, _⟩ => ⟨h1, h2, fun h => by cases h⟩
  | _, .own _, _, _, _, _, h, h' => by cases h; exact h'
  | _, .box _, _, _, _, _, h, h' => by cases h; exact h'
  | _, .unit, _, _, _, _, _, h' => h'
  | _, .pair p q, _, _, _, _, h, ⟨c1, c2, b1, b2, h1, h2, h3, h4⟩ => ⟨c1, c2, b1, b2, h1, h2, RR.up h.1 h3, RR.up h.2 h4⟩
  | _, .func f nf r, _, _, _, _, h, ⟨a1, a2, h1, h2, h3⟩ => ⟨a1, a2, h1, h2, RR.up (r := r) h h3⟩
  | true, .mv _, _, _, _, _, _, h' => h'
  | false, .mv _, _, _, _, _, _, ⟨v, b, h1, h2, h3⟩ => by subst h1; rfl
  | _, .nil, _, _, _, _, _, h' => h'
  | _, .pal _ _ _, _, _, _, _, _, h' => h'
  | _, .rows _, _, _, _, _, h, h' => by cases h; exact h'
  | _, .ip _, _, _, _, _, h, h' => by cases h; exact h'
theorem RRsA.up [Str] {w : World} {G : Nat → Prop} {u : Bool} {all : List Value} : ∀ {rs : List RT} {x y : dens rs} {vs : List Value} {bs : List (Option Nat)}, UpEqs rs y x → RRsA u w G all rs x vs bs → RRsA true w G all rs y vs bs
  | [], _, _, _, _, _, h => h
  | r :: rs, _, _, _, _, h, ⟨v, vs', b1, b2, h1, h2, h3, h4, h5⟩ => ⟨v, vs', b1, b2, h1, h2, h3, h4.up h.1, h5.up h.2⟩
theorem RRs.up [Str] {w : World} {G : Nat → Prop} {u : Bool} {rs : List RT} {x y : dens rs} {vs : List Value} {bs : List (Option Nat)} (h : UpEqs rs y x) (h' : RRs u w G rs x vs bs) : RRs true w G rs y vs bs := RRsA.up h h'
/-- the end of a function -/
theorem RRsE.up [Str] {w : World} {G : Nat → Prop} {all : List Value} : ∀ {rs : List RT} {x y : dens rs} {vs : List Value} {bs : List (Option Nat)}, UpEqs rs y x → RRsE w G all rs x vs bs → RRsA true w G all rs y vs bs
  | [], _, _, _, _, _, h => h
  | r :: rs, _, _, _, _, h, ⟨v, vs', b1, b2, h1, h2, h3, h4, h5⟩ => by
    refine ⟨v, vs', b1, b2, h1, h2, h3, ?_, h5.up h.2⟩
    rcases h4 with ⟨⟨t, rfl⟩, rfl⟩ | h4
    · have hc : v.cells = #[v] := h3.1
      show v.cells.toList.length = 1
      rw [hc]; rfl
    · exact h4.up h.1
theorem RRsE.imp [Str] {w w' : World} {G G' : Nat → Prop} (hG : ∀ b, G b → G' b) (hA : Agree G w w') {all : List Value} : ∀ {rs : List RT} {x : dens rs} {vs : List Value} {bs : List (Option Nat)}, (∀ k, some k ∈ bs → w'.heap[k]? = w.heap[k]?) → RRsE w G all rs x vs bs → RRsE w' G' all rs x vs bs
  | [], _, _, _, _, h => h
  | r :: rs, _, _, _, hb, ⟨v, vs', b1, b2, h1, h2, h3, h4, h5⟩ => ⟨v, vs', b1, b2, h1, h2, h3, h4.imp id (fun h4 => h4.imp hG hA (fun k hk => hb k (by rw [h2]; exact List.mem_append_left _ hk))), h5.imp hG hA (fun k hk => hb k (by rw [h2]; exact List.mem_append_right _ hk))⟩
theorem RRsA.length {u : Bool} {w : World} {G : Nat → Prop} {all : List Value} : ∀ {rs : List RT} {x : dens rs} {vs : List Value} {bs : List (Option Nat)}, RRsA u w G all rs x vs bs → vs.length = rs.length
  | [], _, _, _, h => by rw [h.1]; rfl
  | r :: rs, _, _, _, ⟨v, vs', b1, b2, h1, h2, h3, h4, h5⟩ => by rw [h1, List.length_cons, h5.length, List.length_cons]
theorem RRs.length [Str] {u : Bool} {w : World} {G : Nat → Prop} {rs : List RT} {x : dens rs} {vs : List Value} {bs : List (Option Nat)} (h : RRs u w G rs x vs bs) : vs.length = rs.length := RRsA.length h
/-- the beginning: nothing is known but what is told -/
theorem start [Str] {w : World} {G : Nat → Prop} {bs : List (Option Nat)} (hbs : ∀ b, some b ∈ bs → ¬ G b ∧ b < w.heap.size) (hnd : (somes bs).Nodup) (hG : ∀ b, G b → b < w.heap.size) :
    Good ⟨w, G, fun b => some b ∈ bs⟩ ⟨w, G, fun _ => none, fun _ => none⟩ ∧ Free (fun _ => False) ⟨w, G, fun b => some b ∈ bs⟩ ⟨w, G, fun _ => none, fun _ => none⟩ bs :=
  ⟨⟨rfl, Td.refl _, rfl, Nat.le_refl _, fun _ _ _ => rfl, fun _ h => h, hG, fun _ h => .inl h, fun _ _ _ _ h => (by cases h), fun _ _ _ _ _ _ _ h => (by cases h), fun _ _ _ _ h => (by cases h), fun _ _ _ _ h => (by cases h), fun _ _ _ h => (by cases h), fun _ _ _ h => (by cases h)⟩,
   ⟨fun b hb => ⟨(hbs b hb).1, .inl hb, (hbs b hb).2⟩, fun _ _ _ _ _ h => (by cases h), fun _ _ _ _ h => (by cases h), hnd⟩⟩
/-- the end: what is owned, what may be seen -/
theorem finish [Str] {w : World} {G : Nat → Prop} {bs : List (Option Nat)} {X : Cx} (hg : Good ⟨w, G, fun b => some b ∈ bs⟩ X) {own : List (Option Nat)} {lent : List Nat} {bs1 : List (Option Nat)} (hal : Along X own bs1) (hown : ∀ n, some n ∈ own → ∃ o, X.O n = some o ∧ o.frozen = false)
    (hnd : (somes own).Nodup) (hlent : ∀ n ∈ lent, some n ∉ own) (hlo : ∀ n ∈ lent, ∃ o, X.O n = some o) :
    Own w X.w bs bs1 ∧ ∀ b, (X.G b ∨ ∃ n ∈ lent, X.β n = some b) → Seeable G w X.w bs bs1 b := by
  have hb : ∀ b, some b ∈ bs1 → ∃ n o, some n ∈ own ∧ Blk X n b ∧ X.O n = some o ∧ o.frozen = false := fun b hb => by
    obtain ⟨n, h1, h2⟩ := hal.mem hb
    obtain ⟨o, h3, h4⟩ := hown n h1
    exact ⟨n, o, h1, h2, h3, h4⟩
  refine ⟨⟨⟨hg.os, hg.tape, hg.output, hg.size, fun b hb hn => hg.old b hb hn⟩, hal.nodup hg hnd hown, fun b hb1 => ?_⟩, fun b hG => ?_⟩
  · obtain ⟨n, o, h1, h2, h3, h4⟩ := hb b hb1
    exact (hg.blk h3 h4 h2).2
  · have key : X.G b → Seeable G w X.w bs bs1 b := fun h => by
      rcases hg.gfrom b h with h1 | h1 | h1
      · exact .inl h1
      · refine .inr ⟨.inl h1, hg.glt b h, fun h2 => ?_⟩
        obtain ⟨n, o, k1, k2, k3, k4⟩ := hb b h2
        exact (hg.blk k3 k4 k2).1 h
      · refine .inr ⟨.inr h1, hg.glt b h, fun h2 => ?_⟩
        obtain ⟨n, o, k1, k2, k3, k4⟩ := hb b h2
        exact (hg.blk k3 k4 k2).1 h
    rcases hG with h | ⟨n, hn, hnb⟩
    · exact key h
    · obtain ⟨o, ho⟩ := hlo n hn
      cases hf : o.frozen with
      | true => exact key (hg.frz n o b ho hf hnb)
      | false =>
        have hnot : some b ∉ bs1 := fun h2 => by
          obtain ⟨m, p, k1, k2, k3, k4⟩ := hb b h2
          have := hg.blk_inj ho k3 hf k4 (.inl hnb) k2
          subst this
          exact hlent n hn k1
        rcases (hg.own n o b ho hf hnb).2 with h1 | h1
        · exact .inr ⟨.inl h1, hg.lt n o b ho hnb, hnot⟩
        · exact .inr ⟨.inr h1, hg.lt n o b ho hnb, hnot⟩
theorem names_ok [Str] {n : Names} (h : n.ok = true) : (somes n.own).Nodup ∧ ∀ m ∈ n.lent, some m ∉ n.own := by
  simp only [Names.ok, Bool.and_eq_true] at h
  exact ⟨nodupN_iff h.1, fun m hm h' => apartN_iff h.2 m hm (mem_somes.2 h')⟩
/-- two lists of values are decoded: the first one holds what may have been turned -/
theorem decTwo [Str] {w : World} {G : Nat → Prop} {bs : List (Option Nat)} {X : Cx} (hg : Good ⟨w, G, fun b => some b ∈ bs⟩ X) {as rs : List RT} {l m : List SV} {vs us : List Value} (hl : HVs X l vs) (hm : HVs X m us) {K : dens as × dens rs → Objs → Option R} {r : R}
    (h : (do
      let p ← decs true as l
      let q ← decs false rs m
      sure ((p.2.add q.2).ok)
      pure (p.1, q.1) : Prog (dens as × dens rs)).run X.O K = some r) :
    ∃ x y bs1 bs2, K (x, y) X.O = some r ∧ Own w X.w bs (bs1 ++ bs2) ∧ RRs false X.w (Seeable G w X.w bs (bs1 ++ bs2)) as x vs bs1 ∧ RRs false X.w (Seeable G w X.w bs (bs1 ++ bs2)) rs y us bs2 := by
  rw [run_bind] at h
  obtain ⟨x, ns, bs1, h1, hD⟩ := of_decs hg as hl h
  rw [run_bind] at h1
  obtain ⟨y, ns', bs2, h2, hD'⟩ := of_decs hg rs hm h1
  rw [run_bind] at h2
  obtain ⟨hok, h3⟩ := of_sure h2
  obtain ⟨o1, o2⟩ := names_ok hok
  have hlo : ∀ n ∈ ns.lent ++ ns'.lent, ∃ o, X.O n = some o := fun n hn => (List.mem_append.1 hn).elim (hD.lent n) (hD'.lent n)
  obtain ⟨f1, f2⟩ := finish hg (hD.along.append hD'.along) (fun n hn => (List.mem_append.1 hn).elim (hD.own n) (hD'.own n)) o1 (lent := ns.lent ++ ns'.lent) o2 hlo
  exact ⟨x, y, bs1, bs2, h3, f1, (hD.rr _ (fun n hn b hb => ⟨n, List.mem_append_left _ hn, hb⟩)).imp f2 (fun _ _ => rfl) (fun _ _ => rfl), (hD'.rr _ (fun n hn b hb => ⟨n, List.mem_append_right _ hn, hb⟩)).imp f2 (fun _ _ => rfl) (fun _ _ => rfl)⟩
theorem endTwo [Str] {w : World} {G : Nat → Prop} {bs : List (Option Nat)} {X : Cx} (hg : Good ⟨w, G, fun b => some b ∈ bs⟩ X) {as rs : List RT} {l m : List SV} {vs us : List Value} (hl : HVs X l vs) (hm : HVs X m us) {K : dens as × dens rs → Objs → Option R} {r : R}
    (h : (do
      let p ← decsE l as l
      let q ← decs false rs m
      sure ((p.2.add q.2).ok)
      pure (p.1, q.1) : Prog (dens as × dens rs)).run X.O K = some r) :
    ∃ x y bs1 bs2, K (x, y) X.O = some r ∧ Own w X.w bs (bs1 ++ bs2) ∧ RRsE X.w (Seeable G w X.w bs (bs1 ++ bs2)) vs as x vs bs1 ∧ RRs false X.w (Seeable G w X.w bs (bs1 ++ bs2)) rs y us bs2 := by
  rw [run_bind] at h
  obtain ⟨x, ns, bs1, h1, hD⟩ := of_decsE hg hl as hl h
  rw [run_bind] at h1
  obtain ⟨y, ns', bs2, h2, hD'⟩ := of_decs hg rs hm h1
  rw [run_bind] at h2
  obtain ⟨hok, h3⟩ := of_sure h2
  obtain ⟨o1, o2⟩ := names_ok hok
  have hlo : ∀ n ∈ ns.lent ++ ns'.lent, ∃ o, X.O n = some o := fun n hn => (List.mem_append.1 hn).elim (hD.lent n) (hD'.lent n)
  obtain ⟨f1, f2⟩ := finish hg (hD.along.append hD'.along) (fun n hn => (List.mem_append.1 hn).elim (hD.own n) (hD'.own n)) o1 (lent := ns.lent ++ ns'.lent) o2 hlo
  exact ⟨x, y, bs1, bs2, h3, f1, (hD.rr _ (fun n hn b hb => ⟨n, List.mem_append_left _ hn, hb⟩)).imp f2 (fun _ _ => rfl) (fun _ _ => rfl), (hD'.rr _ (fun n hn b hb => ⟨n, List.mem_append_right _ hn, hb⟩)).imp f2 (fun _ _ => rfl) (fun _ _ => rfl)⟩
theorem slotsTwo [Str] {w : World} {G : Nat → Prop} {bs : List (Option Nat)} {X : Cx} (hg : Good ⟨w, G, fun b => some b ∈ bs⟩ X) {fix ins : List (Nat × RT)} {tm : Nat → SV} {vs us : List Value} (hl : HVs X (slots tm fix) vs) (hm : HVs X (slots tm ins) us) {K : dens (rtsOf fix) × dens (rtsOf ins) → Option R} {r : R}
    (h : (slotsP fix ins tm).run X.O (fun z _ => K z) = some r) :
    ∃ x y bs1 bs2, K (x, y) = some r ∧ Own w X.w bs (bs1 ++ bs2) ∧ RRs false X.w (Seeable G w X.w bs (bs1 ++ bs2)) (rtsOf fix) x vs bs1 ∧ RRs false X.w (Seeable G w X.w bs (bs1 ++ bs2)) (rtsOf ins) y us bs2 := by
  unfold slotsP at h
  rw [run_bind] at h
  obtain ⟨Xr, h, hgr, her, hwr⟩ := of_readyRs _ _ hg h
  have := decTwo hgr (hl.ext her) (hm.ext her) h
  rwa [hwr] at this
/-- what a function gives -/
theorem of_resP [Str] {B : Base} {X : Cx} (hT : TabOK P E) (hg : Good B X) {tm : Nat → SV} {tmps : Array Value} (hs : ∀ t, HV X (tm t) (tmps.getD t undef)) : ∀ (res : List ResultVar) {K : List SV → Objs → Option R} {r : R}, (resP E tm res).run X.O K = some r →
    ∃ l us, K l X.O = some r ∧ HVs X l us ∧ (res.mapM (fun v => match v with | .tmp t => pure (tmps.getD t undef) | .cell a t => do loadVar t (← asAddr (tmps.getD a undef)) : ResultVar → Sem Value)).run P X.w = .ok us X.w
  | [], K, r, h => ⟨[], [], h, rfl, rfl⟩
  | .tmp t :: rest, K, r, h => by
    simp only [resP, run_bind] at h
    obtain ⟨l, us, h1, h2, h3⟩ := of_resP hT hg hs rest h
    exact ⟨tm t :: l, tmps.getD t undef :: us, h1, ⟨_, _, rfl, hs t, h2⟩, by
      rw [List.mapM_cons, Sem.run_bind, Sem.run_pure, Result.andThen_ok, Sem.run_bind, h3]
      rfl⟩
  | .cell a t :: rest, K, r, h => by
    simp only [resP, run_bind] at h
    obtain ⟨ty, h1, h2⟩ := of_must h
    obtain ⟨x, cs, b, off, k1, k2, k3, k4, k5⟩ := of_seeP hg (hs a) h2
    obtain ⟨l, us, q1, q2, q3⟩ := of_resP hT hg hs rest k1
    refine ⟨mk ty x :: l, cellsV ty.agg cs :: us, q1, ⟨_, _, rfl, HV.mk k5 k4, q2⟩, ?_⟩
    have hld := run_load (hT _ _ h1).1 k3 k4
    simp only [Instr.loadAt, Instr.sureAddr, Sem.run_bind, Sem.run_pure, Result.andThen_ok] at hld
    rw [List.mapM_cons, Sem.run_bind]
    have e1 : (do loadVar t (← asAddr (tmps.getD a undef)) : Sem Value).run P X.w = .ok (cellsV ty.agg cs) X.w := by
      rw [Sem.run_bind, k2]
      exact hld
    rw [e1, Result.andThen_ok, Sem.run_bind, q3]
    rfl
/-- a function keeps the contract that its code comes to -/
theorem fn_meets [Str] (hE : EnvOK P E) (hD : DrawOK P E) {f : FuncId} {fn : Func} {body : Code} (hf : P.funcs[f]? = some fn) (hb : fn.body = some body) (hnt : fn.ntmps = E.ntmps) (c : Con) (hargs : c.ats.length ≤ E.ntmps) (fin : dens c.ats → dens c.rts → Option c.α)
    (hfin : ∀ x x' y a, fin x' y = some a → c.res a = y ∧ UpEqs c.ats (c.up x a) x') (hC : CutsOK P E (pick E body (cutsOf E body))) (h : ∀ x, fnK E c.ats c.rts body fn.results.toList fin x = c.F x) : Meets P f c := by
  intro x y hy w G vs bs hrr hbs hnd hG
  have hrun := (h x).trans hy
  obtain ⟨hg0, hfree⟩ := start hbs hnd hG
  unfold fnK at hrun
  obtain ⟨l, X1, nm1, h1, hg1, hlaid, hl⟩ := of_encs c.ats hg0 hrr hfree hrun
  have hw1 : X1.w = w := hlaid.w
  subst hw1
  refine calls_of_wp hf hb ?_
  have hvl := hrr.length
  have hr : Rel X1 ⟨X1.w, G, fun b => some b ∈ bs⟩ E (fun _ => false) #[] ⟨nthS l, X1.O⟩ { tmps := vs.toArray ++ Array.replicate (fn.ntmps - vs.toArray.size) undef, defers := [] } X1 := by
    refine ⟨hg1, .refl X1, rfl, fun t => ?_, by simp [hnt, hvl]; omega, (fun t ht => by cases ht), rfl⟩
    have := hl.nth (List.replicate (fn.ntmps - vs.length) undef) t
    have e : (vs.toArray ++ Array.replicate (fn.ntmps - vs.toArray.size) undef).getD t undef = (vs ++ List.replicate (fn.ntmps - vs.length) undef).getD t undef := by
      rw [Array.getD_eq_getD_getElem?, ← Array.getElem?_toList, List.getD_eq_getElem?_getD]
      simp
    rw [e]; exact this
  have hK : ∀ e S' a' X', endK E c.ats c.rts l fn.results.toList fin e S' = some y → Rel X1 ⟨X1.w, G, fun b => some b ∈ bs⟩ E (fun _ => false) #[] S' a' X' → bodyPost P fn (fun e w' => ∃ us bs1 bs2, e = .returned (retVal us) ∧ RRs true w' (Seeable G X1.w w' bs (bs1 ++ bs2)) c.ats (c.up x y) vs bs1 ∧ RRs false w' (Seeable G X1.w w' bs (bs1 ++ bs2)) c.rts (c.res y) us bs2 ∧ Own X1.w w' bs (bs1 ++ bs2)) (exOf e) a' X'.w := by
    intro e S' a' X' hk hr'
    have key : (endP E c.ats c.rts l fn.results.toList S'.tmps).run S'.objs (fun z _ => fin z.1 z.2) = some y → a'.defers = [] ∧ ∃ v, (results fn a'.tmps).run P X'.w = .ok v X'.w ∧ ∃ us bs1 bs2, Ending.returned v = .returned (retVal us) ∧ RRs true X'.w (Seeable G X1.w X'.w bs (bs1 ++ bs2)) c.ats (c.up x y) vs bs1 ∧ RRs false X'.w (Seeable G X1.w X'.w bs (bs1 ++ bs2)) c.rts (c.res y) us bs2 ∧ Own X1.w X'.w bs (bs1 ++ bs2) := fun hk => by
      refine ⟨hr'.defers, ?_⟩
      unfold endP at hk
      rw [run_bind, ← hr'.objs] at hk
      obtain ⟨m, us, q1, q2, q3⟩ := of_resP (P := P) hE.tab hr'.good hr'.slot fn.results.toList hk
      rw [run_bind] at q1
      obtain ⟨Xr, q1, hgr, her, hwr⟩ := of_readyRs _ _ hr'.good q1
      obtain ⟨x', y', bs1, bs2, k1, k2, k3, k4⟩ := endTwo hgr ((hl.ext hr'.ext).ext her) (q2.ext her) q1
      rw [hwr] at k2 k3 k4
      obtain ⟨e1, e2⟩ := hfin x x' y' y k1
      refine ⟨retVal us, ?_, us, bs1, bs2, rfl, k3.up e2, by rw [e1]; exact k4, k2⟩
      unfold results
      rw [Array.mapM_eq_mapM_toList]
      simp only [Sem.run_bind, Sem.run_map, Sem.run_pure]
      have q3' := q3
      erw [q3]
      simp only [Result.andThen_ok]
      match us with
      | [] => rfl
      | [v] => rfl
      | v :: v' :: r => simp [retVal]
    cases e with
    | normal => exact key hk
    | ret => exact key hk
    | exit _ => cases hk
    | goto _ => cases hk
  exact orCut_sound hK hr hC (fun hC' hrun' => code_sound hE hD body hC' hK hr hrun') h1
end Go.Ev
namespace Go.Ev
open Go.RowKit
variable {R : Type} {P : Program} {E : Env}
theorem least {p : Nat → Prop} (h : ∃ n, p n) : ∃ n, p n ∧ ∀ m, p m → n ≤ m := by
  classical
  obtain ⟨n, hn⟩ := h
  induction n using Nat.strongRecOn with
  | _ n ih =>
    by_cases hm : ∃ m, m < n ∧ p m
    · obtain ⟨m, h1, h2⟩ := hm
      exact ih m h1 h2
    · exact ⟨n, hn, fun m h2 => Nat.le_of_not_lt fun h1 => hm ⟨m, h1, h2⟩⟩
open Classical in
noncomputable def leastOf [Str] (p : Nat → Prop) : Nat := if h : ∃ n, p n then (least h).choose else 0
theorem leastOf_is [Str] {p : Nat → Prop} (h : ∃ n, p n) : p (leastOf p) ∧ ∀ m, p m → leastOf p ≤ m := by
  unfold leastOf
  rw [dif_pos h]
  exact (least h).choose_spec
theorem wp_loop_fuel [Str] {c : Code} {Q : Exit → Act → World → Prop} {a : Act} {w : World} (J : Nat → Act → World → Prop) {n : Nat} (h : J n a w) (round : ∀ n a w, J n a w → c.wp P (Exit.then (fun a' w' => ∃ m, m < n ∧ J m a' w') Q) a w) : (Code.loop c).wp P Q a w := by
  refine wp_loop (fun a w => ∃ n, J n a w) (fun a w => leastOf fun n => J n a w) ⟨n, h⟩ ?_
  intro a w hI
  refine wp_mono (round _ a w (leastOf_is hI).1) ?_
  intro e a' w' hq
  cases e with
  | normal =>
    obtain ⟨m, hm, hJ⟩ := hq
    exact ⟨⟨m, hJ⟩, Nat.lt_of_le_of_lt ((leastOf_is (p := fun n => J n a' w') ⟨m, hJ⟩).2 m hJ) hm⟩
  | exit _ => exact hq
  | goto _ => exact hq
  | ret => exact hq
  | panic _ => exact hq
  | outgrown => exact hq
theorem Ex.beq_eq : ∀ {a b : Ex}, a.beq b = true → a = b
  | .normal, .normal, _ => rfl
  | .ret, .ret, _ => rfl
  | .exit a, .exit b, h => by rw [Nat.eq_of_beq_eq_true h]
  | .goto a, .goto b, h => by rw [Nat.eq_of_beq_eq_true h]
  | .normal, .ret, h => by cases h
  | .normal, .exit _, h => by cases h
  | .normal, .goto _, h => by cases h
  | .ret, .normal, h => by cases h
  | .ret, .exit _, h => by cases h
  | .ret, .goto _, h => by cases h
  | .exit _, .normal, h => by cases h
  | .exit _, .ret, h => by cases h
  | .exit _, .goto _, h => by cases h
  | .goto _, .normal, h => by cases h
  | .goto _, .ret, h => by cases h
  | .goto _, .exit _, h => by cases h
theorem findWay_at [Str] : ∀ {ws : List Way} {e : Ex} {k i : Nat}, findWay ws e k = some i → k ≤ i ∧ (wayAt ws (i - k)).ex = e
  | [], _, _, _, h => by cases h
  | w :: r, e, k, i, h => by
    simp only [findWay] at h
    cases hb : w.ex.beq e with
    | true =>
      rw [hb] at h
      cases h
      refine ⟨Nat.le_refl _, ?_⟩
      rw [Nat.sub_self]
      exact Ex.beq_eq hb
    | false =>
      rw [hb] at h
      obtain ⟨h1, h2⟩ := findWay_at (ws := r) h
      refine ⟨by omega, ?_⟩
      have : i - k = (i - (k + 1)) + 1 := by omega
      rw [this]
      simpa [wayAt] using h2
theorem slotsOut_of : ∀ {D : List (Nat × RT)} {ws : List Nat}, slotsOut D ws = true → ∀ {a b : Act}, (∀ t, memN t ws = false → a.tmps.getD t undef = b.tmps.getD t undef) → valsAt a D = valsAt b D
  | [], _, _, _, _, _ => rfl
  | (t, _) :: r, ws, h, a, b, hab => by
    simp only [slotsOut, Bool.and_eq_true, Bool.not_eq_true'] at h
    simp only [valsAt, hab t h.1, slotsOut_of h.2 hab]
/-- one thing behind another one -/
theorem WStep.trans [Str] {w w1 w2 : World} {b0 b1 : List (Option Nat)} (h : WStep w w1 b0) (k : WStep w1 w2 b1) (hb : ∀ b, some b ∈ b1 → some b ∈ b0 ∨ w.heap.size ≤ b) : WStep w w2 b0 :=
  ⟨k.os.trans h.os, k.tape.trans h.tape, k.output.trans h.output, Nat.le_trans h.size k.size, fun b hlt hn => (k.heap b (Nat.lt_of_lt_of_le hlt h.size) (fun h1 => (hb b h1).elim hn (fun h2 => by omega))).trans (h.heap b hlt hn)⟩
theorem Own.trans [Str] {w w1 w2 : World} {b0 b1 b2 : List (Option Nat)} (h : Own w w1 b0 b1) (k : Own w1 w2 b1 b2) : Own w w2 b0 b2 :=
  ⟨h.step.trans k.step (fun b hb => (h.at_ b hb).1), k.dup, fun b hb => ⟨(k.at_ b hb).1.elim (fun h1 => (h.at_ b h1).1) (fun h1 => .inr (Nat.le_trans h.step.size h1)), (k.at_ b hb).2⟩⟩
theorem Seeable.trans [Str] {G : Nat → Prop} {w w1 w2 : World} {b0 b1 b2 : List (Option Nat)} (h : Own w w1 b0 b1) (k : Own w1 w2 b1 b2) : ∀ b, Seeable (Seeable G w w1 b0 b1) w1 w2 b1 b2 b → Seeable G w w2 b0 b2 b := by
  rintro b ((hb | ⟨h1, h2, h3⟩) | ⟨h1, h2, h3⟩)
  · exact .inl hb
  · refine .inr ⟨h1, Nat.lt_of_lt_of_le h2 k.step.size, fun h4 => ?_⟩
    rcases (k.at_ b h4).1 with h5 | h5
    · exact h3 h5
    · omega
  · refine .inr ⟨?_, h2, h3⟩
    rcases h1 with h1 | h1
    · exact (h.at_ b h1).1
    · exact .inr (Nat.le_trans h.step.size h1)
/-- into a piece of code -/
theorem of_enterK [Str] {w : World} {G : Nat → Prop} {bs bs' : List (Option Nat)} {fix ins : List (Nat × RT)} {x : dens (rtsOf fix)} {y : dens (rtsOf ins)} {K : St → Option R} {r : R} {a : Act} {ws : List Nat} (hsz : a.tmps.size = E.ntmps) (hdf : a.defers = [])
    (hrr : RRs false w G (rtsOf fix) x (valsAt a fix) bs) (hrr' : RRs false w G (rtsOf ins) y (valsAt a ins) bs') (hbs : ∀ b, some b ∈ bs ++ bs' → ¬ G b ∧ b < w.heap.size) (hnd : (somes (bs ++ bs')).Nodup) (hG : ∀ b, G b → b < w.heap.size)
    (h : enterK fix ins x y K = some r) : ∃ (S : St) (X : Cx), X.w = w ∧ K S = some r ∧ Rel X ⟨w, G, fun b => some b ∈ bs ++ bs'⟩ E (keepOf ws) a.tmps S a X := by
  obtain ⟨hg0, hfree⟩ := start hbs hnd hG
  unfold enterK at h
  obtain ⟨l, X1, nm1, h1, hg1, hlaid, hl⟩ := of_encs (rtsOf fix) hg0 hrr hfree.left h
  obtain ⟨m, X2, nm2, h2, hg2, hlaid2, hm⟩ := of_encs (rtsOf ins) hg1 (by rw [hlaid.w, hlaid.G]; exact hrr') (hfree.behind hlaid) h1
  refine ⟨_, X2, hlaid2.w.trans hlaid.w, h2, ⟨hg2, .refl X2, by rw [puts_objs, puts_objs], fun t => ?_, hsz, fun _ _ => rfl, hdf⟩⟩
  exact puts_slot ins hm (fun t => puts_slot fix (S := ⟨fun _ => .undef, _⟩) (hl.ext hlaid2.ext) (fun _ => trivial) t) t
theorem kept_of {ws : List Nat} {t : Nat} (h : memN t ws = false) : keepOf ws t = true := by simp [keepOf, h]
/-- a loop keeps the contract that its rounds come to -/
theorem loop_meetsB [Str] {E : Nat → Env} {nt : Nat} (hnt : ∀ n, (E n).ntmps = nt) (N : Nat) (hE : ∀ n, n < N → EnvOK P (E n)) (hD : ∀ n, n < N → DrawOK P (E n)) {body : Code} (c : Cut) (F : Nat → dens (rtsOf c.fix) → dens (rtsOf c.ins) → Option c.α) (fin : dens (rtsOf c.fix) → (i : Nat) → dens (rtsOf (wayAt c.ways i).outs) → Option c.α)
    (hfin : ∀ x x' i z a, fin x' i z = some a → c.out a = ⟨i, z⟩ ∧ UpEqs (rtsOf c.fix) (c.up x a) x') (hfix : slotsOut c.fix c.writes = true) (hC : ∀ n, n < N → CutsOK P (E n) (pick (E n) body (cutsOf (E n) body)))
    (h0 : ∀ x y, F 0 x y = none) (hs : ∀ n x y, loopK (E n) c.fix c.ins c.writes c.ways fin body (F n) x y = F (n + 1) x y) : CutMeets P (.loop body) nt { c with F := F N } := by
  intro x y z hz a1 w1 G bs bs' hsz hdf hrr hrr' hbs hnd hG
  refine wp_loop_fuel (fun n a w => n ≤ N ∧ a.tmps.size = nt ∧ a.defers = [] ∧ (∀ t, memN t c.writes = false → a.tmps.getD t undef = a1.tmps.getD t undef) ∧ ∃ x y b1 b2, F n x y = some z ∧
    RRs false w (Seeable G w1 w (bs ++ bs') (b1 ++ b2)) (rtsOf c.fix) x (valsAt a c.fix) b1 ∧ RRs false w (Seeable G w1 w (bs ++ bs') (b1 ++ b2)) (rtsOf c.ins) y (valsAt a c.ins) b2 ∧ Own w1 w (bs ++ bs') (b1 ++ b2)) (n := N) ?_ ?_
  · refine ⟨Nat.le_refl _, hsz, hdf, fun _ _ => rfl, x, y, bs, bs', hz, hrr.imp (fun _ h => .inl h) (fun _ _ => rfl) (fun _ _ => rfl), hrr'.imp (fun _ h => .inl h) (fun _ _ => rfl) (fun _ _ => rfl), ⟨⟨rfl, Td.refl _, rfl, Nat.le_refl _, fun _ _ _ => rfl⟩, hnd, fun b hb => ⟨.inl hb, (hbs b hb).2⟩⟩⟩
  · rintro n a w ⟨hle, hsz, hdf, hkeep, x2, y2, b1, b2, hF, hr1, hr2, hown⟩
    cases n with
    | zero => rw [h0] at hF; cases hF
    | succ n =>
      rw [← hs] at hF
      unfold loopK at hF
      have hbs2 : ∀ b, some b ∈ b1 ++ b2 → ¬ Seeable G w1 w (bs ++ bs') (b1 ++ b2) b ∧ b < w.heap.size := fun b hb => by
        refine ⟨?_, (hown.at_ b hb).2⟩
        rintro (h | ⟨_, _, h⟩)
        · rcases (hown.at_ b hb).1 with h1 | h1
          · exact (hbs b h1).1 h
          · have := hG b h; omega
        · exact h hb
      have hG2 : ∀ b, Seeable G w1 w (bs ++ bs') (b1 ++ b2) b → b < w.heap.size := fun b hb => hb.elim (fun h => Nat.lt_of_lt_of_le (hG b h) hown.step.size) (fun h => h.2.1)
      obtain ⟨S, X, hXw, hK, hr⟩ := of_enterK (E := E n) (ws := c.writes) (hsz.trans (hnt n).symm) hdf hr1 hr2 hbs2 hown.dup hG2 hF
      rw [← hXw]
      have hkeep2 : ∀ {a' : Act} {S' : St} {X' : Cx}, Rel X ⟨w, Seeable G w1 w (bs ++ bs') (b1 ++ b2), fun b => some b ∈ b1 ++ b2⟩ (E n) (keepOf c.writes) a.tmps S' a' X' → ∀ t, memN t c.writes = false → a'.tmps.getD t undef = a1.tmps.getD t undef := fun hr' t ht => (hr'.kept t (kept_of ht)).trans (hkeep t ht)
      have hKs : ∀ e S' a' X', roundK c.fix c.ins (F n) (wayK c.fix c.ways fin) e S' = some z → Rel X ⟨w, Seeable G w1 w (bs ++ bs') (b1 ++ b2), fun b => some b ∈ b1 ++ b2⟩ (E n) (keepOf c.writes) a.tmps S' a' X' →
          Exit.then (fun a' w' => ∃ m, m < n + 1 ∧ (m ≤ N ∧ a'.tmps.size = nt ∧ a'.defers = [] ∧ (∀ t, memN t c.writes = false → a'.tmps.getD t undef = a1.tmps.getD t undef) ∧ ∃ x y b1 b2, F m x y = some z ∧
            RRs false w' (Seeable G w1 w' (bs ++ bs') (b1 ++ b2)) (rtsOf c.fix) x (valsAt a' c.fix) b1 ∧ RRs false w' (Seeable G w1 w' (bs ++ bs') (b1 ++ b2)) (rtsOf c.ins) y (valsAt a' c.ins) b2 ∧ Own w1 w' (bs ++ bs') (b1 ++ b2)))
            (fun e a' w' => ∃ bs1 bs2, e = exOf (wayAt c.ways (c.out z).1).ex ∧ a'.tmps.size = nt ∧ a'.defers = [] ∧ (∀ t, memN t c.writes = false → a'.tmps.getD t undef = a1.tmps.getD t undef) ∧
              RRs true w' (Seeable G w1 w' (bs ++ bs') (bs1 ++ bs2)) (rtsOf c.fix) (c.up x z) (valsAt a1 c.fix) bs1 ∧
              RRs false w' (Seeable G w1 w' (bs ++ bs') (bs1 ++ bs2)) (rtsOf (wayAt c.ways (c.out z).1).outs) (c.out z).2 (valsAt a' (wayAt c.ways (c.out z).1).outs) bs2 ∧ Own w1 w' (bs ++ bs') (bs1 ++ bs2)) (exOf e) a' X'.w := by
        intro e S' a' X' hk hr'
        have hfx : valsAt a' c.fix = valsAt a1 c.fix := slotsOut_of hfix (hkeep2 hr')
        have hway : wayK c.fix c.ways fin e S' = some z → ∃ bs1 bs2, exOf e = exOf (wayAt c.ways (c.out z).1).ex ∧ a'.tmps.size = nt ∧ a'.defers = [] ∧ (∀ t, memN t c.writes = false → a'.tmps.getD t undef = a1.tmps.getD t undef) ∧
              RRs true X'.w (Seeable G w1 X'.w (bs ++ bs') (bs1 ++ bs2)) (rtsOf c.fix) (c.up x z) (valsAt a1 c.fix) bs1 ∧
              RRs false X'.w (Seeable G w1 X'.w (bs ++ bs') (bs1 ++ bs2)) (rtsOf (wayAt c.ways (c.out z).1).outs) (c.out z).2 (valsAt a' (wayAt c.ways (c.out z).1).outs) bs2 ∧ Own w1 X'.w (bs ++ bs') (bs1 ++ bs2) := fun hk => by
          unfold wayK at hk
          split at hk
          · rename_i i hi
            rw [← hr'.objs] at hk
            obtain ⟨x', z', e1, e2, k1, k2, k3, k4⟩ := slotsTwo hr'.good (HVs.slots hr'.slot c.fix) (HVs.slots hr'.slot (wayAt c.ways i).outs) hk
            obtain ⟨q1, q2⟩ := hfin x x' i z' z k1
            obtain ⟨_, w2⟩ := findWay_at hi
            rw [Nat.sub_zero] at w2
            refine ⟨e1, e2, ?_, (hr'.size.trans (hnt n)), hr'.defers, hkeep2 hr', ?_, ?_, hown.trans k2⟩
            · rw [q1, w2]
            · rw [← hfx]
              exact (k3.up q2).imp (Seeable.trans hown k2) (fun _ _ => rfl) (fun _ _ => rfl)
            · rw [q1]
              exact k4.imp (Seeable.trans hown k2) (fun _ _ => rfl) (fun _ _ => rfl)
          · cases hk
        cases e with
        | normal =>
          simp only [roundK] at hk
          rw [← hr'.objs] at hk
          obtain ⟨x', y', e1, e2, k1, k2, k3, k4⟩ := slotsTwo hr'.good (HVs.slots hr'.slot c.fix) (HVs.slots hr'.slot c.ins) hk
          exact ⟨n, Nat.lt_succ_self n, Nat.le_of_succ_le hle, (hr'.size.trans (hnt n)), hr'.defers, hkeep2 hr', x', y', e1, e2, k1, k3.imp (Seeable.trans hown k2) (fun _ _ => rfl) (fun _ _ => rfl), k4.imp (Seeable.trans hown k2) (fun _ _ => rfl) (fun _ _ => rfl), hown.trans k2⟩
        | exit id => exact hway hk
        | goto l => exact hway hk
        | ret => exact hway hk
      exact orCut_sound hKs hr (hC n hle) (fun hC' hrun' => code_sound (hE n hle) (hD n hle) body hC' hKs hr hrun') hK
theorem loop_meets [Str] {E : Nat → Env} {nt : Nat} (hnt : ∀ n, (E n).ntmps = nt) (hE : ∀ n, EnvOK P (E n)) (hD : ∀ n, DrawOK P (E n)) {body : Code} (c : Cut) (F : Nat → dens (rtsOf c.fix) → dens (rtsOf c.ins) → Option c.α) (fin : dens (rtsOf c.fix) → (i : Nat) → dens (rtsOf (wayAt c.ways i).outs) → Option c.α)
    (hfin : ∀ x x' i z a, fin x' i z = some a → c.out a = ⟨i, z⟩ ∧ UpEqs (rtsOf c.fix) (c.up x a) x') (hfix : slotsOut c.fix c.writes = true) (hC : ∀ n, CutsOK P (E n) (pick (E n) body (cutsOf (E n) body)))
    (h0 : ∀ x y, F 0 x y = none) (hs : ∀ n x y, loopK (E n) c.fix c.ins c.writes c.ways fin body (F n) x y = F (n + 1) x y) (n : Nat) : CutMeets P (.loop body) nt { c with F := F n } :=
  loop_meetsB hnt n (fun n _ => hE n) (fun n _ => hD n) c F fin hfin hfix (fun n _ => hC n) h0 hs
/-- a piece of code keeps the contract that it comes to -/
theorem piece_meets [Str] (hE : EnvOK P E) (hD : DrawOK P E) {body : Code} (c : Cut) (fin : dens (rtsOf c.fix) → (i : Nat) → dens (rtsOf (wayAt c.ways i).outs) → Option c.α)
    (hfin : ∀ x x' i z a, fin x' i z = some a → c.out a = ⟨i, z⟩ ∧ UpEqs (rtsOf c.fix) (c.up x a) x') (hfix : slotsOut c.fix c.writes = true) (hC : CutsOK P E (cutsOf E body))
    (hs : ∀ x y, pieceK E c.fix c.ins c.writes c.ways fin body x y = c.F x y) : CutMeets P body E.ntmps c := by
  intro x y z hz a w G bs bs' hsz hdf hrr hrr' hbs hnd hG
  have hF := (hs x y).trans hz
  unfold pieceK at hF
  obtain ⟨S, X, hXw, hK, hr⟩ := of_enterK (E := E) (ws := c.writes) hsz hdf hrr hrr' hbs hnd hG hF
  subst hXw
  refine code_sound hE hD body hC ?_ hr hK
  intro e S' a' X' hk hr'
  have hfx : valsAt a' c.fix = valsAt a c.fix := slotsOut_of hfix (fun t ht => hr'.kept t (kept_of ht))
  unfold wayK at hk
  split at hk
  · rename_i i hi
    rw [← hr'.objs] at hk
    obtain ⟨x', z', e1, e2, k1, k2, k3, k4⟩ := slotsTwo hr'.good (HVs.slots hr'.slot c.fix) (HVs.slots hr'.slot (wayAt c.ways i).outs) hk
    obtain ⟨q1, q2⟩ := hfin x x' i z' z k1
    obtain ⟨_, w2⟩ := findWay_at hi
    rw [Nat.sub_zero] at w2
    refine ⟨e1, e2, ?_, hr'.size, hr'.defers, fun t ht => hr'.kept t (kept_of ht), ?_, ?_, k2⟩
    · rw [q1, w2]
    · rw [← hfx]; exact k3.up q2
    · rw [q1]; exact k4
  · cases hk
end Go.Ev
namespace Go.Ev
open Go.RowKit
variable {R : Type} {P : Program} {E : Env}
/-! what an operation of a drawn region does, as a value -/
theorem runF_bind {β : Type} : ∀ (p : Prog β) (O : Objs) (rd wr : List Nat) (K : β → Objs → List Nat → List Nat → Option R),
    p.runF O rd wr K = (p.runF O rd wr fun b O r w => some (b, O, r, w)).bind fun x => K x.1 x.2.1 x.2.2.1 x.2.2.2
  | .ret _, _, _, _, _ => rfl
  | .fail, _, _, _, _ => rfl
  | .ite c d x y, O, rd, wr, K => by
    simp only [Prog.runF]
    cases d with
    | isTrue h => simp only [if_pos h]; exact runF_bind x ..
    | isFalse h => simp only [if_neg h]; exact runF_bind y ..
  | .get n k, O, rd, wr, K => by simp only [Prog.runF]; exact runF_bind (k (O n)) ..
  | .put n o k, O, rd, wr, K => by simp only [Prog.runF]; exact runF_bind k ..
  | .come α s c k, O, rd, wr, K => by
    simp only [Prog.runF]
    cases c with
    | none => rfl
    | some a => simp only [Option.bind_some, s.ok]; exact runF_bind (k a) ..
theorem run_runF {β : Type} : ∀ (p : Prog β) (O : Objs) (rd wr : List Nat) (K : β → Objs → Option R), p.runF O rd wr (fun b O _ _ => K b O) = p.run O K
  | .ret _, _, _, _, _ => rfl
  | .fail, _, _, _, _ => rfl
  | .ite c d x y, O, rd, wr, K => by
    simp only [Prog.runF, Prog.run]
    cases d with
    | isTrue h => simp only [if_pos h]; exact run_runF x ..
    | isFalse h => simp only [if_neg h]; exact run_runF y ..
  | .get n k, O, rd, wr, K => by simp only [Prog.runF, Prog.run]; exact run_runF (k (O n)) ..
  | .put n o k, O, rd, wr, K => by simp only [Prog.runF, Prog.run]; exact run_runF k ..
  | .come α s c k, O, rd, wr, K => by
    simp only [Prog.runF, Prog.run]
    cases c with
    | none => rfl
    | some a => simp only [Option.bind_some, s.ok]; exact run_runF (k a) ..
theorem runF_local [Str] {β : Type} : ∀ (p : Prog β) {O O' : Objs} {rd wr rd' wr' : List Nat} {b : β}, p.runF O rd wr (fun b O r w => some (b, O, r, w)) = some (b, O', rd', wr') →
    ∃ rd1 wr1, rd' = rd1 ++ rd ∧ wr' = wr1 ++ wr ∧ (∀ n, n ∉ wr1 → O' n = O n) ∧
      ∀ (O2 : Objs) (rd2 wr2 : List Nat), (∀ n, n ∈ rd1 → O2 n = O n) → ∃ O2', p.runF O2 rd2 wr2 (fun b O r w => some (b, O, r, w)) = some (b, O2', rd1 ++ rd2, wr1 ++ wr2) ∧ (∀ n, n ∈ wr1 → O2' n = O' n) ∧ (∀ n, n ∉ wr1 → O2' n = O2 n)
  | .ret _, O, O', rd, wr, rd', wr', b, h => by
    simp only [Prog.runF, Option.some.injEq, Prod.mk.injEq] at h
    obtain ⟨rfl, rfl, rfl, rfl⟩ := h
    exact ⟨[], [], rfl, rfl, fun _ _ => rfl, fun O2 _ _ _ => ⟨O2, rfl, fun _ hn => (by cases hn), fun _ _ => rfl⟩⟩
  | .fail, _, _, _, _, _, _, _, h => by cases h
  | .ite c d x y, O, O', rd, wr, rd', wr', b, h => by
    simp only [Prog.runF] at h ⊢
    cases d with
    | isTrue hc => simp only [if_pos hc] at h ⊢; exact runF_local x h
    | isFalse hc => simp only [if_neg hc] at h ⊢; exact runF_local y h
  | .get n k, O, O', rd, wr, rd', wr', b, h => by
    simp only [Prog.runF] at h ⊢
    obtain ⟨rd1, wr1, h1, h2, h3, h4⟩ := runF_local (k (O n)) h
    refine ⟨rd1 ++ [n], wr1, by rw [h1]; simp, h2, h3, fun O2 rd2 wr2 hO => ?_⟩
    obtain ⟨O2', g1, g2, g3⟩ := h4 O2 (n :: rd2) wr2 (fun m hm => hO m (List.mem_append_left _ hm))
    refine ⟨O2', ?_, g2, g3⟩
    rw [hO n (List.mem_append_right _ (List.mem_singleton.2 rfl)), g1]
    simp
  | .put n o k, O, O', rd, wr, rd', wr', b, h => by
    simp only [Prog.runF] at h ⊢
    obtain ⟨rd1, wr1, h1, h2, h3, h4⟩ := runF_local k h
    refine ⟨rd1, wr1 ++ [n], h1, by rw [h2]; simp, fun m hm => ?_, fun O2 rd2 wr2 hO => ?_⟩
    · rw [List.mem_append, not_or] at hm
      rw [h3 m hm.1]
      have hne : ¬ m = n := fun e => hm.2 (List.mem_singleton.2 e)
      simp only [Objs.set, beq_false hne, cond_false]
    · obtain ⟨O2', g1, g2, g3⟩ := h4 (O2.set n o) rd2 (n :: wr2) (fun m hm => by
        by_cases e : m = n
        · subst e; simp only [Objs.set, Nat.beq_refl, cond_true]
        · simp only [Objs.set, beq_false e, cond_false]; exact hO m hm)
      refine ⟨O2', by rw [g1]; simp, fun m hm => ?_, fun m hm => ?_⟩
      · by_cases hw : m ∈ wr1
        · exact g2 m hw
        · rw [g3 m hw, h3 m hw]
          rcases List.mem_append.1 hm with hm | hm
          · exact absurd hm hw
          · cases List.mem_singleton.1 hm
            simp only [Objs.set, Nat.beq_refl, cond_true]
      · rw [List.mem_append, not_or] at hm
        rw [g3 m hm.1]
        have hne : ¬ m = n := fun e => hm.2 (List.mem_singleton.2 e)
        simp only [Objs.set, beq_false hne, cond_false]
  | .come α s c k, O, O', rd, wr, rd', wr', b, h => by
    simp only [Prog.runF] at h ⊢
    cases c with
    | none => cases h
    | some a => simp only [Option.bind_some, s.ok] at h ⊢; exact runF_local (k a) h
/-! an operation looks at its operands alone -/
theorem evs_congr {tm tm' : Nat → SV} : ∀ {l : List (Nat × Operand)}, (∀ x ∈ l.map (·.2), evalS tm x = evalS tm' x) → evs tm l = evs tm' l
  | [], _ => rfl
  | (i, x) :: r, h => by
    simp only [evs]
    rw [h x (by simp), evs_congr (l := r) fun y hy => h y (by simp only [List.map_cons, List.mem_cons]; exact .inr hy)]
theorem evl_congr {tm tm' : Nat → SV} : ∀ {l : List Operand}, (∀ x ∈ l, evalS tm x = evalS tm' x) → evl tm l = evl tm' l
  | [], _ => rfl
  | x :: r, h => by
    simp only [evl]
    rw [h x (by simp), evl_congr (l := r) fun y hy => h y (by simp [hy])]
theorem opP_congr [Str] {tm tm' : Nat → SV} (o : Oper) (nm : Nat) (h : ∀ x ∈ o.op.operands, evalS tm x = evalS tm' x) : opP E o tm nm = opP E o tm' nm := by
  obtain ⟨dst, op, type, pos, after, guard⟩ := o
  cases op <;> simp only [Op.operands] at h <;> simp only [opP]
  case build t ps => rw [evs_congr (l := ps.toList) fun x hx => h x (by simpa using hx)]
  case buildSlice t n ps => rw [evs_congr (l := ps.toList) fun x hx => h x (by simpa using hx)]
  case makeFunc fn first captured =>
    cases fn <;> simp only [opP]
    rw [evl_congr (l := first.toList) fun x hx => h x (by simp at hx; simp [hx]), evl_congr (l := captured.toList) fun x hx => h x (by simp at hx; simp [hx])]
  case call c =>
    have ha : evl tm c.args.toList = evl tm' c.args.toList := evl_congr fun x hx => h x (by simp at hx; simp [Call.operands, hx])
    rw [ha]
    cases hc : c.callee with
    | value f => simp only [h f (by simp [Call.operands, hc])]
    | invoke r m => rfl
    | builtin b => cases b <;> rfl
  case slice t x lo hi mx => cases lo <;> cases hi <;> cases mx <;> simp_all [opP]
  all_goals (first | rfl | (simp_all; done) | skip)
/-! one step, as a value -/
noncomputable def stepO (E : Env) (keep : Nat → Bool) (all : List Oper) (x : Nat × Oper) (S : St) : Option (St × List Nat × List Nat) :=
  stepF E keep all x.1 x.2 S fun S' rd wr => some (S', rd, wr)
theorem stepF_bind [Str] {keep : Nat → Bool} {all : List Oper} {i : Nat} {o : Oper} {S : St} {K : St → List Nat → List Nat → Option R} : stepF E keep all i o S K = (stepO E keep all (i, o) S).bind fun x => K x.1 x.2.1 x.2.2 := by
  have hrun : ((opP E o S.tmps (nmOf i o.dst)).runF S.objs [] [] fun v O rd wr => K (S.put o.dst v O) rd wr) = ((opP E o S.tmps (nmOf i o.dst)).runF S.objs [] [] fun v O rd wr => some (S.put o.dst v O, rd, wr)).bind fun x => K x.1 x.2.1 x.2.2 := by
    rw [runF_bind, runF_bind (K := fun v O rd wr => some (S.put o.dst v O, rd, wr))]
    cases (opP E o S.tmps (nmOf i o.dst)).runF S.objs [] [] fun b O r w => some (b, O, r, w) <;> rfl
  unfold stepO stepF
  cases dstOk keep E.ntmps o.dst with
  | false => rfl
  | true =>
    simp only [cond_true]
    cases o.guard with
    | none => exact hrun
    | some jw =>
      obtain ⟨j, want⟩ := jw
      simp only
      cases dstAt all j with
      | none => rfl
      | some d =>
        simp only
        cases S.tmps d <;> first | rfl | skip
        · rename_i b
          simp only
          by_cases hb : b = want
          · rw [if_pos hb, if_pos hb]; exact hrun
          · rw [if_neg hb, if_neg hb]; rfl
        · rename_i vs
          cases vs <;> rfl
theorem evalS_look {S S2 : St} {ops : Array Oper} {o : Oper} (h : ∀ t, t ∈ o.looksAt ops → S2.tmps t = S.tmps t) : ∀ x ∈ o.op.operands, evalS S2.tmps x = evalS S.tmps x := by
  intro x hx
  cases x with
  | tmp t =>
    refine h t ?_
    exact List.mem_append_left _ (List.mem_filterMap.2 ⟨.tmp t, by simpa using hx, rfl⟩)
  | _ => rfl
theorem stepO_local [Str] {keep : Nat → Bool} {ops : Array Oper} {i : Nat} {o : Oper} {S S' : St} {rd wr : List Nat} (h : stepO E keep ops.toList (i, o) S = some (S', rd, wr)) :
    ∃ v, S' = S.put o.dst v S'.objs ∧ (∀ n, n ∉ wr → S'.objs n = S.objs n) ∧
      ∀ S2 : St, (∀ t, t ∈ o.looksAt ops → S2.tmps t = S.tmps t) → (∀ n, n ∈ rd → S2.objs n = S.objs n) → ∃ O2, stepO E keep ops.toList (i, o) S2 = some (S2.put o.dst v O2, rd, wr) ∧ (∀ n, n ∈ wr → O2 n = S'.objs n) ∧ (∀ n, n ∉ wr → O2 n = S2.objs n) := by
  have hrun : ((opP E o S.tmps (nmOf i o.dst)).runF S.objs [] [] fun v O rd wr => some (S.put o.dst v O, rd, wr)) = some (S', rd, wr) →
      ∃ v, S' = S.put o.dst v S'.objs ∧ (∀ n, n ∉ wr → S'.objs n = S.objs n) ∧
      ∀ S2 : St, (∀ t, t ∈ o.looksAt ops → S2.tmps t = S.tmps t) → (∀ n, n ∈ rd → S2.objs n = S.objs n) → ∃ O2, ((opP E o S2.tmps (nmOf i o.dst)).runF S2.objs [] [] fun v O rd wr => some (S2.put o.dst v O, rd, wr)) = some (S2.put o.dst v O2, rd, wr) ∧ (∀ n, n ∈ wr → O2 n = S'.objs n) ∧ (∀ n, n ∉ wr → O2 n = S2.objs n) := by
    intro h
    rw [runF_bind] at h
    cases hr : (opP E o S.tmps (nmOf i o.dst)).runF S.objs [] [] fun b O r w => some (b, O, r, w) with
    | none => rw [hr] at h; cases h
    | some x =>
      obtain ⟨v, O', rd', wr'⟩ := x
      rw [hr] at h
      simp only [Option.bind_some, Option.some.injEq, Prod.mk.injEq] at h
      obtain ⟨h1, rfl, rfl⟩ := h
      obtain ⟨rd1, wr1, e1, e2, h3, h4⟩ := runF_local _ hr
      rw [List.append_nil] at e1 e2
      subst e1 e2
      have ho : S'.objs = O' := by rw [← h1]; cases o.dst <;> rfl
      refine ⟨v, by rw [ho]; exact h1.symm, by rw [ho]; exact h3, fun S2 ht hO => ?_⟩
      obtain ⟨O2, g1, g2, g3⟩ := h4 S2.objs [] [] hO
      refine ⟨O2, ?_, by rw [ho]; exact g2, g3⟩
      rw [opP_congr o _ (evalS_look ht), runF_bind, g1]
      simp
  have hput : ∀ (S : St) (n : Nat), (S.put o.dst (.tup []) S.objs).objs n = S.objs n := fun S n => by cases o.dst <;> rfl
  unfold stepO stepF at h ⊢
  cases hk : dstOk keep E.ntmps o.dst with
  | false => rw [hk] at h; cases h
  | true =>
    rw [hk] at h
    simp only [cond_true] at h ⊢
    cases hg : o.guard with
    | none => rw [hg] at h; exact hrun h
    | some jw =>
      obtain ⟨j, want⟩ := jw
      rw [hg] at h
      simp only at h ⊢
      cases hd : dstAt ops.toList j with
      | none => rw [hd] at h; cases h
      | some d =>
        rw [hd] at h
        simp only at h ⊢
        have hmem : d ∈ o.looksAt ops := by
          refine List.mem_append_right _ ?_
          rw [hg]
          have e1 : (ops[j]?).bind (·.dst) = some d := by
            unfold dstAt at hd
            simp only [Array.getElem?_toList] at hd
            split at hd
            · rename_i o ho; rw [ho]; exact hd
            · cases hd
          simp [e1]
        split at h
        · rename_i b hb
          have hb2 : ∀ S2 : St, (∀ t, t ∈ o.looksAt ops → S2.tmps t = S.tmps t) → S2.tmps d = .bool b := fun S2 ht => (ht d hmem).trans hb
          by_cases hbw : b = want
          · rw [if_pos hbw] at h
            obtain ⟨v, h1, h2, h3⟩ := hrun h
            refine ⟨v, h1, h2, fun S2 ht hO => ?_⟩
            obtain ⟨O2, g1, g2, g3⟩ := h3 S2 ht hO
            refine ⟨O2, ?_, g2, g3⟩
            simp only [hb2 S2 ht]
            rw [if_pos hbw, g1]
          · rw [if_neg hbw] at h
            simp only [Option.some.injEq, Prod.mk.injEq] at h
            obtain ⟨rfl, rfl, rfl⟩ := h
            refine ⟨.tup [], ?_, fun n _ => hput S n, fun S2 ht hO => ⟨S2.objs, ?_, fun _ hn => (by cases hn), fun _ _ => rfl⟩⟩
            · cases o.dst <;> rfl
            · simp only [hb2 S2 ht]
              rw [if_neg hbw]
        · rename_i hb
          simp only [Option.some.injEq, Prod.mk.injEq] at h
          obtain ⟨rfl, rfl, rfl⟩ := h
          refine ⟨.tup [], ?_, fun n _ => hput S n, fun S2 ht hO => ⟨S2.objs, ?_, fun _ hn => (by cases hn), fun _ _ => rfl⟩⟩
          · cases o.dst <;> rfl
          · simp only [(ht d hmem).trans hb]
        · cases h
theorem memN_of : ∀ {l : List Nat} {n : Nat}, n ∈ l → memN n l = true
  | a :: r, n, h => by
    simp only [memN, Bool.or_eq_true]
    rcases List.mem_cons.1 h with h | h
    · exact .inl (by rw [h]; exact Nat.beq_refl a)
    · exact .inr (memN_of h)
theorem apartN_of [Str] : ∀ {l m : List Nat}, apartN l m = true → ∀ {n}, n ∈ m → n ∉ l
  | l, a :: r, h, n, hn => by
    simp only [apartN, Bool.and_eq_true, Bool.not_eq_true'] at h
    rcases List.mem_cons.1 hn with e | hn
    · subst e
      intro hl
      rw [memN_of hl] at h
      exact absurd h.1 (by decide)
    · exact apartN_of h.2 hn
/-- two steps that lie apart, the other way round -/
theorem stepO_swap [Str] {keep : Nat → Bool} {ops : Array Oper} {p q : Nat × Oper} {S S1 S2 : St} {rp wp rq wq : List Nat} (hp : stepO E keep ops.toList p S = some (S1, rp, wp)) (hq : stepO E keep ops.toList q S1 = some (S2, rq, wq))
    (ha : Oper.apart ops p.2 q.2 = true) (h1 : apartN wp rq = true) (h2 : apartN wp wq = true) (h3 : apartN wq rp = true) : ∃ T, stepO E keep ops.toList q S = some (T, rq, wq) ∧ stepO E keep ops.toList p T = some (S2, rp, wp) := by
  obtain ⟨i, p⟩ := p
  obtain ⟨j, q⟩ := q
  obtain ⟨a1, a2, a3⟩ := Oper.apart_spec ha
  obtain ⟨vp, e1, p1, p2⟩ := stepO_local hp
  obtain ⟨vq, e2, q1, q2⟩ := stepO_local hq
  have htm : ∀ (S : St) (d : Option Nat) (v : SV) (O : Objs) (t : Nat), (∀ x, d = some x → t ≠ x) → (S.put d v O).tmps t = S.tmps t := by
    intro S d v O t h
    cases d with
    | none => rfl
    | some d => simp only [St.put, beq_false (h d rfl), cond_false]
  have hob : ∀ (S : St) (d : Option Nat) (v : SV) (O : Objs), (S.put d v O).objs = O := fun S d v O => by cases d <;> rfl
  obtain ⟨O2, g1, g2, g3⟩ := q2 S (fun t ht => by
    rw [e1]
    exact (htm S p.dst vp _ t (fun x hx e => by subst e; exact a1 t hx ht)).symm) (fun n hn => (p1 n (apartN_of h1 hn)).symm)
  obtain ⟨O3, k1, k2, k3⟩ := p2 (S.put q.dst vq O2) (fun t ht => htm S q.dst vq _ t (fun x hx e => by subst e; exact a3 t hx ht)) (fun n hn => by
    rw [hob]
    exact g3 n (apartN_of h3 hn))
  refine ⟨_, g1, ?_⟩
  rw [k1]
  have hO : O3 = S2.objs := by
    funext n
    by_cases hn : n ∈ wp
    · rw [k2 n hn]
      exact (q1 n (fun hq => apartN_of h2 hq hn)).symm
    · rw [k3 n hn, hob]
      by_cases hm : n ∈ wq
      · exact g2 n hm
      · rw [g3 n hm, q1 n hm, p1 n hn]
  have hS : (S.put q.dst vq O2).put p.dst vp O3 = S2 := by
    rw [e2, e1, hO]
    cases hd : p.dst with
    | none => cases q.dst <;> rfl
    | some d =>
      cases he : q.dst with
      | none => rfl
      | some e =>
        have hne : d ≠ e := fun h => a2 d hd (h ▸ he)
        simp only [St.put]
        congr 1
        funext x
        by_cases hx : x = d
        · subst hx
          simp only [Nat.beq_refl, cond_true, beq_false hne, cond_false]
        · simp only [beq_false hx, cond_false]
  rw [hS]
/-! the operations of a drawn region that are still to come -/
noncomputable def restD (E : Env) (keep : Nat → Bool) (all : List Oper) (bs : List Nat) : List (Nat × Oper) → List (Nat × List Nat × List Nat) → St → (St → Option R) → Option R
  | [], _, S, K => K S
  | x :: l, acc, S, K => (stepO E keep all x S).bind fun y => bif apartAll (bs.getD x.1 0) y.2.1 y.2.2 acc then restD E keep all bs l ((x.1, y.2.1, y.2.2) :: acc) y.1 K else none
noncomputable def numbered : List Oper → Nat → List (Nat × Oper) | [], _ => [] | o :: os, i => (i, o) :: numbered os (i + 1)
theorem put_known [Str] {S : St} {d : Nat} {v : SV} (h : S.tmps d = v) : S.put (some d) v S.objs = S := by
  obtain ⟨tm, O⟩ := S
  simp only [St.put]
  congr 1
  funext x
  by_cases hx : x = d
  · subst hx
    simp only [Nat.beq_refl, cond_true]
    exact h.symm
  · simp only [beq_false hx, cond_false]
theorem stepG_eq [Str] {keep : Nat → Bool} {all : List Oper} {i : Nat} {o : Oper} {S : St} {K : St → List Nat → List Nat → Option R} : stepG E keep all i o S K = stepF E keep all i o S K := by
  unfold stepG stepF
  cases dstOk keep E.ntmps o.dst with
  | false => rfl
  | true =>
    simp only [cond_true]
    cases o.guard with
    | none => rfl
    | some g =>
      obtain ⟨j, want⟩ := g
      dsimp only
      cases dstAt all j with
      | none => rfl
      | some d =>
        dsimp only
        split
        · rename_i b hb
          split
          · rename_i hbw
            rw [put_known (by rw [hb, hbw])]
          · rename_i hbw
            rw [put_known (by rw [hb]; congr 1; cases b <;> cases want <;> simp_all)]
        · rfl
        · rename_i h1 h2
          rfl
theorem regD_rest [Str] {keep : Nat → Bool} {all : List Oper} {bs : List Nat} {K : St → Option R} : ∀ (os : List Oper) (i : Nat) (acc : List (Nat × List Nat × List Nat)) (S : St), regD E keep all bs os i acc S K = restD E keep all bs (numbered os i) acc S K
  | [], _, _, _ => rfl
  | o :: os, i, acc, S => by
    simp only [regD, numbered, restD]
    rw [stepG_eq, stepF_bind]
    congr 1
    funext y
    cases apartAll (bs.getD i 0) y.2.1 y.2.2 acc with
    | false => rfl
    | true => simp only [cond_true]; exact regD_rest os (i + 1) _ _
theorem apartAll_fewer {b : Nat} {rd wr : List Nat} : ∀ {acc acc' : List (Nat × List Nat × List Nat)}, (∀ x ∈ acc, x ∈ acc') → apartAll b rd wr acc' = true → apartAll b rd wr acc = true
  | [], _, _, _ => rfl
  | (i, r, w) :: l, acc', hs, h => by
    have hin : ∀ {acc' : List (Nat × List Nat × List Nat)}, (i, r, w) ∈ acc' → apartAll b rd wr acc' = true → (Nat.testBit b i || (apartN w rd && apartN w wr && apartN wr r)) = true := by
      intro acc'
      induction acc' with
      | nil => intro h _; cases h
      | cons x t ih =>
        intro hm h
        obtain ⟨i', r', w'⟩ := x
        simp only [apartAll, Bool.and_eq_true] at h
        rcases List.mem_cons.1 hm with e | hm
        · cases e; exact h.1
        · exact ih hm h.2
    simp only [apartAll, Bool.and_eq_true]
    exact ⟨by simpa only [Bool.and_eq_true] using hin (hs _ (List.mem_cons_self ..)) h, apartAll_fewer (fun x hx => hs x (List.mem_cons_of_mem _ hx)) h⟩
theorem restD_fewer [Str] {keep : Nat → Bool} {all : List Oper} {bs : List Nat} {K : St → Option R} {r : R} : ∀ {l : List (Nat × Oper)} {acc acc' : List (Nat × List Nat × List Nat)} {S : St}, (∀ x ∈ acc, x ∈ acc') → restD E keep all bs l acc' S K = some r → restD E keep all bs l acc S K = some r
  | [], _, _, _, _, h => h
  | x :: l, acc, acc', S, hs, h => by
    simp only [restD] at h ⊢
    cases hst : stepO E keep all x S with
    | none => rw [hst] at h; cases h
    | some y =>
      rw [hst] at h
      simp only [Option.bind_some] at h ⊢
      cases hap : apartAll (bs.getD x.1 0) y.2.1 y.2.2 acc' with
      | false => rw [hap] at h; cases h
      | true =>
        rw [hap] at h
        rw [apartAll_fewer hs hap]
        simp only [cond_true] at h ⊢
        refine restD_fewer (fun z hz => ?_) h
        rcases List.mem_cons.1 hz with e | hz
        · exact e ▸ List.mem_cons_self ..
        · exact List.mem_cons_of_mem _ (hs z hz)
/-- an operation that nothing ahead of it binds may come first -/
theorem restD_first [Str] {keep : Nat → Bool} {ops : Array Oper} {bs : List Nat} {K : St → Option R} {r : R} {x : Nat × Oper} {l2 : List (Nat × Oper)} : ∀ (l1 : List (Nat × Oper)) {acc : List (Nat × List Nat × List Nat)} {S : St}, (∀ y ∈ l1, Nat.testBit (bs.getD x.1 0) y.1 = false ∧ Oper.apart ops y.2 x.2 = true) →
    restD E keep ops.toList bs (l1 ++ x :: l2) acc S K = some r → ∃ S' rd wr, stepO E keep ops.toList x S = some (S', rd, wr) ∧ apartAll (bs.getD x.1 0) rd wr acc = true ∧ restD E keep ops.toList bs (l1 ++ l2) acc S' K = some r
  | [], acc, S, _, h => by
    simp only [List.nil_append, restD] at h
    cases hst : stepO E keep ops.toList x S with
    | none => rw [hst] at h; cases h
    | some y =>
      rw [hst] at h
      simp only [Option.bind_some] at h
      cases hap : apartAll (bs.getD x.1 0) y.2.1 y.2.2 acc with
      | false => rw [hap] at h; cases h
      | true =>
        rw [hap] at h
        exact ⟨y.1, y.2.1, y.2.2, rfl, hap, restD_fewer (fun z hz => List.mem_cons_of_mem _ hz) h⟩
  | p :: l1, acc, S, hl, h => by
    simp only [List.cons_append, restD] at h
    cases hst : stepO E keep ops.toList p S with
    | none => rw [hst] at h; cases h
    | some y =>
      obtain ⟨S1, rp, wp⟩ := y
      rw [hst] at h
      simp only [Option.bind_some] at h
      cases hap : apartAll (bs.getD p.1 0) rp wp acc with
      | false => rw [hap] at h; cases h
      | true =>
        rw [hap] at h
        simp only [cond_true] at h
        obtain ⟨S2, rq, wq, hq, hqa, hrest⟩ := restD_first l1 (fun y hy => hl y (List.mem_cons_of_mem _ hy)) h
        obtain ⟨hb, hpx⟩ := hl p (List.mem_cons_self ..)
        simp only [apartAll, hb, Bool.false_or, Bool.and_eq_true] at hqa
        obtain ⟨T, h1, h2⟩ := stepO_swap hst hq hpx hqa.1.1.1 hqa.1.1.2 hqa.1.2
        refine ⟨T, rq, wq, h1, hqa.2, ?_⟩
        simp only [List.cons_append, restD]
        rw [h2]
        simp only [Option.bind_some, hap, cond_true]
        exact hrest
/-- one operation at work -/
theorem step_sound [Str] {Z : Cx} {B : Base} (hE : EnvOK P E) {keep : Nat → Bool} {a0 : Array Value} {ops : Array Oper} {i : Nat} {o : Oper} (hoi : ops[i]? = some o) {Q : Exit → Act → World → Prop} {K : Act → World → Prop} {S S' : St} {rd wr : List Nat} {a : Act} {X : Cx} (hr : Rel Z B E keep a0 S a X)
    (h : stepO E keep ops.toList (i, o) S = some (S', rd, wr)) (hK : ∀ a' X', Rel Z B E keep a0 S' a' X' → K a' X'.w) : wpOp P ops Q i K a X.w := by
  simp only [wpOp, hoi]
  unfold stepO stepF at h
  cases hk : dstOk keep E.ntmps o.dst with
  | false => rw [hk] at h; cases h
  | true =>
    rw [hk] at h
    simp only [cond_true] at h
    have hrun : ((opP E o S.tmps (nmOf i o.dst)).runF S.objs [] [] fun v O rd wr => some (S.put o.dst v O, rd, wr)) = some (S', rd, wr) → o.wp P a X.w K Q := fun h => by
      have h2 : (opP E o S.tmps (nmOf i o.dst)).run S.objs (fun v O => some (S.put o.dst v O)) = some S' := by
        rw [← run_runF _ _ [] [], runF_bind]
        rw [runF_bind] at h
        cases hx : (opP E o S.tmps (nmOf i o.dst)).runF S.objs [] [] fun b O r w => some (b, O, r, w) with
        | none => rw [hx] at h; cases h
        | some x =>
          rw [hx] at h
          simp only [Option.bind_some, Option.some.injEq, Prod.mk.injEq] at h ⊢
          exact h.1
      rw [← hr.objs] at h2
      refine op_sound hE hr.good hr.slot ?_ h2
      intro v X' val hk' hg' hx' hv'
      simp only [Option.some.injEq] at hk'
      have := hr.put hk hg' hx' hv'
      rw [hk'] at this
      exact hK _ _ this
    cases hgd : o.guard with
    | none =>
      rw [hgd] at h
      rw [if_pos (by simp [Region.wanted, hgd])]
      exact .inl (hrun h)
    | some jw =>
      obtain ⟨j, want⟩ := jw
      rw [hgd] at h
      simp only at h
      split at h
      · rename_i d hdj
        split at h
        · rename_i b hb
          have hlt : d < E.ntmps := by
            by_cases hl : d < E.ntmps
            · exact hl
            · exfalso
              have hv := hr.slot d
              rw [hb] at hv
              have hv : a.tmps.getD d undef = .bool b := hv
              rw [Array.getD_eq_getD_getElem?, Array.getElem?_eq_none (by rw [hr.size]; omega)] at hv
              cases hv
          have hy := yielded_of hr hdj hb hlt
          by_cases hbw : b = want
          · rw [if_pos hbw] at h
            rw [if_pos (by simp [Region.wanted, hgd, hy, hbw])]
            exact .inl (hrun h)
          · rw [if_neg hbw] at h
            rw [if_neg (by simp [Region.wanted, hgd, hy, hbw])]
            simp only [Option.some.injEq, Prod.mk.injEq] at h
            have hr2 := hr.put (d := o.dst) hk hr.good (.refl X) (v := .tup []) (val := undef) skipV
            rw [hr.objs, h.1] at hr2
            exact hK _ _ hr2
        · rename_i hb
          rw [if_neg (by simp [Region.wanted, hgd, yielded_skip hr hdj hb])]
          simp only [Option.some.injEq, Prod.mk.injEq] at h
          have hr2 := hr.put (d := o.dst) hk hr.good (.refl X) (v := .tup []) (val := undef) skipV
          rw [hr.objs, h.1] at hr2
          exact hK _ _ hr2
        · cases h
      · cases h
end Go.Ev
namespace Go.Ev
open Go.RowKit
variable {R : Type} {P : Program} {E : Env}
/-! what comes ahead of each operation -/
theorem bitsOf_mem {bs : List Nat} {j : Nat} : ∀ {es : List Edge}, Nat.testBit (bitsOf bs es) j = true → ∃ e ∈ es, Region.binds .any e = true ∧ (e.on = j ∨ Nat.testBit (bs.getD e.on 0) j = true)
  | [], h => by simp [bitsOf] at h
  | e :: es, h => by
    simp only [bitsOf] at h
    cases hb : Region.binds .any e with
    | false =>
      rw [hb] at h
      obtain ⟨x, hx, h⟩ := bitsOf_mem (es := es) h
      exact ⟨x, List.mem_cons_of_mem _ hx, h⟩
    | true =>
      rw [hb] at h
      simp only [cond_true, Nat.testBit_or, Bool.or_eq_true, Nat.testBit_two_pow, decide_eq_true_eq] at h
      rcases h with h | h | h
      · exact ⟨e, List.mem_cons_self .., hb, .inl h⟩
      · exact ⟨e, List.mem_cons_self .., hb, .inr h⟩
      · obtain ⟨x, hx, h⟩ := bitsOf_mem (es := es) h
        exact ⟨x, List.mem_cons_of_mem _ hx, h⟩
theorem befores_app : ∀ (os : List Oper) (bs : List Nat), ∃ r, befores os bs = bs ++ r
  | [], bs => ⟨[], by simp [befores]⟩
  | o :: os, bs => by
    obtain ⟨r, hr⟩ := befores_app os (bs ++ [bitsOf bs o.after.toList])
    exact ⟨_ :: r, by simp only [befores]; rw [hr, List.append_assoc]; rfl⟩
theorem befores_at [Str] {os : List Oper} : ∀ {bs : List Nat} {i : Nat} {o : Oper} {j : Nat}, os[i]? = some o → Nat.testBit ((befores os bs).getD (bs.length + i) 0) j = true →
    ∃ e ∈ o.after.toList, Region.binds .any e = true ∧ (e.on = j ∨ Nat.testBit ((befores os bs).getD e.on 0) j = true) := by
  induction os with
  | nil => intro bs i o j ho; simp at ho
  | cons x os ih =>
    intro bs i o j ho h
    cases i with
    | zero =>
      simp only [List.getElem?_cons_zero, Option.some.injEq] at ho
      subst ho
      simp only [befores] at h ⊢
      obtain ⟨r, hr⟩ := befores_app os (bs ++ [bitsOf bs x.after.toList])
      rw [hr] at h ⊢
      have e1 : (bs ++ [bitsOf bs x.after.toList] ++ r).getD (bs.length + 0) 0 = bitsOf bs x.after.toList := by simp [List.getD_eq_getElem?_getD]
      rw [e1] at h
      obtain ⟨e, he, hb, h⟩ := bitsOf_mem h
      refine ⟨e, he, hb, h.imp id fun h => ?_⟩
      have hlt : e.on < bs.length := by
        by_cases hl : e.on < bs.length
        · exact hl
        · rw [List.getD_eq_getElem?_getD, List.getElem?_eq_none (by omega)] at h
          simp at h
      rw [List.getD_eq_getElem?_getD] at h ⊢
      rwa [List.append_assoc, List.getElem?_append_left hlt]
    | succ i =>
      simp only [List.getElem?_cons_succ] at ho
      simp only [befores] at h ⊢
      refine ih (i := i) ho ?_
      rw [List.length_append, List.length_singleton]
      have : bs.length + 1 + i = bs.length + (i + 1) := by omega
      rwa [this]
theorem slotsOk_at {all : Array Oper} {bs : List Nat} {o : Oper} {l2 : List Oper} : ∀ {l1 : List Oper} {j : Nat} {acc : List (Nat × Oper)}, slotsOk all bs (l1 ++ o :: l2) j acc = true →
    (∀ e ∈ o.after.toList, Region.binds .any e = true → e.on < j + l1.length) ∧ (∀ y, y ∈ acc ∨ y ∈ numbered l1 j → Nat.testBit (bs.getD (j + l1.length) 0) y.1 = true ∨ Oper.apart all y.2 o = true)
  | [], j, acc, h => by
    simp only [List.nil_append, slotsOk, Bool.and_eq_true, List.all_eq_true, Bool.or_eq_true, Bool.not_eq_true'] at h
    refine ⟨fun e he hb => ?_, fun y hy => ?_⟩
    · rcases h.1.1 e he with h1 | h1
      · rw [hb] at h1; cases h1
      · exact Nat.lt_of_lt_of_le (Nat.lt_succ_self _) (Nat.le_of_ble_eq_true h1)
    · rcases hy with hy | hy
      · exact h.1.2 y hy
      · cases hy
  | x :: l1, j, acc, h => by
    simp only [List.cons_append, slotsOk, Bool.and_eq_true] at h
    obtain ⟨h1, h2⟩ := slotsOk_at (l1 := l1) h.2
    have e : j + 1 + l1.length = j + (x :: l1).length := by simp; omega
    rw [e] at h1 h2
    refine ⟨h1, fun y hy => h2 y ?_⟩
    rcases hy with hy | hy
    · exact .inl (List.mem_cons_of_mem _ hy)
    · simp only [numbered] at hy
      rcases List.mem_cons.1 hy with hy | hy
      · exact .inl (hy ▸ List.mem_cons_self ..)
      · exact .inr hy
theorem numbered_app : ∀ (l1 l2 : List Oper) (j : Nat), numbered (l1 ++ l2) j = numbered l1 j ++ numbered l2 (j + l1.length)
  | [], _, _ => rfl
  | x :: l1, l2, j => by
    simp only [List.cons_append, numbered, numbered_app l1 l2 (j + 1), List.length_cons]
    have : j + 1 + l1.length = j + (l1.length + 1) := by omega
    rw [this]
theorem numbered_lt {l : List Oper} : ∀ {j : Nat} {y : Nat × Oper}, y ∈ numbered l j → j ≤ y.1 ∧ y.1 < j + l.length := by
  induction l with
  | nil => intro j y h; cases h
  | cons x l ih =>
    intro j y h
    simp only [numbered] at h
    rcases List.mem_cons.1 h with h | h
    · subst h; simp
    · have := ih h
      simp only [List.length_cons]
      omega
noncomputable def toCome (l : List Oper) (listed : Array Bool) : List (Nat × Oper) := (numbered l 0).filter fun x => !listed.getD x.1 true
theorem getD_set_ne {listed : Array Bool} {i j : Nat} (h : i ≠ j) (d : Bool) : (listed.setIfInBounds i true).getD j d = listed.getD j d := by
  simp only [Array.getD_eq_getD_getElem?]
  rw [Array.getElem?_setIfInBounds_ne h]
theorem getD_set_eq {listed : Array Bool} {i : Nat} (h : i < listed.size) (d : Bool) : (listed.setIfInBounds i true).getD i d = true := by
  simp [Array.getD_eq_getD_getElem?, h]
theorem toCome_split [Str] {ops : List Oper} {listed : Array Bool} {i : Nat} {o : Oper} (hi : i < listed.size) (ho : ops[i]? = some o) (hl : listed.getD i true = false) :
    ∃ l1 l2 m1 m2, ops = m1 ++ o :: m2 ∧ m1.length = i ∧ (∀ y ∈ l1, y ∈ numbered m1 0 ∧ listed.getD y.1 true = false) ∧ toCome ops listed = l1 ++ (i, o) :: l2 ∧ toCome ops (listed.setIfInBounds i true) = l1 ++ l2 := by
  have hlt : i < ops.length := by
    by_cases h : i < ops.length
    · exact h
    · rw [List.getElem?_eq_none (by omega)] at ho; cases ho
  have hop : ops = ops.take i ++ o :: ops.drop (i + 1) := by
    have := List.take_append_drop i ops
    rw [List.drop_eq_getElem_cons hlt] at this
    rw [List.getElem?_eq_getElem hlt] at ho
    simp only [Option.some.injEq] at ho
    rw [ho] at this
    exact this.symm
  have hln : (ops.take i).length = i := by simp; omega
  have hnum : numbered ops 0 = numbered (ops.take i) 0 ++ (i, o) :: numbered (ops.drop (i + 1)) (i + 1) := by
    have e := congrArg (fun l => numbered l 0) hop
    simp only [numbered_app, numbered, hln, Nat.zero_add] at e
    exact e
  refine ⟨(numbered (ops.take i) 0).filter fun x => !listed.getD x.1 true, (numbered (ops.drop (i + 1)) (i + 1)).filter fun x => !listed.getD x.1 true, ops.take i, ops.drop (i + 1), hop, hln, fun y hy => ?_, ?_, ?_⟩
  · have := List.mem_filter.1 hy
    exact ⟨this.1, by simpa using this.2⟩
  · unfold toCome
    rw [hnum, List.filter_append, List.filter_cons_of_pos (by simp [hl])]
  · unfold toCome
    rw [hnum, List.filter_append, List.filter_cons_of_neg (by simp [getD_set_eq hi])]
    congr 1
    · refine List.filter_congr fun y hy => ?_
      have := numbered_lt hy
      rw [getD_set_ne (by omega)]
    · refine List.filter_congr fun y hy => ?_
      have := numbered_lt hy
      rw [getD_set_ne (by omega)]
theorem any_sound [Str] {Z : Cx} {B : Base} (hE : EnvOK P E) {keep : Nat → Bool} {a0 : Array Value} {ops : Array Oper} {Q : Exit → Act → World → Prop} {K : St → Option R} {r : R} (hok : slotsOk ops (befores ops.toList []) ops.toList 0 [] = true)
    (hK : ∀ S a X, K S = some r → Rel Z B E keep a0 S a X → Q .normal a X.w) : ∀ (fuel : Nat) (listed : Array Bool) {S : St} {a : Act} {X : Cx}, listed.size = ops.size → (toCome ops.toList listed).length = fuel →
      (∀ k, listed.getD k false = true → ∀ j, Nat.testBit ((befores ops.toList []).getD k 0) j = true → listed.getD j false = true) →
      Rel Z B E keep a0 S a X → restD E keep ops.toList (befores ops.toList []) (toCome ops.toList listed) [] S K = some r → wpAny P .any ops Q fuel listed a X.w := by
  have hall : ∀ {listed : Array Bool}, listed.size = ops.size → Region.ready .any ops listed = [] → toCome ops.toList listed = [] := by
    intro listed hsz hr
    have hl : ∀ i, i < ops.size → listed.getD i true = true := by
      intro i
      induction i using Nat.strongRecOn with
      | _ i ih =>
        intro hi
        cases hc : listed.getD i true with
        | true => rfl
        | false =>
          exfalso
          have hoi : ops[i]? = some ops[i] := Array.getElem?_eq_getElem hi
          obtain ⟨l1, l2, m1, m2, hop, hln, _, _, _⟩ := toCome_split (ops := ops.toList) (by rw [hsz]; exact hi) (by rw [Array.getElem?_toList]; exact hoi) hc
          have h2 := hok
          rw [show ops.toList = m1 ++ ops[i] :: m2 from hop] at h2
          obtain ⟨hb, _⟩ := slotsOk_at (l1 := m1) h2
          rw [hln, Nat.zero_add] at hb
          have hm : i ∈ Region.ready .any ops listed := by
            refine List.mem_filter.2 ⟨List.mem_range.2 hi, ?_⟩
            simp only [hc, hoi, Bool.not_false, Bool.true_and, Option.map_some, Option.getD_some]
            rw [Array.all_eq_true_iff_forall_mem]
            intro e he
            cases hbe : Region.binds .any e with
            | false => rfl
            | true =>
              have hlt := hb e (by simpa using he) hbe
              have h1 := ih e.on hlt (by omega)
              simp only [Array.getD_eq_getD_getElem?, Array.getElem?_eq_getElem (show e.on < listed.size by omega)] at h1 ⊢
              simpa using h1
          rw [hr] at hm
          cases hm
    unfold toCome
    refine List.filter_eq_nil_iff.2 fun y hy => ?_
    have := numbered_lt hy
    rw [hl y.1 (by simpa using this.2)]
    simp
  intro fuel
  induction fuel with
  | zero =>
    intro listed S a X hsz hf hcl hr h
    have he : toCome ops.toList listed = [] := List.eq_nil_of_length_eq_zero hf
    rw [he] at h
    refine ⟨?_, hK S a X h hr⟩
    refine List.filter_eq_nil_iff.2 fun i hi => ?_
    have hi := List.mem_range.1 hi
    cases hc : listed.getD i true with
    | true => simp
    | false =>
      exfalso
      obtain ⟨l1, l2, m1, m2, _, _, _, h4, _⟩ := toCome_split (ops := ops.toList) (by rw [hsz]; exact hi) (by rw [Array.getElem?_toList]; exact Array.getElem?_eq_getElem hi) hc
      rw [he] at h4
      cases l1 <;> cases h4
  | succ fuel ih =>
    intro listed S a X hsz hf hcl hr h
    refine ⟨fun hn => ?_, fun i hi => ?_⟩
    · rw [hall hsz hn] at h
      exact hK S a X h hr
    · obtain ⟨hi, hi2⟩ := List.mem_filter.1 hi
      have hi := List.mem_range.1 hi
      have hoi : ops[i]? = some ops[i] := Array.getElem?_eq_getElem hi
      simp only [hoi, Option.map_some, Option.getD_some, Bool.and_eq_true, Bool.not_eq_true'] at hi2
      obtain ⟨hl, hedges⟩ := hi2
      rw [Array.all_eq_true_iff_forall_mem] at hedges
      have hed : ∀ e ∈ (ops[i]).after.toList, Region.binds .any e = true → listed.getD e.on false = true := fun e he hb => by
        have := hedges e (by simpa using he)
        rw [hb] at this
        simpa using this
      obtain ⟨l1, l2, m1, m2, hop, hln, h3, h4, h5⟩ := toCome_split (ops := ops.toList) (by rw [hsz]; exact hi) (by rw [Array.getElem?_toList]; exact hoi) hl
      have hbits : ∀ j, Nat.testBit ((befores ops.toList []).getD i 0) j = true → listed.getD j false = true := fun j hj => by
        have := befores_at (os := ops.toList) (bs := []) (i := i) (o := ops[i]) (j := j) (by rw [Array.getElem?_toList]; exact hoi) (by simpa using hj)
        obtain ⟨e, he, hb, h6⟩ := this
        have hlis := hed e he hb
        rcases h6 with h6 | h6
        · rw [← h6]; exact hlis
        · exact hcl e.on hlis j h6
      have hfree : ∀ y ∈ l1, Nat.testBit ((befores ops.toList []).getD i 0) y.1 = false ∧ Oper.apart ops y.2 ops[i] = true := fun y hy => by
        obtain ⟨hy1, hy2⟩ := h3 y hy
        have hnb : Nat.testBit ((befores ops.toList []).getD i 0) y.1 = false := by
          cases ht : Nat.testBit ((befores ops.toList []).getD i 0) y.1 with
          | false => rfl
          | true =>
            have h7 := hbits y.1 ht
            simp only [Array.getD_eq_getD_getElem?] at h7 hy2
            cases hx : listed[y.1]? with
            | none => rw [hx] at h7; cases h7
            | some b => rw [hx] at h7 hy2; simp at h7 hy2; rw [h7] at hy2; cases hy2
        refine ⟨hnb, ?_⟩
        have h2 := hok
        have hop' : ops.toList = m1 ++ ops[i] :: m2 := hop
        have h2 : slotsOk ops (befores ops.toList []) (m1 ++ ops[i] :: m2) 0 [] = true := by rw [← hop']; exact hok
        obtain ⟨_, hs⟩ := slotsOk_at (l1 := m1) h2
        rw [hln, Nat.zero_add] at hs
        rcases hs y (.inr hy1) with h8 | h8
        · rw [hnb] at h8; cases h8
        · exact h8
      rw [h4] at h
      obtain ⟨S', rd, wr, hst, _, hrest⟩ := restD_first (x := (i, ops[i])) l1 hfree h
      rw [← h5] at hrest
      refine step_sound hE hoi hr hst fun a' X' hr' => ih (listed.setIfInBounds i true) (by simpa using hsz) ?_ ?_ hr' hrest
      · rw [h5]
        rw [h4] at hf
        simp only [List.length_append, List.length_cons] at hf ⊢
        omega
      · intro k hk j hj
        have hmono : ∀ m, listed.getD m false = true → (listed.setIfInBounds i true).getD m false = true := fun m hm => by
          by_cases e : i = m
          · subst e; exact getD_set_eq (by rw [hsz]; exact hi) _
          · rw [getD_set_ne e]; exact hm
        by_cases e : i = k
        · subst e; exact hmono j (hbits j hj)
        · rw [getD_set_ne e] at hk
          exact hmono j (hcl k hk j hj)
/-- regions that draw their order -/
theorem draw_ok [Str] (hm : P.follows .mixedOrders = true) (hE : EnvOK P E) : DrawOK P E := by
  intro R Z B keep a0 id ops S a X K r Q hK hr h
  unfold drawK at h
  cases hs : slotsOk ops (befores ops.toList []) ops.toList 0 [] with
  | false => rw [hs] at h; cases h
  | true =>
    rw [hs] at h
    simp only [cond_true] at h
    rw [regD_rest] at h
    obtain ⟨hg, hx⟩ := hr.good.world { X.w with drawn := X.w.drawn + 1 } rfl rfl (Td.drew X.w) rfl
    have hr2 : Rel Z B E keep a0 S a ⟨{ X.w with drawn := X.w.drawn + 1 }, X.G, X.β, X.O⟩ := ⟨hg, hr.ext.trans hx, hr.objs, fun t => (hr.slot t).ext hx, hr.size, hr.kept, hr.defers⟩
    have hc : toCome ops.toList (Array.replicate ops.size false) = numbered ops.toList 0 := by
      refine List.filter_eq_self.2 fun y hy => ?_
      have := numbered_lt hy
      have hlt : y.1 < ops.size := by simpa using this.2
      simp [Array.getD_eq_getD_getElem?, hlt]
    have hn : ∀ (l : List Oper) (j : Nat), (numbered l j).length = l.length := by
      intro l
      induction l with
      | nil => intro j; rfl
      | cons x l ih => intro j; simp only [numbered, List.length_cons, ih]
    refine wp_region_any hm ?_
    refine any_sound hE hs hK ops.size (Array.replicate ops.size false) (X := ⟨{ X.w with drawn := X.w.drawn + 1 }, X.G, X.β, X.O⟩) (by simp) ?_ ?_ hr2 ?_
    · rw [hc, hn]; simp
    · intro k hk
      simp [Array.getD_eq_getD_getElem?, Array.getElem?_replicate] at hk
      split at hk <;> simp at hk
    · rw [hc]; exact h
end Go.Ev
namespace Go.Ev
open Go.RowKit
variable {R : Type} {P : Program} {E : Env}
/-! a scope: labels are loops' heads -/
/-- what a jump comes to: what a label's code takes, and gives -/
structure Aim (c : Cut) where
  ins : List (Nat × RT)
  F : dens (rtsOf c.fix) → dens (rtsOf ins) → Option c.α
noncomputable def aimK {α : Type} (fix ins : List (Nat × RT)) (F : dens (rtsOf fix) → dens (rtsOf ins) → Option α) (S : St) : Option α := (slotsP fix ins S.tmps).run S.objs fun z _ => F z.1 z.2
/-- the end of a stretch of a scope -/
noncomputable def scopeEndK (body : Code) (c : Cut) (fin : dens (rtsOf c.fix) → (i : Nat) → dens (rtsOf (wayAt c.ways i).outs) → Option c.α) (labs : Nat → Option (Aim c)) (e : Ex) (S : St) : Option c.α :=
  match e with
  | .goto l => (match labs l with
    | some g => aimK c.fix g.ins g.F S
    | none => bif labelIn body l then none else wayK c.fix c.ways fin (.goto l) S)
  | e => wayK c.fix c.ways fin e S
noncomputable def stretchK (E : Env) (body : Code) (c : Cut) (fin : dens (rtsOf c.fix) → (i : Nat) → dens (rtsOf (wayAt c.ways i).outs) → Option c.α) (labs : Nat → Option (Aim c)) (ins : List (Nat × RT)) (code : Code) (x : dens (rtsOf c.fix)) (y : dens (rtsOf ins)) : Option c.α :=
  enterK c.fix ins x y fun S => codeK E (keepOf c.writes) code S (scopeEndK body c fin labs)
def Held [Str] (c : Cut) (nt : Nat) (G : Nat → Prop) (w1 : World) (a1 : Act) (bs : List (Option Nat)) (ins : List (Nat × RT)) (F : dens (rtsOf c.fix) → dens (rtsOf ins) → Option c.α) (z : c.α) (a : Act) (w : World) : Prop :=
  a.tmps.size = nt ∧ a.defers = [] ∧ (∀ t, memN t c.writes = false → a.tmps.getD t undef = a1.tmps.getD t undef) ∧ ∃ x y b1 b2, F x y = some z ∧
    RRs false w (Seeable G w1 w bs (b1 ++ b2)) (rtsOf c.fix) x (valsAt a c.fix) b1 ∧ RRs false w (Seeable G w1 w bs (b1 ++ b2)) (rtsOf ins) y (valsAt a ins) b2 ∧ Own w1 w bs (b1 ++ b2)
def Done [Str] (c : Cut) (nt : Nat) (G : Nat → Prop) (w1 : World) (a1 : Act) (bs : List (Option Nat)) (x : dens (rtsOf c.fix)) (z : c.α) (e : Exit) (a' : Act) (w' : World) : Prop :=
  ∃ bs1 bs2, e = exOf (wayAt c.ways (c.out z).1).ex ∧ a'.tmps.size = nt ∧ a'.defers = [] ∧ (∀ t, memN t c.writes = false → a'.tmps.getD t undef = a1.tmps.getD t undef) ∧
    RRs true w' (Seeable G w1 w' bs (bs1 ++ bs2)) (rtsOf c.fix) (c.up x z) (valsAt a1 c.fix) bs1 ∧
    RRs false w' (Seeable G w1 w' bs (bs1 ++ bs2)) (rtsOf (wayAt c.ways (c.out z).1).outs) (c.out z).2 (valsAt a' (wayAt c.ways (c.out z).1).outs) bs2 ∧ Own w1 w' bs (bs1 ++ bs2)
/-- from the rest of a scope's code on the run comes out as Q says -/
def PassesQ (P : Program) (c rest : Code) (Q : Exit → Act → World → Prop) (a : Act) (w : World) : Prop :=
  ∀ (b : Frame) (k : List Item) (cs : List Frame), ∃ e a' w', Q e a' w' ∧ Arrives P (lone (b.at a (.code rest :: .inScope c :: k)) cs w) b k cs e a' w'
/-- as Q; by a jump within the scope: on from there -/
def JumpQ (P : Program) (c : Code) (Q : Exit → Act → World → Prop) : Exit → Act → World → Prop
  | .goto l, a, w => (∃ rest, findLabel c l = some rest ∧ PassesQ P c rest Q a w) ∨ (findLabel c l = none ∧ Q (.goto l) a w)
  | e, a, w => Q e a w
theorem passesQ_of {c rest : Code} {Q : Exit → Act → World → Prop} {a : Act} {w : World} (hw : rest.wp P (JumpQ P c Q) a w) : PassesQ P c rest Q a w := by
  intro b k cs
  obtain ⟨e, a₁, w₁, hq, harr⟩ := hw b (.inScope c :: k) cs
  cases e with
  | normal => exact ⟨.normal, a₁, w₁, hq, Steps.trans harr (.one step_inScope)⟩
  | exit id => exact ⟨.exit id, a₁, w₁, hq, fun k' hk => harr k' (by simp [exitTo, hk])⟩
  | goto l =>
    rcases hq with ⟨rest', hf, hJ⟩ | ⟨hf, hq⟩
    · obtain ⟨e₂, a₂, w₂, hq₂, harr₂⟩ := hJ b k cs
      have hg : gotoIn l (.inScope c :: k) = some (.code rest' :: .inScope c :: k) := by simp [gotoIn, hf]
      exact ⟨e₂, a₂, w₂, hq₂, .of_steps (harr _ hg) harr₂⟩
    · exact ⟨.goto l, a₁, w₁, hq, fun k' hk => harr k' (by simp [gotoIn, hf, hk])⟩
  | ret => exact ⟨_, a₁, w₁, hq, harr⟩
  | panic ch => exact ⟨_, a₁, w₁, hq, harr⟩
  | outgrown => exact ⟨_, a₁, w₁, hq, harr⟩
theorem wp_scope_jump [Str] {c : Code} {Q : Exit → Act → World → Prop} {a : Act} {w : World} (h : c.wp P (JumpQ P c Q) a w) : (Code.scope c).wp P Q a w := by
  intro b k cs
  obtain ⟨e, a₁, w₁, hq, harr⟩ := passesQ_of h b k cs
  cases e with
  | normal => exact ⟨.normal, a₁, w₁, hq, .head step_scope harr⟩
  | exit id => exact ⟨.exit id, a₁, w₁, hq, fun k' hk => .head step_scope (harr k' hk)⟩
  | goto l => exact ⟨.goto l, a₁, w₁, hq, fun k' hk => .head step_scope (harr k' hk)⟩
  | ret => exact ⟨_, a₁, w₁, hq, .of_steps (.one step_scope) harr⟩
  | panic ch => exact ⟨_, a₁, w₁, hq, .of_steps (.one step_scope) harr⟩
  | outgrown => exact ⟨_, a₁, w₁, hq, .of_steps (.one step_scope) harr⟩
/-- one stretch -/
theorem stretch_sound [Str] {nt : Nat} (hnt : E.ntmps = nt) (hE : EnvOK P E) (hD : DrawOK P E) {body code : Code} (c : Cut) (fin : dens (rtsOf c.fix) → (i : Nat) → dens (rtsOf (wayAt c.ways i).outs) → Option c.α)
    (hfin : ∀ x x' i z a, fin x' i z = some a → c.out a = ⟨i, z⟩ ∧ UpEqs (rtsOf c.fix) (c.up x a) x') (hfix : slotsOut c.fix c.writes = true) (hC : CutsOK P E (cutsOf E code)) {labs : Nat → Option (Aim c)} {ins : List (Nat × RT)}
    {G : Nat → Prop} {w1 : World} {a1 : Act} {bs : List (Option Nat)} {z : c.α} {a : Act} {w : World} {x0 : dens (rtsOf c.fix)} (hbs : ∀ b, some b ∈ bs → ¬ G b ∧ b < w1.heap.size) (hG : ∀ b, G b → b < w1.heap.size)
    (h : Held c nt G w1 a1 bs ins (stretchK E body c fin labs ins code) z a w) {Q : Exit → Act → World → Prop} (hdone : ∀ e a' w', Done c nt G w1 a1 bs x0 z e a' w' → Q e a' w')
    (hjump : ∀ l g a' w', labs l = some g → Held c nt G w1 a1 bs g.ins g.F z a' w' → ∃ rest, findLabel body l = some rest ∧ PassesQ P body rest Q a' w') : code.wp P (JumpQ P body Q) a w := by
  obtain ⟨hsz, hdf, hkeep, x2, y2, b1, b2, hF, hr1, hr2, hown⟩ := h
  unfold stretchK at hF
  have hbs2 : ∀ b, some b ∈ b1 ++ b2 → ¬ Seeable G w1 w bs (b1 ++ b2) b ∧ b < w.heap.size := fun b hb => by
    refine ⟨?_, (hown.at_ b hb).2⟩
    rintro (h | ⟨_, _, h⟩)
    · rcases (hown.at_ b hb).1 with h1 | h1
      · exact (hbs b h1).1 h
      · have := hG b h; omega
    · exact h hb
  have hG2 : ∀ b, Seeable G w1 w bs (b1 ++ b2) b → b < w.heap.size := fun b hb => hb.elim (fun h => Nat.lt_of_lt_of_le (hG b h) hown.step.size) (fun h => h.2.1)
  obtain ⟨S, X, hXw, hK, hr⟩ := of_enterK (E := E) (ws := c.writes) (hsz.trans hnt.symm) hdf hr1 hr2 hbs2 hown.dup hG2 hF
  rw [← hXw]
  refine code_sound hE hD code hC ?_ hr hK
  intro e S' a' X' hk hr'
  have hkeep2 : ∀ t, memN t c.writes = false → a'.tmps.getD t undef = a1.tmps.getD t undef := fun t ht => (hr'.kept t (kept_of ht)).trans (hkeep t ht)
  have hfx : valsAt a' c.fix = valsAt a1 c.fix := slotsOut_of hfix hkeep2
  have hway : wayK c.fix c.ways fin e S' = some z → Done c nt G w1 a1 bs x0 z (exOf e) a' X'.w := fun hk => by
    unfold wayK at hk
    split at hk
    · rename_i i hi
      rw [← hr'.objs] at hk
      obtain ⟨x', z', e1, e2, k1, k2, k3, k4⟩ := slotsTwo hr'.good (HVs.slots hr'.slot c.fix) (HVs.slots hr'.slot (wayAt c.ways i).outs) hk
      obtain ⟨q1, q2⟩ := hfin x0 x' i z' z k1
      obtain ⟨_, w2⟩ := findWay_at hi
      rw [Nat.sub_zero] at w2
      refine ⟨e1, e2, ?_, (hr'.size.trans hnt), hr'.defers, hkeep2, ?_, ?_, hown.trans k2⟩
      · rw [q1, w2]
      · rw [← hfx]
        exact (k3.up q2).imp (Seeable.trans hown k2) (fun _ _ => rfl) (fun _ _ => rfl)
      · rw [q1]
        exact k4.imp (Seeable.trans hown k2) (fun _ _ => rfl) (fun _ _ => rfl)
    · cases hk
  cases e with
  | normal => exact hdone _ _ _ (hway hk)
  | exit id => exact hdone _ _ _ (hway hk)
  | ret => exact hdone _ _ _ (hway hk)
  | goto l =>
    simp only [scopeEndK] at hk
    split at hk
    · rename_i g hg
      unfold aimK at hk
      rw [← hr'.objs] at hk
      obtain ⟨x', y', e1, e2, k1, k2, k3, k4⟩ := slotsTwo hr'.good (HVs.slots hr'.slot c.fix) (HVs.slots hr'.slot g.ins) hk
      exact .inl (hjump l g a' X'.w hg ⟨(hr'.size.trans hnt), hr'.defers, hkeep2, x', y', e1, e2, k1, k3.imp (Seeable.trans hown k2) (fun _ _ => rfl) (fun _ _ => rfl), k4.imp (Seeable.trans hown k2) (fun _ _ => rfl) (fun _ _ => rfl), hown.trans k2⟩)
    · cases hl : labelIn body l with
      | true => rw [hl] at hk; cases hk
      | false =>
        rw [hl] at hk
        exact .inr ⟨labelIn_none hl, hdone _ _ _ (hway hk)⟩
/-- a scope keeps the contract that its stretches come to -/
theorem scope_meets [Str] {E : Nat → Env} {nt : Nat} (hnt : ∀ n, (E n).ntmps = nt) (hE : ∀ n, EnvOK P (E n)) (hD : ∀ n, DrawOK P (E n)) {body : Code} (c : Cut) (fin : dens (rtsOf c.fix) → (i : Nat) → dens (rtsOf (wayAt c.ways i).outs) → Option c.α)
    (hfin : ∀ x x' i z a, fin x' i z = some a → c.out a = ⟨i, z⟩ ∧ UpEqs (rtsOf c.fix) (c.up x a) x') (hfix : slotsOut c.fix c.writes = true) (labs : Nat → Nat → Option (Aim c))
    (hC : ∀ n, CutsOK P (E n) (cutsOf (E n) body)) (hL : ∀ n l g, labs n l = some g → (∀ x y, g.F x y = none) ∨ ∃ m rest, n = m + 1 ∧ findLabel body l = some rest ∧ CutsOK P (E m) (cutsOf (E m) rest) ∧ ∀ x y, stretchK (E m) body c fin (labs m) g.ins rest x y = g.F x y)
    (n : Nat) (hs : ∀ x y, stretchK (E n) body c fin (labs n) c.ins body x y = c.F x y) : CutMeets P (.scope body) nt c := by
  intro x y z hz a1 w1 G bs bs' hsz hdf hrr hrr' hbs hnd hG
  refine wp_scope_jump ?_
  have hpass : ∀ n l g a w, labs n l = some g → Held c nt G w1 a1 (bs ++ bs') g.ins g.F z a w → ∃ rest, findLabel body l = some rest ∧ PassesQ P body rest (Done c nt G w1 a1 (bs ++ bs') x z) a w := by
    intro n
    induction n with
    | zero =>
      intro l g a w hg hH
      rcases hL 0 l g hg with h0 | ⟨m, _, hm, _⟩
      · obtain ⟨_, _, _, x2, y2, _, _, hF, _⟩ := hH
        rw [h0] at hF; cases hF
      · cases hm
    | succ n ih =>
      intro l g a w hg hH
      rcases hL (n + 1) l g hg with h0 | ⟨m, rest, hm, hf, hCr, hst⟩
      · obtain ⟨_, _, _, x2, y2, _, _, hF, _⟩ := hH
        rw [h0] at hF; cases hF
      · cases hm
        refine ⟨rest, hf, passesQ_of ?_⟩
        refine stretch_sound (hnt n) (hE n) (hD n) c fin hfin hfix hCr (labs := labs n) (ins := g.ins) (x0 := x) hbs hG ?_ (fun _ _ _ h => h) (fun l g a' w' hg hH => ih l g a' w' hg hH)
        obtain ⟨q1, q2, q3, x2, y2, b1, b2, hF, q4⟩ := hH
        exact ⟨q1, q2, q3, x2, y2, b1, b2, (hst x2 y2).trans hF, q4⟩
  refine stretch_sound (hnt n) (hE n) (hD n) c fin hfin hfix (hC n) (labs := labs n) (ins := c.ins) (x0 := x) hbs hG ?_ (fun _ _ _ h => h) (fun l g a' w' hg hH => hpass n l g a' w' hg hH)
  exact ⟨hsz, hdf, fun _ _ => rfl, x, y, bs, bs', (hs x y).trans hz, hrr.imp (fun _ h => .inl h) (fun _ _ => rfl) (fun _ _ => rfl), hrr'.imp (fun _ h => .inl h) (fun _ _ => rfl) (fun _ _ => rfl), ⟨⟨rfl, Td.refl _, rfl, Nat.le_refl _, fun _ _ _ => rfl⟩, hnd, fun b hb => ⟨.inl hb, (hbs b hb).2⟩⟩⟩
end Go.Ev
namespace Go.Ev
open Go.RowKit
variable {R : Type} {P : Program} {E : Env}
/-! contracts of one make -/
noncomputable def densT : List RT → Type
  | [] => Unit | [r] => r.den | r :: s :: l => r.den × densT (s :: l)
noncomputable def toT : (l : List RT) → dens l → densT l
  | [], _ => () | [_], x => x.1 | _ :: s :: l, x => (x.1, toT (s :: l) x.2)
noncomputable def ofT : (l : List RT) → densT l → dens l
  | [], _ => () | [_], x => (x, ()) | _ :: s :: l, x => (x.1, ofT (s :: l) x.2)
theorem ofT_toT : ∀ (l : List RT) (x : dens l), ofT l (toT l x) = x
  | [], _ => rfl | [_], _ => rfl
  | r :: s :: l, x => by
    show ((x.1, ofT (s :: l) (toT (s :: l) x.2)) : dens (r :: s :: l)) = x
    rw [ofT_toT (s :: l) x.2]; rfl
noncomputable def appD : (a b : List RT) → dens a → dens b → dens (a ++ b)
  | [], _, _, y => y | _ :: a, b, x, y => (x.1, appD a b x.2 y)
noncomputable def fstD : (a b : List RT) → dens (a ++ b) → dens a
  | [], _, _ => () | _ :: a, b, x => (x.1, fstD a b x.2)
noncomputable def sndD : (a b : List RT) → dens (a ++ b) → dens b
  | [], _, y => y | _ :: a, b, x => sndD a b x.2
theorem fstD_appD : ∀ (a b : List RT) (x : dens a) (y : dens b), fstD a b (appD a b x y) = x
  | [], _, _, _ => rfl
  | r :: a, b, x, y => by
    show ((x.1, fstD a b (appD a b x.2 y)) : dens (r :: a)) = x
    rw [fstD_appD a b x.2 y]; rfl
theorem sndD_appD : ∀ (a b : List RT) (x : dens a) (y : dens b), sndD a b (appD a b x y) = y
  | [], _, _, _ => rfl
  | _ :: a, b, x, y => sndD_appD a b x.2 y
/-- is it told what has become of it? -/
noncomputable def RT.told : RT → Bool
  | .val _ => false | .unit => false | .own _ => true | .box _ => true | .pair a b => a.told || b.told | .func _ _ r => r.told | .mv _ => false | .nil => false | .pal _ _ _ => false | .rows _ => true | .ip _ => true
noncomputable def consIf : Bool → RT → List RT → List RT | true, r, l => r :: l | false, _, l => l
noncomputable def consD : (b : Bool) → (r : RT) → (l : List RT) → r.den → dens l → dens (consIf b r l) | true, _, _, x, y => (x, y) | false, _, _, _, y => y
noncomputable def headD : (b : Bool) → (r : RT) → (l : List RT) → r.den → dens (consIf b r l) → r.den | true, _, _, _, u => u.1 | false, _, _, x, _ => x
noncomputable def tailD : (b : Bool) → (r : RT) → (l : List RT) → dens (consIf b r l) → dens l | true, _, _, u => u.2 | false, _, _, u => u
noncomputable def ups : List RT → List RT | [] => [] | r :: l => consIf r.told r (ups l)
noncomputable def upsD : (l : List RT) → dens l → dens (ups l) | [], _ => () | r :: l, x => consD r.told r (ups l) x.1 (upsD l x.2)
noncomputable def putD : (l : List RT) → dens l → dens (ups l) → dens l | [], _, _ => () | r :: l, x, u => (headD r.told r (ups l) x.1 u, putD l x.2 (tailD r.told r (ups l) u))
theorem UpEq.rfl_ : ∀ (r : RT) (x : r.den), UpEq r x x
  | .val _, _ => trivial | .own _, _ => Eq.refl _ | .box _, _ => Eq.refl _ | .unit, _ => trivial
  | .pair a b, x => ⟨UpEq.rfl_ a x.1, UpEq.rfl_ b x.2⟩ | .func _ _ r, x => UpEq.rfl_ r x
  | .mv _, _ => trivial | .nil, _ => trivial | .pal _ _ _, _ => trivial | .rows _, _ => Eq.refl _ | .ip _, _ => Eq.refl _
theorem UpEq.untold : ∀ (r : RT) (x y : r.den), r.told = false → UpEq r x y
  | .val _, _, _, _ => trivial | .unit, _, _, _ => trivial
  | .own _, _, _, h => by cases h
  | .box _, _, _, h => by cases h
  | .pair a b, x, y, h => by
    simp only [RT.told, Bool.or_eq_false_iff] at h
    exact ⟨UpEq.untold a x.1 y.1 h.1, UpEq.untold b x.2 y.2 h.2⟩
  | .func _ _ r, x, y, h => UpEq.untold r x y h
  | .mv _, _, _, _ => trivial | .nil, _, _, _ => trivial | .pal _ _ _, _, _, _ => trivial
  | .rows _, _, _, h => by cases h
  | .ip _, _, _, h => by cases h
theorem UpEqs.put [Str] : ∀ (l : List RT) (x x' : dens l), UpEqs l (putD l x (upsD l x')) x'
  | [], _, _ => trivial
  | r :: l, x, x' => by
    refine ⟨?_, ?_⟩
    · show UpEq r (headD r.told r (ups l) x.1 (consD r.told r (ups l) x'.1 (upsD l x'.2))) x'.1
      cases h : r.told with
      | true => exact UpEq.rfl_ r x'.1
      | false => exact UpEq.untold r x.1 x'.1 h
    · show UpEqs l (putD l x.2 (tailD r.told r (ups l) (consD r.told r (ups l) x'.1 (upsD l x'.2)))) x'.2
      have e : tailD r.told r (ups l) (consD r.told r (ups l) x'.1 (upsD l x'.2)) = upsD l x'.2 := by cases r.told <;> rfl
      rw [e]
      exact UpEqs.put l x.2 x'.2
noncomputable abbrev Ans (ats rts : List RT) : Type := densT (rts ++ ups ats)
noncomputable def mkCon (ats rts : List RT) (F : dens ats → Option (Ans ats rts)) : Con :=
  ⟨ats, rts, Ans ats rts, F, fun x a => putD ats x (sndD rts (ups ats) (ofT _ a)), fun a => fstD rts (ups ats) (ofT _ a)⟩
noncomputable def finC (ats rts : List RT) (x : dens ats) (y : dens rts) : Option (Ans ats rts) := some (toT _ (appD rts (ups ats) y (upsD ats x)))
theorem finC_ok [Str] {ats rts : List RT} {F : dens ats → Option (Ans ats rts)} (x x' : dens ats) (y : dens rts) (a : Ans ats rts) (h : finC ats rts x' y = some a) : (mkCon ats rts F).res a = y ∧ UpEqs ats ((mkCon ats rts F).up x a) x' := by
  unfold finC at h
  cases h
  refine ⟨?_, ?_⟩
  · show fstD rts (ups ats) (ofT _ (toT _ _)) = y
    rw [ofT_toT, fstD_appD]
  · show UpEqs ats (putD ats x (sndD rts (ups ats) (ofT _ (toT _ _)))) x'
    rw [ofT_toT, sndD_appD]
    exact UpEqs.put ats x x'
/-! ways -/
noncomputable def sumW : List (List RT) → Type
  | [] => Empty | [w] => densT w | w :: v :: l => Sum (densT w) (sumW (v :: l))
noncomputable def wayTs (U : List RT) : List Way → List (List RT) | [] => [] | w :: l => (rtsOf w.outs ++ U) :: wayTs U l
noncomputable def injW (U : List RT) : (ws : List Way) → (i : Nat) → dens (rtsOf (wayAt ws i).outs) → dens U → Option (sumW (wayTs U ws))
  | [], _, _, _ => none
  | [w], 0, y, u => some (toT (rtsOf w.outs ++ U) (appD (rtsOf w.outs) U y u))
  | [_], _ + 1, _, _ => none
  | w :: _ :: _, 0, y, u => some (.inl (toT (rtsOf w.outs ++ U) (appD (rtsOf w.outs) U y u)))
  | _ :: v :: l, i + 1, y, u => match injW U (v :: l) i y u with | some b => some (.inr b) | none => none
noncomputable def outW (U : List RT) : (ws : List Way) → sumW (wayTs U ws) → (i : Nat) × dens (rtsOf (wayAt ws i).outs)
  | [], e => nomatch e
  | [w], a => ⟨0, fstD (rtsOf w.outs) U (ofT _ a)⟩
  | w :: _ :: _, .inl a => ⟨0, fstD (rtsOf w.outs) U (ofT _ a)⟩
  | _ :: v :: l, .inr b => ⟨(outW U (v :: l) b).1 + 1, (outW U (v :: l) b).2⟩
noncomputable def upW (U : List RT) : (ws : List Way) → sumW (wayTs U ws) → dens U
  | [], e => nomatch e
  | [w], a => sndD (rtsOf w.outs) U (ofT _ a)
  | w :: _ :: _, .inl a => sndD (rtsOf w.outs) U (ofT _ a)
  | _ :: v :: l, .inr b => upW U (v :: l) b
noncomputable def splitW : (l : List (List RT)) → Split (sumW l)
  | [] => .none | [_] => .none | _ :: v :: l => Split.sum .none (splitW (v :: l))
theorem fst_toT [Str] (a b : List RT) (x : dens a) (y : dens b) : fstD a b (ofT _ (toT _ (appD a b x y))) = x := by rw [ofT_toT, fstD_appD]
theorem snd_toT [Str] (a b : List RT) (x : dens a) (y : dens b) : sndD a b (ofT _ (toT _ (appD a b x y))) = y := by rw [ofT_toT, sndD_appD]
theorem injW_ok [Str] (U : List RT) : ∀ (ws : List Way) (i : Nat) (y : dens (rtsOf (wayAt ws i).outs)) (u : dens U) (a : sumW (wayTs U ws)), injW U ws i y u = some a → outW U ws a = ⟨i, y⟩ ∧ upW U ws a = u
  | [], _, _, _, _, h => by cases h
  | [w], 0, y, u, a, h => by
    have h := Option.some.inj h
    subst h
    exact ⟨congrArg (fun z => (⟨0, z⟩ : (i : Nat) × dens (rtsOf (wayAt [w] i).outs))) (fst_toT (rtsOf w.outs) U y u), snd_toT (rtsOf w.outs) U y u⟩
  | [_], _ + 1, _, _, _, h => by cases h
  | w :: v :: l, 0, y, u, a, h => by
    have h := Option.some.inj h
    subst h
    exact ⟨congrArg (fun z => (⟨0, z⟩ : (i : Nat) × dens (rtsOf (wayAt (w :: v :: l) i).outs))) (fst_toT (rtsOf w.outs) U y u), snd_toT (rtsOf w.outs) U y u⟩
  | w :: v :: l, i + 1, y, u, a, h => by
    simp only [injW] at h
    cases hb : injW U (v :: l) i y u with
    | none => rw [hb] at h; cases h
    | some b =>
      rw [hb] at h
      have h := Option.some.inj h
      subst h
      obtain ⟨h1, h2⟩ := injW_ok U (v :: l) i y u b hb
      refine ⟨?_, h2⟩
      show (⟨(outW U (v :: l) b).1 + 1, (outW U (v :: l) b).2⟩ : (i : Nat) × dens (rtsOf (wayAt (w :: v :: l) i).outs)) = ⟨i + 1, y⟩
      rw [h1]
noncomputable abbrev AnsW (fix : List (Nat × RT)) (ways : List Way) : Type := sumW (wayTs (ups (rtsOf fix)) ways)
noncomputable def mkCut (fix ins : List (Nat × RT)) (writes : List Nat) (ways : List Way) (F : dens (rtsOf fix) → dens (rtsOf ins) → Option (AnsW fix ways)) : Cut :=
  ⟨fix, ins, writes, ways, AnsW fix ways, F, fun x a => putD _ x (upW _ ways a), outW _ ways, splitW _⟩
noncomputable def finW (fix : List (Nat × RT)) (ways : List Way) (x : dens (rtsOf fix)) (i : Nat) (z : dens (rtsOf (wayAt ways i).outs)) : Option (AnsW fix ways) := injW _ ways i z (upsD _ x)
theorem finW_ok [Str] {fix ins : List (Nat × RT)} {writes : List Nat} {ways : List Way} {F : dens (rtsOf fix) → dens (rtsOf ins) → Option (AnsW fix ways)} (x x' : dens (rtsOf fix)) (i : Nat) (z : dens (rtsOf (wayAt ways i).outs)) (a : AnsW fix ways) (h : finW fix ways x' i z = some a) :
    (mkCut fix ins writes ways F).out a = ⟨i, z⟩ ∧ UpEqs (rtsOf fix) ((mkCut fix ins writes ways F).up x a) x' := by
  obtain ⟨h1, h2⟩ := injW_ok _ ways i z _ a h
  refine ⟨h1, ?_⟩
  show UpEqs (rtsOf fix) (putD _ x (upW _ ways a)) x'
  rw [h2]
  exact UpEqs.put _ x x'
/-! the surroundings of a function's code -/
noncomputable def lookC : List (Nat × Con) → FuncId → List Con | [], _ => [] | (g, c) :: r, f => bif Nat.beq f g then c :: lookC r f else lookC r f
noncomputable def lookK : List ((Nat × Nat × Nat) × Cut) → Nat → Nat → Nat → Option Cut
  | [], _, _, _ => none | ((k, a, b), c) :: r, k', a', b' => bif Nat.beq k' k && Nat.beq a' a && Nat.beq b' b then some c else lookK r k' a' b'
noncomputable def mkEnv (T : List (Nat × Ty)) (arrs fns : List Nat) (cons : List (Nat × Con)) (cuts : List ((Nat × Nat × Nat) × Cut)) (nt : Nat) : Env :=
  ⟨lookT T, fun t => memN t arrs, lookC cons, lookK cuts, nt, fun t => memN t fns⟩
def AllC [Str] (P : Program) : List (Nat × Con) → Prop | [] => True | (f, c) :: r => (Meets P f c ∧ FnOK P f) ∧ AllC P r
theorem AllC.at [Str] {P : Program} : ∀ {l : List (Nat × Con)} {f : FuncId} {c : Con}, AllC P l → c ∈ lookC l f → Meets P f c ∧ FnOK P f
  | [], _, _, _, h => by cases h
  | (g, d) :: r, f, c, hA, h => by
    simp only [lookC] at h
    cases hb : Nat.beq f g with
    | false => rw [hb] at h; exact hA.2.at h
    | true =>
      rw [hb] at h
      simp only [cond_true, List.mem_cons] at h
      rcases h with h | h
      · have e := Nat.eq_of_beq_eq_true hb
        rw [h, e]; exact hA.1
      · exact hA.2.at h
theorem mkEnv_ok [Str] {T : List (Nat × Ty)} {arrs fns : List Nat} {cons : List (Nat × Con)} {cuts : List ((Nat × Nat × Nat) × Cut)} {nt : Nat} (hT : (∀ t ty, lookT T t = some ty → TyOK P (memN t arrs) t ty) ∧ ∀ t, memN t fns = true → FnTyOK P t) (hC : AllC P cons) : EnvOK P (mkEnv T arrs fns cons cuts nt) :=
  ⟨hT.1, fun _ _ h => hC.at h, hT.2⟩
def AllK [Str] (P : Program) (nt : Nat) : List (Code × Cut) → Prop | [] => True | (c, t) :: r => CutMeets P c nt t ∧ AllK P nt r
theorem AllK.ok [Str] {P : Program} {E : Env} : ∀ {l : List (Code × Cut)}, AllK P E.ntmps l → CutsOK P E l
  | [], _, _, h => by cases h
  | (c, t) :: r, hA, p, h => by
    rcases List.mem_cons.1 h with h | h
    · subst h; exact hA.1
    · exact AllK.ok (l := r) hA.2 p h
/-- the code at a place -/
noncomputable def codeAt : List Nat → Code → Code
  | [], c => c
  | 0 :: p, .seq a _ => codeAt p a | _ :: p, .seq _ b => codeAt p b
  | 0 :: p, .cond _ a _ => codeAt p a | _ :: p, .cond _ _ b => codeAt p b
  | _ :: p, .block _ b => codeAt p b | _ :: p, .loop b => codeAt p b | _ :: p, .scope b => codeAt p b
  | _, c => c
noncomputable def bodyOf (f : Func) : Code := match f.body with | some c => c | none => .skip
/-- a function keeps its contract -/
theorem con_meets [Str] (hm : P.follows .mixedOrders = true) {f : FuncId} {fn : Func} (hf : P.funcs[f]? = some fn) (hb : fn.body.isSome = true) (hE : EnvOK P E) (hnt : fn.ntmps = E.ntmps) {ats rts : List RT} {F : dens ats → Option (Ans ats rts)} (hargs : Nat.ble ats.length E.ntmps = true)
    {l : List (Code × Cut)} (hl : pick E (bodyOf fn) (cutsOf E (bodyOf fn)) = l) (hC : AllK P E.ntmps l) (h : ∀ x, fnK E ats rts (bodyOf fn) fn.results.toList (finC ats rts) x = F x) : Meets P f (mkCon ats rts F) := by
  cases hbd : fn.body with
  | none => rw [hbd] at hb; cases hb
  | some body =>
    have e : bodyOf fn = body := by unfold bodyOf; rw [hbd]
    rw [e] at hl h
    exact fn_meets hE (draw_ok hm hE) hf hbd hnt (mkCon ats rts F) (Nat.le_of_ble_eq_true hargs) (finC ats rts) (fun x x' y a h => finC_ok x x' y a h) (by rw [hl]; exact hC.ok) h
theorem con_never [Str] {f : FuncId} {ats rts : List RT} {F : dens ats → Option (Ans ats rts)} (h : ∀ x, F x = none) : Meets P f (mkCon ats rts F) := fun x y hy => by
  have := h x
  have h2 : F x = some y := hy
  rw [this] at h2; cases h2
/-- what a loop takes, writes and comes to, without its meaning -/
structure Sh where
  fix : List (Nat × RT)
  ins : List (Nat × RT)
  ws : List Nat
  ways : List Way
noncomputable abbrev Sh.Fn (s : Sh) : Type := dens (rtsOf s.fix) → dens (rtsOf s.ins) → Option (AnsW s.fix s.ways)
noncomputable def Sh.cut (s : Sh) (F : s.Fn) : Cut := mkCut s.fix s.ins s.ws s.ways F
noncomputable def Sh.round (s : Sh) (E : Env) (body : Code) (F : s.Fn) : s.Fn := loopK E s.fix s.ins s.ws s.ways (finW s.fix s.ways) body F
/-- a loop keeps its contract -/
theorem loop_ok [Str] (s : Sh) (F : Nat → s.Fn) {E : Nat → Env} {nt : Nat} {body : Code} (hm : P.follows .mixedOrders = true) (hnt : ∀ n, (E n).ntmps = nt) (hE : ∀ n, EnvOK P (E n))
    (hfix : slotsOut s.fix s.ws = true) {l : Nat → List (Code × Cut)} (hl : ∀ n, pick (E n) body (cutsOf (E n) body) = l n) (hC : ∀ n, AllK P nt (l n)) (h0 : ∀ x y, F 0 x y = none) (hs : ∀ n x y, s.round (E n) body (F n) x y = F (n + 1) x y) (n : Nat) :
    CutMeets P (.loop body) nt (s.cut (F n)) :=
  loop_meets hnt hE (fun n => draw_ok hm (hE n)) (mkCut s.fix s.ins s.ws s.ways (F 0)) F (finW s.fix s.ways) (fun x x' i z a h => finW_ok x x' i z a h) hfix (fun n => by rw [hl n]; exact AllK.ok (E := E n) (by rw [hnt n]; exact hC n)) h0 hs n
/-- the same where the surroundings hold for less fuel alone -/
theorem loop_okB [Str] (s : Sh) (F : Nat → s.Fn) {E : Nat → Env} {nt : Nat} {body : Code} (n : Nat) (hm : P.follows .mixedOrders = true) (hnt : ∀ n, (E n).ntmps = nt) (hE : ∀ m, m < n → EnvOK P (E m))
    (hfix : slotsOut s.fix s.ws = true) {l : Nat → List (Code × Cut)} (hl : ∀ n, pick (E n) body (cutsOf (E n) body) = l n) (hC : ∀ m, m < n → AllK P nt (l m)) (h0 : ∀ x y, F 0 x y = none) (hs : ∀ n x y, s.round (E n) body (F n) x y = F (n + 1) x y) :
    CutMeets P (.loop body) nt (s.cut (F n)) :=
  loop_meetsB hnt n hE (fun n h => draw_ok hm (hE n h)) (mkCut s.fix s.ins s.ws s.ways (F 0)) F (finW s.fix s.ways) (fun x x' i z a h => finW_ok x x' i z a h) hfix (fun n h => by rw [hl n]; exact AllK.ok (E := E n) (by rw [hnt n]; exact hC n h)) h0 hs
theorem meets_rec [Str] {f : FuncId} {c : Nat → Con} (h0 : Meets P f (c 0)) (hs : ∀ n, (∀ m, m ≤ n → Meets P f (c m)) → Meets P f (c (n + 1))) (n : Nat) : Meets P f (c n) := by
  induction n using Nat.strongRecOn with
  | _ n ih => cases n with
    | zero => exact h0
    | succ n => exact hs n fun m hm => ih m (by omega)
theorem cut_meets [Str] (hm : P.follows .mixedOrders = true) {E : Nat → Env} {nt : Nat} (hnt : ∀ n, (E n).ntmps = nt) (hE : ∀ n, EnvOK P (E n)) {body : Code} {fix ins : List (Nat × RT)} {ws : List Nat} {ways : List Way} {F : Nat → dens (rtsOf fix) → dens (rtsOf ins) → Option (AnsW fix ways)}
    (hfix : slotsOut fix ws = true) {l : Nat → List (Code × Cut)} (hl : ∀ n, pick (E n) body (cutsOf (E n) body) = l n) (hC : ∀ n, AllK P nt (l n)) (h0 : ∀ x y, F 0 x y = none) (hs : ∀ n x y, loopK (E n) fix ins ws ways (finW fix ways) body (F n) x y = F (n + 1) x y) (n : Nat) :
    CutMeets P (.loop body) nt (mkCut fix ins ws ways (F n)) :=
  loop_meets hnt hE (fun n => draw_ok hm (hE n)) (mkCut fix ins ws ways (F 0)) F (finW fix ways) (fun x x' i z a h => finW_ok x x' i z a h) hfix (fun n => by rw [hl n]; exact AllK.ok (E := E n) (by rw [hnt n]; exact hC n)) h0 hs n
/-- a piece of code that is run once keeps its contract -/
theorem once_meets [Str] (hm : P.follows .mixedOrders = true) (hE : EnvOK P E) {nt : Nat} (hnt : E.ntmps = nt) {body : Code} {fix ins : List (Nat × RT)} {ws : List Nat} {ways : List Way} {F : dens (rtsOf fix) → dens (rtsOf ins) → Option (AnsW fix ways)}
    (hfix : slotsOut fix ws = true) {l : List (Code × Cut)} (hl : cutsOf E body = l) (hC : AllK P nt l) (hs : ∀ x y, pieceK E fix ins ws ways (finW fix ways) body x y = F x y) : CutMeets P body nt (mkCut fix ins ws ways F) := by
  subst hnt
  exact piece_meets hE (draw_ok hm hE) (mkCut fix ins ws ways F) (finW fix ways) (fun x x' i z a h => finW_ok x x' i z a h) hfix (by rw [hl]; exact hC.ok) hs
end Go.Ev
namespace Go.Ev
open Go.RowKit
variable {P : Program} {E : Env}
/-! the table of types, looked through -/
noncomputable def sameS : Value → Value → Bool
  | .bool a, .bool b => match a, b with | true, true => true | false, false => true | _, _ => false
  | .int k a, .int k' b => decide (k = k') && decide (a = b)
  | .string s, .string t => decide (s.data.toList = t.data.toList)
  | .slice none a b, .slice none c d => Nat.beq a c && Nat.beq b d
  | _, _ => false
noncomputable def sameL : List Value → List Value → Bool | [], [] => true | a :: l, b :: m => sameS a b && sameL l m | _, _ => false
noncomputable def sameV : Value → Value → Bool
  | .agg a, .agg b => sameL a.toList b.toList
  | a, b => sameS a b
theorem sameS_ok {a b : Value} (h : sameS a b = true) : a = b := by
  unfold sameS at h
  split at h
  · split at h <;> first | rfl | cases h
  · simp only [Bool.and_eq_true, decide_eq_true_eq] at h
    rw [h.1, h.2]
  · rename_i s t
    have h := of_decide_eq_true h
    have : s = t := by
      cases s; cases t
      simp only at h
      congr 1
      exact Array.toList_inj.1 h
    rw [this]
  · simp only [Bool.and_eq_true] at h
    rw [Nat.eq_of_beq_eq_true h.1, Nat.eq_of_beq_eq_true h.2]
  · cases h
theorem sameL_ok [Str] : ∀ {a b : List Value}, sameL a b = true → a = b
  | [], [], _ => rfl
  | a :: l, b :: m, h => by
    simp only [sameL, Bool.and_eq_true] at h
    rw [sameS_ok h.1, sameL_ok h.2]
  | [], _ :: _, h => by cases h
  | _ :: _, [], h => by cases h
theorem sameV_ok [Str] {a b : Value} (h : sameV a b = true) : a = b := by
  unfold sameV at h
  split at h
  · rename_i x y
    have := sameL_ok h
    rw [Array.toList_inj.1 this]
  · exact sameS_ok h
noncomputable def beqB : Bool → Bool → Bool | true, true => true | false, false => true | _, _ => false
theorem beqB_ok : ∀ {a b : Bool}, beqB a b = true → a = b
  | true, true, _ => rfl | false, false, _ => rfl | true, false, h => by cases h | false, true, h => by cases h
noncomputable def infoB (P : Program) (t : TypeId) (ty : Ty) : Bool :=
  (match P.info? t with
    | some i => Nat.beq i.size ty.size && (match i.zero with | some z => sameV z (cellsV ty.agg (zeros ty)) | none => false) && Nat.ble i.bytes 16383
    | none => false) && (match P.underlying t with | some d => beqB d.isRow ty.agg | none => false)
theorem infoB_ok [Str] {t : TypeId} {ty : Ty} (h : infoB P t ty = true) : InfoOK P t ty := by
  unfold infoB at h
  rw [Bool.and_eq_true] at h
  obtain ⟨h1, h2⟩ := h
  split at h1
  · rename_i i hi
    simp only [Bool.and_eq_true] at h1
    obtain ⟨⟨a1, a2⟩, a3⟩ := h1
    split at a2
    · rename_i z hz
      split at h2
      · rename_i d hd
        exact ⟨by rw [hi]; simp only [Option.map_some, hz, sameV_ok a2, Nat.eq_of_beq_eq_true a1], by rw [hi]; simp only [Option.map_some, a3], by rw [hd]; simp only [Option.map_some, beqB_ok h2]⟩
      · cases h2
    · cases a2
  · cases h1
noncomputable def fieldsB (P : Program) : List Field → Ty → Nat → Bool
  | [], .unit, _ => true
  | f :: fs, .pair a b, o => Nat.beq f.offset o && infoB P f.type a && fieldsB P fs b (o + a.size)
  | _, _, _ => false
theorem fieldsB_ok [Str] : ∀ {fs : List Field} {ty : Ty} {o : Nat}, fieldsB P fs ty o = true → FieldsOK P fs ty o
  | [], .unit, _, _ => trivial
  | f :: fs, .pair a b, o, h => by
    simp only [fieldsB, Bool.and_eq_true] at h
    exact ⟨Nat.eq_of_beq_eq_true h.1.1, infoB_ok h.1.2, fieldsB_ok h.2⟩
  | [], .int _, _, h => by cases h
  | [], .bool, _, h => by cases h
  | [], .str, _, h => by cases h
  | [], .list _, _, h => by cases h
  | [], .pair _ _, _, h => by cases h
  | [], .arr _ _, _, h => by cases h
  | _ :: _, .int _, _, h => by cases h
  | _ :: _, .bool, _, h => by cases h
  | _ :: _, .str, _, h => by cases h
  | _ :: _, .list _, _, h => by cases h
  | _ :: _, .unit, _, h => by cases h
  | _ :: _, .arr _ _, _, h => by cases h
noncomputable def shortB (e : Ty) : Nat → Ty → Bool
  | 0, .unit => true
  | n + 1, .pair a b => tyEq a e && shortB e n b
  | _, _ => false
theorem shortB_ok {e : Ty} : ∀ {n : Nat} {ty : Ty}, shortB e n ty = true → ShortOK e n ty
  | 0, .unit, _ => trivial
  | n + 1, .pair a b, h => by
    simp only [shortB, Bool.and_eq_true, tyEq, decide_eq_true_eq] at h
    exact ⟨h.1, shortB_ok h.2⟩
  | 0, .int _, h => by cases h
  | 0, .bool, h => by cases h
  | 0, .str, h => by cases h
  | 0, .list _, h => by cases h
  | 0, .pair _ _, h => by cases h
  | 0, .arr _ _, h => by cases h
  | _ + 1, .int _, h => by cases h
  | _ + 1, .bool, h => by cases h
  | _ + 1, .str, h => by cases h
  | _ + 1, .list _, h => by cases h
  | _ + 1, .unit, h => by cases h
  | _ + 1, .arr _ _, h => by cases h
/-- an element's type, where it is a part of another one -/
noncomputable def headTy : Ty → Ty | .pair a _ => a | _ => .unit
noncomputable def intB (P : Program) (te : TypeId) (e : Ty) : Bool := match e with
  | .int k => (match P.underlying te with | some (.int k') => decide (k = k') | _ => false)
  | _ => true
theorem intB_ok {te : TypeId} {e : Ty} (h : intB P te e = true) : ∀ k, e = .int k → P.underlying te = some (.int k) := by
  intro k he
  subst he
  unfold intB at h
  simp only at h
  split at h
  · rename_i k' hk
    rw [hk, of_decide_eq_true h]
  · cases h
noncomputable def threeB (P : Program) (t : TypeId) (fs : List Field) (ty : Ty) : Bool := match ty with
  | .pair (.int k) (.pair (.int k1) (.pair (.int k2) .unit)) => (!P.stoodInHeld t) && fs.all fun f => !(decide (f.name = "_")) && (match P.underlying f.type with | some (.int k') => decide (k = k') | _ => false)
  | _ => true
theorem threeB_ok {t : TypeId} {fs : List Field} {ty : Ty} (h : threeB P t fs ty = true) : ThreeOK P t fs ty := by
  intro k he
  subst he
  simp only [threeB, Bool.and_eq_true, Bool.not_eq_true'] at h
  refine ⟨h.1, fun f hf => ?_⟩
  have := List.all_eq_true.1 h.2 f hf
  simp only [Bool.and_eq_true, Bool.not_eq_true', decide_eq_false_iff_not] at this
  refine ⟨this.1, ?_⟩
  have h2 := this.2
  split at h2
  · rename_i k' hk
    rw [hk, of_decide_eq_true h2]
  · cases h2
noncomputable def rowB (P : Program) (arr : Bool) (t : TypeId) (ty : Ty) : Bool := match arr with
  | false => (match P.underlying t with | some (.struct fs) => fieldsB P fs.toList ty 0 && threeB P t fs.toList ty | _ => false)
  | true => (match P.underlying t with | some (.array n te) => infoB P te (headTy ty) && shortB (headTy ty) n ty && intB P te (headTy ty) | _ => false)
noncomputable def tyB (P : Program) (arr : Bool) (t : TypeId) (ty : Ty) : Bool := infoB P t ty && match ty with
  | .int k => (match P.underlying t with | some (.int k') => decide (k = k') | _ => false)
  | .bool => (match P.underlying t with | some .bool => true | _ => false)
  | .str => (match P.underlying t with | some .string => true | _ => false)
  | .list e => (match P.underlying t with | some (.slice te) => infoB P te e | _ => false)
  | .arr n e => (match P.underlying t with | some (.array n' te) => Nat.beq n n' && infoB P te e | _ => false)
  | ty => rowB P arr t ty
theorem rowB_ok [Str] {arr : Bool} {t : TypeId} {ty : Ty} (h2 : rowB P arr t ty = true) : (match arr with
    | false => ∃ fs, P.underlying t = some (.struct fs) ∧ FieldsOK P fs.toList ty 0 ∧ ThreeOK P t fs.toList ty
    | true => ∃ n te e, P.underlying t = some (.array n te) ∧ InfoOK P te e ∧ ShortOK e n ty ∧ ∀ k, e = .int k → P.underlying te = some (.int k)) := by
  unfold rowB at h2
  cases arr with
  | false =>
    simp only at h2 ⊢
    split at h2
    · rename_i fs hd; rw [Bool.and_eq_true] at h2; exact ⟨fs, hd, fieldsB_ok h2.1, threeB_ok h2.2⟩
    · cases h2
  | true =>
    simp only at h2 ⊢
    split at h2
    · rename_i n te hd
      rw [Bool.and_eq_true, Bool.and_eq_true] at h2
      exact ⟨n, te, _, hd, infoB_ok h2.1.1, shortB_ok h2.1.2, intB_ok h2.2⟩
    · cases h2
theorem tyB_ok [Str] {arr : Bool} {t : TypeId} {ty : Ty} (h : tyB P arr t ty = true) : TyOK P arr t ty := by
  unfold tyB at h
  rw [Bool.and_eq_true] at h
  refine ⟨infoB_ok h.1, ?_⟩
  have h2 := h.2
  cases ty with
  | int k =>
    simp only at h2 ⊢
    split at h2
    · rename_i k' hd; rw [hd, of_decide_eq_true h2]
    · cases h2
  | bool =>
    simp only at h2 ⊢
    split at h2
    · rename_i hd; exact hd
    · cases h2
  | str =>
    simp only at h2 ⊢
    split at h2
    · rename_i hd; exact hd
    · cases h2
  | list e =>
    simp only at h2 ⊢
    split at h2
    · rename_i te hd; exact ⟨te, hd, infoB_ok h2⟩
    · cases h2
  | arr n e =>
    simp only at h2 ⊢
    split at h2
    · rename_i n' te hd
      rw [Bool.and_eq_true] at h2
      exact ⟨te, by rw [hd, Nat.eq_of_beq_eq_true h2.1], infoB_ok h2.2⟩
    · cases h2
  | unit => cases arr <;> exact rowB_ok h2
  | pair a b => cases arr <;> exact rowB_ok h2
noncomputable def tabB (P : Program) (arrs : List Nat) : List (Nat × Ty) → Bool
  | [] => true | (t, ty) :: r => tyB P (memN t arrs) t ty && tabB P arrs r
theorem tabB_ok [Str] {arrs : List Nat} : ∀ {T : List (Nat × Ty)}, tabB P arrs T = true → ∀ t ty, lookT T t = some ty → TyOK P (memN t arrs) t ty
  | [], _, _, _, h => by cases h
  | (u, uy) :: r, hb, t, ty, h => by
    simp only [tabB, Bool.and_eq_true] at hb
    simp only [lookT] at h
    cases he : Nat.beq t u with
    | true =>
      rw [he] at h
      simp only [cond_true, Option.some.injEq] at h
      rw [Nat.eq_of_beq_eq_true he, ← h]
      exact tyB_ok hb.1
    | false =>
      rw [he] at h
      exact tabB_ok hb.2 t ty h
noncomputable def fnB (P : Program) (t : TypeId) : Bool :=
  (match P.info? t with
    | some i => Nat.beq i.size 1 && (match i.zero with | some .nilFunc => true | _ => false)
    | none => false) && (match P.underlying t with | some d => beqB d.isRow false | none => false)
theorem fnB_ok [Str] {t : TypeId} (h : fnB P t = true) : FnTyOK P t := by
  unfold fnB at h
  rw [Bool.and_eq_true] at h
  obtain ⟨h1, h2⟩ := h
  split at h1
  · rename_i i hi
    rw [Bool.and_eq_true] at h1
    obtain ⟨a1, a2⟩ := h1
    split at a2
    · rename_i hz
      split at h2
      · rename_i d hd
        exact ⟨by rw [hi]; simp only [Option.map_some, hz, Nat.eq_of_beq_eq_true a1], by rw [hd]; simp only [Option.map_some, beqB_ok h2]⟩
      · cases h2
    · cases a2
  · cases h1
noncomputable def fnsB (P : Program) : List Nat → Bool | [] => true | t :: r => fnB P t && fnsB P r
theorem fnsB_ok [Str] : ∀ {l : List Nat}, fnsB P l = true → ∀ t, memN t l = true → FnTyOK P t
  | [], _, _, h => by cases h
  | u :: r, hb, t, h => by
    simp only [fnsB, Bool.and_eq_true] at hb
    simp only [memN, Bool.or_eq_true] at h
    rcases h with h | h
    · rw [Nat.eq_of_beq_eq_true h]; exact fnB_ok hb.1
    · exact fnsB_ok hb.2 t h
theorem tab_ok [Str] {T : List (Nat × Ty)} {arrs fns : List Nat} (h : tabB P arrs T = true) (h2 : fnsB P fns = true) : (∀ t ty, lookT T t = some ty → TyOK P (memN t arrs) t ty) ∧ ∀ t, memN t fns = true → FnTyOK P t := ⟨tabB_ok h, fnsB_ok h2⟩
end Go.Ev
namespace Go.Ev
open Go.RowKit
variable {R : Type} {P : Program} {E : Env}
/-! scopes with jumps, printed -/
/-- a label: its number, what its code takes, and what that comes to -/
structure Lab (s : Sh) where
  l : Nat
  ins : List (Nat × RT)
  G : Nat → dens (rtsOf s.fix) → dens (rtsOf ins) → Option (AnsW s.fix s.ways)
noncomputable def aims (s : Sh) (F : s.Fn) (n : Nat) : List (Lab s) → Nat → Option (Aim (s.cut F))
  | [], _ => none
  | L :: r, l => bif Nat.beq l L.l then some ⟨L.ins, L.G n⟩ else aims s F n r l
noncomputable def restOf (body : Code) (l : Nat) : Code := match findLabel body l with | some r => r | none => .skip
noncomputable def Sh.stretch (s : Sh) (F : s.Fn) (labs : List (Lab s)) (E : Env) (body : Code) (n : Nat) (ins : List (Nat × RT)) (code : Code) (x : dens (rtsOf s.fix)) (y : dens (rtsOf ins)) : Option (AnsW s.fix s.ways) :=
  stretchK E body (s.cut F) (finW s.fix s.ways) (aims s F n labs) ins code x y
/-- a label's code keeps what is told of it -/
def LabOK [Str] (P : Program) (s : Sh) (F : s.Fn) (labs : List (Lab s)) (nt : Nat) (E : Nat → Env) (body : Code) (L : Lab s) : Prop :=
  (∀ x y, L.G 0 x y = none) ∧ findLabel body L.l = some (restOf body L.l) ∧ ∃ l : Nat → List (Code × Cut), (∀ n, cutsOf (E n) (restOf body L.l) = l n) ∧ (∀ n, AllK P nt (l n)) ∧
    ∀ n x y, s.stretch F labs (E n) body n L.ins (restOf body L.l) x y = L.G (n + 1) x y
def AllL [Str] (P : Program) (s : Sh) (F : s.Fn) (labs : List (Lab s)) (nt : Nat) (E : Nat → Env) (body : Code) : List (Lab s) → Prop
  | [] => True | L :: r => LabOK P s F labs nt E body L ∧ AllL P s F labs nt E body r
theorem AllL.at [Str] {s : Sh} {F : s.Fn} {labs : List (Lab s)} {nt : Nat} {E : Nat → Env} {body : Code} : ∀ {r : List (Lab s)} {n l : Nat} {g : Aim (s.cut F)}, AllL P s F labs nt E body r → aims s F n r l = some g →
    ∃ L, LabOK P s F labs nt E body L ∧ L.l = l ∧ g = ⟨L.ins, L.G n⟩
  | [], _, _, _, _, h => by cases h
  | L :: r, n, l, g, ⟨h1, h2⟩, h => by
    simp only [aims] at h
    cases hb : Nat.beq l L.l with
    | true =>
      rw [hb] at h
      cases h
      exact ⟨L, h1, (Nat.eq_of_beq_eq_true hb).symm, rfl⟩
    | false =>
      rw [hb] at h
      exact AllL.at h2 h
/-- a scope keeps its contract -/
theorem scope_ok [Str] (s : Sh) (F : s.Fn) (labs : List (Lab s)) {E : Nat → Env} {nt : Nat} {body : Code} (hm : P.follows .mixedOrders = true) (hnt : ∀ n, (E n).ntmps = nt) (hE : ∀ n, EnvOK P (E n))
    (hfix : slotsOut s.fix s.ws = true) {l : Nat → List (Code × Cut)} (hl : ∀ n, cutsOf (E n) body = l n) (hC : ∀ n, AllK P nt (l n)) (hL : AllL P s F labs nt E body labs) (n : Nat) (hs : ∀ x y, s.stretch F labs (E n) body n s.ins body x y = F x y) :
    CutMeets P (.scope body) nt (s.cut F) := by
  refine scope_meets hnt hE (fun n => draw_ok hm (hE n)) (s.cut F) (finW s.fix s.ways) (fun x x' i z a h => finW_ok x x' i z a h) hfix (fun m => aims s F m labs) (fun n => by rw [hl n]; exact AllK.ok (E := E n) (by rw [hnt n]; exact hC n)) ?_ n hs
  intro m l g hg
  obtain ⟨L, ⟨h0, hf, lr, hlr, hCr, hst⟩, hl, rfl⟩ := AllL.at hL hg
  subst hl
  cases m with
  | zero => exact .inl h0
  | succ m => exact .inr ⟨m, _, rfl, hf, by rw [hlr m]; exact AllK.ok (E := E m) (by rw [hnt m]; exact hCr m), hst m⟩
end Go.Ev
namespace Go.Ev
open Go.RowKit Go.ChangeShapes Go.WideShapes Go.Deep
/-! what comes in -/
inductive Sel where
  | ty (t : TypeId) | flds (fs : List Field) (off : Nat) | elems (n : Nat) (e : TypeId) (i : Nat)
/-- are the types laid out as these are, all the way down? -/
noncomputable def deepB (P : Program) : Ty → Sel → Bool
  | .int k, .ty t => (match P.underlying t with | some (.int k') => decide (k = k') | _ => false)
  | .bool, .ty t => (match P.underlying t with | some .bool => true | _ => false)
  | .str, .ty t => (match P.underlying t with | some .string => true | _ => false)
  | .list e, .ty t => (match P.underlying t with | some (.slice te) => Nat.beq (P.cellsOf te) e.size && (Nat.blt 0 e.size && (Nat.blt 0 (P.bytesOf te) && deepB P e (.ty te))) | _ => false)
  | .pair a b, .ty t => (match P.underlying t with
    | some (.struct fs) => Nat.beq (P.cellsOf t) (a.size + b.size) && (match fs.toList with
      | f :: r => Nat.beq f.offset 0 && (Nat.beq (P.cellsOf f.type) a.size && (deepB P a (.ty f.type) && deepB P b (.flds r a.size)))
      | [] => false)
    | some (.array (Nat.succ n) e) => Nat.beq (P.cellsOf t) (a.size + b.size) && (Nat.beq (P.cellsOf e) a.size && (deepB P a (.ty e) && deepB P b (.elems n e 1)))
    | _ => false)
  | .pair a b, .flds (f :: r) off => Nat.beq f.offset off && (Nat.beq (P.cellsOf f.type) a.size && (deepB P a (.ty f.type) && deepB P b (.flds r (off + a.size))))
  | .pair a b, .elems (Nat.succ n) e i => Nat.beq (P.cellsOf e) a.size && (deepB P a (.ty e) && deepB P b (.elems n e (Nat.succ i)))
  | .unit, .flds [] _ => true
  | .unit, .elems 0 _ _ => true
  | _, _ => false
/-- what holds of all that comes in -/
def OkD : (t : Ty) → t.den → Prop
  | .int k, x => (Lit.int k x).wf = true
  | .bool, _ => True
  | .str, s => s.size ≤ reachBytes
  | .list t, l => List.length (α := t.den) l ≤ reachBytes ∧ ∀ x ∈ (show List t.den from l), OkD t x
  | .unit, _ => True
  | .pair a b, p => OkD a p.1 ∧ OkD b p.2
  | .arr _ t, l => ∀ x ∈ (show List t.den from l), OkD t x
section
variable {H : Type} (enc : TypeId × Value → H) {P : Program} {w : World} {base : Nat} {held : Bool}
/-- cells that are read so -/
def SelC (P : Program) (w : World) (base : Nat) (held : Bool) (n : Nat) (cs : List Value) : Sel → Prop
  | .ty t => ∃ y, DataW.trod enc P w base (fun _ => true) held n t cs = some y ∧ ∀ k ∈ y.1.weights P t, k ≤ reachBytes
  | .flds fs off => ∀ f ∈ fs, ∃ y, DataW.trod enc P w base (fun _ => true) held n f.type ((cs.drop f.offset).take (P.cellsOf f.type)) = some y ∧ ∀ k ∈ y.1.weights P f.type, k ≤ reachBytes
  | .elems k e i => ∀ j, i ≤ j → j < i + k → ∃ y, DataW.trod enc P w base (fun _ => true) held n e ((cs.drop (j * P.cellsOf e)).take (P.cellsOf e)) = some y ∧ ∀ k ∈ y.1.weights P e, k ≤ reachBytes
theorem weights_mem_all {P : Program} {e : TypeId} : ∀ {l : List (DataW H)} {d : DataW H} {n : Nat}, d ∈ l → n ∈ d.weights P e → n ∈ DataW.weightsAll P e l
  | x :: l, d, n, hd, hn => by
    simp only [DataW.weightsAll, List.mem_append]
    rcases List.mem_cons.1 hd with rfl | hd
    · exact .inl hn
    · exact .inr (weights_mem_all hd hn)
  | [], _, _, hd, _ => by cases hd
/-- where a part begins -/
noncomputable def Sel.at (P : Program) : Sel → Nat
  | .ty _ => 0 | .flds _ off => off | .elems _ e i => i * P.cellsOf e
theorem choose_lt' {α : Type} [Inhabited α] {n : Nat} {p : Nat → α → Prop} (h : ∀ i, i < n → ∃ x, p i x) : ∃ f : Nat → α, ∀ i, i < n → p i (f i) := by
  classical
  refine ⟨fun i => if h' : i < n then (h i h').choose else default, fun i hi => ?_⟩
  simp only [hi, dif_pos]
  exact (h i hi).choose_spec
theorem Elem.flat {α : Type} {R : α → List Value → Prop} {n : Nat} : ∀ {k : Nat} {V : Nat → α} {C : Nat → List Value}, (∀ i, i < k → R (V i) (C i)) → Elem R ((List.range k).map V) ((List.range k).map C).flatten
  | 0, _, _, _ => rfl
  | k + 1, V, C, h => by
    rw [List.range_succ, List.map_append, List.map_append, List.flatten_append]
    exact (Elem.flat (n := n) fun i hi => h i (by omega)).append ⟨C k, [], by simp, h k (by omega), rfl⟩
theorem rangeAt_flat [Str] {w : World} {b s : Nat} : ∀ {k : Nat} {C : Nat → List Value} {off : Nat}, (∀ i, i < k → (C i).length = s ∧ w.rangeAt b (off + i * s) (C i)) → w.rangeAt b off ((List.range k).map C).flatten
  | 0, _, _, _ => fun j v hv => by simp at hv
  | k + 1, C, off, h => by
    rw [List.range_succ, List.map_append, List.flatten_append]
    have ih := rangeAt_flat (w := w) (b := b) (s := s) (k := k) (C := C) (off := off) (fun i hi => h i (by omega))
    have hlen : ((List.range k).map C).flatten.length = k * s := by
      have := Elem.len (n := s) (R := fun (i : Nat) c => i < k ∧ c = C i) (fun x c hc => by obtain ⟨h1, rfl⟩ := hc; exact (h x (by omega)).1) (Elem.flat (n := s) (k := k) (V := id) (C := C) fun i hi => ⟨hi, rfl⟩)
      simpa using this
    intro j v hv
    rw [List.getElem?_append] at hv
    split at hv
    · exact ih j v hv
    · rename_i hj
      have := (h k (by omega)).2 (j - k * s) v (by simpa [hlen] using hv)
      rw [show off + k * s + (j - k * s) = off + j by omega] at this
      exact this
noncomputable instance (t : Ty) : Inhabited t.den := ⟨t.dflt⟩
theorem trod_RC [Str] : ∀ (ty : Ty) (s : Sel) {n : Nat} {cs : List Value}, deepB P ty s = true → SelC enc P w base held n cs s → cs.length = s.at P + ty.size ∨ (∃ t, s = .ty t) → ∃ x, RC w (fun b => b < w.heap.size) ty x (cs.drop (s.at P)) ∧ OkD ty x
  | .int k, s, n, cs, hd, hc, hl => by
    cases s <;> simp only [deepB] at hd <;> first | (cases hd; done) | skip
    rename_i t
    split at hd
    · rename_i k' hu
      have := of_decide_eq_true hd
      subst this
      obtain ⟨y, hy, _⟩ := hc
      obtain ⟨a, rfl, _, hw⟩ := DataW.trod_int hu hy
      exact ⟨a, rfl, hw⟩
    · cases hd
  | .bool, s, n, cs, hd, hc, hl => by
    cases s <;> simp only [deepB] at hd <;> first | (cases hd; done) | skip
    rename_i t
    split at hd
    · rename_i hu
      obtain ⟨y, hy, _⟩ := hc
      obtain ⟨a, rfl, _⟩ := DataW.trod_bool hu hy
      exact ⟨a, rfl, trivial⟩
    · cases hd
  | .str, s, n, cs, hd, hc, hl => by
    cases s <;> simp only [deepB] at hd <;> first | (cases hd; done) | skip
    rename_i t
    split at hd
    · rename_i hu
      obtain ⟨y, hy, hwt⟩ := hc
      obtain ⟨a, rfl, rfl, _⟩ := DataW.trod_string hu hy
      exact ⟨a, rfl, hwt _ (by simp [DataW.weights])⟩
    · cases hd
  | .list e, s, n, cs, hd, hc, hl => by
    cases s <;> simp only [deepB] at hd <;> first | (cases hd; done) | skip
    rename_i t
    split at hd
    · rename_i te hu
      rw [Bool.and_eq_true, Bool.and_eq_true, Bool.and_eq_true] at hd
      have hsz := Nat.eq_of_beq_eq_true hd.1
      have hpos : 0 < e.size := Nat.lt_of_lt_of_le (Nat.lt_succ_self 0) (Nat.le_of_ble_eq_true hd.2.1)
      have hbp : 0 < P.bytesOf te := Nat.lt_of_lt_of_le (Nat.lt_succ_self 0) (Nat.le_of_ble_eq_true hd.2.2.1)
      obtain ⟨y, hy, hwt⟩ := hc
      rcases open_slice hu hy with ⟨rfl, _⟩ | ⟨a, len, cap, m, n', D, Pl, rfl, _, hlc, hm, hmm, rfl, hx⟩
      · exact ⟨[], ⟨none, 0, rfl, Nat.le_refl _, fun h => absurd rfl h⟩, by simp [OkD]⟩
      · simp only [if_true] at hmm
        subst hmm
        obtain ⟨V, hV⟩ := choose_lt' (α := e.den) (n := len) (p := fun i x => ∃ c, w.cells? base (a.add (i * P.cellsOf te)) (P.cellsOf te) = some c ∧ RC w (fun b => b < w.heap.size) e x c ∧ OkD e x) (fun i hi => by
          obtain ⟨c, h1, h2⟩ := hx i (by omega)
          obtain ⟨x, h3, h4⟩ := trod_RC e (.ty te) hd.2.2.2 ⟨_, h2, fun k hk => hwt k (by
            simp only [DataW.weights, hu, List.mem_cons, List.mem_append]
            exact .inr (.inl (weights_mem_all (List.mem_map.2 ⟨i, List.mem_range.2 hi, rfl⟩) hk)))⟩ (.inr ⟨te, rfl⟩)
          exact ⟨x, c, h1, by simpa [Sel.at] using h3, h4⟩)
        obtain ⟨C, hC⟩ := choose_lt' (α := List Value) (n := len) (p := fun i c => w.cells? base (a.add (i * P.cellsOf te)) (P.cellsOf te) = some c ∧ RC w (fun b => b < w.heap.size) e (V i) c ∧ OkD e (V i)) hV
        refine ⟨(List.range len).map V, ⟨some a, m, by simp [Sel.at], by simpa using hlc, fun hne => ?_⟩, ?_⟩
        · have hlen : 0 < len := by
            rcases Nat.eq_zero_or_pos len with h | h
            · subst h; exact absurd rfl hne
            · exact h
          obtain ⟨h1, _, _⟩ := hC 0 hlen
          obtain ⟨_, g1, g2⟩ := World.cells?_some h1
          have g3 := g2 0 (by omega)
          have hcl : 0 < (C 0).length := by omega
          rw [List.getElem?_eq_getElem hcl] at g3
          have hspot : a.spot = none ∧ a.block < w.heap.size := by
            unfold World.cell? at g3
            split at g3
            · rename_i cc ee ff hb
              split at g3
              · cases g3
              · rename_i hsp
                refine ⟨?_, lt_of_heap (by simpa [Addr.add] using hb)⟩
                simpa [Addr.add] using hsp
            · cases g3
          obtain ⟨bb, oo, sp⟩ := a
          obtain ⟨hs1, hs2⟩ := hspot
          dsimp only at hs1 hs2
          subst hs1
          refine ⟨bb, oo, ((List.range len).map C).flatten, rfl, hs2, Elem.flat (n := e.size) fun i hi => (hC i hi).2.1, rangeAt_flat (s := e.size) fun i hi => ?_⟩
          obtain ⟨k1, _, _⟩ := hC i hi
          obtain ⟨_, k2, k3⟩ := World.cells?_some k1
          refine ⟨by omega, fun j v hv => ?_⟩
          have hj := (List.getElem?_eq_some_iff.1 hv).1
          have := k3 j (by omega)
          rw [hv] at this
          rw [Addr.add_mid, Addr.add_mid, hsz] at this
          exact this
        · refine ⟨?_, fun x hx => ?_⟩
          · have := hwt _ (by simp only [DataW.weights, hu]; exact List.mem_cons_self ..)
            simp only [List.length_map, List.length_range] at this ⊢
            have h1 := Nat.le_mul_of_pos_right (len + (m - len)) hbp
            omega
          obtain ⟨j, hj, rfl⟩ := List.mem_map.1 hx
          exact (hC j (List.mem_range.1 hj)).2.2
    · cases hd
  | .unit, s, n, cs, hd, hc, hl => by
    cases s with
    | ty t => simp only [deepB] at hd; cases hd
    | flds fs off =>
      cases fs with
      | cons _ _ => simp only [deepB] at hd; cases hd
      | nil =>
        refine ⟨(), ?_, trivial⟩
        rcases hl with hl | ⟨t, ht⟩
        · exact List.drop_of_length_le (by simp only [Sel.at, Ty.size] at *; omega)
        · cases ht
    | elems k e i =>
      cases k with
      | succ _ => simp only [deepB] at hd; cases hd
      | zero =>
        refine ⟨(), ?_, trivial⟩
        rcases hl with hl | ⟨t, ht⟩
        · exact List.drop_of_length_le (by simp only [Sel.at, Ty.size] at *; omega)
        · cases ht
  | .arr _ _, s, n, cs, hd, hc, hl => by
    cases s <;> simp only [deepB] at hd <;> (cases hd; done)
  | .pair a b, s, n, cs, hd, hc, hl => by
    -- one part, and the rest
    have step : ∀ (off : Nat) (te : TypeId) (m : Nat) (rest : Sel), cs.length = off + (a.size + b.size) → P.cellsOf te = a.size → deepB P a (.ty te) = true → deepB P b rest = true → rest.at P = off + a.size → (∀ t, rest ≠ .ty t) →
        (∃ y, DataW.trod enc P w base (fun _ => true) held m te ((cs.drop off).take (P.cellsOf te)) = some y ∧ ∀ k ∈ y.1.weights P te, k ≤ reachBytes) → SelC enc P w base held m cs rest → ∃ x, RC w (fun b => b < w.heap.size) (.pair a b) x (cs.drop off) ∧ OkD (.pair a b) x := by
      intro off te m rest h1 h2 h3 h4 h5 h6 h7 h8
      obtain ⟨x, x1, x2⟩ := trod_RC a (.ty te) h3 h7 (.inr ⟨te, rfl⟩)
      obtain ⟨z, z1, z2⟩ := trod_RC b rest h4 h8 (.inl (by rw [h5]; omega))
      simp only [Sel.at, List.drop_zero] at x1
      rw [h5, ← List.drop_drop] at z1
      rw [h2] at x1
      exact ⟨(x, z), ⟨_, _, (List.take_append_drop a.size _).symm, x1, z1⟩, x2, z2⟩
    cases s with
    | ty t =>
      simp only [deepB] at hd
      obtain ⟨y, hy, hwt⟩ := hc
      split at hd
      · rename_i fs hu
        rw [Bool.and_eq_true] at hd
        obtain ⟨hsz, hd⟩ := hd
        have hsz := Nat.eq_of_beq_eq_true hsz
        split at hd
        · rename_i f r hfs
          simp only [Bool.and_eq_true] at hd
          obtain ⟨e1, e2, e3, e4⟩ := hd
          have e1 := Nat.eq_of_beq_eq_true e1
          have e2 := Nat.eq_of_beq_eq_true e2
          obtain ⟨xs, m, _, rfl, hl2, hlen, hg⟩ := DataW.trod_struct hu hy
          have hall : ∀ g ∈ fs.toList, ∃ y, DataW.trod enc P w base (fun _ => true) held m g.type ((cs.drop g.offset).take (P.cellsOf g.type)) = some y ∧ ∀ k ∈ y.1.weights P g.type, k ≤ reachBytes := fun g hg' => by
            obtain ⟨i, hi, rfl⟩ := List.getElem_of_mem hg'
            have hi2 : i < xs.length := by rw [hlen]; simpa using hi
            exact ⟨xs[i], by rw [hg i fs.toList[i] (by simp [hi]), List.getElem?_eq_getElem hi2], fun k hk => hwt k (by
              simp only [DataW.weights, hu]
              exact DataW.weights_mem_each (j := i) (by rw [List.getElem?_map, List.getElem?_eq_getElem hi]; rfl) (by rw [List.getElem?_map, List.getElem?_eq_getElem hi2]; rfl) k hk)⟩
          rw [hfs] at hall
          have h0 := hall f (by simp)
          rw [e1] at h0
          exact step 0 f.type m (.flds r a.size) (by omega) e2 e3 e4 (by simp [Sel.at]) (fun _ h => by cases h) h0 (fun g hg' => hall g (List.mem_cons_of_mem _ hg'))
        · cases hd
      · rename_i k e hu
        simp only [Bool.and_eq_true] at hd
        obtain ⟨hsz, e2, e3, e4⟩ := hd
        have hsz := Nat.eq_of_beq_eq_true hsz
        have e2 := Nat.eq_of_beq_eq_true e2
        obtain ⟨xs, m, _, rfl, hl2, hlen, hg⟩ := DataW.trod_array hu hy
        have hall : ∀ j, j < k + 1 → ∃ y, DataW.trod enc P w base (fun _ => true) held m e ((cs.drop (j * P.cellsOf e)).take (P.cellsOf e)) = some y ∧ ∀ k ∈ y.1.weights P e, k ≤ reachBytes := fun j hj => by
          have hi2 : j < xs.length := by rw [hlen]; exact hj
          exact ⟨xs[j], by rw [hg j hj, List.getElem?_eq_getElem hi2], fun k hk => hwt k (by
            simp only [DataW.weights, hu]
            exact weights_mem_all (List.mem_map.2 ⟨xs[j], List.getElem_mem hi2, rfl⟩) hk)⟩
        have h0 := hall 0 (by omega)
        rw [Nat.zero_mul] at h0
        exact step 0 e m (.elems k e 1) (by omega) e2 e3 e4 (by simp [Sel.at, e2]) (fun _ h => by cases h) h0 (fun j _ hj => hall j (by omega))
      · cases hd
    | flds fs off =>
      cases fs with
      | nil => simp only [deepB] at hd; cases hd
      | cons f r =>
        simp only [deepB, Bool.and_eq_true] at hd
        obtain ⟨e1, e2, e3, e4⟩ := hd
        have e1 := Nat.eq_of_beq_eq_true e1
        have e2 := Nat.eq_of_beq_eq_true e2
        have h0 := hc f (by simp)
        rw [e1] at h0
        rcases hl with hl | ⟨t, ht⟩
        · exact step off f.type n (.flds r (off + a.size)) (by simpa [Sel.at, Ty.size] using hl) e2 e3 e4 rfl (fun _ h => by cases h) h0 (fun g hg => hc g (List.mem_cons_of_mem _ hg))
        · cases ht
    | elems k e i =>
      cases k with
      | zero => simp only [deepB] at hd; cases hd
      | succ k =>
        simp only [deepB, Bool.and_eq_true] at hd
        obtain ⟨e2, e3, e4⟩ := hd
        have e2 := Nat.eq_of_beq_eq_true e2
        rcases hl with hl | ⟨t, ht⟩
        · exact step (i * P.cellsOf e) e n (.elems k e (i + 1)) (by simpa [Sel.at, Ty.size] using hl) e2 e3 e4 (by simp [Sel.at, e2, Nat.succ_mul]) (fun _ h => by cases h) (hc i (Nat.le_refl _) (by omega)) (fun j h1 h2 => hc j (by omega) (by omega))
        · cases ht
/-- what came in at a type -/
theorem reads [Str] {t : TypeId} {ty : Ty} (hd : deepB P ty (.ty t) = true) {v : Value} {d : DataW H} {ps : List MemPlace} (h : DataW.Trod enc P w base (fun _ => true) held t v d ps) (hw : ∀ k ∈ d.weights P t, k ≤ reachBytes) : ∃ x, RC w (fun b => b < w.heap.size) ty x v.cells.toList ∧ OkD ty x := by
  obtain ⟨n, hn⟩ := h
  obtain ⟨x, h1, h2⟩ := trod_RC enc ty (.ty t) hd ⟨_, hn, hw⟩ (.inr ⟨t, rfl⟩)
  exact ⟨x, by simpa [Sel.at] using h1, h2⟩
end
/-- a call that keeps a contract, of a law: nothing that was there is turned -/
theorem WStep.below [Str] {w w' : World} (h : WStep w w' []) : Below w.heap.size w w' := ⟨h.os, h.tape.1, h.output, h.size, fun k hk => h.heap k hk (by simp)⟩
theorem law_calls [Str] {P : Program} {f : FuncId} {c : Con} (hM : Meets P f c) {x : dens c.ats} {y : c.α} (hy : c.F x = some y) {w : World} {vs : List Value} (hr : RRs false w (fun b => b < w.heap.size) c.ats x vs [])
    (hres : ∀ (w' : World) (G : Nat → Prop) (us : List Value) (bs : List (Option Nat)), RRs false w' G c.rts (c.res y) us bs → us = [.bool true]) :
    Calls P f vs.toArray w fun e w' => e = .returned (.bool true) ∧ Below w.heap.size w w' := by
  refine (hM x y hy w (fun b => b < w.heap.size) vs [] hr (fun b hb => by cases hb) (by simp [somes]) (fun _ h => h)).mono ?_
  rintro e w' ⟨us, bs1, bs2, rfl, _, h2, h3⟩
  have := hres _ _ _ _ h2
  subst this
  exact ⟨rfl, h3.step.below⟩
end Go.Ev
namespace Go.Ev
open Go.RowKit Go.ChangeShapes Go.WideShapes Go.Deep
/-- an argument -/
theorem reads_arg [Str] {H : Type} (enc : TypeId × Value → H) {P : Program} {w : World} {base b0 : Nat} {held : Bool} {r : Reach} {t : TypeId} {ty : Ty} (hd : deepB P ty (.ty t) = true) {v : Value} {d : DataW H} {ps : List MemPlace} (hval : Value.okWide P w r b0 t v)
    (h : DataW.Trod enc P w base (fun _ => true) held t v d ps) (hw : ∀ k ∈ d.weights P t, k ≤ reachBytes) : ∃ x, VV (.val ty) v ∧ RC w (fun b => b < w.heap.size) ty x v.cells.toList ∧ OkD ty x := by
  obtain ⟨x, h1, h2⟩ := reads enc hd h hw
  refine ⟨x, ?_, h1, h2⟩
  cases ty with
  | int k =>
    simp only [deepB] at hd
    split at hd
    · rename_i k' hu
      obtain ⟨n, rfl⟩ := okWide_int hu hval
      rfl
    · cases hd
  | bool =>
    simp only [deepB] at hd
    split at hd
    · rename_i hu
      obtain ⟨n, rfl⟩ := okWide_bool hu hval
      rfl
    · cases hd
  | str =>
    simp only [deepB] at hd
    split at hd
    · rename_i hu
      obtain ⟨n, rfl⟩ := okWide_string hu hval
      rfl
    · cases hd
  | list e =>
    simp only [deepB] at hd
    split at hd
    · rename_i te hu
      obtain ⟨a, b, c, rfl⟩ := okWide_slice hu hval
      rfl
    · cases hd
  | unit => simp only [deepB] at hd; cases hd
  | arr _ _ => simp only [deepB] at hd; cases hd
  | pair a b =>
    simp only [deepB] at hd
    split at hd
    · rename_i fs hu
      obtain ⟨cs, rfl, _⟩ := okWide_struct hu hval
      exact ⟨cs, rfl⟩
    · rename_i k e hu
      simp only [Value.okWide, hu] at hval
      obtain ⟨cs, rfl, _⟩ := hval
      exact ⟨cs, rfl⟩
    · cases hd
theorem RRs.nilv {w : World} {G : Nat → Prop} {all : List Value} : RRsA false w G all [] () [] [] := ⟨rfl, rfl⟩
theorem RRs.consv {w : World} {G : Nat → Prop} {all : List Value} {ty : Ty} {rs : List RT} {x : ty.den} {y : dens rs} {v : Value} {vs : List Value} (h1 : VV (.val ty) v) (h2 : RC w G ty x v.cells.toList) (h3 : RRsA false w G all rs y vs []) : RRsA false w G all (.val ty :: rs) (x, y) (v :: vs) [] :=
  ⟨v, vs, [], [], rfl, rfl, ⟨h1, trivial⟩, ⟨rfl, RC.len h2, fun _ => h2⟩, h3⟩
theorem res_bool {w' : World} {G : Nat → Prop} {us : List Value} {bs : List (Option Nat)} (h : RRs false w' G [.val .bool] (true, ()) us bs) : us = [.bool true] := by
  obtain ⟨v, vs', b1, b2, rfl, _, ⟨h1, _⟩, ⟨_, _, h2⟩, h3, _⟩ := h
  have h2 : v.cells.toList = [.bool true] := h2 rfl
  have h1 : v.cells = #[v] := h1
  subst h3
  rw [h1] at h2
  simpa using h2
end Go.Ev
