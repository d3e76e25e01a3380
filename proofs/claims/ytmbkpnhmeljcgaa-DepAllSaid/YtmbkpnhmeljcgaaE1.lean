/- A symbolic run of the code of functions, and the proof that what it tells is so. No conditions beyond each theorem's own. -/
import Derived.Test.YtmbkpnhmeljcgaaE0
set_option linter.unusedVariables false
set_option linter.unusedSimpArgs false
namespace Go.Ev
open Go.RowKit
/-! types as the program has them -/
def zeros : Ty → List Value
  | .int k => [.int k 0] | .bool => [.bool false] | .str => [.string ByteArray.empty] | .list _ => [.slice none 0 0] | .unit => []
  | .pair a b => zeros a ++ zeros b | .arr n t => (List.replicate n (zeros t)).flatten
def cellsV (agg : Bool) (cs : List Value) : Value := match agg with | true => .agg cs.toArray | false => cs.headD undef
structure InfoOK (P : Program) (t : TypeId) (ty : Ty) : Prop where
  info : (P.info? t).map (fun i => (i.size, i.zero)) = some (ty.size, some (cellsV ty.agg (zeros ty)))
  bytes : (P.info? t).map (fun i => Nat.ble i.bytes 16383) = some true
  agg : (P.underlying t).map TypeDesc.isRow = some ty.agg
/-- a type of functions -/
structure FnTyOK (P : Program) (t : TypeId) : Prop where
  info : (P.info? t).map (fun i => (i.size, i.zero)) = some (1, some .nilFunc)
  agg : (P.underlying t).map TypeDesc.isRow = some false
theorem FnTyOK.sizeOf {P : Program} {t : TypeId} (h : FnTyOK P t) (w : World) : (Go.sizeOf t).run P w = .ok 1 w := by
  have := h.info
  cases hi : P.info? t with
  | none => rw [hi] at this; cases this
  | some i =>
    rw [hi] at this
    simp only [Option.map_some, Option.some.injEq, Prod.mk.injEq] at this
    simp [Go.sizeOf, typeInfo, hi, this.1]
theorem FnTyOK.zero {P : Program} {t : TypeId} (h : FnTyOK P t) (w : World) : (zeroValue t).run P w = .ok .nilFunc w := by
  have := h.info
  cases hi : P.info? t with
  | none => rw [hi] at this; cases this
  | some i =>
    rw [hi] at this
    simp only [Option.map_some, Option.some.injEq, Prod.mk.injEq] at this
    simp [zeroValue, typeInfo, hi, this.2]
theorem FnTyOK.isAgg {P : Program} {t : TypeId} (h : FnTyOK P t) (w : World) : (Go.isAgg t).run P w = .ok false w := by
  have := h.agg
  cases hu : P.underlying t with
  | none => rw [hu] at this; cases this
  | some d =>
    rw [hu] at this
    simp only [Option.map_some, Option.some.injEq] at this
    unfold Go.isAgg
    rw [Sem.run_bind, run_underlying hu w]
    rw [← this]
    cases d <;> rfl
def FieldsOK (P : Program) : List Field → Ty → Nat → Prop
  | [], .unit, _ => True
  | f :: fs, .pair a b, o => f.offset = o ∧ InfoOK P f.type a ∧ FieldsOK P fs b (o + a.size)
  | _, _, _ => False
/-- an array, short, as a struct of its elements -/
def ShortOK (e : Ty) : Nat → Ty → Prop
  | 0, .unit => True
  | n + 1, .pair a b => a = e ∧ ShortOK e n b
  | _, _ => False
/-- a struct of three numbers, that may be held against another one -/
def ThreeOK (P : Program) (t : TypeId) (fs : List Field) (ty : Ty) : Prop := ∀ k, ty = .pair (.int k) (.pair (.int k) (.pair (.int k) .unit)) → P.stoodInHeld t = false ∧ ∀ f ∈ fs, f.name ≠ "_" ∧ P.underlying f.type = some (.int k)
def TyOK (P : Program) (arr : Bool) (t : TypeId) (ty : Ty) : Prop := InfoOK P t ty ∧ match ty with
  | .int k => P.underlying t = some (.int k)
  | .bool => P.underlying t = some .bool
  | .str => P.underlying t = some .string
  | .list e => ∃ te, P.underlying t = some (.slice te) ∧ InfoOK P te e
  | .arr n e => ∃ te, P.underlying t = some (.array n te) ∧ InfoOK P te e
  | ty => match arr with
    | false => ∃ fs, P.underlying t = some (.struct fs) ∧ FieldsOK P fs.toList ty 0 ∧ ThreeOK P t fs.toList ty
    | true => ∃ n te e, P.underlying t = some (.array n te) ∧ InfoOK P te e ∧ ShortOK e n ty ∧ ∀ k, e = .int k → P.underlying te = some (.int k)
theorem RC.zeros {w : World} {G : Nat → Prop} : ∀ t : Ty, RC w G t t.dflt (zeros t)
  | .int _ => rfl | .bool => rfl | .str => rfl
  | .list _ => ⟨none, 0, rfl, Nat.le_refl _, fun h => absurd rfl h⟩
  | .unit => rfl
  | .pair a b => ⟨_, _, rfl, RC.zeros a, RC.zeros b⟩
  | .arr n t => ⟨List.length_replicate, Elem.replicate (RC.zeros t) n⟩
theorem HLs.zeros [Str] {X : Cx} : ∀ t : Ty, HLs X (zleaves t) (zeros t)
  | .int k => RC.leaves (RC.zeros (.int k)) | .bool => RC.leaves (RC.zeros .bool) | .str => RC.leaves (RC.zeros .str)
  | .list _ => .cons rfl rfl .nil
  | .unit => RC.leaves (RC.zeros .unit)
  | .pair a b => (HLs.zeros a).append (HLs.zeros b)
  | .arr n t => RC.leaves (RC.zeros (.arr n t))
theorem Ty.size_one {t : Ty} (h : t.agg = false) : t.size = 1 := by cases t <;> simp [Ty.agg, Ty.size] at h ⊢
theorem InfoOK.sizeOf {P : Program} {t : TypeId} {ty : Ty} (h : InfoOK P t ty) (w : World) : (sizeOf t).run P w = .ok ty.size w := by
  have := h.info
  cases hi : P.info? t with
  | none => rw [hi] at this; cases this
  | some i =>
    rw [hi] at this
    simp only [Option.map_some, Option.some.injEq, Prod.mk.injEq] at this
    simp [Go.sizeOf, typeInfo, hi, this.1]
theorem InfoOK.zero {P : Program} {t : TypeId} {ty : Ty} (h : InfoOK P t ty) (w : World) : (zeroValue t).run P w = .ok (cellsV ty.agg (zeros ty)) w := by
  have := h.info
  cases hi : P.info? t with
  | none => rw [hi] at this; cases this
  | some i =>
    rw [hi] at this
    simp only [Option.map_some, Option.some.injEq, Prod.mk.injEq] at this
    simp [zeroValue, typeInfo, hi, this.2]
theorem InfoOK.isAgg {P : Program} {t : TypeId} {ty : Ty} (h : InfoOK P t ty) (w : World) : (Go.isAgg t).run P w = .ok ty.agg w := by
  have := h.agg
  cases hu : P.underlying t with
  | none => rw [hu] at this; cases this
  | some d =>
    rw [hu] at this
    simp only [Option.map_some, Option.some.injEq] at this
    unfold Go.isAgg
    rw [Sem.run_bind, run_underlying hu w]
    rw [← this]
    cases d <;> rfl
theorem zeros_cells (t : Ty) : (cellsV t.agg (zeros t)).cells = (zeros t).toArray := by
  cases h : t.agg with
  | true => rfl
  | false => cases t <;> first | rfl | (simp [Ty.agg] at h)
/-! blocks, written -/
theorem heap_setCells (b : Nat) : ∀ (vs : List Value) (o : Nat) (w : World) (c : Array Value) (e : TypeId), w.heap[b]? = some (.cells c e (0, 0)) → o + vs.length ≤ c.size →
    ∃ c', (w.setCells b o vs).heap[b]? = some (.cells c' e (0, 0)) ∧ c'.toList = c.toList.take o ++ (vs ++ c.toList.drop (o + vs.length))
  | [], o, w, c, e, h, _ => ⟨c, h, by simp⟩
  | v :: r, o, w, c, e, h, hs => by
    simp only [List.length_cons] at hs
    obtain ⟨c', h1, h2⟩ := heap_setCells b r (o + 1) (w.setCell ⟨b, o, none⟩ v) (c.setIfInBounds o v) e (heap_setCell_same w b o c e v h) (by simp; omega)
    refine ⟨c', h1, ?_⟩
    rw [h2, Array.toList_setIfInBounds]
    have hl : o < c.toList.length := by simp; omega
    rw [List.take_set, List.drop_set, if_pos (by omega), List.take_add_one, List.getElem?_eq_getElem hl]
    have e1 : (c.toList.take o ++ (some c.toList[o]).toList).set o v = c.toList.take o ++ [v] := by
      rw [List.set_append_right _ _ (by simp; omega)]
      have : o - (c.toList.take o).length = 0 := by simp; omega
      rw [this]; rfl
    rw [e1, List.append_assoc]
    simp only [List.length_cons, List.cons_append, List.nil_append]
    rw [show o + 1 + r.length = o + (r.length + 1) by omega]
theorem heap_setCells_other (b : Nat) : ∀ (vs : List Value) (o : Nat) (w : World) (k : Nat), k ≠ b → (w.setCells b o vs).heap[k]? = w.heap[k]?
  | [], _, _, _, _ => rfl
  | v :: r, o, w, k, h => by rw [World.setCells, heap_setCells_other b r (o + 1) _ k h, heap_setCell_other _ _ _ _ h]
theorem setCells_same [Str] (b : Nat) : ∀ (vs : List Value) (o : Nat) (w : World), (w.setCells b o vs).os = w.os ∧ Td (w.setCells b o vs) w ∧ (w.setCells b o vs).output = w.output ∧ (w.setCells b o vs).heap.size = w.heap.size
  | [], _, w => ⟨rfl, Td.refl w, rfl, rfl⟩
  | v :: r, o, w => by
    obtain ⟨h1, h2, h3, h4⟩ := setCells_same b r (o + 1) (w.setCell ⟨b, o, none⟩ v)
    exact ⟨h1, h2, h3, h4.trans (World.size_setCell ..)⟩
/-! pointers -/
theorem run_load [Str] {P : Program} {t : TypeId} {ty : Ty} (h : InfoOK P t ty) {w : World} {b off : Nat} {cs : List Value} (hr : w.rangeAt b off cs) (hl : cs.length = ty.size) :
    (Instr.loadAt t (.pointer (some ⟨b, off, none⟩))).run P w = .ok (cellsV ty.agg cs) w := by
  cases ha : ty.agg with
  | true =>
    have hag := h.agg
    cases hu : P.underlying t with
    | none => rw [hu] at hag; cases hag
    | some d =>
      rw [hu, ha] at hag
      simp only [Option.map_some, Option.some.injEq] at hag
      have hi : (P.info? t).map (·.size) = some cs.length := by
        have := h.info
        cases hi : P.info? t with
        | none => rw [hi] at this; cases this
        | some i =>
          rw [hi] at this
          simp only [Option.map_some, Option.some.injEq, Prod.mk.injEq] at this
          simp [this.1, hl]
      exact run_loadAt_mid w b off t cs d hr hu hag hi
  | false =>
    have h1 := Ty.size_one ha
    rw [h1] at hl
    match cs, hl with
    | [v], _ =>
      have hc := hr 0 v rfl
      rw [Nat.add_zero] at hc
      have hi := h.isAgg w
      rw [ha] at hi
      simp [Instr.loadAt, Instr.sureAddr, loadVar, hi, hc, cellsV]
theorem HV.mk [Str] {X : Cx} {ty : Ty} {l : List SV} {cs : List Value} (h : HLs X l cs) (hl : cs.length = ty.size) : HV X (mk ty l) (cellsV ty.agg cs) := by
  unfold Ev.mk ofLeaves
  cases ha : ty.agg with
  | true => exact ⟨cs.toArray, rfl, by simpa using h⟩
  | false =>
    have h1 := Ty.size_one ha
    rw [h1] at hl
    match cs, hl with
    | [v], _ =>
      cases l with
      | nil => trivial
      | cons s r =>
        cases s with
        | arr _ _ _ => trivial
        | _ =>
          obtain ⟨v', d, e, _, hv, _⟩ := h.uncons1 (by simp)
          simp only [List.singleton_append, List.cons.injEq] at e
          obtain ⟨rfl, _⟩ := e
          exact hv
theorem of_seeP [Str] {B : Base} {X : Cx} (hg : Good B X) {p : SV} {val : Value} (hv : HV X p val) {size : Nat} {R : Type} {K : List SV → Objs → Option R} {r : R} (h : (seeP p size).run X.O K = some r) :
    ∃ l cs b off, K l X.O = some r ∧ val = .pointer (some ⟨b, off, none⟩) ∧ X.w.rangeAt b off cs ∧ cs.length = size ∧ HLs X l cs := by
  unfold seeP at h
  split at h
  · rename_i n g off
    rw [run_bind] at h
    obtain ⟨fr, cs, ho, _, h1⟩ := of_boxAt h
    obtain ⟨l, h2, h3⟩ := of_must h1
    obtain ⟨_, o, e1, _, e2⟩ := hv
    rw [ho] at e1; cases e1
    obtain ⟨b, hb, hval⟩ := e2 rfl
    obtain ⟨b', c, e, k1, k2, k3⟩ := hg.obj n _ ho
    rw [hb] at k1; cases k1
    obtain ⟨f1, f2, f3⟩ := of_cutCells k3 h2
    refine ⟨l, _, b, off, h3, hval, ?_, f2, f1⟩
    have := rangeAt_take (rangeAt_drop (rangeAt_heap k2) off) size
    simpa using this
  · rename_i n g off i j sz m
    rw [run_bind] at h
    obtain ⟨fr, cs, ho, _, h1⟩ := of_boxAt h
    rw [run_bind] at h1
    obtain ⟨x, h2, h3⟩ := of_must h1
    obtain ⟨l, h4, h5⟩ := of_must h3
    obtain ⟨_, o, e1, _, e2⟩ := hv
    rw [ho] at e1; cases e1
    obtain ⟨him, b, hb, hval⟩ := e2 rfl
    obtain ⟨b', c, e, k1, k2, k3⟩ := hg.obj n _ ho
    rw [hb] at k1; cases k1
    unfold arrAt at h2
    split at h2
    · rename_i a0 t m' la c0 ha hc
      cases hbb : Nat.beq sz t.size && Nat.beq m m' with
      | false => rw [hbb] at h2; cases h2
      | true =>
        rw [hbb] at h2
        cases h2
        rw [Bool.and_eq_true] at hbb
        have hsz := Nat.eq_of_beq_eq_true hbb.1
        have hm := Nat.eq_of_beq_eq_true hbb.2
        subst hsz hm
        obtain ⟨c1, d1, q1, q2, q3⟩ := of_dropCells k3 hc
        simp only [HLs] at q3
        obtain ⟨ca, d2, q4, q5, _⟩ := q3
        obtain ⟨q6, q7⟩ := q5
        have hR := Elem.at (fun _ _ h => RC.len (t := t) h) i t.dflt q7 (by omega)
        obtain ⟨f1, f2, f3⟩ := of_cutCells (RC.leaves hR) h4
        refine ⟨l, _, b, _, h5, hval, ?_, f2, f1⟩
        have r1 : X.w.rangeAt b off d1 := by
          have := rangeAt_drop (rangeAt_heap k2) off
          rw [q1, ← q2, List.drop_left, Nat.zero_add] at this
          rw [← q2]; exact this
        rw [q4] at r1
        have r2 := rangeAt_take (rangeAt_drop (rangeAt_take (rangeAt_drop (rangeAt_append_left r1) (i * t.size)) t.size) j) size
        exact r2
    · cases h2
  · rename_i n g i off
    rw [run_bind] at h
    obtain ⟨fr, t, la, ho, h1⟩ := of_rowAt h
    obtain ⟨l, h2, h3⟩ := of_must h1
    obtain ⟨_, o, e1, _, e2⟩ := hv
    rw [ho] at e1; cases e1
    obtain ⟨hi, b, hb, hval⟩ := e2 rfl
    have hob := hg.obj n _ ho
    simp only [ObjH, hb] at hob
    obtain ⟨c, e, es, sp, cap, k1, k2, k3, k4⟩ := hob
    have hR := Elem.at (fun _ _ h => RC.len (t := t) h) i t.dflt k3 hi
    obtain ⟨f1, f2, f3⟩ := of_cutCells (RC.leaves hR) h2
    refine ⟨l, _, b, _, h3, hval, ?_, f2, f1⟩
    have r1 := rangeAt_heap k1
    rw [k2] at r1
    have r2 := rangeAt_take (rangeAt_drop (rangeAt_take (rangeAt_drop (rangeAt_append_left r1) (i * t.size)) t.size) off) size
    rwa [Nat.zero_add] at r2
  · rename_i t la i off
    obtain ⟨l, h2, h3⟩ := of_must h
    obtain ⟨hi, b, o, es, hval, _, k3, k4⟩ := hv
    have hR := Elem.at (fun _ _ h => RC.len (t := t) h) i t.dflt k3 hi
    obtain ⟨f1, f2, f3⟩ := of_cutCells (RC.leaves hR) h2
    exact ⟨l, _, b, _, h3, hval, rangeAt_take (rangeAt_drop (rangeAt_take (rangeAt_drop k4 (i * t.size)) t.size) off) size, f2, f1⟩
  · cases h
end Go.Ev
namespace Go.Ev
open Go.RowKit
theorem splice (A E C ns : List Value) (off : Nat) (h : off + ns.length ≤ E.length) :
    (A ++ (E ++ C)).take (A.length + off) ++ (ns ++ (A ++ (E ++ C)).drop (A.length + off + ns.length)) = A ++ ((E.take off ++ (ns ++ E.drop (off + ns.length))) ++ C) := by
  have e1 : (A ++ (E ++ C)).take (A.length + off) = A ++ E.take off := by
    rw [List.take_append, List.take_of_length_le (l := A) (by omega), Nat.add_sub_cancel_left, List.take_append, show off - E.length = 0 by omega]
    simp
  have e2 : (A ++ (E ++ C)).drop (A.length + off + ns.length) = E.drop (off + ns.length) ++ C := by
    rw [List.drop_append, List.drop_eq_nil_of_le (as := A) (by omega), show A.length + off + ns.length - A.length = off + ns.length by omega, List.drop_append, show off + ns.length - E.length = 0 by omega]
    simp
  rw [e1, e2]
  simp [List.append_assoc]
theorem there_of_heap {w : World} {b off n : Nat} {c : Array Value} {e : TypeId} (h : w.heap[b]? = some (.cells c e (0, 0))) (hn : off + n ≤ c.size) : w.there b off n := fun j hj => by
  refine ⟨?_, frozen_of_row w b _ c e h⟩
  rw [cell_of_row w b _ c e _ h, Array.getElem?_eq_getElem (by omega)]
  rfl
/-- what is stored into a block of an object -/
theorem Good.store [Str] {B : Base} {X : Cx} (hg : Good B X) {n g b off : Nat} {bd bd' : Body} {ns : List Value} (ho : X.O n = some ⟨g, false, bd⟩) (hb : X.β n = some b) {c : Array Value} {e : TypeId}
    (hc : X.w.heap[b]? = some (.cells c e (0, 0))) (hn : off + ns.length ≤ c.size) (hl : like bd bd')
    (hob : ∀ c' : Array Value, (X.w.setCells b off ns).heap[b]? = some (.cells c' e (0, 0)) → c'.toList = c.toList.take off ++ (ns ++ c.toList.drop (off + ns.length)) → c'.size = c.size →
      Ext X ⟨X.w.setCells b off ns, X.G, setB X.β n (some b), X.O.set n ⟨g, false, bd'⟩⟩ → ObjH ⟨X.w.setCells b off ns, X.G, setB X.β n (some b), X.O.set n ⟨g, false, bd'⟩⟩ n ⟨g, false, bd'⟩) (hr : bd'.isRows = false := by rfl) :
    Good B ⟨X.w.setCells b off ns, X.G, setB X.β n (some b), X.O.set n ⟨g, false, bd'⟩⟩ ∧ Ext X ⟨X.w.setCells b off ns, X.G, setB X.β n (some b), X.O.set n ⟨g, false, bd'⟩⟩ := by
  obtain ⟨s1, s2, s3, s4⟩ := setCells_same b ns off X.w
  obtain ⟨c', h1, h2⟩ := heap_setCells b ns off X.w c e hc hn
  have h3 : c'.size = c.size := by
    have := congrArg List.length h2
    simp at this
    omega
  refine hg.at n _ (some b) _ s1 s2 s3 (by rw [s4]; exact Nat.le_refl _) ?_ ?_ ?_ ?_ rfl (fun hE => hob c' h1 h2 h3 hE) hr
  · intro o ho'; rw [ho] at ho'; cases ho'; rfl
  · intro k _ hk
    refine heap_setCells_other b ns off X.w k (fun e => ?_)
    subst e
    exact hk _ ho hb
  · intro k hk; cases hk; exact .inl ⟨_, ho, hb⟩
  · intro o ho'
    rw [ho] at ho'; cases ho'
    refine .inr ⟨rfl, hb.symm, hl, fun b' c0 e0 hb0 hc0 => ?_⟩
    rw [hb] at hb0; cases hb0
    rw [hc] at hc0; cases hc0
    exact ⟨c', e, h1, h3⟩
/-- an object is laid over a block that no other one has -/
theorem GoodX.adoptR [Str] {N : Nat → Prop} {B : Base} {X : Cx} (h : GoodX N B X) (n : Nat) (hn : X.O n = none) (b' : Option Nat) (bd : Body)
    (hb : ∀ b, b' = some b → ¬ X.G b ∧ (B.Im b ∨ B.w0.heap.size ≤ b) ∧ b < X.w.heap.size ∧ ∀ m o, ¬ N m → X.O m = some o → o.frozen = false → X.β m ≠ some b)
    (hbp : ∀ b, b' = some b → ∀ m, ¬ N m → some b ∉ X.parts m)
    (hobj : Ext X ⟨X.w, X.G, setB X.β n b', X.O.set n ⟨0, false, bd⟩⟩ → ObjH ⟨X.w, X.G, setB X.β n b', X.O.set n ⟨0, false, bd⟩⟩ n ⟨0, false, bd⟩)
    (hpart : ∀ b, some b ∈ Cx.parts ⟨X.w, X.G, setB X.β n b', X.O.set n ⟨0, false, bd⟩⟩ n → ¬ X.G b ∧ (B.Im b ∨ B.w0.heap.size ≤ b) ∧ b < X.w.heap.size ∧ b' ≠ some b ∧ (∀ m o, ¬ N m → X.O m = some o → o.frozen = false → X.β m ≠ some b) ∧ ∀ m, ¬ N m → some b ∉ X.parts m) :
    GoodX N B ⟨X.w, X.G, setB X.β n b', X.O.set n ⟨0, false, bd⟩⟩ ∧ Ext X ⟨X.w, X.G, setB X.β n b', X.O.set n ⟨0, false, bd⟩⟩ := by
  have hne : ∀ m o, X.O m = some o → m ≠ n := fun m o hm e => by subst e; rw [hn] at hm; cases hm
  have hE : Ext X ⟨X.w, X.G, setB X.β n b', X.O.set n ⟨0, false, bd⟩⟩ := by
    refine ⟨fun _ hb => hb, fun _ _ => rfl, fun m p hm => ⟨p, ?_, Nat.le_refl _, fun _ => ⟨setB_ne _ _ (hne m p hm), by cases p.body <;> simp [like], fun _ _ _ b c e _ hc => ⟨c, e, hc, rfl⟩⟩⟩⟩
    simp only [set_ne _ _ (hne m p hm)]; exact hm
  refine ⟨⟨h.os, h.tape, h.output, h.size, h.old, h.g0, h.glt, h.gfrom, ?_, ?_, ?_, ?_, ?_, ?_⟩, hE⟩
  · intro m p b hN hm hp hbm
    by_cases hmn : m = n
    · subst hmn
      simp only [setB_same] at hbm
      exact ⟨(hb b hbm).1, (hb b hbm).2.1⟩
    · simp only [set_ne _ _ hmn] at hm
      simp only [setB_ne _ _ hmn] at hbm
      exact h.ownx m p b hN hm hp hbm
  · intro m k p q b hN hN' hm hk hp hq hbm hbk
    by_cases hmn : m = n
    · by_cases hkn : k = n
      · rw [hmn, hkn]
      · subst hmn
        simp only [setB_same] at hbm
        simp only [set_ne _ _ hkn] at hk
        simp only [setB_ne _ _ hkn] at hbk
        exact absurd hbk ((hb b hbm).2.2.2 k q hN' hk hq)
    · simp only [set_ne _ _ hmn] at hm
      simp only [setB_ne _ _ hmn] at hbm
      by_cases hkn : k = n
      · subst hkn
        simp only [setB_same] at hbk
        exact absurd hbm ((hb b hbk).2.2.2 m p hN hm hp)
      · simp only [set_ne _ _ hkn] at hk
        simp only [setB_ne _ _ hkn] at hbk
        exact h.injx m k p q b hN hN' hm hk hp hq hbm hbk
  · intro m p b hN hm hp hbm
    by_cases hmn : m = n
    · subst hmn
      simp only [set_same] at hm
      cases hm; cases hp
    · simp only [set_ne _ _ hmn] at hm
      simp only [setB_ne _ _ hmn] at hbm
      exact h.frzx m p b hN hm hp hbm
  · intro m p b hN hm hbm
    by_cases hmn : m = n
    · subst hmn
      simp only [setB_same] at hbm
      exact (hb b hbm).2.2.1
    · simp only [set_ne _ _ hmn] at hm
      simp only [setB_ne _ _ hmn] at hbm
      exact h.ltx m p b hN hm hbm
  · intro m p hN hm
    by_cases hmn : m = n
    · subst hmn
      simp only [set_same] at hm
      cases hm
      exact hobj hE
    · simp only [set_ne _ _ hmn] at hm
      exact (h.objx m p hN hm).ext hE hm (setB_ne _ _ hmn) (fun _ _ => rfl) (fun _ _ => rfl)
  · have hpe : ∀ m, m ≠ n → Cx.parts ⟨X.w, X.G, setB X.β n b', X.O.set n ⟨0, false, bd⟩⟩ m = X.parts m := fun m hm => parts_eq (set_ne _ _ hm) (setB_ne _ _ hm) (fun _ _ _ _ _ => rfl)
    intro m b hN hm
    by_cases hmn : m = n
    · subst hmn
      obtain ⟨h1, h2, h3, h4, h5, h6⟩ := hpart b hm
      refine ⟨h1, h2, h3, fun k o hk ho hf => ?_, fun k hk hkp => ?_⟩
      · by_cases hkn : k = m
        · subst hkn; simp only [setB_same]; exact h4
        · simp only [set_ne _ _ hkn] at ho
          simp only [setB_ne _ _ hkn]
          exact h5 k o hk ho hf
      · by_cases hkn : k = m
        · exact hkn
        · rw [hpe k hkn] at hkp
          exact absurd hkp (h6 k hk)
    · rw [hpe m hmn] at hm
      obtain ⟨h1, h2, h3, h4, h5⟩ := h.partx m b hN hm
      refine ⟨h1, h2, h3, fun k o hk ho hf => ?_, fun k hk hkp => ?_⟩
      · by_cases hkn : k = n
        · subst hkn
          simp only [setB_same]
          intro hbb
          exact hbp b hbb m hN hm
        · simp only [set_ne _ _ hkn] at ho
          simp only [setB_ne _ _ hkn]
          exact h4 k o hk ho hf
      · by_cases hkn : k = n
        · subst hkn
          exact absurd hm ((hpart b hkp).2.2.2.2.2 m hN)
        · rw [hpe k hkn] at hkp
          exact h5 k hk hkp
theorem GoodX.adopt [Str] {N : Nat → Prop} {B : Base} {X : Cx} (h : GoodX N B X) (n : Nat) (hn : X.O n = none) (b' : Option Nat) (bd : Body)
    (hb : ∀ b, b' = some b → ¬ X.G b ∧ (B.Im b ∨ B.w0.heap.size ≤ b) ∧ b < X.w.heap.size ∧ ∀ m o, ¬ N m → X.O m = some o → o.frozen = false → X.β m ≠ some b)
    (hbp : ∀ b, b' = some b → ∀ m, ¬ N m → some b ∉ X.parts m)
    (hobj : Ext X ⟨X.w, X.G, setB X.β n b', X.O.set n ⟨0, false, bd⟩⟩ → ObjH ⟨X.w, X.G, setB X.β n b', X.O.set n ⟨0, false, bd⟩⟩ n ⟨0, false, bd⟩) (hr : bd.isRows = false := by rfl) :
    GoodX N B ⟨X.w, X.G, setB X.β n b', X.O.set n ⟨0, false, bd⟩⟩ ∧ Ext X ⟨X.w, X.G, setB X.β n b', X.O.set n ⟨0, false, bd⟩⟩ :=
  h.adoptR n hn b' bd hb hbp hobj (fun b hb => by rw [parts_of (o := ⟨0, false, bd⟩) (set_same _ _ _) hr] at hb; cases hb)
/-! rows of rows -/
theorem mem_somes {b : Nat} : ∀ {bs : List (Option Nat)}, b ∈ somes bs ↔ some b ∈ bs
  | [] => by simp [somes]
  | none :: r => by simp [somes, mem_somes]
  | some a :: r => by simp [somes, mem_somes]
theorem partsV_none : ∀ vs : List Value, partsV none vs = vs.map partOf
  | [] => rfl
  | v :: vs => by simp [partsV, partsV_none vs]
theorem partsV_some [Str] : ∀ (k : Nat) (vs : List Value), partsV (some k) vs = (vs.map partOf).set k none
  | _, [] => by simp [partsV]
  | 0, v :: vs => by simp [partsV, partsV_none vs]
  | k + 1, v :: vs => by simp [partsV, partsV_some k vs]
theorem mem_setO {k : Nat} {x : Option Nat} : ∀ {L : List (Option Nat)} {i : Nat}, some k ∈ L.set i x → x = some k ∨ some k ∈ L.set i none
  | [], _, h => by simp at h
  | a :: L, 0, h => by
    simp only [List.set_cons_zero, List.mem_cons] at h ⊢
    rcases h with h | h
    · exact .inl h.symm
    · exact .inr (.inr h)
  | a :: L, i + 1, h => by
    simp only [List.set_cons_succ, List.mem_cons] at h ⊢
    rcases h with h | h
    · exact .inr (.inl h)
    · exact (mem_setO h).imp id .inr
theorem mem_setN {k : Nat} : ∀ {L : List (Option Nat)} {i : Nat}, some k ∈ L.set i none → some k ∈ L
  | [], _, h => by simp at h
  | a :: L, 0, h => by
    simp only [List.set_cons_zero, List.mem_cons] at h ⊢
    rcases h with h | h
    · cases h
    · exact .inr h
  | a :: L, i + 1, h => by
    simp only [List.set_cons_succ, List.mem_cons] at h ⊢
    exact h.imp id mem_setN
theorem nodup_setN [Str] : ∀ {L : List (Option Nat)} {i : Nat}, (somes L).Nodup → (somes (L.set i none)).Nodup
  | [], _, h => by simpa using h
  | none :: L, 0, h => by simpa [somes] using h
  | some a :: L, 0, h => by simp only [somes, List.nodup_cons] at h; simpa [somes] using h.2
  | none :: L, i + 1, h => by simpa [somes] using nodup_setN (L := L) (i := i) (by simpa [somes] using h)
  | some a :: L, i + 1, h => by
    simp only [somes, List.nodup_cons, List.set_cons_succ] at h ⊢
    exact ⟨fun h' => h.1 (mem_somes.2 (mem_setN (mem_somes.1 h'))), nodup_setN h.2⟩
theorem nodup_setO [Str] {x : Option Nat} : ∀ {L : List (Option Nat)} {i : Nat}, (somes (L.set i none)).Nodup → (∀ k, x = some k → some k ∉ L.set i none) → (somes (L.set i x)).Nodup
  | [], _, h, _ => by simpa using h
  | a :: L, 0, h, hx => by
    simp only [List.set_cons_zero] at h hx ⊢
    cases x with
    | none => simpa [somes] using h
    | some k =>
      simp only [somes, List.nodup_cons] at h ⊢
      exact ⟨fun h' => hx k rfl (List.mem_cons_of_mem _ (mem_somes.1 h')), h⟩
  | none :: L, i + 1, h, hx => by
    simp only [List.set_cons_succ, somes] at h hx ⊢
    exact nodup_setO h (fun k hk h' => hx k hk (List.mem_cons_of_mem _ h'))
  | some a :: L, i + 1, h, hx => by
    simp only [List.set_cons_succ, somes, List.nodup_cons] at h hx ⊢
    refine ⟨fun h' => ?_, nodup_setO h.2 (fun k hk h' => hx k hk (List.mem_cons_of_mem _ h'))⟩
    rcases mem_setO (mem_somes.1 h') with h' | h'
    · exact hx a h' (List.mem_cons_self)
    · exact h.1 (mem_somes.2 h')
theorem not_mem_setN [Str] {k : Nat} : ∀ {L : List (Option Nat)} {i : Nat}, (somes L).Nodup → L[i]? = some (some k) → some k ∉ L.set i none
  | [], _, _, h => by simp at h
  | a :: L, 0, hn, h => by
    simp only [List.getElem?_cons_zero, Option.some.injEq] at h
    subst h
    simp only [somes, List.nodup_cons] at hn
    simp only [List.set_cons_zero, List.mem_cons]
    rintro (h | h)
    · cases h
    · exact hn.1 (mem_somes.2 h)
  | none :: L, i + 1, hn, h => by
    simp only [List.set_cons_succ, List.mem_cons]
    rintro (h' | h')
    · cases h'
    · exact not_mem_setN (by simpa [somes] using hn) (by simpa using h) h'
  | some a :: L, i + 1, hn, h => by
    simp only [somes, List.nodup_cons] at hn
    simp only [List.set_cons_succ, List.mem_cons]
    rintro (h' | h')
    · cases h'
      exact hn.1 (mem_somes.2 (List.mem_of_getElem? (by simpa using h)))
    · exact not_mem_setN hn.2 (by simpa using h) h'
theorem RowsV.set {w : World} {G : Nat → Prop} {t : Ty} {l : List t.den} {v : Value} (hv : OwnV w G t l v (partOf v)) : ∀ {hole : Option Nat} {i : Nat} {ll : List (List t.den)} {vs : List Value}, i < ll.length → (hole = none ∨ hole = some i) → RowsV w G t hole ll vs → RowsV w G t none (ll.set i l) (vs.set i v)
  | _, _, [], _, hi, _, _ => by simp at hi
  | _, _, _ :: _, [], _, _, h => by simp [RowsV] at h
  | none, 0, x :: ll, u :: vs, _, _, h => by
    simp only [RowsV, List.set_cons_zero] at h ⊢
    exact ⟨hv, h.2⟩
  | some 0, 0, x :: ll, u :: vs, _, _, h => by
    simp only [RowsV, List.set_cons_zero] at h ⊢
    exact ⟨hv, h.2⟩
  | some (k + 1), 0, x :: ll, u :: vs, _, hh, h => by simp at hh
  | none, i + 1, x :: ll, u :: vs, hi, _, h => by
    simp only [RowsV, List.set_cons_succ] at h ⊢
    exact ⟨h.1, RowsV.set hv (by simpa using hi) (.inl rfl) h.2⟩
  | some 0, i + 1, x :: ll, u :: vs, hi, hh, h => by simp at hh
  | some (k + 1), i + 1, x :: ll, u :: vs, hi, hh, h => by
    simp only [RowsV, List.set_cons_succ] at h ⊢
    exact ⟨h.1, RowsV.set hv (by simpa using hi) (by simpa using hh) h.2⟩
theorem RowsV.take {w : World} {G : Nat → Prop} {t : Ty} : ∀ {i : Nat} {ll : List (List t.den)} {vs : List Value}, i < ll.length → RowsV w G t none ll vs → RowsV w G t (some i) ll vs ∧ ∃ v, vs[i]? = some v ∧ OwnV w G t (ll.getD i []) v (partOf v)
  | _, [], _, hi, _ => by simp at hi
  | _, _ :: _, [], _, h => by simp [RowsV] at h
  | 0, x :: ll, u :: vs, _, h => by
    simp only [RowsV] at h ⊢
    exact ⟨⟨h.1.one, h.2⟩, u, rfl, h.1⟩
  | i + 1, x :: ll, u :: vs, hi, h => by
    simp only [RowsV] at h ⊢
    obtain ⟨h1, v, h2, h3⟩ := RowsV.take (by simpa using hi) h.2
    exact ⟨⟨h.1, h1⟩, v, by simpa using h2, by simpa using h3⟩
theorem set_cells {vs sp : List Value} {i : Nat} {v : Value} (hi : i < vs.length) : (vs ++ sp).take i ++ ([v] ++ (vs ++ sp).drop (i + 1)) = vs.set i v ++ sp := by
  rw [← List.set_append_left _ _ hi, List.set_eq_take_append_cons_drop, if_pos (by simp; omega)]
  rfl
/-- a row of one's own that is held, behind its slice -/
theorem OwnV.of_held [Str] {B : Base} {X : Cx} (hg : Good B X) {n g : Nat} {t : Ty} {l : List t.den} {v : Value} {fr : Bool} (ho : X.O n = some ⟨g, fr, .row t l⟩) (hv : HV X (.row n g .full) v) :
    OwnV X.w X.G t l v (partOf v) ∧ ∀ k, partOf v = some k → X.β n = some k := by
  obtain ⟨_, o, e1, _, e2⟩ := hv
  rw [ho] at e1; cases e1
  have e2 := e2 rfl
  simp only [RowH, Body.shape] at e2
  obtain ⟨_, a, cap, rfl, h3, h4⟩ := e2
  have hob := hg.obj n _ ho
  simp only [ObjH] at hob
  simp only [View.of] at h3 h4 ⊢
  cases cap with
  | zero =>
    have hl : l = [] := List.eq_nil_of_length_eq_zero (by omega)
    subst hl
    exact ⟨⟨rfl, a, rfl⟩, fun k hk => by cases hk⟩
  | succ c0 =>
    cases hb : X.β n with
    | none => rw [hb] at h4; exact absurd h4.2 (by simp)
    | some b =>
      rw [hb] at h4 hob
      obtain ⟨c, e, k1, k2⟩ := h4
      obtain ⟨c', e', es, sp, cap', q1, q2, q3, q4, q5⟩ := hob
      rw [k1] at q1; cases q1
      rcases k2 with k2 | ⟨k2, k3⟩
      · cases k2
      · subst k2
        simp only [View.lo, Nat.zero_mul, Nat.zero_add] at k3 ⊢
        exact ⟨⟨_, c, e, es, sp, rfl, k1, q2, q3, k3.symm, h3⟩, fun k hk => hk⟩
/-- a row comes back among the rows -/
theorem Good.restore [Str] {B : Base} {X : Cx} (hg : Good B X) {n g m gm i b : Nat} {t : Ty} {ll : List (List t.den)} {hole : Option Nat} {bk : SV} {l : List t.den} {v : Value} (hon : X.O n = some ⟨g, false, .rows t ll hole bk⟩) (hom : X.O m = some ⟨gm, false, .row t l⟩)
    (hv : HV X (.row m gm .full) v) (hb : X.β n = some b) (hi : i < ll.length) (hh : hole = none ∨ hole = some i) :
    ∃ X' : Cx, X'.w = X.w.setCells b i [v] ∧ X'.O = (X.O.set m ⟨Nat.succ gm, true, .row .unit []⟩).set n ⟨g, false, .rows t (ll.set i l) none .undef⟩ ∧ Good B X' ∧ Ext X X' ∧ X.w.there b i 1 := by
  obtain ⟨hov, hpm⟩ := OwnV.of_held hg hom hv
  have hmn : n ≠ m := fun e => by subst e; rw [hon] at hom; cases hom
  obtain ⟨k1, k2⟩ := hg.kill m _ hom
  replace k1 : Good B ⟨X.w, X.G, setB X.β m none, X.O.set m ⟨Nat.succ gm, true, .row .unit []⟩⟩ := k1
  replace k2 : Ext X ⟨X.w, X.G, setB X.β m none, X.O.set m ⟨Nat.succ gm, true, .row .unit []⟩⟩ := k2
  obtain ⟨_, b', c, e, vs, sp, h1, h2, h3, h4, h5, _⟩ := hg.obj n _ hon
  rw [hb] at h1; cases h1
  have hps := parts_rows hon hb h2 h3 h4.len
  have hlen := h4.len
  have hn1 : i + [v].length ≤ c.size := by
    have := congrArg List.length h3
    simp at this ⊢
    omega
  obtain ⟨s1, s2, s3, s4⟩ := setCells_same b [v] i X.w
  obtain ⟨c', w1, w2⟩ := heap_setCells b [v] i X.w c e h2 hn1
  have w3 : c'.size = c.size := by
    have := congrArg List.length w2
    simp at this
    have : i + 1 ≤ c.size := by simpa using hn1
    omega
  have w2' : c'.toList = vs.set i v ++ sp := by rw [w2, h3]; exact set_cells (by omega)
  have hne : ∀ k, some k ∈ partsV hole vs → k ≠ b := fun k hk e0 => by
    subst e0
    rw [← hps] at hk
    exact (hg.part n _ hk).2.2.2.1 n _ hon rfl hb
  have hvb : ∀ k, partOf v = some k → k ≠ b := fun k hk e0 => by
    subst e0
    exact hmn (hg.inj n m _ _ _ hon hom rfl rfl hb (hpm _ hk))
  have hsub : ∀ k, some k ∈ partsV none (vs.set i v) → partOf v = some k ∨ (some k ∈ partsV hole vs) := fun k hk => by
    rw [partsV_none, List.map_set] at hk
    refine (mem_setO hk).imp id (fun hk => ?_)
    rcases hh with rfl | rfl
    · rw [partsV_none]; exact mem_setN hk
    · rw [partsV_some]; exact hk
  have hnd : (somes (partsV none (vs.set i v))).Nodup := by
    have hvn : ∀ k, partOf v = some k → some k ∉ partsV hole vs := fun k hk hk' => by
      rw [← hps] at hk'
      exact (hg.part n _ hk').2.2.2.1 m _ hom rfl (hpm _ hk)
    rw [partsV_none, List.map_set]
    rcases hh with rfl | rfl
    · rw [partsV_none] at h5 hvn
      exact nodup_setO (nodup_setN h5) (fun k hk hk' => hvn k hk (mem_setN hk'))
    · rw [partsV_some] at h5 hvn
      exact nodup_setO h5 hvn
  have hO1 : (X.O.set m ⟨Nat.succ gm, true, .row .unit []⟩) n = some ⟨g, false, .rows t ll hole bk⟩ := (set_ne _ _ hmn).trans hon
  have hβ1 : setB X.β m none n = some b := (setB_ne _ _ hmn).trans hb
  have hin : i < vs.length := by omega
  have hpe : ∀ x, x ≠ m → Cx.parts ⟨X.w, X.G, setB X.β m none, X.O.set m ⟨Nat.succ gm, true, .row .unit []⟩⟩ x = X.parts x := fun x hx => parts_eq (set_ne _ _ hx) (setB_ne _ _ hx) (fun _ _ _ _ _ => rfl)
  obtain ⟨q1, q2⟩ := k1.atR n ⟨g, false, .rows t (ll.set i l) none .undef⟩ (some b) (X.w.setCells b i [v]) s1 s2 s3 (by rw [s4]; exact Nat.le_refl _) (fun o ho => by have ho : (X.O.set m ⟨Nat.succ gm, true, .row .unit []⟩) n = some o := ho; rw [hO1] at ho; cases ho; rfl)
    (fun k _ hk => heap_setCells_other b [v] i X.w k (fun e0 => by subst e0; exact hk _ hO1 hβ1)) (fun k hk => by cases hk; exact .inl ⟨_, hO1, hβ1⟩)
    (fun o ho => by
      have ho : (X.O.set m ⟨Nat.succ gm, true, .row .unit []⟩) n = some o := ho
      rw [hO1] at ho; cases ho
      refine .inr ⟨rfl, hβ1.symm, ⟨rfl, by simp⟩, fun b2 c0 e0 hb0 hc0 => ?_⟩
      simp only [hβ1] at hb0; cases hb0
      rw [h2] at hc0; cases hc0
      exact ⟨c', e, w1, w3⟩) rfl
    (fun hE => ⟨rfl, b, c', e, vs.set i v, sp, setB_same _ _ _, w1, w2', by
      refine RowsV.set ?_ hi hh (h4.imp (w' := X.w.setCells b i [v]) (fun _ h => h) hE.agree (fun k hk => heap_setCells_other b [v] i X.w k (hne k hk)))
      exact hov.imp (fun _ h => h) hE.agree (fun k hk => heap_setCells_other b [v] i X.w k (hvb k hk)), hnd, BkH.none⟩)
    (fun k hk => by
      rw [parts_rows (t := t) (hole := none) (set_same _ _ _) (setB_same _ _ _) w1 w2' (by simp [hlen])] at hk
      rcases hsub k hk with hk | hk
      · have hk' := hpm k hk
        obtain ⟨o1, o2⟩ := hg.own m _ k hom rfl hk'
        refine ⟨o1, o2, by rw [s4]; exact hg.lt m _ k hom hk', fun h => hvb k hk (by cases h; rfl), fun x o hx ho hf hbx => ?_, fun x hx hpx => ?_⟩
        · by_cases hxm : x = m
          · subst hxm; simp only [setB_same] at hbx; cases hbx
          · simp only [set_ne _ _ hxm] at ho
            simp only [setB_ne _ _ hxm] at hbx
            exact hxm (hg.inj x m _ _ k ho hom hf rfl hbx hk')
        · by_cases hxm : x = m
          · subst hxm; rw [parts_row (set_same _ _ _)] at hpx; cases hpx
          · rw [hpe x hxm] at hpx
            exact (hg.part x k hpx).2.2.2.1 m _ hom rfl hk'
      · have hk0 := hk
        rw [← hps] at hk
        obtain ⟨p1, p2, p3, p4, p5⟩ := hg.part n k hk
        refine ⟨p1, p2, by rw [s4]; exact p3, fun h => hne k hk0 (by cases h; rfl), fun x o hx ho hf hbx => ?_, fun x hx hpx => ?_⟩
        · by_cases hxm : x = m
          · subst hxm; simp only [setB_same] at hbx; cases hbx
          · simp only [set_ne _ _ hxm] at ho
            simp only [setB_ne _ _ hxm] at hbx
            exact p4 x o ho hf hbx
        · by_cases hxm : x = m
          · subst hxm; rw [parts_row (set_same _ _ _)] at hpx; cases hpx
          · rw [hpe x hxm] at hpx
            exact hx (p5 x hpx))
  exact ⟨_, rfl, rfl, q1, k2.trans q2, there_of_heap h2 hn1⟩
theorem modify_self {w : World} {b i : Nat} {c : Array Value} {e : TypeId} {fr : Nat × Nat} {v : Value} (hb : w.heap[b]? = some (.cells c e fr)) (hc : c[i]? = some v) : w.setCells b i [v] = w := by
  show w.setCell ⟨b, i, none⟩ v = w
  unfold World.setCell
  have hh : ∀ f : Go.Obj → Go.Obj, f (.cells c e fr) = .cells c e fr → w.heap.modify b f = w.heap := by
    intro f hf
    apply Array.ext_getElem?
    intro k
    rw [Array.getElem?_modify]
    by_cases hk : b = k
    · subst hk
      rw [if_pos rfl, hb]
      simp [hf]
    · rw [if_neg hk]
  rw [hh _ (by
    show Go.Obj.cells (if (none : Option Nat).isSome then c else c.setIfInBounds i v) e fr = _
    congr 1
    show c.setIfInBounds i v = c
    apply Array.ext_getElem?
    intro k
    rw [Array.getElem?_setIfInBounds]
    by_cases hk : i = k
    · subst hk
      have : i < c.size := (Array.getElem?_eq_some_iff.1 hc).1
      rw [if_pos rfl, if_pos this, hc]
    · rw [if_neg hk])]
/-- the row that is elsewhere comes back -/
theorem of_syncR [Str] {B : Base} {X : Cx} (hg : Good B X) {n : Nat} {R : Type} {K : Unit → Objs → Option R} {r : R} (h : (syncR n).run X.O K = some r) :
    ∃ X', K () X'.O = some r ∧ X'.w = X.w ∧ Good B X' ∧ Ext X X' := by
  unfold syncR at h
  rw [run_bind, run_get] at h
  split at h
  · rename_i g t ll i m gm ho
    rw [run_bind, run_get] at h
    split at h
    · rename_i gm' u x hom
      rw [run_bind] at h
      obtain ⟨hgg, h1⟩ := of_sure h
      have e1 := Nat.eq_of_beq_eq_true hgg
      subst e1
      rw [run_bind] at h1
      obtain ⟨x', h2, h3⟩ := of_must h1
      obtain ⟨e3, e4⟩ := of_castL h2
      subst e3
      dsimp only at e4
      subst e4
      obtain ⟨_, b, c, e, vs, sp, k1, k2, k3, k4, _, k6⟩ := hg.obj n _ ho
      obtain ⟨hi, hbk⟩ := k6 i rfl
      have hl := k4.len
      obtain ⟨v, hv⟩ : ∃ v, vs[i]? = some v := ⟨vs[i]'(by omega), List.getElem?_eq_getElem (by omega)⟩
      obtain ⟨X', f1, f2, f3, f4, _⟩ := hg.restore ho hom (hbk v hv) k1 hi (.inr rfl)
      refine ⟨X', ?_, ?_, f3, f4⟩
      · rw [f2]
        rw [run_bind, run_put, run_put] at h3
        exact h3
      · rw [f1]
        refine modify_self k2 ?_
        rw [← Array.getElem?_toList, k3, List.getElem?_append_left (by rw [k4.len]; exact hi)]
        exact hv
    · simp [run_fail'] at h
  · exact ⟨X, h, rfl, hg, .refl X⟩
theorem of_syncU [Str] {B : Base} {X : Cx} (hg : Good B X) {n m : Nat} {bk : SV} {R : Type} {K : Unit → Objs → Option R} {r : R} (h : (syncU n m bk).run X.O K = some r) :
    ∃ X', K () X'.O = some r ∧ X'.w = X.w ∧ Good B X' ∧ Ext X X' := by
  unfold syncU at h
  split at h
  · split at h
    · exact ⟨X, h, rfl, hg, .refl X⟩
    · exact of_syncR hg h
  · exact ⟨X, h, rfl, hg, .refl X⟩
theorem of_syncRs [Str] {B : Base} {R : Type} {r : R} : ∀ (ns : List Nat) {X : Cx} {K : Unit → Objs → Option R}, Good B X → (syncRs ns).run X.O K = some r → ∃ X', K () X'.O = some r ∧ Good B X' ∧ Ext X X' ∧ X'.w = X.w
  | [], X, K, hg, h => ⟨X, h, hg, .refl X, rfl⟩
  | n :: ns, X, K, hg, h => by
    simp only [syncRs] at h
    rw [run_bind] at h
    obtain ⟨X1, h1, w1, g1, e1⟩ := of_syncR hg h
    obtain ⟨X', q1, q2, q3, q4⟩ := of_syncRs ns g1 h1
    exact ⟨X', q1, q2, e1.trans q3, q4.trans w1⟩
theorem of_setP [Str] {B : Base} {X : Cx} (hg : Good B X) {p : SV} {val : Value} (hv : HV X p val) {new : List SV} {ns : List Value} (hns : HLs X new ns) {R : Type} {K : Unit → Objs → Option R} {r : R} (h : (setP p new).run X.O K = some r) :
    ∃ b off X', K () X'.O = some r ∧ val = .pointer (some ⟨b, off, none⟩) ∧ X.w.there b off ns.length ∧ X'.w = X.w.setCells b off ns ∧ Good B X' ∧ Ext X X' := by
  unfold setP at h
  split at h
  · rename_i n g off
    rw [run_bind] at h
    obtain ⟨fr, cs, ho, hfr, h1⟩ := of_boxAt h
    rw [run_bind] at h1
    obtain ⟨cs', h2, h3⟩ := of_must h1
    have hfr := hfr rfl
    subst hfr
    obtain ⟨_, o, e1, _, e2⟩ := hv
    rw [ho] at e1; cases e1
    obtain ⟨b, hb, hval⟩ := e2 rfl
    obtain ⟨b', c, e, k1, k2, k3⟩ := hg.obj n _ ho
    rw [hb] at k1; cases k1
    obtain ⟨f1, f2⟩ := of_putCells k3 hns h2
    have f2' : off + ns.length ≤ c.size := by simpa using f2
    obtain ⟨q1, q2⟩ := hg.store (bd' := .box cs') ho hb k2 f2' trivial (fun c' g1 g2 _ hE => ⟨b, c', e, setB_same _ _ _, g1, by rw [g2]; exact f1.ext hE⟩)
    exact ⟨b, off, ⟨_, _, setB X.β n (some b), X.O.set n ⟨g, false, .box cs'⟩⟩, h3, hval, there_of_heap k2 f2', rfl, q1, q2⟩
  · rename_i n g off i j sz m
    rw [run_bind] at h
    obtain ⟨fr, cs, ho, hfr, h1⟩ := of_boxAt h
    rw [run_bind] at h1
    obtain ⟨x, h2, h3⟩ := of_must h1
    rw [run_bind] at h3
    obtain ⟨el, h4, h5⟩ := of_must h3
    have hfr := hfr rfl
    subst hfr
    obtain ⟨_, o, e1, _, e2⟩ := hv
    rw [ho] at e1; cases e1
    obtain ⟨him, b, hb, hval⟩ := e2 rfl
    obtain ⟨b', c, e, k1, k2, k3⟩ := hg.obj n _ ho
    rw [hb] at k1; cases k1
    unfold arrAt at h2
    split at h2
    · rename_i a0 t m' la c0 ha hc
      cases hbb : Nat.beq sz t.size && Nat.beq m m' with
      | false => rw [hbb] at h2; cases h2
      | true =>
        rw [hbb] at h2
        cases h2
        rw [Bool.and_eq_true] at hbb
        have hsz := Nat.eq_of_beq_eq_true hbb.1
        have hm := Nat.eq_of_beq_eq_true hbb.2
        subst hsz hm
        obtain ⟨c1, d1, q1, q2, q3⟩ := of_dropCells k3 hc
        obtain ⟨c1', d1', q1', q2', q3'⟩ := of_takeCells k3 ha
        have hcc : c1' = c1 := by
          have := q1'.symm.trans q1
          exact (List.append_inj this (by omega)).1
        subst hcc
        simp only [HLs] at q3
        obtain ⟨ca, d2, q4, q5, q8⟩ := q3
        obtain ⟨q6, q7⟩ := q5
        have hlen := Elem.len (fun _ _ h => RC.len (t := t) h) q7
        have hR := Elem.at (fun _ _ h => RC.len (t := t) h) i t.dflt q7 (by omega)
        obtain ⟨f1, f2⟩ := of_putCells (RC.leaves hR) hns h4
        rw [run_bind] at h5
        obtain ⟨y, y1, y2⟩ := of_toDen hg f1 h5
        have y3 := y2 rfl
        have hsplit : ca = ca.take (i * t.size) ++ ((ca.drop (i * t.size)).take t.size ++ ca.drop (i * t.size + t.size)) := by
          rw [← List.drop_drop, List.take_append_drop, List.take_append_drop]
        have hset := Elem.set (fun _ _ h => RC.len (t := t) h) i y _ q7 (by omega) y3
        have htl : (ca.take (i * t.size)).length = i * t.size := by
          rw [List.length_take, hlen]
          have : i * t.size ≤ la.length * t.size := Nat.mul_le_mul_right _ (by omega)
          omega
        have hcl : c.toList = (c1' ++ ca.take (i * t.size)) ++ ((ca.drop (i * t.size)).take t.size ++ (ca.drop (i * t.size + t.size) ++ d2)) := by
          rw [q1', q1'.symm.trans q1 |> fun h => (List.append_inj h rfl).2, q4]
          conv => lhs; rw [hsplit]
          simp [List.append_assoc]
        have hsz2 : off + i * t.size + j + ns.length ≤ c.size := by
          have := congrArg List.length hcl
          simp only [List.length_append, htl, q2] at this
          have e3 : c.toList.length = c.size := by simp
          omega
        have hw := splice (c1' ++ ca.take (i * t.size)) ((ca.drop (i * t.size)).take t.size) (ca.drop (i * t.size + t.size) ++ d2) ns j f2
        rw [← hcl, List.length_append, q2, htl] at hw
        obtain ⟨w1, w2⟩ := hg.store (bd' := .box (a0 ++ (.arr t m (la.set i y) :: c0))) ho hb k2 hsz2 trivial (fun c' g1 g2 _ hE => by
          refine ⟨b, c', e, setB_same _ _ _, g1, ?_⟩
          rw [g2, hw]
          refine HLs.ext hE ?_
          rw [List.append_assoc, ← List.append_assoc (ca.take _), ← List.append_assoc (ca.take _ ++ _)]
          refine q3'.append ?_
          simp only [HLs]
          refine ⟨_, d2, ?_, ⟨by rw [List.length_set]; exact q6, hset⟩, q8⟩
          simp [List.append_assoc])
        exact ⟨b, _, ⟨_, _, setB X.β n (some b), X.O.set n ⟨g, false, .box (a0 ++ (.arr t m (la.set i y) :: c0))⟩⟩, y1, hval, there_of_heap k2 hsz2, rfl, w1, w2⟩
    · cases h2
  · rename_i n g i off
    rw [run_bind, run_get] at h
    split at h
    · rename_i g' t la ho
      rw [run_bind] at h
      obtain ⟨hgg, h1⟩ := of_sure h
      have := Nat.eq_of_beq_eq_true hgg
      subst this
      rw [run_bind] at h1
      obtain ⟨el, h4, h5⟩ := of_must h1
      obtain ⟨_, o, e1, _, e2⟩ := hv
      rw [ho] at e1; cases e1
      obtain ⟨hi, b, hb, hval⟩ := e2 rfl
      have hob := hg.obj n _ ho
      simp only [ObjH, hb] at hob
      obtain ⟨c, e, es, sp, cap, k1, k2, k3, k4, k5⟩ := hob
      have hlen := Elem.len (fun _ _ h => RC.len (t := t) h) k3
      have hR := Elem.at (fun _ _ h => RC.len (t := t) h) i t.dflt k3 hi
      obtain ⟨f1, f2⟩ := of_putCells (RC.leaves hR) hns h4
      rw [run_bind] at h5
      obtain ⟨y, y1, y2⟩ := of_toDen hg f1 h5
      have y3 := y2 rfl
      have hset := Elem.set (fun _ _ h => RC.len (t := t) h) i y _ k3 hi y3
      have htl : (es.take (i * t.size)).length = i * t.size := by
        rw [List.length_take, hlen]
        have : i * t.size ≤ la.length * t.size := Nat.mul_le_mul_right _ (by omega)
        omega
      have hcl : c.toList = es.take (i * t.size) ++ ((es.drop (i * t.size)).take t.size ++ (es.drop (i * t.size + t.size) ++ sp)) := by
        rw [k2]
        have : es = es.take (i * t.size) ++ ((es.drop (i * t.size)).take t.size ++ es.drop (i * t.size + t.size)) := by
          rw [← List.drop_drop, List.take_append_drop, List.take_append_drop]
        conv => lhs; rw [this]
        simp [List.append_assoc]
      have hsz2 : i * t.size + off + ns.length ≤ c.size := by
        have := congrArg List.length hcl
        simp only [List.length_append, htl] at this
        have e3 : c.toList.length = c.size := by simp
        omega
      have hw := splice (es.take (i * t.size)) ((es.drop (i * t.size)).take t.size) (es.drop (i * t.size + t.size) ++ sp) ns off f2
      rw [← hcl, htl] at hw
      obtain ⟨w1, w2⟩ := hg.store (bd' := .row t (la.set i y)) ho hb k1 hsz2 ⟨rfl, by rw [List.length_set]⟩ (fun c' g1 g2 g3 hE => by
        simp only [ObjH, setB_same]
        refine ⟨c', e, _, sp, cap, g1, ?_, hset.imp (fun _ _ h => RC.imp hE.g hE.agree h), by rw [g3]; exact k4, by rw [List.length_set]; exact k5⟩
        rw [g2, hw]
        simp [List.append_assoc])
      exact ⟨b, _, ⟨_, _, setB X.β n (some b), X.O.set n ⟨g, false, .row t (la.set i y)⟩⟩, y1, hval, there_of_heap k1 hsz2, rfl, w1, w2⟩
    · rename_i t0 ll0 hole0 bk0 ho0
      split at h
      · rename_i m gm
        rw [run_bind] at h
        obtain ⟨X1, h1, hw1, hg1, hx1⟩ := of_syncU hg h
        clear h
        replace h := h1
        clear h1
        replace hv := hv.ext hx1
        replace hns := hns.ext hx1
        rw [← hw1]
        suffices hfin : ∃ b off X', K () X'.O = some r ∧ val = .pointer (some ⟨b, off, none⟩) ∧ X1.w.there b off ns.length ∧ X'.w = X1.w.setCells b off ns ∧ Good B X' ∧ Ext X1 X' by
          obtain ⟨b, off, X', q1, q2, q3, q4, q5, q6⟩ := hfin
          exact ⟨b, off, X', q1, q2, q3, q4, q5, hx1.trans q6⟩
        clear ho0
        unfold setR at h
        rw [run_bind, run_get] at h
        split at h
        rotate_left
        · simp [run_fail'] at h
        rename_i g' t ll hole bk ho
        rw [run_bind, run_get] at h
        split at h
        · rename_i gm' u x hom
          rw [run_bind] at h
          obtain ⟨hgg, h1⟩ := of_sure h
          simp only [Bool.and_eq_true] at hgg
          have e1 := Nat.eq_of_beq_eq_true hgg.1
          have e2 := Nat.eq_of_beq_eq_true hgg.2
          subst e1 e2
          rw [run_bind] at h1
          obtain ⟨x', h2, h3⟩ := of_must h1
          obtain ⟨e3, e4⟩ := of_castL h2
          subst e3
          dsimp only at e4
          subst e4
          rw [run_bind] at h3
          obtain ⟨_, o, e1, _, e2⟩ := hv
          rw [ho] at e1; cases e1
          obtain ⟨hi, b, hb, hval⟩ := e2 rfl
          have hh : (hole = none ∨ hole = some i) ∧ (put m ⟨Nat.succ gm, true, .row .unit []⟩ >>= fun _ => put n ⟨g, false, .rows u (ll.set i x') none .undef⟩).run X1.O K = some r := by
            cases hole with
            | none => exact ⟨.inl rfl, h3⟩
            | some k =>
              obtain ⟨q1, q2⟩ := of_need h3
              subst q1
              exact ⟨.inr rfl, q2⟩
          obtain ⟨hh, hk⟩ := hh
          obtain ⟨v, d, e5, _, hv1, e6⟩ := hns.uncons1 (fun _ _ _ e => by cases e)
          simp only [HLs] at e6
          subst e6
          simp only [List.append_nil] at e5
          subst e5
          obtain ⟨X', f1, f2, f3, f4, f5⟩ := hg1.restore ho hom hv1 hb hi hh
          refine ⟨b, i, X', ?_, ?_, f5, f1, f3, f4⟩
          · rw [f2]
            rw [run_bind, run_put, run_put] at hk
            exact hk
          · rw [hval]; simp [Ty.size]
        · simp [run_fail'] at h
      · simp [run_fail'] at h
    · simp [run_fail'] at h
  · cases h
theorem RowsV.elem [Str] {w : World} {G G' : Nat → Prop} {t : Ty} (hG : ∀ b, G b → G' b) : ∀ {ll : List (List t.den)} {vs : List Value}, RowsV w G t none ll vs → (∀ k, some k ∈ partsV none vs → G' k) → Elem (RC w G' (.list t)) ll vs
  | [], vs, h, _ => by simp only [RowsV] at h; exact h
  | _ :: _, [], h, _ => by simp [RowsV] at h
  | l :: ll, v :: vs, h, hp => by
    simp only [RowsV] at h
    refine ⟨[v], vs, rfl, ?_, RowsV.elem hG h.2 (fun k hk => hp k (by simp only [partsV]; exact List.mem_cons_of_mem _ hk))⟩
    have h1 := h.1
    cases hb : partOf v with
    | none =>
      rw [hb] at h1
      obtain ⟨rfl, a, rfl⟩ := h1
      exact ⟨a, 0, rfl, Nat.le_refl _, fun h => absurd rfl h⟩
    | some b =>
      rw [hb] at h1
      obtain ⟨cap, c, e, es, sp, rfl, k1, k2, k3, k4, k5⟩ := h1
      have hr := rangeAt_heap k1
      rw [k2] at hr
      exact ⟨_, cap, rfl, k5, fun _ => ⟨b, 0, es, rfl, hp b (by simp only [partsV, hb]; exact List.mem_cons_self), k3.imp (fun _ _ h => RC.imp hG (fun _ _ => rfl) h), rangeAt_append_left hr⟩⟩
/-- rows of rows become one value -/
theorem Good.freezeR [Str] {B : Base} {X : Cx} (h : Good B X) (n g : Nat) {t : Ty} {ll : List (List t.den)} {bk : SV} (ho : X.O n = some ⟨g, false, .rows t ll none bk⟩) :
    Good B ⟨X.w, fun b => X.G b ∨ X.β n = some b ∨ some b ∈ X.parts n, X.β, X.O.set n ⟨g, true, .row (.list t) ll⟩⟩ ∧ Ext X ⟨X.w, fun b => X.G b ∨ X.β n = some b ∨ some b ∈ X.parts n, X.β, X.O.set n ⟨g, true, .row (.list t) ll⟩⟩ := by
  have hE : Ext X ⟨X.w, fun b => X.G b ∨ X.β n = some b ∨ some b ∈ X.parts n, X.β, X.O.set n ⟨g, true, .row (.list t) ll⟩⟩ := by
    refine ⟨fun _ hb => .inl hb, fun _ _ => rfl, fun m p hm => ?_⟩
    by_cases hmn : m = n
    · subst hmn
      rw [ho] at hm; cases hm
      exact ⟨_, set_same _ _ _, Nat.le_refl _, fun _ => ⟨rfl, ⟨rfl, rfl⟩, fun _ _ _ b c e _ hc => ⟨c, e, hc, rfl⟩⟩⟩
    · exact ⟨p, by simp only [set_ne _ _ hmn]; exact hm, Nat.le_refl _, fun _ => ⟨rfl, like.refl _, fun _ _ _ b c e _ hc => ⟨c, e, hc, rfl⟩⟩⟩
  have hpn : Cx.parts ⟨X.w, fun b => X.G b ∨ X.β n = some b ∨ some b ∈ X.parts n, X.β, X.O.set n ⟨g, true, .row (.list t) ll⟩⟩ n = [] := parts_row (set_same _ _ _)
  have hpe : ∀ m, m ≠ n → Cx.parts ⟨X.w, fun b => X.G b ∨ X.β n = some b ∨ some b ∈ X.parts n, X.β, X.O.set n ⟨g, true, .row (.list t) ll⟩⟩ m = X.parts m := fun m hmn => parts_eq (set_ne _ _ hmn) rfl (fun _ _ _ _ _ => rfl)
  refine ⟨⟨h.os, h.tape, h.output, h.size, h.old, fun b hb => .inl (h.g0 b hb), ?_, ?_, ?_, ?_, ?_, ?_, ?_, ?_⟩, hE⟩
  · rintro b (hb | hb | hb)
    · exact h.glt b hb
    · exact h.lt n _ b ho hb
    · exact (h.part n b hb).2.2.1
  · rintro b (hb | hb | hb)
    · exact h.gfrom b hb
    · exact .inr (h.own n _ b ho rfl hb).2
    · exact .inr (h.part n b hb).2.1
  · intro m p b _ hm hp hbm
    by_cases hmn : m = n
    · subst hmn
      simp only [set_same] at hm
      cases hm
      cases hp
    · simp only [set_ne _ _ hmn] at hm
      refine ⟨?_, (h.own m p b hm hp hbm).2⟩
      rintro (hb | hb | hb)
      · exact (h.own m p b hm hp hbm).1 hb
      · exact hmn (h.inj m n p _ b hm ho hp rfl hbm hb)
      · exact (h.part n b hb).2.2.2.1 m p hm hp hbm
  · intro m k p q b _ _ hm hk hp hq hbm hbk
    by_cases hmn : m = n
    · subst hmn
      simp only [set_same] at hm
      cases hm
      cases hp
    · by_cases hkn : k = n
      · subst hkn
        simp only [set_same] at hk
        cases hk
        cases hq
      · simp only [set_ne _ _ hmn] at hm
        simp only [set_ne _ _ hkn] at hk
        exact h.inj m k p q b hm hk hp hq hbm hbk
  · intro m p b _ hm hp hbm
    by_cases hmn : m = n
    · subst hmn; exact .inr (.inl hbm)
    · simp only [set_ne _ _ hmn] at hm
      exact .inl (h.frz m p b hm hp hbm)
  · intro m p b _ hm hbm
    by_cases hmn : m = n
    · subst hmn; exact h.lt m _ b ho hbm
    · simp only [set_ne _ _ hmn] at hm
      exact h.lt m p b hm hbm
  · intro m p _ hm
    by_cases hmn : m = n
    · subst hmn
      simp only [set_same] at hm
      cases hm
      obtain ⟨_, b, c, e, vs, sp, h1, h2, h3, h4, h5⟩ := h.obj m _ ho
      have hps := parts_rows ho h1 h2 h3 h4.len
      simp only [ObjH, h1]
      refine ⟨c, e, vs, sp, c.size, h2, h3, h4.elem (fun _ h => .inl h) (fun k hk => .inr (.inr (by rw [hps]; exact hk))), by simp [Ty.size], ?_⟩
      have h7 : c.toList.length = vs.length + sp.length := by rw [h3, List.length_append]
      rw [Array.length_toList, h4.len] at h7
      show ll.length ≤ c.size
      omega
    · simp only [set_ne _ _ hmn] at hm
      exact (h.obj m p hm).ext hE hm rfl (fun _ _ => rfl) (fun _ _ => rfl)
  · intro m b _ hm
    by_cases hmn : m = n
    · subst hmn; rw [hpn] at hm; cases hm
    · rw [hpe m hmn] at hm
      obtain ⟨h1, h2, h3, h4, h5⟩ := h.part m b hm
      refine ⟨?_, h2, h3, fun k p _ hk hf => ?_, fun k _ hk => ?_⟩
      · rintro (hb | hb | hb)
        · exact h1 hb
        · exact h4 n _ ho rfl hb
        · exact hmn (h5 n hb).symm
      · by_cases hkn : k = n
        · subst hkn
          simp only [set_same] at hk
          cases hk; cases hf
        · simp only [set_ne _ _ hkn] at hk
          exact h4 k p hk hf
      · by_cases hkn : k = n
        · subst hkn; rw [hpn] at hk; cases hk
        · rw [hpe k hkn] at hk; exact h5 k hk
theorem of_freezeRs [Str] {B : Base} {R : Type} {r : R} : ∀ (ns : List Nat) {X : Cx} {K : Unit → Objs → Option R}, Good B X → (freezeRs ns).run X.O K = some r → ∃ X', K () X'.O = some r ∧ Good B X' ∧ Ext X X' ∧ X'.w = X.w
  | [], X, K, hg, h => ⟨X, h, hg, .refl X, rfl⟩
  | n :: ns, X, K, hg, h => by
    simp only [freezeRs, run_bind, freezeR, run_get] at h
    split at h
    · rename_i g t ll bk ho
      obtain ⟨k1, k2⟩ := hg.freezeR n g ho
      obtain ⟨X', q1, q2, q3, q4⟩ := of_freezeRs ns k1 h
      exact ⟨X', q1, q2, k2.trans q3, q4⟩
    · exact of_freezeRs ns hg h
theorem of_readyRs [Str] {B : Base} {R : Type} {r : R} (all ns : List Nat) {X : Cx} {K : Unit → Objs → Option R} (hg : Good B X) (h : (readyRs all ns).run X.O K = some r) : ∃ X', K () X'.O = some r ∧ Good B X' ∧ Ext X X' ∧ X'.w = X.w := by
  unfold readyRs at h
  rw [run_bind] at h
  obtain ⟨X1, q1, q2, q3, q4⟩ := of_syncRs all hg h
  obtain ⟨X2, p1, p2, p3, p4⟩ := of_freezeRs ns q2 q1
  exact ⟨X2, p1, p2, q3.trans p3, p4.trans q4⟩
theorem of_storeRows [Str] {p v : SV} {O : Objs} {R : Type} {K : List Nat → Objs → Option R} {r : R} (h : (storeRows p v).run O K = some r) : ∃ ns, K ns O = some r := by
  unfold storeRows at h
  split at h
  · rw [run_bind, run_get] at h
    split at h
    · exact ⟨_, h⟩
    · exact ⟨_, h⟩
  · exact ⟨_, h⟩
  · exact ⟨_, h⟩
/-- one of one's own rows is taken out -/
theorem of_takeR [Str] {B : Base} {X : Cx} (hg : Good B X) {n g i : Nat} {val : Value} (hv : HV X (.ptrE n g i 0) val) {t : Ty} {nm : Nat} {g' : Nat} {u : Ty} {ll : List (List u.den)} {bk0 : SV} (ho : X.O n = some ⟨g', false, .rows u ll none bk0⟩) {R : Type} {K : Option SV → Objs → Option R} {r : R}
    (h : (do sure (Nat.beq g g' && tyEq t (.list u)); put n ⟨g, false, .rows u ll (some i) .undef⟩; lay nm (.row u (ll.getD i [])); put n ⟨g, false, .rows u ll (some i) (.row nm 0 .full)⟩; pure (some (SV.row nm 0 .full))).run X.O K = some r) :
    ∃ s X' b off v, K (some s) X'.O = some r ∧ Good B X' ∧ Ext X X' ∧ X'.w = X.w ∧ val = .pointer (some ⟨b, off, none⟩) ∧ X.w.rangeAt b off [v] ∧ HV X' s v ∧ One v ∧ t.size = 1 ∧ t.agg = false := by
  rw [run_bind] at h
  obtain ⟨hgg, h1⟩ := of_sure h
  simp only [Bool.and_eq_true] at hgg
  have e1 := Nat.eq_of_beq_eq_true hgg.1
  have e2 : t = .list u := of_decide_eq_true hgg.2
  subst e1 e2
  rw [run_bind, run_put] at h1
  rw [run_bind] at h1
  obtain ⟨hnm, h2⟩ := of_lay h1
  obtain ⟨_, o, e1, _, e2⟩ := hv
  rw [ho] at e1; cases e1
  obtain ⟨hi, b, hb, hval⟩ := e2 rfl
  obtain ⟨_, b', c, e, vs, sp, k1, k2, k3, k4, k5, _⟩ := hg.obj n _ ho
  rw [hb] at k1; cases k1
  have hps := parts_rows ho hb k2 k3 k4.len
  obtain ⟨q1, v, q2, q3⟩ := RowsV.take hi k4
  have hps2 : partsV (some i) vs = (partsV none vs).set i none := by rw [partsV_some, partsV_none]
  have hpn := parts_rows (X := ⟨X.w, X.G, setB X.β n (some b), X.O.set n ⟨g, false, .rows u ll (some i) .undef⟩⟩) (n := n) (set_same _ _ _) (setB_same _ _ _) k2 k3 k4.len
  have hpe : ∀ m, m ≠ n → Cx.parts ⟨X.w, X.G, setB X.β n (some b), X.O.set n ⟨g, false, .rows u ll (some i) .undef⟩⟩ m = X.parts m := fun m hmn => parts_eq (set_ne _ _ hmn) (setB_ne _ _ hmn) (fun _ _ _ _ _ => rfl)
  obtain ⟨w1, w2⟩ := hg.atR n ⟨g, false, .rows u ll (some i) .undef⟩ (some b) X.w rfl (Td.refl _) rfl (Nat.le_refl _) (fun o h => by rw [ho] at h; cases h; rfl) (fun _ _ _ => rfl) (fun k hk => by cases hk; exact .inl ⟨_, ho, hb⟩)
    (fun o h => by rw [ho] at h; cases h; exact .inr ⟨rfl, hb.symm, ⟨rfl, rfl⟩, fun _ c e _ h => ⟨c, e, h, rfl⟩⟩) rfl
    (fun hE => ⟨rfl, b, c, e, vs, sp, setB_same _ _ _, k2, k3, q1.imp (fun _ h => h) (fun _ _ => rfl) (fun _ _ => rfl), by rw [hps2]; exact nodup_setN k5, fun i' hi' => ⟨by cases hi'; exact hi, fun _ _ => trivial⟩⟩)
    (fun k hk => by
      rw [hpn, hps2] at hk
      have hk' := mem_setN hk
      rw [← hps] at hk'
      obtain ⟨p1, p2, p3, p4, p5⟩ := hg.part n k hk'
      exact ⟨p1, p2, p3, fun h => p4 n _ ho rfl (by rw [hb]; exact h), fun m o _ => p4 m o, fun m hm hp => hm (p5 m hp)⟩)
  have hmem : ∀ k, partOf v = some k → (partsV none vs)[i]? = some (some k) := fun k hk => by rw [partsV_none, List.getElem?_map, q2]; simp [hk]
  have hpk : ∀ k, partOf v = some k → some k ∈ X.parts n := fun k hk => by rw [hps]; exact List.mem_of_getElem? (hmem k hk)
  have hnn : nm ≠ n := fun e => by subst e; rw [set_same] at hnm; cases hnm
  have hov : OwnV X.w X.G u (ll.getD i []) v (partOf v) := q3
  obtain ⟨z1, z2⟩ := w1.adopt nm hnm (partOf v) (.row u (ll.getD i [])) (fun k hk => by
      obtain ⟨p1, p2, p3, p4, _⟩ := hg.part n k (hpk k hk)
      refine ⟨p1, p2, p3, fun m o _ hm hf => ?_⟩
      by_cases hmn : m = n
      · subst hmn
        simp only [setB_same]
        intro h
        exact p4 m _ ho rfl (by rw [hb]; exact h)
      · simp only [set_ne _ _ hmn] at hm
        simp only [setB_ne _ _ hmn]
        exact p4 m o hm hf) (fun k hk m _ hp => by
      by_cases hmn : m = n
      · subst hmn
        rw [hpn, hps2] at hp
        exact not_mem_setN k5 (hmem k hk) hp
      · rw [hpe m hmn] at hp
        exact hmn ((hg.part n k (hpk k hk)).2.2.2.2 m hp)) (fun hE => by
      simp only [ObjH, setB_same]
      cases hpv : partOf v with
      | none => rw [hpv] at hov; exact hov.1
      | some k =>
        rw [hpv] at hov
        obtain ⟨cap, c2, e2, es, sp2, _, s1, s2, s3, s4, s5⟩ := hov
        exact ⟨c2, e2, es, sp2, cap, s1, s2, s3, s4, s5⟩)
  let X2 : Cx := ⟨X.w, X.G, setB (setB X.β n (some b)) nm (partOf v), (X.O.set n ⟨g, false, .rows u ll (some i) .undef⟩).set nm ⟨0, false, .row u (ll.getD i [])⟩⟩
  have hvr : HV X2 (.row nm 0 .full) v := by
    refine ⟨hov.one, _, set_same _ _ _, Nat.le_refl _, fun _ => ?_⟩
    have hnmB : X2.β nm = partOf v := setB_same _ _ _
    simp only [RowH, Body.shape, hnmB, View.of, View.lo]
    cases hpv : partOf v with
    | none =>
      rw [hpv] at hov
      obtain ⟨s1, a, rfl⟩ := hov
      refine ⟨trivial, a, 0, by rw [s1]; rfl, by rw [s1]; exact Nat.le_refl _, s1, rfl⟩
    | some k =>
      rw [hpv] at hov
      obtain ⟨cap, c2, e2, es, sp2, rfl, s1, s2, s3, s4, s5⟩ := hov
      exact ⟨trivial, _, cap, rfl, s5, c2, e2, s1, .inr ⟨by simp, by simpa using s4.symm⟩⟩
  have hO2 : X2.O n = some ⟨g, false, .rows u ll (some i) .undef⟩ := (set_ne _ _ hnn.symm).trans (set_same _ _ _)
  have hB2 : X2.β n = some b := (setB_ne _ _ hnn.symm).trans (setB_same _ _ _)
  have hp2 := parts_rows (X := X2) hO2 hB2 k2 k3 k4.len
  have hp3 := parts_rows (X := ⟨X.w, X.G, setB X2.β n (some b), X2.O.set n ⟨g, false, .rows u ll (some i) (.row nm 0 .full)⟩⟩) (n := n) (set_same _ _ _) (setB_same _ _ _) k2 k3 k4.len
  have z1 : Good B X2 := z1
  have hlen := k4.len
  obtain ⟨y1, y2⟩ := z1.atR n ⟨g, false, .rows u ll (some i) (.row nm 0 .full)⟩ (some b) X.w rfl (Td.refl _) rfl (Nat.le_refl _) (fun o h => by rw [hO2] at h; cases h; rfl) (fun _ _ _ => rfl) (fun k hk => by cases hk; exact .inl ⟨_, hO2, hB2⟩)
    (fun o h => by rw [hO2] at h; cases h; exact .inr ⟨rfl, hB2.symm, ⟨rfl, rfl⟩, fun _ c e _ h => ⟨c, e, h, rfl⟩⟩) rfl
    (fun hE => ⟨rfl, b, c, e, vs, sp, setB_same _ _ _, k2, k3, q1.imp (fun _ h => h) (fun _ _ => rfl) (fun _ _ => rfl), by rw [hps2]; exact nodup_setN k5, fun i' hi' => by
      cases hi'
      refine ⟨hi, fun v' hv' => ?_⟩
      rw [q2] at hv'
      cases hv'
      exact hvr.ext hE⟩)
    (fun k hk => by
      rw [hp3, ← hp2] at hk
      obtain ⟨p1, p2, p3, p4, p5⟩ := z1.part n k hk
      exact ⟨p1, p2, p3, fun h => p4 n _ hO2 rfl (by rw [hB2]; exact h), fun m o _ => p4 m o, fun m hm hp => hm (p5 m hp)⟩)
  rw [run_bind, run_put] at h2
  refine ⟨.row nm 0 .full, ⟨X.w, X.G, setB X2.β n (some b), X2.O.set n ⟨g, false, .rows u ll (some i) (.row nm 0 .full)⟩⟩, b, i, v, h2, y1, (w2.trans z2).trans y2, rfl, by rw [hval]; simp [Ty.size], ?_, hvr.ext y2, hov.one, rfl, rfl⟩
  have hr := rangeAt_heap k2
  intro j v2 hj
  cases j with
  | succ j => simp at hj
  | zero =>
    simp only [List.getElem?_cons_zero, Option.some.injEq] at hj
    subst hj
    have := hr i v (by rw [k3, List.getElem?_append_left (by rw [k4.len]; exact hi)]; exact q2)
    simpa using this
theorem of_takeP [Str] {B : Base} {X : Cx} (hg : Good B X) {p : SV} {val : Value} (hv : HV X p val) {t : Ty} {nm : Nat} {R : Type} {K : Option SV → Objs → Option R} {r : R} (h : (takeP p t nm).run X.O K = some r) :
    K none X.O = some r ∨ ∃ s X' b off v, K (some s) X'.O = some r ∧ Good B X' ∧ Ext X X' ∧ X'.w = X.w ∧ val = .pointer (some ⟨b, off, none⟩) ∧ X.w.rangeAt b off [v] ∧ HV X' s v ∧ One v ∧ t.size = 1 ∧ t.agg = false := by
  unfold takeP at h
  split at h
  · rename_i n g i
    rw [run_bind, run_get] at h
    split at h
    · rw [run_bind] at h
      obtain ⟨Y, hY, hwY, hgY, hxY⟩ := of_syncR hg h
      rw [run_bind, run_get] at hY
      split at hY
      · rename_i g' u ll bk0 ho
        obtain ⟨s, X', b, off, v, q1, q2, q3, q4, q5, q6, q7⟩ := of_takeR hgY (hv.ext hxY) ho hY
        rw [hwY] at q4 q6
        exact .inr ⟨s, X', b, off, v, q1, q2, hxY.trans q3, q4, q5, q6, q7⟩
      · simp [run_fail'] at hY
    · exact .inl h
  · exact .inl h
theorem run_store [Str] {P : Program} {t : TypeId} {ty : Ty} (h : InfoOK P t ty) {w : World} {b off : Nat} {v : Value} (hs : v.cells.size = ty.size) (ht : w.there b off v.cells.toList.length) (h1 : ∀ u ∈ v.cells.toList, One u) :
    (Instr.storeAt t (.pointer (some ⟨b, off, none⟩)) v).run P w = .ok () (w.setCells b off v.cells.toList) := by
  have hst := run_storeCells_cells (P := P) b off v.cells.toList 0 w (by simpa using fun j hj => (ht j (by simpa using hj)).1) (by simpa using fun j hj => (ht j (by simpa using hj)).2) h1
  simp only [Nat.add_zero] at hst
  have hz := h.sizeOf w
  simp [Instr.storeAt, Instr.sureAddr, storeVar, hz, hs, hst]
end Go.Ev
namespace Go.Ev
open Go.RowKit
theorem Good.new [Str] {B : Base} {X : Cx} (hg : Good B X) (n : Nat) (hn : X.O n = none) (bd : Body) (c : Array Value) (e : TypeId)
    (hob : Ext X ⟨X.w.alloc (.cells c e), X.G, setB X.β n (some X.w.heap.size), X.O.set n ⟨0, false, bd⟩⟩ → ObjH ⟨X.w.alloc (.cells c e), X.G, setB X.β n (some X.w.heap.size), X.O.set n ⟨0, false, bd⟩⟩ n ⟨0, false, bd⟩) (hr : bd.isRows = false := by rfl) :
    Good B ⟨X.w.alloc (.cells c e), X.G, setB X.β n (some X.w.heap.size), X.O.set n ⟨0, false, bd⟩⟩ ∧ Ext X ⟨X.w.alloc (.cells c e), X.G, setB X.β n (some X.w.heap.size), X.O.set n ⟨0, false, bd⟩⟩ := by
  refine hg.at n ⟨0, false, bd⟩ (some X.w.heap.size) (X.w.alloc (.cells c e)) rfl (Td.refl X.w) rfl (by simp) (fun o h => by rw [hn] at h; cases h) (fun b hb _ => heap_alloc_old _ _ _ hb) (fun b hb => by cases hb; exact .inr (Nat.le_refl _)) (fun o h => by rw [hn] at h; cases h) rfl hob hr
theorem Good.newBox [Str] {B : Base} {X : Cx} (hg : Good B X) (n : Nat) (hn : X.O n = none) (l : List SV) (c : Array Value) (e : TypeId) (h : HLs X l c.toList) :
    ∃ X' : Cx, X'.w = X.w.alloc (.cells c e) ∧ X'.O = X.O.set n ⟨0, false, .box l⟩ ∧ Good B X' ∧ Ext X X' ∧ HV X' (.ptr n 0 0) (.pointer (some ⟨X.w.heap.size, 0, none⟩)) := by
  obtain ⟨h1, h2⟩ := hg.new n hn (.box l) c e (fun hE => ⟨_, c, e, setB_same _ _ _, heap_alloc_new _ _, h.ext hE⟩)
  exact ⟨_, rfl, rfl, h1, h2, rfl, _, set_same _ _ _, Nat.le_refl _, fun _ => ⟨_, setB_same _ _ _, rfl⟩⟩
theorem Good.newRow [Str] {B : Base} {X : Cx} (hg : Good B X) (n : Nat) (hn : X.O n = none) (t : Ty) (l : List t.den) (c : Array Value) (e : TypeId) (es sp : List Value) (cap : Nat) (hc : c.toList = es ++ sp) (h : Elem (RC X.w X.G t) l es) (hs : c.size = cap * t.size) (hl : l.length ≤ cap) :
    ∃ X' : Cx, X'.w = X.w.alloc (.cells c e) ∧ X'.O = X.O.set n ⟨0, false, .row t l⟩ ∧ Good B X' ∧ Ext X X' ∧ HV X' (.row n 0 .full) (.slice (some ⟨X.w.heap.size, 0, none⟩) l.length cap) := by
  obtain ⟨h1, h2⟩ := hg.new n hn (.row t l) c e (fun hE => by
    simp only [ObjH, setB_same]
    exact ⟨c, e, es, sp, cap, heap_alloc_new _ _, hc, h.imp (fun _ _ h => RC.imp hE.g hE.agree h), hs, hl⟩)
  refine ⟨_, rfl, rfl, h1, h2, rfl, _, set_same _ _ _, Nat.le_refl _, fun _ => ⟨trivial, _, cap, rfl, hl, ?_⟩⟩
  simp only [setB_same]
  exact ⟨c, e, heap_alloc_new _ _, .inr ⟨by simp [View.lo], by simpa [View.lo] using hs.symm⟩⟩
theorem RowsV.nils {w : World} {G : Nat → Prop} {t : Ty} : ∀ m, RowsV w G t none (List.replicate m []) (List.replicate m (.slice none 0 0)) ∧ partsV none (List.replicate m (.slice none 0 0)) = List.replicate m none
  | 0 => ⟨rfl, rfl⟩
  | m + 1 => by
    obtain ⟨h1, h2⟩ := RowsV.nils (w := w) (G := G) (t := t) m
    simp only [List.replicate_succ, RowsV, partsV, h2]
    exact ⟨⟨⟨rfl, none, rfl⟩, h1⟩, rfl⟩
theorem somes_nones : ∀ m, somes (List.replicate m none) = []
  | 0 => rfl
  | m + 1 => by simp [List.replicate_succ, somes, somes_nones m]
theorem Good.newRows [Str] {B : Base} {X : Cx} (hg : Good B X) (n : Nat) (hn : X.O n = none) (t : Ty) (m cap : Nat) (c : Array Value) (e : TypeId) (sp : List Value) (hc : c.toList = List.replicate m (.slice none 0 0) ++ sp) (hs : c.size = cap) (hl : m ≤ cap) :
    ∃ X' : Cx, X'.w = X.w.alloc (.cells c e) ∧ X'.O = X.O.set n ⟨0, false, .rows t (List.replicate m []) none .undef⟩ ∧ Good B X' ∧ Ext X X' ∧ HV X' (.row n 0 .full) (.slice (some ⟨X.w.heap.size, 0, none⟩) m cap) := by
  have hnil := fun w G => RowsV.nils (w := w) (G := G) (t := t) m
  obtain ⟨h1, h2⟩ := hg.atR n ⟨0, false, .rows t (List.replicate m []) none .undef⟩ (some X.w.heap.size) (X.w.alloc (.cells c e)) rfl (Td.refl X.w) rfl (by simp) (fun o h => by rw [hn] at h; cases h) (fun b hb _ => heap_alloc_old _ _ _ hb) (fun b hb => by cases hb; exact .inr (Nat.le_refl _)) (fun o h => by rw [hn] at h; cases h) rfl
    (fun _ => ⟨rfl, X.w.heap.size, c, e, _, sp, setB_same _ _ _, heap_alloc_new _ _, hc, (hnil _ _).1, by rw [(hnil X.w X.G).2, somes_nones]; exact List.nodup_nil, BkH.none⟩)
    (fun b hb => by
      rw [parts_rows (t := t) (ll := List.replicate m []) (hole := none) (set_same _ _ _) (setB_same _ _ _) (heap_alloc_new _ _) hc (by simp), (hnil X.w X.G).2] at hb
      have := List.eq_of_mem_replicate hb
      cases this)
  refine ⟨_, rfl, rfl, h1, h2, rfl, _, set_same _ _ _, Nat.le_refl _, fun _ => ?_⟩
  have hlr : (List.replicate m ([] : List t.den)).length = m := List.length_replicate
  simp only [RowH, Body.shape, setB_same, View.of, View.lo]
  refine ⟨trivial, some ⟨X.w.heap.size, 0, none⟩, cap, ?_, ?_, c, e, heap_alloc_new _ _, .inr ⟨by simp, by simp [Ty.size, hs]⟩⟩
  · exact congrArg (fun k => Value.slice (some ⟨X.w.heap.size, 0, none⟩) k cap) hlr.symm
  · exact Nat.le_trans (Nat.le_of_eq hlr) hl
/-! what an operation must come to -/
section
variable {P : Program}
theorem wp_val {o : Oper} {a : Act} {w w' : World} {v : Value} {next : Act → World → Prop} {Q : Exit → Act → World → Prop} (h : (execOp a.eval o).run P w = .ok (.value v) w') (hn : next (a.put o.dst v) w') : o.wp P a w next Q := by
  unfold Oper.wp; rw [h]; exact hn
theorem wp_skp {o : Oper} {a : Act} {w w' : World} {next : Act → World → Prop} {Q : Exit → Act → World → Prop} (h : (execOp a.eval o).run P w = .ok .skip w') (hn : next (a.put o.dst undef) w') : o.wp P a w next Q := by
  unfold Oper.wp; rw [h]; exact hn
end
theorem HV.cell {X : Cx} : ∀ v : Value, HV X (ofCell v) v := fun v => by
  unfold ofCell
  split <;> first | rfl | trivial
theorem One.cell {v : Value} (h : ofCell v ≠ .undef) : One v := by
  unfold ofCell at h
  split at h <;> first | rfl | exact absurd rfl h
theorem ofCell_arr (v : Value) (t : Ty) (n : Nat) (l : List t.den) : ofCell v ≠ .arr t n l := by
  unfold ofCell
  split <;> simp
theorem HLs.cells [Str] {X : Cx} : ∀ {vs : List Value} {l : List SV}, ofCells vs = some l → HLs X l vs
  | [], l, h => by simp only [ofCells] at h; cases h; exact .nil
  | v :: r, l, h => by
    have hc := HV.cell (X := X) v
    have ho := @One.cell v
    have ha := ofCell_arr v
    simp only [ofCells] at h
    generalize ofCell v = s at *
    cases hr : ofCells r with
    | none => rw [hr] at h; cases s <;> cases h
    | some m =>
      rw [hr] at h
      have ih := HLs.cells (X := X) hr
      cases s <;> cases h <;> exact HLs.cons (ho (by simp)) hc ih
theorem HV.const [Str] {X : Cx} (v : Value) : HV X (ofConst v) v := by
  unfold ofConst
  split
  · rename_i cs
    split
    · rename_i l h; exact ⟨cs, rfl, HLs.cells h⟩
    · trivial
  · exact HV.cell v
theorem HV.eval [Str] {X : Cx} {tm : Nat → SV} {a : Act} (h : ∀ t, HV X (tm t) (a.eval (.tmp t))) (x : Operand) : HV X (evalS tm x) (a.eval x) := by
  cases x with
  | tmp t => exact h t
  | const v => exact HV.const v
  | global g => trivial
  | func f => exact ⟨#[], #[], rfl, rfl, rfl⟩
theorem HVs.evl [Str] {X : Cx} {tm : Nat → SV} {a : Act} (h : ∀ t, HV X (tm t) (a.eval (.tmp t))) : ∀ xs : List Operand, HVs X (evl tm xs) (xs.map a.eval)
  | [] => rfl
  | x :: r => ⟨_, _, rfl, HV.eval h x, HVs.evl h r⟩
/-! parts -/
theorem foldl_splice : ∀ (vs : List Value) (k off : Nat) (c : Array Value), off + k + vs.length ≤ c.size →
    ((vs.zipIdx k).foldl (fun cs (p : Value × Nat) => cs.setIfInBounds (off + p.2) p.1) c).toList = c.toList.take (off + k) ++ (vs ++ c.toList.drop (off + k + vs.length))
  | [], k, off, c, _ => by simp
  | v :: r, k, off, c, h => by
    simp only [List.length_cons] at h
    simp only [List.zipIdx_cons, List.foldl_cons]
    rw [foldl_splice r (k + 1) off (c.setIfInBounds (off + k) v) (by simp; omega), Array.toList_setIfInBounds]
    have hl : off + k < c.toList.length := by simp; omega
    rw [List.take_set, List.drop_set, if_pos (by omega), show off + (k + 1) = off + k + 1 by omega, List.take_add_one, List.getElem?_eq_getElem hl]
    have e1 : (c.toList.take (off + k) ++ (some c.toList[off + k]).toList).set (off + k) v = c.toList.take (off + k) ++ [v] := by
      rw [List.set_append_right _ _ (by simp; omega)]
      have : off + k - (c.toList.take (off + k)).length = 0 := by simp; omega
      rw [this]; rfl
    rw [e1, List.append_assoc]
    simp only [List.length_cons, List.cons_append, List.nil_append]
    rw [show off + k + 1 + r.length = off + k + (r.length + 1) by omega]
theorem fill_step [Str] {place : Nat → Option (Nat × Nat)} {cells : Array Value} {i o s : Nat} {v : Value} {rest : List (Nat × Value)} (hp : place i = some (o, s)) (hs : v.cells.size = s) (ho : o + s ≤ cells.size) :
    ∃ c' : Array Value, c'.toList = cells.toList.take o ++ (v.cells.toList ++ cells.toList.drop (o + v.cells.toList.length)) ∧ c'.size = cells.size ∧ Instr.fill place cells ((i, v) :: rest) = Instr.fill place c' rest := by
  have h := foldl_splice v.cells.toList 0 o cells (by simpa [hs] using ho)
  simp only [Nat.add_zero] at h
  refine ⟨_, h, ?_, ?_⟩
  · have := congrArg List.length h
    simp only [List.length_append, List.length_take, List.length_drop, Array.length_toList] at this
    rw [this]; omega
  · subst hs
    simp only [Instr.fill, hp]
    rw [if_neg (by simp; omega)]
    congr 1
    rw [← Array.foldl_toList]
    simp [Array.toList_zipIdx]
theorem of_fills [Str] {X : Cx} {tm : Nat → SV} {a : Act} (h : ∀ t, HV X (tm t) (a.eval (.tmp t))) {ty : Ty} {place : Nat → Option (Nat × Nat)} (hp : ∀ i o s, fillAt ty i = some (o, s) → place i = some (o, s)) :
    ∀ (parts : List (Nat × Operand)) (l l' : List SV) (cells : Array Value), HLs X l cells.toList → fills ty (evs tm parts) l = some l' →
      ∃ c', Instr.fill place cells (parts.map fun p => (p.1, a.eval p.2)) = some c' ∧ HLs X l' c'.toList ∧ c'.size = cells.size
  | [], l, l', cells, hl, hf => by simp only [evs, fills] at hf; cases hf; exact ⟨cells, rfl, hl, rfl⟩
  | (i, x) :: r, l, l', cells, hl, hf => by
    simp only [evs, fills] at hf
    split at hf
    · rename_i o s hfa
      cases hb : clean (evalS tm x).leaves && Nat.beq (widths (evalS tm x).leaves) s with
      | false => rw [hb] at hf; cases hf
      | true =>
        rw [hb] at hf
        simp only [cond_true] at hf
        rw [Bool.and_eq_true] at hb
        have hw := Nat.eq_of_beq_eq_true hb.2
        split at hf
        · rename_i l2 hput
          have hlv := (HV.eval h x).leaves hb.1
          obtain ⟨f1, f2⟩ := of_putCells hl hlv hput
          have hsz : (a.eval x).cells.size = s := by
            have := hlv.len
            simp only [Array.length_toList] at this
            omega
          obtain ⟨c', g1, g2, g3⟩ := fill_step (cells := cells) (rest := r.map fun p => (p.1, a.eval p.2)) (hp i o s hfa) hsz (by
            simp only [Array.length_toList] at f2; omega)
          rw [← g1] at f1
          obtain ⟨c'', k1, k2, k3⟩ := of_fills h hp r l2 l' c' f1 hf
          exact ⟨c'', by rw [List.map_cons, g3]; exact k1, k2, k3.trans g2⟩
        · cases hf
    · cases hf
end Go.Ev
namespace Go.Ev
open Go.RowKit
def TabOK (P : Program) (E : Env) : Prop := ∀ t ty, E.T t = some ty → TyOK P (E.arrs t) t ty
theorem InfoOK.get {P : Program} {t : TypeId} {ty : Ty} (h : InfoOK P t ty) : ∃ i, P.info? t = some i ∧ i.size = ty.size ∧ i.zero = some (cellsV ty.agg (zeros ty)) ∧ i.bytes ≤ 16383 := by
  have h1 := h.info
  have h2 := h.bytes
  cases hi : P.info? t with
  | none => rw [hi] at h1; cases h1
  | some i =>
    rw [hi] at h1 h2
    simp only [Option.map_some, Option.some.injEq, Prod.mk.injEq] at h1 h2
    exact ⟨i, rfl, h1.1, h1.2, Nat.le_of_ble_eq_true h2⟩
theorem fields_at {P : Program} : ∀ {fs : List Field} {ty : Ty} {b : Nat}, FieldsOK P fs ty b → ∀ {i o : Nat} {u : Ty}, ty.field i = some (o, u) → ∃ f, fs[i]? = some f ∧ f.offset = b + o ∧ InfoOK P f.type u
  | [], .unit, _, _, i, o, u, h => by cases i <;> simp [Ty.field] at h
  | f :: fs, .pair x y, b, ⟨h1, h2, h3⟩, 0, o, u, h => by
    simp only [Ty.field, Option.some.injEq, Prod.mk.injEq] at h
    obtain ⟨rfl, rfl⟩ := h
    exact ⟨f, rfl, by simpa using h1, h2⟩
  | f :: fs, .pair x y, b, ⟨h1, h2, h3⟩, i + 1, o, u, h => by
    simp only [Ty.field] at h
    split at h
    · rename_i o' t ht
      cases h
      obtain ⟨f', e1, e2, e3⟩ := fields_at h3 ht
      exact ⟨f', e1, by omega, e3⟩
    · cases h
  | [], .int _, _, h, _, _, _, _ => h.elim
  | [], .bool, _, h, _, _, _, _ => h.elim
  | [], .str, _, h, _, _, _, _ => h.elim
  | [], .list _, _, h, _, _, _, _ => h.elim
  | [], .pair _ _, _, h, _, _, _, _ => h.elim
  | [], .arr _ _, _, h, _, _, _, _ => h.elim
  | _ :: _, .unit, _, h, _, _, _, _ => h.elim
  | _ :: _, .int _, _, h, _, _, _, _ => h.elim
  | _ :: _, .bool, _, h, _, _, _, _ => h.elim
  | _ :: _, .str, _, h, _, _, _, _ => h.elim
  | _ :: _, .list _, _, h, _, _, _, _ => h.elim
  | _ :: _, .arr _ _, _, h, _, _, _, _ => h.elim
theorem short_at {e : Ty} : ∀ {n : Nat} {ty : Ty}, ShortOK e n ty → ∀ {i o : Nat} {u : Ty}, ty.field i = some (o, u) → u = e ∧ o = i * e.size ∧ i < n
  | 0, .unit, _, i, o, u, h => by cases i <;> simp [Ty.field] at h
  | n + 1, .pair x y, ⟨h1, h2⟩, 0, o, u, h => by
    simp only [Ty.field, Option.some.injEq, Prod.mk.injEq] at h
    obtain ⟨rfl, rfl⟩ := h
    exact ⟨h1, by simp, by omega⟩
  | n + 1, .pair x y, ⟨h1, h2⟩, i + 1, o, u, h => by
    simp only [Ty.field] at h
    split at h
    · rename_i o' t ht
      cases h
      obtain ⟨e1, e2, e3⟩ := short_at h2 ht
      exact ⟨e1, by rw [e2, h1, Nat.succ_mul]; omega, by omega⟩
    · cases h
  | 0, .int _, h, _, _, _, _ => h.elim
  | 0, .bool, h, _, _, _, _ => h.elim
  | 0, .str, h, _, _, _, _ => h.elim
  | 0, .list _, h, _, _, _, _ => h.elim
  | 0, .pair _ _, h, _, _, _, _ => h.elim
  | 0, .arr _ _, h, _, _, _, _ => h.elim
  | _ + 1, .unit, h, _, _, _, _ => h.elim
  | _ + 1, .int _, h, _, _, _, _ => h.elim
  | _ + 1, .bool, h, _, _, _, _ => h.elim
  | _ + 1, .str, h, _, _, _, _ => h.elim
  | _ + 1, .list _, h, _, _, _, _ => h.elim
  | _ + 1, .arr _ _, h, _, _, _, _ => h.elim
theorem places_ok [Str] {P : Program} : ∀ {fs : List Field} {ty : Ty} {b : Nat}, FieldsOK P fs ty b →
    ∃ pl, fs.mapM (fun f => (P.info? f.type).map fun i => (f.offset, i.size)) = some pl ∧ ∀ i o u, ty.field i = some (o, u) → pl[i]? = some (b + o, u.size)
  | [], .unit, _, _ => ⟨[], rfl, fun i o u h => by cases i <;> simp [Ty.field] at h⟩
  | f :: fs, .pair x y, b, ⟨h1, h2, h3⟩ => by
    obtain ⟨pl, e1, e2⟩ := places_ok h3
    obtain ⟨i0, k1, k2, _⟩ := h2.get
    refine ⟨(f.offset, i0.size) :: pl, by simp [List.mapM_cons, k1, e1], fun i o u h => ?_⟩
    cases i with
    | zero =>
      simp only [Ty.field, Option.some.injEq, Prod.mk.injEq] at h
      obtain ⟨rfl, rfl⟩ := h
      simp [h1, k2]
    | succ i =>
      simp only [Ty.field] at h
      split at h
      · rename_i o' t ht
        cases h
        have := e2 _ _ _ ht
        simp only [List.getElem?_cons_succ, this]
        simp; omega
      · cases h
  | [], .int _, _, h => h.elim
  | [], .bool, _, h => h.elim
  | [], .str, _, h => h.elim
  | [], .list _, _, h => h.elim
  | [], .pair _ _, _, h => h.elim
  | [], .arr _ _, _, h => h.elim
  | _ :: _, .unit, _, h => h.elim
  | _ :: _, .int _, _, h => h.elim
  | _ :: _, .bool, _, h => h.elim
  | _ :: _, .str, _, h => h.elim
  | _ :: _, .list _, _, h => h.elim
  | _ :: _, .arr _ _, _, h => h.elim
/-- how a type's parts lie -/
theorem TyOK.parts [Str] {P : Program} {t : TypeId} {ty : Ty} {arr : Bool} (h : TyOK P arr t ty) {i o : Nat} {u : Ty} (hf : ty.field i = some (o, u)) :
    (arr = false → ∃ fs f, P.underlying t = some (.struct fs) ∧ fs[i]? = some f ∧ f.offset = o ∧ InfoOK P f.type u) ∧
    (arr = true → ∃ n te, P.underlying t = some (.array n te) ∧ InfoOK P te u ∧ i < n ∧ o = i * u.size) := by
  obtain ⟨_, h⟩ := h
  cases ty with
  | pair x y =>
    cases arr with
    | false =>
      obtain ⟨fs, h1, h2, _⟩ := h
      obtain ⟨f, e1, e2, e3⟩ := fields_at h2 hf
      exact ⟨fun _ => ⟨fs, f, h1, by simpa using e1, by simpa using e2, e3⟩, fun h => by cases h⟩
    | true =>
      obtain ⟨n, te, e, h1, h2, h3, _⟩ := h
      obtain ⟨rfl, e2, e3⟩ := short_at h3 hf
      exact ⟨(fun h => by cases h), fun _ => ⟨n, te, h1, h2, e3, e2⟩⟩
  | unit => cases i <;> simp [Ty.field] at hf
  | _ => simp [Ty.field] at hf
theorem TyOK.built [Str] {P : Program} {t : TypeId} {ty : Ty} {arr : Bool} (h : TyOK P arr t ty) (ha : ty.agg = true) (parts : List (Nat × Value)) (c : Array Value)
    (hb : ∀ place : Nat → Option (Nat × Nat), (∀ i o s, fillAt ty i = some (o, s) → place i = some (o, s)) → Instr.fill place (zeros ty).toArray parts = some c) : P.built t parts = some c := by
  obtain ⟨hi, h⟩ := h
  obtain ⟨i0, k1, k2, k3, _⟩ := hi.get
  rw [ha] at k3
  unfold Program.built
  rw [k1]
  have harr : ∀ n te e, P.underlying t = some (.array n te) → InfoOK P te e → (∀ i o s, fillAt ty i = some (o, s) → some (i * e.size, e.size) = some (o, s)) →
      (match (some i0 : Option TypeInfo), P.underlying t with
      | some it, some (.array _ e) => (match it.zero, P.info? e with
        | some z, some ie => Instr.fill (fun i => some (i * ie.size, ie.size)) z.cells parts
        | _, _ => none)
      | some it, some (.struct fields) => (match it.zero, fields.toList.mapM (fun f => (P.info? f.type).map fun i => (f.offset, i.size)) with
        | some z, some places => Instr.fill (places.toArray[·]?) z.cells parts
        | _, _ => none)
      | _, _ => none) = some c := fun n te e h1 h2 h3 => by
    obtain ⟨j, j1, j2, _⟩ := h2.get
    rw [h1]
    simp only [k3, j1, j2]
    exact hb _ h3
  have hst : ∀ fs, P.underlying t = some (.struct fs) → FieldsOK P fs.toList ty 0 → (∀ i, fillAt ty i = (match ty.field i with | some (o, u) => some (o, u.size) | none => none)) →
      (match (some i0 : Option TypeInfo), P.underlying t with
      | some it, some (.array _ e) => (match it.zero, P.info? e with
        | some z, some ie => Instr.fill (fun i => some (i * ie.size, ie.size)) z.cells parts
        | _, _ => none)
      | some it, some (.struct fields) => (match it.zero, fields.toList.mapM (fun f => (P.info? f.type).map fun i => (f.offset, i.size)) with
        | some z, some places => Instr.fill (places.toArray[·]?) z.cells parts
        | _, _ => none)
      | _, _ => none) = some c := fun fs h1 h2 h3 => by
    obtain ⟨pl, e1, e2⟩ := places_ok h2
    rw [h1]
    simp only [k3, e1]
    refine hb _ fun i o s hf => ?_
    rw [h3] at hf
    split at hf
    · rename_i o' u hu
      cases hf
      have := e2 _ _ _ hu
      simpa using this
    · cases hf
  have hshort : ∀ n te e, P.underlying t = some (.array n te) → InfoOK P te e → ShortOK e n ty → (∀ i, fillAt ty i = (match ty.field i with | some (o, u) => some (o, u.size) | none => none)) → (∀ i o s, fillAt ty i = some (o, s) → some (i * e.size, e.size) = some (o, s)) := fun n te e _ _ h3 h4 i o s hf => by
    rw [h4] at hf
    split at hf
    · rename_i o' u hu
      cases hf
      obtain ⟨rfl, e2, _⟩ := short_at h3 hu
      rw [e2]
    · cases hf
  cases ty with
  | pair x y =>
    cases arr with
    | false => obtain ⟨fs, h1, h2, _⟩ := h; exact hst fs h1 h2 (fun _ => rfl)
    | true => obtain ⟨n, te, e, h1, h2, h3⟩ := h; exact harr n te e h1 h2 (hshort n te e h1 h2 h3.1 (fun _ => rfl))
  | unit =>
    cases arr with
    | false => obtain ⟨fs, h1, h2, _⟩ := h; exact hst fs h1 h2 (fun _ => rfl)
    | true => obtain ⟨n, te, e, h1, h2, h3⟩ := h; exact harr n te e h1 h2 (hshort n te e h1 h2 h3.1 (fun _ => rfl))
  | arr n e =>
    obtain ⟨te, h1, h2⟩ := h
    refine harr n te e h1 h2 fun i o s hf => ?_
    simp only [fillAt] at hf
    cases hb : Nat.blt i n with
    | false => rw [hb] at hf; cases hf
    | true => rw [hb] at hf; exact hf
  | _ => simp [Ty.agg] at ha
theorem fillAt_agg {ty : Ty} {i o s : Nat} (h : fillAt ty i = some (o, s)) : ty.agg = true := by
  cases ty <;> first | rfl | (cases i <;> simp [fillAt, Ty.field] at h)
end Go.Ev
namespace Go.Ev
open Go.RowKit
section
variable {P : Program} {E : Env} {B : Base} {X : Cx} {tm : Nat → SV} {a : Act} {o : Oper} {nm : Nat} {R : Type} {K : SV → Objs → Option R} {r : R} {next : Act → World → Prop} {Q : Exit → Act → World → Prop}
/-- what follows an operation -/
def Then [Str] (B : Base) (X : Cx) (a : Act) (dst : Option Nat) (K : SV → Objs → Option R) (r : R) (next : Act → World → Prop) : Prop :=
  ∀ v (X' : Cx) val, K v X'.O = some r → Good B X' → Ext X X' → HV X' v val → next (a.put dst val) X'.w
theorem Then.now [Str] (h : Then B X a o.dst K r next) (hg : Good B X) {v : SV} {val : Value} (hk : K v X.O = some r) (hv : HV X v val) (hrun : (execOp a.eval o).run P X.w = .ok (.value val) X.w) : o.wp P a X.w next Q :=
  wp_val hrun (h v X val hk hg (.refl X) hv)
theorem op_alloc [Str] (hT : TabOK P E) (hg : Good B X) (hn : Then B X a o.dst K r next) {e : TypeId} (ho : o.op = .alloc e)
    (h : (do let t ← must (E.T e); lay nm (.box (zleaves t)); pure (.ptr nm 0 0) : Prog SV).run X.O K = some r) : o.wp P a X.w next Q := by
  rw [run_bind] at h
  obtain ⟨t, h1, h2⟩ := of_must h
  rw [run_bind] at h2
  obtain ⟨h3, h4⟩ := of_lay h2
  obtain ⟨hi, _⟩ := hT _ _ h1
  obtain ⟨X', e1, e2, e3, e4, e5⟩ := hg.newBox nm h3 (zleaves t) (zeros t).toArray e (by simpa using HLs.zeros t)
  have hr : (execOp a.eval o).run P X.w = .ok (.value (.pointer (some ⟨X.w.heap.size, 0, none⟩))) X'.w := by
    rw [e1]
    have hz := hi.zero X.w
    simp [execOp, ho, Instr.alloc, hz, newVar, newRow, zeros_cells]
  exact wp_val hr (hn _ X' _ (by rw [e2]; exact h4) e3 e4 e5)
theorem op_allocF [Str] (hg : Good B X) (hn : Then B X a o.dst K r next) {e : TypeId} (ho : o.op = .alloc e) (hF : E.fns e = true → FnTyOK P e)
    (h : (do sure (E.fns e); lay nm (.box [.undef]); pure (.ptr nm 0 0) : Prog SV).run X.O K = some r) : o.wp P a X.w next Q := by
  rw [run_bind] at h
  obtain ⟨h1, h2⟩ := of_sure h
  have hi := hF h1
  rw [run_bind] at h2
  obtain ⟨h3, h4⟩ := of_lay h2
  obtain ⟨X', e1, e2, e3, e4, e5⟩ := hg.newBox nm h3 [.undef] #[.nilFunc] e ⟨_, _, rfl, rfl, trivial, rfl⟩
  have hr : (execOp a.eval o).run P X.w = .ok (.value (.pointer (some ⟨X.w.heap.size, 0, none⟩))) X'.w := by
    rw [e1]
    have hz := hi.zero X.w
    simp [execOp, ho, Instr.alloc, hz, newVar, newRow, Value.cells]
  exact wp_val hr (hn _ X' _ (by rw [e2]; exact h4) e3 e4 e5)
theorem op_box [Str] (hg : Good B X) (htm : ∀ t, HV X (tm t) (a.eval (.tmp t))) (hn : Then B X a o.dst K r next) {e : TypeId} {x : Operand} (ho : o.op = .box e x)
    (h : (do sure (clean (evalS tm x).leaves); lay nm (.box (evalS tm x).leaves); pure (.ptr nm 0 0) : Prog SV).run X.O K = some r) : o.wp P a X.w next Q := by
  rw [run_bind] at h
  obtain ⟨h1, h2⟩ := of_sure h
  rw [run_bind] at h2
  obtain ⟨h3, h4⟩ := of_lay h2
  obtain ⟨X', e1, e2, e3, e4, e5⟩ := hg.newBox nm h3 _ (a.eval x).cells e ((HV.eval htm x).leaves h1)
  have hr : (execOp a.eval o).run P X.w = .ok (.value (.pointer (some ⟨X.w.heap.size, 0, none⟩))) X'.w := by
    rw [e1]
    simp [execOp, ho, Instr.box, newVar, newRow]
  exact wp_val hr (hn _ X' _ (by rw [e2]; exact h4) e3 e4 e5)
theorem fill_det : ∀ (p q : Nat → Option (Nat × Nat)) (parts : List (Nat × Value)) (c d e : Array Value), (∀ i o s, p i = some (o, s) → q i = some (o, s)) → Instr.fill p c parts = some d → Instr.fill q c parts = some e → some e = some d
  | p, q, [], c, d, e, _, h1, h2 => by simp only [Instr.fill] at h1 h2; rw [← h1, ← h2]
  | p, q, (i, v) :: r, c, d, e, hp, h1, h2 => by
    simp only [Instr.fill] at h1 h2
    cases hpi : p i with
    | none => rw [hpi] at h1; cases h1
    | some os =>
      obtain ⟨o, s⟩ := os
      rw [hpi] at h1
      rw [hp i o s hpi] at h2
      simp only at h1 h2
      split at h1
      · cases h1
      · rename_i hc
        rw [if_neg hc] at h2
        exact fill_det p q r _ d e hp h1 h2
theorem op_build [Str] (hT : TabOK P E) (hg : Good B X) (htm : ∀ t, HV X (tm t) (a.eval (.tmp t))) (hn : Then B X a o.dst K r next) {t : TypeId} {parts : Array (Nat × Operand)} (ho : o.op = .build t parts)
    (h : (do let t ← must (E.T t); sure t.agg; let l ← must (fills t (evs tm parts.toList) (zleaves t)); pure (mk t l) : Prog SV).run X.O K = some r) : o.wp P a X.w next Q := by
  rw [run_bind] at h
  obtain ⟨ty, h1, h2⟩ := of_must h
  rw [run_bind] at h2
  obtain ⟨ha, h2⟩ := of_sure h2
  rw [run_bind] at h2
  obtain ⟨l, h3, h4⟩ := of_must h2
  have hty := hT _ _ h1
  have h0 : HLs X (zleaves ty) (zeros ty).toArray.toList := by simpa using HLs.zeros ty
  have hc : ∃ c, P.built t (parts.toList.map fun p => (p.1, a.eval p.2)) = some c ∧ HLs X l c.toList := by
    obtain ⟨c, q1, q2, _⟩ := of_fills htm (place := fillAt ty) (fun _ _ _ h => h) parts.toList _ l (zeros ty).toArray h0 h3
    refine ⟨c, hty.built ha _ c fun place hp => ?_, q2⟩
    obtain ⟨c', k1, _, _⟩ := of_fills htm hp parts.toList _ l (zeros ty).toArray h0 h3
    rw [k1]
    exact fill_det _ _ _ _ _ _ hp q1 k1
  obtain ⟨c, hb, hl⟩ := hc
  have hr : (execOp a.eval o).run P X.w = .ok (.value (.agg c)) X.w := by
    have := run_build X.w t (parts.map fun (i, x) => (i, a.eval x)) c (by rw [← hb]; congr 1; simp)
    simp [execOp, ho, this]
  exact hn.now hg h4 (by unfold Ev.mk ofLeaves; rw [ha]; exact ⟨c, rfl, hl⟩) hr
theorem op_load [Str] (hT : TabOK P E) (hg : Good B X) (htm : ∀ t, HV X (tm t) (a.eval (.tmp t))) (hn : Then B X a o.dst K r next) {t : TypeId} {x : Operand} (ho : o.op = .load t x)
    (h : (do
      let t ← must (E.T t)
      match ← takeP (evalS tm x) t nm with
      | some v => pure v
      | none => do
        let l ← seeP (evalS tm x) t.size
        pure (mk t l) : Prog SV).run X.O K = some r) : o.wp P a X.w next Q := by
  rw [run_bind] at h
  obtain ⟨ty, h1, h2⟩ := of_must h
  rw [run_bind] at h2
  rcases of_takeP hg (HV.eval htm x) h2 with h2 | ⟨s, X', b, off, v, k1, k2, k3, k4, k5, k6, k7, k8, k9, k10⟩
  rotate_left
  · have hr : (execOp a.eval o).run P X.w = .ok (.value v) X'.w := by
      have := run_load (hT _ _ h1).1 k6 (by rw [k9]; rfl)
      rw [k4]
      simp [execOp, ho, k5, this, k10, cellsV]
    exact wp_val hr (hn _ X' _ k1 k2 k3 k7)
  simp only at h2
  rw [run_bind] at h2
  obtain ⟨l, cs, b, off, h3, h4, h5, h6, h7⟩ := of_seeP hg (HV.eval htm x) h2
  have hr : (execOp a.eval o).run P X.w = .ok (.value (cellsV ty.agg cs)) X.w := by
    have := run_load (hT _ _ h1).1 h5 h6
    simp [execOp, ho, h4, this]
  exact hn.now hg h3 (HV.mk h7 h6) hr
theorem op_store [Str] (hT : TabOK P E) (hg : Good B X) (htm : ∀ t, HV X (tm t) (a.eval (.tmp t))) (hn : Then B X a o.dst K r next) {t : TypeId} {x y : Operand} (ho : o.op = .store t x y)
    (h : (do let t ← must (E.T t); sure (clean (evalS tm y).leaves && Nat.beq (widths (evalS tm y).leaves) t.size); setP (evalS tm x) (evalS tm y).leaves; pure .undef : Prog SV).run X.O K = some r) : o.wp P a X.w next Q := by
  rw [run_bind] at h
  obtain ⟨ty, h1, h2⟩ := of_must h
  rw [run_bind] at h2
  obtain ⟨hc, h2⟩ := of_sure h2
  rw [Bool.and_eq_true] at hc
  rw [run_bind] at h2
  have hl := (HV.eval htm y).leaves hc.1
  obtain ⟨b, off, X', h3, h4, h5, h6, h7, h8⟩ := of_setP hg (HV.eval htm x) hl h2
  have hs := hl.len
  rw [Nat.eq_of_beq_eq_true hc.2, Array.length_toList] at hs
  have hr : (execOp a.eval o).run P X.w = .ok .skip X'.w := by
    rw [h6]
    have := run_store (hT _ _ h1).1 hs h5 hl.one
    simp [execOp, ho, h4, this]
  exact wp_skp hr (hn _ X' undef h3 h7 h8 trivial)
theorem op_loadF [Str] (hg : Good B X) (htm : ∀ t, HV X (tm t) (a.eval (.tmp t))) (hn : Then B X a o.dst K r next) {t : TypeId} {x : Operand} (ho : o.op = .load t x) (hF : E.fns t = true → FnTyOK P t)
    (h : (do sure (E.fns t); let l ← seeP (evalS tm x) 1; pure (ofLeaves false l) : Prog SV).run X.O K = some r) : o.wp P a X.w next Q := by
  rw [run_bind] at h
  obtain ⟨h1, h2⟩ := of_sure h
  have hi := (hF h1).isAgg X.w
  rw [run_bind] at h2
  obtain ⟨l, cs, b, off, h3, h4, h5, h6, h7⟩ := of_seeP hg (HV.eval htm x) h2
  match cs, h6, h5, h7 with
  | [v], _, h5, h7 =>
    have hc := h5 0 v rfl
    rw [Nat.add_zero] at hc
    have hr : (execOp a.eval o).run P X.w = .ok (.value v) X.w := by
      simp [execOp, ho, h4, Instr.loadAt, Instr.sureAddr, loadVar, hi, hc]
    have hv : HV X (ofLeaves false l) v := by
      have := HV.mk (ty := .bool) (l := l) h7 rfl
      exact this
    exact hn.now hg h3 hv hr
theorem op_storeF [Str] (hg : Good B X) (htm : ∀ t, HV X (tm t) (a.eval (.tmp t))) (hn : Then B X a o.dst K r next) {t : TypeId} {x y : Operand} (ho : o.op = .store t x y) (hF : E.fns t = true → FnTyOK P t)
    (h : (do sure (E.fns t && (clean (evalS tm y).leaves && Nat.beq (widths (evalS tm y).leaves) 1)); setP (evalS tm x) (evalS tm y).leaves; pure .undef : Prog SV).run X.O K = some r) : o.wp P a X.w next Q := by
  rw [run_bind] at h
  obtain ⟨hc, h2⟩ := of_sure h
  rw [Bool.and_eq_true, Bool.and_eq_true] at hc
  rw [run_bind] at h2
  have hl := (HV.eval htm y).leaves hc.2.1
  obtain ⟨b, off, X', h3, h4, h5, h6, h7, h8⟩ := of_setP hg (HV.eval htm x) hl h2
  have hs := hl.len
  rw [Nat.eq_of_beq_eq_true hc.2.2, Array.length_toList] at hs
  have hr : (execOp a.eval o).run P X.w = .ok .skip X'.w := by
    rw [h6]
    have hst := run_storeCells_cells (P := P) b off (a.eval y).cells.toList 0 X.w (by simpa using fun j hj => (h5 j (by simpa using hj)).1) (by simpa using fun j hj => (h5 j (by simpa using hj)).2) hl.one
    simp only [Nat.add_zero] at hst
    have hz := (hF hc.1).sizeOf X.w
    have : (Instr.storeAt t (.pointer (some ⟨b, off, none⟩)) (a.eval y)).run P X.w = .ok () (X.w.setCells b off (a.eval y).cells.toList) := by
      simp [Instr.storeAt, Instr.sureAddr, storeVar, hz, hs, hst]
    simp [execOp, ho, h4, this]
  exact wp_skp hr (hn _ X' undef h3 h7 h8 trivial)
/-! pointers -/
theorem of_alive [Str] (hg : Good B X) {p : SV} {val : Value} (hv : HV X p val) {K : Unit → Objs → Option R} (h : (aliveP p).run X.O K = some r) : K () X.O = some r ∧ ∃ b off, val = .pointer (some ⟨b, off, none⟩) := by
  unfold aliveP at h
  split at h
  · rw [run_bind] at h
    obtain ⟨fr, cs, ho, _, h1⟩ := of_boxAt h
    obtain ⟨_, o, e1, _, e2⟩ := hv
    rw [ho] at e1; cases e1
    obtain ⟨b, hb, hval⟩ := e2 rfl
    exact ⟨h1, b, _, hval⟩
  · rw [run_bind] at h
    obtain ⟨fr, cs, ho, _, h1⟩ := of_boxAt h
    obtain ⟨_, o, e1, _, e2⟩ := hv
    rw [ho] at e1; cases e1
    obtain ⟨_, b, hb, hval⟩ := e2 rfl
    exact ⟨h1, b, _, hval⟩
  · rw [run_bind] at h
    obtain ⟨o', t, l, ho, hgen, hsh, h1⟩ := of_rowAny h
    obtain ⟨_, o, e1, _, e2⟩ := hv
    rw [ho] at e1; cases e1
    have e2 := e2 hgen.symm
    simp only [hsh] at e2
    obtain ⟨_, b, hb, hval⟩ := e2
    exact ⟨h1, b, _, hval⟩
  · obtain ⟨_, b, o, es, hval, _⟩ := hv
    exact ⟨h, b, _, hval⟩
  · cases h
theorem of_moveP {p q : SV} {d b off : Nat} (hv : HV X p (.pointer (some ⟨b, off, none⟩))) (h : moveP p d = some q) : HV X q (.pointer (some ⟨b, off + d, none⟩)) := by
  unfold moveP at h
  split at h
  · cases h
    obtain ⟨_, o, e1, e3, e2⟩ := hv
    refine ⟨rfl, o, e1, e3, fun e => ?_⟩
    obtain ⟨b', hb, hval⟩ := e2 e
    cases hval
    exact ⟨_, hb, rfl⟩
  · cases h
    obtain ⟨_, o, e1, e3, e2⟩ := hv
    refine ⟨rfl, o, e1, e3, fun e => ?_⟩
    obtain ⟨hi, b', hb, hval⟩ := e2 e
    cases hval
    exact ⟨hi, _, hb, by rw [Nat.add_assoc]⟩
  · cases h
    obtain ⟨_, o, e1, e3, e2⟩ := hv
    refine ⟨rfl, o, e1, e3, fun e => ?_⟩
    have e2 := e2 e
    dsimp only at e2 ⊢
    cases hsh : o.body.shape with
    | none => rw [hsh] at e2; exact e2.elim
    | some p =>
      obtain ⟨t, l⟩ := p
      rw [hsh] at e2
      obtain ⟨hi, b', hb, hval⟩ := e2
      cases hval
      exact ⟨hi, _, hb, by rw [Nat.add_assoc]⟩
  · cases h
    obtain ⟨hi, b', o, es, hval, h1, h2, h3⟩ := hv
    cases hval
    exact ⟨hi, _, o, es, by rw [Nat.add_assoc], h1, h2, h3⟩
  · cases h
theorem op_nilCheck [Str] (hg : Good B X) (htm : ∀ t, HV X (tm t) (a.eval (.tmp t))) (hn : Then B X a o.dst K r next) {x : Operand} (ho : o.op = .nilCheck x)
    (h : (do aliveP (evalS tm x); pure (evalS tm x) : Prog SV).run X.O K = some r) : o.wp P a X.w next Q := by
  rw [run_bind] at h
  obtain ⟨h1, b, off, h2⟩ := of_alive hg (HV.eval htm x) h
  exact hn.now hg h1 (HV.eval htm x) (by simp [execOp, ho, h2])
theorem op_fieldAddr [Str] (hT : TabOK P E) (hg : Good B X) (htm : ∀ t, HV X (tm t) (a.eval (.tmp t))) (hn : Then B X a o.dst K r next) {s : TypeId} {x : Operand} {f : Nat} (ho : o.op = .fieldAddr s x f)
    (h : (do
      let t ← must (E.T s)
      let d ← must (t.field f)
      sure (Nat.blt 0 d.2.size && !E.arrs s)
      aliveP (evalS tm x)
      must (moveP (evalS tm x) d.1) : Prog SV).run X.O K = some r) : o.wp P a X.w next Q := by
  rw [run_bind] at h
  obtain ⟨ty, h1, h2⟩ := of_must h
  rw [run_bind] at h2
  obtain ⟨⟨d, u⟩, h3, h4⟩ := of_must h2
  rw [run_bind] at h4
  obtain ⟨h5, h6⟩ := of_sure h4
  rw [run_bind] at h6
  obtain ⟨h7, b, off, h8⟩ := of_alive hg (HV.eval htm x) h6
  obtain ⟨q, h9, h10⟩ := of_must h7
  have hv := HV.eval htm x
  rw [h8] at hv
  have hq := of_moveP hv h9
  rw [Bool.and_eq_true] at h5
  have harr : E.arrs s = false := by simpa using h5.2
  obtain ⟨fs, fl, k1, k2, k3, k4⟩ := ((hT _ _ h1).parts h3).1 harr
  refine hn.now hg h10 hq ?_
  have hz := k4.sizeOf X.w
  have hne : ¬ u.size = 0 := by
    have := Nat.le_of_ble_eq_true h5.1
    dsimp only at this
    omega
  simp [execOp, ho, h8, Instr.fieldAt, run_underlying k1, k2, Instr.sureAddr, fieldPlace, hz, hne, Addr.add_mid, k3]
end
end Go.Ev
namespace Go.Ev
open Go.RowKit
section
variable {P : Program} {E : Env} {B : Base} {X : Cx} {tm : Nat → SV} {a : Act} {o : Oper} {nm : Nat} {R : Type} {K : SV → Objs → Option R} {r : R} {next : Act → World → Prop} {Q : Exit → Act → World → Prop}
theorem op_move [Str] (hg : Good B X) (htm : ∀ t, HV X (tm t) (a.eval (.tmp t))) (hn : Then B X a o.dst K r next) {x : Operand} (ho : o.op = .move x ∨ o.op = .assign x)
    (h : (Prog.ret (evalS tm x)).run X.O K = some r) : o.wp P a X.w next Q :=
  hn.now hg h (HV.eval htm x) (by rcases ho with ho | ho <;> simp [execOp, ho])
theorem op_pick [Str] (hg : Good B X) (htm : ∀ t, HV X (tm t) (a.eval (.tmp t))) (hn : Then B X a o.dst K r next) {c x y : Operand} (ho : o.op = .pick c x y)
    (h : (match evalS tm c with | .bool t => ask (t = true) (.ret (evalS tm x)) (.ret (evalS tm y)) | _ => (.fail : Prog SV)).run X.O K = some r) : o.wp P a X.w next Q := by
  have hc := HV.eval htm c
  split at h
  · rename_i t hct
    rw [hct] at hc
    have hc : a.eval c = .bool t := hc
    rw [run_ask] at h
    cases t with
    | true => exact hn.now hg (by rw [if_pos rfl] at h; exact h) (HV.eval htm x) (by simp [execOp, ho, hc, asBool])
    | false => exact hn.now hg (by rw [if_neg (by simp)] at h; exact h) (HV.eval htm y) (by simp [execOp, ho, hc, asBool])
  · cases h
theorem run_ite {α : Type} {c : Prop} [Decidable c] {x y : Prog α} {O : Objs} {K : α → Objs → Option R} : (if c then x else y).run O K = if c then x.run O K else y.run O K := by
  split <;> rfl
theorem of_binS [Str] {op : BinOp} {x y : SV} {u v : Value} (hu : HV X x u) (hv : HV X y v) (h : (binS op x y).run X.O K = some r) (p q : Operand) (t : TypeId) :
    ∃ s val, K s X.O = some r ∧ HV X s val ∧ (do eqGuard op t p q u v; Go.binOp op t u v : Sem Value).run P X.w = .ok val X.w := by
  have key : ∀ (s : SV) (val : Value), K s X.O = some r → HV X s val → eqGuard op t p q u v = pure () → (Go.binOp op t u v).run P X.w = .ok val X.w →
      ∃ s val, K s X.O = some r ∧ HV X s val ∧ (do eqGuard op t p q u v; Go.binOp op t u v : Sem Value).run P X.w = .ok val X.w := fun s val h1 h2 h3 h4 => ⟨s, val, h1, h2, by rw [h3]; simpa using h4⟩
  unfold binS at h
  split at h
  case h_1 k a k' b =>
    cases hu; cases hv
    rw [run_bind] at h
    obtain ⟨hb, h⟩ := of_need h
    exact key _ _ h rfl (eqGuard_at_int ..) (by simp [binOp_shl, Op.shift, show ¬ b < 0 by omega])
  case h_2 k a k' b =>
    cases hu; cases hv
    rw [run_bind] at h
    obtain ⟨hb, h⟩ := of_need h
    exact key _ _ h rfl (eqGuard_at_int ..) (by simp [binOp_shr, Op.shift, show ¬ b < 0 by omega])
  case h_17 x y =>
    cases hu; cases hv
    rw [run_bind] at h
    obtain ⟨hb, h⟩ := of_need h
    refine key _ _ h rfl (eqGuard_at_string ..) ?_
    rw [IntKind.max_i64] at hb
    simp [Go.binOp, Op.stringOp]
    push_cast at hb
    omega
  case h_18 x y =>
    cases hu; cases hv
    exact key _ _ h rfl (eqGuard_at_string ..) (by simp [Go.binOp, Op.stringOp])
  case h_19 x y =>
    cases hu; cases hv
    exact key _ _ h rfl (eqGuard_at_string ..) (by simp [Go.binOp, Op.stringOp])
  case h_20 => cases h
  case h_6 k a k' b =>
    cases hu; cases hv
    rw [run_ite] at h
    split at h
    · rename_i e; subst e
      rw [run_bind] at h
      obtain ⟨hb, h⟩ := of_need h
      exact key _ _ h rfl (eqGuard_at_int ..) (by simp [binOp_quo, Op.intDiv, hb])
    · cases h
  case h_7 k a k' b =>
    cases hu; cases hv
    rw [run_ite] at h
    split at h
    · rename_i e; subst e
      rw [run_bind] at h
      obtain ⟨hb, h⟩ := of_need h
      exact key _ _ h rfl (eqGuard_at_int ..) (by simp [binOp_rem, Op.intDiv, hb])
    · cases h
  all_goals
    rename_i k a k' b
    cases hu; cases hv
    rw [run_ite] at h
    split at h
    · rename_i e; subst e
      exact key _ _ h rfl (eqGuard_at_int ..) (by simp [Go.binOp, Op.intArith, Op.intBits, Op.intCmp])
    · cases h
theorem run_eqlB {t : TypeId} (ht : P.underlying t = some .bool) (x y : Bool) (w : World) : (Go.binOp .eql t (.bool x) (.bool y)).run P w = .ok (.bool (x == y)) w := by
  have h : ∀ d : Nat, (Op.equalIn (d + 1) t (.bool x) (.bool y)).run P w = .ok (x == y) w := fun d => by
    simp [Op.equalIn, run_underlying ht]
  simp only [Go.binOp]
  simp [Op.equal, Op.maxDepth, h 9999]
theorem run_neqB {t : TypeId} (ht : P.underlying t = some .bool) (x y : Bool) (w : World) : (Go.binOp .neq t (.bool x) (.bool y)).run P w = .ok (.bool (x != y)) w := by
  have h : ∀ d : Nat, (Op.equalIn (d + 1) t (.bool x) (.bool y)).run P w = .ok (x == y) w := fun d => by
    simp [Op.equalIn, run_underlying ht]
  simp only [Go.binOp]
  simp [Op.equal, Op.maxDepth, h 9999, bne]
/-- two numbers, held against two others -/
theorem run_eqArr [Str] {t te : TypeId} {k : IntKind} (ht : P.underlying t = some (.array 2 te)) (hi : InfoOK P te (.int k)) (hk : P.underlying te = some (.int k)) (a b c d : Int) (w : World) (n : Nat) :
    (Op.equalIn (n + 2) t (.agg #[.int k a, .int k b]) (.agg #[.int k c, .int k d])).run P w = .ok (a == c && b == d) w := by
  have hs := hi.sizeOf w
  have hag := hi.isAgg w
  have e1 : ∀ x y : Int, (Op.equalIn (n + 1) te (.int k x) (.int k y)).run P w = .ok (x == y) w := fun x y => by
    simp [Op.equalIn, run_underlying hk]
  have hp : ∀ (x y : Int) (j : Nat) (v : Int), (#[Value.int k x, Value.int k y] : Array Value)[j]? = some (.int k v) → (part te #[.int k x, .int k y] j).run P w = .ok (.int k v) w := fun x y j v hj => by
    simp [part, hag, hj, Ty.agg]
  have h1 := e1 a c
  have h2 := e1 b d
  rw [Op.equalIn]
  simp only [Sem.run_bind, run_underlying ht, Result.andThen_ok, hs, Ty.size]
  simp only [Std.Legacy.Range.forIn_eq_forIn_range', Std.Legacy.Range.size, Nat.sub_zero, Nat.add_one_sub_one, Nat.div_one]
  simp [List.range', hp a b 0 a rfl, hp c d 0 c rfl, hp a b 1 b rfl, hp c d 1 d rfl, h1, h2]
  by_cases h3 : a = c <;> by_cases h4 : b = d <;> simp [h3, h4]
theorem run_guardArr [Str] {op : BinOp} {t te : TypeId} {k : IntKind} (ht : P.underlying t = some (.array 2 te)) (hi : InfoOK P te (.int k)) (hk : P.underlying te = some (.int k)) (p q : Operand) (a b c d : Int) (w : World) :
    (eqGuard op t p q (.agg #[.int k a, .int k b]) (.agg #[.int k c, .int k d])).run P w = .ok () w := by
  have hs := hi.sizeOf w
  have hag := hi.isAgg w
  have hp : ∀ (x y : Int) (j : Nat) (v : Int), (#[Value.int k x, Value.int k y] : Array Value)[j]? = some (.int k v) → (part te #[.int k x, .int k y] j).run P w = .ok (.int k v) w := fun x y j v hj => by
    simp [part, hag, hj, Ty.agg]
  have e1 : ∀ (n : Nat) (x y : Int), (Op.eqGuardIn (n + 1) te (.int k x) (.int k y)).run P w = .ok false w := fun n x y => by
    simp [Op.eqGuardIn, run_underlying hk]
  have e2 : (Op.eqGuardIn Op.maxDepth t (.agg #[.int k a, .int k b]) (.agg #[.int k c, .int k d])).run P w = .ok false w := by
    rw [show Op.maxDepth = 9998 + 2 from rfl, Op.eqGuardIn]
    simp only [Sem.run_bind, run_underlying ht, Result.andThen_ok, hs, Ty.size]
    simp only [Std.Legacy.Range.forIn_eq_forIn_range', Std.Legacy.Range.size, Nat.sub_zero, Nat.add_one_sub_one, Nat.div_one]
    simp [List.range', hp a b 0 a rfl, hp c d 0 c rfl, hp a b 1 b rfl, hp c d 1 d rfl, e1]
  unfold eqGuard
  by_cases h1 : (op matches .eql | .neq) = true
  · simp only [h1]
    simp [e2]
  · simp
    intro h2; exact absurd h2 h1
theorem arr_at {t : TypeId} {k : IntKind} {arr : Bool} (h : TyOK P arr t (.pair (.int k) (.pair (.int k) .unit))) (ha : arr = true) : ∃ n te, P.underlying t = some (.array 2 te) ∧ InfoOK P te (.int k) ∧ P.underlying te = some (.int k) ∧ n = te := by
  subst ha
  obtain ⟨_, n, te, e, h1, h2, h3, h4⟩ := h
  match n, h3 with
  | 2, h3 =>
    obtain ⟨rfl, _⟩ := h3
    exact ⟨te, te, h1, h2, h4 k rfl, rfl⟩
  | 0, h3 => exact h3.elim
  | 1, h3 => exact h3.2.elim
  | n + 3, h3 => exact h3.2.2.elim
/-- three numbers of a struct, held against three others -/
theorem run_eqThree [Str] {t : TypeId} {k : IntKind} {f1 f2 f3 : Field} (ht : P.underlying t = some (.struct #[f1, f2, f3])) (hs : P.stoodInHeld t = false) (o1 : f1.offset = 0) (o2 : f2.offset = 1) (o3 : f3.offset = 2) (m1 : f1.name ≠ "_") (m2 : f2.name ≠ "_") (m3 : f3.name ≠ "_")
    (u1 : P.underlying f1.type = some (.int k)) (u2 : P.underlying f2.type = some (.int k)) (u3 : P.underlying f3.type = some (.int k)) (i1 : InfoOK P f1.type (.int k)) (i2 : InfoOK P f2.type (.int k)) (i3 : InfoOK P f3.type (.int k)) (a b c d e f : Int) (w : World) (n : Nat) :
    (Op.equalIn (n + 2) t (.agg #[.int k a, .int k b, .int k c]) (.agg #[.int k d, .int k e, .int k f])).run P w = .ok (a == d && (b == e && c == f)) w := by
  have e1 : ∀ (te : TypeId), P.underlying te = some (.int k) → ∀ x y : Int, (Op.equalIn (n + 1) te (.int k x) (.int k y)).run P w = .ok (x == y) w := fun te hu x y => by
    simp [Op.equalIn, run_underlying hu]
  have hp : ∀ (te : TypeId), InfoOK P te (.int k) → ∀ (x y z : Int) (j : Nat) (v : Int), (#[Value.int k x, Value.int k y, Value.int k z] : Array Value)[j]? = some (.int k v) → (part te #[.int k x, .int k y, .int k z] j).run P w = .ok (.int k v) w := fun te hi x y z j v hj => by
    simp [part, hi.isAgg w, hj, Ty.agg]
  rw [Op.equalIn]
  simp only [Sem.run_bind, run_underlying ht, Result.andThen_ok]
  have hpr : (Go.program).run P w = .ok P w := rfl
  simp only [hpr, Result.andThen_ok, hs]
  simp only [Bool.false_eq_true, if_false, Sem.run_bind, Sem.run_pure, Result.andThen_ok]
  rw [← Array.forIn_toList]
  simp only [List.forIn_cons, List.forIn_nil, m1, m2, m3, o1, o2, o3]
  simp [hp _ i1 a b c 0 a rfl, hp _ i1 d e f 0 d rfl, hp _ i2 a b c 1 b rfl, hp _ i2 d e f 1 e rfl, hp _ i3 a b c 2 c rfl, hp _ i3 d e f 2 f rfl, e1 _ u1, e1 _ u2, e1 _ u3]
  by_cases h1 : a = d <;> by_cases h2 : b = e <;> by_cases h3 : c = f <;> simp [h1, h2, h3, m1, m2, m3]
theorem run_guardThree [Str] {op : BinOp} {t : TypeId} {k : IntKind} {f1 f2 f3 : Field} (ht : P.underlying t = some (.struct #[f1, f2, f3])) (o1 : f1.offset = 0) (o2 : f2.offset = 1) (o3 : f3.offset = 2) (m1 : f1.name ≠ "_") (m2 : f2.name ≠ "_") (m3 : f3.name ≠ "_")
    (u1 : P.underlying f1.type = some (.int k)) (u2 : P.underlying f2.type = some (.int k)) (u3 : P.underlying f3.type = some (.int k)) (i1 : InfoOK P f1.type (.int k)) (i2 : InfoOK P f2.type (.int k)) (i3 : InfoOK P f3.type (.int k)) (p q : Operand) (a b c d e f : Int) (w : World) :
    (eqGuard op t p q (.agg #[.int k a, .int k b, .int k c]) (.agg #[.int k d, .int k e, .int k f])).run P w = .ok () w := by
  have e1 : ∀ (te : TypeId), P.underlying te = some (.int k) → ∀ (n : Nat) (x y : Int), (Op.eqGuardIn (n + 1) te (.int k x) (.int k y)).run P w = .ok false w := fun te hu n x y => by
    simp [Op.eqGuardIn, run_underlying hu]
  have hp : ∀ (te : TypeId), InfoOK P te (.int k) → ∀ (x y z : Int) (j : Nat) (v : Int), (#[Value.int k x, Value.int k y, Value.int k z] : Array Value)[j]? = some (.int k v) → (part te #[.int k x, .int k y, .int k z] j).run P w = .ok (.int k v) w := fun te hi x y z j v hj => by
    simp [part, hi.isAgg w, hj, Ty.agg]
  have e2 : (Op.eqGuardIn Op.maxDepth t (.agg #[.int k a, .int k b, .int k c]) (.agg #[.int k d, .int k e, .int k f])).run P w = .ok false w := by
    rw [show Op.maxDepth = 9998 + 2 from rfl, Op.eqGuardIn]
    simp only [Sem.run_bind, run_underlying ht, Result.andThen_ok]
    rw [← Array.forIn_toList]
    simp only [List.forIn_cons, List.forIn_nil, m1, m2, m3, o1, o2, o3]
    simp [hp _ i1 a b c 0 a rfl, hp _ i1 d e f 0 d rfl, hp _ i2 a b c 1 b rfl, hp _ i2 d e f 1 e rfl, hp _ i3 a b c 2 c rfl, hp _ i3 d e f 2 f rfl, e1 _ u1, e1 _ u2, e1 _ u3]
  unfold eqGuard
  by_cases h1 : (op matches .eql | .neq) = true
  · simp only [h1]
    simp [e2]
  · simp
    intro h2; exact absurd h2 h1
theorem three_at {t : TypeId} {k : IntKind} {arr : Bool} (h : TyOK P arr t (.pair (.int k) (.pair (.int k) (.pair (.int k) .unit)))) (ha : arr = false) : ∃ f1 f2 f3 : Field, P.underlying t = some (.struct #[f1, f2, f3]) ∧ P.stoodInHeld t = false ∧ f1.offset = 0 ∧ f2.offset = 1 ∧ f3.offset = 2 ∧ f1.name ≠ "_" ∧ f2.name ≠ "_" ∧ f3.name ≠ "_" ∧
    P.underlying f1.type = some (.int k) ∧ P.underlying f2.type = some (.int k) ∧ P.underlying f3.type = some (.int k) ∧ InfoOK P f1.type (.int k) ∧ InfoOK P f2.type (.int k) ∧ InfoOK P f3.type (.int k) := by
  subst ha
  obtain ⟨_, fs, h1, h2, h3⟩ := h
  obtain ⟨h4, h5⟩ := h3 k rfl
  obtain ⟨l⟩ := fs
  match l, h2 with
  | [f1, f2, f3], h2 =>
    obtain ⟨a1, a2, b1, b2, c1, c2, _⟩ := h2
    exact ⟨f1, f2, f3, h1, h4, a1, by rw [b1]; rfl, by rw [c1]; rfl, (h5 f1 (by simp)).1, (h5 f2 (by simp)).1, (h5 f3 (by simp)).1, (h5 f1 (by simp)).2, (h5 f2 (by simp)).2, (h5 f3 (by simp)).2, a2, b2, c2⟩
  | [], h2 => exact h2.elim
  | [_], h2 => exact h2.2.2.elim
  | [_, _], h2 => exact h2.2.2.2.2.elim
  | _ :: _ :: _ :: _ :: _, h2 => exact h2.2.2.2.2.2.2.elim
theorem hv_three {X : Cx} {k : IntKind} {x y z : Int} {v : Value} (h : HV X (.agg [.int k x, .int k y, .int k z]) v) : v = .agg #[.int k x, .int k y, .int k z] := by
  obtain ⟨cs, rfl, h⟩ := h
  simp only [HLs] at h
  obtain ⟨v1, l1, e1, _, h1, v2, l2, e2, _, h2, v3, l3, e3, _, h3, e4⟩ := h
  have h1 : v1 = .int k x := h1
  have h2 : v2 = .int k y := h2
  have h3 : v3 = .int k z := h3
  subst h1 h2 h3 e4 e3 e2
  rw [show cs = cs.toList.toArray by simp, e1]
theorem hv_two {X : Cx} {k : IntKind} {x y : Int} {v : Value} (h : HV X (.agg [.int k x, .int k y]) v) : v = .agg #[.int k x, .int k y] := by
  obtain ⟨cs, rfl, h⟩ := h
  simp only [HLs] at h
  obtain ⟨v1, l1, e1, _, h1, v2, l2, e2, _, h2, e3⟩ := h
  have h1 : v1 = .int k x := h1
  have h2 : v2 = .int k y := h2
  subst h1 h2 e3 e2
  rw [show cs = cs.toList.toArray by simp, e1]
theorem op_bin [Str] (hT : TabOK P E) (hg : Good B X) (htm : ∀ t, HV X (tm t) (a.eval (.tmp t))) (hn : Then B X a o.dst K r next) {op : BinOp} {t u : TypeId} {x y : Operand} (ho : o.op = .binOp op t x y u)
    (h : (eqB E op t (evalS tm x) (evalS tm y)).run X.O K = some r) : o.wp P a X.w next Q := by
  have hx := HV.eval htm x
  have hy := HV.eval htm y
  unfold eqB at h
  split at h
  · rename_i p q e1 e2
    rw [run_bind] at h
    obtain ⟨ty, h1, h2⟩ := of_must h
    rw [run_bind] at h2
    obtain ⟨h3, h4⟩ := of_sure h2
    have hty := of_decide_eq_true h3
    subst hty
    rw [e1] at hx
    rw [e2] at hy
    have hx : a.eval x = .bool p := hx
    have hy : a.eval y = .bool q := hy
    exact hn.now hg (v := .bool (p == q)) (val := .bool (p == q)) h4 rfl (by
      simp only [execOp, ho, hx, hy]
      rw [Sem.run_bind, eqGuard_at_bool]
      simp [run_eqlB (hT _ _ h1).2])
  · rename_i p q e1 e2
    rw [run_bind] at h
    obtain ⟨ty, h1, h2⟩ := of_must h
    rw [run_bind] at h2
    obtain ⟨h3, h4⟩ := of_sure h2
    have hty := of_decide_eq_true h3
    subst hty
    rw [e1] at hx
    rw [e2] at hy
    have hx : a.eval x = .bool p := hx
    have hy : a.eval y = .bool q := hy
    exact hn.now hg (v := .bool (p != q)) (val := .bool (p != q)) h4 rfl (by
      simp only [execOp, ho, hx, hy]
      rw [Sem.run_bind, eqGuard_at_bool]
      simp [run_neqB (hT _ _ h1).2])
  · rename_i k a0 k1 b0 k2 c0 k3 d0 e1 e2
    rw [run_bind] at h
    obtain ⟨ty, h1, h2⟩ := of_must h
    rw [run_bind] at h2
    obtain ⟨h3, h4⟩ := of_sure h2
    simp only [Bool.and_eq_true, tyEq, decide_eq_true_eq, Ty.int.injEq] at h3
    obtain ⟨⟨⟨⟨rfl, ha⟩, rfl⟩, rfl⟩, rfl⟩ := h3
    obtain ⟨v1, v2, t1, t2, t3, _⟩ := arr_at (P := P) (hT _ _ h1) ha
    rw [e1] at hx
    rw [e2] at hy
    have hx := hv_two hx
    have hy := hv_two hy
    exact hn.now hg (v := .bool (a0 == c0 && b0 == d0)) (val := .bool (a0 == c0 && b0 == d0)) h4 rfl (by
      simp only [execOp, ho, hx, hy]
      rw [Sem.run_bind, Sem.run_bind, run_guardArr t1 t2 t3]
      simp [Go.binOp, Op.equal, show Op.maxDepth = 9998 + 2 from rfl, run_eqArr t1 t2 t3])
  · rename_i k a0 k1 b0 k2 c0 k3 d0 e1 e2
    rw [run_bind] at h
    obtain ⟨ty, h1, h2⟩ := of_must h
    rw [run_bind] at h2
    obtain ⟨h3, h4⟩ := of_sure h2
    simp only [Bool.and_eq_true, tyEq, decide_eq_true_eq, Ty.int.injEq] at h3
    obtain ⟨⟨⟨⟨rfl, ha⟩, rfl⟩, rfl⟩, rfl⟩ := h3
    obtain ⟨v1, v2, t1, t2, t3, _⟩ := arr_at (P := P) (hT _ _ h1) ha
    rw [e1] at hx
    rw [e2] at hy
    have hx := hv_two hx
    have hy := hv_two hy
    exact hn.now hg (v := .bool (!(a0 == c0 && b0 == d0))) (val := .bool (!(a0 == c0 && b0 == d0))) h4 rfl (by
      simp only [execOp, ho, hx, hy]
      rw [Sem.run_bind, Sem.run_bind, run_guardArr t1 t2 t3]
      simp [Go.binOp, Op.equal, show Op.maxDepth = 9998 + 2 from rfl, run_eqArr t1 t2 t3])
  · rename_i k a0 k1 b0 k2 c0 k3 d0 k4 x0 k5 y0 e1 e2
    rw [run_bind] at h
    obtain ⟨ty, h1, h2⟩ := of_must h
    rw [run_bind] at h2
    obtain ⟨h3, h4⟩ := of_sure h2
    simp only [Bool.and_eq_true, tyEq, decide_eq_true_eq, Ty.int.injEq, Bool.not_eq_true'] at h3
    obtain ⟨⟨⟨⟨⟨⟨rfl, ha⟩, rfl⟩, rfl⟩, rfl⟩, rfl⟩, rfl⟩ := h3
    obtain ⟨f1, f2, f3, t1, t2, o1, o2, o3, m1, m2, m3, u1, u2, u3, i1, i2, i3⟩ := three_at (P := P) (hT _ _ h1) ha
    rw [e1] at hx
    rw [e2] at hy
    have hx := hv_three hx
    have hy := hv_three hy
    exact hn.now hg (v := .bool ((a0 == d0 && (b0 == x0 && c0 == y0)))) (val := .bool ((a0 == d0 && (b0 == x0 && c0 == y0)))) h4 rfl (by
      simp only [execOp, ho, hx, hy]
      rw [Sem.run_bind, Sem.run_bind, run_guardThree t1 o1 o2 o3 m1 m2 m3 u1 u2 u3 i1 i2 i3]
      simp [Go.binOp, Op.equal, show Op.maxDepth = 9998 + 2 from rfl, run_eqThree t1 t2 o1 o2 o3 m1 m2 m3 u1 u2 u3 i1 i2 i3])
  · rename_i k a0 k1 b0 k2 c0 k3 d0 k4 x0 k5 y0 e1 e2
    rw [run_bind] at h
    obtain ⟨ty, h1, h2⟩ := of_must h
    rw [run_bind] at h2
    obtain ⟨h3, h4⟩ := of_sure h2
    simp only [Bool.and_eq_true, tyEq, decide_eq_true_eq, Ty.int.injEq, Bool.not_eq_true'] at h3
    obtain ⟨⟨⟨⟨⟨⟨rfl, ha⟩, rfl⟩, rfl⟩, rfl⟩, rfl⟩, rfl⟩ := h3
    obtain ⟨f1, f2, f3, t1, t2, o1, o2, o3, m1, m2, m3, u1, u2, u3, i1, i2, i3⟩ := three_at (P := P) (hT _ _ h1) ha
    rw [e1] at hx
    rw [e2] at hy
    have hx := hv_three hx
    have hy := hv_three hy
    exact hn.now hg (v := .bool (!(a0 == d0 && (b0 == x0 && c0 == y0)))) (val := .bool (!(a0 == d0 && (b0 == x0 && c0 == y0)))) h4 rfl (by
      simp only [execOp, ho, hx, hy]
      rw [Sem.run_bind, Sem.run_bind, run_guardThree t1 o1 o2 o3 m1 m2 m3 u1 u2 u3 i1 i2 i3]
      simp [Go.binOp, Op.equal, show Op.maxDepth = 9998 + 2 from rfl, run_eqThree t1 t2 o1 o2 o3 m1 m2 m3 u1 u2 u3 i1 i2 i3])
  · obtain ⟨s, val, h1, h2, h3⟩ := of_binS (P := P) hx hy h x y t
    exact hn.now hg h1 h2 (by
      simp only [execOp, ho]
      rw [Sem.run_bind, h3]
      rfl)
theorem op_un [Str] (hg : Good B X) (htm : ∀ t, HV X (tm t) (a.eval (.tmp t))) (hn : Then B X a o.dst K r next) {op : UnOp} {t : TypeId} {x : Operand} (ho : o.op = .unOp op t x)
    (h : (unS op (evalS tm x)).run X.O K = some r) : o.wp P a X.w next Q := by
  have hx := HV.eval htm x
  unfold unS at h
  split at h
  · rename_i k n hs
    rw [hs] at hx
    exact hn.now (v := .int k (k.wrap (0 - n))) (val := .int k (k.wrap (0 - n))) hg h rfl (by simp [execOp, ho, show a.eval x = _ from hx, Op.unary, Op.intArith])
  · rename_i b hs
    rw [hs] at hx
    exact hn.now (v := .bool !b) (val := .bool !b) hg h rfl (by simp [execOp, ho, show a.eval x = _ from hx, Op.unary])
  · cases h
theorem op_makeFunc [Str] (hg : Good B X) (htm : ∀ t, HV X (tm t) (a.eval (.tmp t))) (hn : Then B X a o.dst K r next) {f : FuncId} {xs ys : Array Operand} (ho : o.op = .makeFunc (.func f) xs ys)
    (h : (Prog.ret (.func f (evl tm xs.toList) (evl tm ys.toList))).run X.O K = some r) : o.wp P a X.w next Q :=
  hn.now (v := .func f (evl tm xs.toList) (evl tm ys.toList)) (val := .func (.func f) (xs.map a.eval) (ys.map a.eval)) hg h
    ⟨_, _, rfl, by simpa using HVs.evl htm xs.toList, by simpa using HVs.evl htm ys.toList⟩ (by simp [execOp, ho, Instr.makeFunc])
theorem HVs.at {X : Cx} : ∀ {l : List SV} {vs : List Value}, HVs X l vs → ∀ {i : Nat} {s : SV}, l[i]? = some s → ∃ v, vs[i]? = some v ∧ HV X s v
  | [], _, _, i, s, h => by simp at h
  | x :: r, _, ⟨v, l', e, h1, h2⟩, 0, s, h => by
    simp at h; subst h; subst e; exact ⟨v, rfl, h1⟩
  | x :: r, _, ⟨v, l', e, h1, h2⟩, i + 1, s, h => by
    subst e
    obtain ⟨v', k1, k2⟩ := h2.at (by simpa using h)
    exact ⟨v', by simpa using k1, k2⟩
theorem op_extract [Str] (hg : Good B X) (htm : ∀ t, HV X (tm t) (a.eval (.tmp t))) (hn : Then B X a o.dst K r next) {x : Operand} {i : Nat} (ho : o.op = .extract x i)
    (h : (match evalS tm x with | .tup vs => must vs[i]? | _ => (.fail : Prog SV)).run X.O K = some r) : o.wp P a X.w next Q := by
  have hx := HV.eval htm x
  split at h
  · rename_i vs hs
    rw [hs] at hx
    obtain ⟨ar, e, hvs⟩ := hx
    obtain ⟨s, h1, h2⟩ := of_must h
    obtain ⟨v, k1, k2⟩ := hvs.at h1
    refine hn.now hg h2 k2 ?_
    have k1' : ar[i]? = some v := by simpa using k1
    simp [execOp, ho, e, Instr.extract, k1']
  · cases h
theorem op_convert [Str] (hT : TabOK P E) (hg : Good B X) (htm : ∀ t, HV X (tm t) (a.eval (.tmp t))) (hn : Then B X a o.dst K r next) {src dst : TypeId} {x : Operand} (ho : o.op = .convert src dst x)
    (h : (match E.T src, E.T dst, evalS tm x with | some (.int _), some (.int k), .int _ n => Prog.ret (SV.int k (k.wrap n)) | _, _, _ => .fail).run X.O K = some r) : o.wp P a X.w next Q := by
  have hx := HV.eval htm x
  split at h
  · rename_i k0 k k1 n hs hd hs2
    rw [hs2] at hx
    have hs' : P.underlying src = some (.int k0) := (hT _ _ hs).2
    have hd' : P.underlying dst = some (.int k) := (hT _ _ hd).2
    exact hn.now (v := .int k (k.wrap n)) (val := .int k (k.wrap n)) hg h rfl (by simp [execOp, ho, show a.eval x = _ from hx, Go.convert, run_underlying hs', run_underlying hd', Conv.intToInt])
  · cases h
end
end Go.Ev
namespace Go.Ev
open Go.RowKit
theorem madeCells_flat (z : Array Value) (s : Nat) (hs : z.size = s) : ∀ n : Nat, (madeCells z (n * s)).toList = (List.replicate n z.toList).flatten
  | 0 => by simp [madeCells]
  | n + 1 => by
    have ih := madeCells_flat z s hs n
    rw [List.replicate_succ', List.flatten_append, ← ih]
    simp only [madeCells, Array.toList_map, Array.toList_range, List.flatten_cons, List.flatten_nil, List.append_nil]
    rw [Nat.succ_mul, List.range_add, List.map_append]
    congr 1
    rw [List.map_map]
    refine List.ext_getElem (by simp [hs]) (fun i h1 h2 => ?_)
    simp only [List.getElem_map, List.getElem_range, Function.comp]
    have hi : i < z.size := by simpa using h2
    subst hs
    rw [Nat.mul_add_mod_self_right, Nat.mod_eq_of_lt hi]
    simp [getElem!_pos, hi]
theorem run_part [Str] {P : Program} {t : TypeId} {u : Ty} (hi : InfoOK P t u) (w : World) (c : Array Value) (d : Nat) (hd : d + u.size ≤ c.toList.length) : (part t c d).run P w = .ok (cellsV u.agg ((c.toList.drop d).take u.size)) w := by
  have ha := hi.isAgg w
  have hs := hi.sizeOf w
  cases hag : u.agg with
  | true =>
    rw [hag] at ha
    simp [part, ha, hs, cellsV, ← Array.toList_inj, Array.toList_extract, List.extract_eq_take_drop]
  | false =>
    rw [hag] at ha
    have h1 := Ty.size_one hag
    rw [h1] at hd
    have hlt : d < c.size := by simp at hd; omega
    simp [part, ha, Array.getElem?_eq_getElem hlt, cellsV, h1, List.take_one, List.head?_drop]
section
variable {P : Program} {E : Env} {B : Base} {X : Cx} {tm : Nat → SV} {a : Act} {o : Oper} {nm : Nat} {R : Type} {K : SV → Objs → Option R} {r : R} {next : Act → World → Prop} {Q : Exit → Act → World → Prop}
theorem op_makeSlice [Str] (hT : TabOK P E) (hg : Good B X) (htm : ∀ t, HV X (tm t) (a.eval (.tmp t))) (hn : Then B X a o.dst K r next) {t : TypeId} {x y : Operand} (ho : o.op = .makeSlice t x y)
    (h : (match E.T t, evalS tm x, evalS tm y with
    | some (.list e), .int _ n, .int _ c => (do
      need (0 ≤ n ∧ n ≤ c ∧ c ≤ (most : Int))
      lay nm (madeRow x e n.toNat)
      pure (SV.row nm 0 .full) : Prog SV)
    | _, _, _ => .fail).run X.O K = some r) : o.wp P a X.w next Q := by
  have hx := HV.eval htm x
  have hy := HV.eval htm y
  split at h
  · rename_i e k n k' c ht hs hs'
    rw [hs] at hx
    rw [hs'] at hy
    rw [run_bind] at h
    obtain ⟨⟨b1, b2, b3⟩, h1⟩ := of_need h
    rw [run_bind] at h1
    obtain ⟨h2, h3⟩ := of_lay h1
    obtain ⟨_, te, hu, hi⟩ := hT _ _ ht
    obtain ⟨i, i1, i2, i3, i4⟩ := hi.get
    obtain ⟨m, rfl⟩ := Int.eq_ofNat_of_zero_le b1
    obtain ⟨cc, rfl⟩ := Int.eq_ofNat_of_zero_le (Int.le_trans b1 b2)
    have hcc : cc ≤ most := by omega
    unfold most at hcc
    have hbytes : (i.bytes : Int) * (cc : Int) ≤ 281474976710656 := by
      have : i.bytes * cc ≤ 16383 * 8589934592 := Nat.mul_le_mul i4 hcc
      have h2 : ((i.bytes * cc : Nat) : Int) ≤ 281474976710656 := by omega
      simpa using h2
    have hrun := run_make (P := P) X.w t te i _ hu i1 i3 k k' (m : Int) (cc : Int) b1 b2 hbytes (by omega)
    rw [zeros_cells] at hrun
    simp only [Int.toNat_natCast] at hrun h3 h2
    have hz : (zeros e).toArray.size = e.size := by simpa using RC.len (RC.zeros (w := X.w) (G := X.G) e)
    have hmc := madeCells_flat (zeros e).toArray e.size hz cc
    have hel : Elem (RC X.w X.G e) (List.replicate cc e.dflt) (List.replicate cc (zeros e)).flatten := Elem.replicate (RC.zeros e) cc
    have hel2 := hel.take (fun _ _ h => RC.len h) m
    rw [List.take_replicate, Nat.min_eq_left (by omega : m ≤ cc)] at hel2
    by_cases hrows : (∃ u, e = .list u ∧ madeRow x e m = .rows u (List.replicate m []) none .undef)
    · obtain ⟨u, rfl, hmr⟩ := hrows
      have hmc1 : (madeCells (zeros (.list u)).toArray (cc * i.size)).toList = List.replicate m (.slice none 0 0) ++ List.replicate (cc - m) (.slice none 0 0) := by
        rw [i2]
        refine hmc.trans ?_
        rw [List.replicate_append_replicate, show m + (cc - m) = cc by omega]
        simp [zeros]
      obtain ⟨X', e1, e2, e3, e4, e5⟩ := hg.newRows nm h2 u m cc (madeCells (zeros (.list u)).toArray (cc * i.size)) te _ hmc1 (by rw [size_madeCells, i2]; simp [Ty.size]) (by omega)
      have hr : (execOp a.eval o).run P X.w = .ok (.value (.slice (some ⟨X.w.heap.size, 0, none⟩) m cc)) X'.w := by
        rw [e1]
        simp [execOp, ho, show a.eval x = _ from hx, show a.eval y = _ from hy, hrun]
      rw [hmr] at h3
      exact wp_val hr (hn _ X' _ (by rw [e2]; exact h3) e3 e4 e5)
    have hmr : madeRow x e m = .row e (List.replicate m e.dflt) := by
      unfold madeRow at hrows ⊢
      cases x with
      | tmp _ => cases e <;> first | rfl | exact absurd ⟨_, rfl, rfl⟩ hrows
      | _ => cases e <;> rfl
    rw [hmr] at h3
    obtain ⟨X', e1, e2, e3, e4, e5⟩ := hg.newRow nm h2 e (List.replicate m e.dflt) (madeCells (zeros e).toArray (cc * i.size)) te _ ((List.replicate cc (zeros e)).flatten.drop (m * e.size)) cc
      (by rw [i2, hmc]; simp) hel2 (by rw [size_madeCells, i2]) (by simp; omega)
    have hr : (execOp a.eval o).run P X.w = .ok (.value (.slice (some ⟨X.w.heap.size, 0, none⟩) m cc)) X'.w := by
      rw [e1]
      simp [execOp, ho, show a.eval x = _ from hx, show a.eval y = _ from hy, hrun]
    rw [List.length_replicate] at e5
    exact wp_val hr (hn _ X' _ (by rw [e2]; exact h3) e3 e4 e5)
  · cases h
theorem of_rowOf [Str] (hg : Good B X) (htm : ∀ t, HV X (tm t) (a.eval (.tmp t))) {e : Ty} {n : Nat} :
    ∀ (parts : List (Nat × Operand)) (l : List e.den) (cells : Array Value) {K : List e.den → Objs → Option R}, Elem (RC X.w X.G e) l cells.toList → l.length = n → (rowOf e n (evs tm parts) l).run X.O K = some r →
      ∃ l' c', K l' X.O = some r ∧ Instr.fill (fun i => some (i * e.size, e.size)) cells (parts.map fun p => (p.1, a.eval p.2)) = some c' ∧ Elem (RC X.w X.G e) l' c'.toList ∧ l'.length = n ∧ c'.size = cells.size
  | [], l, cells, K, hl, hn, h => ⟨l, cells, h, rfl, hl, hn, rfl⟩
  | (i, x) :: rest, l, cells, K, hl, hn, h => by
    simp only [evs, rowOf, run_bind] at h
    obtain ⟨h1, h2⟩ := of_sure h
    rw [Bool.and_eq_true] at h1
    have hlt : i < n := Nat.lt_of_lt_of_le (Nat.lt_succ_self i) (Nat.le_of_ble_eq_true h1.2)
    have hlv := (HV.eval htm x).leaves h1.1
    obtain ⟨y, y1, y2⟩ := of_toDen hg hlv h2
    have y3 := y2 rfl
    have hlen := RC.len y3
    have hall := Elem.len (fun _ _ h => RC.len (t := e) h) hl
    have hle : i * e.size + e.size ≤ cells.size := by
      have : (i + 1) * e.size ≤ l.length * e.size := Nat.mul_le_mul_right _ (by omega)
      rw [Nat.succ_mul] at this
      rw [Array.length_toList] at hall
      omega
    obtain ⟨c', g1, g2, g3⟩ := fill_step (cells := cells) (rest := rest.map fun p => (p.1, a.eval p.2)) (place := fun i => some (i * e.size, e.size)) (i := i) (v := a.eval x) rfl (by simpa using hlen) hle
    have hset := Elem.set (fun _ _ h => RC.len (t := e) h) i y _ hl (by omega) y3
    rw [hlen] at g1
    rw [← g1] at hset
    obtain ⟨l', c'', k1, k2, k3, k4, k5⟩ := of_rowOf hg htm rest (l.set i y) c' hset (by simpa using hn) y1
    exact ⟨l', c'', k1, by rw [List.map_cons, g3]; exact k2, k3, k4, k5.trans g2⟩
theorem op_buildSlice [Str] (hT : TabOK P E) (hg : Good B X) (htm : ∀ t, HV X (tm t) (a.eval (.tmp t))) (hn : Then B X a o.dst K r next) {t : TypeId} {n : Nat} {parts : Array (Nat × Operand)} (ho : o.op = .buildSlice t n parts)
    (h : (match E.T t with
    | some (.list e) => (do
      sure (Nat.ble (n * e.size) 16777216)
      let l ← rowOf e n (evs tm parts.toList) (List.replicate n e.dflt)
      lay nm (.row e l)
      pure (SV.row nm 0 .full) : Prog SV)
    | _ => fail).run X.O K = some r) : o.wp P a X.w next Q := by
  split at h
  · rename_i e ht
    rw [run_bind] at h
    obtain ⟨h1, h2⟩ := of_sure h
    have hsm := Nat.le_of_ble_eq_true h1
    obtain ⟨_, te, hu, hi⟩ := hT _ _ ht
    have hz : (zeros e).toArray.size = e.size := by simpa using RC.len (RC.zeros (w := X.w) (G := X.G) e)
    have hmc := madeCells_flat (zeros e).toArray e.size hz n
    have hel : Elem (RC X.w X.G e) (List.replicate n e.dflt) (madeCells (zeros e).toArray (n * e.size)).toList := by
      rw [hmc]; exact Elem.replicate (RC.zeros e) n
    rw [run_bind] at h2
    obtain ⟨l', c', k1, k2, k3, k4, k5⟩ := of_rowOf hg htm parts.toList _ _ hel List.length_replicate h2
    rw [run_bind] at k1
    obtain ⟨h3, h4⟩ := of_lay k1
    obtain ⟨X', e1, e2, e3, e4, e5⟩ := hg.newRow nm h3 e l' c' te c'.toList [] n (by simp) k3 (by rw [k5, size_madeCells]) (by omega)
    have hr : (execOp a.eval o).run P X.w = .ok (.value (.slice (some ⟨X.w.heap.size, 0, none⟩) n n)) X'.w := by
      rw [e1]
      have hs := hi.sizeOf X.w
      have hzz := hi.zero X.w
      have hlim : ¬ (16777216 < n * e.size) := by omega
      have k2' : Instr.fill (fun i => some (i * e.size, e.size)) (madeCells (zeros e).toArray (n * e.size)) (List.map (fun p => (p.1, a.eval p.2)) parts.toList) = some c' := k2
      by_cases h0 : n * e.size = 0
      · have hm0 : (Array.map (fun _ => (default : Value)) (Array.range 0)) = madeCells (zeros e).toArray (n * e.size) := by rw [h0]; simp [madeCells]
        simp [execOp, ho, Instr.buildSlice, run_underlying hu, hs, h0]
        rw [hm0, k2']
        simp [newRow]
      · simp only [madeCells] at k2'
        simp [execOp, ho, Instr.buildSlice, run_underlying hu, hs, hlim, h0, hzz, zeros_cells]
        simp at k2'
        simp [k2', newRow]
    rw [k4] at e5
    exact wp_val hr (hn _ X' _ (by rw [e2]; exact h4) e3 e4 e5)
  · simp [run_fail'] at h
theorem op_field [Str] (hT : TabOK P E) (hg : Good B X) (htm : ∀ t, HV X (tm t) (a.eval (.tmp t))) (hn : Then B X a o.dst K r next) {s : TypeId} {x : Operand} {f : Nat} (ho : o.op = .field s x f)
    (h : (do
    let t ← must (E.T s)
    let d ← must (t.field f)
    sure (!E.arrs s)
    match evalS tm x with
      | .agg fs => do let l ← must (cutCells fs d.1 d.2.size); pure (mk d.2 l)
      | _ => .fail : Prog SV).run X.O K = some r) : o.wp P a X.w next Q := by
  rw [run_bind] at h
  obtain ⟨ty, h1, h2⟩ := of_must h
  rw [run_bind] at h2
  obtain ⟨⟨d, u⟩, h3, h4⟩ := of_must h2
  rw [run_bind] at h4
  obtain ⟨h5, h6⟩ := of_sure h4
  obtain ⟨fs, fl, k1, k2, k3, k4⟩ := ((hT _ _ h1).parts h3).1 (by simpa using h5)
  have hx := HV.eval htm x
  split at h6
  · rename_i ls hs
    rw [hs] at hx
    obtain ⟨c, e, hl⟩ := hx
    rw [run_bind] at h6
    obtain ⟨l, h7, h8⟩ := of_must h6
    obtain ⟨f1, f2, f3⟩ := of_cutCells hl h7
    refine hn.now hg h8 (HV.mk f1 f2) ?_
    have hp := run_part k4 X.w c d f3
    subst k3
    simp [execOp, ho, e, Instr.field, run_underlying k1, k2, asAgg, hp]
  · cases h6
end
end Go.Ev
