/- A symbolic run of the code of functions, and the proof that what it tells is so. No conditions beyond each theorem's own. -/
import Derived.Test.YtmbkpnhmeljcgaaE1
set_option linter.unusedVariables false
set_option linter.unusedSimpArgs false
namespace Go.Ev
open Go.RowKit
theorem evl_one {tm : Nat → SV} {l : List Operand} {s : SV} (h : evl tm l = [s]) : ∃ x, l = [x] ∧ s = evalS tm x := by
  match l, h with
  | [x], h => simp only [evl, List.cons.injEq, and_true] at h; exact ⟨x, rfl, h.symm⟩
  | [], h => cases h
  | _ :: _ :: _, h => simp [evl] at h
theorem evl_two {tm : Nat → SV} {l : List Operand} {s t : SV} (h : evl tm l = [s, t]) : ∃ x y, l = [x, y] ∧ s = evalS tm x ∧ t = evalS tm y := by
  match l, h with
  | [x, y], h => simp only [evl, List.cons.injEq, and_true] at h; exact ⟨x, y, rfl, h.1.symm, h.2.symm⟩
  | [], h => cases h
  | [_], h => simp [evl] at h
  | _ :: _ :: _ :: _, h => simp [evl] at h
theorem arr_of {α : Type} {x : Array α} {l : List α} (h : x.toList = l) : x = l.toArray := by subst h; simp
theorem tyEq_of {t u : Ty} (h : tyEq t u = true) : t = u := of_decide_eq_true h
section
variable {P : Program} {E : Env} {B : Base} {X : Cx} {tm : Nat → SV} {a : Act} {o : Oper} {nm : Nat} {R : Type} {K : SV → Objs → Option R} {r : R} {next : Act → World → Prop} {Q : Exit → Act → World → Prop}
theorem of_lenP [Str] (hg : Good B X) {s : SV} {val : Value} (hv : HV X s val) {K : Int → Objs → Option R} (h : (lenP s).run X.O K = some r) : ∃ (n : Nat) (b : Option Addr) (c : Nat), K (n : Int) X.O = some r ∧ val = .slice b n c := by
  unfold lenP at h
  split at h
  · exact ⟨0, none, 0, h, hv⟩
  · rename_i t l
    obtain ⟨b, c, e, _⟩ := hv
    simp only [List.cons.injEq, and_true] at e
    exact ⟨_, b, c, h, e⟩
  · rename_i n g v
    rw [run_bind] at h
    obtain ⟨o', t, l, ho, hgen, hsh, h1⟩ := of_rowAny h
    obtain ⟨_, o, e1, _, e2⟩ := hv
    rw [ho] at e1; cases e1
    have e2 := e2 hgen.symm
    simp only [RowH, hsh] at e2
    obtain ⟨_, b, c, e, _⟩ := e2
    exact ⟨_, b, c, h1, e⟩
  · cases h
theorem op_len [Str] (hT : TabOK P E) (hg : Good B X) (htm : ∀ t, HV X (tm t) (a.eval (.tmp t))) (hn : Then B X a o.dst K r next) {c : Call} (ho : o.op = .call c) (hc : c.callee = .builtin .len)
    (h : (match c.argTypes.toList, evl tm c.args.toList with
      | [t], [x] => (match E.T t, x with
        | some .str, .str s => Prog.ret (SV.int .i64 (s.size : Int))
        | some (.list _), x => (do let n ← lenP x; pure (.int .i64 n))
        | _, _ => .fail)
      | _, _ => .fail).run X.O K = some r) : o.wp P a X.w next Q := by
  split at h
  · rename_i t x ht hx
    obtain ⟨xo, e1, rfl⟩ := evl_one hx
    have e2 := arr_of e1
    have e3 := arr_of ht
    have hv := HV.eval htm xo
    split at h
    · rename_i s hs hss
      rw [hss] at hv
      have hu : P.underlying t = some .string := (hT _ _ hs).2
      refine hn.now (v := .int .i64 (s.size : Int)) (val := .int .i64 (s.size : Int)) hg h rfl ?_
      simp [execOp, ho, resolve, hc, invoke, builtin, e2, e3, show a.eval xo = _ from hv, Builtin.len_, run_underlying hu, goInt]
    · rename_i e hs
      obtain ⟨_, te, hu, _⟩ := hT _ _ hs
      rw [run_bind] at h
      obtain ⟨n, b, cp, h1, hval⟩ := of_lenP hg hv h
      refine hn.now (v := .int .i64 (n : Int)) (val := .int .i64 (n : Int)) hg h1 rfl ?_
      simp [execOp, ho, resolve, hc, invoke, builtin, e2, e3, hval, Builtin.len_, run_underlying hu, goInt]
    · cases h
  · cases h
theorem op_cap [Str] (hT : TabOK P E) (hg : Good B X) (htm : ∀ t, HV X (tm t) (a.eval (.tmp t))) (hn : Then B X a o.dst K r next) {c : Call} (ho : o.op = .call c) (hc : c.callee = .builtin .cap)
    (h : (match c.argTypes.toList, evl tm c.args.toList with
      | [t], [.nil] => (match E.T t with | some (.list _) => Prog.ret (SV.int .i64 0) | _ => .fail)
      | _, _ => .fail).run X.O K = some r) : o.wp P a X.w next Q := by
  split at h
  · rename_i t ht hx
    obtain ⟨xo, e1, e4⟩ := evl_one hx
    have e2 := arr_of e1
    have e3 := arr_of ht
    have hv := HV.eval htm xo
    rw [← e4] at hv
    split at h
    · rename_i e hs
      obtain ⟨_, te, hu, _⟩ := hT _ _ hs
      refine hn.now (v := .int .i64 0) (val := .int .i64 0) hg h rfl ?_
      have hv : a.eval xo = .slice none 0 0 := hv
      simp [execOp, ho, resolve, hc, invoke, builtin, e2, e3, hv, Builtin.cap_, run_underlying hu, goInt]
    · cases h
  · cases h
theorem op_max [Str] (hg : Good B X) (htm : ∀ t, HV X (tm t) (a.eval (.tmp t))) (hn : Then B X a o.dst K r next) {c : Call} (ho : o.op = .call c) (hc : c.callee = .builtin .max)
    (h : (match evl tm c.args.toList with
      | [.int k a, .int k' b] => if k = k' then Prog.ret (SV.int k (max a b)) else .fail
      | _ => .fail).run X.O K = some r) : o.wp P a X.w next Q := by
  split at h
  · rename_i k x k' y hx
    obtain ⟨xo, yo, e1, e4, e5⟩ := evl_two hx
    have e2 := arr_of e1
    have hvx := HV.eval htm xo
    have hvy := HV.eval htm yo
    rw [← e4] at hvx
    rw [← e5] at hvy
    rw [run_ite] at h
    split at h
    · rename_i ek; subst ek
      refine hn.now (v := .int k (max x y)) (val := .int k (max x y)) hg h rfl ?_
      have : (if y > x then y else x) = max x y := by rw [Int.max_def]; split <;> split <;> omega
      simp [execOp, ho, resolve, hc, invoke, builtin, e2, show a.eval xo = _ from hvx, show a.eval yo = _ from hvy, run_max_int2]
      exact this
    · cases h
  · cases h
theorem op_min [Str] (hg : Good B X) (htm : ∀ t, HV X (tm t) (a.eval (.tmp t))) (hn : Then B X a o.dst K r next) {c : Call} (ho : o.op = .call c) (hc : c.callee = .builtin .min)
    (h : (match evl tm c.args.toList with
      | [.int k a, .int k' b] => if k = k' then Prog.ret (SV.int k (min a b)) else .fail
      | _ => .fail).run X.O K = some r) : o.wp P a X.w next Q := by
  split at h
  · rename_i k x k' y hx
    obtain ⟨xo, yo, e1, e4, e5⟩ := evl_two hx
    have e2 := arr_of e1
    have hvx := HV.eval htm xo
    have hvy := HV.eval htm yo
    rw [← e4] at hvx
    rw [← e5] at hvy
    rw [run_ite] at h
    split at h
    · rename_i ek; subst ek
      refine hn.now (v := .int k (min x y)) (val := .int k (min x y)) hg h rfl ?_
      have : (if y < x then y else x) = min x y := by rw [Int.min_def]; split <;> split <;> omega
      simp [execOp, ho, resolve, hc, invoke, builtin, e2, show a.eval xo = _ from hvx, show a.eval yo = _ from hvy, run_min_int2]
      exact this
    · cases h
  · cases h
/-! slicing -/
theorem sliceL_len {α : Type} : ∀ (b : Option Nat × Option Nat) (l : List α) (lo hi : Nat), lo = b.1.getD 0 → hi = b.2.getD l.length → lo ≤ hi → hi ≤ l.length → (sliceL b l).length = hi - lo
  | (none, none), l, lo, hi, h1, h2, _, _ => by subst h1 h2; simp [sliceL]
  | (some x, none), l, lo, hi, h1, h2, _, _ => by subst h1 h2; simp [sliceL]
  | (none, some y), l, lo, hi, h1, h2, _, h => by subst h1 h2; simp [sliceL] at *; omega
  | (some x, some y), l, lo, hi, h1, h2, _, h => by subst h1 h2; simp [sliceL] at *; omega
theorem subView_of {α : Type} (v : View) (l : List α) (hf : v.fits l) (b : Option Nat × Option Nat) (h1 : b.1.getD 0 ≤ b.2.getD (v.of l).length) (h2 : b.2.getD (v.of l).length ≤ (v.of l).length) :
    (subView v b.1 b.2).of l = sliceL b (v.of l) ∧ (subView v b.1 b.2).lo = v.lo + b.1.getD 0 ∧ (subView v b.1 b.2).fits l := by
  obtain ⟨lo, hi⟩ := b
  cases v <;> cases lo <;> cases hi <;> simp only [subView, View.of, sliceL, View.lo, View.fits, Option.getD_none, Option.getD_some, List.length_take, List.length_drop, Nat.add_zero, Nat.zero_add] at * <;>
    refine ⟨?_, ?_, ?_⟩ <;> first
      | trivial
      | rfl
      | omega
      | (refine ⟨?_, ?_⟩ <;> omega)
      | (apply List.ext_getElem?; intro i; simp only [List.getElem?_take, List.getElem?_drop]; repeat' split
         all_goals first | rfl | omega | (congr 1; omega))
theorem of_boundsP [Str] {n : Nat} {lo hi : Option SV} {K : Option Nat × Option Nat → Objs → Option R} (h : (boundsP (n : Int) lo hi).run X.O K = some r) {vl vh : Option Value}
    (hl : ∀ s, lo = some s → ∃ v, vl = some v ∧ HV X s v) (hl' : lo = none → vl = none) (hh : ∀ s, hi = some s → ∃ v, vh = some v ∧ HV X s v) (hh' : hi = none → vh = none) (isS : Bool) (cap : Nat) (hcap : n ≤ cap) :
    ∃ b : Option Nat × Option Nat, K b X.O = some r ∧ b.1.getD 0 ≤ b.2.getD n ∧ b.2.getD n ≤ n ∧ (Instr.sliceBounds isS n cap vl vh none).run P X.w = .ok (b.1.getD 0, b.2.getD n, cap) X.w := by
  unfold boundsP at h
  split at h
  · rw [hl' rfl, hh' rfl]
    exact ⟨(none, none), h, by simp, by simp, by simp [Instr.sliceBounds]⟩
  · rename_i k x
    obtain ⟨v, rfl, hv⟩ := hl _ rfl
    rw [hh' rfl]
    cases hv
    rw [run_bind] at h
    obtain ⟨⟨b1, b2⟩, h⟩ := of_need h
    refine ⟨(some x.toNat, none), h, by simp; omega, by simp, ?_⟩
    simp [Instr.sliceBounds, Instr.sliceBound, asIntOf, b1, b2]
  · rename_i k x
    obtain ⟨v, rfl, hv⟩ := hh _ rfl
    rw [hl' rfl]
    cases hv
    rw [run_bind] at h
    obtain ⟨⟨b1, b2⟩, h⟩ := of_need h
    have b3 : x ≤ (cap : Int) := by omega
    refine ⟨(none, some x.toNat), h, by simp, by simp; omega, ?_⟩
    simp [Instr.sliceBounds, Instr.sliceBound, asIntOf, b1, b3]
  · rename_i k x k' y
    obtain ⟨v, rfl, hv⟩ := hl _ rfl
    obtain ⟨v', rfl, hv'⟩ := hh _ rfl
    cases hv
    cases hv'
    rw [run_bind] at h
    obtain ⟨⟨b1, b2, b4⟩, h⟩ := of_need h
    have b3 : y ≤ (cap : Int) := by omega
    have b5 : 0 ≤ y := by omega
    have b6 : x ≤ max y 0 := by omega
    refine ⟨(some x.toNat, some y.toNat), h, by simp; omega, by simp; omega, ?_⟩
    simp [Instr.sliceBounds, Instr.sliceBound, asIntOf, b1, b3, b5, b6]
  · cases h
end
end Go.Ev
namespace Go.Ev
open Go.RowKit
section
variable {P : Program} {E : Env} {B : Base} {X : Cx} {tm : Nat → SV} {a : Act} {o : Oper} {nm : Nat} {R : Type} {K : SV → Objs → Option R} {r : R} {next : Act → World → Prop} {Q : Exit → Act → World → Prop}
theorem opt_eval [Str] (htm : ∀ t, HV X (tm t) (a.eval (.tmp t))) (x : Option Operand) : (∀ s, x.map (evalS tm) = some s → ∃ v, x.map a.eval = some v ∧ HV X s v) ∧ (x.map (evalS tm) = none → x.map a.eval = none) := by
  cases x with
  | none => exact ⟨fun s h => (by cases h), fun _ => rfl⟩
  | some x => exact ⟨fun s h => (by cases h; exact ⟨_, rfl, HV.eval htm x⟩), fun h => (by cases h)⟩
theorem One.slice (b : Option Addr) (n c : Nat) : One (.slice b n c) := rfl
theorem op_slice [Str] (hT : TabOK P E) (hg : Good B X) (htm : ∀ t, HV X (tm t) (a.eval (.tmp t))) (hn : Then B X a o.dst K r next) {t : TypeId} {x : Operand} {lo hi : Option Operand} (ho : o.op = .slice t x lo hi none)
    (h : (match E.T t, evalS tm x with
    | some .str, .str s => (do let b ← boundsP (s.size : Int) (lo.map (evalS tm)) (hi.map (evalS tm)); pure (SV.str (sliceB b s)) : Prog SV)
    | some (.list e), .lst t l => do
      sure (tyEq t e)
      let b ← boundsP (l.length : Int) (lo.map (evalS tm)) (hi.map (evalS tm))
      pure (.lst t (sliceL b l))
    | some (.list e), .row n g v => do
      let x ← rowAt n g
      sure (tyEq x.1 e)
      let b ← boundsP ((v.of x.2).length : Int) (lo.map (evalS tm)) (hi.map (evalS tm))
      pure (.row n g (subView v b.1 b.2))
    | some (.list _), .nil => do
      let _ ← boundsP 0 (lo.map (evalS tm)) (hi.map (evalS tm))
      pure .nil
    | _, _ => .fail).run X.O K = some r) : o.wp P a X.w next Q := by
  obtain ⟨l1, l2⟩ := opt_eval htm lo
  obtain ⟨m1, m2⟩ := opt_eval htm hi
  have hv := HV.eval htm x
  split at h
  · rename_i s ht hs
    rw [hs] at hv
    have hu : P.underlying t = some .string := (hT _ _ ht).2
    rw [run_bind] at h
    obtain ⟨b, h1, h2, h3, h4⟩ := of_boundsP (P := P) h l1 l2 m1 m2 false s.size (Nat.le_refl _)
    refine hn.now (v := .str (sliceB b s)) (val := .string (sliceB b s)) hg h1 rfl ?_
    have e : sliceB b s = s.extract (b.1.getD 0) (b.2.getD s.size) := by
      obtain ⟨x, y⟩ := b
      cases x <;> cases y <;> rfl
    rw [e]
    simp [execOp, ho, Instr.sliceAt, Instr.slice, run_underlying hu, show a.eval x = _ from hv, h4]
  · rename_i e t' l ht hs
    rw [hs] at hv
    rw [run_bind] at h
    obtain ⟨h0, hN⟩ := of_sure h
    clear h
    have h := hN
    clear hN
    have h0 := tyEq_of h0
    subst h0
    obtain ⟨_, te, hu, hi⟩ := hT _ _ ht
    obtain ⟨ad, cap, es, h5, h6, h7, h8⟩ := Seen.of_list hv
    have hv' := hv
    obtain ⟨ad', cap', h5', _, h8'⟩ := hv
    simp only [List.cons.injEq, and_true] at h5'
    rw [h5] at h5'
    cases h5'
    rw [run_bind] at h
    obtain ⟨b, h1, h2, h3, h4⟩ := of_boundsP (P := P) h l1 l2 m1 m2 true cap h6
    have hlen := sliceL_len b l _ _ rfl rfl h2 h3
    have hsz := hi.sizeOf X.w
    refine hn.now (v := .lst t' (sliceL b l)) (val := .slice (if cap = b.1.getD 0 then ad else ad.map (·.add (b.1.getD 0 * t'.size))) (b.2.getD l.length - b.1.getD 0) (cap - b.1.getD 0)) hg h1 ?_ ?_
    · refine ⟨_, _, by rw [← hlen], by rw [hlen]; omega, fun hne => ?_⟩
      have hs0 : sliceL b ([] : List t'.den) = [] := by obtain ⟨x, y⟩ := b; cases x <;> cases y <;> simp [sliceL]
      have hne' : l ≠ [] := fun e => hne (by rw [e]; exact hs0)
      have hcap : ¬ cap = b.1.getD 0 := fun e => hne (List.eq_nil_of_length_eq_zero (by rw [hlen]; omega))
      obtain ⟨bb, off, es', k1, k2, k3, k4⟩ := h8' hne'
      rw [if_neg hcap, k1]
      refine ⟨bb, off + b.1.getD 0 * t'.size, ?_⟩
      have key : ∃ fs, Elem (RC X.w X.G t') (sliceL b l) fs ∧ X.w.rangeAt bb (off + b.1.getD 0 * t'.size) fs := by
        obtain ⟨x, y⟩ := b
        cases x with
        | none =>
          cases y with
          | none => exact ⟨es', k3, by simpa using k4⟩
          | some y => exact ⟨_, k3.take (fun _ _ h => RC.len h) y, by simpa using rangeAt_take k4 _⟩
        | some x =>
          cases y with
          | none => exact ⟨_, k3.drop (fun _ _ h => RC.len h) x, by simpa using rangeAt_drop k4 (x * t'.size)⟩
          | some y => exact ⟨_, (k3.take (fun _ _ h => RC.len h) y).drop (fun _ _ h => RC.len h) x, by simpa using rangeAt_drop (rangeAt_take k4 (y * t'.size)) (x * t'.size)⟩
      obtain ⟨fs, f1, f2⟩ := key
      exact ⟨fs, by simp [Addr.add_mid], k2, f1, f2⟩
    · simp [execOp, ho, Instr.sliceAt, Instr.slice, run_underlying hu, h5, h4, hsz]
  · rename_i e n g v ht hs
    rw [hs] at hv
    rw [run_bind] at h
    obtain ⟨fr, t', l, hob, hN⟩ := of_rowAt h
    clear h
    have h := hN
    clear hN
    rw [run_bind] at h
    obtain ⟨h0, hN⟩ := of_sure h
    clear h
    have h := hN
    clear hN
    have h0 := tyEq_of h0
    dsimp only at h0
    subst h0
    obtain ⟨_, te, hu, hi⟩ := hT _ _ ht
    obtain ⟨_, ob, e1, _, e2⟩ := hv
    rw [hob] at e1; cases e1
    obtain ⟨hfit, ad, cap, h5, h6, h7⟩ := e2 rfl
    rw [run_bind] at h
    obtain ⟨b, h1, h2, h3, h4⟩ := of_boundsP (P := P) h l1 l2 m1 m2 true cap h6
    have h2 : b.1.getD 0 ≤ b.2.getD (v.of l).length := h2
    have h3 : b.2.getD (v.of l).length ≤ (v.of l).length := h3
    obtain ⟨s1, s2, s3⟩ := subView_of v l hfit b h2 h3
    have hlen := sliceL_len b (v.of l) _ _ rfl rfl h2 h3
    have hsz := hi.sizeOf X.w
    refine hn.now (v := .row n g (subView v b.1 b.2)) (val := .slice (if cap = b.1.getD 0 then ad else ad.map (·.add (b.1.getD 0 * t'.size))) (b.2.getD (v.of l).length - b.1.getD 0) (cap - b.1.getD 0)) hg h1 ?_ ?_
    · refine ⟨rfl, _, hob, Nat.le_refl _, fun _ => ⟨s3, _, _, by rw [s1, hlen], by rw [s1, hlen]; omega, ?_⟩⟩
      cases hb : X.β n with
      | none =>
        rw [hb] at h7
        obtain ⟨rfl, rfl⟩ := h7
        exact ⟨rfl, by omega⟩
      | some bb =>
        rw [hb] at h7
        obtain ⟨c, e, k1, k2⟩ := h7
        refine ⟨c, e, k1, ?_⟩
        by_cases hc : cap = b.1.getD 0
        · exact .inl (by omega)
        · rcases k2 with k2 | ⟨k2, k3⟩
          · exact .inl (by omega)
          · refine .inr ⟨?_, ?_⟩
            · rw [if_neg hc, k2, s2]
              simp [Addr.add_mid, Nat.add_mul]
            · rw [s2, ← k3]
              congr 1
              have : b.1.getD 0 ≤ cap := by omega
              omega
    · simp [execOp, ho, Instr.sliceAt, Instr.slice, run_underlying hu, h5, h4, hsz]
  · rename_i e ht hs
    rw [hs] at hv
    obtain ⟨_, te, hu, hi⟩ := hT _ _ ht
    rw [run_bind] at h
    obtain ⟨b, h1, h2, h3, h4⟩ := of_boundsP (P := P) (n := 0) h l1 l2 m1 m2 true 0 (Nat.le_refl _)
    have hsz := hi.sizeOf X.w
    have e0 : b.1.getD 0 = 0 := by omega
    have e1 : b.2.getD 0 = 0 := by omega
    rw [e0, e1] at h4
    have hv : a.eval x = .slice none 0 0 := hv
    refine hn.now (v := .nil) (val := .slice none 0 0) hg h1 rfl ?_
    simp [execOp, ho, Instr.sliceAt, Instr.slice, run_underlying hu, hv, h4, hsz]
  · cases h
theorem op_indexAddr [Str] (hT : TabOK P E) (hg : Good B X) (htm : ∀ t, HV X (tm t) (a.eval (.tmp t))) (hn : Then B X a o.dst K r next) {t : TypeId} {x ix : Operand} (ho : o.op = .indexAddr t x ix)
    (h : (match E.T t, evalS tm x, evalS tm ix with
    | some (.list e), .lst u l, .int _ i => (do sure (tyEq u e); need (0 ≤ i ∧ i < (l.length : Int)); pure (SV.ptrF u l i.toNat 0) : Prog SV)
    | some (.list e), .row n g v, .int _ i => do
      let x ← rowAny n g
      sure (tyEq x.1 e)
      need (0 ≤ i ∧ i < ((v.of x.2).length : Int))
      pure (.ptrE n g (bif v.isLo then i.toNat else v.lo + i.toNat) 0)
    | some (.arr m e), .ptr n g off, .int _ i => do aliveP (.ptr n g off); need (0 ≤ i ∧ i < (m : Int)); pure (.ptrA n g off i.toNat 0 e.size m)
    | some (.pair a b), p, .int _ i => do
      let i ← must (isOf i)
      let d ← must ((Ty.pair a b).field i)
      sure (E.arrs t)
      aliveP p
      must (moveP p d.1)
    | _, _, _ => .fail).run X.O K = some r) : o.wp P a X.w next Q := by
  have hv := HV.eval htm x
  have hi := HV.eval htm ix
  split at h
  · rename_i e u l k i ht hs hs'
    rw [hs] at hv
    rw [hs'] at hi
    rw [run_bind] at h
    obtain ⟨h0, hN⟩ := of_sure h
    clear h
    have h := hN
    clear hN
    have h0 := tyEq_of h0
    subst h0
    rw [run_bind] at h
    obtain ⟨⟨b1, b2⟩, hN⟩ := of_need h
    clear h
    have h := hN
    clear hN
    obtain ⟨_, te, hu, hinf⟩ := hT _ _ ht
    obtain ⟨ad, cap, h5, _, h8⟩ := hv
    simp only [List.cons.injEq, and_true] at h5
    have b2' : i < (List.length l : Int) := b2
    obtain ⟨bb, off, es, k1, k2, k3, k4⟩ := h8 (fun e => by rw [e] at b2'; simp at b2'; omega)
    have hlt : i.toNat < List.length l := by omega
    have hsz := hinf.sizeOf X.w
    refine hn.now (v := .ptrF u l i.toNat 0) (val := .pointer (some ⟨bb, off + i.toNat * u.size, none⟩)) hg h ⟨hlt, bb, off, es, rfl, k2, k3, k4⟩ ?_
    simp [execOp, ho, show a.eval ix = _ from hi, h5, k1, Instr.indexAt, asIntOf, run_underlying hu, b1, b2, hsz, Addr.add_mid]
  · rename_i e n g v k i ht hs hs'
    rw [hs] at hv
    rw [hs'] at hi
    rw [run_bind] at h
    obtain ⟨ob', t', l, hob, hgen, hsh, hN⟩ := of_rowAny h
    clear h
    have h := hN
    clear hN
    rw [run_bind] at h
    obtain ⟨h0, hN⟩ := of_sure h
    clear h
    have h := hN
    clear hN
    have h0 := tyEq_of h0
    dsimp only at h0
    subst h0
    rw [run_bind] at h
    obtain ⟨⟨b1, b2⟩, hN⟩ := of_need h
    clear h
    have h := hN
    clear hN
    obtain ⟨_, te, hu, hinf⟩ := hT _ _ ht
    obtain ⟨_, ob, e1, _, e2⟩ := hv
    rw [hob] at e1; cases e1
    have e2 := e2 hgen.symm
    simp only [RowH, hsh] at e2
    obtain ⟨hfit, ad, cap, h5, h6, h7⟩ := e2
    dsimp only at b2
    have hsz := hinf.sizeOf X.w
    have hlo : (bif v.isLo then i.toNat else v.lo + i.toNat) = v.lo + i.toNat := by cases v <;> simp [View.isLo, View.lo]
    have hin : v.lo + i.toNat < l.length := by
      cases v <;> simp only [View.of, View.lo, View.fits, List.length_take, List.length_drop] at * <;> omega
    cases hb : X.β n with
    | none =>
      rw [hb] at h7
      obtain ⟨rfl, _⟩ := h7
      simp at hin
    | some bb =>
      rw [hb] at h7
      obtain ⟨c, ee, k1, k2⟩ := h7
      rcases k2 with k2 | ⟨k2, k3⟩
      · omega
      refine hn.now (val := .pointer (some ⟨bb, (v.lo + i.toNat) * t'.size, none⟩)) hg h ⟨rfl, _, hob, Nat.le_of_eq hgen.symm, fun _ => by simp only [hsh]; exact ⟨by rw [hlo]; exact hin, bb, hb, by rw [hlo]; rfl⟩⟩ ?_
      simp [execOp, ho, show a.eval ix = _ from hi, h5, k2, Instr.indexAt, asIntOf, run_underlying hu, b1, b2, hsz, Addr.add_mid, Nat.add_mul]
  · rename_i m e n g off k i ht hs hs'
    rw [hs] at hv
    rw [hs'] at hi
    rw [run_bind] at h
    unfold aliveP at h
    rw [run_bind] at h
    obtain ⟨fr, cs, hob, _, hN⟩ := of_boxAt h
    clear h
    have h := hN
    clear hN
    rw [run_pure, run_bind] at h
    obtain ⟨⟨b1, b2⟩, hN⟩ := of_need h
    clear h
    have h := hN
    clear hN
    obtain ⟨_, te, hu, hinf⟩ := hT _ _ ht
    obtain ⟨_, ob, e1, _, e2⟩ := hv
    rw [hob] at e1; cases e1
    obtain ⟨bb, hb, hval⟩ := e2 rfl
    have hsz := hinf.sizeOf X.w
    refine hn.now (val := .pointer (some ⟨bb, off + i.toNat * e.size, none⟩)) hg h ⟨rfl, _, hob, Nat.le_refl _, fun _ => ⟨by omega, bb, hb, rfl⟩⟩ ?_
    simp [execOp, ho, show a.eval ix = _ from hi, hval, Instr.indexAt, asIntOf, run_underlying hu, Instr.sureAddr, b1, b2, hsz, Addr.add_mid]
  · rename_i ta tb k i ht hs'
    rw [hs'] at hi
    rw [run_bind] at h
    obtain ⟨j, hj, hN⟩ := of_must h
    clear h
    have h := hN
    clear hN
    rw [run_bind] at h
    obtain ⟨⟨d, u⟩, h3, hN⟩ := of_must h
    clear h
    have h := hN
    clear hN
    rw [run_bind] at h
    obtain ⟨h5, hN⟩ := of_sure h
    clear h
    have h := hN
    clear hN
    rw [run_bind] at h
    obtain ⟨h7, b, off, h8⟩ := of_alive hg hv h
    obtain ⟨q, h9, h10⟩ := of_must h7
    rw [h8] at hv
    have hq := of_moveP hv h9
    obtain ⟨n, te, k1, k2, k3, k4⟩ := ((hT _ _ ht).parts h3).2 h5
    have hij : i = (j : Int) := by
      unfold isOf at hj
      split at hj
      · cases hj; rfl
      · cases hj
    subst hij
    have hsz := k2.sizeOf X.w
    refine hn.now hg h10 hq ?_
    have hlt : (j : Int) < (n : Int) := by omega
    subst k4
    simp [execOp, ho, show a.eval ix = _ from hi, h8, Instr.indexAt, asIntOf, run_underlying k1, Instr.sureAddr, hsz, Addr.add_mid, k3]
  · cases h
theorem op_index [Str] (hT : TabOK P E) (hg : Good B X) (htm : ∀ t, HV X (tm t) (a.eval (.tmp t))) (hn : Then B X a o.dst K r next) {ti : TypeId} {x ix : Operand} (ho : o.op = .index ti x ix)
    (h : (match evalS tm x, evalS tm ix with
    | .str s, .int _ i => (do
      let t ← must (E.T ti)
      sure (tyEq t .str)
      need (0 ≤ i ∧ i < (s.size : Int))
      pure (SV.int .u8 (s.data.toList.getD i.toNat 0).toNat) : Prog SV)
    | .agg fs, .int _ i => do
      sure (E.arrs ti)
      let t ← must (E.T ti)
      let i ← must (isOf i)
      let d ← must (t.field i)
      let l ← must (cutCells fs d.1 d.2.size)
      pure (mk d.2 l)
    | _, _ => .fail).run X.O K = some r) : o.wp P a X.w next Q := by
  have hv := HV.eval htm x
  have hi := HV.eval htm ix
  split at h
  · rename_i s k i hs hs'
    rw [hs] at hv
    rw [hs'] at hi
    rw [run_bind] at h
    obtain ⟨t, ht, hN⟩ := of_must h
    clear h
    have h := hN
    clear hN
    rw [run_bind] at h
    obtain ⟨h0, hN⟩ := of_sure h
    clear h
    have h := hN
    clear hN
    have h0 := tyEq_of h0
    subst h0
    rw [run_bind] at h
    obtain ⟨⟨b1, b2⟩, hN⟩ := of_need h
    clear h
    have h := hN
    clear hN
    have hu : P.underlying ti = some .string := (hT _ _ ht).2
    have hlt : i.toNat < s.size := by omega
    refine hn.now (v := .int .u8 (s.data.toList.getD i.toNat 0).toNat) (val := .int .u8 (s.data.toList.getD i.toNat 0).toNat) hg h rfl ?_
    have e1 : s.data.toList.getD i.toNat 0 = s[i.toNat] := by
      have : i.toNat < s.data.toList.length := by simpa using hlt
      rw [List.getD_eq_getElem?_getD, List.getElem?_eq_getElem this]
      simp [ByteArray.getElem_eq_getElem_data]
    rw [e1]
    simp [execOp, ho, show a.eval x = _ from hv, show a.eval ix = _ from hi, Instr.index, asIntOf, run_underlying hu, b1, hlt]
  · rename_i fs k i hs hs'
    rw [hs] at hv
    rw [hs'] at hi
    rw [run_bind] at h
    obtain ⟨h5, hN⟩ := of_sure h
    clear h
    have h := hN
    clear hN
    rw [run_bind] at h
    obtain ⟨t, ht, hN⟩ := of_must h
    clear h
    have h := hN
    clear hN
    rw [run_bind] at h
    obtain ⟨j, hj, hN⟩ := of_must h
    clear h
    have h := hN
    clear hN
    rw [run_bind] at h
    obtain ⟨⟨d, u⟩, h3, hN⟩ := of_must h
    clear h
    have h := hN
    clear hN
    rw [run_bind] at h
    obtain ⟨l, h6, h7⟩ := of_must h
    obtain ⟨n, te, k1, k2, k3, k4⟩ := ((hT _ _ ht).parts h3).2 h5
    have hij : i = (j : Int) := by
      unfold isOf at hj
      split at hj
      · cases hj; rfl
      · cases hj
    subst hij
    obtain ⟨c, e, hl⟩ := hv
    obtain ⟨f1, f2, f3⟩ := of_cutCells hl h6
    have hsz := k2.sizeOf X.w
    have hp := run_part k2 X.w c d f3
    refine hn.now hg h7 (HV.mk f1 f2) ?_
    have hlt : (j : Int) < (n : Int) := by omega
    dsimp only at f3 hp ⊢
    subst k4
    simp [execOp, ho, e, show a.eval ix = _ from hi, Instr.index, asIntOf, run_underlying k1, hsz, hp, k3]
  · cases h
end
end Go.Ev
namespace Go.Ev
open Go.RowKit
theorem growBy_le (n : Nat) : ∀ (k c : Nat), c ≤ 2 * n + 200 → Builtin.growBy n k c ≤ 2 * n + 200
  | 0, c, h => h
  | k + 1, c, h => by
    simp only [Builtin.growBy]
    split
    · exact h
    · exact growBy_le n k _ (by omega)
theorem nextslicecap_le [Str] (n c : Nat) (h : c < n) : Builtin.nextslicecap n c ≤ 2 * n + 200 := by
  unfold Builtin.nextslicecap
  split
  · omega
  · split
    · omega
    · exact growBy_le n 4 c (by omega)
theorem grownCap_ge (w : World) (need old : Nat) (e : TypeId) : need ≤ grownCap w need old e := by
  unfold grownCap
  simp [Question.cut]
theorem zeroCells_len (z : Array Value) (n : Nat) : (Builtin.zeroCells z n).size = n * z.size := by simp [Builtin.zeroCells]
section
variable {P : Program} {E : Env} {B : Base} {X : Cx} {tm : Nat → SV} {a : Act} {o : Oper} {nm : Nat} {R : Type} {K : SV → Objs → Option R} {r : R} {next : Act → World → Prop} {Q : Exit → Act → World → Prop}
/-- what is appended -/
theorem Seen.src {t te : TypeId} {e : Ty} {l : List e.den} {val : Value} (h : Seen X e l val) (hu : P.underlying t = some (.slice te)) :
    ∃ news, Elem (RC X.w X.G e) l news ∧ Src P e.size t val l.length news X.w := by
  obtain ⟨b, cap, es, h1, h2, h3, h4⟩ := h
  have hl := Elem.len (fun _ _ h => RC.len (t := e) h) h3
  have h1' := Elem.all (fun _ _ h => RC.one (t := e) h) h3
  refine ⟨es, h3, ?_⟩
  subst h1
  cases b with
  | none =>
    cases l with
    | nil => cases h3; exact Src.ofNil X.w hu cap
    | cons x l => obtain ⟨b, off, e1, _⟩ := h4 (by simp); cases e1
  | some ad =>
    refine Src.ofSlice X.w hu ad _ _ es hl (fun j u hj => ?_) h1'
    have hne : l ≠ [] := fun e0 => by
      subst e0
      cases h3
      simp at hj
    obtain ⟨bb, off, e1, e2⟩ := h4 hne
    cases e1
    rw [Addr.add_mid]
    exact e2 j u hj
/-- a new row: what was there, and what is appended -/
theorem grow_row [Str] {t tx te : TypeId} {e : Ty} (hg : Good B X) (hu : P.underlying t = some (.slice te)) (hi : InfoOK P te e) {base : Option Addr} {cap : Nat} {l m : List e.den} {es : List Value} {x : Value} {news : List Value}
    (hes : Elem (RC X.w X.G e) l es) (hold : (Builtin.firstCells e.size l.length (.slice base l.length cap)).run P X.w.drew = .ok es.toArray X.w.drew)
    (hm : Elem (RC X.w X.G e) m news) (hs : Src P e.size tx x m.length news X.w) (hc : cap < l.length + m.length) (hb : l.length + m.length ≤ most) (ty : TypeId) :
    ∃ (cap' : Nat) (c : Array Value) (sp : List Value), (Builtin.append_ #[t, tx] ty #[.slice base l.length cap, x]).run P X.w = .ok (.slice (some ⟨X.w.heap.size, 0, none⟩) (l ++ m).length cap') (X.w.drew.alloc (.cells c te)) ∧
      c.toList = (es ++ news) ++ sp ∧ c.size = cap' * e.size ∧ (l ++ m).length ≤ cap' := by
  obtain ⟨i, i1, i2, i3, i4⟩ := hi.get
  rw [← i2] at hs hold
  unfold most at hb
  have hfit : Builtin.nextslicecap (l.length + m.length) cap * i.bytes ≤ 281474976710656 := by
    have h1 := nextslicecap_le (l.length + m.length) cap hc
    have h2 := Nat.mul_le_mul h1 i4
    omega
  have hrun := run_append_grow_src (P := P) X.w t tx ty te i _ hu i1 i3 base l.length cap es hold x m.length news hs hc (by omega) hfit
  have hz : (zeros e).length = e.size := RC.len (RC.zeros (w := X.w) (G := X.G) e)
  refine ⟨_, _, (Builtin.zeroCells (zeros e).toArray (grownCap X.w (l.length + m.length) cap te - (l.length + m.length))).toList, by rw [List.length_append]; exact hrun, ?_, ?_, ?_⟩
  · rw [zeros_cells]; simp
  · rw [zeros_cells]
    have h1 := Elem.len (fun _ _ h => RC.len (t := e) h) hes
    have h2 := Elem.len (fun _ _ h => RC.len (t := e) h) hm
    have h3 := grownCap_ge X.w (l.length + m.length) cap te
    simp only [Array.size_append, List.size_toArray, List.length_append, zeroCells_len, h1, h2, hz]
    rw [← Nat.add_mul, ← Nat.add_mul]
    congr 1
    omega
  · rw [List.length_append]; exact grownCap_ge ..
theorem firstCells_seen {e : Ty} {l : List e.den} {base : Option Addr} {cap : Nat} {es : List Value} (hes : Elem (RC X.w X.G e) l es) (h : l ≠ [] → ∃ b off, base = some ⟨b, off, none⟩ ∧ X.w.rangeAt b off es) :
    (Builtin.firstCells e.size l.length (.slice base l.length cap)).run P X.w.drew = .ok es.toArray X.w.drew := by
  have hl := Elem.len (fun _ _ h => RC.len (t := e) h) hes
  cases base with
  | none =>
    cases l with
    | nil => cases hes; exact run_firstCells_none X.w.drew e.size 0 0 cap
    | cons x l => obtain ⟨b, off, e1, _⟩ := h (by simp); cases e1
  | some ad =>
    refine run_firstCells_some X.w.drew e.size _ ad _ cap es hl (fun j u hj => ?_)
    have hne : l ≠ [] := fun e0 => by subst e0; cases hes; simp at hj
    obtain ⟨bb, off, e1, e2⟩ := h hne
    cases e1
    rw [Addr.add_mid]
    exact e2 j u hj
/-- a row of nothing: no block -/
theorem Good.emptyRow [Str] (hg : Good B X) (n : Nat) (o' : Obj) (e : Ty) (ho' : o'.body = .row e []) (hfr : o'.frozen = false) (hold : ∀ o, X.O n = some o → o.frozen = false ∧ o.gen < o'.gen) :
    ∃ X' : Cx, X'.w = X.w ∧ X'.O = X.O.set n o' ∧ Good B X' ∧ Ext X X' ∧ ∀ ad, HV X' (.row n o'.gen .full) (.slice ad 0 0) := by
  obtain ⟨h1, h2⟩ := hg.at n o' none X.w rfl (Td.refl _) rfl (Nat.le_refl _) (fun o h => (hold o h).1) (fun _ _ _ => rfl) (fun b hb => by cases hb) (fun o h => .inl (hold o h).2) hfr (fun hE => by
    simp only [ObjH, ho', setB_same]) (by rw [ho']; rfl)
  refine ⟨⟨X.w, X.G, setB X.β n none, X.O.set n o'⟩, rfl, rfl, h1, h2, fun ad => ⟨rfl, _, set_same _ _ _, Nat.le_refl _, fun _ => ?_⟩⟩
  simp only [RowH, ho', Body.shape, setB_same]
  exact ⟨trivial, ad, 0, rfl, Nat.le_refl _, trivial, rfl⟩
/-- a row in a new block -/
theorem Good.movedRow [Str] (hg : Good B X) (n : Nat) (o' : Obj) (e : Ty) (l : List e.den) (ho' : o'.body = .row e l) (hfr : o'.frozen = false) (hold : ∀ o, X.O n = some o → o.frozen = false ∧ o.gen < o'.gen) {c : Array Value} {te : TypeId} {es sp : List Value} {cap : Nat}
    (hc : c.toList = es ++ sp) (hes : Elem (RC X.w X.G e) l es) (hsz : c.size = cap * e.size) (hcap : l.length ≤ cap) :
    ∃ X' : Cx, X'.w = X.w.drew.alloc (.cells c te) ∧ X'.O = X.O.set n o' ∧ Good B X' ∧ Ext X X' ∧ HV X' (.row n o'.gen .full) (.slice (some ⟨X.w.heap.size, 0, none⟩) l.length cap) := by
  obtain ⟨h1, h2⟩ := hg.at n o' (some X.w.heap.size) (X.w.drew.alloc (.cells c te)) rfl (Td.drew X.w) rfl (by simp) (fun o h => (hold o h).1) (fun b hb _ => (heap_alloc_old X.w.drew _ b hb)) (fun b hb => by cases hb; exact .inr (Nat.le_refl _)) (fun o h => .inl (hold o h).2) hfr (fun hE => by
    simp only [ObjH, ho', setB_same]
    exact ⟨c, te, es, sp, cap, heap_alloc_new X.w.drew _, hc, hes.imp (fun _ _ h => RC.imp hE.g hE.agree h), hsz, hcap⟩) (by rw [ho']; rfl)
  refine ⟨_, rfl, rfl, h1, h2, rfl, _, set_same _ _ _, Nat.le_refl _, fun _ => ?_⟩
  simp only [RowH, ho', Body.shape, setB_same]
  exact ⟨trivial, _, cap, rfl, hcap, c, te, heap_alloc_new X.w.drew _, .inr ⟨by simp [View.lo], by simpa [View.lo] using hsz.symm⟩⟩
/-- a row, longer where it lies -/
theorem Good.longerRow [Str] (hg : Good B X) {n g b off : Nat} {e : Ty} {l : List e.den} (l' : List e.den) (ho : X.O n = some ⟨g, false, .row e l⟩) (hb : X.β n = some b) {c : Array Value} {te : TypeId} {ns : List Value}
    (hc : X.w.heap[b]? = some (.cells c te (0, 0))) (hn : off + ns.length ≤ c.size) {es' sp' : List Value} (hes : Elem (RC X.w X.G e) l' es') (hsp : c.toList.take off ++ (ns ++ c.toList.drop (off + ns.length)) = es' ++ sp') {cap : Nat} (hsz : c.size = cap * e.size) (hcap : l'.length ≤ cap) :
    ∃ X' : Cx, X'.w = X.w.setCells b off ns ∧ X'.O = X.O.set n ⟨Nat.succ g, false, .row e l'⟩ ∧ Good B X' ∧ Ext X X' ∧
      ∀ (ad : Option Addr) (cp : Nat), l'.length ≤ cp → (cp = 0 ∨ (ad = some ⟨b, 0, none⟩ ∧ cp * e.size = c.size)) → HV X' (.row n (Nat.succ g) .full) (.slice ad l'.length cp) := by
  obtain ⟨s1, s2, s3, s4⟩ := setCells_same b ns off X.w
  obtain ⟨c', h1, h2⟩ := heap_setCells b ns off X.w c te hc hn
  have h3 : c'.size = c.size := by
    have := congrArg List.length h2
    simp at this
    omega
  obtain ⟨k1, k2⟩ := hg.at n ⟨Nat.succ g, false, .row e l'⟩ (some b) (X.w.setCells b off ns) s1 s2 s3 (by rw [s4]; exact Nat.le_refl _) (fun o h => by rw [ho] at h; cases h; rfl)
    (fun k _ hk => heap_setCells_other b ns off X.w k (fun e0 => by subst e0; exact hk _ ho hb)) (fun k hk => by cases hk; exact .inl ⟨_, ho, hb⟩) (fun o h => by rw [ho] at h; cases h; exact .inl (Nat.lt_succ_self g)) rfl (fun hE => by
    simp only [ObjH, setB_same]
    exact ⟨c', te, es', sp', cap, h1, by rw [h2, hsp], hes.imp (fun _ _ h => RC.imp hE.g hE.agree h), by rw [h3]; exact hsz, hcap⟩) rfl
  refine ⟨_, rfl, rfl, k1, k2, fun ad cp hcp h4 => ⟨rfl, _, set_same _ _ _, Nat.le_refl _, fun _ => ?_⟩⟩
  simp only [RowH, Body.shape, setB_same]
  refine ⟨trivial, ad, cp, rfl, hcp, c', te, h1, ?_⟩
  rcases h4 with h4 | ⟨h4, h5⟩
  · exact .inl h4
  · exact .inr ⟨by simpa [View.lo] using h4, by rw [h3]; simpa [View.lo] using h5⟩
/-- append(nil, make(..)...) -/
theorem run_append_make [Str] (w : World) (t tx ty e : TypeId) (i : TypeInfo) (z : Value) {k : IntKind} (ht : P.underlying t = some (.slice e)) (hx : P.underlying tx = some (.int k)) (hi : P.info? e = some i) (hz : i.zero = some z) (hzs : z.cells.size = i.size) (x : Value) (m : Nat) (hm : 0 < m)
    (hint : ∀ w', (asInt x).run P w' = .ok (m : Int) w') (hw : IntKind.i64.wrap (m : Int) = (m : Int)) (hfit : m * i.bytes ≤ 281474976710656) :
    (Builtin.append_ #[t, tx] ty #[.slice none 0 0, x]).run P w = .ok (.slice (some ⟨w.heap.size, 0, none⟩) m (grownCap w m 0 e)) (w.drew.alloc (.cells (Builtin.zeroCells z.cells m ++ Builtin.zeroCells z.cells (grownCap w m 0 e - m)) e)) := by
  have hcap : Builtin.nextslicecap m 0 = m := by simp [Builtin.nextslicecap]; omega
  have hn0 : ¬ ((m : Int) < 0) := by omega
  have hh : ¬ (281474976710656 < m * i.bytes) := by omega
  have hb2 : ¬ (281474976710656 < (m : Int) * (i.bytes : Int)) := by
    have : (m : Int) * (i.bytes : Int) = ((m * i.bytes : Nat) : Int) := by push_cast; rfl
    omega
  have h3 : ¬ (9223372036854775807 < (m : Int)) := by
    intro h
    have e1 : (2 : Int) ^ IntKind.i64.bits = 18446744073709551616 := rfl
    have e2 : (2 : Int) ^ (IntKind.i64.bits - 1) = 9223372036854775808 := rfl
    simp only [IntKind.wrap, e1, e2, IntKind.signed] at hw
    simp at hw
    omega
  have h4 : ¬ m = 0 := by omega
  have hfirst := run_firstCells_none (P := P) w.drew i.size 0 0 0
  by_cases hs : m * i.size = 0
  · have hs0 : i.size = 0 := by rcases Nat.mul_eq_zero.1 hs with h | h; omega; exact h
    have hz0 : Builtin.zeroCells z.cells m = #[] := Array.eq_empty_of_size_eq_zero (by rw [zeroCells_len, hzs, hs0, Nat.mul_zero])
    rw [hs0] at hfirst
    simp [Builtin.append_, run_underlying ht, run_underlying hx, sizeOf, typeInfo, zeroValue, hi, hz, hint, hw, hcap, hh, hn0, hb2, h3, h4, hfirst, Question.forced, newRow, grownCap, hz0, hs0]
  · simp [Builtin.append_, run_underlying ht, run_underlying hx, sizeOf, typeInfo, zeroValue, hi, hz, hint, hw, hcap, hh, hn0, hb2, h3, h4, hfirst, Question.forced, newRow, grownCap, hs]
theorem run_append_make0 (w : World) (t tx ty e : TypeId) (i : TypeInfo) {k : IntKind} (ht : P.underlying t = some (.slice e)) (hx : P.underlying tx = some (.int k)) (hi : P.info? e = some i) (x : Value)
    (hint : ∀ w', (asInt x).run P w' = .ok ((0 : Nat) : Int) w') (hw : IntKind.i64.wrap ((0 : Nat) : Int) = ((0 : Nat) : Int)) :
    (Builtin.append_ #[t, tx] ty #[.slice none 0 0, x]).run P w = .ok (.slice none 0 0) w := by
  simp only [Int.ofNat_eq_natCast, Int.natCast_zero, Int.cast_ofNat_Int] at hint hw
  simp [Builtin.append_, run_underlying ht, run_underlying hx, sizeOf, typeInfo, hi, hint, hw]
theorem op_append [Str] (hT : TabOK P E) (hg : Good B X) (htm : ∀ t, HV X (tm t) (a.eval (.tmp t))) (hn : Then B X a o.dst K r next) {c : Call} (ho : o.op = .call c) (hc : c.callee = .builtin .append)
    (h : (match c.argTypes.toList, evl tm c.args.toList with
      | [t, u], [s, x] => (match E.T t, E.T u with
        | some (.list e), some (.list e') => (do sure (tyEq e e'); appendP e s x nm)
        | some (.list e), some (.int _) => (match s, x with
          | .nil, .int _ n => (do
            need (0 ≤ n ∧ n ≤ (most : Int))
            lay nm (.row e (List.replicate n.toNat e.dflt))
            pure (.row nm 0 .full))
          | _, _ => .fail)
        | _, _ => .fail)
      | _, _ => .fail).run X.O K = some r) : o.wp P a X.w next Q := by
  split at h
  · rename_i t u s x ht hx
    obtain ⟨so, xo, e1, e4, e5⟩ := evl_two hx
    have e2 := arr_of e1
    have e3 := arr_of ht
    have hvs := HV.eval htm so
    have hvx := HV.eval htm xo
    rw [← e4] at hvs
    rw [← e5] at hvx
    split at h
    · rename_i e e' hTt hTu
      rw [run_bind] at h
      obtain ⟨h0, hN⟩ := of_sure h
      clear h
      have h0 := tyEq_of h0
      subst h0
      obtain ⟨_, te, hu, hi⟩ := hT _ _ hTt
      obtain ⟨_, te', hu', _⟩ := hT _ _ hTu
      have hexec : ∀ w' v, (Builtin.append_ #[t, u] o.type #[a.eval so, a.eval xo]).run P X.w = .ok v w' → (execOp a.eval o).run P X.w = .ok (.value v) w' := fun w' v hr => by
        simp [execOp, ho, resolve, hc, invoke, builtin, e2, e3, hr]
      unfold appendP at hN
      rw [run_bind] at hN
      obtain ⟨xs, h1, hseen, _⟩ := of_asView hg hvx hN
      clear hN
      obtain ⟨news, hm, hsrc⟩ := hseen.src (P := P) hu'
      -- a slice of nothing, without a block
      have hnil : ∀ (n : Nat) (o' : Obj) (ad : Option Addr), a.eval so = .slice ad 0 0 → o'.body = .row e xs → o'.frozen = false → (∀ o, X.O n = some o → o.frozen = false ∧ o.gen < o'.gen) → K (.row n o'.gen .full) (X.O.set n o') = some r → xs.length ≤ most → o.wp P a X.w next Q := fun n o' ad hval hbd hfr hold hk hmost => by
        cases xs with
        | nil =>
          obtain ⟨X', g1, g2, g3, g4, g5⟩ := hg.emptyRow n o' e hbd hfr hold
          have hrun : (Builtin.append_ #[t, u] o.type #[a.eval so, a.eval xo]).run P X.w = .ok (.slice ad 0 0) X'.w := by
            rw [hval, g1]
            obtain ⟨i, i1, i2, i3, i4⟩ := hi.get
            have hs2 := hsrc
            rw [← i2] at hs2
            have hl := hs2.len X.w
            have hcl := hs2.cells
            have hst : ∀ ad' : Addr, (storeCells ad' []).run P X.w = .ok () X.w := fun _ => rfl
            simp only [List.length_nil] at hl hcl
            cases hm
            rcases hs2.kind with ⟨e0, hk0⟩ | hk0 <;> cases ad <;> simp [Builtin.append_, run_underlying hu, run_underlying hk0, sizeOf, typeInfo, i1, hl, hcl, hst]
          exact wp_val (hexec _ _ hrun) (hn _ X' _ (by rw [g2]; exact hk) g3 g4 (g5 ad))
        | cons y ys =>
          obtain ⟨cap', cc, sp, q1, q2, q3, q4⟩ := grow_row (P := P) (t := t) (tx := u) (base := ad) (cap := 0) (l := []) hg hu hi rfl (firstCells_seen (l := []) rfl (fun h => absurd rfl h)) hm hsrc (by simp) (by simpa using hmost) o.type
          obtain ⟨X', g1, g2, g3, g4, g5⟩ := hg.movedRow n o' e (y :: ys) hbd hfr hold (te := te) q2 (by simpa using hm) q3 q4
          exact wp_val (hexec _ _ (by rw [g1, hval]; exact q1)) (hn _ X' _ (by rw [g2]; exact hk) g3 g4 g5)
      split at h1
      · rw [run_bind] at h1
        obtain ⟨hb, h2⟩ := of_need h1
        rw [run_bind] at h2
        obtain ⟨h3, h4⟩ := of_lay h2
        exact hnil nm ⟨0, false, .row e xs⟩ none hvs rfl rfl (fun o h => by rw [h3] at h; cases h) h4 hb
      · rename_i n g v
        rw [run_bind, run_get] at h1
        split at h1
        · rename_i g' t' l0 hob
          rw [run_bind] at h1
          obtain ⟨h2, h3⟩ := of_sure h1
          rw [run_bind] at h3
          obtain ⟨l, h4, h5⟩ := of_must h3
          clear h1 h3
          obtain ⟨et, rfl⟩ := of_castL h4
          subst et
          rw [run_bind] at h5
          obtain ⟨hb, h6⟩ := of_need h5
          rw [Bool.and_eq_true] at h2
          have := Nat.eq_of_beq_eq_true h2.1
          subst this
          have hlo : v.lo = 0 := by cases v <;> first | rfl | (simp [View.isLo] at h2)
          obtain ⟨_, ob, e1', _, e2'⟩ := hvs
          rw [hob] at e1'; cases e1'
          obtain ⟨hfit, ad, cap, hval, hcap, hbk⟩ := e2' rfl
          have hk : K (.row n (Nat.succ g) .full) (X.O.set n ⟨Nat.succ g, false, .row t' (v.of l0 ++ xs)⟩) = some r := h6
          have hob' := hg.obj n _ hob
          simp only [ObjH] at hob'
          cases hβ : X.β n with
          | none =>
            rw [hβ] at hbk
            obtain ⟨rfl, rfl⟩ := hbk
            have hv0 : v.of ([] : List t'.den) = [] := by cases v <;> simp [View.of]
            rw [hv0] at hk hval hb
            exact hnil n ⟨Nat.succ g, false, .row t' xs⟩ ad hval rfl rfl (fun o h => by rw [hob] at h; cases h; exact ⟨rfl, Nat.lt_succ_self g⟩) (by simpa using hk) (by simpa using hb)
          | some b =>
            rw [hβ] at hbk hob'
            obtain ⟨cc, ee, k1, k2⟩ := hbk
            obtain ⟨c1, ee1, es, sp, cp, k3, k4, k5, k6, k7⟩ := hob'
            rw [k1] at k3; cases k3
            have hr := rangeAt_heap k1
            rw [k4] at hr
            obtain ⟨fs, f1, f2⟩ := k5.view (rangeAt_append_left hr) v
            rw [hlo, Nat.zero_mul] at f2
            have hx : v.of l0 ≠ [] → ∃ b' off, ad = some ⟨b', off, none⟩ ∧ X.w.rangeAt b' off fs := fun hne => by
              rcases k2 with k2 | k2
              · exact absurd (List.eq_nil_of_length_eq_zero (by omega)) hne
              · exact ⟨b, 0, by rw [k2.1, hlo]; simp, f2⟩
            by_cases hroom : (v.of l0).length + xs.length ≤ cap
            · -- there is room
              have hflen := Elem.len (fun _ _ h => RC.len (t := t') h) f1
              have hnlen := Elem.len (fun _ _ h => RC.len (t := t') h) hm
              obtain ⟨i, i1, i2, i3, i4⟩ := hi.get
              rcases k2 with k2 | ⟨k2, k8⟩
              · -- no room, and nothing to be laid
                have hz1 : v.of l0 = [] := List.eq_nil_of_length_eq_zero (by omega)
                have hz2 : xs = [] := List.eq_nil_of_length_eq_zero (by omega)
                subst hz2
                cases hm
                obtain ⟨X', g1, g2, g3, g4, g5⟩ := hg.longerRow (off := 0) (ns := []) (v.of l0 ++ []) hob hβ k1 (by simp) (es' := []) (sp' := cc.toList) (by rw [hz1]; rfl) (by simp) k6 (by rw [hz1]; simp)
                have hrun : (Builtin.append_ #[t, u] o.type #[a.eval so, a.eval xo]).run P X.w = .ok (.slice ad (v.of l0).length cap) X'.w := by
                  rw [hval, g1]
                  have hs2 := hsrc
                  rw [← i2] at hs2
                  have hl := hs2.len X.w
                  have hcl := hs2.cells
                  have hz3 : (v.of l0).length = 0 := by rw [hz1]; rfl
                  have hst : ∀ ad' : Addr, (storeCells ad' []).run P X.w = .ok () X.w := fun _ => rfl
                  simp only [List.length_nil] at hl hcl
                  rcases hs2.kind with ⟨e0, hk0⟩ | hk0 <;> cases ad <;> simp [Builtin.append_, run_underlying hu, run_underlying hk0, sizeOf, typeInfo, i1, hl, hcl, hz3, World.setCells, hst]
                refine wp_val (hexec _ _ hrun) (hn _ X' _ (by rw [g2]; simpa using hk) g3 g4 ?_)
                have := g5 ad cap (by rw [hz1]; simp) (.inl k2)
                simpa using this
              · have hcapsz : cc.size = cap * t'.size := by rw [← k8, hlo]; simp
                have hoff : (v.of l0).length * t'.size + news.length ≤ cc.size := by
                  rw [hnlen, hcapsz, ← Nat.add_mul]
                  exact Nat.mul_le_mul_right _ hroom
                have hpre : cc.toList.take ((v.of l0).length * t'.size) = fs := by
                  refine List.ext_getElem? fun j => ?_
                  rw [List.getElem?_take]
                  split
                  · rename_i hj
                    have hj' : j < fs.length := by omega
                    have := f2 j fs[j] (List.getElem?_eq_getElem hj')
                    rw [Nat.zero_add, cell_of_row _ _ _ _ _ _ k1] at this
                    rw [List.getElem?_eq_getElem hj', ← this]
                    simp
                  · rename_i hj
                    rw [List.getElem?_eq_none (by omega)]
                obtain ⟨X', g1, g2, g3, g4, g5⟩ := hg.longerRow (off := (v.of l0).length * t'.size) (ns := news) (v.of l0 ++ xs) hob hβ k1 hoff (es' := fs ++ news) (sp' := cc.toList.drop ((v.of l0).length * t'.size + news.length)) (f1.append hm) (by rw [hpre]; simp) hcapsz (by simpa using hroom)
                have hth : X.w.there b ((v.of l0).length * t'.size) news.length := there_of_heap k1 hoff
                have hsrc' := hsrc
                rw [← i2] at hsrc' hth
                have hrun := run_append_room_src (P := P) X.w t u o.type te i hu i1 b 0 (v.of l0).length cap (a.eval xo) xs.length news hsrc' hroom (fun j hj => by simpa using (hth j hj).1) (fun j hj => by simpa using (hth j hj).2)
                rw [Nat.zero_add, i2] at hrun
                rw [hlo, Nat.zero_mul] at k2
                rw [← k2, ← hval, ← g1] at hrun
                refine wp_val (hexec _ _ hrun) (hn _ X' _ (by rw [g2]; exact hk) g3 g4 ?_)
                have := g5 ad cap (by simpa using hroom) (.inr ⟨k2, hcapsz.symm⟩)
                simpa using this
            · obtain ⟨cap', c2, sp2, q1, q2, q3, q4⟩ := grow_row (P := P) (t := t) (tx := u) hg hu hi f1 (firstCells_seen f1 hx) hm hsrc (by omega : cap < (v.of l0).length + xs.length) (by simpa using hb) o.type
              obtain ⟨X', g1, g2, g3, g4, g5⟩ := hg.movedRow n ⟨Nat.succ g, false, .row t' (v.of l0 ++ xs)⟩ t' (v.of l0 ++ xs) rfl rfl (fun o h => by rw [hob] at h; cases h; exact ⟨rfl, Nat.lt_succ_self g⟩) (te := te) q2 (f1.append hm) q3 q4
              rw [← hval] at q1
              exact wp_val (hexec _ _ (by rw [g1]; exact q1)) (hn _ X' _ (by rw [g2]; exact hk) g3 g4 g5)
        · simp [run_fail'] at h1
      · simp [run_fail'] at h1
    · rename_i e k hTt hTu
      split at h
      · rename_i k' n
        obtain ⟨_, te, hu, hi⟩ := hT _ _ hTt
        have hu' : P.underlying u = some (.int k) := (hT _ _ hTu).2
        have hexec : ∀ w' v, (Builtin.append_ #[t, u] o.type #[a.eval so, a.eval xo]).run P X.w = .ok v w' → (execOp a.eval o).run P X.w = .ok (.value v) w' := fun w' v hr => by
          simp [execOp, ho, resolve, hc, invoke, builtin, e2, e3, hr]
        have hvs : a.eval so = .slice none 0 0 := hvs
        have hvx : a.eval xo = .int k' n := hvx
        rw [run_bind] at h
        obtain ⟨⟨b1, b2⟩, h2⟩ := of_need h
        clear h
        rw [run_bind] at h2
        obtain ⟨h3, h4⟩ := of_lay h2
        obtain ⟨i, i1, i2, i3, i4⟩ := hi.get
        unfold most at b2
        have hw : IntKind.i64.wrap n = n := by
          have e1 : (2 : Int) ^ IntKind.i64.bits = 18446744073709551616 := rfl
          have e2 : (2 : Int) ^ (IntKind.i64.bits - 1) = 9223372036854775808 := rfl
          simp only [IntKind.wrap, e1, e2, IntKind.signed]
          simp
          omega
        have hint : ∀ w', (asInt (.int k' n)).run P w' = .ok n w' := fun _ => rfl
        obtain ⟨m, rfl⟩ : ∃ m : Nat, n = (m : Int) := ⟨n.toNat, by omega⟩
        have hmul : m * i.bytes ≤ 281474976710656 := by
          have := Nat.mul_le_mul (show m ≤ 8589934592 by omega) i4
          omega
        cases m with
        | zero =>
          obtain ⟨X', g1, g2, g3, g4, g5⟩ := hg.emptyRow nm ⟨0, false, .row e []⟩ e rfl rfl (fun o h => by rw [h3] at h; cases h)
          have hrun : (Builtin.append_ #[t, u] o.type #[a.eval so, a.eval xo]).run P X.w = .ok (.slice none 0 0) X'.w := by
            rw [hvs, hvx, g1]
            exact run_append_make0 X.w t u o.type te i hu hu' i1 _ hint hw
          exact wp_val (hexec _ _ hrun) (hn _ X' _ (by rw [g2]; exact h4) g3 g4 (g5 none))
        | succ m =>
          have hz : (zeros e).toArray.size = e.size := by simpa using RC.len (RC.zeros (w := X.w) (G := X.G) e)
          have hzc : ∀ k, (Builtin.zeroCells (zeros e).toArray k).toList = (List.replicate k (zeros e)).flatten := fun k => by
            have := madeCells_flat (zeros e).toArray e.size hz k
            simp only [madeCells] at this
            simpa [Builtin.zeroCells, hz] using this
          have hge := grownCap_ge X.w (m + 1) 0 te
          have hel : ∀ k, Elem (RC X.w X.G e) (List.replicate k e.dflt) (List.replicate k (zeros e)).flatten := fun k => Elem.replicate (RC.zeros e) k
          have hrun := run_append_make (P := P) X.w t u o.type te i _ hu hu' i1 i3 (by rw [zeros_cells, hz, i2]) _ (m + 1) (by omega) hint hw hmul
          rw [zeros_cells] at hrun
          obtain ⟨X', g1, g2, g3, g4, g5⟩ := hg.movedRow nm ⟨0, false, .row e (List.replicate (m + 1) e.dflt)⟩ e (List.replicate (m + 1) e.dflt) rfl rfl (fun o h => by rw [h3] at h; cases h) (te := te)
            (c := Builtin.zeroCells (zeros e).toArray (m + 1) ++ Builtin.zeroCells (zeros e).toArray (grownCap X.w (m + 1) 0 te - (m + 1))) (es := (List.replicate (m + 1) (zeros e)).flatten) (sp := (List.replicate (grownCap X.w (m + 1) 0 te - (m + 1)) (zeros e)).flatten) (cap := grownCap X.w (m + 1) 0 te)
            (by rw [Array.toList_append, hzc, hzc]) (hel _) (by
              rw [Array.size_append, zeroCells_len, zeroCells_len, hz, ← Nat.add_mul]
              congr 1; omega) (by simpa using hge)
          rw [List.length_replicate] at g5
          refine wp_val (hexec _ _ (by rw [g1, hvs, hvx]; exact hrun)) (hn _ X' _ (by rw [g2]; exact h4) g3 g4 g5)
      · cases h
    · cases h
  · cases h
end
section
variable {P : Program} {E : Env} {B : Base} {X : Cx} {tm : Nat → SV} {a : Act} {o : Oper} {nm : Nat} {R : Type} {K : SV → Objs → Option R} {r : R} {next : Act → World → Prop} {Q : Exit → Act → World → Prop}
/-- part of a row is written over -/
theorem Good.over [Str] (hg : Good B X) {n g : Nat} {t : Ty} {l : List t.den} {v : View} {val : Value} (ho : X.O n = some ⟨g, false, .row t l⟩) (hv : HV X (.row n g v) val) {m : List t.den} {ns : List Value} (hm : Elem (RC X.w X.G t) m ns) (hk : m.length ≤ (v.of l).length) (hpos : 0 < m.length) :
    ∃ (b cap : Nat) (X' : Cx), val = .slice (some ⟨b, v.lo * t.size, none⟩) (v.of l).length cap ∧ X.w.there b (v.lo * t.size) ns.length ∧ X'.w = X.w.setCells b (v.lo * t.size) ns ∧ X'.O = X.O.set n ⟨g, false, .row t (overL v.lo m l)⟩ ∧ Good B X' ∧ Ext X X' := by
  obtain ⟨_, o', e1, _, e2⟩ := hv
  rw [ho] at e1; cases e1
  have e2 := e2 rfl
  simp only [RowH, Body.shape] at e2
  obtain ⟨hfit, ad, cap, hval, hcap, hb⟩ := e2
  have hob := hg.obj n _ ho
  simp only [ObjH] at hob
  cases hbn : X.β n with
  | none =>
    rw [hbn] at hb
    obtain ⟨rfl, _⟩ := hb
    have : (v.of ([] : List t.den)).length = 0 := by cases v <;> simp [View.of]
    omega
  | some b =>
    rw [hbn] at hb hob
    obtain ⟨c, e, k1, k2⟩ := hb
    obtain ⟨c', e', es, sp, cp, q1, q2, q3, q4, q5⟩ := hob
    rw [k1] at q1; cases q1
    rcases k2 with k2 | ⟨k2, k3⟩
    · omega
    have hlo : v.lo + m.length ≤ l.length := by
      cases v <;> simp only [View.of, View.lo, View.fits, List.length_take, List.length_drop] at * <;> omega
    have hln := Elem.len (fun _ _ h => RC.len (t := t) h) hm
    have hle := Elem.len (fun _ _ h => RC.len (t := t) h) q3
    have hoff : v.lo * t.size + ns.length = (v.lo + m.length) * t.size := by rw [hln, Nat.add_mul]
    have hin : v.lo * t.size + ns.length ≤ es.length := by rw [hoff, hle]; exact Nat.mul_le_mul_right _ hlo
    have hsz : v.lo * t.size + ns.length ≤ c.size := by
      have h7 : c.toList.length = es.length + sp.length := by rw [q2, List.length_append]
      rw [Array.length_toList] at h7
      omega
    have hlen : (overL v.lo m l).length = l.length := by
      unfold overL
      simp only [List.length_append, List.length_take, List.length_drop]
      omega
    obtain ⟨w1, w2⟩ := hg.store (bd' := .row t (overL v.lo m l)) ho hbn k1 hsz ⟨rfl, hlen.symm⟩ (fun c2 g1 g2 g3 hE => by
      simp only [ObjH, setB_same]
      refine ⟨c2, e, es.take (v.lo * t.size) ++ (ns ++ es.drop ((v.lo + m.length) * t.size)), sp, cp, g1, ?_, ?_, by rw [g3]; exact q4, by rw [hlen]; exact q5⟩
      · rw [g2, q2, List.take_append_of_le_length (by omega), List.drop_append_of_le_length (by omega), hoff]
        simp [List.append_assoc]
      · have h8 := (q3.take (fun _ _ h => RC.len (t := t) h) v.lo).append (hm.append (q3.drop (fun _ _ h => RC.len (t := t) h) (v.lo + m.length)))
        exact h8.imp (fun _ _ h => RC.imp hE.g hE.agree h))
    exact ⟨b, cap, _, by rw [hval, k2], there_of_heap k1 hsz, rfl, rfl, w1, w2⟩
theorem set_self [Str] {O : Objs} {n : Nat} {o : Obj} (h : O n = some o) : O.set n o = O := by
  funext x
  by_cases hx : x = n
  · subst hx; rw [set_same]; exact h.symm
  · exact set_ne _ _ hx
theorem overL_nil {α : Type} (k : Nat) (l : List α) : overL k [] l = l := by simp [overL, List.take_append_drop]
theorem op_clear [Str] (hT : TabOK P E) (hg : Good B X) (htm : ∀ t, HV X (tm t) (a.eval (.tmp t))) (hn : Then B X a o.dst K r next) {c : Call} (ho : o.op = .call c) (hc : c.callee = .builtin .clear)
    (h : (match c.argTypes.toList, evl tm c.args.toList with
      | [t], [x] => (match E.T t with | some (.list e) => clearP e x | _ => .fail)
      | _, _ => .fail).run X.O K = some r) : o.wp P a X.w next Q := by
  split at h
  · rename_i t x ht hx
    obtain ⟨xo, e1, e2⟩ := evl_one hx
    have e1 := arr_of e1
    have ht := arr_of ht
    have hvx := HV.eval htm xo
    rw [← e2] at hvx
    split at h
    · rename_i e hTt
      obtain ⟨_, te, hu, hi⟩ := hT _ _ hTt
      unfold clearP at h
      split at h
      · rename_i n g k
        rw [run_bind, run_get] at h
        split at h
        · rename_i g' u l hob
          rw [run_bind] at h
          obtain ⟨h0, h1⟩ := of_sure h
          have := Nat.eq_of_beq_eq_true h0
          subst this
          rw [run_bind] at h1
          obtain ⟨l', h2, h3⟩ := of_must h1
          obtain ⟨e3, e4⟩ := of_castL h2
          subst e3
          dsimp only at e4
          subst e4
          rw [run_bind, run_put] at h3
          have h3 : K (.tup []) (X.O.set n ⟨g, false, .row u (overL k (List.replicate (l'.length - k) u.dflt) l')⟩) = some r := h3
          have hexec : ∀ w', (Builtin.clear_ #[t] o.type #[a.eval xo]).run P X.w = .ok (.tuple #[]) w' → (execOp a.eval o).run P X.w = .ok (.value (.tuple #[])) w' := fun w' hr => by
            simp [execOp, ho, resolve, hc, invoke, builtin, ht, e1, hr]
          by_cases hk : k < List.length l'
          · have hz : (zeros u).toArray.size = u.size := by simpa using RC.len (RC.zeros (w := X.w) (G := X.G) u)
            have hzc : ∀ k, (Builtin.zeroCells (zeros u).toArray k).toList = (List.replicate k (zeros u)).flatten := fun k => by
              have := madeCells_flat (zeros u).toArray u.size hz k
              simp only [madeCells] at this
              simpa [Builtin.zeroCells, hz] using this
            have hel := Elem.replicate (RC.zeros (w := X.w) (G := X.G) u) (List.length l' - k)
            obtain ⟨b, cap, X', f1, f2, f3, f4, f5, f6⟩ := hg.over (v := .from_ k) hob hvx hel (by simp [View.of]) (by simp; omega)
            have h1' := Elem.all (fun _ _ h => RC.one (t := u) h) hel
            have hst := run_storeCells_cells (P := P) b (k * u.size) (List.replicate (List.length l' - k) (zeros u)).flatten 0 X.w (fun j hj => (f2 j hj).1) (fun j hj => (f2 j hj).2) h1'
            simp only [Nat.add_zero] at hst
            have hrun : (Builtin.clear_ #[t] o.type #[a.eval xo]).run P X.w = .ok (.tuple #[]) X'.w := by
              rw [f1, f3]
              simp only [View.of, View.lo, List.length_drop]
              obtain ⟨m, hm⟩ : ∃ m, List.length l' - k = m + 1 := ⟨List.length l' - k - 1, by omega⟩
              rw [hm] at hst ⊢
              have hz1 := hi.zero X.w
              simp [Builtin.clear_, run_underlying hu, hz1, zeros_cells, hzc, hst]
            exact wp_val (hexec _ hrun) (hn (.tup []) X' _ (by rw [f4]; exact h3) f5 f6 ⟨#[], rfl, rfl⟩)
          · obtain ⟨_, o', q1, _, q2⟩ := hvx
            rw [hob] at q1; cases q1
            have q2 := q2 rfl
            simp only [RowH, Body.shape, View.of, View.lo, List.length_drop] at q2
            obtain ⟨_, ad, cap, hval, _⟩ := q2
            have hl0 : List.length l' - k = 0 := by omega
            rw [hl0] at hval
            have hrun : (Builtin.clear_ #[t] o.type #[a.eval xo]).run P X.w = .ok (.tuple #[]) X.w := by
              rw [hval]
              cases ad <;> simp [Builtin.clear_, run_underlying hu]
            have e5 : List.replicate (l'.length - k) u.dflt = [] := by
              have : l'.length - k = 0 := hl0
              rw [this]; rfl
            rw [e5, overL_nil, set_self hob] at h3
            exact hn.now (v := .tup []) hg h3 ⟨#[], rfl, rfl⟩ (hexec _ hrun)
        · simp [run_fail'] at h
      · cases h
    · cases h
  · cases h
theorem op_copy [Str] (hT : TabOK P E) (hg : Good B X) (htm : ∀ t, HV X (tm t) (a.eval (.tmp t))) (hn : Then B X a o.dst K r next) {c : Call} (ho : o.op = .call c) (hc : c.callee = .builtin .copy)
    (h : (match c.argTypes.toList, evl tm c.args.toList with
      | [t, u], [d, x] => (match E.T t, E.T u with | some (.list e), some (.list e') => (do sure (tyEq e e'); copyP e d x) | _, _ => .fail)
      | _, _ => .fail).run X.O K = some r) : o.wp P a X.w next Q := by
  split at h
  · rename_i t u so x ht hx
    obtain ⟨sop, xo, e1, e4, e5⟩ := evl_two hx
    have e1 := arr_of e1
    have ht := arr_of ht
    have hvs := HV.eval htm sop
    have hvx := HV.eval htm xo
    rw [← e4] at hvs
    rw [← e5] at hvx
    split at h
    · rename_i e e' hTt hTu
      rw [run_bind] at h
      obtain ⟨h0, hN⟩ := of_sure h
      clear h
      have h0 := tyEq_of h0
      subst h0
      obtain ⟨_, te, hu, hi⟩ := hT _ _ hTt
      unfold copyP at hN
      rw [run_bind] at hN
      obtain ⟨xs, h1, hseen, _⟩ := of_asView hg hvx hN
      clear hN
      split at h1
      · rename_i n g v
        rw [run_bind, run_get] at h1
        split at h1
        · rename_i g' u' l hob
          rw [run_bind] at h1
          obtain ⟨h0, h2⟩ := of_sure h1
          have := Nat.eq_of_beq_eq_true h0
          subst this
          rw [run_bind] at h2
          obtain ⟨l', h3, h4⟩ := of_must h2
          obtain ⟨e3, e6⟩ := of_castL h3
          subst e3
          dsimp only at e6
          subst e6
          rw [run_bind, run_put] at h4
          have h4 : K (.int .i64 ((min xs.length (v.of l').length : Nat) : Int)) (X.O.set n ⟨g, false, .row u' (overL v.lo (xs.take (min xs.length (v.of l').length)) l')⟩) = some r := h4
          obtain ⟨ad, cap, es, f1, f2, f3, f4⟩ := hseen
          have hexec : ∀ w' k, (Builtin.copy_ #[t, u] o.type #[a.eval sop, a.eval xo]).run P X.w = .ok (.int .i64 k) w' → (execOp a.eval o).run P X.w = .ok (.value (.int .i64 k)) w' := fun w' k hr => by
            simp [execOp, ho, resolve, hc, invoke, builtin, ht, e1, hr]
          have hsz := hi.sizeOf X.w
          by_cases hk : 0 < min xs.length (v.of l').length
          · have hel := f3.take (fun _ _ h => RC.len (t := u') h) (min xs.length (v.of l').length)
            have hlt : (xs.take (min xs.length (v.of l').length)).length = min xs.length (v.of l').length := by rw [List.length_take]; omega
            obtain ⟨b, cap', X', k1, k2, k3, k4, k5, k6⟩ := hg.over hob hvs hel (by rw [hlt]; omega) (by rw [hlt]; exact hk)
            have h1' := Elem.all (fun _ _ h => RC.one (t := u') h) hel
            have hst := run_storeCells_cells (P := P) b (v.lo * u'.size) (es.take (min xs.length (v.of l').length * u'.size)) 0 X.w (fun j hj => (k2 j hj).1) (fun j hj => (k2 j hj).2) h1'
            simp only [Nat.add_zero] at hst
            obtain ⟨bb, off, q1, q2⟩ := f4 (fun e0 => by rw [e0] at hk; simp at hk)
            have hfc := run_firstCells_some (P := P) X.w u'.size (min xs.length (v.of l').length) ⟨bb, off, none⟩ xs.length cap (es.take (min xs.length (v.of l').length * u'.size)) (by
              have := Elem.len (fun _ _ h => RC.len (t := u') h) hel
              rw [this, hlt]) (fun j w hj => by rw [Addr.add_mid]; exact rangeAt_take q2 _ j w hj)
            have hrun : (Builtin.copy_ #[t, u] o.type #[a.eval sop, a.eval xo]).run P X.w = .ok (.int .i64 ((min xs.length (v.of l').length : Nat) : Int)) X'.w := by
              rw [k1, k3, f1, q1]
              have hmin : Nat.min xs.length (v.of l').length = min xs.length (v.of l').length := rfl
              simp [Builtin.copy_, run_underlying hu, hsz, Builtin.lenOf, hmin, hfc, hst, goInt]
            exact wp_val (hexec _ _ hrun) (hn (.int .i64 ((min xs.length (v.of l').length : Nat) : Int)) X' _ (by rw [k4]; exact h4) k5 k6 rfl)
          · have hk0 : min xs.length (v.of l').length = 0 := by omega
            obtain ⟨_, o', q1, _, q2⟩ := hvs
            rw [hob] at q1; cases q1
            have q2 := q2 rfl
            simp only [RowH, Body.shape] at q2
            obtain ⟨_, ad2, cap2, hval, _⟩ := q2
            rw [hk0, List.take_zero, overL_nil, set_self hob] at h4
            have hfc : (Builtin.firstCells u'.size 0 (.slice ad xs.length cap)).run P X.w = .ok #[] X.w := by
              cases ad with
              | none => exact run_firstCells_none X.w _ _ _ _
              | some ad => exact run_firstCells_some (P := P) X.w u'.size 0 ad xs.length cap [] (by simp) (fun j w hj => by simp at hj)
            have hst0 : ∀ ad' : Addr, (storeCells ad' []).run P X.w = .ok () X.w := fun _ => rfl
            have hrun : (Builtin.copy_ #[t, u] o.type #[a.eval sop, a.eval xo]).run P X.w = .ok (.int .i64 ((0 : Nat) : Int)) X.w := by
              rw [hval, f1]
              have hmin : Nat.min xs.length (v.of l').length = 0 := hk0
              cases ad2 <;> simp [Builtin.copy_, run_underlying hu, hsz, Builtin.lenOf, hmin, hfc, hst0, goInt]
            exact hn.now (v := .int .i64 ((0 : Nat) : Int)) hg h4 rfl (hexec _ _ hrun)
        · simp [run_fail'] at h1
      · cases h1
    · cases h
  · cases h
end
end Go.Ev
namespace Go.Ev
open Go.RowKit
/-! contracts: what is taken and given, in memory -/
/-- cells that hold what a contract tells; bs: the blocks that are owned, in order. u: what is no one's own is passed over -/
def RR (u : Bool) (w : World) (G : Nat → Prop) : (r : RT) → r.den → List Value → List (Option Nat) → Prop
  | .val t, x, cs, bs => bs = [] ∧ cs.length = t.size ∧ (u = false → RC w G t x cs)
  | .own t, l, cs, bs => ∃ v b, cs = [v] ∧ bs = [b] ∧ OwnV w G t l v b
  | .box r, x, cs, bs => ∃ b bs' c e, cs = [.pointer (some ⟨b, 0, none⟩)] ∧ bs = some b :: bs' ∧ w.heap[b]? = some (.cells c e (0, 0)) ∧ RR false w G r x c.toList bs'
  | .unit, _, cs, bs => cs = [] ∧ bs = []
  | .pair p q, x, cs, bs => ∃ c1 c2 b1 b2, cs = c1 ++ c2 ∧ bs = b1 ++ b2 ∧ RR u w G p x.1 c1 b1 ∧ RR u w G q x.2 c2 b2
  | .func f nf r, x, cs, bs => ∃ a1 a2, cs = [.func (.func f) a1 a2] ∧ a1.size = nf ∧ RR u w G r x (a1.toList ++ a2.toList) bs
  | .mv t, l, cs, bs => match u with
    | true => cs.length = 1
    | false => ∃ v b, cs = [v] ∧ bs = [b] ∧ OwnV w G t l v b
  | .nil, _, cs, bs => cs = [.slice none 0 0] ∧ bs = []
  | .pal _ _ _, _, cs, bs => cs.length = 1 ∧ bs = []
  | .ip t, l, cs, bs => ∃ v b, cs = [v] ∧ bs = [some b] ∧ OwnV w G t l v (some b) ∧ 0 < List.length (α := t.den) l
  | .rows t, ll, cs, bs => ∃ a b cap c e vs sp, cs = [.slice a (List.length (α := List t.den) ll) cap] ∧ bs = some b :: partsV none vs ∧ w.heap[b]? = some (.cells c e (0, 0)) ∧ c.toList = vs ++ sp ∧ RowsV w G t none ll vs ∧ List.length (α := List t.den) ll ≤ cap ∧ (cap = 0 ∨ (a = some ⟨b, 0, none⟩ ∧ cap = c.size))
noncomputable def RT.size : RT → Nat
  | .val t => t.size | .own _ => 1 | .box _ => 1 | .unit => 0 | .pair a b => a.size + b.size | .func .. => 1 | .mv _ => 1 | .nil => 1 | .pal .. => 1 | .rows _ => 1 | .ip _ => 1
theorem RR.len {u : Bool} {w : World} {G : Nat → Prop} : ∀ {r : RT} {x : r.den} {cs : List Value} {bs : List (Option Nat)}, RR u w G r x cs bs → cs.length = r.size
  | .val _, _, _, _, h => h.2.1
  | .own _, _, _, _, ⟨_, _, h, _⟩ => by subst h; rfl
  | .box _, _, _, _, ⟨_, _, _, _, h, _⟩ => by subst h; rfl
  | .unit, _, _, _, h => by rw [h.1]; rfl
  | .pair p q, _, _, _, ⟨_, _, _, _, h, _, h1, h2⟩ => by subst h; rw [List.length_append, h1.len, h2.len]; rfl
  | .func _ _ _, _, _, _, ⟨_, _, h, _⟩ => by subst h; rfl
  | .mv _, _, _, _, h => by
    cases u with
    | true => exact h
    | false => obtain ⟨_, _, h, _⟩ := h; subst h; rfl
  | .nil, _, _, _, h => by rw [h.1]; rfl
  | .pal _ _ _, _, _, _, h => h.1
  | .rows _, _, _, _, ⟨_, _, _, _, _, _, _, h, _⟩ => by subst h; rfl
  | .ip _, _, _, _, ⟨_, _, h, _⟩ => by subst h; rfl
theorem RR.imp {w w' : World} {G G' : Nat → Prop} (hG : ∀ b, G b → G' b) (hA : Agree G w w') : ∀ {u : Bool} {r : RT} {x : r.den} {cs : List Value} {bs : List (Option Nat)}, (∀ k, some k ∈ bs → w'.heap[k]? = w.heap[k]?) → RR u w G r x cs bs → RR u w' G' r x cs bs
  | _, .val _, _, _, _, _, ⟨h1, h2, h3⟩ => ⟨h1, h2, fun hu => RC.imp hG hA (h3 hu)⟩
  | _, .own _, _, _, _, hb, ⟨v, b, h1, h2, h3⟩ => ⟨v, b, h1, h2, h3.imp hG hA (fun k hk => hb k (by rw [h2, hk]; simp))⟩
  | _, .box r, _, _, _, hb, ⟨b, bs', c, e, h1, h2, h3, h4⟩ => ⟨b, bs', c, e, h1, h2, (hb b (by rw [h2]; simp)).trans h3, RR.imp hG hA (fun k hk => hb k (by rw [h2]; exact List.mem_cons_of_mem _ hk)) h4⟩
  | _, .unit, _, _, _, _, h => h
  | _, .pair p q, _, _, _, hb, ⟨c1, c2, b1, b2, h1, h2, h3, h4⟩ => ⟨c1, c2, b1, b2, h1, h2, RR.imp hG hA (fun k hk => hb k (by rw [h2]; exact List.mem_append_left _ hk)) h3, RR.imp hG hA (fun k hk => hb k (by rw [h2]; exact List.mem_append_right _ hk)) h4⟩
  | _, .func f nf r, _, _, _, hb, ⟨a1, a2, h1, h2, h3⟩ => ⟨a1, a2, h1, h2, RR.imp hG hA hb h3⟩
  | true, .mv _, _, _, _, _, h => h
  | false, .mv _, _, _, _, hb, ⟨v, b, h1, h2, h3⟩ => ⟨v, b, h1, h2, h3.imp hG hA (fun k hk => hb k (by rw [h2, hk]; simp))⟩
  | _, .nil, _, _, _, _, h => h
  | _, .pal _ _ _, _, _, _, _, h => h
  | _, .ip t, _, _, _, hb, ⟨v, b, h1, h2, h3, h4⟩ => ⟨v, b, h1, h2, h3.imp hG hA (fun k hk => hb k (by rw [h2, hk]; simp)), h4⟩
  | _, .rows t, _, _, _, hb, ⟨a, b, cap, c, e, vs, sp, h1, h2, h3, h4, h5, h6, h7⟩ => ⟨a, b, cap, c, e, vs, sp, h1, h2, (hb b (by rw [h2]; simp)).trans h3, h4, h5.imp hG hA (fun k hk => hb k (by rw [h2]; exact List.mem_cons_of_mem _ hk)), h6, h7⟩
/-- parts of what is laid -/
theorem adopt_parts [Str] {X : Cx} {n : Nat} {b : Option Nat} {bd : Body} (hn : X.O n = none) (hr : bd.isRows = false) (m k : Nat) (h : some k ∈ Cx.parts ⟨X.w, X.G, setB X.β n b, X.O.set n ⟨0, false, bd⟩⟩ m) : some k ∈ X.parts m := by
  by_cases hmn : m = n
  · subst hmn; rw [parts_of (o := ⟨0, false, bd⟩) (set_same _ _ _) hr] at h; cases h
  · rwa [parts_eq (X := X) (X' := ⟨X.w, X.G, setB X.β n b, X.O.set n ⟨0, false, bd⟩⟩) (set_ne _ _ hmn) (setB_ne _ _ hmn) (fun _ _ _ _ _ => rfl)] at h
theorem HLs.ofOwn [Str] {X : Cx} {t : Ty} {l : List t.den} {v : Value} {b : Option Nat} {n g : Nat} (h : OwnV X.w X.G t l v b) (hβ : X.β n = b) (hO : X.O n = some ⟨g, false, .row t l⟩) : HLs X [.row n g .full] [v] := by
  have hone : One v := by
    cases b with
    | none => obtain ⟨_, a, rfl⟩ := h; rfl
    | some b => obtain ⟨cap, c, e, es, sp, rfl, _⟩ := h; rfl
  refine .cons hone ⟨hone, _, hO, Nat.le_refl _, fun _ => ?_⟩ .nil
  simp only [RowH, Body.shape, hβ]
  cases b with
  | none => obtain ⟨rfl, a, rfl⟩ := h; exact ⟨trivial, a, 0, rfl, Nat.le_refl _, rfl, rfl⟩
  | some b =>
    obtain ⟨cap, c, e, es, sp, rfl, h1, h2, h3, h4, h5⟩ := h
    exact ⟨trivial, _, cap, rfl, h5, c, e, h1, .inr ⟨by simp [View.lo], by simpa [View.lo] using h4.symm⟩⟩
theorem ObjH.ofOwn {X : Cx} {t : Ty} {l : List t.den} {v : Value} {b : Option Nat} {n g : Nat} {fr : Bool} (h : OwnV X.w X.G t l v b) (hβ : X.β n = b) : ObjH X n ⟨g, fr, .row t l⟩ := by
  simp only [ObjH, hβ]
  cases b with
  | none => exact h.1
  | some b =>
    obtain ⟨cap, c, e, es, sp, _, h1, h2, h3, h4, h5⟩ := h
    exact ⟨c, e, es, sp, cap, h1, h2, h3, h4, h5⟩
/-- blocks that may be taken: of nobody, each once -/
structure Free (N : Nat → Prop) (B : Base) (X : Cx) (bs : List (Option Nat)) : Prop where
  g : ∀ b, some b ∈ bs → ¬ X.G b ∧ (B.Im b ∨ B.w0.heap.size ≤ b) ∧ b < X.w.heap.size
  none : ∀ b, some b ∈ bs → ∀ m o, ¬ N m → X.O m = some o → o.frozen = false → X.β m ≠ some b
  part : ∀ b, some b ∈ bs → ∀ m, ¬ N m → some b ∉ X.parts m
  dup : (somes bs).Nodup
theorem somes_append : ∀ (a b : List (Option Nat)), somes (a ++ b) = somes a ++ somes b
  | [], b => rfl
  | none :: r, b => by simp [somes, somes_append r b]
  | some a :: r, b => by simp [somes, somes_append r b]
/-- what enc has done: new objects over these blocks, nothing else -/
structure Laid (X X' : Cx) (bs : List (Option Nat)) : Prop where
  w : X'.w = X.w
  G : X'.G = X.G
  ext : Ext X X'
  old : ∀ m o, X.O m = some o → X'.O m = some o ∧ X'.β m = X.β m
  new : ∀ m o b, X'.O m = some o → o.frozen = false → X'.β m = some b → (X.O m = some o ∧ X.β m = some b) ∨ some b ∈ bs
  newp : ∀ m b, some b ∈ X'.parts m → some b ∈ X.parts m ∨ some b ∈ bs
theorem Laid.refl (X : Cx) (bs : List (Option Nat)) : Laid X X bs := ⟨rfl, rfl, .refl X, fun _ _ h => ⟨h, rfl⟩, fun _ _ _ h _ h' => .inl ⟨h, h'⟩, fun _ _ h => .inl h⟩
theorem Laid.trans [Str] {X Y Z : Cx} {a b : List (Option Nat)} (h : Laid X Y a) (k : Laid Y Z b) : Laid X Z (a ++ b) := by
  refine ⟨k.w.trans h.w, k.G.trans h.G, h.ext.trans k.ext, fun m o hm => ?_, fun m o b hm hf hb => ?_, fun m b hb => ?_⟩
  · obtain ⟨h1, h2⟩ := h.old m o hm
    obtain ⟨k1, k2⟩ := k.old m o h1
    exact ⟨k1, k2.trans h2⟩
  · rcases k.new m o b hm hf hb with ⟨h1, h2⟩ | h1
    · rcases h.new m o b h1 hf h2 with h3 | h3
      · exact .inl h3
      · exact .inr (List.mem_append_left _ h3)
    · exact .inr (List.mem_append_right _ h1)
  · rcases k.newp m b hb with h1 | h1
    · exact (h.newp m b h1).imp id (List.mem_append_left _)
    · exact .inr (List.mem_append_right _ h1)
theorem Laid.mono {X Y : Cx} {a b : List (Option Nat)} (h : Laid X Y a) (hab : ∀ k, some k ∈ a → some k ∈ b) : Laid X Y b :=
  ⟨h.w, h.G, h.ext, h.old, fun m o k hm hf hb => (h.new m o k hm hf hb).imp id (hab k), fun m k hb => (h.newp m k hb).imp id (hab k)⟩
theorem Free.behind [Str] {N : Nat → Prop} {B : Base} {X Y : Cx} {a b : List (Option Nat)} (h : Free N B X (a ++ b)) (hl : Laid X Y a) : Free N B Y b := by
  have hd := h.dup
  rw [somes_append, List.nodup_append] at hd
  refine ⟨fun k hk => ?_, fun k hk m o hN hm hf hb => ?_, fun k hk m hN hp => ?_, hd.2.1⟩
  rotate_right
  · rcases hl.newp m k hp with h1 | h1
    · exact h.part k (List.mem_append_right _ hk) m hN h1
    · exact hd.2.2 k (mem_somes.2 h1) k (mem_somes.2 hk) rfl
  · rw [hl.G, hl.w]; exact h.g k (List.mem_append_right _ hk)
  · rcases hl.new m o k hm hf hb with ⟨h1, h2⟩ | h1
    · exact h.none k (List.mem_append_right _ hk) m o hN h1 hf h2
    · exact hd.2.2 k (mem_somes.2 h1) k (mem_somes.2 hk) rfl
theorem Free.left [Str] {N : Nat → Prop} {B : Base} {X : Cx} {a b : List (Option Nat)} (h : Free N B X (a ++ b)) : Free N B X a := by
  have hd := h.dup
  rw [somes_append, List.nodup_append] at hd
  exact ⟨fun k hk => h.g k (List.mem_append_left _ hk), fun k hk => h.none k (List.mem_append_left _ hk), fun k hk => h.part k (List.mem_append_left _ hk), hd.1⟩
theorem HLs.split [Str] {X : Cx} : ∀ {n : Nat} {l : List SV} {cs : List Value}, HLs X l cs → (∀ s ∈ l, ∀ t m x, s ≠ .arr t m x) → HLs X (l.take n) (cs.take n) ∧ HLs X (l.drop n) (cs.drop n)
  | 0, l, cs, h, _ => ⟨by simpa using HLs.nil, by simpa using h⟩
  | n + 1, [], cs, h, _ => by simp only [HLs] at h; subst h; exact ⟨by simpa using HLs.nil, by simpa using HLs.nil⟩
  | n + 1, s :: r, cs, h, hs => by
    obtain ⟨v, d, rfl, h1, h2, h3⟩ := h.uncons1 (hs s (by simp))
    obtain ⟨k1, k2⟩ := HLs.split (n := n) h3 (fun s hs' => hs s (List.mem_cons_of_mem _ hs'))
    exact ⟨by simpa using HLs.cons h1 h2 k1, by simpa using k2⟩
theorem HLs.values [Str] {X : Cx} : ∀ {l : List SV} {cs : List Value}, HLs X l cs → (∀ s ∈ l, ∀ t m x, s ≠ .arr t m x) → HVs X l cs
  | [], _, h, _ => by simp only [HLs] at h; exact h
  | s :: r, _, h, hs => by
    obtain ⟨v, d, rfl, h1, h2, h3⟩ := h.uncons1 (hs s (by simp))
    exact ⟨v, d, rfl, h2, HLs.values h3 (fun s hs' => hs s (List.mem_cons_of_mem _ hs'))⟩
end Go.Ev
namespace Go.Ev
open Go.RowKit
variable {R : Type} {B : Base}
theorem noArr_of : ∀ {l : List SV}, noArr l = true → ∀ s ∈ l, ∀ t m y, s ≠ SV.arr t m y
  | [], _, s, hs => by cases hs
  | x :: r, h, s, hs => by
    intro t m y e
    subst e
    cases x <;> first | (simp [noArr] at h; done) | skip
    all_goals
      rcases List.mem_cons.1 hs with h' | h'
      · cases h'
      · exact noArr_of (by simpa [noArr] using h) _ h' t m y rfl
theorem OwnV.ofOwn' [Str] {X : Cx} {t : Ty} {l : List t.den} {v : Value} {b : Option Nat} {n g : Nat} {fr : Bool} (h : OwnV X.w X.G t l v b) (hβ : X.β n = b) : ObjH X n ⟨g, fr, .row t l⟩ := ObjH.ofOwn h hβ
/-- what is told is laid as objects -/
theorem of_enc [Str] {N : Nat → Prop} {res : R} : ∀ (r : RT) {x : r.den} {nm : Nat} {X : Cx} {cs : List Value} {bs : List (Option Nat)} {K : List SV × Nat → Objs → Option R}, GoodX N B X → RR false X.w X.G r x cs bs → Free N B X bs →
    (enc r x nm).run X.O K = some res → ∃ l X' nm', K (l, nm') X'.O = some res ∧ GoodX N B X' ∧ Laid X X' bs ∧ HLs X' l cs ∧ (∀ (hf : r.agg = false), l.length = r.size)
  | .val t, x, nm, X, cs, bs, K, hg, ⟨h1, h2, h3⟩, _, h => by
    subst h1
    refine ⟨leaves t x, X, nm, h, hg, .refl X _, RC.leaves (h3 rfl), fun hf => ?_⟩
    cases t <;> first | rfl | (simp [RT.agg, Ty.agg] at hf)
  | .own t, x, nm, X, cs, bs, K, hg, ⟨v, b, h1, h2, h3⟩, hfree, h => by
    subst h1 h2
    simp only [enc, run_bind] at h
    obtain ⟨hO, hK⟩ := of_lay h
    obtain ⟨k1, k2⟩ := hg.adopt nm hO b (.row t x) (fun k hk => by
      subst hk
      obtain ⟨e1, e2, e3⟩ := hfree.g k (by simp)
      exact ⟨e1, e2, e3, hfree.none k (by simp)⟩) (fun k hk => hfree.part k (by rw [hk]; simp)) (fun hE => (h3.imp hE.g hE.agree (fun _ _ => rfl)).ofOwn' (setB_same _ _ _))
    refine ⟨_, ⟨X.w, X.G, setB X.β nm b, X.O.set nm ⟨0, false, .row t x⟩⟩, _, hK, k1, ⟨rfl, rfl, k2, fun m o hm => ?_, fun m o k hm hf hb => ?_, fun m k hp => .inl (adopt_parts hO rfl m k hp)⟩, HLs.ofOwn (h3.imp k2.g k2.agree (fun _ _ => rfl)) (setB_same _ _ _) (set_same _ _ _), fun _ => rfl⟩
    · have hne : m ≠ nm := fun e => by subst e; rw [hO] at hm; cases hm
      exact ⟨by simp only [set_ne _ _ hne]; exact hm, setB_ne _ _ hne⟩
    · by_cases hne : m = nm
      · subst hne
        simp only [setB_same] at hb
        exact .inr (by rw [hb]; simp)
      · simp only [set_ne _ _ hne] at hm
        simp only [setB_ne _ _ hne] at hb
        exact .inl ⟨hm, hb⟩
  | .ip t, x, nm, X, cs, bs, K, hg, ⟨v, b0, h1, h2, h3, _⟩, hfree, h => by
    subst h1 h2
    generalize hbb : some b0 = b at h3 hfree ⊢
    simp only [enc, run_bind] at h
    obtain ⟨hO, hK⟩ := of_lay h
    obtain ⟨k1, k2⟩ := hg.adopt nm hO b (.row t x) (fun k hk => by
      subst hk
      obtain ⟨e1, e2, e3⟩ := hfree.g k (by simp)
      exact ⟨e1, e2, e3, hfree.none k (by simp)⟩) (fun k hk => hfree.part k (by rw [hk]; simp)) (fun hE => (h3.imp hE.g hE.agree (fun _ _ => rfl)).ofOwn' (setB_same _ _ _))
    refine ⟨_, ⟨X.w, X.G, setB X.β nm b, X.O.set nm ⟨0, false, .row t x⟩⟩, _, hK, k1, ⟨rfl, rfl, k2, fun m o hm => ?_, fun m o k hm hf hb => ?_, fun m k hp => .inl (adopt_parts hO rfl m k hp)⟩, HLs.ofOwn (h3.imp k2.g k2.agree (fun _ _ => rfl)) (setB_same _ _ _) (set_same _ _ _), fun _ => rfl⟩
    · have hne : m ≠ nm := fun e => by subst e; rw [hO] at hm; cases hm
      exact ⟨by simp only [set_ne _ _ hne]; exact hm, setB_ne _ _ hne⟩
    · by_cases hne : m = nm
      · subst hne
        simp only [setB_same] at hb
        exact .inr (by rw [hb]; simp)
      · simp only [set_ne _ _ hne] at hm
        simp only [setB_ne _ _ hne] at hb
        exact .inl ⟨hm, hb⟩
  | .box r, x, nm, X, cs, bs, K, hg, ⟨b, bs', c, e, h1, h2, h3, h4⟩, hfree, h => by
    subst h1 h2
    simp only [enc, run_bind] at h
    have hfree' : Free N B X ([some b] ++ bs') := hfree
    have hbs : Free N B X bs' := hfree'.behind (.refl X _)
    obtain ⟨l, X1, nm1, h5, h6, h7, h8, _⟩ := of_enc r hg h4 hbs h
    obtain ⟨hO, hK⟩ := of_lay h5
    have hd := hfree'.dup
    rw [somes_append, List.nodup_append] at hd
    obtain ⟨k1, k2⟩ := h6.adopt nm hO (some b) (.box l) (fun k hk => by
      cases hk
      obtain ⟨e1, e2, e3⟩ := hfree.g b (by simp)
      refine ⟨by rw [h7.G]; exact e1, e2, by rw [h7.w]; exact e3, fun m o hN hm hf hb => ?_⟩
      rcases h7.new m o b hm hf hb with ⟨q1, q2⟩ | q1
      · exact hfree.none b (by simp) m o hN q1 hf q2
      · exact hd.2.2 b (by simp [somes]) b (mem_somes.2 q1) rfl) (fun k hk m hN hp => by
      cases hk
      rcases h7.newp m b hp with q1 | q1
      · exact hfree.part b (by simp) m hN q1
      · exact hd.2.2 b (by simp [somes]) b (mem_somes.2 q1) rfl) (fun hE => ⟨b, c, e, setB_same _ _ _, by rw [h7.w]; exact h3, h8.ext hE⟩)
    refine ⟨[.ptr nm 0 0], ⟨X1.w, X1.G, setB X1.β nm (some b), X1.O.set nm ⟨0, false, .box l⟩⟩, nm1, hK, k1, ⟨h7.w, h7.G, h7.ext.trans k2, fun m o hm => ?_, fun m o k hm hf hb => ?_, fun m k hp => ?_⟩, .cons rfl ⟨rfl, _, set_same _ _ _, Nat.le_refl _, fun _ => ⟨b, setB_same _ _ _, rfl⟩⟩ .nil, fun _ => rfl⟩
    · obtain ⟨q1, q2⟩ := h7.old m o hm
      have hne : m ≠ nm := fun e => by subst e; rw [hO] at q1; cases q1
      exact ⟨by simp only [set_ne _ _ hne]; exact q1, by simp only [setB_ne _ _ hne]; exact q2⟩
    · by_cases hne : m = nm
      · subst hne
        simp only [setB_same] at hb
        cases hb
        exact .inr (by simp)
      · simp only [set_ne _ _ hne] at hm
        simp only [setB_ne _ _ hne] at hb
        rcases h7.new m o k hm hf hb with q | q
        · exact .inl q
        · exact .inr (List.mem_cons_of_mem _ q)
    · exact (h7.newp m k (adopt_parts hO rfl m k hp)).imp id (List.mem_cons_of_mem _)
  | .mv t, x, nm, X, cs, bs, K, hg, ⟨v, b, h1, h2, h3⟩, hfree, h => by
    subst h1 h2
    simp only [enc, run_bind] at h
    obtain ⟨hO, hK⟩ := of_lay h
    obtain ⟨k1, k2⟩ := hg.adopt nm hO b (.row t x) (fun k hk => by
      subst hk
      obtain ⟨e1, e2, e3⟩ := hfree.g k (by simp)
      exact ⟨e1, e2, e3, hfree.none k (by simp)⟩) (fun k hk => hfree.part k (by rw [hk]; simp)) (fun hE => (h3.imp hE.g hE.agree (fun _ _ => rfl)).ofOwn' (setB_same _ _ _))
    refine ⟨_, ⟨X.w, X.G, setB X.β nm b, X.O.set nm ⟨0, false, .row t x⟩⟩, _, hK, k1, ⟨rfl, rfl, k2, fun m o hm => ?_, fun m o k hm hf hb => ?_, fun m k hp => .inl (adopt_parts hO rfl m k hp)⟩, HLs.ofOwn (h3.imp k2.g k2.agree (fun _ _ => rfl)) (setB_same _ _ _) (set_same _ _ _), fun _ => rfl⟩
    · have hne : m ≠ nm := fun e => by subst e; rw [hO] at hm; cases hm
      exact ⟨by simp only [set_ne _ _ hne]; exact hm, setB_ne _ _ hne⟩
    · by_cases hne : m = nm
      · subst hne
        simp only [setB_same] at hb
        exact .inr (by rw [hb]; simp)
      · simp only [set_ne _ _ hne] at hm
        simp only [setB_ne _ _ hne] at hb
        exact .inl ⟨hm, hb⟩
  | .nil, x, nm, X, cs, bs, K, hg, ⟨h1, h2⟩, _, h => by
    subst h1 h2
    exact ⟨[.nil], X, nm, h, hg, .refl X _, .cons rfl rfl .nil, fun _ => rfl⟩
  | .pal _ _ _, x, nm, X, cs, bs, K, hg, _, _, h => by cases h
  | .rows t, x, nm, X, cs, bs, K, hg, ⟨a, b, cap, c, e, vs, sp, h1, h2, h3, h4, h5, h6, h7⟩, hfree, h => by
    subst h1 h2
    simp only [enc, run_bind] at h
    obtain ⟨hO, hK⟩ := of_lay h
    have hd := hfree.dup
    simp only [somes, List.nodup_cons] at hd
    have hpn := parts_rows (X := ⟨X.w, X.G, setB X.β nm (some b), X.O.set nm ⟨0, false, .rows t x none .undef⟩⟩) (n := nm) (set_same _ _ _) (setB_same _ _ _) h3 h4 h5.len
    obtain ⟨k1, k2⟩ := hg.adoptR nm hO (some b) (.rows t x none .undef) (fun k hk => by
      cases hk
      obtain ⟨e1, e2, e3⟩ := hfree.g b (by simp)
      exact ⟨e1, e2, e3, hfree.none b (by simp)⟩) (fun k hk => by cases hk; exact hfree.part b (by simp)) (fun hE => ⟨rfl, b, c, e, vs, sp, setB_same _ _ _, h3, h4, h5.imp hE.g hE.agree (fun _ _ => rfl), hd.2, BkH.none⟩) (fun k hk => by
      rw [hpn] at hk
      have hk' := List.mem_cons_of_mem (some b) hk
      obtain ⟨e1, e2, e3⟩ := hfree.g k hk'
      exact ⟨e1, e2, e3, fun h => hd.1 (by cases h; exact mem_somes.2 hk), fun m o hm => hfree.none k hk' m o hm, fun m hm => hfree.part k hk' m hm⟩)
    refine ⟨_, ⟨X.w, X.G, setB X.β nm (some b), X.O.set nm ⟨0, false, .rows t x none .undef⟩⟩, _, hK, k1, ⟨rfl, rfl, k2, fun m o hm => ?_, fun m o k hm hf hb => ?_, fun m k hp => ?_⟩, .cons rfl ⟨rfl, _, set_same _ _ _, Nat.le_refl _, fun _ => ?_⟩ .nil, fun _ => rfl⟩
    · have hne : m ≠ nm := fun e => by subst e; rw [hO] at hm; cases hm
      exact ⟨by simp only [set_ne _ _ hne]; exact hm, setB_ne _ _ hne⟩
    · by_cases hne : m = nm
      · subst hne
        simp only [setB_same] at hb
        exact .inr (by rw [← hb]; simp)
      · simp only [set_ne _ _ hne] at hm
        simp only [setB_ne _ _ hne] at hb
        exact .inl ⟨hm, hb⟩
    · by_cases hne : m = nm
      · subst hne
        rw [hpn] at hp
        exact .inr (List.mem_cons_of_mem _ hp)
      · rw [parts_eq (X := X) (X' := ⟨X.w, X.G, setB X.β nm (some b), X.O.set nm ⟨0, false, .rows t x none .undef⟩⟩) (set_ne _ _ hne) (setB_ne _ _ hne) (fun _ _ _ _ _ => rfl)] at hp
        exact .inl hp
    · simp only [RowH, Body.shape, setB_same, View.of, View.lo]
      refine ⟨trivial, a, cap, rfl, h6, c, e, h3, ?_⟩
      rcases h7 with h7 | ⟨h7, h8⟩
      · exact .inl h7
      · exact .inr ⟨by rw [h7]; simp, by simp [Ty.size, h8]⟩
  | .unit, x, nm, X, cs, bs, K, hg, ⟨h1, h2⟩, _, h => by
    subst h1 h2
    exact ⟨[], X, nm, h, hg, .refl X _, .nil, fun hf => by simp [RT.agg] at hf⟩
  | .pair p q, x, nm, X, cs, bs, K, hg, ⟨c1, c2, b1, b2, h1, h2, h3, h4⟩, hfree, h => by
    subst h1 h2
    simp only [enc, run_bind] at h
    obtain ⟨l1, X1, nm1, h5, h6, h7, h8, _⟩ := of_enc p hg h3 hfree.left h
    have h4' : RR false X1.w X1.G q x.2 c2 b2 := by rw [h7.w, h7.G]; exact h4
    obtain ⟨l2, X2, nm2, k5, k6, k7, k8, _⟩ := of_enc q h6 h4' (hfree.behind h7) h5
    exact ⟨l1 ++ l2, X2, nm2, k5, k6, h7.trans k7, (h8.ext k7.ext).append k8, fun hf => by simp [RT.agg] at hf⟩
  | .func f nf r, x, nm, X, cs, bs, K, hg, ⟨a1, a2, h1, h2, h3⟩, hfree, h => by
    subst h1
    simp only [enc, run_bind] at h
    obtain ⟨l, X1, nm1, h5, h6, h7, h8, _⟩ := of_enc r hg h3 hfree h
    obtain ⟨h9, h5⟩ := of_sure h5
    have hna : ∀ s ∈ l, ∀ t m y, s ≠ SV.arr t m y := noArr_of h9
    obtain ⟨s1, s2⟩ := h8.split (n := nf) hna
    have e1 : (a1.toList ++ a2.toList).take nf = a1.toList := by rw [← h2, ← Array.length_toList, List.take_left]
    have e2 : (a1.toList ++ a2.toList).drop nf = a2.toList := by rw [← h2, ← Array.length_toList, List.drop_left]
    rw [e1] at s1
    rw [e2] at s2
    refine ⟨_, X1, nm1, h5, h6, h7, .cons rfl ⟨a1, a2, rfl, s1.values (fun s hs => hna s (List.mem_of_mem_take hs)), s2.values (fun s hs => hna s (List.mem_of_mem_drop hs))⟩ .nil, fun _ => rfl⟩
end Go.Ev
namespace Go.Ev
open Go.RowKit
variable {R : Type} {B : Base}
noncomputable def RT.nleaves : RT → Nat
  | .val t => t.nleaves | .own _ => 1 | .box _ => 1 | .unit => 0 | .pair a b => a.nleaves + b.nleaves | .func .. => 1 | .mv _ => 1 | .nil => 1 | .pal .. => 1 | .rows _ => 1 | .ip _ => 1
/-- a block of an object -/
def Blk (X : Cx) (n b : Nat) : Prop := X.β n = some b ∨ some b ∈ X.parts n
theorem GoodX.blk [Str] {X : Cx} (h : Good B X) {n : Nat} {o : Obj} {b : Nat} (ho : X.O n = some o) (hf : o.frozen = false) (hb : Blk X n b) : ¬ X.G b ∧ (B.Im b ∨ B.w0.heap.size ≤ b) ∧ b < X.w.heap.size := by
  rcases hb with hb | hb
  · exact ⟨(h.own n o b ho hf hb).1, (h.own n o b ho hf hb).2, h.lt n o b ho hb⟩
  · exact ⟨(h.part n b hb).1, (h.part n b hb).2.1, (h.part n b hb).2.2.1⟩
theorem GoodX.blk_inj [Str] {X : Cx} (h : Good B X) {n m : Nat} {o p : Obj} {b : Nat} (ho : X.O n = some o) (hp : X.O m = some p) (hf : o.frozen = false) (hf' : p.frozen = false) (hb : Blk X n b) (hb' : Blk X m b) : n = m := by
  rcases hb with hb | hb <;> rcases hb' with hb' | hb'
  · exact h.inj n m o p b ho hp hf hf' hb hb'
  · exact absurd hb ((h.part m b hb').2.2.2.1 n o ho hf)
  · exact absurd hb' ((h.part n b hb).2.2.2.1 m p hp hf')
  · exact (h.part m b hb').2.2.2.2 n hb
def Along (X : Cx) : List (Option Nat) → List (Option Nat) → Prop
  | [], bs => bs = []
  | n :: ns, bs => ∃ c r, bs = c ++ r ∧ (somes c).Nodup ∧ (∀ k, some k ∈ c → ∃ m, n = some m ∧ Blk X m k) ∧ Along X ns r
theorem Along.cons1 {X : Cx} {n b : Option Nat} {ns bs : List (Option Nat)} (h : ∀ k, b = some k → ∃ m, n = some m ∧ X.β m = some k) (hr : Along X ns bs) : Along X (n :: ns) (b :: bs) :=
  ⟨[b], bs, rfl, by cases b <;> simp [somes], fun k hk => by
    obtain ⟨m, h1, h2⟩ := h k (by simpa [eq_comm] using hk)
    exact ⟨m, h1, .inl h2⟩, hr⟩
theorem Along.append {X : Cx} : ∀ {a b c d : List (Option Nat)}, Along X a b → Along X c d → Along X (a ++ c) (b ++ d)
  | [], _, _, _, h, h' => by cases h; exact h'
  | _ :: _, _, _, _, ⟨c, r, h0, h1, h2, h3⟩, h => ⟨c, r ++ _, by rw [h0, List.append_assoc], h1, h2, Along.append h3 h⟩
theorem Along.mem {X : Cx} : ∀ {a b : List (Option Nat)}, Along X a b → ∀ {k : Nat}, some k ∈ b → ∃ m, some m ∈ a ∧ Blk X m k
  | [], _, e, _, h => by cases e; cases h
  | n :: ns, bs, ⟨c, r, h0, h1, h2, h3⟩, k, h => by
    subst h0
    rcases List.mem_append.1 h with h | h
    · obtain ⟨m, e1, e2⟩ := h2 k h
      exact ⟨m, by rw [e1]; simp, e2⟩
    · obtain ⟨m, e1, e2⟩ := h3.mem h
      exact ⟨m, List.mem_cons_of_mem _ e1, e2⟩
theorem Along.nodup [Str] {X : Cx} (hg : Good B X) : ∀ {a b : List (Option Nat)}, Along X a b → (somes a).Nodup → (∀ n, some n ∈ a → ∃ o, X.O n = some o ∧ o.frozen = false) → (somes b).Nodup
  | [], _, e, _, _ => by cases e; simp [somes]
  | n :: ns, bs, ⟨c, r, h0, h1, h2, h3⟩, hd, ho => by
    subst h0
    have hd2 : (somes ns).Nodup := by
      cases n with
      | none => exact hd
      | some n => exact (List.nodup_cons.1 hd).2
    have ih := Along.nodup hg h3 hd2 (fun n hn => ho n (List.mem_cons_of_mem _ hn))
    rw [somes_append, List.nodup_append]
    refine ⟨h1, ih, fun k hk k' hk' e => ?_⟩
    subst e
    obtain ⟨m, rfl, e2⟩ := h2 k (mem_somes.1 hk)
    obtain ⟨m', e3, e4⟩ := h3.mem (mem_somes.1 hk')
    obtain ⟨o, o1, o2⟩ := ho m (by simp)
    obtain ⟨p, p1, p2⟩ := ho m' (List.mem_cons_of_mem _ e3)
    have := hg.blk_inj o1 p1 o2 p2 e2 e4
    subst this
    exact (List.nodup_cons.1 hd).1 (mem_somes.2 e3)
theorem widths_append : ∀ (a b : List SV), widths (a ++ b) = widths a + widths b
  | [], b => by simp [widths]
  | s :: a, b => by simp only [List.cons_append, widths, widths_append a b]; omega
theorem HLs.dropLeaves [Str] {X : Cx} : ∀ (n : Nat) {l : List SV} {cs : List Value}, HLs X l cs → HLs X (l.drop n) (cs.drop (widths (l.take n)))
  | 0, l, cs, h => by simpa [widths] using h
  | n + 1, [], cs, h => by simpa [widths] using h
  | n + 1, s :: r, cs, h => by
    obtain ⟨c, d, rfl, h1, _, h2, _⟩ := h.uncons
    have := HLs.dropLeaves n h2
    simp only [List.drop_succ_cons, List.take_succ_cons, widths]
    rw [← h1, List.drop_append, List.drop_eq_nil_of_le (as := c) (by omega), Nat.add_sub_cancel_left, List.nil_append]
    exact this
/-- what is owned outright, where it lies -/
def TopOK (O : Objs) : RT → List SV → Prop
  | .val t, l => widths (l.take t.nleaves) = t.size
  | .box _, .ptr n g 0 :: _ => ∃ cs, O n = some ⟨g, false, .box cs⟩
  | .ip t, .row n g .full :: _ => ∃ l : List t.den, O n = some ⟨g, false, .row t l⟩ ∧ 0 < l.length
  | .unit, _ => True
  | .pair a b, l => TopOK O a l ∧ TopOK O b (l.drop a.nleaves)
  | .func _ _ r, .func _ first caps :: _ => TopOK O r (first ++ caps) ∧ clean (first ++ caps) = true
  | .mv _, .row _ _ _ :: _ => True
  | .mv _, .nil :: _ => True
  | .nil, .nil :: _ => True
  | .pal _ _ _, .func _ _ _ :: _ => True
  | _, _ => False
noncomputable def topsOf : RT → List SV → List (Option Nat)
  | .own _, .row n _ _ :: _ => [some n]
  | .box _, .ptr n _ _ :: _ => [some n]
  | .ip _, .row n _ _ :: _ => [some n]
  | .pair a b, l => topsOf a l ++ topsOf b (l.drop a.nleaves)
  | .func _ _ r, .func _ first caps :: _ => topsOf r (first ++ caps)
  | _, _ => []
theorem HLs.rows [Str] {X : Cx} : ∀ {l : List SV} {cs : List Value}, HLs X l cs → ∀ n ∈ rowNames l, ∃ o, X.O n = some o
  | [], _, _, n, h => by cases h
  | s :: r, _, h, n, hn => by
    obtain ⟨c, d, e, _, h1, h2, _⟩ := h.uncons
    cases s <;> first
      | exact h2.rows n hn
      | (rcases List.mem_cons.1 hn with rfl | hn
         · obtain ⟨v, _, _, _, o, ho, _⟩ := h1.single (by simp)
           exact ⟨o, ho⟩
         · exact h2.rows n hn)
theorem rowNames_take : ∀ {l : List SV} {k n : Nat}, n ∈ rowNames (l.take k) → n ∈ rowNames l
  | [], k, n, h => by simp [rowNames] at h
  | s :: r, 0, n, h => by simp [rowNames] at h
  | s :: r, k + 1, n, h => by
    rw [List.take_succ_cons] at h
    cases s <;> first
      | exact rowNames_take (l := r) (k := k) h
      | (rcases List.mem_cons.1 h with rfl | h
         · simp [rowNames]
         · exact List.mem_cons_of_mem _ (rowNames_take (l := r) (k := k) h))
/-- the values of a closure -/
theorem HVs.leaves [Str] {X : Cx} : ∀ {l : List SV} {vs : List Value}, HVs X l vs → clean l = true → HLs X l vs
  | [], _, h, _ => by cases h; exact .nil
  | s :: r, _, ⟨v, l', e, h1, h2⟩, hc => by
    subst e
    have h3 : HLs X r l' := h2.leaves (by cases s <;> first | exact hc | (simp [clean] at hc))
    have hone : One v := by
      cases s with
      | undef => simp [clean] at hc
      | agg _ => simp [clean] at hc
      | tup _ => simp [clean] at hc
      | arr _ _ _ => exact h1.elim
      | nil => cases h1; rfl
      | int _ _ => cases h1; rfl
      | bool _ => cases h1; rfl
      | str _ => cases h1; rfl
      | lst t l => obtain ⟨a, cap, e, _⟩ := h1; simp only [List.cons.injEq, and_true] at e; subst e; rfl
      | ptr n g off => exact h1.1
      | ptrA n g off i j sz m => exact h1.1
      | ptrE n g i off => exact h1.1
      | row n g w => exact h1.1
      | ptrF t l i off => obtain ⟨_, b, o, es, e, _⟩ := h1; subst e; rfl
      | func f first caps => obtain ⟨a, c, e, _⟩ := h1; subst e; rfl
    exact .cons hone h1 h3
theorem HLs.nil_eq {X : Cx} {l : List Value} (h : HLs X [] l) : l = [] := by simpa only [HLs] using h
theorem HVs.append {X : Cx} : ∀ {a b : List SV} {c d : List Value}, HVs X a c → HVs X b d → HVs X (a ++ b) (c ++ d)
  | [], _, _, _, h, h' => by cases h; exact h'
  | _ :: _, _, _, _, ⟨v, l', e, h1, h2⟩, h' => ⟨v, l' ++ _, by rw [e]; rfl, h1, h2.append h'⟩
theorem HVs.len {X : Cx} : ∀ {a : List SV} {c : List Value}, HVs X a c → c.length = a.length
  | [], _, h => by cases h; rfl
  | _ :: _, _, ⟨v, l', e, h1, h2⟩ => by rw [e, List.length_cons, h2.len, List.length_cons]
theorem topsVal (t : Ty) (l : List SV) : ([] : List (Option Nat)).Perm (topsOf (.val t) l ++ []) := by
  have e : topsOf (.val t) l = [] := by cases l with | nil => rfl | cons s _ => cases s <;> rfl
  rw [e]; exact .refl _
structure Dec (X : Cx) (fixed : Bool) (r : RT) (l : List SV) (x : r.den) (ns : Names) (c : List Value) (bs : List (Option Nat)) : Prop where
  along : Along X ns.own bs
  own : ∀ n, some n ∈ ns.own → ∃ o, X.O n = some o ∧ o.frozen = false
  lent : ∀ n ∈ ns.lent, ∃ o, X.O n = some o
  top : fixed = true → TopOK X.O r l ∧ ns.own.Perm (topsOf r l ++ ns.inner)
  rr : ∀ Lt : Nat → Prop, (∀ n ∈ ns.lent, ∀ b, X.β n = some b → Lt b) → RR false X.w (fun b => X.G b ∨ Lt b) r x c bs
theorem of_dec [Str] {X : Cx} (hg : Good B X) {res : R} : ∀ (r : RT) {fixed : Bool} {l : List SV} {cs : List Value} {K : r.den × List SV × Names → Objs → Option R}, HLs X l cs → (dec fixed r l).run X.O K = some res →
    ∃ x ns c d bs, K (x, l.drop r.nleaves, ns) X.O = some res ∧ cs = c ++ d ∧ HLs X (l.drop r.nleaves) d ∧ Dec X fixed r l x ns c bs
  | .val t, fixed, l, cs, K, hl, h => by
    have h' : (unleaf false t l).run X.O (fun p O' => K (p.1, p.2, ⟨[], [], rowNames (l.take t.nleaves)⟩) O') = some res := by
      have e : dec fixed (.val t) l = (unleaf false t l >>= fun p => (pure (p.1, p.2, ⟨[], [], rowNames (l.take t.nleaves)⟩) : Prog (t.den × List SV × Names))) := by
        cases l with
        | nil => rfl
        | cons s _ => cases s <;> rfl
      rw [e] at h
      exact (run_bind _ _ _ _).symm.trans h
    obtain ⟨x, c, d, h1, h2, h3, _, h4⟩ := of_unleaf hg t hl h'
    exact ⟨x, _, c, d, [], h1, h2, h3, ⟨rfl, (fun n hn => by cases hn), fun n hn => hl.rows n (rowNames_take hn), fun _ => ⟨(by
      have w1 := hl.len
      have w2 := h3.len
      have w3 := (h4 (fun _ => True) (fun _ _ _ _ => trivial)).len
      have w4 := widths_append (l.take t.nleaves) (l.drop t.nleaves)
      rw [List.take_append_drop] at w4
      have w5 := congrArg List.length h2
      rw [List.length_append] at w5
      show widths (l.take t.nleaves) = t.size
      omega), topsVal t l⟩, fun Lt hL => ⟨rfl, (h4 Lt hL).len, fun _ => h4 Lt hL⟩⟩⟩
  | .own t, fixed, l, cs, K, hl, h => by
    cases l with
    | nil => simp [dec, run_fail] at h
    | cons s rest =>
      cases s <;> first | (simp [dec, run_fail] at h; done) | skip
      · obtain ⟨v, d, rfl, _, hv, h2⟩ := hl.uncons1 (by simp)
        have hv : v = .slice none 0 0 := hv
        subst hv
        cases fixed with
        | true => simp [dec, run_fail] at h
        | false => exact ⟨[], ⟨[none], [], []⟩, _, d, [none], h, rfl, h2, ⟨Along.cons1 (fun k hk => by cases hk) rfl, (fun n hn => by simp at hn), (fun n hn => by cases hn), (fun hf => by cases hf), fun _ _ => ⟨_, none, rfl, rfl, rfl, none, rfl⟩⟩⟩
      · rename_i n g v
        obtain ⟨val, d, rfl, _, hv, h2⟩ := hl.uncons1 (by simp)
        have h' : (get n).run X.O (fun oo O' => (match oo with
            | some ⟨g', false, .row _ l⟩ => (do
              sure (Nat.beq g g' && !fixed && v.isLo)
              let l ← must (castL (u := t) l)
              pure (v.of l, rest, ⟨[some n], [], []⟩) : Prog (List t.den × List SV × Names))
            | _ => fail).run O' K) = some res := (run_bind _ _ _ _).symm.trans h
        rw [run_get] at h'
        split at h'
        · rename_i g' t' l0 ho
          have h3 := (run_bind _ _ _ _).symm.trans h'
          obtain ⟨k1, k2⟩ := of_sure h3
          have k3 := (run_bind _ _ _ _).symm.trans k2
          obtain ⟨l1, k4, k50⟩ := of_must k3
          have k5 : K (v.of l1, rest, ⟨[some n], [], []⟩) X.O = some res := k50
          clear h3 k2 k3 h h' k50
          obtain ⟨e, rfl⟩ := of_castL k4
          subst e
          rw [Bool.and_eq_true, Bool.and_eq_true] at k1
          have := Nat.eq_of_beq_eq_true k1.1.1
          subst this
          have hlo : v.lo = 0 := by cases v <;> first | rfl | (simp [View.isLo] at k1)
          obtain ⟨_, o, e1, _, e2⟩ := hv
          rw [ho] at e1; cases e1
          obtain ⟨hfit, a, cap, hval, hcap, hb⟩ := e2 rfl
          have hob := hg.obj n _ ho
          simp only [ObjH] at hob
          have key : ∃ b : Option Nat, (∀ k, b = some k → X.β n = some k) ∧ ∀ Lt : Nat → Prop, OwnV X.w (fun b => X.G b ∨ Lt b) t' (v.of l0) val b := by
            cases hβ : X.β n with
            | none =>
              rw [hβ] at hb
              obtain ⟨rfl, rfl⟩ := hb
              exact ⟨none, (fun k hk => by cases hk), fun _ => ⟨List.eq_nil_of_length_eq_zero (by omega), a, by rw [hval]; congr 1; omega⟩⟩
            | some b =>
              rw [hβ] at hb hob
              obtain ⟨c, e, k6, k7⟩ := hb
              obtain ⟨c', e', es, sp, cp, q1, q2, q3, q4, q5⟩ := hob
              rw [k6] at q1; cases q1
              rcases k7 with rfl | ⟨k7, k8⟩
              · exact ⟨none, (fun k hk => by cases hk), fun _ => ⟨List.eq_nil_of_length_eq_zero (by omega), a, by rw [hval]; congr 1; omega⟩⟩
              · refine ⟨some b, fun k hk => hk, fun Lt => ?_⟩
                have hview : ∃ fs sq, c.toList = fs ++ sq ∧ Elem (RC X.w X.G t') (v.of l0) fs := by
                  cases v with
                  | full => exact ⟨es, sp, q2, q3⟩
                  | upto m => exact ⟨es.take (m * t'.size), es.drop (m * t'.size) ++ sp, by rw [← List.append_assoc, List.take_append_drop]; exact q2, q3.take (fun _ _ h => RC.len h) m⟩
                  | from_ _ => simp [View.isLo] at k1
                  | mid _ _ => simp [View.isLo] at k1
                obtain ⟨fs, sq, f1, f2⟩ := hview
                rw [hlo, Nat.zero_add] at k8
                rw [hlo, Nat.zero_mul] at k7
                exact ⟨cap, c, e, fs, sq, by rw [hval, k7], k6, f1, f2.imp (fun _ _ h => RC.imp (fun _ h => .inl h) (fun _ _ => rfl) h), k8.symm, hcap⟩
          obtain ⟨b, kb1, kb2⟩ := key
          refine ⟨v.of l0, ⟨[some n], [], []⟩, [val], d, [b], k5, rfl, h2, ⟨Along.cons1 (fun k hk => ⟨n, rfl, kb1 k hk⟩) rfl, fun m hm => ?_, (fun m hm => by cases hm), fun hfx => ?_, fun Lt _ => ⟨val, b, rfl, rfl, kb2 Lt⟩⟩⟩
          · simp only [List.mem_singleton, Option.some.injEq] at hm
            subst hm
            exact ⟨_, ho, rfl⟩
          · subst hfx
            simp at k1
        · cases h'
  | .mv t, fixed, l, cs, K, hl, h => by
    cases l with
    | nil => simp [dec, run_fail] at h
    | cons s rest =>
      cases s <;> first | (simp [dec, run_fail] at h; done) | skip
      · obtain ⟨v, d, rfl, _, hv, h2⟩ := hl.uncons1 (by simp)
        have hv : v = .slice none 0 0 := hv
        subst hv
        exact ⟨[], ⟨[none], [none], []⟩, _, d, [none], h, rfl, h2, ⟨Along.cons1 (fun k hk => by cases hk) rfl, (fun n hn => by simp at hn), (fun n hn => by cases hn), (fun _ => ⟨trivial, .refl _⟩), fun _ _ => ⟨_, none, rfl, rfl, rfl, none, rfl⟩⟩⟩
      · rename_i n g v
        obtain ⟨val, d, rfl, _, hv, h2⟩ := hl.uncons1 (by simp)
        have h' : (get n).run X.O (fun oo O' => (match oo with
            | some ⟨g', false, .row _ l⟩ => (do
              sure (Nat.beq g g' && v.isLo)
              let l ← must (castL (u := t) l)
              pure (v.of l, rest, ⟨[some n], [some n], []⟩) : Prog (List t.den × List SV × Names))
            | _ => fail).run O' K) = some res := (run_bind _ _ _ _).symm.trans h
        rw [run_get] at h'
        split at h'
        · rename_i g' t' l0 ho
          have h3 := (run_bind _ _ _ _).symm.trans h'
          obtain ⟨k1, k2⟩ := of_sure h3
          have k3 := (run_bind _ _ _ _).symm.trans k2
          obtain ⟨l1, k4, k50⟩ := of_must k3
          have k5 : K (v.of l1, rest, ⟨[some n], [some n], []⟩) X.O = some res := k50
          clear h3 k2 k3 h h' k50
          obtain ⟨e, rfl⟩ := of_castL k4
          subst e
          rw [Bool.and_eq_true] at k1
          have := Nat.eq_of_beq_eq_true k1.1
          subst this
          have hlo : v.lo = 0 := by cases v <;> first | rfl | (simp [View.isLo] at k1)
          obtain ⟨_, o, e1, _, e2⟩ := hv
          rw [ho] at e1; cases e1
          obtain ⟨hfit, a, cap, hval, hcap, hb⟩ := e2 rfl
          have hob := hg.obj n _ ho
          simp only [ObjH] at hob
          have key : ∃ b : Option Nat, (∀ k, b = some k → X.β n = some k) ∧ ∀ Lt : Nat → Prop, OwnV X.w (fun b => X.G b ∨ Lt b) t' (v.of l0) val b := by
            cases hβ : X.β n with
            | none =>
              rw [hβ] at hb
              obtain ⟨rfl, rfl⟩ := hb
              exact ⟨none, (fun k hk => by cases hk), fun _ => ⟨List.eq_nil_of_length_eq_zero (by omega), a, by rw [hval]; congr 1; omega⟩⟩
            | some b =>
              rw [hβ] at hb hob
              obtain ⟨c, e, k6, k7⟩ := hb
              obtain ⟨c', e', es, sp, cp, q1, q2, q3, q4, q5⟩ := hob
              rw [k6] at q1; cases q1
              rcases k7 with rfl | ⟨k7, k8⟩
              · exact ⟨none, (fun k hk => by cases hk), fun _ => ⟨List.eq_nil_of_length_eq_zero (by omega), a, by rw [hval]; congr 1; omega⟩⟩
              · refine ⟨some b, fun k hk => hk, fun Lt => ?_⟩
                have hview : ∃ fs sq, c.toList = fs ++ sq ∧ Elem (RC X.w X.G t') (v.of l0) fs := by
                  cases v with
                  | full => exact ⟨es, sp, q2, q3⟩
                  | upto m => exact ⟨es.take (m * t'.size), es.drop (m * t'.size) ++ sp, by rw [← List.append_assoc, List.take_append_drop]; exact q2, q3.take (fun _ _ h => RC.len h) m⟩
                  | from_ _ => simp [View.isLo] at k1
                  | mid _ _ => simp [View.isLo] at k1
                obtain ⟨fs, sq, f1, f2⟩ := hview
                rw [hlo, Nat.zero_add] at k8
                rw [hlo, Nat.zero_mul] at k7
                exact ⟨cap, c, e, fs, sq, by rw [hval, k7], k6, f1, f2.imp (fun _ _ h => RC.imp (fun _ h => .inl h) (fun _ _ => rfl) h), k8.symm, hcap⟩
          obtain ⟨b, kb1, kb2⟩ := key
          refine ⟨v.of l0, ⟨[some n], [some n], []⟩, [val], d, [b], k5, rfl, h2, ⟨Along.cons1 (fun k hk => ⟨n, rfl, kb1 k hk⟩) rfl, fun m hm => ?_, (fun m hm => by cases hm), fun _ => ⟨trivial, .refl _⟩, fun Lt _ => ⟨val, b, rfl, rfl, kb2 Lt⟩⟩⟩
          · simp only [List.mem_singleton, Option.some.injEq] at hm
            subst hm
            exact ⟨_, ho, rfl⟩
        · cases h'
  | .nil, fixed, l, cs, K, hl, h => by
    cases l with
    | nil => simp [dec, run_fail] at h
    | cons s rest =>
      cases s <;> first | (simp [dec, run_fail] at h; done) | skip
      obtain ⟨v, d, rfl, _, hv, h2⟩ := hl.uncons1 (by simp)
      have hv : v = .slice none 0 0 := hv
      subst hv
      exact ⟨(), .none, _, d, [], h, rfl, h2, ⟨rfl, (fun n hn => by cases hn), (fun n hn => by cases hn), (fun _ => ⟨trivial, .refl _⟩), fun _ _ => ⟨rfl, rfl⟩⟩⟩
  | .rows t, fixed, l, cs, K, hl, h => by
    cases l with
    | nil => simp [dec, run_fail] at h
    | cons s rest =>
      cases s <;> first | (simp [dec, run_fail] at h; done) | skip
      rename_i n g v
      cases v <;> first | (simp [dec, run_fail] at h; done) | skip
      obtain ⟨val, d, rfl, _, hv, h2⟩ := hl.uncons1 (by simp)
      have h' : (get n).run X.O (fun oo O' => (match oo with
          | some ⟨g', false, .rows u l none _⟩ => (do
            sure (Nat.beq g g' && !fixed)
            let l ← must (castL (t := .list u) (u := .list t) l)
            pure (l, rest, ⟨[some n], [], []⟩) : Prog (List (List t.den) × List SV × Names))
          | _ => fail).run O' K) = some res := (run_bind _ _ _ _).symm.trans h
      rw [run_get] at h'
      split at h'
      · rename_i g' u ll bkq ho
        have h3 := (run_bind _ _ _ _).symm.trans h'
        obtain ⟨k1, k2⟩ := of_sure h3
        have k3 := (run_bind _ _ _ _).symm.trans k2
        obtain ⟨l1, k4, k50⟩ := of_must k3
        have k5 : K (l1, rest, ⟨[some n], [], []⟩) X.O = some res := k50
        clear h3 k2 k3 h h' k50
        obtain ⟨e, e2⟩ := of_castL k4
        have e3 : u = t := by injection e
        subst e3
        dsimp only at e2
        subst e2
        rw [Bool.and_eq_true] at k1
        have := Nat.eq_of_beq_eq_true k1.1
        subst this
        obtain ⟨_, o, e1, _, e2⟩ := hv
        rw [ho] at e1; cases e1
        have e2 := e2 rfl
        simp only [RowH, Body.shape, View.of, View.lo] at e2
        obtain ⟨_, a, cap, hval, hcap, hb⟩ := e2
        obtain ⟨_, b, c, e, vs, sp, q1, q2, q3, q4, q5, _⟩ := hg.obj n _ ho
        rw [q1] at hb
        obtain ⟨c', e', k6, k7⟩ := hb
        rw [q2] at k6; cases k6
        have hps := parts_rows ho q1 q2 q3 q4.len
        refine ⟨l1, ⟨[some n], [], []⟩, [val], d, some b :: partsV none vs, k5, rfl, h2, ⟨⟨some b :: partsV none vs, [], by simp, List.nodup_cons.2 ⟨fun hk => ?_, q5⟩, fun k hk => ⟨n, rfl, ?_⟩, rfl⟩, fun m hm => ?_, (fun m hm => by cases hm), fun hfx => ?_, fun Lt _ => ⟨a, b, cap, c, e, vs, sp, by rw [hval]; rfl, rfl, q2, q3, q4.imp (fun _ h => .inl h) (fun _ _ => rfl) (fun _ _ => rfl), hcap, ?_⟩⟩⟩
        · have hk := mem_somes.1 hk
          rw [← hps] at hk
          exact (hg.part n b hk).2.2.2.1 n _ ho rfl q1
        · rcases List.mem_cons.1 hk with hk | hk
          · cases hk; exact .inl q1
          · exact .inr (by rw [hps]; exact hk)
        · simp only [List.mem_singleton, Option.some.injEq] at hm
          subst hm
          exact ⟨_, ho, rfl⟩
        · subst hfx
          simp at k1
        · rcases k7 with k7 | ⟨k7, k8⟩
          · exact .inl k7
          · exact .inr ⟨by rw [k7]; simp, by simpa [Ty.size] using k8⟩
      · cases h'
  | .ip t, fixed, l, cs, K, hl, h => by
    cases l with
    | nil => simp [dec, run_fail] at h
    | cons s rest =>
      cases s <;> first | (simp [dec, run_fail] at h; done) | skip
      rename_i n g v
      cases v <;> first | (simp [dec, run_fail] at h; done) | skip
      obtain ⟨val, d, rfl, _, hv, h2⟩ := hl.uncons1 (by simp)
      have h' : (get n).run X.O (fun oo O' => (match oo with
          | some ⟨g', false, .row _ l⟩ => (do
            sure (Nat.beq g g')
            let l ← must (castL (u := t) l)
            need (0 < l.length)
            pure (l, rest, ⟨[some n], [], []⟩) : Prog (List t.den × List SV × Names))
          | _ => fail).run O' K) = some res := (run_bind _ _ _ _).symm.trans h
      rw [run_get] at h'
      split at h'
      · rename_i g' t' l0 ho
        have h3 := (run_bind _ _ _ _).symm.trans h'
        obtain ⟨k1, k2⟩ := of_sure h3
        have k3 := (run_bind _ _ _ _).symm.trans k2
        obtain ⟨l1, k4, k50⟩ := of_must k3
        have k51 := (run_bind _ _ _ _).symm.trans k50
        obtain ⟨hpos, k52⟩ := of_need k51
        have k5 : K (l1, rest, ⟨[some n], [], []⟩) X.O = some res := k52
        clear h3 k2 k3 h h' k50 k51 k52
        obtain ⟨e, rfl⟩ := of_castL k4
        subst e
        have := Nat.eq_of_beq_eq_true k1
        subst this
        obtain ⟨q1, q2⟩ := OwnV.of_held hg ho hv
        cases hp : partOf val with
        | none =>
          rw [hp] at q1
          have := q1.1
          dsimp only at hpos
          rw [this] at hpos
          exact absurd hpos (by simp)
        | some b =>
          rw [hp] at q1
          refine ⟨l0, ⟨[some n], [], []⟩, [val], d, [some b], k5, rfl, h2, ⟨Along.cons1 (fun k hk => ⟨n, rfl, q2 k (by rw [hp]; exact hk)⟩) rfl, fun m hm => ?_, (fun m hm => by cases hm), fun _ => ⟨⟨l0, ho, hpos⟩, .refl _⟩, fun Lt _ => ⟨val, b, rfl, rfl, q1.imp (fun _ h => .inl h) (fun _ _ => rfl) (fun _ _ => rfl), hpos⟩⟩⟩
          simp only [List.mem_singleton, Option.some.injEq] at hm
          subst hm
          exact ⟨_, ho, rfl⟩
      · cases h'
  | .pal f b i, fixed, l, cs, K, hl, h => by
    cases l with
    | nil => simp [dec, run_fail] at h
    | cons s rest => cases s <;> (simp [dec, run_fail] at h; done)
  | .box r, fixed, l, cs, K, hl, h => by
    cases l with
    | nil => simp [dec, run_fail] at h
    | cons s rest =>
      cases s <;> first | (simp [dec, run_fail] at h; done) | skip
      rename_i n g off
      cases off with
      | succ off => simp [dec, run_fail] at h
      | zero =>
        obtain ⟨val, d, rfl, _, hv, h2⟩ := hl.uncons1 (by simp)
        simp only [dec, run_bind, run_get] at h
        split at h
        · rename_i g' cs0 ho
          rw [run_bind] at h
          obtain ⟨k1, k2⟩ := of_sure h
          have := Nat.eq_of_beq_eq_true k1
          subst this
          rw [run_bind] at k2
          obtain ⟨_, o, e1, _, e2⟩ := hv
          rw [ho] at e1; cases e1
          obtain ⟨b, hb, hval⟩ := e2 rfl
          obtain ⟨b', c, e, q1, q2, q3⟩ := hg.obj n _ ho
          rw [hb] at q1; cases q1
          obtain ⟨x, ns, c', d', bs, w1, w2, w3, w4⟩ := of_dec hg r q3 k2
          rw [run_bind] at w1
          obtain ⟨w5, w6⟩ := of_sure w1
          have hz := isNil_eq w5
          dsimp only at hz
          rw [hz] at w3
          have w3 := w3.nil_eq
          subst w3
          rw [List.append_nil] at w2
          refine ⟨x, ⟨some n :: ns.own, ns.own, ns.lent⟩, [val], d, some b :: bs, w6, rfl, h2, ⟨Along.cons1 (fun k hk => by cases hk; exact ⟨n, rfl, hb⟩) w4.along, fun m hm => ?_, w4.lent, fun _ => ⟨⟨cs0, ho⟩, by simp [topsOf]⟩, fun Lt hL => ⟨b, bs, c, e, by rw [hval], rfl, q2, by rw [w2]; exact w4.rr Lt hL⟩⟩⟩
          rcases List.mem_cons.1 hm with hm | hm
          · cases hm; exact ⟨_, ho, rfl⟩
          · exact w4.own m hm
        · simp [run_fail'] at h
  | .unit, fixed, l, cs, K, hl, h => by
    have h' : K ((), l, .none) X.O = some res := by
      cases l with
      | nil => exact h
      | cons s _ => cases s <;> exact h
    exact ⟨(), .none, [], cs, [], h', rfl, hl, ⟨rfl, (fun n hn => by cases hn), (fun n hn => by cases hn), fun _ => ⟨trivial, .refl _⟩, fun _ _ => ⟨rfl, rfl⟩⟩⟩
  | .pair p q, fixed, l, cs, K, hl, h => by
    have e : dec fixed (.pair p q) l = (dec fixed p l >>= fun y => dec fixed q y.2.1 >>= fun z => (pure ((y.1, z.1), z.2.1, y.2.2.add z.2.2) : Prog ((p.den × q.den) × List SV × Names))) := by
      cases l with
      | nil => rfl
      | cons s _ => cases s <;> rfl
    rw [e] at h
    have h' : (dec fixed p l).run X.O (fun y O' => (dec fixed q y.2.1).run O' fun z O'' => K ((y.1, z.1), z.2.1, y.2.2.add z.2.2) O'') = some res := by
      have := (run_bind _ _ _ _).symm.trans h
      have e2 : (dec fixed p l >>= fun y => dec fixed q y.2.1 >>= fun z => (pure ((y.1, z.1), z.2.1, y.2.2.add z.2.2) : Prog ((p.den × q.den) × List SV × Names))).run X.O K = (dec fixed p l).run X.O (fun y O' => (dec fixed q y.2.1).run O' fun z O'' => K ((y.1, z.1), z.2.1, y.2.2.add z.2.2) O'') := by
        refine (run_bind _ _ _ _).trans ?_
        congr 1
        funext y O'
        exact run_bind _ _ _ _
      rw [← e2]; exact h
    obtain ⟨x, ns, c, d, bs, h1, rfl, h2, h3⟩ := of_dec hg p hl h'
    obtain ⟨y, ms, c', d', bs', k1, rfl, k2, k3⟩ := of_dec hg q h2 h1
    rw [List.drop_drop] at k1 k2
    refine ⟨(x, y), ns.add ms, c ++ c', d', bs ++ bs', k1, by simp, k2, ⟨h3.along.append k3.along, fun n hn => ?_, fun n hn => ?_, fun hf => ?_, fun Lt hL => ⟨c, c', bs, bs', rfl, rfl, h3.rr Lt fun n hn => hL n (List.mem_append_left _ hn), k3.rr Lt fun n hn => hL n (List.mem_append_right _ hn)⟩⟩⟩
    · rcases List.mem_append.1 hn with hn | hn
      · exact h3.own n hn
      · exact k3.own n hn
    · rcases List.mem_append.1 hn with hn | hn
      · exact h3.lent n hn
      · exact k3.lent n hn
    · obtain ⟨t1, t2⟩ := h3.top hf
      obtain ⟨u1, u2⟩ := k3.top hf
      refine ⟨⟨t1, u1⟩, ?_⟩
      have := t2.append u2
      refine this.trans ?_
      simp only [topsOf, Names.add, List.append_assoc]
      refine List.Perm.append_left _ ?_
      rw [← List.append_assoc, ← List.append_assoc]
      exact List.Perm.append_right _ List.perm_append_comm
  | .func f nf r, fixed, l, cs, K, hl, h => by
    cases l with
    | nil => simp [dec, run_fail] at h
    | cons s rest =>
      cases s <;> first | (simp [dec, run_fail] at h; done) | skip
      rename_i f' first caps
      obtain ⟨val, d, rfl, _, hv, h2⟩ := hl.uncons1 (by simp)
      simp only [dec, run_bind] at h
      obtain ⟨k1, k2⟩ := of_sure h
      rw [Bool.and_eq_true, Bool.and_eq_true] at k1
      have hff := Nat.eq_of_beq_eq_true k1.1.1
      have hnf := Nat.eq_of_beq_eq_true k1.1.2
      subst hff
      obtain ⟨a1, a2, hval, v1, v2⟩ := hv
      have hvs : HVs X (first ++ caps) (a1.toList ++ a2.toList) := v1.append v2
      obtain ⟨x, ns, c, d', bs, w1, w2, w3, w4⟩ := of_dec hg r (hvs.leaves k1.2) k2
      obtain ⟨w5, w6⟩ := of_sure w1
      have hz := isNil_eq w5
      dsimp only at hz
      rw [hz] at w3
      have w3 := w3.nil_eq
      subst w3
      rw [List.append_nil] at w2
      refine ⟨x, ns, [val], d, bs, w6, rfl, h2, ⟨w4.along, w4.own, w4.lent, fun hf => ⟨⟨(w4.top hf).1, k1.2⟩, (w4.top hf).2⟩, fun Lt hL => ⟨a1, a2, by rw [hval], ?_, by rw [w2]; exact w4.rr Lt hL⟩⟩⟩
      rw [hnf, ← v1.len, Array.length_toList]
end Go.Ev
