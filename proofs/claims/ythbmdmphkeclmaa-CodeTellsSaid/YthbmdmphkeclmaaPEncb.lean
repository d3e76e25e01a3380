/- What the program's and the document's Encode come to. No conditions beyond each theorem's own. -/
import Derived.Test.YthbmdmphkeclmaaPEnc
set_option linter.unusedVariables false
set_option linter.unusedSimpArgs false
namespace Go.PrS
open Go Go.Ev Go.Proofs
theorem codeRow_ok {l : List Int} (hl : l.all inN = true) (hn : l.length ≤ 1000) : EvTo (fun k => code_row k l) (encs l) := by
  unfold code_row
  have key := EvTo.range l (fun k i (acc : List Int) => code_row_l3 k l (l.length : Int) acc (i : Int)) (fun _ acc r => acc ++ encs r) (fun i acc => acc.length ≤ 10 * i)
    (fun a _ => EvTo.succ (by simp only [code_row_l3]; exact EvTo.ifn (by simp) (EvTo.pure' (by simp [encs]))))
    (fun i h a ha ih => EvTo.succ (by
      simp only [code_row_l3]
      have hx := inN_iff.1 (List.all_eq_true.1 hl _ (List.getElem_mem h))
      refine EvTo.ifp (by simpa using h) (EvTo.ifp (by omega) ?_)
      rw [getI h, wrap_u64 (by omega) (by omega)]
      refine EvTo.bind (put_i hx.1 (by omega)) ?_
      have he := enc_len64 (v := l[i].toNat) (by omega)
      refine EvTo.ifp (by rw [most_eq, List.length_append]; omega) ?_
      rw [wrapS h (by omega)]
      exact (ih _ (by rw [List.length_append]; omega)).to (by simp [encs])))
  exact EvTo.bind ((key [] (by simp)).to (by simp)) EvTo.pure
theorem concat_ok {ll : List (List Int)} (hn : ll.length ≤ 1000) (ht : ll.flatten.length ≤ 1000000000) : EvTo (fun k => slices_Concat_byte_byte k ll) ll.flatten := by
  unfold slices_Concat_byte_byte
  have k1 := EvTo.range ll (fun k i (n : Int) => slices_Concat_byte_byte_l3 k ll ll (ll.length : Int) n (i : Int)) (fun _ n r => n + (r.flatten.length : Int)) (fun i n => 0 ≤ n ∧ n + ((ll.drop i).flatten.length : Int) ≤ 1000000000)
    (fun a _ => EvTo.succ (by simp only [slices_Concat_byte_byte_l3]; exact EvTo.ifn (by simp) (EvTo.pure' (by simp))))
    (fun i h a ha ih => EvTo.succ (by
      simp only [slices_Concat_byte_byte_l3]
      rw [List.drop_eq_getElem_cons h] at ha
      simp only [List.flatten_cons, List.length_append] at ha
      refine EvTo.ifp (by simpa using h) (EvTo.ifp (by omega) ?_)
      rw [getI h, wrap_i64 (by omega) (by omega)]
      refine EvTo.ifn (by rw [decide_eq_true_eq]; omega) ?_
      rw [wrapS h (by omega)]
      refine (ih _ (by omega)).to ?_
      simp only [List.flatten_cons, List.length_append]
      omega))
  have k2 := EvTo.range ll (fun k i (acc : List Int) => slices_Concat_byte_byte_l11 k ll (ll.length : Int) acc (i : Int)) (fun _ acc r => acc ++ r.flatten) (fun i acc => acc.length + (ll.drop i).flatten.length ≤ 1000000000)
    (fun a _ => EvTo.succ (by simp only [slices_Concat_byte_byte_l11]; exact EvTo.ifn (by simp) (EvTo.pure' (by simp))))
    (fun i h a ha ih => EvTo.succ (by
      simp only [slices_Concat_byte_byte_l11]
      rw [List.drop_eq_getElem_cons h] at ha
      simp only [List.flatten_cons, List.length_append] at ha
      refine EvTo.ifp (by simpa using h) (EvTo.ifp (by omega) ?_)
      rw [getI h]
      refine EvTo.ifp (by rw [most_eq, List.length_append]; omega) ?_
      rw [wrapS h (by omega)]
      refine (ih _ (by rw [List.length_append]; omega)).to ?_
      simp only [List.flatten_cons, List.append_assoc]))
  have h1 := (k1 0 (by simp only [List.drop_zero]; omega)).to (w := (ll.flatten.length : Int)) (by simp)
  refine EvTo.bind h1 (EvTo.bind (a := []) ?_ ?_)
  · unfold slices_Grow_byte_byte_nil
    rw [wrap_i64 (by omega) (by omega)]
    refine EvTo.ifn (by rw [decide_eq_true_eq]; omega) ?_
    by_cases h0 : ll.flatten.length = 0
    · exact EvTo.ifn (by rw [decide_eq_true_eq]; omega) EvTo.pure
    · exact EvTo.ifp (by rw [decide_eq_true_eq]; omega) (EvTo.ifp (by omega) (EvTo.pure' (by simp)))
  · exact EvTo.bind ((k2 [] (by simpa using ht)).to (by simp)) EvTo.pure
/-! how long -/
theorem rowB_len {l : List Int} (h : listB l = true) : (rowB l).length ≤ 650 := by
  simp only [listB, Bool.and_eq_true, decide_eq_true_eq] at h
  have h1 := encs_len l h.2
  have h2 := enc_len64 (v := l.length) (by omega)
  unfold rowB
  rw [List.length_append]; omega
theorem phiE (p : L_api_Phi) : phiC.E p = enc p.1.toNat ++ (enc p.2.1.toNat ++ (rowB p.2.2.1 ++ rowB p.2.2.2.1)) := by
  show enc p.1.toNat ++ (enc p.2.1.toNat ++ (l64.E p.2.2.1 ++ l64.E p.2.2.2.1)) = _
  rw [listC_E, listC_E]
theorem opE (o : L_api_Op) : opC.E o = enc o.1.toNat ++ (enc o.2.1.toNat ++ (enc o.2.2.1.toNat ++ (enc o.2.2.2.1.toNat ++ (rowB o.2.2.2.2.1 ++ enc o.2.2.2.2.2.1.toNat)))) := by
  show enc o.1.toNat ++ (enc o.2.1.toNat ++ (enc o.2.2.1.toNat ++ (enc o.2.2.2.1.toNat ++ (l64.E o.2.2.2.2.1 ++ enc o.2.2.2.2.2.1.toNat)))) = _
  rw [listC_E]
theorem blockE (b : L_api_Block) : blockC.E b = (enc b.1.length ++ b.1.flatMap phiC.E) ++ ((enc b.2.1.length ++ b.2.1.flatMap opC.E) ++ (enc b.2.2.1.1.toNat ++ (enc b.2.2.1.2.1.toNat ++ rowB b.2.2.1.2.2.1))) := by
  show (enc b.1.length ++ b.1.flatMap phiC.E) ++ ((enc b.2.1.length ++ b.2.1.flatMap opC.E) ++ (enc b.2.2.1.1.toNat ++ (enc b.2.2.1.2.1.toNat ++ l64.E b.2.2.1.2.2.1))) = _
  rw [listC_E]
theorem headE (f : L_api_Func) : headC.E (f.1, f.2.1, (f.2.2.1.length : Int)) = rowB f.1 ++ (enc f.2.1.toNat ++ enc f.2.2.1.length) := by
  show l16.E f.1 ++ (enc f.2.1.toNat ++ enc ((f.2.2.1.length : Int)).toNat) = _
  rw [listC_E, Int.toNat_natCast]
theorem enc_in {x : Int} (h : inN x = true) : (enc x.toNat).length ≤ 10 := enc_len64 (by have := inN_iff.1 h; omega)
theorem phiE_len {p : L_api_Phi} (h : phiB p = true) : (phiC.E p).length ≤ 1320 := by
  simp only [phiB, Bool.and_eq_true] at h
  have h1 := enc_in h.1.1
  have h2 := enc_in h.1.2
  have h3 := rowB_len h.2.1
  have h4 := rowB_len h.2.2
  rw [phiE]
  simp only [List.length_append]; omega
theorem opE_len {o : L_api_Op} (h : opB o = true) (ho : 0 ≤ o.2.2.2.2.2.1 ∧ o.2.2.2.2.2.1 < 18446744073709551616) : (opC.E o).length ≤ 700 := by
  simp only [opB, Bool.and_eq_true] at h
  have h1 := enc_in h.1.1
  have h2 := enc_in h.1.2.1
  have h3 := enc_in h.1.2.2.1
  have h4 := enc_in h.1.2.2.2
  have h5 := rowB_len h.2
  have h6 : (enc o.2.2.2.2.2.1.toNat).length ≤ 10 := enc_len64 (by omega)
  rw [opE]
  simp only [List.length_append]; omega
theorem flatMap_len {α : Type} {E : α → List Int} {n : Nat} : ∀ {l : List α}, (∀ x ∈ l, (E x).length ≤ n) → (l.flatMap E).length ≤ n * l.length
  | [], _ => by simp
  | x :: l, h => by
    have h1 := flatMap_len (l := l) fun y hy => h y (List.mem_cons_of_mem _ hy)
    have h2 := h x (by simp)
    simp only [List.flatMap_cons, List.length_append, List.length_cons, Nat.mul_succ]; omega
theorem listB_in {l : List Int} (h : listB l = true) : l.all inN = true ∧ l.length ≤ 64 := by
  simp only [listB, Bool.and_eq_true, decide_eq_true_eq] at h
  exact ⟨h.2, h.1⟩
theorem encs2 (a b : Int) : encs [a, b] = enc a.toNat ++ enc b.toNat := by simp [encs]
theorem encode_phis (t5 : L_api_Block) (t25 : List L_api_Block) (t26 t27 : Int) {l : List L_api_Phi} (hl : l.all phiB = true) (hn : l.length ≤ 512) {acc : List Int} (ha : acc.length ≤ 100000000) :
    EvTo (fun k => code_Encode_l9 k t5 t25 t26 t27 l (l.length : Int) acc 0) (acc ++ l.flatMap phiC.E, t5) := by
  have key := EvTo.range l (fun k i (acc : List Int) => code_Encode_l9 k t5 t25 t26 t27 l (l.length : Int) acc (i : Int)) (fun _ acc r => (acc ++ r.flatMap phiC.E, t5)) (fun i acc => acc.length ≤ 100000000 + 1320 * i)
    (fun a _ => EvTo.succ (by simp only [code_Encode_l9]; exact EvTo.ifn (by simp) (EvTo.pure' (by simp))))
    (fun i h a ha ih => EvTo.succ (by
      simp only [code_Encode_l9]
      have hp := List.all_eq_true.1 hl _ (List.getElem_mem h)
      have hlen := phiE_len hp
      have hpe := phiE l[i]
      simp only [phiB, Bool.and_eq_true] at hp
      obtain ⟨⟨p1, p2⟩, p3, p4⟩ := hp
      refine EvTo.ifp (by simpa using h) (EvTo.ifp (by omega) ?_)
      rw [getI h]
      have e : [a, encs [l[i].1, l[i].2.1], rowB l[i].2.2.1, rowB l[i].2.2.2.1].flatten = a ++ phiC.E l[i] := by
        rw [hpe, encs2]; simp
      refine EvTo.bind (codeRow_ok (by simp [p1, p2]) (by simp)) (EvTo.bind (row_ok (listB_in p3).1 (by have := (listB_in p3).2; omega)) (EvTo.bind (row_ok (listB_in p4).1 (by have := (listB_in p4).2; omega)) (EvTo.bind (concat_ok (by simp) (by rw [e, List.length_append]; omega)) ?_)))
      rw [e, wrapS h (by omega)]
      exact (ih _ (by rw [List.length_append]; omega)).to (by simp only [List.flatMap_cons, List.append_assoc])))
  exact key acc (by omega)
theorem encode_ops (t5 : L_api_Block) (t25 : List L_api_Block) (t26 t27 : Int) {l : List L_api_Op} (hl : l.all opB = true) (hi : ∀ o ∈ l, OkOp o) (hn : l.length ≤ 512) {acc : List Int} (ha : acc.length ≤ 200000000) :
    EvTo (fun k => code_Encode_l15 k t5 t25 t26 t27 l (l.length : Int) acc 0) (acc ++ l.flatMap opC.E, t5) := by
  have key := EvTo.range l (fun k i (acc : List Int) => code_Encode_l15 k t5 t25 t26 t27 l (l.length : Int) acc (i : Int)) (fun _ acc r => (acc ++ r.flatMap opC.E, t5)) (fun i acc => acc.length ≤ 200000000 + 700 * i)
    (fun a _ => EvTo.succ (by simp only [code_Encode_l15]; exact EvTo.ifn (by simp) (EvTo.pure' (by simp))))
    (fun i h a ha ih => EvTo.succ (by
      simp only [code_Encode_l15]
      have hp := List.all_eq_true.1 hl _ (List.getElem_mem h)
      have ho := hi _ (List.getElem_mem h)
      have hlen := opE_len hp ho.2
      have hpe := opE l[i]
      simp only [opB, Bool.and_eq_true] at hp
      obtain ⟨⟨p1, p2, p3, p4⟩, p5⟩ := hp
      refine EvTo.ifp (by simpa using h) (EvTo.ifp (by omega) ?_)
      rw [getI h]
      have e : [a, encs [l[i].1, l[i].2.1, l[i].2.2.1, l[i].2.2.2.1], rowB l[i].2.2.2.2.1, enc l[i].2.2.2.2.2.1.toNat].flatten = a ++ opC.E l[i] := by
        rw [hpe]; simp [encs]
      refine EvTo.bind (codeRow_ok (by simp [p1, p2, p3, p4]) (by simp)) (EvTo.bind (row_ok (listB_in p5).1 (by have := (listB_in p5).2; omega)) (EvTo.bind (put_i ho.2.1 ho.2.2) (EvTo.bind (concat_ok (by simp) (by rw [e, List.length_append]; omega)) ?_)))
      rw [e, wrapS h (by omega)]
      exact (ih _ (by rw [List.length_append]; omega)).to (by simp only [List.flatMap_cons, List.append_assoc])))
  exact key acc (by omega)
theorem blockE_len {b : L_api_Block} (h : blockB b = true) (ho : OkBlock b) (h1 : b.1.length ≤ 512) (h2 : b.2.1.length ≤ 512) : (blockC.E b).length ≤ 1100000 := by
  simp only [blockB, endB, Bool.and_eq_true] at h
  obtain ⟨p1, p2, ⟨p3, p4⟩, p5⟩ := h
  have q1 := flatMap_len (E := phiC.E) (n := 1320) fun p hp => phiE_len (List.all_eq_true.1 p1 p hp)
  have q2 := flatMap_len (E := opC.E) (n := 700) fun o hoo => opE_len (List.all_eq_true.1 p2 o hoo) (ho.2.2.2.1 o hoo).2
  have q3 := enc_in p3
  have q4 := enc_in p4
  have q5 := rowB_len p5
  have q6 := enc_len64 (v := b.1.length) (by omega)
  have q7 := enc_len64 (v := b.2.1.length) (by omega)
  rw [blockE]
  simp only [List.length_append]
  omega
theorem inN_nat {n : Nat} (h : n ≤ 1000) : inN (n : Int) = true := inN_iff.2 (by omega)
theorem encs1 (n : Nat) : encs [(n : Int)] = enc n := by simp [encs]
theorem encode_blocks {l : List L_api_Block} (hl : l.all blockB = true) (hk : ∀ b ∈ l, OkBlock b ∧ b.1.length ≤ 512 ∧ b.2.1.length ≤ 512) (hn : l.length ≤ 64) {acc : List Int} (ha : acc.length ≤ 1000) :
    EvTo (fun k => code_Encode_l5 k l (l.length : Int) acc 0) (acc ++ l.flatMap blockC.E) := by
  have key := EvTo.range l (fun k i (acc : List Int) => code_Encode_l5 k l (l.length : Int) acc (i : Int)) (fun _ acc r => acc ++ r.flatMap blockC.E) (fun i acc => acc.length ≤ 1000 + 1100000 * i)
    (fun a _ => EvTo.succ (by simp only [code_Encode_l5]; exact EvTo.ifn (by simp) (EvTo.pure' (by simp))))
    (fun i h a ha ih => EvTo.succ (by
      simp only [code_Encode_l5]
      have hp := List.all_eq_true.1 hl _ (List.getElem_mem h)
      obtain ⟨o1, o2, o3⟩ := hk _ (List.getElem_mem h)
      have hlen := blockE_len hp o1 o2 o3
      have hpe := blockE l[i]
      have hpl := congrArg List.length hpe
      simp only [List.length_append] at hpl
      simp only [blockB, endB, Bool.and_eq_true] at hp
      obtain ⟨p1, p2, ⟨p3, p4⟩, p5⟩ := hp
      refine EvTo.ifp (by simpa using h) (EvTo.ifp (by omega) ?_)
      rw [getI h]
      refine EvTo.bind (codeRow_ok (by simp [inN_nat (show l[i].1.length ≤ 1000 by omega)]) (by simp)) ?_
      rw [encs1]
      refine EvTo.ifp (by rw [most_eq, List.length_append]; omega) ?_
      refine EvTo.bind (encode_phis l[i] l (l.length : Int) (i : Int) p1 o2 (by rw [List.length_append]; omega)) ?_
      simp only
      refine EvTo.bind (codeRow_ok (by simp [inN_nat (show l[i].2.1.length ≤ 1000 by omega)]) (by simp)) ?_
      rw [encs1]
      refine EvTo.ifp (by rw [most_eq]; simp only [List.length_append]; omega) ?_
      refine EvTo.bind (encode_ops l[i] l (l.length : Int) (i : Int) p2 o1.2.2.2.1 o3 (by simp only [List.length_append]; omega)) ?_
      simp only
      refine EvTo.bind (codeRow_ok (by simp [p3, p4]) (by simp)) (EvTo.bind (row_ok (listB_in p5).1 (by have := (listB_in p5).2; omega)) ?_)
      have e : [((a ++ enc l[i].1.length ++ l[i].1.flatMap phiC.E) ++ enc l[i].2.1.length) ++ l[i].2.1.flatMap opC.E, encs [l[i].2.2.1.1, l[i].2.2.1.2.1], rowB l[i].2.2.1.2.2.1].flatten = a ++ blockC.E l[i] := by
        rw [hpe, encs2]; simp
      refine EvTo.bind (concat_ok (by simp) (by rw [e, List.length_append]; omega)) ?_
      rw [e, wrapS h (by omega)]
      exact (ih _ (by rw [List.length_append]; omega)).to (by simp only [List.flatMap_cons, List.append_assoc])))
  exact key acc (by omega)
theorem may_blocks {f : L_api_Func} (hf : OkF f) (h : mayF f = true) : ∀ b ∈ f.2.2.1, OkBlock b ∧ b.1.length ≤ 512 ∧ b.2.1.length ≤ 512 := fun b hb => by
  simp only [mayF, Bool.and_eq_true, decide_eq_true_eq] at h
  obtain ⟨⟨h1, h2, h3, h4⟩, _⟩ := h
  have hs := sizeB_le (f := f) hb
  have hz : (f.2.2.1.map sizeB).sum ≤ 512 := by unfold sizeF at h4; omega
  unfold sizeB at hs
  exact ⟨hf.2.2 b hb, by unfold sizeB at hz; omega, by unfold sizeB at hz; omega⟩
theorem encode_ok {f : L_api_Func} (hf : OkF f) : EvTo (fun k => code_Encode k f) (if mayF f = true then encF f else []) := by
  unfold code_Encode
  refine EvTo.bind (may_ok hf) ?_
  cases h : mayF f with
  | false =>
    exact EvTo.ifp rfl (EvTo.pure' (by simp))
  | true =>
    refine EvTo.ifn (by simp) ?_
    have hb := may_blocks hf h
    have h0 := h
    simp only [mayF, Bool.and_eq_true, decide_eq_true_eq] at h0
    obtain ⟨⟨h1, h2, h3, h4⟩, h5, h6, h7⟩ := h0
    have hrl : (rowB f.1).length ≤ 650 := rowB_len (by simp only [listB, h6, Bool.and_true, decide_eq_true_eq]; omega)
    have q1 := enc_in h5
    have q2 := enc_len64 (v := f.2.2.1.length) (by omega)
    refine EvTo.bind (row_ok h6 (by omega)) (EvTo.bind (codeRow_ok (by simp [h5, inN_nat (show f.2.2.1.length ≤ 1000 by omega)]) (by simp)) ?_)
    rw [encs2, Int.toNat_natCast]
    refine EvTo.ifp (by rw [most_eq]; simp only [List.length_append]; omega) ?_
    refine EvTo.bind (encode_blocks h7 hb h2 (by simp only [List.length_append]; omega)) (EvTo.pure' ?_)
    simp only [if_true, encF, headE]
theorem encF_len {f : L_api_Func} (hf : OkF f) (h : mayF f = true) : 0 < (encF f).length ∧ (encF f).length ≤ 100000000 := by
  have hb := may_blocks hf h
  have h0 := h
  simp only [mayF, Bool.and_eq_true, decide_eq_true_eq] at h0
  obtain ⟨⟨h1, h2, h3, h4⟩, h5, h6, h7⟩ := h0
  have hrl : (rowB f.1).length ≤ 650 := rowB_len (by simp only [listB, h6, Bool.and_true, decide_eq_true_eq]; omega)
  have q1 := enc_in h5
  have q2 := enc_len64 (v := f.2.2.1.length) (by omega)
  have q3 := flatMap_len (E := blockC.E) (n := 1100000) fun b hbb => blockE_len (List.all_eq_true.1 h7 b hbb) (hb b hbb).1 (hb b hbb).2.1 (hb b hbb).2.2
  have q4 := enc_pos f.2.2.1.length
  unfold encF
  rw [headE]
  simp only [List.length_append]
  constructor
  · omega
  · omega
end Go.PrS
