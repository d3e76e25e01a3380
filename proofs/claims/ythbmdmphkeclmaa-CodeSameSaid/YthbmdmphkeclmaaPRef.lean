/- What the document's functions for functions as bytes come to: the same as the program's. No conditions beyond each theorem's own. -/
import Derived.Test.YthbmdmphkeclmaaPSame
set_option linter.unusedVariables false
set_option linter.unusedSimpArgs false
namespace Go.PrS
open Go Go.Ev Go.Proofs
theorem rnum_ok (x : Int) : EvTo (fun k => lockstepref04_num k x) (inN x) := by
  unfold lockstepref04_num
  by_cases h : x ≥ 0
  · refine EvTo.ifp (by simpa using h) (EvTo.pure' ?_)
    simp only [inN]
    congr 1
    exact propext ⟨fun a => ⟨h, a⟩, fun a => a.2⟩
  · have e : inN x = false := by simp only [inN]; exact decide_eq_false (by omega)
    exact EvTo.ifn (by simpa using h) (EvTo.pure' e.symm)
theorem rlist_ok {l : List Int} (hl : l.length ≤ reachBytes) : EvTo (fun k => lockstepref04_list k l) (listB l) := by
  have hr := reach_le
  unfold lockstepref04_list
  have key := EvTo.range0 l (fun k i => lockstepref04_list_l2 k l (i : Int)) (fun _ r => if r.all inN = true then Sum.inl () else Sum.inr false)
    (EvTo.succ (by simp only [lockstepref04_list_l2]; exact EvTo.ifn (by simp) (EvTo.pure' (by simp))))
    (fun i h ih => EvTo.succ (by
      simp only [lockstepref04_list_l2]
      refine EvTo.ifp (by simpa using h) (EvTo.ifp (by omega) ?_)
      rw [getI h]
      refine EvTo.bind (rnum_ok _) ?_
      cases hx : inN l[i] with
      | true =>
        refine EvTo.ifn (by simp) ?_
        rw [wrapS h (by omega)]
        exact ih.to (by simp only [List.all_cons, hx, Bool.true_and])
      | false => exact EvTo.ifp (by simp) (EvTo.pure' (by simp only [List.all_cons, hx, Bool.false_and, Bool.false_eq_true, if_false]))))
  refine EvTo.bind key ?_
  cases h : l.all inN with
  | true =>
    simp only [if_true]
    refine EvTo.pure' ?_
    simp only [listB, h, Bool.and_true]
    congr 1
    exact propext (by omega)
  | false =>
    simp only [Bool.false_eq_true, if_false]
    exact EvTo.pure' (by simp [listB, h])
theorem rsize_ok {f : L_api_Func} (hl : f.2.2.1.length ≤ reachBytes) : EvTo (fun k => lockstepref04_Size k f) (IntKind.wrap .i64 (sizeF f : Int)) := by
  unfold lockstepref04_Size
  have hr := reach_le
  have key := EvTo.range f.2.2.1 (fun k i (n : Int) => lockstepref04_Size_l3 k f n (i : Int)) (fun _ n r => (IntKind.wrap .i64 (n + ((r.length + (r.map sizeB).sum : Nat) : Int)), f)) (fun _ n => IntKind.wrap .i64 n = n)
    (fun a ha => EvTo.succ (by
      simp only [lockstepref04_Size_l3]
      exact EvTo.ifn (by simp) (EvTo.pure' (by simp [ha]))))
    (fun i h a ha ih => EvTo.succ (by
      simp only [lockstepref04_Size_l3]
      refine EvTo.ifp (by simpa using h) (EvTo.ifp (by omega) (EvTo.ifp (by omega) ?_))
      rw [getI h, wrap_add, Int.add_assoc (IntKind.wrap .i64 _), wrap_add, wrapS h (by omega)]
      refine (ih _ (by have := wrap_add (a + ((f.2.2.1[i]).1.length : Int) + (((f.2.2.1[i]).2.1.length : Int) + 1)) 0; simpa using this)).to ?_
      rw [wrap_add]
      congr 2
      simp only [List.map_cons, List.sum_cons, List.length_cons, sizeB]
      push_cast
      omega))
  refine EvTo.bind (key 0 (wrap_i64 (by omega) (by omega))) (EvTo.pure' ?_)
  simp only [sizeF]
  congr 1
  push_cast
  omega
theorem ones (b : Bool) (h : (!b) = false) : b = true := by simpa using h
theorem rmay_ok {f : L_api_Func} (hf : OkF f) : EvTo (fun k => lockstepref04_May k f) (mayF f) := by
  have hr := reach_le
  obtain ⟨f1, f2, f3⟩ := hf
  have kphi : ∀ (b : L_api_Block) (j : Int), OkBlock b → EvTo (fun k => lockstepref04_May_l8 k f j b 0) (if b.1.all phiB = true then Sum.inl (f, b) else Sum.inr (false, f, b)) := by
    intro b j hb
    obtain ⟨b1, b2, b3, b4, b5⟩ := hb
    refine EvTo.range0 b.1 (fun k i => lockstepref04_May_l8 k f j b (i : Int)) (fun _ r => if r.all phiB = true then Sum.inl (f, b) else Sum.inr (false, f, b))
      (EvTo.succ (by simp only [lockstepref04_May_l8]; exact EvTo.ifn (by simp) (EvTo.pure' (by simp))))
      (fun i h ih => EvTo.succ ?_)
    simp only [lockstepref04_May_l8]
    refine EvTo.ifp (by simpa using h) (EvTo.ifp (by omega) ?_)
    rw [getI h]
    obtain ⟨o1, o2⟩ := b3 _ (List.getElem_mem h)
    have bad : phiB b.1[i] = false → EvTo (fun k => some (Sum.inr (false, f, b))) (if (b.1[i] :: b.1.drop (i + 1)).all phiB = true then Sum.inl (f, b) else Sum.inr (false, f, b)) := fun e => EvTo.pure' (by simp only [List.all_cons, e, Bool.false_and, Bool.false_eq_true, if_false])
    refine EvTo.bind (rnum_ok _) ?_
    cases h1 : inN b.1[i].1 with
    | false => exact EvTo.ifn (by simp) (bad (by simp [phiB, h1]))
    | true =>
      refine EvTo.ifp (by simp) (EvTo.bind (rnum_ok _) ?_)
      cases h2 : inN b.1[i].2.1 with
      | false => exact EvTo.ifn (by simp) (bad (by simp [phiB, h2]))
      | true =>
        refine EvTo.ifp (by simp) (EvTo.bind (rlist_ok o1) ?_)
        cases h3 : listB b.1[i].2.2.1 with
        | false => exact EvTo.ifn (by simp) (bad (by simp [phiB, h3]))
        | true =>
          refine EvTo.ifp (by simp) (EvTo.bind (rlist_ok o2) ?_)
          cases h4 : listB b.1[i].2.2.2.1 with
          | false => exact EvTo.ifp (by simp) (bad (by simp [phiB, h4]))
          | true =>
            refine EvTo.ifn (by simp) ?_
            rw [wrapS h (by omega)]
            have e : phiB b.1[i] = true := by simp [phiB, h1, h2, h3, h4]
            exact ih.to (by simp only [List.all_cons, e, Bool.true_and])
  have kop : ∀ (b : L_api_Block) (j : Int), OkBlock b → EvTo (fun k => lockstepref04_May_l14 k f j b 0) (if b.2.1.all opB = true then Sum.inl (f, b) else Sum.inr (false, f, b)) := by
    intro b j hb
    obtain ⟨b1, b2, b3, b4, b5⟩ := hb
    refine EvTo.range0 b.2.1 (fun k i => lockstepref04_May_l14 k f j b (i : Int)) (fun _ r => if r.all opB = true then Sum.inl (f, b) else Sum.inr (false, f, b))
      (EvTo.succ (by simp only [lockstepref04_May_l14]; exact EvTo.ifn (by simp) (EvTo.pure' (by simp))))
      (fun i h ih => EvTo.succ ?_)
    simp only [lockstepref04_May_l14]
    refine EvTo.ifp (by simpa using h) (EvTo.ifp (by omega) ?_)
    rw [getI h]
    obtain ⟨o1, _⟩ := b4 _ (List.getElem_mem h)
    have bad : opB b.2.1[i] = false → EvTo (fun k => some (Sum.inr (false, f, b))) (if (b.2.1[i] :: b.2.1.drop (i + 1)).all opB = true then Sum.inl (f, b) else Sum.inr (false, f, b)) := fun e => EvTo.pure' (by simp only [List.all_cons, e, Bool.false_and, Bool.false_eq_true, if_false])
    refine EvTo.bind (rnum_ok _) ?_
    cases h1 : inN b.2.1[i].1 with
    | false => exact EvTo.ifn (by simp) (bad (by simp [opB, h1]))
    | true =>
      refine EvTo.ifp (by simp) (EvTo.bind (rnum_ok _) ?_)
      cases h2 : inN b.2.1[i].2.1 with
      | false => exact EvTo.ifn (by simp) (bad (by simp [opB, h2]))
      | true =>
        refine EvTo.ifp (by simp) (EvTo.bind (rnum_ok _) ?_)
        cases h3 : inN b.2.1[i].2.2.1 with
        | false => exact EvTo.ifn (by simp) (bad (by simp [opB, h3]))
        | true =>
          refine EvTo.ifp (by simp) (EvTo.bind (rnum_ok _) ?_)
          cases h4 : inN b.2.1[i].2.2.2.1 with
          | false => exact EvTo.ifn (by simp) (bad (by simp [opB, h4]))
          | true =>
            refine EvTo.ifp (by simp) (EvTo.bind (rlist_ok o1) ?_)
            cases h5 : listB b.2.1[i].2.2.2.2.1 with
            | false => exact EvTo.ifp (by simp) (bad (by simp [opB, h5]))
            | true =>
              refine EvTo.ifn (by simp) ?_
              rw [wrapS h (by omega)]
              have e : opB b.2.1[i] = true := by simp [opB, h1, h2, h3, h4, h5]
              exact ih.to (by simp only [List.all_cons, e, Bool.true_and])
  have kb : EvTo (fun k => lockstepref04_May_l4 k f 0) (if f.2.2.1.all blockB = true then Sum.inl f else Sum.inr (false, f)) := by
    refine EvTo.range0 f.2.2.1 (fun k i => lockstepref04_May_l4 k f (i : Int)) (fun _ r => if r.all blockB = true then Sum.inl f else Sum.inr (false, f))
      (EvTo.succ (by simp only [lockstepref04_May_l4]; exact EvTo.ifn (by simp) (EvTo.pure' (by simp))))
      (fun i h ih => EvTo.succ ?_)
    simp only [lockstepref04_May_l4]
    refine EvTo.ifp (by simpa using h) (EvTo.ifp (by omega) ?_)
    rw [getI h]
    have hb := f3 _ (List.getElem_mem h)
    have bad : blockB f.2.2.1[i] = false → EvTo (fun k => some (Sum.inr (false, f))) (if (f.2.2.1[i] :: f.2.2.1.drop (i + 1)).all blockB = true then Sum.inl f else Sum.inr (false, f)) := fun e => EvTo.pure' (by simp only [List.all_cons, e, Bool.false_and, Bool.false_eq_true, if_false])
    refine EvTo.bind (kphi _ _ hb) ?_
    cases h1 : f.2.2.1[i].1.all phiB with
    | false =>
      simp only [Bool.false_eq_true, if_false]
      exact bad (by simp [blockB, h1])
    | true =>
      simp only [if_true]
      refine EvTo.bind (kop _ _ hb) ?_
      cases h2 : f.2.2.1[i].2.1.all opB with
      | false =>
        simp only [Bool.false_eq_true, if_false]
        exact bad (by simp [blockB, h2])
      | true =>
        simp only [if_true]
        refine EvTo.bind (rnum_ok _) ?_
        cases h3 : inN f.2.2.1[i].2.2.1.1 with
        | false => exact EvTo.ifn (by simp) (bad (by simp [blockB, endB, h3]))
        | true =>
          refine EvTo.ifp (by simp) (EvTo.bind (rnum_ok _) ?_)
          cases h4 : inN f.2.2.1[i].2.2.1.2.1 with
          | false => exact EvTo.ifn (by simp) (bad (by simp [blockB, endB, h4]))
          | true =>
            refine EvTo.ifp (by simp) (EvTo.bind (rlist_ok hb.2.2.2.2) ?_)
            cases h5 : listB f.2.2.1[i].2.2.1.2.2.1 with
            | false => exact EvTo.ifp (by simp) (bad (by simp [blockB, endB, h5]))
            | true =>
              refine EvTo.ifn (by simp) ?_
              rw [wrapS h (by omega)]
              have e : blockB f.2.2.1[i] = true := by simp [blockB, endB, h1, h2, h3, h4, h5]
              exact ih.to (by simp only [List.all_cons, e, Bool.true_and])
  unfold lockstepref04_May
  by_cases c1 : f.2.2.1.length = 0
  · exact EvTo.ifn (by simp [c1]) (EvTo.pure' (by simp only [mayF]; rw [decide_eq_false (by omega)]; rfl))
  refine EvTo.ifp (by simpa using c1) ?_
  by_cases c2 : f.2.2.1.length > 64
  · exact EvTo.ifn (by rw [decide_eq_false_iff_not]; omega) (EvTo.pure' (by simp only [mayF]; rw [decide_eq_false (by omega)]; rfl))
  refine EvTo.ifp (by rw [decide_eq_false_iff_not]; omega) ?_
  by_cases c3 : f.1.length > 16
  · exact EvTo.ifn (by rw [decide_eq_false_iff_not]; omega) (EvTo.pure' (by simp only [mayF]; rw [decide_eq_false (by omega)]; rfl))
  refine EvTo.ifp (by rw [decide_eq_false_iff_not]; omega) (EvTo.bind (rlist_ok f1) ?_)
  have el : listB f.1 = f.1.all inN := by simp only [listB]; rw [decide_eq_true (by omega), Bool.true_and]
  rw [el]
  cases h1 : f.1.all inN with
  | false => exact EvTo.ifn (by simp) (EvTo.pure' (by simp [mayF, h1]))
  | true =>
    refine EvTo.ifp (by simp) (EvTo.bind (rnum_ok _) ?_)
    cases h2 : inN f.2.1 with
    | false => exact EvTo.ifn (by simp) (EvTo.pure' (by simp [mayF, h2]))
    | true =>
      have hsz : ∀ b ∈ f.2.2.1, sizeB b ≤ 281474976710656 := fun b hb => by
        obtain ⟨q1, q2, _⟩ := f3 b hb
        unfold sizeB; omega
      obtain ⟨_, z2⟩ := size_ok' (f := f) (by omega) hsz
      refine EvTo.ifp (by simp) (EvTo.bind (rsize_ok f2) ?_)
      rw [wrap_i64 (by omega) (by omega)]
      by_cases c4 : sizeF f > 512
      · exact EvTo.ifp (by rw [decide_eq_true_eq]; omega) (EvTo.pure' (by simp only [mayF]; rw [decide_eq_false (by omega)]; rfl))
      · refine EvTo.ifn (by rw [decide_eq_true_eq]; omega) (EvTo.bind kb ?_)
        have e0 : mayF f = f.2.2.1.all blockB := by
          unfold mayF
          rw [decide_eq_true (by omega), h1, h2]
          simp only [Bool.true_and]
        rw [e0]
        cases h3 : f.2.2.1.all blockB with
        | true => simp only [if_true]; exact EvTo.pure
        | false => simp only [Bool.false_eq_true, if_false]; exact EvTo.pure
theorem rput_l (d : Nat) : ∀ (v : Nat), v < 128 ^ (d + 1) → v < 18446744073709551616 → d ≤ 20 → EvTo (fun k => lockstepref02_Put k (v : Int)) (enc v) ∧ (enc v).length ≤ d + 1 := by
  induction d with
  | zero =>
    intro v hv h64 hd
    have hv' : v < 128 := by simpa using hv
    refine ⟨EvTo.succ ?_, by rw [enc_small hv']; simp⟩
    simp only [lockstepref02_Put]
    exact EvTo.ifp (by simp; omega) (EvTo.pure' (by rw [wrap_u8 (by omega) (by omega), enc_small hv']))
  | succ d ih =>
    intro v hv h64 hd10
    by_cases hv' : v < 128
    · refine ⟨EvTo.succ ?_, by rw [enc_small hv']; simp⟩
      simp only [lockstepref02_Put]
      exact EvTo.ifp (by simp; omega) (EvTo.pure' (by rw [wrap_u8 (by omega) (by omega), enc_small hv']))
    · have hd : v / 128 < 128 ^ (d + 1) := by
        apply Nat.div_lt_of_lt_mul
        rw [Nat.pow_succ] at hv; omega
      obtain ⟨h1, h2⟩ := ih (v / 128) hd (by omega) (by omega)
      refine ⟨EvTo.succ ?_, by rw [enc_big hv', List.length_cons]; omega⟩
      simp only [lockstepref02_Put]
      refine EvTo.ifn (by simp; omega) ?_
      have e1 : Int.tdiv (v : Int) 128 = ((v / 128 : Nat) : Int) := by rw [Int.tdiv_eq_ediv_of_nonneg (by omega)]; omega
      have e2 : Int.tmod (v : Int) 128 = ((v % 128 : Nat) : Int) := by rw [Int.tmod_eq_emod_of_nonneg (by omega)]; omega
      rw [e1, e2, wrap_u64 (x := ((v / 128 : Nat) : Int)) (by omega) (by omega), wrap_u64 (x := ((v % 128 : Nat) : Int) + 128) (by omega) (by omega), wrap_u8 (x := ((v % 128 : Nat) : Int) + 128) (by omega) (by omega)]
      refine EvTo.bind h1 (EvTo.ifp (by rw [most_eq]; simp; omega) (EvTo.pure' ?_))
      rw [enc_big hv']
      rfl
theorem rput_ok {v : Nat} (hv : v < 18446744073709551616) : EvTo (fun k => lockstepref02_Put k (v : Int)) (enc v) :=
  (rput_l 9 v (Nat.lt_of_lt_of_le hv (by decide)) hv (by omega)).1
theorem rput_i {x : Int} (h0 : 0 ≤ x) (h1 : x < 18446744073709551616) : EvTo (fun k => lockstepref02_Put k x) (enc x.toNat) := by
  have := rput_ok (v := x.toNat) (by omega)
  rwa [show ((x.toNat : Nat) : Int) = x by omega] at this
theorem rrow_ok {l : List Int} (hl : l.all inN = true) (hn : l.length ≤ 1000000) : EvTo (fun k => lockstepref02_Row k l) (rowB l) := by
  unfold lockstepref02_Row
  have h0 := rput_ok (v := l.length) (by omega)
  have h0l := enc_len64 (v := l.length) (by omega)
  rw [wrap_u64 (x := (l.length : Int)) (by omega) (by omega)]
  refine EvTo.bind h0 ?_
  have key := EvTo.range l (fun k i (acc : List Int) => lockstepref02_Row_l3 k l acc (i : Int)) (fun _ acc r => Sum.inl (acc ++ encs r)) (fun i acc => acc.length ≤ 10 + 10 * i)
    (fun a _ => by
      refine EvTo.succ ?_
      simp only [lockstepref02_Row_l3]
      exact EvTo.ifn (by simp) (EvTo.pure' (by simp [encs])))
    (fun i h a ha ih => by
      refine EvTo.succ ?_
      simp only [lockstepref02_Row_l3]
      have hx := inN_iff.1 (List.all_eq_true.1 hl _ (List.getElem_mem h))
      refine EvTo.ifp (by simpa using h) (EvTo.ifp (by omega) ?_)
      rw [getI h]
      refine EvTo.ifn (by simp; omega) (EvTo.ifp (by omega) ?_)
      rw [wrap_u64 (by omega) (by omega)]
      refine EvTo.bind (rput_i hx.1 (by omega)) ?_
      have he := enc_len64 (v := l[i].toNat) (by omega)
      refine EvTo.ifp (by rw [most_eq, List.length_append]; omega) ?_
      rw [wrapS h (by omega)]
      refine (ih _ (by rw [List.length_append]; omega)).to ?_
      simp only [encs, List.append_assoc])
  exact EvTo.bind (key _ (by omega)) EvTo.pure
/-- a number behind bytes -/
theorem rp_ok {b : List Int} {x : Int} (hx : inN x = true) (hb : b.length ≤ 1000000000) : EvTo (fun k => lockstepref04_put k b x) (b ++ enc x.toNat) := by
  have hi := inN_iff.1 hx
  have hl := enc_in hx
  unfold lockstepref04_put
  rw [wrap_u64 (by omega) (by omega)]
  exact EvTo.bind (rput_i hi.1 (by omega)) (EvTo.ifp (by rw [most_eq, List.length_append]; omega) EvTo.pure)
theorem rencode_phis (f : L_api_Func) (j : Int) (b : L_api_Block) (hl : b.1.all phiB = true) (hn : b.1.length ≤ 512) {acc : List Int} (ha : acc.length ≤ 100000000) :
    EvTo (fun k => lockstepref04_Encode_l11 k f j b acc 0) (acc ++ b.1.flatMap phiC.E, f, b) := by
  have key := EvTo.range b.1 (fun k i (acc : List Int) => lockstepref04_Encode_l11 k f j b acc (i : Int)) (fun _ acc r => (acc ++ r.flatMap phiC.E, f, b)) (fun i acc => acc.length ≤ 100000000 + 1320 * i)
    (fun a _ => EvTo.succ (by simp only [lockstepref04_Encode_l11]; exact EvTo.ifn (by simp) (EvTo.pure' (by simp))))
    (fun i h a ha ih => EvTo.succ (by
      simp only [lockstepref04_Encode_l11]
      have hp := List.all_eq_true.1 hl _ (List.getElem_mem h)
      have hlen := phiE_len hp
      have hpe := phiE b.1[i]
      have hpl := congrArg List.length hpe
      simp only [List.length_append] at hpl
      simp only [phiB, Bool.and_eq_true] at hp
      obtain ⟨⟨p1, p2⟩, p3, p4⟩ := hp
      refine EvTo.ifp (by simpa using h) (EvTo.ifp (by omega) ?_)
      rw [getI h, wrapS h (by omega)]
      refine EvTo.bind (rp_ok p1 (by omega)) (EvTo.ifp (by omega) (EvTo.bind (rp_ok p2 (by rw [List.length_append]; omega)) (EvTo.ifp (by omega) (EvTo.bind (rrow_ok (listB_in p3).1 (by have := (listB_in p3).2; omega)) ?_))))
      refine EvTo.ifp (by rw [most_eq]; simp only [List.length_append]; omega) (EvTo.ifp (by omega) (EvTo.bind (rrow_ok (listB_in p4).1 (by have := (listB_in p4).2; omega)) ?_))
      refine EvTo.ifp (by rw [most_eq]; simp only [List.length_append]; omega) ?_
      refine (ih _ (by simp only [List.length_append]; omega)).to ?_
      simp only [List.flatMap_cons, hpe, List.append_assoc]))
  exact key acc (by omega)
theorem rencode_ops (f : L_api_Func) (j : Int) (b : L_api_Block) (hl : b.2.1.all opB = true) (hi : ∀ o ∈ b.2.1, OkOp o) (hn : b.2.1.length ≤ 512) {acc : List Int} (ha : acc.length ≤ 200000000) :
    EvTo (fun k => lockstepref04_Encode_l17 k f j b acc 0) (acc ++ b.2.1.flatMap opC.E, f, b) := by
  have key := EvTo.range b.2.1 (fun k i (acc : List Int) => lockstepref04_Encode_l17 k f j b acc (i : Int)) (fun _ acc r => (acc ++ r.flatMap opC.E, f, b)) (fun i acc => acc.length ≤ 200000000 + 700 * i)
    (fun a _ => EvTo.succ (by simp only [lockstepref04_Encode_l17]; exact EvTo.ifn (by simp) (EvTo.pure' (by simp))))
    (fun i h a ha ih => EvTo.succ (by
      simp only [lockstepref04_Encode_l17]
      have hp := List.all_eq_true.1 hl _ (List.getElem_mem h)
      have ho := hi _ (List.getElem_mem h)
      have hlen := opE_len hp ho.2
      have hpe := opE b.2.1[i]
      have hpl := congrArg List.length hpe
      simp only [List.length_append] at hpl
      simp only [opB, Bool.and_eq_true] at hp
      obtain ⟨⟨p1, p2, p3, p4⟩, p5⟩ := hp
      refine EvTo.ifp (by simpa using h) (EvTo.ifp (by omega) ?_)
      rw [getI h, wrapS h (by omega)]
      refine EvTo.bind (rp_ok p1 (by omega)) (EvTo.bind (rp_ok p2 (by simp only [List.length_append]; omega)) (EvTo.bind (rp_ok p3 (by simp only [List.length_append]; omega)) (EvTo.bind (rp_ok p4 (by simp only [List.length_append]; omega)) (EvTo.bind (rrow_ok (listB_in p5).1 (by have := (listB_in p5).2; omega)) ?_))))
      refine EvTo.ifp (by rw [most_eq]; simp only [List.length_append]; omega) (EvTo.bind (rput_i ho.2.1 ho.2.2) (EvTo.ifp (by rw [most_eq]; simp only [List.length_append]; omega) ?_))
      refine (ih _ (by simp only [List.length_append]; omega)).to ?_
      simp only [List.flatMap_cons, hpe, List.append_assoc]))
  exact key acc (by omega)
theorem rencode_ok {f : L_api_Func} (hf : OkF f) : EvTo (fun k => lockstepref04_Encode k f) (if mayF f = true then encF f else []) := by
  unfold lockstepref04_Encode
  refine EvTo.bind (rmay_ok hf) ?_
  cases h : mayF f with
  | false => exact EvTo.ifp rfl (EvTo.pure' (by simp))
  | true =>
    refine EvTo.ifn (by simp) ?_
    have hb := may_blocks hf h
    have h0 := h
    simp only [mayF, Bool.and_eq_true, decide_eq_true_eq] at h0
    obtain ⟨⟨h1, h2, h3, h4⟩, h5, h6, h7⟩ := h0
    have hrl : (rowB f.1).length ≤ 650 := rowB_len (by simp only [listB, h6, Bool.and_true, decide_eq_true_eq]; omega)
    have q1 := enc_in h5
    have q2 := enc_len64 (v := f.2.2.1.length) (by omega)
    have key := EvTo.range f.2.2.1 (fun k i (acc : List Int) => lockstepref04_Encode_l6 k f acc (i : Int)) (fun _ acc r => (acc ++ r.flatMap blockC.E, f)) (fun i acc => acc.length ≤ 1000 + 1100000 * i)
      (fun a _ => EvTo.succ (by simp only [lockstepref04_Encode_l6]; exact EvTo.ifn (by simp) (EvTo.pure' (by simp))))
      (fun i h a ha ih => EvTo.succ (by
        simp only [lockstepref04_Encode_l6]
        have hp := List.all_eq_true.1 h7 _ (List.getElem_mem h)
        obtain ⟨o1, o2, o3⟩ := hb _ (List.getElem_mem h)
        have hlen := blockE_len hp o1 o2 o3
        have hpe := blockE f.2.2.1[i]
        have hpl := congrArg List.length hpe
        simp only [List.length_append] at hpl
        simp only [blockB, endB, Bool.and_eq_true] at hp
        obtain ⟨p1, p2, ⟨p3, p4⟩, p5⟩ := hp
        refine EvTo.ifp (by simpa using h) (EvTo.ifp (by omega) ?_)
        rw [getI h, wrapS h (by omega)]
        refine EvTo.bind (rp_ok (inN_nat (show f.2.2.1[i].1.length ≤ 1000 by omega)) (by omega)) ?_
        rw [Int.toNat_natCast]
        refine EvTo.bind (rencode_phis f (i : Int) f.2.2.1[i] p1 o2 (by rw [List.length_append]; omega)) ?_
        simp only
        refine EvTo.bind (rp_ok (inN_nat (show f.2.2.1[i].2.1.length ≤ 1000 by omega)) (by simp only [List.length_append]; omega)) ?_
        rw [Int.toNat_natCast]
        refine EvTo.bind (rencode_ops f (i : Int) f.2.2.1[i] p2 o1.2.2.2.1 o3 (by simp only [List.length_append]; omega)) ?_
        simp only
        refine EvTo.bind (rp_ok p3 (by simp only [List.length_append]; omega)) (EvTo.bind (rp_ok p4 (by simp only [List.length_append]; omega)) (EvTo.bind (rrow_ok (listB_in p5).1 (by have := (listB_in p5).2; omega)) ?_))
        refine EvTo.ifp (by rw [most_eq]; simp only [List.length_append]; omega) ?_
        refine (ih _ (by simp only [List.length_append]; omega)).to ?_
        simp only [List.flatMap_cons, hpe, List.append_assoc]))
    refine EvTo.bind (rrow_ok h6 (by omega)) (EvTo.bind (rp_ok h5 (by omega)) (EvTo.bind (rp_ok (inN_nat (show f.2.2.1.length ≤ 1000 by omega)) (by simp only [List.length_append]; omega)) ?_))
    rw [Int.toNat_natCast]
    refine EvTo.bind (key _ (by simp only [List.length_append]; omega)) (EvTo.pure' ?_)
    simp only [if_true, encF, headE, List.append_assoc]
end Go.PrS
