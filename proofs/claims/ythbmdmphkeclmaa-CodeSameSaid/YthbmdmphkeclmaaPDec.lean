/- What code.Decode comes to, and the bytes of which it comes to a function. No conditions beyond each theorem's own. -/
import Derived.Test.YthbmdmphkeclmaaPRead
set_option linter.unusedVariables false
set_option linter.unusedSimpArgs false
namespace Go.PrS
open Go Go.Ev Go.Proofs
theorem some_gen {α : Type} (c : Codec α) (g : Nat → St → Option (α × St)) (cnt : Int) (F : Nat → St → List α → Int → Option (Sum (List α × St) (List α × St)))
    (hF : ∀ k s acc i, F (k + 1) s acc i = if (decide (i < cnt) = true) then (g k s).bind fun r0 => if ((r0.2.2.1 != 0) = true) then some (.inr ([], r0.2)) else if ((acc ++ [r0.1]).length ≤ Ev.most) then F k r0.2 (acc ++ [r0.1]) (IntKind.wrap .i64 (i + 1)) else none else some (.inl (acc, s)))
    (hg : ∀ s, Bytes s.1 → s.1.length ≤ maxLen → EvTo (fun k => g k s) (c.P s)) : ∀ (n i : Nat) (acc : List α) (s : St), Bytes s.1 → s.1.length ≤ maxLen → cnt = ((i + n : Nat) : Int) → cnt ≤ 1000 → acc.length ≤ i →
      ∃ v, EvTo (fun k => F k s acc (i : Int)) v ∧ Sum.elim id id v = listP c.P n acc s
  | 0, i, acc, s, hb, hl, hc, hc', ha => by
    refine ⟨.inl (acc, s), EvTo.succ ?_, rfl⟩
    simp only [hF]
    exact EvTo.ifn (by simp; omega) EvTo.pure
  | n + 1, i, acc, s, hb, hl, hc, hc', ha => by
    obtain ⟨h1, h2⟩ := c.rest (s := s) hb hl
    by_cases he : (c.P s).2.2.1 = 0
    · obtain ⟨v, v1, v2⟩ := some_gen c g cnt F hF hg n (i + 1) (acc ++ [(c.P s).1]) (c.P s).2 h1 h2 (by omega) hc' (by simp; omega)
      refine ⟨v, EvTo.succ ?_, ?_⟩
      · simp only [hF]
        refine EvTo.ifp (by simp; omega) (EvTo.bind (hg s hb hl) (EvTo.ifn (by simpa using he) (EvTo.ifp (by rw [most_eq]; simp; omega) ?_)))
        rw [wrap_i64 (by omega) (by omega)]
        exact v1
      · simp only [listP]
        rw [if_neg (by simpa using he)]
        exact v2
    · refine ⟨.inr ([], (c.P s).2), EvTo.succ ?_, ?_⟩
      · simp only [hF]
        exact EvTo.ifp (by simp; omega) (EvTo.bind (hg s hb hl) (EvTo.ifp (by simpa using he) EvTo.pure))
      · simp only [listP]
        rw [if_pos he]; rfl
abbrev l64 : Codec (List Int) := listC 64 (by decide)
def phiC : Codec L_api_Phi := (numC.seq (numC.seq (l64.seq l64))).iso (fun x => (x.1, x.2.1, x.2.2.1, x.2.2.2, ())) (fun y => (y.1, y.2.1, y.2.2.1, y.2.2.2.1)) (fun _ => rfl) (fun _ => rfl)
def opC : Codec L_api_Op := (numC.seq (numC.seq (numC.seq (numC.seq (l64.seq wideC))))).iso (fun x => (x.1, x.2.1, x.2.2.1, x.2.2.2.1, x.2.2.2.2.1, x.2.2.2.2.2, ())) (fun y => (y.1, y.2.1, y.2.2.1, y.2.2.2.1, y.2.2.2.2.1, y.2.2.2.2.2.1)) (fun _ => rfl) (fun _ => rfl)
abbrev c512 : Codec Int := countC 512 (by decide)
def phisC : Codec (List L_api_Phi) := c512.many phiC 512 (fun n => by simp [countC]) (fun x => Iff.rfl)
def opsC : Codec (List L_api_Op) := c512.many opC 512 (fun n => by simp [countC]) (fun x => Iff.rfl)
def blockC : Codec L_api_Block := (phisC.seq (opsC.seq (numC.seq (numC.seq l64)))).iso (fun x => (x.1, x.2.1, (x.2.2.1, x.2.2.2.1, x.2.2.2.2, ()), ())) (fun y => (y.1, y.2.1, y.2.2.1.1, y.2.2.1.2.1, y.2.2.1.2.2.1)) (fun _ => rfl) (fun _ => rfl)
theorem phi_ok {s : St} (hb : Bytes s.1) (hl : s.1.length ≤ maxLen) : EvTo (fun k => code_reader_phi k s) (phiC.P s) := by
  unfold code_reader_phi
  obtain ⟨b1, l1⟩ := numC.rest hb hl
  obtain ⟨b2, l2⟩ := numC.rest b1 l1
  obtain ⟨b3, l3⟩ := l64.rest b2 l2
  exact EvTo.bind (num_ok hb hl) (EvTo.bind (num_ok b1 l1) (EvTo.bind (list_ok b2 l2 (m := 64) (by decide)) (EvTo.bind (list_ok b3 l3 (m := 64) (by decide)) EvTo.pure)))
theorem op_ok {s : St} (hb : Bytes s.1) (hl : s.1.length ≤ maxLen) : EvTo (fun k => code_reader_op k s) (opC.P s) := by
  unfold code_reader_op
  obtain ⟨b1, l1⟩ := numC.rest hb hl
  obtain ⟨b2, l2⟩ := numC.rest b1 l1
  obtain ⟨b3, l3⟩ := numC.rest b2 l2
  obtain ⟨b4, l4⟩ := numC.rest b3 l3
  obtain ⟨b5, l5⟩ := l64.rest b4 l4
  exact EvTo.bind (num_ok hb hl) (EvTo.bind (num_ok b1 l1) (EvTo.bind (num_ok b2 l2) (EvTo.bind (num_ok b3 l3) (EvTo.bind (list_ok b4 l4 (m := 64) (by decide)) (EvTo.bind (wide_ok b5 l5) EvTo.pure)))))
theorem c512_range (s : St) (hb : Bytes s.1) : 0 ≤ (c512.P s).1 ∧ (c512.P s).1 ≤ 512 := by
  have := wide_range (s := s) hb
  simp only [countC]
  split
  · simp
  · omega
theorem phis_ok {s : St} (hb : Bytes s.1) (hl : s.1.length ≤ maxLen) : EvTo (fun k => code_some_api_Phi_code_reader_phi k s ()) (phisC.P s) := by
  unfold code_some_api_Phi_code_reader_phi
  obtain ⟨b1, l1⟩ := c512.rest hb hl
  obtain ⟨r1, r2⟩ := c512_range s hb
  obtain ⟨v, v1, v2⟩ := some_gen phiC code_reader_phi (c512.P s).1 (fun k t acc i => code_some_api_Phi_code_reader_phi_l3 k t () (c512.P s).1 acc i) (fun k t acc i => rfl) (fun s hb hl => phi_ok hb hl) (c512.P s).1.toNat 0 [] (c512.P s).2 b1 l1 (by omega) (by omega) (by simp)
  refine EvTo.bind (count_ok hb hl (m := 512) (by decide)) (EvTo.bind v1 ?_)
  cases v with
  | inl r => exact EvTo.pure' v2
  | inr r => exact EvTo.pure' v2
theorem ops_ok {s : St} (hb : Bytes s.1) (hl : s.1.length ≤ maxLen) : EvTo (fun k => code_some_api_Op_code_reader_op k s ()) (opsC.P s) := by
  unfold code_some_api_Op_code_reader_op
  obtain ⟨b1, l1⟩ := c512.rest hb hl
  obtain ⟨r1, r2⟩ := c512_range s hb
  obtain ⟨v, v1, v2⟩ := some_gen opC code_reader_op (c512.P s).1 (fun k t acc i => code_some_api_Op_code_reader_op_l3 k t () (c512.P s).1 acc i) (fun k t acc i => rfl) (fun s hb hl => op_ok hb hl) (c512.P s).1.toNat 0 [] (c512.P s).2 b1 l1 (by omega) (by omega) (by simp)
  refine EvTo.bind (count_ok hb hl (m := 512) (by decide)) (EvTo.bind v1 ?_)
  cases v with
  | inl r => exact EvTo.pure' v2
  | inr r => exact EvTo.pure' v2
theorem block_ok {s : St} (hb : Bytes s.1) (hl : s.1.length ≤ maxLen) : EvTo (fun k => code_reader_block k s) (blockC.P s) := by
  unfold code_reader_block
  obtain ⟨b1, l1⟩ := phisC.rest hb hl
  obtain ⟨b2, l2⟩ := opsC.rest b1 l1
  obtain ⟨b3, l3⟩ := numC.rest b2 l2
  obtain ⟨b4, l4⟩ := numC.rest b3 l3
  exact EvTo.bind (phis_ok hb hl) (EvTo.bind (ops_ok b1 l1) (EvTo.bind (num_ok b2 l2) (EvTo.bind (num_ok b3 l3) (EvTo.bind (list_ok b4 l4 (m := 64) (by decide)) EvTo.pure))))
/-! Decode -/
def emptyF : L_api_Func := ([], 0, [], ())
/-- how many phis, operations and ends -/
def sizeB (b : L_api_Block) : Nat := b.1.length + b.2.1.length
def sizeF (f : L_api_Func) : Nat := f.2.2.1.length + (f.2.2.1.map sizeB).sum
theorem size_ok {f : L_api_Func} (hl : f.2.2.1.length ≤ reachBytes) : EvTo (fun k => code_Size k f) (IntKind.wrap .i64 (sizeF f : Int)) := by
  unfold code_Size
  have hr := reach_le
  have key := EvTo.range f.2.2.1 (fun k i (n : Int) => code_Size_l3 k f.2.2.1 (f.2.2.1.length : Int) n (i : Int)) (fun _ n r => IntKind.wrap .i64 (n + ((r.map sizeB).sum : Nat))) (fun _ n => IntKind.wrap .i64 n = n)
    (fun a ha => EvTo.succ (by
      simp only [code_Size_l3]
      exact EvTo.ifn (by simp) (EvTo.pure' (by simp [ha]))))
    (fun i h a ha ih => EvTo.succ (by
      simp only [code_Size_l3]
      refine EvTo.ifp (by simpa using h) (EvTo.ifp (by omega) ?_)
      rw [getI h, wrap_add', wrapS h (by omega)]
      refine (ih _ (by have := wrap_add (a + (((f.2.2.1[i]).1.length : Int) + ((f.2.2.1[i]).2.1.length : Int))) 0; simpa using this)).to ?_
      rw [wrap_add]
      congr 1
      simp only [List.map_cons, List.sum_cons, sizeB]
      push_cast
      omega))
  refine EvTo.bind ((key (f.2.2.1.length : Int) (wrap_i64 (by omega) (by omega))).to ?_) EvTo.pure
  simp only [sizeF]
  push_cast
  rfl
theorem size_ok' {f : L_api_Func} (hl : f.2.2.1.length ≤ 1000) (hs : ∀ b ∈ f.2.2.1, sizeB b ≤ 281474976710656) : EvTo (fun k => code_Size k f) (sizeF f : Int) ∧ sizeF f ≤ 281474976711656000 := by
  have hsum : ∀ l : List L_api_Block, (∀ b ∈ l, sizeB b ≤ 281474976710656) → (l.map sizeB).sum ≤ l.length * 281474976710656 := by
    intro l
    induction l with
    | nil => intro _; simp
    | cons b l ih =>
      intro h
      have h1 := ih fun x hx => h x (List.mem_cons_of_mem _ hx)
      have h2 := h b (by simp)
      simp only [List.map_cons, List.sum_cons, List.length_cons, Nat.succ_mul]
      omega
  have h1 := hsum _ hs
  have h2 : sizeF f ≤ 281474976711656000 := by
    unfold sizeF
    have := Nat.mul_le_mul_right 281474976710656 hl
    omega
  have h3 : (1000 : Nat) ≤ reachBytes := by decide
  exact ⟨(size_ok (f := f) (Nat.le_trans hl h3)).to (wrap_i64 (by omega) (by omega)), h2⟩
abbrev l16 : Codec (List Int) := listC 16 (by decide)
abbrev c64 : Codec Int := countC 64 (by decide)
theorem blocks_l8 (t2 : L_api_Func) (ps : List Int) (ret cnt : Int) : ∀ (n i : Nat) (acc : List L_api_Block) (s : St), Bytes s.1 → s.1.length ≤ maxLen → s.2.1 = 0 → cnt = ((i + n : Nat) : Int) → cnt ≤ 1000 → acc.length ≤ i →
    ∃ v, EvTo (fun k => code_Decode_l8 k t2 s (ps, ret, acc, ()) cnt (i : Int)) v ∧ (if (listP blockC.P n acc s).2.2.1 = 0 then v = .inl (t2, (listP blockC.P n acc s).2, ps, ret, (listP blockC.P n acc s).1, ()) else ∃ g, v = .inr (t2, (listP blockC.P n acc s).2, g))
  | 0, i, acc, s, hb, hl, he, hc, hc', ha => by
    refine ⟨.inl (t2, s, ps, ret, acc, ()), EvTo.succ ?_, ?_⟩
    · simp only [code_Decode_l8]
      exact EvTo.ifn (by simp; omega) EvTo.pure
    · simp [listP, he]
  | n + 1, i, acc, s, hb, hl, he, hc, hc', ha => by
    obtain ⟨h1, h2⟩ := blockC.rest (s := s) hb hl
    by_cases he : (blockC.P s).2.2.1 = 0
    · obtain ⟨v, v1, v2⟩ := blocks_l8 t2 ps ret cnt n (i + 1) (acc ++ [(blockC.P s).1]) (blockC.P s).2 h1 h2 he (by omega) hc' (by simp; omega)
      refine ⟨v, EvTo.succ ?_, ?_⟩
      · simp only [code_Decode_l8]
        refine EvTo.ifp (by simp; omega) (EvTo.bind (block_ok hb hl) (EvTo.ifp (by rw [most_eq]; simp; omega) (EvTo.ifn (by simpa using he) ?_)))
        rw [wrap_i64 (by omega) (by omega)]
        exact v1
      · have e : listP blockC.P (n + 1) acc s = listP blockC.P n (acc ++ [(blockC.P s).1]) (blockC.P s).2 := by
          simp only [listP]
          rw [if_neg (by simpa using he)]
        rw [e]
        exact v2
    · refine ⟨.inr (t2, (blockC.P s).2, ps, ret, acc ++ [(blockC.P s).1], ()), EvTo.succ ?_, ?_⟩
      · simp only [code_Decode_l8]
        exact EvTo.ifp (by simp; omega) (EvTo.bind (block_ok hb hl) (EvTo.ifp (by rw [most_eq]; simp; omega) (EvTo.ifp (by simpa using he) EvTo.pure)))
      · have e : listP blockC.P (n + 1) acc s = ([], (blockC.P s).2) := by
          simp only [listP]
          rw [if_pos he]
        rw [e]
        simp only
        rw [if_neg he]
        exact ⟨_, rfl⟩
/-- the head: parameters, what is returned, how many blocks -/
def headC : Codec (List Int × (Int × Int)) := l16.seq (numC.seq c64)
/-- a function, as it is read -/
def decP (b : List Int) : L_api_Func × Int :=
  if (headC.P (b, 0, ())).2.2.1 ≠ 0 then (emptyF, (headC.P (b, 0, ())).2.2.1)
  else if (headC.P (b, 0, ())).1.2.2 = 0 then (emptyF, 4)
  else
    let r := listP blockC.P (headC.P (b, 0, ())).1.2.2.toNat [] (headC.P (b, 0, ())).2
    if r.2.2.1 ≠ 0 then (emptyF, r.2.2.1)
    else if r.2.1.length > 0 then (emptyF, 3)
    else if sizeF ((headC.P (b, 0, ())).1.1, (headC.P (b, 0, ())).1.2.1, r.1, ()) > 512 then (emptyF, 4)
    else (((headC.P (b, 0, ())).1.1, (headC.P (b, 0, ())).1.2.1, r.1, ()), 0)
theorem c64_range (s : St) (hb : Bytes s.1) : 0 ≤ (c64.P s).1 ∧ (c64.P s).1 ≤ 64 := by
  have := wide_range (s := s) hb
  simp only [countC]
  split
  · simp
  · omega
theorem dec_ok {b : List Int} (hb : Bytes b) (hl : b.length ≤ maxLen) : EvTo (fun k => code_Decode k b) (decP b) := by
  unfold code_Decode
  have hb0 : Bytes ((b, 0, ()) : St).1 := hb
  have hl0 : ((b, 0, ()) : St).1.length ≤ maxLen := hl
  obtain ⟨b1, l1⟩ := l16.rest hb0 hl0
  obtain ⟨b2, l2⟩ := numC.rest b1 l1
  obtain ⟨b3, l3⟩ := c64.rest b2 l2
  obtain ⟨r1, r2⟩ := c64_range _ b2
  have hj : ∀ t2 s, EvTo (fun k => code_Decode_s1_j0 k b t2 s) (.inl (s.2.1, emptyF)) := fun t2 s => EvTo.succ (by simp only [code_Decode_s1_j0]; exact EvTo.pure)
  have key : ∃ v, EvTo (fun k => code_Decode_s1 k b ([], 0, [], ())) v ∧ (match v with | .inl r => (r.2, r.1) | .inr r => (r.2, r.1)) = decP b := by
    unfold code_Decode_s1 decP headC
    simp only [Codec.seq]
    by_cases h0 : (c64.P (numC.P (l16.P (b, 0, ())).2).2).2.2.1 = 0
    · by_cases hz : (c64.P (numC.P (l16.P (b, 0, ())).2).2).1 = 0
      · refine ⟨.inl (4, emptyF), EvTo.bind (list_ok hb0 hl0 (m := 16) (by decide)) (EvTo.bind (num_ok b1 l1) (EvTo.bind (count_ok b2 l2 (m := 64) (by decide)) (EvTo.ifn (by simpa using h0) (EvTo.ifp (by simpa using hz) (hj _ _))))), ?_⟩
        simp [h0, hz]
      · obtain ⟨v, v1, v2⟩ := blocks_l8 ([], 0, [], ()) (l16.P (b, 0, ())).1 (numC.P (l16.P (b, 0, ())).2).1 (c64.P (numC.P (l16.P (b, 0, ())).2).2).1 (c64.P (numC.P (l16.P (b, 0, ())).2).2).1.toNat 0 [] (c64.P (numC.P (l16.P (b, 0, ())).2).2).2 b3 l3 h0 (by omega) (by omega) (by simp)
        obtain ⟨r, hr⟩ : ∃ r, listP blockC.P (c64.P (numC.P (l16.P (b, 0, ())).2).2).1.toNat [] (c64.P (numC.P (l16.P (b, 0, ())).2).2).2 = r := ⟨_, rfl⟩
        rw [hr] at v2
        have hgo : ∀ w, EvTo (fun k => (code_Decode_l8 k ([], 0, [], ()) (c64.P (numC.P (l16.P (b, 0, ())).2).2).2 ((l16.P (b, 0, ())).1, (numC.P (l16.P (b, 0, ())).2).1, [], ()) (c64.P (numC.P (l16.P (b, 0, ())).2).2).1 0).bind fun r3 => match r3 with
            | .inl r4 => if (decide ((r4.2.1.1.length : Int) > 0) = true) then (code_Decode_s1_j0 k b r4.1 (r4.2.1.1, 3, ())) else (code_Size k r4.2.2).bind fun r5 => if (decide (r5 > 512) = true) then (code_Decode_s1_j0 k b r4.1 (r4.2.1.1, 4, ())) else some (.inl (0, r4.2.2))
            | .inr r4 => (code_Decode_s1_j0 k b r4.1 r4.2.1)) w → EvTo (fun k => code_Decode_s1 k b ([], 0, [], ())) w := fun w hw => by
          unfold code_Decode_s1
          exact EvTo.bind (list_ok hb0 hl0 (m := 16) (by decide)) (EvTo.bind (num_ok b1 l1) (EvTo.bind (count_ok b2 l2 (m := 64) (by decide)) (EvTo.ifn (by simpa using h0) (EvTo.ifn (by simpa using hz) hw))))
        unfold code_Decode_s1 at hgo
        by_cases he : r.2.2.1 = 0
        · rw [if_pos he] at v2
          subst v2
          by_cases hmore : r.2.1.length > 0
          · refine ⟨.inl (3, emptyF), hgo _ (EvTo.bind v1 (EvTo.ifp (by simpa using hmore) (hj _ _))), ?_⟩
            simp [h0, hz, hr, he, hmore]
          · obtain ⟨l, q1, q2, q3, q4⟩ := listP_sound blockC (c64.P (numC.P (l16.P (b, 0, ())).2).2).1.toNat [] (c64.P (numC.P (l16.P (b, 0, ())).2).2).2 b3 h0 (by rw [hr]; exact he)
            rw [hr, List.nil_append] at q1
            have hsz : ∀ x ∈ r.1, sizeB x ≤ 281474976710656 := fun x hx => by
              have hv := q3 x (q1 ▸ hx)
              have h1 : x.1.length ≤ 512 := hv.1.1
              have h2 : x.2.1.length ≤ 512 := hv.2.1.1
              unfold sizeB; omega
            obtain ⟨z1, z2⟩ := size_ok' (f := ((l16.P (b, 0, ())).1, (numC.P (l16.P (b, 0, ())).2).1, r.1, ())) (by simp only; rw [q1]; omega) hsz
            by_cases hbig : sizeF ((l16.P (b, 0, ())).1, (numC.P (l16.P (b, 0, ())).2).1, r.1, ()) > 512
            · refine ⟨.inl (4, emptyF), hgo _ (EvTo.bind v1 (EvTo.ifn (by simpa using hmore) (EvTo.bind z1 (EvTo.ifp (by rw [decide_eq_true_eq]; omega) (hj _ _))))), ?_⟩
              simp [h0, hz, hr, he, hmore, hbig]
            · refine ⟨_, hgo _ (EvTo.bind v1 (EvTo.ifn (by simpa using hmore) (EvTo.bind z1 (EvTo.ifn (by rw [decide_eq_true_eq]; omega) EvTo.pure)))), ?_⟩
              simp [h0, hz, hr, he, hmore, hbig]
        · rw [if_neg he] at v2
          obtain ⟨g, rfl⟩ := v2
          refine ⟨.inl (r.2.2.1, emptyF), hgo _ (EvTo.bind v1 (hj _ _)), ?_⟩
          simp [h0, hz, hr, he]
    · refine ⟨.inl ((c64.P (numC.P (l16.P (b, 0, ())).2).2).2.2.1, emptyF), EvTo.bind (list_ok hb0 hl0 (m := 16) (by decide)) (EvTo.bind (num_ok b1 l1) (EvTo.bind (count_ok b2 l2 (m := 64) (by decide)) (EvTo.ifp (by simpa using h0) (hj _ _)))), ?_⟩
      simp [h0]
  obtain ⟨v, v1, v2⟩ := key
  refine EvTo.bind v1 ?_
  cases v with
  | inl r => exact EvTo.pure' v2
  | inr r => exact EvTo.pure' v2
end Go.PrS
