/- copy into a row of one's own that is filled with one element: laws for slices.Repeat of one element. No conditions beyond each theorem's own. -/
import Derived.Test.YtheillkpgmpnlaaWWords
import Derived.Test.YtheillkpgmpnlaaWNEv
import Derived.Laws.CopyOwn
import Derived.Deep.RegionLaw
namespace Go.Proofs.YtheillkpgmpnlaaH
open Go Go.RowKit Go.Proofs.YtheillkpgmpnlaaW.PrintWords Go.Proofs.YtheillkpgmpnlaaW.PrintWords.Kd
section
variable {P : Program}
theorem run_copy_sz (w : World) (dT sT ty elem : TypeId) (g off dLen dCap : Nat) (a : Addr) (sLen sCap : Nat) (cur : Array Value) (t : TypeId) (cs : List Value) (sz k : Nat)
    (hu : P.underlying dT = some (.slice elem)) (hs : (P.info? elem).map (·.size) = some sz)
    (hg : w.heap[g]? = some (.cells cur t (0, 0))) (hk : Nat.min sLen dLen = k) (hn : cs.length = k * sz)
    (hsrc : ∀ j v, cs[j]? = some v → w.cell? (a.add j) = some v) (hfit : off + cs.length ≤ cur.size) (h1 : ∀ v ∈ cs, v.oneCell' = true) :
    (Builtin.copy_ #[dT, sT] ty #[.slice (some ⟨g, off, none⟩) dLen dCap, .slice (some a) sLen sCap]).run P w =
      .ok (goInt k) (w.setRow g (cur.toList.take off ++ cs ++ cur.toList.drop (off + cs.length)).toArray) := by
  have hl := run_loadCells_list (P := P) w a cs hsrc
  have hst := run_storeCells_at P g off t cs 0 cur w hg (by simpa using hfit) h1
  cases hq : P.info? elem with
  | none => simp [hq] at hs
  | some i =>
    have hi : i.size = sz := by simpa [hq] using hs
    rw [hn] at hl
    simp [Builtin.copy_, run_underlying hu, Builtin.lenOf, Builtin.firstCells, sizeOf, typeInfo, hq, hi, hk, hl, hst]
/-- A block whose first n elements are all c. -/
def Rep (w : World) (g e m sz : Nat) (c : List Value) (n : Nat) : Prop :=
  ∃ cur : Array Value, w.heap[g]? = some (.cells cur e (0, 0)) ∧ cur.size = m * sz ∧ n ≤ m ∧ ∀ j, j < n * sz → cur[j]? = c[j % sz]?
theorem Rep.cell {w : World} {g e m sz n : Nat} {c : List Value} (h : Rep w g e m sz c n) {j : Nat} (hj : j < n * sz) : w.cell? ⟨g, j, none⟩ = c[j % sz]? := by
  obtain ⟨cur, h1, _, _, h4⟩ := h
  rw [blk_cell h1 j, h4 j hj]
theorem src_below {w w1 : World} {ad : Addr} {c : List Value} {sz K : Nat} (h : ∀ j, j < K → w.cell? (ad.add j) = c[j % sz]?) (hcl : c.length = sz) (hsz : 0 < sz) (hb : Below w.heap.size w w1) : ∀ j, j < K → w1.cell? (ad.add j) = c[j % sz]? := by
  intro j hj
  have hlt : j % sz < c.length := by rw [hcl]; exact Nat.mod_lt _ hsz
  rw [List.getElem?_eq_getElem hlt]
  exact pw_cell_below hb ((h j hj).trans (List.getElem?_eq_getElem hlt))
theorem rep_copy {w w0 : World} (dT sT ty elem : TypeId) {g off dLen dCap : Nat} {ad : Addr} {sLen sCap e m sz n B k : Nat} {c : List Value}
    (hu : P.underlying dT = some (.slice elem)) (hs : (P.info? elem).map (·.size) = some sz) (hR : Rep w g e m sz c n) (hoff : off = n * sz) (hdl : dLen = m - n) (hsz : 0 < sz)
    (hc1 : ∀ v ∈ c, v.oneCell' = true) (hcl : c.length = sz) (hk : Nat.min sLen dLen = k) (hsrc : ∀ j, j < k * sz → w.cell? (ad.add j) = c[j % sz]?) (hb : Below B w0 w) (hB : B ≤ g) :
    ∃ w', (Builtin.copy_ #[dT, sT] ty #[.slice (some ⟨g, off, none⟩) dLen dCap, .slice (some ad) sLen sCap]).run P w = .ok (goInt k) w' ∧ Rep w' g e m sz c (n + k) ∧ Below B w0 w' := by
  obtain ⟨cur, h1, h2, h3, h4⟩ := hR
  have hkm : k ≤ m - n := by rw [← hk, ← hdl]; exact Nat.min_le_right _ _
  have hnk : (n + k) * sz ≤ m * sz := Nat.mul_le_mul_right _ (by omega)
  rw [Nat.add_mul] at hnk
  have hlt : ∀ j, j % sz < c.length := fun j => by rw [hcl]; exact Nat.mod_lt _ hsz
  have hcs : ∀ j, j < k * sz → ((List.range (k * sz)).map fun j => c.getD (j % sz) (.int .i64 0))[j]? = c[j % sz]? := by
    intro j hj
    rw [List.getElem?_map, List.getElem?_range hj, List.getElem?_eq_getElem (hlt j)]
    simp [List.getD_eq_getElem?_getD, List.getElem?_eq_getElem (hlt j)]
  have hlen : ((List.range (k * sz)).map fun j => c.getD (j % sz) (.int .i64 0)).length = k * sz := by simp
  generalize ((List.range (k * sz)).map fun j => c.getD (j % sz) (.int .i64 0)) = cs at hcs hlen
  refine ⟨_, run_copy_sz w dT sT ty elem g off dLen dCap ad sLen sCap cur e cs sz k hu hs h1 hk hlen ?_ (by omega) ?_, ?_, below_setRow hb hB _⟩
  · intro j v hv
    have hj : j < k * sz := by rw [← hlen]; exact (List.getElem?_eq_some_iff.1 hv).1
    rw [hsrc j hj, ← hcs j hj, hv]
  · intro v hv
    obtain ⟨j, hj, e⟩ := List.mem_iff_getElem.1 hv
    have hj' : j < k * sz := by omega
    have h5 := hcs j hj'
    rw [List.getElem?_eq_getElem hj, List.getElem?_eq_getElem (hlt j)] at h5
    rw [← e, Option.some.inj h5]; exact hc1 _ (List.getElem_mem _)
  · refine ⟨_, setRow_heap w g cur _ e _ h1, ?_, by omega, ?_⟩
    · simp only [List.size_toArray, List.length_append, List.length_take, List.length_drop, Array.length_toList, hlen]; omega
    · intro j hj
      rw [Nat.add_mul] at hj
      rw [List.getElem?_toArray, List.append_assoc]
      by_cases hjo : j < off
      · rw [List.getElem?_append_left (by rw [List.length_take, Array.length_toList]; omega), List.getElem?_take_of_lt hjo, Array.getElem?_toList]
        exact h4 j (by omega)
      · have hoc : off ≤ cur.size := by omega
        have hmin : min off cur.toList.length = off := by rw [Array.length_toList]; omega
        rw [List.getElem?_append_right (by rw [List.length_take, hmin]; omega), List.length_take, hmin, List.getElem?_append_left (by omega), hcs _ (by omega)]
        have : j % sz = (j - off) % sz := by
          obtain ⟨q, rfl⟩ : ∃ q, j = off + q := ⟨j - off, by omega⟩
          rw [hoff, Nat.add_sub_cancel_left, Nat.add_comm, Nat.add_mul_mod_self_right]
        rw [this]
variable {ops : Array Oper} {rest : List Oper} {o : Oper} {a : Act} {Q : Exit → Act → World → Prop}
theorem wp_rep_copy {w w0 : World} (hgd : o.guard = none) (d s : Operand) (dT sT : TypeId)
    (ho : o.op = .call { callee := .builtin .copy, args := #[d, s], argTypes := #[dT, sT] }) {elem : TypeId} {g off dLen dCap : Nat} {ad : Addr} {sLen sCap e m sz n B k : Nat} {c : List Value}
    (hd : a.eval d = .slice (some ⟨g, off, none⟩) dLen dCap) (hs' : a.eval s = .slice (some ad) sLen sCap)
    (hu : P.underlying dT = some (.slice elem)) (hs : (P.info? elem).map (·.size) = some sz) (hR : Rep w g e m sz c n) (hoff : off = n * sz) (hdl : dLen = m - n) (hsz : 0 < sz)
    (hc1 : ∀ v ∈ c, v.oneCell' = true) (hcl : c.length = sz) (hk : Nat.min sLen dLen = k) (hsrc : ∀ j, j < k * sz → w.cell? (ad.add j) = c[j % sz]?) (hb : Below B w0 w) (hB : B ≤ g)
    (h : ∀ w', Rep w' g e m sz c (n + k) → Below B w0 w' → wpList P ops Q rest (a.put o.dst (goInt k)) w') : wpList P ops Q (o :: rest) a w := by
  refine wpList_plain hgd fun K hK => ?_
  obtain ⟨w', hrun, h1, h2⟩ := rep_copy (P := P) dT sT o.type elem (dCap := dCap) (sCap := sCap) hu hs hR hoff hdl hsz hc1 hcl hk hsrc hb hB
  unfold Oper.wp
  simp [execOp, ho, resolve, invoke, builtin, hd, hs', hrun, Result.andThen]
  exact hK _ _ (h w' h1 h2)
theorem step_rep_copy {w w0 : World} {K : Act → World → Prop} {E : Prop} (hgd : o.guard = none) (d s : Operand) (dT sT : TypeId)
    (ho : o.op = .call { callee := .builtin .copy, args := #[d, s], argTypes := #[dT, sT] }) {elem : TypeId} {g off dLen dCap : Nat} {ad : Addr} {sLen sCap e m sz n B k : Nat} {c : List Value}
    (hd : a.eval d = .slice (some ⟨g, off, none⟩) dLen dCap) (hs' : a.eval s = .slice (some ad) sLen sCap)
    (hu : P.underlying dT = some (.slice elem)) (hs : (P.info? elem).map (·.size) = some sz) (hR : Rep w g e m sz c n) (hoff : off = n * sz) (hdl : dLen = m - n) (hsz : 0 < sz)
    (hc1 : ∀ v ∈ c, v.oneCell' = true) (hcl : c.length = sz) (hk : Nat.min sLen dLen = k) (hsrc : ∀ j, j < k * sz → w.cell? (ad.add j) = c[j % sz]?) (hb : Below B w0 w) (hB : B ≤ g)
    (h : ∀ w', Aside0 (Rep w' g e m sz c (n + k)) → Aside0 (Below B w0 w') → K (a.put o.dst (goInt k)) w') : if Region.wanted o (yielded ops a.tmps) = true then Oper.wp P o a w K Q else E := by
  have hw : Region.wanted o (yielded ops a.tmps) = true := by simp [Region.wanted, hgd]
  rw [if_pos hw]
  obtain ⟨w', hrun, h1, h2⟩ := rep_copy (P := P) dT sT o.type elem (dCap := dCap) (sCap := sCap) hu hs hR hoff hdl hsz hc1 hcl hk hsrc hb hB
  unfold Oper.wp
  simp [execOp, ho, resolve, invoke, builtin, hd, hs', hrun, Result.andThen]
  exact h w' ⟨h1⟩ ⟨h2⟩
/-- make([]T, m) as a block known whole. -/
theorem wp_rep_make {w0 W : World} (base e : Nat) (hgd : o.guard = none) (t : TypeId) (x y : Operand) (ho : o.op = .makeSlice t x y) (m : Nat) (hx : a.eval x = .int .i64 (m : Int)) (hy : a.eval y = .int .i64 (m : Int))
    (ht : P.underlying t = some (.slice e)) (z : Value) (sz bytes : Nat) (c : List Value) (hinfo : (P.info? e).map (fun i => (i.zero, i.size, i.bytes)) = some (some z, sz, bytes)) (hl : m * bytes ≤ 281474976710656) (hm : m ≤ 281474976710656) (HB : Below base w0 W) (hbase : base ≤ W.heap.size)
    (h : ∀ g w1, base ≤ g → Rep w1 g e m sz c 0 → Below base w0 w1 → wpList P ops Q rest (a.put o.dst (.slice (some ⟨g, 0, none⟩) m m)) w1) : wpList P ops Q (o :: rest) a W := by
  obtain ⟨i0, hi, hzz⟩ := Option.map_eq_some_iff.1 hinfo
  simp only [Prod.mk.injEq] at hzz
  obtain ⟨hz0, hz1, hz2⟩ := hzz
  have hr := run_make (P := P) W t e i0 z ht hi hz0 .i64 .i64 (m : Int) (m : Int) (by omega) (by omega)
    (by
      have h3 : ((i0.bytes * m : Nat) : Int) ≤ 281474976710656 := by rw [hz2, Nat.mul_comm]; omega
      rwa [Int.natCast_mul] at h3) (by omega)
  simp only [Int.toNat_natCast] at hr
  rw [hz1] at hr
  have hrun : (execOp a.eval o).run P W = .ok (.value (.slice (some ⟨W.heap.size, 0, none⟩) m m)) (W.alloc (.cells (madeCells z.cells (m * sz)) e)) := by
    simp [execOp, ho, hx, hy, hr]
  exact event_run hgd hrun (h _ _ hbase ⟨_, heap_alloc_new W _, size_madeCells _ _, Nat.zero_le _, fun j hj => by omega⟩ (HB.alloc hbase _))
/-- What is filled to its end is a row of one's own. -/
theorem rep_done {α : Type} (d : Kd α) {w : World} {g e m sz base : Nat} {c : List Value} {z : α} (hR : Rep w g e m sz c m) (hsz : d.sz = sz) (hpos : 0 < sz) (hcl : c.length = sz) (hz : d.M w base (fun _ => False) z c) (hbase : base ≤ g) (hm : m ≤ maxLen) :
    d.R e w base (fun _ => True) (.slice (some ⟨g, 0, none⟩) m m) (List.replicate m z) := by
  subst hsz
  obtain ⟨cur, h1, h2, _, h4⟩ := hR
  refine ⟨fun _ _ => trivial, cur.toList, ?_, ?_⟩
  · refine ⟨by rw [Array.length_toList, h2, List.length_replicate], .inr ⟨g, m, cur, by rw [List.length_replicate], hbase, h1, by rw [List.length_replicate]; exact Nat.le_refl _, hm, h2, ?_⟩⟩
    rw [List.length_replicate]; exact List.take_of_length_le (by rw [Array.length_toList, h2]; exact Nat.le_refl _)
  · refine ⟨by rw [Array.length_toList, h2, List.length_replicate], fun j p hj => ?_⟩
    obtain ⟨hj1, hj2⟩ := List.getElem?_eq_some_iff.1 hj
    have hjm : j < m := by simpa using hj1
    have hp : p = z := by rw [← hj2]; simp
    subst hp
    have hle : j * d.sz + d.sz ≤ m * d.sz := by rw [← Nat.succ_mul]; exact Nat.mul_le_mul_right _ hjm
    have e : (cur.toList.drop (j * d.sz)).take d.sz = c := by
      apply List.ext_getElem?
      intro i
      by_cases hi : i < d.sz
      · rw [List.getElem?_take_of_lt hi, List.getElem?_drop, Array.getElem?_toList, h4 _ (by omega), Nat.mul_comm, Nat.mul_add_mod, Nat.mod_eq_of_lt hi]
      · rw [List.getElem?_eq_none (by rw [List.length_take]; omega), List.getElem?_eq_none (by omega)]
    rw [e]
    exact d.M_mono (fun k hk => hk.elim) hz
end
end Go.Proofs.YtheillkpgmpnlaaH
