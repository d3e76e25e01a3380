/- (*Walk).visit of the document's graphs: its plain form, and that the call does so. Conditions: each theorem's own. -/
import Derived.Test.YtokfaaemhniodaaGx4
import Derived.Deep.RegionHeld3
namespace Go.Proofs.Ytokfaaemhniodaa.G
open Go.Proofs.YtokfaaemhniodaaH
open Go Go.RowKit Go.Proofs.YtokfaaemhniodaaW.PrintWords Go.Proofs.YtokfaaemhniodaaW.PrintLast Go.Proofs.YtokfaaemhniodaaW.PrintMore
set_option linter.unusedVariables false
set_option linter.unusedSimpArgs false
mutual
/-- On from a block: what is seen, and what was left. -/
def lockstepref06_Walk_visit.f : Nat → List Bool → List Int → List (List Int) → Int → Option (List Bool × List Int)
  | 0, _, _, _, _ => none
  | k + 1, s, o, S, x => if 0 ≤ x ∧ x < (s.length : Int) ∧ x < (S.length : Int) then lockstepref06_Walk_visit.l0 k (s.set x.toNat true) o S x 0 else none
def lockstepref06_Walk_visit.l0 : Nat → List Bool → List Int → List (List Int) → Int → Nat → Option (List Bool × List Int)
  | 0, _, _, _, _, _ => none
  | k + 1, s, o, S, x, i =>
    if (i : Int) < ((rd_L1 S x).length : Int) then
      (if i < 1000000 ∧ 0 ≤ rd (rd_L1 S x) i ∧ rd (rd_L1 S x) i < (s.length : Int) then
        (if rdOf false s (rd (rd_L1 S x) i) = true then lockstepref06_Walk_visit.l0 k s o S x (i + 1)
         else (lockstepref06_Walk_visit.f k s o S (rd (rd_L1 S x) i)).bind fun r => lockstepref06_Walk_visit.l0 k r.1 r.2 S x (i + 1))
       else none)
    else if o.length < 1000000 then some (s, [x] ++ o) else none
end
theorem bools_get {s : List Bool} {i : Nat} (h : i < s.length) : (bools s).toArray[i]? = some (.bool (s.getD i false)) := by
  simp [bools, List.getD_eq_getElem?_getD, List.getElem?_eq_getElem h]
theorem bools_set (s : List Bool) (i : Nat) (b : Bool) : (bools s).toArray.setIfInBounds i (.bool b) = (bools (s.set i b)).toArray := by
  simp [bools, List.map_set]
theorem row_far {w : World} {base g t : Nat} {cells : Array Value} {v : Value} {xs : List Int} (h : Kd.R (Kd.int .i64) 3 w base (fun _ => True) v xs) (hb : w.heap[g]? = some (.cells cells t (0, 0))) (ht : 3 ≠ t) (i : Nat) (u : Value) :
    Kd.R (Kd.int .i64) 3 (w.setCell ⟨g, i, none⟩ u) base (fun _ => True) v xs :=
  Kd.R_mono (Kd.R_far (p := ⟨g, i, none⟩) (Kd.R_far1 h rfl (Kd.R_ne h hb ht)) (fun _ hk => hk.2) u) (fun _ _ => trivial)
/-- All but two blocks are as they were. -/
def Kp (gw gs : Nat) (w w' : World) : Prop := w.heap.size ≤ w'.heap.size ∧ ∀ k, k < w.heap.size → k ≠ gw → k ≠ gs → w'.heap[k]? = w.heap[k]?
theorem Kp.refl (gw gs : Nat) (w : World) : Kp gw gs w w := ⟨Nat.le_refl _, fun _ _ _ _ => rfl⟩
theorem Kp.trans {gw gs : Nat} {w w1 w2 : World} (h : Kp gw gs w w1) (k : Kp gw gs w1 w2) : Kp gw gs w w2 :=
  ⟨Nat.le_trans h.1 k.1, fun j hj a b => (k.2 j (Nat.lt_of_lt_of_le hj h.1) a b).trans (h.2 j hj a b)⟩
theorem Kp.of_below {gw gs : Nat} {w w1 : World} (h : Below w.heap.size w w1) : Kp gw gs w w1 := ⟨h.size, fun j hj _ _ => h.block j hj⟩
theorem Kp.set_ {gw gs : Nat} {w w1 : World} (h : Kp gw gs w w1) {p : Addr} (hp : p.block = gw ∨ p.block = gs) (u : Value) : Kp gw gs w (w1.setCell p u) :=
  ⟨by rw [World.size_setCell]; exact h.1, fun j hj a b => (Below.heap_setCell w1 p u j (by rcases hp with e | e <;> rw [e] <;> assumption)).trans (h.2 j hj a b)⟩
theorem Kp.drew {gw gs : Nat} {w w1 : World} (h : Kp gw gs w w1) : Kp gw gs w w1.drew := h
theorem Kp.grown {gw gs : Nat} {w w1 w2 : World} (h : Kp gw gs w w1) {row : Option Nat} (hg : w1.grownBy w2 row) (hr : ∀ k, row = some k → w.heap.size ≤ k) : Kp gw gs w w2 :=
  ⟨Nat.le_trans h.1 hg.size, fun j hj a b => (hg.block j (Nat.lt_of_lt_of_le hj h.1) (fun e => by have := hr j e.symm; omega)).trans (h.2 j hj a b)⟩
theorem Kp.at {gw gs : Nat} {w w1 : World} (h : Kp gw gs w w1) {g : Nat} {ob : Obj} (hb : w.heap[g]? = some ob) (a : g ≠ gw) (b : g ≠ gs) : w1.heap[g]? = some ob := (h.2 g (blk_lt hb) a b).trans hb
set_option maxHeartbeats 8000000 in
set_option maxRecDepth 100000 in
theorem lockstepref06_Walk_visit.calls (k : Nat) : ∀ (s : List Bool) (o : List Int) (x : Int) (s' : List Bool) (o' : List Int) (S : List (List Int)) (A0 A1 : Option Addr) (c0 p1 c1 : Nat) (w0 w : World) (gw gs n : Nat) (LV : Value)
    (hB : Below w0.heap.size w0 w) (hC0 : Kd.C (Kd.slice 3 (Kd.int .i64)) w0 A0 S.length S) (hc0 : S.length ≤ c0) (hg : w0.heap.size ≤ gw) (hs : w0.heap.size ≤ gs) (hn : s.length = n)
    (hW : w.heap[gw]? = some (.cells #[.slice (some ⟨gs, 0, none⟩) n n, LV] 69 (0, 0))) (hS : w.heap[gs]? = some (.cells (bools s).toArray 4 (0, 0)))
    (hO : Kd.R (Kd.int .i64) 3 w w0.heap.size (fun _ => True) LV o) (h : lockstepref06_Walk_visit.f k s o S x = some (s', o')),
    Calls Try.prog 41 #[.pointer (some ⟨gw, 0, none⟩), .agg #[.slice A0 S.length c0, .slice A1 p1 c1], .int .i64 x] w fun e w' => e = .returned (.tuple #[]) ∧ ∃ LV' : Value,
      w'.heap[gw]? = some (.cells #[.slice (some ⟨gs, 0, none⟩) n n, LV'] 69 (0, 0)) ∧ w'.heap[gs]? = some (.cells (bools s').toArray 4 (0, 0)) ∧ Kd.R (Kd.int .i64) 3 w' w0.heap.size (fun _ => True) LV' o' ∧ s'.length = n ∧ Below w0.heap.size w0 w' ∧ Kp gw gs w w' := by
  induction k using Nat.strongRecOn with
  | _ k ih =>
  intro s o x s' o' S A0 A1 c0 p1 c1 w0 w gw gs n LV hB hC0 hc0 hg hs hn hW hS hO h
  cases k with
  | zero => simp [lockstepref06_Walk_visit.f] at h
  | succ k =>
    simp only [lockstepref06_Walk_visit.f] at h
    by_cases hx : 0 ≤ x ∧ x < (s.length : Int) ∧ x < (S.length : Int)
    · rw [if_pos hx] at h
      obtain ⟨hx0, hx1, hx2⟩ := hx
      obtain ⟨ad, A, c, rfl, hcell, hlc, hrow⟩ := at_L1 hC0 x hx0 hx2
      obtain ⟨R, hR⟩ : ∃ R, R = rd_L1 S x := ⟨_, rfl⟩
      rw [← hR] at hcell hlc hrow
      have HR := Aside0.mk hR
      have HCE := Aside0.mk hcell
      have HRO := Aside0.mk hrow
      have H := Aside0.mk h
      have IH := Aside0.mk ih
      have HB := Aside0.mk hB
      have HC0 := Aside0.mk hC0
      have HW := Aside0.mk hW
      have HS := Aside0.mk hS
      have HO := Aside0.mk hO
      have HG := Aside0.mk hg
      have HGS := Aside0.mk hs
      have HN := Aside0.mk hn
      have hgg : gw ≠ gs := blk_ne hW hS (by decide)
      have HGG := Aside0.mk hgg
      have HK := Aside0.mk (Kp.refl gw gs w)
      have q0 : (0 ≤ x) = True := eq_true hx0
      have q1 : (x < (n : Int)) = True := eq_true (by omega)
      have q2 : (x < (S.length : Int)) = True := eq_true hx2
      have XN := Aside0.mk (show x.toNat < s.length by omega)
      clear h ih hB hC0 hW hS hO hg hs hR hcell hrow hx0 hx1 hx2 hgg hn
      have hu45 := Try.underlying45
      have hu69 := Try.underlying69
      go_enter Try.func41, Try.ntmps41
      have z0 : w.cell? ⟨gw, 0, none⟩ = some (.slice (some ⟨gs, 0, none⟩) n n) := (blk_cell HW.out 0).trans rfl
      go_wp2_with (first | ((with_reducible refine gate_dst (N := 4) rfl ?_); refine box_event ?hg (N := 4) ?hd (cs := #[.slice (some ad) S.length c0, .slice A1 p1 c1]) (t := 45) ?hr ?_; (case hd => rfl); (case hg => rfl); (case hr => first | (go_simp; done) | (go_simp; rfl)); intro gb hgb w1 hbox hb; have z1 := pw_cell_below hb z0; have n1_ := Aside0.mk (below_step HB.out hb); have n2_ := Aside0.mk hbox; have n3_ := Aside0.mk (blk_below HW.out hb); have n4_ := Aside0.mk (blk_below HS.out hb); have n5_ := Aside0.mk (Kd.R_below HO.out hb); have n6_ := Aside0.mk (Kp.trans HK.out (Kp.of_below hb)); clear HB HW HS HO z0 HK; have HB := n1_; have HBX := n2_; have HW := n3_; have HS := n4_; have HO := n5_; have HK := n6_; clear n1_ n2_ n3_ n4_ n5_ n6_ hb hbox hgb; have zc := (blk_cell HS.out x.toNat).trans (bools_get XN.out); have zf := blk_frozen HS.out x.toNat) | ((with_reducible refine gate_store (t := 4) (p := 12) rfl ?_); refine store_event (t := 4) (p := 12) (v := ?vo) (w1 := (w1.setCell ⟨gs, x.toNat, none⟩ (.bool true))) ?hg ?ho ?hn ?hr ?_; (case ho => rfl); (case hg => rfl); (case hn => rfl); (case hr => first | (go_simp; done) | (go_simp; rfl)); intro w2 hw2; have hgb2 : gb ≠ gs := blk_ne HBX.out HS.out (by decide); have n1_ := Aside0.mk (show Below w0.heap.size w0 w2 from by rw [hw2]; exact below_set HB.out HGS.out); have n2_ := Aside0.mk (show w2.heap[gb]? = some (.cells #[.slice (some ad) S.length c0, .slice A1 p1 c1] 45 (0, 0)) from by rw [hw2]; exact blk_far HBX.out hgb2 _); have n3_ := Aside0.mk (show w2.heap[gw]? = some (.cells #[.slice (some ⟨gs, 0, none⟩) n n, LV] 69 (0, 0)) from by rw [hw2]; exact blk_far HW.out HGG.out _); have n4_ := Aside0.mk (show w2.heap[gs]? = some (.cells (bools (s.set x.toNat true)).toArray 4 (0, 0)) from by rw [hw2]; exact blk_put HS.out _ _ (bools_set _ _ _)); have n5_ := Aside0.mk (show Kd.R (Kd.int .i64) 3 w2 w0.heap.size (fun _ => True) LV o from by rw [hw2]; exact row_far HO.out HS.out (by decide) _ _); have n6_ := Aside0.mk (show Kp gw gs w w2 from by rw [hw2]; exact Kp.set_ HK.out (.inr rfl) _); clear HB HBX HW HS HO HK hgb2 zc zf z1 hw2; have HB := n1_; have HBX := n2_; have HW := n3_; have HS := n4_; have HO := n5_; have HK := n6_; clear n1_ n2_ n3_ n4_ n5_ n6_))
      go_loopg [6] k (fun kq v6 w' => ∃ (i : Nat) (s1 : List Bool) (o1 : List Int) (LV1 : Value), v6 = .int .i64 (i : Int) ∧ Aside0 (lockstepref06_Walk_visit.l0 kq s1 o1 S x i = some (s', o')) ∧ Aside0 (kq ≤ k) ∧ Aside0 (s1.length = n) ∧ Aside0 (Below w0.heap.size w0 w') ∧ Aside0 (w'.heap[gb]? = some (.cells #[.slice (some ad) S.length c0, .slice A1 p1 c1] 45 (0, 0))) ∧ Aside0 (w'.heap[gw]? = some (.cells #[.slice (some ⟨gs, 0, none⟩) n n, LV1] 69 (0, 0))) ∧ Aside0 (w'.heap[gs]? = some (.cells (bools s1).toArray 4 (0, 0))) ∧ Aside0 (Kd.R (Kd.int .i64) 3 w' w0.heap.size (fun _ => True) LV1 o1) ∧ Aside0 (Kp gw gs w w'))
      case atStart => exact ⟨0, _, _, _, (by first | rfl | (simp; done)), H, ⟨Nat.le_refl _⟩, ⟨by rw [List.length_set]; exact HN.out⟩, HB, HBX, HW, HS, HO, HK⟩
      case round =>
        clear H HB HBX HW HS HO HK XN HN
        obtain ⟨i, s1, o1, LV1, rfl, HA, HKQ, HN, HB, HBX, HW, HS, HO, HK⟩ := hrel
        cases gk with
        | zero => exact absurd HA.out (by simp [lockstepref06_Walk_visit.l0])
        | succ kq =>
          have h := HA.out
          clear HA
          simp only [lockstepref06_Walk_visit.l0] at h
          rw [← HR.out] at h
          have zb0 : wr.cell? ⟨gb, 0, none⟩ = some (.slice (some ad) S.length c0) := (blk_cell HBX.out 0).trans rfl
          have zb1 : wr.cell? ⟨gb, 1, none⟩ = some (.slice A1 p1 c1) := (blk_cell HBX.out 1).trans rfl
          have zw0 : wr.cell? ⟨gw, 0, none⟩ = some (.slice (some ⟨gs, 0, none⟩) n n) := (blk_cell HW.out 0).trans rfl
          have zw1 : wr.cell? ⟨gw, 1, none⟩ = some LV1 := (blk_cell HW.out 1).trans rfl
          have zr : wr.cell? (ad.add x.toNat) = some (.slice A R.length c) := pw_cell_below HB.out HCE.out
          by_cases ci : (i : Int) < (R.length : Int)
          · rw [if_pos ci] at h
            have ci' : (i < R.length) = True := eq_true (by omega)
            by_cases hy : i < 1000000 ∧ 0 ≤ rd R (i : Int) ∧ rd R (i : Int) < (s1.length : Int)
            · rw [if_pos hy] at h
              obtain ⟨ad2, eA2, hc2⟩ := Kd.at_int HRO.out (i : Int) (by omega) ci
              subst eA2
              rw [Int.toNat_natCast] at hc2
              obtain ⟨y, hyy⟩ : ∃ y, y = rd R (i : Int) := ⟨_, rfl⟩
              rw [← hyy] at h hc2 hy
              obtain ⟨hi6, hy0, hy1⟩ := hy
              have hw1 : wrap64 ((i : Int) + 1) = ((i + 1 : Nat) : Int) := by unfold wrap64; omega
              have hw2 : IntKind.i64.wrap ((i : Int) + 1) = ((i + 1 : Nat) : Int) := by rw [IntKind.wrap_i64]; omega
              have hw3 : IntKind.i64.wrap ((i : Int) + 1) = (i : Int) + 1 := by rw [IntKind.wrap_i64]; omega
              have p0 : (0 ≤ y) = True := eq_true hy0
              have p1' : (y < (n : Int)) = True := eq_true (by have := HN.out; omega)
              have zy : wr.cell? (ad2.add i) = some (.int .i64 y) := pw_cell_below HB.out hc2
              have zs := (blk_cell HS.out y.toNat).trans (bools_get (by omega))
              have HC2 := Aside0.mk hc2
              clear hc2 hyy hy0 hy1 ci hi6
              by_cases hb : rdOf false s1 y = true
              · rw [if_pos hb] at h
                rw [show s1.getD y.toNat false = true from hb] at zs
                have H := Aside0.mk h
                clear h hb
                go_wp2
                first | (go_region_held3 (fun w' => w'.cell? ⟨gw, 0, none⟩ = some (.slice (some ⟨gs, 0, none⟩) n n) ∧ w'.cell? ⟨gb, 0, none⟩ = some (.slice (some ad) S.length c0) ∧ w'.cell? (ad.add x.toNat) = some (.slice (some ad2) R.length c) ∧ w'.cell? (ad2.add i) = some (.int .i64 y) ∧ w'.cell? ⟨gs, y.toNat, none⟩ = some (.bool true)) (go_keep) (fail)) | fail
                go_wp2
                go_roundg kq
                case measure => omega
                case rel => exact ⟨i + 1, s1, o1, LV1, (by first | rfl | rw [hw2] | rw [hw1] | (simp; done)), H, ⟨by have := HKQ.out; omega⟩, HN, ⟨by repeat (first | exact HB.out | apply below_drew1)⟩, HBX, HW, HS, ⟨by (with_reducible repeat apply Kd.R_drew); exact HO.out⟩, HK⟩
              · rw [if_neg hb] at h
                rw [show s1.getD y.toNat false = false from Bool.eq_false_iff.mpr hb] at zs
                obtain ⟨r, hf, hl⟩ := Option.bind_eq_some_iff.mp h
                have H := Aside0.mk hl
                have HF := Aside0.mk hf
                clear h hb hl hf
                go_wp2
                first | (go_region_held3 (fun w' => w'.cell? ⟨gw, 0, none⟩ = some (.slice (some ⟨gs, 0, none⟩) n n) ∧ w'.cell? ⟨gb, 0, none⟩ = some (.slice (some ad) S.length c0) ∧ w'.cell? (ad.add x.toNat) = some (.slice (some ad2) R.length c) ∧ w'.cell? (ad2.add i) = some (.int .i64 y) ∧ w'.cell? ⟨gs, y.toNat, none⟩ = some (.bool false)) (go_keep) (fail)) | fail
                go_wp2
                first | (go_region_held3 (fun w' => w'.cell? ⟨gb, 0, none⟩ = some (.slice (some ad) S.length c0) ∧ w'.cell? ⟨gb, 1, none⟩ = some (.slice A1 p1 c1) ∧ w'.cell? (ad.add x.toNat) = some (.slice (some ad2) R.length c) ∧ w'.cell? (ad2.add i) = some (.int .i64 y)) (go_keep) (first | (go_at_call 41; refine (IH.out kq (by have := HKQ.out; omega) s1 o1 y r.1 r.2 S (some ad) A1 c0 p1 c1 w0 _ gw gs n LV1 (by repeat (first | exact HB.out | apply below_drew1)) HC0.out hc0 HG.out HGS.out HN.out (by repeat (first | exact HW.out | refine blk_drew ?_)) (by repeat (first | exact HS.out | refine blk_drew ?_)) (by (with_reducible repeat apply Kd.R_drew); exact HO.out) HF.out).mono ?_; rintro e w5 ⟨rfl, LV2, hW5, hS5, hO5, hN5, hB5, hK5⟩; have hX5 := Kp.at (gw := gw) (gs := gs) (w1 := w5) hK5 (by repeat (first | exact HBX.out | refine blk_drew ?_)) (blk_ne HBX.out HW.out (by decide)) (blk_ne HBX.out HS.out (by decide)); have y0 := (blk_cell hX5 0).trans rfl; have y1 := (blk_cell hX5 1).trans rfl; have y2 := pw_cell_below hB5 HCE.out; have y3 := pw_cell_below hB5 HC2.out; have HK5 := Aside0.mk (Kp.trans HK.out hK5); have HX5 := Aside0.mk hX5; have HW5 := Aside0.mk hW5; have HS5 := Aside0.mk hS5; have HO5 := Aside0.mk hO5; have HN5 := Aside0.mk hN5; have HB5 := Aside0.mk hB5; clear hK5 hX5 hW5 hS5 hO5 hN5 hB5))) | fail
                go_wp2
                go_roundg kq
                case measure => omega
                case rel => exact ⟨i + 1, r.1, r.2, LV2, (by first | rfl | rw [hw2] | rw [hw1] | (simp; done)), H, ⟨by have := HKQ.out; omega⟩, HN5, ⟨by repeat (first | exact HB5.out | apply below_drew1)⟩, HX5, HW5, HS5, ⟨by (with_reducible repeat apply Kd.R_drew); exact HO5.out⟩, HK5⟩
            · rw [if_neg hy] at h; cases h
          · rw [if_neg ci] at h
            have ci' : (i < R.length) = False := eq_false (by omega)
            by_cases co : o1.length < 1000000
            · rw [if_pos co] at h
              simp only [Option.some.injEq, Prod.mk.injEq] at h
              obtain ⟨rfl, rfl⟩ := h
              obtain ⟨Al, cl, eL⟩ := Kd.R_slice HO.out
              subst eL
              have CO := Aside0.mk co
              clear co
              go_wp2_with (first | ((with_reducible refine gate_dst (N := 51) rfl ?_); refine Kd.R_lit (Kd.int .i64) _ 3 ?hg (N := 51) ?hd (xs := ([x] : List Int)) (inner := [.int .i64 x]) (ok := fun _ => True) (okp := fun _ => True) ?hr ?hp (fun _ hk => hk) trivial (Below.refl _ _) (Nat.le_refl _) (by simp) ?_; (case hd => rfl); (case hg => rfl); (case hr => first | (go_simp; done) | (go_simp; rfl)); (case hp => exact (Reps.one (show Kd.M (Kd.int .i64) _ _ _ x [.int .i64 x] from rfl) (Reps.none _ _))); intro vl w3 hol hb hg_ hnew_; clear hg_ hnew_; have hle : w0.heap.size ≤ wr.heap.size := HB.out.size; have zw1' := pw_cell_below hb zw1; have zw0' := pw_cell_below hb zw0; clear zw0 zw1 zb0 zb1 zr; have HV := Aside0.mk (fun k hk => Nat.le_trans HK.out.1 (Kd.R_base hol k hk) : ∀ k, vl.ownBlock = some k → w.heap.size ≤ k); have n0_ := Aside0.mk (Kd.R_lower hol hle); have n1_ := Aside0.mk (below_step HB.out hb); have n3_ := Aside0.mk (blk_below HW.out hb); have n4_ := Aside0.mk (blk_below HS.out hb); have n5_ := Aside0.mk (Kd.R_below HO.out hb); have n6_ := Aside0.mk (Kp.trans HK.out (Kp.of_below hb)); clear HB HBX HW HS HO HK hb hol hle; have HVR := n0_; have HB := n1_; have HW := n3_; have HS := n4_; have HO := n5_; have HK := n6_; clear n0_ n1_ n3_ n4_ n5_ n6_) | ((with_reducible refine gate_builtin (b := .append) (xs := #[.tmp 51, .tmp 55]) rfl ?_); at_builtin; refine Kd.R_append_rows (Kd.int .i64) (w0 := w0) w0.heap.size rfl (.tmp 51) (.tmp 55) 33 3 (.int .i64 0) 8 rfl Try.underlying33 info3 rfl (by decide) (by omega) vl [x] o1 _ _ _ (fun _ => True) (fun _ => False) rfl rfl ?aO ?aR (fun _ _ h => h) (fun _ h => h.elim) ?aF ?aB ?aS ?aL ?_; (case aR => exact (Kd.R_reads' HO.out).2.2); (case aB => exact HB.out); (case aF => exact (fun _ _ => trivial)); (case aO => exact HVR.out); (case aS => exact HB.out.size); (case aL => have := CO.out; simp only [List.length_singleton]; omega); intro v1 w4 ho hb hg hat; obtain ⟨L, hL⟩ : ∃ L, L = ([x] ++ o1).length := ⟨_, rfl⟩; obtain ⟨Av, cv, ev⟩ := Kd.R_slice ho; rw [← hL] at ev; subst ev; have zw1 := (blk_cell (blk_grown HW.out hg (Kd.R_ne HVR.out HW.out (by decide))) 1).trans rfl; have zf1 := blk_frozen (blk_grown HW.out hg (Kd.R_ne HVR.out HW.out (by decide))) 1; have n1_ := Aside0.mk hb; have n3_ := Aside0.mk (blk_grown HW.out hg (Kd.R_ne HVR.out HW.out (by decide))); have n4_ := Aside0.mk (blk_grown HS.out hg (Kd.R_ne HVR.out HS.out (by decide))); have n5_ := Aside0.mk ho; have n6_ := Aside0.mk (Kp.grown HK.out hg HV.out); clear HB HW HS HO HK HVR HV hb hg hat ho zw1' zw0' hL; have HB := n1_; have HW := n3_; have HS := n4_; have HO := n5_; have HK := n6_; clear n1_ n3_ n4_ n5_ n6_))
              first | go_end0 | ((try simp only [Exit.inBlock, Exit.then]); refine bodyPost_ret (results_none rfl _ _ _) rfl ?_)
              exact ⟨by first | rfl | (simp; done), _, blk_put HW.out 1 _ rfl, blk_far HS.out (Ne.symm HGG.out) _, row_far HO.out HW.out (by decide) _ _, HN.out, below_set HB.out HG.out, Kp.set_ HK.out (.inl rfl) _⟩
            · rw [if_neg co] at h; cases h
    · rw [if_neg hx] at h; cases h
end Go.Proofs.Ytokfaaemhniodaa.G
