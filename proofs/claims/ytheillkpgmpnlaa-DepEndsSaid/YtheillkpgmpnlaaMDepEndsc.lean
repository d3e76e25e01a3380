/- Texts of this session, joined by wip/tools/merge.py. Conditions: each theorem's own. -/
import Derived.WalkMore
import Derived.Test.YtheillkpgmpnlaaWTab
import Derived.Test.YtheillkpgmpnlaaWWords
import Derived.Test.YtheillkpgmpnlaaHMake
import Derived.Test.YtheillkpgmpnlaaGx0
import Derived.Shelf.Small.Bits
import Derived.Shelf.Strconv.Itoa0
import Derived.Shelf.Sort.Plain
import Derived.Shelf.Bits.Mul64
import Derived.Shelf.Slices.Reverse
import Derived.Shelf.Slices.Equal
import Derived.Ground.Names2Prog
import Derived.Shelf.Slices.Clone
import Derived.Shelf.Slices.CompactI
import Derived.Shelf.Slices.SearchI
import Derived.Shelf.Slices.Cells
import Derived.Shelf.Slices.In.SortNone
import Derived.Ground.SlgnProg
import Derived.Shelf.SlicesE.Clone
import Derived.Test.YtheillkpgmpnlaaProg
import Derived.Test.YtheillkpgmpnlaaHSort
import Derived.Test.YtheillkpgmpnlaaGx21
import Derived.Test.YtheillkpgmpnlaaGx17
import Derived.Test.YtheillkpgmpnlaaGx5
import Derived.Test.YtheillkpgmpnlaaGx25
import Derived.Test.YtheillkpgmpnlaaGx35
namespace Go.Proofs.YtheillkpgmpnlaaH
open Go Go.RowKit Go.Proofs.YtheillkpgmpnlaaW.PrintWords Go.Proofs.YtheillkpgmpnlaaW.PrintLast
section
variable {P : Program} {ops : Array Oper} {Q : Exit → Act → World → Prop} {md : Region.Mode} {S : World → Prop} {ds : List Nat} {T : Bool × List (List Nat × List Nat)}
/-- An operation that yields in every world. -/
theorem PU_ (HT : Aside0 (rtab md ops = T)) (i N : Nat) {oi : Oper} {v : Value} {fuel : Nat} {l : Array Bool} {a a' : Act} {w : World} (l' : Array Bool) (hi : ops[i]? = some oi := by exact rfl) (hN : oi.dst = some N := by exact rfl)
    (hc : anyT T l.toList l'.toList i = true := by kernel_rfl) (hw : Region.wanted oi (yielded ops a.tmps) = true := by rfl) (hy : ∀ w', (execOp a.eval oi).run P w' = .ok (.value v) w' := by (intro w'; go_simp; with_reducible rfl))
    (hQ : ∀ c a w, Q (.panic c) (a.put oi.dst v) w → Q (.panic c) a w := by exact fun _ _ _ h => h) (ha : a.put (some N) v = a' := by (simp only [Act.put, List.setIfInBounds_toArray, List.set_cons_zero, List.set_cons_succ, i64_w, i32_w]; rfl))
    (h : wpAnyLast P md ops Q S ds fuel l' a' w) : wpAnyLast P md ops Q S ds (fuel + 1) l a w := pure_ l' hi hN (any_of HT.out hc) hQ (Or.inl ⟨hw, hy⟩) ha h
/-- An operation that isn't wanted. -/
theorem PO_ (HT : Aside0 (rtab md ops = T)) (i N : Nat) {oi : Oper} {fuel : Nat} {l : Array Bool} {a a' : Act} {w : World} (l' : Array Bool) (hi : ops[i]? = some oi := by exact rfl) (hN : oi.dst = some N := by exact rfl)
    (hc : anyT T l.toList l'.toList i = true := by kernel_rfl) (hw : Region.wanted oi (yielded ops a.tmps) = false := by rfl)
    (hQ : ∀ c a w, Q (.panic c) (a.put oi.dst undef) w → Q (.panic c) a w := by exact fun _ _ _ h => h) (ha : a.put (some N) undef = a' := by (simp only [Act.put, List.setIfInBounds_toArray, List.set_cons_zero, List.set_cons_succ, i64_w, i32_w]; rfl))
    (h : wpAnyLast P md ops Q S ds fuel l' a' w) : wpAnyLast P md ops Q S ds (fuel + 1) l a w := pure_ l' hi hN (any_of HT.out hc) hQ (Or.inr ⟨hw, rfl⟩) ha h
/-- An operation that reads what is held. -/
theorem TA_ {B : List Nat} (HT : Aside0 (rtab md ops = T)) (HW : Aside0 (waitsOk T.2 B = true)) (i N : Nat) {oi : Oper} {v : Value} {fuel : Nat} {l : Array Bool} {a a' : Act} {w : World} (hH : S w) (l' : Array Bool) (hi : ops[i]? = some oi := by exact rfl) (hN : oi.dst = some N := by exact rfl)
    (hc : takeW T B ds l.toList l'.toList i = true := by kernel_rfl) (hw : Region.wanted oi (yielded ops a.tmps) = true := by rfl) (hy : ∀ w', S w' → (execOp a.eval oi).run P w' = .ok (.value v) w' := by (intro w' hs_; (repeat (obtain ⟨_, hs_⟩ := hs_)); go_simp; with_reducible rfl))
    (hQ : ∀ c a w, Q (.panic c) (a.put oi.dst v) w → Q (.panic c) a w := by exact fun _ _ _ h => h) (ha : a.put (some N) v = a' := by (simp only [Act.put, List.setIfInBounds_toArray, List.set_cons_zero, List.set_cons_succ, i64_w, i32_w]; rfl))
    (h : wpAnyLast P md ops Q S ds fuel l' a' w) : wpAnyLast P md ops Q S ds (fuel + 1) l a w := take_ l' hi hN (take_ofW HT.out HW.out hc) hQ (Or.inl ⟨hw, hy⟩) hH ha h
end
end Go.Proofs.YtheillkpgmpnlaaH
namespace Go.Proofs.Ytheillkpgmpnlaa.G
open Go.Proofs.YtheillkpgmpnlaaH
open Go.RowKit Go.Proofs.YtheillkpgmpnlaaW.PrintWords Go.Proofs.YtheillkpgmpnlaaW.PrintLast Go.Proofs.YtheillkpgmpnlaaW.PrintMore
attribute [local go_sem] max2_int min2_int max_two min_two max_three min_three max_four min_four   -- for this text's walks alone
set_option linter.unusedVariables false
set_option linter.unusedSimpArgs false

theorem eqA37 (d : Nat) (w : World) (x0 y0 : Int) (x1 y1 : Int) (x2 y2 : Int) :
    (Op.equalIn (d + 2) 37 (.agg #[.int .i64 x0, .int .i64 x1, .int .i64 x2]) (.agg #[.int .i64 y0, .int .i64 y1, .int .i64 y2])).run Try.prog w = .ok (x0 == y0 && (x1 == y1 && (x2 == y2))) w := by
  refine eqA_of Try.underlying37 (by kernel_rfl) ?_
  refine eqf_cons (by rfl) (by go_simp; rfl) (by go_simp; rfl) (by go_simp) ?_
  refine eqf_cons (by rfl) (by go_simp; rfl) (by go_simp; rfl) (by go_simp) ?_
  exact eqf_last (by rfl) (by go_simp; rfl) (by go_simp; rfl) (by go_simp)

/-! ### lockstepref02_Ints: function 12 -/
def lockstepref02_Ints.l0 : Nat → List Int → List Int → Int → Option (Bool)
 | 0, _, _, _ => none
 | k + 1, x0, x1, x5 => if x5 < (x0.length : Int) then (if 0 ≤ x5 then (if x5 < (x1.length : Int) then (if (rd x0 x5) = (rd x1 x5) then (lockstepref02_Ints.l0 k x0 x1 (wrap64 (x5 + 1))) else (some false)) else (none)) else (none)) else (some true)
def lockstepref02_Ints.f (k : Nat) (l0 : List Int) (l1 : List Int) : Option (Bool) := if (l0.length : Int) = (l1.length : Int) then (lockstepref02_Ints.l0 k l0 l1 0) else (some false)
theorem lockstepref02_Ints.mono_l : ∀ k, (∀ y0 y1 y2, LeO (lockstepref02_Ints.l0 k y0 y1 y2) (lockstepref02_Ints.l0 (k + 1) y0 y1 y2))
 | 0 => fun _ _ _ r h => by simp [lockstepref02_Ints.l0] at h
 | k + 1 => by
  have ih0 := lockstepref02_Ints.mono_l k
  ·intro y0 y1 y2
   unfold lockstepref02_Ints.l0
   repeat' (with_reducible first | exact ih0 _ _ _ | exact LeO.refl _ | exact LeO.none _ | refine LeO.ite ?_ ?_ | refine LeO.bind ?_ (fun _ => ?_))
theorem lockstepref02_Ints.mono : ∀ a0 a1 k, LeO (lockstepref02_Ints.f k a0 a1) (lockstepref02_Ints.f (k + 1) a0 a1) := by
 intro a0 a1 k
 have ih0 := lockstepref02_Ints.mono_l k
 unfold lockstepref02_Ints.f
 repeat' (with_reducible first | exact ih0 _ _ _ | exact LeO.refl _ | exact LeO.none _ | refine LeO.ite ?_ ?_ | refine LeO.bind ?_ (fun _ => ?_))
set_option maxHeartbeats 8000000 in
set_option maxRecDepth 100000 in
theorem lockstepref02_Ints.calls (k : Nat) (A0 : Option Addr) (c0 : Nat) (l0 : List Int) (A1 : Option Addr) (c1 : Nat) (l1 : List Int) (r : Bool) (w : World) (hr0 : Kd.C (Kd.int .i64) w A0 l0.length l0) (hc0 : l0.length ≤ c0) (hr1 : Kd.C (Kd.int .i64) w A1 l1.length l1) (hc1 : l1.length ≤ c1) (h : lockstepref02_Ints.f k l0 l1 = some r) :
 Calls Try.prog 12 #[.slice A0 l0.length c0, .slice A1 l1.length c1] w fun e w' => e = .returned (.bool r) ∧ Drawn0 w w' := by
 have HR0 := Aside0.mk hr0
 have HC0 := Aside0.mk hc0
 clear hr0 hc0
 have HR1 := Aside0.mk hr1
 have HC1 := Aside0.mk hc1
 clear hr1 hc1
 have H : (if (l0.length : Int) = (l1.length : Int) then (lockstepref02_Ints.l0 k l0 l1 0) else (some false)) = some r := h
 clear h
 by_cases c3 : (l0.length : Int) = (l1.length : Int)
 ·rw [if_pos c3] at H
  have c3b0 : ((l0.length : Int) == (l1.length : Int)) = true := beq_iff_eq.mpr c3
  have c3b1 : ((l0.length : Int) != (l1.length : Int)) = false := bne_eq_false_iff_eq.mpr c3
  have c3b2 : (l0.length == l1.length) = true := by first | simpa using c3 | (simp at c3 ⊢; omega)
  clear c3
  have H' := Aside0.mk H
  clear H
  go_enter Try.func12, Try.ntmps12
  go_wp2
  repeat (go_quiet (fail); try go_wp2)
  go_loopg [5] k (fun kq v5 w' => ∃ (x5_1 : Int), v5 = .int .i64 x5_1 ∧ Aside0 (lockstepref02_Ints.l0 kq l0 l1 x5_1 = some r) ∧ Aside0 (kq ≤ k) ∧ Drawn0 w w')
  case atStart => exact ⟨(0), (by first | rfl | (simp; done) | (simp [*]; done)), H', ⟨Nat.le_refl _⟩, by repeat (first | exact Drawn0.refl _ | apply Drawn0.step)⟩
  case round =>
   clear H'
   try clear c1
   try clear c3b0
   try clear c3b1
   try clear c3b2
   obtain ⟨x5_1, rfl, HA, HK1, ⟨m1, rfl⟩⟩ := hrel
   cases gk with
   | zero => exact absurd HA.out (by simp [lockstepref02_Ints.l0])
   | succ k1 =>
    have H := HA.out
    clear HA
    simp only [lockstepref02_Ints.l0] at H
    by_cases c4 : x5_1 < (l0.length : Int)
    ·rw [if_pos c4] at H
     have c4b0 : decide (x5_1 < (l0.length : Int)) = true := decide_eq_true c4
     clear c4
     by_cases c5 : 0 ≤ x5_1
     ·rw [if_pos c5] at H
      have c5b0 : decide (0 ≤ x5_1) = true := decide_eq_true c5
      clear c5
      by_cases c6 : x5_1 < (l1.length : Int)
      ·rw [if_pos c6] at H
       have c6b0 : decide (x5_1 < (l1.length : Int)) = true := decide_eq_true c6
       clear c6
       by_cases c7 : (rd l0 x5_1) = (rd l1 x5_1)
       ·rw [if_pos c7] at H
        have c7b0 : ((rd l0 x5_1) == (rd l1 x5_1)) = true := beq_iff_eq.mpr c7
        have c7b1 : ((rd l0 x5_1) != (rd l1 x5_1)) = false := bne_eq_false_iff_eq.mpr c7
        clear c7
        have H' := Aside0.mk H
        clear H
        have p320 : 0 ≤ (x5_1 : Int) := D_
        have q320 : x5_1 < (l0.length : Int) := D_
        obtain ⟨ad320, e320, hx320_0⟩ := Kd.at_int HR0.out x5_1 p320 q320
        cases e320
        replace p320 := eq_true p320
        replace q320 := eq_true q320
        have p321 : 0 ≤ (x5_1 : Int) := D_
        have q321 : x5_1 < (l1.length : Int) := D_
        obtain ⟨ad321, e321, hx321_0⟩ := Kd.at_int HR1.out x5_1 p321 q321
        cases e321
        replace p321 := eq_true p321
        replace q321 := eq_true q321
        go_wp2
        repeat (go_quiet (fail); try go_wp2)
        go_roundg k1
        case measure => have := HK1.out; omega
        case rel => exact ⟨(wrap64 (x5_1 + 1)), (by first | rfl | (simp; done) | (simp [*]; done)), H', ⟨by have := HK1.out; omega⟩, by repeat (first | exact Drawn0.refl _ | apply Drawn0.step)⟩
       rw [if_neg c7] at H
       have c7b0 : ((rd l0 x5_1) == (rd l1 x5_1)) = false := beq_eq_false_iff_ne.mpr c7
       have c7b1 : ((rd l0 x5_1) != (rd l1 x5_1)) = true := bne_iff_ne.mpr c7
       obtain rfl := Option.some.inj H
       have p320 : 0 ≤ (x5_1 : Int) := D_
       have q320 : x5_1 < (l0.length : Int) := D_
       obtain ⟨ad320, e320, hx320_0⟩ := Kd.at_int HR0.out x5_1 p320 q320
       cases e320
       replace p320 := eq_true p320
       replace q320 := eq_true q320
       have p321 : 0 ≤ (x5_1 : Int) := D_
       have q321 : x5_1 < (l1.length : Int) := D_
       obtain ⟨ad321, e321, hx321_0⟩ := Kd.at_int HR1.out x5_1 p321 q321
       cases e321
       replace p321 := eq_true p321
       replace q321 := eq_true q321
       go_wp2
       repeat (go_quiet (fail); try go_wp2)
       go_ret
       exact ⟨by first | rfl | (simp; done) | (simp [*]; done), by repeat (first | exact Drawn0.refl _ | apply Drawn0.step)⟩
      rw [if_neg c6] at H
      exact absurd H (by simp)
     rw [if_neg c5] at H
     exact absurd H (by simp)
    rw [if_neg c4] at H
    have c4b0 : decide (x5_1 < (l0.length : Int)) = false := decide_eq_false c4
    clear c4
    obtain rfl := Option.some.inj H
    go_wp2
    repeat (go_quiet (fail); try go_wp2)
    go_ret
    exact ⟨by first | rfl | (simp; done) | (simp [*]; done), by repeat (first | exact Drawn0.refl _ | apply Drawn0.step)⟩
 rw [if_neg c3] at H
 have c3b0 : ((l0.length : Int) == (l1.length : Int)) = false := beq_eq_false_iff_ne.mpr c3
 have c3b1 : ((l0.length : Int) != (l1.length : Int)) = true := bne_iff_ne.mpr c3
 have c3b2 : (l0.length == l1.length) = false := by first | simpa using c3 | (simp at c3 ⊢; omega)
 obtain rfl := Option.some.inj H
 go_enter Try.func12, Try.ntmps12
 go_wp2
 repeat (go_quiet (fail); try go_wp2)
 go_ret
 exact ⟨by first | rfl | (simp; done) | (simp [*]; done), by repeat (first | exact Drawn0.refl _ | apply Drawn0.step)⟩

end Go.Proofs.Ytheillkpgmpnlaa.G
namespace Go.Proofs
open Go.Shelf
def Try.lays189_ren : Go.Shelf.Ren := ⟨fun | 189 => 27 | 125 => 47 | 257 => 52 | 128 => 71 | 129 => 72 | 294 => 74 | 295 => 75 | 296 => 76 | 297 => 77 | 298 => 78 | 299 => 79 | 216 => 80 | 300 => 81 | 301 => 82 | 328 => 91 | 329 => 87 | 330 => 88 | 331 => 92 | 332 => 93 | 215 => 73 | 343 => 95 | n => n, fun | 28 => 31 | 3 => 3 | 46 => 69 | 0 => 0 | 51 => 92 | 53 => 94 | 4 => 4 | 183 => 85 | 182 => 84 | 131 => 89 | 5 => 5 | 9 => 9 | 218 => 105 | 222 => 109 | 228 => 113 | 229 => 114 | n => n, fun | n => n⟩
theorem Try.lays189 : Go.Proofs.Lays.n189 Try.prog Try.lays189_ren := {
  mixed := by kernel_rfl
  f125 := Try.func47.trans (congrArg some (by kernel_rfl))
  f128 := Try.func71.trans (congrArg some (by kernel_rfl))
  f129 := Try.func72.trans (congrArg some (by kernel_rfl))
  f189 := Try.func27.trans (congrArg some (by kernel_rfl))
  f215 := Try.func73.trans (congrArg some (by kernel_rfl))
  f216 := Try.func80.trans (congrArg some (by kernel_rfl))
  f257 := Try.func52.trans (congrArg some (by kernel_rfl))
  f294 := Try.func74.trans (congrArg some (by kernel_rfl))
  f295 := Try.func75.trans (congrArg some (by kernel_rfl))
  f296 := Try.func76.trans (congrArg some (by kernel_rfl))
  f297 := Try.func77.trans (congrArg some (by kernel_rfl))
  f298 := Try.func78.trans (congrArg some (by kernel_rfl))
  f299 := Try.func79.trans (congrArg some (by kernel_rfl))
  f300 := Try.func81.trans (congrArg some (by kernel_rfl))
  f301 := Try.func82.trans (congrArg some (by kernel_rfl))
  f328 := Try.func91.trans (congrArg some (by kernel_rfl))
  f329 := Try.func87.trans (congrArg some (by kernel_rfl))
  f330 := Try.func88.trans (congrArg some (by kernel_rfl))
  f331 := Try.func92.trans (congrArg some (by kernel_rfl))
  f332 := Try.func93.trans (congrArg some (by kernel_rfl))
  f343 := Try.func95.trans (congrArg some (by kernel_rfl))
  t0 := Try.underlying0
  a0 := Try.isAgg0
  z0 := Try.sizeOf0
  v0 := Try.zeroValue0
  t3 := Try.underlying3
  a3 := Try.isAgg3
  z3 := Try.sizeOf3
  v3 := Try.zeroValue3
  t4 := Try.underlying4
  a4 := Try.isAgg4
  z4 := Try.sizeOf4
  v4 := Try.zeroValue4
  t5 := Try.underlying5
  a5 := Try.isAgg5
  z5 := Try.sizeOf5
  v5 := Try.zeroValue5
  t9 := Try.underlying9
  a9 := Try.isAgg9
  z9 := Try.sizeOf9
  v9 := Try.zeroValue9
  t28 := Try.underlying31
  a28 := Try.isAgg31
  z28 := Try.sizeOf31
  v28 := Try.zeroValue31
  t46 := Try.underlying69
  a46 := Try.isAgg69
  z46 := Try.sizeOf69
  v46 := Try.zeroValue69
  t51 := Try.underlying92
  a51 := Try.isAgg92
  z51 := Try.sizeOf92
  v51 := Try.zeroValue92
  t53 := Try.underlying94
  a53 := Try.isAgg94
  z53 := Try.sizeOf94
  v53 := Try.zeroValue94
  t131 := Try.underlying89
  a131 := Try.isAgg89
  z131 := Try.sizeOf89
  v131 := Try.zeroValue89
  t182 := Try.underlying84
  a182 := Try.isAgg84
  z182 := Try.sizeOf84
  v182 := Try.zeroValue84
  t183 := Try.underlying85
  a183 := Try.isAgg85
  z183 := Try.sizeOf85
  v183 := Try.zeroValue85
  t218 := Try.underlying105
  a218 := Try.isAgg105
  z218 := Try.sizeOf105
  v218 := Try.zeroValue105
  t222 := Try.underlying109
  a222 := Try.isAgg109
  z222 := Try.sizeOf109
  v222 := Try.zeroValue109
  t228 := Try.underlying113
  a228 := Try.isAgg113
  z228 := Try.sizeOf113
  v228 := Try.zeroValue113
  t229 := Try.underlying114
  a229 := Try.isAgg114
  z229 := Try.sizeOf114
  v229 := Try.zeroValue114 }
open Go.Sort Go.RowKit in
theorem Try.slices_Sort_int (blk off cap : Nat) (zs : List Int) (w : World) (hH : Holds (Value.int .i64) w blk off zs.toArray) (hblk : blk < w.heap.size) (hsz : zs.length < 4611686018427387904) :
    Calls Try.prog 27 #[.slice (some ⟨blk, off, none⟩) zs.length cap] w fun e w' =>
      e = .returned (.tuple #[]) ∧ ∃ n os, w' = grow (putRow (Value.int .i64) (Sort.ahead w n) blk off (zs.mergeSort fun x y => decide (x ≤ y)).toArray) os := Any.slices_Sort_int Try.lays189 blk off cap zs w hH hblk hsz
def Try.laysNm220_ren : Go.Shelf.Ren := ⟨fun | 20 => 28 | n => n, fun | 22 => 31 | 3 => 3 | 4 => 4 | 0 => 0 | n => n, fun | n => n⟩
theorem Try.laysNm220 : Go.Proofs.Lays2.n20 Try.prog Try.laysNm220_ren := {
  mixed := by kernel_rfl
  f20 := Try.func28.trans (congrArg some (by kernel_rfl))
  t0 := Try.underlying0
  a0 := Try.isAgg0
  z0 := Try.sizeOf0
  v0 := Try.zeroValue0
  t3 := Try.underlying3
  a3 := Try.isAgg3
  z3 := Try.sizeOf3
  v3 := Try.zeroValue3
  t4 := Try.underlying4
  a4 := Try.isAgg4
  z4 := Try.sizeOf4
  v4 := Try.zeroValue4
  t22 := Try.underlying31
  a22 := Try.isAgg31
  z22 := Try.sizeOf31
  v22 := Try.zeroValue31
  i3 := by kernel_rfl }
open Go.RowKit Go.Lib Go.Sort in
/-- slices.Compact at []int: "Compact replaces consecutive runs of equal elements with a single copy. This is like the uniq command found on Unix. Compact modifies the contents of the slice s and returns the modified slice, which may have a smaller length. Compact zeroes the elements between the new length and the original length. The result preserves the nilness of s.": IT RETURNS THE SLICE CUT TO 'Lib.compact zs'; ITS CELLS HOLD 'Lib.compact zs', THEN ZERO VALUES up to the old length; all else is as it was, but for the count of draws. IN THE WORDS OF slices.Sort's CONTRACT ('Holds', 'putRow'): so the everyday 'slices.Sort(xs); xs = slices.Compact(xs)' goes from the one contract to the other. It asks 'zs.length ≤ cap' (every slice's: the reslicing 's[:k]' looks at it). Length 0, nil: '.._empty'. (LAID: no walk: one application.) -/
theorem Try.slices_Compact_int (blk off cap : Nat) (zs : List Int) (w : World) (hH : Holds (Value.int .i64) w blk off zs.toArray) (hsz : zs.length ≤ 9223372036854775807) (hcap : zs.length ≤ cap) :
    Calls Try.prog 28 #[.slice (some ⟨blk, off, none⟩) zs.length cap] w fun e w' => e = .returned (.slice (some ⟨blk, off, none⟩) (Lib.compact zs).length cap) ∧ ∃ q, w' = putRow (Value.int .i64) (Sort.ahead w q) blk off (Lib.compact zs ++ List.replicate (zs.length - (Lib.compact zs).length) 0).toArray := Any.slices_Compact_int Try.laysNm220 blk off cap zs w hH hsz hcap
open Go.RowKit Go.Lib Go.Sort in
/-- The same at a slice of length 0, a nil one too: it comes back as it is. (LAID: no walk: one application.) -/
theorem Try.slices_Compact_int_empty (a : Option Addr) (cap : Nat) (w : World) :
    Calls Try.prog 28 #[.slice a 0 cap] w fun e w' => e = .returned (.slice a 0 cap) ∧ w' = w := Any.slices_Compact_int_empty Try.laysNm220 a cap w
open Go.RowKit Go.Sort in
/-- .. and plain. (LAID: no walk: one application.) -/
theorem Try.slices_Sort_int_none (p : Option Addr) (cap : Nat) (w : World) :
    Calls Try.prog 27 #[.slice p 0 cap] w fun e w' => e = .returned (.tuple #[]) ∧ w' = w := Any.slices_Sort_int_none Try.lays189 p cap w
end Go.Proofs
namespace Go.Proofs.Ytheillkpgmpnlaa.G
open Go.Proofs.YtheillkpgmpnlaaH
open Go.RowKit Go.Proofs.YtheillkpgmpnlaaW.PrintWords Go.Proofs.YtheillkpgmpnlaaW.PrintLast Go.Proofs.YtheillkpgmpnlaaW.PrintMore
attribute [local go_sem] max2_int min2_int max_two min_two max_three min_three max_four min_four   -- for this text's walks alone
set_option linter.unusedVariables false
set_option linter.unusedSimpArgs false

/-! ### dom_depth: function 60 -/
mutual
def dom_depth.l0 : Nat → List Int → Int → Int → Int → Option (Int)
 | 0, _, _, _, _ => none
 | k + 1, x0, x1, x7, x8 => if x8 < x7 then (if x1 < 0 then (dom_depth.j1 k x0 x1 x8 x7 x8 true) else (dom_depth.j1 k x0 x1 x8 x7 x8 (decide (x1 ≥ (x0.length : Int))))) else (some (-1))
def dom_depth.j1 : Nat → List Int → Int → Int → Int → Int → Bool → Option (Int)
 | 0, _, _, _, _, _, _ => none
 | k + 1, x0, x1, x5, x7, x8, x18 => if x18 = true then (some (-1)) else (if 0 ≤ x1 then (if x1 < (x0.length : Int) then (if (rd x0 x1) = (-1) then (some x5) else (dom_depth.l0 k x0 (rd x0 x1) x7 (wrap64 (x8 + 1)))) else (none)) else (none))
end
def dom_depth.f (k : Nat) (l0 : List Int) (a1 : Int) : Option (Int) := dom_depth.l0 k l0 a1 (l0.length : Int) 0
theorem dom_depth.mono_l : ∀ k, (∀ y0 y1 y2 y3, LeO (dom_depth.l0 k y0 y1 y2 y3) (dom_depth.l0 (k + 1) y0 y1 y2 y3)) ∧ (∀ y0 y1 y2 y3 y4 y5, LeO (dom_depth.j1 k y0 y1 y2 y3 y4 y5) (dom_depth.j1 (k + 1) y0 y1 y2 y3 y4 y5))
 | 0 => ⟨fun _ _ _ _ r h => by simp [dom_depth.l0] at h, fun _ _ _ _ _ _ r h => by simp [dom_depth.j1] at h⟩
 | k + 1 => by
  obtain ⟨ih0, ih1⟩ := dom_depth.mono_l k
  refine ⟨?_, ?_⟩
  ·intro y0 y1 y2 y3
   unfold dom_depth.l0
   repeat' (with_reducible first | exact ih0 _ _ _ _ | exact ih1 _ _ _ _ _ _ | exact LeO.refl _ | exact LeO.none _ | refine LeO.ite ?_ ?_ | refine LeO.bind ?_ (fun _ => ?_))
  ·intro y0 y1 y2 y3 y4 y5
   unfold dom_depth.j1
   repeat' (with_reducible first | exact ih0 _ _ _ _ | exact ih1 _ _ _ _ _ _ | exact LeO.refl _ | exact LeO.none _ | refine LeO.ite ?_ ?_ | refine LeO.bind ?_ (fun _ => ?_))
theorem dom_depth.mono : ∀ a0 a1 k, LeO (dom_depth.f k a0 a1) (dom_depth.f (k + 1) a0 a1) := by
 intro a0 a1 k
 obtain ⟨ih0, ih1⟩ := dom_depth.mono_l k
 unfold dom_depth.f
 repeat' (with_reducible first | exact ih0 _ _ _ _ | exact ih1 _ _ _ _ _ _ | exact LeO.refl _ | exact LeO.none _ | refine LeO.ite ?_ ?_ | refine LeO.bind ?_ (fun _ => ?_))
set_option maxHeartbeats 8000000 in
set_option maxRecDepth 100000 in
theorem dom_depth.calls (k : Nat) (A0 : Option Addr) (c0 : Nat) (l0 : List Int) (a1 : Int) (r : Int) (w : World) (hr0 : Kd.C (Kd.int .i64) w A0 l0.length l0) (hc0 : l0.length ≤ c0) (h : dom_depth.f k l0 a1 = some r) :
 Calls Try.prog 60 #[.slice A0 l0.length c0, .int .i64 a1] w fun e w' => e = .returned (.int .i64 r) ∧ Drawn0 w w' := by
 have HR0 := Aside0.mk hr0
 have HC0 := Aside0.mk hc0
 clear hr0 hc0
 have H : (dom_depth.l0 k l0 a1 (l0.length : Int) 0) = some r := h
 clear h
 have H' := Aside0.mk H
 clear H
 go_enter Try.func60, Try.ntmps60
 go_wp2
 go_loopg [1, 8] k (fun kq v1 v8 w' => ∃ (x1_1 : Int) (x8_1 : Int), v1 = .int .i64 x1_1 ∧ v8 = .int .i64 x8_1 ∧ Aside0 (dom_depth.l0 kq l0 x1_1 (l0.length : Int) x8_1 = some r) ∧ Aside0 (kq ≤ k) ∧ Drawn0 w w')
 case atStart => exact ⟨(a1), (0), (by first | rfl | (simp; done) | (simp [*]; done)), (by first | rfl | (simp; done) | (simp [*]; done)), H', ⟨Nat.le_refl _⟩, by repeat (first | exact Drawn0.refl _ | apply Drawn0.step)⟩
 case round =>
  clear H'
  obtain ⟨x1_1, x8_1, rfl, rfl, HA, HK1, ⟨m1, rfl⟩⟩ := hrel
  cases gk with
  | zero => exact absurd HA.out (by simp [dom_depth.l0])
  | succ k1 =>
   have H := HA.out
   clear HA
   simp only [dom_depth.l0] at H
   by_cases c3 : x8_1 < (l0.length : Int)
   ·rw [if_pos c3] at H
    have c3b0 : decide (x8_1 < (l0.length : Int)) = true := decide_eq_true c3
    clear c3
    have HC4 := Aside0.mk H
    clear H
    go_upto_region 4 with (fail)
    go_cut [18] (fun v18 wc => ∃ (kq : Nat) (x18_3 : Bool), v18 = .bool x18_3 ∧ Aside0 (dom_depth.j1 kq l0 x1_1 x8_1 (l0.length : Int) x8_1 x18_3 = some r) ∧ Aside0 (kq ≤ k1) ∧ Drawn0 w wc)
    case first =>
     have H := HC4.out
     clear HC4
     by_cases c5 : x1_1 < 0
     ·rw [if_pos c5] at H
      have c5b0 : decide (x1_1 < 0) = true := decide_eq_true c5
      clear c5
      (first | rw [c5b0] | (simp only [i64_w, i32_w]; rw [c5b0]) | skip)
      have H' := Aside0.mk H
      clear H
      go_wp2
      go_meet
      case rel => exact ⟨_, (true), (by first | rfl | (simp; done) | (simp [*]; done)), H', ⟨by have := HK1.out; first | omega | exact Nat.le_refl _⟩, by repeat (first | exact Drawn0.refl _ | apply Drawn0.step)⟩
     rw [if_neg c5] at H
     have c5b0 : decide (x1_1 < 0) = false := decide_eq_false c5
     clear c5
     (first | rw [c5b0] | (simp only [i64_w, i32_w]; rw [c5b0]) | skip)
     have H' := Aside0.mk H
     clear H
     go_wp2
     go_meet
     case rel => exact ⟨_, (decide (x1_1 ≥ (l0.length : Int))), (by first | rfl | (simp; done) | (simp [*]; done)), H', ⟨by have := HK1.out; first | omega | exact Nat.le_refl _⟩, by repeat (first | exact Drawn0.refl _ | apply Drawn0.step)⟩
    case rest =>
     clear HC4
     try clear c3b0
     obtain ⟨kq, x18_3, rfl, HA, HJ3, ⟨mc3, rfl⟩⟩ := hcut
     cases kq with
     | zero => exact absurd HA.out (by simp [dom_depth.j1])
     | succ kj3 =>
      have H := HA.out
      clear HA
      simp only [dom_depth.j1] at H
      by_cases c6 : x18_3 = true
      ·subst c6
       have H1 : (some (-1)) = some r := by rw [if_pos rfl] at H; exact H
       clear H
       have H := H1
       clear H1
       obtain rfl := Option.some.inj H
       go_wp2
       go_ret
       exact ⟨by first | rfl | (simp; done) | (simp [*]; done), by repeat (first | exact Drawn0.refl _ | apply Drawn0.step)⟩
      replace c6 := Bool.eq_false_iff.mpr c6
      subst c6
      have H1 : (if 0 ≤ x1_1 then (if x1_1 < (l0.length : Int) then (if (rd l0 x1_1) = (-1) then (some x8_1) else (dom_depth.l0 kj3 l0 (rd l0 x1_1) (l0.length : Int) (wrap64 (x8_1 + 1)))) else (none)) else (none)) = some r := by rw [if_neg (show ¬ (false = true) by decide)] at H; exact H
      clear H
      have H := H1
      clear H1
      by_cases c7 : 0 ≤ x1_1
      ·rw [if_pos c7] at H
       have c7b0 : decide (0 ≤ x1_1) = true := decide_eq_true c7
       clear c7
       by_cases c8 : x1_1 < (l0.length : Int)
       ·rw [if_pos c8] at H
        have c8b0 : decide (x1_1 < (l0.length : Int)) = true := decide_eq_true c8
        clear c8
        by_cases c9 : (rd l0 x1_1) = (-1)
        ·rw [if_pos c9] at H
         have c9b0 : ((rd l0 x1_1) == (-1)) = true := beq_iff_eq.mpr c9
         have c9b1 : ((rd l0 x1_1) != (-1)) = false := bne_eq_false_iff_eq.mpr c9
         clear c9
         obtain rfl := Option.some.inj H
         have p322 : 0 ≤ (x1_1 : Int) := D_
         have q322 : x1_1 < (l0.length : Int) := D_
         obtain ⟨ad322, e322, hx322_0⟩ := Kd.at_int HR0.out x1_1 p322 q322
         cases e322
         replace p322 := eq_true p322
         replace q322 := eq_true q322
         go_wp2
         go_ret
         exact ⟨by first | rfl | (simp; done) | (simp [*]; done), by repeat (first | exact Drawn0.refl _ | apply Drawn0.step)⟩
        rw [if_neg c9] at H
        have c9b0 : ((rd l0 x1_1) == (-1)) = false := beq_eq_false_iff_ne.mpr c9
        have c9b1 : ((rd l0 x1_1) != (-1)) = true := bne_iff_ne.mpr c9
        have H' := Aside0.mk H
        clear H
        have p322 : 0 ≤ (x1_1 : Int) := D_
        have q322 : x1_1 < (l0.length : Int) := D_
        obtain ⟨ad322, e322, hx322_0⟩ := Kd.at_int HR0.out x1_1 p322 q322
        cases e322
        replace p322 := eq_true p322
        replace q322 := eq_true q322
        have p323 : 0 ≤ (x1_1 : Int) := D_
        have q323 : x1_1 < (l0.length : Int) := D_
        obtain ⟨ad323, e323, hx323_0⟩ := Kd.at_int HR0.out x1_1 p323 q323
        obtain rfl : ad322 = ad323 := (by injection e323)
        replace p323 := eq_true p323
        replace q323 := eq_true q323
        go_wp2
        go_roundg kj3
        case measure => have := HK1.out; have := HJ3.out; omega
        case rel => exact ⟨(rd l0 x1_1), (wrap64 (x8_1 + 1)), (by first | rfl | (simp; done) | (simp [*]; done)), (by first | rfl | (simp; done) | (simp [*]; done)), H', ⟨by have := HK1.out; have := HJ3.out; omega⟩, by repeat (first | exact Drawn0.refl _ | apply Drawn0.step)⟩
       rw [if_neg c8] at H
       exact absurd H (by simp)
      rw [if_neg c7] at H
      exact absurd H (by simp)
   rw [if_neg c3] at H
   have c3b0 : decide (x8_1 < (l0.length : Int)) = false := decide_eq_false c3
   clear c3
   obtain rfl := Option.some.inj H
   go_wp2
   go_ret
   exact ⟨by first | rfl | (simp; done) | (simp [*]; done), by repeat (first | exact Drawn0.refl _ | apply Drawn0.step)⟩


/-! ### dom_right: function 57 -/
def dom_right.l0 : Nat → List Int → Int → List Int → Int → Int → Option (Bool)
 | 0, _, _, _, _, _ => none
 | k + 1, x0, x3, x6, x7, x8 => if x8 < x7 then (if 0 ≤ x8 then (if x8 < (x6.length : Int) then (if (rd x6 x8) = (-1) then (if (rd x6 x8) = (-2) then (dom_right.l0 k x0 (wrap64 (x3 + 1)) x6 x7 (wrap64 (x8 + 1))) else ((dom_depth.f k x0 x8).bind fun t325 => (if t325 < 0 then (some false) else (dom_right.l0 k x0 (wrap64 (x3 + 1)) x6 x7 (wrap64 (x8 + 1)))))) else (if (rd x6 x8) = (-2) then (dom_right.l0 k x0 x3 x6 x7 (wrap64 (x8 + 1))) else ((dom_depth.f k x0 x8).bind fun t326 => (if t326 < 0 then (some false) else (dom_right.l0 k x0 x3 x6 x7 (wrap64 (x8 + 1))))))) else (none)) else (none)) else (some (x3 == 1))
def dom_right.f (k : Nat) (l0 : List Int) : Option (Bool) := dom_right.l0 k l0 0 l0 (l0.length : Int) 0
theorem dom_right.mono_l : ∀ k, (∀ y0 y1 y2 y3 y4, LeO (dom_right.l0 k y0 y1 y2 y3 y4) (dom_right.l0 (k + 1) y0 y1 y2 y3 y4))
 | 0 => fun _ _ _ _ _ r h => by simp [dom_right.l0] at h
 | k + 1 => by
  have ih0 := dom_right.mono_l k
  ·intro y0 y1 y2 y3 y4
   unfold dom_right.l0
   repeat' (with_reducible first | exact ih0 _ _ _ _ _ | exact dom_depth.mono _ _ _ | exact LeO.refl _ | exact LeO.none _ | refine LeO.ite ?_ ?_ | refine LeO.bind ?_ (fun _ => ?_))
theorem dom_right.mono : ∀ a0 k, LeO (dom_right.f k a0) (dom_right.f (k + 1) a0) := by
 intro a0 k
 have ih0 := dom_right.mono_l k
 unfold dom_right.f
 repeat' (with_reducible first | exact ih0 _ _ _ _ _ | exact dom_depth.mono _ _ _ | exact LeO.refl _ | exact LeO.none _ | refine LeO.ite ?_ ?_ | refine LeO.bind ?_ (fun _ => ?_))
set_option maxHeartbeats 8000000 in
set_option maxRecDepth 100000 in
theorem dom_right.calls (k : Nat) (A0 : Option Addr) (c0 : Nat) (l0 : List Int) (r : Bool) (w : World) (hr0 : Kd.C (Kd.int .i64) w A0 l0.length l0) (hc0 : l0.length ≤ c0) (h : dom_right.f k l0 = some r) :
 Calls Try.prog 57 #[.slice A0 l0.length c0] w fun e w' => e = .returned (.bool r) ∧ Drawn0 w w' := by
 have HR0 := Aside0.mk hr0
 have HC0 := Aside0.mk hc0
 clear hr0 hc0
 have H : (dom_right.l0 k l0 0 l0 (l0.length : Int) 0) = some r := h
 clear h
 have H' := Aside0.mk H
 clear H
 go_enter Try.func57, Try.ntmps57
 go_wp2
 go_loopg [3, 8] k (fun kq v3 v8 w' => ∃ (x3_1 : Int) (x8_1 : Int), v3 = .int .i64 x3_1 ∧ v8 = .int .i64 x8_1 ∧ Aside0 (dom_right.l0 kq l0 x3_1 l0 (l0.length : Int) x8_1 = some r) ∧ Aside0 (kq ≤ k) ∧ Drawn0 w w')
 case atStart => exact ⟨(0), (0), (by first | rfl | (simp; done) | (simp [*]; done)), (by first | rfl | (simp; done) | (simp [*]; done)), H', ⟨Nat.le_refl _⟩, by repeat (first | exact Drawn0.refl _ | apply Drawn0.step)⟩
 case round =>
  clear H'
  obtain ⟨x3_1, x8_1, rfl, rfl, HA, HK1, ⟨m1, rfl⟩⟩ := hrel
  cases gk with
  | zero => exact absurd HA.out (by simp [dom_right.l0])
  | succ k1 =>
   have H := HA.out
   clear HA
   simp only [dom_right.l0] at H
   by_cases c2 : x8_1 < (l0.length : Int)
   ·rw [if_pos c2] at H
    have c2b0 : decide (x8_1 < (l0.length : Int)) = true := decide_eq_true c2
    clear c2
    by_cases c3 : 0 ≤ x8_1
    ·rw [if_pos c3] at H
     have c3b0 : decide (0 ≤ x8_1) = true := decide_eq_true c3
     clear c3
     by_cases c4 : x8_1 < (l0.length : Int)
     ·rw [if_pos c4] at H
      have c4b0 : decide (x8_1 < (l0.length : Int)) = true := decide_eq_true c4
      clear c4
      by_cases c5 : (rd l0 x8_1) = (-1)
      ·rw [if_pos c5] at H
       have c5b0 : ((rd l0 x8_1) == (-1)) = true := beq_iff_eq.mpr c5
       have c5b1 : ((rd l0 x8_1) != (-1)) = false := bne_eq_false_iff_eq.mpr c5
       clear c5
       by_cases c6 : (rd l0 x8_1) = (-2)
       ·rw [if_pos c6] at H
        have c6b0 : ((rd l0 x8_1) == (-2)) = true := beq_iff_eq.mpr c6
        have c6b1 : ((rd l0 x8_1) != (-2)) = false := bne_eq_false_iff_eq.mpr c6
        clear c6
        have H' := Aside0.mk H
        clear H
        have p324 : 0 ≤ (x8_1 : Int) := D_
        have q324 : x8_1 < (l0.length : Int) := D_
        obtain ⟨ad324, e324, hx324_0⟩ := Kd.at_int HR0.out x8_1 p324 q324
        cases e324
        replace p324 := eq_true p324
        replace q324 := eq_true q324
        go_wp2
        go_roundg k1
        case measure => have := HK1.out; omega
        case rel => exact ⟨(wrap64 (x3_1 + 1)), (wrap64 (x8_1 + 1)), (by first | rfl | (simp; done) | (simp [*]; done)), (by first | rfl | (simp; done) | (simp [*]; done)), H', ⟨by have := HK1.out; omega⟩, by repeat (first | exact Drawn0.refl _ | apply Drawn0.step)⟩
       rw [if_neg c6] at H
       have c6b0 : ((rd l0 x8_1) == (-2)) = false := beq_eq_false_iff_ne.mpr c6
       have c6b1 : ((rd l0 x8_1) != (-2)) = true := bne_iff_ne.mpr c6
       replace H := Option.bind_eq_some_iff.mp H
       obtain ⟨t325, A70, H⟩ := H
       try dsimp only at H
       have A7 := Aside0.mk A70
       clear A70
       by_cases c8 : t325 < 0
       ·rw [if_pos c8] at H
        have c8b0 : decide (t325 < 0) = true := decide_eq_true c8
        clear c8
        obtain rfl := Option.some.inj H
        have p324 : 0 ≤ (x8_1 : Int) := D_
        have q324 : x8_1 < (l0.length : Int) := D_
        obtain ⟨ad324, e324, hx324_0⟩ := Kd.at_int HR0.out x8_1 p324 q324
        cases e324
        replace p324 := eq_true p324
        replace q324 := eq_true q324
        go_wp2_with (first | (go_at_call 60; (with_reducible refine (dom_depth.calls k1 _ _ l0 x8_1 t325 _ ?side1 ?side2 A7.out).mono ?_); (case side1 => exact CX_ HR0.out); (case side2 => exact HC0.out); rintro e w' ⟨rfl, ⟨nd, rfl⟩⟩))
        go_ret
        exact ⟨by first | rfl | (simp; done) | (simp [*]; done), by repeat (first | exact Drawn0.refl _ | apply Drawn0.step)⟩
       rw [if_neg c8] at H
       have c8b0 : decide (t325 < 0) = false := decide_eq_false c8
       clear c8
       have H' := Aside0.mk H
       clear H
       have p324 : 0 ≤ (x8_1 : Int) := D_
       have q324 : x8_1 < (l0.length : Int) := D_
       obtain ⟨ad324, e324, hx324_0⟩ := Kd.at_int HR0.out x8_1 p324 q324
       cases e324
       replace p324 := eq_true p324
       replace q324 := eq_true q324
       go_wp2_with (first | (go_at_call 60; (with_reducible refine (dom_depth.calls k1 _ _ l0 x8_1 t325 _ ?side1 ?side2 A7.out).mono ?_); (case side1 => exact CX_ HR0.out); (case side2 => exact HC0.out); rintro e w' ⟨rfl, ⟨nd, rfl⟩⟩))
       go_roundg k1
       case measure => have := HK1.out; omega
       case rel => exact ⟨(wrap64 (x3_1 + 1)), (wrap64 (x8_1 + 1)), (by first | rfl | (simp; done) | (simp [*]; done)), (by first | rfl | (simp; done) | (simp [*]; done)), H', ⟨by have := HK1.out; omega⟩, by repeat (first | exact Drawn0.refl _ | apply Drawn0.step)⟩
      rw [if_neg c5] at H
      have c5b0 : ((rd l0 x8_1) == (-1)) = false := beq_eq_false_iff_ne.mpr c5
      have c5b1 : ((rd l0 x8_1) != (-1)) = true := bne_iff_ne.mpr c5
      by_cases c9 : (rd l0 x8_1) = (-2)
      ·rw [if_pos c9] at H
       have c9b0 : ((rd l0 x8_1) == (-2)) = true := beq_iff_eq.mpr c9
       have c9b1 : ((rd l0 x8_1) != (-2)) = false := bne_eq_false_iff_eq.mpr c9
       clear c9
       have H' := Aside0.mk H
       clear H
       have p324 : 0 ≤ (x8_1 : Int) := D_
       have q324 : x8_1 < (l0.length : Int) := D_
       obtain ⟨ad324, e324, hx324_0⟩ := Kd.at_int HR0.out x8_1 p324 q324
       cases e324
       replace p324 := eq_true p324
       replace q324 := eq_true q324
       go_wp2
       go_roundg k1
       case measure => have := HK1.out; omega
       case rel => exact ⟨(x3_1), (wrap64 (x8_1 + 1)), (by first | rfl | (simp; done) | (simp [*]; done)), (by first | rfl | (simp; done) | (simp [*]; done)), H', ⟨by have := HK1.out; omega⟩, by repeat (first | exact Drawn0.refl _ | apply Drawn0.step)⟩
      rw [if_neg c9] at H
      have c9b0 : ((rd l0 x8_1) == (-2)) = false := beq_eq_false_iff_ne.mpr c9
      have c9b1 : ((rd l0 x8_1) != (-2)) = true := bne_iff_ne.mpr c9
      replace H := Option.bind_eq_some_iff.mp H
      obtain ⟨t326, A100, H⟩ := H
      try dsimp only at H
      have A10 := Aside0.mk A100
      clear A100
      by_cases c11 : t326 < 0
      ·rw [if_pos c11] at H
       have c11b0 : decide (t326 < 0) = true := decide_eq_true c11
       clear c11
       obtain rfl := Option.some.inj H
       have p324 : 0 ≤ (x8_1 : Int) := D_
       have q324 : x8_1 < (l0.length : Int) := D_
       obtain ⟨ad324, e324, hx324_0⟩ := Kd.at_int HR0.out x8_1 p324 q324
       cases e324
       replace p324 := eq_true p324
       replace q324 := eq_true q324
       go_wp2_with (first | (go_at_call 60; (with_reducible refine (dom_depth.calls k1 _ _ l0 x8_1 t326 _ ?side1 ?side2 A10.out).mono ?_); (case side1 => exact CX_ HR0.out); (case side2 => exact HC0.out); rintro e w' ⟨rfl, ⟨nd, rfl⟩⟩))
       go_ret
       exact ⟨by first | rfl | (simp; done) | (simp [*]; done), by repeat (first | exact Drawn0.refl _ | apply Drawn0.step)⟩
      rw [if_neg c11] at H
      have c11b0 : decide (t326 < 0) = false := decide_eq_false c11
      clear c11
      have H' := Aside0.mk H
      clear H
      have p324 : 0 ≤ (x8_1 : Int) := D_
      have q324 : x8_1 < (l0.length : Int) := D_
      obtain ⟨ad324, e324, hx324_0⟩ := Kd.at_int HR0.out x8_1 p324 q324
      cases e324
      replace p324 := eq_true p324
      replace q324 := eq_true q324
      go_wp2_with (first | (go_at_call 60; (with_reducible refine (dom_depth.calls k1 _ _ l0 x8_1 t326 _ ?side1 ?side2 A10.out).mono ?_); (case side1 => exact CX_ HR0.out); (case side2 => exact HC0.out); rintro e w' ⟨rfl, ⟨nd, rfl⟩⟩))
      go_roundg k1
      case measure => have := HK1.out; omega
      case rel => exact ⟨(x3_1), (wrap64 (x8_1 + 1)), (by first | rfl | (simp; done) | (simp [*]; done)), (by first | rfl | (simp; done) | (simp [*]; done)), H', ⟨by have := HK1.out; omega⟩, by repeat (first | exact Drawn0.refl _ | apply Drawn0.step)⟩
     rw [if_neg c4] at H
     exact absurd H (by simp)
    rw [if_neg c3] at H
    exact absurd H (by simp)
   rw [if_neg c2] at H
   have c2b0 : decide (x8_1 < (l0.length : Int)) = false := decide_eq_false c2
   clear c2
   obtain rfl := Option.some.inj H
   go_wp2
   go_ret
   exact ⟨by first | rfl | (simp; done) | (simp [*]; done), by repeat (first | exact Drawn0.refl _ | apply Drawn0.step)⟩


/-! ### dom_in: function 39 -/
def dom_in_1.f (k : Nat) (a0 : Int) (l1 : List Int) : Option Bool := (dom_depth.f k l1 a0).bind fun t => some (decide (t < 0))
theorem dom_in_1.mono : ∀ a0 a1 k, LeO (dom_in_1.f k a0 a1) (dom_in_1.f (k + 1) a0 a1) := by
 intro a0 a1 k
 unfold dom_in_1.f
 exact LeO.bind (dom_depth.mono _ _ _) (fun _ => LeO.refl _)
set_option maxHeartbeats 8000000 in
set_option maxRecDepth 100000 in
theorem dom_in_1.calls (k : Nat) (a0 : Int) (g1_ : Nat) (A1 : Option Addr) (c1 : Nat) (l1 : List Int) (r : Bool) (w : World) (hr1 : Kd.C (Kd.int .i64) w A1 l1.length l1) (hc1 : l1.length ≤ c1) (hcb1 : w.cell? ⟨g1_, 0, none⟩ = some (.slice A1 l1.length c1)) (h : dom_in_1.f k a0 l1 = some r) :
 Calls Try.prog 59 #[.int .i64 a0, .pointer (some ⟨g1_, 0, none⟩)] w fun e w' => e = .returned (.bool r) ∧ Drawn0 w w' := by
 have HR1 := Aside0.mk hr1
 have HC1 := Aside0.mk hc1
 clear hr1 hc1
 have H : ((dom_depth.f k l1 a0).bind fun t => some (decide (t < 0))) = some r := h
 clear h
 replace H := Option.bind_eq_some_iff.mp H
 obtain ⟨t1, A1_, H⟩ := H
 try dsimp only at H
 have A3 := Aside0.mk A1_
 clear A1_
 obtain rfl := Option.some.inj H
 clear H
 go_enter Try.func59, Try.ntmps59
 go_wp2_with (first | (go_at_call 60; (with_reducible refine (dom_depth.calls k _ _ l1 a0 t1 _ ?side1 ?side2 A3.out).mono ?_); (case side1 => exact CX_ HR1.out); (case side2 => exact HC1.out); rintro e w' ⟨rfl, ⟨nd, rfl⟩⟩))
 go_ret
 exact ⟨by first | rfl | (simp; done) | (simp [*]; done), by repeat (first | exact Drawn0.refl _ | apply Drawn0.step)⟩

def slices_IndexFunc_int_int_dom_in_1.l0 : Nat → List Int → Int → Int → List Int → Option (Int)
 | 0, _, _, _, _ => none
 | k + 1, x0, x7, x8, x2000 => if x8 < x7 then (if 0 ≤ x8 then (if x8 < (x0.length : Int) then ((dom_in_1.f k (rd x0 x8) x2000).bind fun t124 => (if t124 = true then (some x8) else (slices_IndexFunc_int_int_dom_in_1.l0 k x0 x7 (wrap64 (x8 + 1)) x2000))) else (none)) else (none)) else (some (-1))
def slices_IndexFunc_int_int_dom_in_1.f (k : Nat) (l0 : List Int) (l1 : List Int) : Option (Int) := slices_IndexFunc_int_int_dom_in_1.l0 k l0 (l0.length : Int) 0 l1
theorem slices_IndexFunc_int_int_dom_in_1.mono_l : ∀ k, (∀ y0 y1 y2 y3, LeO (slices_IndexFunc_int_int_dom_in_1.l0 k y0 y1 y2 y3) (slices_IndexFunc_int_int_dom_in_1.l0 (k + 1) y0 y1 y2 y3))
 | 0 => fun _ _ _ _ r h => by simp [slices_IndexFunc_int_int_dom_in_1.l0] at h
 | k + 1 => by
  have ih0 := slices_IndexFunc_int_int_dom_in_1.mono_l k
  ·intro y0 y1 y2 y3
   unfold slices_IndexFunc_int_int_dom_in_1.l0
   repeat' (with_reducible first | exact ih0 _ _ _ _ | exact dom_in_1.mono _ _ _ | exact LeO.refl _ | exact LeO.none _ | refine LeO.ite ?_ ?_ | refine LeO.bind ?_ (fun _ => ?_))
theorem slices_IndexFunc_int_int_dom_in_1.mono : ∀ a0 a1 k, LeO (slices_IndexFunc_int_int_dom_in_1.f k a0 a1) (slices_IndexFunc_int_int_dom_in_1.f (k + 1) a0 a1) :=
 fun a0 a1 k => slices_IndexFunc_int_int_dom_in_1.mono_l k _ _ _ _
set_option maxHeartbeats 8000000 in
set_option maxRecDepth 100000 in
theorem slices_IndexFunc_int_int_dom_in_1.calls (k : Nat) (A0 : Option Addr) (c0 : Nat) (l0 : List Int) (g1_ : Nat) (A1 : Option Addr) (c1 : Nat) (l1 : List Int) (r : Int) (w : World) (hr0 : Kd.C (Kd.int .i64) w A0 l0.length l0) (hc0 : l0.length ≤ c0) (hr1 : Kd.C (Kd.int .i64) w A1 l1.length l1) (hc1 : l1.length ≤ c1) (hcb1 : w.cell? ⟨g1_, 0, none⟩ = some (.slice A1 l1.length c1)) (h : slices_IndexFunc_int_int_dom_in_1.f k l0 l1 = some r) :
 Calls Try.prog 85 #[.slice A0 l0.length c0, .func (.func 59) #[] #[.pointer (some ⟨g1_, 0, none⟩)]] w fun e w' => e = .returned (.int .i64 r) ∧ Drawn0 w w' := by
 have HR0 := Aside0.mk hr0
 have HC0 := Aside0.mk hc0
 have HR1 := Aside0.mk hr1
 have HC1 := Aside0.mk hc1
 clear hr0 hc0 hr1 hc1
 have H : (slices_IndexFunc_int_int_dom_in_1.l0 k l0 (l0.length : Int) 0 l1) = some r := h
 clear h
 have H' := Aside0.mk H
 clear H
 go_enter Try.func85, Try.ntmps85
 go_wp2
 go_loopg [8] k (fun kq v8 w' => ∃ (x8_1 : Int), v8 = .int .i64 x8_1 ∧ Aside0 (slices_IndexFunc_int_int_dom_in_1.l0 kq l0 (l0.length : Int) x8_1 l1 = some r) ∧ Aside0 (kq ≤ k) ∧ Drawn0 w w')
 case atStart => exact ⟨(0), (by first | rfl | (simp; done) | (simp [*]; done)), H', ⟨Nat.le_refl _⟩, by repeat (first | exact Drawn0.refl _ | apply Drawn0.step)⟩
 case round =>
  clear H'
  obtain ⟨x8_1, rfl, HA, HK1, ⟨m1, rfl⟩⟩ := hrel
  cases gk with
  | zero => exact absurd HA.out (by simp [slices_IndexFunc_int_int_dom_in_1.l0])
  | succ k1 =>
   have H := HA.out
   clear HA
   simp only [slices_IndexFunc_int_int_dom_in_1.l0] at H
   by_cases c3 : x8_1 < (l0.length : Int)
   ·rw [if_pos c3] at H
    have c3b0 : decide (x8_1 < (l0.length : Int)) = true := decide_eq_true c3
    clear c3
    by_cases c4 : 0 ≤ x8_1
    ·rw [if_pos c4] at H
     have c4b0 : decide (0 ≤ x8_1) = true := decide_eq_true c4
     clear c4
     by_cases c5 : x8_1 < (l0.length : Int)
     ·rw [if_pos c5] at H
      have c5b0 : decide (x8_1 < (l0.length : Int)) = true := decide_eq_true c5
      clear c5
      replace H := Option.bind_eq_some_iff.mp H
      obtain ⟨t124, A60, H⟩ := H
      try dsimp only at H
      have A6 := Aside0.mk A60
      clear A60
      by_cases c7 : t124 = true
      ·subst c7
       have H1 : (some x8_1) = some r := by rw [if_pos rfl] at H; exact H
       clear H
       have H := H1
       clear H1
       obtain rfl := Option.some.inj H
       have p123 : 0 ≤ (x8_1 : Int) := D_
       have q123 : x8_1 < (l0.length : Int) := D_
       obtain ⟨ad123, e123, hx123_0⟩ := Kd.at_int HR0.out x8_1 p123 q123
       cases e123
       replace p123 := eq_true p123
       replace q123 := eq_true q123
       go_wp2_with (first | (go_at_call 59; (with_reducible refine (dom_in_1.calls k1 (rd l0 x8_1) g1_ A1 c1 l1 true _ ?side1 ?side2 ?side3 A6.out).mono ?_); (case side1 => exact CX_ HR1.out); (case side2 => exact HC1.out); (case side3 => exact (by first | exact hcb1 | simpa using hcb1)); rintro e w' ⟨rfl, ⟨nd, rfl⟩⟩))
       go_ret
       exact ⟨by first | rfl | (simp; done) | (simp [*]; done), by repeat (first | exact Drawn0.refl _ | apply Drawn0.step)⟩
      replace c7 := Bool.eq_false_iff.mpr c7
      subst c7
      have H1 : (slices_IndexFunc_int_int_dom_in_1.l0 k1 l0 (l0.length : Int) (wrap64 (x8_1 + 1)) l1) = some r := by rw [if_neg (show ¬ (false = true) by decide)] at H; exact H
      clear H
      have H := H1
      clear H1
      have H' := Aside0.mk H
      clear H
      have p123 : 0 ≤ (x8_1 : Int) := D_
      have q123 : x8_1 < (l0.length : Int) := D_
      obtain ⟨ad123, e123, hx123_0⟩ := Kd.at_int HR0.out x8_1 p123 q123
      cases e123
      replace p123 := eq_true p123
      replace q123 := eq_true q123
      go_wp2_with (first | (go_at_call 59; (with_reducible refine (dom_in_1.calls k1 (rd l0 x8_1) g1_ A1 c1 l1 false _ ?side1 ?side2 ?side3 A6.out).mono ?_); (case side1 => exact CX_ HR1.out); (case side2 => exact HC1.out); (case side3 => exact (by first | exact hcb1 | simpa using hcb1)); rintro e w' ⟨rfl, ⟨nd, rfl⟩⟩))
      go_roundg k1
      case measure => have := HK1.out; omega
      case rel => exact ⟨(wrap64 (x8_1 + 1)), (by first | rfl | (simp; done) | (simp [*]; done)), H', ⟨by have := HK1.out; omega⟩, by repeat (first | exact Drawn0.refl _ | apply Drawn0.step)⟩
     rw [if_neg c5] at H
     exact absurd H (by simp)
    rw [if_neg c4] at H
    exact absurd H (by simp)
   rw [if_neg c3] at H
   have c3b0 : decide (x8_1 < (l0.length : Int)) = false := decide_eq_false c3
   clear c3
   obtain rfl := Option.some.inj H
   go_wp2
   go_ret
   exact ⟨by first | rfl | (simp; done) | (simp [*]; done), by repeat (first | exact Drawn0.refl _ | apply Drawn0.step)⟩

def slices_ContainsFunc_int_int_dom_in_1.f (k : Nat) (l0 : List Int) (l1 : List Int) : Option (Bool) := (slices_IndexFunc_int_int_dom_in_1.f k l0 l1).bind fun t125 => (some (decide (t125 ≥ 0)))
theorem slices_ContainsFunc_int_int_dom_in_1.mono : ∀ a0 a1 k, LeO (slices_ContainsFunc_int_int_dom_in_1.f k a0 a1) (slices_ContainsFunc_int_int_dom_in_1.f (k + 1) a0 a1) := by
 intro a0 a1 k
 unfold slices_ContainsFunc_int_int_dom_in_1.f
 exact LeO.bind (slices_IndexFunc_int_int_dom_in_1.mono _ _ _) (fun _ => LeO.refl _)
set_option maxHeartbeats 8000000 in
set_option maxRecDepth 100000 in
theorem slices_ContainsFunc_int_int_dom_in_1.calls (k : Nat) (A0 : Option Addr) (c0 : Nat) (l0 : List Int) (g1_ : Nat) (A1 : Option Addr) (c1 : Nat) (l1 : List Int) (r : Bool) (w : World) (hr0 : Kd.C (Kd.int .i64) w A0 l0.length l0) (hc0 : l0.length ≤ c0) (hr1 : Kd.C (Kd.int .i64) w A1 l1.length l1) (hc1 : l1.length ≤ c1) (hcb1 : w.cell? ⟨g1_, 0, none⟩ = some (.slice A1 l1.length c1)) (h : slices_ContainsFunc_int_int_dom_in_1.f k l0 l1 = some r) :
 Calls Try.prog 58 #[.slice A0 l0.length c0, .func (.func 59) #[] #[.pointer (some ⟨g1_, 0, none⟩)]] w fun e w' => e = .returned (.bool r) ∧ Drawn0 w w' := by
 have HR0 := Aside0.mk hr0
 have HC0 := Aside0.mk hc0
 have HR1 := Aside0.mk hr1
 have HC1 := Aside0.mk hc1
 clear hr0 hc0 hr1 hc1
 have H : ((slices_IndexFunc_int_int_dom_in_1.f k l0 l1).bind fun t125 => (some (decide (t125 ≥ 0)))) = some r := h
 clear h
 replace H := Option.bind_eq_some_iff.mp H
 obtain ⟨t125, A30, H⟩ := H
 try dsimp only at H
 have A3 := Aside0.mk A30
 clear A30
 obtain rfl := Option.some.inj H
 go_enter Try.func58, Try.ntmps58
 go_wp2_with (first | (go_at_call 85; (with_reducible refine (slices_IndexFunc_int_int_dom_in_1.calls k _ _ l0 g1_ A1 c1 l1 t125 _ ?side1 ?side2 ?side3 ?side4 ?side5 A3.out).mono ?_); (case side1 => exact CX_ HR0.out); (case side2 => exact HC0.out); (case side3 => exact CX_ HR1.out); (case side4 => exact HC1.out); (case side5 => exact (by first | exact hcb1 | simpa using hcb1)); rintro e w' ⟨rfl, ⟨nd, rfl⟩⟩))
 go_ret
 exact ⟨by first | rfl | (simp; done) | (simp [*]; done), by repeat (first | exact Drawn0.refl _ | apply Drawn0.step)⟩

def dom_in.f (k : Nat) (l0 : List Int) (l1 : List Int) : Option (Bool) := (dom_right.f k l0).bind fun t => if t = true then (slices_ContainsFunc_int_int_dom_in_1.f k l1 l0).bind fun u => some (!u) else some false
theorem dom_in.mono : ∀ a0 a1 k, LeO (dom_in.f k a0 a1) (dom_in.f (k + 1) a0 a1) := by
 intro a0 a1 k
 unfold dom_in.f
 exact LeO.bind (dom_right.mono _ _) (fun _ => LeO.ite (LeO.bind (slices_ContainsFunc_int_int_dom_in_1.mono _ _ _) (fun _ => LeO.refl _)) (LeO.refl _))
set_option maxHeartbeats 8000000 in
set_option maxRecDepth 100000 in
theorem dom_in.calls (k : Nat) (A0 : Option Addr) (c0 : Nat) (l0 : List Int) (A1 : Option Addr) (c1 : Nat) (l1 : List Int) (r : Bool) (w : World) (hr0 : Kd.C (Kd.int .i64) w A0 l0.length l0) (hc0 : l0.length ≤ c0) (hr1 : Kd.C (Kd.int .i64) w A1 l1.length l1) (hc1 : l1.length ≤ c1) (h : dom_in.f k l0 l1 = some r) :
 Calls Try.prog 39 #[.slice A0 l0.length c0, .slice A1 l1.length c1] w fun e w' => e = .returned (.bool r) ∧ Below w.heap.size w w' := by
 have HR0 := Aside0.mk hr0
 have HC0 := Aside0.mk hc0
 have HR1 := Aside0.mk hr1
 have HC1 := Aside0.mk hc1
 clear hr0 hc0 hr1 hc1
 have HB := A_ (Below.refl w.heap.size w)
 have H : ((dom_right.f k l0).bind fun t => if t = true then (slices_ContainsFunc_int_int_dom_in_1.f k l1 l0).bind fun u => some (!u) else some false) = some r := h
 clear h
 replace H := Option.bind_eq_some_iff.mp H
 obtain ⟨t1, A1_, H⟩ := H
 have A3 := Aside0.mk A1_
 clear A1_
 go_enter Try.func39, Try.ntmps39
 go_upto_region 1 with (first | ((with_reducible refine gate_dst (N := 2) rfl ?_); refine box_event ?hg (N := 2) ?hd (cs := #[.slice A0 l0.length c0]) (t := 31) ?hr ?_; (case hd => rfl); (case hg => rfl); (case hr => first | (go_simp; done) | (go_simp; rfl)); intro gb hg w3 hbox hb; replace HB := A_ (below_step (B_) hb); have BK := A_ (hbox); clear hb hbox hg))
 have hcz : w3.cell? ⟨gb, 0, none⟩ = some (.slice A0 l0.length c0) := (blk_cell BK.out 0).trans rfl
 have hr0 := Kd.C_below HR0.out HB.out
 have hr1 := Kd.C_below HR1.out HB.out
 have HR0' := Aside0.mk hr0
 have HR1' := Aside0.mk hr1
 clear hr0 hr1
 by_cases c7 : t1 = true
 ·subst c7
  replace H : ((slices_ContainsFunc_int_int_dom_in_1.f k l1 l0).bind fun u => some (!u)) = some r := by rw [if_pos rfl] at H; exact H
  replace H := Option.bind_eq_some_iff.mp H
  obtain ⟨u1, A2_, H⟩ := H
  have A4 := Aside0.mk A2_
  clear A2_
  obtain rfl := Option.some.inj H
  clear H
  go_wp2_with (first | (go_at_call 57; (with_reducible refine (dom_right.calls k _ _ l0 true _ ?side1 ?side2 A3.out).mono ?_); (case side1 => repeat (first | exact HR0'.out | (with_reducible refine Kd.C_alloc ?_ _) | (with_reducible refine Kd.C_drewN ?_ _) | (with_reducible refine Kd.C_drew ?_))); (case side2 => exact HC0.out); rintro e w' ⟨rfl, ⟨nd, rfl⟩⟩) | (go_at_call 58; (with_reducible refine (slices_ContainsFunc_int_int_dom_in_1.calls k _ _ l1 gb A0 c0 l0 u1 _ ?side1 ?side2 ?side3 ?side4 ?side5 A4.out).mono ?_); (case side1 => repeat (first | exact HR1'.out | (with_reducible refine Kd.C_alloc ?_ _) | (with_reducible refine Kd.C_drewN ?_ _) | (with_reducible refine Kd.C_drew ?_))); (case side2 => exact HC1.out); (case side3 => repeat (first | exact HR0'.out | (with_reducible refine Kd.C_alloc ?_ _) | (with_reducible refine Kd.C_drewN ?_ _) | (with_reducible refine Kd.C_drew ?_))); (case side4 => exact HC0.out); (case side5 => exact (by first | exact hcz | simpa using hcz)); rintro e w' ⟨rfl, ⟨nd, rfl⟩⟩))
  go_ret
  exact ⟨by first | rfl | (simp; done) | (simp [*]; done), B_⟩
 replace c7 := Bool.eq_false_iff.mpr c7
 subst c7
 replace H : some false = some r := by rw [if_neg (show ¬ (false = true) by decide)] at H; exact H
 obtain rfl := Option.some.inj H
 clear H
 go_wp2_with (first | (go_at_call 57; (with_reducible refine (dom_right.calls k _ _ l0 false _ ?side1 ?side2 A3.out).mono ?_); (case side1 => repeat (first | exact HR0'.out | (with_reducible refine Kd.C_alloc ?_ _) | (with_reducible refine Kd.C_drewN ?_ _) | (with_reducible refine Kd.C_drew ?_))); (case side2 => exact HC0.out); rintro e w' ⟨rfl, ⟨nd, rfl⟩⟩))
 go_ret
 exact ⟨by first | rfl | (simp; done) | (simp [*]; done), B_⟩


/-! ### dom_Meet: function 40 -/
def dom_Meet.l0 : Nat → List Int → Int → Int → Option (Int)
 | 0, _, _, _ => none
 | k + 1, x0, x1, x2 => if x1 = x2 then (some x1) else ((dom_depth.f k x0 x1).bind fun t331 => ((dom_depth.f k x0 x2).bind fun t332 => (if t331 ≥ t332 then (if 0 ≤ x1 then (if x1 < (x0.length : Int) then (dom_Meet.l0 k x0 (rd x0 x1) x2) else (none)) else (none)) else (if 0 ≤ x2 then (if x2 < (x0.length : Int) then (dom_Meet.l0 k x0 x1 (rd x0 x2)) else (none)) else (none)))))
def dom_Meet.f (k : Nat) (l0 : List Int) (a1 : Int) (a2 : Int) : Option (Int) := (dom_in.f k l0 (([a1, a2] : List Int))).bind fun t330 => (if t330 = true then (dom_Meet.l0 k l0 a1 a2) else (some (-2)))
theorem dom_Meet.mono_l : ∀ k, (∀ y0 y1 y2, LeO (dom_Meet.l0 k y0 y1 y2) (dom_Meet.l0 (k + 1) y0 y1 y2))
 | 0 => fun _ _ _ r h => by simp [dom_Meet.l0] at h
 | k + 1 => by
  have ih0 := dom_Meet.mono_l k
  ·intro y0 y1 y2
   unfold dom_Meet.l0
   repeat' (with_reducible first | exact ih0 _ _ _ | exact dom_depth.mono _ _ _ | exact dom_in.mono _ _ _ | exact LeO.refl _ | exact LeO.none _ | refine LeO.ite ?_ ?_ | refine LeO.bind ?_ (fun _ => ?_))
theorem dom_Meet.mono : ∀ a0 a1 a2 k, LeO (dom_Meet.f k a0 a1 a2) (dom_Meet.f (k + 1) a0 a1 a2) := by
 intro a0 a1 a2 k
 have ih0 := dom_Meet.mono_l k
 unfold dom_Meet.f
 repeat' (with_reducible first | exact ih0 _ _ _ | exact dom_depth.mono _ _ _ | exact dom_in.mono _ _ _ | exact LeO.refl _ | exact LeO.none _ | refine LeO.ite ?_ ?_ | refine LeO.bind ?_ (fun _ => ?_))
set_option maxHeartbeats 8000000 in
set_option maxRecDepth 100000 in
theorem dom_Meet.calls (k : Nat) (A0 : Option Addr) (c0 : Nat) (l0 : List Int) (a1 : Int) (a2 : Int) (r : Int) (w : World) (hr0 : Kd.C (Kd.int .i64) w A0 l0.length l0) (hc0 : l0.length ≤ c0) (h : dom_Meet.f k l0 a1 a2 = some r) :
 Calls Try.prog 40 #[.slice A0 l0.length c0, .int .i64 a1, .int .i64 a2] w fun e w' => e = .returned (.int .i64 r) ∧ Below w.heap.size w w' := by
 have HR0 := Aside0.mk hr0
 have HC0 := Aside0.mk hc0
 clear hr0 hc0
 have HB := A_ (Below.refl w.heap.size w)
 have H : ((dom_in.f k l0 (([a1, a2] : List Int))).bind fun t330 => (if t330 = true then (dom_Meet.l0 k l0 a1 a2) else (some (-2)))) = some r := h
 clear h
 obtain ⟨y327, hy327⟩ : ∃ y_ : List Int, y_ = (([a1, a2] : List Int)) := ⟨_, rfl⟩
 replace H : ((dom_in.f k l0 y327).bind fun t330 => (if t330 = true then (dom_Meet.l0 k l0 a1 a2) else (some (-2)))) = some r := by first | (rw [hy327]; with_reducible exact H) | (have H2_ := (Option.bind_some _ _).symm.trans H; rw [hy327]; with_reducible exact H2_) | (have H2_ := (Option.bind_some _ _).symm.trans H; with_reducible exact H2_) | with_reducible exact H | (rw [hy327]; exact H) | exact H
 have Ny327 := Aside0.mk hy327
 clear hy327
 replace H := Option.bind_eq_some_iff.mp H
 obtain ⟨t330, A40, H⟩ := H
 try dsimp only at H
 have A4 := Aside0.mk A40
 clear A40
 by_cases c5 : t330 = true
 ·subst c5
  have H1 : (dom_Meet.l0 k l0 a1 a2) = some r := by rw [if_pos rfl] at H; exact H
  clear H
  have H := H1
  clear H1
  have H' := Aside0.mk H
  clear H
  go_enter Try.func40, Try.ntmps40
  go_wp2_with (first | ((with_reducible refine gate_dst (N := 10) rfl ?_); refine Kd.R_lit (Kd.int .i64) _ 3 ?hg (N := 10) ?hd (xs := ([a1, a2] : List Int)) (inner := [.int .i64 a1, .int .i64 a2]) (ok := fun _ => True) (okp := fun _ => True) ?hr ?hp (fun _ hk => hk) trivial (Below.refl _ _) (Nat.le_refl _) (by simp) ?_; (case hd => rfl); (case hg => rfl); (case hr => first | (go_simp; done) | (go_simp; rfl)); (case hp => exact (Reps.one (show Kd.M (Kd.int .i64) _ _ _ a1 [.int .i64 a1] from rfl) (Reps.one (show Kd.M (Kd.int .i64) _ _ _ a2 [.int .i64 a2] from rfl) (Reps.none _ _)))); intro v328 w6 ho7 hb hg_ hnew_; clear hg_ hnew_; (first | rw [← Ny327.out] at ho7 | (simp only [Int.reduceToNat] at ho7; rw [← Ny327.out] at ho7)); have HO329 := A_ (Kd.R_lower ho7 (below_size (B_))); replace HB := A_ (below_step (B_) hb); clear hb ho7; obtain ⟨Ao8, co8, eo8⟩ := Kd.R_slice HO329.out; subst eo8) | ((with_reducible refine gate_callee (f := 39) rfl ?_); refine goesL_ (some 11) rfl rfl Try.func39 (by kernel_rfl) rfl #[.slice A0 l0.length c0, .slice Ao8 y327.length co8] rfl (by (try simp only [List.map_toArray, List.map_cons, List.map_nil]); first | done | rfl | (simp only [List.length_drop, List.length_take]; rfl)) ?_; (with_reducible refine (dom_in.calls k _ _ l0 _ _ y327 true _ ?side1 ?side2 ?side3 ?side4 A4.out).mono ?_); (case side1 => exact CX_ (Kd.C_below HR0.out HB.out)); (case side2 => exact HC0.out); (case side3 => repeat (first | exact (Kd.R_reads' HO329.out).2.2 | (with_reducible refine Kd.C_alloc ?_ _) | (with_reducible refine Kd.C_drewN ?_ _) | (with_reducible refine Kd.C_drew ?_))); (case side4 => exact (Kd.R_reads' HO329.out).2.1); rintro e w9 ⟨rfl, hb⟩; refine ⟨_, rfl, ?_⟩; replace HO329 := A_ (Kd.R_below (by exact RX_ HO329.out) hb); replace HB := A_ (below_step (B_) hb); (try clear hb); (try clear hb2); (try clear hk); (try clear hi)))
  go_loopg [1, 2] k (fun kq v1 v2 w' => ∃ (x1_1 : Int) (x2_1 : Int), v1 = .int .i64 x1_1 ∧ v2 = .int .i64 x2_1 ∧ Aside0 (dom_Meet.l0 kq l0 x1_1 x2_1 = some r) ∧ Aside0 (kq ≤ k) ∧ Aside0 (Below w.heap.size w w'))
  case atStart => exact ⟨(a1), (a2), (by first | rfl | (simp; done) | (simp [*]; done)), (by first | rfl | (simp; done) | (simp [*]; done)), H', ⟨Nat.le_refl _⟩, ⟨B_⟩⟩
  case round =>
   clear H'
   try clear c5
   obtain ⟨x1_1, x2_1, rfl, rfl, HA, HK1, HB⟩ := hrel
   cases gk with
   | zero => exact absurd HA.out (by simp [dom_Meet.l0])
   | succ k1 =>
    have H := HA.out
    clear HA
    simp only [dom_Meet.l0] at H
    by_cases c10 : x1_1 = x2_1
    ·rw [if_pos c10] at H
     have c10b0 : (x1_1 == x2_1) = true := beq_iff_eq.mpr c10
     have c10b1 : (x1_1 != x2_1) = false := bne_eq_false_iff_eq.mpr c10
     clear c10
     obtain rfl := Option.some.inj H
     go_wp2
     go_ret
     exact ⟨by first | rfl | (simp [errW_none, errW_some] <;> rfl) | (simp [*, errW_none, errW_some] <;> rfl), B_⟩
    rw [if_neg c10] at H
    have c10b0 : (x1_1 == x2_1) = false := beq_eq_false_iff_ne.mpr c10
    have c10b1 : (x1_1 != x2_1) = true := bne_iff_ne.mpr c10
    replace H := Option.bind_eq_some_iff.mp H
    obtain ⟨t331, A110, H⟩ := H
    try dsimp only at H
    have A11 := Aside0.mk A110
    clear A110
    replace H := Option.bind_eq_some_iff.mp H
    obtain ⟨t332, A120, H⟩ := H
    try dsimp only at H
    have A12 := Aside0.mk A120
    clear A120
    by_cases c13 : t331 ≥ t332
    ·rw [if_pos c13] at H
     have c13b0 : decide (t332 ≤ t331) = true := decide_eq_true c13
     clear c13
     by_cases c14 : 0 ≤ x1_1
     ·rw [if_pos c14] at H
      have c14b0 : decide (0 ≤ x1_1) = true := decide_eq_true c14
      clear c14
      by_cases c15 : x1_1 < (l0.length : Int)
      ·rw [if_pos c15] at H
       have c15b0 : decide (x1_1 < (l0.length : Int)) = true := decide_eq_true c15
       clear c15
       have H' := Aside0.mk H
       clear H
       go_wp2_with (first | ((with_reducible refine gate_callee (f := 60) rfl ?_); refine goesL_ (some 18) rfl rfl Try.func60 (by kernel_rfl) rfl #[.slice A0 l0.length c0, .int .i64 x1_1] rfl (by (try simp only [List.map_toArray, List.map_cons, List.map_nil]); first | done | rfl | (simp only [List.length_drop, List.length_take]; rfl)) ?_; (with_reducible refine (dom_depth.calls k1 _ _ l0 x1_1 t331 _ ?side1 ?side2 A11.out).mono ?_); (case side1 => exact CX_ (Kd.C_below HR0.out HB.out)); (case side2 => exact HC0.out); rintro e w' ⟨rfl, ⟨nd, rfl⟩⟩; refine ⟨_, rfl, ?_⟩) | ((with_reducible refine gate_callee (f := 60) rfl ?_); refine goesL_ (some 21) rfl rfl Try.func60 (by kernel_rfl) rfl #[.slice A0 l0.length c0, .int .i64 x2_1] rfl (by (try simp only [List.map_toArray, List.map_cons, List.map_nil]); first | done | rfl | (simp only [List.length_drop, List.length_take]; rfl)) ?_; (with_reducible refine (dom_depth.calls k1 _ _ l0 x2_1 t332 _ ?side1 ?side2 A12.out).mono ?_); (case side1 => repeat (first | exact (Kd.C_below HR0.out (B_)) | (with_reducible refine Kd.C_alloc ?_ _) | (with_reducible refine Kd.C_drewN ?_ _) | (with_reducible refine Kd.C_drew ?_))); (case side2 => exact HC0.out); rintro e w' ⟨rfl, ⟨nd, rfl⟩⟩; refine ⟨_, rfl, ?_⟩; have p333 : 0 ≤ (x1_1 : Int) := D_; have q333 : x1_1 < (l0.length : Int) := D_; obtain ⟨ad333, e333, hx333_0⟩ := Kd.at_int HR0.out x1_1 p333 q333; cases e333; replace hx333_0 := (HB.out.cell (World.block_lt_of_cell? w _ hx333_0)).trans hx333_0; replace p333 := eq_true p333; replace q333 := eq_true q333))
       go_roundg k1
       case measure => have := HK1.out; omega
       case rel => exact ⟨(rd l0 x1_1), (x2_1), (by first | rfl | (simp; done) | (simp [*]; done)), (by first | rfl | (simp; done) | (simp [*]; done)), H', ⟨by have := HK1.out; omega⟩, ⟨B_⟩⟩
      rw [if_neg c15] at H
      exact absurd H (by simp)
     rw [if_neg c14] at H
     exact absurd H (by simp)
    rw [if_neg c13] at H
    have c13b0 : decide (t332 ≤ t331) = false := decide_eq_false c13
    clear c13
    by_cases c16 : 0 ≤ x2_1
    ·rw [if_pos c16] at H
     have c16b0 : decide (0 ≤ x2_1) = true := decide_eq_true c16
     clear c16
     by_cases c17 : x2_1 < (l0.length : Int)
     ·rw [if_pos c17] at H
      have c17b0 : decide (x2_1 < (l0.length : Int)) = true := decide_eq_true c17
      clear c17
      have H' := Aside0.mk H
      clear H
      go_wp2_with (first | ((with_reducible refine gate_callee (f := 60) rfl ?_); refine goesL_ (some 18) rfl rfl Try.func60 (by kernel_rfl) rfl #[.slice A0 l0.length c0, .int .i64 x1_1] rfl (by (try simp only [List.map_toArray, List.map_cons, List.map_nil]); first | done | rfl | (simp only [List.length_drop, List.length_take]; rfl)) ?_; (with_reducible refine (dom_depth.calls k1 _ _ l0 x1_1 t331 _ ?side1 ?side2 A11.out).mono ?_); (case side1 => exact CX_ (Kd.C_below HR0.out HB.out)); (case side2 => exact HC0.out); rintro e w' ⟨rfl, ⟨nd, rfl⟩⟩; refine ⟨_, rfl, ?_⟩) | ((with_reducible refine gate_callee (f := 60) rfl ?_); refine goesL_ (some 21) rfl rfl Try.func60 (by kernel_rfl) rfl #[.slice A0 l0.length c0, .int .i64 x2_1] rfl (by (try simp only [List.map_toArray, List.map_cons, List.map_nil]); first | done | rfl | (simp only [List.length_drop, List.length_take]; rfl)) ?_; (with_reducible refine (dom_depth.calls k1 _ _ l0 x2_1 t332 _ ?side1 ?side2 A12.out).mono ?_); (case side1 => repeat (first | exact (Kd.C_below HR0.out (B_)) | (with_reducible refine Kd.C_alloc ?_ _) | (with_reducible refine Kd.C_drewN ?_ _) | (with_reducible refine Kd.C_drew ?_))); (case side2 => exact HC0.out); rintro e w' ⟨rfl, ⟨nd, rfl⟩⟩; refine ⟨_, rfl, ?_⟩; have p334 : 0 ≤ (x2_1 : Int) := D_; have q334 : x2_1 < (l0.length : Int) := D_; obtain ⟨ad334, e334, hx334_0⟩ := Kd.at_int HR0.out x2_1 p334 q334; cases e334; replace hx334_0 := (HB.out.cell (World.block_lt_of_cell? w _ hx334_0)).trans hx334_0; replace p334 := eq_true p334; replace q334 := eq_true q334))
      go_roundg k1
      case measure => have := HK1.out; omega
      case rel => exact ⟨(x1_1), (rd l0 x2_1), (by first | rfl | (simp; done) | (simp [*]; done)), (by first | rfl | (simp; done) | (simp [*]; done)), H', ⟨by have := HK1.out; omega⟩, ⟨B_⟩⟩
     rw [if_neg c17] at H
     exact absurd H (by simp)
    rw [if_neg c16] at H
    exact absurd H (by simp)
 replace c5 := Bool.eq_false_iff.mpr c5
 subst c5
 have H1 : (some (-2)) = some r := by rw [if_neg (show ¬ (false = true) by decide)] at H; exact H
 clear H
 have H := H1
 clear H1
 obtain rfl := Option.some.inj H
 go_enter Try.func40, Try.ntmps40
 go_wp2_with (first | ((with_reducible refine gate_dst (N := 10) rfl ?_); refine Kd.R_lit (Kd.int .i64) _ 3 ?hg (N := 10) ?hd (xs := ([a1, a2] : List Int)) (inner := [.int .i64 a1, .int .i64 a2]) (ok := fun _ => True) (okp := fun _ => True) ?hr ?hp (fun _ hk => hk) trivial (Below.refl _ _) (Nat.le_refl _) (by simp) ?_; (case hd => rfl); (case hg => rfl); (case hr => first | (go_simp; done) | (go_simp; rfl)); (case hp => exact (Reps.one (show Kd.M (Kd.int .i64) _ _ _ a1 [.int .i64 a1] from rfl) (Reps.one (show Kd.M (Kd.int .i64) _ _ _ a2 [.int .i64 a2] from rfl) (Reps.none _ _)))); intro v328 w18 ho19 hb hg_ hnew_; clear hg_ hnew_; (first | rw [← Ny327.out] at ho19 | (simp only [Int.reduceToNat] at ho19; rw [← Ny327.out] at ho19)); have HO329 := A_ (Kd.R_lower ho19 (below_size (B_))); replace HB := A_ (below_step (B_) hb); clear hb ho19; obtain ⟨Ao20, co20, eo20⟩ := Kd.R_slice HO329.out; subst eo20) | ((with_reducible refine gate_callee (f := 39) rfl ?_); refine goesL_ (some 11) rfl rfl Try.func39 (by kernel_rfl) rfl #[.slice A0 l0.length c0, .slice Ao20 y327.length co20] rfl (by (try simp only [List.map_toArray, List.map_cons, List.map_nil]); first | done | rfl | (simp only [List.length_drop, List.length_take]; rfl)) ?_; (with_reducible refine (dom_in.calls k _ _ l0 _ _ y327 false _ ?side1 ?side2 ?side3 ?side4 A4.out).mono ?_); (case side1 => exact CX_ (Kd.C_below HR0.out HB.out)); (case side2 => exact HC0.out); (case side3 => repeat (first | exact (Kd.R_reads' HO329.out).2.2 | (with_reducible refine Kd.C_alloc ?_ _) | (with_reducible refine Kd.C_drewN ?_ _) | (with_reducible refine Kd.C_drew ?_))); (case side4 => exact (Kd.R_reads' HO329.out).2.1); rintro e w21 ⟨rfl, hb⟩; refine ⟨_, rfl, ?_⟩; replace HO329 := A_ (Kd.R_below (by exact RX_ HO329.out) hb); replace HB := A_ (below_step (B_) hb); (try clear hb); (try clear hb2); (try clear hk); (try clear hi)))
 go_ret
 exact ⟨by first | rfl | (simp [errW_none, errW_some] <;> rfl) | (simp [*, errW_none, errW_some] <;> rfl), B_⟩


/-! ### dom_Over: function 20 -/
def dom_Over.f (k : Nat) (l0 : List Int) (a1 : Int) (a2 : Int) : Option (Bool) := (dom_in.f k l0 (([a1, a2] : List Int))).bind fun t338 => (if t338 = true then ((dom_Meet.f k l0 a1 a2).bind fun t339 => (some (t339 == a1))) else (some false))
theorem dom_Over.mono : ∀ a0 a1 a2 k, LeO (dom_Over.f k a0 a1 a2) (dom_Over.f (k + 1) a0 a1 a2) := by
 intro a0 a1 a2 k
 unfold dom_Over.f
 repeat' (with_reducible first | exact dom_Meet.mono _ _ _ _ | exact dom_in.mono _ _ _ | exact LeO.refl _ | exact LeO.none _ | refine LeO.ite ?_ ?_ | refine LeO.bind ?_ (fun _ => ?_))
set_option maxHeartbeats 8000000 in
set_option maxRecDepth 100000 in
theorem dom_Over.calls (k : Nat) (A0 : Option Addr) (c0 : Nat) (l0 : List Int) (a1 : Int) (a2 : Int) (r : Bool) (w : World) (hr0 : Kd.C (Kd.int .i64) w A0 l0.length l0) (hc0 : l0.length ≤ c0) (h : dom_Over.f k l0 a1 a2 = some r) :
 Calls Try.prog 20 #[.slice A0 l0.length c0, .int .i64 a1, .int .i64 a2] w fun e w' => e = .returned (.bool r) ∧ Below w.heap.size w w' := by
 have HR0 := Aside0.mk hr0
 have HC0 := Aside0.mk hc0
 clear hr0 hc0
 have HB := A_ (Below.refl w.heap.size w)
 have H : ((dom_in.f k l0 (([a1, a2] : List Int))).bind fun t338 => (if t338 = true then ((dom_Meet.f k l0 a1 a2).bind fun t339 => (some (t339 == a1))) else (some false))) = some r := h
 clear h
 obtain ⟨y335, hy335⟩ : ∃ y_ : List Int, y_ = (([a1, a2] : List Int)) := ⟨_, rfl⟩
 replace H : ((dom_in.f k l0 y335).bind fun t338 => (if t338 = true then ((dom_Meet.f k l0 a1 a2).bind fun t339 => (some (t339 == a1))) else (some false))) = some r := by first | (rw [hy335]; with_reducible exact H) | (have H2_ := (Option.bind_some _ _).symm.trans H; rw [hy335]; with_reducible exact H2_) | (have H2_ := (Option.bind_some _ _).symm.trans H; with_reducible exact H2_) | with_reducible exact H | (rw [hy335]; exact H) | exact H
 have Ny335 := Aside0.mk hy335
 clear hy335
 replace H := Option.bind_eq_some_iff.mp H
 obtain ⟨t338, A40, H⟩ := H
 try dsimp only at H
 have A4 := Aside0.mk A40
 clear A40
 by_cases c5 : t338 = true
 ·subst c5
  have H1 : ((dom_Meet.f k l0 a1 a2).bind fun t339 => (some (t339 == a1))) = some r := by rw [if_pos rfl] at H; exact H
  clear H
  have H := H1
  clear H1
  replace H := Option.bind_eq_some_iff.mp H
  obtain ⟨t339, A60, H⟩ := H
  try dsimp only at H
  have A6 := Aside0.mk A60
  clear A60
  obtain rfl := Option.some.inj H
  go_enter Try.func20, Try.ntmps20
  go_wp2_with (first | ((with_reducible refine gate_dst (N := 10) rfl ?_); refine Kd.R_lit (Kd.int .i64) _ 3 ?hg (N := 10) ?hd (xs := ([a1, a2] : List Int)) (inner := [.int .i64 a1, .int .i64 a2]) (ok := fun _ => True) (okp := fun _ => True) ?hr ?hp (fun _ hk => hk) trivial (Below.refl _ _) (Nat.le_refl _) (by simp) ?_; (case hd => rfl); (case hg => rfl); (case hr => first | (go_simp; done) | (go_simp; rfl)); (case hp => exact (Reps.one (show Kd.M (Kd.int .i64) _ _ _ a1 [.int .i64 a1] from rfl) (Reps.one (show Kd.M (Kd.int .i64) _ _ _ a2 [.int .i64 a2] from rfl) (Reps.none _ _)))); intro v336 w7 ho8 hb hg_ hnew_; clear hg_ hnew_; (first | rw [← Ny335.out] at ho8 | (simp only [Int.reduceToNat] at ho8; rw [← Ny335.out] at ho8)); have HO337 := A_ (Kd.R_lower ho8 (below_size (B_))); replace HB := A_ (below_step (B_) hb); clear hb ho8; obtain ⟨Ao9, co9, eo9⟩ := Kd.R_slice HO337.out; subst eo9) | ((with_reducible refine gate_callee (f := 39) rfl ?_); refine goesL_ (some 11) rfl rfl Try.func39 (by kernel_rfl) rfl #[.slice A0 l0.length c0, .slice Ao9 y335.length co9] rfl (by (try simp only [List.map_toArray, List.map_cons, List.map_nil]); first | done | rfl | (simp only [List.length_drop, List.length_take]; rfl)) ?_; (with_reducible refine (dom_in.calls k _ _ l0 _ _ y335 true _ ?side1 ?side2 ?side3 ?side4 A4.out).mono ?_); (case side1 => exact CX_ (Kd.C_below HR0.out HB.out)); (case side2 => exact HC0.out); (case side3 => repeat (first | exact (Kd.R_reads' HO337.out).2.2 | (with_reducible refine Kd.C_alloc ?_ _) | (with_reducible refine Kd.C_drewN ?_ _) | (with_reducible refine Kd.C_drew ?_))); (case side4 => exact (Kd.R_reads' HO337.out).2.1); rintro e w10 ⟨rfl, hb⟩; refine ⟨_, rfl, ?_⟩; replace HO337 := A_ (Kd.R_below (by exact RX_ HO337.out) hb); replace HB := A_ (below_step (B_) hb); (try clear hb); (try clear hb2); (try clear hk); (try clear hi)) | (go_at_call 40; (with_reducible refine (dom_Meet.calls k _ _ l0 a1 a2 t339 _ ?side1 ?side2 A6.out).mono ?_); (case side1 => exact CX_ (Kd.C_below HR0.out HB.out)); (case side2 => exact HC0.out); rintro e w11 ⟨rfl, hb⟩; replace HO337 := A_ (Kd.R_below (by exact RX_ HO337.out) hb); replace HB := A_ (below_step (B_) hb); (try clear hb); (try clear hb2); (try clear hk); (try clear hi)))
  go_ret
  exact ⟨by first | rfl | (simp [errW_none, errW_some] <;> rfl) | (simp [*, errW_none, errW_some] <;> rfl), B_⟩
 replace c5 := Bool.eq_false_iff.mpr c5
 subst c5
 have H1 : (some false) = some r := by rw [if_neg (show ¬ (false = true) by decide)] at H; exact H
 clear H
 have H := H1
 clear H1
 obtain rfl := Option.some.inj H
 go_enter Try.func20, Try.ntmps20
 go_wp2_with (first | ((with_reducible refine gate_dst (N := 10) rfl ?_); refine Kd.R_lit (Kd.int .i64) _ 3 ?hg (N := 10) ?hd (xs := ([a1, a2] : List Int)) (inner := [.int .i64 a1, .int .i64 a2]) (ok := fun _ => True) (okp := fun _ => True) ?hr ?hp (fun _ hk => hk) trivial (Below.refl _ _) (Nat.le_refl _) (by simp) ?_; (case hd => rfl); (case hg => rfl); (case hr => first | (go_simp; done) | (go_simp; rfl)); (case hp => exact (Reps.one (show Kd.M (Kd.int .i64) _ _ _ a1 [.int .i64 a1] from rfl) (Reps.one (show Kd.M (Kd.int .i64) _ _ _ a2 [.int .i64 a2] from rfl) (Reps.none _ _)))); intro v336 w12 ho13 hb hg_ hnew_; clear hg_ hnew_; (first | rw [← Ny335.out] at ho13 | (simp only [Int.reduceToNat] at ho13; rw [← Ny335.out] at ho13)); have HO337 := A_ (Kd.R_lower ho13 (below_size (B_))); replace HB := A_ (below_step (B_) hb); clear hb ho13; obtain ⟨Ao14, co14, eo14⟩ := Kd.R_slice HO337.out; subst eo14) | ((with_reducible refine gate_callee (f := 39) rfl ?_); refine goesL_ (some 11) rfl rfl Try.func39 (by kernel_rfl) rfl #[.slice A0 l0.length c0, .slice Ao14 y335.length co14] rfl (by (try simp only [List.map_toArray, List.map_cons, List.map_nil]); first | done | rfl | (simp only [List.length_drop, List.length_take]; rfl)) ?_; (with_reducible refine (dom_in.calls k _ _ l0 _ _ y335 false _ ?side1 ?side2 ?side3 ?side4 A4.out).mono ?_); (case side1 => exact CX_ (Kd.C_below HR0.out HB.out)); (case side2 => exact HC0.out); (case side3 => repeat (first | exact (Kd.R_reads' HO337.out).2.2 | (with_reducible refine Kd.C_alloc ?_ _) | (with_reducible refine Kd.C_drewN ?_ _) | (with_reducible refine Kd.C_drew ?_))); (case side4 => exact (Kd.R_reads' HO337.out).2.1); rintro e w15 ⟨rfl, hb⟩; refine ⟨_, rfl, ?_⟩; replace HO337 := A_ (Kd.R_below (by exact RX_ HO337.out) hb); replace HB := A_ (below_step (B_) hb); (try clear hb); (try clear hb2); (try clear hk); (try clear hi)))
 go_ret
 exact ⟨by first | rfl | (simp [errW_none, errW_some] <;> rfl) | (simp [*, errW_none, errW_some] <;> rfl), B_⟩

/-! ### cmp_Less_int: function 80 -/
def cmp_Less_int.f (a0 : Int) (a1 : Int) : Option (Bool) := (cmp_isNaN_int.f a0).bind fun t340 => (if t340 = true then ((cmp_isNaN_int.f a1).bind fun t341 => (if t341 = true then (some (decide (a0 < a1))) else (some true))) else (some (decide (a0 < a1))))
set_option maxHeartbeats 8000000 in
set_option maxRecDepth 100000 in
theorem cmp_Less_int.calls (a0 : Int) (a1 : Int) (r : Bool) (w : World) (h : cmp_Less_int.f a0 a1 = some r) :
 Calls Try.prog 80 #[.int .i64 a0, .int .i64 a1] w fun e w' => e = .returned (.bool r) ∧ Drawn0 w w' := by
 have H : ((cmp_isNaN_int.f a0).bind fun t340 => (if t340 = true then ((cmp_isNaN_int.f a1).bind fun t341 => (if t341 = true then (some (decide (a0 < a1))) else (some true))) else (some (decide (a0 < a1))))) = some r := h
 clear h
 replace H := Option.bind_eq_some_iff.mp H
 obtain ⟨t340, A30, H⟩ := H
 try dsimp only at H
 have A3 := Aside0.mk A30
 clear A30
 by_cases c4 : t340 = true
 ·subst c4
  have H1 : ((cmp_isNaN_int.f a1).bind fun t341 => (if t341 = true then (some (decide (a0 < a1))) else (some true))) = some r := by rw [if_pos rfl] at H; exact H
  clear H
  have H := H1
  clear H1
  replace H := Option.bind_eq_some_iff.mp H
  obtain ⟨t341, A50, H⟩ := H
  try dsimp only at H
  have A5 := Aside0.mk A50
  clear A50
  by_cases c6 : t341 = true
  ·subst c6
   have H1 : (some (decide (a0 < a1))) = some r := by rw [if_pos rfl] at H; exact H
   clear H
   have H := H1
   clear H1
   obtain rfl := Option.some.inj H
   go_enter Try.func80, Try.ntmps80
   go_wp2_with (first | ((with_reducible refine gate_callee (f := 73) rfl ?_); refine goesL_ (some 6) rfl rfl Try.func73 (by kernel_rfl) rfl #[.int .i64 a0] rfl (by (try simp only [List.map_toArray, List.map_cons, List.map_nil]); first | done | rfl | (simp only [List.length_drop, List.length_take]; rfl)) ?_; (with_reducible refine (cmp_isNaN_int.calls a0 true _ A3.out).mono ?_); rintro e w' ⟨rfl, ⟨nd, rfl⟩⟩; refine ⟨_, rfl, ?_⟩) | (go_at_call 73; (with_reducible refine (cmp_isNaN_int.calls a1 true _ A5.out).mono ?_); rintro e w' ⟨rfl, ⟨nd, rfl⟩⟩))
   go_ret
   exact ⟨by first | rfl | (simp; done) | (simp [*]; done), by repeat (first | exact Drawn0.refl _ | apply Drawn0.step)⟩
  replace c6 := Bool.eq_false_iff.mpr c6
  subst c6
  have H1 : (some true) = some r := by rw [if_neg (show ¬ (false = true) by decide)] at H; exact H
  clear H
  have H := H1
  clear H1
  obtain rfl := Option.some.inj H
  go_enter Try.func80, Try.ntmps80
  go_wp2_with (first | ((with_reducible refine gate_callee (f := 73) rfl ?_); refine goesL_ (some 6) rfl rfl Try.func73 (by kernel_rfl) rfl #[.int .i64 a0] rfl (by (try simp only [List.map_toArray, List.map_cons, List.map_nil]); first | done | rfl | (simp only [List.length_drop, List.length_take]; rfl)) ?_; (with_reducible refine (cmp_isNaN_int.calls a0 true _ A3.out).mono ?_); rintro e w' ⟨rfl, ⟨nd, rfl⟩⟩; refine ⟨_, rfl, ?_⟩) | (go_at_call 73; (with_reducible refine (cmp_isNaN_int.calls a1 false _ A5.out).mono ?_); rintro e w' ⟨rfl, ⟨nd, rfl⟩⟩))
  go_ret
  exact ⟨by first | rfl | (simp; done) | (simp [*]; done), by repeat (first | exact Drawn0.refl _ | apply Drawn0.step)⟩
 replace c4 := Bool.eq_false_iff.mpr c4
 subst c4
 have H1 : (some (decide (a0 < a1))) = some r := by rw [if_neg (show ¬ (false = true) by decide)] at H; exact H
 clear H
 have H := H1
 clear H1
 obtain rfl := Option.some.inj H
 go_enter Try.func80, Try.ntmps80
 go_wp2_with (first | ((with_reducible refine gate_callee (f := 73) rfl ?_); refine goesL_ (some 6) rfl rfl Try.func73 (by kernel_rfl) rfl #[.int .i64 a0] rfl (by (try simp only [List.map_toArray, List.map_cons, List.map_nil]); first | done | rfl | (simp only [List.length_drop, List.length_take]; rfl)) ?_; (with_reducible refine (cmp_isNaN_int.calls a0 false _ A3.out).mono ?_); rintro e w' ⟨rfl, ⟨nd, rfl⟩⟩; refine ⟨_, rfl, ?_⟩))
 go_ret
 exact ⟨by first | rfl | (simp; done) | (simp [*]; done), by repeat (first | exact Drawn0.refl _ | apply Drawn0.step)⟩

-- NOT PRINTED: function 74 (slices_insertionSortOrdered_int)

-- NOT PRINTED: function 91 (slices_siftDownOrdered_int)

-- NOT PRINTED: function 75 (slices_heapSortOrdered_int)

-- NOT PRINTED: function 76 (slices_breakPatternsOrdered_int)

-- NOT PRINTED: function 95 (slices_order2Ordered_int)

-- NOT PRINTED: function 93 (slices_medianOrdered_int)

-- NOT PRINTED: function 92 (slices_medianAdjacentOrdered_int)

-- NOT PRINTED: function 77 (slices_choosePivotOrdered_int)

-- NOT PRINTED: function 78 (slices_reverseRangeOrdered_int)

-- NOT PRINTED: function 79 (slices_partialInsertionSortOrdered_int)

-- NOT PRINTED: function 81 (slices_partitionEqualOrdered_int)

-- NOT PRINTED: function 82 (slices_partitionOrdered_int)

-- NOT PRINTED: function 52 (slices_pdqsortOrdered_int)

/-! ### slices_Sort_int_int: function 27 -/
-- needs HSort
-- needs Srt
def slices_Sort_int_int.f (l0 : List Int) : Option (List Int) := if l0.length < 4611686018427387904 then some (isort (fun x y : Int => decide (x ≤ y)) l0) else none
open Go Go.Sort Go.Proofs.YtheillkpgmpnlaaW.PrintWords.Kd in
theorem slices_Sort_int_int.calls (P0_ : Nat → Prop) (u9000_ : Value) (l0 : List Int) (r : List Int) (w0 w : World) (hB : Below w0.heap.size w0 w) (ho0 : Kd.R (Kd.int .i64) 3 w w0.heap.size P0_ u9000_ l0) (h : slices_Sort_int_int.f l0 = some r) :
 Calls Try.prog 27 #[u9000_] w fun e w' => e = .returned (.tuple #[]) ∧ Kd.R (Kd.int .i64) 3 w' w0.heap.size (fun k_ => (P0_ k_ ∨ w.heap.size ≤ k_)) u9000_ r ∧ Below w0.heap.size w0 w' ∧ Kept w w' (fun k_ => P0_ k_) := by
  unfold slices_Sort_int_int.f at h
  by_cases hl : l0.length < 4611686018427387904
  · rw [if_pos hl] at h
    obtain rfl := Option.some.inj h
    rw [← msort (le := fun x y : Int => decide (x ≤ y)) (fun a b => by simp only [decide_eq_true_eq]; omega) (fun a b c h1 h2 => by simp only [decide_eq_true_eq] at *; omega) (fun a b h1 h2 => by simp only [decide_eq_true_eq] at *; omega) l0]
    have ho : w.ownsRow w0.heap.size 3 1 u9000_ l0.length (encs (Value.int .i64) l0) := own_of_R ho0
    have hok := ho0.1
    rcases ho.2 with ⟨rfl, h0⟩ | ⟨g, cap, cur, rfl, hg, _⟩
    · obtain rfl : l0 = [] := List.length_eq_zero_iff.mp h0
      refine (Try.slices_Sort_int_none none 0 w).mono ?_
      rintro e w' ⟨rfl, rfl⟩
      exact ⟨rfl, R_mono (by simpa using ho0) (fun k hk => .inl hk), hB, Kept.refl _ _⟩
    · obtain ⟨hh, hg2⟩ := own_holds ho
      refine (Try.slices_Sort_int g 0 cap l0 w (holds_ints hh) hg2 hl).mono ?_
      rintro e w' ⟨rfl, n, os, rfl⟩
      rw [put_ints]
      have hgr := sorted_grown w g n (encs (Value.int .i64) (l0.mergeSort fun x y => decide (x ≤ y))) os
      have hown := sorted_own ho n (encs (Value.int .i64) (l0.mergeSort fun x y => decide (x ≤ y))) (by simp [encs]) os
      have hlen : (l0.mergeSort fun x y => decide (x ≤ y)).length = l0.length := by simp
      refine ⟨rfl, R_of_own (by rw [hlen]; exact hown) (fun k hk => .inl (hok k hk)), hB.grown hgr hB.size (fun k hk => by injection hk with hk; rw [← hk]; exact hg), hgr.size, fun i hi hn => hgr.block i hi (fun e => hn (hok i ?_))⟩
      injection e with e
      rw [e]; rfl
  · rw [if_neg hl] at h; cases h


/-! ### slices_Compact_int_int: function 28 -/
-- needs HSort
-- needs Srt
def slices_Compact_int_int.f (l0 : List Int) : Option (List Int) := if l0.length ≤ 9223372036854775807 then some (Lib.compact l0) else none
open Go Go.Sort Go.Proofs.YtheillkpgmpnlaaW.PrintWords.Kd in
theorem slices_Compact_int_int.cut {w : World} {base e g n cap m : Nat} {xs ys : List Value} (h : w.ownsRow base e 1 (.slice (some ⟨g, 0, none⟩) n cap) n (ys ++ xs)) (hm : m = ys.length) : w.ownsRow base e 1 (.slice (some ⟨g, 0, none⟩) m cap) m ys := by
  obtain ⟨h1, h2⟩ := h
  rcases h2 with ⟨h2, _⟩ | ⟨g2, cap2, cur, h2, h3, h4, h5, h6, h7, h8⟩
  · cases h2
  · obtain ⟨rfl, rfl⟩ : g = g2 ∧ cap = cap2 := by simpa using h2
    rw [List.length_append] at h1
    refine ⟨by omega, .inr ⟨g, cap, cur, rfl, h3, h4, by omega, h6, h7, ?_⟩⟩
    have h9 := congrArg (List.take m) h8
    rw [List.take_take, Nat.min_eq_left (by omega), List.take_left' hm.symm] at h9
    rw [Nat.mul_one]; exact h9
open Go Go.Sort Go.Proofs.YtheillkpgmpnlaaW.PrintWords.Kd in
theorem slices_Compact_int_int.calls (P0_ : Nat → Prop) (u9000_ : Value) (l0 : List Int) (r : List Int) (w0 w : World) (hB : Below w0.heap.size w0 w) (ho0 : Kd.R (Kd.int .i64) 3 w w0.heap.size P0_ u9000_ l0) (h : slices_Compact_int_int.f l0 = some r) :
 Calls Try.prog 28 #[u9000_] w fun e w' => ∃ v0_ : Value, e = .returned (v0_) ∧ Kd.R (Kd.int .i64) 3 w' w0.heap.size (fun k_ => (P0_ k_ ∨ w.heap.size ≤ k_)) v0_ r ∧ Below w0.heap.size w0 w' ∧ Kept w w' (fun k_ => P0_ k_) := by
  unfold slices_Compact_int_int.f at h
  by_cases hl : l0.length ≤ 9223372036854775807
  · rw [if_pos hl] at h
    obtain rfl := Option.some.inj h
    have ho : w.ownsRow w0.heap.size 3 1 u9000_ l0.length (encs (Value.int .i64) l0) := own_of_R ho0
    have hok := ho0.1
    rcases ho.2 with ⟨rfl, h0⟩ | ⟨g, cap, cur, rfl, hg, _, hcap, _⟩
    · obtain rfl : l0 = [] := List.length_eq_zero_iff.mp h0
      refine (Try.slices_Compact_int_empty none 0 w).mono ?_
      rintro e w' ⟨rfl, rfl⟩
      exact ⟨_, rfl, R_nil _ _ _ _ _, hB, Kept.refl _ _⟩
    · obtain ⟨hh, hg2⟩ := own_holds ho
      refine (Try.slices_Compact_int g 0 cap l0 w (holds_ints hh) hl hcap).mono ?_
      rintro e w' ⟨rfl, n, rfl⟩
      have hle : (Lib.compact l0).length ≤ l0.length := Lib.compact_length_le l0
      rw [put_ints]
      have hgr := sorted_grown w g n (encs (Value.int .i64) (Lib.compact l0 ++ List.replicate (l0.length - (Lib.compact l0).length) 0)) #[]
      have hown := sorted_own ho n (encs (Value.int .i64) (Lib.compact l0 ++ List.replicate (l0.length - (Lib.compact l0).length) 0)) (by simp [encs]; omega) #[]
      have e0 : sorted_ w g n (encs (Value.int .i64) (Lib.compact l0 ++ List.replicate (l0.length - (Lib.compact l0).length) 0)) #[] = putRow id (Sort.ahead w n) g 0 (encs (Value.int .i64) (Lib.compact l0 ++ List.replicate (l0.length - (Lib.compact l0).length) 0)).toArray := by
        unfold sorted_; rw [grow_empty]
      rw [e0] at hgr hown
      have e1 : ∀ a b : List Int, encs (Value.int .i64) a ++ encs (Value.int .i64) b = encs (Value.int .i64) (a ++ b) := fun a b => List.map_append.symm
      have hown2 := slices_Compact_int_int.cut (m := (Lib.compact l0).length) (ys := encs (Value.int .i64) (Lib.compact l0)) (xs := encs (Value.int .i64) (List.replicate (l0.length - (Lib.compact l0).length) 0)) (by rw [e1]; exact hown) (by simp [encs])
      refine ⟨_, rfl, R_of_own hown2 (fun k hk => .inl (hok k (by simpa [Value.ownBlock] using hk))), hB.grown hgr hB.size (fun k hk => by injection hk with hk; rw [← hk]; exact hg), hgr.size, fun i hi hn => hgr.block i hi (fun e => hn (hok i ?_))⟩
      injection e with e
      rw [e]; rfl
  · rw [if_neg hl] at h; cases h


/-! ### dep_Frontier: function 13 -/
mutual
def dep_Frontier.l0 : Nat → Int → List Int → List Int → List (List Int) → Int → Int → Option (List Int)
 | 0, _, _, _, _, _, _ => none
 | k + 1, x1, x5, x6, x19, x20, x21 => if x21 < x20 then (if 0 ≤ x21 then (if x21 < (x19.length : Int) then ((dom_Over.f k x5 x1 x21).bind fun t352 => (if t352 = true then (dep_Frontier.l1 k x1 x5 x6 x19 x20 x21 (rd_L1 x19 x21) ((rd_L1 x19 x21).length : Int) 0) else (dep_Frontier.l0 k x1 x5 x6 x19 x20 (wrap64 (x21 + 1))))) else (none)) else (none)) else ((slices_Sort_int_int.f x6).bind fun t347 => ((slices_Compact_int_int.f t347).bind fun t348 => (some t348)))
def dep_Frontier.l1 : Nat → Int → List Int → List Int → List (List Int) → Int → Int → List Int → Int → Int → Option (List Int)
 | 0, _, _, _, _, _, _, _, _, _ => none
 | k + 1, x1, x5, x6, x19, x20, x21, x31, x32, x33 => if x33 < x32 then (if 0 ≤ x33 then (if x33 < (x31.length : Int) then (if (rd x31 x33) = x1 then (if x6.length < 17592186044416 then (dep_Frontier.l1 k x1 x5 (x6 ++ [rd x31 x33]) x19 x20 x21 x31 x32 (wrap64 (x33 + 1))) else (none)) else ((dom_Over.f k x5 x1 (rd x31 x33)).bind fun t357 => (if t357 = true then (dep_Frontier.l1 k x1 x5 x6 x19 x20 x21 x31 x32 (wrap64 (x33 + 1))) else (if x6.length < 17592186044416 then (dep_Frontier.l1 k x1 x5 (x6 ++ [rd x31 x33]) x19 x20 x21 x31 x32 (wrap64 (x33 + 1))) else (none))))) else (none)) else (none)) else (dep_Frontier.l0 k x1 x5 x6 x19 x20 (wrap64 (x21 + 1)))
end
def dep_Frontier.f (k : Nat) (l0_0 : List (List Int)) (l0_1 : List (List Int)) (a1 : Int) : Option (List Int) := (dom_Tree.f k l0_0 l0_1 0).bind fun t343 => ((dom_Over.f k t343 a1 a1).bind fun t346 => (if t346 = true then (dep_Frontier.l0 k a1 t343 ([] : List Int) l0_0 (l0_0.length : Int) 0) else (some ([] : List Int))))
theorem dep_Frontier.mono_l : ∀ k, (∀ y0 y1 y2 y3 y4 y5, LeO (dep_Frontier.l0 k y0 y1 y2 y3 y4 y5) (dep_Frontier.l0 (k + 1) y0 y1 y2 y3 y4 y5)) ∧ (∀ y0 y1 y2 y3 y4 y5 y6 y7 y8, LeO (dep_Frontier.l1 k y0 y1 y2 y3 y4 y5 y6 y7 y8) (dep_Frontier.l1 (k + 1) y0 y1 y2 y3 y4 y5 y6 y7 y8))
 | 0 => ⟨fun _ _ _ _ _ _ r h => by simp [dep_Frontier.l0] at h, fun _ _ _ _ _ _ _ _ _ r h => by simp [dep_Frontier.l1] at h⟩
 | k + 1 => by
  obtain ⟨ih0, ih1⟩ := dep_Frontier.mono_l k
  refine ⟨?_, ?_⟩
  ·intro y0 y1 y2 y3 y4 y5
   unfold dep_Frontier.l0
   repeat' (with_reducible first | exact ih0 _ _ _ _ _ _ | exact ih1 _ _ _ _ _ _ _ _ _ | exact dom_Over.mono _ _ _ _ | exact dom_Tree.mono _ _ _ _ | exact LeO.refl _ | exact LeO.none _ | refine LeO.ite ?_ ?_ | refine LeO.bind ?_ (fun _ => ?_))
  ·intro y0 y1 y2 y3 y4 y5 y6 y7 y8
   unfold dep_Frontier.l1
   repeat' (with_reducible first | exact ih0 _ _ _ _ _ _ | exact ih1 _ _ _ _ _ _ _ _ _ | exact dom_Over.mono _ _ _ _ | exact dom_Tree.mono _ _ _ _ | exact LeO.refl _ | exact LeO.none _ | refine LeO.ite ?_ ?_ | refine LeO.bind ?_ (fun _ => ?_))
theorem dep_Frontier.mono : ∀ a0 a1 a2 k, LeO (dep_Frontier.f k a0 a1 a2) (dep_Frontier.f (k + 1) a0 a1 a2) := by
 intro a0 a1 a2 k
 obtain ⟨ih0, ih1⟩ := dep_Frontier.mono_l k
 unfold dep_Frontier.f
 repeat' (with_reducible first | exact ih0 _ _ _ _ _ _ | exact ih1 _ _ _ _ _ _ _ _ _ | exact dom_Over.mono _ _ _ _ | exact dom_Tree.mono _ _ _ _ | exact LeO.refl _ | exact LeO.none _ | refine LeO.ite ?_ ?_ | refine LeO.bind ?_ (fun _ => ?_))
set_option maxHeartbeats 8000000 in
set_option maxRecDepth 100000 in
theorem dep_Frontier.calls (k : Nat) (A0_0 : Option Addr) (c0_0 : Nat) (l0_0 : List (List Int)) (A0_1 : Option Addr) (c0_1 : Nat) (l0_1 : List (List Int)) (a1 : Int) (r : List Int) (w : World) (hr0_0 : Kd.C (Kd.slice 3 (Kd.int .i64)) w A0_0 l0_0.length l0_0) (hc0_0 : l0_0.length ≤ c0_0) (hr0_1 : Kd.C (Kd.slice 3 (Kd.int .i64)) w A0_1 l0_1.length l0_1) (hc0_1 : l0_1.length ≤ c0_1) (h : dep_Frontier.f k l0_0 l0_1 a1 = some r) :
 Calls Try.prog 13 #[.agg #[.slice A0_0 l0_0.length c0_0, .slice A0_1 l0_1.length c0_1], .int .i64 a1] w fun e w' => ∃ v0_ : Value, e = .returned (v0_) ∧ Kd.R (Kd.int .i64) 3 w' w.heap.size (fun _ => True) v0_ r ∧ Below w.heap.size w w' := by
 have hu26 := Try.underlying26
 have HR0_0 := Aside0.mk hr0_0
 have HC0_0 := Aside0.mk hc0_0
 clear hr0_0 hc0_0
 have HR0_1 := Aside0.mk hr0_1
 have HC0_1 := Aside0.mk hc0_1
 clear hr0_1 hc0_1
 have HB := A_ (Below.refl w.heap.size w)
 have H : ((dom_Tree.f k l0_0 l0_1 0).bind fun t343 => ((dom_Over.f k t343 a1 a1).bind fun t346 => (if t346 = true then (dep_Frontier.l0 k a1 t343 ([] : List Int) l0_0 (l0_0.length : Int) 0) else (some ([] : List Int))))) = some r := h
 clear h
 replace H := Option.bind_eq_some_iff.mp H
 obtain ⟨t343, A30, H⟩ := H
 try dsimp only at H
 have A3 := Aside0.mk A30
 clear A30
 replace H := Option.bind_eq_some_iff.mp H
 obtain ⟨t346, A40, H⟩ := H
 try dsimp only at H
 have A4 := Aside0.mk A40
 clear A40
 by_cases c5 : t346 = true
 ·subst c5
  have H1 : (dep_Frontier.l0 k a1 t343 ([] : List Int) l0_0 (l0_0.length : Int) 0) = some r := by rw [if_pos rfl] at H; exact H
  clear H
  have H := H1
  clear H1
  have H' := Aside0.mk H
  clear H
  go_enter Try.func13, Try.ntmps13
  go_wp2_with (first | ((with_reducible refine gate_dst (N := 2) rfl ?_); refine box_event ?hg (N := 2) ?hd (cs := #[.slice A0_0 l0_0.length c0_0, .slice A0_1 l0_1.length c0_1]) (t := 26) ?hr ?_; (case hd => rfl); (case hg => rfl); (case hr => first | (go_simp; done) | (go_simp; rfl)); intro gb342 hg w6 hbox hb; have BK342 := A_ (hbox); have GW342 := A_ ((by rw [hg]; exact (below_size (B_)) : w.heap.size ≤ gb342)); have GE342 := A_ ((by rw [hg]; exact (below_size (B_)) : w.heap.size ≤ gb342)); replace HB := A_ (below_step (B_) hb); clear hb hbox hg; have hcz7_0 : w6.cell? ⟨gb342, 0, none⟩ = some (.slice A0_0 l0_0.length c0_0) := (blk_cell BK342.out 0).trans rfl; have hcz7_1 : w6.cell? ⟨gb342, 1, none⟩ = some (.slice A0_1 l0_1.length c0_1) := (blk_cell BK342.out 1).trans rfl; have hfz7_0 := blk_frozen BK342.out 0; have hfz7_1 := blk_frozen BK342.out 1) | ((with_reducible refine gate_callee (f := 19) rfl ?_); refine goesL_ (some 12) rfl rfl Try.func19 (by kernel_rfl) rfl #[.agg #[.slice A0_0 l0_0.length c0_0, .slice A0_1 l0_1.length c0_1], .int .i64 0] rfl (by (try simp only [List.map_toArray, List.map_cons, List.map_nil]); first | done | rfl | (simp only [List.length_drop, List.length_take]; rfl)) ?_; (with_reducible refine (dom_Tree.calls k _ _ l0_0 _ _ l0_1 0 t343 _ ?side1 ?side2 ?side3 ?side4 A3.out).mono ?_); (case side1 => exact CX_ (Kd.C_below HR0_0.out HB.out)); (case side2 => exact HC0_0.out); (case side3 => exact CX_ (Kd.C_below HR0_1.out HB.out)); (case side4 => exact HC0_1.out); rintro e w8 ⟨v344, rfl, ho0, hb⟩; refine ⟨_, rfl, ?_⟩; have HO345 := A_ (Kd.R_lower ho0 (below_size (B1_))); replace BK342 := A_ (blk_below (g := gb342) (o := .cells #[.slice A0_0 l0_0.length c0_0, .slice A0_1 l0_1.length c0_1] 26 (0, 0)) (by exact KX_ BK342.out) hb); replace HB := A_ (below_step (B1_) hb); (try clear hb); (try clear hb2); (try clear hk); (try clear hi); (try clear ho0); obtain ⟨Ao9, co9, eo9⟩ := Kd.R_slice HO345.out; subst eo9) | ((with_reducible refine gate_callee (f := 20) rfl ?_); refine goesL_ (some 16) rfl rfl Try.func20 (by kernel_rfl) rfl #[.slice Ao9 t343.length co9, .int .i64 a1, .int .i64 a1] rfl (by (try simp only [List.map_toArray, List.map_cons, List.map_nil]); first | done | rfl | (simp only [List.length_drop, List.length_take]; rfl)) ?_; (with_reducible refine (dom_Over.calls k _ _ t343 a1 a1 true _ ?side1 ?side2 A4.out).mono ?_); (case side1 => repeat (first | exact (Kd.R_reads' HO345.out).2.2 | (with_reducible refine Kd.C_alloc ?_ _) | (with_reducible refine Kd.C_drewN ?_ _) | (with_reducible refine Kd.C_drew ?_))); (case side2 => exact (Kd.R_reads' HO345.out).2.1); rintro e w10 ⟨rfl, hb⟩; refine ⟨_, rfl, ?_⟩; replace HO345 := A_ (Kd.R_below (by exact RX_ HO345.out) hb); replace BK342 := A_ (blk_below (g := gb342) (o := .cells #[.slice A0_0 l0_0.length c0_0, .slice A0_1 l0_1.length c0_1] 26 (0, 0)) (by exact KX_ BK342.out) hb); replace HB := A_ (below_step (B1_) hb); (try clear hb); (try clear hb2); (try clear hk); (try clear hi); have hcz11_0 : w10.cell? ⟨gb342, 0, none⟩ = some (.slice A0_0 l0_0.length c0_0) := (blk_cell BK342.out 0).trans rfl; have hcz11_1 : w10.cell? ⟨gb342, 1, none⟩ = some (.slice A0_1 l0_1.length c0_1) := (blk_cell BK342.out 1).trans rfl; have hfz11_0 := blk_frozen BK342.out 0; have hfz11_1 := blk_frozen BK342.out 1))
  go_loopg [6, 21] k (fun kq v6 v21 w' => ∃ (x6_1 : List Int) (x21_1 : Int), v21 = .int .i64 x21_1 ∧ Aside0 (dep_Frontier.l0 kq a1 t343 x6_1 l0_0 (l0_0.length : Int) x21_1 = some r) ∧ Aside0 (kq ≤ k) ∧ Aside0 (Kd.R (Kd.int .i64) 3 w' w.heap.size (fun k_ => some k_ ≠ (v6 : Value).ownBlock) (.slice Ao9 t343.length co9) t343) ∧ Aside0 (Kd.R (Kd.int .i64) 3 w' w.heap.size (fun k_ => some k_ ≠ ((.slice Ao9 t343.length co9) : Value).ownBlock) v6 x6_1) ∧ Aside0 (w'.heap[gb342]? = some (.cells #[(.slice A0_0 l0_0.length c0_0), (.slice A0_1 l0_1.length c0_1)] 26 (0, 0))) ∧ Aside0 (Below w.heap.size w w'))
  case atStart => exact ⟨(([] : List Int)), (0), (by first | rfl | (simp; done) | (simp [*]; done)), H', ⟨Nat.le_refl _⟩, ⟨by (with_reducible repeat (first | apply Kd.R_alloc | apply Kd.R_drewN | apply Kd.R_drew)); exact Kd.R_mono HO345.out (fun _ hk => (by simp [Value.ownBlock]))⟩, ⟨by first | exact Kd.R_nil _ _ _ _ _ | exact Kd.N_nil _ _ _ _ _ | exact Kd.V_nil _ _ _ _ _ | exact Kd.Q_nil _ _ _ _ _ | exact Kd.S_nil _ _ _ _ _⟩, ⟨by exact KX_ BK342.out⟩, ⟨B1_⟩⟩
  case round =>
   clear H'
   try clear c5
   try clear hcz11_0
   try clear hcz11_1
   try clear hcz7_0
   try clear hcz7_1
   try clear hfz11_0
   try clear hfz11_1
   try clear hfz7_0
   try clear hfz7_1
   obtain ⟨x6_1, x21_1, rfl, HA, HK1, HO_5, HO_6, BK342, HB⟩ := hrel
   cases gk with
   | zero => exact absurd HA.out (by simp [dep_Frontier.l0])
   | succ k1 =>
    have H := HA.out
    clear HA
    simp only [dep_Frontier.l0] at H
    by_cases c12 : x21_1 < (l0_0.length : Int)
    ·rw [if_pos c12] at H
     have c12b0 : decide (x21_1 < (l0_0.length : Int)) = true := decide_eq_true c12
     clear c12
     by_cases c13 : 0 ≤ x21_1
     ·rw [if_pos c13] at H
      have c13b0 : decide (0 ≤ x21_1) = true := decide_eq_true c13
      clear c13
      by_cases c14 : x21_1 < (l0_0.length : Int)
      ·rw [if_pos c14] at H
       have c14b0 : decide (x21_1 < (l0_0.length : Int)) = true := decide_eq_true c14
       clear c14
       replace H := Option.bind_eq_some_iff.mp H
       obtain ⟨t352, A150, H⟩ := H
       try dsimp only at H
       have A15 := Aside0.mk A150
       clear A150
       by_cases c16 : t352 = true
       ·subst c16
        have H1 : (dep_Frontier.l1 k1 a1 t343 x6_1 l0_0 (l0_0.length : Int) x21_1 (rd_L1 l0_0 x21_1) ((rd_L1 l0_0 x21_1).length : Int) 0) = some r := by rw [if_pos rfl] at H; exact H
        clear H
        have H := H1
        clear H1
        have H' := Aside0.mk H
        clear H
        have p351 : 0 ≤ (x21_1 : Int) := D_
        have q351 : x21_1 < (l0_0.length : Int) := D_
        obtain ⟨ad351, A351_0, c351_0, e351, hx351_0, hl351_0, hi351_0⟩ := at_L1 HR0_0.out x21_1 p351 q351
        cases e351
        replace hx351_0 := (HB.out.cell (World.block_lt_of_cell? w _ hx351_0)).trans hx351_0
        have HR351_0 := Aside0.mk hi351_0
        have HC351_0 := Aside0.mk hl351_0
        clear hi351_0 hl351_0
        replace p351 := eq_true p351
        replace q351 := eq_true q351
        go_wp2_with (first | ((with_reducible refine gate_callee (f := 20) rfl ?_); refine goesL_ (some 29) rfl rfl Try.func20 (by kernel_rfl) rfl #[.slice Ao9 t343.length co9, .int .i64 a1, .int .i64 x21_1] rfl (by (try simp only [List.map_toArray, List.map_cons, List.map_nil]); first | done | rfl | (simp only [List.length_drop, List.length_take]; rfl)) ?_; (with_reducible refine (dom_Over.calls k1 _ _ t343 a1 x21_1 true _ ?side1 ?side2 A15.out).mono ?_); (case side1 => repeat (first | exact (Kd.R_reads' HO_5.out).2.2 | (with_reducible refine Kd.C_alloc ?_ _) | (with_reducible refine Kd.C_drewN ?_ _) | (with_reducible refine Kd.C_drew ?_))); (case side2 => exact (Kd.R_reads' HO_5.out).2.1); rintro e w17 ⟨rfl, hb⟩; refine ⟨_, rfl, ?_⟩; replace HO_5 := A_ (Kd.R_below (by exact RX_ HO_5.out) hb); replace HO_6 := A_ (Kd.R_below (by exact RX_ HO_6.out) hb); replace BK342 := A_ (blk_below (g := gb342) (o := .cells #[.slice (some ad351) l0_0.length c0_0, .slice A0_1 l0_1.length c0_1] 26 (0, 0)) (by exact KX_ BK342.out) hb); replace HB := A_ (below_step (B1_) hb); (try clear hb); (try clear hb2); (try clear hk); (try clear hi)))
        go_loopg [6, 33] k1 (fun kq v6 v33 w' => ∃ (x6_2 : List Int) (x33_2 : Int), v33 = .int .i64 x33_2 ∧ Aside0 (dep_Frontier.l1 kq a1 t343 x6_2 l0_0 (l0_0.length : Int) x21_1 (rd_L1 l0_0 x21_1) ((rd_L1 l0_0 x21_1).length : Int) x33_2 = some r) ∧ Aside0 (kq ≤ k1) ∧ Aside0 (Kd.R (Kd.int .i64) 3 w' w.heap.size (fun k_ => some k_ ≠ (v6 : Value).ownBlock) (.slice Ao9 t343.length co9) t343) ∧ Aside0 (Kd.R (Kd.int .i64) 3 w' w.heap.size (fun k_ => some k_ ≠ ((.slice Ao9 t343.length co9) : Value).ownBlock) v6 x6_2) ∧ Aside0 (w'.heap[gb342]? = some (.cells #[(.slice (some ad351) l0_0.length c0_0), (.slice A0_1 l0_1.length c0_1)] 26 (0, 0))) ∧ Aside0 (Below w.heap.size w w'))
        case atStart => exact ⟨(x6_1), (0), (by first | rfl | (simp; done) | (simp [*]; done)), H', ⟨Nat.le_refl _⟩, ⟨by exact RM_ HO_5.out⟩, ⟨by exact RM_ HO_6.out⟩, ⟨by exact KX_ BK342.out⟩, ⟨B1_⟩⟩
        case round =>
         clear H'
         try clear c12b0
         try clear c13b0
         try clear c14b0
         try clear c16
         try clear hx351_0
         try clear p351
         try clear q351
         obtain ⟨x6_2, x33_2, rfl, HA, HK2, HO_5, HO_6, BK342, HB⟩ := hrel
         cases gk with
         | zero => exact absurd HA.out (by simp [dep_Frontier.l1])
         | succ k2 =>
          have H := HA.out
          clear HA
          simp only [dep_Frontier.l1] at H
          by_cases c18 : x33_2 < ((rd_L1 l0_0 x21_1).length : Int)
          ·rw [if_pos c18] at H
           have c18b0 : decide (x33_2 < ((rd_L1 l0_0 x21_1).length : Int)) = true := decide_eq_true c18
           clear c18
           by_cases c19 : 0 ≤ x33_2
           ·rw [if_pos c19] at H
            have c19b0 : decide (0 ≤ x33_2) = true := decide_eq_true c19
            clear c19
            by_cases c20 : x33_2 < ((rd_L1 l0_0 x21_1).length : Int)
            ·rw [if_pos c20] at H
             have c20b0 : decide (x33_2 < ((rd_L1 l0_0 x21_1).length : Int)) = true := decide_eq_true c20
             clear c20
             by_cases c21 : (rd (rd_L1 l0_0 x21_1) x33_2) = a1
             ·rw [if_pos c21] at H
              have c21b0 : ((rd (rd_L1 l0_0 x21_1) x33_2) == a1) = true := beq_iff_eq.mpr c21
              have c21b1 : ((rd (rd_L1 l0_0 x21_1) x33_2) != a1) = false := bne_eq_false_iff_eq.mpr c21
              clear c21
              by_cases c22 : x6_2.length < 17592186044416
              ·rw [if_pos c22] at H
               have LMc22 := Aside0.mk c22
               clear c22
               obtain ⟨y354, hy354⟩ : ∃ y_ : List Int, y_ = (x6_2 ++ [rd (rd_L1 l0_0 x21_1) x33_2]) := ⟨_, rfl⟩
               replace H : (dep_Frontier.l1 k2 a1 t343 y354 l0_0 (l0_0.length : Int) x21_1 (rd_L1 l0_0 x21_1) ((rd_L1 l0_0 x21_1).length : Int) (wrap64 (x33_2 + 1))) = some r := by first | (rw [hy354]; with_reducible exact H) | (have H2_ := (Option.bind_some _ _).symm.trans H; rw [hy354]; with_reducible exact H2_) | (have H2_ := (Option.bind_some _ _).symm.trans H; with_reducible exact H2_) | with_reducible exact H | (rw [hy354]; exact H) | exact H
               have Ny354 := Aside0.mk hy354
               clear hy354
               have H' := Aside0.mk H
               clear H
               have p353 : 0 ≤ (x33_2 : Int) := D_
               have q353 : x33_2 < ((rd_L1 l0_0 x21_1).length : Int) := D_
               obtain ⟨ad353, e353, hx353_0⟩ := Kd.at_int HR351_0.out x33_2 p353 q353
               cases e353
               replace hx353_0 := (HB.out.cell (World.block_lt_of_cell? w _ hx353_0)).trans hx353_0
               replace p353 := eq_true p353
               replace q353 := eq_true q353
               go_wp2_with (first | ((with_reducible refine gate_builtin (b := .append) (xs := #[.tmp 47, .tmp 49]) rfl ?_); at_builtin; refine Kd.R_append (Kd.int .i64) (w0 := w) w.heap.size rfl (.tmp 47) (.tmp 49) 31 3 (.int .i64 0) 8 rfl Try.underlying31 info3 rfl (by decide) (by omega) u6 x6_2 (rd (rd_L1 l0_0 x21_1) x33_2) [.int .i64 (rd (rd_L1 l0_0 x21_1) x33_2)] (fun k_ => some k_ ≠ (.slice Ao9 t343.length co9 : Value).ownBlock) (fun _ => False) rfl rfl ?aP (fun _ hk => hk.elim) ?aF ?aO ?aB ?aS ?aL ?_; (case aP => exact rfl); (case aB => exact (B1_)); (case aF => exact (fun k_ hk => Kd.fresh' (Kd.R_lt (by exact RX_ HO_5.out)) k_ hk)); (case aO => exact (by exact RX_ HO_6.out)); (case aS => exact (below_size (B1_))); (case aL => have := LMc22.out; omega); intro v355 w23 ho hb hg hat; rw [← Ny354.out] at ho; replace HO_5 := A_ (Kd.R_after (ok := (fun _ => True)) (by (with_reducible repeat (first | apply Kd.R_alloc | apply Kd.R_drewN | apply Kd.R_drew)); exact Kd.R_mono HO_5.out (fun _ hk => by first | exact ⟨trivial, hk⟩ | exact hk | exact ⟨hk.1, hk.2⟩ | simp_all)) hg hat); replace BK342 := A_ (blk_grown (g := gb342) (o := .cells #[.slice (some ad351) l0_0.length c0_0, .slice A0_1 l0_1.length c0_1] 26 (0, 0)) (by exact KX_ BK342.out) hg (Kd.R_ne HO_6.out BK342.out (by decide))); replace HB := A_ (hb); have HO356 := A_ (ho); clear HO_6; clear ho hb hg hat))
               go_roundg k2
               case measure => have := HK1.out; have := HK2.out; omega
               case rel => exact ⟨(y354), (wrap64 (x33_2 + 1)), (by first | rfl | (simp; done) | (simp [*]; done)), H', ⟨by have := HK1.out; have := HK2.out; omega⟩, ⟨by (with_reducible repeat (first | apply Kd.R_alloc | apply Kd.R_drewN | apply Kd.R_drew)); exact Kd.R_mono HO_5.out (fun _ hk => by first | exact hk.2 | exact hk | exact ⟨hk.1, hk.2⟩ | simp_all)⟩, ⟨by exact RM_ HO356.out⟩, ⟨by exact KX_ BK342.out⟩, ⟨B1_⟩⟩
              rw [if_neg c22] at H
              exact absurd H (by simp)
             rw [if_neg c21] at H
             have c21b0 : ((rd (rd_L1 l0_0 x21_1) x33_2) == a1) = false := beq_eq_false_iff_ne.mpr c21
             have c21b1 : ((rd (rd_L1 l0_0 x21_1) x33_2) != a1) = true := bne_iff_ne.mpr c21
             replace H := Option.bind_eq_some_iff.mp H
             obtain ⟨t357, A240, H⟩ := H
             try dsimp only at H
             have A24 := Aside0.mk A240
             clear A240
             by_cases c25 : t357 = true
             ·subst c25
              have H1 : (dep_Frontier.l1 k2 a1 t343 x6_2 l0_0 (l0_0.length : Int) x21_1 (rd_L1 l0_0 x21_1) ((rd_L1 l0_0 x21_1).length : Int) (wrap64 (x33_2 + 1))) = some r := by rw [if_pos rfl] at H; exact H
              clear H
              have H := H1
              clear H1
              have H' := Aside0.mk H
              clear H
              have p353 : 0 ≤ (x33_2 : Int) := D_
              have q353 : x33_2 < ((rd_L1 l0_0 x21_1).length : Int) := D_
              obtain ⟨ad353, e353, hx353_0⟩ := Kd.at_int HR351_0.out x33_2 p353 q353
              cases e353
              replace hx353_0 := (HB.out.cell (World.block_lt_of_cell? w _ hx353_0)).trans hx353_0
              replace p353 := eq_true p353
              replace q353 := eq_true q353
              go_wp2_with (first | (go_at_call 20; (with_reducible refine (dom_Over.calls k2 _ _ t343 a1 (rd (rd_L1 l0_0 x21_1) x33_2) true _ ?side1 ?side2 A24.out).mono ?_); (case side1 => repeat (first | exact (Kd.R_reads' HO_5.out).2.2 | (with_reducible refine Kd.C_alloc ?_ _) | (with_reducible refine Kd.C_drewN ?_ _) | (with_reducible refine Kd.C_drew ?_))); (case side2 => exact (Kd.R_reads' HO_5.out).2.1); rintro e w26 ⟨rfl, hb⟩; replace HO_5 := A_ (Kd.R_below (by exact RX_ HO_5.out) hb); replace HO_6 := A_ (Kd.R_below (by exact RX_ HO_6.out) hb); replace BK342 := A_ (blk_below (g := gb342) (o := .cells #[.slice (some ad351) l0_0.length c0_0, .slice A0_1 l0_1.length c0_1] 26 (0, 0)) (by exact KX_ BK342.out) hb); replace HB := A_ (below_step (B1_) hb); (try clear hb); (try clear hb2); (try clear hk); (try clear hi)))
              go_roundg k2
              case measure => have := HK1.out; have := HK2.out; omega
              case rel => exact ⟨(x6_2), (wrap64 (x33_2 + 1)), (by first | rfl | (simp; done) | (simp [*]; done)), H', ⟨by have := HK1.out; have := HK2.out; omega⟩, ⟨by exact RM_ HO_5.out⟩, ⟨by exact RM_ HO_6.out⟩, ⟨by exact KX_ BK342.out⟩, ⟨B1_⟩⟩
             replace c25 := Bool.eq_false_iff.mpr c25
             subst c25
             have H1 : (if x6_2.length < 17592186044416 then (dep_Frontier.l1 k2 a1 t343 (x6_2 ++ [rd (rd_L1 l0_0 x21_1) x33_2]) l0_0 (l0_0.length : Int) x21_1 (rd_L1 l0_0 x21_1) ((rd_L1 l0_0 x21_1).length : Int) (wrap64 (x33_2 + 1))) else (none)) = some r := by rw [if_neg (show ¬ (false = true) by decide)] at H; exact H
             clear H
             have H := H1
             clear H1
             by_cases c27 : x6_2.length < 17592186044416
             ·rw [if_pos c27] at H
              have LMc27 := Aside0.mk c27
              clear c27
              obtain ⟨y358, hy358⟩ : ∃ y_ : List Int, y_ = (x6_2 ++ [rd (rd_L1 l0_0 x21_1) x33_2]) := ⟨_, rfl⟩
              replace H : (dep_Frontier.l1 k2 a1 t343 y358 l0_0 (l0_0.length : Int) x21_1 (rd_L1 l0_0 x21_1) ((rd_L1 l0_0 x21_1).length : Int) (wrap64 (x33_2 + 1))) = some r := by first | (rw [hy358]; with_reducible exact H) | (have H2_ := (Option.bind_some _ _).symm.trans H; rw [hy358]; with_reducible exact H2_) | (have H2_ := (Option.bind_some _ _).symm.trans H; with_reducible exact H2_) | with_reducible exact H | (rw [hy358]; exact H) | exact H
              have Ny358 := Aside0.mk hy358
              clear hy358
              have H' := Aside0.mk H
              clear H
              have p353 : 0 ≤ (x33_2 : Int) := D_
              have q353 : x33_2 < ((rd_L1 l0_0 x21_1).length : Int) := D_
              obtain ⟨ad353, e353, hx353_0⟩ := Kd.at_int HR351_0.out x33_2 p353 q353
              cases e353
              replace hx353_0 := (HB.out.cell (World.block_lt_of_cell? w _ hx353_0)).trans hx353_0
              replace p353 := eq_true p353
              replace q353 := eq_true q353
              go_wp2_with (first | (go_at_call 20; (with_reducible refine (dom_Over.calls k2 _ _ t343 a1 (rd (rd_L1 l0_0 x21_1) x33_2) false _ ?side1 ?side2 A24.out).mono ?_); (case side1 => repeat (first | exact (Kd.R_reads' HO_5.out).2.2 | (with_reducible refine Kd.C_alloc ?_ _) | (with_reducible refine Kd.C_drewN ?_ _) | (with_reducible refine Kd.C_drew ?_))); (case side2 => exact (Kd.R_reads' HO_5.out).2.1); rintro e w28 ⟨rfl, hb⟩; replace HO_5 := A_ (Kd.R_below (by exact RX_ HO_5.out) hb); replace HO_6 := A_ (Kd.R_below (by exact RX_ HO_6.out) hb); replace BK342 := A_ (blk_below (g := gb342) (o := .cells #[.slice (some ad351) l0_0.length c0_0, .slice A0_1 l0_1.length c0_1] 26 (0, 0)) (by exact KX_ BK342.out) hb); replace HB := A_ (below_step (B1_) hb); (try clear hb); (try clear hb2); (try clear hk); (try clear hi)) | ((with_reducible refine gate_builtin (b := .append) (xs := #[.tmp 47, .tmp 49]) rfl ?_); at_builtin; refine Kd.R_append (Kd.int .i64) (w0 := w) w.heap.size rfl (.tmp 47) (.tmp 49) 31 3 (.int .i64 0) 8 rfl Try.underlying31 info3 rfl (by decide) (by omega) u6 x6_2 (rd (rd_L1 l0_0 x21_1) x33_2) [.int .i64 (rd (rd_L1 l0_0 x21_1) x33_2)] (fun k_ => some k_ ≠ (.slice Ao9 t343.length co9 : Value).ownBlock) (fun _ => False) rfl rfl ?aP (fun _ hk => hk.elim) ?aF ?aO ?aB ?aS ?aL ?_; (case aP => exact rfl); (case aB => exact (B1_)); (case aF => exact (fun k_ hk => Kd.fresh' (Kd.R_lt (by exact RX_ HO_5.out)) k_ hk)); (case aO => exact (by exact RX_ HO_6.out)); (case aS => exact (below_size (B1_))); (case aL => have := LMc27.out; omega); intro v359 w29 ho hb hg hat; rw [← Ny358.out] at ho; replace HO_5 := A_ (Kd.R_after (ok := (fun _ => True)) (by (with_reducible repeat (first | apply Kd.R_alloc | apply Kd.R_drewN | apply Kd.R_drew)); exact Kd.R_mono HO_5.out (fun _ hk => by first | exact ⟨trivial, hk⟩ | exact hk | exact ⟨hk.1, hk.2⟩ | simp_all)) hg hat); replace BK342 := A_ (blk_grown (g := gb342) (o := .cells #[.slice (some ad351) l0_0.length c0_0, .slice A0_1 l0_1.length c0_1] 26 (0, 0)) (by exact KX_ BK342.out) hg (Kd.R_ne HO_6.out BK342.out (by decide))); replace HB := A_ (hb); have HO360 := A_ (ho); clear HO_6; clear ho hb hg hat))
              go_roundg k2
              case measure => have := HK1.out; have := HK2.out; omega
              case rel => exact ⟨(y358), (wrap64 (x33_2 + 1)), (by first | rfl | (simp; done) | (simp [*]; done)), H', ⟨by have := HK1.out; have := HK2.out; omega⟩, ⟨by (with_reducible repeat (first | apply Kd.R_alloc | apply Kd.R_drewN | apply Kd.R_drew)); exact Kd.R_mono HO_5.out (fun _ hk => by first | exact hk.2 | exact hk | exact ⟨hk.1, hk.2⟩ | simp_all)⟩, ⟨by exact RM_ HO360.out⟩, ⟨by exact KX_ BK342.out⟩, ⟨B1_⟩⟩
             rw [if_neg c27] at H
             exact absurd H (by simp)
            rw [if_neg c20] at H
            exact absurd H (by simp)
           rw [if_neg c19] at H
           exact absurd H (by simp)
          rw [if_neg c18] at H
          have c18b0 : decide (x33_2 < ((rd_L1 l0_0 x21_1).length : Int)) = false := decide_eq_false c18
          clear c18
          have H' := Aside0.mk H
          clear H
          go_wp2
          go_roundg k2
          case measure => have := HK1.out; have := HK2.out; omega
          case rel => exact ⟨(x6_2), (wrap64 (x21_1 + 1)), (by first | rfl | (simp; done) | (simp [*]; done)), H', ⟨by have := HK1.out; have := HK2.out; omega⟩, ⟨by exact RM_ HO_5.out⟩, ⟨by exact RM_ HO_6.out⟩, ⟨by exact KX_ BK342.out⟩, ⟨B1_⟩⟩
       replace c16 := Bool.eq_false_iff.mpr c16
       subst c16
       have H1 : (dep_Frontier.l0 k1 a1 t343 x6_1 l0_0 (l0_0.length : Int) (wrap64 (x21_1 + 1))) = some r := by rw [if_neg (show ¬ (false = true) by decide)] at H; exact H
       clear H
       have H := H1
       clear H1
       have H' := Aside0.mk H
       clear H
       have p351 : 0 ≤ (x21_1 : Int) := D_
       have q351 : x21_1 < (l0_0.length : Int) := D_
       obtain ⟨ad351, A351_0, c351_0, e351, hx351_0, hl351_0, hi351_0⟩ := at_L1 HR0_0.out x21_1 p351 q351
       cases e351
       replace hx351_0 := (HB.out.cell (World.block_lt_of_cell? w _ hx351_0)).trans hx351_0
       have HR351_0 := Aside0.mk hi351_0
       have HC351_0 := Aside0.mk hl351_0
       clear hi351_0 hl351_0
       replace p351 := eq_true p351
       replace q351 := eq_true q351
       go_wp2_with (first | ((with_reducible refine gate_callee (f := 20) rfl ?_); refine goesL_ (some 29) rfl rfl Try.func20 (by kernel_rfl) rfl #[.slice Ao9 t343.length co9, .int .i64 a1, .int .i64 x21_1] rfl (by (try simp only [List.map_toArray, List.map_cons, List.map_nil]); first | done | rfl | (simp only [List.length_drop, List.length_take]; rfl)) ?_; (with_reducible refine (dom_Over.calls k1 _ _ t343 a1 x21_1 false _ ?side1 ?side2 A15.out).mono ?_); (case side1 => repeat (first | exact (Kd.R_reads' HO_5.out).2.2 | (with_reducible refine Kd.C_alloc ?_ _) | (with_reducible refine Kd.C_drewN ?_ _) | (with_reducible refine Kd.C_drew ?_))); (case side2 => exact (Kd.R_reads' HO_5.out).2.1); rintro e w30 ⟨rfl, hb⟩; refine ⟨_, rfl, ?_⟩; replace HO_5 := A_ (Kd.R_below (by exact RX_ HO_5.out) hb); replace HO_6 := A_ (Kd.R_below (by exact RX_ HO_6.out) hb); replace BK342 := A_ (blk_below (g := gb342) (o := .cells #[.slice (some ad351) l0_0.length c0_0, .slice A0_1 l0_1.length c0_1] 26 (0, 0)) (by exact KX_ BK342.out) hb); replace HB := A_ (below_step (B1_) hb); (try clear hb); (try clear hb2); (try clear hk); (try clear hi)))
       go_roundg k1
       case measure => have := HK1.out; omega
       case rel => exact ⟨(x6_1), (wrap64 (x21_1 + 1)), (by first | rfl | (simp; done) | (simp [*]; done)), H', ⟨by have := HK1.out; omega⟩, ⟨by exact RM_ HO_5.out⟩, ⟨by exact RM_ HO_6.out⟩, ⟨by exact KX_ BK342.out⟩, ⟨B1_⟩⟩
      rw [if_neg c14] at H
      exact absurd H (by simp)
     rw [if_neg c13] at H
     exact absurd H (by simp)
    rw [if_neg c12] at H
    have c12b0 : decide (x21_1 < (l0_0.length : Int)) = false := decide_eq_false c12
    clear c12
    replace H := Option.bind_eq_some_iff.mp H
    obtain ⟨t347, A310, H⟩ := H
    try dsimp only at H
    have A31 := Aside0.mk A310
    clear A310
    replace H := Option.bind_eq_some_iff.mp H
    obtain ⟨t348, A320, H⟩ := H
    try dsimp only at H
    have A32 := Aside0.mk A320
    clear A320
    obtain rfl := Option.some.inj H
    obtain ⟨Ao33, co33, eo33⟩ := Kd.R_slice HO_6.out
    subst eo33
    go_wp2_with (first | ((with_reducible refine gate_callee (f := 27) rfl ?_); refine goesL_ (some 54) rfl rfl Try.func27 (by kernel_rfl) rfl #[.slice Ao33 x6_1.length co33] rfl (by (try simp only [List.map_toArray, List.map_cons, List.map_nil]); first | done | rfl | (simp only [List.length_drop, List.length_take]; rfl)) ?_; (with_reducible refine (slices_Sort_int_int.calls (fun k_ => some k_ = (.slice Ao33 x6_1.length co33 : Value).ownBlock) (.slice Ao33 x6_1.length co33) x6_1 t347 w _ ?side1 ?side2 A31.out).mono ?_); (case side1 => repeat (first | (with_reducible first | exact HB.out | apply below_alloc | apply pw_below_drewN | apply below_drew1 | refine below_set ?_ GE342.out) | exact HB.out)); (case side2 => exact Kd.R_tight rfl HO_6.out); rintro e w34 ⟨rfl, hy0, hb, hkp⟩; refine ⟨_, rfl, ?_⟩; replace HO_5 := A_ (Kd.R_mono (ok' := fun k_ => some k_ ≠ (.slice Ao33 x6_1.length co33 : Value).ownBlock) (Kd.R_keptB (HO_5.out) hkp (fun k_ hk_ hs_ => (hk_) hs_)) (fun k_ hk_ => hk_.1)); replace BK342 := A_ (blk_kept (by exact KX_ BK342.out) hkp (fun hs_ => (fun e_ => (Kd.R_ne HO_6.out BK342.out (by decide)) e_) hs_)); replace HO_6 := A_ (Kd.R_reok rfl hy0 (fun k_ e_ => HO_6.out.1 k_ e_)); replace HB := A_ (hb); (try clear hb); (try clear hkp); (try clear hy0)) | ((with_reducible refine gate_callee (f := 28) rfl ?_); refine goesL_ (some 56) rfl rfl Try.func28 (by kernel_rfl) rfl #[.slice Ao33 x6_1.length co33] rfl (by (try simp only [List.map_toArray, List.map_cons, List.map_nil]); first | done | rfl | (simp only [List.length_drop, List.length_take]; rfl)) ?_; (with_reducible refine (slices_Compact_int_int.calls (fun k_ => some k_ = (.slice Ao33 x6_1.length co33 : Value).ownBlock) (.slice Ao33 x6_1.length co33) t347 t348 w _ ?side1 ?side2 A32.out).mono ?_); (case side1 => repeat (first | (with_reducible first | exact HB.out | apply below_alloc | apply pw_below_drewN | apply below_drew1 | refine below_set ?_ GE342.out) | exact HB.out)); (case side2 => exact Kd.R_tight rfl HO_6.out); rintro e w35 ⟨v349, rfl, ho0, hb, hkp⟩; refine ⟨_, rfl, ?_⟩; replace BK342 := A_ (blk_kept (by exact KX_ BK342.out) hkp (fun hs_ => (fun e_ => (Kd.R_ne HO_6.out BK342.out (by decide)) e_) hs_)); have HO350 := A_ (Kd.R_mono (ok' := fun k_ => some k_ ≠ (.slice Ao9 t343.length co9 : Value).ownBlock) ho0 (fun k_ hk_ => Or.elim hk_ (fun hs_ => fun e_ => (((HO_5.out).1 k_ e_.symm)) hs_) (fun hn_ => (Kd.fresh' (Kd.R_lt (by exact RX_ HO_5.out)) k_ hn_)))); replace HO_5 := A_ (Kd.R_mono (ok' := fun k_ => some k_ ≠ (v349 : Value).ownBlock) (Kd.R_keptB (HO_5.out) hkp (fun k_ hk_ hs_ => (hk_) hs_)) (fun k_ hk_ => fun e_ => Or.elim (ho0.1 k_ e_.symm) (fun hs_ => hk_.2.1 hs_) (fun hn_ => Nat.not_le.2 hk_.2.2 hn_))); replace HB := A_ (hb); clear HO_6; (try clear hb); (try clear hkp); (try clear ho0)))
    go_ret
    exact ⟨_, by first | rfl | (simp [errW_none, errW_some] <;> rfl) | (simp [*, errW_none, errW_some] <;> rfl), by (with_reducible repeat (first | apply Kd.R_alloc | apply Kd.R_drewN | apply Kd.R_drew)); exact Kd.R_mono HO350.out (fun _ hk => trivial), B1_⟩
 replace c5 := Bool.eq_false_iff.mpr c5
 subst c5
 have H1 : (some ([] : List Int)) = some r := by rw [if_neg (show ¬ (false = true) by decide)] at H; exact H
 clear H
 have H := H1
 clear H1
 obtain rfl := Option.some.inj H
 go_enter Try.func13, Try.ntmps13
 go_wp2_with (first | ((with_reducible refine gate_dst (N := 2) rfl ?_); refine box_event ?hg (N := 2) ?hd (cs := #[.slice A0_0 l0_0.length c0_0, .slice A0_1 l0_1.length c0_1]) (t := 26) ?hr ?_; (case hd => rfl); (case hg => rfl); (case hr => first | (go_simp; done) | (go_simp; rfl)); intro gb342 hg w36 hbox hb; have BK342 := A_ (hbox); have GW342 := A_ ((by rw [hg]; exact (below_size (B_)) : w.heap.size ≤ gb342)); have GE342 := A_ ((by rw [hg]; exact (below_size (B_)) : w.heap.size ≤ gb342)); replace HB := A_ (below_step (B_) hb); clear hb hbox hg; have hcz37_0 : w36.cell? ⟨gb342, 0, none⟩ = some (.slice A0_0 l0_0.length c0_0) := (blk_cell BK342.out 0).trans rfl; have hcz37_1 : w36.cell? ⟨gb342, 1, none⟩ = some (.slice A0_1 l0_1.length c0_1) := (blk_cell BK342.out 1).trans rfl; have hfz37_0 := blk_frozen BK342.out 0; have hfz37_1 := blk_frozen BK342.out 1) | ((with_reducible refine gate_callee (f := 19) rfl ?_); refine goesL_ (some 12) rfl rfl Try.func19 (by kernel_rfl) rfl #[.agg #[.slice A0_0 l0_0.length c0_0, .slice A0_1 l0_1.length c0_1], .int .i64 0] rfl (by (try simp only [List.map_toArray, List.map_cons, List.map_nil]); first | done | rfl | (simp only [List.length_drop, List.length_take]; rfl)) ?_; (with_reducible refine (dom_Tree.calls k _ _ l0_0 _ _ l0_1 0 t343 _ ?side1 ?side2 ?side3 ?side4 A3.out).mono ?_); (case side1 => exact CX_ (Kd.C_below HR0_0.out HB.out)); (case side2 => exact HC0_0.out); (case side3 => exact CX_ (Kd.C_below HR0_1.out HB.out)); (case side4 => exact HC0_1.out); rintro e w38 ⟨v344, rfl, ho0, hb⟩; refine ⟨_, rfl, ?_⟩; have HO345 := A_ (Kd.R_lower ho0 (below_size (B1_))); replace BK342 := A_ (blk_below (g := gb342) (o := .cells #[.slice A0_0 l0_0.length c0_0, .slice A0_1 l0_1.length c0_1] 26 (0, 0)) (by exact KX_ BK342.out) hb); replace HB := A_ (below_step (B1_) hb); (try clear hb); (try clear hb2); (try clear hk); (try clear hi); (try clear ho0); obtain ⟨Ao39, co39, eo39⟩ := Kd.R_slice HO345.out; subst eo39) | ((with_reducible refine gate_callee (f := 20) rfl ?_); refine goesL_ (some 16) rfl rfl Try.func20 (by kernel_rfl) rfl #[.slice Ao39 t343.length co39, .int .i64 a1, .int .i64 a1] rfl (by (try simp only [List.map_toArray, List.map_cons, List.map_nil]); first | done | rfl | (simp only [List.length_drop, List.length_take]; rfl)) ?_; (with_reducible refine (dom_Over.calls k _ _ t343 a1 a1 false _ ?side1 ?side2 A4.out).mono ?_); (case side1 => repeat (first | exact (Kd.R_reads' HO345.out).2.2 | (with_reducible refine Kd.C_alloc ?_ _) | (with_reducible refine Kd.C_drewN ?_ _) | (with_reducible refine Kd.C_drew ?_))); (case side2 => exact (Kd.R_reads' HO345.out).2.1); rintro e w40 ⟨rfl, hb⟩; refine ⟨_, rfl, ?_⟩; replace HO345 := A_ (Kd.R_below (by exact RX_ HO345.out) hb); replace BK342 := A_ (blk_below (g := gb342) (o := .cells #[.slice A0_0 l0_0.length c0_0, .slice A0_1 l0_1.length c0_1] 26 (0, 0)) (by exact KX_ BK342.out) hb); replace HB := A_ (below_step (B1_) hb); (try clear hb); (try clear hb2); (try clear hk); (try clear hi)))
 go_ret
 exact ⟨_, by first | rfl | (simp [errW_none, errW_some] <;> rfl) | (simp [*, errW_none, errW_some] <;> rfl), by first | exact Kd.R_nil _ _ _ _ _ | exact Kd.N_nil _ _ _ _ _ | exact Kd.V_nil _ _ _ _ _ | exact Kd.Q_nil _ _ _ _ _ | exact Kd.S_nil _ _ _ _ _, B1_⟩


attribute [local go_sem high] eqA37
/-! ### locksteplaw09_awake: function 7 -/
def locksteplaw09_awake.f (k : Nat)  : Option (Bool) := (graph_Make.f k (([(([1, 2] : List Int)), (([3] : List Int)), (([3] : List Int)), []] : List (List Int)))).bind fun bt382 => ((dep_All.f k bt382.1 bt382.2.1).bind fun t390 => (if bt382.2.2 = 0 then (if (t390.length : Int) = 2 then (if 0 < (t390.length : Int) then (if (((rd_T37 t390 0).f0) == 1 && (((rd_T37 t390 0).f1) == 0 && (((rd_T37 t390 0).f2) == 1))) = true then (if 1 < (t390.length : Int) then (if (((rd_T37 t390 1).f0) == 2 && (((rd_T37 t390 1).f1) == 0 && (((rd_T37 t390 1).f2) == 2))) = true then ((dep_Frontier.f k bt382.1 bt382.2.1 1).bind fun t395 => ((lockstepref02_Ints.f k t395 (([3] : List Int))).bind fun t401 => (if t401 = true then ((dep_Of.f k bt382.1 bt382.2.1 3).bind fun t402 => (some ((t402.length : Int) == 0))) else (some false)))) else (some false)) else (none)) else (some false)) else (none)) else (some false)) else (some false)))
theorem locksteplaw09_awake.mono : ∀ k, LeO (locksteplaw09_awake.f k ) (locksteplaw09_awake.f (k + 1) ) := by
 intro  k
 unfold locksteplaw09_awake.f
 repeat' (with_reducible first | exact dep_All.mono _ _ _ | exact dep_Frontier.mono _ _ _ _ | exact dep_Of.mono _ _ _ _ | exact graph_Make.mono _ _ | exact lockstepref02_Ints.mono _ _ _ | exact LeO.refl _ | exact LeO.none _ | refine LeO.ite ?_ ?_ | refine LeO.bind ?_ (fun _ => ?_))
set_option maxHeartbeats 8000000 in
set_option maxRecDepth 100000 in
theorem locksteplaw09_awake.calls (k : Nat)  (w : World) (h : locksteplaw09_awake.f k  = some true) :
 Calls Try.prog 7 #[] w fun e w' => e = .returned (.bool true) ∧ Below w.heap.size w w' := by
 have hu26 := Try.underlying26
 have hu37 := Try.underlying37
 have HB := A_ (Below.refl w.heap.size w)
 have H : ((graph_Make.f k (([(([1, 2] : List Int)), (([3] : List Int)), (([3] : List Int)), []] : List (List Int)))).bind fun bt382 => ((dep_All.f k bt382.1 bt382.2.1).bind fun t390 => (if bt382.2.2 = 0 then (if (t390.length : Int) = 2 then (if 0 < (t390.length : Int) then (if (((rd_T37 t390 0).f0) == 1 && (((rd_T37 t390 0).f1) == 0 && (((rd_T37 t390 0).f2) == 1))) = true then (if 1 < (t390.length : Int) then (if (((rd_T37 t390 1).f0) == 2 && (((rd_T37 t390 1).f1) == 0 && (((rd_T37 t390 1).f2) == 2))) = true then ((dep_Frontier.f k bt382.1 bt382.2.1 1).bind fun t395 => ((lockstepref02_Ints.f k t395 (([3] : List Int))).bind fun t401 => (if t401 = true then ((dep_Of.f k bt382.1 bt382.2.1 3).bind fun t402 => (some ((t402.length : Int) == 0))) else (some false)))) else (some false)) else (none)) else (some false)) else (none)) else (some false)) else (some false)))) = some true := h
 clear h
 obtain ⟨y370, hy370⟩ : ∃ y_ : List Int, y_ = (([1, 2] : List Int)) := ⟨_, rfl⟩
 replace H : ((graph_Make.f k (([y370, (([3] : List Int)), (([3] : List Int)), []] : List (List Int)))).bind fun bt382 => ((dep_All.f k bt382.1 bt382.2.1).bind fun t390 => (if bt382.2.2 = 0 then (if (t390.length : Int) = 2 then (if 0 < (t390.length : Int) then (if (((rd_T37 t390 0).f0) == 1 && (((rd_T37 t390 0).f1) == 0 && (((rd_T37 t390 0).f2) == 1))) = true then (if 1 < (t390.length : Int) then (if (((rd_T37 t390 1).f0) == 2 && (((rd_T37 t390 1).f1) == 0 && (((rd_T37 t390 1).f2) == 2))) = true then ((dep_Frontier.f k bt382.1 bt382.2.1 1).bind fun t395 => ((lockstepref02_Ints.f k t395 (([3] : List Int))).bind fun t401 => (if t401 = true then ((dep_Of.f k bt382.1 bt382.2.1 3).bind fun t402 => (some ((t402.length : Int) == 0))) else (some false)))) else (some false)) else (none)) else (some false)) else (none)) else (some false)) else (some false)))) = some true := by first | (rw [hy370]; with_reducible exact H) | (have H2_ := (Option.bind_some _ _).symm.trans H; rw [hy370]; with_reducible exact H2_) | (have H2_ := (Option.bind_some _ _).symm.trans H; with_reducible exact H2_) | with_reducible exact H | (rw [hy370]; exact H) | exact H
 have Ny370 := Aside0.mk hy370
 clear hy370
 obtain ⟨y373, hy373⟩ : ∃ y_ : List Int, y_ = (([3] : List Int)) := ⟨_, rfl⟩
 replace H : ((graph_Make.f k (([y370, y373, (([3] : List Int)), []] : List (List Int)))).bind fun bt382 => ((dep_All.f k bt382.1 bt382.2.1).bind fun t390 => (if bt382.2.2 = 0 then (if (t390.length : Int) = 2 then (if 0 < (t390.length : Int) then (if (((rd_T37 t390 0).f0) == 1 && (((rd_T37 t390 0).f1) == 0 && (((rd_T37 t390 0).f2) == 1))) = true then (if 1 < (t390.length : Int) then (if (((rd_T37 t390 1).f0) == 2 && (((rd_T37 t390 1).f1) == 0 && (((rd_T37 t390 1).f2) == 2))) = true then ((dep_Frontier.f k bt382.1 bt382.2.1 1).bind fun t395 => ((lockstepref02_Ints.f k t395 (([3] : List Int))).bind fun t401 => (if t401 = true then ((dep_Of.f k bt382.1 bt382.2.1 3).bind fun t402 => (some ((t402.length : Int) == 0))) else (some false)))) else (some false)) else (none)) else (some false)) else (none)) else (some false)) else (some false)))) = some true := by first | (rw [hy373]; with_reducible exact H) | (have H2_ := (Option.bind_some _ _).symm.trans H; rw [hy373]; with_reducible exact H2_) | (have H2_ := (Option.bind_some _ _).symm.trans H; with_reducible exact H2_) | with_reducible exact H | (rw [hy373]; exact H) | exact H
 have Ny373 := Aside0.mk hy373
 clear hy373
 obtain ⟨y376, hy376⟩ : ∃ y_ : List Int, y_ = (([3] : List Int)) := ⟨_, rfl⟩
 replace H : ((graph_Make.f k (([y370, y373, y376, []] : List (List Int)))).bind fun bt382 => ((dep_All.f k bt382.1 bt382.2.1).bind fun t390 => (if bt382.2.2 = 0 then (if (t390.length : Int) = 2 then (if 0 < (t390.length : Int) then (if (((rd_T37 t390 0).f0) == 1 && (((rd_T37 t390 0).f1) == 0 && (((rd_T37 t390 0).f2) == 1))) = true then (if 1 < (t390.length : Int) then (if (((rd_T37 t390 1).f0) == 2 && (((rd_T37 t390 1).f1) == 0 && (((rd_T37 t390 1).f2) == 2))) = true then ((dep_Frontier.f k bt382.1 bt382.2.1 1).bind fun t395 => ((lockstepref02_Ints.f k t395 (([3] : List Int))).bind fun t401 => (if t401 = true then ((dep_Of.f k bt382.1 bt382.2.1 3).bind fun t402 => (some ((t402.length : Int) == 0))) else (some false)))) else (some false)) else (none)) else (some false)) else (none)) else (some false)) else (some false)))) = some true := by first | (rw [hy376]; with_reducible exact H) | (have H2_ := (Option.bind_some _ _).symm.trans H; rw [hy376]; with_reducible exact H2_) | (have H2_ := (Option.bind_some _ _).symm.trans H; with_reducible exact H2_) | with_reducible exact H | (rw [hy376]; exact H) | exact H
 have Ny376 := Aside0.mk hy376
 clear hy376
 obtain ⟨y379, hy379⟩ : ∃ y_ : List (List Int), y_ = (([y370, y373, y376, []] : List (List Int))) := ⟨_, rfl⟩
 replace H : ((graph_Make.f k y379).bind fun bt382 => ((dep_All.f k bt382.1 bt382.2.1).bind fun t390 => (if bt382.2.2 = 0 then (if (t390.length : Int) = 2 then (if 0 < (t390.length : Int) then (if (((rd_T37 t390 0).f0) == 1 && (((rd_T37 t390 0).f1) == 0 && (((rd_T37 t390 0).f2) == 1))) = true then (if 1 < (t390.length : Int) then (if (((rd_T37 t390 1).f0) == 2 && (((rd_T37 t390 1).f1) == 0 && (((rd_T37 t390 1).f2) == 2))) = true then ((dep_Frontier.f k bt382.1 bt382.2.1 1).bind fun t395 => ((lockstepref02_Ints.f k t395 (([3] : List Int))).bind fun t401 => (if t401 = true then ((dep_Of.f k bt382.1 bt382.2.1 3).bind fun t402 => (some ((t402.length : Int) == 0))) else (some false)))) else (some false)) else (none)) else (some false)) else (none)) else (some false)) else (some false)))) = some true := by first | (rw [hy379]; with_reducible exact H) | (have H2_ := (Option.bind_some _ _).symm.trans H; rw [hy379]; with_reducible exact H2_) | (have H2_ := (Option.bind_some _ _).symm.trans H; with_reducible exact H2_) | with_reducible exact H | (rw [hy379]; exact H) | exact H
 have Ny379 := Aside0.mk hy379
 clear hy379
 replace H := Option.bind_eq_some_iff.mp H
 obtain ⟨⟨t382, t385, t388⟩, A10, H⟩ := H
 try dsimp only at H
 have A1 := Aside0.mk A10
 clear A10
 replace H := Option.bind_eq_some_iff.mp H
 obtain ⟨t390, A20, H⟩ := H
 try dsimp only at H
 have A2 := Aside0.mk A20
 clear A20
 by_cases c3 : t388 = 0
 ·rw [if_pos c3] at H
  have c3b0 : (t388 == 0) = true := beq_iff_eq.mpr c3
  have c3b1 : (t388 != 0) = false := bne_eq_false_iff_eq.mpr c3
  clear c3
  by_cases c4 : (t390.length : Int) = 2
  ·rw [if_pos c4] at H
   have c4b0 : ((t390.length : Int) == 2) = true := beq_iff_eq.mpr c4
   have c4b1 : ((t390.length : Int) != 2) = false := bne_eq_false_iff_eq.mpr c4
   clear c4
   by_cases c5 : 0 < (t390.length : Int)
   ·rw [if_pos c5] at H
    have c5b0 : decide (0 < (t390.length : Int)) = true := decide_eq_true c5
    have c5b1 : decide (0 < t390.length) = true := decide_eq_true (by omega)
    clear c5
    by_cases c6 : (((rd_T37 t390 0).f0) == 1 && (((rd_T37 t390 0).f1) == 0 && (((rd_T37 t390 0).f2) == 1))) = true
    ·rw [if_pos c6] at H
     have c6b0 : (((rd_T37 t390 0).f0) == 1 && (((rd_T37 t390 0).f1) == 0 && (((rd_T37 t390 0).f2) == 1))) = true := c6
     (try (have c6b1 : decide (((rd_T37 t390 0).f0) = 1 && (((rd_T37 t390 0).f1) == 0 && (((rd_T37 t390 0).f2) == 1))) = true := by simpa using c6))
     (try (have c6b2 : (((rd_T37 t390 0).f0) == 1 && (((rd_T37 t390 0).f1) == 0 && (((rd_T37 t390 0).f2) == 1))) = true := by simpa using c6))
     clear c6
     by_cases c7 : 1 < (t390.length : Int)
     ·rw [if_pos c7] at H
      have c7b0 : decide (1 < (t390.length : Int)) = true := decide_eq_true c7
      have c7b1 : decide (1 < t390.length) = true := decide_eq_true (by omega)
      clear c7
      by_cases c8 : (((rd_T37 t390 1).f0) == 2 && (((rd_T37 t390 1).f1) == 0 && (((rd_T37 t390 1).f2) == 2))) = true
      ·rw [if_pos c8] at H
       have c8b0 : (((rd_T37 t390 1).f0) == 2 && (((rd_T37 t390 1).f1) == 0 && (((rd_T37 t390 1).f2) == 2))) = true := c8
       (try (have c8b1 : decide (((rd_T37 t390 1).f0) = 2 && (((rd_T37 t390 1).f1) == 0 && (((rd_T37 t390 1).f2) == 2))) = true := by simpa using c8))
       (try (have c8b2 : (((rd_T37 t390 1).f0) == 2 && (((rd_T37 t390 1).f1) == 0 && (((rd_T37 t390 1).f2) == 2))) = true := by simpa using c8))
       clear c8
       replace H := Option.bind_eq_some_iff.mp H
       obtain ⟨t395, A90, H⟩ := H
       try dsimp only at H
       have A9 := Aside0.mk A90
       clear A90
       obtain ⟨y398, hy398⟩ : ∃ y_ : List Int, y_ = (([3] : List Int)) := ⟨_, rfl⟩
       replace H : ((lockstepref02_Ints.f k t395 y398).bind fun t401 => (if t401 = true then ((dep_Of.f k t382 t385 3).bind fun t402 => (some ((t402.length : Int) == 0))) else (some false))) = some true := by first | (rw [hy398]; with_reducible exact H) | (have H2_ := (Option.bind_some _ _).symm.trans H; rw [hy398]; with_reducible exact H2_) | (have H2_ := (Option.bind_some _ _).symm.trans H; with_reducible exact H2_) | with_reducible exact H | (rw [hy398]; exact H) | exact H
       have Ny398 := Aside0.mk hy398
       clear hy398
       replace H := Option.bind_eq_some_iff.mp H
       obtain ⟨t401, A100, H⟩ := H
       try dsimp only at H
       have A10 := Aside0.mk A100
       clear A100
       by_cases c11 : t401 = true
       ·subst c11
        have H1 : ((dep_Of.f k t382 t385 3).bind fun t402 => (some ((t402.length : Int) == 0))) = some true := by rw [if_pos rfl] at H; exact H
        clear H
        have H := H1
        clear H1
        replace H := Option.bind_eq_some_iff.mp H
        obtain ⟨t402, A120, H⟩ := H
        try dsimp only at H
        have A12 := Aside0.mk A120
        clear A120
        have HR_ := A_ (Option.some.inj H)
        clear H
        go_enter Try.func7, Try.ntmps7
        go_wp2_with (first | ((with_reducible refine gate_dst (N := 5) rfl ?_); (try (refine gate_guard (by rfl) ?_; dsimp only)); refine Kd.R_lit (Kd.int .i64) _ 3 ?hg (N := 5) ?hd (xs := ([1, 2] : List Int)) (inner := [.int .i64 1, .int .i64 2]) (ok := fun _ => True) (okp := fun _ => True) ?hr ?hp (fun _ hk => hk) trivial (Below.refl _ _) (Nat.le_refl _) (by simp) ?_; (case hd => rfl); (case hg => rfl); (case hr => first | (go_simp; done) | (go_simp; rfl)); (case hp => exact (Reps.one (show Kd.M (Kd.int .i64) _ _ _ 1 [.int .i64 1] from rfl) (Reps.one (show Kd.M (Kd.int .i64) _ _ _ 2 [.int .i64 2] from rfl) (Reps.none _ _)))); intro v371 w13 ho14 hb hg_ hnew_; clear hg_ hnew_; (first | rw [← Ny370.out] at ho14 | (simp only [Int.reduceToNat] at ho14; rw [← Ny370.out] at ho14)); have HO372 := A_ (Kd.R_lower ho14 (below_size (B_))); replace HB := A_ (below_step (B_) hb); clear hb ho14) | ((with_reducible refine gate_dst (N := 6) rfl ?_); (try (refine gate_guard (by rfl) ?_; dsimp only)); refine Kd.R_lit (Kd.int .i64) _ 3 ?hg (N := 6) ?hd (xs := ([3] : List Int)) (inner := [.int .i64 3]) (ok := fun _ => True) (okp := fun _ => True) ?hr ?hp (fun _ hk => hk) trivial (Below.refl _ _) (Nat.le_refl _) (by simp) ?_; (case hd => rfl); (case hg => rfl); (case hr => first | (go_simp; done) | (go_simp; rfl)); (case hp => exact (Reps.one (show Kd.M (Kd.int .i64) _ _ _ 3 [.int .i64 3] from rfl) (Reps.none _ _))); intro v374 w15 ho16 hb hg_ hnew_; clear hg_ hnew_; (first | rw [← Ny373.out] at ho16 | (simp only [Int.reduceToNat] at ho16; rw [← Ny373.out] at ho16)); have HO375 := A_ (Kd.R_lower (Kd.R_new' ho16 (Kd.R_lt (by exact RX_ HO372.out))) (below_size (B_))); replace HO372 := A_ (Kd.R_elder' (by exact RX_ HO372.out) (Kd.R_base ho16) hb); replace HB := A_ (below_step (B_) hb); clear hb ho16) | ((with_reducible refine gate_dst (N := 7) rfl ?_); (try (refine gate_guard (by rfl) ?_; dsimp only)); refine Kd.R_lit (Kd.int .i64) _ 3 ?hg (N := 7) ?hd (xs := ([3] : List Int)) (inner := [.int .i64 3]) (ok := fun _ => True) (okp := fun _ => True) ?hr ?hp (fun _ hk => hk) trivial (Below.refl _ _) (Nat.le_refl _) (by simp) ?_; (case hd => rfl); (case hg => rfl); (case hr => first | (go_simp; done) | (go_simp; rfl)); (case hp => exact (Reps.one (show Kd.M (Kd.int .i64) _ _ _ 3 [.int .i64 3] from rfl) (Reps.none _ _))); intro v377 w17 ho18 hb hg_ hnew_; clear hg_ hnew_; (first | rw [← Ny376.out] at ho18 | (simp only [Int.reduceToNat] at ho18; rw [← Ny376.out] at ho18)); have HO378 := A_ (Kd.R_lower (Kd.R_new' (Kd.R_new' ho18 (Kd.R_lt (by exact RX_ HO372.out))) (Kd.R_lt (by exact RX_ HO375.out))) (below_size (B_))); replace HO372 := A_ (Kd.R_elder' (by exact RX_ HO372.out) (Kd.R_base ho18) hb); replace HO375 := A_ (Kd.R_elder' (by exact RX_ HO375.out) (Kd.R_base ho18) hb); replace HB := A_ (below_step (B_) hb); clear hb ho18; obtain ⟨Ao19, co19, eo19⟩ := Kd.R_slice HO372.out; subst eo19; obtain ⟨Ao20, co20, eo20⟩ := Kd.R_slice HO375.out; subst eo20; obtain ⟨Ao21, co21, eo21⟩ := Kd.R_slice HO378.out; subst eo21) | ((with_reducible refine gate_dst (N := 8) rfl ?_); (try (refine gate_guard (by rfl) ?_; dsimp only)); refine Kd.N_lit (Kd.slice 3 (Kd.int .i64)) _ 31 ?hg (N' := 8) ?hd (xs := ([y370, y373, y376, []] : List (List Int))) (inner := [.slice Ao19 y370.length co19, .slice Ao20 y373.length co20, .slice Ao21 y376.length co21, .slice none 0 0]) (ok := (fun _ => True)) (okp := (fun _ => True)) ?hr ?hp (fun _ hk => hk) ((show ∀ k_, w17.heap.size ≤ k_ → (fun _ => True) k_ from fun k_ hk => trivial) _ (Nat.le_refl _)) (Below.refl _ _) (Nat.le_refl _) (by simp) ?_; (case hd => rfl); (case hg => rfl); (case hr => first | (go_simp; done) | (go_simp; rfl)); (case hp => exact (Reps.one (show Kd.FK (Kd.slice 3 (Kd.int .i64)) _ _ y370 [.slice Ao19 y370.length co19] from (Kd.FK_slice_mk (Kd.R_reads' (Kd.R_mono (ok' := (fun _ => True)) (HO372.out) (fun k_ hk => trivial))).2.1 (Kd.R_F (Kd.R_mono (ok' := (fun _ => True)) (HO372.out) (fun k_ hk => trivial))))) (Reps.one (show Kd.FK (Kd.slice 3 (Kd.int .i64)) _ _ y373 [.slice Ao20 y373.length co20] from (Kd.FK_slice_mk (Kd.R_reads' (Kd.R_mono (ok' := (fun _ => True)) (HO375.out) (fun k_ hk => trivial))).2.1 (Kd.R_F (Kd.R_mono (ok' := (fun _ => True)) (HO375.out) (fun k_ hk => trivial))))) (Reps.one (show Kd.FK (Kd.slice 3 (Kd.int .i64)) _ _ y376 [.slice Ao21 y376.length co21] from (Kd.FK_slice_mk (Kd.R_reads' (Kd.R_mono (ok' := (fun _ => True)) (HO378.out) (fun k_ hk => trivial))).2.1 (Kd.R_F (Kd.R_mono (ok' := (fun _ => True)) (HO378.out) (fun k_ hk => trivial))))) (Reps.one (show Kd.FK (Kd.slice 3 (Kd.int .i64)) _ _ [] [.slice none 0 0] from (Kd.FK_slice_mk (Nat.le_refl _) (Kd.F_nil _ _ _))) (Reps.none _ _)))))); intro v380 w22 ho23 hb hg_ hnew_; clear hg_ hnew_; (first | rw [← Ny379.out] at ho23 | (simp only [Int.reduceToNat] at ho23; rw [← Ny379.out] at ho23)); have HO381 := A_ (Kd.N_lower ho23 (below_size (B_))); replace HB := A_ (below_step (B_) hb); clear HO372 HO375 HO378; clear hb ho23; obtain ⟨Ao24, co24, eo24⟩ := Kd.N_slice HO381.out; subst eo24) | ((with_reducible refine gate_callee (f := 15) rfl ?_); refine goesL_ (some 9) rfl rfl Try.func15 (by kernel_rfl) rfl #[.slice Ao24 y379.length co24] rfl (by (try simp only [List.map_toArray, List.map_cons, List.map_nil]); first | done | rfl | (simp only [List.length_drop, List.length_take]; rfl)) ?_; (with_reducible refine (graph_Make.calls k _ _ y379 t382 t385 t388 _ ?side1 ?side2 A1.out).mono ?_); (case side1 => repeat (first | exact (Kd.N_reads' HO381.out).2.2 | (with_reducible refine Kd.C_alloc ?_ _) | (with_reducible refine Kd.C_drewN ?_ _) | (with_reducible refine Kd.C_drew ?_))); (case side2 => exact (Kd.N_reads' HO381.out).2.1); rintro e w25 ⟨v383, v386, rfl, ho0, ho1, hb⟩; refine ⟨_, rfl, ?_⟩; have HO384 := A_ (Kd.N_lower (Kd.N_mono (ok' := fun k_ => some k_ ≠ (v386 : Value).ownBlock ∧ some k_ ≠ (.slice Ao24 y379.length co24 : Value).ownBlock) (Kd.S_N (Kd.S_bound ho0)) (fun k_ hk_ => ⟨hk_.1, (Kd.fresh' (Kd.N_lt (by (with_reducible repeat (first | apply Kd.N_alloc | apply Kd.N_drewN | apply Kd.N_drew)); exact HO381.out)) k_ hk_.2.1)⟩)) (below_size (B_))); have HO387 := A_ (Kd.N_lower (Kd.N_mono (ok' := fun k_ => some k_ ≠ (v383 : Value).ownBlock ∧ some k_ ≠ (.slice Ao24 y379.length co24 : Value).ownBlock) (Kd.S_N (Kd.S_bound ho1)) (fun k_ hk_ => ⟨hk_.1, (Kd.fresh' (Kd.N_lt (by (with_reducible repeat (first | apply Kd.N_alloc | apply Kd.N_drewN | apply Kd.N_drew)); exact HO381.out)) k_ hk_.2.1)⟩)) (below_size (B_))); replace HO381 := A_ (Kd.N_mono (Kd.N_told (Kd.N_told (Kd.N_old (by (with_reducible repeat (first | apply Kd.N_alloc | apply Kd.N_drewN | apply Kd.N_drew)); exact HO381.out) hb) (Kd.N_base (Kd.S_N ho0))) (Kd.N_base (Kd.S_N ho1))) (fun _ h_ => h_.1)); replace HB := A_ (below_step (B_) hb); (try clear hb); (try clear hb2); (try clear hk); (try clear hi); (try clear ho0); (try clear ho1)) | ((with_reducible refine gate_dst (N := 1) rfl ?_); (try (refine gate_guard (by rfl) ?_; dsimp only)); refine box_event ?hg (N := 1) ?hd (cs := #[.slice none 0 0, .slice none 0 0]) (t := 26) ?hr ?_; (case hd => rfl); (case hg => rfl); (case hr => first | (go_simp; done) | (go_simp; rfl)); intro gb389 hg w26 hbox hb; replace HO381 := A_ (Kd.N_below (Kd.N_elderB (by (with_reducible repeat (first | apply Kd.N_alloc | apply Kd.N_drewN | apply Kd.N_drew)); exact HO381.out) gb389 (Nat.le_of_eq hg.symm)) hb); replace HO384 := A_ (Kd.N_below (Kd.N_elderB (by (with_reducible repeat (first | apply Kd.N_alloc | apply Kd.N_drewN | apply Kd.N_drew)); exact HO384.out) gb389 (Nat.le_of_eq hg.symm)) hb); replace HO387 := A_ (Kd.N_below (Kd.N_elderB (by (with_reducible repeat (first | apply Kd.N_alloc | apply Kd.N_drewN | apply Kd.N_drew)); exact HO387.out) gb389 (Nat.le_of_eq hg.symm)) hb); have BK389 := A_ (hbox); have GW389 := A_ ((by rw [hg]; exact (below_size (B_)) : w.heap.size ≤ gb389)); have GE389 := A_ ((by rw [hg]; exact (below_size (B_)) : w.heap.size ≤ gb389)); replace HB := A_ (below_step (B_) hb); clear hb hbox hg; obtain ⟨Ao27, co27, eo27⟩ := Kd.N_slice HO384.out; subst eo27; have hcz28_0 : w26.cell? ⟨gb389, 0, none⟩ = some (.slice none 0 0) := (blk_cell BK389.out 0).trans rfl; have hcz28_1 : w26.cell? ⟨gb389, 1, none⟩ = some (.slice none 0 0) := (blk_cell BK389.out 1).trans rfl; have hfz28_0 := blk_frozen BK389.out 0; have hfz28_1 := blk_frozen BK389.out 1; obtain ⟨Ao29, co29, eo29⟩ := Kd.N_slice HO387.out; subst eo29) | ((with_reducible refine gate_callee (f := 10) rfl ?_); refine goesL_ (some 13) rfl rfl Try.func10 (by kernel_rfl) rfl #[.agg #[.slice Ao27 t382.length co27, .slice Ao29 t385.length co29]] rfl (by (try simp only [List.map_toArray, List.map_cons, List.map_nil]); first | done | rfl | (simp only [List.length_drop, List.length_take]; rfl)) ?_; (with_reducible refine (dep_All.calls k _ _ t382 _ _ t385 t390 _ ?side1 ?side2 ?side3 ?side4 A2.out).mono ?_); (case side1 => refine (Kd.N_reads' (e := 31) (base := w.heap.size) (ok := fun k_ => ((some k_ ≠ (.slice Ao29 t385.length co29 : Value).ownBlock ∧ some k_ ≠ (.slice Ao24 y379.length co24 : Value).ownBlock) ∧ k_ ≠ gb389)) (n := t382.length) (c := co27) ?_).2.2; exact (by (with_reducible repeat (first | apply Kd.N_alloc | apply Kd.N_drewN | apply Kd.N_drew)); exact (Kd.N_mono (Kd.N_far (p := ⟨gb389, 1, none⟩) (Kd.N_far (p := ⟨gb389, 0, none⟩) (Kd.N_mono HO384.out (fun k_ hk => (⟨hk, hk.2⟩ : _ ∧ k_ ≠ gb389))) (fun _ hk => hk.2) (.slice Ao27 t382.length co27)) (fun _ hk => hk.2) (.slice Ao29 t385.length co29)) (fun _ h_ => h_.1)))); (case side2 => exact (Kd.N_reads' HO384.out).2.1); (case side3 => refine (Kd.N_reads' (e := 31) (base := w.heap.size) (ok := fun k_ => ((some k_ ≠ (.slice Ao27 t382.length co27 : Value).ownBlock ∧ some k_ ≠ (.slice Ao24 y379.length co24 : Value).ownBlock) ∧ k_ ≠ gb389)) (n := t385.length) (c := co29) ?_).2.2; exact (by (with_reducible repeat (first | apply Kd.N_alloc | apply Kd.N_drewN | apply Kd.N_drew)); exact (Kd.N_mono (Kd.N_far (p := ⟨gb389, 1, none⟩) (Kd.N_far (p := ⟨gb389, 0, none⟩) (Kd.N_mono HO387.out (fun k_ hk => (⟨hk, hk.2⟩ : _ ∧ k_ ≠ gb389))) (fun _ hk => hk.2) (.slice Ao27 t382.length co27)) (fun _ hk => hk.2) (.slice Ao29 t385.length co29)) (fun _ h_ => h_.1)))); (case side4 => exact (Kd.N_reads' HO387.out).2.1); rintro e w30 ⟨v391, rfl, ho0, hb⟩; refine ⟨_, rfl, ?_⟩; replace HO381 := A_ (Kd.N_elder' (by (with_reducible repeat (first | apply Kd.N_alloc | apply Kd.N_drewN | apply Kd.N_drew)); exact (Kd.N_mono (Kd.N_far (p := ⟨gb389, 1, none⟩) (Kd.N_far (p := ⟨gb389, 0, none⟩) (Kd.N_mono HO381.out (fun k_ hk => (⟨hk, hk.2⟩ : _ ∧ k_ ≠ gb389))) (fun _ hk => hk.2) (.slice Ao27 t382.length co27)) (fun _ hk => hk.2) (.slice Ao29 t385.length co29)) (fun _ h_ => h_.1))) (Kd.R_base ho0) hb); replace HO384 := A_ (Kd.N_elder' (by (with_reducible repeat (first | apply Kd.N_alloc | apply Kd.N_drewN | apply Kd.N_drew)); exact (Kd.N_mono (Kd.N_far (p := ⟨gb389, 1, none⟩) (Kd.N_far (p := ⟨gb389, 0, none⟩) (Kd.N_mono HO384.out (fun k_ hk => (⟨hk, hk.2⟩ : _ ∧ k_ ≠ gb389))) (fun _ hk => hk.2) (.slice Ao27 t382.length co27)) (fun _ hk => hk.2) (.slice Ao29 t385.length co29)) (fun _ h_ => h_.1))) (Kd.R_base ho0) hb); replace HO387 := A_ (Kd.N_elder' (by (with_reducible repeat (first | apply Kd.N_alloc | apply Kd.N_drewN | apply Kd.N_drew)); exact (Kd.N_mono (Kd.N_far (p := ⟨gb389, 1, none⟩) (Kd.N_far (p := ⟨gb389, 0, none⟩) (Kd.N_mono HO387.out (fun k_ hk => (⟨hk, hk.2⟩ : _ ∧ k_ ≠ gb389))) (fun _ hk => hk.2) (.slice Ao27 t382.length co27)) (fun _ hk => hk.2) (.slice Ao29 t385.length co29)) (fun _ h_ => h_.1))) (Kd.R_base ho0) hb); have HO392 := A_ (Kd.R_lower ho0 (below_size (B1_))); replace BK389 := A_ (blk_below (g := gb389) (o := .cells #[.slice Ao27 t382.length co27, .slice Ao29 t385.length co29] 26 (0, 0)) (by (with_reducible repeat (first | refine blk_drewN ?_ _ | refine blk_drew ?_ | refine blk_alloc ?_ _)); refine blk_put (cs := #[.slice Ao27 t382.length co27, .slice none 0 0]) ?_ 1 _ rfl; (with_reducible repeat (first | refine blk_drewN ?_ _ | refine blk_drew ?_ | refine blk_alloc ?_ _)); refine blk_put (cs := #[.slice none 0 0, .slice none 0 0]) ?_ 0 _ rfl; exact KX_ BK389.out) hb); replace HB := A_ (below_step (B1_) hb); (try clear hb); (try clear hb2); (try clear hk); (try clear hi); (try clear ho0); obtain ⟨Ao31, co31, eo31⟩ := Kd.R_slice HO392.out; subst eo31; have p393 : 0 ≤ (0 : Int) := (by omega); have q393 : 0 < (t390.length : Int) := D_; obtain ⟨ad393, e393, hx393_0, hx393_1, hx393_2⟩ := at_T37 (Kd.R_reads' HO392.out).2.2 0 p393 q393; cases e393; have qi393 : (0 < t390.length) = True := eq_true (by omega); (try rw [show ((0 : Int)).toNat = 0 from rfl] at hx393_0); (try rw [show 0 * 3 = 0 from rfl] at hx393_0); (try rw [Addr.add_zero'] at hx393_0); (try rw [show ((0 : Int)).toNat = 0 from rfl] at hx393_1); (try rw [show 0 * 3 = 0 from rfl] at hx393_1); (try rw [Addr.add_zero'] at hx393_1); (try rw [show ((0 : Int)).toNat = 0 from rfl] at hx393_2); (try rw [show 0 * 3 = 0 from rfl] at hx393_2); (try rw [Addr.add_zero'] at hx393_2); replace p393 := eq_true p393; replace q393 := eq_true q393; have p394 : 0 ≤ (1 : Int) := (by omega); have q394 : 1 < (t390.length : Int) := D_; obtain ⟨ad394, e394, hx394_0, hx394_1, hx394_2⟩ := at_T37 (Kd.R_reads' HO392.out).2.2 1 p394 q394; obtain rfl : ad393 = ad394 := (by injection e394); (try simp only [show (1 : Int).toNat = 1 from rfl, Nat.reduceMul, Nat.reduceEqDiff, Go.Addr.add, ↓reduceIte] at hx394_0); (try simp only [show (1 : Int).toNat = 1 from rfl, Nat.reduceMul, Nat.reduceEqDiff, Go.Addr.add, ↓reduceIte] at hx394_1); (try simp only [show (1 : Int).toNat = 1 from rfl, Nat.reduceMul, Nat.reduceEqDiff, Go.Addr.add, ↓reduceIte] at hx394_2); have qi394 : (1 < t390.length) = True := eq_true (by omega); (try rw [show ((1 : Int)).toNat = 1 from rfl] at hx394_0); (try rw [show 1 * 3 = 3 from rfl] at hx394_0); (try rw [show ((1 : Int)).toNat = 1 from rfl] at hx394_1); (try rw [show 1 * 3 = 3 from rfl] at hx394_1); (try rw [show ((1 : Int)).toNat = 1 from rfl] at hx394_2); (try rw [show 1 * 3 = 3 from rfl] at hx394_2); replace p394 := eq_true p394; replace q394 := eq_true q394; have hcz32_0 : w30.cell? ⟨gb389, 0, none⟩ = some (.slice Ao27 t382.length co27) := (blk_cell BK389.out 0).trans rfl; have hcz32_1 : w30.cell? ⟨gb389, 1, none⟩ = some (.slice Ao29 t385.length co29) := (blk_cell BK389.out 1).trans rfl; have hfz32_0 := blk_frozen BK389.out 0; have hfz32_1 := blk_frozen BK389.out 1) | (go_at_call 13; (with_reducible refine (dep_Frontier.calls k _ _ t382 _ _ t385 1 t395 _ ?side1 ?side2 ?side3 ?side4 A9.out).mono ?_); (case side1 => repeat (first | exact (Kd.N_reads' HO384.out).2.2 | (with_reducible refine Kd.C_alloc ?_ _) | (with_reducible refine Kd.C_drewN ?_ _) | (with_reducible refine Kd.C_drew ?_))); (case side2 => exact (Kd.N_reads' HO384.out).2.1); (case side3 => repeat (first | exact (Kd.N_reads' HO387.out).2.2 | (with_reducible refine Kd.C_alloc ?_ _) | (with_reducible refine Kd.C_drewN ?_ _) | (with_reducible refine Kd.C_drew ?_))); (case side4 => exact (Kd.N_reads' HO387.out).2.1); rintro e w33 ⟨v396, rfl, ho0, hb⟩; replace HO381 := A_ (Kd.N_elder' (by (with_reducible repeat (first | apply Kd.N_alloc | apply Kd.N_drewN | apply Kd.N_drew)); exact HO381.out) (Kd.R_base ho0) hb); replace HO384 := A_ (Kd.N_elder' (by (with_reducible repeat (first | apply Kd.N_alloc | apply Kd.N_drewN | apply Kd.N_drew)); exact HO384.out) (Kd.R_base ho0) hb); replace HO387 := A_ (Kd.N_elder' (by (with_reducible repeat (first | apply Kd.N_alloc | apply Kd.N_drewN | apply Kd.N_drew)); exact HO387.out) (Kd.R_base ho0) hb); replace HO392 := A_ (Kd.R_below (by exact RX_ HO392.out) hb); have HO397 := A_ (Kd.R_lower ho0 (below_size (B1_))); replace BK389 := A_ (blk_below (g := gb389) (o := .cells #[.slice Ao27 t382.length co27, .slice Ao29 t385.length co29] 26 (0, 0)) (by exact KX_ BK389.out) hb); replace HB := A_ (below_step (B1_) hb); (try clear hb); (try clear hb2); (try clear hk); (try clear hi); (try clear ho0)) | ((with_reducible refine gate_dst (N := 38) rfl ?_); (try (refine gate_guard (by rfl) ?_; dsimp only)); refine Kd.R_lit (Kd.int .i64) _ 3 ?hg (N := 38) ?hd (xs := ([3] : List Int)) (inner := [.int .i64 3]) (ok := fun _ => True) (okp := fun _ => True) ?hr ?hp (fun _ hk => hk) trivial (Below.refl _ _) (Nat.le_refl _) (by simp) ?_; (case hd => rfl); (case hg => rfl); (case hr => first | (go_simp; done) | (go_simp; rfl)); (case hp => exact (Reps.one (show Kd.M (Kd.int .i64) _ _ _ 3 [.int .i64 3] from rfl) (Reps.none _ _))); intro v399 w34 ho35 hb hg_ hnew_; clear hg_ hnew_; (first | rw [← Ny398.out] at ho35 | (simp only [Int.reduceToNat] at ho35; rw [← Ny398.out] at ho35)); replace HO381 := A_ (Kd.N_elder' (by (with_reducible repeat (first | apply Kd.N_alloc | apply Kd.N_drewN | apply Kd.N_drew)); exact HO381.out) (Kd.R_base ho35) hb); replace HO384 := A_ (Kd.N_elder' (by (with_reducible repeat (first | apply Kd.N_alloc | apply Kd.N_drewN | apply Kd.N_drew)); exact HO384.out) (Kd.R_base ho35) hb); replace HO387 := A_ (Kd.N_elder' (by (with_reducible repeat (first | apply Kd.N_alloc | apply Kd.N_drewN | apply Kd.N_drew)); exact HO387.out) (Kd.R_base ho35) hb); replace HO392 := A_ (Kd.R_below (by exact RX_ HO392.out) hb); have HO400 := A_ (Kd.R_lower (Kd.R_new' ho35 (Kd.R_lt (by exact RX_ HO397.out))) (below_size (B1_))); replace HO397 := A_ (Kd.R_elder' (by exact RX_ HO397.out) (Kd.R_base ho35) hb); replace BK389 := A_ (blk_below (g := gb389) (o := .cells #[.slice Ao27 t382.length co27, .slice Ao29 t385.length co29] 26 (0, 0)) (by exact KX_ BK389.out) hb); replace HB := A_ (below_step (B1_) hb); clear hb ho35; obtain ⟨Ao36, co36, eo36⟩ := Kd.R_slice HO397.out; subst eo36; obtain ⟨Ao37, co37, eo37⟩ := Kd.R_slice HO400.out; subst eo37) | (go_at_call 12; (with_reducible refine (lockstepref02_Ints.calls k _ _ t395 _ _ y398 true _ ?side1 ?side2 ?side3 ?side4 A10.out).mono ?_); (case side1 => repeat (first | exact (Kd.R_reads' HO397.out).2.2 | (with_reducible refine Kd.C_alloc ?_ _) | (with_reducible refine Kd.C_drewN ?_ _) | (with_reducible refine Kd.C_drew ?_))); (case side2 => exact (Kd.R_reads' HO397.out).2.1); (case side3 => repeat (first | exact (Kd.R_reads' HO400.out).2.2 | (with_reducible refine Kd.C_alloc ?_ _) | (with_reducible refine Kd.C_drewN ?_ _) | (with_reducible refine Kd.C_drew ?_))); (case side4 => exact (Kd.R_reads' HO400.out).2.1); rintro e w' ⟨rfl, ⟨nd, rfl⟩⟩; have hcz38_0 : w34.cell? ⟨gb389, 0, none⟩ = some (.slice Ao27 t382.length co27) := (blk_cell BK389.out 0).trans rfl; have hcz38_1 : w34.cell? ⟨gb389, 1, none⟩ = some (.slice Ao29 t385.length co29) := (blk_cell BK389.out 1).trans rfl; have hfz38_0 := blk_frozen BK389.out 0; have hfz38_1 := blk_frozen BK389.out 1) | (go_at_call 16; (with_reducible refine (dep_Of.calls k _ _ t382 _ _ t385 3 t402 _ ?side1 ?side2 ?side3 ?side4 A12.out).mono ?_); (case side1 => repeat (first | exact (Kd.N_reads' HO384.out).2.2 | (with_reducible refine Kd.C_alloc ?_ _) | (with_reducible refine Kd.C_drewN ?_ _) | (with_reducible refine Kd.C_drew ?_))); (case side2 => exact (Kd.N_reads' HO384.out).2.1); (case side3 => repeat (first | exact (Kd.N_reads' HO387.out).2.2 | (with_reducible refine Kd.C_alloc ?_ _) | (with_reducible refine Kd.C_drewN ?_ _) | (with_reducible refine Kd.C_drew ?_))); (case side4 => exact (Kd.N_reads' HO387.out).2.1); rintro e w39 ⟨v403, rfl, ho0, hb⟩; replace HO381 := A_ (Kd.N_elder' (by (with_reducible repeat (first | apply Kd.N_alloc | apply Kd.N_drewN | apply Kd.N_drew)); exact HO381.out) (Kd.R_base ho0) hb); replace HO384 := A_ (Kd.N_elder' (by (with_reducible repeat (first | apply Kd.N_alloc | apply Kd.N_drewN | apply Kd.N_drew)); exact HO384.out) (Kd.R_base ho0) hb); replace HO387 := A_ (Kd.N_elder' (by (with_reducible repeat (first | apply Kd.N_alloc | apply Kd.N_drewN | apply Kd.N_drew)); exact HO387.out) (Kd.R_base ho0) hb); replace HO397 := A_ (Kd.R_below (by exact RX_ HO397.out) hb); replace HO400 := A_ (Kd.R_below (by exact RX_ HO400.out) hb); have HO404 := A_ (Kd.R_lower (Kd.R_new' ho0 (Kd.R_lt (by exact RX_ HO392.out))) (below_size (B1_))); replace HO392 := A_ (Kd.R_elder' (by exact RX_ HO392.out) (Kd.R_base ho0) hb); replace BK389 := A_ (blk_below (g := gb389) (o := .cells #[.slice Ao27 t382.length co27, .slice Ao29 t385.length co29] 26 (0, 0)) (by exact KX_ BK389.out) hb); replace HB := A_ (below_step (B1_) hb); (try clear hb); (try clear hb2); (try clear hk); (try clear hi); (try clear ho0); obtain ⟨Ao40, co40, eo40⟩ := Kd.R_slice HO404.out; subst eo40))
        go_ret
        exact ⟨by first | rfl | exact congrArg (fun b => Ending.returned (Value.bool b)) HR_.out | (simp [errW_none, errW_some] <;> rfl) | (simp [*, errW_none, errW_some] <;> rfl), B1_⟩
       replace c11 := Bool.eq_false_iff.mpr c11
       subst c11
       have H1 : (some false) = some true := by rw [if_neg (show ¬ (false = true) by decide)] at H; exact H
       clear H
       have H := H1
       clear H1
       exact absurd H (by simp)
      rw [if_neg c8] at H
      have c8b0 : (((rd_T37 t390 1).f0) == 2 && (((rd_T37 t390 1).f1) == 0 && (((rd_T37 t390 1).f2) == 2))) = false := by simpa using c8
      (try (have c8b1 : decide (((rd_T37 t390 1).f0) = 2 && (((rd_T37 t390 1).f1) == 0 && (((rd_T37 t390 1).f2) == 2))) = false := by simpa using c8))
      (try (have c8b2 : (((rd_T37 t390 1).f0) == 2 && (((rd_T37 t390 1).f1) == 0 && (((rd_T37 t390 1).f2) == 2))) = false := by simpa using c8))
      (try (have c8b3 : ¬ (((rd_T37 t390 1).f0) = 2 && (((rd_T37 t390 1).f1) == 0 && (((rd_T37 t390 1).f2) == 2))) := by simpa using c8))
      clear c8
      exact absurd H (by simp)
     rw [if_neg c7] at H
     exact absurd H (by simp)
    rw [if_neg c6] at H
    have c6b0 : (((rd_T37 t390 0).f0) == 1 && (((rd_T37 t390 0).f1) == 0 && (((rd_T37 t390 0).f2) == 1))) = false := by simpa using c6
    (try (have c6b1 : decide (((rd_T37 t390 0).f0) = 1 && (((rd_T37 t390 0).f1) == 0 && (((rd_T37 t390 0).f2) == 1))) = false := by simpa using c6))
    (try (have c6b2 : (((rd_T37 t390 0).f0) == 1 && (((rd_T37 t390 0).f1) == 0 && (((rd_T37 t390 0).f2) == 1))) = false := by simpa using c6))
    (try (have c6b3 : ¬ (((rd_T37 t390 0).f0) = 1 && (((rd_T37 t390 0).f1) == 0 && (((rd_T37 t390 0).f2) == 1))) := by simpa using c6))
    clear c6
    exact absurd H (by simp)
   rw [if_neg c5] at H
   exact absurd H (by simp)
  rw [if_neg c4] at H
  have c4b0 : ((t390.length : Int) == 2) = false := beq_eq_false_iff_ne.mpr c4
  have c4b1 : ((t390.length : Int) != 2) = true := bne_iff_ne.mpr c4
  exact absurd H (by simp)
 rw [if_neg c3] at H
 have c3b0 : (t388 == 0) = false := beq_eq_false_iff_ne.mpr c3
 have c3b1 : (t388 != 0) = true := bne_iff_ne.mpr c3
 exact absurd H (by simp)


/-! ### lockstepref06_Small: function 8 -/
def lockstepref06_Small.l0 : Nat → List (List Int) → Int → Option (Bool)
 | 0, _, _ => none
 | k + 1, x0, x3 => if x3 < (x0.length : Int) then (if 0 ≤ x3 then (if ((rd_L1 x0 x3).length : Int) > 100 then (some false) else (if x3 > 100 then (some false) else (lockstepref06_Small.l0 k x0 (wrap64 (x3 + 1))))) else (none)) else (some true)
def lockstepref06_Small.f (k : Nat) (l0 : List (List Int)) : Option (Bool) := lockstepref06_Small.l0 k l0 0
theorem lockstepref06_Small.mono_l : ∀ k, (∀ y0 y1, LeO (lockstepref06_Small.l0 k y0 y1) (lockstepref06_Small.l0 (k + 1) y0 y1))
 | 0 => fun _ _ r h => by simp [lockstepref06_Small.l0] at h
 | k + 1 => by
  have ih0 := lockstepref06_Small.mono_l k
  ·intro y0 y1
   unfold lockstepref06_Small.l0
   repeat' (with_reducible first | exact ih0 _ _ | exact LeO.refl _ | exact LeO.none _ | refine LeO.ite ?_ ?_ | refine LeO.bind ?_ (fun _ => ?_))
theorem lockstepref06_Small.mono : ∀ a0 k, LeO (lockstepref06_Small.f k a0) (lockstepref06_Small.f (k + 1) a0) := by
 intro a0 k
 have ih0 := lockstepref06_Small.mono_l k
 unfold lockstepref06_Small.f
 repeat' (with_reducible first | exact ih0 _ _ | exact LeO.refl _ | exact LeO.none _ | refine LeO.ite ?_ ?_ | refine LeO.bind ?_ (fun _ => ?_))
set_option maxHeartbeats 8000000 in
set_option maxRecDepth 100000 in
theorem lockstepref06_Small.calls (k : Nat) (A0 : Option Addr) (c0 : Nat) (l0 : List (List Int)) (r : Bool) (w : World) (hr0 : Kd.C (Kd.slice 3 (Kd.int .i64)) w A0 l0.length l0) (hc0 : l0.length ≤ c0) (h : lockstepref06_Small.f k l0 = some r) :
 Calls Try.prog 8 #[.slice A0 l0.length c0] w fun e w' => e = .returned (.bool r) ∧ Drawn0 w w' := by
 have HR0 := Aside0.mk hr0
 have HC0 := Aside0.mk hc0
 clear hr0 hc0
 have H : (lockstepref06_Small.l0 k l0 0) = some r := h
 clear h
 have H' := Aside0.mk H
 clear H
 go_enter Try.func8, Try.ntmps8
 go_wp2
 go_loopg [3] k (fun kq v3 w' => ∃ (x3_1 : Int), v3 = .int .i64 x3_1 ∧ Aside0 (lockstepref06_Small.l0 kq l0 x3_1 = some r) ∧ Aside0 (kq ≤ k) ∧ Drawn0 w w')
 case atStart => exact ⟨(0), (by first | rfl | (simp; done) | (simp [*]; done)), H', ⟨Nat.le_refl _⟩, by repeat (first | exact Drawn0.refl _ | apply Drawn0.step)⟩
 case round =>
  clear H'
  obtain ⟨x3_1, rfl, HA, HK1, ⟨m1, rfl⟩⟩ := hrel
  cases gk with
  | zero => exact absurd HA.out (by simp [lockstepref06_Small.l0])
  | succ k1 =>
   have H := HA.out
   clear HA
   simp only [lockstepref06_Small.l0] at H
   by_cases c2 : x3_1 < (l0.length : Int)
   ·rw [if_pos c2] at H
    have c2b0 : decide (x3_1 < (l0.length : Int)) = true := decide_eq_true c2
    clear c2
    by_cases c3 : 0 ≤ x3_1
    ·rw [if_pos c3] at H
     have c3b0 : decide (0 ≤ x3_1) = true := decide_eq_true c3
     clear c3
     by_cases c4 : ((rd_L1 l0 x3_1).length : Int) > 100
     ·rw [if_pos c4] at H
      have c4b0 : decide (100 < ((rd_L1 l0 x3_1).length : Int)) = true := decide_eq_true c4
      have c4b1 : decide (100 < (rd_L1 l0 x3_1).length) = true := decide_eq_true (by omega)
      clear c4
      obtain rfl := Option.some.inj H
      have p405 : 0 ≤ (x3_1 : Int) := D_
      have q405 : x3_1 < (l0.length : Int) := D_
      obtain ⟨ad405, A405_0, c405_0, e405, hx405_0, hl405_0, hi405_0⟩ := at_L1 HR0.out x3_1 p405 q405
      cases e405
      have HR405_0 := Aside0.mk hi405_0
      have HC405_0 := Aside0.mk hl405_0
      clear hi405_0 hl405_0
      replace p405 := eq_true p405
      replace q405 := eq_true q405
      go_wp2
      go_ret
      exact ⟨by first | rfl | (simp; done) | (simp [*]; done), by repeat (first | exact Drawn0.refl _ | apply Drawn0.step)⟩
     rw [if_neg c4] at H
     have c4b0 : decide (100 < ((rd_L1 l0 x3_1).length : Int)) = false := decide_eq_false c4
     have c4b1 : decide (100 < (rd_L1 l0 x3_1).length) = false := decide_eq_false (by omega)
     clear c4
     by_cases c5 : x3_1 > 100
     ·rw [if_pos c5] at H
      have c5b0 : decide (100 < x3_1) = true := decide_eq_true c5
      clear c5
      obtain rfl := Option.some.inj H
      have p405 : 0 ≤ (x3_1 : Int) := D_
      have q405 : x3_1 < (l0.length : Int) := D_
      obtain ⟨ad405, A405_0, c405_0, e405, hx405_0, hl405_0, hi405_0⟩ := at_L1 HR0.out x3_1 p405 q405
      cases e405
      have HR405_0 := Aside0.mk hi405_0
      have HC405_0 := Aside0.mk hl405_0
      clear hi405_0 hl405_0
      replace p405 := eq_true p405
      replace q405 := eq_true q405
      go_wp2
      go_ret
      exact ⟨by first | rfl | (simp; done) | (simp [*]; done), by repeat (first | exact Drawn0.refl _ | apply Drawn0.step)⟩
     rw [if_neg c5] at H
     have c5b0 : decide (100 < x3_1) = false := decide_eq_false c5
     clear c5
     have H' := Aside0.mk H
     clear H
     have p405 : 0 ≤ (x3_1 : Int) := D_
     have q405 : x3_1 < (l0.length : Int) := D_
     obtain ⟨ad405, A405_0, c405_0, e405, hx405_0, hl405_0, hi405_0⟩ := at_L1 HR0.out x3_1 p405 q405
     cases e405
     have HR405_0 := Aside0.mk hi405_0
     have HC405_0 := Aside0.mk hl405_0
     clear hi405_0 hl405_0
     replace p405 := eq_true p405
     replace q405 := eq_true q405
     go_wp2
     go_roundg k1
     case measure => have := HK1.out; omega
     case rel => exact ⟨(wrap64 (x3_1 + 1)), (by first | rfl | (simp; done) | (simp [*]; done)), H', ⟨by have := HK1.out; omega⟩, by repeat (first | exact Drawn0.refl _ | apply Drawn0.step)⟩
    rw [if_neg c3] at H
    exact absurd H (by simp)
   rw [if_neg c2] at H
   have c2b0 : decide (x3_1 < (l0.length : Int)) = false := decide_eq_false c2
   clear c2
   obtain rfl := Option.some.inj H
   go_wp2
   go_ret
   exact ⟨by first | rfl | (simp; done) | (simp [*]; done), by repeat (first | exact Drawn0.refl _ | apply Drawn0.step)⟩


/-! ### lockstepref06_Has: function 18 -/
def lockstepref06_Has.l0 : Nat → List Int → Int → Int → Option (Bool)
 | 0, _, _, _ => none
 | k + 1, x0, x1, x5 => if x5 < (x0.length : Int) then (if 0 ≤ x5 then (if (rd x0 x5) = x1 then (some true) else (lockstepref06_Has.l0 k x0 x1 (wrap64 (x5 + 1)))) else (none)) else (some false)
def lockstepref06_Has.f (k : Nat) (l0 : List Int) (a1 : Int) : Option (Bool) := lockstepref06_Has.l0 k l0 a1 0
theorem lockstepref06_Has.mono_l : ∀ k, (∀ y0 y1 y2, LeO (lockstepref06_Has.l0 k y0 y1 y2) (lockstepref06_Has.l0 (k + 1) y0 y1 y2))
 | 0 => fun _ _ _ r h => by simp [lockstepref06_Has.l0] at h
 | k + 1 => by
  have ih0 := lockstepref06_Has.mono_l k
  ·intro y0 y1 y2
   unfold lockstepref06_Has.l0
   repeat' (with_reducible first | exact ih0 _ _ _ | exact LeO.refl _ | exact LeO.none _ | refine LeO.ite ?_ ?_ | refine LeO.bind ?_ (fun _ => ?_))
theorem lockstepref06_Has.mono : ∀ a0 a1 k, LeO (lockstepref06_Has.f k a0 a1) (lockstepref06_Has.f (k + 1) a0 a1) := by
 intro a0 a1 k
 have ih0 := lockstepref06_Has.mono_l k
 unfold lockstepref06_Has.f
 repeat' (with_reducible first | exact ih0 _ _ _ | exact LeO.refl _ | exact LeO.none _ | refine LeO.ite ?_ ?_ | refine LeO.bind ?_ (fun _ => ?_))
set_option maxHeartbeats 8000000 in
set_option maxRecDepth 100000 in
theorem lockstepref06_Has.calls (k : Nat) (A0 : Option Addr) (c0 : Nat) (l0 : List Int) (a1 : Int) (r : Bool) (w : World) (hr0 : Kd.C (Kd.int .i64) w A0 l0.length l0) (hc0 : l0.length ≤ c0) (h : lockstepref06_Has.f k l0 a1 = some r) :
 Calls Try.prog 18 #[.slice A0 l0.length c0, .int .i64 a1] w fun e w' => e = .returned (.bool r) ∧ Drawn0 w w' := by
 have HR0 := Aside0.mk hr0
 have HC0 := Aside0.mk hc0
 clear hr0 hc0
 have H : (lockstepref06_Has.l0 k l0 a1 0) = some r := h
 clear h
 have H' := Aside0.mk H
 clear H
 go_enter Try.func18, Try.ntmps18
 go_wp2
 go_loopg [5] k (fun kq v5 w' => ∃ (x5_1 : Int), v5 = .int .i64 x5_1 ∧ Aside0 (lockstepref06_Has.l0 kq l0 a1 x5_1 = some r) ∧ Aside0 (kq ≤ k) ∧ Drawn0 w w')
 case atStart => exact ⟨(0), (by first | rfl | (simp; done) | (simp [*]; done)), H', ⟨Nat.le_refl _⟩, by repeat (first | exact Drawn0.refl _ | apply Drawn0.step)⟩
 case round =>
  clear H'
  obtain ⟨x5_1, rfl, HA, HK1, ⟨m1, rfl⟩⟩ := hrel
  cases gk with
  | zero => exact absurd HA.out (by simp [lockstepref06_Has.l0])
  | succ k1 =>
   have H := HA.out
   clear HA
   simp only [lockstepref06_Has.l0] at H
   by_cases c3 : x5_1 < (l0.length : Int)
   ·rw [if_pos c3] at H
    have c3b0 : decide (x5_1 < (l0.length : Int)) = true := decide_eq_true c3
    clear c3
    by_cases c4 : 0 ≤ x5_1
    ·rw [if_pos c4] at H
     have c4b0 : decide (0 ≤ x5_1) = true := decide_eq_true c4
     clear c4
     by_cases c5 : (rd l0 x5_1) = a1
     ·rw [if_pos c5] at H
      have c5b0 : ((rd l0 x5_1) == a1) = true := beq_iff_eq.mpr c5
      have c5b1 : ((rd l0 x5_1) != a1) = false := bne_eq_false_iff_eq.mpr c5
      clear c5
      obtain rfl := Option.some.inj H
      have p420 : 0 ≤ (x5_1 : Int) := D_
      have q420 : x5_1 < (l0.length : Int) := D_
      obtain ⟨ad420, e420, hx420_0⟩ := Kd.at_int HR0.out x5_1 p420 q420
      cases e420
      replace p420 := eq_true p420
      replace q420 := eq_true q420
      go_wp2
      go_ret
      exact ⟨by first | rfl | (simp; done) | (simp [*]; done), by repeat (first | exact Drawn0.refl _ | apply Drawn0.step)⟩
     rw [if_neg c5] at H
     have c5b0 : ((rd l0 x5_1) == a1) = false := beq_eq_false_iff_ne.mpr c5
     have c5b1 : ((rd l0 x5_1) != a1) = true := bne_iff_ne.mpr c5
     have H' := Aside0.mk H
     clear H
     have p420 : 0 ≤ (x5_1 : Int) := D_
     have q420 : x5_1 < (l0.length : Int) := D_
     obtain ⟨ad420, e420, hx420_0⟩ := Kd.at_int HR0.out x5_1 p420 q420
     cases e420
     replace p420 := eq_true p420
     replace q420 := eq_true q420
     go_wp2
     go_roundg k1
     case measure => have := HK1.out; omega
     case rel => exact ⟨(wrap64 (x5_1 + 1)), (by first | rfl | (simp; done) | (simp [*]; done)), H', ⟨by have := HK1.out; omega⟩, by repeat (first | exact Drawn0.refl _ | apply Drawn0.step)⟩
    rw [if_neg c4] at H
    exact absurd H (by simp)
   rw [if_neg c3] at H
   have c3b0 : decide (x5_1 < (l0.length : Int)) = false := decide_eq_false c3
   clear c3
   obtain rfl := Option.some.inj H
   go_wp2
   go_ret
   exact ⟨by first | rfl | (simp; done) | (simp [*]; done), by repeat (first | exact Drawn0.refl _ | apply Drawn0.step)⟩

end Go.Proofs.Ytheillkpgmpnlaa.G
