/- Texts of this session, joined by wip/tools/merge.py. Conditions: each theorem's own. -/
import Derived.Test.YtheillkpgmpnlaaGx0
import Derived.Shelf.Small.Bits
import Derived.Shelf.Strconv.Itoa0
import Derived.Shelf.Sort.Plain
import Derived.Shelf.Bits.Mul64
import Derived.Shelf.Slices.Reverse
import Derived.Shelf.Slices.Equal
import Derived.Ground.Names2Prog
import Derived.Shelf.Slices.Clone
import Derived.Shelf.Slices.CompactI
import Derived.Shelf.Slices.SearchI
import Derived.Shelf.Slices.Cells
import Derived.Shelf.Slices.In.SortNone
import Derived.Ground.SlgnProg
import Derived.Shelf.SlicesE.Clone
import Derived.Test.YtheillkpgmpnlaaProg
import Derived.Test.YtheillkpgmpnlaaHSort
import Derived.Test.YtheillkpgmpnlaaGx21
import Derived.Test.YtheillkpgmpnlaaGx17
import Derived.Test.YtheillkpgmpnlaaGx5
import Derived.Test.YtheillkpgmpnlaaGx25
import Derived.Test.YtheillkpgmpnlaaGx35
import Derived.Test.YtheillkpgmpnlaaGx8
namespace Go.Proofs.Ytheillkpgmpnlaa.G
open Go.Proofs.YtheillkpgmpnlaaH
open Go.RowKit Go.Proofs.YtheillkpgmpnlaaW.PrintWords Go.Proofs.YtheillkpgmpnlaaW.PrintLast Go.Proofs.YtheillkpgmpnlaaW.PrintMore
attribute [local go_sem] max2_int min2_int max_two min_two max_three min_three max_four min_four   -- for this text's walks alone
set_option linter.unusedVariables false
set_option linter.unusedSimpArgs false

theorem eqA37 (d : Nat) (w : World) (x0 y0 : Int) (x1 y1 : Int) (x2 y2 : Int) :
    (Op.equalIn (d + 2) 37 (.agg #[.int .i64 x0, .int .i64 x1, .int .i64 x2]) (.agg #[.int .i64 y0, .int .i64 y1, .int .i64 y2])).run Try.prog w = .ok (x0 == y0 && (x1 == y1 && (x2 == y2))) w := by
  refine eqA_of Try.underlying37 (by kernel_rfl) ?_
  refine eqf_cons (by rfl) (by go_simp; rfl) (by go_simp; rfl) (by go_simp) ?_
  refine eqf_cons (by rfl) (by go_simp; rfl) (by go_simp; rfl) (by go_simp) ?_
  exact eqf_last (by rfl) (by go_simp; rfl) (by go_simp; rfl) (by go_simp)

/-! ### lockstepref02_Ints: function 12 -/
def lockstepref02_Ints.l0 : Nat → List Int → List Int → Int → Option (Bool)
 | 0, _, _, _ => none
 | k + 1, x0, x1, x5 => if x5 < (x0.length : Int) then (if 0 ≤ x5 then (if x5 < (x1.length : Int) then (if (rd x0 x5) = (rd x1 x5) then (lockstepref02_Ints.l0 k x0 x1 (wrap64 (x5 + 1))) else (some false)) else (none)) else (none)) else (some true)
def lockstepref02_Ints.f (k : Nat) (l0 : List Int) (l1 : List Int) : Option (Bool) := if (l0.length : Int) = (l1.length : Int) then (lockstepref02_Ints.l0 k l0 l1 0) else (some false)
theorem lockstepref02_Ints.mono_l : ∀ k, (∀ y0 y1 y2, LeO (lockstepref02_Ints.l0 k y0 y1 y2) (lockstepref02_Ints.l0 (k + 1) y0 y1 y2))
 | 0 => fun _ _ _ r h => by simp [lockstepref02_Ints.l0] at h
 | k + 1 => by
  have ih0 := lockstepref02_Ints.mono_l k
  ·intro y0 y1 y2
   unfold lockstepref02_Ints.l0
   repeat' (with_reducible first | exact ih0 _ _ _ | exact LeO.refl _ | exact LeO.none _ | refine LeO.ite ?_ ?_ | refine LeO.bind ?_ (fun _ => ?_))
theorem lockstepref02_Ints.mono : ∀ a0 a1 k, LeO (lockstepref02_Ints.f k a0 a1) (lockstepref02_Ints.f (k + 1) a0 a1) := by
 intro a0 a1 k
 have ih0 := lockstepref02_Ints.mono_l k
 unfold lockstepref02_Ints.f
 repeat' (with_reducible first | exact ih0 _ _ _ | exact LeO.refl _ | exact LeO.none _ | refine LeO.ite ?_ ?_ | refine LeO.bind ?_ (fun _ => ?_))
set_option maxHeartbeats 8000000 in
set_option maxRecDepth 100000 in
theorem lockstepref02_Ints.calls (k : Nat) (A0 : Option Addr) (c0 : Nat) (l0 : List Int) (A1 : Option Addr) (c1 : Nat) (l1 : List Int) (r : Bool) (w : World) (hr0 : Kd.C (Kd.int .i64) w A0 l0.length l0) (hc0 : l0.length ≤ c0) (hr1 : Kd.C (Kd.int .i64) w A1 l1.length l1) (hc1 : l1.length ≤ c1) (h : lockstepref02_Ints.f k l0 l1 = some r) :
 Calls Try.prog 12 #[.slice A0 l0.length c0, .slice A1 l1.length c1] w fun e w' => e = .returned (.bool r) ∧ Drawn0 w w' := by
 have HR0 := Aside0.mk hr0
 have HC0 := Aside0.mk hc0
 clear hr0 hc0
 have HR1 := Aside0.mk hr1
 have HC1 := Aside0.mk hc1
 clear hr1 hc1
 have H : (if (l0.length : Int) = (l1.length : Int) then (lockstepref02_Ints.l0 k l0 l1 0) else (some false)) = some r := h
 clear h
 by_cases c3 : (l0.length : Int) = (l1.length : Int)
 ·rw [if_pos c3] at H
  have c3b0 : ((l0.length : Int) == (l1.length : Int)) = true := beq_iff_eq.mpr c3
  have c3b1 : ((l0.length : Int) != (l1.length : Int)) = false := bne_eq_false_iff_eq.mpr c3
  have c3b2 : (l0.length == l1.length) = true := by first | simpa using c3 | (simp at c3 ⊢; omega)
  clear c3
  have H' := Aside0.mk H
  clear H
  go_enter Try.func12, Try.ntmps12
  go_wp2
  repeat (go_quiet (fail); try go_wp2)
  go_loopg [5] k (fun kq v5 w' => ∃ (x5_1 : Int), v5 = .int .i64 x5_1 ∧ Aside0 (lockstepref02_Ints.l0 kq l0 l1 x5_1 = some r) ∧ Aside0 (kq ≤ k) ∧ Drawn0 w w')
  case atStart => exact ⟨(0), (by first | rfl | (simp; done) | (simp [*]; done)), H', ⟨Nat.le_refl _⟩, by repeat (first | exact Drawn0.refl _ | apply Drawn0.step)⟩
  case round =>
   clear H'
   try clear c1
   try clear c3b0
   try clear c3b1
   try clear c3b2
   obtain ⟨x5_1, rfl, HA, HK1, ⟨m1, rfl⟩⟩ := hrel
   cases gk with
   | zero => exact absurd HA.out (by simp [lockstepref02_Ints.l0])
   | succ k1 =>
    have H := HA.out
    clear HA
    simp only [lockstepref02_Ints.l0] at H
    by_cases c4 : x5_1 < (l0.length : Int)
    ·rw [if_pos c4] at H
     have c4b0 : decide (x5_1 < (l0.length : Int)) = true := decide_eq_true c4
     clear c4
     by_cases c5 : 0 ≤ x5_1
     ·rw [if_pos c5] at H
      have c5b0 : decide (0 ≤ x5_1) = true := decide_eq_true c5
      clear c5
      by_cases c6 : x5_1 < (l1.length : Int)
      ·rw [if_pos c6] at H
       have c6b0 : decide (x5_1 < (l1.length : Int)) = true := decide_eq_true c6
       clear c6
       by_cases c7 : (rd l0 x5_1) = (rd l1 x5_1)
       ·rw [if_pos c7] at H
        have c7b0 : ((rd l0 x5_1) == (rd l1 x5_1)) = true := beq_iff_eq.mpr c7
        have c7b1 : ((rd l0 x5_1) != (rd l1 x5_1)) = false := bne_eq_false_iff_eq.mpr c7
        clear c7
        have H' := Aside0.mk H
        clear H
        have p320 : 0 ≤ (x5_1 : Int) := D_
        have q320 : x5_1 < (l0.length : Int) := D_
        obtain ⟨ad320, e320, hx320_0⟩ := Kd.at_int HR0.out x5_1 p320 q320
        cases e320
        replace p320 := eq_true p320
        replace q320 := eq_true q320
        have p321 : 0 ≤ (x5_1 : Int) := D_
        have q321 : x5_1 < (l1.length : Int) := D_
        obtain ⟨ad321, e321, hx321_0⟩ := Kd.at_int HR1.out x5_1 p321 q321
        cases e321
        replace p321 := eq_true p321
        replace q321 := eq_true q321
        go_wp2
        repeat (go_quiet (fail); try go_wp2)
        go_roundg k1
        case measure => have := HK1.out; omega
        case rel => exact ⟨(wrap64 (x5_1 + 1)), (by first | rfl | (simp; done) | (simp [*]; done)), H', ⟨by have := HK1.out; omega⟩, by repeat (first | exact Drawn0.refl _ | apply Drawn0.step)⟩
       rw [if_neg c7] at H
       have c7b0 : ((rd l0 x5_1) == (rd l1 x5_1)) = false := beq_eq_false_iff_ne.mpr c7
       have c7b1 : ((rd l0 x5_1) != (rd l1 x5_1)) = true := bne_iff_ne.mpr c7
       obtain rfl := Option.some.inj H
       have p320 : 0 ≤ (x5_1 : Int) := D_
       have q320 : x5_1 < (l0.length : Int) := D_
       obtain ⟨ad320, e320, hx320_0⟩ := Kd.at_int HR0.out x5_1 p320 q320
       cases e320
       replace p320 := eq_true p320
       replace q320 := eq_true q320
       have p321 : 0 ≤ (x5_1 : Int) := D_
       have q321 : x5_1 < (l1.length : Int) := D_
       obtain ⟨ad321, e321, hx321_0⟩ := Kd.at_int HR1.out x5_1 p321 q321
       cases e321
       replace p321 := eq_true p321
       replace q321 := eq_true q321
       go_wp2
       repeat (go_quiet (fail); try go_wp2)
       go_ret
       exact ⟨by first | rfl | (simp; done) | (simp [*]; done), by repeat (first | exact Drawn0.refl _ | apply Drawn0.step)⟩
      rw [if_neg c6] at H
      exact absurd H (by simp)
     rw [if_neg c5] at H
     exact absurd H (by simp)
    rw [if_neg c4] at H
    have c4b0 : decide (x5_1 < (l0.length : Int)) = false := decide_eq_false c4
    clear c4
    obtain rfl := Option.some.inj H
    go_wp2
    repeat (go_quiet (fail); try go_wp2)
    go_ret
    exact ⟨by first | rfl | (simp; done) | (simp [*]; done), by repeat (first | exact Drawn0.refl _ | apply Drawn0.step)⟩
 rw [if_neg c3] at H
 have c3b0 : ((l0.length : Int) == (l1.length : Int)) = false := beq_eq_false_iff_ne.mpr c3
 have c3b1 : ((l0.length : Int) != (l1.length : Int)) = true := bne_iff_ne.mpr c3
 have c3b2 : (l0.length == l1.length) = false := by first | simpa using c3 | (simp at c3 ⊢; omega)
 obtain rfl := Option.some.inj H
 go_enter Try.func12, Try.ntmps12
 go_wp2
 repeat (go_quiet (fail); try go_wp2)
 go_ret
 exact ⟨by first | rfl | (simp; done) | (simp [*]; done), by repeat (first | exact Drawn0.refl _ | apply Drawn0.step)⟩

end Go.Proofs.Ytheillkpgmpnlaa.G
namespace Go.Proofs
open Go.Shelf
def Try.lays189_ren : Go.Shelf.Ren := ⟨fun | 189 => 27 | 125 => 47 | 257 => 52 | 128 => 71 | 129 => 72 | 294 => 74 | 295 => 75 | 296 => 76 | 297 => 77 | 298 => 78 | 299 => 79 | 216 => 80 | 300 => 81 | 301 => 82 | 328 => 91 | 329 => 87 | 330 => 88 | 331 => 92 | 332 => 93 | 215 => 73 | 343 => 95 | n => n, fun | 28 => 31 | 3 => 3 | 46 => 69 | 0 => 0 | 51 => 92 | 53 => 94 | 4 => 4 | 183 => 85 | 182 => 84 | 131 => 89 | 5 => 5 | 9 => 9 | 218 => 105 | 222 => 109 | 228 => 113 | 229 => 114 | n => n, fun | n => n⟩
theorem Try.lays189 : Go.Proofs.Lays.n189 Try.prog Try.lays189_ren := {
  mixed := by kernel_rfl
  f125 := Try.func47.trans (congrArg some (by kernel_rfl))
  f128 := Try.func71.trans (congrArg some (by kernel_rfl))
  f129 := Try.func72.trans (congrArg some (by kernel_rfl))
  f189 := Try.func27.trans (congrArg some (by kernel_rfl))
  f215 := Try.func73.trans (congrArg some (by kernel_rfl))
  f216 := Try.func80.trans (congrArg some (by kernel_rfl))
  f257 := Try.func52.trans (congrArg some (by kernel_rfl))
  f294 := Try.func74.trans (congrArg some (by kernel_rfl))
  f295 := Try.func75.trans (congrArg some (by kernel_rfl))
  f296 := Try.func76.trans (congrArg some (by kernel_rfl))
  f297 := Try.func77.trans (congrArg some (by kernel_rfl))
  f298 := Try.func78.trans (congrArg some (by kernel_rfl))
  f299 := Try.func79.trans (congrArg some (by kernel_rfl))
  f300 := Try.func81.trans (congrArg some (by kernel_rfl))
  f301 := Try.func82.trans (congrArg some (by kernel_rfl))
  f328 := Try.func91.trans (congrArg some (by kernel_rfl))
  f329 := Try.func87.trans (congrArg some (by kernel_rfl))
  f330 := Try.func88.trans (congrArg some (by kernel_rfl))
  f331 := Try.func92.trans (congrArg some (by kernel_rfl))
  f332 := Try.func93.trans (congrArg some (by kernel_rfl))
  f343 := Try.func95.trans (congrArg some (by kernel_rfl))
  t0 := Try.underlying0
  a0 := Try.isAgg0
  z0 := Try.sizeOf0
  v0 := Try.zeroValue0
  t3 := Try.underlying3
  a3 := Try.isAgg3
  z3 := Try.sizeOf3
  v3 := Try.zeroValue3
  t4 := Try.underlying4
  a4 := Try.isAgg4
  z4 := Try.sizeOf4
  v4 := Try.zeroValue4
  t5 := Try.underlying5
  a5 := Try.isAgg5
  z5 := Try.sizeOf5
  v5 := Try.zeroValue5
  t9 := Try.underlying9
  a9 := Try.isAgg9
  z9 := Try.sizeOf9
  v9 := Try.zeroValue9
  t28 := Try.underlying31
  a28 := Try.isAgg31
  z28 := Try.sizeOf31
  v28 := Try.zeroValue31
  t46 := Try.underlying69
  a46 := Try.isAgg69
  z46 := Try.sizeOf69
  v46 := Try.zeroValue69
  t51 := Try.underlying92
  a51 := Try.isAgg92
  z51 := Try.sizeOf92
  v51 := Try.zeroValue92
  t53 := Try.underlying94
  a53 := Try.isAgg94
  z53 := Try.sizeOf94
  v53 := Try.zeroValue94
  t131 := Try.underlying89
  a131 := Try.isAgg89
  z131 := Try.sizeOf89
  v131 := Try.zeroValue89
  t182 := Try.underlying84
  a182 := Try.isAgg84
  z182 := Try.sizeOf84
  v182 := Try.zeroValue84
  t183 := Try.underlying85
  a183 := Try.isAgg85
  z183 := Try.sizeOf85
  v183 := Try.zeroValue85
  t218 := Try.underlying105
  a218 := Try.isAgg105
  z218 := Try.sizeOf105
  v218 := Try.zeroValue105
  t222 := Try.underlying109
  a222 := Try.isAgg109
  z222 := Try.sizeOf109
  v222 := Try.zeroValue109
  t228 := Try.underlying113
  a228 := Try.isAgg113
  z228 := Try.sizeOf113
  v228 := Try.zeroValue113
  t229 := Try.underlying114
  a229 := Try.isAgg114
  z229 := Try.sizeOf114
  v229 := Try.zeroValue114 }
open Go.Sort Go.RowKit in
theorem Try.slices_Sort_int (blk off cap : Nat) (zs : List Int) (w : World) (hH : Holds (Value.int .i64) w blk off zs.toArray) (hblk : blk < w.heap.size) (hsz : zs.length < 4611686018427387904) :
    Calls Try.prog 27 #[.slice (some ⟨blk, off, none⟩) zs.length cap] w fun e w' =>
      e = .returned (.tuple #[]) ∧ ∃ n os, w' = grow (putRow (Value.int .i64) (Sort.ahead w n) blk off (zs.mergeSort fun x y => decide (x ≤ y)).toArray) os := Any.slices_Sort_int Try.lays189 blk off cap zs w hH hblk hsz
def Try.laysNm220_ren : Go.Shelf.Ren := ⟨fun | 20 => 28 | n => n, fun | 22 => 31 | 3 => 3 | 4 => 4 | 0 => 0 | n => n, fun | n => n⟩
theorem Try.laysNm220 : Go.Proofs.Lays2.n20 Try.prog Try.laysNm220_ren := {
  mixed := by kernel_rfl
  f20 := Try.func28.trans (congrArg some (by kernel_rfl))
  t0 := Try.underlying0
  a0 := Try.isAgg0
  z0 := Try.sizeOf0
  v0 := Try.zeroValue0
  t3 := Try.underlying3
  a3 := Try.isAgg3
  z3 := Try.sizeOf3
  v3 := Try.zeroValue3
  t4 := Try.underlying4
  a4 := Try.isAgg4
  z4 := Try.sizeOf4
  v4 := Try.zeroValue4
  t22 := Try.underlying31
  a22 := Try.isAgg31
  z22 := Try.sizeOf31
  v22 := Try.zeroValue31
  i3 := by kernel_rfl }
open Go.RowKit Go.Lib Go.Sort in
/-- slices.Compact at []int: "Compact replaces consecutive runs of equal elements with a single copy. This is like the uniq command found on Unix. Compact modifies the contents of the slice s and returns the modified slice, which may have a smaller length. Compact zeroes the elements between the new length and the original length. The result preserves the nilness of s.": IT RETURNS THE SLICE CUT TO 'Lib.compact zs'; ITS CELLS HOLD 'Lib.compact zs', THEN ZERO VALUES up to the old length; all else is as it was, but for the count of draws. IN THE WORDS OF slices.Sort's CONTRACT ('Holds', 'putRow'): so the everyday 'slices.Sort(xs); xs = slices.Compact(xs)' goes from the one contract to the other. It asks 'zs.length ≤ cap' (every slice's: the reslicing 's[:k]' looks at it). Length 0, nil: '.._empty'. (LAID: no walk: one application.) -/
theorem Try.slices_Compact_int (blk off cap : Nat) (zs : List Int) (w : World) (hH : Holds (Value.int .i64) w blk off zs.toArray) (hsz : zs.length ≤ 9223372036854775807) (hcap : zs.length ≤ cap) :
    Calls Try.prog 28 #[.slice (some ⟨blk, off, none⟩) zs.length cap] w fun e w' => e = .returned (.slice (some ⟨blk, off, none⟩) (Lib.compact zs).length cap) ∧ ∃ q, w' = putRow (Value.int .i64) (Sort.ahead w q) blk off (Lib.compact zs ++ List.replicate (zs.length - (Lib.compact zs).length) 0).toArray := Any.slices_Compact_int Try.laysNm220 blk off cap zs w hH hsz hcap
open Go.RowKit Go.Lib Go.Sort in
/-- The same at a slice of length 0, a nil one too: it comes back as it is. (LAID: no walk: one application.) -/
theorem Try.slices_Compact_int_empty (a : Option Addr) (cap : Nat) (w : World) :
    Calls Try.prog 28 #[.slice a 0 cap] w fun e w' => e = .returned (.slice a 0 cap) ∧ w' = w := Any.slices_Compact_int_empty Try.laysNm220 a cap w
open Go.RowKit Go.Sort in
/-- .. and plain. (LAID: no walk: one application.) -/
theorem Try.slices_Sort_int_none (p : Option Addr) (cap : Nat) (w : World) :
    Calls Try.prog 27 #[.slice p 0 cap] w fun e w' => e = .returned (.tuple #[]) ∧ w' = w := Any.slices_Sort_int_none Try.lays189 p cap w
end Go.Proofs
namespace Go.Proofs.Ytheillkpgmpnlaa.G
open Go.Proofs.YtheillkpgmpnlaaH
open Go.RowKit Go.Proofs.YtheillkpgmpnlaaW.PrintWords Go.Proofs.YtheillkpgmpnlaaW.PrintLast Go.Proofs.YtheillkpgmpnlaaW.PrintMore
attribute [local go_sem] max2_int min2_int max_two min_two max_three min_three max_four min_four   -- for this text's walks alone
set_option linter.unusedVariables false
set_option linter.unusedSimpArgs false

/-! ### dom_depth: function 60 -/
mutual
def dom_depth.l0 : Nat → List Int → Int → Int → Int → Option (Int)
 | 0, _, _, _, _ => none
 | k + 1, x0, x1, x7, x8 => if x8 < x7 then (if x1 < 0 then (dom_depth.j1 k x0 x1 x8 x7 x8 true) else (dom_depth.j1 k x0 x1 x8 x7 x8 (decide (x1 ≥ (x0.length : Int))))) else (some (-1))
def dom_depth.j1 : Nat → List Int → Int → Int → Int → Int → Bool → Option (Int)
 | 0, _, _, _, _, _, _ => none
 | k + 1, x0, x1, x5, x7, x8, x18 => if x18 = true then (some (-1)) else (if 0 ≤ x1 then (if x1 < (x0.length : Int) then (if (rd x0 x1) = (-1) then (some x5) else (dom_depth.l0 k x0 (rd x0 x1) x7 (wrap64 (x8 + 1)))) else (none)) else (none))
end
def dom_depth.f (k : Nat) (l0 : List Int) (a1 : Int) : Option (Int) := dom_depth.l0 k l0 a1 (l0.length : Int) 0
theorem dom_depth.mono_l : ∀ k, (∀ y0 y1 y2 y3, LeO (dom_depth.l0 k y0 y1 y2 y3) (dom_depth.l0 (k + 1) y0 y1 y2 y3)) ∧ (∀ y0 y1 y2 y3 y4 y5, LeO (dom_depth.j1 k y0 y1 y2 y3 y4 y5) (dom_depth.j1 (k + 1) y0 y1 y2 y3 y4 y5))
 | 0 => ⟨fun _ _ _ _ r h => by simp [dom_depth.l0] at h, fun _ _ _ _ _ _ r h => by simp [dom_depth.j1] at h⟩
 | k + 1 => by
  obtain ⟨ih0, ih1⟩ := dom_depth.mono_l k
  refine ⟨?_, ?_⟩
  ·intro y0 y1 y2 y3
   unfold dom_depth.l0
   repeat' (with_reducible first | exact ih0 _ _ _ _ | exact ih1 _ _ _ _ _ _ | exact LeO.refl _ | exact LeO.none _ | refine LeO.ite ?_ ?_ | refine LeO.bind ?_ (fun _ => ?_))
  ·intro y0 y1 y2 y3 y4 y5
   unfold dom_depth.j1
   repeat' (with_reducible first | exact ih0 _ _ _ _ | exact ih1 _ _ _ _ _ _ | exact LeO.refl _ | exact LeO.none _ | refine LeO.ite ?_ ?_ | refine LeO.bind ?_ (fun _ => ?_))
theorem dom_depth.mono : ∀ a0 a1 k, LeO (dom_depth.f k a0 a1) (dom_depth.f (k + 1) a0 a1) := by
 intro a0 a1 k
 obtain ⟨ih0, ih1⟩ := dom_depth.mono_l k
 unfold dom_depth.f
 repeat' (with_reducible first | exact ih0 _ _ _ _ | exact ih1 _ _ _ _ _ _ | exact LeO.refl _ | exact LeO.none _ | refine LeO.ite ?_ ?_ | refine LeO.bind ?_ (fun _ => ?_))
set_option maxHeartbeats 8000000 in
set_option maxRecDepth 100000 in
theorem dom_depth.calls (k : Nat) (A0 : Option Addr) (c0 : Nat) (l0 : List Int) (a1 : Int) (r : Int) (w : World) (hr0 : Kd.C (Kd.int .i64) w A0 l0.length l0) (hc0 : l0.length ≤ c0) (h : dom_depth.f k l0 a1 = some r) :
 Calls Try.prog 60 #[.slice A0 l0.length c0, .int .i64 a1] w fun e w' => e = .returned (.int .i64 r) ∧ Drawn0 w w' := by
 have HR0 := Aside0.mk hr0
 have HC0 := Aside0.mk hc0
 clear hr0 hc0
 have H : (dom_depth.l0 k l0 a1 (l0.length : Int) 0) = some r := h
 clear h
 have H' := Aside0.mk H
 clear H
 go_enter Try.func60, Try.ntmps60
 go_wp2
 go_loopg [1, 8] k (fun kq v1 v8 w' => ∃ (x1_1 : Int) (x8_1 : Int), v1 = .int .i64 x1_1 ∧ v8 = .int .i64 x8_1 ∧ Aside0 (dom_depth.l0 kq l0 x1_1 (l0.length : Int) x8_1 = some r) ∧ Aside0 (kq ≤ k) ∧ Drawn0 w w')
 case atStart => exact ⟨(a1), (0), (by first | rfl | (simp; done) | (simp [*]; done)), (by first | rfl | (simp; done) | (simp [*]; done)), H', ⟨Nat.le_refl _⟩, by repeat (first | exact Drawn0.refl _ | apply Drawn0.step)⟩
 case round =>
  clear H'
  obtain ⟨x1_1, x8_1, rfl, rfl, HA, HK1, ⟨m1, rfl⟩⟩ := hrel
  cases gk with
  | zero => exact absurd HA.out (by simp [dom_depth.l0])
  | succ k1 =>
   have H := HA.out
   clear HA
   simp only [dom_depth.l0] at H
   by_cases c3 : x8_1 < (l0.length : Int)
   ·rw [if_pos c3] at H
    have c3b0 : decide (x8_1 < (l0.length : Int)) = true := decide_eq_true c3
    clear c3
    have HC4 := Aside0.mk H
    clear H
    go_upto_region 4 with (fail)
    go_cut [18] (fun v18 wc => ∃ (kq : Nat) (x18_3 : Bool), v18 = .bool x18_3 ∧ Aside0 (dom_depth.j1 kq l0 x1_1 x8_1 (l0.length : Int) x8_1 x18_3 = some r) ∧ Aside0 (kq ≤ k1) ∧ Drawn0 w wc)
    case first =>
     have H := HC4.out
     clear HC4
     by_cases c5 : x1_1 < 0
     ·rw [if_pos c5] at H
      have c5b0 : decide (x1_1 < 0) = true := decide_eq_true c5
      clear c5
      (first | rw [c5b0] | (simp only [i64_w, i32_w]; rw [c5b0]) | skip)
      have H' := Aside0.mk H
      clear H
      go_wp2
      go_meet
      case rel => exact ⟨_, (true), (by first | rfl | (simp; done) | (simp [*]; done)), H', ⟨by have := HK1.out; first | omega | exact Nat.le_refl _⟩, by repeat (first | exact Drawn0.refl _ | apply Drawn0.step)⟩
     rw [if_neg c5] at H
     have c5b0 : decide (x1_1 < 0) = false := decide_eq_false c5
     clear c5
     (first | rw [c5b0] | (simp only [i64_w, i32_w]; rw [c5b0]) | skip)
     have H' := Aside0.mk H
     clear H
     go_wp2
     go_meet
     case rel => exact ⟨_, (decide (x1_1 ≥ (l0.length : Int))), (by first | rfl | (simp; done) | (simp [*]; done)), H', ⟨by have := HK1.out; first | omega | exact Nat.le_refl _⟩, by repeat (first | exact Drawn0.refl _ | apply Drawn0.step)⟩
    case rest =>
     clear HC4
     try clear c3b0
     obtain ⟨kq, x18_3, rfl, HA, HJ3, ⟨mc3, rfl⟩⟩ := hcut
     cases kq with
     | zero => exact absurd HA.out (by simp [dom_depth.j1])
     | succ kj3 =>
      have H := HA.out
      clear HA
      simp only [dom_depth.j1] at H
      by_cases c6 : x18_3 = true
      ·subst c6
       have H1 : (some (-1)) = some r := by rw [if_pos rfl] at H; exact H
       clear H
       have H := H1
       clear H1
       obtain rfl := Option.some.inj H
       go_wp2
       go_ret
       exact ⟨by first | rfl | (simp; done) | (simp [*]; done), by repeat (first | exact Drawn0.refl _ | apply Drawn0.step)⟩
      replace c6 := Bool.eq_false_iff.mpr c6
      subst c6
      have H1 : (if 0 ≤ x1_1 then (if x1_1 < (l0.length : Int) then (if (rd l0 x1_1) = (-1) then (some x8_1) else (dom_depth.l0 kj3 l0 (rd l0 x1_1) (l0.length : Int) (wrap64 (x8_1 + 1)))) else (none)) else (none)) = some r := by rw [if_neg (show ¬ (false = true) by decide)] at H; exact H
      clear H
      have H := H1
      clear H1
      by_cases c7 : 0 ≤ x1_1
      ·rw [if_pos c7] at H
       have c7b0 : decide (0 ≤ x1_1) = true := decide_eq_true c7
       clear c7
       by_cases c8 : x1_1 < (l0.length : Int)
       ·rw [if_pos c8] at H
        have c8b0 : decide (x1_1 < (l0.length : Int)) = true := decide_eq_true c8
        clear c8
        by_cases c9 : (rd l0 x1_1) = (-1)
        ·rw [if_pos c9] at H
         have c9b0 : ((rd l0 x1_1) == (-1)) = true := beq_iff_eq.mpr c9
         have c9b1 : ((rd l0 x1_1) != (-1)) = false := bne_eq_false_iff_eq.mpr c9
         clear c9
         obtain rfl := Option.some.inj H
         have p322 : 0 ≤ (x1_1 : Int) := D_
         have q322 : x1_1 < (l0.length : Int) := D_
         obtain ⟨ad322, e322, hx322_0⟩ := Kd.at_int HR0.out x1_1 p322 q322
         cases e322
         replace p322 := eq_true p322
         replace q322 := eq_true q322
         go_wp2
         go_ret
         exact ⟨by first | rfl | (simp; done) | (simp [*]; done), by repeat (first | exact Drawn0.refl _ | apply Drawn0.step)⟩
        rw [if_neg c9] at H
        have c9b0 : ((rd l0 x1_1) == (-1)) = false := beq_eq_false_iff_ne.mpr c9
        have c9b1 : ((rd l0 x1_1) != (-1)) = true := bne_iff_ne.mpr c9
        have H' := Aside0.mk H
        clear H
        have p322 : 0 ≤ (x1_1 : Int) := D_
        have q322 : x1_1 < (l0.length : Int) := D_
        obtain ⟨ad322, e322, hx322_0⟩ := Kd.at_int HR0.out x1_1 p322 q322
        cases e322
        replace p322 := eq_true p322
        replace q322 := eq_true q322
        have p323 : 0 ≤ (x1_1 : Int) := D_
        have q323 : x1_1 < (l0.length : Int) := D_
        obtain ⟨ad323, e323, hx323_0⟩ := Kd.at_int HR0.out x1_1 p323 q323
        obtain rfl : ad322 = ad323 := (by injection e323)
        replace p323 := eq_true p323
        replace q323 := eq_true q323
        go_wp2
        go_roundg kj3
        case measure => have := HK1.out; have := HJ3.out; omega
        case rel => exact ⟨(rd l0 x1_1), (wrap64 (x8_1 + 1)), (by first | rfl | (simp; done) | (simp [*]; done)), (by first | rfl | (simp; done) | (simp [*]; done)), H', ⟨by have := HK1.out; have := HJ3.out; omega⟩, by repeat (first | exact Drawn0.refl _ | apply Drawn0.step)⟩
       rw [if_neg c8] at H
       exact absurd H (by simp)
      rw [if_neg c7] at H
      exact absurd H (by simp)
   rw [if_neg c3] at H
   have c3b0 : decide (x8_1 < (l0.length : Int)) = false := decide_eq_false c3
   clear c3
   obtain rfl := Option.some.inj H
   go_wp2
   go_ret
   exact ⟨by first | rfl | (simp; done) | (simp [*]; done), by repeat (first | exact Drawn0.refl _ | apply Drawn0.step)⟩


/-! ### dom_right: function 57 -/
def dom_right.l0 : Nat → List Int → Int → List Int → Int → Int → Option (Bool)
 | 0, _, _, _, _, _ => none
 | k + 1, x0, x3, x6, x7, x8 => if x8 < x7 then (if 0 ≤ x8 then (if x8 < (x6.length : Int) then (if (rd x6 x8) = (-1) then (if (rd x6 x8) = (-2) then (dom_right.l0 k x0 (wrap64 (x3 + 1)) x6 x7 (wrap64 (x8 + 1))) else ((dom_depth.f k x0 x8).bind fun t325 => (if t325 < 0 then (some false) else (dom_right.l0 k x0 (wrap64 (x3 + 1)) x6 x7 (wrap64 (x8 + 1)))))) else (if (rd x6 x8) = (-2) then (dom_right.l0 k x0 x3 x6 x7 (wrap64 (x8 + 1))) else ((dom_depth.f k x0 x8).bind fun t326 => (if t326 < 0 then (some false) else (dom_right.l0 k x0 x3 x6 x7 (wrap64 (x8 + 1))))))) else (none)) else (none)) else (some (x3 == 1))
def dom_right.f (k : Nat) (l0 : List Int) : Option (Bool) := dom_right.l0 k l0 0 l0 (l0.length : Int) 0
theorem dom_right.mono_l : ∀ k, (∀ y0 y1 y2 y3 y4, LeO (dom_right.l0 k y0 y1 y2 y3 y4) (dom_right.l0 (k + 1) y0 y1 y2 y3 y4))
 | 0 => fun _ _ _ _ _ r h => by simp [dom_right.l0] at h
 | k + 1 => by
  have ih0 := dom_right.mono_l k
  ·intro y0 y1 y2 y3 y4
   unfold dom_right.l0
   repeat' (with_reducible first | exact ih0 _ _ _ _ _ | exact dom_depth.mono _ _ _ | exact LeO.refl _ | exact LeO.none _ | refine LeO.ite ?_ ?_ | refine LeO.bind ?_ (fun _ => ?_))
theorem dom_right.mono : ∀ a0 k, LeO (dom_right.f k a0) (dom_right.f (k + 1) a0) := by
 intro a0 k
 have ih0 := dom_right.mono_l k
 unfold dom_right.f
 repeat' (with_reducible first | exact ih0 _ _ _ _ _ | exact dom_depth.mono _ _ _ | exact LeO.refl _ | exact LeO.none _ | refine LeO.ite ?_ ?_ | refine LeO.bind ?_ (fun _ => ?_))
set_option maxHeartbeats 8000000 in
set_option maxRecDepth 100000 in
theorem dom_right.calls (k : Nat) (A0 : Option Addr) (c0 : Nat) (l0 : List Int) (r : Bool) (w : World) (hr0 : Kd.C (Kd.int .i64) w A0 l0.length l0) (hc0 : l0.length ≤ c0) (h : dom_right.f k l0 = some r) :
 Calls Try.prog 57 #[.slice A0 l0.length c0] w fun e w' => e = .returned (.bool r) ∧ Drawn0 w w' := by
 have HR0 := Aside0.mk hr0
 have HC0 := Aside0.mk hc0
 clear hr0 hc0
 have H : (dom_right.l0 k l0 0 l0 (l0.length : Int) 0) = some r := h
 clear h
 have H' := Aside0.mk H
 clear H
 go_enter Try.func57, Try.ntmps57
 go_wp2
 go_loopg [3, 8] k (fun kq v3 v8 w' => ∃ (x3_1 : Int) (x8_1 : Int), v3 = .int .i64 x3_1 ∧ v8 = .int .i64 x8_1 ∧ Aside0 (dom_right.l0 kq l0 x3_1 l0 (l0.length : Int) x8_1 = some r) ∧ Aside0 (kq ≤ k) ∧ Drawn0 w w')
 case atStart => exact ⟨(0), (0), (by first | rfl | (simp; done) | (simp [*]; done)), (by first | rfl | (simp; done) | (simp [*]; done)), H', ⟨Nat.le_refl _⟩, by repeat (first | exact Drawn0.refl _ | apply Drawn0.step)⟩
 case round =>
  clear H'
  obtain ⟨x3_1, x8_1, rfl, rfl, HA, HK1, ⟨m1, rfl⟩⟩ := hrel
  cases gk with
  | zero => exact absurd HA.out (by simp [dom_right.l0])
  | succ k1 =>
   have H := HA.out
   clear HA
   simp only [dom_right.l0] at H
   by_cases c2 : x8_1 < (l0.length : Int)
   ·rw [if_pos c2] at H
    have c2b0 : decide (x8_1 < (l0.length : Int)) = true := decide_eq_true c2
    clear c2
    by_cases c3 : 0 ≤ x8_1
    ·rw [if_pos c3] at H
     have c3b0 : decide (0 ≤ x8_1) = true := decide_eq_true c3
     clear c3
     by_cases c4 : x8_1 < (l0.length : Int)
     ·rw [if_pos c4] at H
      have c4b0 : decide (x8_1 < (l0.length : Int)) = true := decide_eq_true c4
      clear c4
      by_cases c5 : (rd l0 x8_1) = (-1)
      ·rw [if_pos c5] at H
       have c5b0 : ((rd l0 x8_1) == (-1)) = true := beq_iff_eq.mpr c5
       have c5b1 : ((rd l0 x8_1) != (-1)) = false := bne_eq_false_iff_eq.mpr c5
       clear c5
       by_cases c6 : (rd l0 x8_1) = (-2)
       ·rw [if_pos c6] at H
        have c6b0 : ((rd l0 x8_1) == (-2)) = true := beq_iff_eq.mpr c6
        have c6b1 : ((rd l0 x8_1) != (-2)) = false := bne_eq_false_iff_eq.mpr c6
        clear c6
        have H' := Aside0.mk H
        clear H
        have p324 : 0 ≤ (x8_1 : Int) := D_
        have q324 : x8_1 < (l0.length : Int) := D_
        obtain ⟨ad324, e324, hx324_0⟩ := Kd.at_int HR0.out x8_1 p324 q324
        cases e324
        replace p324 := eq_true p324
        replace q324 := eq_true q324
        go_wp2
        go_roundg k1
        case measure => have := HK1.out; omega
        case rel => exact ⟨(wrap64 (x3_1 + 1)), (wrap64 (x8_1 + 1)), (by first | rfl | (simp; done) | (simp [*]; done)), (by first | rfl | (simp; done) | (simp [*]; done)), H', ⟨by have := HK1.out; omega⟩, by repeat (first | exact Drawn0.refl _ | apply Drawn0.step)⟩
       rw [if_neg c6] at H
       have c6b0 : ((rd l0 x8_1) == (-2)) = false := beq_eq_false_iff_ne.mpr c6
       have c6b1 : ((rd l0 x8_1) != (-2)) = true := bne_iff_ne.mpr c6
       replace H := Option.bind_eq_some_iff.mp H
       obtain ⟨t325, A70, H⟩ := H
       try dsimp only at H
       have A7 := Aside0.mk A70
       clear A70
       by_cases c8 : t325 < 0
       ·rw [if_pos c8] at H
        have c8b0 : decide (t325 < 0) = true := decide_eq_true c8
        clear c8
        obtain rfl := Option.some.inj H
        have p324 : 0 ≤ (x8_1 : Int) := D_
        have q324 : x8_1 < (l0.length : Int) := D_
        obtain ⟨ad324, e324, hx324_0⟩ := Kd.at_int HR0.out x8_1 p324 q324
        cases e324
        replace p324 := eq_true p324
        replace q324 := eq_true q324
        go_wp2_with (first | (go_at_call 60; (with_reducible refine (dom_depth.calls k1 _ _ l0 x8_1 t325 _ ?side1 ?side2 A7.out).mono ?_); (case side1 => exact CX_ HR0.out); (case side2 => exact HC0.out); rintro e w' ⟨rfl, ⟨nd, rfl⟩⟩))
        go_ret
        exact ⟨by first | rfl | (simp; done) | (simp [*]; done), by repeat (first | exact Drawn0.refl _ | apply Drawn0.step)⟩
       rw [if_neg c8] at H
       have c8b0 : decide (t325 < 0) = false := decide_eq_false c8
       clear c8
       have H' := Aside0.mk H
       clear H
       have p324 : 0 ≤ (x8_1 : Int) := D_
       have q324 : x8_1 < (l0.length : Int) := D_
       obtain ⟨ad324, e324, hx324_0⟩ := Kd.at_int HR0.out x8_1 p324 q324
       cases e324
       replace p324 := eq_true p324
       replace q324 := eq_true q324
       go_wp2_with (first | (go_at_call 60; (with_reducible refine (dom_depth.calls k1 _ _ l0 x8_1 t325 _ ?side1 ?side2 A7.out).mono ?_); (case side1 => exact CX_ HR0.out); (case side2 => exact HC0.out); rintro e w' ⟨rfl, ⟨nd, rfl⟩⟩))
       go_roundg k1
       case measure => have := HK1.out; omega
       case rel => exact ⟨(wrap64 (x3_1 + 1)), (wrap64 (x8_1 + 1)), (by first | rfl | (simp; done) | (simp [*]; done)), (by first | rfl | (simp; done) | (simp [*]; done)), H', ⟨by have := HK1.out; omega⟩, by repeat (first | exact Drawn0.refl _ | apply Drawn0.step)⟩
      rw [if_neg c5] at H
      have c5b0 : ((rd l0 x8_1) == (-1)) = false := beq_eq_false_iff_ne.mpr c5
      have c5b1 : ((rd l0 x8_1) != (-1)) = true := bne_iff_ne.mpr c5
      by_cases c9 : (rd l0 x8_1) = (-2)
      ·rw [if_pos c9] at H
       have c9b0 : ((rd l0 x8_1) == (-2)) = true := beq_iff_eq.mpr c9
       have c9b1 : ((rd l0 x8_1) != (-2)) = false := bne_eq_false_iff_eq.mpr c9
       clear c9
       have H' := Aside0.mk H
       clear H
       have p324 : 0 ≤ (x8_1 : Int) := D_
       have q324 : x8_1 < (l0.length : Int) := D_
       obtain ⟨ad324, e324, hx324_0⟩ := Kd.at_int HR0.out x8_1 p324 q324
       cases e324
       replace p324 := eq_true p324
       replace q324 := eq_true q324
       go_wp2
       go_roundg k1
       case measure => have := HK1.out; omega
       case rel => exact ⟨(x3_1), (wrap64 (x8_1 + 1)), (by first | rfl | (simp; done) | (simp [*]; done)), (by first | rfl | (simp; done) | (simp [*]; done)), H', ⟨by have := HK1.out; omega⟩, by repeat (first | exact Drawn0.refl _ | apply Drawn0.step)⟩
      rw [if_neg c9] at H
      have c9b0 : ((rd l0 x8_1) == (-2)) = false := beq_eq_false_iff_ne.mpr c9
      have c9b1 : ((rd l0 x8_1) != (-2)) = true := bne_iff_ne.mpr c9
      replace H := Option.bind_eq_some_iff.mp H
      obtain ⟨t326, A100, H⟩ := H
      try dsimp only at H
      have A10 := Aside0.mk A100
      clear A100
      by_cases c11 : t326 < 0
      ·rw [if_pos c11] at H
       have c11b0 : decide (t326 < 0) = true := decide_eq_true c11
       clear c11
       obtain rfl := Option.some.inj H
       have p324 : 0 ≤ (x8_1 : Int) := D_
       have q324 : x8_1 < (l0.length : Int) := D_
       obtain ⟨ad324, e324, hx324_0⟩ := Kd.at_int HR0.out x8_1 p324 q324
       cases e324
       replace p324 := eq_true p324
       replace q324 := eq_true q324
       go_wp2_with (first | (go_at_call 60; (with_reducible refine (dom_depth.calls k1 _ _ l0 x8_1 t326 _ ?side1 ?side2 A10.out).mono ?_); (case side1 => exact CX_ HR0.out); (case side2 => exact HC0.out); rintro e w' ⟨rfl, ⟨nd, rfl⟩⟩))
       go_ret
       exact ⟨by first | rfl | (simp; done) | (simp [*]; done), by repeat (first | exact Drawn0.refl _ | apply Drawn0.step)⟩
      rw [if_neg c11] at H
      have c11b0 : decide (t326 < 0) = false := decide_eq_false c11
      clear c11
      have H' := Aside0.mk H
      clear H
      have p324 : 0 ≤ (x8_1 : Int) := D_
      have q324 : x8_1 < (l0.length : Int) := D_
      obtain ⟨ad324, e324, hx324_0⟩ := Kd.at_int HR0.out x8_1 p324 q324
      cases e324
      replace p324 := eq_true p324
      replace q324 := eq_true q324
      go_wp2_with (first | (go_at_call 60; (with_reducible refine (dom_depth.calls k1 _ _ l0 x8_1 t326 _ ?side1 ?side2 A10.out).mono ?_); (case side1 => exact CX_ HR0.out); (case side2 => exact HC0.out); rintro e w' ⟨rfl, ⟨nd, rfl⟩⟩))
      go_roundg k1
      case measure => have := HK1.out; omega
      case rel => exact ⟨(x3_1), (wrap64 (x8_1 + 1)), (by first | rfl | (simp; done) | (simp [*]; done)), (by first | rfl | (simp; done) | (simp [*]; done)), H', ⟨by have := HK1.out; omega⟩, by repeat (first | exact Drawn0.refl _ | apply Drawn0.step)⟩
     rw [if_neg c4] at H
     exact absurd H (by simp)
    rw [if_neg c3] at H
    exact absurd H (by simp)
   rw [if_neg c2] at H
   have c2b0 : decide (x8_1 < (l0.length : Int)) = false := decide_eq_false c2
   clear c2
   obtain rfl := Option.some.inj H
   go_wp2
   go_ret
   exact ⟨by first | rfl | (simp; done) | (simp [*]; done), by repeat (first | exact Drawn0.refl _ | apply Drawn0.step)⟩


/-! ### dom_in: function 39 -/
def dom_in_1.f (k : Nat) (a0 : Int) (l1 : List Int) : Option Bool := (dom_depth.f k l1 a0).bind fun t => some (decide (t < 0))
theorem dom_in_1.mono : ∀ a0 a1 k, LeO (dom_in_1.f k a0 a1) (dom_in_1.f (k + 1) a0 a1) := by
 intro a0 a1 k
 unfold dom_in_1.f
 exact LeO.bind (dom_depth.mono _ _ _) (fun _ => LeO.refl _)
set_option maxHeartbeats 8000000 in
set_option maxRecDepth 100000 in
theorem dom_in_1.calls (k : Nat) (a0 : Int) (g1_ : Nat) (A1 : Option Addr) (c1 : Nat) (l1 : List Int) (r : Bool) (w : World) (hr1 : Kd.C (Kd.int .i64) w A1 l1.length l1) (hc1 : l1.length ≤ c1) (hcb1 : w.cell? ⟨g1_, 0, none⟩ = some (.slice A1 l1.length c1)) (h : dom_in_1.f k a0 l1 = some r) :
 Calls Try.prog 59 #[.int .i64 a0, .pointer (some ⟨g1_, 0, none⟩)] w fun e w' => e = .returned (.bool r) ∧ Drawn0 w w' := by
 have HR1 := Aside0.mk hr1
 have HC1 := Aside0.mk hc1
 clear hr1 hc1
 have H : ((dom_depth.f k l1 a0).bind fun t => some (decide (t < 0))) = some r := h
 clear h
 replace H := Option.bind_eq_some_iff.mp H
 obtain ⟨t1, A1_, H⟩ := H
 try dsimp only at H
 have A3 := Aside0.mk A1_
 clear A1_
 obtain rfl := Option.some.inj H
 clear H
 go_enter Try.func59, Try.ntmps59
 go_wp2_with (first | (go_at_call 60; (with_reducible refine (dom_depth.calls k _ _ l1 a0 t1 _ ?side1 ?side2 A3.out).mono ?_); (case side1 => exact CX_ HR1.out); (case side2 => exact HC1.out); rintro e w' ⟨rfl, ⟨nd, rfl⟩⟩))
 go_ret
 exact ⟨by first | rfl | (simp; done) | (simp [*]; done), by repeat (first | exact Drawn0.refl _ | apply Drawn0.step)⟩

def slices_IndexFunc_int_int_dom_in_1.l0 : Nat → List Int → Int → Int → List Int → Option (Int)
 | 0, _, _, _, _ => none
 | k + 1, x0, x7, x8, x2000 => if x8 < x7 then (if 0 ≤ x8 then (if x8 < (x0.length : Int) then ((dom_in_1.f k (rd x0 x8) x2000).bind fun t124 => (if t124 = true then (some x8) else (slices_IndexFunc_int_int_dom_in_1.l0 k x0 x7 (wrap64 (x8 + 1)) x2000))) else (none)) else (none)) else (some (-1))
def slices_IndexFunc_int_int_dom_in_1.f (k : Nat) (l0 : List Int) (l1 : List Int) : Option (Int) := slices_IndexFunc_int_int_dom_in_1.l0 k l0 (l0.length : Int) 0 l1
theorem slices_IndexFunc_int_int_dom_in_1.mono_l : ∀ k, (∀ y0 y1 y2 y3, LeO (slices_IndexFunc_int_int_dom_in_1.l0 k y0 y1 y2 y3) (slices_IndexFunc_int_int_dom_in_1.l0 (k + 1) y0 y1 y2 y3))
 | 0 => fun _ _ _ _ r h => by simp [slices_IndexFunc_int_int_dom_in_1.l0] at h
 | k + 1 => by
  have ih0 := slices_IndexFunc_int_int_dom_in_1.mono_l k
  ·intro y0 y1 y2 y3
   unfold slices_IndexFunc_int_int_dom_in_1.l0
   repeat' (with_reducible first | exact ih0 _ _ _ _ | exact dom_in_1.mono _ _ _ | exact LeO.refl _ | exact LeO.none _ | refine LeO.ite ?_ ?_ | refine LeO.bind ?_ (fun _ => ?_))
theorem slices_IndexFunc_int_int_dom_in_1.mono : ∀ a0 a1 k, LeO (slices_IndexFunc_int_int_dom_in_1.f k a0 a1) (slices_IndexFunc_int_int_dom_in_1.f (k + 1) a0 a1) :=
 fun a0 a1 k => slices_IndexFunc_int_int_dom_in_1.mono_l k _ _ _ _
set_option maxHeartbeats 8000000 in
set_option maxRecDepth 100000 in
theorem slices_IndexFunc_int_int_dom_in_1.calls (k : Nat) (A0 : Option Addr) (c0 : Nat) (l0 : List Int) (g1_ : Nat) (A1 : Option Addr) (c1 : Nat) (l1 : List Int) (r : Int) (w : World) (hr0 : Kd.C (Kd.int .i64) w A0 l0.length l0) (hc0 : l0.length ≤ c0) (hr1 : Kd.C (Kd.int .i64) w A1 l1.length l1) (hc1 : l1.length ≤ c1) (hcb1 : w.cell? ⟨g1_, 0, none⟩ = some (.slice A1 l1.length c1)) (h : slices_IndexFunc_int_int_dom_in_1.f k l0 l1 = some r) :
 Calls Try.prog 85 #[.slice A0 l0.length c0, .func (.func 59) #[] #[.pointer (some ⟨g1_, 0, none⟩)]] w fun e w' => e = .returned (.int .i64 r) ∧ Drawn0 w w' := by
 have HR0 := Aside0.mk hr0
 have HC0 := Aside0.mk hc0
 have HR1 := Aside0.mk hr1
 have HC1 := Aside0.mk hc1
 clear hr0 hc0 hr1 hc1
 have H : (slices_IndexFunc_int_int_dom_in_1.l0 k l0 (l0.length : Int) 0 l1) = some r := h
 clear h
 have H' := Aside0.mk H
 clear H
 go_enter Try.func85, Try.ntmps85
 go_wp2
 go_loopg [8] k (fun kq v8 w' => ∃ (x8_1 : Int), v8 = .int .i64 x8_1 ∧ Aside0 (slices_IndexFunc_int_int_dom_in_1.l0 kq l0 (l0.length : Int) x8_1 l1 = some r) ∧ Aside0 (kq ≤ k) ∧ Drawn0 w w')
 case atStart => exact ⟨(0), (by first | rfl | (simp; done) | (simp [*]; done)), H', ⟨Nat.le_refl _⟩, by repeat (first | exact Drawn0.refl _ | apply Drawn0.step)⟩
 case round =>
  clear H'
  obtain ⟨x8_1, rfl, HA, HK1, ⟨m1, rfl⟩⟩ := hrel
  cases gk with
  | zero => exact absurd HA.out (by simp [slices_IndexFunc_int_int_dom_in_1.l0])
  | succ k1 =>
   have H := HA.out
   clear HA
   simp only [slices_IndexFunc_int_int_dom_in_1.l0] at H
   by_cases c3 : x8_1 < (l0.length : Int)
   ·rw [if_pos c3] at H
    have c3b0 : decide (x8_1 < (l0.length : Int)) = true := decide_eq_true c3
    clear c3
    by_cases c4 : 0 ≤ x8_1
    ·rw [if_pos c4] at H
     have c4b0 : decide (0 ≤ x8_1) = true := decide_eq_true c4
     clear c4
     by_cases c5 : x8_1 < (l0.length : Int)
     ·rw [if_pos c5] at H
      have c5b0 : decide (x8_1 < (l0.length : Int)) = true := decide_eq_true c5
      clear c5
      replace H := Option.bind_eq_some_iff.mp H
      obtain ⟨t124, A60, H⟩ := H
      try dsimp only at H
      have A6 := Aside0.mk A60
      clear A60
      by_cases c7 : t124 = true
      ·subst c7
       have H1 : (some x8_1) = some r := by rw [if_pos rfl] at H; exact H
       clear H
       have H := H1
       clear H1
       obtain rfl := Option.some.inj H
       have p123 : 0 ≤ (x8_1 : Int) := D_
       have q123 : x8_1 < (l0.length : Int) := D_
       obtain ⟨ad123, e123, hx123_0⟩ := Kd.at_int HR0.out x8_1 p123 q123
       cases e123
       replace p123 := eq_true p123
       replace q123 := eq_true q123
       go_wp2_with (first | (go_at_call 59; (with_reducible refine (dom_in_1.calls k1 (rd l0 x8_1) g1_ A1 c1 l1 true _ ?side1 ?side2 ?side3 A6.out).mono ?_); (case side1 => exact CX_ HR1.out); (case side2 => exact HC1.out); (case side3 => exact (by first | exact hcb1 | simpa using hcb1)); rintro e w' ⟨rfl, ⟨nd, rfl⟩⟩))
       go_ret
       exact ⟨by first | rfl | (simp; done) | (simp [*]; done), by repeat (first | exact Drawn0.refl _ | apply Drawn0.step)⟩
      replace c7 := Bool.eq_false_iff.mpr c7
      subst c7
      have H1 : (slices_IndexFunc_int_int_dom_in_1.l0 k1 l0 (l0.length : Int) (wrap64 (x8_1 + 1)) l1) = some r := by rw [if_neg (show ¬ (false = true) by decide)] at H; exact H
      clear H
      have H := H1
      clear H1
      have H' := Aside0.mk H
      clear H
      have p123 : 0 ≤ (x8_1 : Int) := D_
      have q123 : x8_1 < (l0.length : Int) := D_
      obtain ⟨ad123, e123, hx123_0⟩ := Kd.at_int HR0.out x8_1 p123 q123
      cases e123
      replace p123 := eq_true p123
      replace q123 := eq_true q123
      go_wp2_with (first | (go_at_call 59; (with_reducible refine (dom_in_1.calls k1 (rd l0 x8_1) g1_ A1 c1 l1 false _ ?side1 ?side2 ?side3 A6.out).mono ?_); (case side1 => exact CX_ HR1.out); (case side2 => exact HC1.out); (case side3 => exact (by first | exact hcb1 | simpa using hcb1)); rintro e w' ⟨rfl, ⟨nd, rfl⟩⟩))
      go_roundg k1
      case measure => have := HK1.out; omega
      case rel => exact ⟨(wrap64 (x8_1 + 1)), (by first | rfl | (simp; done) | (simp [*]; done)), H', ⟨by have := HK1.out; omega⟩, by repeat (first | exact Drawn0.refl _ | apply Drawn0.step)⟩
     rw [if_neg c5] at H
     exact absurd H (by simp)
    rw [if_neg c4] at H
    exact absurd H (by simp)
   rw [if_neg c3] at H
   have c3b0 : decide (x8_1 < (l0.length : Int)) = false := decide_eq_false c3
   clear c3
   obtain rfl := Option.some.inj H
   go_wp2
   go_ret
   exact ⟨by first | rfl | (simp; done) | (simp [*]; done), by repeat (first | exact Drawn0.refl _ | apply Drawn0.step)⟩

def slices_ContainsFunc_int_int_dom_in_1.f (k : Nat) (l0 : List Int) (l1 : List Int) : Option (Bool) := (slices_IndexFunc_int_int_dom_in_1.f k l0 l1).bind fun t125 => (some (decide (t125 ≥ 0)))
theorem slices_ContainsFunc_int_int_dom_in_1.mono : ∀ a0 a1 k, LeO (slices_ContainsFunc_int_int_dom_in_1.f k a0 a1) (slices_ContainsFunc_int_int_dom_in_1.f (k + 1) a0 a1) := by
 intro a0 a1 k
 unfold slices_ContainsFunc_int_int_dom_in_1.f
 exact LeO.bind (slices_IndexFunc_int_int_dom_in_1.mono _ _ _) (fun _ => LeO.refl _)
set_option maxHeartbeats 8000000 in
set_option maxRecDepth 100000 in
theorem slices_ContainsFunc_int_int_dom_in_1.calls (k : Nat) (A0 : Option Addr) (c0 : Nat) (l0 : List Int) (g1_ : Nat) (A1 : Option Addr) (c1 : Nat) (l1 : List Int) (r : Bool) (w : World) (hr0 : Kd.C (Kd.int .i64) w A0 l0.length l0) (hc0 : l0.length ≤ c0) (hr1 : Kd.C (Kd.int .i64) w A1 l1.length l1) (hc1 : l1.length ≤ c1) (hcb1 : w.cell? ⟨g1_, 0, none⟩ = some (.slice A1 l1.length c1)) (h : slices_ContainsFunc_int_int_dom_in_1.f k l0 l1 = some r) :
 Calls Try.prog 58 #[.slice A0 l0.length c0, .func (.func 59) #[] #[.pointer (some ⟨g1_, 0, none⟩)]] w fun e w' => e = .returned (.bool r) ∧ Drawn0 w w' := by
 have HR0 := Aside0.mk hr0
 have HC0 := Aside0.mk hc0
 have HR1 := Aside0.mk hr1
 have HC1 := Aside0.mk hc1
 clear hr0 hc0 hr1 hc1
 have H : ((slices_IndexFunc_int_int_dom_in_1.f k l0 l1).bind fun t125 => (some (decide (t125 ≥ 0)))) = some r := h
 clear h
 replace H := Option.bind_eq_some_iff.mp H
 obtain ⟨t125, A30, H⟩ := H
 try dsimp only at H
 have A3 := Aside0.mk A30
 clear A30
 obtain rfl := Option.some.inj H
 go_enter Try.func58, Try.ntmps58
 go_wp2_with (first | (go_at_call 85; (with_reducible refine (slices_IndexFunc_int_int_dom_in_1.calls k _ _ l0 g1_ A1 c1 l1 t125 _ ?side1 ?side2 ?side3 ?side4 ?side5 A3.out).mono ?_); (case side1 => exact CX_ HR0.out); (case side2 => exact HC0.out); (case side3 => exact CX_ HR1.out); (case side4 => exact HC1.out); (case side5 => exact (by first | exact hcb1 | simpa using hcb1)); rintro e w' ⟨rfl, ⟨nd, rfl⟩⟩))
 go_ret
 exact ⟨by first | rfl | (simp; done) | (simp [*]; done), by repeat (first | exact Drawn0.refl _ | apply Drawn0.step)⟩

def dom_in.f (k : Nat) (l0 : List Int) (l1 : List Int) : Option (Bool) := (dom_right.f k l0).bind fun t => if t = true then (slices_ContainsFunc_int_int_dom_in_1.f k l1 l0).bind fun u => some (!u) else some false
theorem dom_in.mono : ∀ a0 a1 k, LeO (dom_in.f k a0 a1) (dom_in.f (k + 1) a0 a1) := by
 intro a0 a1 k
 unfold dom_in.f
 exact LeO.bind (dom_right.mono _ _) (fun _ => LeO.ite (LeO.bind (slices_ContainsFunc_int_int_dom_in_1.mono _ _ _) (fun _ => LeO.refl _)) (LeO.refl _))
set_option maxHeartbeats 8000000 in
set_option maxRecDepth 100000 in
theorem dom_in.calls (k : Nat) (A0 : Option Addr) (c0 : Nat) (l0 : List Int) (A1 : Option Addr) (c1 : Nat) (l1 : List Int) (r : Bool) (w : World) (hr0 : Kd.C (Kd.int .i64) w A0 l0.length l0) (hc0 : l0.length ≤ c0) (hr1 : Kd.C (Kd.int .i64) w A1 l1.length l1) (hc1 : l1.length ≤ c1) (h : dom_in.f k l0 l1 = some r) :
 Calls Try.prog 39 #[.slice A0 l0.length c0, .slice A1 l1.length c1] w fun e w' => e = .returned (.bool r) ∧ Below w.heap.size w w' := by
 have HR0 := Aside0.mk hr0
 have HC0 := Aside0.mk hc0
 have HR1 := Aside0.mk hr1
 have HC1 := Aside0.mk hc1
 clear hr0 hc0 hr1 hc1
 have HB := A_ (Below.refl w.heap.size w)
 have H : ((dom_right.f k l0).bind fun t => if t = true then (slices_ContainsFunc_int_int_dom_in_1.f k l1 l0).bind fun u => some (!u) else some false) = some r := h
 clear h
 replace H := Option.bind_eq_some_iff.mp H
 obtain ⟨t1, A1_, H⟩ := H
 have A3 := Aside0.mk A1_
 clear A1_
 go_enter Try.func39, Try.ntmps39
 go_upto_region 1 with (first | ((with_reducible refine gate_dst (N := 2) rfl ?_); refine box_event ?hg (N := 2) ?hd (cs := #[.slice A0 l0.length c0]) (t := 31) ?hr ?_; (case hd => rfl); (case hg => rfl); (case hr => first | (go_simp; done) | (go_simp; rfl)); intro gb hg w3 hbox hb; replace HB := A_ (below_step (B_) hb); have BK := A_ (hbox); clear hb hbox hg))
 have hcz : w3.cell? ⟨gb, 0, none⟩ = some (.slice A0 l0.length c0) := (blk_cell BK.out 0).trans rfl
 have hr0 := Kd.C_below HR0.out HB.out
 have hr1 := Kd.C_below HR1.out HB.out
 have HR0' := Aside0.mk hr0
 have HR1' := Aside0.mk hr1
 clear hr0 hr1
 by_cases c7 : t1 = true
 ·subst c7
  replace H : ((slices_ContainsFunc_int_int_dom_in_1.f k l1 l0).bind fun u => some (!u)) = some r := by rw [if_pos rfl] at H; exact H
  replace H := Option.bind_eq_some_iff.mp H
  obtain ⟨u1, A2_, H⟩ := H
  have A4 := Aside0.mk A2_
  clear A2_
  obtain rfl := Option.some.inj H
  clear H
  go_wp2_with (first | (go_at_call 57; (with_reducible refine (dom_right.calls k _ _ l0 true _ ?side1 ?side2 A3.out).mono ?_); (case side1 => repeat (first | exact HR0'.out | (with_reducible refine Kd.C_alloc ?_ _) | (with_reducible refine Kd.C_drewN ?_ _) | (with_reducible refine Kd.C_drew ?_))); (case side2 => exact HC0.out); rintro e w' ⟨rfl, ⟨nd, rfl⟩⟩) | (go_at_call 58; (with_reducible refine (slices_ContainsFunc_int_int_dom_in_1.calls k _ _ l1 gb A0 c0 l0 u1 _ ?side1 ?side2 ?side3 ?side4 ?side5 A4.out).mono ?_); (case side1 => repeat (first | exact HR1'.out | (with_reducible refine Kd.C_alloc ?_ _) | (with_reducible refine Kd.C_drewN ?_ _) | (with_reducible refine Kd.C_drew ?_))); (case side2 => exact HC1.out); (case side3 => repeat (first | exact HR0'.out | (with_reducible refine Kd.C_alloc ?_ _) | (with_reducible refine Kd.C_drewN ?_ _) | (with_reducible refine Kd.C_drew ?_))); (case side4 => exact HC0.out); (case side5 => exact (by first | exact hcz | simpa using hcz)); rintro e w' ⟨rfl, ⟨nd, rfl⟩⟩))
  go_ret
  exact ⟨by first | rfl | (simp; done) | (simp [*]; done), B_⟩
 replace c7 := Bool.eq_false_iff.mpr c7
 subst c7
 replace H : some false = some r := by rw [if_neg (show ¬ (false = true) by decide)] at H; exact H
 obtain rfl := Option.some.inj H
 clear H
 go_wp2_with (first | (go_at_call 57; (with_reducible refine (dom_right.calls k _ _ l0 false _ ?side1 ?side2 A3.out).mono ?_); (case side1 => repeat (first | exact HR0'.out | (with_reducible refine Kd.C_alloc ?_ _) | (with_reducible refine Kd.C_drewN ?_ _) | (with_reducible refine Kd.C_drew ?_))); (case side2 => exact HC0.out); rintro e w' ⟨rfl, ⟨nd, rfl⟩⟩))
 go_ret
 exact ⟨by first | rfl | (simp; done) | (simp [*]; done), B_⟩


/-! ### dom_Meet: function 40 -/
def dom_Meet.l0 : Nat → List Int → Int → Int → Option (Int)
 | 0, _, _, _ => none
 | k + 1, x0, x1, x2 => if x1 = x2 then (some x1) else ((dom_depth.f k x0 x1).bind fun t331 => ((dom_depth.f k x0 x2).bind fun t332 => (if t331 ≥ t332 then (if 0 ≤ x1 then (if x1 < (x0.length : Int) then (dom_Meet.l0 k x0 (rd x0 x1) x2) else (none)) else (none)) else (if 0 ≤ x2 then (if x2 < (x0.length : Int) then (dom_Meet.l0 k x0 x1 (rd x0 x2)) else (none)) else (none)))))
def dom_Meet.f (k : Nat) (l0 : List Int) (a1 : Int) (a2 : Int) : Option (Int) := (dom_in.f k l0 (([a1, a2] : List Int))).bind fun t330 => (if t330 = true then (dom_Meet.l0 k l0 a1 a2) else (some (-2)))
theorem dom_Meet.mono_l : ∀ k, (∀ y0 y1 y2, LeO (dom_Meet.l0 k y0 y1 y2) (dom_Meet.l0 (k + 1) y0 y1 y2))
 | 0 => fun _ _ _ r h => by simp [dom_Meet.l0] at h
 | k + 1 => by
  have ih0 := dom_Meet.mono_l k
  ·intro y0 y1 y2
   unfold dom_Meet.l0
   repeat' (with_reducible first | exact ih0 _ _ _ | exact dom_depth.mono _ _ _ | exact dom_in.mono _ _ _ | exact LeO.refl _ | exact LeO.none _ | refine LeO.ite ?_ ?_ | refine LeO.bind ?_ (fun _ => ?_))
theorem dom_Meet.mono : ∀ a0 a1 a2 k, LeO (dom_Meet.f k a0 a1 a2) (dom_Meet.f (k + 1) a0 a1 a2) := by
 intro a0 a1 a2 k
 have ih0 := dom_Meet.mono_l k
 unfold dom_Meet.f
 repeat' (with_reducible first | exact ih0 _ _ _ | exact dom_depth.mono _ _ _ | exact dom_in.mono _ _ _ | exact LeO.refl _ | exact LeO.none _ | refine LeO.ite ?_ ?_ | refine LeO.bind ?_ (fun _ => ?_))
set_option maxHeartbeats 8000000 in
set_option maxRecDepth 100000 in
theorem dom_Meet.calls (k : Nat) (A0 : Option Addr) (c0 : Nat) (l0 : List Int) (a1 : Int) (a2 : Int) (r : Int) (w : World) (hr0 : Kd.C (Kd.int .i64) w A0 l0.length l0) (hc0 : l0.length ≤ c0) (h : dom_Meet.f k l0 a1 a2 = some r) :
 Calls Try.prog 40 #[.slice A0 l0.length c0, .int .i64 a1, .int .i64 a2] w fun e w' => e = .returned (.int .i64 r) ∧ Below w.heap.size w w' := by
 have HR0 := Aside0.mk hr0
 have HC0 := Aside0.mk hc0
 clear hr0 hc0
 have HB := A_ (Below.refl w.heap.size w)
 have H : ((dom_in.f k l0 (([a1, a2] : List Int))).bind fun t330 => (if t330 = true then (dom_Meet.l0 k l0 a1 a2) else (some (-2)))) = some r := h
 clear h
 obtain ⟨y327, hy327⟩ : ∃ y_ : List Int, y_ = (([a1, a2] : List Int)) := ⟨_, rfl⟩
 replace H : ((dom_in.f k l0 y327).bind fun t330 => (if t330 = true then (dom_Meet.l0 k l0 a1 a2) else (some (-2)))) = some r := by first | (rw [hy327]; with_reducible exact H) | (have H2_ := (Option.bind_some _ _).symm.trans H; rw [hy327]; with_reducible exact H2_) | (have H2_ := (Option.bind_some _ _).symm.trans H; with_reducible exact H2_) | with_reducible exact H | (rw [hy327]; exact H) | exact H
 have Ny327 := Aside0.mk hy327
 clear hy327
 replace H := Option.bind_eq_some_iff.mp H
 obtain ⟨t330, A40, H⟩ := H
 try dsimp only at H
 have A4 := Aside0.mk A40
 clear A40
 by_cases c5 : t330 = true
 ·subst c5
  have H1 : (dom_Meet.l0 k l0 a1 a2) = some r := by rw [if_pos rfl] at H; exact H
  clear H
  have H := H1
  clear H1
  have H' := Aside0.mk H
  clear H
  go_enter Try.func40, Try.ntmps40
  go_wp2_with (first | ((with_reducible refine gate_dst (N := 10) rfl ?_); refine Kd.R_lit (Kd.int .i64) _ 3 ?hg (N := 10) ?hd (xs := ([a1, a2] : List Int)) (inner := [.int .i64 a1, .int .i64 a2]) (ok := fun _ => True) (okp := fun _ => True) ?hr ?hp (fun _ hk => hk) trivial (Below.refl _ _) (Nat.le_refl _) (by simp) ?_; (case hd => rfl); (case hg => rfl); (case hr => first | (go_simp; done) | (go_simp; rfl)); (case hp => exact (Reps.one (show Kd.M (Kd.int .i64) _ _ _ a1 [.int .i64 a1] from rfl) (Reps.one (show Kd.M (Kd.int .i64) _ _ _ a2 [.int .i64 a2] from rfl) (Reps.none _ _)))); intro v328 w6 ho7 hb hg_ hnew_; clear hg_ hnew_; (first | rw [← Ny327.out] at ho7 | (simp only [Int.reduceToNat] at ho7; rw [← Ny327.out] at ho7)); have HO329 := A_ (Kd.R_lower ho7 (below_size (B_))); replace HB := A_ (below_step (B_) hb); clear hb ho7; obtain ⟨Ao8, co8, eo8⟩ := Kd.R_slice HO329.out; subst eo8) | ((with_reducible refine gate_callee (f := 39) rfl ?_); refine goesL_ (some 11) rfl rfl Try.func39 (by kernel_rfl) rfl #[.slice A0 l0.length c0, .slice Ao8 y327.length co8] rfl (by (try simp only [List.map_toArray, List.map_cons, List.map_nil]); first | done | rfl | (simp only [List.length_drop, List.length_take]; rfl)) ?_; (with_reducible refine (dom_in.calls k _ _ l0 _ _ y327 true _ ?side1 ?side2 ?side3 ?side4 A4.out).mono ?_); (case side1 => exact CX_ (Kd.C_below HR0.out HB.out)); (case side2 => exact HC0.out); (case side3 => repeat (first | exact (Kd.R_reads' HO329.out).2.2 | (with_reducible refine Kd.C_alloc ?_ _) | (with_reducible refine Kd.C_drewN ?_ _) | (with_reducible refine Kd.C_drew ?_))); (case side4 => exact (Kd.R_reads' HO329.out).2.1); rintro e w9 ⟨rfl, hb⟩; refine ⟨_, rfl, ?_⟩; replace HO329 := A_ (Kd.R_below (by exact RX_ HO329.out) hb); replace HB := A_ (below_step (B_) hb); (try clear hb); (try clear hb2); (try clear hk); (try clear hi)))
  go_loopg [1, 2] k (fun kq v1 v2 w' => ∃ (x1_1 : Int) (x2_1 : Int), v1 = .int .i64 x1_1 ∧ v2 = .int .i64 x2_1 ∧ Aside0 (dom_Meet.l0 kq l0 x1_1 x2_1 = some r) ∧ Aside0 (kq ≤ k) ∧ Aside0 (Below w.heap.size w w'))
  case atStart => exact ⟨(a1), (a2), (by first | rfl | (simp; done) | (simp [*]; done)), (by first | rfl | (simp; done) | (simp [*]; done)), H', ⟨Nat.le_refl _⟩, ⟨B_⟩⟩
  case round =>
   clear H'
   try clear c5
   obtain ⟨x1_1, x2_1, rfl, rfl, HA, HK1, HB⟩ := hrel
   cases gk with
   | zero => exact absurd HA.out (by simp [dom_Meet.l0])
   | succ k1 =>
    have H := HA.out
    clear HA
    simp only [dom_Meet.l0] at H
    by_cases c10 : x1_1 = x2_1
    ·rw [if_pos c10] at H
     have c10b0 : (x1_1 == x2_1) = true := beq_iff_eq.mpr c10
     have c10b1 : (x1_1 != x2_1) = false := bne_eq_false_iff_eq.mpr c10
     clear c10
     obtain rfl := Option.some.inj H
     go_wp2
     go_ret
     exact ⟨by first | rfl | (simp [errW_none, errW_some] <;> rfl) | (simp [*, errW_none, errW_some] <;> rfl), B_⟩
    rw [if_neg c10] at H
    have c10b0 : (x1_1 == x2_1) = false := beq_eq_false_iff_ne.mpr c10
    have c10b1 : (x1_1 != x2_1) = true := bne_iff_ne.mpr c10
    replace H := Option.bind_eq_some_iff.mp H
    obtain ⟨t331, A110, H⟩ := H
    try dsimp only at H
    have A11 := Aside0.mk A110
    clear A110
    replace H := Option.bind_eq_some_iff.mp H
    obtain ⟨t332, A120, H⟩ := H
    try dsimp only at H
    have A12 := Aside0.mk A120
    clear A120
    by_cases c13 : t331 ≥ t332
    ·rw [if_pos c13] at H
     have c13b0 : decide (t332 ≤ t331) = true := decide_eq_true c13
     clear c13
     by_cases c14 : 0 ≤ x1_1
     ·rw [if_pos c14] at H
      have c14b0 : decide (0 ≤ x1_1) = true := decide_eq_true c14
      clear c14
      by_cases c15 : x1_1 < (l0.length : Int)
      ·rw [if_pos c15] at H
       have c15b0 : decide (x1_1 < (l0.length : Int)) = true := decide_eq_true c15
       clear c15
       have H' := Aside0.mk H
       clear H
       go_wp2_with (first | ((with_reducible refine gate_callee (f := 60) rfl ?_); refine goesL_ (some 18) rfl rfl Try.func60 (by kernel_rfl) rfl #[.slice A0 l0.length c0, .int .i64 x1_1] rfl (by (try simp only [List.map_toArray, List.map_cons, List.map_nil]); first | done | rfl | (simp only [List.length_drop, List.length_take]; rfl)) ?_; (with_reducible refine (dom_depth.calls k1 _ _ l0 x1_1 t331 _ ?side1 ?side2 A11.out).mono ?_); (case side1 => exact CX_ (Kd.C_below HR0.out HB.out)); (case side2 => exact HC0.out); rintro e w' ⟨rfl, ⟨nd, rfl⟩⟩; refine ⟨_, rfl, ?_⟩) | ((with_reducible refine gate_callee (f := 60) rfl ?_); refine goesL_ (some 21) rfl rfl Try.func60 (by kernel_rfl) rfl #[.slice A0 l0.length c0, .int .i64 x2_1] rfl (by (try simp only [List.map_toArray, List.map_cons, List.map_nil]); first | done | rfl | (simp only [List.length_drop, List.length_take]; rfl)) ?_; (with_reducible refine (dom_depth.calls k1 _ _ l0 x2_1 t332 _ ?side1 ?side2 A12.out).mono ?_); (case side1 => repeat (first | exact (Kd.C_below HR0.out (B_)) | (with_reducible refine Kd.C_alloc ?_ _) | (with_reducible refine Kd.C_drewN ?_ _) | (with_reducible refine Kd.C_drew ?_))); (case side2 => exact HC0.out); rintro e w' ⟨rfl, ⟨nd, rfl⟩⟩; refine ⟨_, rfl, ?_⟩; have p333 : 0 ≤ (x1_1 : Int) := D_; have q333 : x1_1 < (l0.length : Int) := D_; obtain ⟨ad333, e333, hx333_0⟩ := Kd.at_int HR0.out x1_1 p333 q333; cases e333; replace hx333_0 := (HB.out.cell (World.block_lt_of_cell? w _ hx333_0)).trans hx333_0; replace p333 := eq_true p333; replace q333 := eq_true q333))
       go_roundg k1
       case measure => have := HK1.out; omega
       case rel => exact ⟨(rd l0 x1_1), (x2_1), (by first | rfl | (simp; done) | (simp [*]; done)), (by first | rfl | (simp; done) | (simp [*]; done)), H', ⟨by have := HK1.out; omega⟩, ⟨B_⟩⟩
      rw [if_neg c15] at H
      exact absurd H (by simp)
     rw [if_neg c14] at H
     exact absurd H (by simp)
    rw [if_neg c13] at H
    have c13b0 : decide (t332 ≤ t331) = false := decide_eq_false c13
    clear c13
    by_cases c16 : 0 ≤ x2_1
    ·rw [if_pos c16] at H
     have c16b0 : decide (0 ≤ x2_1) = true := decide_eq_true c16
     clear c16
     by_cases c17 : x2_1 < (l0.length : Int)
     ·rw [if_pos c17] at H
      have c17b0 : decide (x2_1 < (l0.length : Int)) = true := decide_eq_true c17
      clear c17
      have H' := Aside0.mk H
      clear H
      go_wp2_with (first | ((with_reducible refine gate_callee (f := 60) rfl ?_); refine goesL_ (some 18) rfl rfl Try.func60 (by kernel_rfl) rfl #[.slice A0 l0.length c0, .int .i64 x1_1] rfl (by (try simp only [List.map_toArray, List.map_cons, List.map_nil]); first | done | rfl | (simp only [List.length_drop, List.length_take]; rfl)) ?_; (with_reducible refine (dom_depth.calls k1 _ _ l0 x1_1 t331 _ ?side1 ?side2 A11.out).mono ?_); (case side1 => exact CX_ (Kd.C_below HR0.out HB.out)); (case side2 => exact HC0.out); rintro e w' ⟨rfl, ⟨nd, rfl⟩⟩; refine ⟨_, rfl, ?_⟩) | ((with_reducible refine gate_callee (f := 60) rfl ?_); refine goesL_ (some 21) rfl rfl Try.func60 (by kernel_rfl) rfl #[.slice A0 l0.length c0, .int .i64 x2_1] rfl (by (try simp only [List.map_toArray, List.map_cons, List.map_nil]); first | done | rfl | (simp only [List.length_drop, List.length_take]; rfl)) ?_; (with_reducible refine (dom_depth.calls k1 _ _ l0 x2_1 t332 _ ?side1 ?side2 A12.out).mono ?_); (case side1 => repeat (first | exact (Kd.C_below HR0.out (B_)) | (with_reducible refine Kd.C_alloc ?_ _) | (with_reducible refine Kd.C_drewN ?_ _) | (with_reducible refine Kd.C_drew ?_))); (case side2 => exact HC0.out); rintro e w' ⟨rfl, ⟨nd, rfl⟩⟩; refine ⟨_, rfl, ?_⟩; have p334 : 0 ≤ (x2_1 : Int) := D_; have q334 : x2_1 < (l0.length : Int) := D_; obtain ⟨ad334, e334, hx334_0⟩ := Kd.at_int HR0.out x2_1 p334 q334; cases e334; replace hx334_0 := (HB.out.cell (World.block_lt_of_cell? w _ hx334_0)).trans hx334_0; replace p334 := eq_true p334; replace q334 := eq_true q334))
      go_roundg k1
      case measure => have := HK1.out; omega
      case rel => exact ⟨(x1_1), (rd l0 x2_1), (by first | rfl | (simp; done) | (simp [*]; done)), (by first | rfl | (simp; done) | (simp [*]; done)), H', ⟨by have := HK1.out; omega⟩, ⟨B_⟩⟩
     rw [if_neg c17] at H
     exact absurd H (by simp)
    rw [if_neg c16] at H
    exact absurd H (by simp)
 replace c5 := Bool.eq_false_iff.mpr c5
 subst c5
 have H1 : (some (-2)) = some r := by rw [if_neg (show ¬ (false = true) by decide)] at H; exact H
 clear H
 have H := H1
 clear H1
 obtain rfl := Option.some.inj H
 go_enter Try.func40, Try.ntmps40
 go_wp2_with (first | ((with_reducible refine gate_dst (N := 10) rfl ?_); refine Kd.R_lit (Kd.int .i64) _ 3 ?hg (N := 10) ?hd (xs := ([a1, a2] : List Int)) (inner := [.int .i64 a1, .int .i64 a2]) (ok := fun _ => True) (okp := fun _ => True) ?hr ?hp (fun _ hk => hk) trivial (Below.refl _ _) (Nat.le_refl _) (by simp) ?_; (case hd => rfl); (case hg => rfl); (case hr => first | (go_simp; done) | (go_simp; rfl)); (case hp => exact (Reps.one (show Kd.M (Kd.int .i64) _ _ _ a1 [.int .i64 a1] from rfl) (Reps.one (show Kd.M (Kd.int .i64) _ _ _ a2 [.int .i64 a2] from rfl) (Reps.none _ _)))); intro v328 w18 ho19 hb hg_ hnew_; clear hg_ hnew_; (first | rw [← Ny327.out] at ho19 | (simp only [Int.reduceToNat] at ho19; rw [← Ny327.out] at ho19)); have HO329 := A_ (Kd.R_lower ho19 (below_size (B_))); replace HB := A_ (below_step (B_) hb); clear hb ho19; obtain ⟨Ao20, co20, eo20⟩ := Kd.R_slice HO329.out; subst eo20) | ((with_reducible refine gate_callee (f := 39) rfl ?_); refine goesL_ (some 11) rfl rfl Try.func39 (by kernel_rfl) rfl #[.slice A0 l0.length c0, .slice Ao20 y327.length co20] rfl (by (try simp only [List.map_toArray, List.map_cons, List.map_nil]); first | done | rfl | (simp only [List.length_drop, List.length_take]; rfl)) ?_; (with_reducible refine (dom_in.calls k _ _ l0 _ _ y327 false _ ?side1 ?side2 ?side3 ?side4 A4.out).mono ?_); (case side1 => exact CX_ (Kd.C_below HR0.out HB.out)); (case side2 => exact HC0.out); (case side3 => repeat (first | exact (Kd.R_reads' HO329.out).2.2 | (with_reducible refine Kd.C_alloc ?_ _) | (with_reducible refine Kd.C_drewN ?_ _) | (with_reducible refine Kd.C_drew ?_))); (case side4 => exact (Kd.R_reads' HO329.out).2.1); rintro e w21 ⟨rfl, hb⟩; refine ⟨_, rfl, ?_⟩; replace HO329 := A_ (Kd.R_below (by exact RX_ HO329.out) hb); replace HB := A_ (below_step (B_) hb); (try clear hb); (try clear hb2); (try clear hk); (try clear hi)))
 go_ret
 exact ⟨by first | rfl | (simp [errW_none, errW_some] <;> rfl) | (simp [*, errW_none, errW_some] <;> rfl), B_⟩


/-! ### dom_Over: function 20 -/
def dom_Over.f (k : Nat) (l0 : List Int) (a1 : Int) (a2 : Int) : Option (Bool) := (dom_in.f k l0 (([a1, a2] : List Int))).bind fun t338 => (if t338 = true then ((dom_Meet.f k l0 a1 a2).bind fun t339 => (some (t339 == a1))) else (some false))
theorem dom_Over.mono : ∀ a0 a1 a2 k, LeO (dom_Over.f k a0 a1 a2) (dom_Over.f (k + 1) a0 a1 a2) := by
 intro a0 a1 a2 k
 unfold dom_Over.f
 repeat' (with_reducible first | exact dom_Meet.mono _ _ _ _ | exact dom_in.mono _ _ _ | exact LeO.refl _ | exact LeO.none _ | refine LeO.ite ?_ ?_ | refine LeO.bind ?_ (fun _ => ?_))
set_option maxHeartbeats 8000000 in
set_option maxRecDepth 100000 in
theorem dom_Over.calls (k : Nat) (A0 : Option Addr) (c0 : Nat) (l0 : List Int) (a1 : Int) (a2 : Int) (r : Bool) (w : World) (hr0 : Kd.C (Kd.int .i64) w A0 l0.length l0) (hc0 : l0.length ≤ c0) (h : dom_Over.f k l0 a1 a2 = some r) :
 Calls Try.prog 20 #[.slice A0 l0.length c0, .int .i64 a1, .int .i64 a2] w fun e w' => e = .returned (.bool r) ∧ Below w.heap.size w w' := by
 have HR0 := Aside0.mk hr0
 have HC0 := Aside0.mk hc0
 clear hr0 hc0
 have HB := A_ (Below.refl w.heap.size w)
 have H : ((dom_in.f k l0 (([a1, a2] : List Int))).bind fun t338 => (if t338 = true then ((dom_Meet.f k l0 a1 a2).bind fun t339 => (some (t339 == a1))) else (some false))) = some r := h
 clear h
 obtain ⟨y335, hy335⟩ : ∃ y_ : List Int, y_ = (([a1, a2] : List Int)) := ⟨_, rfl⟩
 replace H : ((dom_in.f k l0 y335).bind fun t338 => (if t338 = true then ((dom_Meet.f k l0 a1 a2).bind fun t339 => (some (t339 == a1))) else (some false))) = some r := by first | (rw [hy335]; with_reducible exact H) | (have H2_ := (Option.bind_some _ _).symm.trans H; rw [hy335]; with_reducible exact H2_) | (have H2_ := (Option.bind_some _ _).symm.trans H; with_reducible exact H2_) | with_reducible exact H | (rw [hy335]; exact H) | exact H
 have Ny335 := Aside0.mk hy335
 clear hy335
 replace H := Option.bind_eq_some_iff.mp H
 obtain ⟨t338, A40, H⟩ := H
 try dsimp only at H
 have A4 := Aside0.mk A40
 clear A40
 by_cases c5 : t338 = true
 ·subst c5
  have H1 : ((dom_Meet.f k l0 a1 a2).bind fun t339 => (some (t339 == a1))) = some r := by rw [if_pos rfl] at H; exact H
  clear H
  have H := H1
  clear H1
  replace H := Option.bind_eq_some_iff.mp H
  obtain ⟨t339, A60, H⟩ := H
  try dsimp only at H
  have A6 := Aside0.mk A60
  clear A60
  obtain rfl := Option.some.inj H
  go_enter Try.func20, Try.ntmps20
  go_wp2_with (first | ((with_reducible refine gate_dst (N := 10) rfl ?_); refine Kd.R_lit (Kd.int .i64) _ 3 ?hg (N := 10) ?hd (xs := ([a1, a2] : List Int)) (inner := [.int .i64 a1, .int .i64 a2]) (ok := fun _ => True) (okp := fun _ => True) ?hr ?hp (fun _ hk => hk) trivial (Below.refl _ _) (Nat.le_refl _) (by simp) ?_; (case hd => rfl); (case hg => rfl); (case hr => first | (go_simp; done) | (go_simp; rfl)); (case hp => exact (Reps.one (show Kd.M (Kd.int .i64) _ _ _ a1 [.int .i64 a1] from rfl) (Reps.one (show Kd.M (Kd.int .i64) _ _ _ a2 [.int .i64 a2] from rfl) (Reps.none _ _)))); intro v336 w7 ho8 hb hg_ hnew_; clear hg_ hnew_; (first | rw [← Ny335.out] at ho8 | (simp only [Int.reduceToNat] at ho8; rw [← Ny335.out] at ho8)); have HO337 := A_ (Kd.R_lower ho8 (below_size (B_))); replace HB := A_ (below_step (B_) hb); clear hb ho8; obtain ⟨Ao9, co9, eo9⟩ := Kd.R_slice HO337.out; subst eo9) | ((with_reducible refine gate_callee (f := 39) rfl ?_); refine goesL_ (some 11) rfl rfl Try.func39 (by kernel_rfl) rfl #[.slice A0 l0.length c0, .slice Ao9 y335.length co9] rfl (by (try simp only [List.map_toArray, List.map_cons, List.map_nil]); first | done | rfl | (simp only [List.length_drop, List.length_take]; rfl)) ?_; (with_reducible refine (dom_in.calls k _ _ l0 _ _ y335 true _ ?side1 ?side2 ?side3 ?side4 A4.out).mono ?_); (case side1 => exact CX_ (Kd.C_below HR0.out HB.out)); (case side2 => exact HC0.out); (case side3 => repeat (first | exact (Kd.R_reads' HO337.out).2.2 | (with_reducible refine Kd.C_alloc ?_ _) | (with_reducible refine Kd.C_drewN ?_ _) | (with_reducible refine Kd.C_drew ?_))); (case side4 => exact (Kd.R_reads' HO337.out).2.1); rintro e w10 ⟨rfl, hb⟩; refine ⟨_, rfl, ?_⟩; replace HO337 := A_ (Kd.R_below (by exact RX_ HO337.out) hb); replace HB := A_ (below_step (B_) hb); (try clear hb); (try clear hb2); (try clear hk); (try clear hi)) | (go_at_call 40; (with_reducible refine (dom_Meet.calls k _ _ l0 a1 a2 t339 _ ?side1 ?side2 A6.out).mono ?_); (case side1 => exact CX_ (Kd.C_below HR0.out HB.out)); (case side2 => exact HC0.out); rintro e w11 ⟨rfl, hb⟩; replace HO337 := A_ (Kd.R_below (by exact RX_ HO337.out) hb); replace HB := A_ (below_step (B_) hb); (try clear hb); (try clear hb2); (try clear hk); (try clear hi)))
  go_ret
  exact ⟨by first | rfl | (simp [errW_none, errW_some] <;> rfl) | (simp [*, errW_none, errW_some] <;> rfl), B_⟩
 replace c5 := Bool.eq_false_iff.mpr c5
 subst c5
 have H1 : (some false) = some r := by rw [if_neg (show ¬ (false = true) by decide)] at H; exact H
 clear H
 have H := H1
 clear H1
 obtain rfl := Option.some.inj H
 go_enter Try.func20, Try.ntmps20
 go_wp2_with (first | ((with_reducible refine gate_dst (N := 10) rfl ?_); refine Kd.R_lit (Kd.int .i64) _ 3 ?hg (N := 10) ?hd (xs := ([a1, a2] : List Int)) (inner := [.int .i64 a1, .int .i64 a2]) (ok := fun _ => True) (okp := fun _ => True) ?hr ?hp (fun _ hk => hk) trivial (Below.refl _ _) (Nat.le_refl _) (by simp) ?_; (case hd => rfl); (case hg => rfl); (case hr => first | (go_simp; done) | (go_simp; rfl)); (case hp => exact (Reps.one (show Kd.M (Kd.int .i64) _ _ _ a1 [.int .i64 a1] from rfl) (Reps.one (show Kd.M (Kd.int .i64) _ _ _ a2 [.int .i64 a2] from rfl) (Reps.none _ _)))); intro v336 w12 ho13 hb hg_ hnew_; clear hg_ hnew_; (first | rw [← Ny335.out] at ho13 | (simp only [Int.reduceToNat] at ho13; rw [← Ny335.out] at ho13)); have HO337 := A_ (Kd.R_lower ho13 (below_size (B_))); replace HB := A_ (below_step (B_) hb); clear hb ho13; obtain ⟨Ao14, co14, eo14⟩ := Kd.R_slice HO337.out; subst eo14) | ((with_reducible refine gate_callee (f := 39) rfl ?_); refine goesL_ (some 11) rfl rfl Try.func39 (by kernel_rfl) rfl #[.slice A0 l0.length c0, .slice Ao14 y335.length co14] rfl (by (try simp only [List.map_toArray, List.map_cons, List.map_nil]); first | done | rfl | (simp only [List.length_drop, List.length_take]; rfl)) ?_; (with_reducible refine (dom_in.calls k _ _ l0 _ _ y335 false _ ?side1 ?side2 ?side3 ?side4 A4.out).mono ?_); (case side1 => exact CX_ (Kd.C_below HR0.out HB.out)); (case side2 => exact HC0.out); (case side3 => repeat (first | exact (Kd.R_reads' HO337.out).2.2 | (with_reducible refine Kd.C_alloc ?_ _) | (with_reducible refine Kd.C_drewN ?_ _) | (with_reducible refine Kd.C_drew ?_))); (case side4 => exact (Kd.R_reads' HO337.out).2.1); rintro e w15 ⟨rfl, hb⟩; refine ⟨_, rfl, ?_⟩; replace HO337 := A_ (Kd.R_below (by exact RX_ HO337.out) hb); replace HB := A_ (below_step (B_) hb); (try clear hb); (try clear hb2); (try clear hk); (try clear hi)))
 go_ret
 exact ⟨by first | rfl | (simp [errW_none, errW_some] <;> rfl) | (simp [*, errW_none, errW_some] <;> rfl), B_⟩

/-! ### cmp_Less_int: function 80 -/
def cmp_Less_int.f (a0 : Int) (a1 : Int) : Option (Bool) := (cmp_isNaN_int.f a0).bind fun t340 => (if t340 = true then ((cmp_isNaN_int.f a1).bind fun t341 => (if t341 = true then (some (decide (a0 < a1))) else (some true))) else (some (decide (a0 < a1))))
set_option maxHeartbeats 8000000 in
set_option maxRecDepth 100000 in
theorem cmp_Less_int.calls (a0 : Int) (a1 : Int) (r : Bool) (w : World) (h : cmp_Less_int.f a0 a1 = some r) :
 Calls Try.prog 80 #[.int .i64 a0, .int .i64 a1] w fun e w' => e = .returned (.bool r) ∧ Drawn0 w w' := by
 have H : ((cmp_isNaN_int.f a0).bind fun t340 => (if t340 = true then ((cmp_isNaN_int.f a1).bind fun t341 => (if t341 = true then (some (decide (a0 < a1))) else (some true))) else (some (decide (a0 < a1))))) = some r := h
 clear h
 replace H := Option.bind_eq_some_iff.mp H
 obtain ⟨t340, A30, H⟩ := H
 try dsimp only at H
 have A3 := Aside0.mk A30
 clear A30
 by_cases c4 : t340 = true
 ·subst c4
  have H1 : ((cmp_isNaN_int.f a1).bind fun t341 => (if t341 = true then (some (decide (a0 < a1))) else (some true))) = some r := by rw [if_pos rfl] at H; exact H
  clear H
  have H := H1
  clear H1
  replace H := Option.bind_eq_some_iff.mp H
  obtain ⟨t341, A50, H⟩ := H
  try dsimp only at H
  have A5 := Aside0.mk A50
  clear A50
  by_cases c6 : t341 = true
  ·subst c6
   have H1 : (some (decide (a0 < a1))) = some r := by rw [if_pos rfl] at H; exact H
   clear H
   have H := H1
   clear H1
   obtain rfl := Option.some.inj H
   go_enter Try.func80, Try.ntmps80
   go_wp2_with (first | ((with_reducible refine gate_callee (f := 73) rfl ?_); refine goesL_ (some 6) rfl rfl Try.func73 (by kernel_rfl) rfl #[.int .i64 a0] rfl (by (try simp only [List.map_toArray, List.map_cons, List.map_nil]); first | done | rfl | (simp only [List.length_drop, List.length_take]; rfl)) ?_; (with_reducible refine (cmp_isNaN_int.calls a0 true _ A3.out).mono ?_); rintro e w' ⟨rfl, ⟨nd, rfl⟩⟩; refine ⟨_, rfl, ?_⟩) | (go_at_call 73; (with_reducible refine (cmp_isNaN_int.calls a1 true _ A5.out).mono ?_); rintro e w' ⟨rfl, ⟨nd, rfl⟩⟩))
   go_ret
   exact ⟨by first | rfl | (simp; done) | (simp [*]; done), by repeat (first | exact Drawn0.refl _ | apply Drawn0.step)⟩
  replace c6 := Bool.eq_false_iff.mpr c6
  subst c6
  have H1 : (some true) = some r := by rw [if_neg (show ¬ (false = true) by decide)] at H; exact H
  clear H
  have H := H1
  clear H1
  obtain rfl := Option.some.inj H
  go_enter Try.func80, Try.ntmps80
  go_wp2_with (first | ((with_reducible refine gate_callee (f := 73) rfl ?_); refine goesL_ (some 6) rfl rfl Try.func73 (by kernel_rfl) rfl #[.int .i64 a0] rfl (by (try simp only [List.map_toArray, List.map_cons, List.map_nil]); first | done | rfl | (simp only [List.length_drop, List.length_take]; rfl)) ?_; (with_reducible refine (cmp_isNaN_int.calls a0 true _ A3.out).mono ?_); rintro e w' ⟨rfl, ⟨nd, rfl⟩⟩; refine ⟨_, rfl, ?_⟩) | (go_at_call 73; (with_reducible refine (cmp_isNaN_int.calls a1 false _ A5.out).mono ?_); rintro e w' ⟨rfl, ⟨nd, rfl⟩⟩))
  go_ret
  exact ⟨by first | rfl | (simp; done) | (simp [*]; done), by repeat (first | exact Drawn0.refl _ | apply Drawn0.step)⟩
 replace c4 := Bool.eq_false_iff.mpr c4
 subst c4
 have H1 : (some (decide (a0 < a1))) = some r := by rw [if_neg (show ¬ (false = true) by decide)] at H; exact H
 clear H
 have H := H1
 clear H1
 obtain rfl := Option.some.inj H
 go_enter Try.func80, Try.ntmps80
 go_wp2_with (first | ((with_reducible refine gate_callee (f := 73) rfl ?_); refine goesL_ (some 6) rfl rfl Try.func73 (by kernel_rfl) rfl #[.int .i64 a0] rfl (by (try simp only [List.map_toArray, List.map_cons, List.map_nil]); first | done | rfl | (simp only [List.length_drop, List.length_take]; rfl)) ?_; (with_reducible refine (cmp_isNaN_int.calls a0 false _ A3.out).mono ?_); rintro e w' ⟨rfl, ⟨nd, rfl⟩⟩; refine ⟨_, rfl, ?_⟩))
 go_ret
 exact ⟨by first | rfl | (simp; done) | (simp [*]; done), by repeat (first | exact Drawn0.refl _ | apply Drawn0.step)⟩

-- NOT PRINTED: function 74 (slices_insertionSortOrdered_int)

-- NOT PRINTED: function 91 (slices_siftDownOrdered_int)

-- NOT PRINTED: function 75 (slices_heapSortOrdered_int)

-- NOT PRINTED: function 76 (slices_breakPatternsOrdered_int)

-- NOT PRINTED: function 95 (slices_order2Ordered_int)

-- NOT PRINTED: function 93 (slices_medianOrdered_int)

-- NOT PRINTED: function 92 (slices_medianAdjacentOrdered_int)

-- NOT PRINTED: function 77 (slices_choosePivotOrdered_int)

-- NOT PRINTED: function 78 (slices_reverseRangeOrdered_int)

-- NOT PRINTED: function 79 (slices_partialInsertionSortOrdered_int)

-- NOT PRINTED: function 81 (slices_partitionEqualOrdered_int)

-- NOT PRINTED: function 82 (slices_partitionOrdered_int)

-- NOT PRINTED: function 52 (slices_pdqsortOrdered_int)

/-! ### slices_Sort_int_int: function 27 -/
-- needs HSort
-- needs Srt
def slices_Sort_int_int.f (l0 : List Int) : Option (List Int) := if l0.length < 4611686018427387904 then some (isort (fun x y : Int => decide (x ≤ y)) l0) else none
open Go Go.Sort Go.Proofs.YtheillkpgmpnlaaW.PrintWords.Kd in
theorem slices_Sort_int_int.calls (P0_ : Nat → Prop) (u9000_ : Value) (l0 : List Int) (r : List Int) (w0 w : World) (hB : Below w0.heap.size w0 w) (ho0 : Kd.R (Kd.int .i64) 3 w w0.heap.size P0_ u9000_ l0) (h : slices_Sort_int_int.f l0 = some r) :
 Calls Try.prog 27 #[u9000_] w fun e w' => e = .returned (.tuple #[]) ∧ Kd.R (Kd.int .i64) 3 w' w0.heap.size (fun k_ => (P0_ k_ ∨ w.heap.size ≤ k_)) u9000_ r ∧ Below w0.heap.size w0 w' ∧ Kept w w' (fun k_ => P0_ k_) := by
  unfold slices_Sort_int_int.f at h
  by_cases hl : l0.length < 4611686018427387904
  · rw [if_pos hl] at h
    obtain rfl := Option.some.inj h
    rw [← msort (le := fun x y : Int => decide (x ≤ y)) (fun a b => by simp only [decide_eq_true_eq]; omega) (fun a b c h1 h2 => by simp only [decide_eq_true_eq] at *; omega) (fun a b h1 h2 => by simp only [decide_eq_true_eq] at *; omega) l0]
    have ho : w.ownsRow w0.heap.size 3 1 u9000_ l0.length (encs (Value.int .i64) l0) := own_of_R ho0
    have hok := ho0.1
    rcases ho.2 with ⟨rfl, h0⟩ | ⟨g, cap, cur, rfl, hg, _⟩
    · obtain rfl : l0 = [] := List.length_eq_zero_iff.mp h0
      refine (Try.slices_Sort_int_none none 0 w).mono ?_
      rintro e w' ⟨rfl, rfl⟩
      exact ⟨rfl, R_mono (by simpa using ho0) (fun k hk => .inl hk), hB, Kept.refl _ _⟩
    · obtain ⟨hh, hg2⟩ := own_holds ho
      refine (Try.slices_Sort_int g 0 cap l0 w (holds_ints hh) hg2 hl).mono ?_
      rintro e w' ⟨rfl, n, os, rfl⟩
      rw [put_ints]
      have hgr := sorted_grown w g n (encs (Value.int .i64) (l0.mergeSort fun x y => decide (x ≤ y))) os
      have hown := sorted_own ho n (encs (Value.int .i64) (l0.mergeSort fun x y => decide (x ≤ y))) (by simp [encs]) os
      have hlen : (l0.mergeSort fun x y => decide (x ≤ y)).length = l0.length := by simp
      refine ⟨rfl, R_of_own (by rw [hlen]; exact hown) (fun k hk => .inl (hok k hk)), hB.grown hgr hB.size (fun k hk => by injection hk with hk; rw [← hk]; exact hg), hgr.size, fun i hi hn => hgr.block i hi (fun e => hn (hok i ?_))⟩
      injection e with e
      rw [e]; rfl
  · rw [if_neg hl] at h; cases h


/-! ### slices_Compact_int_int: function 28 -/
-- needs HSort
-- needs Srt
def slices_Compact_int_int.f (l0 : List Int) : Option (List Int) := if l0.length ≤ 9223372036854775807 then some (Lib.compact l0) else none
open Go Go.Sort Go.Proofs.YtheillkpgmpnlaaW.PrintWords.Kd in
theorem slices_Compact_int_int.cut {w : World} {base e g n cap m : Nat} {xs ys : List Value} (h : w.ownsRow base e 1 (.slice (some ⟨g, 0, none⟩) n cap) n (ys ++ xs)) (hm : m = ys.length) : w.ownsRow base e 1 (.slice (some ⟨g, 0, none⟩) m cap) m ys := by
  obtain ⟨h1, h2⟩ := h
  rcases h2 with ⟨h2, _⟩ | ⟨g2, cap2, cur, h2, h3, h4, h5, h6, h7, h8⟩
  · cases h2
  · obtain ⟨rfl, rfl⟩ : g = g2 ∧ cap = cap2 := by simpa using h2
    rw [List.length_append] at h1
    refine ⟨by omega, .inr ⟨g, cap, cur, rfl, h3, h4, by omega, h6, h7, ?_⟩⟩
    have h9 := congrArg (List.take m) h8
    rw [List.take_take, Nat.min_eq_left (by omega), List.take_left' hm.symm] at h9
    rw [Nat.mul_one]; exact h9
open Go Go.Sort Go.Proofs.YtheillkpgmpnlaaW.PrintWords.Kd in
theorem slices_Compact_int_int.calls (P0_ : Nat → Prop) (u9000_ : Value) (l0 : List Int) (r : List Int) (w0 w : World) (hB : Below w0.heap.size w0 w) (ho0 : Kd.R (Kd.int .i64) 3 w w0.heap.size P0_ u9000_ l0) (h : slices_Compact_int_int.f l0 = some r) :
 Calls Try.prog 28 #[u9000_] w fun e w' => ∃ v0_ : Value, e = .returned (v0_) ∧ Kd.R (Kd.int .i64) 3 w' w0.heap.size (fun k_ => (P0_ k_ ∨ w.heap.size ≤ k_)) v0_ r ∧ Below w0.heap.size w0 w' ∧ Kept w w' (fun k_ => P0_ k_) := by
  unfold slices_Compact_int_int.f at h
  by_cases hl : l0.length ≤ 9223372036854775807
  · rw [if_pos hl] at h
    obtain rfl := Option.some.inj h
    have ho : w.ownsRow w0.heap.size 3 1 u9000_ l0.length (encs (Value.int .i64) l0) := own_of_R ho0
    have hok := ho0.1
    rcases ho.2 with ⟨rfl, h0⟩ | ⟨g, cap, cur, rfl, hg, _, hcap, _⟩
    · obtain rfl : l0 = [] := List.length_eq_zero_iff.mp h0
      refine (Try.slices_Compact_int_empty none 0 w).mono ?_
      rintro e w' ⟨rfl, rfl⟩
      exact ⟨_, rfl, R_nil _ _ _ _ _, hB, Kept.refl _ _⟩
    · obtain ⟨hh, hg2⟩ := own_holds ho
      refine (Try.slices_Compact_int g 0 cap l0 w (holds_ints hh) hl hcap).mono ?_
      rintro e w' ⟨rfl, n, rfl⟩
      have hle : (Lib.compact l0).length ≤ l0.length := Lib.compact_length_le l0
      rw [put_ints]
      have hgr := sorted_grown w g n (encs (Value.int .i64) (Lib.compact l0 ++ List.replicate (l0.length - (Lib.compact l0).length) 0)) #[]
      have hown := sorted_own ho n (encs (Value.int .i64) (Lib.compact l0 ++ List.replicate (l0.length - (Lib.compact l0).length) 0)) (by simp [encs]; omega) #[]
      have e0 : sorted_ w g n (encs (Value.int .i64) (Lib.compact l0 ++ List.replicate (l0.length - (Lib.compact l0).length) 0)) #[] = putRow id (Sort.ahead w n) g 0 (encs (Value.int .i64) (Lib.compact l0 ++ List.replicate (l0.length - (Lib.compact l0).length) 0)).toArray := by
        unfold sorted_; rw [grow_empty]
      rw [e0] at hgr hown
      have e1 : ∀ a b : List Int, encs (Value.int .i64) a ++ encs (Value.int .i64) b = encs (Value.int .i64) (a ++ b) := fun a b => List.map_append.symm
      have hown2 := slices_Compact_int_int.cut (m := (Lib.compact l0).length) (ys := encs (Value.int .i64) (Lib.compact l0)) (xs := encs (Value.int .i64) (List.replicate (l0.length - (Lib.compact l0).length) 0)) (by rw [e1]; exact hown) (by simp [encs])
      refine ⟨_, rfl, R_of_own hown2 (fun k hk => .inl (hok k (by simpa [Value.ownBlock] using hk))), hB.grown hgr hB.size (fun k hk => by injection hk with hk; rw [← hk]; exact hg), hgr.size, fun i hi hn => hgr.block i hi (fun e => hn (hok i ?_))⟩
      injection e with e
      rw [e]; rfl
  · rw [if_neg hl] at h; cases h


/-! ### dep_Frontier: function 13 -/
mutual
def dep_Frontier.l0 : Nat → Int → List Int → List Int → List (List Int) → Int → Int → Option (List Int)
 | 0, _, _, _, _, _, _ => none
 | k + 1, x1, x5, x6, x19, x20, x21 => if x21 < x20 then (if 0 ≤ x21 then (if x21 < (x19.length : Int) then ((dom_Over.f k x5 x1 x21).bind fun t352 => (if t352 = true then (dep_Frontier.l1 k x1 x5 x6 x19 x20 x21 (rd_L1 x19 x21) ((rd_L1 x19 x21).length : Int) 0) else (dep_Frontier.l0 k x1 x5 x6 x19 x20 (wrap64 (x21 + 1))))) else (none)) else (none)) else ((slices_Sort_int_int.f x6).bind fun t347 => ((slices_Compact_int_int.f t347).bind fun t348 => (some t348)))
def dep_Frontier.l1 : Nat → Int → List Int → List Int → List (List Int) → Int → Int → List Int → Int → Int → Option (List Int)
 | 0, _, _, _, _, _, _, _, _, _ => none
 | k + 1, x1, x5, x6, x19, x20, x21, x31, x32, x33 => if x33 < x32 then (if 0 ≤ x33 then (if x33 < (x31.length : Int) then (if (rd x31 x33) = x1 then (if x6.length < 17592186044416 then (dep_Frontier.l1 k x1 x5 (x6 ++ [rd x31 x33]) x19 x20 x21 x31 x32 (wrap64 (x33 + 1))) else (none)) else ((dom_Over.f k x5 x1 (rd x31 x33)).bind fun t357 => (if t357 = true then (dep_Frontier.l1 k x1 x5 x6 x19 x20 x21 x31 x32 (wrap64 (x33 + 1))) else (if x6.length < 17592186044416 then (dep_Frontier.l1 k x1 x5 (x6 ++ [rd x31 x33]) x19 x20 x21 x31 x32 (wrap64 (x33 + 1))) else (none))))) else (none)) else (none)) else (dep_Frontier.l0 k x1 x5 x6 x19 x20 (wrap64 (x21 + 1)))
end
def dep_Frontier.f (k : Nat) (l0_0 : List (List Int)) (l0_1 : List (List Int)) (a1 : Int) : Option (List Int) := (dom_Tree.f k l0_0 l0_1 0).bind fun t343 => ((dom_Over.f k t343 a1 a1).bind fun t346 => (if t346 = true then (dep_Frontier.l0 k a1 t343 ([] : List Int) l0_0 (l0_0.length : Int) 0) else (some ([] : List Int))))
theorem dep_Frontier.mono_l : ∀ k, (∀ y0 y1 y2 y3 y4 y5, LeO (dep_Frontier.l0 k y0 y1 y2 y3 y4 y5) (dep_Frontier.l0 (k + 1) y0 y1 y2 y3 y4 y5)) ∧ (∀ y0 y1 y2 y3 y4 y5 y6 y7 y8, LeO (dep_Frontier.l1 k y0 y1 y2 y3 y4 y5 y6 y7 y8) (dep_Frontier.l1 (k + 1) y0 y1 y2 y3 y4 y5 y6 y7 y8))
 | 0 => ⟨fun _ _ _ _ _ _ r h => by simp [dep_Frontier.l0] at h, fun _ _ _ _ _ _ _ _ _ r h => by simp [dep_Frontier.l1] at h⟩
 | k + 1 => by
  obtain ⟨ih0, ih1⟩ := dep_Frontier.mono_l k
  refine ⟨?_, ?_⟩
  ·intro y0 y1 y2 y3 y4 y5
   unfold dep_Frontier.l0
   repeat' (with_reducible first | exact ih0 _ _ _ _ _ _ | exact ih1 _ _ _ _ _ _ _ _ _ | exact dom_Over.mono _ _ _ _ | exact dom_Tree.mono _ _ _ _ | exact LeO.refl _ | exact LeO.none _ | refine LeO.ite ?_ ?_ | refine LeO.bind ?_ (fun _ => ?_))
  ·intro y0 y1 y2 y3 y4 y5 y6 y7 y8
   unfold dep_Frontier.l1
   repeat' (with_reducible first | exact ih0 _ _ _ _ _ _ | exact ih1 _ _ _ _ _ _ _ _ _ | exact dom_Over.mono _ _ _ _ | exact dom_Tree.mono _ _ _ _ | exact LeO.refl _ | exact LeO.none _ | refine LeO.ite ?_ ?_ | refine LeO.bind ?_ (fun _ => ?_))
theorem dep_Frontier.mono : ∀ a0 a1 a2 k, LeO (dep_Frontier.f k a0 a1 a2) (dep_Frontier.f (k + 1) a0 a1 a2) := by
 intro a0 a1 a2 k
 obtain ⟨ih0, ih1⟩ := dep_Frontier.mono_l k
 unfold dep_Frontier.f
 repeat' (with_reducible first | exact ih0 _ _ _ _ _ _ | exact ih1 _ _ _ _ _ _ _ _ _ | exact dom_Over.mono _ _ _ _ | exact dom_Tree.mono _ _ _ _ | exact LeO.refl _ | exact LeO.none _ | refine LeO.ite ?_ ?_ | refine LeO.bind ?_ (fun _ => ?_))
set_option maxHeartbeats 8000000 in
set_option maxRecDepth 100000 in
theorem dep_Frontier.calls (k : Nat) (A0_0 : Option Addr) (c0_0 : Nat) (l0_0 : List (List Int)) (A0_1 : Option Addr) (c0_1 : Nat) (l0_1 : List (List Int)) (a1 : Int) (r : List Int) (w : World) (hr0_0 : Kd.C (Kd.slice 3 (Kd.int .i64)) w A0_0 l0_0.length l0_0) (hc0_0 : l0_0.length ≤ c0_0) (hr0_1 : Kd.C (Kd.slice 3 (Kd.int .i64)) w A0_1 l0_1.length l0_1) (hc0_1 : l0_1.length ≤ c0_1) (h : dep_Frontier.f k l0_0 l0_1 a1 = some r) :
 Calls Try.prog 13 #[.agg #[.slice A0_0 l0_0.length c0_0, .slice A0_1 l0_1.length c0_1], .int .i64 a1] w fun e w' => ∃ v0_ : Value, e = .returned (v0_) ∧ Kd.R (Kd.int .i64) 3 w' w.heap.size (fun _ => True) v0_ r ∧ Below w.heap.size w w' := by
 have hu26 := Try.underlying26
 have HR0_0 := Aside0.mk hr0_0
 have HC0_0 := Aside0.mk hc0_0
 clear hr0_0 hc0_0
 have HR0_1 := Aside0.mk hr0_1
 have HC0_1 := Aside0.mk hc0_1
 clear hr0_1 hc0_1
 have HB := A_ (Below.refl w.heap.size w)
 have H : ((dom_Tree.f k l0_0 l0_1 0).bind fun t343 => ((dom_Over.f k t343 a1 a1).bind fun t346 => (if t346 = true then (dep_Frontier.l0 k a1 t343 ([] : List Int) l0_0 (l0_0.length : Int) 0) else (some ([] : List Int))))) = some r := h
 clear h
 replace H := Option.bind_eq_some_iff.mp H
 obtain ⟨t343, A30, H⟩ := H
 try dsimp only at H
 have A3 := Aside0.mk A30
 clear A30
 replace H := Option.bind_eq_some_iff.mp H
 obtain ⟨t346, A40, H⟩ := H
 try dsimp only at H
 have A4 := Aside0.mk A40
 clear A40
 by_cases c5 : t346 = true
 ·subst c5
  have H1 : (dep_Frontier.l0 k a1 t343 ([] : List Int) l0_0 (l0_0.length : Int) 0) = some r := by rw [if_pos rfl] at H; exact H
  clear H
  have H := H1
  clear H1
  have H' := Aside0.mk H
  clear H
  go_enter Try.func13, Try.ntmps13
  go_wp2_with (first | ((with_reducible refine gate_dst (N := 2) rfl ?_); refine box_event ?hg (N := 2) ?hd (cs := #[.slice A0_0 l0_0.length c0_0, .slice A0_1 l0_1.length c0_1]) (t := 26) ?hr ?_; (case hd => rfl); (case hg => rfl); (case hr => first | (go_simp; done) | (go_simp; rfl)); intro gb342 hg w6 hbox hb; have BK342 := A_ (hbox); have GW342 := A_ ((by rw [hg]; exact (below_size (B_)) : w.heap.size ≤ gb342)); have GE342 := A_ ((by rw [hg]; exact (below_size (B_)) : w.heap.size ≤ gb342)); replace HB := A_ (below_step (B_) hb); clear hb hbox hg; have hcz7_0 : w6.cell? ⟨gb342, 0, none⟩ = some (.slice A0_0 l0_0.length c0_0) := (blk_cell BK342.out 0).trans rfl; have hcz7_1 : w6.cell? ⟨gb342, 1, none⟩ = some (.slice A0_1 l0_1.length c0_1) := (blk_cell BK342.out 1).trans rfl; have hfz7_0 := blk_frozen BK342.out 0; have hfz7_1 := blk_frozen BK342.out 1) | ((with_reducible refine gate_callee (f := 19) rfl ?_); refine goesL_ (some 12) rfl rfl Try.func19 (by kernel_rfl) rfl #[.agg #[.slice A0_0 l0_0.length c0_0, .slice A0_1 l0_1.length c0_1], .int .i64 0] rfl (by (try simp only [List.map_toArray, List.map_cons, List.map_nil]); first | done | rfl | (simp only [List.length_drop, List.length_take]; rfl)) ?_; (with_reducible refine (dom_Tree.calls k _ _ l0_0 _ _ l0_1 0 t343 _ ?side1 ?side2 ?side3 ?side4 A3.out).mono ?_); (case side1 => exact CX_ (Kd.C_below HR0_0.out HB.out)); (case side2 => exact HC0_0.out); (case side3 => exact CX_ (Kd.C_below HR0_1.out HB.out)); (case side4 => exact HC0_1.out); rintro e w8 ⟨v344, rfl, ho0, hb⟩; refine ⟨_, rfl, ?_⟩; have HO345 := A_ (Kd.R_lower ho0 (below_size (B1_))); replace BK342 := A_ (blk_below (g := gb342) (o := .cells #[.slice A0_0 l0_0.length c0_0, .slice A0_1 l0_1.length c0_1] 26 (0, 0)) (by exact KX_ BK342.out) hb); replace HB := A_ (below_step (B1_) hb); (try clear hb); (try clear hb2); (try clear hk); (try clear hi); (try clear ho0); obtain ⟨Ao9, co9, eo9⟩ := Kd.R_slice HO345.out; subst eo9) | ((with_reducible refine gate_callee (f := 20) rfl ?_); refine goesL_ (some 16) rfl rfl Try.func20 (by kernel_rfl) rfl #[.slice Ao9 t343.length co9, .int .i64 a1, .int .i64 a1] rfl (by (try simp only [List.map_toArray, List.map_cons, List.map_nil]); first | done | rfl | (simp only [List.length_drop, List.length_take]; rfl)) ?_; (with_reducible refine (dom_Over.calls k _ _ t343 a1 a1 true _ ?side1 ?side2 A4.out).mono ?_); (case side1 => repeat (first | exact (Kd.R_reads' HO345.out).2.2 | (with_reducible refine Kd.C_alloc ?_ _) | (with_reducible refine Kd.C_drewN ?_ _) | (with_reducible refine Kd.C_drew ?_))); (case side2 => exact (Kd.R_reads' HO345.out).2.1); rintro e w10 ⟨rfl, hb⟩; refine ⟨_, rfl, ?_⟩; replace HO345 := A_ (Kd.R_below (by exact RX_ HO345.out) hb); replace BK342 := A_ (blk_below (g := gb342) (o := .cells #[.slice A0_0 l0_0.length c0_0, .slice A0_1 l0_1.length c0_1] 26 (0, 0)) (by exact KX_ BK342.out) hb); replace HB := A_ (below_step (B1_) hb); (try clear hb); (try clear hb2); (try clear hk); (try clear hi); have hcz11_0 : w10.cell? ⟨gb342, 0, none⟩ = some (.slice A0_0 l0_0.length c0_0) := (blk_cell BK342.out 0).trans rfl; have hcz11_1 : w10.cell? ⟨gb342, 1, none⟩ = some (.slice A0_1 l0_1.length c0_1) := (blk_cell BK342.out 1).trans rfl; have hfz11_0 := blk_frozen BK342.out 0; have hfz11_1 := blk_frozen BK342.out 1))
  go_loopg [6, 21] k (fun kq v6 v21 w' => ∃ (x6_1 : List Int) (x21_1 : Int), v21 = .int .i64 x21_1 ∧ Aside0 (dep_Frontier.l0 kq a1 t343 x6_1 l0_0 (l0_0.length : Int) x21_1 = some r) ∧ Aside0 (kq ≤ k) ∧ Aside0 (Kd.R (Kd.int .i64) 3 w' w.heap.size (fun k_ => some k_ ≠ (v6 : Value).ownBlock) (.slice Ao9 t343.length co9) t343) ∧ Aside0 (Kd.R (Kd.int .i64) 3 w' w.heap.size (fun k_ => some k_ ≠ ((.slice Ao9 t343.length co9) : Value).ownBlock) v6 x6_1) ∧ Aside0 (w'.heap[gb342]? = some (.cells #[(.slice A0_0 l0_0.length c0_0), (.slice A0_1 l0_1.length c0_1)] 26 (0, 0))) ∧ Aside0 (Below w.heap.size w w'))
  case atStart => exact ⟨(([] : List Int)), (0), (by first | rfl | (simp; done) | (simp [*]; done)), H', ⟨Nat.le_refl _⟩, ⟨by (with_reducible repeat (first | apply Kd.R_alloc | apply Kd.R_drewN | apply Kd.R_drew)); exact Kd.R_mono HO345.out (fun _ hk => (by simp [Value.ownBlock]))⟩, ⟨by first | exact Kd.R_nil _ _ _ _ _ | exact Kd.N_nil _ _ _ _ _ | exact Kd.V_nil _ _ _ _ _ | exact Kd.Q_nil _ _ _ _ _ | exact Kd.S_nil _ _ _ _ _⟩, ⟨by exact KX_ BK342.out⟩, ⟨B1_⟩⟩
  case round =>
   clear H'
   try clear c5
   try clear hcz11_0
   try clear hcz11_1
   try clear hcz7_0
   try clear hcz7_1
   try clear hfz11_0
   try clear hfz11_1
   try clear hfz7_0
   try clear hfz7_1
   obtain ⟨x6_1, x21_1, rfl, HA, HK1, HO_5, HO_6, BK342, HB⟩ := hrel
   cases gk with
   | zero => exact absurd HA.out (by simp [dep_Frontier.l0])
   | succ k1 =>
    have H := HA.out
    clear HA
    simp only [dep_Frontier.l0] at H
    by_cases c12 : x21_1 < (l0_0.length : Int)
    ·rw [if_pos c12] at H
     have c12b0 : decide (x21_1 < (l0_0.length : Int)) = true := decide_eq_true c12
     clear c12
     by_cases c13 : 0 ≤ x21_1
     ·rw [if_pos c13] at H
      have c13b0 : decide (0 ≤ x21_1) = true := decide_eq_true c13
      clear c13
      by_cases c14 : x21_1 < (l0_0.length : Int)
      ·rw [if_pos c14] at H
       have c14b0 : decide (x21_1 < (l0_0.length : Int)) = true := decide_eq_true c14
       clear c14
       replace H := Option.bind_eq_some_iff.mp H
       obtain ⟨t352, A150, H⟩ := H
       try dsimp only at H
       have A15 := Aside0.mk A150
       clear A150
       by_cases c16 : t352 = true
       ·subst c16
        have H1 : (dep_Frontier.l1 k1 a1 t343 x6_1 l0_0 (l0_0.length : Int) x21_1 (rd_L1 l0_0 x21_1) ((rd_L1 l0_0 x21_1).length : Int) 0) = some r := by rw [if_pos rfl] at H; exact H
        clear H
        have H := H1
        clear H1
        have H' := Aside0.mk H
        clear H
        have p351 : 0 ≤ (x21_1 : Int) := D_
        have q351 : x21_1 < (l0_0.length : Int) := D_
        obtain ⟨ad351, A351_0, c351_0, e351, hx351_0, hl351_0, hi351_0⟩ := at_L1 HR0_0.out x21_1 p351 q351
        cases e351
        replace hx351_0 := (HB.out.cell (World.block_lt_of_cell? w _ hx351_0)).trans hx351_0
        have HR351_0 := Aside0.mk hi351_0
        have HC351_0 := Aside0.mk hl351_0
        clear hi351_0 hl351_0
        replace p351 := eq_true p351
        replace q351 := eq_true q351
        go_wp2_with (first | ((with_reducible refine gate_callee (f := 20) rfl ?_); refine goesL_ (some 29) rfl rfl Try.func20 (by kernel_rfl) rfl #[.slice Ao9 t343.length co9, .int .i64 a1, .int .i64 x21_1] rfl (by (try simp only [List.map_toArray, List.map_cons, List.map_nil]); first | done | rfl | (simp only [List.length_drop, List.length_take]; rfl)) ?_; (with_reducible refine (dom_Over.calls k1 _ _ t343 a1 x21_1 true _ ?side1 ?side2 A15.out).mono ?_); (case side1 => repeat (first | exact (Kd.R_reads' HO_5.out).2.2 | (with_reducible refine Kd.C_alloc ?_ _) | (with_reducible refine Kd.C_drewN ?_ _) | (with_reducible refine Kd.C_drew ?_))); (case side2 => exact (Kd.R_reads' HO_5.out).2.1); rintro e w17 ⟨rfl, hb⟩; refine ⟨_, rfl, ?_⟩; replace HO_5 := A_ (Kd.R_below (by exact RX_ HO_5.out) hb); replace HO_6 := A_ (Kd.R_below (by exact RX_ HO_6.out) hb); replace BK342 := A_ (blk_below (g := gb342) (o := .cells #[.slice (some ad351) l0_0.length c0_0, .slice A0_1 l0_1.length c0_1] 26 (0, 0)) (by exact KX_ BK342.out) hb); replace HB := A_ (below_step (B1_) hb); (try clear hb); (try clear hb2); (try clear hk); (try clear hi)))
        go_loopg [6, 33] k1 (fun kq v6 v33 w' => ∃ (x6_2 : List Int) (x33_2 : Int), v33 = .int .i64 x33_2 ∧ Aside0 (dep_Frontier.l1 kq a1 t343 x6_2 l0_0 (l0_0.length : Int) x21_1 (rd_L1 l0_0 x21_1) ((rd_L1 l0_0 x21_1).length : Int) x33_2 = some r) ∧ Aside0 (kq ≤ k1) ∧ Aside0 (Kd.R (Kd.int .i64) 3 w' w.heap.size (fun k_ => some k_ ≠ (v6 : Value).ownBlock) (.slice Ao9 t343.length co9) t343) ∧ Aside0 (Kd.R (Kd.int .i64) 3 w' w.heap.size (fun k_ => some k_ ≠ ((.slice Ao9 t343.length co9) : Value).ownBlock) v6 x6_2) ∧ Aside0 (w'.heap[gb342]? = some (.cells #[(.slice (some ad351) l0_0.length c0_0), (.slice A0_1 l0_1.length c0_1)] 26 (0, 0))) ∧ Aside0 (Below w.heap.size w w'))
        case atStart => exact ⟨(x6_1), (0), (by first | rfl | (simp; done) | (simp [*]; done)), H', ⟨Nat.le_refl _⟩, ⟨by exact RM_ HO_5.out⟩, ⟨by exact RM_ HO_6.out⟩, ⟨by exact KX_ BK342.out⟩, ⟨B1_⟩⟩
        case round =>
         clear H'
         try clear c12b0
         try clear c13b0
         try clear c14b0
         try clear c16
         try clear hx351_0
         try clear p351
         try clear q351
         obtain ⟨x6_2, x33_2, rfl, HA, HK2, HO_5, HO_6, BK342, HB⟩ := hrel
         cases gk with
         | zero => exact absurd HA.out (by simp [dep_Frontier.l1])
         | succ k2 =>
          have H := HA.out
          clear HA
          simp only [dep_Frontier.l1] at H
          by_cases c18 : x33_2 < ((rd_L1 l0_0 x21_1).length : Int)
          ·rw [if_pos c18] at H
           have c18b0 : decide (x33_2 < ((rd_L1 l0_0 x21_1).length : Int)) = true := decide_eq_true c18
           clear c18
           by_cases c19 : 0 ≤ x33_2
           ·rw [if_pos c19] at H
            have c19b0 : decide (0 ≤ x33_2) = true := decide_eq_true c19
            clear c19
            by_cases c20 : x33_2 < ((rd_L1 l0_0 x21_1).length : Int)
            ·rw [if_pos c20] at H
             have c20b0 : decide (x33_2 < ((rd_L1 l0_0 x21_1).length : Int)) = true := decide_eq_true c20
             clear c20
             by_cases c21 : (rd (rd_L1 l0_0 x21_1) x33_2) = a1
             ·rw [if_pos c21] at H
              have c21b0 : ((rd (rd_L1 l0_0 x21_1) x33_2) == a1) = true := beq_iff_eq.mpr c21
              have c21b1 : ((rd (rd_L1 l0_0 x21_1) x33_2) != a1) = false := bne_eq_false_iff_eq.mpr c21
              clear c21
              by_cases c22 : x6_2.length < 17592186044416
              ·rw [if_pos c22] at H
               have LMc22 := Aside0.mk c22
               clear c22
               obtain ⟨y354, hy354⟩ : ∃ y_ : List Int, y_ = (x6_2 ++ [rd (rd_L1 l0_0 x21_1) x33_2]) := ⟨_, rfl⟩
               replace H : (dep_Frontier.l1 k2 a1 t343 y354 l0_0 (l0_0.length : Int) x21_1 (rd_L1 l0_0 x21_1) ((rd_L1 l0_0 x21_1).length : Int) (wrap64 (x33_2 + 1))) = some r := by first | (rw [hy354]; with_reducible exact H) | (have H2_ := (Option.bind_some _ _).symm.trans H; rw [hy354]; with_reducible exact H2_) | (have H2_ := (Option.bind_some _ _).symm.trans H; with_reducible exact H2_) | with_reducible exact H | (rw [hy354]; exact H) | exact H
               have Ny354 := Aside0.mk hy354
               clear hy354
               have H' := Aside0.mk H
               clear H
               have p353 : 0 ≤ (x33_2 : Int) := D_
               have q353 : x33_2 < ((rd_L1 l0_0 x21_1).length : Int) := D_
               obtain ⟨ad353, e353, hx353_0⟩ := Kd.at_int HR351_0.out x33_2 p353 q353
               cases e353
               replace hx353_0 := (HB.out.cell (World.block_lt_of_cell? w _ hx353_0)).trans hx353_0
               replace p353 := eq_true p353
               replace q353 := eq_true q353
               go_wp2_with (first | ((with_reducible refine gate_builtin (b := .append) (xs := #[.tmp 47, .tmp 49]) rfl ?_); at_builtin; refine Kd.R_append (Kd.int .i64) (w0 := w) w.heap.size rfl (.tmp 47) (.tmp 49) 31 3 (.int .i64 0) 8 rfl Try.underlying31 info3 rfl (by decide) (by omega) u6 x6_2 (rd (rd_L1 l0_0 x21_1) x33_2) [.int .i64 (rd (rd_L1 l0_0 x21_1) x33_2)] (fun k_ => some k_ ≠ (.slice Ao9 t343.length co9 : Value).ownBlock) (fun _ => False) rfl rfl ?aP (fun _ hk => hk.elim) ?aF ?aO ?aB ?aS ?aL ?_; (case aP => exact rfl); (case aB => exact (B1_)); (case aF => exact (fun k_ hk => Kd.fresh' (Kd.R_lt (by exact RX_ HO_5.out)) k_ hk)); (case aO => exact (by exact RX_ HO_6.out)); (case aS => exact (below_size (B1_))); (case aL => have := LMc22.out; omega); intro v355 w23 ho hb hg hat; rw [← Ny354.out] at ho; replace HO_5 := A_ (Kd.R_after (ok := (fun _ => True)) (by (with_reducible repeat (first | apply Kd.R_alloc | apply Kd.R_drewN | apply Kd.R_drew)); exact Kd.R_mono HO_5.out (fun _ hk => by first | exact ⟨trivial, hk⟩ | exact hk | exact ⟨hk.1, hk.2⟩ | simp_all)) hg hat); replace BK342 := A_ (blk_grown (g := gb342) (o := .cells #[.slice (some ad351) l0_0.length c0_0, .slice A0_1 l0_1.length c0_1] 26 (0, 0)) (by exact KX_ BK342.out) hg (Kd.R_ne HO_6.out BK342.out (by decide))); replace HB := A_ (hb); have HO356 := A_ (ho); clear HO_6; clear ho hb hg hat))
               go_roundg k2
               case measure => have := HK1.out; have := HK2.out; omega
               case rel => exact ⟨(y354), (wrap64 (x33_2 + 1)), (by first | rfl | (simp; done) | (simp [*]; done)), H', ⟨by have := HK1.out; have := HK2.out; omega⟩, ⟨by (with_reducible repeat (first | apply Kd.R_alloc | apply Kd.R_drewN | apply Kd.R_drew)); exact Kd.R_mono HO_5.out (fun _ hk => by first | exact hk.2 | exact hk | exact ⟨hk.1, hk.2⟩ | simp_all)⟩, ⟨by exact RM_ HO356.out⟩, ⟨by exact KX_ BK342.out⟩, ⟨B1_⟩⟩
              rw [if_neg c22] at H
              exact absurd H (by simp)
             rw [if_neg c21] at H
             have c21b0 : ((rd (rd_L1 l0_0 x21_1) x33_2) == a1) = false := beq_eq_false_iff_ne.mpr c21
             have c21b1 : ((rd (rd_L1 l0_0 x21_1) x33_2) != a1) = true := bne_iff_ne.mpr c21
             replace H := Option.bind_eq_some_iff.mp H
             obtain ⟨t357, A240, H⟩ := H
             try dsimp only at H
             have A24 := Aside0.mk A240
             clear A240
             by_cases c25 : t357 = true
             ·subst c25
              have H1 : (dep_Frontier.l1 k2 a1 t343 x6_2 l0_0 (l0_0.length : Int) x21_1 (rd_L1 l0_0 x21_1) ((rd_L1 l0_0 x21_1).length : Int) (wrap64 (x33_2 + 1))) = some r := by rw [if_pos rfl] at H; exact H
              clear H
              have H := H1
              clear H1
              have H' := Aside0.mk H
              clear H
              have p353 : 0 ≤ (x33_2 : Int) := D_
              have q353 : x33_2 < ((rd_L1 l0_0 x21_1).length : Int) := D_
              obtain ⟨ad353, e353, hx353_0⟩ := Kd.at_int HR351_0.out x33_2 p353 q353
              cases e353
              replace hx353_0 := (HB.out.cell (World.block_lt_of_cell? w _ hx353_0)).trans hx353_0
              replace p353 := eq_true p353
              replace q353 := eq_true q353
              go_wp2_with (first | (go_at_call 20; (with_reducible refine (dom_Over.calls k2 _ _ t343 a1 (rd (rd_L1 l0_0 x21_1) x33_2) true _ ?side1 ?side2 A24.out).mono ?_); (case side1 => repeat (first | exact (Kd.R_reads' HO_5.out).2.2 | (with_reducible refine Kd.C_alloc ?_ _) | (with_reducible refine Kd.C_drewN ?_ _) | (with_reducible refine Kd.C_drew ?_))); (case side2 => exact (Kd.R_reads' HO_5.out).2.1); rintro e w26 ⟨rfl, hb⟩; replace HO_5 := A_ (Kd.R_below (by exact RX_ HO_5.out) hb); replace HO_6 := A_ (Kd.R_below (by exact RX_ HO_6.out) hb); replace BK342 := A_ (blk_below (g := gb342) (o := .cells #[.slice (some ad351) l0_0.length c0_0, .slice A0_1 l0_1.length c0_1] 26 (0, 0)) (by exact KX_ BK342.out) hb); replace HB := A_ (below_step (B1_) hb); (try clear hb); (try clear hb2); (try clear hk); (try clear hi)))
              go_roundg k2
              case measure => have := HK1.out; have := HK2.out; omega
              case rel => exact ⟨(x6_2), (wrap64 (x33_2 + 1)), (by first | rfl | (simp; done) | (simp [*]; done)), H', ⟨by have := HK1.out; have := HK2.out; omega⟩, ⟨by exact RM_ HO_5.out⟩, ⟨by exact RM_ HO_6.out⟩, ⟨by exact KX_ BK342.out⟩, ⟨B1_⟩⟩
             replace c25 := Bool.eq_false_iff.mpr c25
             subst c25
             have H1 : (if x6_2.length < 17592186044416 then (dep_Frontier.l1 k2 a1 t343 (x6_2 ++ [rd (rd_L1 l0_0 x21_1) x33_2]) l0_0 (l0_0.length : Int) x21_1 (rd_L1 l0_0 x21_1) ((rd_L1 l0_0 x21_1).length : Int) (wrap64 (x33_2 + 1))) else (none)) = some r := by rw [if_neg (show ¬ (false = true) by decide)] at H; exact H
             clear H
             have H := H1
             clear H1
             by_cases c27 : x6_2.length < 17592186044416
             ·rw [if_pos c27] at H
              have LMc27 := Aside0.mk c27
              clear c27
              obtain ⟨y358, hy358⟩ : ∃ y_ : List Int, y_ = (x6_2 ++ [rd (rd_L1 l0_0 x21_1) x33_2]) := ⟨_, rfl⟩
              replace H : (dep_Frontier.l1 k2 a1 t343 y358 l0_0 (l0_0.length : Int) x21_1 (rd_L1 l0_0 x21_1) ((rd_L1 l0_0 x21_1).length : Int) (wrap64 (x33_2 + 1))) = some r := by first | (rw [hy358]; with_reducible exact H) | (have H2_ := (Option.bind_some _ _).symm.trans H; rw [hy358]; with_reducible exact H2_) | (have H2_ := (Option.bind_some _ _).symm.trans H; with_reducible exact H2_) | with_reducible exact H | (rw [hy358]; exact H) | exact H
              have Ny358 := Aside0.mk hy358
              clear hy358
              have H' := Aside0.mk H
              clear H
              have p353 : 0 ≤ (x33_2 : Int) := D_
              have q353 : x33_2 < ((rd_L1 l0_0 x21_1).length : Int) := D_
              obtain ⟨ad353, e353, hx353_0⟩ := Kd.at_int HR351_0.out x33_2 p353 q353
              cases e353
              replace hx353_0 := (HB.out.cell (World.block_lt_of_cell? w _ hx353_0)).trans hx353_0
              replace p353 := eq_true p353
              replace q353 := eq_true q353
              go_wp2_with (first | (go_at_call 20; (with_reducible refine (dom_Over.calls k2 _ _ t343 a1 (rd (rd_L1 l0_0 x21_1) x33_2) false _ ?side1 ?side2 A24.out).mono ?_); (case side1 => repeat (first | exact (Kd.R_reads' HO_5.out).2.2 | (with_reducible refine Kd.C_alloc ?_ _) | (with_reducible refine Kd.C_drewN ?_ _) | (with_reducible refine Kd.C_drew ?_))); (case side2 => exact (Kd.R_reads' HO_5.out).2.1); rintro e w28 ⟨rfl, hb⟩; replace HO_5 := A_ (Kd.R_below (by exact RX_ HO_5.out) hb); replace HO_6 := A_ (Kd.R_below (by exact RX_ HO_6.out) hb); replace BK342 := A_ (blk_below (g := gb342) (o := .cells #[.slice (some ad351) l0_0.length c0_0, .slice A0_1 l0_1.length c0_1] 26 (0, 0)) (by exact KX_ BK342.out) hb); replace HB := A_ (below_step (B1_) hb); (try clear hb); (try clear hb2); (try clear hk); (try clear hi)) | ((with_reducible refine gate_builtin (b := .append) (xs := #[.tmp 47, .tmp 49]) rfl ?_); at_builtin; refine Kd.R_append (Kd.int .i64) (w0 := w) w.heap.size rfl (.tmp 47) (.tmp 49) 31 3 (.int .i64 0) 8 rfl Try.underlying31 info3 rfl (by decide) (by omega) u6 x6_2 (rd (rd_L1 l0_0 x21_1) x33_2) [.int .i64 (rd (rd_L1 l0_0 x21_1) x33_2)] (fun k_ => some k_ ≠ (.slice Ao9 t343.length co9 : Value).ownBlock) (fun _ => False) rfl rfl ?aP (fun _ hk => hk.elim) ?aF ?aO ?aB ?aS ?aL ?_; (case aP => exact rfl); (case aB => exact (B1_)); (case aF => exact (fun k_ hk => Kd.fresh' (Kd.R_lt (by exact RX_ HO_5.out)) k_ hk)); (case aO => exact (by exact RX_ HO_6.out)); (case aS => exact (below_size (B1_))); (case aL => have := LMc27.out; omega); intro v359 w29 ho hb hg hat; rw [← Ny358.out] at ho; replace HO_5 := A_ (Kd.R_after (ok := (fun _ => True)) (by (with_reducible repeat (first | apply Kd.R_alloc | apply Kd.R_drewN | apply Kd.R_drew)); exact Kd.R_mono HO_5.out (fun _ hk => by first | exact ⟨trivial, hk⟩ | exact hk | exact ⟨hk.1, hk.2⟩ | simp_all)) hg hat); replace BK342 := A_ (blk_grown (g := gb342) (o := .cells #[.slice (some ad351) l0_0.length c0_0, .slice A0_1 l0_1.length c0_1] 26 (0, 0)) (by exact KX_ BK342.out) hg (Kd.R_ne HO_6.out BK342.out (by decide))); replace HB := A_ (hb); have HO360 := A_ (ho); clear HO_6; clear ho hb hg hat))
              go_roundg k2
              case measure => have := HK1.out; have := HK2.out; omega
              case rel => exact ⟨(y358), (wrap64 (x33_2 + 1)), (by first | rfl | (simp; done) | (simp [*]; done)), H', ⟨by have := HK1.out; have := HK2.out; omega⟩, ⟨by (with_reducible repeat (first | apply Kd.R_alloc | apply Kd.R_drewN | apply Kd.R_drew)); exact Kd.R_mono HO_5.out (fun _ hk => by first | exact hk.2 | exact hk | exact ⟨hk.1, hk.2⟩ | simp_all)⟩, ⟨by exact RM_ HO360.out⟩, ⟨by exact KX_ BK342.out⟩, ⟨B1_⟩⟩
             rw [if_neg c27] at H
             exact absurd H (by simp)
            rw [if_neg c20] at H
            exact absurd H (by simp)
           rw [if_neg c19] at H
           exact absurd H (by simp)
          rw [if_neg c18] at H
          have c18b0 : decide (x33_2 < ((rd_L1 l0_0 x21_1).length : Int)) = false := decide_eq_false c18
          clear c18
          have H' := Aside0.mk H
          clear H
          go_wp2
          go_roundg k2
          case measure => have := HK1.out; have := HK2.out; omega
          case rel => exact ⟨(x6_2), (wrap64 (x21_1 + 1)), (by first | rfl | (simp; done) | (simp [*]; done)), H', ⟨by have := HK1.out; have := HK2.out; omega⟩, ⟨by exact RM_ HO_5.out⟩, ⟨by exact RM_ HO_6.out⟩, ⟨by exact KX_ BK342.out⟩, ⟨B1_⟩⟩
       replace c16 := Bool.eq_false_iff.mpr c16
       subst c16
       have H1 : (dep_Frontier.l0 k1 a1 t343 x6_1 l0_0 (l0_0.length : Int) (wrap64 (x21_1 + 1))) = some r := by rw [if_neg (show ¬ (false = true) by decide)] at H; exact H
       clear H
       have H := H1
       clear H1
       have H' := Aside0.mk H
       clear H
       have p351 : 0 ≤ (x21_1 : Int) := D_
       have q351 : x21_1 < (l0_0.length : Int) := D_
       obtain ⟨ad351, A351_0, c351_0, e351, hx351_0, hl351_0, hi351_0⟩ := at_L1 HR0_0.out x21_1 p351 q351
       cases e351
       replace hx351_0 := (HB.out.cell (World.block_lt_of_cell? w _ hx351_0)).trans hx351_0
       have HR351_0 := Aside0.mk hi351_0
       have HC351_0 := Aside0.mk hl351_0
       clear hi351_0 hl351_0
       replace p351 := eq_true p351
       replace q351 := eq_true q351
       go_wp2_with (first | ((with_reducible refine gate_callee (f := 20) rfl ?_); refine goesL_ (some 29) rfl rfl Try.func20 (by kernel_rfl) rfl #[.slice Ao9 t343.length co9, .int .i64 a1, .int .i64 x21_1] rfl (by (try simp only [List.map_toArray, List.map_cons, List.map_nil]); first | done | rfl | (simp only [List.length_drop, List.length_take]; rfl)) ?_; (with_reducible refine (dom_Over.calls k1 _ _ t343 a1 x21_1 false _ ?side1 ?side2 A15.out).mono ?_); (case side1 => repeat (first | exact (Kd.R_reads' HO_5.out).2.2 | (with_reducible refine Kd.C_alloc ?_ _) | (with_reducible refine Kd.C_drewN ?_ _) | (with_reducible refine Kd.C_drew ?_))); (case side2 => exact (Kd.R_reads' HO_5.out).2.1); rintro e w30 ⟨rfl, hb⟩; refine ⟨_, rfl, ?_⟩; replace HO_5 := A_ (Kd.R_below (by exact RX_ HO_5.out) hb); replace HO_6 := A_ (Kd.R_below (by exact RX_ HO_6.out) hb); replace BK342 := A_ (blk_below (g := gb342) (o := .cells #[.slice (some ad351) l0_0.length c0_0, .slice A0_1 l0_1.length c0_1] 26 (0, 0)) (by exact KX_ BK342.out) hb); replace HB := A_ (below_step (B1_) hb); (try clear hb); (try clear hb2); (try clear hk); (try clear hi)))
       go_roundg k1
       case measure => have := HK1.out; omega
       case rel => exact ⟨(x6_1), (wrap64 (x21_1 + 1)), (by first | rfl | (simp; done) | (simp [*]; done)), H', ⟨by have := HK1.out; omega⟩, ⟨by exact RM_ HO_5.out⟩, ⟨by exact RM_ HO_6.out⟩, ⟨by exact KX_ BK342.out⟩, ⟨B1_⟩⟩
      rw [if_neg c14] at H
      exact absurd H (by simp)
     rw [if_neg c13] at H
     exact absurd H (by simp)
    rw [if_neg c12] at H
    have c12b0 : decide (x21_1 < (l0_0.length : Int)) = false := decide_eq_false c12
    clear c12
    replace H := Option.bind_eq_some_iff.mp H
    obtain ⟨t347, A310, H⟩ := H
    try dsimp only at H
    have A31 := Aside0.mk A310
    clear A310
    replace H := Option.bind_eq_some_iff.mp H
    obtain ⟨t348, A320, H⟩ := H
    try dsimp only at H
    have A32 := Aside0.mk A320
    clear A320
    obtain rfl := Option.some.inj H
    obtain ⟨Ao33, co33, eo33⟩ := Kd.R_slice HO_6.out
    subst eo33
    go_wp2_with (first | ((with_reducible refine gate_callee (f := 27) rfl ?_); refine goesL_ (some 54) rfl rfl Try.func27 (by kernel_rfl) rfl #[.slice Ao33 x6_1.length co33] rfl (by (try simp only [List.map_toArray, List.map_cons, List.map_nil]); first | done | rfl | (simp only [List.length_drop, List.length_take]; rfl)) ?_; (with_reducible refine (slices_Sort_int_int.calls (fun k_ => some k_ = (.slice Ao33 x6_1.length co33 : Value).ownBlock) (.slice Ao33 x6_1.length co33) x6_1 t347 w _ ?side1 ?side2 A31.out).mono ?_); (case side1 => repeat (first | (with_reducible first | exact HB.out | apply below_alloc | apply pw_below_drewN | apply below_drew1 | refine below_set ?_ GE342.out) | exact HB.out)); (case side2 => exact Kd.R_tight rfl HO_6.out); rintro e w34 ⟨rfl, hy0, hb, hkp⟩; refine ⟨_, rfl, ?_⟩; replace HO_5 := A_ (Kd.R_mono (ok' := fun k_ => some k_ ≠ (.slice Ao33 x6_1.length co33 : Value).ownBlock) (Kd.R_keptB (HO_5.out) hkp (fun k_ hk_ hs_ => (hk_) hs_)) (fun k_ hk_ => hk_.1)); replace BK342 := A_ (blk_kept (by exact KX_ BK342.out) hkp (fun hs_ => (fun e_ => (Kd.R_ne HO_6.out BK342.out (by decide)) e_) hs_)); replace HO_6 := A_ (Kd.R_reok rfl hy0 (fun k_ e_ => HO_6.out.1 k_ e_)); replace HB := A_ (hb); (try clear hb); (try clear hkp); (try clear hy0)) | ((with_reducible refine gate_callee (f := 28) rfl ?_); refine goesL_ (some 56) rfl rfl Try.func28 (by kernel_rfl) rfl #[.slice Ao33 x6_1.length co33] rfl (by (try simp only [List.map_toArray, List.map_cons, List.map_nil]); first | done | rfl | (simp only [List.length_drop, List.length_take]; rfl)) ?_; (with_reducible refine (slices_Compact_int_int.calls (fun k_ => some k_ = (.slice Ao33 x6_1.length co33 : Value).ownBlock) (.slice Ao33 x6_1.length co33) t347 t348 w _ ?side1 ?side2 A32.out).mono ?_); (case side1 => repeat (first | (with_reducible first | exact HB.out | apply below_alloc | apply pw_below_drewN | apply below_drew1 | refine below_set ?_ GE342.out) | exact HB.out)); (case side2 => exact Kd.R_tight rfl HO_6.out); rintro e w35 ⟨v349, rfl, ho0, hb, hkp⟩; refine ⟨_, rfl, ?_⟩; replace BK342 := A_ (blk_kept (by exact KX_ BK342.out) hkp (fun hs_ => (fun e_ => (Kd.R_ne HO_6.out BK342.out (by decide)) e_) hs_)); have HO350 := A_ (Kd.R_mono (ok' := fun k_ => some k_ ≠ (.slice Ao9 t343.length co9 : Value).ownBlock) ho0 (fun k_ hk_ => Or.elim hk_ (fun hs_ => fun e_ => (((HO_5.out).1 k_ e_.symm)) hs_) (fun hn_ => (Kd.fresh' (Kd.R_lt (by exact RX_ HO_5.out)) k_ hn_)))); replace HO_5 := A_ (Kd.R_mono (ok' := fun k_ => some k_ ≠ (v349 : Value).ownBlock) (Kd.R_keptB (HO_5.out) hkp (fun k_ hk_ hs_ => (hk_) hs_)) (fun k_ hk_ => fun e_ => Or.elim (ho0.1 k_ e_.symm) (fun hs_ => hk_.2.1 hs_) (fun hn_ => Nat.not_le.2 hk_.2.2 hn_))); replace HB := A_ (hb); clear HO_6; (try clear hb); (try clear hkp); (try clear ho0)))
    go_ret
    exact ⟨_, by first | rfl | (simp [errW_none, errW_some] <;> rfl) | (simp [*, errW_none, errW_some] <;> rfl), by (with_reducible repeat (first | apply Kd.R_alloc | apply Kd.R_drewN | apply Kd.R_drew)); exact Kd.R_mono HO350.out (fun _ hk => trivial), B1_⟩
 replace c5 := Bool.eq_false_iff.mpr c5
 subst c5
 have H1 : (some ([] : List Int)) = some r := by rw [if_neg (show ¬ (false = true) by decide)] at H; exact H
 clear H
 have H := H1
 clear H1
 obtain rfl := Option.some.inj H
 go_enter Try.func13, Try.ntmps13
 go_wp2_with (first | ((with_reducible refine gate_dst (N := 2) rfl ?_); refine box_event ?hg (N := 2) ?hd (cs := #[.slice A0_0 l0_0.length c0_0, .slice A0_1 l0_1.length c0_1]) (t := 26) ?hr ?_; (case hd => rfl); (case hg => rfl); (case hr => first | (go_simp; done) | (go_simp; rfl)); intro gb342 hg w36 hbox hb; have BK342 := A_ (hbox); have GW342 := A_ ((by rw [hg]; exact (below_size (B_)) : w.heap.size ≤ gb342)); have GE342 := A_ ((by rw [hg]; exact (below_size (B_)) : w.heap.size ≤ gb342)); replace HB := A_ (below_step (B_) hb); clear hb hbox hg; have hcz37_0 : w36.cell? ⟨gb342, 0, none⟩ = some (.slice A0_0 l0_0.length c0_0) := (blk_cell BK342.out 0).trans rfl; have hcz37_1 : w36.cell? ⟨gb342, 1, none⟩ = some (.slice A0_1 l0_1.length c0_1) := (blk_cell BK342.out 1).trans rfl; have hfz37_0 := blk_frozen BK342.out 0; have hfz37_1 := blk_frozen BK342.out 1) | ((with_reducible refine gate_callee (f := 19) rfl ?_); refine goesL_ (some 12) rfl rfl Try.func19 (by kernel_rfl) rfl #[.agg #[.slice A0_0 l0_0.length c0_0, .slice A0_1 l0_1.length c0_1], .int .i64 0] rfl (by (try simp only [List.map_toArray, List.map_cons, List.map_nil]); first | done | rfl | (simp only [List.length_drop, List.length_take]; rfl)) ?_; (with_reducible refine (dom_Tree.calls k _ _ l0_0 _ _ l0_1 0 t343 _ ?side1 ?side2 ?side3 ?side4 A3.out).mono ?_); (case side1 => exact CX_ (Kd.C_below HR0_0.out HB.out)); (case side2 => exact HC0_0.out); (case side3 => exact CX_ (Kd.C_below HR0_1.out HB.out)); (case side4 => exact HC0_1.out); rintro e w38 ⟨v344, rfl, ho0, hb⟩; refine ⟨_, rfl, ?_⟩; have HO345 := A_ (Kd.R_lower ho0 (below_size (B1_))); replace BK342 := A_ (blk_below (g := gb342) (o := .cells #[.slice A0_0 l0_0.length c0_0, .slice A0_1 l0_1.length c0_1] 26 (0, 0)) (by exact KX_ BK342.out) hb); replace HB := A_ (below_step (B1_) hb); (try clear hb); (try clear hb2); (try clear hk); (try clear hi); (try clear ho0); obtain ⟨Ao39, co39, eo39⟩ := Kd.R_slice HO345.out; subst eo39) | ((with_reducible refine gate_callee (f := 20) rfl ?_); refine goesL_ (some 16) rfl rfl Try.func20 (by kernel_rfl) rfl #[.slice Ao39 t343.length co39, .int .i64 a1, .int .i64 a1] rfl (by (try simp only [List.map_toArray, List.map_cons, List.map_nil]); first | done | rfl | (simp only [List.length_drop, List.length_take]; rfl)) ?_; (with_reducible refine (dom_Over.calls k _ _ t343 a1 a1 false _ ?side1 ?side2 A4.out).mono ?_); (case side1 => repeat (first | exact (Kd.R_reads' HO345.out).2.2 | (with_reducible refine Kd.C_alloc ?_ _) | (with_reducible refine Kd.C_drewN ?_ _) | (with_reducible refine Kd.C_drew ?_))); (case side2 => exact (Kd.R_reads' HO345.out).2.1); rintro e w40 ⟨rfl, hb⟩; refine ⟨_, rfl, ?_⟩; replace HO345 := A_ (Kd.R_below (by exact RX_ HO345.out) hb); replace BK342 := A_ (blk_below (g := gb342) (o := .cells #[.slice A0_0 l0_0.length c0_0, .slice A0_1 l0_1.length c0_1] 26 (0, 0)) (by exact KX_ BK342.out) hb); replace HB := A_ (below_step (B1_) hb); (try clear hb); (try clear hb2); (try clear hk); (try clear hi)))
 go_ret
 exact ⟨_, by first | rfl | (simp [errW_none, errW_some] <;> rfl) | (simp [*, errW_none, errW_some] <;> rfl), by first | exact Kd.R_nil _ _ _ _ _ | exact Kd.N_nil _ _ _ _ _ | exact Kd.V_nil _ _ _ _ _ | exact Kd.Q_nil _ _ _ _ _ | exact Kd.S_nil _ _ _ _ _, B1_⟩


attribute [local go_sem high] eqA37
/-! ### locksteplaw09_awake: function 7 -/
def locksteplaw09_awake.f (k : Nat)  : Option (Bool) := (graph_Make.f k (([(([1, 2] : List Int)), (([3] : List Int)), (([3] : List Int)), []] : List (List Int)))).bind fun bt382 => ((dep_All.f k bt382.1 bt382.2.1).bind fun t390 => (if bt382.2.2 = 0 then (if (t390.length : Int) = 2 then (if 0 < (t390.length : Int) then (if (((rd_T37 t390 0).f0) == 1 && (((rd_T37 t390 0).f1) == 0 && (((rd_T37 t390 0).f2) == 1))) = true then (if 1 < (t390.length : Int) then (if (((rd_T37 t390 1).f0) == 2 && (((rd_T37 t390 1).f1) == 0 && (((rd_T37 t390 1).f2) == 2))) = true then ((dep_Frontier.f k bt382.1 bt382.2.1 1).bind fun t395 => ((lockstepref02_Ints.f k t395 (([3] : List Int))).bind fun t401 => (if t401 = true then ((dep_Of.f k bt382.1 bt382.2.1 3).bind fun t402 => (some ((t402.length : Int) == 0))) else (some false)))) else (some false)) else (none)) else (some false)) else (none)) else (some false)) else (some false)))
theorem locksteplaw09_awake.mono : ∀ k, LeO (locksteplaw09_awake.f k ) (locksteplaw09_awake.f (k + 1) ) := by
 intro  k
 unfold locksteplaw09_awake.f
 repeat' (with_reducible first | exact dep_All.mono _ _ _ | exact dep_Frontier.mono _ _ _ _ | exact dep_Of.mono _ _ _ _ | exact graph_Make.mono _ _ | exact lockstepref02_Ints.mono _ _ _ | exact LeO.refl _ | exact LeO.none _ | refine LeO.ite ?_ ?_ | refine LeO.bind ?_ (fun _ => ?_))
set_option maxHeartbeats 8000000 in
set_option maxRecDepth 100000 in
theorem locksteplaw09_awake.calls (k : Nat)  (w : World) (h : locksteplaw09_awake.f k  = some true) :
 Calls Try.prog 7 #[] w fun e w' => e = .returned (.bool true) ∧ Below w.heap.size w w' := by
 have hu26 := Try.underlying26
 have hu37 := Try.underlying37
 have HB := A_ (Below.refl w.heap.size w)
 have H : ((graph_Make.f k (([(([1, 2] : List Int)), (([3] : List Int)), (([3] : List Int)), []] : List (List Int)))).bind fun bt382 => ((dep_All.f k bt382.1 bt382.2.1).bind fun t390 => (if bt382.2.2 = 0 then (if (t390.length : Int) = 2 then (if 0 < (t390.length : Int) then (if (((rd_T37 t390 0).f0) == 1 && (((rd_T37 t390 0).f1) == 0 && (((rd_T37 t390 0).f2) == 1))) = true then (if 1 < (t390.length : Int) then (if (((rd_T37 t390 1).f0) == 2 && (((rd_T37 t390 1).f1) == 0 && (((rd_T37 t390 1).f2) == 2))) = true then ((dep_Frontier.f k bt382.1 bt382.2.1 1).bind fun t395 => ((lockstepref02_Ints.f k t395 (([3] : List Int))).bind fun t401 => (if t401 = true then ((dep_Of.f k bt382.1 bt382.2.1 3).bind fun t402 => (some ((t402.length : Int) == 0))) else (some false)))) else (some false)) else (none)) else (some false)) else (none)) else (some false)) else (some false)))) = some true := h
 clear h
 obtain ⟨y370, hy370⟩ : ∃ y_ : List Int, y_ = (([1, 2] : List Int)) := ⟨_, rfl⟩
 replace H : ((graph_Make.f k (([y370, (([3] : List Int)), (([3] : List Int)), []] : List (List Int)))).bind fun bt382 => ((dep_All.f k bt382.1 bt382.2.1).bind fun t390 => (if bt382.2.2 = 0 then (if (t390.length : Int) = 2 then (if 0 < (t390.length : Int) then (if (((rd_T37 t390 0).f0) == 1 && (((rd_T37 t390 0).f1) == 0 && (((rd_T37 t390 0).f2) == 1))) = true then (if 1 < (t390.length : Int) then (if (((rd_T37 t390 1).f0) == 2 && (((rd_T37 t390 1).f1) == 0 && (((rd_T37 t390 1).f2) == 2))) = true then ((dep_Frontier.f k bt382.1 bt382.2.1 1).bind fun t395 => ((lockstepref02_Ints.f k t395 (([3] : List Int))).bind fun t401 => (if t401 = true then ((dep_Of.f k bt382.1 bt382.2.1 3).bind fun t402 => (some ((t402.length : Int) == 0))) else (some false)))) else (some false)) else (none)) else (some false)) else (none)) else (some false)) else (some false)))) = some true := by first | (rw [hy370]; with_reducible exact H) | (have H2_ := (Option.bind_some _ _).symm.trans H; rw [hy370]; with_reducible exact H2_) | (have H2_ := (Option.bind_some _ _).symm.trans H; with_reducible exact H2_) | with_reducible exact H | (rw [hy370]; exact H) | exact H
 have Ny370 := Aside0.mk hy370
 clear hy370
 obtain ⟨y373, hy373⟩ : ∃ y_ : List Int, y_ = (([3] : List Int)) := ⟨_, rfl⟩
 replace H : ((graph_Make.f k (([y370, y373, (([3] : List Int)), []] : List (List Int)))).bind fun bt382 => ((dep_All.f k bt382.1 bt382.2.1).bind fun t390 => (if bt382.2.2 = 0 then (if (t390.length : Int) = 2 then (if 0 < (t390.length : Int) then (if (((rd_T37 t390 0).f0) == 1 && (((rd_T37 t390 0).f1) == 0 && (((rd_T37 t390 0).f2) == 1))) = true then (if 1 < (t390.length : Int) then (if (((rd_T37 t390 1).f0) == 2 && (((rd_T37 t390 1).f1) == 0 && (((rd_T37 t390 1).f2) == 2))) = true then ((dep_Frontier.f k bt382.1 bt382.2.1 1).bind fun t395 => ((lockstepref02_Ints.f k t395 (([3] : List Int))).bind fun t401 => (if t401 = true then ((dep_Of.f k bt382.1 bt382.2.1 3).bind fun t402 => (some ((t402.length : Int) == 0))) else (some false)))) else (some false)) else (none)) else (some false)) else (none)) else (some false)) else (some false)))) = some true := by first | (rw [hy373]; with_reducible exact H) | (have H2_ := (Option.bind_some _ _).symm.trans H; rw [hy373]; with_reducible exact H2_) | (have H2_ := (Option.bind_some _ _).symm.trans H; with_reducible exact H2_) | with_reducible exact H | (rw [hy373]; exact H) | exact H
 have Ny373 := Aside0.mk hy373
 clear hy373
 obtain ⟨y376, hy376⟩ : ∃ y_ : List Int, y_ = (([3] : List Int)) := ⟨_, rfl⟩
 replace H : ((graph_Make.f k (([y370, y373, y376, []] : List (List Int)))).bind fun bt382 => ((dep_All.f k bt382.1 bt382.2.1).bind fun t390 => (if bt382.2.2 = 0 then (if (t390.length : Int) = 2 then (if 0 < (t390.length : Int) then (if (((rd_T37 t390 0).f0) == 1 && (((rd_T37 t390 0).f1) == 0 && (((rd_T37 t390 0).f2) == 1))) = true then (if 1 < (t390.length : Int) then (if (((rd_T37 t390 1).f0) == 2 && (((rd_T37 t390 1).f1) == 0 && (((rd_T37 t390 1).f2) == 2))) = true then ((dep_Frontier.f k bt382.1 bt382.2.1 1).bind fun t395 => ((lockstepref02_Ints.f k t395 (([3] : List Int))).bind fun t401 => (if t401 = true then ((dep_Of.f k bt382.1 bt382.2.1 3).bind fun t402 => (some ((t402.length : Int) == 0))) else (some false)))) else (some false)) else (none)) else (some false)) else (none)) else (some false)) else (some false)))) = some true := by first | (rw [hy376]; with_reducible exact H) | (have H2_ := (Option.bind_some _ _).symm.trans H; rw [hy376]; with_reducible exact H2_) | (have H2_ := (Option.bind_some _ _).symm.trans H; with_reducible exact H2_) | with_reducible exact H | (rw [hy376]; exact H) | exact H
 have Ny376 := Aside0.mk hy376
 clear hy376
 obtain ⟨y379, hy379⟩ : ∃ y_ : List (List Int), y_ = (([y370, y373, y376, []] : List (List Int))) := ⟨_, rfl⟩
 replace H : ((graph_Make.f k y379).bind fun bt382 => ((dep_All.f k bt382.1 bt382.2.1).bind fun t390 => (if bt382.2.2 = 0 then (if (t390.length : Int) = 2 then (if 0 < (t390.length : Int) then (if (((rd_T37 t390 0).f0) == 1 && (((rd_T37 t390 0).f1) == 0 && (((rd_T37 t390 0).f2) == 1))) = true then (if 1 < (t390.length : Int) then (if (((rd_T37 t390 1).f0) == 2 && (((rd_T37 t390 1).f1) == 0 && (((rd_T37 t390 1).f2) == 2))) = true then ((dep_Frontier.f k bt382.1 bt382.2.1 1).bind fun t395 => ((lockstepref02_Ints.f k t395 (([3] : List Int))).bind fun t401 => (if t401 = true then ((dep_Of.f k bt382.1 bt382.2.1 3).bind fun t402 => (some ((t402.length : Int) == 0))) else (some false)))) else (some false)) else (none)) else (some false)) else (none)) else (some false)) else (some false)))) = some true := by first | (rw [hy379]; with_reducible exact H) | (have H2_ := (Option.bind_some _ _).symm.trans H; rw [hy379]; with_reducible exact H2_) | (have H2_ := (Option.bind_some _ _).symm.trans H; with_reducible exact H2_) | with_reducible exact H | (rw [hy379]; exact H) | exact H
 have Ny379 := Aside0.mk hy379
 clear hy379
 replace H := Option.bind_eq_some_iff.mp H
 obtain ⟨⟨t382, t385, t388⟩, A10, H⟩ := H
 try dsimp only at H
 have A1 := Aside0.mk A10
 clear A10
 replace H := Option.bind_eq_some_iff.mp H
 obtain ⟨t390, A20, H⟩ := H
 try dsimp only at H
 have A2 := Aside0.mk A20
 clear A20
 by_cases c3 : t388 = 0
 ·rw [if_pos c3] at H
  have c3b0 : (t388 == 0) = true := beq_iff_eq.mpr c3
  have c3b1 : (t388 != 0) = false := bne_eq_false_iff_eq.mpr c3
  clear c3
  by_cases c4 : (t390.length : Int) = 2
  ·rw [if_pos c4] at H
   have c4b0 : ((t390.length : Int) == 2) = true := beq_iff_eq.mpr c4
   have c4b1 : ((t390.length : Int) != 2) = false := bne_eq_false_iff_eq.mpr c4
   clear c4
   by_cases c5 : 0 < (t390.length : Int)
   ·rw [if_pos c5] at H
    have c5b0 : decide (0 < (t390.length : Int)) = true := decide_eq_true c5
    have c5b1 : decide (0 < t390.length) = true := decide_eq_true (by omega)
    clear c5
    by_cases c6 : (((rd_T37 t390 0).f0) == 1 && (((rd_T37 t390 0).f1) == 0 && (((rd_T37 t390 0).f2) == 1))) = true
    ·rw [if_pos c6] at H
     have c6b0 : (((rd_T37 t390 0).f0) == 1 && (((rd_T37 t390 0).f1) == 0 && (((rd_T37 t390 0).f2) == 1))) = true := c6
     (try (have c6b1 : decide (((rd_T37 t390 0).f0) = 1 && (((rd_T37 t390 0).f1) == 0 && (((rd_T37 t390 0).f2) == 1))) = true := by simpa using c6))
     (try (have c6b2 : (((rd_T37 t390 0).f0) == 1 && (((rd_T37 t390 0).f1) == 0 && (((rd_T37 t390 0).f2) == 1))) = true := by simpa using c6))
     clear c6
     by_cases c7 : 1 < (t390.length : Int)
     ·rw [if_pos c7] at H
      have c7b0 : decide (1 < (t390.length : Int)) = true := decide_eq_true c7
      have c7b1 : decide (1 < t390.length) = true := decide_eq_true (by omega)
      clear c7
      by_cases c8 : (((rd_T37 t390 1).f0) == 2 && (((rd_T37 t390 1).f1) == 0 && (((rd_T37 t390 1).f2) == 2))) = true
      ·rw [if_pos c8] at H
       have c8b0 : (((rd_T37 t390 1).f0) == 2 && (((rd_T37 t390 1).f1) == 0 && (((rd_T37 t390 1).f2) == 2))) = true := c8
       (try (have c8b1 : decide (((rd_T37 t390 1).f0) = 2 && (((rd_T37 t390 1).f1) == 0 && (((rd_T37 t390 1).f2) == 2))) = true := by simpa using c8))
       (try (have c8b2 : (((rd_T37 t390 1).f0) == 2 && (((rd_T37 t390 1).f1) == 0 && (((rd_T37 t390 1).f2) == 2))) = true := by simpa using c8))
       clear c8
       replace H := Option.bind_eq_some_iff.mp H
       obtain ⟨t395, A90, H⟩ := H
       try dsimp only at H
       have A9 := Aside0.mk A90
       clear A90
       obtain ⟨y398, hy398⟩ : ∃ y_ : List Int, y_ = (([3] : List Int)) := ⟨_, rfl⟩
       replace H : ((lockstepref02_Ints.f k t395 y398).bind fun t401 => (if t401 = true then ((dep_Of.f k t382 t385 3).bind fun t402 => (some ((t402.length : Int) == 0))) else (some false))) = some true := by first | (rw [hy398]; with_reducible exact H) | (have H2_ := (Option.bind_some _ _).symm.trans H; rw [hy398]; with_reducible exact H2_) | (have H2_ := (Option.bind_some _ _).symm.trans H; with_reducible exact H2_) | with_reducible exact H | (rw [hy398]; exact H) | exact H
       have Ny398 := Aside0.mk hy398
       clear hy398
       replace H := Option.bind_eq_some_iff.mp H
       obtain ⟨t401, A100, H⟩ := H
       try dsimp only at H
       have A10 := Aside0.mk A100
       clear A100
       by_cases c11 : t401 = true
       ·subst c11
        have H1 : ((dep_Of.f k t382 t385 3).bind fun t402 => (some ((t402.length : Int) == 0))) = some true := by rw [if_pos rfl] at H; exact H
        clear H
        have H := H1
        clear H1
        replace H := Option.bind_eq_some_iff.mp H
        obtain ⟨t402, A120, H⟩ := H
        try dsimp only at H
        have A12 := Aside0.mk A120
        clear A120
        have HR_ := A_ (Option.some.inj H)
        clear H
        go_enter Try.func7, Try.ntmps7
        go_wp2_with (first | ((with_reducible refine gate_dst (N := 5) rfl ?_); (try (refine gate_guard (by rfl) ?_; dsimp only)); refine Kd.R_lit (Kd.int .i64) _ 3 ?hg (N := 5) ?hd (xs := ([1, 2] : List Int)) (inner := [.int .i64 1, .int .i64 2]) (ok := fun _ => True) (okp := fun _ => True) ?hr ?hp (fun _ hk => hk) trivial (Below.refl _ _) (Nat.le_refl _) (by simp) ?_; (case hd => rfl); (case hg => rfl); (case hr => first | (go_simp; done) | (go_simp; rfl)); (case hp => exact (Reps.one (show Kd.M (Kd.int .i64) _ _ _ 1 [.int .i64 1] from rfl) (Reps.one (show Kd.M (Kd.int .i64) _ _ _ 2 [.int .i64 2] from rfl) (Reps.none _ _)))); intro v371 w13 ho14 hb hg_ hnew_; clear hg_ hnew_; (first | rw [← Ny370.out] at ho14 | (simp only [Int.reduceToNat] at ho14; rw [← Ny370.out] at ho14)); have HO372 := A_ (Kd.R_lower ho14 (below_size (B_))); replace HB := A_ (below_step (B_) hb); clear hb ho14) | ((with_reducible refine gate_dst (N := 6) rfl ?_); (try (refine gate_guard (by rfl) ?_; dsimp only)); refine Kd.R_lit (Kd.int .i64) _ 3 ?hg (N := 6) ?hd (xs := ([3] : List Int)) (inner := [.int .i64 3]) (ok := fun _ => True) (okp := fun _ => True) ?hr ?hp (fun _ hk => hk) trivial (Below.refl _ _) (Nat.le_refl _) (by simp) ?_; (case hd => rfl); (case hg => rfl); (case hr => first | (go_simp; done) | (go_simp; rfl)); (case hp => exact (Reps.one (show Kd.M (Kd.int .i64) _ _ _ 3 [.int .i64 3] from rfl) (Reps.none _ _))); intro v374 w15 ho16 hb hg_ hnew_; clear hg_ hnew_; (first | rw [← Ny373.out] at ho16 | (simp only [Int.reduceToNat] at ho16; rw [← Ny373.out] at ho16)); have HO375 := A_ (Kd.R_lower (Kd.R_new' ho16 (Kd.R_lt (by exact RX_ HO372.out))) (below_size (B_))); replace HO372 := A_ (Kd.R_elder' (by exact RX_ HO372.out) (Kd.R_base ho16) hb); replace HB := A_ (below_step (B_) hb); clear hb ho16) | ((with_reducible refine gate_dst (N := 7) rfl ?_); (try (refine gate_guard (by rfl) ?_; dsimp only)); refine Kd.R_lit (Kd.int .i64) _ 3 ?hg (N := 7) ?hd (xs := ([3] : List Int)) (inner := [.int .i64 3]) (ok := fun _ => True) (okp := fun _ => True) ?hr ?hp (fun _ hk => hk) trivial (Below.refl _ _) (Nat.le_refl _) (by simp) ?_; (case hd => rfl); (case hg => rfl); (case hr => first | (go_simp; done) | (go_simp; rfl)); (case hp => exact (Reps.one (show Kd.M (Kd.int .i64) _ _ _ 3 [.int .i64 3] from rfl) (Reps.none _ _))); intro v377 w17 ho18 hb hg_ hnew_; clear hg_ hnew_; (first | rw [← Ny376.out] at ho18 | (simp only [Int.reduceToNat] at ho18; rw [← Ny376.out] at ho18)); have HO378 := A_ (Kd.R_lower (Kd.R_new' (Kd.R_new' ho18 (Kd.R_lt (by exact RX_ HO372.out))) (Kd.R_lt (by exact RX_ HO375.out))) (below_size (B_))); replace HO372 := A_ (Kd.R_elder' (by exact RX_ HO372.out) (Kd.R_base ho18) hb); replace HO375 := A_ (Kd.R_elder' (by exact RX_ HO375.out) (Kd.R_base ho18) hb); replace HB := A_ (below_step (B_) hb); clear hb ho18; obtain ⟨Ao19, co19, eo19⟩ := Kd.R_slice HO372.out; subst eo19; obtain ⟨Ao20, co20, eo20⟩ := Kd.R_slice HO375.out; subst eo20; obtain ⟨Ao21, co21, eo21⟩ := Kd.R_slice HO378.out; subst eo21) | ((with_reducible refine gate_dst (N := 8) rfl ?_); (try (refine gate_guard (by rfl) ?_; dsimp only)); refine Kd.N_lit (Kd.slice 3 (Kd.int .i64)) _ 31 ?hg (N' := 8) ?hd (xs := ([y370, y373, y376, []] : List (List Int))) (inner := [.slice Ao19 y370.length co19, .slice Ao20 y373.length co20, .slice Ao21 y376.length co21, .slice none 0 0]) (ok := (fun _ => True)) (okp := (fun _ => True)) ?hr ?hp (fun _ hk => hk) ((show ∀ k_, w17.heap.size ≤ k_ → (fun _ => True) k_ from fun k_ hk => trivial) _ (Nat.le_refl _)) (Below.refl _ _) (Nat.le_refl _) (by simp) ?_; (case hd => rfl); (case hg => rfl); (case hr => first | (go_simp; done) | (go_simp; rfl)); (case hp => exact (Reps.one (show Kd.FK (Kd.slice 3 (Kd.int .i64)) _ _ y370 [.slice Ao19 y370.length co19] from (Kd.FK_slice_mk (Kd.R_reads' (Kd.R_mono (ok' := (fun _ => True)) (HO372.out) (fun k_ hk => trivial))).2.1 (Kd.R_F (Kd.R_mono (ok' := (fun _ => True)) (HO372.out) (fun k_ hk => trivial))))) (Reps.one (show Kd.FK (Kd.slice 3 (Kd.int .i64)) _ _ y373 [.slice Ao20 y373.length co20] from (Kd.FK_slice_mk (Kd.R_reads' (Kd.R_mono (ok' := (fun _ => True)) (HO375.out) (fun k_ hk => trivial))).2.1 (Kd.R_F (Kd.R_mono (ok' := (fun _ => True)) (HO375.out) (fun k_ hk => trivial))))) (Reps.one (show Kd.FK (Kd.slice 3 (Kd.int .i64)) _ _ y376 [.slice Ao21 y376.length co21] from (Kd.FK_slice_mk (Kd.R_reads' (Kd.R_mono (ok' := (fun _ => True)) (HO378.out) (fun k_ hk => trivial))).2.1 (Kd.R_F (Kd.R_mono (ok' := (fun _ => True)) (HO378.out) (fun k_ hk => trivial))))) (Reps.one (show Kd.FK (Kd.slice 3 (Kd.int .i64)) _ _ [] [.slice none 0 0] from (Kd.FK_slice_mk (Nat.le_refl _) (Kd.F_nil _ _ _))) (Reps.none _ _)))))); intro v380 w22 ho23 hb hg_ hnew_; clear hg_ hnew_; (first | rw [← Ny379.out] at ho23 | (simp only [Int.reduceToNat] at ho23; rw [← Ny379.out] at ho23)); have HO381 := A_ (Kd.N_lower ho23 (below_size (B_))); replace HB := A_ (below_step (B_) hb); clear HO372 HO375 HO378; clear hb ho23; obtain ⟨Ao24, co24, eo24⟩ := Kd.N_slice HO381.out; subst eo24) | ((with_reducible refine gate_callee (f := 15) rfl ?_); refine goesL_ (some 9) rfl rfl Try.func15 (by kernel_rfl) rfl #[.slice Ao24 y379.length co24] rfl (by (try simp only [List.map_toArray, List.map_cons, List.map_nil]); first | done | rfl | (simp only [List.length_drop, List.length_take]; rfl)) ?_; (with_reducible refine (graph_Make.calls k _ _ y379 t382 t385 t388 _ ?side1 ?side2 A1.out).mono ?_); (case side1 => repeat (first | exact (Kd.N_reads' HO381.out).2.2 | (with_reducible refine Kd.C_alloc ?_ _) | (with_reducible refine Kd.C_drewN ?_ _) | (with_reducible refine Kd.C_drew ?_))); (case side2 => exact (Kd.N_reads' HO381.out).2.1); rintro e w25 ⟨v383, v386, rfl, ho0, ho1, hb⟩; refine ⟨_, rfl, ?_⟩; have HO384 := A_ (Kd.N_lower (Kd.N_mono (ok' := fun k_ => some k_ ≠ (v386 : Value).ownBlock ∧ some k_ ≠ (.slice Ao24 y379.length co24 : Value).ownBlock) (Kd.S_N (Kd.S_bound ho0)) (fun k_ hk_ => ⟨hk_.1, (Kd.fresh' (Kd.N_lt (by (with_reducible repeat (first | apply Kd.N_alloc | apply Kd.N_drewN | apply Kd.N_drew)); exact HO381.out)) k_ hk_.2.1)⟩)) (below_size (B_))); have HO387 := A_ (Kd.N_lower (Kd.N_mono (ok' := fun k_ => some k_ ≠ (v383 : Value).ownBlock ∧ some k_ ≠ (.slice Ao24 y379.length co24 : Value).ownBlock) (Kd.S_N (Kd.S_bound ho1)) (fun k_ hk_ => ⟨hk_.1, (Kd.fresh' (Kd.N_lt (by (with_reducible repeat (first | apply Kd.N_alloc | apply Kd.N_drewN | apply Kd.N_drew)); exact HO381.out)) k_ hk_.2.1)⟩)) (below_size (B_))); replace HO381 := A_ (Kd.N_mono (Kd.N_told (Kd.N_told (Kd.N_old (by (with_reducible repeat (first | apply Kd.N_alloc | apply Kd.N_drewN | apply Kd.N_drew)); exact HO381.out) hb) (Kd.N_base (Kd.S_N ho0))) (Kd.N_base (Kd.S_N ho1))) (fun _ h_ => h_.1)); replace HB := A_ (below_step (B_) hb); (try clear hb); (try clear hb2); (try clear hk); (try clear hi); (try clear ho0); (try clear ho1)) | ((with_reducible refine gate_dst (N := 1) rfl ?_); (try (refine gate_guard (by rfl) ?_; dsimp only)); refine box_event ?hg (N := 1) ?hd (cs := #[.slice none 0 0, .slice none 0 0]) (t := 26) ?hr ?_; (case hd => rfl); (case hg => rfl); (case hr => first | (go_simp; done) | (go_simp; rfl)); intro gb389 hg w26 hbox hb; replace HO381 := A_ (Kd.N_below (Kd.N_elderB (by (with_reducible repeat (first | apply Kd.N_alloc | apply Kd.N_drewN | apply Kd.N_drew)); exact HO381.out) gb389 (Nat.le_of_eq hg.symm)) hb); replace HO384 := A_ (Kd.N_below (Kd.N_elderB (by (with_reducible repeat (first | apply Kd.N_alloc | apply Kd.N_drewN | apply Kd.N_drew)); exact HO384.out) gb389 (Nat.le_of_eq hg.symm)) hb); replace HO387 := A_ (Kd.N_below (Kd.N_elderB (by (with_reducible repeat (first | apply Kd.N_alloc | apply Kd.N_drewN | apply Kd.N_drew)); exact HO387.out) gb389 (Nat.le_of_eq hg.symm)) hb); have BK389 := A_ (hbox); have GW389 := A_ ((by rw [hg]; exact (below_size (B_)) : w.heap.size ≤ gb389)); have GE389 := A_ ((by rw [hg]; exact (below_size (B_)) : w.heap.size ≤ gb389)); replace HB := A_ (below_step (B_) hb); clear hb hbox hg; obtain ⟨Ao27, co27, eo27⟩ := Kd.N_slice HO384.out; subst eo27; have hcz28_0 : w26.cell? ⟨gb389, 0, none⟩ = some (.slice none 0 0) := (blk_cell BK389.out 0).trans rfl; have hcz28_1 : w26.cell? ⟨gb389, 1, none⟩ = some (.slice none 0 0) := (blk_cell BK389.out 1).trans rfl; have hfz28_0 := blk_frozen BK389.out 0; have hfz28_1 := blk_frozen BK389.out 1; obtain ⟨Ao29, co29, eo29⟩ := Kd.N_slice HO387.out; subst eo29) | ((with_reducible refine gate_callee (f := 10) rfl ?_); refine goesL_ (some 13) rfl rfl Try.func10 (by kernel_rfl) rfl #[.agg #[.slice Ao27 t382.length co27, .slice Ao29 t385.length co29]] rfl (by (try simp only [List.map_toArray, List.map_cons, List.map_nil]); first | done | rfl | (simp only [List.length_drop, List.length_take]; rfl)) ?_; (with_reducible refine (dep_All.calls k _ _ t382 _ _ t385 t390 _ ?side1 ?side2 ?side3 ?side4 A2.out).mono ?_); (case side1 => refine (Kd.N_reads' (e := 31) (base := w.heap.size) (ok := fun k_ => ((some k_ ≠ (.slice Ao29 t385.length co29 : Value).ownBlock ∧ some k_ ≠ (.slice Ao24 y379.length co24 : Value).ownBlock) ∧ k_ ≠ gb389)) (n := t382.length) (c := co27) ?_).2.2; exact (by (with_reducible repeat (first | apply Kd.N_alloc | apply Kd.N_drewN | apply Kd.N_drew)); exact (Kd.N_mono (Kd.N_far (p := ⟨gb389, 1, none⟩) (Kd.N_far (p := ⟨gb389, 0, none⟩) (Kd.N_mono HO384.out (fun k_ hk => (⟨hk, hk.2⟩ : _ ∧ k_ ≠ gb389))) (fun _ hk => hk.2) (.slice Ao27 t382.length co27)) (fun _ hk => hk.2) (.slice Ao29 t385.length co29)) (fun _ h_ => h_.1)))); (case side2 => exact (Kd.N_reads' HO384.out).2.1); (case side3 => refine (Kd.N_reads' (e := 31) (base := w.heap.size) (ok := fun k_ => ((some k_ ≠ (.slice Ao27 t382.length co27 : Value).ownBlock ∧ some k_ ≠ (.slice Ao24 y379.length co24 : Value).ownBlock) ∧ k_ ≠ gb389)) (n := t385.length) (c := co29) ?_).2.2; exact (by (with_reducible repeat (first | apply Kd.N_alloc | apply Kd.N_drewN | apply Kd.N_drew)); exact (Kd.N_mono (Kd.N_far (p := ⟨gb389, 1, none⟩) (Kd.N_far (p := ⟨gb389, 0, none⟩) (Kd.N_mono HO387.out (fun k_ hk => (⟨hk, hk.2⟩ : _ ∧ k_ ≠ gb389))) (fun _ hk => hk.2) (.slice Ao27 t382.length co27)) (fun _ hk => hk.2) (.slice Ao29 t385.length co29)) (fun _ h_ => h_.1)))); (case side4 => exact (Kd.N_reads' HO387.out).2.1); rintro e w30 ⟨v391, rfl, ho0, hb⟩; refine ⟨_, rfl, ?_⟩; replace HO381 := A_ (Kd.N_elder' (by (with_reducible repeat (first | apply Kd.N_alloc | apply Kd.N_drewN | apply Kd.N_drew)); exact (Kd.N_mono (Kd.N_far (p := ⟨gb389, 1, none⟩) (Kd.N_far (p := ⟨gb389, 0, none⟩) (Kd.N_mono HO381.out (fun k_ hk => (⟨hk, hk.2⟩ : _ ∧ k_ ≠ gb389))) (fun _ hk => hk.2) (.slice Ao27 t382.length co27)) (fun _ hk => hk.2) (.slice Ao29 t385.length co29)) (fun _ h_ => h_.1))) (Kd.R_base ho0) hb); replace HO384 := A_ (Kd.N_elder' (by (with_reducible repeat (first | apply Kd.N_alloc | apply Kd.N_drewN | apply Kd.N_drew)); exact (Kd.N_mono (Kd.N_far (p := ⟨gb389, 1, none⟩) (Kd.N_far (p := ⟨gb389, 0, none⟩) (Kd.N_mono HO384.out (fun k_ hk => (⟨hk, hk.2⟩ : _ ∧ k_ ≠ gb389))) (fun _ hk => hk.2) (.slice Ao27 t382.length co27)) (fun _ hk => hk.2) (.slice Ao29 t385.length co29)) (fun _ h_ => h_.1))) (Kd.R_base ho0) hb); replace HO387 := A_ (Kd.N_elder' (by (with_reducible repeat (first | apply Kd.N_alloc | apply Kd.N_drewN | apply Kd.N_drew)); exact (Kd.N_mono (Kd.N_far (p := ⟨gb389, 1, none⟩) (Kd.N_far (p := ⟨gb389, 0, none⟩) (Kd.N_mono HO387.out (fun k_ hk => (⟨hk, hk.2⟩ : _ ∧ k_ ≠ gb389))) (fun _ hk => hk.2) (.slice Ao27 t382.length co27)) (fun _ hk => hk.2) (.slice Ao29 t385.length co29)) (fun _ h_ => h_.1))) (Kd.R_base ho0) hb); have HO392 := A_ (Kd.R_lower ho0 (below_size (B1_))); replace BK389 := A_ (blk_below (g := gb389) (o := .cells #[.slice Ao27 t382.length co27, .slice Ao29 t385.length co29] 26 (0, 0)) (by (with_reducible repeat (first | refine blk_drewN ?_ _ | refine blk_drew ?_ | refine blk_alloc ?_ _)); refine blk_put (cs := #[.slice Ao27 t382.length co27, .slice none 0 0]) ?_ 1 _ rfl; (with_reducible repeat (first | refine blk_drewN ?_ _ | refine blk_drew ?_ | refine blk_alloc ?_ _)); refine blk_put (cs := #[.slice none 0 0, .slice none 0 0]) ?_ 0 _ rfl; exact KX_ BK389.out) hb); replace HB := A_ (below_step (B1_) hb); (try clear hb); (try clear hb2); (try clear hk); (try clear hi); (try clear ho0); obtain ⟨Ao31, co31, eo31⟩ := Kd.R_slice HO392.out; subst eo31; have p393 : 0 ≤ (0 : Int) := (by omega); have q393 : 0 < (t390.length : Int) := D_; obtain ⟨ad393, e393, hx393_0, hx393_1, hx393_2⟩ := at_T37 (Kd.R_reads' HO392.out).2.2 0 p393 q393; cases e393; have qi393 : (0 < t390.length) = True := eq_true (by omega); (try rw [show ((0 : Int)).toNat = 0 from rfl] at hx393_0); (try rw [show 0 * 3 = 0 from rfl] at hx393_0); (try rw [Addr.add_zero'] at hx393_0); (try rw [show ((0 : Int)).toNat = 0 from rfl] at hx393_1); (try rw [show 0 * 3 = 0 from rfl] at hx393_1); (try rw [Addr.add_zero'] at hx393_1); (try rw [show ((0 : Int)).toNat = 0 from rfl] at hx393_2); (try rw [show 0 * 3 = 0 from rfl] at hx393_2); (try rw [Addr.add_zero'] at hx393_2); replace p393 := eq_true p393; replace q393 := eq_true q393; have p394 : 0 ≤ (1 : Int) := (by omega); have q394 : 1 < (t390.length : Int) := D_; obtain ⟨ad394, e394, hx394_0, hx394_1, hx394_2⟩ := at_T37 (Kd.R_reads' HO392.out).2.2 1 p394 q394; obtain rfl : ad393 = ad394 := (by injection e394); (try simp only [show (1 : Int).toNat = 1 from rfl, Nat.reduceMul, Nat.reduceEqDiff, Go.Addr.add, ↓reduceIte] at hx394_0); (try simp only [show (1 : Int).toNat = 1 from rfl, Nat.reduceMul, Nat.reduceEqDiff, Go.Addr.add, ↓reduceIte] at hx394_1); (try simp only [show (1 : Int).toNat = 1 from rfl, Nat.reduceMul, Nat.reduceEqDiff, Go.Addr.add, ↓reduceIte] at hx394_2); have qi394 : (1 < t390.length) = True := eq_true (by omega); (try rw [show ((1 : Int)).toNat = 1 from rfl] at hx394_0); (try rw [show 1 * 3 = 3 from rfl] at hx394_0); (try rw [show ((1 : Int)).toNat = 1 from rfl] at hx394_1); (try rw [show 1 * 3 = 3 from rfl] at hx394_1); (try rw [show ((1 : Int)).toNat = 1 from rfl] at hx394_2); (try rw [show 1 * 3 = 3 from rfl] at hx394_2); replace p394 := eq_true p394; replace q394 := eq_true q394; have hcz32_0 : w30.cell? ⟨gb389, 0, none⟩ = some (.slice Ao27 t382.length co27) := (blk_cell BK389.out 0).trans rfl; have hcz32_1 : w30.cell? ⟨gb389, 1, none⟩ = some (.slice Ao29 t385.length co29) := (blk_cell BK389.out 1).trans rfl; have hfz32_0 := blk_frozen BK389.out 0; have hfz32_1 := blk_frozen BK389.out 1) | (go_at_call 13; (with_reducible refine (dep_Frontier.calls k _ _ t382 _ _ t385 1 t395 _ ?side1 ?side2 ?side3 ?side4 A9.out).mono ?_); (case side1 => repeat (first | exact (Kd.N_reads' HO384.out).2.2 | (with_reducible refine Kd.C_alloc ?_ _) | (with_reducible refine Kd.C_drewN ?_ _) | (with_reducible refine Kd.C_drew ?_))); (case side2 => exact (Kd.N_reads' HO384.out).2.1); (case side3 => repeat (first | exact (Kd.N_reads' HO387.out).2.2 | (with_reducible refine Kd.C_alloc ?_ _) | (with_reducible refine Kd.C_drewN ?_ _) | (with_reducible refine Kd.C_drew ?_))); (case side4 => exact (Kd.N_reads' HO387.out).2.1); rintro e w33 ⟨v396, rfl, ho0, hb⟩; replace HO381 := A_ (Kd.N_elder' (by (with_reducible repeat (first | apply Kd.N_alloc | apply Kd.N_drewN | apply Kd.N_drew)); exact HO381.out) (Kd.R_base ho0) hb); replace HO384 := A_ (Kd.N_elder' (by (with_reducible repeat (first | apply Kd.N_alloc | apply Kd.N_drewN | apply Kd.N_drew)); exact HO384.out) (Kd.R_base ho0) hb); replace HO387 := A_ (Kd.N_elder' (by (with_reducible repeat (first | apply Kd.N_alloc | apply Kd.N_drewN | apply Kd.N_drew)); exact HO387.out) (Kd.R_base ho0) hb); replace HO392 := A_ (Kd.R_below (by exact RX_ HO392.out) hb); have HO397 := A_ (Kd.R_lower ho0 (below_size (B1_))); replace BK389 := A_ (blk_below (g := gb389) (o := .cells #[.slice Ao27 t382.length co27, .slice Ao29 t385.length co29] 26 (0, 0)) (by exact KX_ BK389.out) hb); replace HB := A_ (below_step (B1_) hb); (try clear hb); (try clear hb2); (try clear hk); (try clear hi); (try clear ho0)) | ((with_reducible refine gate_dst (N := 38) rfl ?_); (try (refine gate_guard (by rfl) ?_; dsimp only)); refine Kd.R_lit (Kd.int .i64) _ 3 ?hg (N := 38) ?hd (xs := ([3] : List Int)) (inner := [.int .i64 3]) (ok := fun _ => True) (okp := fun _ => True) ?hr ?hp (fun _ hk => hk) trivial (Below.refl _ _) (Nat.le_refl _) (by simp) ?_; (case hd => rfl); (case hg => rfl); (case hr => first | (go_simp; done) | (go_simp; rfl)); (case hp => exact (Reps.one (show Kd.M (Kd.int .i64) _ _ _ 3 [.int .i64 3] from rfl) (Reps.none _ _))); intro v399 w34 ho35 hb hg_ hnew_; clear hg_ hnew_; (first | rw [← Ny398.out] at ho35 | (simp only [Int.reduceToNat] at ho35; rw [← Ny398.out] at ho35)); replace HO381 := A_ (Kd.N_elder' (by (with_reducible repeat (first | apply Kd.N_alloc | apply Kd.N_drewN | apply Kd.N_drew)); exact HO381.out) (Kd.R_base ho35) hb); replace HO384 := A_ (Kd.N_elder' (by (with_reducible repeat (first | apply Kd.N_alloc | apply Kd.N_drewN | apply Kd.N_drew)); exact HO384.out) (Kd.R_base ho35) hb); replace HO387 := A_ (Kd.N_elder' (by (with_reducible repeat (first | apply Kd.N_alloc | apply Kd.N_drewN | apply Kd.N_drew)); exact HO387.out) (Kd.R_base ho35) hb); replace HO392 := A_ (Kd.R_below (by exact RX_ HO392.out) hb); have HO400 := A_ (Kd.R_lower (Kd.R_new' ho35 (Kd.R_lt (by exact RX_ HO397.out))) (below_size (B1_))); replace HO397 := A_ (Kd.R_elder' (by exact RX_ HO397.out) (Kd.R_base ho35) hb); replace BK389 := A_ (blk_below (g := gb389) (o := .cells #[.slice Ao27 t382.length co27, .slice Ao29 t385.length co29] 26 (0, 0)) (by exact KX_ BK389.out) hb); replace HB := A_ (below_step (B1_) hb); clear hb ho35; obtain ⟨Ao36, co36, eo36⟩ := Kd.R_slice HO397.out; subst eo36; obtain ⟨Ao37, co37, eo37⟩ := Kd.R_slice HO400.out; subst eo37) | (go_at_call 12; (with_reducible refine (lockstepref02_Ints.calls k _ _ t395 _ _ y398 true _ ?side1 ?side2 ?side3 ?side4 A10.out).mono ?_); (case side1 => repeat (first | exact (Kd.R_reads' HO397.out).2.2 | (with_reducible refine Kd.C_alloc ?_ _) | (with_reducible refine Kd.C_drewN ?_ _) | (with_reducible refine Kd.C_drew ?_))); (case side2 => exact (Kd.R_reads' HO397.out).2.1); (case side3 => repeat (first | exact (Kd.R_reads' HO400.out).2.2 | (with_reducible refine Kd.C_alloc ?_ _) | (with_reducible refine Kd.C_drewN ?_ _) | (with_reducible refine Kd.C_drew ?_))); (case side4 => exact (Kd.R_reads' HO400.out).2.1); rintro e w' ⟨rfl, ⟨nd, rfl⟩⟩; have hcz38_0 : w34.cell? ⟨gb389, 0, none⟩ = some (.slice Ao27 t382.length co27) := (blk_cell BK389.out 0).trans rfl; have hcz38_1 : w34.cell? ⟨gb389, 1, none⟩ = some (.slice Ao29 t385.length co29) := (blk_cell BK389.out 1).trans rfl; have hfz38_0 := blk_frozen BK389.out 0; have hfz38_1 := blk_frozen BK389.out 1) | (go_at_call 16; (with_reducible refine (dep_Of.calls k _ _ t382 _ _ t385 3 t402 _ ?side1 ?side2 ?side3 ?side4 A12.out).mono ?_); (case side1 => repeat (first | exact (Kd.N_reads' HO384.out).2.2 | (with_reducible refine Kd.C_alloc ?_ _) | (with_reducible refine Kd.C_drewN ?_ _) | (with_reducible refine Kd.C_drew ?_))); (case side2 => exact (Kd.N_reads' HO384.out).2.1); (case side3 => repeat (first | exact (Kd.N_reads' HO387.out).2.2 | (with_reducible refine Kd.C_alloc ?_ _) | (with_reducible refine Kd.C_drewN ?_ _) | (with_reducible refine Kd.C_drew ?_))); (case side4 => exact (Kd.N_reads' HO387.out).2.1); rintro e w39 ⟨v403, rfl, ho0, hb⟩; replace HO381 := A_ (Kd.N_elder' (by (with_reducible repeat (first | apply Kd.N_alloc | apply Kd.N_drewN | apply Kd.N_drew)); exact HO381.out) (Kd.R_base ho0) hb); replace HO384 := A_ (Kd.N_elder' (by (with_reducible repeat (first | apply Kd.N_alloc | apply Kd.N_drewN | apply Kd.N_drew)); exact HO384.out) (Kd.R_base ho0) hb); replace HO387 := A_ (Kd.N_elder' (by (with_reducible repeat (first | apply Kd.N_alloc | apply Kd.N_drewN | apply Kd.N_drew)); exact HO387.out) (Kd.R_base ho0) hb); replace HO397 := A_ (Kd.R_below (by exact RX_ HO397.out) hb); replace HO400 := A_ (Kd.R_below (by exact RX_ HO400.out) hb); have HO404 := A_ (Kd.R_lower (Kd.R_new' ho0 (Kd.R_lt (by exact RX_ HO392.out))) (below_size (B1_))); replace HO392 := A_ (Kd.R_elder' (by exact RX_ HO392.out) (Kd.R_base ho0) hb); replace BK389 := A_ (blk_below (g := gb389) (o := .cells #[.slice Ao27 t382.length co27, .slice Ao29 t385.length co29] 26 (0, 0)) (by exact KX_ BK389.out) hb); replace HB := A_ (below_step (B1_) hb); (try clear hb); (try clear hb2); (try clear hk); (try clear hi); (try clear ho0); obtain ⟨Ao40, co40, eo40⟩ := Kd.R_slice HO404.out; subst eo40))
        go_ret
        exact ⟨by first | rfl | exact congrArg (fun b => Ending.returned (Value.bool b)) HR_.out | (simp [errW_none, errW_some] <;> rfl) | (simp [*, errW_none, errW_some] <;> rfl), B1_⟩
       replace c11 := Bool.eq_false_iff.mpr c11
       subst c11
       have H1 : (some false) = some true := by rw [if_neg (show ¬ (false = true) by decide)] at H; exact H
       clear H
       have H := H1
       clear H1
       exact absurd H (by simp)
      rw [if_neg c8] at H
      have c8b0 : (((rd_T37 t390 1).f0) == 2 && (((rd_T37 t390 1).f1) == 0 && (((rd_T37 t390 1).f2) == 2))) = false := by simpa using c8
      (try (have c8b1 : decide (((rd_T37 t390 1).f0) = 2 && (((rd_T37 t390 1).f1) == 0 && (((rd_T37 t390 1).f2) == 2))) = false := by simpa using c8))
      (try (have c8b2 : (((rd_T37 t390 1).f0) == 2 && (((rd_T37 t390 1).f1) == 0 && (((rd_T37 t390 1).f2) == 2))) = false := by simpa using c8))
      (try (have c8b3 : ¬ (((rd_T37 t390 1).f0) = 2 && (((rd_T37 t390 1).f1) == 0 && (((rd_T37 t390 1).f2) == 2))) := by simpa using c8))
      clear c8
      exact absurd H (by simp)
     rw [if_neg c7] at H
     exact absurd H (by simp)
    rw [if_neg c6] at H
    have c6b0 : (((rd_T37 t390 0).f0) == 1 && (((rd_T37 t390 0).f1) == 0 && (((rd_T37 t390 0).f2) == 1))) = false := by simpa using c6
    (try (have c6b1 : decide (((rd_T37 t390 0).f0) = 1 && (((rd_T37 t390 0).f1) == 0 && (((rd_T37 t390 0).f2) == 1))) = false := by simpa using c6))
    (try (have c6b2 : (((rd_T37 t390 0).f0) == 1 && (((rd_T37 t390 0).f1) == 0 && (((rd_T37 t390 0).f2) == 1))) = false := by simpa using c6))
    (try (have c6b3 : ¬ (((rd_T37 t390 0).f0) = 1 && (((rd_T37 t390 0).f1) == 0 && (((rd_T37 t390 0).f2) == 1))) := by simpa using c6))
    clear c6
    exact absurd H (by simp)
   rw [if_neg c5] at H
   exact absurd H (by simp)
  rw [if_neg c4] at H
  have c4b0 : ((t390.length : Int) == 2) = false := beq_eq_false_iff_ne.mpr c4
  have c4b1 : ((t390.length : Int) != 2) = true := bne_iff_ne.mpr c4
  exact absurd H (by simp)
 rw [if_neg c3] at H
 have c3b0 : (t388 == 0) = false := beq_eq_false_iff_ne.mpr c3
 have c3b1 : (t388 != 0) = true := bne_iff_ne.mpr c3
 exact absurd H (by simp)


/-! ### lockstepref06_Small: function 8 -/
def lockstepref06_Small.l0 : Nat → List (List Int) → Int → Option (Bool)
 | 0, _, _ => none
 | k + 1, x0, x3 => if x3 < (x0.length : Int) then (if 0 ≤ x3 then (if ((rd_L1 x0 x3).length : Int) > 100 then (some false) else (if x3 > 100 then (some false) else (lockstepref06_Small.l0 k x0 (wrap64 (x3 + 1))))) else (none)) else (some true)
def lockstepref06_Small.f (k : Nat) (l0 : List (List Int)) : Option (Bool) := lockstepref06_Small.l0 k l0 0
theorem lockstepref06_Small.mono_l : ∀ k, (∀ y0 y1, LeO (lockstepref06_Small.l0 k y0 y1) (lockstepref06_Small.l0 (k + 1) y0 y1))
 | 0 => fun _ _ r h => by simp [lockstepref06_Small.l0] at h
 | k + 1 => by
  have ih0 := lockstepref06_Small.mono_l k
  ·intro y0 y1
   unfold lockstepref06_Small.l0
   repeat' (with_reducible first | exact ih0 _ _ | exact LeO.refl _ | exact LeO.none _ | refine LeO.ite ?_ ?_ | refine LeO.bind ?_ (fun _ => ?_))
theorem lockstepref06_Small.mono : ∀ a0 k, LeO (lockstepref06_Small.f k a0) (lockstepref06_Small.f (k + 1) a0) := by
 intro a0 k
 have ih0 := lockstepref06_Small.mono_l k
 unfold lockstepref06_Small.f
 repeat' (with_reducible first | exact ih0 _ _ | exact LeO.refl _ | exact LeO.none _ | refine LeO.ite ?_ ?_ | refine LeO.bind ?_ (fun _ => ?_))
set_option maxHeartbeats 8000000 in
set_option maxRecDepth 100000 in
theorem lockstepref06_Small.calls (k : Nat) (A0 : Option Addr) (c0 : Nat) (l0 : List (List Int)) (r : Bool) (w : World) (hr0 : Kd.C (Kd.slice 3 (Kd.int .i64)) w A0 l0.length l0) (hc0 : l0.length ≤ c0) (h : lockstepref06_Small.f k l0 = some r) :
 Calls Try.prog 8 #[.slice A0 l0.length c0] w fun e w' => e = .returned (.bool r) ∧ Drawn0 w w' := by
 have HR0 := Aside0.mk hr0
 have HC0 := Aside0.mk hc0
 clear hr0 hc0
 have H : (lockstepref06_Small.l0 k l0 0) = some r := h
 clear h
 have H' := Aside0.mk H
 clear H
 go_enter Try.func8, Try.ntmps8
 go_wp2
 go_loopg [3] k (fun kq v3 w' => ∃ (x3_1 : Int), v3 = .int .i64 x3_1 ∧ Aside0 (lockstepref06_Small.l0 kq l0 x3_1 = some r) ∧ Aside0 (kq ≤ k) ∧ Drawn0 w w')
 case atStart => exact ⟨(0), (by first | rfl | (simp; done) | (simp [*]; done)), H', ⟨Nat.le_refl _⟩, by repeat (first | exact Drawn0.refl _ | apply Drawn0.step)⟩
 case round =>
  clear H'
  obtain ⟨x3_1, rfl, HA, HK1, ⟨m1, rfl⟩⟩ := hrel
  cases gk with
  | zero => exact absurd HA.out (by simp [lockstepref06_Small.l0])
  | succ k1 =>
   have H := HA.out
   clear HA
   simp only [lockstepref06_Small.l0] at H
   by_cases c2 : x3_1 < (l0.length : Int)
   ·rw [if_pos c2] at H
    have c2b0 : decide (x3_1 < (l0.length : Int)) = true := decide_eq_true c2
    clear c2
    by_cases c3 : 0 ≤ x3_1
    ·rw [if_pos c3] at H
     have c3b0 : decide (0 ≤ x3_1) = true := decide_eq_true c3
     clear c3
     by_cases c4 : ((rd_L1 l0 x3_1).length : Int) > 100
     ·rw [if_pos c4] at H
      have c4b0 : decide (100 < ((rd_L1 l0 x3_1).length : Int)) = true := decide_eq_true c4
      have c4b1 : decide (100 < (rd_L1 l0 x3_1).length) = true := decide_eq_true (by omega)
      clear c4
      obtain rfl := Option.some.inj H
      have p405 : 0 ≤ (x3_1 : Int) := D_
      have q405 : x3_1 < (l0.length : Int) := D_
      obtain ⟨ad405, A405_0, c405_0, e405, hx405_0, hl405_0, hi405_0⟩ := at_L1 HR0.out x3_1 p405 q405
      cases e405
      have HR405_0 := Aside0.mk hi405_0
      have HC405_0 := Aside0.mk hl405_0
      clear hi405_0 hl405_0
      replace p405 := eq_true p405
      replace q405 := eq_true q405
      go_wp2
      go_ret
      exact ⟨by first | rfl | (simp; done) | (simp [*]; done), by repeat (first | exact Drawn0.refl _ | apply Drawn0.step)⟩
     rw [if_neg c4] at H
     have c4b0 : decide (100 < ((rd_L1 l0 x3_1).length : Int)) = false := decide_eq_false c4
     have c4b1 : decide (100 < (rd_L1 l0 x3_1).length) = false := decide_eq_false (by omega)
     clear c4
     by_cases c5 : x3_1 > 100
     ·rw [if_pos c5] at H
      have c5b0 : decide (100 < x3_1) = true := decide_eq_true c5
      clear c5
      obtain rfl := Option.some.inj H
      have p405 : 0 ≤ (x3_1 : Int) := D_
      have q405 : x3_1 < (l0.length : Int) := D_
      obtain ⟨ad405, A405_0, c405_0, e405, hx405_0, hl405_0, hi405_0⟩ := at_L1 HR0.out x3_1 p405 q405
      cases e405
      have HR405_0 := Aside0.mk hi405_0
      have HC405_0 := Aside0.mk hl405_0
      clear hi405_0 hl405_0
      replace p405 := eq_true p405
      replace q405 := eq_true q405
      go_wp2
      go_ret
      exact ⟨by first | rfl | (simp; done) | (simp [*]; done), by repeat (first | exact Drawn0.refl _ | apply Drawn0.step)⟩
     rw [if_neg c5] at H
     have c5b0 : decide (100 < x3_1) = false := decide_eq_false c5
     clear c5
     have H' := Aside0.mk H
     clear H
     have p405 : 0 ≤ (x3_1 : Int) := D_
     have q405 : x3_1 < (l0.length : Int) := D_
     obtain ⟨ad405, A405_0, c405_0, e405, hx405_0, hl405_0, hi405_0⟩ := at_L1 HR0.out x3_1 p405 q405
     cases e405
     have HR405_0 := Aside0.mk hi405_0
     have HC405_0 := Aside0.mk hl405_0
     clear hi405_0 hl405_0
     replace p405 := eq_true p405
     replace q405 := eq_true q405
     go_wp2
     go_roundg k1
     case measure => have := HK1.out; omega
     case rel => exact ⟨(wrap64 (x3_1 + 1)), (by first | rfl | (simp; done) | (simp [*]; done)), H', ⟨by have := HK1.out; omega⟩, by repeat (first | exact Drawn0.refl _ | apply Drawn0.step)⟩
    rw [if_neg c3] at H
    exact absurd H (by simp)
   rw [if_neg c2] at H
   have c2b0 : decide (x3_1 < (l0.length : Int)) = false := decide_eq_false c2
   clear c2
   obtain rfl := Option.some.inj H
   go_wp2
   go_ret
   exact ⟨by first | rfl | (simp; done) | (simp [*]; done), by repeat (first | exact Drawn0.refl _ | apply Drawn0.step)⟩


/-! ### lockstepref06_Reach: function 17 -/
mutual
def lockstepref06_Reach.l0 : Nat → Int → List Bool → Int → List (List Int) → List (List Int) → Option (List Bool)
 | 0, _, _, _, _, _ => none
 | k + 1, x2, x7, x8, x409000, x409001 => if x8 < (x7.length : Int) then (lockstepref06_Reach.l1 k x2 x7 x8 0 x409000 x409001) else (some x7)
def lockstepref06_Reach.l1 : Nat → Int → List Bool → Int → Int → List (List Int) → List (List Int) → Option (List Bool)
 | 0, _, _, _, _, _, _ => none
 | k + 1, x2, x7, x8, x9, x409000, x409001 => if x9 < (x7.length : Int) then (lockstepref06_Reach.l2 k x2 x7 x8 x9 0 x409000 x409001) else (lockstepref06_Reach.l0 k x2 x7 (wrap64 (x8 + 1)) x409000 x409001)
def lockstepref06_Reach.l2 : Nat → Int → List Bool → Int → Int → Int → List (List Int) → List (List Int) → Option (List Bool)
 | 0, _, _, _, _, _, _, _ => none
 | k + 1, x2, x7, x8, x9, x10, x409000, x409001 => if 0 ≤ x9 then (if x9 < (x7.length : Int) then (if rdOf false x7 x9 = true then (if x9 < (x409000.length : Int) then (lockstepref06_Reach.j3 k x2 x7 x8 x9 x10 (decide (x10 < ((rd_L1 x409000 x9).length : Int))) x409000 x409001) else (none)) else (lockstepref06_Reach.j3 k x2 x7 x8 x9 x10 false x409000 x409001)) else (none)) else (none)
def lockstepref06_Reach.j3 : Nat → Int → List Bool → Int → Int → Int → Bool → List (List Int) → List (List Int) → Option (List Bool)
 | 0, _, _, _, _, _, _, _, _ => none
 | k + 1, x2, x7, x8, x9, x10, x47, x409000, x409001 => if x47 = true then (if 0 ≤ x9 then (if x9 < (x409000.length : Int) then (if 0 ≤ x10 then (if x10 < ((rd_L1 x409000 x9).length : Int) then (if (rd (rd_L1 x409000 x9) x10) = x2 then (lockstepref06_Reach.l2 k x2 x7 x8 x9 (wrap64 (x10 + 1)) x409000 x409001) else (if 0 ≤ (rd (rd_L1 x409000 x9) x10) then (if (rd (rd_L1 x409000 x9) x10) < (x7.length : Int) then (lockstepref06_Reach.l2 k x2 (x7.set ((rd (rd_L1 x409000 x9) x10) : Int).toNat true) x8 x9 (wrap64 (x10 + 1)) x409000 x409001) else (none)) else (none))) else (none)) else (none)) else (none)) else (none)) else (lockstepref06_Reach.l1 k x2 x7 x8 (wrap64 (x9 + 1)) x409000 x409001)
end
def lockstepref06_Reach.f (k : Nat) (l0_0 : List (List Int)) (l0_1 : List (List Int)) (a1 : Int) (a2 : Int) : Option (List Bool) := if 0 ≤ (l0_0.length : Int) then (if ((l0_0.length : Int) : Int).toNat ≤ 281474976710656 then ((some (List.replicate ((l0_0.length : Int) : Int).toNat false : List Bool)).bind fun y409 => (if a1 = a2 then (some y409) else (if 0 ≤ a1 then (if a1 < (y409.length : Int) then (lockstepref06_Reach.l0 k a2 (y409.set (a1 : Int).toNat true) 0 l0_0 l0_1) else (none)) else (none)))) else (none)) else (none)
theorem lockstepref06_Reach.mono_l : ∀ k, (∀ y0 y1 y2 y3 y4, LeO (lockstepref06_Reach.l0 k y0 y1 y2 y3 y4) (lockstepref06_Reach.l0 (k + 1) y0 y1 y2 y3 y4)) ∧ (∀ y0 y1 y2 y3 y4 y5, LeO (lockstepref06_Reach.l1 k y0 y1 y2 y3 y4 y5) (lockstepref06_Reach.l1 (k + 1) y0 y1 y2 y3 y4 y5)) ∧ (∀ y0 y1 y2 y3 y4 y5 y6, LeO (lockstepref06_Reach.l2 k y0 y1 y2 y3 y4 y5 y6) (lockstepref06_Reach.l2 (k + 1) y0 y1 y2 y3 y4 y5 y6)) ∧ (∀ y0 y1 y2 y3 y4 y5 y6 y7, LeO (lockstepref06_Reach.j3 k y0 y1 y2 y3 y4 y5 y6 y7) (lockstepref06_Reach.j3 (k + 1) y0 y1 y2 y3 y4 y5 y6 y7))
 | 0 => ⟨fun _ _ _ _ _ r h => by simp [lockstepref06_Reach.l0] at h, fun _ _ _ _ _ _ r h => by simp [lockstepref06_Reach.l1] at h, fun _ _ _ _ _ _ _ r h => by simp [lockstepref06_Reach.l2] at h, fun _ _ _ _ _ _ _ _ r h => by simp [lockstepref06_Reach.j3] at h⟩
 | k + 1 => by
  obtain ⟨ih0, ih1, ih2, ih3⟩ := lockstepref06_Reach.mono_l k
  refine ⟨?_, ?_, ?_, ?_⟩
  ·intro y0 y1 y2 y3 y4
   unfold lockstepref06_Reach.l0
   repeat' (with_reducible first | exact ih0 _ _ _ _ _ | exact ih1 _ _ _ _ _ _ | exact ih2 _ _ _ _ _ _ _ | exact ih3 _ _ _ _ _ _ _ _ | exact LeO.refl _ | exact LeO.none _ | refine LeO.ite ?_ ?_ | refine LeO.bind ?_ (fun _ => ?_))
  ·intro y0 y1 y2 y3 y4 y5
   unfold lockstepref06_Reach.l1
   repeat' (with_reducible first | exact ih0 _ _ _ _ _ | exact ih1 _ _ _ _ _ _ | exact ih2 _ _ _ _ _ _ _ | exact ih3 _ _ _ _ _ _ _ _ | exact LeO.refl _ | exact LeO.none _ | refine LeO.ite ?_ ?_ | refine LeO.bind ?_ (fun _ => ?_))
  ·intro y0 y1 y2 y3 y4 y5 y6
   unfold lockstepref06_Reach.l2
   repeat' (with_reducible first | exact ih0 _ _ _ _ _ | exact ih1 _ _ _ _ _ _ | exact ih2 _ _ _ _ _ _ _ | exact ih3 _ _ _ _ _ _ _ _ | exact LeO.refl _ | exact LeO.none _ | refine LeO.ite ?_ ?_ | refine LeO.bind ?_ (fun _ => ?_))
  ·intro y0 y1 y2 y3 y4 y5 y6 y7
   unfold lockstepref06_Reach.j3
   repeat' (with_reducible first | exact ih0 _ _ _ _ _ | exact ih1 _ _ _ _ _ _ | exact ih2 _ _ _ _ _ _ _ | exact ih3 _ _ _ _ _ _ _ _ | exact LeO.refl _ | exact LeO.none _ | refine LeO.ite ?_ ?_ | refine LeO.bind ?_ (fun _ => ?_))
theorem lockstepref06_Reach.mono : ∀ a0 a1 a2 a3 k, LeO (lockstepref06_Reach.f k a0 a1 a2 a3) (lockstepref06_Reach.f (k + 1) a0 a1 a2 a3) := by
 intro a0 a1 a2 a3 k
 obtain ⟨ih0, ih1, ih2, ih3⟩ := lockstepref06_Reach.mono_l k
 unfold lockstepref06_Reach.f
 repeat' (with_reducible first | exact ih0 _ _ _ _ _ | exact ih1 _ _ _ _ _ _ | exact ih2 _ _ _ _ _ _ _ | exact ih3 _ _ _ _ _ _ _ _ | exact LeO.refl _ | exact LeO.none _ | refine LeO.ite ?_ ?_ | refine LeO.bind ?_ (fun _ => ?_))
set_option maxHeartbeats 8000000 in
set_option maxRecDepth 100000 in
theorem lockstepref06_Reach.calls (k : Nat) (A0_0 : Option Addr) (c0_0 : Nat) (l0_0 : List (List Int)) (A0_1 : Option Addr) (c0_1 : Nat) (l0_1 : List (List Int)) (a1 : Int) (a2 : Int) (r : List Bool) (w : World) (hr0_0 : Kd.C (Kd.slice 3 (Kd.int .i64)) w A0_0 l0_0.length l0_0) (hc0_0 : l0_0.length ≤ c0_0) (hr0_1 : Kd.C (Kd.slice 3 (Kd.int .i64)) w A0_1 l0_1.length l0_1) (hc0_1 : l0_1.length ≤ c0_1) (h : lockstepref06_Reach.f k l0_0 l0_1 a1 a2 = some r) :
 Calls Try.prog 17 #[.agg #[.slice A0_0 l0_0.length c0_0, .slice A0_1 l0_1.length c0_1], .int .i64 a1, .int .i64 a2] w fun e w' => ∃ v0_ : Value, e = .returned (v0_) ∧ Kd.R Kd.bool 4 w' w.heap.size (fun _ => True) v0_ r ∧ Below w.heap.size w w' := by
 have hu26 := Try.underlying26
 have HR0_0 := Aside0.mk hr0_0
 have HC0_0 := Aside0.mk hc0_0
 clear hr0_0 hc0_0
 have HR0_1 := Aside0.mk hr0_1
 have HC0_1 := Aside0.mk hc0_1
 clear hr0_1 hc0_1
 have HB := A_ (Below.refl w.heap.size w)
 have H : (if 0 ≤ (l0_0.length : Int) then (if ((l0_0.length : Int) : Int).toNat ≤ 281474976710656 then ((some (List.replicate ((l0_0.length : Int) : Int).toNat false : List Bool)).bind fun y409 => (if a1 = a2 then (some y409) else (if 0 ≤ a1 then (if a1 < (y409.length : Int) then (lockstepref06_Reach.l0 k a2 (y409.set (a1 : Int).toNat true) 0 l0_0 l0_1) else (none)) else (none)))) else (none)) else (none)) = some r := h
 clear h
 by_cases c4 : 0 ≤ (l0_0.length : Int)
 ·rw [if_pos c4] at H
  have c4b0 := eq_true c4
  have c4b1 : decide (0 ≤ (l0_0.length : Int)) = true := decide_eq_true c4
  clear c4
  by_cases c5 : ((l0_0.length : Int) : Int).toNat ≤ 281474976710656
  ·rw [if_pos c5] at H
   have c5b0 := eq_true c5
   have c5b1 : decide (((l0_0.length : Int) : Int).toNat ≤ 281474976710656) = true := decide_eq_true c5
   clear c5
   obtain ⟨y409, hy409⟩ : ∃ y_ : List Bool, y_ = (List.replicate ((l0_0.length : Int) : Int).toNat false) := ⟨_, rfl⟩
   replace H : (if a1 = a2 then (some y409) else (if 0 ≤ a1 then (if a1 < (y409.length : Int) then (lockstepref06_Reach.l0 k a2 (y409.set (a1 : Int).toNat true) 0 l0_0 l0_1) else (none)) else (none))) = some r := by first | (rw [hy409]; with_reducible exact H) | (have H2_ := (Option.bind_some _ _).symm.trans H; rw [hy409]; with_reducible exact H2_) | (have H2_ := (Option.bind_some _ _).symm.trans H; with_reducible exact H2_) | with_reducible exact H | (rw [hy409]; exact H) | exact H
   have Ny409 := Aside0.mk hy409
   clear hy409
   by_cases c6 : a1 = a2
   ·rw [if_pos c6] at H
    have c6b0 : (a1 == a2) = true := beq_iff_eq.mpr c6
    have c6b1 : (a1 != a2) = false := bne_eq_false_iff_eq.mpr c6
    clear c6
    obtain rfl := Option.some.inj H
    go_enter Try.func17, Try.ntmps17
    go_wp2_with (first | ((with_reducible refine gate_dst (N := 3) rfl ?_); (try (refine gate_guard (by rfl) ?_; dsimp only)); refine box_event ?hg (N := 3) ?hd (cs := #[.slice A0_0 l0_0.length c0_0, .slice A0_1 l0_1.length c0_1]) (t := 26) ?hr ?_; (case hd => rfl); (case hg => rfl); (case hr => first | (go_simp; done) | (go_simp; rfl)); intro gb408 hg w7 hbox hb; have BK408 := A_ (hbox); have GW408 := A_ ((by rw [hg]; exact (below_size (B_)) : w.heap.size ≤ gb408)); have GE408 := A_ ((by rw [hg]; exact (below_size (B_)) : w.heap.size ≤ gb408)); replace HB := A_ (below_step (B_) hb); clear hb hbox hg; have hcz8_0 : w7.cell? ⟨gb408, 0, none⟩ = some (.slice A0_0 l0_0.length c0_0) := (blk_cell BK408.out 0).trans rfl; have hcz8_1 : w7.cell? ⟨gb408, 1, none⟩ = some (.slice A0_1 l0_1.length c0_1) := (blk_cell BK408.out 1).trans rfl; have hfz8_0 := blk_frozen BK408.out 0; have hfz8_1 := blk_frozen BK408.out 1) | ((with_reducible refine gate_dst (N := 14) rfl ?_); (try (refine gate_guard (by rfl) ?_; dsimp only)); refine Kd.R_make Kd.bool _ 4 rfl (N := 14) rfl 40 _ _ rfl (l0_0.length : Int) rfl rfl Try.underlying40 (.bool false) 1 info4 rfl (by decide) (by omega) false (ok := fun _ => True) (okp := fun _ => True) rfl (fun _ hk => hk) trivial (D_) (Nat.le_trans (Nat.mul_le_mul_right _ (D_ : (l0_0.length : Int).toNat ≤ 281474976710656)) (by omega)) (Below.refl _ _) (Nat.le_refl _) ?_; intro v410 w9 ho10 hb hg_ hnew_; clear hg_ hnew_; (first | rw [← Ny409.out] at ho10 | (simp only [Int.reduceToNat] at ho10; rw [← Ny409.out] at ho10)); have HO411 := A_ (Kd.R_lower ho10 (below_size (B1_))); replace BK408 := A_ (blk_below (g := gb408) (o := .cells #[.slice A0_0 l0_0.length c0_0, .slice A0_1 l0_1.length c0_1] 26 (0, 0)) (by exact KX_ BK408.out) hb); replace HB := A_ (below_step (B1_) hb); clear hb ho10))
    go_ret
    exact ⟨_, by first | rfl | (simp [errW_none, errW_some] <;> rfl) | (simp [*, errW_none, errW_some] <;> rfl), by exact RX_ HO411.out, B1_⟩
   rw [if_neg c6] at H
   have c6b0 : (a1 == a2) = false := beq_eq_false_iff_ne.mpr c6
   have c6b1 : (a1 != a2) = true := bne_iff_ne.mpr c6
   by_cases c11 : 0 ≤ a1
   ·rw [if_pos c11] at H
    have c11b0 : decide (0 ≤ a1) = true := decide_eq_true c11
    clear c11
    by_cases c12 : a1 < (y409.length : Int)
    ·rw [if_pos c12] at H
     have c12b0 : decide (a1 < (y409.length : Int)) = true := decide_eq_true c12
     clear c12
     obtain ⟨y412, hy412⟩ : ∃ y_ : List Bool, y_ = (y409.set (a1 : Int).toNat true) := ⟨_, rfl⟩
     replace H : (lockstepref06_Reach.l0 k a2 y412 0 l0_0 l0_1) = some r := by first | (rw [hy412]; with_reducible exact H) | (have H2_ := (Option.bind_some _ _).symm.trans H; rw [hy412]; with_reducible exact H2_) | (have H2_ := (Option.bind_some _ _).symm.trans H; with_reducible exact H2_) | with_reducible exact H | (rw [hy412]; exact H) | exact H
     have Ny412 := Aside0.mk hy412
     clear hy412
     have H' := Aside0.mk H
     clear H
     go_enter Try.func17, Try.ntmps17
     go_wp2_with (first | ((with_reducible refine gate_dst (N := 3) rfl ?_); (try (refine gate_guard (by rfl) ?_; dsimp only)); refine box_event ?hg (N := 3) ?hd (cs := #[.slice A0_0 l0_0.length c0_0, .slice A0_1 l0_1.length c0_1]) (t := 26) ?hr ?_; (case hd => rfl); (case hg => rfl); (case hr => first | (go_simp; done) | (go_simp; rfl)); intro gb408 hg w14 hbox hb; have BK408 := A_ (hbox); have GW408 := A_ ((by rw [hg]; exact (below_size (B_)) : w.heap.size ≤ gb408)); have GE408 := A_ ((by rw [hg]; exact (below_size (B_)) : w.heap.size ≤ gb408)); replace HB := A_ (below_step (B_) hb); clear hb hbox hg; have hcz15_0 : w14.cell? ⟨gb408, 0, none⟩ = some (.slice A0_0 l0_0.length c0_0) := (blk_cell BK408.out 0).trans rfl; have hcz15_1 : w14.cell? ⟨gb408, 1, none⟩ = some (.slice A0_1 l0_1.length c0_1) := (blk_cell BK408.out 1).trans rfl; have hfz15_0 := blk_frozen BK408.out 0; have hfz15_1 := blk_frozen BK408.out 1) | ((with_reducible refine gate_dst (N := 14) rfl ?_); (try (refine gate_guard (by rfl) ?_; dsimp only)); refine Kd.R_make Kd.bool _ 4 rfl (N := 14) rfl 40 _ _ rfl (l0_0.length : Int) rfl rfl Try.underlying40 (.bool false) 1 info4 rfl (by decide) (by omega) false (ok := fun _ => True) (okp := fun _ => True) rfl (fun _ hk => hk) trivial (D_) (Nat.le_trans (Nat.mul_le_mul_right _ (D_ : (l0_0.length : Int).toNat ≤ 281474976710656)) (by omega)) (Below.refl _ _) (Nat.le_refl _) ?_; intro v410 w16 ho17 hb hg_ hnew_; clear hg_ hnew_; (first | rw [← Ny409.out] at ho17 | (simp only [Int.reduceToNat] at ho17; rw [← Ny409.out] at ho17)); have HO411 := A_ (Kd.R_lower ho17 (below_size (B1_))); replace BK408 := A_ (blk_below (g := gb408) (o := .cells #[.slice A0_0 l0_0.length c0_0, .slice A0_1 l0_1.length c0_1] 26 (0, 0)) (by exact KX_ BK408.out) hb); replace HB := A_ (below_step (B1_) hb); clear hb ho17; have p13 : 0 ≤ (a1 : Int) := D_; have q13 : (a1 : Int) < ((y409.length : Int) : Int) := D_; obtain ⟨go13, co13, eo13, gb13, gl13, cl13, HG13⟩ := Kd.R_form HO411.out (by omega); (first | cases eo13 | (injection eo13 with ea_ en_ ec_; (first | subst ea_ | (injection ea_ with ea_; subst ea_)); subst ec_; clear en_)); have GB13 := Aside0.mk gb13; have GG13 := Aside0.mk HG13; clear gb13 gl13 HG13; obtain ⟨hx13_0, hf13_0⟩ := Kd.R_celln false HO411.out (a1 : Int) p13 q13; replace p13 := eq_true p13; replace q13 := eq_true q13; obtain ⟨hy18_, hz18_⟩ := Kd.R_celln false HO411.out (a1 : Int) (D_) (D_); have HP18 := Kd.R_putg HO411.out (a1 : Int) true) | ((with_reducible refine gate_store (t := 4) (p := 21) rfl ?_); refine store_event (t := 4) (p := 21) (v := ?vo_w19) (w1 := (w16.setCell ⟨go13, (a1 : Int).toNat, none⟩ (.bool true))) ?hg ?ho ?hn ?hr ?_; (case ho => rfl); (case hg => rfl); (case hn => rfl); (case hr => first | (go_simp; done) | (go_simp; rfl)); intro w19 hw; have hg : w16.grownBy w19 (some go13) := (by rw [hw]; exact HP18.2); have hp_ : Kd.R Kd.bool 4 w19 w.heap.size (fun _ => True) (.slice (some ⟨go13, 0, none⟩) y409.length co13) y412 := (by rw [hw, Ny412.out]; exact HP18.1); clear HP18; replace BK408 := A_ (blk_grown (g := gb408) (o := .cells #[.slice A0_0 l0_0.length c0_0, .slice A0_1 l0_1.length c0_1] 26 (0, 0)) (by exact KX_ BK408.out) hg (Kd.R_ne HO411.out BK408.out (by decide))); replace HO411 := A_ (hp_); replace HB := A_ ((by rw [hw]; exact below_set (HB.out) GB13.out : Below w.heap.size w w19)); clear hg hw hp_))
     go_loopg [8] k (fun kq v8 w' => ∃ (x7_1 : List Bool) (x8_1 : Int), v8 = .int .i64 x8_1 ∧ Aside0 (lockstepref06_Reach.l0 kq a2 x7_1 x8_1 l0_0 l0_1 = some r) ∧ Aside0 (kq ≤ k) ∧ Aside0 (Kd.R Kd.bool 4 w' w.heap.size (fun _ => True) (.slice (some ⟨go13, 0, none⟩) y409.length co13) x7_1) ∧ Aside0 (w'.heap[gb408]? = some (.cells #[(.slice A0_0 l0_0.length c0_0), (.slice A0_1 l0_1.length c0_1)] 26 (0, 0))) ∧ Aside0 (Below w.heap.size w w'))
     case atStart => exact ⟨(y412), (0), (by first | rfl | (simp; done) | (simp [*]; done)), H', ⟨Nat.le_refl _⟩, ⟨by exact RM_ HO411.out⟩, ⟨by exact KX_ BK408.out⟩, ⟨B1_⟩⟩
     case round =>
      clear H'
      try clear c4b0
      try clear c4b1
      try clear c5b0
      try clear c5b1
      try clear c6
      try clear c6b0
      try clear c6b1
      try clear c11b0
      try clear c12b0
      try clear p13
      try clear q13
      try clear hcz15_0
      try clear hcz15_1
      try clear hfz15_0
      try clear hfz15_1
      try clear hx13_0
      try clear p13
      try clear q13
      obtain ⟨x7_1, x8_1, rfl, HA, HK1, HO_7, BK408, HB⟩ := hrel
      have hl7_1 := (Kd.R_reads' HO_7.out).1
      rw [hl7_1] at HO_7
      (try simp only [hl7_1])
      (try simp only [hl7_1] at BK408)
      cases gk with
      | zero => exact absurd HA.out (by simp [lockstepref06_Reach.l0])
      | succ k1 =>
       have H := HA.out
       clear HA
       simp only [lockstepref06_Reach.l0] at H
       by_cases c20 : x8_1 < (x7_1.length : Int)
       ·rw [if_pos c20] at H
        have c20b0 : decide (x8_1 < (x7_1.length : Int)) = true := decide_eq_true c20
        clear c20
        have H' := Aside0.mk H
        clear H
        go_wp2
        go_loopg [9] k1 (fun kq v9 w' => ∃ (x7_2 : List Bool) (x9_2 : Int), v9 = .int .i64 x9_2 ∧ Aside0 (lockstepref06_Reach.l1 kq a2 x7_2 x8_1 x9_2 l0_0 l0_1 = some r) ∧ Aside0 (kq ≤ k1) ∧ Aside0 (Kd.R Kd.bool 4 w' w.heap.size (fun _ => True) (.slice (some ⟨go13, 0, none⟩) x7_1.length co13) x7_2) ∧ Aside0 (w'.heap[gb408]? = some (.cells #[(.slice A0_0 l0_0.length c0_0), (.slice A0_1 l0_1.length c0_1)] 26 (0, 0))) ∧ Aside0 (Below w.heap.size w w'))
        case atStart => exact ⟨(x7_1), (0), (by first | rfl | (simp; done) | (simp [*]; done)), H', ⟨Nat.le_refl _⟩, ⟨by (try simp only [hl7_1]); exact RM_ HO_7.out⟩, ⟨by (try simp only [hl7_1]); exact KX_ BK408.out⟩, ⟨B1_⟩⟩
        case round =>
         clear H'
         try clear c20b0
         obtain ⟨x7_2, x9_2, rfl, HA, HK2, HO_7, BK408, HB⟩ := hrel
         have hl7_2 := (Kd.R_reads' HO_7.out).1
         rw [hl7_2] at HO_7
         (try simp only [hl7_2])
         (try simp only [hl7_2] at BK408)
         cases gk with
         | zero => exact absurd HA.out (by simp [lockstepref06_Reach.l1])
         | succ k2 =>
          have H := HA.out
          clear HA
          simp only [lockstepref06_Reach.l1] at H
          by_cases c21 : x9_2 < (x7_2.length : Int)
          ·rw [if_pos c21] at H
           have c21b0 : decide (x9_2 < (x7_2.length : Int)) = true := decide_eq_true c21
           clear c21
           have H' := Aside0.mk H
           clear H
           go_wp2
           go_loopg [10] k2 (fun kq v10 w' => ∃ (x7_3 : List Bool) (x10_3 : Int), v10 = .int .i64 x10_3 ∧ Aside0 (lockstepref06_Reach.l2 kq a2 x7_3 x8_1 x9_2 x10_3 l0_0 l0_1 = some r) ∧ Aside0 (kq ≤ k2) ∧ Aside0 (Kd.R Kd.bool 4 w' w.heap.size (fun _ => True) (.slice (some ⟨go13, 0, none⟩) x7_2.length co13) x7_3) ∧ Aside0 (w'.heap[gb408]? = some (.cells #[(.slice A0_0 l0_0.length c0_0), (.slice A0_1 l0_1.length c0_1)] 26 (0, 0))) ∧ Aside0 (Below w.heap.size w w'))
           case atStart => exact ⟨(x7_2), (0), (by first | rfl | (simp; done) | (simp [*]; done)), H', ⟨Nat.le_refl _⟩, ⟨by (try simp only [hl7_1]); (try simp only [hl7_2]); exact RM_ HO_7.out⟩, ⟨by (try simp only [hl7_1]); (try simp only [hl7_2]); exact KX_ BK408.out⟩, ⟨B1_⟩⟩
           case round =>
            clear H'
            try clear c21b0
            obtain ⟨x7_3, x10_3, rfl, HA, HK3, HO_7, BK408, HB⟩ := hrel
            have hl7_3 := (Kd.R_reads' HO_7.out).1
            rw [hl7_3] at HO_7
            (try simp only [hl7_3])
            (try simp only [hl7_3] at BK408)
            cases gk with
            | zero => exact absurd HA.out (by simp [lockstepref06_Reach.l2])
            | succ k3 =>
             have H := HA.out
             clear HA
             simp only [lockstepref06_Reach.l2] at H
             have HC22 := Aside0.mk H
             clear H
             go_upto_region 12 with (fail)
             go_cut [47] (fun v47 wc => ∃ (kq : Nat) (x47_21 : Bool), v47 = .bool x47_21 ∧ Aside0 (lockstepref06_Reach.j3 kq a2 x7_3 x8_1 x9_2 x10_3 x47_21 l0_0 l0_1 = some r) ∧ Aside0 (kq ≤ k3) ∧ Aside0 (Kd.R Kd.bool 4 wc w.heap.size (fun _ => True) (.slice (some ⟨go13, 0, none⟩) x7_3.length co13) x7_3) ∧ Aside0 (wc.heap[gb408]? = some (.cells #[(.slice A0_0 l0_0.length c0_0), (.slice A0_1 l0_1.length c0_1)] 26 (0, 0))) ∧ Aside0 (Below w.heap.size w wc))
             case first =>
              have H := HC22.out
              clear HC22
              by_cases c23 : 0 ≤ x9_2
              ·rw [if_pos c23] at H
               have c23b0 : decide (0 ≤ x9_2) = true := decide_eq_true c23
               clear c23
               (first | rw [c23b0] | (simp only [i64_w, i32_w]; rw [c23b0]) | skip)
               by_cases c24 : x9_2 < (x7_3.length : Int)
               ·rw [if_pos c24] at H
                have c24b0 : decide (x9_2 < (x7_3.length : Int)) = true := decide_eq_true c24
                clear c24
                obtain ⟨bq25, hbq25⟩ : ∃ b_ : Bool, b_ = (rdOf false x7_3 x9_2) := ⟨_, rfl⟩
                replace H : (if bq25 = true then (if x9_2 < (l0_0.length : Int) then (lockstepref06_Reach.j3 k3 a2 x7_3 x8_1 x9_2 x10_3 (decide (x10_3 < ((rd_L1 l0_0 x9_2).length : Int))) l0_0 l0_1) else (none)) else (lockstepref06_Reach.j3 k3 a2 x7_3 x8_1 x9_2 x10_3 false l0_0 l0_1)) = some r := by rw [← hbq25] at H; exact H
                have Nbq25 := Aside0.mk hbq25
                clear hbq25
                by_cases c26 : bq25 = true
                ·subst c26
                 have H1 : (if x9_2 < (l0_0.length : Int) then (lockstepref06_Reach.j3 k3 a2 x7_3 x8_1 x9_2 x10_3 (decide (x10_3 < ((rd_L1 l0_0 x9_2).length : Int))) l0_0 l0_1) else (none)) = some r := by rw [if_pos rfl] at H; exact H
                 clear H
                 have H := H1
                 clear H1
                 by_cases c27 : x9_2 < (l0_0.length : Int)
                 ·rw [if_pos c27] at H
                  have c27b0 : decide (x9_2 < (l0_0.length : Int)) = true := decide_eq_true c27
                  clear c27
                  have H' := Aside0.mk H
                  clear H
                  have p413 : 0 ≤ (x9_2 : Int) := D_
                  have q413 : x9_2 < (x7_3.length : Int) := D_
                  obtain ⟨ad413, e413, hx413_0⟩ := Kd.at_bool (Kd.R_reads' HO_7.out).2.2 x9_2 p413 q413
                  (try rw [← Nbq25.out] at hx413_0)
                  obtain rfl : (⟨go13, 0, none⟩ : Addr) = ad413 := (by injection e413)
                  (first | simp only [add_plain] at hx413_0 | simp only [add_at] at hx413_0 | simp only [Addr.add, Nat.zero_add] at hx413_0 | skip)
                  replace p413 := eq_true p413
                  replace q413 := eq_true q413
                  have hcz28_0 : wr.cell? ⟨gb408, 0, none⟩ = some (.slice A0_0 l0_0.length c0_0) := (blk_cell BK408.out 0).trans rfl
                  have hcz28_1 : wr.cell? ⟨gb408, 1, none⟩ = some (.slice A0_1 l0_1.length c0_1) := (blk_cell BK408.out 1).trans rfl
                  have hfz28_0 := blk_frozen BK408.out 0
                  have hfz28_1 := blk_frozen BK408.out 1
                  have p414 : 0 ≤ (x9_2 : Int) := D_
                  have q414 : x9_2 < (l0_0.length : Int) := D_
                  obtain ⟨ad414, A414_0, c414_0, e414, hx414_0, hl414_0, hi414_0⟩ := at_L1 HR0_0.out x9_2 p414 q414
                  cases e414
                  replace hx414_0 := (HB.out.cell (World.block_lt_of_cell? w _ hx414_0)).trans hx414_0
                  have HR414_0 := Aside0.mk hi414_0
                  have HC414_0 := Aside0.mk hl414_0
                  clear hi414_0 hl414_0
                  replace p414 := eq_true p414
                  replace q414 := eq_true q414
                  go_wp2
                  go_meet
                  case rel => exact ⟨_, (decide (x10_3 < ((rd_L1 l0_0 x9_2).length : Int))), (by first | rfl | (simp; done) | (simp [*]; done)), H', ⟨by have := HK1.out; have := HK2.out; have := HK3.out; first | omega | exact Nat.le_refl _⟩, ⟨by (try simp only [hl7_1]); (try simp only [hl7_2]); (try simp only [hl7_3]); exact RM_ HO_7.out⟩, ⟨by (try simp only [hl7_1]); (try simp only [hl7_2]); (try simp only [hl7_3]); exact KX_ BK408.out⟩, ⟨B1_⟩⟩
                 rw [if_neg c27] at H
                 exact absurd H (by simp)
                replace c26 := Bool.eq_false_iff.mpr c26
                subst c26
                have H1 : (lockstepref06_Reach.j3 k3 a2 x7_3 x8_1 x9_2 x10_3 false l0_0 l0_1) = some r := by rw [if_neg (show ¬ (false = true) by decide)] at H; exact H
                clear H
                have H := H1
                clear H1
                have H' := Aside0.mk H
                clear H
                have p413 : 0 ≤ (x9_2 : Int) := D_
                have q413 : x9_2 < (x7_3.length : Int) := D_
                obtain ⟨ad413, e413, hx413_0⟩ := Kd.at_bool (Kd.R_reads' HO_7.out).2.2 x9_2 p413 q413
                (try rw [← Nbq25.out] at hx413_0)
                obtain rfl : (⟨go13, 0, none⟩ : Addr) = ad413 := (by injection e413)
                (first | simp only [add_plain] at hx413_0 | simp only [add_at] at hx413_0 | simp only [Addr.add, Nat.zero_add] at hx413_0 | skip)
                replace p413 := eq_true p413
                replace q413 := eq_true q413
                go_wp2
                go_meet
                case rel => exact ⟨_, (false), (by first | rfl | (simp; done) | (simp [*]; done)), H', ⟨by have := HK1.out; have := HK2.out; have := HK3.out; first | omega | exact Nat.le_refl _⟩, ⟨by (try simp only [hl7_1]); (try simp only [hl7_2]); (try simp only [hl7_3]); exact RM_ HO_7.out⟩, ⟨by (try simp only [hl7_1]); (try simp only [hl7_2]); (try simp only [hl7_3]); exact KX_ BK408.out⟩, ⟨B1_⟩⟩
               rw [if_neg c24] at H
               exact absurd H (by simp)
              rw [if_neg c23] at H
              exact absurd H (by simp)
             case rest =>
              clear HC22
              obtain ⟨kq, x47_21, rfl, HA, HJ21, HO_7, BK408, HB⟩ := hcut
              cases kq with
              | zero => exact absurd HA.out (by simp [lockstepref06_Reach.j3])
              | succ kj21 =>
               have H := HA.out
               clear HA
               simp only [lockstepref06_Reach.j3] at H
               by_cases c29 : x47_21 = true
               ·subst c29
                have H1 : (if 0 ≤ x9_2 then (if x9_2 < (l0_0.length : Int) then (if 0 ≤ x10_3 then (if x10_3 < ((rd_L1 l0_0 x9_2).length : Int) then (if (rd (rd_L1 l0_0 x9_2) x10_3) = a2 then (lockstepref06_Reach.l2 kj21 a2 x7_3 x8_1 x9_2 (wrap64 (x10_3 + 1)) l0_0 l0_1) else (if 0 ≤ (rd (rd_L1 l0_0 x9_2) x10_3) then (if (rd (rd_L1 l0_0 x9_2) x10_3) < (x7_3.length : Int) then (lockstepref06_Reach.l2 kj21 a2 (x7_3.set ((rd (rd_L1 l0_0 x9_2) x10_3) : Int).toNat true) x8_1 x9_2 (wrap64 (x10_3 + 1)) l0_0 l0_1) else (none)) else (none))) else (none)) else (none)) else (none)) else (none)) = some r := by rw [if_pos rfl] at H; exact H
                clear H
                have H := H1
                clear H1
                by_cases c30 : 0 ≤ x9_2
                ·rw [if_pos c30] at H
                 have c30b0 : decide (0 ≤ x9_2) = true := decide_eq_true c30
                 clear c30
                 by_cases c31 : x9_2 < (l0_0.length : Int)
                 ·rw [if_pos c31] at H
                  have c31b0 : decide (x9_2 < (l0_0.length : Int)) = true := decide_eq_true c31
                  clear c31
                  by_cases c32 : 0 ≤ x10_3
                  ·rw [if_pos c32] at H
                   have c32b0 : decide (0 ≤ x10_3) = true := decide_eq_true c32
                   clear c32
                   by_cases c33 : x10_3 < ((rd_L1 l0_0 x9_2).length : Int)
                   ·rw [if_pos c33] at H
                    have c33b0 : decide (x10_3 < ((rd_L1 l0_0 x9_2).length : Int)) = true := decide_eq_true c33
                    clear c33
                    by_cases c34 : (rd (rd_L1 l0_0 x9_2) x10_3) = a2
                    ·rw [if_pos c34] at H
                     have c34b0 : ((rd (rd_L1 l0_0 x9_2) x10_3) == a2) = true := beq_iff_eq.mpr c34
                     have c34b1 : ((rd (rd_L1 l0_0 x9_2) x10_3) != a2) = false := bne_eq_false_iff_eq.mpr c34
                     clear c34
                     have H' := Aside0.mk H
                     clear H
                     have hcz35_0 : wc.cell? ⟨gb408, 0, none⟩ = some (.slice A0_0 l0_0.length c0_0) := (blk_cell BK408.out 0).trans rfl
                     have hcz35_1 : wc.cell? ⟨gb408, 1, none⟩ = some (.slice A0_1 l0_1.length c0_1) := (blk_cell BK408.out 1).trans rfl
                     have hfz35_0 := blk_frozen BK408.out 0
                     have hfz35_1 := blk_frozen BK408.out 1
                     have p415 : 0 ≤ (x9_2 : Int) := D_
                     have q415 : x9_2 < (l0_0.length : Int) := D_
                     obtain ⟨ad415, A415_0, c415_0, e415, hx415_0, hl415_0, hi415_0⟩ := at_L1 HR0_0.out x9_2 p415 q415
                     cases e415
                     replace hx415_0 := (HB.out.cell (World.block_lt_of_cell? w _ hx415_0)).trans hx415_0
                     have HR415_0 := Aside0.mk hi415_0
                     have HC415_0 := Aside0.mk hl415_0
                     clear hi415_0 hl415_0
                     replace p415 := eq_true p415
                     replace q415 := eq_true q415
                     have p416 : 0 ≤ (x10_3 : Int) := D_
                     have q416 : x10_3 < ((rd_L1 l0_0 x9_2).length : Int) := D_
                     obtain ⟨ad416, e416, hx416_0⟩ := Kd.at_int HR415_0.out x10_3 p416 q416
                     cases e416
                     replace hx416_0 := (HB.out.cell (World.block_lt_of_cell? w _ hx416_0)).trans hx416_0
                     replace p416 := eq_true p416
                     replace q416 := eq_true q416
                     go_wp2
                     (try simp only [← hl7_3])
                     go_roundg kj21
                     case measure => have := HK1.out; have := HK2.out; have := HK3.out; have := HJ21.out; omega
                     case rel => exact ⟨(x7_3), (wrap64 (x10_3 + 1)), (by first | rfl | (simp; done) | (simp [*]; done)), H', ⟨by have := HK1.out; have := HK2.out; have := HK3.out; have := HJ21.out; omega⟩, ⟨by (try simp only [hl7_1]); (try simp only [hl7_2]); (try simp only [hl7_3]); exact RM_ HO_7.out⟩, ⟨by (try simp only [hl7_1]); (try simp only [hl7_2]); (try simp only [hl7_3]); exact KX_ BK408.out⟩, ⟨B1_⟩⟩
                    rw [if_neg c34] at H
                    have c34b0 : ((rd (rd_L1 l0_0 x9_2) x10_3) == a2) = false := beq_eq_false_iff_ne.mpr c34
                    have c34b1 : ((rd (rd_L1 l0_0 x9_2) x10_3) != a2) = true := bne_iff_ne.mpr c34
                    by_cases c36 : 0 ≤ (rd (rd_L1 l0_0 x9_2) x10_3)
                    ·rw [if_pos c36] at H
                     have c36b0 : decide (0 ≤ (rd (rd_L1 l0_0 x9_2) x10_3)) = true := decide_eq_true c36
                     clear c36
                     by_cases c37 : (rd (rd_L1 l0_0 x9_2) x10_3) < (x7_3.length : Int)
                     ·rw [if_pos c37] at H
                      have c37b0 : decide ((rd (rd_L1 l0_0 x9_2) x10_3) < (x7_3.length : Int)) = true := decide_eq_true c37
                      clear c37
                      obtain ⟨y419, hy419⟩ : ∃ y_ : List Bool, y_ = (x7_3.set ((rd (rd_L1 l0_0 x9_2) x10_3) : Int).toNat true) := ⟨_, rfl⟩
                      replace H : (lockstepref06_Reach.l2 kj21 a2 y419 x8_1 x9_2 (wrap64 (x10_3 + 1)) l0_0 l0_1) = some r := by first | (rw [hy419]; with_reducible exact H) | (have H2_ := (Option.bind_some _ _).symm.trans H; rw [hy419]; with_reducible exact H2_) | (have H2_ := (Option.bind_some _ _).symm.trans H; with_reducible exact H2_) | with_reducible exact H | (rw [hy419]; exact H) | exact H
                      have Ny419 := Aside0.mk hy419
                      clear hy419
                      have H' := Aside0.mk H
                      clear H
                      have hcz39_0 : wc.cell? ⟨gb408, 0, none⟩ = some (.slice A0_0 l0_0.length c0_0) := (blk_cell BK408.out 0).trans rfl
                      have hcz39_1 : wc.cell? ⟨gb408, 1, none⟩ = some (.slice A0_1 l0_1.length c0_1) := (blk_cell BK408.out 1).trans rfl
                      have hfz39_0 := blk_frozen BK408.out 0
                      have hfz39_1 := blk_frozen BK408.out 1
                      have p415 : 0 ≤ (x9_2 : Int) := D_
                      have q415 : x9_2 < (l0_0.length : Int) := D_
                      obtain ⟨ad415, A415_0, c415_0, e415, hx415_0, hl415_0, hi415_0⟩ := at_L1 HR0_0.out x9_2 p415 q415
                      cases e415
                      replace hx415_0 := (HB.out.cell (World.block_lt_of_cell? w _ hx415_0)).trans hx415_0
                      have HR415_0 := Aside0.mk hi415_0
                      have HC415_0 := Aside0.mk hl415_0
                      clear hi415_0 hl415_0
                      replace p415 := eq_true p415
                      replace q415 := eq_true q415
                      have p416 : 0 ≤ (x10_3 : Int) := D_
                      have q416 : x10_3 < ((rd_L1 l0_0 x9_2).length : Int) := D_
                      obtain ⟨ad416, e416, hx416_0⟩ := Kd.at_int HR415_0.out x10_3 p416 q416
                      cases e416
                      replace hx416_0 := (HB.out.cell (World.block_lt_of_cell? w _ hx416_0)).trans hx416_0
                      replace p416 := eq_true p416
                      replace q416 := eq_true q416
                      have p417 : 0 ≤ (x9_2 : Int) := D_
                      have q417 : x9_2 < (l0_0.length : Int) := D_
                      obtain ⟨ad417, A417_0, c417_0, e417, hx417_0, hl417_0, hi417_0⟩ := at_L1 HR0_0.out x9_2 p417 q417
                      obtain rfl : ad415 = ad417 := (by injection e417)
                      replace hx417_0 := (HB.out.cell (World.block_lt_of_cell? w _ hx417_0)).trans hx417_0
                      have HR417_0 := Aside0.mk hi417_0
                      have HC417_0 := Aside0.mk hl417_0
                      clear hi417_0 hl417_0
                      replace p417 := eq_true p417
                      replace q417 := eq_true q417
                      have ea_ := Option.some.inj (hx415_0.symm.trans hx417_0)
                      injection ea_ with ea_ en_ ec_
                      subst ea_
                      subst ec_
                      clear en_
                      have p418 : 0 ≤ (x10_3 : Int) := D_
                      have q418 : x10_3 < ((rd_L1 l0_0 x9_2).length : Int) := D_
                      obtain ⟨ad418, e418, hx418_0⟩ := Kd.at_int HR417_0.out x10_3 p418 q418
                      cases e418
                      replace hx418_0 := (HB.out.cell (World.block_lt_of_cell? w _ hx418_0)).trans hx418_0
                      replace p418 := eq_true p418
                      replace q418 := eq_true q418
                      have p38 : 0 ≤ ((rd (rd_L1 l0_0 x9_2) x10_3) : Int) := D_
                      have q38 : ((rd (rd_L1 l0_0 x9_2) x10_3) : Int) < ((x7_3.length : Int) : Int) := D_
                      obtain ⟨hx38_0, hf38_0⟩ := Kd.R_celln false HO_7.out ((rd (rd_L1 l0_0 x9_2) x10_3) : Int) p38 q38
                      replace p38 := eq_true p38
                      replace q38 := eq_true q38
                      have HP40 := Kd.R_putg HO_7.out ((rd (rd_L1 l0_0 x9_2) x10_3) : Int) true
                      go_wp2_with (first | ((with_reducible refine gate_store (t := 4) (p := 69) rfl ?_); refine store_event (t := 4) (p := 69) (v := ?vo_w41) (w1 := (wc.setCell ⟨go13, ((rd (rd_L1 l0_0 x9_2) x10_3) : Int).toNat, none⟩ (.bool true))) ?hg ?ho ?hn ?hr ?_; (case ho => rfl); (case hg => rfl); (case hn => rfl); (case hr => first | (go_simp; done) | (go_simp; rfl)); intro w41 hw; have hg : wc.grownBy w41 (some go13) := (by rw [hw]; exact HP40.2); have hp_ : Kd.R Kd.bool 4 w41 w.heap.size (fun _ => True) (.slice (some ⟨go13, 0, none⟩) x7_3.length co13) y419 := (by rw [hw, Ny419.out]; exact HP40.1); clear HP40; replace BK408 := A_ (blk_grown (g := gb408) (o := .cells #[.slice (some ad415) l0_0.length c0_0, .slice A0_1 l0_1.length c0_1] 26 (0, 0)) (by exact KX_ BK408.out) hg (Kd.R_ne HO_7.out BK408.out (by decide))); replace HO_7 := A_ (hp_); replace HB := A_ ((by rw [hw]; exact below_set (HB.out) GB13.out : Below w.heap.size w w41)); clear hg hw hp_))
                      (try simp only [← hl7_3])
                      go_roundg kj21
                      case measure => have := HK1.out; have := HK2.out; have := HK3.out; have := HJ21.out; omega
                      case rel => exact ⟨(y419), (wrap64 (x10_3 + 1)), (by first | rfl | (simp; done) | (simp [*]; done)), H', ⟨by have := HK1.out; have := HK2.out; have := HK3.out; have := HJ21.out; omega⟩, ⟨by (try simp only [hl7_1]); (try simp only [hl7_2]); (try simp only [hl7_3]); exact RM_ HO_7.out⟩, ⟨by (try simp only [hl7_1]); (try simp only [hl7_2]); (try simp only [hl7_3]); exact KX_ BK408.out⟩, ⟨B1_⟩⟩
                     rw [if_neg c37] at H
                     exact absurd H (by simp)
                    rw [if_neg c36] at H
                    exact absurd H (by simp)
                   rw [if_neg c33] at H
                   exact absurd H (by simp)
                  rw [if_neg c32] at H
                  exact absurd H (by simp)
                 rw [if_neg c31] at H
                 exact absurd H (by simp)
                rw [if_neg c30] at H
                exact absurd H (by simp)
               replace c29 := Bool.eq_false_iff.mpr c29
               subst c29
               have H1 : (lockstepref06_Reach.l1 kj21 a2 x7_3 x8_1 (wrap64 (x9_2 + 1)) l0_0 l0_1) = some r := by rw [if_neg (show ¬ (false = true) by decide)] at H; exact H
               clear H
               have H := H1
               clear H1
               have H' := Aside0.mk H
               clear H
               go_wp2
               (try simp only [← hl7_2, ← hl7_3])
               go_roundg kj21
               case measure => have := HK1.out; have := HK2.out; have := HK3.out; have := HJ21.out; omega
               case rel => exact ⟨(x7_3), (wrap64 (x9_2 + 1)), (by first | rfl | (simp; done) | (simp [*]; done)), H', ⟨by have := HK1.out; have := HK2.out; have := HK3.out; have := HJ21.out; omega⟩, ⟨by (try simp only [hl7_1]); (try simp only [hl7_2]); (try simp only [hl7_3]); exact RM_ HO_7.out⟩, ⟨by (try simp only [hl7_1]); (try simp only [hl7_2]); (try simp only [hl7_3]); exact KX_ BK408.out⟩, ⟨B1_⟩⟩
          rw [if_neg c21] at H
          have c21b0 : decide (x9_2 < (x7_2.length : Int)) = false := decide_eq_false c21
          clear c21
          have H' := Aside0.mk H
          clear H
          go_wp2
          (try simp only [← hl7_1, ← hl7_2])
          go_roundg k2
          case measure => have := HK1.out; have := HK2.out; omega
          case rel => exact ⟨(x7_2), (wrap64 (x8_1 + 1)), (by first | rfl | (simp; done) | (simp [*]; done)), H', ⟨by have := HK1.out; have := HK2.out; omega⟩, ⟨by (try simp only [hl7_1]); (try simp only [hl7_2]); exact RM_ HO_7.out⟩, ⟨by (try simp only [hl7_1]); (try simp only [hl7_2]); exact KX_ BK408.out⟩, ⟨B1_⟩⟩
       rw [if_neg c20] at H
       have c20b0 : decide (x8_1 < (x7_1.length : Int)) = false := decide_eq_false c20
       clear c20
       obtain rfl := Option.some.inj H
       go_wp2
       go_ret
       exact ⟨_, by first | rfl | (simp [errW_none, errW_some] <;> rfl) | (simp [*, errW_none, errW_some] <;> rfl), by exact RX_ HO_7.out, B1_⟩
    rw [if_neg c12] at H
    exact absurd H (by simp)
   rw [if_neg c11] at H
   exact absurd H (by simp)
  rw [if_neg c5] at H
  exact absurd H (by simp)
 rw [if_neg c4] at H
 exact absurd H (by simp)


/-! ### locksteplaw09_DepFree: function 4 -/
mutual
def locksteplaw09_DepFree.j0 : Nat → List (List Int) → Bool → Option (Bool)
 | 0, _, _ => none
 | k + 1, x0, x18 => if x18 = true then (some true) else ((graph_Make.f k x0).bind fun bt581 => (if bt581.2.2 = 0 then ((lockstepref06_Reach.f k bt581.1 bt581.2.1 0 (-1)).bind fun t589 => (locksteplaw09_DepFree.l0 k x0 t589 0 bt581.1 bt581.2.1)) else (some true)))
def locksteplaw09_DepFree.l0 : Nat → List (List Int) → List Bool → Int → List (List Int) → List (List Int) → Option (Bool)
 | 0, _, _, _, _, _ => none
 | k + 1, x0, x5, x6, x589000, x589001 => if x6 < (x0.length : Int) then (if 0 ≤ x6 then (if x6 < (x5.length : Int) then (if rdOf false x5 x6 = true then ((dep_Of.f k x589000 x589001 x6).bind fun t593 => (locksteplaw09_DepFree.j2 k x0 x5 x6 (decide ((t593.length : Int) > 0)) x589000 x589001)) else (locksteplaw09_DepFree.j2 k x0 x5 x6 true x589000 x589001)) else (none)) else (none)) else (some true)
def locksteplaw09_DepFree.j2 : Nat → List (List Int) → List Bool → Int → Bool → List (List Int) → List (List Int) → Option (Bool)
 | 0, _, _, _, _, _, _ => none
 | k + 1, x0, x5, x6, x45, x589000, x589001 => if x45 = true then (locksteplaw09_DepFree.l0 k x0 x5 (wrap64 (x6 + 1)) x589000 x589001) else ((lockstepref06_Reach.f k x589000 x589001 0 x6).bind fun t596 => (locksteplaw09_DepFree.l1 k x0 x5 x6 t596 0 x589000 x589001))
def locksteplaw09_DepFree.l1 : Nat → List (List Int) → List Bool → Int → List Bool → Int → List (List Int) → List (List Int) → Option (Bool)
 | 0, _, _, _, _, _, _, _ => none
 | k + 1, x0, x5, x6, x7, x8, x589000, x589001 => if x8 < (x0.length : Int) then (if 0 ≤ x8 then (if x8 < (x7.length : Int) then (if rdOf false x7 x8 = true then (if ((rd_L1 x0 x8).length : Int) = 0 then (some false) else (locksteplaw09_DepFree.l1 k x0 x5 x6 x7 (wrap64 (x8 + 1)) x589000 x589001)) else (locksteplaw09_DepFree.l1 k x0 x5 x6 x7 (wrap64 (x8 + 1)) x589000 x589001)) else (none)) else (none)) else (locksteplaw09_DepFree.l0 k x0 x5 (wrap64 (x6 + 1)) x589000 x589001)
end
def locksteplaw09_DepFree.f (k : Nat) (l0 : List (List Int)) : Option (Bool) := (locksteplaw09_awake.f k).bind fun t579 => (if t579 = true then (if (l0.length : Int) > 12 then (locksteplaw09_DepFree.j0 k l0 true) else ((lockstepref06_Small.f k l0).bind fun t580 => (locksteplaw09_DepFree.j0 k l0 (!t580)))) else (some false))
theorem locksteplaw09_DepFree.mono_l : ∀ k, (∀ y0 y1, LeO (locksteplaw09_DepFree.j0 k y0 y1) (locksteplaw09_DepFree.j0 (k + 1) y0 y1)) ∧ (∀ y0 y1 y2 y3 y4, LeO (locksteplaw09_DepFree.l0 k y0 y1 y2 y3 y4) (locksteplaw09_DepFree.l0 (k + 1) y0 y1 y2 y3 y4)) ∧ (∀ y0 y1 y2 y3 y4 y5, LeO (locksteplaw09_DepFree.j2 k y0 y1 y2 y3 y4 y5) (locksteplaw09_DepFree.j2 (k + 1) y0 y1 y2 y3 y4 y5)) ∧ (∀ y0 y1 y2 y3 y4 y5 y6, LeO (locksteplaw09_DepFree.l1 k y0 y1 y2 y3 y4 y5 y6) (locksteplaw09_DepFree.l1 (k + 1) y0 y1 y2 y3 y4 y5 y6))
 | 0 => ⟨fun _ _ r h => by simp [locksteplaw09_DepFree.j0] at h, fun _ _ _ _ _ r h => by simp [locksteplaw09_DepFree.l0] at h, fun _ _ _ _ _ _ r h => by simp [locksteplaw09_DepFree.j2] at h, fun _ _ _ _ _ _ _ r h => by simp [locksteplaw09_DepFree.l1] at h⟩
 | k + 1 => by
  obtain ⟨ih0, ih1, ih2, ih3⟩ := locksteplaw09_DepFree.mono_l k
  refine ⟨?_, ?_, ?_, ?_⟩
  ·intro y0 y1
   unfold locksteplaw09_DepFree.j0
   repeat' (with_reducible first | exact ih0 _ _ | exact ih1 _ _ _ _ _ | exact ih2 _ _ _ _ _ _ | exact ih3 _ _ _ _ _ _ _ | exact dep_Of.mono _ _ _ _ | exact graph_Make.mono _ _ | exact locksteplaw09_awake.mono _ | exact lockstepref06_Reach.mono _ _ _ _ _ | exact lockstepref06_Small.mono _ _ | exact LeO.refl _ | exact LeO.none _ | refine LeO.ite ?_ ?_ | refine LeO.bind ?_ (fun _ => ?_))
  ·intro y0 y1 y2 y3 y4
   unfold locksteplaw09_DepFree.l0
   repeat' (with_reducible first | exact ih0 _ _ | exact ih1 _ _ _ _ _ | exact ih2 _ _ _ _ _ _ | exact ih3 _ _ _ _ _ _ _ | exact dep_Of.mono _ _ _ _ | exact graph_Make.mono _ _ | exact locksteplaw09_awake.mono _ | exact lockstepref06_Reach.mono _ _ _ _ _ | exact lockstepref06_Small.mono _ _ | exact LeO.refl _ | exact LeO.none _ | refine LeO.ite ?_ ?_ | refine LeO.bind ?_ (fun _ => ?_))
  ·intro y0 y1 y2 y3 y4 y5
   unfold locksteplaw09_DepFree.j2
   repeat' (with_reducible first | exact ih0 _ _ | exact ih1 _ _ _ _ _ | exact ih2 _ _ _ _ _ _ | exact ih3 _ _ _ _ _ _ _ | exact dep_Of.mono _ _ _ _ | exact graph_Make.mono _ _ | exact locksteplaw09_awake.mono _ | exact lockstepref06_Reach.mono _ _ _ _ _ | exact lockstepref06_Small.mono _ _ | exact LeO.refl _ | exact LeO.none _ | refine LeO.ite ?_ ?_ | refine LeO.bind ?_ (fun _ => ?_))
  ·intro y0 y1 y2 y3 y4 y5 y6
   unfold locksteplaw09_DepFree.l1
   repeat' (with_reducible first | exact ih0 _ _ | exact ih1 _ _ _ _ _ | exact ih2 _ _ _ _ _ _ | exact ih3 _ _ _ _ _ _ _ | exact dep_Of.mono _ _ _ _ | exact graph_Make.mono _ _ | exact locksteplaw09_awake.mono _ | exact lockstepref06_Reach.mono _ _ _ _ _ | exact lockstepref06_Small.mono _ _ | exact LeO.refl _ | exact LeO.none _ | refine LeO.ite ?_ ?_ | refine LeO.bind ?_ (fun _ => ?_))
theorem locksteplaw09_DepFree.mono : ∀ a0 k, LeO (locksteplaw09_DepFree.f k a0) (locksteplaw09_DepFree.f (k + 1) a0) := by
 intro a0 k
 obtain ⟨ih0, ih1, ih2, ih3⟩ := locksteplaw09_DepFree.mono_l k
 unfold locksteplaw09_DepFree.f
 repeat' (with_reducible first | exact ih0 _ _ | exact ih1 _ _ _ _ _ | exact ih2 _ _ _ _ _ _ | exact ih3 _ _ _ _ _ _ _ | exact dep_Of.mono _ _ _ _ | exact graph_Make.mono _ _ | exact locksteplaw09_awake.mono _ | exact lockstepref06_Reach.mono _ _ _ _ _ | exact lockstepref06_Small.mono _ _ | exact LeO.refl _ | exact LeO.none _ | refine LeO.ite ?_ ?_ | refine LeO.bind ?_ (fun _ => ?_))
set_option maxHeartbeats 8000000 in
set_option maxRecDepth 100000 in
theorem locksteplaw09_DepFree.calls (k : Nat) (A0 : Option Addr) (c0 : Nat) (l0 : List (List Int)) (w : World) (hr0 : Kd.C (Kd.slice 3 (Kd.int .i64)) w A0 l0.length l0) (hc0 : l0.length ≤ c0) (h : locksteplaw09_DepFree.f k l0 = some true) :
 Calls Try.prog 4 #[.slice A0 l0.length c0] w fun e w' => e = .returned (.bool true) ∧ Below w.heap.size w w' := by
 have hu26 := Try.underlying26
 have HR0 := Aside0.mk hr0
 have HC0 := Aside0.mk hc0
 clear hr0 hc0
 have HB := A_ (Below.refl w.heap.size w)
 have H : ((locksteplaw09_awake.f k).bind fun t579 => (if t579 = true then (if (l0.length : Int) > 12 then (locksteplaw09_DepFree.j0 k l0 true) else ((lockstepref06_Small.f k l0).bind fun t580 => (locksteplaw09_DepFree.j0 k l0 (!t580)))) else (some false))) = some true := h
 clear h
 replace H := Option.bind_eq_some_iff.mp H
 obtain ⟨t579, A20, H⟩ := H
 try dsimp only at H
 have A2 := Aside0.mk A20
 clear A20
 by_cases c3 : t579 = true
 ·subst c3
  have H1 : (if (l0.length : Int) > 12 then (locksteplaw09_DepFree.j0 k l0 true) else ((lockstepref06_Small.f k l0).bind fun t580 => (locksteplaw09_DepFree.j0 k l0 (!t580)))) = some true := by rw [if_pos rfl] at H; exact H
  clear H
  have H := H1
  clear H1
  have HC4 := Aside0.mk H
  clear H
  go_enter Try.func4, Try.ntmps4
  go_upto_region 3 with (first | ((with_reducible refine gate_callee (f := 7) rfl ?_); refine goesL_ (some 9) rfl rfl Try.func7 (by kernel_rfl) rfl #[] rfl (by (try simp only [List.map_toArray, List.map_cons, List.map_nil]); first | done | rfl | (simp only [List.length_drop, List.length_take]; rfl)) ?_; (with_reducible refine (locksteplaw09_awake.calls k   _ A2.out).mono ?_); rintro e w5 ⟨rfl, hb⟩; refine ⟨_, rfl, ?_⟩; replace HB := A_ (below_step (B_) hb); (try clear hb); (try clear hb2); (try clear hk); (try clear hi)))
  (try simp only [Act.put, List.setIfInBounds_toArray, List.set_cons_zero, List.set_cons_succ])
  go_cut [18] (fun v18 wc => ∃ (kq : Nat) (x18_3 : Bool), v18 = .bool x18_3 ∧ Aside0 (locksteplaw09_DepFree.j0 kq l0 x18_3 = some true) ∧ Aside0 (kq ≤ k) ∧ Aside0 (Below w.heap.size w wc))
  case first =>
   have H := HC4.out
   clear HC4
   by_cases c6 : (l0.length : Int) > 12
   ·rw [if_pos c6] at H
    have c6b0 : decide (12 < (l0.length : Int)) = true := decide_eq_true c6
    have c6b1 : decide (12 < l0.length) = true := decide_eq_true (by omega)
    clear c6
    (first | rw [c6b0] | (simp only [i64_w, i32_w]; rw [c6b0]) | skip)
    have H' := Aside0.mk H
    clear H
    go_wp2
    go_meet
    case rel => exact ⟨_, (true), (by first | rfl | exact congrArg (fun b => Ending.returned (Value.bool b)) HR_.out | (simp; done) | (simp [*]; done)), H', ⟨by first | omega | exact Nat.le_refl _⟩, ⟨B_⟩⟩
   rw [if_neg c6] at H
   have c6b0 : decide (12 < (l0.length : Int)) = false := decide_eq_false c6
   have c6b1 : decide (12 < l0.length) = false := decide_eq_false (by omega)
   clear c6
   (first | rw [c6b0] | (simp only [i64_w, i32_w]; rw [c6b0]) | skip)
   replace H := Option.bind_eq_some_iff.mp H
   obtain ⟨t580, A70, H⟩ := H
   try dsimp only at H
   have A7 := Aside0.mk A70
   clear A70
   have H' := Aside0.mk H
   clear H
   go_wp2_with (first | (go_at_call 8; (with_reducible refine (lockstepref06_Small.calls k _ _ l0 t580 _ ?side1 ?side2 A7.out).mono ?_); (case side1 => exact CX_ (Kd.C_below HR0.out HB.out)); (case side2 => exact HC0.out); rintro e w' ⟨rfl, ⟨nd, rfl⟩⟩))
   go_meet
   case rel => exact ⟨_, (!t580), (by first | rfl | exact congrArg (fun b => Ending.returned (Value.bool b)) HR_.out | (simp; done) | (simp [*]; done)), H', ⟨by first | omega | exact Nat.le_refl _⟩, ⟨B_⟩⟩
  case rest =>
   clear HC4
   try clear c3
   obtain ⟨kq, x18_3, rfl, HA, HJ3, HB⟩ := hcut
   cases kq with
   | zero => exact absurd HA.out (by simp [locksteplaw09_DepFree.j0])
   | succ kj3 =>
    have H := HA.out
    clear HA
    simp only [locksteplaw09_DepFree.j0] at H
    by_cases c8 : x18_3 = true
    ·subst c8
     have H1 : (some true) = some true := rfl
     clear H
     have H := H1
     clear H1
     clear H
     go_wp2
     go_ret
     exact ⟨by first | rfl | exact congrArg (fun b => Ending.returned (Value.bool b)) HR_.out | (simp [errW_none, errW_some] <;> rfl) | (simp [*, errW_none, errW_some] <;> rfl), B_⟩
    replace c8 := Bool.eq_false_iff.mpr c8
    subst c8
    have H1 : ((graph_Make.f kj3 l0).bind fun bt581 => (if bt581.2.2 = 0 then ((lockstepref06_Reach.f kj3 bt581.1 bt581.2.1 0 (-1)).bind fun t589 => (locksteplaw09_DepFree.l0 kj3 l0 t589 0 bt581.1 bt581.2.1)) else (some true))) = some true := by rw [if_neg (show ¬ (false = true) by decide)] at H; exact H
    clear H
    have H := H1
    clear H1
    replace H := Option.bind_eq_some_iff.mp H
    obtain ⟨⟨t581, t584, t587⟩, A90, H⟩ := H
    try dsimp only at H
    have A9 := Aside0.mk A90
    clear A90
    by_cases c10 : t587 = 0
    ·rw [if_pos c10] at H
     have c10b0 : (t587 == 0) = true := beq_iff_eq.mpr c10
     have c10b1 : (t587 != 0) = false := bne_eq_false_iff_eq.mpr c10
     clear c10
     replace H := Option.bind_eq_some_iff.mp H
     obtain ⟨t589, A110, H⟩ := H
     try dsimp only at H
     have A11 := Aside0.mk A110
     clear A110
     have H' := Aside0.mk H
     clear H
     go_wp2_with (first | ((with_reducible refine gate_callee (f := 15) rfl ?_); refine goesL_ (some 21) rfl rfl Try.func15 (by kernel_rfl) rfl #[.slice A0 l0.length c0] rfl (by (try simp only [List.map_toArray, List.map_cons, List.map_nil]); first | done | rfl | (simp only [List.length_drop, List.length_take]; rfl)) ?_; (with_reducible refine (graph_Make.calls kj3 _ _ l0 t581 t584 t587 _ ?side1 ?side2 A9.out).mono ?_); (case side1 => exact CX_ (Kd.C_below HR0.out HB.out)); (case side2 => exact HC0.out); rintro e w12 ⟨v582, v585, rfl, ho0, ho1, hb⟩; refine ⟨_, rfl, ?_⟩; have HO583 := A_ (Kd.S_lower ho0 (below_size (B_))); have HO586 := A_ (Kd.S_lower ho1 (below_size (B_))); replace HB := A_ (below_step (B_) hb); (try clear hb); (try clear hb2); (try clear hk); (try clear hi); (try clear ho0); (try clear ho1)) | ((with_reducible refine gate_dst (N := 3) rfl ?_); (try (refine gate_guard (by rfl) ?_; dsimp only)); refine box_event ?hg (N := 3) ?hd (cs := #[.slice none 0 0, .slice none 0 0]) (t := 26) ?hr ?_; (case hd => rfl); (case hg => rfl); (case hr => first | (go_simp; done) | (go_simp; rfl)); intro gb588 hg w13 hbox hb; replace HO583 := A_ (Kd.S_below (by exact SX_ HO583.out) hb); replace HO586 := A_ (Kd.S_below (by exact SX_ HO586.out) hb); have BK588 := A_ (hbox); have GW588 := A_ ((by rw [hg]; exact (below_size (B_)) : w.heap.size ≤ gb588)); have GE588 := A_ ((by rw [hg]; exact (below_size (B_)) : w.heap.size ≤ gb588)); replace HB := A_ (below_step (B_) hb); clear hb hbox hg; obtain ⟨Ao14, co14, eo14⟩ := Kd.S_slice HO583.out; subst eo14; have hcz15_0 : w13.cell? ⟨gb588, 0, none⟩ = some (.slice none 0 0) := (blk_cell BK588.out 0).trans rfl; have hcz15_1 : w13.cell? ⟨gb588, 1, none⟩ = some (.slice none 0 0) := (blk_cell BK588.out 1).trans rfl; have hfz15_0 := blk_frozen BK588.out 0; have hfz15_1 := blk_frozen BK588.out 1; obtain ⟨Ao16, co16, eo16⟩ := Kd.S_slice HO586.out; subst eo16) | ((with_reducible refine gate_callee (f := 17) rfl ?_); refine goesL_ (some 27) rfl rfl Try.func17 (by kernel_rfl) rfl #[.agg #[.slice Ao14 t581.length co14, .slice Ao16 t584.length co16], .int .i64 0, .int .i64 (-1)] rfl (by (try simp only [List.map_toArray, List.map_cons, List.map_nil]); first | done | rfl | (simp only [List.length_drop, List.length_take]; rfl)) ?_; (with_reducible refine (lockstepref06_Reach.calls kj3 _ _ t581 _ _ t584 0 (-1) t589 _ ?side1 ?side2 ?side3 ?side4 A11.out).mono ?_); (case side1 => refine (Kd.S_reads' (e := 31) (base := w.heap.size) (ok := fun k_ => some k_ ≠ (.slice Ao16 t584.length co16 : Value).ownBlock) (n := t581.length) (c := co14) ?_).2.2; exact (by (with_reducible repeat (first | apply Kd.S_alloc | apply Kd.S_drewN | apply Kd.S_drew)); exact (Kd.S_mono (Kd.S_far (p := ⟨gb588, 1, none⟩) (Kd.S_far (p := ⟨gb588, 0, none⟩) (Kd.S_types HO583.out BK588.out (by decide)) (fun _ hk => hk.2) (.slice Ao14 t581.length co14)) (fun _ hk => hk.2) (.slice Ao16 t584.length co16)) (fun _ h_ => h_.1)))); (case side2 => exact (Kd.S_reads' HO583.out).2.1); (case side3 => refine (Kd.S_reads' (e := 31) (base := w.heap.size) (ok := fun k_ => some k_ ≠ (.slice Ao14 t581.length co14 : Value).ownBlock) (n := t584.length) (c := co16) ?_).2.2; exact (by (with_reducible repeat (first | apply Kd.S_alloc | apply Kd.S_drewN | apply Kd.S_drew)); exact (Kd.S_mono (Kd.S_far (p := ⟨gb588, 1, none⟩) (Kd.S_far (p := ⟨gb588, 0, none⟩) (Kd.S_types HO586.out BK588.out (by decide)) (fun _ hk => hk.2) (.slice Ao14 t581.length co14)) (fun _ hk => hk.2) (.slice Ao16 t584.length co16)) (fun _ h_ => h_.1)))); (case side4 => exact (Kd.S_reads' HO586.out).2.1); rintro e w17 ⟨v590, rfl, ho0, hb⟩; refine ⟨_, rfl, ?_⟩; replace HO583 := A_ (Kd.S_below (by (with_reducible repeat (first | apply Kd.S_alloc | apply Kd.S_drewN | apply Kd.S_drew)); exact (Kd.S_mono (Kd.S_far (p := ⟨gb588, 1, none⟩) (Kd.S_far (p := ⟨gb588, 0, none⟩) (Kd.S_types HO583.out BK588.out (by decide)) (fun _ hk => hk.2) (.slice Ao14 t581.length co14)) (fun _ hk => hk.2) (.slice Ao16 t584.length co16)) (fun _ h_ => h_.1))) hb); replace HO586 := A_ (Kd.S_below (by (with_reducible repeat (first | apply Kd.S_alloc | apply Kd.S_drewN | apply Kd.S_drew)); exact (Kd.S_mono (Kd.S_far (p := ⟨gb588, 1, none⟩) (Kd.S_far (p := ⟨gb588, 0, none⟩) (Kd.S_types HO586.out BK588.out (by decide)) (fun _ hk => hk.2) (.slice Ao14 t581.length co14)) (fun _ hk => hk.2) (.slice Ao16 t584.length co16)) (fun _ h_ => h_.1))) hb); have HO591 := A_ (Kd.R_lower ho0 (below_size (B1_))); replace BK588 := A_ (blk_below (g := gb588) (o := .cells #[.slice Ao14 t581.length co14, .slice Ao16 t584.length co16] 26 (0, 0)) (by (with_reducible repeat (first | refine blk_drewN ?_ _ | refine blk_drew ?_ | refine blk_alloc ?_ _)); refine blk_put (cs := #[.slice Ao14 t581.length co14, .slice none 0 0]) ?_ 1 _ rfl; (with_reducible repeat (first | refine blk_drewN ?_ _ | refine blk_drew ?_ | refine blk_alloc ?_ _)); refine blk_put (cs := #[.slice none 0 0, .slice none 0 0]) ?_ 0 _ rfl; exact KX_ BK588.out) hb); replace HB := A_ (below_step (B1_) hb); (try clear hb); (try clear hb2); (try clear hk); (try clear hi); (try clear ho0)))
     go_loopg [6] kj3 (fun kq v6 w' => ∃ (x6_2 : Int), v6 = .int .i64 x6_2 ∧ Aside0 (locksteplaw09_DepFree.l0 kq l0 t589 x6_2 t581 t584 = some true) ∧ Aside0 (kq ≤ kj3) ∧ Aside0 (Kd.R Kd.bool 4 w' w.heap.size (fun _ => True) v590 t589) ∧ Aside0 (Kd.S (Kd.slice 3 (Kd.int .i64)) 31 w' w.heap.size (fun k_ => some k_ ≠ ((.slice Ao16 t584.length co16) : Value).ownBlock) (.slice Ao14 t581.length co14) t581) ∧ Aside0 (Kd.S (Kd.slice 3 (Kd.int .i64)) 31 w' w.heap.size (fun k_ => some k_ ≠ ((.slice Ao14 t581.length co14) : Value).ownBlock) (.slice Ao16 t584.length co16) t584) ∧ Aside0 (w'.heap[gb588]? = some (.cells #[(.slice Ao14 t581.length co14), (.slice Ao16 t584.length co16)] 26 (0, 0))) ∧ Aside0 (Below w.heap.size w w'))
     case atStart => exact ⟨(0), (by first | rfl | exact congrArg (fun b => Ending.returned (Value.bool b)) HR_.out | (simp; done) | (simp [*]; done)), H', ⟨Nat.le_refl _⟩, ⟨by exact RM_ HO591.out⟩, ⟨by exact SM_ HO583.out⟩, ⟨by exact SM_ HO586.out⟩, ⟨by exact KX_ BK588.out⟩, ⟨B1_⟩⟩
     case round =>
      clear H'
      try clear c8
      try clear c10b0
      try clear c10b1
      try clear hcz15_0
      try clear hcz15_1
      try clear hfz15_0
      try clear hfz15_1
      obtain ⟨x6_2, rfl, HA, HK2, HO_5, HO_589000, HO_589001, BK588, HB⟩ := hrel
      cases gk with
      | zero => exact absurd HA.out (by simp [locksteplaw09_DepFree.l0])
      | succ k2 =>
       have H := HA.out
       clear HA
       simp only [locksteplaw09_DepFree.l0] at H
       by_cases c18 : x6_2 < (l0.length : Int)
       ·rw [if_pos c18] at H
        have c18b0 : decide (x6_2 < (l0.length : Int)) = true := decide_eq_true c18
        clear c18
        have HC19 := Aside0.mk H
        clear H
        go_upto_region 12 with (fail)
        go_cut [45] (fun v45 wc => ∃ (kq : Nat) (x45_18 : Bool), v45 = .bool x45_18 ∧ Aside0 (locksteplaw09_DepFree.j2 kq l0 t589 x6_2 x45_18 t581 t584 = some true) ∧ Aside0 (kq ≤ k2) ∧ Aside0 (Kd.R Kd.bool 4 wc w.heap.size (fun _ => True) v590 t589) ∧ Aside0 (Kd.S (Kd.slice 3 (Kd.int .i64)) 31 wc w.heap.size (fun k_ => some k_ ≠ ((.slice Ao16 t584.length co16) : Value).ownBlock) (.slice Ao14 t581.length co14) t581) ∧ Aside0 (Kd.S (Kd.slice 3 (Kd.int .i64)) 31 wc w.heap.size (fun k_ => some k_ ≠ ((.slice Ao14 t581.length co14) : Value).ownBlock) (.slice Ao16 t584.length co16) t584) ∧ Aside0 (wc.heap[gb588]? = some (.cells #[(.slice Ao14 t581.length co14), (.slice Ao16 t584.length co16)] 26 (0, 0))) ∧ Aside0 (Below w.heap.size w wc))
        case first =>
         have H := HC19.out
         clear HC19
         by_cases c20 : 0 ≤ x6_2
         ·rw [if_pos c20] at H
          have c20b0 : decide (0 ≤ x6_2) = true := decide_eq_true c20
          clear c20
          (first | rw [c20b0] | (simp only [i64_w, i32_w]; rw [c20b0]) | skip)
          by_cases c21 : x6_2 < (t589.length : Int)
          ·rw [if_pos c21] at H
           have c21b0 : decide (x6_2 < (t589.length : Int)) = true := decide_eq_true c21
           clear c21
           obtain ⟨bq22, hbq22⟩ : ∃ b_ : Bool, b_ = (rdOf false t589 x6_2) := ⟨_, rfl⟩
           replace H : (if bq22 = true then ((dep_Of.f k2 t581 t584 x6_2).bind fun t593 => (locksteplaw09_DepFree.j2 k2 l0 t589 x6_2 (decide ((t593.length : Int) > 0)) t581 t584)) else (locksteplaw09_DepFree.j2 k2 l0 t589 x6_2 true t581 t584)) = some true := by rw [← hbq22] at H; exact H
           have Nbq22 := Aside0.mk hbq22
           clear hbq22
           by_cases c23 : bq22 = true
           ·subst c23
            have H1 : ((dep_Of.f k2 t581 t584 x6_2).bind fun t593 => (locksteplaw09_DepFree.j2 k2 l0 t589 x6_2 (decide ((t593.length : Int) > 0)) t581 t584)) = some true := by rw [if_pos rfl] at H; exact H
            clear H
            have H := H1
            clear H1
            replace H := Option.bind_eq_some_iff.mp H
            obtain ⟨t593, A240, H⟩ := H
            try dsimp only at H
            have A24 := Aside0.mk A240
            clear A240
            have H' := Aside0.mk H
            clear H
            obtain ⟨Ao25, co25, eo25⟩ := Kd.R_slice HO_5.out
            subst eo25
            have p592 : 0 ≤ (x6_2 : Int) := D_
            have q592 : x6_2 < (t589.length : Int) := D_
            obtain ⟨ad592, e592, hx592_0⟩ := Kd.at_bool (Kd.R_reads' HO_5.out).2.2 x6_2 p592 q592
            (try rw [← Nbq22.out] at hx592_0)
            cases e592
            replace p592 := eq_true p592
            replace q592 := eq_true q592
            have hcz26_0 : wr.cell? ⟨gb588, 0, none⟩ = some (.slice Ao14 t581.length co14) := (blk_cell BK588.out 0).trans rfl
            have hcz26_1 : wr.cell? ⟨gb588, 1, none⟩ = some (.slice Ao16 t584.length co16) := (blk_cell BK588.out 1).trans rfl
            have hfz26_0 := blk_frozen BK588.out 0
            have hfz26_1 := blk_frozen BK588.out 1
            go_wp2_with (first | (go_at_call 16; (with_reducible refine (dep_Of.calls k2 _ _ t581 _ _ t584 x6_2 t593 _ ?side1 ?side2 ?side3 ?side4 A24.out).mono ?_); (case side1 => repeat (first | exact (Kd.S_reads' HO_589000.out).2.2 | (with_reducible refine Kd.C_alloc ?_ _) | (with_reducible refine Kd.C_drewN ?_ _) | (with_reducible refine Kd.C_drew ?_))); (case side2 => exact (Kd.S_reads' HO_589000.out).2.1); (case side3 => repeat (first | exact (Kd.S_reads' HO_589001.out).2.2 | (with_reducible refine Kd.C_alloc ?_ _) | (with_reducible refine Kd.C_drewN ?_ _) | (with_reducible refine Kd.C_drew ?_))); (case side4 => exact (Kd.S_reads' HO_589001.out).2.1); rintro e w27 ⟨v594, rfl, ho0, hb⟩; replace HO_5 := A_ (Kd.R_below (by exact RX_ HO_5.out) hb); replace HO_589000 := A_ (Kd.S_below (by exact SX_ HO_589000.out) hb); replace HO_589001 := A_ (Kd.S_below (by exact SX_ HO_589001.out) hb); have HO595 := A_ (Kd.R_lower ho0 (below_size (B1_))); replace BK588 := A_ (blk_below (g := gb588) (o := .cells #[.slice Ao14 t581.length co14, .slice Ao16 t584.length co16] 26 (0, 0)) (by exact KX_ BK588.out) hb); replace HB := A_ (below_step (B1_) hb); (try clear hb); (try clear hb2); (try clear hk); (try clear hi); (try clear ho0); obtain ⟨Ao28, co28, eo28⟩ := Kd.R_slice HO595.out; subst eo28))
            go_meet
            case rel => exact ⟨_, (decide ((t593.length : Int) > 0)), (by first | rfl | exact congrArg (fun b => Ending.returned (Value.bool b)) HR_.out | (simp; done) | (simp [*]; done)), H', ⟨by have := HJ3.out; have := HK2.out; first | omega | exact Nat.le_refl _⟩, ⟨by exact RM_ HO_5.out⟩, ⟨by exact SM_ HO_589000.out⟩, ⟨by exact SM_ HO_589001.out⟩, ⟨by exact KX_ BK588.out⟩, ⟨B1_⟩⟩
           replace c23 := Bool.eq_false_iff.mpr c23
           subst c23
           have H1 : (locksteplaw09_DepFree.j2 k2 l0 t589 x6_2 true t581 t584) = some true := by rw [if_neg (show ¬ (false = true) by decide)] at H; exact H
           clear H
           have H := H1
           clear H1
           have H' := Aside0.mk H
           clear H
           obtain ⟨Ao29, co29, eo29⟩ := Kd.R_slice HO_5.out
           subst eo29
           have p592 : 0 ≤ (x6_2 : Int) := D_
           have q592 : x6_2 < (t589.length : Int) := D_
           obtain ⟨ad592, e592, hx592_0⟩ := Kd.at_bool (Kd.R_reads' HO_5.out).2.2 x6_2 p592 q592
           (try rw [← Nbq22.out] at hx592_0)
           cases e592
           replace p592 := eq_true p592
           replace q592 := eq_true q592
           go_wp2
           go_meet
           case rel => exact ⟨_, (true), (by first | rfl | exact congrArg (fun b => Ending.returned (Value.bool b)) HR_.out | (simp; done) | (simp [*]; done)), H', ⟨by have := HJ3.out; have := HK2.out; first | omega | exact Nat.le_refl _⟩, ⟨by exact RM_ HO_5.out⟩, ⟨by exact SM_ HO_589000.out⟩, ⟨by exact SM_ HO_589001.out⟩, ⟨by exact KX_ BK588.out⟩, ⟨B1_⟩⟩
          rw [if_neg c21] at H
          exact absurd H (by simp)
         rw [if_neg c20] at H
         exact absurd H (by simp)
        case rest =>
         clear HC19
         try clear c18b0
         obtain ⟨kq, x45_18, rfl, HA, HJ18, HO_5, HO_589000, HO_589001, BK588, HB⟩ := hcut
         cases kq with
         | zero => exact absurd HA.out (by simp [locksteplaw09_DepFree.j2])
         | succ kj18 =>
          have H := HA.out
          clear HA
          simp only [locksteplaw09_DepFree.j2] at H
          by_cases c30 : x45_18 = true
          ·subst c30
           have H1 : (locksteplaw09_DepFree.l0 kj18 l0 t589 (wrap64 (x6_2 + 1)) t581 t584) = some true := by rw [if_pos rfl] at H; exact H
           clear H
           have H := H1
           clear H1
           have H' := Aside0.mk H
           clear H
           go_wp2
           go_roundg kj18
           case measure => have := HJ3.out; have := HK2.out; have := HJ18.out; omega
           case rel => exact ⟨(wrap64 (x6_2 + 1)), (by first | rfl | exact congrArg (fun b => Ending.returned (Value.bool b)) HR_.out | (simp; done) | (simp [*]; done)), H', ⟨by have := HJ3.out; have := HK2.out; have := HJ18.out; omega⟩, ⟨by exact RM_ HO_5.out⟩, ⟨by exact SM_ HO_589000.out⟩, ⟨by exact SM_ HO_589001.out⟩, ⟨by exact KX_ BK588.out⟩, ⟨B1_⟩⟩
          replace c30 := Bool.eq_false_iff.mpr c30
          subst c30
          have H1 : ((lockstepref06_Reach.f kj18 t581 t584 0 x6_2).bind fun t596 => (locksteplaw09_DepFree.l1 kj18 l0 t589 x6_2 t596 0 t581 t584)) = some true := by rw [if_neg (show ¬ (false = true) by decide)] at H; exact H
          clear H
          have H := H1
          clear H1
          replace H := Option.bind_eq_some_iff.mp H
          obtain ⟨t596, A310, H⟩ := H
          try dsimp only at H
          have A31 := Aside0.mk A310
          clear A310
          have H' := Aside0.mk H
          clear H
          have hcz32_0 : wc.cell? ⟨gb588, 0, none⟩ = some (.slice Ao14 t581.length co14) := (blk_cell BK588.out 0).trans rfl
          have hcz32_1 : wc.cell? ⟨gb588, 1, none⟩ = some (.slice Ao16 t584.length co16) := (blk_cell BK588.out 1).trans rfl
          have hfz32_0 := blk_frozen BK588.out 0
          have hfz32_1 := blk_frozen BK588.out 1
          go_wp2_with (first | ((with_reducible refine gate_callee (f := 17) rfl ?_); refine goesL_ (some 48) rfl rfl Try.func17 (by kernel_rfl) rfl #[.agg #[.slice Ao14 t581.length co14, .slice Ao16 t584.length co16], .int .i64 0, .int .i64 x6_2] rfl (by (try simp only [List.map_toArray, List.map_cons, List.map_nil]); first | done | rfl | (simp only [List.length_drop, List.length_take]; rfl)) ?_; (with_reducible refine (lockstepref06_Reach.calls kj18 _ _ t581 _ _ t584 0 x6_2 t596 _ ?side1 ?side2 ?side3 ?side4 A31.out).mono ?_); (case side1 => repeat (first | exact (Kd.S_reads' HO_589000.out).2.2 | (with_reducible refine Kd.C_alloc ?_ _) | (with_reducible refine Kd.C_drewN ?_ _) | (with_reducible refine Kd.C_drew ?_))); (case side2 => exact (Kd.S_reads' HO_589000.out).2.1); (case side3 => repeat (first | exact (Kd.S_reads' HO_589001.out).2.2 | (with_reducible refine Kd.C_alloc ?_ _) | (with_reducible refine Kd.C_drewN ?_ _) | (with_reducible refine Kd.C_drew ?_))); (case side4 => exact (Kd.S_reads' HO_589001.out).2.1); rintro e w33 ⟨v597, rfl, ho0, hb⟩; refine ⟨_, rfl, ?_⟩; replace HO_589000 := A_ (Kd.S_below (by exact SX_ HO_589000.out) hb); replace HO_589001 := A_ (Kd.S_below (by exact SX_ HO_589001.out) hb); have HO598 := A_ (Kd.R_lower (Kd.R_new' ho0 (Kd.R_lt (by exact RX_ HO_5.out))) (below_size (B1_))); replace HO_5 := A_ (Kd.R_elder' (by exact RX_ HO_5.out) (Kd.R_base ho0) hb); replace BK588 := A_ (blk_below (g := gb588) (o := .cells #[.slice Ao14 t581.length co14, .slice Ao16 t584.length co16] 26 (0, 0)) (by exact KX_ BK588.out) hb); replace HB := A_ (below_step (B1_) hb); (try clear hb); (try clear hb2); (try clear hk); (try clear hi); (try clear ho0)))
          go_loopg [8] kj18 (fun kq v8 w' => ∃ (x8_4 : Int), v8 = .int .i64 x8_4 ∧ Aside0 (locksteplaw09_DepFree.l1 kq l0 t589 x6_2 t596 x8_4 t581 t584 = some true) ∧ Aside0 (kq ≤ kj18) ∧ Aside0 (Kd.R Kd.bool 4 w' w.heap.size (fun k_ => some k_ ≠ (v597 : Value).ownBlock) v590 t589) ∧ Aside0 (Kd.R Kd.bool 4 w' w.heap.size (fun k_ => some k_ ≠ (v590 : Value).ownBlock) v597 t596) ∧ Aside0 (Kd.S (Kd.slice 3 (Kd.int .i64)) 31 w' w.heap.size (fun k_ => some k_ ≠ ((.slice Ao16 t584.length co16) : Value).ownBlock) (.slice Ao14 t581.length co14) t581) ∧ Aside0 (Kd.S (Kd.slice 3 (Kd.int .i64)) 31 w' w.heap.size (fun k_ => some k_ ≠ ((.slice Ao14 t581.length co14) : Value).ownBlock) (.slice Ao16 t584.length co16) t584) ∧ Aside0 (w'.heap[gb588]? = some (.cells #[(.slice Ao14 t581.length co14), (.slice Ao16 t584.length co16)] 26 (0, 0))) ∧ Aside0 (Below w.heap.size w w'))
          case atStart => exact ⟨(0), (by first | rfl | exact congrArg (fun b => Ending.returned (Value.bool b)) HR_.out | (simp; done) | (simp [*]; done)), H', ⟨Nat.le_refl _⟩, ⟨by (with_reducible repeat (first | apply Kd.R_alloc | apply Kd.R_drewN | apply Kd.R_drew)); exact Kd.R_mono HO_5.out (fun _ hk => by first | exact hk.2 | exact hk | exact ⟨hk.1, hk.2⟩ | simp_all)⟩, ⟨by (with_reducible repeat (first | apply Kd.R_alloc | apply Kd.R_drewN | apply Kd.R_drew)); exact Kd.R_mono HO598.out (fun _ hk => by first | exact hk.2 | exact hk | exact ⟨hk.1, hk.2⟩ | simp_all)⟩, ⟨by exact SM_ HO_589000.out⟩, ⟨by exact SM_ HO_589001.out⟩, ⟨by exact KX_ BK588.out⟩, ⟨B1_⟩⟩
          case round =>
           clear H'
           try clear c30
           try clear hcz32_0
           try clear hcz32_1
           try clear hfz32_0
           try clear hfz32_1
           obtain ⟨x8_4, rfl, HA, HK4, HO_5, HO_7, HO_589000, HO_589001, BK588, HB⟩ := hrel
           cases gk with
           | zero => exact absurd HA.out (by simp [locksteplaw09_DepFree.l1])
           | succ k4 =>
            have H := HA.out
            clear HA
            simp only [locksteplaw09_DepFree.l1] at H
            by_cases c34 : x8_4 < (l0.length : Int)
            ·rw [if_pos c34] at H
             have c34b0 : decide (x8_4 < (l0.length : Int)) = true := decide_eq_true c34
             clear c34
             by_cases c35 : 0 ≤ x8_4
             ·rw [if_pos c35] at H
              have c35b0 : decide (0 ≤ x8_4) = true := decide_eq_true c35
              clear c35
              by_cases c36 : x8_4 < (t596.length : Int)
              ·rw [if_pos c36] at H
               have c36b0 : decide (x8_4 < (t596.length : Int)) = true := decide_eq_true c36
               clear c36
               obtain ⟨bq37, hbq37⟩ : ∃ b_ : Bool, b_ = (rdOf false t596 x8_4) := ⟨_, rfl⟩
               replace H : (if bq37 = true then (if ((rd_L1 l0 x8_4).length : Int) = 0 then (some false) else (locksteplaw09_DepFree.l1 k4 l0 t589 x6_2 t596 (wrap64 (x8_4 + 1)) t581 t584)) else (locksteplaw09_DepFree.l1 k4 l0 t589 x6_2 t596 (wrap64 (x8_4 + 1)) t581 t584)) = some true := by rw [← hbq37] at H; exact H
               have Nbq37 := Aside0.mk hbq37
               clear hbq37
               by_cases c38 : bq37 = true
               ·subst c38
                have H1 : (if ((rd_L1 l0 x8_4).length : Int) = 0 then (some false) else (locksteplaw09_DepFree.l1 k4 l0 t589 x6_2 t596 (wrap64 (x8_4 + 1)) t581 t584)) = some true := by rw [if_pos rfl] at H; exact H
                clear H
                have H := H1
                clear H1
                by_cases c39 : ((rd_L1 l0 x8_4).length : Int) = 0
                ·rw [if_pos c39] at H
                 have c39b0 : (((rd_L1 l0 x8_4).length : Int) == 0) = true := beq_iff_eq.mpr c39
                 have c39b1 : (((rd_L1 l0 x8_4).length : Int) != 0) = false := bne_eq_false_iff_eq.mpr c39
                 clear c39
                 exact absurd H (by simp)
                rw [if_neg c39] at H
                have c39b0 : (((rd_L1 l0 x8_4).length : Int) == 0) = false := beq_eq_false_iff_ne.mpr c39
                have c39b1 : (((rd_L1 l0 x8_4).length : Int) != 0) = true := bne_iff_ne.mpr c39
                have c39b2 : ¬ ((rd_L1 l0 x8_4) = []) := fun h_ => c39 (by rw [h_]; rfl)
                have H' := Aside0.mk H
                clear H
                obtain ⟨Ao40, co40, eo40⟩ := Kd.R_slice HO_7.out
                subst eo40
                have p599 : 0 ≤ (x8_4 : Int) := D_
                have q599 : x8_4 < (t596.length : Int) := D_
                obtain ⟨ad599, e599, hx599_0⟩ := Kd.at_bool (Kd.R_reads' HO_7.out).2.2 x8_4 p599 q599
                (try rw [← Nbq37.out] at hx599_0)
                cases e599
                replace p599 := eq_true p599
                replace q599 := eq_true q599
                have p600 : 0 ≤ (x8_4 : Int) := D_
                have q600 : x8_4 < (l0.length : Int) := D_
                obtain ⟨ad600, A600_0, c600_0, e600, hx600_0, hl600_0, hi600_0⟩ := at_L1 HR0.out x8_4 p600 q600
                cases e600
                replace hx600_0 := (HB.out.cell (World.block_lt_of_cell? w _ hx600_0)).trans hx600_0
                have HR600_0 := Aside0.mk hi600_0
                have HC600_0 := Aside0.mk hl600_0
                clear hi600_0 hl600_0
                replace p600 := eq_true p600
                replace q600 := eq_true q600
                go_wp2
                go_roundg k4
                case measure => have := HJ3.out; have := HK2.out; have := HJ18.out; have := HK4.out; omega
                case rel => exact ⟨(wrap64 (x8_4 + 1)), (by first | rfl | exact congrArg (fun b => Ending.returned (Value.bool b)) HR_.out | (simp; done) | (simp [*]; done)), H', ⟨by have := HJ3.out; have := HK2.out; have := HJ18.out; have := HK4.out; omega⟩, ⟨by exact RM_ HO_5.out⟩, ⟨by exact RM_ HO_7.out⟩, ⟨by exact SM_ HO_589000.out⟩, ⟨by exact SM_ HO_589001.out⟩, ⟨by exact KX_ BK588.out⟩, ⟨B1_⟩⟩
               replace c38 := Bool.eq_false_iff.mpr c38
               subst c38
               have H1 : (locksteplaw09_DepFree.l1 k4 l0 t589 x6_2 t596 (wrap64 (x8_4 + 1)) t581 t584) = some true := by rw [if_neg (show ¬ (false = true) by decide)] at H; exact H
               clear H
               have H := H1
               clear H1
               have H' := Aside0.mk H
               clear H
               obtain ⟨Ao41, co41, eo41⟩ := Kd.R_slice HO_7.out
               subst eo41
               have p599 : 0 ≤ (x8_4 : Int) := D_
               have q599 : x8_4 < (t596.length : Int) := D_
               obtain ⟨ad599, e599, hx599_0⟩ := Kd.at_bool (Kd.R_reads' HO_7.out).2.2 x8_4 p599 q599
               (try rw [← Nbq37.out] at hx599_0)
               cases e599
               replace p599 := eq_true p599
               replace q599 := eq_true q599
               go_wp2
               go_roundg k4
               case measure => have := HJ3.out; have := HK2.out; have := HJ18.out; have := HK4.out; omega
               case rel => exact ⟨(wrap64 (x8_4 + 1)), (by first | rfl | exact congrArg (fun b => Ending.returned (Value.bool b)) HR_.out | (simp; done) | (simp [*]; done)), H', ⟨by have := HJ3.out; have := HK2.out; have := HJ18.out; have := HK4.out; omega⟩, ⟨by exact RM_ HO_5.out⟩, ⟨by exact RM_ HO_7.out⟩, ⟨by exact SM_ HO_589000.out⟩, ⟨by exact SM_ HO_589001.out⟩, ⟨by exact KX_ BK588.out⟩, ⟨B1_⟩⟩
              rw [if_neg c36] at H
              exact absurd H (by simp)
             rw [if_neg c35] at H
             exact absurd H (by simp)
            rw [if_neg c34] at H
            have c34b0 : decide (x8_4 < (l0.length : Int)) = false := decide_eq_false c34
            clear c34
            have H' := Aside0.mk H
            clear H
            go_wp2
            go_roundg k4
            case measure => have := HJ3.out; have := HK2.out; have := HJ18.out; have := HK4.out; omega
            case rel => exact ⟨(wrap64 (x6_2 + 1)), (by first | rfl | exact congrArg (fun b => Ending.returned (Value.bool b)) HR_.out | (simp; done) | (simp [*]; done)), H', ⟨by have := HJ3.out; have := HK2.out; have := HJ18.out; have := HK4.out; omega⟩, ⟨by (with_reducible repeat (first | apply Kd.R_alloc | apply Kd.R_drewN | apply Kd.R_drew)); exact Kd.R_mono HO_5.out (fun _ hk => trivial)⟩, ⟨by exact SM_ HO_589000.out⟩, ⟨by exact SM_ HO_589001.out⟩, ⟨by exact KX_ BK588.out⟩, ⟨B1_⟩⟩
       rw [if_neg c18] at H
       have c18b0 : decide (x6_2 < (l0.length : Int)) = false := decide_eq_false c18
       clear c18
       clear H
       go_wp2
       go_ret
       exact ⟨by first | rfl | exact congrArg (fun b => Ending.returned (Value.bool b)) HR_.out | (simp [errW_none, errW_some] <;> rfl) | (simp [*, errW_none, errW_some] <;> rfl), B1_⟩
    rw [if_neg c10] at H
    have c10b0 : (t587 == 0) = false := beq_eq_false_iff_ne.mpr c10
    have c10b1 : (t587 != 0) = true := bne_iff_ne.mpr c10
    clear H
    go_wp2_with (first | ((with_reducible refine gate_callee (f := 15) rfl ?_); refine goesL_ (some 21) rfl rfl Try.func15 (by kernel_rfl) rfl #[.slice A0 l0.length c0] rfl (by (try simp only [List.map_toArray, List.map_cons, List.map_nil]); first | done | rfl | (simp only [List.length_drop, List.length_take]; rfl)) ?_; (with_reducible refine (graph_Make.calls kj3 _ _ l0 t581 t584 t587 _ ?side1 ?side2 A9.out).mono ?_); (case side1 => exact CX_ (Kd.C_below HR0.out HB.out)); (case side2 => exact HC0.out); rintro e w42 ⟨v582, v585, rfl, ho0, ho1, hb⟩; refine ⟨_, rfl, ?_⟩; have HO583 := A_ (Kd.S_lower ho0 (below_size (B_))); have HO586 := A_ (Kd.S_lower ho1 (below_size (B_))); replace HB := A_ (below_step (B_) hb); (try clear hb); (try clear hb2); (try clear hk); (try clear hi); (try clear ho0); (try clear ho1)) | ((with_reducible refine gate_dst (N := 3) rfl ?_); (try (refine gate_guard (by rfl) ?_; dsimp only)); refine box_event ?hg (N := 3) ?hd (cs := #[.slice none 0 0, .slice none 0 0]) (t := 26) ?hr ?_; (case hd => rfl); (case hg => rfl); (case hr => first | (go_simp; done) | (go_simp; rfl)); intro gb588 hg w43 hbox hb; replace HO583 := A_ (Kd.S_below (by exact SX_ HO583.out) hb); replace HO586 := A_ (Kd.S_below (by exact SX_ HO586.out) hb); have BK588 := A_ (hbox); have GW588 := A_ ((by rw [hg]; exact (below_size (B_)) : w.heap.size ≤ gb588)); have GE588 := A_ ((by rw [hg]; exact (below_size (B_)) : w.heap.size ≤ gb588)); replace HB := A_ (below_step (B_) hb); clear hb hbox hg; obtain ⟨Ao44, co44, eo44⟩ := Kd.S_slice HO583.out; subst eo44; have hcz45_0 : w43.cell? ⟨gb588, 0, none⟩ = some (.slice none 0 0) := (blk_cell BK588.out 0).trans rfl; have hcz45_1 : w43.cell? ⟨gb588, 1, none⟩ = some (.slice none 0 0) := (blk_cell BK588.out 1).trans rfl; have hfz45_0 := blk_frozen BK588.out 0; have hfz45_1 := blk_frozen BK588.out 1; obtain ⟨Ao46, co46, eo46⟩ := Kd.S_slice HO586.out; subst eo46))
    go_ret
    exact ⟨by first | rfl | exact congrArg (fun b => Ending.returned (Value.bool b)) HR_.out | (simp [errW_none, errW_some] <;> rfl) | (simp [*, errW_none, errW_some] <;> rfl), B1_⟩
 replace c3 := Bool.eq_false_iff.mpr c3
 subst c3
 have H1 : (some false) = some true := by rw [if_neg (show ¬ (false = true) by decide)] at H; exact H
 clear H
 have H := H1
 clear H1
 exact absurd H (by simp)

/-- THE ONE PURE STATEMENT of locksteplaw09_DepFree: yours. -/
def locksteplaw09_DepFree.Pure : Prop := ∀ (l0 : List (List Int)), RowsOk .i64 l0 → ∃ k, locksteplaw09_DepFree.f k l0 = some true
theorem locksteplaw09_DepFree.walk (P : locksteplaw09_DepFree.Pure) (a0 : Option Addr) (cap0 : Nat) (l0 : List (List Int)) (w : World) (w0 : Kd.C (Kd.slice 3 (Kd.int .i64)) w a0 l0.length l0) (y0 : l0.length ≤ cap0) (m0 : RowsOk .i64 l0) :
 Calls Try.prog 4 #[.slice a0 l0.length cap0] w fun e w' => e = .returned (.bool true) ∧ Below w.heap.size w w' := by
 obtain ⟨k, h⟩ := P l0 m0
 refine (locksteplaw09_DepFree.calls k _ _ l0 w w0 y0 h).mono ?_
 rintro e w' ⟨rfl, hd⟩
 exact ⟨rfl, hd⟩

end Go.Proofs.Ytheillkpgmpnlaa.G
namespace Go.Proofs.Ytheillkpgmpnlaa.GP
open Go.RowKit Go.Proofs.Ytheillkpgmpnlaa.G Go.Proofs.YtheillkpgmpnlaaW.PrintWords

/-- With enough rounds the answer is v. -/
def Ev {α : Type} (f : Nat → Option α) (v : α) : Prop := ∃ K, ∀ k, K ≤ k → f k = some v
theorem Ev.succ {α : Type} {f : Nat → Option α} {v : α} (h : Ev (fun k => f (k + 1)) v) : Ev f v := by
  obtain ⟨K, h⟩ := h
  refine ⟨K + 1, fun k hk => ?_⟩
  obtain ⟨m, rfl⟩ : ∃ m, k = m + 1 := ⟨k - 1, by omega⟩
  exact h m (by omega)
theorem Ev.bind {α β : Type} {g : Nat → Option α} {h : Nat → α → Option β} {a : α} {r : β} (h1 : Ev g a) (h2 : Ev (fun k => h k a) r) : Ev (fun k => (g k).bind (fun t => h k t)) r := by
  obtain ⟨K1, h1⟩ := h1
  obtain ⟨K2, h2⟩ := h2
  refine ⟨K1 + K2, fun k hk => ?_⟩
  simp only [h1 k (by omega), Option.bind_some]
  exact h2 k (by omega)
theorem Ev.pure {α : Type} {v : α} : Ev (fun _ => some v) v := ⟨0, fun _ _ => rfl⟩
theorem Ev.ifp {α : Type} {c : Prop} [Decidable c] {a b : Nat → Option α} {v : α} (h : c) (H : Ev a v) : Ev (fun k => if c then a k else b k) v := by
  simp only [if_pos h]; exact H
theorem Ev.ifn {α : Type} {c : Prop} [Decidable c] {a b : Nat → Option α} {v : α} (h : ¬ c) (H : Ev b v) : Ev (fun k => if c then a k else b k) v := by
  simp only [if_neg h]; exact H
theorem Ev.at {α : Type} {f : Nat → Option α} {v : α} (h : Ev f v) : ∃ k, f k = some v := by
  obtain ⟨K, h⟩ := h; exact ⟨K, h K (Nat.le_refl _)⟩
theorem Ev.of_eq {α : Type} {f : Nat → Option α} {v w : α} (h : Ev f v) (e : v = w) : Ev f w := e ▸ h
theorem Ev.of_at {α : Type} {f : Nat → Option α} {v : α} (m : ∀ k, LeO (f k) (f (k + 1))) {K : Nat} (h : f K = some v) : Ev f v := by
  refine ⟨K, fun k hk => ?_⟩
  obtain ⟨d, rfl⟩ : ∃ d, k = K + d := ⟨k - K, by omega⟩
  clear hk
  induction d with
  | zero => exact h
  | succ d ih => exact m _ _ ih

theorem wrap_nat {i : Nat} (h : i < 9223372036854775807) : wrap64 ((i : Int) + 1) = ((i + 1 : Nat) : Int) := by unfold wrap64; omega
theorem wrap_id {x : Int} (h : -9223372036854775808 ≤ x) (h' : x ≤ 9223372036854775807) : wrap64 x = x := by unfold wrap64; omega

/-- Numbers as blocks' numbers. -/
def up (l : List Nat) : List Int := l.map (fun n : Nat => (n : Int))
def up2 (S : List (List Nat)) : List (List Int) := S.map up
@[simp] theorem up_length (l : List Nat) : (up l).length = l.length := by simp [up]
@[simp] theorem up2_length (S : List (List Nat)) : (up2 S).length = S.length := by simp [up2]
@[simp] theorem up_nil : up [] = [] := rfl
@[simp] theorem up2_nil : up2 [] = [] := rfl
theorem up_append (a b : List Nat) : up (a ++ b) = up a ++ up b := by simp [up]
theorem up_inj {a b : List Nat} (h : up a = up b) : a = b := by
  induction a generalizing b with
  | nil => cases b with
    | nil => rfl
    | cons y b => simp [up] at h
  | cons x a ih => cases b with
    | nil => simp [up] at h
    | cons y b =>
      simp only [up, List.map_cons, List.cons.injEq] at h
      rw [show x = y by omega, ih h.2]
theorem up2_inj {a b : List (List Nat)} (h : up2 a = up2 b) : a = b := by
  induction a generalizing b with
  | nil => cases b with
    | nil => rfl
    | cons y b => simp [up2] at h
  | cons x a ih => cases b with
    | nil => simp [up2] at h
    | cons y b =>
      simp only [up2, List.map_cons, List.cons.injEq] at h
      rw [up_inj h.1, ih h.2]
theorem rd_up (l : List Nat) (i : Nat) : rd (up l) (i : Int) = ((l.getD i 0 : Nat) : Int) := by
  simp only [rd, up, Int.toNat_natCast, List.getD_eq_getElem?_getD, List.getElem?_map]
  cases l[i]? <;> rfl
theorem rdL_up (S : List (List Nat)) (i : Nat) : rd_L1 (up2 S) (i : Int) = up (S.getD i []) := by
  simp only [rd_L1, up2, Int.toNat_natCast, List.getD_eq_getElem?_getD, List.getElem?_map]
  cases S[i]? <;> rfl
theorem getD_mem {α : Type} {l : List α} {i : Nat} {d : α} (h : i < l.length) : l.getD i d ∈ l := by
  rw [List.getD_eq_getElem?_getD, List.getElem?_eq_getElem h]; exact List.getElem_mem h
theorem drop_getD {α : Type} (l : List α) (i : Nat) (d : α) (h : i < l.length) : l.drop i = l.getD i d :: l.drop (i + 1) := by
  rw [List.drop_eq_getElem_cons h, List.getD_eq_getElem?_getD, List.getElem?_eq_getElem h]; rfl
theorem take_getD {α : Type} (l : List α) (i : Nat) (d : α) (h : i < l.length) : l.take (i + 1) = l.take i ++ [l.getD i d] := by
  rw [List.take_succ_eq_append_getElem h, List.getD_eq_getElem?_getD, List.getElem?_eq_getElem h]; rfl
theorem getD_map_range {α : Type} (n : Nat) (f : Nat → α) (i : Nat) (d : α) (h : i < n) : ((List.range n).map f).getD i d = f i := by
  rw [List.getD_eq_getElem?_getD, List.getElem?_map, List.getElem?_range h]; rfl
theorem set_map_range {α : Type} (n : Nat) (f g : Nat → α) (i : Nat) (v : α) (hv : g i = v) (he : ∀ j, j ≠ i → g j = f j) : ((List.range n).map f).set i v = (List.range n).map g := by
  apply List.ext_getElem
  · simp
  · intro j h1 h2
    simp only [List.getElem_set, List.getElem_map, List.getElem_range]
    split
    · next e => rw [← e, hv]
    · next e => rw [he j (fun h => e h.symm)]
theorem self_map_range {α : Type} (l : List α) (d : α) : l = (List.range l.length).map (fun i => l.getD i d) := by
  apply List.ext_getElem
  · simp
  · intro j h1 h2
    simp only [List.getElem_map, List.getElem_range, List.getD_eq_getElem?_getD, List.getElem?_eq_getElem h1]; rfl
theorem ext_getD {α : Type} {a b : List α} (d : α) (hl : a.length = b.length) (h : ∀ i, i < a.length → a.getD i d = b.getD i d) : a = b := by
  rw [self_map_range a d, self_map_range b d, hl]
  exact List.map_congr_left (fun i hi => h i (by have := List.mem_range.mp hi; omega))

/-- Each number greater than the one ahead, and below n. -/
def rsg (n : Int) : Int → List Int → Bool
  | _, [] => true
  | last, x :: xs => if x ≤ last then false else if x ≥ n then false else rsg n x xs

def big : Nat := 9223372036854775807

theorem rising_l0 (d : Nat) : ∀ (i : Nat) (n last : Int) (l : List Int), l.length ≤ big → i ≤ l.length → l.length - i = d → Ev (fun k => graph_rising.l0 k n last l (l.length : Int) (i : Int)) (rsg n last (l.drop i)) := by
  induction d with
  | zero =>
    intro i n last l hb hi hd
    refine Ev.succ ?_; simp only [graph_rising.l0]
    rw [List.drop_of_length_le (by omega)]
    exact Ev.ifn (by omega) Ev.pure
  | succ d ih =>
    intro i n last l hb hi hd
    have h1 : i < l.length := by omega
    have hbb : big = 9223372036854775807 := rfl
    refine Ev.succ ?_; simp only [graph_rising.l0]
    refine Ev.ifp (by omega) (Ev.ifp (by omega) (Ev.ifp (by omega) ?_))
    rw [drop_getD l i 0 h1, show rd l (i : Int) = l.getD i 0 by simp [rd]]
    simp only [rsg]
    split
    · exact Ev.pure
    · split
      · exact Ev.pure
      · rw [wrap_nat (by omega)]
        exact ih (i + 1) _ _ l hb (by omega) (by omega)
theorem make1_ok (l : List Int) (n : Int) (h : l.length ≤ big) : Ev (fun k => graph_Make_1.f k l n) (!rsg n (-1) l) := by
  unfold graph_Make_1.f graph_rising.f
  exact Ev.bind (a := rsg n (-1) l) (by simpa using rising_l0 l.length 0 n (-1) l h (by omega) (by omega)) Ev.pure
theorem index_l0 (d : Nat) : ∀ (i : Nat) (n : Int) (s : List (List Int)), s.length ≤ big → (∀ l ∈ s, l.length ≤ big) → i ≤ s.length → s.length - i = d →
    ∃ v, Ev (fun k => slices_IndexFunc_int_int_graph_Make_1.l0 k s (s.length : Int) (i : Int) n) v ∧ decide (v ≥ 0) = (s.drop i).any (fun l => !rsg n (-1) l) := by
  induction d with
  | zero =>
    intro i n s hb hr hi hd
    refine ⟨-1, Ev.succ ?_, by rw [List.drop_of_length_le (by omega)]; rfl⟩
    simp only [slices_IndexFunc_int_int_graph_Make_1.l0]
    exact Ev.ifn (by omega) Ev.pure
  | succ d ih =>
    intro i n s hb hr hi hd
    have h1 : i < s.length := by omega
    have hbb : big = 9223372036854775807 := rfl
    have hrd : rd_L1 s (i : Int) = s.getD i [] := by simp [rd_L1]
    rw [drop_getD s i [] h1, List.any_cons]
    cases hv : rsg n (-1) (s.getD i []) with
    | false =>
      refine ⟨(i : Int), Ev.succ ?_, by simp⟩
      simp only [slices_IndexFunc_int_int_graph_Make_1.l0]
      refine Ev.ifp (by omega) (Ev.ifp (by omega) (Ev.ifp (by omega) ?_))
      refine Ev.bind (make1_ok _ n (by rw [hrd]; exact hr _ (getD_mem h1))) ?_
      rw [hrd, hv]
      exact Ev.ifp rfl Ev.pure
    | true =>
      obtain ⟨v, he, hd'⟩ := ih (i + 1) n s hb hr (by omega) (by omega)
      refine ⟨v, Ev.succ ?_, by simpa using hd'⟩
      simp only [slices_IndexFunc_int_int_graph_Make_1.l0]
      refine Ev.ifp (by omega) (Ev.ifp (by omega) (Ev.ifp (by omega) ?_))
      refine Ev.bind (make1_ok _ n (by rw [hrd]; exact hr _ (getD_mem h1))) ?_
      rw [hrd, hv]
      refine Ev.ifn (by decide) ?_
      rw [wrap_nat (by omega)]; exact he
theorem contains_ok (s : List (List Int)) (n : Int) (hb : s.length ≤ big) (hr : ∀ l ∈ s, l.length ≤ big) : Ev (fun k => slices_ContainsFunc_int_int_graph_Make_1.f k s n) (s.any (fun l => !rsg n (-1) l)) := by
  obtain ⟨v, he, hd⟩ := index_l0 s.length 0 n s hb hr (by omega) (by omega)
  unfold slices_ContainsFunc_int_int_graph_Make_1.f slices_IndexFunc_int_int_graph_Make_1.f
  have hd' : decide (v ≥ 0) = s.any (fun l => !rsg n (-1) l) := by simpa using hd
  exact (Ev.bind (h := fun _ t => some (decide (t ≥ 0))) (by simpa using he) Ev.pure).of_eq hd'

/-- May these lists be a graph's ways on? -/
def goodb (s : List (List Int)) : Bool := decide (1 ≤ s.length) && (decide (s.length ≤ 64) && s.all (rsg (s.length : Int) (-1)))
/-- A graph's ways on. -/
structure Gr (S : List (List Nat)) : Prop where
  pos : 0 < S.length
  le : S.length ≤ 64
  row : ∀ i, i < S.length → (S.getD i []).Pairwise (· < ·) ∧ ∀ y ∈ S.getD i [], y < S.length
/-- Where blocks come from. -/
def pr (S : List (List Nat)) : List (List Nat) := (List.range S.length).map fun j => (List.range S.length).filter fun i => decide (j ∈ S.getD i [])

theorem rsg_spec : ∀ (l : List Int) (n last : Int), rsg n last l = true → l.Pairwise (· < ·) ∧ (∀ x ∈ l, last < x ∧ x < n) := by
  intro l
  induction l with
  | nil => intro n last _; simp
  | cons x l ih =>
    intro n last h
    simp only [rsg] at h
    split at h
    · cases h
    · split at h
      · cases h
      · obtain ⟨h1, h2⟩ := ih n x h
        refine ⟨List.pairwise_cons.mpr ⟨fun y hy => (h2 y hy).1, h1⟩, fun y hy => ?_⟩
        rcases List.mem_cons.mp hy with rfl | hy
        · omega
        · have := h2 y hy; omega
theorem rsg_of : ∀ (l : List Int) (n last : Int), l.Pairwise (· < ·) → (∀ x ∈ l, last < x ∧ x < n) → rsg n last l = true := by
  intro l
  induction l with
  | nil => intro n last _ _; rfl
  | cons x l ih =>
    intro n last h h2
    have h3 := h2 x (List.mem_cons_self ..)
    simp only [rsg]
    rw [if_neg (by omega), if_neg (by omega)]
    obtain ⟨h4, h5⟩ := List.pairwise_cons.mp h
    exact ih n x h5 (fun y hy => ⟨h4 y hy, (h2 y (List.mem_cons_of_mem _ hy)).2⟩)
theorem good_gr {s : List (List Int)} (h : goodb s = true) : ∃ S, Gr S ∧ s = up2 S := by
  simp only [goodb, Bool.and_eq_true, decide_eq_true_eq, List.all_eq_true] at h
  obtain ⟨h1, h2, h3⟩ := h
  have hr : ∀ l ∈ s, up (l.map Int.toNat) = l := by
    intro l hl
    have := rsg_spec l _ _ (h3 l hl)
    simp only [up, List.map_map]
    conv => rhs; rw [← List.map_id l]
    exact List.map_congr_left (fun x hx => by have := (this.2 x hx).1; simp; omega)
  have hs : up2 (s.map (fun l => l.map Int.toNat)) = s := by
    simp only [up2, List.map_map]
    conv => rhs; rw [← List.map_id s]
    exact List.map_congr_left (fun l hl => hr l hl)
  refine ⟨s.map (fun l => l.map Int.toNat), ⟨by simp; omega, by simpa using h2, fun i hi => ?_⟩, hs.symm⟩
  have hi' : i < s.length := by simpa using hi
  have hl := getD_mem (d := []) hi'
  have hq : (s.map (fun l => l.map Int.toNat)).getD i [] = (s.getD i []).map Int.toNat := by
    simp only [List.getD_eq_getElem?_getD, List.getElem?_map, List.getElem?_eq_getElem hi']; rfl
  have h4 := rsg_spec _ _ _ (h3 _ hl)
  rw [hq]
  refine ⟨List.pairwise_map.mpr (h4.1.imp_of_mem (fun ha hb hab => by have := h4.2 _ ha; have := h4.2 _ hb; omega)), fun y hy => ?_⟩
  obtain ⟨x, hx, rfl⟩ := List.mem_map.mp hy
  have := h4.2 x hx
  simp; omega
theorem gr_good {S : List (List Nat)} (h : Gr S) : goodb (up2 S) = true := by
  simp only [goodb, Bool.and_eq_true, decide_eq_true_eq, List.all_eq_true, up2_length]
  refine ⟨h.pos, h.le, fun l hl => ?_⟩
  obtain ⟨r, hr, rfl⟩ := List.mem_map.mp hl
  obtain ⟨i, hi, hri⟩ := List.getElem_of_mem hr
  have h2 := h.row i hi
  rw [List.getD_eq_getElem?_getD, List.getElem?_eq_getElem hi, hri] at h2
  simp only [Option.getD_some] at h2
  refine rsg_of _ _ _ (List.pairwise_map.mpr (h2.1.imp (fun h => by omega))) (fun x hx => ?_)
  obtain ⟨y, hy, rfl⟩ := List.mem_map.mp hx
  have := h2.2 y hy; omega

theorem pw_len (n : Nat) : ∀ (l : List Nat) (lo : Nat), l.Pairwise (· < ·) → (∀ x ∈ l, lo ≤ x ∧ x < n) → lo ≤ n → l.length + lo ≤ n := by
  intro l
  induction l with
  | nil => intro lo _ _ h; simpa using h
  | cons x l ih =>
    intro lo h h2 hlo
    obtain ⟨h4, h5⟩ := List.pairwise_cons.mp h
    have h3 := h2 x (List.mem_cons_self ..)
    have := ih (x + 1) h5 (fun y hy => ⟨h4 y hy, (h2 y (List.mem_cons_of_mem _ hy)).2⟩) (by omega)
    simp only [List.length_cons]; omega
theorem gr_len {S : List (List Nat)} (h : Gr S) {i : Nat} (hi : i < S.length) : (S.getD i []).length ≤ 64 := by
  have := pw_len S.length _ 0 (h.row i hi).1 (fun x hx => ⟨Nat.zero_le _, (h.row i hi).2 x hx⟩) (Nat.zero_le _)
  have := h.le; omega
/-! #### the ways back -/
theorem gr_nodup {S : List (List Nat)} (h : Gr S) {i : Nat} (hi : i < S.length) : (S.getD i []).Nodup := (h.row i hi).1.imp (fun h => Nat.ne_of_lt h)
/-- The ways back when i rows are gone through, and m of row i. -/
def prAt (S : List (List Nat)) (i m j : Nat) : List Nat := (List.range i).filter (fun i => decide (j ∈ S.getD i [])) ++ if j ∈ (S.getD i []).take m then [i] else []
def prI (S : List (List Nat)) (i m : Nat) : List (List Int) := (List.range S.length).map fun j => up (prAt S i m j)
theorem prI_succ (S : List (List Nat)) (i : Nat) : prI S i (S.getD i []).length = prI S (i + 1) 0 := by
  unfold prI
  refine List.map_congr_left (fun j _ => ?_)
  simp only [prAt, List.take_length, List.take_zero, List.range_succ, List.filter_append, List.not_mem_nil, if_false, List.append_nil]
  congr 2
  by_cases hj : j ∈ S.getD i []
  · rw [if_pos hj, List.filter_cons_of_pos (by simpa using hj)]; rfl
  · rw [if_neg hj, List.filter_cons_of_neg (by simpa using hj)]; rfl
theorem preds_end {S : List (List Nat)} : prI S S.length 0 = up2 (pr S) := by
  simp only [prI, pr, up2, List.map_map]
  refine List.map_congr_left (fun j _ => ?_)
  simp [prAt]
theorem preds_l1 {S : List (List Nat)} (h : Gr S) (i : Nat) (hi : i < S.length) (v : List (List Int)) (H : Ev (fun k => graph_preds.l0 k (prI S (i + 1) 0) (up2 S) (S.length : Int) ((i + 1 : Nat) : Int)) v) (d : Nat) :
    ∀ m, m ≤ (S.getD i []).length → (S.getD i []).length - m = d → Ev (fun k => graph_preds.l1 k (prI S i m) (i : Int) (up2 S) (S.length : Int) (i : Int) (up (S.getD i [])) ((S.getD i []).length : Int) (m : Int)) v := by
  have hle := h.le
  have hlen := gr_len h hi
  induction d with
  | zero =>
    intro m hm hd
    refine Ev.succ ?_; simp only [graph_preds.l1]
    refine Ev.ifn (by omega) ?_
    rw [wrap_nat (by omega), show m = (S.getD i []).length by omega, prI_succ]
    exact H
  | succ d ih =>
    intro m hm hd
    have h1 : m < (S.getD i []).length := by omega
    refine Ev.succ ?_; simp only [graph_preds.l1]
    rw [rd_up]
    have hy := (h.row i hi).2 _ (getD_mem (d := 0) h1)
    have hyn : (S.getD i []).getD m 0 ∉ (S.getD i []).take m := by
      intro hc
      have h3 : (S.getD i []).Nodup := gr_nodup h hi
      have h2 := take_getD _ m 0 h1
      have h4 : ((S.getD i []).take (m + 1)).Nodup := h3.sublist (List.take_sublist _ _)
      rw [h2, List.nodup_append] at h4
      exact h4.2.2 _ hc _ (List.mem_singleton.mpr rfl) rfl
    generalize hyv : (S.getD i []).getD m 0 = y at hy hyn
    have hrow : rd_L1 (prI S i m) (y : Int) = up (prAt S i m y) := by
      simp only [rd_L1, Int.toNat_natCast, prI]
      exact getD_map_range _ _ _ _ hy
    have hpl : (prAt S i m y).length ≤ 65 := by
      simp only [prAt, List.length_append]
      have := List.length_filter_le (fun i => decide (y ∈ S.getD i [])) (List.range i)
      simp only [List.length_range] at this
      split
      · rw [List.length_singleton]; omega
      · rw [List.length_nil]; omega
    refine Ev.ifp (by omega) (Ev.ifp (by omega) (Ev.ifp (by rw [up_length]; omega) (Ev.ifp (by omega) (Ev.ifp (by simp [prI]; omega) ?_))))
    rw [hrow]
    refine Ev.ifp (by rw [up_length]; omega) ?_
    have hset : (prI S i m).set y (up (prAt S i m y) ++ [(i : Int)]) = prI S i (m + 1) := by
      refine set_map_range _ _ _ _ _ ?_ (fun j hj => ?_)
      · simp only [prAt]
        rw [take_getD _ m 0 h1, hyv, if_neg hyn, if_pos (by simp)]
        simp [up]
      · simp only [prAt]
        rw [take_getD _ m 0 h1, hyv]
        congr 2
        simp [hj]
    rw [Int.toNat_natCast, hset, wrap_nat (by omega)]
    exact ih (m + 1) (by omega) (by omega)
theorem preds_l0 {S : List (List Nat)} (h : Gr S) (d : Nat) : ∀ i, i ≤ S.length → S.length - i = d → Ev (fun k => graph_preds.l0 k (prI S i 0) (up2 S) (S.length : Int) (i : Int)) (up2 (pr S)) := by
  have hle := h.le
  induction d with
  | zero =>
    intro i hi hd
    refine Ev.succ ?_; simp only [graph_preds.l0]
    refine Ev.ifn (by omega) ?_
    rw [show i = S.length by omega, preds_end]
    exact Ev.pure
  | succ d ih =>
    intro i hi hd
    refine Ev.succ ?_; simp only [graph_preds.l0]
    refine Ev.ifp (by omega) (Ev.ifp (by omega) (Ev.ifp (by simp; omega) ?_))
    rw [rdL_up, up_length]
    exact preds_l1 h i (by omega) _ (ih (i + 1) (by omega) (by omega)) _ 0 (by omega) rfl
theorem preds_ok {S : List (List Nat)} (h : Gr S) : Ev (fun k => graph_preds.f k (up2 S)) (up2 (pr S)) := by
  have hle := h.le
  unfold graph_preds.f
  refine Ev.ifp (by omega) (Ev.ifp (by simp; omega) ?_)
  have h0 := preds_l0 h S.length 0 (by omega) (by omega)
  have e : List.replicate (((up2 S).length : Int)).toNat ([] : List Int) = prI S 0 0 := by
    simp only [up2_length, Int.toNat_natCast, prI]
    apply List.ext_getElem
    · simp
    · intro j h1 h2; simp [prAt]
  rw [e, up2_length]
  exact h0

/-! #### graph.Make -/
theorem clone_ok (l : List Int) (h : l.length < 17592186044416) : slices_Clone_int_int.f l = some l := by
  simp [slices_Clone_int_int.f, h]
theorem make_l0 {S : List (List Nat)} (h : Gr S) (d : Nat) : ∀ i, i ≤ S.length → S.length - i = d → Ev (fun k => graph_Make.l0 k (up2 (S.take i)) (up2 S) (S.length : Int) (i : Int)) (up2 S, up2 (pr S), 0) := by
  have hle := h.le
  induction d with
  | zero =>
    intro i hi hd
    refine Ev.succ ?_; simp only [graph_Make.l0]
    refine Ev.ifn (by omega) ?_
    rw [List.take_of_length_le (by omega)]
    exact Ev.bind (preds_ok h) Ev.pure
  | succ d ih =>
    intro i hi hd
    have h1 : i < S.length := by omega
    have hlen := gr_len h h1
    refine Ev.succ ?_; simp only [graph_Make.l0]
    refine Ev.ifp (by omega) (Ev.ifp (by omega) (Ev.ifp (by simp; omega) ?_))
    rw [rdL_up, clone_ok _ (by rw [up_length]; omega)]
    simp only [Option.bind_some]
    refine Ev.ifp (by simp; omega) ?_
    have e : up2 (S.take i) ++ [up (S.getD i [])] = up2 (S.take (i + 1)) := by rw [take_getD S i [] h1]; simp [up2]
    rw [e, wrap_nat (by omega)]
    exact ih (i + 1) (by omega) (by omega)
theorem make_ok {S : List (List Nat)} (h : Gr S) : Ev (fun k => graph_Make.f k (up2 S)) (up2 S, up2 (pr S), 0) := by
  have hle := h.le; have hpos := h.pos
  have hg := gr_good h
  simp only [goodb, Bool.and_eq_true, decide_eq_true_eq, List.all_eq_true] at hg
  unfold graph_Make.f
  refine Ev.ifn (by simp; omega) (Ev.ifn (by simp; omega) ?_)
  have hrow : ∀ l ∈ up2 S, l.length ≤ big := by
    intro l hl
    obtain ⟨r, hr, rfl⟩ := List.mem_map.mp hl
    obtain ⟨i, hi, hri⟩ := List.getElem_of_mem hr
    have hsub := gr_len h hi
    rw [List.getD_eq_getElem?_getD, List.getElem?_eq_getElem hi, hri, Option.getD_some] at hsub
    rw [up_length]; simp only [big]; omega
  refine Ev.bind (contains_ok (up2 S) _ (by simp [big]; omega) hrow) ?_
  have e : (up2 S).any (fun l => !rsg ((up2 S).length : Int) (-1) l) = false := by
    rw [List.any_eq_false]
    intro l hl; rw [hg.2.2 l hl]; decide
  rw [e]
  refine Ev.succ ?_; simp only [graph_Make.j0]
  refine Ev.ifn (by decide) (Ev.ifp (by omega) (Ev.ifp (by simp; omega) ?_))
  simpa using make_l0 h S.length 0 (by omega) (by omega)
theorem make_bad {s : List (List Int)} (hb : s.length ≤ big) (hr : ∀ l ∈ s, l.length ≤ big) (h : goodb s = false) : Ev (fun k => graph_Make.f k s) ([], [], 5) := by
  unfold graph_Make.f
  have hj : ∀ n, Ev (fun k => graph_Make.j0 k s true n) (([] : List (List Int)), ([] : List (List Int)), (5 : Int)) := by
    intro n; refine Ev.succ ?_; simp only [graph_Make.j0]; exact Ev.ifp trivial Ev.pure
  by_cases h1 : (s.length : Int) < 1
  · exact Ev.ifp h1 (hj _)
  · refine Ev.ifn h1 ?_
    by_cases h2 : (s.length : Int) > 64
    · exact Ev.ifp h2 (hj _)
    · refine Ev.ifn h2 (Ev.bind (contains_ok s _ hb hr) ?_)
      have e : s.any (fun l => !rsg (s.length : Int) (-1) l) = true := by
        simp only [goodb] at h
        rw [decide_eq_true (by omega), decide_eq_true (by omega), Bool.true_and, Bool.true_and] at h
        rw [← Bool.not_eq_false, List.any_eq_false]
        intro hc
        have : s.all (rsg (s.length : Int) (-1)) = true := List.all_eq_true.mpr (fun l hl => by have := hc l hl; simpa using this)
        rw [h] at this; cases this
      rw [e]; exact hj _

theorem equal_l0 (d : Nat) : ∀ (i : Nat) (a b : List Int), a.length = b.length → a.length ≤ big → i ≤ a.length → a.length - i = d → Ev (fun k => slices_Equal_int_int.l0 k a b (a.length : Int) (i : Int)) (decide (a.drop i = b.drop i)) := by
  induction d with
  | zero =>
    intro i a b hl hb hi hd
    refine Ev.succ ?_; simp only [slices_Equal_int_int.l0]
    refine Ev.ifn (by omega) ?_
    rw [List.drop_of_length_le (by omega), List.drop_of_length_le (by omega)]
    exact Ev.pure.of_eq (by simp)
  | succ d ih =>
    intro i a b hl hb hi hd
    have hbb : big = 9223372036854775807 := rfl
    refine Ev.succ ?_; simp only [slices_Equal_int_int.l0]
    refine Ev.ifp (by omega) (Ev.ifp (by omega) (Ev.ifp (by omega) (Ev.ifp (by omega) ?_)))
    rw [show rd a (i : Int) = a.getD i 0 by simp [rd], show rd b (i : Int) = b.getD i 0 by simp [rd]]
    rw [drop_getD a i 0 (by omega), drop_getD b i 0 (by omega)]
    by_cases h : a.getD i 0 = b.getD i 0
    · refine Ev.ifp h ?_
      rw [wrap_nat (by omega)]
      exact (ih (i + 1) a b hl hb (by omega) (by omega)).of_eq (by rw [h]; simp)
    · refine Ev.ifn h (Ev.pure.of_eq ?_)
      rw [decide_eq_false]
      intro he; injection he with h1 _; exact h h1
theorem equal_ok (a b : List Int) (hb : a.length ≤ big) : Ev (fun k => slices_Equal_int_int.f k a b) (decide (a = b)) := by
  unfold slices_Equal_int_int.f
  by_cases h : a.length = b.length
  · refine Ev.ifp (by omega) ?_
    simpa using equal_l0 a.length 0 a b h hb (by omega) (by omega)
  · refine Ev.ifn (by omega) (Ev.pure.of_eq ?_)
    rw [decide_eq_false]
    intro he; exact h (by rw [he])
theorem eqf_l0 (d : Nat) : ∀ (i : Nat) (a b : List (List Int)), a.length = b.length → a.length ≤ big → (∀ l ∈ a, l.length ≤ big) → i ≤ a.length → a.length - i = d → Ev (fun k => slices_EqualFunc_int_int_int_int_slices_Equal_int_int.l0 k b a (a.length : Int) (i : Int)) (decide (a.drop i = b.drop i)) := by
  induction d with
  | zero =>
    intro i a b hl hb hr hi hd
    refine Ev.succ ?_; simp only [slices_EqualFunc_int_int_int_int_slices_Equal_int_int.l0]
    refine Ev.ifn (by omega) ?_
    rw [List.drop_of_length_le (by omega), List.drop_of_length_le (by omega)]
    exact Ev.pure.of_eq (by simp)
  | succ d ih =>
    intro i a b hl hb hr hi hd
    have hbb : big = 9223372036854775807 := rfl
    refine Ev.succ ?_; simp only [slices_EqualFunc_int_int_int_int_slices_Equal_int_int.l0]
    refine Ev.ifp (by omega) (Ev.ifp (by omega) (Ev.ifp (by omega) (Ev.ifp (by omega) ?_)))
    rw [show rd_L1 a (i : Int) = a.getD i [] by simp [rd_L1], show rd_L1 b (i : Int) = b.getD i [] by simp [rd_L1]]
    refine Ev.bind (equal_ok _ _ (hr _ (getD_mem (by omega)))) ?_
    rw [drop_getD a i [] (by omega), drop_getD b i [] (by omega)]
    by_cases h : a.getD i [] = b.getD i []
    · refine Ev.ifp (by rw [decide_eq_true h]) ?_
      rw [wrap_nat (by omega)]
      exact (ih (i + 1) a b hl hb hr (by omega) (by omega)).of_eq (by rw [h]; simp)
    · refine Ev.ifn (by rw [decide_eq_false h]; decide) (Ev.pure.of_eq ?_)
      rw [decide_eq_false]
      intro he; injection he with h1 _; exact h h1
theorem eqf_ok (a b : List (List Int)) (hb : a.length ≤ big) (hr : ∀ l ∈ a, l.length ≤ big) : Ev (fun k => slices_EqualFunc_int_int_int_int_slices_Equal_int_int.f k a b) (decide (a = b)) := by
  unfold slices_EqualFunc_int_int_int_int_slices_Equal_int_int.f
  by_cases h : a.length = b.length
  · refine Ev.ifp (by omega) ?_
    simpa using eqf_l0 a.length 0 a b h hb hr (by omega) (by omega)
  · refine Ev.ifn (by omega) (Ev.pure.of_eq ?_)
    rw [decide_eq_false]
    intro he; exact h (by rw [he])

theorem pr_length (S : List (List Nat)) : (pr S).length = S.length := by simp [pr]
theorem pr_getD {S : List (List Nat)} {j : Nat} (hj : j < S.length) : (pr S).getD j [] = (List.range S.length).filter fun i => decide (j ∈ S.getD i []) := getD_map_range _ _ _ _ hj
theorem mem_pr {S : List (List Nat)} {i j : Nat} (hj : j < S.length) : i ∈ (pr S).getD j [] ↔ i < S.length ∧ j ∈ S.getD i [] := by
  rw [pr_getD hj]; simp
theorem gr_pr {S : List (List Nat)} (h : Gr S) : Gr (pr S) := by
  refine ⟨by rw [pr_length]; exact h.pos, by rw [pr_length]; exact h.le, fun i hi => ?_⟩
  rw [pr_length] at hi ⊢
  refine ⟨?_, fun y hy => ((mem_pr hi).mp hy).1⟩
  rw [pr_getD hi]
  exact List.pairwise_lt_range.filter _
theorem sorted_ext : ∀ (a b : List Nat), a.Pairwise (· < ·) → b.Pairwise (· < ·) → (∀ x, x ∈ a ↔ x ∈ b) → a = b := by
  intro a
  induction a with
  | nil =>
    intro b _ _ h
    cases b with
    | nil => rfl
    | cons y b => exact absurd ((h y).mpr (List.mem_cons_self ..)) (by simp)
  | cons x a ih =>
    intro b ha hb h
    cases b with
    | nil => exact absurd ((h x).mp (List.mem_cons_self ..)) (by simp)
    | cons y b =>
      obtain ⟨ha1, ha2⟩ := List.pairwise_cons.mp ha
      obtain ⟨hb1, hb2⟩ := List.pairwise_cons.mp hb
      have e : x = y := by
        rcases List.mem_cons.mp ((h x).mp (List.mem_cons_self ..)) with e | e
        · exact e
        · rcases List.mem_cons.mp ((h y).mpr (List.mem_cons_self ..)) with e' | e'
          · exact e'.symm
          · have := hb1 x e; have := ha1 y e'; omega
      subst e
      rw [ih b ha2 hb2 (fun z => ⟨fun hz => ?_, fun hz => ?_⟩)]
      · rcases List.mem_cons.mp ((h z).mp (List.mem_cons_of_mem _ hz)) with e | e
        · have := ha1 z hz; omega
        · exact e
      · rcases List.mem_cons.mp ((h z).mpr (List.mem_cons_of_mem _ hz)) with e | e
        · have := hb1 z hz; omega
        · exact e
theorem pr_pr {S : List (List Nat)} (h : Gr S) : pr (pr S) = S := by
  have h1 := gr_pr h; have h2 := gr_pr h1
  refine ext_getD [] (by rw [pr_length, pr_length]) (fun i hi => ?_)
  rw [pr_length, pr_length] at hi
  refine sorted_ext _ _ (h2.row i (by rw [pr_length, pr_length]; exact hi)).1 (h.row i hi).1 (fun x => ?_)
  rw [mem_pr (by rw [pr_length]; exact hi), pr_length]
  constructor
  · rintro ⟨hx, hm⟩; exact ((mem_pr hx).mp hm).2
  · intro hm
    have hx := (h.row i hi).2 x hm
    exact ⟨hx, (mem_pr hx).mpr ⟨hi, hm⟩⟩
theorem gr_rows {S : List (List Nat)} (h : Gr S) : ∀ l ∈ up2 S, l.length ≤ 64 := by
  intro l hl
  obtain ⟨r, hr, rfl⟩ := List.mem_map.mp hl
  obtain ⟨i, hi, hri⟩ := List.getElem_of_mem hr
  have hsub := gr_len h hi
  rw [List.getD_eq_getElem?_getD, List.getElem?_eq_getElem hi, hri, Option.getD_some] at hsub
  rw [up_length]; exact hsub

theorem may_ok {S : List (List Nat)} (h : Gr S) (p : List (List Int)) : Ev (fun k => graph_May.f k (up2 S) p) (decide (up2 (pr S) = p)) := by
  unfold graph_May.f
  refine Ev.bind (make_ok h) ?_
  refine Ev.ifp rfl ?_
  have hle := (gr_pr h).le
  exact Ev.bind (eqf_ok _ _ (by rw [up2_length]; simp only [big]; omega) (fun l hl => by have := gr_rows (gr_pr h) l hl; simp only [big]; omega)) Ev.pure
theorem may_bad {s : List (List Int)} (hb : s.length ≤ big) (hr : ∀ l ∈ s, l.length ≤ big) (h : goodb s = false) (p : List (List Int)) : Ev (fun k => graph_May.f k s p) false := by
  unfold graph_May.f
  refine Ev.bind (make_bad hb hr h) ?_
  exact Ev.ifn (by decide) Ev.pure
end Go.Proofs.Ytheillkpgmpnlaa.GP
