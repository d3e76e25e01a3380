/- kind.takes: its plain form; up to its four variables. No conditions beyond each theorem's own. -/
import Derived.Test.YtblhphjdjpodcaaHTr
import Derived.Test.YtblhphjdjpodcaaQx4
import Derived.Test.YtblhphjdjpodcaaQx2
import Derived.Deep.RegionHeld3
namespace Go.Proofs.Ytblhphjdjpodcaa.Q
open Go.Proofs.YtblhphjdjpodcaaH
open Go Go.RowKit Go.Proofs.YtblhphjdjpodcaaW.PrintWords Go.Proofs.YtblhphjdjpodcaaW.PrintLast Go.Proofs.YtblhphjdjpodcaaW.PrintMore
attribute [local go_sem] max2_int min2_int max_two min_two max_three min_three max_four min_four
set_option linter.unusedVariables false
set_option linter.unusedSimpArgs false
def kind_takes.f (a0_0 a0_1 a0_2 a0_3 : Int) (l0_4 : List Int) (a0_5 : Int) : Option (List S37 × Bool) :=
  if a0_0 = 0 then (word_Cut.f a0_5 a0_1).bind fun t => some ([], t == a0_5)
  else if a0_0 = 1 ∨ a0_0 = 2 ∨ a0_0 = 3 ∨ a0_0 = 5 ∨ a0_0 = 6 ∨ a0_0 = 7 ∨ a0_0 = 8 ∨ a0_0 = 9 then some ([⟨a0_1, a0_2⟩, ⟨a0_1, a0_2⟩], a0_5 == 0)
  else if a0_0 = 4 ∨ a0_0 = 10 ∨ a0_0 = 11 ∨ a0_0 = 12 then some ([⟨a0_1, a0_2⟩, ⟨a0_1, a0_2⟩], a0_5 == 0 && a0_2 == 1)
  else if a0_0 = 13 then some ([⟨1, 1⟩, ⟨a0_1, a0_2⟩, ⟨a0_1, a0_2⟩], a0_5 == 0)
  else if a0_0 = 14 then (if a0_2 = 1 ∧ a0_5 < IntKind.u64.wrap a0_1 then (word_May.f (wrap64 a0_5)).bind fun t => some ([⟨wrap64 (mn a0_5 128), 1⟩], t) else some ([⟨wrap64 (mn a0_5 128), 1⟩], false))
  else if a0_0 = 15 then (if a0_2 = 1 ∧ a0_5 > IntKind.u64.wrap a0_1 ∧ a0_5 ≤ 64 then (word_May.f (wrap64 a0_5)).bind fun t => some ([⟨wrap64 (mn a0_5 128), 1⟩], t) else some ([⟨wrap64 (mn a0_5 128), 1⟩], false))
  else if a0_0 = 16 then some ([⟨64, 1⟩], a0_5 == 0 && decide (a0_1 ≥ 8))
  else if a0_0 = 17 then some ([⟨64, 1⟩, ⟨a0_1, a0_2⟩], a0_5 == 0 && decide (a0_1 ≥ 8))
  else if a0_0 = 18 ∨ a0_0 = 19 then some ([⟨1, 1⟩, ⟨64, 1⟩, ⟨a0_1, a0_2⟩], a0_5 == 0 && (a0_2 == 1 && decide (a0_1 ≥ 8)))
  else if a0_0 = 20 then some ([⟨1, 1⟩, ⟨a0_1, a0_2⟩, ⟨a0_1, a0_2⟩, ⟨a0_1, a0_2⟩], a0_5 == 0 && a0_2 == 1)
  else if a0_0 = 21 then (slices_Repeat_2_int_2_int.f [⟨a0_1, 1⟩] a0_2).bind fun t => some (t, a0_5 == 0 && !(a0_2 == 1))
  else if a0_0 = 22 then some ([⟨a0_1, a0_2⟩], !(a0_2 == 1) && decide (a0_5 < IntKind.u64.wrap a0_2))
  else some ([], false)
theorem kind_row.same (v : Value) (w : World) : Calls Try.prog 36 #[v] w fun e w' => e = .returned v ∧ w' = w := by
  go_enter Try.func36, Try.ntmps36
  go_wp2
  go_ret
  exact ⟨rfl, rfl⟩
def cells37 (xs : List S37) : List Value := xs.flatMap fun x => [.int .i64 x.f0, .int .i64 x.f1]
theorem lit37 (W : World) (xs : List S37) (base : Nat) (cs : Array Value) (n : Nat) (hc : cs = (cells37 xs).toArray) (hn : xs.length = n) (hb : base ≤ W.heap.size) (hm : n ≤ maxLen) :
    Kd.R k37 37 (W.alloc (.cells cs 37)) base (fun _ => True) (.slice (some ⟨W.heap.size, 0, none⟩) n n) xs := by
  subst hc; subst hn
  have hl : ∀ ys : List S37, (cells37 ys).length = ys.length * 2 := by
    intro ys
    induction ys with
    | nil => rfl
    | cons y ys ih => show (_ :: _ :: cells37 ys).length = _; simp only [List.length_cons, ih]; omega
  refine ⟨fun _ _ => trivial, cells37 xs, ?_, hl xs, ?_⟩
  · have h := World.ownsRow_lit (base := base) (e := 37) (size := 2) W (cells37 xs).toArray xs.length hb hm (by simpa using hl xs)
    show World.ownsRow _ base 37 2 _ _ _
    simpa using h
  · intro j p hj
    have : ∀ (ys : List S37) (j : Nat), ys[j]? = some p → ((cells37 ys).drop (j * 2)).take 2 = [.int .i64 p.f0, .int .i64 p.f1] := by
      intro ys
      induction ys with
      | nil => intro j h; simp at h
      | cons y ys ih =>
        intro j h
        cases j with
        | zero => simp at h; subst h; rfl
        | succ j =>
          have h' : ys[j]? = some p := by simpa using h
          rw [Nat.add_mul, Nat.one_mul, Nat.add_comm, ← List.drop_drop]
          exact ih j h'
    show k37.M _ _ _ p (((cells37 xs).drop (j * 2)).take 2)
    rw [this xs j hj]
    exact k37_mkM _ _ _ p
theorem new37 {w : World} {n : Nat} {cs : Array Value} (h : n = w.heap.size) : (w.alloc (.cells cs 37)).heap[n]? = some (.cells cs 37 (0, 0)) := by subst h; exact heap_alloc_new w _
/-- What is left of a body behind its first two statements. -/
def restOf : Option Code → Code
  | some (.seq _ (.seq _ c)) => c
  | _ => .skip
/-- What is left of kind.takes behind its first two statements. -/
noncomputable def takesRest : Code := restOf Try.f24.body
def TakesAfter (a0_0 : Int) (a0_1 : Int) (a0_2 : Int) (a0_3 : Int) (A0_4 : Option Addr) (c0_4 : Nat) (l0_4 : List Int) (a0_5 : Int) (r1 : List S37) (r2 : Bool) (w : World) : Prop :=
  ∀ (gb105 g4 g5 g6 g7 : Nat) (wc : World) (u8 u9 u10 u11 u12 u13 u14 u15 u16 u17 u18 u19 u20 u21 u22 u23 u24 u25 u26 u27 u28 u29 u30 u31 u32 u33 u34 u35 u36 u37 u38 u39 u40 u41 u42 u43 u44 u45 u46 u47 u48 u49 u50 u51 u52 u53 u54 u55 u56 u57 u58 u59 u60 u61 u62 u63 u64 u65 u66 u67 u68 u69 u70 u71 u72 u73 u74 u75 u76 u77 u78 u79 u80 u81 u82 u83 u84 u85 u86 u87 u88 u89 u90 u91 u92 u93 u94 u95 u96 u97 u98 u99 u100 u101 u102 u103 u104 u105 u106 u107 u108 u109 u110 u111 u112 u113 u114 u115 u116 u117 u118 u119 u120 u121 u122 u123 u124 u125 u126 u127 u128 u129 u130 u131 u132 u133 u134 u135 u136 u137 u138 u139 u140 u141 u142 u143 u144 u145 u146 u147 u148 u149 u150 u151 u152 u153 u154 u155 u156 u157 u158 u159 u160 u161 u162 u163 u164 u165 u166 u167 u168 u169 u170 u171 u172 u173 u174 u175 u176 u177 u178 u179 u180 u181 u182 u183 u184 u185 u186 u187 u188 u189 u190 u191 u192 u193 u194 u195 u196 u197 u198 u199 u200 u201 u202 u203 u204 u205 u206 u207 u208 u209 u210 u211 u212 u213 u214 u215 : Value), wc.heap[gb105]? = some (.cells #[.int .i64 a0_0, .int .i64 a0_1, .int .i64 a0_2, .int .i64 a0_3, .slice A0_4 l0_4.length c0_4, .int .u64 a0_5] 27 (0, 0)) → wc.heap[g4]? = some (.cells #[.int .i64 a0_1, .int .i64 a0_2] 37 (0, 0)) → wc.heap[g5]? = some (.cells #[.int .i64 a0_1, .int .i64 1] 37 (0, 0)) → wc.heap[g6]? = some (.cells #[.int .i64 1, .int .i64 1] 37 (0, 0)) → wc.heap[g7]? = some (.cells #[.int .i64 64, .int .i64 1] 37 (0, 0)) → Below w.heap.size w wc → Code.wp Try.prog takesRest (bodyPost Try.prog Try.f24 (fun e w' => ∃ v0_ : Value, e = .returned (.tuple #[v0_, .bool r2]) ∧ Kd.R k37 37 w' w.heap.size (fun _ => True) v0_ r1 ∧ Below w.heap.size w w')) { tmps := #[.agg #[.int .i64 a0_0, .int .i64 a0_1, .int .i64 a0_2, .int .i64 a0_3, .slice A0_4 l0_4.length c0_4, .int .u64 a0_5], .pointer (some ⟨gb105, 0, none⟩), .slice none 0 0, .bool false, .pointer (some ⟨g4, 0, none⟩), .pointer (some ⟨g5, 0, none⟩), .pointer (some ⟨g6, 0, none⟩), .pointer (some ⟨g7, 0, none⟩), u8, u9, u10, u11, u12, u13, u14, u15, u16, u17, u18, u19, u20, u21, u22, u23, u24, u25, u26, u27, u28, u29, u30, u31, u32, u33, u34, u35, u36, u37, u38, u39, u40, u41, u42, u43, u44, u45, u46, u47, u48, u49, u50, u51, u52, u53, u54, u55, u56, u57, u58, u59, u60, u61, u62, u63, u64, u65, u66, u67, u68, u69, u70, u71, u72, u73, u74, u75, u76, u77, u78, u79, u80, u81, u82, u83, u84, u85, u86, u87, u88, u89, u90, u91, u92, u93, u94, u95, u96, u97, u98, u99, u100, u101, u102, u103, u104, u105, u106, u107, u108, u109, u110, u111, u112, u113, u114, u115, u116, u117, u118, u119, u120, u121, u122, u123, u124, u125, u126, u127, u128, u129, u130, u131, u132, u133, u134, u135, u136, u137, u138, u139, u140, u141, u142, u143, u144, u145, u146, u147, u148, u149, u150, u151, u152, u153, u154, u155, u156, u157, u158, u159, u160, u161, u162, u163, u164, u165, u166, u167, u168, u169, u170, u171, u172, u173, u174, u175, u176, u177, u178, u179, u180, u181, u182, u183, u184, u185, u186, u187, u188, u189, u190, u191, u192, u193, u194, u195, u196, u197, u198, u199, u200, u201, u202, u203, u204, u205, u206, u207, u208, u209, u210, u211, u212, u213, u214, u215], defers := [] } wc
set_option maxHeartbeats 8000000 in
set_option maxRecDepth 100000 in
theorem takes_first (a0_0 : Int) (a0_1 : Int) (a0_2 : Int) (a0_3 : Int) (A0_4 : Option Addr) (c0_4 : Nat) (l0_4 : List Int) (a0_5 : Int) (r1 : List S37) (r2 : Bool) (w : World) (H : TakesAfter a0_0 a0_1 a0_2 a0_3 A0_4 c0_4 l0_4 a0_5 r1 r2 w) :
    Calls Try.prog 24 #[.agg #[.int .i64 a0_0, .int .i64 a0_1, .int .i64 a0_2, .int .i64 a0_3, .slice A0_4 l0_4.length c0_4, .int .u64 a0_5]] w (fun e w' => ∃ v0_ : Value, e = .returned (.tuple #[v0_, .bool r2]) ∧ Kd.R k37 37 w' w.heap.size (fun _ => True) v0_ r1 ∧ Below w.heap.size w w') := by
  have hu27 := Try.underlying27
  have hu37 := Try.underlying37
  have HB := Aside0.mk (Below.refl w.heap.size w)
  go_enter Try.func24, Try.ntmps24
  try go_wp2_with (first | ((with_reducible refine gate_dst (N := 1) rfl ?_); refine box_event ?hg (N := 1) ?hd (cs := #[.int .i64 a0_0, .int .i64 a0_1, .int .i64 a0_2, .int .i64 a0_3, .slice A0_4 l0_4.length c0_4, .int .u64 a0_5]) (t := 27) ?hr ?_; (case hd => rfl); (case hg => rfl); (case hr => first | (go_simp; done) | (go_simp; rfl)); intro gb105 hg w4 hbox hb; have n0_ := Aside0.mk (below_step HB.out hb); have n1_ := Aside0.mk (hbox); have n2_ := Aside0.mk ((by rw [hg]; exact (below_size HB.out)) : w.heap.size ≤ gb105); clear HB; have HB := n0_; have BK105 := n1_; have GE105 := n2_; clear n0_ n1_ n2_; clear hb hbox hg))
  rename_i Kx hKx
  have HKx := Aside0.mk (show ∀ a w', Code.wp Try.prog takesRest (bodyPost Try.prog Try.f24 (fun e w' => ∃ v0_ : Value, e = .returned (.tuple #[v0_, .bool r2]) ∧ Kd.R k37 37 w' w.heap.size (fun _ => True) v0_ r1 ∧ Below w.heap.size w w')) a w' → Kx a w' from hKx)
  clear hKx
  have HH := Aside0.mk H
  clear H
  go_cut [4, 5, 6, 7] (fun v4 v5 v6 v7 wc => ∃ g4 g5 g6 g7 : Nat, v4 = .pointer (some ⟨g4, 0, none⟩) ∧ v5 = .pointer (some ⟨g5, 0, none⟩) ∧ v6 = .pointer (some ⟨g6, 0, none⟩) ∧ v7 = .pointer (some ⟨g7, 0, none⟩) ∧ Aside0 (wc.heap[gb105]? = some (.cells #[.int .i64 a0_0, .int .i64 a0_1, .int .i64 a0_2, .int .i64 a0_3, .slice A0_4 l0_4.length c0_4, .int .u64 a0_5] 27 (0, 0))) ∧ Aside0 (wc.heap[g4]? = some (.cells #[.int .i64 a0_1, .int .i64 a0_2] 37 (0, 0))) ∧ Aside0 (wc.heap[g5]? = some (.cells #[.int .i64 a0_1, .int .i64 1] 37 (0, 0))) ∧ Aside0 (wc.heap[g6]? = some (.cells #[.int .i64 1, .int .i64 1] 37 (0, 0))) ∧ Aside0 (wc.heap[g7]? = some (.cells #[.int .i64 64, .int .i64 1] 37 (0, 0))) ∧ Aside0 (Below w.heap.size w wc))
  case first =>
    have hlt := Aside0.mk (blk_lt BK105.out)
    have hkeep : ∀ W : World, W.heap[gb105]? = some (.cells #[.int .i64 a0_0, .int .i64 a0_1, .int .i64 a0_2, .int .i64 a0_3, .slice A0_4 l0_4.length c0_4, .int .u64 a0_5] 27 (0, 0)) → W.cell? ⟨gb105, 1, none⟩ = some (.int .i64 a0_1) ∧ W.cell? ⟨gb105, 2, none⟩ = some (.int .i64 a0_2) := fun W h => ⟨(blk_cell h 1).trans rfl, (blk_cell h 2).trans rfl⟩
    have HK := Aside0.mk hkeep
    clear hkeep
    go_region_held3 (fun w' => w'.cell? ⟨gb105, 1, none⟩ = some (.int .i64 a0_1) ∧ w'.cell? ⟨gb105, 2, none⟩ = some (.int .i64 a0_2)) (refine HK.out _ ?_ <;> repeat (first | exact BK105.out | refine blk_drew ?_ | refine blk_alloc ?_ _ | refine blk_far ?_ (by have := hlt.out; simp; omega) _)) (fail)
    all_goals go_wp2
    all_goals go_meet
    all_goals exact ⟨_, _, _, _, rfl, rfl, rfl, rfl, ⟨by repeat (first | exact BK105.out | refine blk_drew ?_ | refine blk_alloc ?_ _)⟩, ⟨by repeat (first | refine blk_drew ?_ | exact new37 (by simp) | refine blk_alloc ?_ _)⟩, ⟨by repeat (first | refine blk_drew ?_ | exact new37 (by simp) | refine blk_alloc ?_ _)⟩, ⟨by repeat (first | refine blk_drew ?_ | exact new37 (by simp) | refine blk_alloc ?_ _)⟩, ⟨by repeat (first | refine blk_drew ?_ | exact new37 (by simp) | refine blk_alloc ?_ _)⟩, ⟨by repeat (first | exact HB.out | apply below_drew1 | apply below_alloc)⟩⟩
  case rest =>
    obtain ⟨g4, g5, g6, g7, rfl, rfl, rfl, rfl, BK105, BK4, BK5, BK6, BK7, HB⟩ := hcut
    exact HKx.out _ _ (HH.out gb105 g4 g5 g6 g7 wc _ _ _ _ _ _ _ _ _ _ _ _ _ _ _ _ _ _ _ _ _ _ _ _ _ _ _ _ _ _ _ _ _ _ _ _ _ _ _ _ _ _ _ _ _ _ _ _ _ _ _ _ _ _ _ _ _ _ _ _ _ _ _ _ _ _ _ _ _ _ _ _ _ _ _ _ _ _ _ _ _ _ _ _ _ _ _ _ _ _ _ _ _ _ _ _ _ _ _ _ _ _ _ _ _ _ _ _ _ _ _ _ _ _ _ _ _ _ _ _ _ _ _ _ _ _ _ _ _ _ _ _ _ _ _ _ _ _ _ _ _ _ _ _ _ _ _ _ _ _ _ _ _ _ _ _ _ _ _ _ _ _ _ _ _ _ _ _ _ _ _ _ _ _ _ _ _ _ _ _ _ _ _ _ _ _ _ _ _ _ _ _ _ _ _ _ _ _ _ _ _ _ _ _ _ _ _ _ BK105.out BK4.out BK5.out BK6.out BK7.out HB.out)
end Go.Proofs.Ytblhphjdjpodcaa.Q
