/- kind.takes, the kinds from 20 on; all of it. No conditions beyond each theorem's own. -/
import Derived.Test.YtblhphjdjpodcaaHTb
import Derived.Test.YtblhphjdjpodcaaHTc
import Derived.Deep.RegionHeld3
import Derived.Deep.RegionHeldLaw
namespace Go.Proofs.Ytblhphjdjpodcaa.Q
open Go.Proofs.YtblhphjdjpodcaaH
open Go Go.RowKit Go.Proofs.YtblhphjdjpodcaaW.PrintWords Go.Proofs.YtblhphjdjpodcaaW.PrintLast Go.Proofs.YtblhphjdjpodcaaW.PrintMore
attribute [local go_sem] max2_int min2_int max_two min_two max_three min_three max_four min_four
set_option linter.unusedVariables false
set_option linter.unusedSimpArgs false
set_option maxHeartbeats 8000000 in
set_option maxRecDepth 100000 in
theorem takes_d (a0_0 : Int) (a0_1 : Int) (a0_2 : Int) (a0_3 : Int) (A0_4 : Option Addr) (c0_4 : Nat) (l0_4 : List Int) (a0_5 : Int) (r1 : List S37) (r2 : Bool) (w : World) (h : kind_takes.f a0_0 a0_1 a0_2 a0_3 l0_4 a0_5 = some (r1, r2)) (hk : a0_0 = 20 ∨ a0_0 = 21 ∨ a0_0 = 22) : TakesAfter a0_0 a0_1 a0_2 a0_3 A0_4 c0_4 l0_4 a0_5 r1 r2 w := by
    intro gb105 g4 g5 g6 g7 wc u8 u9 u10 u11 u12 u13 u14 u15 u16 u17 u18 u19 u20 u21 u22 u23 u24 u25 u26 u27 u28 u29 u30 u31 u32 u33 u34 u35 u36 u37 u38 u39 u40 u41 u42 u43 u44 u45 u46 u47 u48 u49 u50 u51 u52 u53 u54 u55 u56 u57 u58 u59 u60 u61 u62 u63 u64 u65 u66 u67 u68 u69 u70 u71 u72 u73 u74 u75 u76 u77 u78 u79 u80 u81 u82 u83 u84 u85 u86 u87 u88 u89 u90 u91 u92 u93 u94 u95 u96 u97 u98 u99 u100 u101 u102 u103 u104 u105 u106 u107 u108 u109 u110 u111 u112 u113 u114 u115 u116 u117 u118 u119 u120 u121 u122 u123 u124 u125 u126 u127 u128 u129 u130 u131 u132 u133 u134 u135 u136 u137 u138 u139 u140 u141 u142 u143 u144 u145 u146 u147 u148 u149 u150 u151 u152 u153 u154 u155 u156 u157 u158 u159 u160 u161 u162 u163 u164 u165 u166 u167 u168 u169 u170 u171 u172 u173 u174 u175 u176 u177 u178 u179 u180 u181 u182 u183 u184 u185 u186 u187 u188 u189 u190 u191 u192 u193 u194 u195 u196 u197 u198 u199 u200 u201 u202 u203 u204 u205 u206 u207 u208 u209 u210 u211 u212 u213 u214 u215 q105 q4 q5 q6 q7 qB
    have BK105 := Aside0.mk q105
    have BK4 := Aside0.mk q4
    have BK5 := Aside0.mk q5
    have BK6 := Aside0.mk q6
    have BK7 := Aside0.mk q7
    have HB := Aside0.mk qB
    clear q105 q4 q5 q6 q7 qB
    have hu27 := Try.underlying27
    have hu37 := Try.underlying37
    unfold takesRest
    delta Try.f24
    dsimp only [restOf]
    have z0 : wc.cell? ⟨gb105, 0, none⟩ = some (.int .i64 a0_0) := (blk_cell BK105.out 0).trans rfl
    have z1 : wc.cell? ⟨gb105, 1, none⟩ = some (.int .i64 a0_1) := (blk_cell BK105.out 1).trans rfl
    have z2 : wc.cell? ⟨gb105, 2, none⟩ = some (.int .i64 a0_2) := (blk_cell BK105.out 2).trans rfl
    have z5 : wc.cell? ⟨gb105, 5, none⟩ = some (.int .u64 a0_5) := (blk_cell BK105.out 5).trans rfl
    have y40 : wc.cell? ⟨g4, 0, none⟩ = some (.int .i64 a0_1) := (blk_cell BK4.out 0).trans rfl
    have y41 : wc.cell? ⟨g4, 1, none⟩ = some (.int .i64 a0_2) := (blk_cell BK4.out 1).trans rfl
    have y50 : wc.cell? ⟨g5, 0, none⟩ = some (.int .i64 a0_1) := (blk_cell BK5.out 0).trans rfl
    have y51 : wc.cell? ⟨g5, 1, none⟩ = some (.int .i64 1) := (blk_cell BK5.out 1).trans rfl
    have y60 : wc.cell? ⟨g6, 0, none⟩ = some (.int .i64 1) := (blk_cell BK6.out 0).trans rfl
    have y61 : wc.cell? ⟨g6, 1, none⟩ = some (.int .i64 1) := (blk_cell BK6.out 1).trans rfl
    have y70 : wc.cell? ⟨g7, 0, none⟩ = some (.int .i64 64) := (blk_cell BK7.out 0).trans rfl
    have y71 : wc.cell? ⟨g7, 1, none⟩ = some (.int .i64 1) := (blk_cell BK7.out 1).trans rfl
    have hn4 := World.new_ne wc _ y40
    have hn5 := World.new_ne wc _ y50
    have hn6 := World.new_ne wc _ y60
    have hn7 := World.new_ne wc _ y70
    have hnb := World.new_ne wc _ z0
    go_wp2
    go_region_held3 (fun w' => w'.cell? ⟨gb105, 1, none⟩ = some (.int .i64 a0_1) ∧ w'.cell? ⟨gb105, 2, none⟩ = some (.int .i64 a0_2)) (go_keep) (fail)
    by_cases h120 : a0_0 = 20
    · subst h120
      by_cases h5 : a0_5 = 0
      · subst h5
        simp [kind_takes.f] at h
        obtain ⟨rfl, rfl⟩ := h
        go_wp2
        first | (go_region_held_law (fun w' => w'.cell? ⟨g6, 0, none⟩ = some (.int .i64 1) ∧ w'.cell? ⟨g6, 1, none⟩ = some (.int .i64 1) ∧ w'.cell? ⟨g4, 0, none⟩ = some (.int .i64 a0_1) ∧ w'.cell? ⟨g4, 1, none⟩ = some (.int .i64 a0_2) ∧ w'.cell? ⟨gb105, 5, none⟩ = some (.int .u64 0)) (go_keep) (first | (go_at_call 36; refine (kind_row.same _ _).mono ?_; rintro e w' ⟨rfl, rfl⟩))) | (go_region_held3 (fun w' => w'.cell? ⟨g6, 0, none⟩ = some (.int .i64 1) ∧ w'.cell? ⟨g6, 1, none⟩ = some (.int .i64 1) ∧ w'.cell? ⟨g4, 0, none⟩ = some (.int .i64 a0_1) ∧ w'.cell? ⟨g4, 1, none⟩ = some (.int .i64 a0_2) ∧ w'.cell? ⟨gb105, 5, none⟩ = some (.int .u64 0)) (go_keep) (first | (go_at_call 36; refine (kind_row.same _ _).mono ?_; rintro e w' ⟨rfl, rfl⟩))) | fail
        all_goals go_wp2
        all_goals (go_ret2; exact ⟨_, by first | rfl | (rw [h5b]; rfl) | (rw [h2b]; rfl) | (simp; done) | (simp [*]; done), by (with_reducible repeat (first | apply Kd.R_drewN | apply Kd.R_drew)); exact lit37 _ _ _ _ _ rfl rfl HB.out.size (by first | decide | simp [maxLen]), by repeat (first | exact HB.out | apply below_drew1 | apply pw_below_drewN | apply below_alloc)⟩)
      · have h5b : (a0_5 == 0) = false := beq_eq_false_iff_ne.mpr h5
        simp [kind_takes.f, h5, h5b] at h
        obtain ⟨rfl, rfl⟩ := h
        go_wp2
        first | (go_region_held_law (fun w' => w'.cell? ⟨g6, 0, none⟩ = some (.int .i64 1) ∧ w'.cell? ⟨g6, 1, none⟩ = some (.int .i64 1) ∧ w'.cell? ⟨g4, 0, none⟩ = some (.int .i64 a0_1) ∧ w'.cell? ⟨g4, 1, none⟩ = some (.int .i64 a0_2) ∧ w'.cell? ⟨gb105, 5, none⟩ = some (.int .u64 a0_5)) (go_keep) (first | (go_at_call 36; refine (kind_row.same _ _).mono ?_; rintro e w' ⟨rfl, rfl⟩))) | (go_region_held3 (fun w' => w'.cell? ⟨g6, 0, none⟩ = some (.int .i64 1) ∧ w'.cell? ⟨g6, 1, none⟩ = some (.int .i64 1) ∧ w'.cell? ⟨g4, 0, none⟩ = some (.int .i64 a0_1) ∧ w'.cell? ⟨g4, 1, none⟩ = some (.int .i64 a0_2) ∧ w'.cell? ⟨gb105, 5, none⟩ = some (.int .u64 a0_5)) (go_keep) (first | (go_at_call 36; refine (kind_row.same _ _).mono ?_; rintro e w' ⟨rfl, rfl⟩))) | fail
        all_goals go_wp2
        all_goals (go_ret2; exact ⟨_, by first | rfl | (rw [h5b]; rfl) | (rw [h2b]; rfl) | (simp; done) | (simp [*]; done), by (with_reducible repeat (first | apply Kd.R_drewN | apply Kd.R_drew)); exact lit37 _ _ _ _ _ rfl rfl HB.out.size (by first | decide | simp [maxLen]), by repeat (first | exact HB.out | apply below_drew1 | apply pw_below_drewN | apply below_alloc)⟩)
    by_cases h121 : a0_0 = 21
    · subst h121
      by_cases h5 : a0_5 = 0
      · subst h5
        have h' := h
        simp only [kind_takes.f, Int.reduceEq, or_self, or_false, false_or, reduceIte] at h'
        obtain ⟨t, A0, h''⟩ := Option.bind_eq_some_iff.mp h'
        simp only [Option.some.injEq, Prod.mk.injEq] at h''
        obtain ⟨rfl, rfl⟩ := h''
        have A := Aside0.mk A0
        clear A0 h h'
        go_wp2
        first | (go_region_held_law (fun w' => w'.cell? ⟨g5, 0, none⟩ = some (.int .i64 a0_1) ∧ w'.cell? ⟨g5, 1, none⟩ = some (.int .i64 1) ∧ w'.cell? ⟨gb105, 2, none⟩ = some (.int .i64 a0_2) ∧ w'.cell? ⟨gb105, 5, none⟩ = some (.int .u64 0)) (go_keep) (first | (go_at_call 36; refine (kind_row.same _ _).mono ?_; rintro e w' ⟨rfl, rfl⟩) | (go_at_call 37; refine (slices_Repeat_2_int_2_int.calls _ 1 [⟨a0_1, 1⟩] a0_2 t _ (by (with_reducible repeat (first | apply Kd.C_drewN | apply Kd.C_drew)); exact (Kd.R_reads' (lit37 _ _ w.heap.size _ _ rfl rfl HB.out.size (by first | decide | simp [maxLen]))).2.2) (Nat.le_refl 1) A.out).mono ?_; rintro e w' ⟨v0, rfl, hR, hB⟩; have q0 := pw_cell_below hB (show World.cell? _ ⟨gb105, 5, none⟩ = some (.int .u64 0) from by simp [*, World.cell?_alloc_some]); have q1 := pw_cell_below hB (show World.cell? _ ⟨gb105, 2, none⟩ = some (.int .i64 a0_2) from by simp [*, World.cell?_alloc_some]); have q2 := pw_cell_below hB (show World.cell? _ ⟨g5, 0, none⟩ = some (.int .i64 a0_1) from by simp [*, World.cell?_alloc_some]); have q3 := pw_cell_below hB (show World.cell? _ ⟨g5, 1, none⟩ = some (.int .i64 1) from by simp [*, World.cell?_alloc_some]); have HR := Aside0.mk hR; have HW := Aside0.mk hB; clear hR hB))) | (go_region_held3 (fun w' => w'.cell? ⟨g5, 0, none⟩ = some (.int .i64 a0_1) ∧ w'.cell? ⟨g5, 1, none⟩ = some (.int .i64 1) ∧ w'.cell? ⟨gb105, 2, none⟩ = some (.int .i64 a0_2) ∧ w'.cell? ⟨gb105, 5, none⟩ = some (.int .u64 0)) (go_keep) (first | (go_at_call 36; refine (kind_row.same _ _).mono ?_; rintro e w' ⟨rfl, rfl⟩) | (go_at_call 37; refine (slices_Repeat_2_int_2_int.calls _ 1 [⟨a0_1, 1⟩] a0_2 t _ (by (with_reducible repeat (first | apply Kd.C_drewN | apply Kd.C_drew)); exact (Kd.R_reads' (lit37 _ _ w.heap.size _ _ rfl rfl HB.out.size (by first | decide | simp [maxLen]))).2.2) (Nat.le_refl 1) A.out).mono ?_; rintro e w' ⟨v0, rfl, hR, hB⟩; have q0 := pw_cell_below hB (show World.cell? _ ⟨gb105, 5, none⟩ = some (.int .u64 0) from by simp [*, World.cell?_alloc_some]); have q1 := pw_cell_below hB (show World.cell? _ ⟨gb105, 2, none⟩ = some (.int .i64 a0_2) from by simp [*, World.cell?_alloc_some]); have q2 := pw_cell_below hB (show World.cell? _ ⟨g5, 0, none⟩ = some (.int .i64 a0_1) from by simp [*, World.cell?_alloc_some]); have q3 := pw_cell_below hB (show World.cell? _ ⟨g5, 1, none⟩ = some (.int .i64 1) from by simp [*, World.cell?_alloc_some]); have HR := Aside0.mk hR; have HW := Aside0.mk hB; clear hR hB))) | fail
        all_goals go_wp2
        all_goals (go_ret2; exact ⟨_, by first | rfl | (rw [h5b]; rfl) | (rw [h2b]; rfl) | (simp; done) | (simp [*]; done), by (with_reducible repeat (first | apply Kd.R_drewN | apply Kd.R_drew)); exact Kd.R_lower HR.out (by have := HB.out.size; simp; omega), by (repeat (first | apply below_drew1 | apply pw_below_drewN)); exact below_then (by repeat (first | exact HB.out | apply below_drew1 | apply pw_below_drewN | apply below_alloc)) (by have := HB.out.size; simp; omega) HW.out⟩)
      · have h5b : (a0_5 == 0) = false := beq_eq_false_iff_ne.mpr h5
        have h' := h
        simp only [kind_takes.f, Int.reduceEq, or_self, or_false, false_or, reduceIte] at h'
        obtain ⟨t, A0, h''⟩ := Option.bind_eq_some_iff.mp h'
        simp only [Option.some.injEq, Prod.mk.injEq] at h''
        obtain ⟨rfl, rfl⟩ := h''
        have A := Aside0.mk A0
        clear A0 h h'
        go_wp2
        first | (go_region_held_law (fun w' => w'.cell? ⟨g5, 0, none⟩ = some (.int .i64 a0_1) ∧ w'.cell? ⟨g5, 1, none⟩ = some (.int .i64 1) ∧ w'.cell? ⟨gb105, 2, none⟩ = some (.int .i64 a0_2) ∧ w'.cell? ⟨gb105, 5, none⟩ = some (.int .u64 a0_5)) (go_keep) (first | (go_at_call 36; refine (kind_row.same _ _).mono ?_; rintro e w' ⟨rfl, rfl⟩) | (go_at_call 37; refine (slices_Repeat_2_int_2_int.calls _ 1 [⟨a0_1, 1⟩] a0_2 t _ (by (with_reducible repeat (first | apply Kd.C_drewN | apply Kd.C_drew)); exact (Kd.R_reads' (lit37 _ _ w.heap.size _ _ rfl rfl HB.out.size (by first | decide | simp [maxLen]))).2.2) (Nat.le_refl 1) A.out).mono ?_; rintro e w' ⟨v0, rfl, hR, hB⟩; have q0 := pw_cell_below hB (show World.cell? _ ⟨gb105, 5, none⟩ = some (.int .u64 a0_5) from by simp [*, World.cell?_alloc_some]); have q1 := pw_cell_below hB (show World.cell? _ ⟨gb105, 2, none⟩ = some (.int .i64 a0_2) from by simp [*, World.cell?_alloc_some]); have q2 := pw_cell_below hB (show World.cell? _ ⟨g5, 0, none⟩ = some (.int .i64 a0_1) from by simp [*, World.cell?_alloc_some]); have q3 := pw_cell_below hB (show World.cell? _ ⟨g5, 1, none⟩ = some (.int .i64 1) from by simp [*, World.cell?_alloc_some]); have HR := Aside0.mk hR; have HW := Aside0.mk hB; clear hR hB))) | (go_region_held3 (fun w' => w'.cell? ⟨g5, 0, none⟩ = some (.int .i64 a0_1) ∧ w'.cell? ⟨g5, 1, none⟩ = some (.int .i64 1) ∧ w'.cell? ⟨gb105, 2, none⟩ = some (.int .i64 a0_2) ∧ w'.cell? ⟨gb105, 5, none⟩ = some (.int .u64 a0_5)) (go_keep) (first | (go_at_call 36; refine (kind_row.same _ _).mono ?_; rintro e w' ⟨rfl, rfl⟩) | (go_at_call 37; refine (slices_Repeat_2_int_2_int.calls _ 1 [⟨a0_1, 1⟩] a0_2 t _ (by (with_reducible repeat (first | apply Kd.C_drewN | apply Kd.C_drew)); exact (Kd.R_reads' (lit37 _ _ w.heap.size _ _ rfl rfl HB.out.size (by first | decide | simp [maxLen]))).2.2) (Nat.le_refl 1) A.out).mono ?_; rintro e w' ⟨v0, rfl, hR, hB⟩; have q0 := pw_cell_below hB (show World.cell? _ ⟨gb105, 5, none⟩ = some (.int .u64 a0_5) from by simp [*, World.cell?_alloc_some]); have q1 := pw_cell_below hB (show World.cell? _ ⟨gb105, 2, none⟩ = some (.int .i64 a0_2) from by simp [*, World.cell?_alloc_some]); have q2 := pw_cell_below hB (show World.cell? _ ⟨g5, 0, none⟩ = some (.int .i64 a0_1) from by simp [*, World.cell?_alloc_some]); have q3 := pw_cell_below hB (show World.cell? _ ⟨g5, 1, none⟩ = some (.int .i64 1) from by simp [*, World.cell?_alloc_some]); have HR := Aside0.mk hR; have HW := Aside0.mk hB; clear hR hB))) | fail
        all_goals go_wp2
        all_goals (go_ret2; exact ⟨_, by first | rfl | (rw [h5b]; rfl) | (rw [h2b]; rfl) | (simp; done) | (simp [*]; done), by (with_reducible repeat (first | apply Kd.R_drewN | apply Kd.R_drew)); exact Kd.R_lower HR.out (by have := HB.out.size; simp; omega), by (repeat (first | apply below_drew1 | apply pw_below_drewN)); exact below_then (by repeat (first | exact HB.out | apply below_drew1 | apply pw_below_drewN | apply below_alloc)) (by have := HB.out.size; simp; omega) HW.out⟩)
    by_cases h122 : a0_0 = 22
    · subst h122
      by_cases h2 : a0_2 = 1
      · subst h2
        simp [kind_takes.f] at h
        obtain ⟨rfl, rfl⟩ := h
        go_wp2
        first | (go_region_with (first | (go_at_call 36; refine (kind_row.same _ _).mono ?_; rintro e w' ⟨rfl, rfl⟩))) | fail
        all_goals go_wp2
        all_goals (go_ret2; exact ⟨_, by first | rfl | (rw [h5b]; rfl) | (rw [h2b]; rfl) | (simp; done) | (simp [*]; done), by (with_reducible repeat (first | apply Kd.R_drewN | apply Kd.R_drew)); exact lit37 _ _ _ _ _ rfl rfl HB.out.size (by first | decide | simp [maxLen]), by repeat (first | exact HB.out | apply below_drew1 | apply pw_below_drewN | apply below_alloc)⟩)
      · have h2b : (a0_2 == 1) = false := beq_eq_false_iff_ne.mpr h2
        simp [kind_takes.f, h2, h2b] at h
        obtain ⟨rfl, rfl⟩ := h
        go_wp2
        first | (go_region_held_law (fun w' => w'.cell? ⟨g4, 0, none⟩ = some (.int .i64 a0_1) ∧ w'.cell? ⟨g4, 1, none⟩ = some (.int .i64 a0_2) ∧ w'.cell? ⟨gb105, 5, none⟩ = some (.int .u64 a0_5) ∧ w'.cell? ⟨gb105, 2, none⟩ = some (.int .i64 a0_2)) (go_keep) (first | (go_at_call 36; refine (kind_row.same _ _).mono ?_; rintro e w' ⟨rfl, rfl⟩))) | (go_region_held3 (fun w' => w'.cell? ⟨g4, 0, none⟩ = some (.int .i64 a0_1) ∧ w'.cell? ⟨g4, 1, none⟩ = some (.int .i64 a0_2) ∧ w'.cell? ⟨gb105, 5, none⟩ = some (.int .u64 a0_5) ∧ w'.cell? ⟨gb105, 2, none⟩ = some (.int .i64 a0_2)) (go_keep) (first | (go_at_call 36; refine (kind_row.same _ _).mono ?_; rintro e w' ⟨rfl, rfl⟩))) | fail
        all_goals go_wp2
        all_goals (go_ret2; exact ⟨_, by first | rfl | (rw [h5b]; rfl) | (rw [h2b]; rfl) | (simp; done) | (simp [*]; done), by (with_reducible repeat (first | apply Kd.R_drewN | apply Kd.R_drew)); exact lit37 _ _ _ _ _ rfl rfl HB.out.size (by first | decide | simp [maxLen]), by repeat (first | exact HB.out | apply below_drew1 | apply pw_below_drewN | apply below_alloc)⟩)
    omega
set_option maxHeartbeats 8000000 in
set_option maxRecDepth 100000 in
theorem takes_e (a0_0 : Int) (a0_1 : Int) (a0_2 : Int) (a0_3 : Int) (A0_4 : Option Addr) (c0_4 : Nat) (l0_4 : List Int) (a0_5 : Int) (r1 : List S37) (r2 : Bool) (w : World) (h : kind_takes.f a0_0 a0_1 a0_2 a0_3 l0_4 a0_5 = some (r1, r2)) (hk : ¬ (0 ≤ a0_0 ∧ a0_0 ≤ 22)) : TakesAfter a0_0 a0_1 a0_2 a0_3 A0_4 c0_4 l0_4 a0_5 r1 r2 w := by
    intro gb105 g4 g5 g6 g7 wc u8 u9 u10 u11 u12 u13 u14 u15 u16 u17 u18 u19 u20 u21 u22 u23 u24 u25 u26 u27 u28 u29 u30 u31 u32 u33 u34 u35 u36 u37 u38 u39 u40 u41 u42 u43 u44 u45 u46 u47 u48 u49 u50 u51 u52 u53 u54 u55 u56 u57 u58 u59 u60 u61 u62 u63 u64 u65 u66 u67 u68 u69 u70 u71 u72 u73 u74 u75 u76 u77 u78 u79 u80 u81 u82 u83 u84 u85 u86 u87 u88 u89 u90 u91 u92 u93 u94 u95 u96 u97 u98 u99 u100 u101 u102 u103 u104 u105 u106 u107 u108 u109 u110 u111 u112 u113 u114 u115 u116 u117 u118 u119 u120 u121 u122 u123 u124 u125 u126 u127 u128 u129 u130 u131 u132 u133 u134 u135 u136 u137 u138 u139 u140 u141 u142 u143 u144 u145 u146 u147 u148 u149 u150 u151 u152 u153 u154 u155 u156 u157 u158 u159 u160 u161 u162 u163 u164 u165 u166 u167 u168 u169 u170 u171 u172 u173 u174 u175 u176 u177 u178 u179 u180 u181 u182 u183 u184 u185 u186 u187 u188 u189 u190 u191 u192 u193 u194 u195 u196 u197 u198 u199 u200 u201 u202 u203 u204 u205 u206 u207 u208 u209 u210 u211 u212 u213 u214 u215 q105 q4 q5 q6 q7 qB
    have BK105 := Aside0.mk q105
    have BK4 := Aside0.mk q4
    have BK5 := Aside0.mk q5
    have BK6 := Aside0.mk q6
    have BK7 := Aside0.mk q7
    have HB := Aside0.mk qB
    clear q105 q4 q5 q6 q7 qB
    have hu27 := Try.underlying27
    have hu37 := Try.underlying37
    unfold takesRest
    delta Try.f24
    dsimp only [restOf]
    have z0 : wc.cell? ⟨gb105, 0, none⟩ = some (.int .i64 a0_0) := (blk_cell BK105.out 0).trans rfl
    have z1 : wc.cell? ⟨gb105, 1, none⟩ = some (.int .i64 a0_1) := (blk_cell BK105.out 1).trans rfl
    have z2 : wc.cell? ⟨gb105, 2, none⟩ = some (.int .i64 a0_2) := (blk_cell BK105.out 2).trans rfl
    have z5 : wc.cell? ⟨gb105, 5, none⟩ = some (.int .u64 a0_5) := (blk_cell BK105.out 5).trans rfl
    have y40 : wc.cell? ⟨g4, 0, none⟩ = some (.int .i64 a0_1) := (blk_cell BK4.out 0).trans rfl
    have y41 : wc.cell? ⟨g4, 1, none⟩ = some (.int .i64 a0_2) := (blk_cell BK4.out 1).trans rfl
    have y50 : wc.cell? ⟨g5, 0, none⟩ = some (.int .i64 a0_1) := (blk_cell BK5.out 0).trans rfl
    have y51 : wc.cell? ⟨g5, 1, none⟩ = some (.int .i64 1) := (blk_cell BK5.out 1).trans rfl
    have y60 : wc.cell? ⟨g6, 0, none⟩ = some (.int .i64 1) := (blk_cell BK6.out 0).trans rfl
    have y61 : wc.cell? ⟨g6, 1, none⟩ = some (.int .i64 1) := (blk_cell BK6.out 1).trans rfl
    have y70 : wc.cell? ⟨g7, 0, none⟩ = some (.int .i64 64) := (blk_cell BK7.out 0).trans rfl
    have y71 : wc.cell? ⟨g7, 1, none⟩ = some (.int .i64 1) := (blk_cell BK7.out 1).trans rfl
    have hn4 := World.new_ne wc _ y40
    have hn5 := World.new_ne wc _ y50
    have hn6 := World.new_ne wc _ y60
    have hn7 := World.new_ne wc _ y70
    have hnb := World.new_ne wc _ z0
    go_wp2
    go_region_held3 (fun w' => w'.cell? ⟨gb105, 1, none⟩ = some (.int .i64 a0_1) ∧ w'.cell? ⟨gb105, 2, none⟩ = some (.int .i64 a0_2)) (go_keep) (fail)
    have h100 : ¬ a0_0 = 0 := by omega
    have h101 : ¬ a0_0 = 1 := by omega
    have h102 : ¬ a0_0 = 2 := by omega
    have h103 : ¬ a0_0 = 3 := by omega
    have h104 : ¬ a0_0 = 4 := by omega
    have h105 : ¬ a0_0 = 5 := by omega
    have h106 : ¬ a0_0 = 6 := by omega
    have h107 : ¬ a0_0 = 7 := by omega
    have h108 : ¬ a0_0 = 8 := by omega
    have h109 : ¬ a0_0 = 9 := by omega
    have h110 : ¬ a0_0 = 10 := by omega
    have h111 : ¬ a0_0 = 11 := by omega
    have h112 : ¬ a0_0 = 12 := by omega
    have h113 : ¬ a0_0 = 13 := by omega
    have h114 : ¬ a0_0 = 14 := by omega
    have h115 : ¬ a0_0 = 15 := by omega
    have h116 : ¬ a0_0 = 16 := by omega
    have h117 : ¬ a0_0 = 17 := by omega
    have h118 : ¬ a0_0 = 18 := by omega
    have h119 : ¬ a0_0 = 19 := by omega
    have h120 : ¬ a0_0 = 20 := by omega
    have h121 : ¬ a0_0 = 21 := by omega
    have h122 : ¬ a0_0 = 22 := by omega
    clear hk
    simp [kind_takes.f, h100, h101, h102, h103, h104, h105, h106, h107, h108, h109, h110, h111, h112, h113, h114, h115, h116, h117, h118, h119, h120, h121, h122] at h
    obtain ⟨rfl, rfl⟩ := h
    have b0 : (a0_0 == 0) = false := beq_eq_false_iff_ne.mpr h100
    have b1 : (a0_0 == 1) = false := beq_eq_false_iff_ne.mpr h101
    have b2 : (a0_0 == 2) = false := beq_eq_false_iff_ne.mpr h102
    have b3 : (a0_0 == 3) = false := beq_eq_false_iff_ne.mpr h103
    have b4 : (a0_0 == 4) = false := beq_eq_false_iff_ne.mpr h104
    have b5 : (a0_0 == 5) = false := beq_eq_false_iff_ne.mpr h105
    have b6 : (a0_0 == 6) = false := beq_eq_false_iff_ne.mpr h106
    have b7 : (a0_0 == 7) = false := beq_eq_false_iff_ne.mpr h107
    have b8 : (a0_0 == 8) = false := beq_eq_false_iff_ne.mpr h108
    have b9 : (a0_0 == 9) = false := beq_eq_false_iff_ne.mpr h109
    have b10 : (a0_0 == 10) = false := beq_eq_false_iff_ne.mpr h110
    have b11 : (a0_0 == 11) = false := beq_eq_false_iff_ne.mpr h111
    have b12 : (a0_0 == 12) = false := beq_eq_false_iff_ne.mpr h112
    have b13 : (a0_0 == 13) = false := beq_eq_false_iff_ne.mpr h113
    have b14 : (a0_0 == 14) = false := beq_eq_false_iff_ne.mpr h114
    have b15 : (a0_0 == 15) = false := beq_eq_false_iff_ne.mpr h115
    have b16 : (a0_0 == 16) = false := beq_eq_false_iff_ne.mpr h116
    have b17 : (a0_0 == 17) = false := beq_eq_false_iff_ne.mpr h117
    have b18 : (a0_0 == 18) = false := beq_eq_false_iff_ne.mpr h118
    have b19 : (a0_0 == 19) = false := beq_eq_false_iff_ne.mpr h119
    have b20 : (a0_0 == 20) = false := beq_eq_false_iff_ne.mpr h120
    have b21 : (a0_0 == 21) = false := beq_eq_false_iff_ne.mpr h121
    have b22 : (a0_0 == 22) = false := beq_eq_false_iff_ne.mpr h122
    go_wp2
    go_ret2
    exact ⟨_, by first | rfl | (rw [h5b]; rfl) | (rw [h2b]; rfl) | (simp; done) | (simp [*]; done), Kd.R_nil _ _ _ _ _, by repeat (first | exact HB.out | apply below_drew1 | apply pw_below_drewN | apply below_alloc)⟩
set_option maxHeartbeats 8000000 in
set_option maxRecDepth 100000 in
theorem takes_all (a0_0 : Int) (a0_1 : Int) (a0_2 : Int) (a0_3 : Int) (A0_4 : Option Addr) (c0_4 : Nat) (l0_4 : List Int) (a0_5 : Int) (r1 : List S37) (r2 : Bool) (w : World) (h : kind_takes.f a0_0 a0_1 a0_2 a0_3 l0_4 a0_5 = some (r1, r2)) :
    Calls Try.prog 24 #[.agg #[.int .i64 a0_0, .int .i64 a0_1, .int .i64 a0_2, .int .i64 a0_3, .slice A0_4 l0_4.length c0_4, .int .u64 a0_5]] w (fun e w' => ∃ v0_ : Value, e = .returned (.tuple #[v0_, .bool r2]) ∧ Kd.R k37 37 w' w.heap.size (fun _ => True) v0_ r1 ∧ Below w.heap.size w w') := by
  refine takes_first a0_0 a0_1 a0_2 a0_3 A0_4 c0_4 l0_4 a0_5 r1 r2 w ?_
  by_cases hb : a0_0 = 0 ∨ a0_0 = 1 ∨ a0_0 = 2 ∨ a0_0 = 3 ∨ a0_0 = 5 ∨ a0_0 = 6 ∨ a0_0 = 7 ∨ a0_0 = 8 ∨ a0_0 = 9 ∨ a0_0 = 4 ∨ a0_0 = 10 ∨ a0_0 = 11 ∨ a0_0 = 12 ∨ a0_0 = 13
  · exact takes_b a0_0 a0_1 a0_2 a0_3 A0_4 c0_4 l0_4 a0_5 r1 r2 w h hb
  by_cases hc : a0_0 = 14 ∨ a0_0 = 15 ∨ a0_0 = 16 ∨ a0_0 = 17 ∨ a0_0 = 18 ∨ a0_0 = 19
  · exact takes_c a0_0 a0_1 a0_2 a0_3 A0_4 c0_4 l0_4 a0_5 r1 r2 w h hc
  by_cases hd : a0_0 = 20 ∨ a0_0 = 21 ∨ a0_0 = 22
  · exact takes_d a0_0 a0_1 a0_2 a0_3 A0_4 c0_4 l0_4 a0_5 r1 r2 w h hd
  exact takes_e a0_0 a0_1 a0_2 a0_3 A0_4 c0_4 l0_4 a0_5 r1 r2 w h (by omega)
end Go.Proofs.Ytblhphjdjpodcaa.Q
