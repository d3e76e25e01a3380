/- kind.takes, the kinds up to 13. No conditions beyond each theorem's own. -/
import Derived.Test.YtblhphjdjpodcaaHTa
import Derived.Deep.RegionHeld3
import Derived.Deep.RegionHeldLaw
namespace Go.Proofs.Ytblhphjdjpodcaa.Q
open Go.Proofs.YtblhphjdjpodcaaH
open Go Go.RowKit Go.Proofs.YtblhphjdjpodcaaW.PrintWords Go.Proofs.YtblhphjdjpodcaaW.PrintLast Go.Proofs.YtblhphjdjpodcaaW.PrintMore
attribute [local go_sem] max2_int min2_int max_two min_two max_three min_three max_four min_four
set_option linter.unusedVariables false
set_option linter.unusedSimpArgs false
set_option maxHeartbeats 8000000 in
set_option maxRecDepth 100000 in
theorem takes_b (a0_0 : Int) (a0_1 : Int) (a0_2 : Int) (a0_3 : Int) (A0_4 : Option Addr) (c0_4 : Nat) (l0_4 : List Int) (a0_5 : Int) (r1 : List S37) (r2 : Bool) (w : World) (h : kind_takes.f a0_0 a0_1 a0_2 a0_3 l0_4 a0_5 = some (r1, r2)) (hk : a0_0 = 0 ∨ a0_0 = 1 ∨ a0_0 = 2 ∨ a0_0 = 3 ∨ a0_0 = 5 ∨ a0_0 = 6 ∨ a0_0 = 7 ∨ a0_0 = 8 ∨ a0_0 = 9 ∨ a0_0 = 4 ∨ a0_0 = 10 ∨ a0_0 = 11 ∨ a0_0 = 12 ∨ a0_0 = 13) : TakesAfter a0_0 a0_1 a0_2 a0_3 A0_4 c0_4 l0_4 a0_5 r1 r2 w := by
    intro gb105 g4 g5 g6 g7 wc u8 u9 u10 u11 u12 u13 u14 u15 u16 u17 u18 u19 u20 u21 u22 u23 u24 u25 u26 u27 u28 u29 u30 u31 u32 u33 u34 u35 u36 u37 u38 u39 u40 u41 u42 u43 u44 u45 u46 u47 u48 u49 u50 u51 u52 u53 u54 u55 u56 u57 u58 u59 u60 u61 u62 u63 u64 u65 u66 u67 u68 u69 u70 u71 u72 u73 u74 u75 u76 u77 u78 u79 u80 u81 u82 u83 u84 u85 u86 u87 u88 u89 u90 u91 u92 u93 u94 u95 u96 u97 u98 u99 u100 u101 u102 u103 u104 u105 u106 u107 u108 u109 u110 u111 u112 u113 u114 u115 u116 u117 u118 u119 u120 u121 u122 u123 u124 u125 u126 u127 u128 u129 u130 u131 u132 u133 u134 u135 u136 u137 u138 u139 u140 u141 u142 u143 u144 u145 u146 u147 u148 u149 u150 u151 u152 u153 u154 u155 u156 u157 u158 u159 u160 u161 u162 u163 u164 u165 u166 u167 u168 u169 u170 u171 u172 u173 u174 u175 u176 u177 u178 u179 u180 u181 u182 u183 u184 u185 u186 u187 u188 u189 u190 u191 u192 u193 u194 u195 u196 u197 u198 u199 u200 u201 u202 u203 u204 u205 u206 u207 u208 u209 u210 u211 u212 u213 u214 u215 q105 q4 q5 q6 q7 qB
    have BK105 := Aside0.mk q105
    have BK4 := Aside0.mk q4
    have BK5 := Aside0.mk q5
    have BK6 := Aside0.mk q6
    have BK7 := Aside0.mk q7
    have HB := Aside0.mk qB
    clear q105 q4 q5 q6 q7 qB
    have hu27 := Try.underlying27
    have hu37 := Try.underlying37
    unfold takesRest
    delta Try.f24
    dsimp only [restOf]
    have z0 : wc.cell? ⟨gb105, 0, none⟩ = some (.int .i64 a0_0) := (blk_cell BK105.out 0).trans rfl
    have z1 : wc.cell? ⟨gb105, 1, none⟩ = some (.int .i64 a0_1) := (blk_cell BK105.out 1).trans rfl
    have z2 : wc.cell? ⟨gb105, 2, none⟩ = some (.int .i64 a0_2) := (blk_cell BK105.out 2).trans rfl
    have z5 : wc.cell? ⟨gb105, 5, none⟩ = some (.int .u64 a0_5) := (blk_cell BK105.out 5).trans rfl
    have y40 : wc.cell? ⟨g4, 0, none⟩ = some (.int .i64 a0_1) := (blk_cell BK4.out 0).trans rfl
    have y41 : wc.cell? ⟨g4, 1, none⟩ = some (.int .i64 a0_2) := (blk_cell BK4.out 1).trans rfl
    have y50 : wc.cell? ⟨g5, 0, none⟩ = some (.int .i64 a0_1) := (blk_cell BK5.out 0).trans rfl
    have y51 : wc.cell? ⟨g5, 1, none⟩ = some (.int .i64 1) := (blk_cell BK5.out 1).trans rfl
    have y60 : wc.cell? ⟨g6, 0, none⟩ = some (.int .i64 1) := (blk_cell BK6.out 0).trans rfl
    have y61 : wc.cell? ⟨g6, 1, none⟩ = some (.int .i64 1) := (blk_cell BK6.out 1).trans rfl
    have y70 : wc.cell? ⟨g7, 0, none⟩ = some (.int .i64 64) := (blk_cell BK7.out 0).trans rfl
    have y71 : wc.cell? ⟨g7, 1, none⟩ = some (.int .i64 1) := (blk_cell BK7.out 1).trans rfl
    have hn4 := World.new_ne wc _ y40
    have hn5 := World.new_ne wc _ y50
    have hn6 := World.new_ne wc _ y60
    have hn7 := World.new_ne wc _ y70
    have hnb := World.new_ne wc _ z0
    go_wp2
    go_region_held3 (fun w' => w'.cell? ⟨gb105, 1, none⟩ = some (.int .i64 a0_1) ∧ w'.cell? ⟨gb105, 2, none⟩ = some (.int .i64 a0_2)) (go_keep) (fail)
    by_cases h100 : a0_0 = 0
    · subst h100
      have h' := h
      simp only [kind_takes.f, Int.reduceEq, or_self, or_false, false_or, reduceIte] at h'
      obtain ⟨t, A0, h''⟩ := Option.bind_eq_some_iff.mp h'
      simp only [Option.some.injEq, Prod.mk.injEq] at h''
      obtain ⟨rfl, rfl⟩ := h''
      have A := Aside0.mk A0
      clear A0 h h'
      go_wp2
      first | (go_region_held_law (fun w' => w'.cell? ⟨gb105, 5, none⟩ = some (.int .u64 a0_5) ∧ w'.cell? ⟨gb105, 1, none⟩ = some (.int .i64 a0_1)) (go_keep) (first | (go_at_call 35; refine (word_Cut.calls a0_5 a0_1 t _ A.out).mono ?_; rintro e w' ⟨rfl, ⟨nd, rfl⟩⟩))) | (go_region_held3 (fun w' => w'.cell? ⟨gb105, 5, none⟩ = some (.int .u64 a0_5) ∧ w'.cell? ⟨gb105, 1, none⟩ = some (.int .i64 a0_1)) (go_keep) (first | (go_at_call 35; refine (word_Cut.calls a0_5 a0_1 t _ A.out).mono ?_; rintro e w' ⟨rfl, ⟨nd, rfl⟩⟩))) | fail
      all_goals go_wp2
      all_goals (go_ret2; exact ⟨_, by first | rfl | (rw [h5b]; rfl) | (rw [h2b]; rfl) | (simp; done) | (simp [*]; done), Kd.R_nil _ _ _ _ _, by repeat (first | exact HB.out | apply below_drew1 | apply pw_below_drewN | apply below_alloc)⟩)
    by_cases h101 : a0_0 = 1
    · subst h101
      simp [kind_takes.f] at h
      obtain ⟨rfl, rfl⟩ := h
      go_wp2
      first | (go_region_held_law (fun w' => w'.cell? ⟨g4, 0, none⟩ = some (.int .i64 a0_1) ∧ w'.cell? ⟨g4, 1, none⟩ = some (.int .i64 a0_2) ∧ w'.cell? ⟨gb105, 5, none⟩ = some (.int .u64 a0_5)) (go_keep) (first | (go_at_call 36; refine (kind_row.same _ _).mono ?_; rintro e w' ⟨rfl, rfl⟩))) | (go_region_held3 (fun w' => w'.cell? ⟨g4, 0, none⟩ = some (.int .i64 a0_1) ∧ w'.cell? ⟨g4, 1, none⟩ = some (.int .i64 a0_2) ∧ w'.cell? ⟨gb105, 5, none⟩ = some (.int .u64 a0_5)) (go_keep) (first | (go_at_call 36; refine (kind_row.same _ _).mono ?_; rintro e w' ⟨rfl, rfl⟩))) | fail
      all_goals go_wp2
      all_goals (go_ret2; exact ⟨_, by first | rfl | (rw [h5b]; rfl) | (rw [h2b]; rfl) | (simp; done) | (simp [*]; done), by (with_reducible repeat (first | apply Kd.R_drewN | apply Kd.R_drew)); exact lit37 _ _ _ _ _ rfl rfl HB.out.size (by first | decide | simp [maxLen]), by repeat (first | exact HB.out | apply below_drew1 | apply pw_below_drewN | apply below_alloc)⟩)
    by_cases h102 : a0_0 = 2
    · subst h102
      simp [kind_takes.f] at h
      obtain ⟨rfl, rfl⟩ := h
      go_wp2
      first | (go_region_held_law (fun w' => w'.cell? ⟨g4, 0, none⟩ = some (.int .i64 a0_1) ∧ w'.cell? ⟨g4, 1, none⟩ = some (.int .i64 a0_2) ∧ w'.cell? ⟨gb105, 5, none⟩ = some (.int .u64 a0_5)) (go_keep) (first | (go_at_call 36; refine (kind_row.same _ _).mono ?_; rintro e w' ⟨rfl, rfl⟩))) | (go_region_held3 (fun w' => w'.cell? ⟨g4, 0, none⟩ = some (.int .i64 a0_1) ∧ w'.cell? ⟨g4, 1, none⟩ = some (.int .i64 a0_2) ∧ w'.cell? ⟨gb105, 5, none⟩ = some (.int .u64 a0_5)) (go_keep) (first | (go_at_call 36; refine (kind_row.same _ _).mono ?_; rintro e w' ⟨rfl, rfl⟩))) | fail
      all_goals go_wp2
      all_goals (go_ret2; exact ⟨_, by first | rfl | (rw [h5b]; rfl) | (rw [h2b]; rfl) | (simp; done) | (simp [*]; done), by (with_reducible repeat (first | apply Kd.R_drewN | apply Kd.R_drew)); exact lit37 _ _ _ _ _ rfl rfl HB.out.size (by first | decide | simp [maxLen]), by repeat (first | exact HB.out | apply below_drew1 | apply pw_below_drewN | apply below_alloc)⟩)
    by_cases h103 : a0_0 = 3
    · subst h103
      simp [kind_takes.f] at h
      obtain ⟨rfl, rfl⟩ := h
      go_wp2
      first | (go_region_held_law (fun w' => w'.cell? ⟨g4, 0, none⟩ = some (.int .i64 a0_1) ∧ w'.cell? ⟨g4, 1, none⟩ = some (.int .i64 a0_2) ∧ w'.cell? ⟨gb105, 5, none⟩ = some (.int .u64 a0_5)) (go_keep) (first | (go_at_call 36; refine (kind_row.same _ _).mono ?_; rintro e w' ⟨rfl, rfl⟩))) | (go_region_held3 (fun w' => w'.cell? ⟨g4, 0, none⟩ = some (.int .i64 a0_1) ∧ w'.cell? ⟨g4, 1, none⟩ = some (.int .i64 a0_2) ∧ w'.cell? ⟨gb105, 5, none⟩ = some (.int .u64 a0_5)) (go_keep) (first | (go_at_call 36; refine (kind_row.same _ _).mono ?_; rintro e w' ⟨rfl, rfl⟩))) | fail
      all_goals go_wp2
      all_goals (go_ret2; exact ⟨_, by first | rfl | (rw [h5b]; rfl) | (rw [h2b]; rfl) | (simp; done) | (simp [*]; done), by (with_reducible repeat (first | apply Kd.R_drewN | apply Kd.R_drew)); exact lit37 _ _ _ _ _ rfl rfl HB.out.size (by first | decide | simp [maxLen]), by repeat (first | exact HB.out | apply below_drew1 | apply pw_below_drewN | apply below_alloc)⟩)
    by_cases h105 : a0_0 = 5
    · subst h105
      simp [kind_takes.f] at h
      obtain ⟨rfl, rfl⟩ := h
      go_wp2
      first | (go_region_held_law (fun w' => w'.cell? ⟨g4, 0, none⟩ = some (.int .i64 a0_1) ∧ w'.cell? ⟨g4, 1, none⟩ = some (.int .i64 a0_2) ∧ w'.cell? ⟨gb105, 5, none⟩ = some (.int .u64 a0_5)) (go_keep) (first | (go_at_call 36; refine (kind_row.same _ _).mono ?_; rintro e w' ⟨rfl, rfl⟩))) | (go_region_held3 (fun w' => w'.cell? ⟨g4, 0, none⟩ = some (.int .i64 a0_1) ∧ w'.cell? ⟨g4, 1, none⟩ = some (.int .i64 a0_2) ∧ w'.cell? ⟨gb105, 5, none⟩ = some (.int .u64 a0_5)) (go_keep) (first | (go_at_call 36; refine (kind_row.same _ _).mono ?_; rintro e w' ⟨rfl, rfl⟩))) | fail
      all_goals go_wp2
      all_goals (go_ret2; exact ⟨_, by first | rfl | (rw [h5b]; rfl) | (rw [h2b]; rfl) | (simp; done) | (simp [*]; done), by (with_reducible repeat (first | apply Kd.R_drewN | apply Kd.R_drew)); exact lit37 _ _ _ _ _ rfl rfl HB.out.size (by first | decide | simp [maxLen]), by repeat (first | exact HB.out | apply below_drew1 | apply pw_below_drewN | apply below_alloc)⟩)
    by_cases h106 : a0_0 = 6
    · subst h106
      simp [kind_takes.f] at h
      obtain ⟨rfl, rfl⟩ := h
      go_wp2
      first | (go_region_held_law (fun w' => w'.cell? ⟨g4, 0, none⟩ = some (.int .i64 a0_1) ∧ w'.cell? ⟨g4, 1, none⟩ = some (.int .i64 a0_2) ∧ w'.cell? ⟨gb105, 5, none⟩ = some (.int .u64 a0_5)) (go_keep) (first | (go_at_call 36; refine (kind_row.same _ _).mono ?_; rintro e w' ⟨rfl, rfl⟩))) | (go_region_held3 (fun w' => w'.cell? ⟨g4, 0, none⟩ = some (.int .i64 a0_1) ∧ w'.cell? ⟨g4, 1, none⟩ = some (.int .i64 a0_2) ∧ w'.cell? ⟨gb105, 5, none⟩ = some (.int .u64 a0_5)) (go_keep) (first | (go_at_call 36; refine (kind_row.same _ _).mono ?_; rintro e w' ⟨rfl, rfl⟩))) | fail
      all_goals go_wp2
      all_goals (go_ret2; exact ⟨_, by first | rfl | (rw [h5b]; rfl) | (rw [h2b]; rfl) | (simp; done) | (simp [*]; done), by (with_reducible repeat (first | apply Kd.R_drewN | apply Kd.R_drew)); exact lit37 _ _ _ _ _ rfl rfl HB.out.size (by first | decide | simp [maxLen]), by repeat (first | exact HB.out | apply below_drew1 | apply pw_below_drewN | apply below_alloc)⟩)
    by_cases h107 : a0_0 = 7
    · subst h107
      simp [kind_takes.f] at h
      obtain ⟨rfl, rfl⟩ := h
      go_wp2
      first | (go_region_held_law (fun w' => w'.cell? ⟨g4, 0, none⟩ = some (.int .i64 a0_1) ∧ w'.cell? ⟨g4, 1, none⟩ = some (.int .i64 a0_2) ∧ w'.cell? ⟨gb105, 5, none⟩ = some (.int .u64 a0_5)) (go_keep) (first | (go_at_call 36; refine (kind_row.same _ _).mono ?_; rintro e w' ⟨rfl, rfl⟩))) | (go_region_held3 (fun w' => w'.cell? ⟨g4, 0, none⟩ = some (.int .i64 a0_1) ∧ w'.cell? ⟨g4, 1, none⟩ = some (.int .i64 a0_2) ∧ w'.cell? ⟨gb105, 5, none⟩ = some (.int .u64 a0_5)) (go_keep) (first | (go_at_call 36; refine (kind_row.same _ _).mono ?_; rintro e w' ⟨rfl, rfl⟩))) | fail
      all_goals go_wp2
      all_goals (go_ret2; exact ⟨_, by first | rfl | (rw [h5b]; rfl) | (rw [h2b]; rfl) | (simp; done) | (simp [*]; done), by (with_reducible repeat (first | apply Kd.R_drewN | apply Kd.R_drew)); exact lit37 _ _ _ _ _ rfl rfl HB.out.size (by first | decide | simp [maxLen]), by repeat (first | exact HB.out | apply below_drew1 | apply pw_below_drewN | apply below_alloc)⟩)
    by_cases h108 : a0_0 = 8
    · subst h108
      simp [kind_takes.f] at h
      obtain ⟨rfl, rfl⟩ := h
      go_wp2
      first | (go_region_held_law (fun w' => w'.cell? ⟨g4, 0, none⟩ = some (.int .i64 a0_1) ∧ w'.cell? ⟨g4, 1, none⟩ = some (.int .i64 a0_2) ∧ w'.cell? ⟨gb105, 5, none⟩ = some (.int .u64 a0_5)) (go_keep) (first | (go_at_call 36; refine (kind_row.same _ _).mono ?_; rintro e w' ⟨rfl, rfl⟩))) | (go_region_held3 (fun w' => w'.cell? ⟨g4, 0, none⟩ = some (.int .i64 a0_1) ∧ w'.cell? ⟨g4, 1, none⟩ = some (.int .i64 a0_2) ∧ w'.cell? ⟨gb105, 5, none⟩ = some (.int .u64 a0_5)) (go_keep) (first | (go_at_call 36; refine (kind_row.same _ _).mono ?_; rintro e w' ⟨rfl, rfl⟩))) | fail
      all_goals go_wp2
      all_goals (go_ret2; exact ⟨_, by first | rfl | (rw [h5b]; rfl) | (rw [h2b]; rfl) | (simp; done) | (simp [*]; done), by (with_reducible repeat (first | apply Kd.R_drewN | apply Kd.R_drew)); exact lit37 _ _ _ _ _ rfl rfl HB.out.size (by first | decide | simp [maxLen]), by repeat (first | exact HB.out | apply below_drew1 | apply pw_below_drewN | apply below_alloc)⟩)
    by_cases h109 : a0_0 = 9
    · subst h109
      simp [kind_takes.f] at h
      obtain ⟨rfl, rfl⟩ := h
      go_wp2
      first | (go_region_held_law (fun w' => w'.cell? ⟨g4, 0, none⟩ = some (.int .i64 a0_1) ∧ w'.cell? ⟨g4, 1, none⟩ = some (.int .i64 a0_2) ∧ w'.cell? ⟨gb105, 5, none⟩ = some (.int .u64 a0_5)) (go_keep) (first | (go_at_call 36; refine (kind_row.same _ _).mono ?_; rintro e w' ⟨rfl, rfl⟩))) | (go_region_held3 (fun w' => w'.cell? ⟨g4, 0, none⟩ = some (.int .i64 a0_1) ∧ w'.cell? ⟨g4, 1, none⟩ = some (.int .i64 a0_2) ∧ w'.cell? ⟨gb105, 5, none⟩ = some (.int .u64 a0_5)) (go_keep) (first | (go_at_call 36; refine (kind_row.same _ _).mono ?_; rintro e w' ⟨rfl, rfl⟩))) | fail
      all_goals go_wp2
      all_goals (go_ret2; exact ⟨_, by first | rfl | (rw [h5b]; rfl) | (rw [h2b]; rfl) | (simp; done) | (simp [*]; done), by (with_reducible repeat (first | apply Kd.R_drewN | apply Kd.R_drew)); exact lit37 _ _ _ _ _ rfl rfl HB.out.size (by first | decide | simp [maxLen]), by repeat (first | exact HB.out | apply below_drew1 | apply pw_below_drewN | apply below_alloc)⟩)
    by_cases h104 : a0_0 = 4
    · subst h104
      by_cases h5 : a0_5 = 0
      · subst h5
        simp [kind_takes.f] at h
        obtain ⟨rfl, rfl⟩ := h
        go_wp2
        first | (go_region_held_law (fun w' => w'.cell? ⟨g4, 0, none⟩ = some (.int .i64 a0_1) ∧ w'.cell? ⟨g4, 1, none⟩ = some (.int .i64 a0_2) ∧ w'.cell? ⟨gb105, 5, none⟩ = some (.int .u64 0)) (go_keep) (first | (go_at_call 36; refine (kind_row.same _ _).mono ?_; rintro e w' ⟨rfl, rfl⟩))) | (go_region_held3 (fun w' => w'.cell? ⟨g4, 0, none⟩ = some (.int .i64 a0_1) ∧ w'.cell? ⟨g4, 1, none⟩ = some (.int .i64 a0_2) ∧ w'.cell? ⟨gb105, 5, none⟩ = some (.int .u64 0)) (go_keep) (first | (go_at_call 36; refine (kind_row.same _ _).mono ?_; rintro e w' ⟨rfl, rfl⟩))) | fail
        all_goals go_wp2
        all_goals (go_ret2; exact ⟨_, by first | rfl | (rw [h5b]; rfl) | (rw [h2b]; rfl) | (simp; done) | (simp [*]; done), by (with_reducible repeat (first | apply Kd.R_drewN | apply Kd.R_drew)); exact lit37 _ _ _ _ _ rfl rfl HB.out.size (by first | decide | simp [maxLen]), by repeat (first | exact HB.out | apply below_drew1 | apply pw_below_drewN | apply below_alloc)⟩)
      · have h5b : (a0_5 == 0) = false := beq_eq_false_iff_ne.mpr h5
        simp [kind_takes.f, h5, h5b] at h
        obtain ⟨rfl, rfl⟩ := h
        go_wp2
        first | (go_region_held_law (fun w' => w'.cell? ⟨g4, 0, none⟩ = some (.int .i64 a0_1) ∧ w'.cell? ⟨g4, 1, none⟩ = some (.int .i64 a0_2) ∧ w'.cell? ⟨gb105, 5, none⟩ = some (.int .u64 a0_5)) (go_keep) (first | (go_at_call 36; refine (kind_row.same _ _).mono ?_; rintro e w' ⟨rfl, rfl⟩))) | (go_region_held3 (fun w' => w'.cell? ⟨g4, 0, none⟩ = some (.int .i64 a0_1) ∧ w'.cell? ⟨g4, 1, none⟩ = some (.int .i64 a0_2) ∧ w'.cell? ⟨gb105, 5, none⟩ = some (.int .u64 a0_5)) (go_keep) (first | (go_at_call 36; refine (kind_row.same _ _).mono ?_; rintro e w' ⟨rfl, rfl⟩))) | fail
        all_goals go_wp2
        all_goals (go_ret2; exact ⟨_, by first | rfl | (rw [h5b]; rfl) | (rw [h2b]; rfl) | (simp; done) | (simp [*]; done), by (with_reducible repeat (first | apply Kd.R_drewN | apply Kd.R_drew)); exact lit37 _ _ _ _ _ rfl rfl HB.out.size (by first | decide | simp [maxLen]), by repeat (first | exact HB.out | apply below_drew1 | apply pw_below_drewN | apply below_alloc)⟩)
    by_cases h110 : a0_0 = 10
    · subst h110
      by_cases h5 : a0_5 = 0
      · subst h5
        simp [kind_takes.f] at h
        obtain ⟨rfl, rfl⟩ := h
        go_wp2
        first | (go_region_held_law (fun w' => w'.cell? ⟨g4, 0, none⟩ = some (.int .i64 a0_1) ∧ w'.cell? ⟨g4, 1, none⟩ = some (.int .i64 a0_2) ∧ w'.cell? ⟨gb105, 5, none⟩ = some (.int .u64 0)) (go_keep) (first | (go_at_call 36; refine (kind_row.same _ _).mono ?_; rintro e w' ⟨rfl, rfl⟩))) | (go_region_held3 (fun w' => w'.cell? ⟨g4, 0, none⟩ = some (.int .i64 a0_1) ∧ w'.cell? ⟨g4, 1, none⟩ = some (.int .i64 a0_2) ∧ w'.cell? ⟨gb105, 5, none⟩ = some (.int .u64 0)) (go_keep) (first | (go_at_call 36; refine (kind_row.same _ _).mono ?_; rintro e w' ⟨rfl, rfl⟩))) | fail
        all_goals go_wp2
        all_goals (go_ret2; exact ⟨_, by first | rfl | (rw [h5b]; rfl) | (rw [h2b]; rfl) | (simp; done) | (simp [*]; done), by (with_reducible repeat (first | apply Kd.R_drewN | apply Kd.R_drew)); exact lit37 _ _ _ _ _ rfl rfl HB.out.size (by first | decide | simp [maxLen]), by repeat (first | exact HB.out | apply below_drew1 | apply pw_below_drewN | apply below_alloc)⟩)
      · have h5b : (a0_5 == 0) = false := beq_eq_false_iff_ne.mpr h5
        simp [kind_takes.f, h5, h5b] at h
        obtain ⟨rfl, rfl⟩ := h
        go_wp2
        first | (go_region_held_law (fun w' => w'.cell? ⟨g4, 0, none⟩ = some (.int .i64 a0_1) ∧ w'.cell? ⟨g4, 1, none⟩ = some (.int .i64 a0_2) ∧ w'.cell? ⟨gb105, 5, none⟩ = some (.int .u64 a0_5)) (go_keep) (first | (go_at_call 36; refine (kind_row.same _ _).mono ?_; rintro e w' ⟨rfl, rfl⟩))) | (go_region_held3 (fun w' => w'.cell? ⟨g4, 0, none⟩ = some (.int .i64 a0_1) ∧ w'.cell? ⟨g4, 1, none⟩ = some (.int .i64 a0_2) ∧ w'.cell? ⟨gb105, 5, none⟩ = some (.int .u64 a0_5)) (go_keep) (first | (go_at_call 36; refine (kind_row.same _ _).mono ?_; rintro e w' ⟨rfl, rfl⟩))) | fail
        all_goals go_wp2
        all_goals (go_ret2; exact ⟨_, by first | rfl | (rw [h5b]; rfl) | (rw [h2b]; rfl) | (simp; done) | (simp [*]; done), by (with_reducible repeat (first | apply Kd.R_drewN | apply Kd.R_drew)); exact lit37 _ _ _ _ _ rfl rfl HB.out.size (by first | decide | simp [maxLen]), by repeat (first | exact HB.out | apply below_drew1 | apply pw_below_drewN | apply below_alloc)⟩)
    by_cases h111 : a0_0 = 11
    · subst h111
      by_cases h5 : a0_5 = 0
      · subst h5
        simp [kind_takes.f] at h
        obtain ⟨rfl, rfl⟩ := h
        go_wp2
        first | (go_region_held_law (fun w' => w'.cell? ⟨g4, 0, none⟩ = some (.int .i64 a0_1) ∧ w'.cell? ⟨g4, 1, none⟩ = some (.int .i64 a0_2) ∧ w'.cell? ⟨gb105, 5, none⟩ = some (.int .u64 0)) (go_keep) (first | (go_at_call 36; refine (kind_row.same _ _).mono ?_; rintro e w' ⟨rfl, rfl⟩))) | (go_region_held3 (fun w' => w'.cell? ⟨g4, 0, none⟩ = some (.int .i64 a0_1) ∧ w'.cell? ⟨g4, 1, none⟩ = some (.int .i64 a0_2) ∧ w'.cell? ⟨gb105, 5, none⟩ = some (.int .u64 0)) (go_keep) (first | (go_at_call 36; refine (kind_row.same _ _).mono ?_; rintro e w' ⟨rfl, rfl⟩))) | fail
        all_goals go_wp2
        all_goals (go_ret2; exact ⟨_, by first | rfl | (rw [h5b]; rfl) | (rw [h2b]; rfl) | (simp; done) | (simp [*]; done), by (with_reducible repeat (first | apply Kd.R_drewN | apply Kd.R_drew)); exact lit37 _ _ _ _ _ rfl rfl HB.out.size (by first | decide | simp [maxLen]), by repeat (first | exact HB.out | apply below_drew1 | apply pw_below_drewN | apply below_alloc)⟩)
      · have h5b : (a0_5 == 0) = false := beq_eq_false_iff_ne.mpr h5
        simp [kind_takes.f, h5, h5b] at h
        obtain ⟨rfl, rfl⟩ := h
        go_wp2
        first | (go_region_held_law (fun w' => w'.cell? ⟨g4, 0, none⟩ = some (.int .i64 a0_1) ∧ w'.cell? ⟨g4, 1, none⟩ = some (.int .i64 a0_2) ∧ w'.cell? ⟨gb105, 5, none⟩ = some (.int .u64 a0_5)) (go_keep) (first | (go_at_call 36; refine (kind_row.same _ _).mono ?_; rintro e w' ⟨rfl, rfl⟩))) | (go_region_held3 (fun w' => w'.cell? ⟨g4, 0, none⟩ = some (.int .i64 a0_1) ∧ w'.cell? ⟨g4, 1, none⟩ = some (.int .i64 a0_2) ∧ w'.cell? ⟨gb105, 5, none⟩ = some (.int .u64 a0_5)) (go_keep) (first | (go_at_call 36; refine (kind_row.same _ _).mono ?_; rintro e w' ⟨rfl, rfl⟩))) | fail
        all_goals go_wp2
        all_goals (go_ret2; exact ⟨_, by first | rfl | (rw [h5b]; rfl) | (rw [h2b]; rfl) | (simp; done) | (simp [*]; done), by (with_reducible repeat (first | apply Kd.R_drewN | apply Kd.R_drew)); exact lit37 _ _ _ _ _ rfl rfl HB.out.size (by first | decide | simp [maxLen]), by repeat (first | exact HB.out | apply below_drew1 | apply pw_below_drewN | apply below_alloc)⟩)
    by_cases h112 : a0_0 = 12
    · subst h112
      by_cases h5 : a0_5 = 0
      · subst h5
        simp [kind_takes.f] at h
        obtain ⟨rfl, rfl⟩ := h
        go_wp2
        first | (go_region_held_law (fun w' => w'.cell? ⟨g4, 0, none⟩ = some (.int .i64 a0_1) ∧ w'.cell? ⟨g4, 1, none⟩ = some (.int .i64 a0_2) ∧ w'.cell? ⟨gb105, 5, none⟩ = some (.int .u64 0)) (go_keep) (first | (go_at_call 36; refine (kind_row.same _ _).mono ?_; rintro e w' ⟨rfl, rfl⟩))) | (go_region_held3 (fun w' => w'.cell? ⟨g4, 0, none⟩ = some (.int .i64 a0_1) ∧ w'.cell? ⟨g4, 1, none⟩ = some (.int .i64 a0_2) ∧ w'.cell? ⟨gb105, 5, none⟩ = some (.int .u64 0)) (go_keep) (first | (go_at_call 36; refine (kind_row.same _ _).mono ?_; rintro e w' ⟨rfl, rfl⟩))) | fail
        all_goals go_wp2
        all_goals (go_ret2; exact ⟨_, by first | rfl | (rw [h5b]; rfl) | (rw [h2b]; rfl) | (simp; done) | (simp [*]; done), by (with_reducible repeat (first | apply Kd.R_drewN | apply Kd.R_drew)); exact lit37 _ _ _ _ _ rfl rfl HB.out.size (by first | decide | simp [maxLen]), by repeat (first | exact HB.out | apply below_drew1 | apply pw_below_drewN | apply below_alloc)⟩)
      · have h5b : (a0_5 == 0) = false := beq_eq_false_iff_ne.mpr h5
        simp [kind_takes.f, h5, h5b] at h
        obtain ⟨rfl, rfl⟩ := h
        go_wp2
        first | (go_region_held_law (fun w' => w'.cell? ⟨g4, 0, none⟩ = some (.int .i64 a0_1) ∧ w'.cell? ⟨g4, 1, none⟩ = some (.int .i64 a0_2) ∧ w'.cell? ⟨gb105, 5, none⟩ = some (.int .u64 a0_5)) (go_keep) (first | (go_at_call 36; refine (kind_row.same _ _).mono ?_; rintro e w' ⟨rfl, rfl⟩))) | (go_region_held3 (fun w' => w'.cell? ⟨g4, 0, none⟩ = some (.int .i64 a0_1) ∧ w'.cell? ⟨g4, 1, none⟩ = some (.int .i64 a0_2) ∧ w'.cell? ⟨gb105, 5, none⟩ = some (.int .u64 a0_5)) (go_keep) (first | (go_at_call 36; refine (kind_row.same _ _).mono ?_; rintro e w' ⟨rfl, rfl⟩))) | fail
        all_goals go_wp2
        all_goals (go_ret2; exact ⟨_, by first | rfl | (rw [h5b]; rfl) | (rw [h2b]; rfl) | (simp; done) | (simp [*]; done), by (with_reducible repeat (first | apply Kd.R_drewN | apply Kd.R_drew)); exact lit37 _ _ _ _ _ rfl rfl HB.out.size (by first | decide | simp [maxLen]), by repeat (first | exact HB.out | apply below_drew1 | apply pw_below_drewN | apply below_alloc)⟩)
    by_cases h113 : a0_0 = 13
    · subst h113
      simp [kind_takes.f] at h
      obtain ⟨rfl, rfl⟩ := h
      go_wp2
      first | (go_region_held_law (fun w' => w'.cell? ⟨g6, 0, none⟩ = some (.int .i64 1) ∧ w'.cell? ⟨g6, 1, none⟩ = some (.int .i64 1) ∧ w'.cell? ⟨g4, 0, none⟩ = some (.int .i64 a0_1) ∧ w'.cell? ⟨g4, 1, none⟩ = some (.int .i64 a0_2) ∧ w'.cell? ⟨gb105, 5, none⟩ = some (.int .u64 a0_5)) (go_keep) (first | (go_at_call 36; refine (kind_row.same _ _).mono ?_; rintro e w' ⟨rfl, rfl⟩))) | (go_region_held3 (fun w' => w'.cell? ⟨g6, 0, none⟩ = some (.int .i64 1) ∧ w'.cell? ⟨g6, 1, none⟩ = some (.int .i64 1) ∧ w'.cell? ⟨g4, 0, none⟩ = some (.int .i64 a0_1) ∧ w'.cell? ⟨g4, 1, none⟩ = some (.int .i64 a0_2) ∧ w'.cell? ⟨gb105, 5, none⟩ = some (.int .u64 a0_5)) (go_keep) (first | (go_at_call 36; refine (kind_row.same _ _).mono ?_; rintro e w' ⟨rfl, rfl⟩))) | fail
      all_goals go_wp2
      all_goals (go_ret2; exact ⟨_, by first | rfl | (rw [h5b]; rfl) | (rw [h2b]; rfl) | (simp; done) | (simp [*]; done), by (with_reducible repeat (first | apply Kd.R_drewN | apply Kd.R_drew)); exact lit37 _ _ _ _ _ rfl rfl HB.out.size (by first | decide | simp [maxLen]), by repeat (first | exact HB.out | apply below_drew1 | apply pw_below_drewN | apply below_alloc)⟩)
    omega
end Go.Proofs.Ytblhphjdjpodcaa.Q
