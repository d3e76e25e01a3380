/- The document's Order: its plain form, and that the call does so. Conditions: each theorem's own. -/
import Derived.Test.YtokfaaemhniodaaHVisit
import Derived.Test.YtokfaaemhniodaaGx18
import Derived.Deep.RegionHeld3
namespace Go.Proofs.Ytokfaaemhniodaa.G
open Go.Proofs.YtokfaaemhniodaaH
open Go Go.RowKit Go.Proofs.YtokfaaemhniodaaW.PrintWords Go.Proofs.YtokfaaemhniodaaW.PrintLast Go.Proofs.YtokfaaemhniodaaW.PrintMore
set_option linter.unusedVariables false
set_option linter.unusedSimpArgs false
theorem lockstepref06_Walk_visit.mono_both : ∀ k, (∀ s o S x, LeO (lockstepref06_Walk_visit.f k s o S x) (lockstepref06_Walk_visit.f (k + 1) s o S x)) ∧ (∀ s o S x i, LeO (lockstepref06_Walk_visit.l0 k s o S x i) (lockstepref06_Walk_visit.l0 (k + 1) s o S x i))
  | 0 => ⟨fun _ _ _ _ r h => by simp [lockstepref06_Walk_visit.f] at h, fun _ _ _ _ _ r h => by simp [lockstepref06_Walk_visit.l0] at h⟩
  | k + 1 => by
    obtain ⟨h1, h2⟩ := lockstepref06_Walk_visit.mono_both k
    refine ⟨fun s o S x => ?_, fun s o S x i => ?_⟩
    · unfold lockstepref06_Walk_visit.f
      exact LeO.ite (h2 _ _ _ _ _) (LeO.refl _)
    · unfold lockstepref06_Walk_visit.l0
      exact LeO.ite (LeO.ite (LeO.ite (h2 _ _ _ _ _) (LeO.bind (h1 _ _ _ _) (fun r => h2 _ _ _ _ _))) (LeO.refl _)) (LeO.refl _)
def lockstepref06_Order.f (k : Nat) (l0_0 : List (List Int)) (l0_1 : List (List Int)) (a1 : Int) : Option (List Int) :=
  (lockstepref06_May.f k l0_0 l0_1).bind fun t => if t = true then (if a1 < 0 then some [] else if a1 ≥ (l0_0.length : Int) then some [] else
    if l0_0.length ≤ 1000000 then (lockstepref06_Walk_visit.f k (List.replicate l0_0.length false) [] l0_0 a1).bind fun r => some r.2 else none) else some []
theorem lockstepref06_Order.mono : ∀ a0 a1 a2 k, LeO (lockstepref06_Order.f k a0 a1 a2) (lockstepref06_Order.f (k + 1) a0 a1 a2) := by
  intro a0 a1 a2 k
  unfold lockstepref06_Order.f
  exact LeO.bind (lockstepref06_May.mono _ _ _) (fun t => LeO.ite (LeO.ite (LeO.refl _) (LeO.ite (LeO.refl _) (LeO.ite (LeO.bind ((lockstepref06_Walk_visit.mono_both k).1 _ _ _ _) (fun _ => LeO.refl _)) (LeO.refl _)))) (LeO.refl _))
section
variable {P : Program} {ops : Array Oper} {rest : List Oper} {o : Oper} {a : Act} {Q : Exit → Act → World → Prop}
theorem wp_make_bools {w0 W : World} (base : Nat) (hgd : o.guard = none) (t e : TypeId) (x y : Operand) (ho : o.op = .makeSlice t x y) (m : Nat) (hx : a.eval x = .int .i64 (m : Int)) (hy : a.eval y = .int .i64 (m : Int))
    (ht : P.underlying t = some (.slice e)) (hinfo : (P.info? e).map (fun i => (i.zero, i.size, i.bytes)) = some (some (.bool false), 1, 1)) (hm : m ≤ 1000000) (HB : Below base w0 W) (hbase : base ≤ W.heap.size)
    (h : ∀ g w1, base ≤ g → w1.heap[g]? = some (.cells (bools (List.replicate m false)).toArray e (0, 0)) → Below base w0 w1 → Below W.heap.size W w1 → wpList P ops Q rest (a.put o.dst (.slice (some ⟨g, 0, none⟩) m m)) w1) : wpList P ops Q (o :: rest) a W := by
  obtain ⟨i0, hi, hzz⟩ := Option.map_eq_some_iff.1 hinfo
  simp only [Prod.mk.injEq] at hzz
  obtain ⟨hz0, hz1, hz2⟩ := hzz
  have hr := run_make (P := P) W t e i0 (.bool false) ht hi hz0 .i64 .i64 (m : Int) (m : Int) (by omega) (by omega) (by rw [hz2]; omega) (by omega)
  simp only [Int.toNat_natCast] at hr
  rw [hz1, Nat.mul_one] at hr
  have e1 : madeCells (Value.bool false).cells m = (bools (List.replicate m false)).toArray := by
    apply Array.ext
    · simp [size_madeCells, bools]
    · intro i h1 h2
      simp [madeCells, bools, Value.cells, Nat.mod_one]
  rw [e1] at hr
  have hrun : (execOp a.eval o).run P W = .ok (.value (.slice (some ⟨W.heap.size, 0, none⟩) m m)) (W.alloc (.cells (bools (List.replicate m false)).toArray e)) := by
    simp [execOp, ho, hx, hy, hr]
  exact Kd.event_run hgd hrun (h _ _ hbase (heap_alloc_new W _) (HB.alloc hbase _) (below_alloc (Below.refl _ _) _))
end
set_option maxHeartbeats 8000000 in
set_option maxRecDepth 100000 in
theorem lockstepref06_Order.calls (k : Nat) (A0_0 : Option Addr) (c0_0 : Nat) (l0_0 : List (List Int)) (A0_1 : Option Addr) (c0_1 : Nat) (l0_1 : List (List Int)) (a1 : Int) (r : List Int) (w : World) (hr0_0 : Kd.C (Kd.slice 3 (Kd.int .i64)) w A0_0 l0_0.length l0_0) (hc0_0 : l0_0.length ≤ c0_0) (hr0_1 : Kd.C (Kd.slice 3 (Kd.int .i64)) w A0_1 l0_1.length l0_1) (hc0_1 : l0_1.length ≤ c0_1) (h : lockstepref06_Order.f k l0_0 l0_1 a1 = some r) :
    Calls Try.prog 30 #[.agg #[.slice A0_0 l0_0.length c0_0, .slice A0_1 l0_1.length c0_1], .int .i64 a1] w fun e w' => ∃ v0_ : Value, e = .returned (v0_) ∧ Kd.R (Kd.int .i64) 3 w' w.heap.size (fun _ => True) v0_ r ∧ Below w.heap.size w w' := by
  unfold lockstepref06_Order.f at h
  obtain ⟨t, hmay, h⟩ := Option.bind_eq_some_iff.mp h
  have HM := Aside0.mk hmay
  have HR0 := Aside0.mk hr0_0
  have HR1 := Aside0.mk hr0_1
  have HB := Aside0.mk (Below.refl w.heap.size w)
  have hu45 := Try.underlying45
  have hu69 := Try.underlying69
  clear hmay hr0_0 hr0_1
  cases t with
  | false =>
    obtain rfl := Option.some.inj h
    go_enter Try.func30, Try.ntmps30
    go_wp2_with (first | ((with_reducible refine gate_dst (N := 2) rfl ?_); refine box_event ?hg (N := 2) ?hd (cs := #[.slice A0_0 l0_0.length c0_0, .slice A0_1 l0_1.length c0_1]) (t := 45) ?hr ?_; (case hd => rfl); (case hg => rfl); (case hr => first | (go_simp; done) | (go_simp; rfl)); intro gb hgb w1 hbox hb; have n1_ := Aside0.mk (below_step HB.out hb); have BX := Aside0.mk hbox; have GB := Aside0.mk ((by rw [hgb]; exact below_size HB.out) : w.heap.size ≤ gb); have z0 := (blk_cell hbox 0).trans rfl; have z1 := (blk_cell hbox 1).trans rfl; clear HB hgb hbox hb; have HB := n1_; clear n1_) | ((with_reducible refine gate_callee (f := 26) rfl ?_); refine goesL_ (some 7) rfl rfl Try.func26 (by kernel_rfl) rfl #[.agg #[.slice A0_0 l0_0.length c0_0, .slice A0_1 l0_1.length c0_1]] rfl (by (try simp only [List.map_toArray, List.map_cons, List.map_nil]); first | done | rfl) ?_; (with_reducible refine (lockstepref06_May.calls k A0_0 c0_0 l0_0 A0_1 c0_1 l0_1 _ _ (Kd.C_below HR0.out HB.out) hc0_0 (Kd.C_below HR1.out HB.out) hc0_1 HM.out).mono ?_); rintro e w2 ⟨rfl, hb⟩; have y0 := pw_cell_below hb z0; have y1 := pw_cell_below hb z1; have n1_ := Aside0.mk (below_then HB.out HB.out.size hb); have n2_ := Aside0.mk (blk_below BX.out hb); clear HB BX z0 z1 hb; have HB := n1_; have BX := n2_; clear n1_ n2_; refine ⟨_, rfl, ?_⟩))
    go_ret
    exact ⟨_, by first | rfl | (simp; done), Kd.R_nil _ _ _ _ _, by repeat (first | exact HB.out | apply below_drew1)⟩
  | true =>
    rw [if_pos rfl] at h
    by_cases c1 : a1 < 0
    · rw [if_pos c1] at h
      obtain rfl := Option.some.inj h
      have c1b : decide (a1 < 0) = true := decide_eq_true c1
      go_enter Try.func30, Try.ntmps30
      go_wp2_with (first | ((with_reducible refine gate_dst (N := 2) rfl ?_); refine box_event ?hg (N := 2) ?hd (cs := #[.slice A0_0 l0_0.length c0_0, .slice A0_1 l0_1.length c0_1]) (t := 45) ?hr ?_; (case hd => rfl); (case hg => rfl); (case hr => first | (go_simp; done) | (go_simp; rfl)); intro gb hgb w1 hbox hb; have n1_ := Aside0.mk (below_step HB.out hb); have BX := Aside0.mk hbox; have GB := Aside0.mk ((by rw [hgb]; exact below_size HB.out) : w.heap.size ≤ gb); have z0 := (blk_cell hbox 0).trans rfl; have z1 := (blk_cell hbox 1).trans rfl; clear HB hgb hbox hb; have HB := n1_; clear n1_) | ((with_reducible refine gate_callee (f := 26) rfl ?_); refine goesL_ (some 7) rfl rfl Try.func26 (by kernel_rfl) rfl #[.agg #[.slice A0_0 l0_0.length c0_0, .slice A0_1 l0_1.length c0_1]] rfl (by (try simp only [List.map_toArray, List.map_cons, List.map_nil]); first | done | rfl) ?_; (with_reducible refine (lockstepref06_May.calls k A0_0 c0_0 l0_0 A0_1 c0_1 l0_1 _ _ (Kd.C_below HR0.out HB.out) hc0_0 (Kd.C_below HR1.out HB.out) hc0_1 HM.out).mono ?_); rintro e w2 ⟨rfl, hb⟩; have y0 := pw_cell_below hb z0; have y1 := pw_cell_below hb z1; have n1_ := Aside0.mk (below_then HB.out HB.out.size hb); have n2_ := Aside0.mk (blk_below BX.out hb); clear HB BX z0 z1 hb; have HB := n1_; have BX := n2_; clear n1_ n2_; refine ⟨_, rfl, ?_⟩))
      go_ret
      exact ⟨_, by first | rfl | (simp; done), Kd.R_nil _ _ _ _ _, by repeat (first | exact HB.out | apply below_drew1)⟩
    rw [if_neg c1] at h
    by_cases c2 : a1 ≥ (l0_0.length : Int)
    · rw [if_pos c2] at h
      obtain rfl := Option.some.inj h
      have c1b : decide (a1 < 0) = false := decide_eq_false c1
      have c2b : decide ((l0_0.length : Int) ≤ a1) = true := decide_eq_true c2
      go_enter Try.func30, Try.ntmps30
      go_wp2_with (first | ((with_reducible refine gate_dst (N := 2) rfl ?_); refine box_event ?hg (N := 2) ?hd (cs := #[.slice A0_0 l0_0.length c0_0, .slice A0_1 l0_1.length c0_1]) (t := 45) ?hr ?_; (case hd => rfl); (case hg => rfl); (case hr => first | (go_simp; done) | (go_simp; rfl)); intro gb hgb w1 hbox hb; have n1_ := Aside0.mk (below_step HB.out hb); have BX := Aside0.mk hbox; have GB := Aside0.mk ((by rw [hgb]; exact below_size HB.out) : w.heap.size ≤ gb); have z0 := (blk_cell hbox 0).trans rfl; have z1 := (blk_cell hbox 1).trans rfl; clear HB hgb hbox hb; have HB := n1_; clear n1_) | ((with_reducible refine gate_callee (f := 26) rfl ?_); refine goesL_ (some 7) rfl rfl Try.func26 (by kernel_rfl) rfl #[.agg #[.slice A0_0 l0_0.length c0_0, .slice A0_1 l0_1.length c0_1]] rfl (by (try simp only [List.map_toArray, List.map_cons, List.map_nil]); first | done | rfl) ?_; (with_reducible refine (lockstepref06_May.calls k A0_0 c0_0 l0_0 A0_1 c0_1 l0_1 _ _ (Kd.C_below HR0.out HB.out) hc0_0 (Kd.C_below HR1.out HB.out) hc0_1 HM.out).mono ?_); rintro e w2 ⟨rfl, hb⟩; have y0 := pw_cell_below hb z0; have y1 := pw_cell_below hb z1; have n1_ := Aside0.mk (below_then HB.out HB.out.size hb); have n2_ := Aside0.mk (blk_below BX.out hb); clear HB BX z0 z1 hb; have HB := n1_; have BX := n2_; clear n1_ n2_; refine ⟨_, rfl, ?_⟩))
      go_ret
      exact ⟨_, by first | rfl | (simp; done), Kd.R_nil _ _ _ _ _, by repeat (first | exact HB.out | apply below_drew1)⟩
    rw [if_neg c2] at h
    by_cases c3 : l0_0.length ≤ 1000000
    · rw [if_pos c3] at h
      obtain ⟨r', hf, hrr⟩ := Option.bind_eq_some_iff.mp h
      obtain rfl := Option.some.inj hrr
      have HF := Aside0.mk hf
      have C3 := Aside0.mk c3
      have c1b : decide (a1 < 0) = false := decide_eq_false c1
      have c2b : decide ((l0_0.length : Int) ≤ a1) = false := decide_eq_false c2
      clear hf h hrr c3
      go_enter Try.func30, Try.ntmps30
      go_wp2_with (first | ((with_reducible refine gate_dst (N := 2) rfl ?_); refine box_event ?hg (N := 2) ?hd (cs := #[.slice A0_0 l0_0.length c0_0, .slice A0_1 l0_1.length c0_1]) (t := 45) ?hr ?_; (case hd => rfl); (case hg => rfl); (case hr => first | (go_simp; done) | (go_simp; rfl)); intro gb hgb w1 hbox hb; have n1_ := Aside0.mk (below_step HB.out hb); have BX := Aside0.mk hbox; have GB := Aside0.mk ((by rw [hgb]; exact below_size HB.out) : w.heap.size ≤ gb); have z0 := (blk_cell hbox 0).trans rfl; have z1 := (blk_cell hbox 1).trans rfl; clear HB hgb hbox hb; have HB := n1_; clear n1_) | ((with_reducible refine gate_callee (f := 26) rfl ?_); refine goesL_ (some 7) rfl rfl Try.func26 (by kernel_rfl) rfl #[.agg #[.slice A0_0 l0_0.length c0_0, .slice A0_1 l0_1.length c0_1]] rfl (by (try simp only [List.map_toArray, List.map_cons, List.map_nil]); first | done | rfl) ?_; (with_reducible refine (lockstepref06_May.calls k A0_0 c0_0 l0_0 A0_1 c0_1 l0_1 _ _ (Kd.C_below HR0.out HB.out) hc0_0 (Kd.C_below HR1.out HB.out) hc0_1 HM.out).mono ?_); rintro e w2 ⟨rfl, hb⟩; have y0 := pw_cell_below hb z0; have y1 := pw_cell_below hb z1; have n1_ := Aside0.mk (below_then HB.out HB.out.size hb); have n2_ := Aside0.mk (blk_below BX.out hb); clear HB BX z0 z1 hb; have HB := n1_; have BX := n2_; clear n1_ n2_; refine ⟨_, rfl, ?_⟩) | ((with_reducible refine gate_dst (N := 23) rfl ?_); refine wp_make_bools (w0 := w) w.heap.size rfl 49 4 _ _ rfl l0_0.length rfl rfl Try.underlying49 info4 C3.out HB.out HB.out.size ?_; intro gs w3 hgs hS hB3 hb3; have y0' := pw_cell_below hb3 y0; have y1' := pw_cell_below hb3 y1; have n1_ := Aside0.mk hB3; have n2_ := Aside0.mk (blk_below BX.out hb3); have HS := Aside0.mk hS; have HGS := Aside0.mk hgs; clear HB BX y0 y1 hgs hS hB3 hb3; have HB := n1_; have BX := n2_; clear n1_ n2_) | ((with_reducible refine gate_dst (N := 25) rfl ?_); refine box_event ?hg (N := 25) ?hd (cs := #[.slice (some ⟨gs, 0, none⟩) l0_0.length l0_0.length, .slice none 0 0]) (t := 69) ?hr ?_; (case hd => rfl); (case hg => rfl); (case hr => first | (go_simp; done) | (go_simp; rfl)); intro gw hgw w4 hbox hb; have x0 := pw_cell_below hb y0'; have x1 := pw_cell_below hb y1'; have n1_ := Aside0.mk (below_step HB.out hb); have HW := Aside0.mk hbox; have n3_ := Aside0.mk (blk_below HS.out hb); have HG := Aside0.mk ((by rw [hgw]; exact below_size HB.out) : w.heap.size ≤ gw); clear HB hgw hbox hb y0' y1' HS; have HB := n1_; have HS := n3_; clear n1_ n3_) | ((with_reducible refine gate_callee (f := 41) rfl ?_); refine goesL_ (some 29) rfl rfl Try.func41 (by kernel_rfl) rfl #[.pointer (some ⟨gw, 0, none⟩), .agg #[.slice A0_0 l0_0.length c0_0, .slice A0_1 l0_1.length c0_1], .int .i64 a1] rfl (by (try simp only [List.map_toArray, List.map_cons, List.map_nil]); first | done | rfl) ?_; (with_reducible refine (lockstepref06_Walk_visit.calls k (List.replicate l0_0.length false) [] a1 r'.1 r'.2 l0_0 A0_0 A0_1 c0_0 l0_1.length c0_1 w _ gw gs l0_0.length (.slice none 0 0) HB.out HR0.out hc0_0 HG.out HGS.out (List.length_replicate ..) HW.out HS.out (Kd.R_nil _ _ _ _ _) HF.out).mono ?_); rintro e w5 ⟨rfl, LV, hW, hS, hO, hN, hB, hK⟩; have u1 := (blk_cell hW 1).trans rfl; have n1_ := Aside0.mk hB; have HO := Aside0.mk hO; clear HB hW hS hO hN hB hK x0 x1; have HB := n1_; clear n1_; refine ⟨_, rfl, ?_⟩))
      go_ret
      exact ⟨_, by first | rfl | (simp; done), HO.out, by repeat (first | exact HB.out | apply below_drew1)⟩
    · rw [if_neg c3] at h; cases h
end Go.Proofs.Ytokfaaemhniodaa.G
