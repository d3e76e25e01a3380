/- NumRows, the plain law: every list as bytes is what the document says, or refused, and is got again. No conditions. -/
import Derived.Test.YtokfaaemhniodaaPNumB
import Derived.Test.YtokfaaemhniodaaQx13
namespace Go.Proofs.Ytokfaaemhniodaa.Pure
open Go.RowKit Go.Proofs.Ytokfaaemhniodaa.Q Go.Proofs.YtokfaaemhniodaaW.PrintWords Go.Proofs.YtokfaaemhniodaaW.PrintLast Go.Proofs.YtokfaaemhniodaaW.PrintMore

theorem rows_l0 (d : Nat) : ∀ (k i : Nat) (l more : List Int) (great : Bool), (∀ x ∈ l, -9223372036854775808 ≤ x ∧ x ≤ 9223372036854775807) → (∀ x ∈ more, 0 ≤ x ∧ x < 256) → l.length ≤ 500 → more.length ≤ 1000 →
    i ≤ l.length → l.length - i = d → (∀ x ∈ l.take i, 0 ≤ x) → (great = true ↔ ∃ x ∈ l.take i, x > 2147483647) → d + 600 < k →
    locksteplaw02_NumRows.l0 k l more (rowS (enc l.length) l) great (i : Int) = some true := by
  induction d with
  | zero =>
    intro k i l more great hl hm hn hmn hi hd hpos hgr hk
    obtain ⟨k, rfl⟩ : ∃ m, k = m + 1 := ⟨k - 1, by omega⟩
    rw [List.take_of_length_le (by omega)] at hpos hgr
    have hb : rowS (enc l.length) l = enc l.length ++ encs (l.map Int.toNat) := rowS_pos _ _ hpos
    have hmap : (l.map Int.toNat).map (fun n : Nat => (n : Int)) = l := by
      rw [List.map_map]
      conv => rhs; rw [← List.map_id l]
      exact List.map_congr_left (fun x hx => by have := hpos x hx; simp; omega)
    have hns : ∀ n ∈ l.map Int.toNat, n < 18446744073709551616 := by
      intro n h
      obtain ⟨x, hx, rfl⟩ := List.mem_map.mp h
      have := hl x hx; omega
    have hlen := encs_len _ hns
    rw [List.length_map] at hlen
    have hle := enc_len64 (v := l.length) (by omega)
    have hbb : ∀ x ∈ enc l.length ++ encs (l.map Int.toNat), 0 ≤ x ∧ x < 256 := bytes_append (enc_bytes _) (encs_bytes _)
    rw [hb]
    simp only [locksteplaw02_NumRows.l0]
    rw [if_neg (by omega)]
    simp only [Option.bind_some, List.nil_append, List.length_nil]
    rw [if_pos (by rw [List.length_append]; omega), if_pos (by simp only [List.length_append]; omega)]
    rw [list_ok (ns := l.map Int.toNat) (more := more) hns (by rw [List.length_map]; omega) (bytes_append hbb hm) (by simp only [List.length_append]; omega) (by rw [List.length_map, List.append_assoc]) (by rw [List.length_map]; omega) (by omega) (by rw [List.length_map]; omega)]
    simp only [Option.bind_some]
    cases great with
    | true =>
      obtain ⟨x, hx, hg⟩ := hgr.mp rfl
      rw [if_pos rfl, listS_great _ _ _ ⟨x.toNat, List.mem_map_of_mem hx, by omega⟩]; rfl
    | false =>
      have hall : ∀ n ∈ l.map Int.toNat, n ≤ 2147483647 := by
        intro n h
        obtain ⟨x, hx, rfl⟩ := List.mem_map.mp h
        have : ¬ x > 2147483647 := fun hg => absurd (hgr.mpr ⟨x, hx, hg⟩) (by simp)
        omega
      rw [if_neg (by simp), listS_ok _ _ _ hall, hmap, List.length_map]
      rw [list_few (cnt := l.length) (more := encs (l.map Int.toNat)) (by omega) hbb (by simp only [List.length_append]; omega) rfl (by rw [wrap_id (by omega) (by omega)]; omega) (by rw [wrap_id (by omega) (by omega)]; omega) (by omega)]
      simp only [Option.bind_some, if_true, List.nil_append]
      rw [if_pos (by simp only [List.length_append]), ints_ok (by omega) (by omega)]
      simp
  | succ d ih =>
    intro k i l more great hl hm hn hmn hi hd hpos hgr hk
    obtain ⟨k, rfl⟩ : ∃ m, k = m + 1 := ⟨k - 1, by omega⟩
    have h1 : i < l.length := by omega
    have htk : l.take (i + 1) = l.take i ++ [l[i]] := List.take_succ_eq_append_getElem h1
    simp only [locksteplaw02_NumRows.l0]
    rw [if_pos (by omega), if_pos (by omega), rd_nat, getD_lt _ h1]
    by_cases hneg : l[i] < 0
    · rw [if_pos hneg, rowS_neg l _ ⟨l[i], List.getElem_mem h1, hneg⟩]; rfl
    · rw [if_neg hneg, wrap_succ (n := l.length) (by omega) (by omega) (by omega), show ((i : Int) + 1) = ((i + 1 : Nat) : Int) by omega]
      have hpos' : ∀ x ∈ l.take (i + 1), 0 ≤ x := by
        rw [htk]; intro x hx
        rcases List.mem_append.mp hx with h | h
        · exact hpos x h
        · simp at h; omega
      have e1 : i + 1 ≤ l.length := by omega
      have e2 : l.length - (i + 1) = d := by rw [← Nat.sub_sub, hd]; rfl
      have e3 : d + 600 < k := by omega
      cases great with
      | true =>
        rw [if_pos rfl]
        refine ih k (i + 1) l more true hl hm hn hmn e1 e2 hpos' ?_ e3
        obtain ⟨x, hx, hg⟩ := hgr.mp rfl
        exact ⟨fun _ => ⟨x, by rw [htk]; exact List.mem_append_left _ hx, hg⟩, fun _ => rfl⟩
      | false =>
        rw [if_neg (by simp)]
        refine ih k (i + 1) l more _ hl hm hn hmn e1 e2 hpos' ?_ e3
        rw [decide_eq_true_iff, htk]
        constructor
        · intro h; exact ⟨l[i], List.mem_append_right _ (List.mem_singleton.mpr rfl), h⟩
        · rintro ⟨x, hx, hg⟩
          rcases List.mem_append.mp hx with h | h
          · exact absurd (hgr.mpr ⟨x, h, hg⟩) (by simp)
          · rw [List.mem_singleton] at h; rw [h] at hg; exact hg

theorem NumRows : locksteplaw02_NumRows.Pure := by
  intro l more hl1 hl2 hl hm1 hm2 hm
  refine ⟨20000, ?_⟩
  unfold locksteplaw02_NumRows.f
  rw [awake_any (by omega)]
  simp only [Option.bind_some, if_true]
  have key : l.length ≤ 500 → more.length ≤ 1000 → locksteplaw02_NumRows.j0 20000 l more false = some true := by
    intro h1 h2
    have hns : ∀ x ∈ l, x < 9223372036854775808 := fun x hx => by have := wf_i64 (hl x hx); omega
    have hrl : (rowS (enc l.length) l).length ≤ 6000 := by
      by_cases hneg : ∃ x ∈ l, x < 0
      · rw [rowS_neg l _ hneg]; simp
      · have hp : ∀ x ∈ l, 0 ≤ x := fun x hx => by
          have : ¬ x < 0 := fun h => hneg ⟨x, hx, h⟩
          omega
        rw [rowS_pos l _ hp, List.length_append]
        have a := enc_len64 (v := l.length) (by omega)
        have b := encs_len (l.map Int.toNat) (by
          intro n h
          obtain ⟨x, hx, rfl⟩ := List.mem_map.mp h
          have := hns x hx; omega)
        rw [List.length_map] at b; omega
    rw [show (20000 : Nat) = 19999 + 1 from rfl]
    simp only [locksteplaw02_NumRows.j0]
    rw [if_neg (by simp), row_ok hns (by omega) (by omega)]
    simp only [Option.bind_some]
    rw [rrow_ok hns (by omega) (by omega)]
    simp only [Option.bind_some]
    rw [same_ok (by omega) (by omega)]
    simp only [Option.bind_some, decide_true, if_true]
    exact rows_l0 l.length 19999 0 l more false (fun x hx => wf_i64 (hl x hx)) (fun x hx => wf_u8 (hm x hx)) h1 h2 (by omega) (by omega) (by simp) (by simp) (by omega)
  by_cases h1 : (l.length : Int) > 500
  · rw [if_pos h1, show (20000 : Nat) = 19999 + 1 from rfl]; simp only [locksteplaw02_NumRows.j0, if_true]
  · rw [if_neg h1]
    by_cases h2 : (more.length : Int) > 1000
    · rw [decide_eq_true h2, show (20000 : Nat) = 19999 + 1 from rfl]; simp only [locksteplaw02_NumRows.j0, if_true]
    · rw [decide_eq_false h2]; exact key (by omega) (by omega)

end Go.Proofs.Ytokfaaemhniodaa.Pure
