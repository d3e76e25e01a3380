/- NumGoes, the plain law: a number's bytes are the document's, are got again, and cut off they are not there. No conditions. -/
import Derived.Test.YtokfaaemhniodaaPNumA
import Derived.Test.YtokfaaemhniodaaQx7
namespace Go.Proofs.Ytokfaaemhniodaa.Pure
open Go.RowKit Go.Proofs.Ytokfaaemhniodaa.Q Go.Proofs.YtokfaaemhniodaaW.PrintWords Go.Proofs.YtokfaaemhniodaaW.PrintLast Go.Proofs.YtokfaaemhniodaaW.PrintMore

theorem NumGoes : locksteplaw02_NumGoes.Pure := by
  intro a0 l1 a2 h0 hm hy hw h2
  obtain ⟨v, rfl, hv⟩ := wf_u64 h0
  obtain ⟨h2, h2'⟩ := wf_u8 h2
  refine ⟨60, ?_⟩
  unfold locksteplaw02_NumGoes.f
  rw [awake_ok]
  simp only [Option.bind_some, if_true]
  by_cases hl : (l1.length : Int) > 1000
  · rw [if_pos hl]
  rw [if_neg hl, put_ok hv (by omega)]
  have hlen := enc_len64 hv
  have hpos := enc_pos v
  simp only [Option.bind_some, List.nil_append, List.length_nil]
  rw [if_pos (by omega), if_pos (by omega), get_few (bytes_append (enc_bytes v) (fun x hx => wf_u8 (hw x hx))) (by rw [List.length_append]; omega) (by omega), go_enc0 v l1 hv]
  simp only [Option.bind_some]
  have hw2 : wrap64 a2 = a2 := wrap_id (by omega) (by omega)
  have hmod := Int.emod_nonneg a2 (show ((enc v).length : Int) ≠ 0 by omega)
  have hmod' := Int.emod_lt_of_pos a2 (show (0 : Int) < ((enc v).length : Int) by omega)
  rw [hw2, Int.tmod_eq_emod_of_nonneg h2]
  rw [if_neg (show ¬ (((enc v).length : Int) = 0) by omega), if_pos hmod, if_pos (by omega), get_few (bytes_take _ (enc_bytes v)) (by rw [List.length_take]; omega) (by omega), go_cut0 v _ hv (by omega)]
  simp only [Option.bind_some]
  rw [rput_ok hv (by omega)]
  simp only [Option.bind_some]
  rw [same_ok (by omega) (by omega)]
  simp

end Go.Proofs.Ytokfaaemhniodaa.Pure
