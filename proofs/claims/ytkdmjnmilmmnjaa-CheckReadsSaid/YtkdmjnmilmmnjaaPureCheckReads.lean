import Derived.Test.YtkdmjnmilmmnjaaPx7
import Derived.Test.YtkdmjnmilmmnjaaPk
set_option linter.unusedVariables false
set_option linter.unusedSimpArgs false
namespace Go.Proofs.Ytkdmjnmilmmnjaa.Pure
open Go.RowKit Go.Proofs.Ytkdmjnmilmmnjaa.P Go.Proofs.Ytkdmjnmilmmnjaa.Vp Go.Proofs.Ytkdmjnmilmmnjaa.Cp Go.Proofs.YtkdmjnmilmmnjaaW.PrintWords Go.Proofs.YtkdmjnmilmmnjaaW.PrintLast Go.Proofs.YtkdmjnmilmmnjaaW.PrintMore
theorem CheckReads : moultlaw5_CheckReads.Pure := by
  intro a0 w0
  refine ⟨100000, ?_⟩
  unfold moultlaw5_CheckReads.f
  rw [shown_k _ (by omega), Option.bind_some, if_pos rfl]
  rw [show 100000 = 99999 + 1 from rfl, moultlaw5_CheckReads.j0]
  by_cases c : (a0.size : Int) > 4000
  · rw [decide_eq_true c, if_pos rfl]
  · rw [decide_eq_false c, if_neg (by decide)]
    have hlen := scanP_len (a0.size + 1) a0 (by omega)
    rw [unf_f a0 (by omega) _ (by omega), Option.bind_some, runf_f a0 (by omega) _ (by omega), Option.bind_some, scan_f a0 (by omega), Option.bind_some, rscan_f a0 (by omega) _ (by omega), Option.bind_some]
    rw [if_pos rfl, if_pos rfl, if_pos rfl, same_f _ (by dsimp only; omega) _ (by dsimp only; omega), Option.bind_some, if_pos rfl, if_pos rfl]
    simp
end Go.Proofs.Ytkdmjnmilmmnjaa.Pure
