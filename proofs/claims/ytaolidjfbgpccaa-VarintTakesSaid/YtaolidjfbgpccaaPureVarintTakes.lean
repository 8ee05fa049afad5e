/- VarintTakes holds: bytes are taken as a number, or refused, as the reference says. Conditions: none beyond the statement's own. -/
import Derived.Test.YtaolidjfbgpccaaPr
set_option linter.unusedVariables false
set_option linter.unusedSimpArgs false
namespace Go.Proofs.Ytaolidjfbgpccaa.Pure
open Go.RowKit Go.Proofs.Ytaolidjfbgpccaa.P Go.Proofs.Ytaolidjfbgpccaa.Vp Go.Proofs.YtaolidjfbgpccaaW.PrintWords Go.Proofs.YtaolidjfbgpccaaW.PrintLast Go.Proofs.YtaolidjfbgpccaaW.PrintMore
theorem VarintTakes : moultlaw3_VarintTakes.Pure := by
  intro s hs
  refine ⟨(60 + 1) + 40, ?_⟩
  unfold moultlaw3_VarintTakes.f
  rw [shown_le]
  simp only [Option.bind_some, if_true]
  show moultlaw3_VarintTakes.j0 (100 + 1) s true _ = _
  simp only [moultlaw3_VarintTakes.j0]
  split
  · rfl
  · rw [take_f s (by omega) _ (by omega), rtake_f s (by omega) _ (by omega)]
    simp
end Go.Proofs.Ytaolidjfbgpccaa.Pure
