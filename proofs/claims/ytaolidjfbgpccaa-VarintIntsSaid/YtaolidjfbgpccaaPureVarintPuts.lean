/- VarintPuts holds: a number's bytes, and how many they are, are as the reference says. Conditions: none beyond the statement's own. -/
import Derived.Test.YtaolidjfbgpccaaPr
set_option linter.unusedVariables false
set_option linter.unusedSimpArgs false
namespace Go.Proofs.Ytaolidjfbgpccaa.Pure
open Go.RowKit Go.Proofs.Ytaolidjfbgpccaa.P Go.Proofs.Ytaolidjfbgpccaa.Vp Go.Proofs.YtaolidjfbgpccaaW.PrintWords Go.Proofs.YtaolidjfbgpccaaW.PrintLast Go.Proofs.YtaolidjfbgpccaaW.PrintMore
theorem u64_wf {n : Int} (h : (Lit.int .u64 n).wf = true) : 0 ≤ n ∧ n < 18446744073709551616 := by
  simp [Lit.wf, IntKind.min, IntKind.max, IntKind.signed, IntKind.bits] at h
  omega
theorem i64_wf {n : Int} (h : (Lit.int .i64 n).wf = true) : -9223372036854775808 ≤ n ∧ n ≤ 9223372036854775807 := by
  simp [Lit.wf, IntKind.min, IntKind.max, IntKind.signed, IntKind.bits] at h
  omega
theorem putP_sizeP {n : Int} (h : 0 ≤ n) : ((putP n).size : Int) = sizeP n := by
  rw [← size_bytesOf, putP_bytes h, putL_length]
theorem VarintPuts : moultlaw3_VarintPuts.Pure := by
  intro n hn
  obtain ⟨h0, h1⟩ := u64_wf hn
  refine ⟨40 + 40, ?_⟩
  unfold moultlaw3_VarintPuts.f
  rw [shown_le]
  simp only [Option.bind_some, if_true]
  rw [put_f n h0 h1, rput_f n h0 h1 _ (by omega), size_f n h0 h1]
  simp only [Option.bind_some, if_true]
  rw [putP_sizeP h0]; simp
end Go.Proofs.Ytaolidjfbgpccaa.Pure
