/- VarintOrders holds: of two numbers the lesser one's bytes are the lesser ones, and not more; neither's are the beginning of the other one's. Conditions: none beyond the statement's own. -/
import Derived.Test.YtaolidjfbgpccaaPx6
import Derived.Test.YtaolidjfbgpccaaPureVarintPuts
set_option linter.unusedVariables false
set_option linter.unusedSimpArgs false
namespace Go.Proofs.Ytaolidjfbgpccaa.Pure
open Go.RowKit Go.Proofs.Ytaolidjfbgpccaa.P Go.Proofs.Ytaolidjfbgpccaa.Vp Go.Proofs.YtaolidjfbgpccaaW.PrintWords Go.Proofs.YtaolidjfbgpccaaW.PrintLast Go.Proofs.YtaolidjfbgpccaaW.PrintMore
theorem VarintOrders : moultlaw3_VarintOrders.Pure := by
  intro a b ha hb
  obtain ⟨a0, a1⟩ := u64_wf ha
  obtain ⟨b0, b1⟩ := u64_wf hb
  have sa := putP_size a
  have sb := putP_size b
  refine ⟨60 + 40, ?_⟩
  unfold moultlaw3_VarintOrders.f
  rw [shown_le]
  simp only [Option.bind_some, if_true]
  rw [put_f a a0 a1, put_f b b0 b1]
  simp only [Option.bind_some]
  rw [bytes_f _ _ (by omega) (by omega) _ (by omega), putP_bytes a0, putP_bytes b0]
  simp only [Option.bind_some]
  by_cases hab : a = b
  · rw [if_pos hab, hab, cmpL_refl]; rfl
  · rw [if_neg hab]
    obtain ⟨m, hm, hma, hmb, hmin⟩ : ∃ m : Nat, mn ((putP a).size : Int) ((putP b).size : Int) = m ∧ m ≤ (putP a).size ∧ m ≤ (putP b).size ∧ m = min (putP a).size (putP b).size := by
      unfold mn; split
      · exact ⟨(putP b).size, rfl, by omega, by omega, by omega⟩
      · exact ⟨(putP a).size, rfl, by omega, by omega, by omega⟩
    rw [hm, if_pos (by omega), if_pos (by omega), if_pos (by omega), Int.toNat_natCast]
    have hap : ¬ ((putP a).extract 0 m).toList = ((putP b).extract 0 m).toList := by
      intro h
      have h := congrArg bytesOf (toList_iff.1 h)
      rw [bytesOf_take, bytesOf_take, putP_bytes a0, putP_bytes b0] at h
      have e1 : (putP a).size = (putL a).length := by rw [← size_bytesOf, putP_bytes a0]
      have e2 : (putP b).size = (putL b).length := by rw [← size_bytesOf, putP_bytes b0]
      rw [hmin, e1, e2] at h
      exact hab (put_apart a b a0 b0 a1 b1 h)
    rw [if_neg hap]
    have la := putP_sizeP a0
    have lb := putP_sizeP b0
    rcases Int.lt_or_gt_of_ne hab with h | h
    · obtain ⟨c1, c2⟩ := put_cmp a b a0 h b1
      have l1 := putL_length a
      have l2 := putL_length b
      rw [c1, if_pos (by simp [h]), if_neg (by omega), if_pos (by omega), if_pos h]
    · obtain ⟨c1, c2⟩ := put_cmp b a b0 h a1
      have l1 := putL_length a
      have l2 := putL_length b
      have c3 : cmpL (putL a) (putL b) = 1 := by rw [cmpL_neg, c1]; rfl
      have hn : ¬ a < b := by omega
      rw [c3, if_pos (by simp [hn]), if_pos h, if_neg hn]
      simp; omega
end Go.Proofs.Ytaolidjfbgpccaa.Pure
