/- Chapter 3 (varint), plain: folding and unfolding. -/
import Derived.Test.YtaolidjfbgpccaaPx6
import Derived.Test.YtaolidjfbgpccaaPureVarintPuts
set_option linter.unusedVariables false
set_option linter.unusedSimpArgs false
namespace Go.Proofs.Ytaolidjfbgpccaa.Pure
open Go.RowKit Go.Proofs.Ytaolidjfbgpccaa.P Go.Proofs.Ytaolidjfbgpccaa.Vp Go.Proofs.YtaolidjfbgpccaaW.PrintWords Go.Proofs.YtaolidjfbgpccaaW.PrintLast Go.Proofs.YtaolidjfbgpccaaW.PrintMore
theorem xor_zero_i64 (x : Int) (h0 : 0 ≤ x) (h1 : x < 9223372036854775808) : Go.bits .xor .i64 x 0 = x := by
  obtain ⟨m, rfl⟩ := Int.eq_ofNat_of_zero_le h0
  rw [bits_xor_i64]
  have e : BitVec.ofInt 64 (m : Int) ^^^ BitVec.ofInt 64 0 = BitVec.ofNat 64 m := by
    rw [show BitVec.ofInt 64 0 = 0#64 from rfl, BitVec.xor_zero, BitVec.ofInt_natCast]
  rw [e, BitVec.toNat_ofNat, Nat.mod_eq_of_lt (by omega), IntKind.wrap_i64]; omega
theorem xor_ones_i64 (x : Int) (h0 : 0 ≤ x) (h1 : x < 9223372036854775808) : Go.bits .xor .i64 x (-1) = -x - 1 := by
  obtain ⟨m, rfl⟩ := Int.eq_ofNat_of_zero_le h0
  rw [bits_xor_i64]
  have e : (BitVec.ofInt 64 (m : Int) ^^^ BitVec.ofInt 64 (-1)).toNat = 18446744073709551615 - m := by
    rw [show BitVec.ofInt 64 (-1) = BitVec.allOnes 64 from rfl, BitVec.xor_allOnes, BitVec.ofInt_natCast, BitVec.toNat_not, BitVec.toNat_ofNat, Nat.mod_eq_of_lt (by omega)]
  rw [e, IntKind.wrap_i64]; omega
theorem unfold_f (u : Int) (h0 : 0 ≤ u) (h1 : u < 18446744073709551616) : varint_Unfold.f u = some (unfoldP u) := by
  unfold varint_Unfold.f unfoldP
  congr 1
  have ea : Go.bits .and .u64 u 1 = u % 2 := by
    rw [show (1 : Int) = ((1 : Nat) : Int) from rfl, u64_and u _ h0 h1 (by decide) (by decide), Int.toNat_natCast, Nat.and_one_is_mod]; omega
  have e1 : wrap64 (u / 2) = u / 2 := by unfold wrap64; omega
  have e2 : wrap64 (u % 2) = u % 2 := by unfold wrap64; omega
  rw [ea, e1, e2]
  by_cases h : u % 2 = 0
  · rw [if_pos h, h, show wrap64 (-0) = 0 from by unfold wrap64; omega]
    exact xor_zero_i64 _ (by omega) (by omega)
  · rw [if_neg h, show u % 2 = 1 by omega, show wrap64 (-1) = -1 from by unfold wrap64; omega]
    rw [xor_ones_i64 _ (by omega) (by omega)]
theorem rfold_f (n : Int) (h0 : -9223372036854775808 ≤ n) (h1 : n ≤ 9223372036854775807) : moultref3_Fold.f n = some (foldP n) := by
  unfold moultref3_Fold.f foldP
  by_cases h : n ≥ 0
  · rw [if_pos h, if_pos h]
    congr 1
    rw [IntKind.wrap_u64, IntKind.wrap_u64]; omega
  · rw [if_neg h, if_neg h]
    congr 1
    rw [IntKind.wrap_u64, IntKind.wrap_u64, IntKind.wrap_u64]; unfold wrap64; omega
theorem runfold_f (u : Int) (h0 : 0 ≤ u) (h1 : u < 18446744073709551616) : moultref3_Unfold.f u = some (unfoldP u) := by
  unfold moultref3_Unfold.f unfoldP
  rw [tmod_nn h0, tdiv_nn h0]
  by_cases h : u % 2 = 0
  · rw [if_pos h, if_pos h]
    congr 1
    rw [IntKind.wrap_u64]; unfold wrap64; omega
  · rw [if_neg h, if_neg h]
    congr 1
    rw [IntKind.wrap_u64]; unfold wrap64; omega
end Go.Proofs.Ytaolidjfbgpccaa.Pure
