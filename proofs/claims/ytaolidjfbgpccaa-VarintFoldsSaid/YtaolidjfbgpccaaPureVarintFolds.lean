/- VarintFolds holds: ints and numbers are folded into one another, one for one; what is nearer to nought is the lesser number. Conditions: none beyond the statement's own. -/
import Derived.Test.YtaolidjfbgpccaaPf
set_option linter.unusedVariables false
set_option linter.unusedSimpArgs false
namespace Go.Proofs.Ytaolidjfbgpccaa.Pure
open Go.RowKit Go.Proofs.Ytaolidjfbgpccaa.P Go.Proofs.Ytaolidjfbgpccaa.Vp Go.Proofs.YtaolidjfbgpccaaW.PrintWords Go.Proofs.YtaolidjfbgpccaaW.PrintLast Go.Proofs.YtaolidjfbgpccaaW.PrintMore
theorem folds_j1 (n m : Int) (n0 : -9223372036854775808 ≤ n) (n1 : n ≤ 9223372036854775807) (m0 : -9223372036854775808 ≤ m) (m1 : m ≤ 9223372036854775807) (h : 0 ≤ n) (h2 : 0 ≤ m) (k : Nat) : moultlaw3_VarintFolds.j1 (k + 1) n m false = some true := by
  have e1 : foldP n = 2 * n := by unfold foldP; rw [if_pos (by omega)]
  have e2 : foldP m = 2 * m := by unfold foldP; rw [if_pos (by omega)]
  have e4 : wrap64 (-n) = -n := by unfold wrap64; omega
  have e3 : foldP (-n) ≤ 2 * n := by unfold foldP; split <;> omega
  have e5 : decide (2 * n < 2 * m) = decide (n < m) := by rw [decide_eq_decide]; omega
  have f1 := fold_f n n0 n1
  have f2 := fold_f m m0 m1
  have f3 := fold_f (-n) (by omega) (by omega)
  rw [e1] at f1
  rw [e2] at f2
  generalize foldP (-n) = z at e3 f3
  rw [moultlaw3_VarintFolds.j1, if_neg (by decide), f1, Option.bind_some, f2, Option.bind_some, e5, if_pos (beq_self_eq_true _), e4, f3, Option.bind_some, Option.bind_some, decide_eq_true e3]
theorem folds_j0 (n m : Int) (n0 : -9223372036854775808 ≤ n) (n1 : n ≤ 9223372036854775807) (m0 : -9223372036854775808 ≤ m) (m1 : m ≤ 9223372036854775807) (k : Nat) : moultlaw3_VarintFolds.j0 (k + 2) n m false = some true := by
  rw [moultlaw3_VarintFolds.j0, if_neg (by decide)]
  by_cases h : n < 0
  · rw [if_pos h, moultlaw3_VarintFolds.j1, if_pos rfl]
  · rw [if_neg h]
    by_cases h2 : m < 0
    · rw [decide_eq_true h2, moultlaw3_VarintFolds.j1, if_pos rfl]
    · rw [decide_eq_false h2]
      exact folds_j1 n m n0 n1 m0 m1 (by omega) (by omega) k
theorem VarintFolds : moultlaw3_VarintFolds.Pure := by
  intro n u m hn hu hm
  obtain ⟨n0, n1⟩ := i64_wf hn
  obtain ⟨m0, m1⟩ := i64_wf hm
  obtain ⟨u0, u1⟩ := u64_wf hu
  have fr := foldP_range n n0 n1
  have ur := unfoldP_range u u0 u1
  have f1 := fold_f n n0 n1
  have f2 := unfold_f _ fr.1 fr.2
  have f3 := unfold_f u u0 u1
  have f4 := fold_f _ ur.1 ur.2
  have f5 := rfold_f n n0 n1
  have f6 := runfold_f u u0 u1
  rw [unfold_fold] at f2
  rw [fold_unfold u u0] at f4
  have hend := folds_j0 n m n0 n1 m0 m1
  generalize foldP n = a at f1 f2 f5
  generalize unfoldP u = b at f3 f4 f6
  refine ⟨2 + 40, ?_⟩
  have hs := shown_le 2
  have hend := hend 40
  rw [show 40 + 2 = 2 + 40 from rfl] at hend
  generalize 2 + 40 = k at hs hend
  rw [moultlaw3_VarintFolds.f, hs, Option.bind_some, if_pos rfl, f1, Option.bind_some, f2, Option.bind_some, if_pos rfl, f3, Option.bind_some, f4, Option.bind_some, if_pos rfl, Option.bind_some, f5, Option.bind_some, if_pos rfl, Option.bind_some, f6, Option.bind_some, bne_self_eq_false]
  exact hend
end Go.Proofs.Ytaolidjfbgpccaa.Pure
