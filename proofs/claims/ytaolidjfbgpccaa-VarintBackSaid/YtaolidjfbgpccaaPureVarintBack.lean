/- VarintBack holds: what was put is taken as it was, whatever is behind it; cut short it is none; what is taken was put so. Conditions: none beyond the statement's own. -/
import Derived.Test.YtaolidjfbgpccaaPureVarintPuts
set_option linter.unusedVariables false
set_option linter.unusedSimpArgs false
namespace Go.Proofs.Ytaolidjfbgpccaa.Pure
open Go.RowKit Go.Proofs.Ytaolidjfbgpccaa.P Go.Proofs.Ytaolidjfbgpccaa.Vp Go.Proofs.YtaolidjfbgpccaaW.PrintWords Go.Proofs.YtaolidjfbgpccaaW.PrintLast Go.Proofs.YtaolidjfbgpccaaW.PrintMore
theorem back_l0 (n : Int) (h0 : 0 ≤ n) (h1 : n < 18446744073709551616) (s : ByteArray) (hs : s.size ≤ 3000) : ∀ (d i k : Nat), i + d = (putP n).size → d + 20 < k → moultlaw3_VarintBack.l0 k s (putP n) (i : Int) = some true := by
  have h9 := putP_size n
  intro d
  induction d with
  | zero =>
    intro i k hi hk
    obtain ⟨k, rfl⟩ : ∃ j, k = j + 1 := ⟨k - 1, by omega⟩
    simp only [moultlaw3_VarintBack.l0]
    rw [if_neg (by omega), take_f s (by omega) k (by omega)]
    simp only [Option.bind_some]
    split
    · rename_i hok
      obtain ⟨m, r, b, e⟩ : ∃ m r b, takeP s = (m, r, b) := ⟨_, _, _, rfl⟩
      rw [e] at hok ⊢
      simp only at hok ⊢
      subst hok
      obtain ⟨m0, m1, m2, m3⟩ := takeP_some e
      rw [put_f m m0 m1]
      simp only [Option.bind_some]
      rw [if_pos (by omega), ← m2]; simp
    · rfl
  | succ d ih =>
    intro i k hi hk
    obtain ⟨k, rfl⟩ : ∃ j, k = j + 1 := ⟨k - 1, by omega⟩
    simp only [moultlaw3_VarintBack.l0]
    rw [if_pos (by omega), if_pos (by omega), if_pos (by omega), Int.toNat_natCast, take_f _ (by rw [ByteArray.size_extract]; omega) k (by omega), takeP_cut n h0 h1 i (by omega)]
    simp only [Option.bind_some, if_true]
    rw [if_pos ((nil_iff _).2 rfl), if_neg (by decide), wrap_succ (by omega)]
    exact ih (i + 1) k (by omega) (by omega)
theorem VarintBack : moultlaw3_VarintBack.Pure := by
  intro n s hn hs
  obtain ⟨h0, h1⟩ := u64_wf hn
  refine ⟨(60 + 2) + 40, ?_⟩
  unfold moultlaw3_VarintBack.f
  rw [shown_le]
  simp only [Option.bind_some, if_true]
  show moultlaw3_VarintBack.j0 (100 + 1 + 1) n s true _ = _
  simp only [moultlaw3_VarintBack.j0]
  have h9 := putP_size n
  split
  · rfl
  · rename_i hsz
    have hs2 : s.size ≤ 3000 := by rw [decide_eq_true_eq] at hsz; omega
    rw [put_f n h0 h1]
    simp only [Option.bind_some]
    rw [if_pos (by omega), take_f _ (by rw [ByteArray.size_append]; omega) _ (by omega), takeP_put n h0 h1]
    simp only [Option.bind_some, if_true]
    simp only [moultlaw3_VarintBack.j1]
    rw [if_neg (by decide)]
    exact back_l0 n h0 h1 s hs2 (putP n).size 0 _ (by omega) (by omega)
end Go.Proofs.Ytaolidjfbgpccaa.Pure
