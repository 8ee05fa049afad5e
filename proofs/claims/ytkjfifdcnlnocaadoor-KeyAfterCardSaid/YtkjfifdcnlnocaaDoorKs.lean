import Derived.Test.YtkjfifdcnlnocaaDoorPx3
namespace Go.Proofs.YtkjfifdcnlnocaaDoor.Ks
open Go.RowKit Go.Proofs.YtkjfifdcnlnocaaDoor.P Go.Proofs.YtkjfifdcnlnocaaDoorW.PrintWords Go.Proofs.YtkjfifdcnlnocaaDoorW.PrintLast
theorem shown_f : moultlaw4_shown.f 40 = some true := by decide +kernel
theorem shown_le (k : Nat) : moultlaw4_shown.f (k + 40) = some true := by
  induction k with
  | zero => rw [Nat.zero_add]; exact shown_f
  | succ k ih => rw [Nat.add_right_comm]; exact moultlaw4_shown.mono _ _ ih
theorem shown_k (k : Nat) (h : 40 ≤ k) : moultlaw4_shown.f k = some true := by
  have := shown_le (k - 40)
  rwa [Nat.sub_add_cancel h] at this
end Go.Proofs.YtkjfifdcnlnocaaDoor.Ks
