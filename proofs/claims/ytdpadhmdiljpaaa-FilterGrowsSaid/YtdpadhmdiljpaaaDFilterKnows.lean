-- Written by sprint.py (wip/tools) with the kit's print.py: a program's text, checked by Lean alone.
import Derived.Test.YtdpadhmdiljpaaaPx5
import Derived.Test.YtdpadhmdiljpaaaOp
namespace Go.Proofs.Ytdpadhmdiljpaaa.P
open Go.RowKit Go.Proofs.Ytdpadhmdiljpaaa.P Go.Proofs.YtdpadhmdiljpaaaW.PrintWords Go.Proofs.YtdpadhmdiljpaaaW.PrintLast
def moultlaw9_FilterKnows.Pure : Prop := ∀ (l0 : List ByteArray) (a1 : Int), l0.length ≤ maxLen → (∀ x ∈ l0, x.size ≤ maxLen) → (Lit.int .i64 a1).wf = true → ∃ k, moultlaw9_FilterKnows.f k l0 a1 = some true
end Go.Proofs.Ytdpadhmdiljpaaa.P
