-- Written by sprint.py (wip/tools) with the kit's print.py: a program's text, checked by Lean alone.
import Derived.Test.YtdpadhmdiljpaaaPx6
import Derived.Test.YtdpadhmdiljpaaaOp
namespace Go.Proofs.Ytdpadhmdiljpaaa.P
open Go.RowKit Go.Proofs.Ytdpadhmdiljpaaa.P Go.Proofs.YtdpadhmdiljpaaaW.PrintWords Go.Proofs.YtdpadhmdiljpaaaW.PrintLast
def moultlaw9_FilterGrows.Pure : Prop := ∀ (l0 : List ByteArray) (a1 : ByteArray) (a2 : Int), l0.length ≤ maxLen → (∀ x ∈ l0, x.size ≤ maxLen) → a1.size ≤ 140737488351232 → (Lit.int .i64 a2).wf = true → ∃ k, moultlaw9_FilterGrows.f k l0 a1 a2 = some true
end Go.Proofs.Ytdpadhmdiljpaaa.P
