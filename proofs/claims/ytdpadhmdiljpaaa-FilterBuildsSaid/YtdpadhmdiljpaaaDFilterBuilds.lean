-- Written by sprint.py (wip/tools) with the kit's print.py: a program's text, checked by Lean alone.
import Derived.Test.YtdpadhmdiljpaaaPx4
import Derived.Test.YtdpadhmdiljpaaaOp
namespace Go.Proofs.Ytdpadhmdiljpaaa.P
open Go.RowKit Go.Proofs.Ytdpadhmdiljpaaa.P Go.Proofs.YtdpadhmdiljpaaaW.PrintWords Go.Proofs.YtdpadhmdiljpaaaW.PrintLast
def moultlaw9_FilterBuilds.Pure : Prop := ∀ (l0 : List ByteArray) (a1 : ByteArray) (a2 : ByteArray), l0.length ≤ maxLen → (∀ x ∈ l0, x.size ≤ maxLen) → a1.size ≤ 140737488351232 → a2.size ≤ 140737488351232 → ∃ k, moultlaw9_FilterBuilds.f k l0 a1 a2 = some true
end Go.Proofs.Ytdpadhmdiljpaaa.P
