-- Written by sprint.py (wip/tools) with the kit's print.py: a program's text, checked by Lean alone.
import Derived.Test.YtkdmjnmilmmnjaaPx8
import Derived.Test.YtkdmjnmilmmnjaaOp
namespace Go.Proofs.Ytkdmjnmilmmnjaa.P
open Go.RowKit Go.Proofs.Ytkdmjnmilmmnjaa.P Go.Proofs.YtkdmjnmilmmnjaaW.PrintWords Go.Proofs.YtkdmjnmilmmnjaaW.PrintLast
def moultlaw5_CheckBack.Pure : Prop := ∀ (l0 : List ByteArray) (a1 : ByteArray), l0.length ≤ maxLen → (∀ x ∈ l0, x.size ≤ maxLen) → a1.size ≤ 140737488351232 → ∃ k, moultlaw5_CheckBack.f k l0 a1 = some true
end Go.Proofs.Ytkdmjnmilmmnjaa.P
