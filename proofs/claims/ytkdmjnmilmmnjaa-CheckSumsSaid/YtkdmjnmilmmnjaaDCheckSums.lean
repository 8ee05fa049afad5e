-- Written by sprint.py (wip/tools) with the kit's print.py: a program's text, checked by Lean alone.
import Derived.Test.YtkdmjnmilmmnjaaSu
import Derived.Test.YtkdmjnmilmmnjaaSu
import Derived.Test.YtkdmjnmilmmnjaaOp
namespace Go.Proofs.Ytkdmjnmilmmnjaa.P
open Go.RowKit Go.Proofs.Ytkdmjnmilmmnjaa.P Go.Proofs.YtkdmjnmilmmnjaaW.PrintWords Go.Proofs.YtkdmjnmilmmnjaaW.PrintLast
def moultlaw5_CheckSums.Pure : Prop := ∀ (a0 : ByteArray) (a1 : ByteArray) (a2 : ByteArray) (a3 : Int) (a4 : Int), a0.size ≤ 140737488351232 → a1.size ≤ 140737488351232 → a2.size ≤ 140737488351232 → (Lit.int .i64 a3).wf = true → (Lit.int .i64 a4).wf = true → ∃ k, moultlaw5_CheckSums.f k a0 a1 a2 a3 a4 = some true
end Go.Proofs.Ytkdmjnmilmmnjaa.P
