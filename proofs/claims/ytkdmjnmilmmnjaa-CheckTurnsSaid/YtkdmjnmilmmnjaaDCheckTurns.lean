-- Written by sprint.py (wip/tools) with the kit's print.py: a program's text, checked by Lean alone.
import Derived.Test.YtkdmjnmilmmnjaaTu
import Derived.Test.YtkdmjnmilmmnjaaTu
import Derived.Test.YtkdmjnmilmmnjaaOp
namespace Go.Proofs.Ytkdmjnmilmmnjaa.P
open Go.RowKit Go.Proofs.Ytkdmjnmilmmnjaa.P Go.Proofs.YtkdmjnmilmmnjaaW.PrintWords Go.Proofs.YtkdmjnmilmmnjaaW.PrintLast
def moultlaw5_CheckTurns.Pure : Prop := ∀ (a0 : ByteArray) (a1 : Int) (a2 : Int), a0.size ≤ 140737488351232 → (Lit.int .i64 a1).wf = true → (Lit.int .i64 a2).wf = true → ∃ k, moultlaw5_CheckTurns.f k a0 a1 a2 = some true
end Go.Proofs.Ytkdmjnmilmmnjaa.P
