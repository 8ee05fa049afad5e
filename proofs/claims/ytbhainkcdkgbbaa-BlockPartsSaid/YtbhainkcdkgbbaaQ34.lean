import Derived.Test.YtbhainkcdkgbbaaProg
import Derived.Below
import Derived.Deep.Draws
import Derived.Deep.AppendLies
import Derived.Maps.AppendAt
import Derived.OwnWalk
import Derived.Laws.BytesArg
import Derived.Laws.MakeOwn
import Derived.Laws.OwnMore
import Derived.Deep.OwnRows
import Derived.Tactics
import Derived.Lib.ConvBytes
import Derived.Laws.Slices
import Derived.WalkKit
import Derived.KernelRfl
import Derived.RowKit3
import Derived.Deep.LoopGhost
import Derived.Deep.QuietTactic
import Derived.BigQuiet
import Derived.WideLaws
import Derived.Deep.DeepCutAuto
import Derived.Deep.CutBlock
import Derived.Deep.RegionHeld3
import Derived.Laws.Rows
import Derived.Lib.AppendStr
import Derived.ArgAppend
import Derived.Laws.IdiomCopy
import Derived.OrdersHeld
import Derived.Laws.BitsLemmas
import Derived.RowKit
import Derived.Lib.Hide
import Derived.Laws.ShiftsVar
import Derived.Laws.ShiftsVarLaws
import Derived.Laws.BitsAllLaws
import Derived.Shelf.Strings.Builder1
import Derived.Laws.Strings
import Derived.Laws.StructEq
import Derived.WalkSpells
import Derived.Outline
import Derived.RegionTactic
import Derived.Deep.RegionWith
import Derived.StillTailTactics
import Derived.Test.YtbhainkcdkgbbaaQ0
import Derived.Test.YtbhainkcdkgbbaaQ4
import Derived.Test.YtbhainkcdkgbbaaQ5
import Derived.Test.YtbhainkcdkgbbaaQ7
import Derived.Test.YtbhainkcdkgbbaaQ19
namespace Go.Proofs.Ytbhainkcdkgbbaa.P
end Go.Proofs.Ytbhainkcdkgbbaa.P
namespace Go.Proofs.Ytbhainkcdkgbbaa.Sl
end Go.Proofs.Ytbhainkcdkgbbaa.Sl
namespace Go.Proofs.Ytbhainkcdkgbbaa.Vp
end Go.Proofs.Ytbhainkcdkgbbaa.Vp
namespace Go.Proofs.YtbhainkcdkgbbaaW.PrintLast
end Go.Proofs.YtbhainkcdkgbbaaW.PrintLast
namespace Go.Proofs.YtbhainkcdkgbbaaW.PrintMore
end Go.Proofs.YtbhainkcdkgbbaaW.PrintMore
namespace Go.Proofs.YtbhainkcdkgbbaaW.PrintWords
end Go.Proofs.YtbhainkcdkgbbaaW.PrintWords
set_option linter.unusedVariables false
set_option linter.unusedSimpArgs false
namespace Go.Proofs.Ytbhainkcdkgbbaa.Pure
open Go.RowKit Go.Proofs.Ytbhainkcdkgbbaa.P Go.Proofs.Ytbhainkcdkgbbaa.Vp Go.Proofs.Ytbhainkcdkgbbaa.Sl Go.Proofs.YtbhainkcdkgbbaaW.PrintWords Go.Proofs.YtbhainkcdkgbbaaW.PrintLast Go.Proofs.YtbhainkcdkgbbaaW.PrintMore
theorem less_trans : ∀ a b c : List UInt8, Op.bytesLess a b = true → Op.bytesLess b c = true → Op.bytesLess a c = true
  | _, [], _, h, _ => by simp [Op.bytesLess] at h
  | _, _ :: _, [], _, h => by simp [Op.bytesLess] at h
  | [], _ :: _, _ :: _, _, _ => rfl
  | x :: a, y :: b, z :: c, h1, h2 => by
    have ih := less_trans a b c
    simp only [Op.bytesLess, Bool.or_eq_true, Bool.and_eq_true, decide_eq_true_eq, beq_iff_eq] at h1 h2 ⊢
    rcases h1 with h1 | ⟨rfl, h1⟩
    · rcases h2 with h2 | ⟨rfl, h2⟩
      · exact .inl (UInt8.lt_trans h1 h2)
      · exact .inl h1
    · rcases h2 with h2 | ⟨rfl, h2⟩
      · exact .inl h2
      · exact .inr ⟨rfl, ih h1 h2⟩
theorem enc_inj {last : ByteArray} {l m : List Pa} (hz : (encFrom last l).length + last.size < 1000000000) (h : encFrom last l = encFrom last m) : l = m := by
  obtain ⟨suf, e1, e2⟩ := enc_pre m last l [] hz (by rw [h, List.append_nil])
  cases suf with
  | nil => rw [e1, List.append_nil]
  | cons p suf =>
    have := congrArg List.length e2
    have h3 := encA_pos (lastOf last m) p.f0 p.f1
    simp only [encFrom, List.length_nil, List.length_append] at this
    omega
theorem read_enc {s : ByteArray} {l : List Pa} (hs : s.size ≤ 40000) (h : s.data.toList = encFrom ⟨#[]⟩ l) (ho : okFrom false ⟨#[]⟩ l) (k : Nat) (hk : 300000 < k) : block_Read.f k s = some (l, 0) := by
  rcases read_f s k hk with ⟨m, _, h1, h2, h3⟩ | ⟨h1, _⟩
  · have hz : (⟨#[]⟩ : ByteArray).size = 0 := rfl
    have hle : (encFrom ⟨#[]⟩ m).length = s.size := by rw [← h1, ba_sz]
    rw [h3, enc_inj (l := m) (m := l) (last := ⟨#[]⟩) (by omega) (by rw [← h1, h])]
  · exact absurd ⟨l, hs, h, ho⟩ h1
theorem ok_all : ∀ (l : List Pa) (last : ByteArray), okFrom true last l → ∀ p ∈ l, Op.bytesLess last.toList p.f0.toList = true
  | [], _, _, p, hp => by simp at hp
  | q :: l, last, h, p, hp => by
    rcases List.mem_cons.1 hp with rfl | hp
    · exact h.1 rfl
    · exact less_trans _ _ _ (h.1 rfl) (ok_all l q.f0 h.2 p hp)
end Go.Proofs.Ytbhainkcdkgbbaa.Pure

