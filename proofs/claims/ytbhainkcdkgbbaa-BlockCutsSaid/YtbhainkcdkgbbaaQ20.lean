import Derived.Test.YtbhainkcdkgbbaaProg
import Derived.Below
import Derived.Deep.Draws
import Derived.Deep.AppendLies
import Derived.Maps.AppendAt
import Derived.OwnWalk
import Derived.Laws.BytesArg
import Derived.Laws.MakeOwn
import Derived.Laws.OwnMore
import Derived.Deep.OwnRows
import Derived.Tactics
import Derived.Lib.ConvBytes
import Derived.Laws.Slices
import Derived.WalkKit
import Derived.KernelRfl
import Derived.RowKit3
import Derived.Deep.LoopGhost
import Derived.Deep.QuietTactic
import Derived.BigQuiet
import Derived.WideLaws
import Derived.Deep.DeepCutAuto
import Derived.Deep.CutBlock
import Derived.Deep.RegionHeld3
import Derived.Laws.Rows
import Derived.Lib.AppendStr
import Derived.ArgAppend
import Derived.Laws.IdiomCopy
import Derived.OrdersHeld
import Derived.Laws.BitsLemmas
import Derived.RowKit
import Derived.Lib.Hide
import Derived.Laws.ShiftsVar
import Derived.Laws.ShiftsVarLaws
import Derived.Laws.BitsAllLaws
import Derived.Shelf.Strings.Builder1
import Derived.Laws.Strings
import Derived.Laws.StructEq
import Derived.WalkSpells
import Derived.Outline
import Derived.RegionTactic
import Derived.Deep.RegionWith
import Derived.StillTailTactics
import Derived.Test.YtbhainkcdkgbbaaQ0
import Derived.Test.YtbhainkcdkgbbaaQ1
import Derived.Test.YtbhainkcdkgbbaaQ2
import Derived.Test.YtbhainkcdkgbbaaQ4
import Derived.Test.YtbhainkcdkgbbaaQ5
import Derived.Test.YtbhainkcdkgbbaaQ15
import Derived.Test.YtbhainkcdkgbbaaQ18
import Derived.Test.YtbhainkcdkgbbaaQ19
namespace Go.Proofs.Ytbhainkcdkgbbaa.Sl
end Go.Proofs.Ytbhainkcdkgbbaa.Sl
namespace Go.Proofs.Ytbhainkcdkgbbaa.Vp
end Go.Proofs.Ytbhainkcdkgbbaa.Vp
namespace Go.Proofs.YtbhainkcdkgbbaaW.PrintLast
end Go.Proofs.YtbhainkcdkgbbaaW.PrintLast
namespace Go.Proofs.YtbhainkcdkgbbaaW.PrintMore
end Go.Proofs.YtbhainkcdkgbbaaW.PrintMore
namespace Go.Proofs.YtbhainkcdkgbbaaW.PrintWords
end Go.Proofs.YtbhainkcdkgbbaaW.PrintWords
section
namespace Go.Proofs.Ytbhainkcdkgbbaa.P
open Go.RowKit Go.Proofs.Ytbhainkcdkgbbaa.Vp Go.Proofs.Ytbhainkcdkgbbaa.Sl Go.Proofs.YtbhainkcdkgbbaaW.PrintWords Go.Proofs.YtbhainkcdkgbbaaW.PrintLast Go.Proofs.YtbhainkcdkgbbaaW.PrintMore
attribute [local go_sem] str_gtr str_leq str_geq max2_int min2_int max_two min_two max_three min_three max_four min_four
set_option linter.unusedVariables false
set_option linter.unusedSimpArgs false
def moultlaw8_pick.f (a0 : Int) (a1 : Int) : Option (Int) := if a0 < 0 then (if a1 = 0 then (none) else (some (Int.tmod (wrap64 (-(wrap64 (a0 + 1)))) a1))) else (if a1 = 0 then (none) else (some (Int.tmod a0 a1)))
end Go.Proofs.Ytbhainkcdkgbbaa.P

end
section
namespace Go.Proofs.Ytbhainkcdkgbbaa.P
open Go.RowKit Go.Proofs.Ytbhainkcdkgbbaa.Vp Go.Proofs.Ytbhainkcdkgbbaa.Sl Go.Proofs.YtbhainkcdkgbbaaW.PrintWords Go.Proofs.YtbhainkcdkgbbaaW.PrintLast Go.Proofs.YtbhainkcdkgbbaaW.PrintMore
attribute [local go_sem] str_gtr str_leq str_geq max2_int min2_int max_two min_two max_three min_three max_four min_four
set_option linter.unusedVariables false
set_option linter.unusedSimpArgs false
mutual
def moultlaw8_BlockParts.j0 : Nat → List (S43) → ByteArray → ByteArray → Bool → Bool → Option (Bool)
  | 0, _, _, _, _, _ => none
  | k + 1, x0, x1, x2, x7, x45 => if x45 = true then (some x7) else ((moultlaw8_rising.f k x0).bind fun t307 => ((block_Build.f t307).bind fun bt310 => (if bt310.2 = 0 then ((block_Between.f k bt310.1 x1 x2).bind fun bt312 => ((block_Between.f k bt310.1 x2 (⟨#[]⟩ : ByteArray)).bind fun bt316 => ((block_Between.f k bt310.1 x1 (⟨#[]⟩ : ByteArray)).bind fun bt320 => (moultlaw8_BlockParts.l0 k x1 x2 bt312.1 bt316.1 bt320.1 0)))) else (some (bt310.2 == 10)))))
def moultlaw8_BlockParts.l0 : Nat → ByteArray → ByteArray → List (S43) → List (S43) → List (S43) → Int → Option (Bool)
  | 0, _, _, _, _, _, _ => none
  | k + 1, x1, x2, x13, x15, x17, x19 => if x19 < (x13.length : Int) then (if 0 ≤ x19 then (if (Op.bytesLess (((rd_T43 x13 x19).f0).toList) x1.toList) = true then (some false) else (if ((Op.bytesLess (((rd_T43 x13 x19).f0).toList) x2.toList) = true) then (moultlaw8_BlockParts.l0 k x1 x2 x13 x15 x17 (wrap64 (x19 + 1))) else (some false))) else (none)) else ((some (([] : List (S43)) : List (S43))).bind fun y326 => (if y326.length + x13.length < 4398046511104 then ((some (y326 ++ x13 : List (S43))).bind fun y329 => (if y329.length + x15.length < 4398046511104 then ((moultlaw8_same.f k (y329 ++ x15) x17).bind fun t335 => (some t335)) else (none))) else (none)))
end
def moultlaw8_BlockParts.f (k : Nat) (l0 : List (S43)) (a1 : ByteArray) (a2 : ByteArray) : Option (Bool) := (moultlaw8_shown.f k).bind fun t302 => ((moultlaw8_as.f k l0).bind fun bt303 => (if t302 = true then (if bt303.2 = true then (if a2.toList = ([] : List UInt8) then (moultlaw8_BlockParts.j0 k l0 a1 a2 t302 true) else (if (Op.bytesLess a2.toList a1.toList) = true then (moultlaw8_BlockParts.j0 k l0 a1 a2 t302 true) else (moultlaw8_BlockParts.j0 k l0 a1 a2 t302 (decide ((a2.size : Int) > 300))))) else (moultlaw8_BlockParts.j0 k l0 a1 a2 t302 true)) else (moultlaw8_BlockParts.j0 k l0 a1 a2 t302 true)))
theorem moultlaw8_BlockParts.mono_l : ∀ k, (∀ y0 y1 y2 y3 y4, LeO (moultlaw8_BlockParts.j0 k y0 y1 y2 y3 y4) (moultlaw8_BlockParts.j0 (k + 1) y0 y1 y2 y3 y4)) ∧ (∀ y0 y1 y2 y3 y4 y5, LeO (moultlaw8_BlockParts.l0 k y0 y1 y2 y3 y4 y5) (moultlaw8_BlockParts.l0 (k + 1) y0 y1 y2 y3 y4 y5))
  | 0 => ⟨fun _ _ _ _ _ r h => by simp [moultlaw8_BlockParts.j0] at h, fun _ _ _ _ _ _ r h => by simp [moultlaw8_BlockParts.l0] at h⟩
  | k + 1 => by
    obtain ⟨ih0, ih1⟩ := moultlaw8_BlockParts.mono_l k
    refine ⟨?_, ?_⟩
    · intro y0 y1 y2 y3 y4
      unfold moultlaw8_BlockParts.j0
      repeat' first
      | (with_reducible exact ih0 _ _ _ _ _)
      | (with_reducible exact ih1 _ _ _ _ _ _)
      | (with_reducible exact block_Between.mono _ _ _ _)
      | (with_reducible exact moultlaw8_as.mono _ _)
      | (with_reducible exact moultlaw8_rising.mono _ _)
      | (with_reducible exact moultlaw8_same.mono _ _ _)
      | (with_reducible exact moultlaw8_shown.mono _)
      | (with_reducible exact LeO.refl _)
      | (with_reducible exact LeO.none _)
      | (with_reducible refine LeO.ite ?_ ?_)
      | (with_reducible refine LeO.bind ?_ (fun _ => ?_))
      | exact ih0 _ _ _ _ _
      | exact ih1 _ _ _ _ _ _
      | exact block_Between.mono _ _ _ _
      | exact moultlaw8_as.mono _ _
      | exact moultlaw8_rising.mono _ _
      | exact moultlaw8_same.mono _ _ _
      | exact moultlaw8_shown.mono _
      | exact LeO.none _
      | refine LeO.ite ?_ ?_
      | refine LeO.bind ?_ (fun _ => ?_)
    · intro y0 y1 y2 y3 y4 y5
      unfold moultlaw8_BlockParts.l0
      repeat' first
      | (with_reducible exact ih0 _ _ _ _ _)
      | (with_reducible exact ih1 _ _ _ _ _ _)
      | (with_reducible exact block_Between.mono _ _ _ _)
      | (with_reducible exact moultlaw8_as.mono _ _)
      | (with_reducible exact moultlaw8_rising.mono _ _)
      | (with_reducible exact moultlaw8_same.mono _ _ _)
      | (with_reducible exact moultlaw8_shown.mono _)
      | (with_reducible exact LeO.refl _)
      | (with_reducible exact LeO.none _)
      | (with_reducible refine LeO.ite ?_ ?_)
      | (with_reducible refine LeO.bind ?_ (fun _ => ?_))
      | exact ih0 _ _ _ _ _
      | exact ih1 _ _ _ _ _ _
      | exact block_Between.mono _ _ _ _
      | exact moultlaw8_as.mono _ _
      | exact moultlaw8_rising.mono _ _
      | exact moultlaw8_same.mono _ _ _
      | exact moultlaw8_shown.mono _
      | exact LeO.none _
      | refine LeO.ite ?_ ?_
      | refine LeO.bind ?_ (fun _ => ?_)
theorem moultlaw8_BlockParts.mono : ∀ a0 a1 a2 k, LeO (moultlaw8_BlockParts.f k a0 a1 a2) (moultlaw8_BlockParts.f (k + 1) a0 a1 a2) := by
  intro a0 a1 a2 k
  obtain ⟨ih0, ih1⟩ := moultlaw8_BlockParts.mono_l k
  unfold moultlaw8_BlockParts.f
  repeat' first
      | (with_reducible exact ih0 _ _ _ _ _)
      | (with_reducible exact ih1 _ _ _ _ _ _)
      | (with_reducible exact block_Between.mono _ _ _ _)
      | (with_reducible exact moultlaw8_as.mono _ _)
      | (with_reducible exact moultlaw8_rising.mono _ _)
      | (with_reducible exact moultlaw8_same.mono _ _ _)
      | (with_reducible exact moultlaw8_shown.mono _)
      | (with_reducible exact LeO.refl _)
      | (with_reducible exact LeO.none _)
      | (with_reducible refine LeO.ite ?_ ?_)
      | (with_reducible refine LeO.bind ?_ (fun _ => ?_))
      | exact ih0 _ _ _ _ _
      | exact ih1 _ _ _ _ _ _
      | exact block_Between.mono _ _ _ _
      | exact moultlaw8_as.mono _ _
      | exact moultlaw8_rising.mono _ _
      | exact moultlaw8_same.mono _ _ _
      | exact moultlaw8_shown.mono _
      | exact LeO.none _
      | refine LeO.ite ?_ ?_
      | refine LeO.bind ?_ (fun _ => ?_)
mutual
def moultlaw8_BlockCuts.j0 : Nat → List (S43) → Int → Bool → Bool → Option (Bool)
  | 0, _, _, _, _ => none
  | k + 1, x0, x1, x5, x29 => if x29 = true then (some x5) else ((moultlaw8_rising.f k x0).bind fun t341 => ((block_Build.f t341).bind fun bt344 => (if bt344.2 = 0 then (moultlaw8_BlockCuts.j1 k x1 t341 bt344.1 ((bt344.1.size : Int) == 0)) else (moultlaw8_BlockCuts.j1 k x1 t341 bt344.1 true))))
def moultlaw8_BlockCuts.j1 : Nat → Int → List (S43) → ByteArray → Bool → Option (Bool)
  | 0, _, _, _, _ => none
  | k + 1, x1, x8, x9, x44 => if x44 = true then (some true) else ((moultlaw8_pick.f x1 (x9.size : Int)).bind fun t346 => (if 0 ≤ t346 then (if t346 ≤ (x9.size : Int) then ((block_Read.f k (x9.extract 0 (t346 : Int).toNat)).bind fun bt347 => (if x9.size + 1 ≤ 9223372036854775807 then ((block_Read.f k (x9 ++ (⟨#[0]⟩ : ByteArray))).bind fun bt351 => (if bt347.2 = 0 then (if 0 ≤ (mn (bt347.1.length : Int) (x8.length : Int)) then (if (mn (bt347.1.length : Int) (x8.length : Int)) ≤ (x8.length : Int) then ((block_Build.f (x8.take ((mn (bt347.1.length : Int) (x8.length : Int)) : Int).toNat)).bind fun bt359 => (if (bt347.1.length : Int) < (x8.length : Int) then (if 0 ≤ (bt347.1.length : Int) then (if (bt347.1.length : Int) ≤ (x8.length : Int) then ((moultlaw8_same.f k bt347.1 (x8.take ((bt347.1.length : Int) : Int).toNat)).bind fun t365 => (if t365 = true then (if (bt359.1.size : Int) = t346 then (some (bt351.2 == 8)) else (some false)) else (some false))) else (none)) else (none)) else (some false))) else (none)) else (none)) else (if bt347.2 = 8 then (if (bt347.1.length : Int) = 0 then (some (bt351.2 == 8)) else (some false)) else (some false)))) else (none))) else (none)) else (none)))
end
def moultlaw8_BlockCuts.f (k : Nat) (l0 : List (S43)) (a1 : Int) : Option (Bool) := (moultlaw8_shown.f k).bind fun t336 => ((moultlaw8_as.f k l0).bind fun bt337 => (if t336 = true then (moultlaw8_BlockCuts.j0 k l0 a1 t336 (!bt337.2)) else (moultlaw8_BlockCuts.j0 k l0 a1 t336 true)))
theorem moultlaw8_BlockCuts.mono_l : ∀ k, (∀ y0 y1 y2 y3, LeO (moultlaw8_BlockCuts.j0 k y0 y1 y2 y3) (moultlaw8_BlockCuts.j0 (k + 1) y0 y1 y2 y3)) ∧ (∀ y0 y1 y2 y3, LeO (moultlaw8_BlockCuts.j1 k y0 y1 y2 y3) (moultlaw8_BlockCuts.j1 (k + 1) y0 y1 y2 y3))
  | 0 => ⟨fun _ _ _ _ r h => by simp [moultlaw8_BlockCuts.j0] at h, fun _ _ _ _ r h => by simp [moultlaw8_BlockCuts.j1] at h⟩
  | k + 1 => by
    obtain ⟨ih0, ih1⟩ := moultlaw8_BlockCuts.mono_l k
    refine ⟨?_, ?_⟩
    · intro y0 y1 y2 y3
      unfold moultlaw8_BlockCuts.j0
      repeat' first
      | (with_reducible exact ih0 _ _ _ _)
      | (with_reducible exact ih1 _ _ _ _)
      | (with_reducible exact block_Read.mono _ _)
      | (with_reducible exact moultlaw8_as.mono _ _)
      | (with_reducible exact moultlaw8_rising.mono _ _)
      | (with_reducible exact moultlaw8_same.mono _ _ _)
      | (with_reducible exact moultlaw8_shown.mono _)
      | (with_reducible exact LeO.refl _)
      | (with_reducible exact LeO.none _)
      | (with_reducible refine LeO.ite ?_ ?_)
      | (with_reducible refine LeO.bind ?_ (fun _ => ?_))
      | exact ih0 _ _ _ _
      | exact ih1 _ _ _ _
      | exact block_Read.mono _ _
      | exact moultlaw8_as.mono _ _
      | exact moultlaw8_rising.mono _ _
      | exact moultlaw8_same.mono _ _ _
      | exact moultlaw8_shown.mono _
      | exact LeO.none _
      | refine LeO.ite ?_ ?_
      | refine LeO.bind ?_ (fun _ => ?_)
    · intro y0 y1 y2 y3
      unfold moultlaw8_BlockCuts.j1
      repeat' first
      | (with_reducible exact ih0 _ _ _ _)
      | (with_reducible exact ih1 _ _ _ _)
      | (with_reducible exact block_Read.mono _ _)
      | (with_reducible exact moultlaw8_as.mono _ _)
      | (with_reducible exact moultlaw8_rising.mono _ _)
      | (with_reducible exact moultlaw8_same.mono _ _ _)
      | (with_reducible exact moultlaw8_shown.mono _)
      | (with_reducible exact LeO.refl _)
      | (with_reducible exact LeO.none _)
      | (with_reducible refine LeO.ite ?_ ?_)
      | (with_reducible refine LeO.bind ?_ (fun _ => ?_))
      | exact ih0 _ _ _ _
      | exact ih1 _ _ _ _
      | exact block_Read.mono _ _
      | exact moultlaw8_as.mono _ _
      | exact moultlaw8_rising.mono _ _
      | exact moultlaw8_same.mono _ _ _
      | exact moultlaw8_shown.mono _
      | exact LeO.none _
      | refine LeO.ite ?_ ?_
      | refine LeO.bind ?_ (fun _ => ?_)
theorem moultlaw8_BlockCuts.mono : ∀ a0 a1 k, LeO (moultlaw8_BlockCuts.f k a0 a1) (moultlaw8_BlockCuts.f (k + 1) a0 a1) := by
  intro a0 a1 k
  obtain ⟨ih0, ih1⟩ := moultlaw8_BlockCuts.mono_l k
  unfold moultlaw8_BlockCuts.f
  repeat' first
      | (with_reducible exact ih0 _ _ _ _)
      | (with_reducible exact ih1 _ _ _ _)
      | (with_reducible exact block_Read.mono _ _)
      | (with_reducible exact moultlaw8_as.mono _ _)
      | (with_reducible exact moultlaw8_rising.mono _ _)
      | (with_reducible exact moultlaw8_same.mono _ _ _)
      | (with_reducible exact moultlaw8_shown.mono _)
      | (with_reducible exact LeO.refl _)
      | (with_reducible exact LeO.none _)
      | (with_reducible refine LeO.ite ?_ ?_)
      | (with_reducible refine LeO.bind ?_ (fun _ => ?_))
      | exact ih0 _ _ _ _
      | exact ih1 _ _ _ _
      | exact block_Read.mono _ _
      | exact moultlaw8_as.mono _ _
      | exact moultlaw8_rising.mono _ _
      | exact moultlaw8_same.mono _ _ _
      | exact moultlaw8_shown.mono _
      | exact LeO.none _
      | refine LeO.ite ?_ ?_
      | refine LeO.bind ?_ (fun _ => ?_)
end Go.Proofs.Ytbhainkcdkgbbaa.P

end
