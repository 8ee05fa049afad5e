import Derived.Test.YtbhainkcdkgbbaaProg
import Derived.Below
import Derived.Deep.Draws
import Derived.Deep.AppendLies
import Derived.Maps.AppendAt
import Derived.OwnWalk
import Derived.Laws.BytesArg
import Derived.Laws.MakeOwn
import Derived.Laws.OwnMore
import Derived.Deep.OwnRows
import Derived.Tactics
import Derived.Lib.ConvBytes
import Derived.Laws.Slices
import Derived.WalkKit
import Derived.KernelRfl
import Derived.RowKit3
import Derived.Deep.LoopGhost
import Derived.Deep.QuietTactic
import Derived.BigQuiet
import Derived.WideLaws
import Derived.Deep.DeepCutAuto
import Derived.Deep.CutBlock
import Derived.Deep.RegionHeld3
import Derived.Laws.Rows
import Derived.Lib.AppendStr
import Derived.ArgAppend
import Derived.Laws.IdiomCopy
import Derived.OrdersHeld
import Derived.Laws.BitsLemmas
import Derived.RowKit
import Derived.Lib.Hide
import Derived.Laws.ShiftsVar
import Derived.Laws.ShiftsVarLaws
import Derived.Laws.BitsAllLaws
import Derived.Shelf.Strings.Builder1
import Derived.Laws.Strings
import Derived.Laws.StructEq
import Derived.WalkSpells
import Derived.Outline
import Derived.RegionTactic
import Derived.Deep.RegionWith
import Derived.StillTailTactics
import Derived.Deep.RegionLaw
import Derived.Test.YtbhainkcdkgbbaaRows
import Derived.ProofKit
import Derived.OpenShut
import Derived.ShutString
import Derived.ChangeOld
import Derived.SizedLaws
import Derived.Test.YtbhainkcdkgbbaaQ0
import Derived.Test.YtbhainkcdkgbbaaQ4
import Derived.Test.YtbhainkcdkgbbaaQ5
import Derived.Test.YtbhainkcdkgbbaaQ7
import Derived.Test.YtbhainkcdkgbbaaQ21
import Derived.Test.YtbhainkcdkgbbaaQ27
import Derived.Test.YtbhainkcdkgbbaaQ28
import Derived.Test.YtbhainkcdkgbbaaQ30
import Derived.Test.YtbhainkcdkgbbaaQ33
namespace Go.Proofs.Ytbhainkcdkgbbaa.P
end Go.Proofs.Ytbhainkcdkgbbaa.P
namespace Go.Proofs.Ytbhainkcdkgbbaa.Vp
end Go.Proofs.Ytbhainkcdkgbbaa.Vp
namespace Go.Proofs.YtbhainkcdkgbbaaW.PrintLast
end Go.Proofs.YtbhainkcdkgbbaaW.PrintLast
namespace Go.Proofs.YtbhainkcdkgbbaaW.PrintMore
end Go.Proofs.YtbhainkcdkgbbaaW.PrintMore
namespace Go.Proofs.YtbhainkcdkgbbaaW.PrintWords
end Go.Proofs.YtbhainkcdkgbbaaW.PrintWords
section
set_option linter.unusedVariables false
set_option linter.unusedSimpArgs false
namespace Go.Proofs.Ytbhainkcdkgbbaa.Pure
open Go.RowKit Go.Proofs.Ytbhainkcdkgbbaa.P Go.Proofs.Ytbhainkcdkgbbaa.Vp Go.Proofs.YtbhainkcdkgbbaaW.PrintWords Go.Proofs.YtbhainkcdkgbbaaW.PrintLast Go.Proofs.YtbhainkcdkgbbaaW.PrintMore
theorem BlockReads : moultlaw8_BlockReads.Pure := by
  intro a0 a1 a2 a3 w0 w1 w2 w3
  refine ⟨3600000 + 1, ?_⟩
  unfold moultlaw8_BlockReads.f
  rw [shown_k _ (by omega), Option.bind_some, if_pos rfl]
  have skip : moultlaw8_BlockReads.j0 (3600000 + 1) a0 a1 a2 a3 true true = some true := by rw [moultlaw8_BlockReads.j0, if_pos rfl]
  by_cases c0 : (a0.size : Int) > 3000
  · rw [if_pos c0]; exact skip
  by_cases c1 : (a1.size : Int) > 300
  · rw [if_neg c0, if_pos c1]; exact skip
  by_cases c2 : (a2.size : Int) > 300
  · rw [if_neg c0, if_neg c1, if_pos c2]; exact skip
  by_cases c3 : (a3.size : Int) > 300
  · rw [if_neg c0, if_neg c1, if_neg c2, decide_eq_true c3]; exact skip
  rw [if_neg c0, if_neg c1, if_neg c2, decide_eq_false c3, moultlaw8_BlockReads.j0, if_neg (by decide)]
  have hfind := rfind_f a0 a1 (by omega) 3600000 (by omega)
  obtain ⟨bl, be, hb1, hb2, hb3⟩ := rbetween_f a0 a2 a3 (by omega) (by omega) (by omega) 3600000 (by omega)
  have alk := alike_f bl (by omega) 3600000 (by omega)
  have fin : ∀ (l : List Pa) (e : Int), l.length ≤ 100000 → block_Read.f 3600000 a0 = some (l, e) → moultref8_Read.f 3600000 a0 = some (l.map toR, e) →
      ((block_Read.f 3600000 a0).bind fun bt230 => ((moultref8_Read.f 3600000 a0).bind fun bt234 => ((block_Find.f 3600000 a0 a1).bind fun bt238 => ((moultref8_Find.f 3600000 a0 a1).bind fun bt241 => ((block_Between.f 3600000 a0 a2 a3).bind fun bt244 => ((moultref8_Between.f 3600000 a0 a2 a3).bind fun bt248 => ((moultlaw8_alike.f 3600000 bt230.1 bt234.1).bind fun t252 => (if t252 = true then (if bt230.2 = bt234.2 then (if bt238.1.toList = bt241.1.toList then (if (bt238.2.1 == bt241.2.1) = true then (if bt238.2.2 = bt241.2.2 then ((moultlaw8_alike.f 3600000 bt244.1 bt248.1).bind fun t253 => (if t253 = true then (some (bt244.2 == bt248.2)) else (some false))) else (some false)) else (some false)) else (some false)) else (some false)) else (some false))))))))) = some true := by
    intro l e hl hr1 hr2
    obtain ⟨fr, hf⟩ : ∃ r, block_Find.f 3600000 a0 a1 = some r := by
      unfold block_Find.f
      rw [hr1, Option.bind_some]
      dsimp only
      rw [if_pos (by omega)]
      cases l.filter (soF a1) <;> exact ⟨_, rfl⟩
    rw [hr1, hr2, hfind, hf, hb1, hb2]
    simp only [Option.bind_some]
    rw [alike_f l (by omega) 3600000 (by omega)]
    simp only [Option.bind_some, if_true]
    rw [if_pos (by simp), alk]
    simp
  rcases rread_f a0 (by omega) 3600000 (by omega) with ⟨l, h1, h2, h3, h4⟩ | ⟨h3, h4⟩
  · have hle : (encFrom ⟨#[]⟩ l).length = a0.size := by rw [← h1, ba_sz]
    have hsz := enc_sizes l ⟨#[]⟩
    exact fin l 0 (by omega) h3 h4
  · exact fin [] 8 (by simp) h3 h4
end Go.Proofs.Ytbhainkcdkgbbaa.Pure

end
section
namespace Go.Proofs.Ytbhainkcdkgbbaa.blockReads
open Go.ChangeShapes Go.WideShapes Go.ChangeAt Go.RowKit
open Go.ChangeMaps (open_string shut_string)
set_option linter.unusedVariables false
theorem own : ownKnob Try.prog.godebug = none := by kernel_rfl
set_option maxRecDepth 100000 in
theorem lifted (os : Os) (started : os.Started) (H : Type) (enc : TypeId × Value → H) :
    ReturnsInHanded {} Try.checked os 3 .any (Rows.blockReadsSpec.pre6 enc Try.prog Try.f3 Rows.blockReadsRow.domain false) (Rows.blockReadsSpec.post enc Try.prog Try.f3 false true false false) := by
  refine returnsInHanded_of_change_sized (C := Try.checked) own started (by kernel_rfl) Try.func3
    (ChangeSpec.witness6 (enc := enc) (C := Try.checked) false ⟨#[], #[.string ByteArray.empty, .string ByteArray.empty, .string ByteArray.empty, .string ByteArray.empty], []⟩ 8 (by kernel_rfl) (by kernel_rfl) (by kernel_rfl) (by kernel_rfl)) ?_
  intro W base args ds gs before hval0 hW hcnd hsz0 _
  have hsz : (DataW.weightsEach Try.prog (Try.f3.params.toList ++ Rows.blockReadsSpec.plain.varTypes Try.prog) (ds ++ gs)).all (· ≤ reachBytes) = true := hsz0
  have hval : ∀ (j : Nat) t v, Try.f3.params[j]? = some t → args[j]? = some v → Value.okWide Try.prog W .any base t v := hval0
  have hW' := hW
  obtain ⟨p, q, hA0, hV, rfl, hfz, hnd⟩ := hW
  have hA : DataW.TrodAll enc Try.prog W 0 (fun _ => true) true Try.f3.params.toList args.toList ds p := hA0
  rw [Try.params3] at hA hval hsz
  obtain ⟨v0, vs0, d0, ds0, p0, q0, hargs, rfl, rfl, h0, r0⟩ := trodAll_cons hA
  obtain ⟨v1, vs1, d1, ds1, p1, q1, rfl, rfl, rfl, h1, r1⟩ := trodAll_cons r0
  obtain ⟨v2, vs2, d2, ds2, p2, q2, rfl, rfl, rfl, h2, r2⟩ := trodAll_cons r1
  obtain ⟨v3, vs3, d3, ds3, p3, q3, rfl, rfl, rfl, h3, r3⟩ := trodAll_cons r2
  obtain ⟨rfl, rfl, rfl⟩ := trodAll_nil r3
  obtain rfl : args = #[v0, v1, v2, v3] := by cases args; simp_all
  obtain ⟨rfl, rfl⟩ := trodVars_none hV
  obtain ⟨a0, rfl, rfl, rfl, y0⟩ := open_string Try.underlying9 (hval 0 9 v0 rfl rfl) h0
  have w0 : a0.size ≤ 140737488351232 := by
    have z := sized_string hsz (j := 0) (t := 9) rfl rfl
    rw [Array.length_toList] at z
    exact z
  obtain ⟨a1, rfl, rfl, rfl, y1⟩ := open_string Try.underlying9 (hval 1 9 v1 rfl rfl) h1
  have w1 : a1.size ≤ 140737488351232 := by
    have z := sized_string hsz (j := 1) (t := 9) rfl rfl
    rw [Array.length_toList] at z
    exact z
  obtain ⟨a2, rfl, rfl, rfl, y2⟩ := open_string Try.underlying9 (hval 2 9 v2 rfl rfl) h2
  have w2 : a2.size ≤ 140737488351232 := by
    have z := sized_string hsz (j := 2) (t := 9) rfl rfl
    rw [Array.length_toList] at z
    exact z
  obtain ⟨a3, rfl, rfl, rfl, y3⟩ := open_string Try.underlying9 (hval 3 9 v3 rfl rfl) h3
  have w3 : a3.size ≤ 140737488351232 := by
    have z := sized_string hsz (j := 3) (t := 9) rfl rfl
    rw [Array.length_toList] at z
    exact z
  clear hA0 hval0 hsz0 hsz
  refine (P.moultlaw8_BlockReads.walk Pure.BlockReads a0 a1 a2 a3 W w0 w1 w2 w3).mono fun e W' ⟨he, bel⟩ => ?_
  subst he
  exact ⟨_, rfl, _, _, _, [], _, [], hW', trodAll_mk1 (shut_bool Try.underlying4 _), (trodAll_cons_mk (shut_string Try.underlying9 y0) (trodAll_cons_mk (shut_string Try.underlying9 y1) (trodAll_cons_mk (shut_string Try.underlying9 y2) (trodAll_cons_mk (shut_string Try.underlying9 y3) trodAll_mk0)))), rfl, bel.frame _, fun h => by cases h⟩
theorem over : Rows.blockReadsRow.holds Try.pinned (OpenSpec.ofChange Rows.blockReadsSpec) :=
  OpenClaim.holds_of_wide 3 Try.f3 rfl rfl rfl rfl rfl rfl rfl ⟨rfl, rfl, rfl, rfl, rfl⟩ rfl rfl rfl rfl rfl (by kernel_rfl) Try.func3 (by kernel_rfl)
    (of_decide_eq_true (by kernel_rfl)) (by unfold Func.isWrapper; first | (rw [if_pos (by decide +kernel)]; kernel_rfl) | (rw [if_neg (by decide +kernel)]; exact ⟨rfl, rfl⟩))
    (fun os started H enc _ => lifted os started H enc)
theorem proved : Rows.BlockReadsSaid := over
end Go.Proofs.Ytbhainkcdkgbbaa.blockReads
namespace Go.Proofs.Ytbhainkcdkgbbaa
theorem blockReads_holds : Rows.BlockReadsSaid := blockReads.proved
end Go.Proofs.Ytbhainkcdkgbbaa

end
