import Derived.Test.YtbhainkcdkgbbaaProg
import Derived.Below
import Derived.Deep.Draws
import Derived.Deep.AppendLies
import Derived.Maps.AppendAt
import Derived.OwnWalk
import Derived.Laws.BytesArg
import Derived.Laws.MakeOwn
import Derived.Laws.OwnMore
import Derived.Deep.OwnRows
import Derived.Tactics
import Derived.Lib.ConvBytes
import Derived.Laws.Slices
import Derived.WalkKit
import Derived.KernelRfl
import Derived.RowKit3
import Derived.Deep.LoopGhost
import Derived.Deep.QuietTactic
import Derived.BigQuiet
import Derived.WideLaws
import Derived.Deep.DeepCutAuto
import Derived.Deep.CutBlock
import Derived.Deep.RegionHeld3
import Derived.Laws.Rows
import Derived.Lib.AppendStr
import Derived.ArgAppend
import Derived.Laws.IdiomCopy
import Derived.OrdersHeld
import Derived.Laws.BitsLemmas
import Derived.RowKit
import Derived.Lib.Hide
import Derived.Laws.ShiftsVar
import Derived.Laws.ShiftsVarLaws
import Derived.Laws.BitsAllLaws
import Derived.Shelf.Strings.Builder1
import Derived.Laws.Strings
import Derived.Laws.StructEq
import Derived.WalkSpells
import Derived.Outline
import Derived.RegionTactic
import Derived.Deep.RegionWith
import Derived.StillTailTactics
import Derived.Deep.RegionLaw
import Derived.Deep.Slices
import Derived.Deep.Fields
import Derived.ChangeSame
import Derived.Test.YtbhainkcdkgbbaaRows
import Derived.ProofKit
import Derived.OpenShut
import Derived.ShutString
import Derived.ChangeOld
import Derived.SizedLaws
import Derived.ChangeSlices
import Derived.Test.YtbhainkcdkgbbaaQ0
import Derived.Test.YtbhainkcdkgbbaaQ1
import Derived.Test.YtbhainkcdkgbbaaQ5
import Derived.Test.YtbhainkcdkgbbaaQ6
import Derived.Test.YtbhainkcdkgbbaaQ17
import Derived.Test.YtbhainkcdkgbbaaQ18
import Derived.Test.YtbhainkcdkgbbaaQ21
import Derived.Test.YtbhainkcdkgbbaaQ27
import Derived.Test.YtbhainkcdkgbbaaQ41
import Derived.Test.YtbhainkcdkgbbaaQ42
import Derived.Test.YtbhainkcdkgbbaaQ43
namespace Go.Proofs.Ytbhainkcdkgbbaa.P
end Go.Proofs.Ytbhainkcdkgbbaa.P
namespace Go.Proofs.Ytbhainkcdkgbbaa.Vp
end Go.Proofs.Ytbhainkcdkgbbaa.Vp
namespace Go.Proofs.YtbhainkcdkgbbaaW.PrintLast
end Go.Proofs.YtbhainkcdkgbbaaW.PrintLast
namespace Go.Proofs.YtbhainkcdkgbbaaW.PrintMore
end Go.Proofs.YtbhainkcdkgbbaaW.PrintMore
namespace Go.Proofs.YtbhainkcdkgbbaaW.PrintWords
end Go.Proofs.YtbhainkcdkgbbaaW.PrintWords
section
namespace Go.Proofs.Ytbhainkcdkgbbaa.P
open Go.RowKit Go.Proofs.Ytbhainkcdkgbbaa.P Go.Proofs.YtbhainkcdkgbbaaW.PrintWords Go.Proofs.YtbhainkcdkgbbaaW.PrintLast
def moultlaw8_BlockBuilds.Pure : Prop := ∀ (l0 : List (S43)) (a1 : Int) (a2 : ByteArray) (a3 : ByteArray), l0.length ≤ maxLen → (∀ x ∈ l0, okT43 x) → (Lit.int .i64 a1).wf = true → a2.size ≤ 140737488351232 → a3.size ≤ 140737488351232 → ∃ k, moultlaw8_BlockBuilds.f k l0 a1 a2 a3 = some true
end Go.Proofs.Ytbhainkcdkgbbaa.P

end
section
set_option linter.unusedVariables false
set_option linter.unusedSimpArgs false
namespace Go.Proofs.Ytbhainkcdkgbbaa.Pure
open Go.RowKit Go.Proofs.Ytbhainkcdkgbbaa.P Go.Proofs.Ytbhainkcdkgbbaa.Vp Go.Proofs.YtbhainkcdkgbbaaW.PrintWords Go.Proofs.YtbhainkcdkgbbaaW.PrintLast Go.Proofs.YtbhainkcdkgbbaaW.PrintMore
theorem rsplit_l0 (l : List Pa) (most : Int) (hlim : Lim l) : ∀ (d i n k : Nat) (out : List (List Pa)) (row : List Pa), i + d = l.length → d < k → n ≤ 2000000 * i → out.length ≤ i → row.length ≤ i →
    moultref8_Split.l0 k (l.map toR) most (out.map (List.map toR)) (row.map toR) (n : Int) (i : Int) = some ((out ++ splitL most row n (l.drop i)).map (List.map toR)) := by
  intro d
  induction d with
  | zero =>
    intro i n k out row hi hk hn ho hr
    obtain ⟨k, rfl⟩ : ∃ m, k = m + 1 := ⟨k - 1, by omega⟩
    have h2 := hlim.1
    rw [moultref8_Split.l0, List.length_map, if_neg (by omega), List.drop_of_length_le (l := l) (by omega), splitL, List.length_map]
    by_cases c : row = []
    · rw [if_neg (by rw [c]; decide), if_pos c, List.append_nil]
    · have := List.length_pos_iff.2 c
      rw [if_pos (by omega), if_neg c, Option.bind_some, if_pos (by rw [List.length_map, List.length_singleton]; omega), List.map_append]; rfl
  | succ d ih =>
    intro i n k out row hi hk hn ho hr
    obtain ⟨k, rfl⟩ : ∃ m, k = m + 1 := ⟨k - 1, by omega⟩
    have h2 := hlim.1
    have hz := hlim.2 _ (List.getElem_mem (show i < l.length by omega))
    have hsz : szP l[i] ≤ 2000000 := by unfold szP; omega
    have e0 : (toR l[i]).f0 = l[i].f0 := rfl
    have e1 : (toR l[i]).f1 = l[i].f1 := rfl
    have hrow : (row.map toR) ++ [(⟨(toR l[i]).f0, (toR l[i]).f1⟩ : Ra)] = (row ++ [l[i]]).map toR := by rw [List.map_append]; rfl
    rw [moultref8_Split.l0, List.length_map, if_pos (by omega), Option.bind_some, if_pos (by rw [List.length_map, List.length_nil]; omega), Option.bind_some, if_pos (by omega), Option.bind_some, rdR_map l i (by omega), if_pos (by rw [List.length_append, List.length_map, List.length_nil, List.length_singleton]; omega), Option.bind_some, List.nil_append, hrow, e0, e1, w_sum2 n _ _ (by omega), wrap_s (show i < 9000000000000000000 by omega), ← szP]
    rw [List.drop_eq_getElem_cons (l := l) (i := i) (by omega), splitL]
    by_cases c : ((n + szP l[i] : Nat) : Int) ≥ most
    · rw [if_pos c, if_pos c, Option.bind_some, if_pos (by rw [List.length_map, List.length_singleton]; omega)]
      have emit := ih (i + 1) 0 k (out ++ [row ++ [l[i]]]) [] (by omega) (by omega) (by omega) (by rw [List.length_append, List.length_singleton]; omega) (by simp)
      rw [List.map_append, List.append_assoc] at emit
      exact emit
    · rw [if_neg c, if_neg c]
      exact ih (i + 1) (n + szP l[i]) k out (row ++ [l[i]]) (by omega) (by omega) (by omega) (by omega) (by rw [List.length_append, List.length_singleton]; omega)
theorem rsplit_f (l : List Pa) (most : Int) (hlim : Lim l) (k : Nat) (hk : l.length < k) : moultref8_Split.f k (l.map toR) most = some ((splitL most [] 0 l).map (List.map toR)) := by
  unfold moultref8_Split.f
  have := rsplit_l0 l most hlim l.length 0 0 k [] [] (by omega) hk (by omega) (by simp) (by simp)
  simpa using this
end Go.Proofs.Ytbhainkcdkgbbaa.Pure

end
section
set_option linter.unusedVariables false
set_option linter.unusedSimpArgs false
namespace Go.Proofs.Ytbhainkcdkgbbaa.Pure
open Go.RowKit Go.Proofs.Ytbhainkcdkgbbaa.P Go.Proofs.Ytbhainkcdkgbbaa.Vp Go.Proofs.YtbhainkcdkgbbaaW.PrintWords Go.Proofs.YtbhainkcdkgbbaaW.PrintLast Go.Proofs.YtbhainkcdkgbbaaW.PrintMore
theorem builds_l0 (rows : List (List Pa)) (hl : rows.length ≤ 1000) (hr : ∀ r ∈ rows, r.length ≤ 1000) : ∀ (d i k : Nat), i + d = rows.length → 2000 + d < k → moultlaw8_BlockBuilds.l0 k rows (rows.map (List.map toR)) (i : Int) = some true := by
  intro d
  induction d with
  | zero =>
    intro i k hi hk
    obtain ⟨k, rfl⟩ : ∃ m, k = m + 1 := ⟨k - 1, by omega⟩
    rw [moultlaw8_BlockBuilds.l0, if_neg (by omega)]
  | succ d ih =>
    intro i k hi hk
    obtain ⟨k, rfl⟩ : ∃ m, k = m + 1 := ⟨k - 1, by omega⟩
    have e1 : rows.getD (i : Int).toNat [] = rows[i] := by rw [Int.toNat_natCast, List.getD_eq_getElem?_getD, List.getElem?_eq_getElem (by omega)]; rfl
    have e2 : (rows.map (List.map toR)).getD (i : Int).toNat [] = rows[i].map toR := by rw [Int.toNat_natCast, List.getD_eq_getElem?_getD, List.getElem?_eq_getElem (by rw [List.length_map]; omega), List.getElem_map]; rfl
    have hz := hr _ (List.getElem_mem (show i < rows.length by omega))
    rw [moultlaw8_BlockBuilds.l0, if_pos (by omega), if_pos (by omega), List.length_map, if_pos (by omega)]
    have ha : moultlaw8_alike.f k (rows.getD (i : Int).toNat []) ((rows.map (List.map toR)).getD (i : Int).toNat []) = some true := by
      rw [e1, e2]; exact alike_f _ (by omega) k (by omega)
    refine (congrArg (fun z => Option.bind z _) ha).trans ?_
    rw [Option.bind_some, if_pos rfl, wrap_s (by omega)]
    exact ih (i + 1) k (by omega) (by omega)
theorem BlockBuilds : moultlaw8_BlockBuilds.Pure := by
  intro l0 a1 a2 a3 w0 w1 w2 w3 w4
  refine ⟨4000001 + 1, ?_⟩
  unfold moultlaw8_BlockBuilds.f
  rw [shown_k _ (by omega), Option.bind_some]
  have skip : ∀ m, moultlaw8_BlockBuilds.j0 (4000001 + 1) l0 a1 a2 a3 true m true = some true := fun m => by rw [moultlaw8_BlockBuilds.j0, if_pos rfl]
  rcases as_f l0 (4000001 + 1) (by omega) with ⟨h1, h2, h3⟩ | ⟨m, h1⟩
  · rw [h1, Option.bind_some, if_pos rfl, if_pos rfl]
    by_cases c0 : (a2.size : Int) > 1000
    · rw [if_pos c0]; exact skip _
    by_cases c1 : (a3.size : Int) > 1000
    · rw [if_neg c0, decide_eq_true c1]; exact skip _
    have hlim : Lim l0 := ⟨by omega, fun p hp => by have := h3 p hp; omega⟩
    have hrl : (splitL a1 [] 0 l0).length ≤ l0.length ∧ ∀ r ∈ splitL a1 [] 0 l0, r.length ≤ l0.length := by
      have hj := split_join a1 l0 [] 0
      have hg := split_good a1 l0 [] 0 rfl (fun j h0 h1 => by rw [List.length_nil] at h1; omega)
      rw [List.nil_append] at hj
      have gen : ∀ rows : List (List Pa), GoodRows a1 rows → rows.length ≤ rows.flatten.length ∧ ∀ r ∈ rows, r.length ≤ rows.flatten.length := by
        intro rows
        induction rows with
        | nil => intro _; simp
        | cons r rows ih =>
          intro hg
          obtain ⟨g1, g2⟩ := ih hg.2.2.2
          have hp := List.length_pos_iff.2 hg.1
          rw [List.flatten_cons, List.length_append, List.length_cons]
          refine ⟨by omega, fun q hq => ?_⟩
          rcases List.mem_cons.1 hq with rfl | hq
          · omega
          · have := g2 q hq; omega
      have := gen _ hg
      rw [hj] at this
      exact this
    rw [if_neg c0, decide_eq_false c1, moultlaw8_BlockBuilds.j0, if_neg (by decide), build_f hlim.small, Option.bind_some, rbuild_f hlim.small _ (by omega), Option.bind_some, split_f l0 a1 hlim _ (by omega), Option.bind_some, rsplit_f l0 a1 hlim _ (by omega), Option.bind_some]
    rw [if_pos rfl, if_pos rfl, List.length_map, if_pos rfl, common_f a2 a3 (by omega) _ (by omega), Option.bind_some, rcommon_f a2 a3 (by omega) _ (by omega), Option.bind_some]
    have hne : ((comP a2 a3 : Int) != (comP a2 a3 : Int)) = false := by simp
    rw [hne, show 4000001 = 4000000 + 1 from rfl, moultlaw8_BlockBuilds.j1, if_neg (by decide)]
    have := builds_l0 (splitL a1 [] 0 l0) (by omega) (fun r hr => by have := hrl.2 r hr; omega) (splitL a1 [] 0 l0).length 0 4000000 (by omega) (by omega)
    simpa using this
  · rw [h1, Option.bind_some, if_pos rfl, if_neg Bool.false_ne_true]; exact skip _
end Go.Proofs.Ytbhainkcdkgbbaa.Pure

end
section
namespace Go.Proofs.Ytbhainkcdkgbbaa.blockBuilds
open Go.ChangeShapes Go.WideShapes Go.ChangeAt Go.RowKit Go.Proofs.Ytbhainkcdkgbbaa.P Go.Proofs.YtbhainkcdkgbbaaW.PrintWords
open Go.ChangeMaps (open_string shut_string)
set_option linter.unusedVariables false
theorem own : ownKnob Try.prog.godebug = none := by kernel_rfl
theorem laidOut : laidOutB Try.prog = true := by kernel_rfl
set_option maxRecDepth 100000 in
theorem lifted (os : Os) (started : os.Started) (H : Type) (enc : TypeId × Value → H) :
    ReturnsInHanded {} Try.checked os 7 .any (Rows.blockBuildsSpec.pre6 enc Try.prog Try.f7 Rows.blockBuildsRow.domain false) (Rows.blockBuildsSpec.post enc Try.prog Try.f7 false true false false) := by
  refine returnsInHanded_of_change_sized (C := Try.checked) own started (by kernel_rfl) Try.func7
    (ChangeSpec.witness6 (enc := enc) (C := Try.checked) false ⟨#[], #[.slice none 0 0, .int .i64 0, .string ByteArray.empty, .string ByteArray.empty], []⟩ 8 (by kernel_rfl) (by kernel_rfl) (by kernel_rfl) (by kernel_rfl)) ?_
  intro W base args ds gs before hval0 hW hcnd hsz0 _
  have hsz : (DataW.weightsEach Try.prog (Try.f7.params.toList ++ Rows.blockBuildsSpec.plain.varTypes Try.prog) (ds ++ gs)).all (· ≤ reachBytes) = true := hsz0
  have hval : ∀ (j : Nat) t v, Try.f7.params[j]? = some t → args[j]? = some v → Value.okWide Try.prog W .any base t v := hval0
  have hW' := hW
  obtain ⟨p, q, hA0, hV, rfl, hfz, hnd⟩ := hW
  have hA : DataW.TrodAll enc Try.prog W 0 (fun _ => true) true Try.f7.params.toList args.toList ds p := hA0
  rw [Try.params7] at hA hval hsz
  obtain ⟨v0, vs0, d0, ds0, p0, q0, hargs, rfl, rfl, h0, r0⟩ := trodAll_cons hA
  obtain ⟨v1, vs1, d1, ds1, p1, q1, rfl, rfl, rfl, h1, r1⟩ := trodAll_cons r0
  obtain ⟨v2, vs2, d2, ds2, p2, q2, rfl, rfl, rfl, h2, r2⟩ := trodAll_cons r1
  obtain ⟨v3, vs3, d3, ds3, p3, q3, rfl, rfl, rfl, h3, r3⟩ := trodAll_cons r2
  obtain ⟨rfl, rfl, rfl⟩ := trodAll_nil r3
  obtain rfl : args = #[v0, v1, v2, v3] := by cases args; simp_all
  obtain ⟨rfl, rfl⟩ := trodVars_none hV
  obtain ⟨a0, len0, cap0, rfl⟩ := okWide_slice Try.underlying23 (hval 0 23 v0 rfl rfl)
  have k0 := h0
  have lt0 : ∀ x ∈ p0, x.block < W.heap.size := by obtain ⟨m, hm⟩ := k0; exact DataW.trod_lt m _ _ _ hm
  obtain ⟨l0, hl0, hc0, hm0, hr0, hs0⟩ := open_T43 Try.underlying23 (by kernel_rfl) h0
  subst hl0
  obtain ⟨a1, rfl, rfl, rfl, w1⟩ := open_int Try.underlying3 (hval 1 3 v1 rfl rfl) h1
  obtain ⟨a2, rfl, rfl, rfl, y2⟩ := open_string Try.underlying9 (hval 2 9 v2 rfl rfl) h2
  have w2 : a2.size ≤ 140737488351232 := by
    have z := sized_string hsz (j := 2) (t := 9) rfl rfl
    rw [Array.length_toList] at z
    exact z
  obtain ⟨a3, rfl, rfl, rfl, y3⟩ := open_string Try.underlying9 (hval 3 9 v3 rfl rfl) h3
  have w3 : a3.size ≤ 140737488351232 := by
    have z := sized_string hsz (j := 3) (t := 9) rfl rfl
    rw [Array.length_toList] at z
    exact z
  clear hA0 hval0 hsz0 hsz
  obtain ⟨kk, hh⟩ := Pure.BlockBuilds l0 a1 a2 a3 hm0 hs0 w1 w2 w3
  refine (moultlaw8_BlockBuilds.calls kk a0 cap0 l0 a1 a2 a3 true W hr0 hc0 hh).mono ?_
  rintro e W' ⟨he, bel⟩
  subst he
  exact ⟨_, rfl, _, _, _, [], _, [], hW', trodAll_mk1 (shut_bool Try.underlying4 _), (trodAll_cons_mk (Below.trod laidOut (by kernel_rfl) (of_decide_eq_true (by kernel_rfl)) k0 bel lt0) (trodAll_cons_mk (shut_int Try.underlying3 w1) (trodAll_cons_mk (shut_string Try.underlying9 y2) (trodAll_cons_mk (shut_string Try.underlying9 y3) trodAll_mk0)))), rfl, bel.frame _, fun h => by cases h⟩
theorem over : Rows.blockBuildsRow.holds Try.pinned (OpenSpec.ofChange Rows.blockBuildsSpec) :=
  OpenClaim.holds_of_wide 7 Try.f7 rfl rfl rfl rfl rfl rfl rfl ⟨rfl, rfl, rfl, rfl, rfl⟩ rfl rfl rfl rfl rfl (by kernel_rfl) Try.func7 (by kernel_rfl)
    (of_decide_eq_true (by kernel_rfl)) (by unfold Func.isWrapper; first | (rw [if_pos (by decide +kernel)]; kernel_rfl) | (rw [if_neg (by decide +kernel)]; exact ⟨rfl, rfl⟩))
    (fun os started H enc _ => lifted os started H enc)
theorem proved : Rows.BlockBuildsSaid := over
end Go.Proofs.Ytbhainkcdkgbbaa.blockBuilds
namespace Go.Proofs.Ytbhainkcdkgbbaa
theorem blockBuilds_holds : Rows.BlockBuildsSaid := blockBuilds.proved
end Go.Proofs.Ytbhainkcdkgbbaa

end
