import Derived.Test.YtbhainkcdkgbbaaProg
import Derived.Below
import Derived.Deep.Draws
import Derived.Deep.AppendLies
import Derived.Maps.AppendAt
import Derived.OwnWalk
import Derived.Laws.BytesArg
import Derived.Laws.MakeOwn
import Derived.Laws.OwnMore
import Derived.Deep.OwnRows
import Derived.Tactics
import Derived.Lib.ConvBytes
import Derived.Laws.Slices
import Derived.WalkKit
import Derived.KernelRfl
import Derived.RowKit3
import Derived.Deep.LoopGhost
import Derived.Deep.QuietTactic
import Derived.BigQuiet
import Derived.WideLaws
import Derived.Deep.DeepCutAuto
import Derived.Deep.CutBlock
import Derived.Deep.RegionHeld3
import Derived.Laws.Rows
import Derived.Lib.AppendStr
import Derived.ArgAppend
import Derived.Laws.IdiomCopy
import Derived.OrdersHeld
import Derived.Laws.BitsLemmas
import Derived.RowKit
import Derived.Lib.Hide
import Derived.Laws.ShiftsVar
import Derived.Laws.ShiftsVarLaws
import Derived.Laws.BitsAllLaws
import Derived.Shelf.Strings.Builder1
import Derived.Laws.Strings
import Derived.Laws.StructEq
import Derived.WalkSpells
import Derived.Outline
import Derived.RegionTactic
import Derived.Deep.RegionWith
import Derived.StillTailTactics
import Derived.Deep.Slices
import Derived.Deep.Fields
import Derived.ChangeSame
import Derived.Deep.RegionLaw
import Derived.Test.YtbhainkcdkgbbaaRows
import Derived.ProofKit
import Derived.OpenShut
import Derived.ShutString
import Derived.ChangeOld
import Derived.SizedLaws
import Derived.ChangeSlices
import Derived.Test.YtbhainkcdkgbbaaQ0
import Derived.Test.YtbhainkcdkgbbaaQ1
import Derived.Test.YtbhainkcdkgbbaaQ4
import Derived.Test.YtbhainkcdkgbbaaQ5
import Derived.Test.YtbhainkcdkgbbaaQ6
import Derived.Test.YtbhainkcdkgbbaaQ7
import Derived.Test.YtbhainkcdkgbbaaQ17
import Derived.Test.YtbhainkcdkgbbaaQ18
import Derived.Test.YtbhainkcdkgbbaaQ19
import Derived.Test.YtbhainkcdkgbbaaQ21
import Derived.Test.YtbhainkcdkgbbaaQ22
import Derived.Test.YtbhainkcdkgbbaaQ26
import Derived.Test.YtbhainkcdkgbbaaQ28
import Derived.Test.YtbhainkcdkgbbaaQ34
import Derived.Test.YtbhainkcdkgbbaaQ35
namespace Go.Proofs.Ytbhainkcdkgbbaa.P
end Go.Proofs.Ytbhainkcdkgbbaa.P
namespace Go.Proofs.Ytbhainkcdkgbbaa.Sl
end Go.Proofs.Ytbhainkcdkgbbaa.Sl
namespace Go.Proofs.Ytbhainkcdkgbbaa.Vp
end Go.Proofs.Ytbhainkcdkgbbaa.Vp
namespace Go.Proofs.YtbhainkcdkgbbaaW.PrintLast
end Go.Proofs.YtbhainkcdkgbbaaW.PrintLast
namespace Go.Proofs.YtbhainkcdkgbbaaW.PrintMore
end Go.Proofs.YtbhainkcdkgbbaaW.PrintMore
namespace Go.Proofs.YtbhainkcdkgbbaaW.PrintWords
end Go.Proofs.YtbhainkcdkgbbaaW.PrintWords
section
set_option linter.unusedVariables false
set_option linter.unusedSimpArgs false
namespace Go.Proofs.Ytbhainkcdkgbbaa.Pure
open Go.RowKit Go.Proofs.Ytbhainkcdkgbbaa.P Go.Proofs.Ytbhainkcdkgbbaa.Vp Go.Proofs.Ytbhainkcdkgbbaa.Sl Go.Proofs.YtbhainkcdkgbbaaW.PrintWords Go.Proofs.YtbhainkcdkgbbaaW.PrintLast Go.Proofs.YtbhainkcdkgbbaaW.PrintMore
theorem less_irrefl : ∀ a : List UInt8, Op.bytesLess a a = false
  | [] => rfl
  | x :: a => by
    have ih := less_irrefl a
    simp [Op.bytesLess, ih]
theorem less_ne {a b : List UInt8} (h : Op.bytesLess a b = true) : a ≠ b := by
  intro e; rw [e, less_irrefl] at h; cases h
end Go.Proofs.Ytbhainkcdkgbbaa.Pure

end
section
namespace Go.Proofs.Ytbhainkcdkgbbaa.P
open Go.RowKit Go.Proofs.Ytbhainkcdkgbbaa.P Go.Proofs.YtbhainkcdkgbbaaW.PrintWords Go.Proofs.YtbhainkcdkgbbaaW.PrintLast
def moultlaw8_BlockBack.Pure : Prop := ∀ (l0 : List (S43)) (a1 : ByteArray) (a2 : ByteArray), l0.length ≤ maxLen → (∀ x ∈ l0, okT43 x) → a1.size ≤ 140737488351232 → a2.size ≤ 140737488351232 → ∃ k, moultlaw8_BlockBack.f k l0 a1 a2 = some true
end Go.Proofs.Ytbhainkcdkgbbaa.P

end
section
set_option linter.unusedVariables false
set_option linter.unusedSimpArgs false
namespace Go.Proofs.Ytbhainkcdkgbbaa.Pure
open Go.RowKit Go.Proofs.Ytbhainkcdkgbbaa.P Go.Proofs.Ytbhainkcdkgbbaa.Vp Go.Proofs.YtbhainkcdkgbbaaW.PrintWords Go.Proofs.YtbhainkcdkgbbaaW.PrintLast Go.Proofs.YtbhainkcdkgbbaaW.PrintMore
def firstP : List Pa → ByteArray × Bool × Int
  | [] => (⟨#[]⟩, false, 0)
  | p :: _ => (p.f1, true, 0)
theorem firstP_cons (p : Pa) (l : List Pa) : firstP (p :: l) = (p.f1, true, 0) := rfl
theorem find_f {s key : ByteArray} {l : List Pa} {k : Nat} (h : block_Read.f k s = some (l, 0)) (hl : l.length ≤ 100000) :
    block_Find.f k s key = some (firstP (l.filter (soF key))) := by
  unfold block_Find.f
  rw [h, Option.bind_some]
  dsimp only
  rw [if_pos (by omega)]
  cases l.filter (soF key) <;> rfl
theorem soF_self (p : Pa) : soF p.f0 p = true := by unfold soF; simp
theorem filter_at : ∀ (l : List Pa) (b : Bool) (last : ByteArray), okFrom b last l → ∀ i (h : i < l.length), ∃ rest, l.filter (soF l[i].f0) = l[i] :: rest
  | [], _, _, _, i, h => by simp at h
  | p :: l, b, last, hok, 0, h => ⟨_, List.filter_cons_of_pos (soF_self p)⟩
  | p :: l, b, last, hok, i + 1, h => by
    have h2 : i < l.length := by simpa using h
    obtain ⟨rest, hr⟩ := filter_at l true p.f0 hok.2 i h2
    have hless := ok_all l p.f0 hok.2 l[i] (List.getElem_mem h2)
    have hne : soF l[i].f0 p = false := by
      unfold soF
      rw [beq_eq_false_iff_ne]
      exact less_ne hless
    refine ⟨rest, ?_⟩
    rw [List.getElem_cons_succ, List.filter_cons_of_neg (by rw [hne]; decide)]
    exact hr
theorem any_filter (l : List Pa) (f : Pa → Bool) : (firstP (l.filter f)).2.1 = l.any f := by
  induction l with
  | nil => rfl
  | cons p l ih =>
    rw [List.any_cons, List.filter_cons]
    cases h : f p with
    | true => rfl
    | false => simpa using ih
theorem back_l0 (x1 x2 t : ByteArray) (r : List Pa) (hr : okFrom false ⟨#[]⟩ r) (hl : r.length ≤ 1000) (h1 : x1.size ≤ 3000) (ht : ∀ k, 300000 < k → block_Read.f k t = some (r, 0)) :
    ∀ (d i k : Nat), i + d = r.length → 300010 + d < k → moultlaw8_BlockBack.l0 k x1 x2 r t ((r.take i).any (soF x2)) (i : Int) = some true := by
  intro d
  induction d with
  | zero =>
    intro i k hi hk
    obtain ⟨k, rfl⟩ : ∃ m, k = m + 1 := ⟨k - 1, by omega⟩
    rw [moultlaw8_BlockBack.l0, if_neg (by omega), find_f (ht k (by omega)) (by omega), Option.bind_some, any_filter, List.take_of_length_le (by omega)]
    rcases read_f x1 k (by omega) with ⟨n, g0, g1, g2, g3⟩ | ⟨_, g3⟩
    · have hle : (encFrom ⟨#[]⟩ n).length = x1.size := by rw [← g1, ba_sz]
      have hsz := enc_sizes n ⟨#[]⟩
      have hz : (⟨#[]⟩ : ByteArray).size = 0 := rfl
      have hlim : Lim n := ⟨by omega, fun p hp => by have := hsz.2 p hp; omega⟩
      rw [g3, Option.bind_some]
      dsimp only
      rw [build_f hlim.small, Option.bind_some, build_ok g2 (by omega), if_pos (by simp), if_pos rfl, if_pos rfl]
      congr 1
      rw [beq_iff_eq, ba_tl, ba_tl, ba_mk, g1]
    · rw [g3, Option.bind_some]
      dsimp only
      rw [build_f (Lim.small ⟨by simp, by simp⟩), Option.bind_some, if_pos (by simp), if_neg (by decide)]
  | succ d ih =>
    intro i k hi hk
    obtain ⟨k, rfl⟩ : ∃ m, k = m + 1 := ⟨k - 1, by omega⟩
    obtain ⟨rest, hf⟩ := filter_at r false ⟨#[]⟩ hr i (by omega)
    rw [moultlaw8_BlockBack.l0, if_pos (by omega), if_pos (by omega), rd_get r i (by omega), find_f (ht k (by omega)) (by omega), Option.bind_some, hf, firstP_cons]
    dsimp only
    have hnext := ih (i + 1) k (by omega) (by omega)
    rw [List.take_succ_eq_append_getElem (by omega), List.any_append] at hnext
    rw [wrap_s (by omega)]
    cases hb : (r.take i).any (soF x2) with
    | true =>
      rw [hb] at hnext
      rw [if_pos rfl, if_pos rfl, if_pos rfl]
      simpa using hnext
    | false =>
      rw [hb] at hnext
      rw [if_neg (by decide), if_pos rfl, if_pos rfl]
      simpa [soF] using hnext
theorem BlockBack : moultlaw8_BlockBack.Pure := by
  intro l0 a1 a2 w0 w1 w2 w3
  refine ⟨400000 + 1, ?_⟩
  unfold moultlaw8_BlockBack.f
  rw [shown_k _ (by omega), Option.bind_some]
  have skip : moultlaw8_BlockBack.j0 (400000 + 1) l0 a1 a2 true true = some true := by rw [moultlaw8_BlockBack.j0, if_pos rfl]
  rcases as_f l0 (400000 + 1) (by omega) with ⟨h1, h2, h3⟩ | ⟨m, h1⟩
  · rw [h1, Option.bind_some, if_pos rfl, if_pos rfl]
    by_cases c0 : (a1.size : Int) > 3000
    · rw [if_pos c0]; exact skip
    by_cases c1 : (a2.size : Int) > 300
    · rw [if_neg c0, decide_eq_true c1]; exact skip
    obtain ⟨r, hr1, hr2, hr3, hr4⟩ := rising_f l0 (by omega) 400000 (by omega)
    have hlim : Lim r := ⟨by omega, fun p hp => by have := h3 p (hr3 p hp); omega⟩
    rw [if_neg c0, decide_eq_false c1, moultlaw8_BlockBack.j0, if_neg (by decide), hr1, Option.bind_some, build_f hlim.small, Option.bind_some]
    by_cases c2 : (encFrom ⟨#[]⟩ r).length ≤ 40000
    · rw [build_ok hr2 c2, if_pos rfl]
      have hrd : ∀ k, 300000 < k → block_Read.f k ⟨(encFrom ⟨#[]⟩ r).toArray⟩ = some (r, 0) := fun k hk => read_enc (by rw [← ba_sz, ba_mk]; exact c2) (ba_mk _) hr2 k hk
      rw [hrd _ (by omega), Option.bind_some]
      dsimp only
      rw [if_pos rfl, same_f r (by omega) _ (by omega), Option.bind_some, show 400000 = 399999 + 1 from rfl, moultlaw8_BlockBack.j1, if_neg (by decide)]
      have := back_l0 a1 a2 _ r hr2 (by omega) (by omega) hrd r.length 0 399999 (by omega) (by omega)
      simpa using this
    · rw [build_long hr2 (by omega), if_neg (by decide), if_pos rfl]
      dsimp only
      rw [ba_tl]; rfl
  · rw [h1, Option.bind_some, if_pos rfl, if_neg Bool.false_ne_true]; exact skip
end Go.Proofs.Ytbhainkcdkgbbaa.Pure

end
section
namespace Go.Proofs.Ytbhainkcdkgbbaa.blockBack
open Go.ChangeShapes Go.WideShapes Go.ChangeAt Go.RowKit Go.Proofs.Ytbhainkcdkgbbaa.P Go.Proofs.YtbhainkcdkgbbaaW.PrintWords
open Go.ChangeMaps (open_string shut_string)
set_option linter.unusedVariables false
theorem own : ownKnob Try.prog.godebug = none := by kernel_rfl
theorem laidOut : laidOutB Try.prog = true := by kernel_rfl
set_option maxRecDepth 100000 in
theorem lifted (os : Os) (started : os.Started) (H : Type) (enc : TypeId × Value → H) :
    ReturnsInHanded {} Try.checked os 4 .any (Rows.blockBackSpec.pre6 enc Try.prog Try.f4 Rows.blockBackRow.domain false) (Rows.blockBackSpec.post enc Try.prog Try.f4 false true false false) := by
  refine returnsInHanded_of_change_sized (C := Try.checked) own started (by kernel_rfl) Try.func4
    (ChangeSpec.witness6 (enc := enc) (C := Try.checked) false ⟨#[], #[.slice none 0 0, .string ByteArray.empty, .string ByteArray.empty], []⟩ 8 (by kernel_rfl) (by kernel_rfl) (by kernel_rfl) (by kernel_rfl)) ?_
  intro W base args ds gs before hval0 hW hcnd hsz0 _
  have hsz : (DataW.weightsEach Try.prog (Try.f4.params.toList ++ Rows.blockBackSpec.plain.varTypes Try.prog) (ds ++ gs)).all (· ≤ reachBytes) = true := hsz0
  have hval : ∀ (j : Nat) t v, Try.f4.params[j]? = some t → args[j]? = some v → Value.okWide Try.prog W .any base t v := hval0
  have hW' := hW
  obtain ⟨p, q, hA0, hV, rfl, hfz, hnd⟩ := hW
  have hA : DataW.TrodAll enc Try.prog W 0 (fun _ => true) true Try.f4.params.toList args.toList ds p := hA0
  rw [Try.params4] at hA hval hsz
  obtain ⟨v0, vs0, d0, ds0, p0, q0, hargs, rfl, rfl, h0, r0⟩ := trodAll_cons hA
  obtain ⟨v1, vs1, d1, ds1, p1, q1, rfl, rfl, rfl, h1, r1⟩ := trodAll_cons r0
  obtain ⟨v2, vs2, d2, ds2, p2, q2, rfl, rfl, rfl, h2, r2⟩ := trodAll_cons r1
  obtain ⟨rfl, rfl, rfl⟩ := trodAll_nil r2
  obtain rfl : args = #[v0, v1, v2] := by cases args; simp_all
  obtain ⟨rfl, rfl⟩ := trodVars_none hV
  obtain ⟨a0, len0, cap0, rfl⟩ := okWide_slice Try.underlying23 (hval 0 23 v0 rfl rfl)
  have k0 := h0
  have lt0 : ∀ x ∈ p0, x.block < W.heap.size := by obtain ⟨m, hm⟩ := k0; exact DataW.trod_lt m _ _ _ hm
  obtain ⟨l0, hl0, hc0, hm0, hr0, hs0⟩ := open_T43 Try.underlying23 (by kernel_rfl) h0
  subst hl0
  obtain ⟨a1, rfl, rfl, rfl, y1⟩ := open_string Try.underlying9 (hval 1 9 v1 rfl rfl) h1
  have w1 : a1.size ≤ 140737488351232 := by
    have z := sized_string hsz (j := 1) (t := 9) rfl rfl
    rw [Array.length_toList] at z
    exact z
  obtain ⟨a2, rfl, rfl, rfl, y2⟩ := open_string Try.underlying9 (hval 2 9 v2 rfl rfl) h2
  have w2 : a2.size ≤ 140737488351232 := by
    have z := sized_string hsz (j := 2) (t := 9) rfl rfl
    rw [Array.length_toList] at z
    exact z
  clear hA0 hval0 hsz0 hsz
  obtain ⟨kk, hh⟩ := Pure.BlockBack l0 a1 a2 hm0 hs0 w1 w2
  refine (moultlaw8_BlockBack.calls kk a0 cap0 l0 a1 a2 true W hr0 hc0 hh).mono ?_
  rintro e W' ⟨he, bel⟩
  subst he
  exact ⟨_, rfl, _, _, _, [], _, [], hW', trodAll_mk1 (shut_bool Try.underlying4 _), (trodAll_cons_mk (Below.trod laidOut (by kernel_rfl) (of_decide_eq_true (by kernel_rfl)) k0 bel lt0) (trodAll_cons_mk (shut_string Try.underlying9 y1) (trodAll_cons_mk (shut_string Try.underlying9 y2) trodAll_mk0))), rfl, bel.frame _, fun h => by cases h⟩
theorem over : Rows.blockBackRow.holds Try.pinned (OpenSpec.ofChange Rows.blockBackSpec) :=
  OpenClaim.holds_of_wide 4 Try.f4 rfl rfl rfl rfl rfl rfl rfl ⟨rfl, rfl, rfl, rfl, rfl⟩ rfl rfl rfl rfl rfl (by kernel_rfl) Try.func4 (by kernel_rfl)
    (of_decide_eq_true (by kernel_rfl)) (by unfold Func.isWrapper; first | (rw [if_pos (by decide +kernel)]; kernel_rfl) | (rw [if_neg (by decide +kernel)]; exact ⟨rfl, rfl⟩))
    (fun os started H enc _ => lifted os started H enc)
theorem proved : Rows.BlockBackSaid := over
end Go.Proofs.Ytbhainkcdkgbbaa.blockBack
namespace Go.Proofs.Ytbhainkcdkgbbaa
theorem blockBack_holds : Rows.BlockBackSaid := blockBack.proved
end Go.Proofs.Ytbhainkcdkgbbaa

end
