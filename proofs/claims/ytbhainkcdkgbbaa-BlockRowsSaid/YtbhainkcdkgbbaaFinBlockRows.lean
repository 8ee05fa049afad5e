import Derived.Test.YtbhainkcdkgbbaaProg
import Derived.Below
import Derived.Deep.Draws
import Derived.Deep.AppendLies
import Derived.Maps.AppendAt
import Derived.OwnWalk
import Derived.Laws.BytesArg
import Derived.Laws.MakeOwn
import Derived.Laws.OwnMore
import Derived.Deep.OwnRows
import Derived.Tactics
import Derived.Lib.ConvBytes
import Derived.Laws.Slices
import Derived.WalkKit
import Derived.KernelRfl
import Derived.RowKit3
import Derived.Deep.LoopGhost
import Derived.Deep.QuietTactic
import Derived.BigQuiet
import Derived.WideLaws
import Derived.Deep.DeepCutAuto
import Derived.Deep.CutBlock
import Derived.Deep.RegionHeld3
import Derived.Laws.Rows
import Derived.Lib.AppendStr
import Derived.ArgAppend
import Derived.Laws.IdiomCopy
import Derived.OrdersHeld
import Derived.Laws.BitsLemmas
import Derived.RowKit
import Derived.Lib.Hide
import Derived.Laws.ShiftsVar
import Derived.Laws.ShiftsVarLaws
import Derived.Laws.BitsAllLaws
import Derived.Shelf.Strings.Builder1
import Derived.Laws.Strings
import Derived.Laws.StructEq
import Derived.WalkSpells
import Derived.Outline
import Derived.RegionTactic
import Derived.Deep.RegionWith
import Derived.StillTailTactics
import Derived.Deep.Slices
import Derived.Deep.Fields
import Derived.ChangeSame
import Derived.Deep.RegionLaw
import Derived.Test.YtbhainkcdkgbbaaRows
import Derived.ProofKit
import Derived.OpenShut
import Derived.ShutString
import Derived.ChangeOld
import Derived.SizedLaws
import Derived.ChangeSlices
import Derived.Test.YtbhainkcdkgbbaaQ0
import Derived.Test.YtbhainkcdkgbbaaQ1
import Derived.Test.YtbhainkcdkgbbaaQ5
import Derived.Test.YtbhainkcdkgbbaaQ11
import Derived.Test.YtbhainkcdkgbbaaQ18
import Derived.Test.YtbhainkcdkgbbaaQ21
import Derived.Test.YtbhainkcdkgbbaaQ22
import Derived.Test.YtbhainkcdkgbbaaQ43
import Derived.Test.YtbhainkcdkgbbaaQ45
namespace Go.Proofs.Ytbhainkcdkgbbaa.P
end Go.Proofs.Ytbhainkcdkgbbaa.P
namespace Go.Proofs.Ytbhainkcdkgbbaa.Vp
end Go.Proofs.Ytbhainkcdkgbbaa.Vp
namespace Go.Proofs.YtbhainkcdkgbbaaW.PrintLast
end Go.Proofs.YtbhainkcdkgbbaaW.PrintLast
namespace Go.Proofs.YtbhainkcdkgbbaaW.PrintMore
end Go.Proofs.YtbhainkcdkgbbaaW.PrintMore
namespace Go.Proofs.YtbhainkcdkgbbaaW.PrintWords
end Go.Proofs.YtbhainkcdkgbbaaW.PrintWords
section
namespace Go.Proofs.Ytbhainkcdkgbbaa.P
open Go.RowKit Go.Proofs.Ytbhainkcdkgbbaa.P Go.Proofs.YtbhainkcdkgbbaaW.PrintWords Go.Proofs.YtbhainkcdkgbbaaW.PrintLast
def moultlaw8_BlockRows.Pure : Prop := ∀ (l0 : List (S43)) (a1 : Int), l0.length ≤ maxLen → (∀ x ∈ l0, okT43 x) → (Lit.int .i64 a1).wf = true → ∃ k, moultlaw8_BlockRows.f k l0 a1 = some true
end Go.Proofs.Ytbhainkcdkgbbaa.P

end
section
set_option linter.unusedVariables false
set_option linter.unusedSimpArgs false
namespace Go.Proofs.Ytbhainkcdkgbbaa.Pure
open Go.RowKit Go.Proofs.Ytbhainkcdkgbbaa.P Go.Proofs.Ytbhainkcdkgbbaa.Vp Go.Proofs.YtbhainkcdkgbbaaW.PrintWords Go.Proofs.YtbhainkcdkgbbaaW.PrintLast Go.Proofs.YtbhainkcdkgbbaaW.PrintMore
theorem sumP_take (r : List Pa) (j : Nat) (h : j < r.length) : sumP (r.take (j + 1)) = sumP (r.take j) + szP r[j] := by
  rw [List.take_succ_eq_append_getElem h, sumP_app]; simp [sumP]
theorem rows_l1 (l : List Pa) (most : Int) (rows : List (List Pa)) (all r : List Pa) (i : Nat) (hi : i < rows.length) (hr : rows[i] = r) (hrl : r.length ≤ 100000) (hz : ∀ p ∈ r, p.f0.size ≤ 1000000 ∧ p.f1.size ≤ 1000000) (hil : i < 1000000)
    (hpre : ∀ j, 0 < j → j < r.length → (sumP (r.take j) : Int) < most) :
    ∀ (d j k : Nat), j + d = r.length → sumP (r.take j) ≤ 2000000 * j → moultlaw8_BlockRows.l1 (k + d + 1) l most rows all (i : Int) (sumP (r.take j) : Int) (j : Int) = moultlaw8_BlockRows.l1 (k + 1) l most rows all (i : Int) (sumP r : Int) (r.length : Int) := by
  have hrd : rd_L5 rows (i : Int) = r := by
    rw [← hr]; unfold rd_L5; rw [Int.toNat_natCast, List.getD_eq_getElem?_getD, List.getElem?_eq_getElem hi]; rfl
  intro d
  induction d with
  | zero =>
    intro j k hj hn
    obtain rfl : j = r.length := by omega
    rw [List.take_length, Nat.add_zero]
  | succ d ih =>
    intro j k hj hn
    have hzj := hz _ (List.getElem_mem (show j < r.length by omega))
    have hs : szP r[j] ≤ 2000000 := by unfold szP; omega
    have hst := sumP_take r j (by omega)
    have step : wrap64 (wrap64 ((sumP (r.take j) : Int) + ((rd_T43 r (j : Int)).f0.size : Int)) + ((rd_T43 r (j : Int)).f1.size : Int)) = (sumP (r.take (j + 1)) : Int) := by
      rw [rd_get r j (by omega), w_sum2 _ _ _ (by omega), hst]; rfl
    have STEP := Aside0.mk step
    clear step
    have nxt := ih (j + 1) k (by omega) (by omega)
    rw [show k + (d + 1) + 1 = (k + d + 1) + 1 by omega, moultlaw8_BlockRows.l1, if_pos (by omega), if_pos (by omega), hrd, if_pos (by omega), STEP.out, wrap_s (show j < 9000000000000000000 by omega)]
    by_cases c : (sumP (r.take j) : Int) ≥ most
    · have hj0 : ¬ ((j : Int) > 0) := by
        intro h
        have := hpre j (by omega) (by omega)
        omega
      rw [if_pos c, if_neg hj0, if_pos (by omega)]
      exact nxt
    · rw [if_neg c, if_pos (by omega)]
      exact nxt
theorem rows_bound {k q m n : Nat} (hk : 200000 * (m + 1 + 2) ≤ k + 1) (hq : k = q + n + 1) (hn : n ≤ 100000) : 200000 * (m + 2) ≤ q := by omega
theorem rows_l0 (l : List Pa) (most : Int) (rows : List (List Pa)) (hall : rows.flatten = l) (hlim : Lim l) (hrl : rows.length ≤ 100000) :
    ∀ (rest done : List (List Pa)) (k : Nat), rows = done ++ rest → GoodRows most rest → 200000 * (rest.length + 2) ≤ k → moultlaw8_BlockRows.l0 k l most rows done.flatten (done.length : Int) = some true := by
  intro rest
  induction rest with
  | nil =>
    intro done k he hg hk
    obtain ⟨k, rfl⟩ : ∃ m, k = m + 1 := ⟨k - 1, by omega⟩
    have h2 := hlim.1
    rw [List.append_nil] at he
    rw [moultlaw8_BlockRows.l0, ← he, if_neg (by omega), hall, same_f l (by omega) k (by omega)]
    rfl
  | cons r rest ih =>
    intro done k he hg hk
    rw [List.length_cons] at hk
    obtain ⟨k, rfl⟩ : ∃ m, k = m + 1 := ⟨k - 1, by omega⟩
    have h2 := hlim.1
    have hlen : rows.length = done.length + (rest.length + 1) := by rw [he, List.length_append, List.length_cons]
    have hi : done.length < rows.length := by omega
    have hget : rows[done.length] = r := by
      simp only [he]
      rw [List.getElem_append_right (by omega)]
      simp
    have hmem : ∀ p ∈ r, p ∈ l := by
      intro p hp
      rw [← hall, he]
      exact List.mem_flatten.2 ⟨r, by simp, hp⟩
    have hfl : done.flatten.length + r.length ≤ l.length := by
      rw [← hall, he, List.flatten_append, List.flatten_cons, List.length_append, List.length_append]; omega
    obtain ⟨hne, hpre, hfull, hrest⟩ := hg
    have hrd : rd_L5 rows (done.length : Int) = r := by
      unfold rd_L5; rw [Int.toNat_natCast, List.getD_eq_getElem?_getD, List.getElem?_eq_getElem hi, hget]; rfl
    have hpos := List.length_pos_iff.2 hne
    obtain ⟨q, hq⟩ : ∃ q, k = q + r.length + 1 := ⟨k - r.length - 1, by omega⟩
    rw [moultlaw8_BlockRows.l0, if_pos (by omega), hq]
    have := rows_l1 l most rows done.flatten r done.length hi hget (by omega) (fun p hp => hlim.2 p (hmem p hp)) (by omega) hpre r.length 0 q (by omega) (by simp [sumP])
    have h0 : sumP (r.take 0) = 0 := by simp [sumP]
    rw [h0, show ((0 : Nat) : Int) = 0 from rfl] at this
    have hb : 200000 * (rest.length + 2) ≤ q := rows_bound hk hq (by omega)
    have nxt := ih (done ++ [r]) q (by rw [he]; simp) hrest hb
    rw [List.flatten_append, List.flatten_cons, List.flatten_nil, List.append_nil, List.length_append, List.length_singleton] at nxt
    rw [this, moultlaw8_BlockRows.l1, if_pos (by omega), if_pos (by omega), hrd, if_neg (by omega), if_neg (by omega), wrap_s (show done.length < 9000000000000000000 by omega), w_pred rows.length (by omega) (by omega)]
    by_cases c : (sumP r : Int) < most
    · have hl0 : rest = [] := by
        rcases List.eq_nil_or_concat rest with h | ⟨_, _, h⟩
        · exact h
        · have := hfull (by rw [h]; simp); omega
      rw [if_pos c, if_neg (by rw [hl0] at hlen; simp only [List.length_nil] at hlen; omega), if_pos (by omega)]
      exact nxt
    · rw [if_neg c, if_pos (by omega)]
      exact nxt
theorem BlockRows : moultlaw8_BlockRows.Pure := by
  intro l0 a1 w0 w1 w2
  refine ⟨30000000 + 1, ?_⟩
  unfold moultlaw8_BlockRows.f
  rw [shown_k _ (by omega), Option.bind_some]
  have skip : moultlaw8_BlockRows.j0 (30000000 + 1) l0 a1 true true = some true := by rw [moultlaw8_BlockRows.j0, if_pos rfl]
  rcases as_f l0 (30000000 + 1) (by omega) with ⟨h1, h2, h3⟩ | ⟨m, h1⟩
  · rw [h1, Option.bind_some, if_pos rfl]
    have hlim : Lim l0 := ⟨by omega, fun p hp => by have := h3 p hp; omega⟩
    dsimp only [Bool.not_true]
    rw [moultlaw8_BlockRows.j0, if_neg (by decide), split_f l0 a1 hlim _ (by omega), Option.bind_some]
    have hj := split_join a1 l0 [] 0
    rw [List.nil_append] at hj
    have hg := split_good a1 l0 [] 0 rfl (fun j h0 h1 => by rw [List.length_nil] at h1; omega)
    have gen : ∀ rows : List (List Pa), GoodRows a1 rows → rows.length ≤ rows.flatten.length := by
      intro rows
      induction rows with
      | nil => intro _; simp
      | cons r rows ih =>
        intro hg
        have g1 := ih hg.2.2.2
        have hp := List.length_pos_iff.2 hg.1
        rw [List.flatten_cons, List.length_append, List.length_cons]
        omega
    have hrl := gen _ hg
    rw [hj] at hrl
    have := rows_l0 l0 a1 _ hj hlim (by omega) (splitL a1 [] 0 l0) [] 30000000 rfl hg (by omega)
    simpa using this
  · rw [h1, Option.bind_some, if_pos rfl]; exact skip
end Go.Proofs.Ytbhainkcdkgbbaa.Pure

end
section
namespace Go.Proofs.Ytbhainkcdkgbbaa.blockRows
open Go.ChangeShapes Go.WideShapes Go.ChangeAt Go.RowKit Go.Proofs.Ytbhainkcdkgbbaa.P Go.Proofs.YtbhainkcdkgbbaaW.PrintWords
open Go.ChangeMaps (open_string shut_string)
set_option linter.unusedVariables false
theorem own : ownKnob Try.prog.godebug = none := by kernel_rfl
theorem laidOut : laidOutB Try.prog = true := by kernel_rfl
set_option maxRecDepth 100000 in
theorem lifted (os : Os) (started : os.Started) (H : Type) (enc : TypeId × Value → H) :
    ReturnsInHanded {} Try.checked os 8 .any (Rows.blockRowsSpec.pre6 enc Try.prog Try.f8 Rows.blockRowsRow.domain false) (Rows.blockRowsSpec.post enc Try.prog Try.f8 false true false false) := by
  refine returnsInHanded_of_change_sized (C := Try.checked) own started (by kernel_rfl) Try.func8
    (ChangeSpec.witness6 (enc := enc) (C := Try.checked) false ⟨#[], #[.slice none 0 0, .int .i64 0], []⟩ 8 (by kernel_rfl) (by kernel_rfl) (by kernel_rfl) (by kernel_rfl)) ?_
  intro W base args ds gs before hval0 hW hcnd hsz0 _
  have hsz : (DataW.weightsEach Try.prog (Try.f8.params.toList ++ Rows.blockRowsSpec.plain.varTypes Try.prog) (ds ++ gs)).all (· ≤ reachBytes) = true := hsz0
  have hval : ∀ (j : Nat) t v, Try.f8.params[j]? = some t → args[j]? = some v → Value.okWide Try.prog W .any base t v := hval0
  have hW' := hW
  obtain ⟨p, q, hA0, hV, rfl, hfz, hnd⟩ := hW
  have hA : DataW.TrodAll enc Try.prog W 0 (fun _ => true) true Try.f8.params.toList args.toList ds p := hA0
  rw [Try.params8] at hA hval hsz
  obtain ⟨v0, vs0, d0, ds0, p0, q0, hargs, rfl, rfl, h0, r0⟩ := trodAll_cons hA
  obtain ⟨v1, vs1, d1, ds1, p1, q1, rfl, rfl, rfl, h1, r1⟩ := trodAll_cons r0
  obtain ⟨rfl, rfl, rfl⟩ := trodAll_nil r1
  obtain rfl : args = #[v0, v1] := by cases args; simp_all
  obtain ⟨rfl, rfl⟩ := trodVars_none hV
  obtain ⟨a0, len0, cap0, rfl⟩ := okWide_slice Try.underlying23 (hval 0 23 v0 rfl rfl)
  have k0 := h0
  have lt0 : ∀ x ∈ p0, x.block < W.heap.size := by obtain ⟨m, hm⟩ := k0; exact DataW.trod_lt m _ _ _ hm
  obtain ⟨l0, hl0, hc0, hm0, hr0, hs0⟩ := open_T43 Try.underlying23 (by kernel_rfl) h0
  subst hl0
  obtain ⟨a1, rfl, rfl, rfl, w1⟩ := open_int Try.underlying3 (hval 1 3 v1 rfl rfl) h1
  clear hA0 hval0 hsz0 hsz
  obtain ⟨kk, hh⟩ := Pure.BlockRows l0 a1 hm0 hs0 w1
  refine (moultlaw8_BlockRows.calls kk a0 cap0 l0 a1 true W hr0 hc0 hh).mono ?_
  rintro e W' ⟨he, bel⟩
  subst he
  exact ⟨_, rfl, _, _, _, [], _, [], hW', trodAll_mk1 (shut_bool Try.underlying4 _), (trodAll_cons_mk (Below.trod laidOut (by kernel_rfl) (of_decide_eq_true (by kernel_rfl)) k0 bel lt0) (trodAll_cons_mk (shut_int Try.underlying3 w1) trodAll_mk0)), rfl, bel.frame _, fun h => by cases h⟩
theorem over : Rows.blockRowsRow.holds Try.pinned (OpenSpec.ofChange Rows.blockRowsSpec) :=
  OpenClaim.holds_of_wide 8 Try.f8 rfl rfl rfl rfl rfl rfl rfl ⟨rfl, rfl, rfl, rfl, rfl⟩ rfl rfl rfl rfl rfl (by kernel_rfl) Try.func8 (by kernel_rfl)
    (of_decide_eq_true (by kernel_rfl)) (by unfold Func.isWrapper; first | (rw [if_pos (by decide +kernel)]; kernel_rfl) | (rw [if_neg (by decide +kernel)]; exact ⟨rfl, rfl⟩))
    (fun os started H enc _ => lifted os started H enc)
theorem proved : Rows.BlockRowsSaid := over
end Go.Proofs.Ytbhainkcdkgbbaa.blockRows
namespace Go.Proofs.Ytbhainkcdkgbbaa
theorem blockRows_holds : Rows.BlockRowsSaid := blockRows.proved
end Go.Proofs.Ytbhainkcdkgbbaa

end
