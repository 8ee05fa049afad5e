import Derived.Test.YtbhainkcdkgbbaaProg
import Derived.Below
import Derived.Deep.Draws
import Derived.Deep.AppendLies
import Derived.Maps.AppendAt
import Derived.OwnWalk
import Derived.Laws.BytesArg
import Derived.Laws.MakeOwn
import Derived.Laws.OwnMore
import Derived.Deep.OwnRows
import Derived.Tactics
import Derived.Lib.ConvBytes
import Derived.Laws.Slices
import Derived.WalkKit
import Derived.KernelRfl
import Derived.RowKit3
import Derived.Deep.LoopGhost
import Derived.Deep.QuietTactic
import Derived.BigQuiet
import Derived.WideLaws
import Derived.Deep.DeepCutAuto
import Derived.Deep.CutBlock
import Derived.Deep.RegionHeld3
import Derived.Laws.Rows
import Derived.Lib.AppendStr
import Derived.ArgAppend
import Derived.Laws.IdiomCopy
import Derived.OrdersHeld
import Derived.Laws.BitsLemmas
import Derived.RowKit
import Derived.Lib.Hide
import Derived.Laws.ShiftsVar
import Derived.Laws.ShiftsVarLaws
import Derived.Laws.BitsAllLaws
import Derived.Shelf.Strings.Builder1
import Derived.Laws.Strings
import Derived.Laws.StructEq
import Derived.WalkSpells
import Derived.Outline
import Derived.RegionTactic
import Derived.Deep.RegionWith
import Derived.StillTailTactics
import Derived.Deep.RegionLaw
import Derived.Test.YtbhainkcdkgbbaaQ5
import Derived.Test.YtbhainkcdkgbbaaQ11
namespace Go.Proofs.Ytbhainkcdkgbbaa.P
end Go.Proofs.Ytbhainkcdkgbbaa.P
namespace Go.Proofs.Ytbhainkcdkgbbaa.Vp
end Go.Proofs.Ytbhainkcdkgbbaa.Vp
namespace Go.Proofs.YtbhainkcdkgbbaaW.PrintLast
end Go.Proofs.YtbhainkcdkgbbaaW.PrintLast
namespace Go.Proofs.YtbhainkcdkgbbaaW.PrintMore
end Go.Proofs.YtbhainkcdkgbbaaW.PrintMore
namespace Go.Proofs.YtbhainkcdkgbbaaW.PrintWords
end Go.Proofs.YtbhainkcdkgbbaaW.PrintWords
set_option linter.unusedVariables false
set_option linter.unusedSimpArgs false
namespace Go.Proofs.Ytbhainkcdkgbbaa.Pure
open Go.RowKit Go.Proofs.Ytbhainkcdkgbbaa.P Go.Proofs.Ytbhainkcdkgbbaa.Vp Go.Proofs.YtbhainkcdkgbbaaW.PrintWords Go.Proofs.YtbhainkcdkgbbaaW.PrintLast Go.Proofs.YtbhainkcdkgbbaaW.PrintMore
theorem wrap_id {x : Int} (h0 : 0 ≤ x) (h1 : x < 4611686018427387904) : wrap64 x = x := by unfold wrap64; omega
theorem w_sum (n a b : Nat) (h : n + (a + b) < 4611686018427387904) : wrap64 ((n : Int) + wrap64 ((a : Int) + (b : Int))) = ((n + (a + b) : Nat) : Int) := by
  rw [wrap_id (x := (a : Int) + (b : Int)) (by omega) (by omega), wrap_id (by omega) (by omega)]; omega
theorem w_sum2 (n a b : Nat) (h : n + (a + b) < 4611686018427387904) : wrap64 (wrap64 ((n : Int) + (a : Int)) + (b : Int)) = ((n + (a + b) : Nat) : Int) := by
  rw [wrap_id (x := (n : Int) + (a : Int)) (by omega) (by omega), wrap_id (by omega) (by omega)]; omega
theorem w_pred (n : Nat) (h0 : 1 ≤ n) (h : n < 4611686018427387904) : wrap64 ((n : Int) - 1) = ((n - 1 : Nat) : Int) := by
  rw [wrap_id (by omega) (by omega)]; omega
def szP (p : Pa) : Nat := p.f0.size + p.f1.size
def sumP (l : List Pa) : Nat := (l.map szP).sum
def splitL (most : Int) : List Pa → Nat → List Pa → List (List Pa)
  | row, _, [] => if row = [] then [] else [row]
  | row, n, p :: l => if ((n + szP p : Nat) : Int) ≥ most then (row ++ [p]) :: splitL most [] 0 l else splitL most (row ++ [p]) (n + szP p) l
theorem split_l0 (l : List Pa) (most : Int) (hlim : Lim l) : ∀ (d i from_ n k : Nat) (out : List (List Pa)), i + d = l.length → d < k → from_ ≤ i → (i = l.length → from_ = l.length) → n ≤ 2000000 * i → out.length ≤ i →
    block_Split.l0 k l most out (from_ : Int) (n : Int) l (l.length : Int) (i : Int) = some (out ++ splitL most ((l.take i).drop from_) n (l.drop i)) := by
  intro d
  induction d with
  | zero =>
    intro i from_ n k out hi hk hf he hn ho
    obtain ⟨k, rfl⟩ : ∃ m, k = m + 1 := ⟨k - 1, by omega⟩
    have h1 := he (by omega)
    have h2 := hlim.1
    rw [block_Split.l0, if_neg (by omega), List.drop_of_length_le (l := l) (by omega), List.drop_of_length_le (by rw [List.length_take]; omega), splitL, if_pos rfl, List.append_nil]
  | succ d ih =>
    intro i from_ n k out hi hk hf he hn ho
    obtain ⟨k, rfl⟩ : ∃ m, k = m + 1 := ⟨k - 1, by omega⟩
    have h2 := hlim.1
    have hz := hlim.2 _ (List.getElem_mem (show i < l.length by omega))
    rw [block_Split.l0, if_pos (by omega), if_pos (by omega), if_pos (by omega), rd_get l i (by omega), w_sum n _ _ (by omega), wrap_s (show i < 9000000000000000000 by omega), w_pred l.length (by omega) (by omega), ← szP]
    have hrow : ((l.take (i + 1)).drop from_) = (l.take i).drop from_ ++ [l[i]] := by
      rw [List.take_succ_eq_append_getElem (by omega), List.drop_append_of_le_length (by rw [List.length_take]; omega)]
    have hlen : ((l.take (i + 1)).drop from_).length < 4398046511104 := by rw [List.length_drop, List.length_take]; omega
    have hpair : block_Pair.f ((l.take (((i + 1 : Nat) : Int)).toNat).drop (from_ : Int).toNat) = some ((l.take (i + 1)).drop from_) := by
      rw [Int.toNat_natCast, Int.toNat_natCast]
      unfold block_Pair.f
      rw [if_pos hlen]
    have hnil : (l.take (i + 1)).drop (i + 1) = [] := List.drop_of_length_le (by rw [List.length_take]; omega)
    have emit := ih (i + 1) (i + 1) 0 k (out ++ [(l.take (i + 1)).drop from_]) (by omega) (by omega) (by omega) (by omega) (by omega) (by rw [List.length_append, List.length_singleton]; omega)
    rw [hnil, show ((0 : Nat) : Int) = 0 from rfl] at emit
    rw [List.drop_eq_getElem_cons (l := l) (i := i) (by omega), splitL]
    by_cases c : ((n + szP l[i] : Nat) : Int) ≥ most
    · rw [if_pos c, if_pos c, if_pos (by omega), if_pos (by omega), if_pos (by omega), hpair, Option.bind_some, if_pos (by omega), emit, hrow, List.append_assoc]; rfl
    · rw [if_neg c, if_neg c]
      by_cases c2 : (i : Int) = ((l.length - 1 : Nat) : Int)
      · rw [if_pos c2, if_pos (by omega), if_pos (by omega), if_pos (by omega), hpair, Option.bind_some, if_pos (by omega), emit, hrow, List.append_assoc]
        have hd : l.drop (i + 1) = [] := List.drop_of_length_le (by omega)
        rw [hd, splitL, if_pos rfl, splitL, if_neg (by simp), List.append_nil]
      · have hsz : szP l[i] ≤ 2000000 := by unfold szP; omega
        rw [if_neg c2, ih (i + 1) from_ (n + szP l[i]) k out (by omega) (by omega) (by omega) (by omega) (by omega) (by omega), hrow]
theorem split_f (l : List Pa) (most : Int) (hlim : Lim l) (k : Nat) (hk : l.length < k) : block_Split.f k l most = some (splitL most [] 0 l) := by
  unfold block_Split.f
  have := split_l0 l most hlim l.length 0 0 0 k [] (by omega) hk (by omega) (by omega) (by omega) (by simp)
  simpa using this
theorem sumP_app (a b : List Pa) : sumP (a ++ b) = sumP a + sumP b := by unfold sumP; rw [List.map_append, List.sum_append]
theorem split_join (most : Int) : ∀ (l row : List Pa) (n : Nat), (splitL most row n l).flatten = row ++ l
  | [], row, n => by
    unfold splitL
    split
    · rename_i h; rw [h]; rfl
    · simp
  | p :: l, row, n => by
    unfold splitL
    split
    · rw [List.flatten_cons, split_join most l [] 0]; simp
    · rw [split_join most l (row ++ [p])]; simp
def GoodRows (most : Int) : List (List Pa) → Prop
  | [] => True
  | r :: rest => r ≠ [] ∧ (∀ j, 0 < j → j < r.length → (sumP (r.take j) : Int) < most) ∧ (rest ≠ [] → most ≤ (sumP r : Int)) ∧ GoodRows most rest
theorem split_good (most : Int) : ∀ (l row : List Pa) (n : Nat), n = sumP row → (∀ j, 0 < j → j ≤ row.length → (sumP (row.take j) : Int) < most) → GoodRows most (splitL most row n l)
  | [], row, n, hn, hr => by
    unfold splitL
    split
    · trivial
    · rename_i h
      exact ⟨h, fun j h0 h1 => hr j h0 (by omega), (fun h => absurd rfl h), trivial⟩
  | p :: l, row, n, hn, hr => by
    have hpre : ∀ j, 0 < j → j ≤ row.length → (sumP ((row ++ [p]).take j) : Int) < most := by
      intro j h0 h1
      rw [List.take_append_of_le_length h1]; exact hr j h0 h1
    have hsum : sumP (row ++ [p]) = n + szP p := by rw [sumP_app, hn]; simp [sumP]
    unfold splitL
    split
    · rename_i h
      refine ⟨by simp, fun j h0 h1 => hpre j h0 (by rw [List.length_append, List.length_singleton] at h1; omega), fun _ => by rw [hsum]; omega, ?_⟩
      exact split_good most l [] 0 rfl (fun j h0 h1 => by rw [List.length_nil] at h1; omega)
    · rename_i h
      refine split_good most l (row ++ [p]) (n + szP p) hsum.symm (fun j h0 h1 => ?_)
      rw [List.length_append, List.length_singleton] at h1
      by_cases c : j ≤ row.length
      · exact hpre j h0 c
      · have e : j = row.length + 1 := by omega
        rw [e, List.take_of_length_le (by rw [List.length_append, List.length_singleton]; omega), hsum]; omega
end Go.Proofs.Ytbhainkcdkgbbaa.Pure

