import Derived.Below
import Derived.Deep.Draws
import Derived.Deep.AppendLies
import Derived.Maps.AppendAt
import Derived.OwnWalk
import Derived.Laws.BytesArg
import Derived.Laws.MakeOwn
import Derived.Laws.OwnMore
import Derived.Deep.OwnRows
import Derived.Tactics
import Derived.Lib.ConvBytes
import Derived.Laws.Slices
import Derived.WalkKit
import Derived.KernelRfl
import Derived.RowKit3
import Derived.Deep.LoopGhost
import Derived.Deep.QuietTactic
import Derived.BigQuiet
import Derived.WideLaws
import Derived.Deep.DeepCutAuto
import Derived.Deep.CutBlock
import Derived.Deep.RegionHeld3
import Derived.Laws.Rows
import Derived.Lib.AppendStr
import Derived.ArgAppend
import Derived.Laws.IdiomCopy
import Derived.RowKit
import Derived.Test.YtbhainkcdkgbbaaProg
import Derived.OrdersHeld
import Derived.Laws.BitsLemmas
import Derived.Lib.Hide
import Derived.Laws.ShiftsVar
import Derived.Laws.ShiftsVarLaws
import Derived.Laws.BitsAllLaws
import Derived.Shelf.Strings.Builder1
import Derived.Laws.Strings
import Derived.Laws.StructEq
import Derived.WalkSpells
import Derived.Outline
import Derived.RegionTactic
import Derived.Deep.RegionWith
import Derived.StillTailTactics
import Derived.Deep.RegionLaw
import Derived.Deep.Slices
import Derived.Deep.Fields
import Derived.ChangeSame
import Derived.Test.YtbhainkcdkgbbaaQ0
import Derived.Test.YtbhainkcdkgbbaaQ1
import Derived.Test.YtbhainkcdkgbbaaQ4
import Derived.Test.YtbhainkcdkgbbaaQ5
import Derived.Test.YtbhainkcdkgbbaaQ6
import Derived.Test.YtbhainkcdkgbbaaQ7
import Derived.Test.YtbhainkcdkgbbaaQ17
import Derived.Test.YtbhainkcdkgbbaaQ18
import Derived.Test.YtbhainkcdkgbbaaQ19
import Derived.Test.YtbhainkcdkgbbaaQ20
import Derived.Test.YtbhainkcdkgbbaaQ21
import Derived.Test.YtbhainkcdkgbbaaQ22
namespace Go.Proofs.Ytbhainkcdkgbbaa.P
end Go.Proofs.Ytbhainkcdkgbbaa.P
namespace Go.Proofs.Ytbhainkcdkgbbaa.Sl
end Go.Proofs.Ytbhainkcdkgbbaa.Sl
namespace Go.Proofs.Ytbhainkcdkgbbaa.Vp
end Go.Proofs.Ytbhainkcdkgbbaa.Vp
namespace Go.Proofs.YtbhainkcdkgbbaaW.PrintLast
end Go.Proofs.YtbhainkcdkgbbaaW.PrintLast
namespace Go.Proofs.YtbhainkcdkgbbaaW.PrintMore
end Go.Proofs.YtbhainkcdkgbbaaW.PrintMore
namespace Go.Proofs.YtbhainkcdkgbbaaW.PrintWords
end Go.Proofs.YtbhainkcdkgbbaaW.PrintWords
section
set_option linter.unusedVariables false
set_option linter.unusedSimpArgs false
namespace Go.Proofs.YtbhainkcdkgbbaaW.PrintWords
open Go.RowKit
section
variable {P : Program}
theorem cut_to (t e : TypeId) (kh : IntKind) {i : TypeInfo} (ht : P.underlying t = some (.slice e)) (hi : P.info? e = some i) (A : Option Addr) (n c : Nat) (j : Int) (h0 : 0 ≤ j) (hm : j ≤ n) (hc : n ≤ c) :
    ∀ W : World, (Instr.slice t (.slice A n c) none (some (.int kh j)) none).run P W = .ok (.slice A j.toNat c) W := by
  intro W
  have hel : P.elem t = e := by simp [Program.elem, ht]
  have hu : P.underlying t = some (.slice (P.elem t)) := by rw [hel]; exact ht
  have ha : (A.map fun x => x.add 0) = A := by cases A <;> simp [Addr.add]
  rw [run_slice_h W t A n c hu kh j h0 (by omega), hel]
  simp [sizeOf, typeInfo, hi, sliced, Result.andThen, ha]
end
end Go.Proofs.YtbhainkcdkgbbaaW.PrintWords

end
section
set_option linter.unusedVariables false
set_option linter.unusedSimpArgs false
namespace Go.Proofs.Ytbhainkcdkgbbaa.Pure
open Go.RowKit Go.Proofs.Ytbhainkcdkgbbaa.P Go.Proofs.Ytbhainkcdkgbbaa.Vp Go.Proofs.Ytbhainkcdkgbbaa.Sl Go.Proofs.YtbhainkcdkgbbaaW.PrintWords Go.Proofs.YtbhainkcdkgbbaaW.PrintLast Go.Proofs.YtbhainkcdkgbbaaW.PrintMore
theorem read_not {s : ByteArray} (h : ¬ ∃ l, s.size ≤ 40000 ∧ s.data.toList = encFrom ⟨#[]⟩ l ∧ okFrom false ⟨#[]⟩ l) (k : Nat) (hk : 300000 < k) : block_Read.f k s = some ([], 8) := by
  rcases read_f s k hk with ⟨m, h0, h1, h2, h3⟩ | ⟨h1, h2⟩
  · exact absurd ⟨m, h0, h1, h2⟩ h
  · exact h2
end Go.Proofs.Ytbhainkcdkgbbaa.Pure

end
section
namespace Go.Proofs.Ytbhainkcdkgbbaa.P
open Go.RowKit Go.Proofs.Ytbhainkcdkgbbaa.Vp Go.Proofs.Ytbhainkcdkgbbaa.Sl Go.Proofs.YtbhainkcdkgbbaaW.PrintWords Go.Proofs.YtbhainkcdkgbbaaW.PrintLast Go.Proofs.YtbhainkcdkgbbaaW.PrintMore
attribute [local go_sem] str_gtr str_leq str_geq max2_int min2_int max_two min_two max_three min_three max_four min_four
set_option linter.unusedVariables false
set_option linter.unusedSimpArgs false
set_option maxHeartbeats 8000000 in
set_option maxRecDepth 100000 in
theorem moultlaw8_pick.calls (a0 : Int) (a1 : Int) (r : Int) (w : World) (h : moultlaw8_pick.f a0 a1 = some r) :
    Calls Try.prog 21 #[.int .i64 a0, .int .i64 a1] w fun e w' => e = .returned (.int .i64 r) ∧ Drawn0 w w' := by
  have H : (if a0 < 0 then (if a1 = 0 then (none) else (some (Int.tmod (wrap64 (-(wrap64 (a0 + 1)))) a1))) else (if a1 = 0 then (none) else (some (Int.tmod a0 a1)))) = some r := h
  clear h
  by_cases c3 : a0 < 0
  · rw [if_pos c3] at H
    have c3b0 : decide (a0 < 0) = true := decide_eq_true c3
    clear c3
    by_cases c4 : a1 = 0
    · rw [if_pos c4] at H
      exact absurd H (by simp)
    · rw [if_neg c4] at H
      have c4b0 : (a1 == 0) = false := beq_eq_false_iff_ne.mpr c4
      have c4b1 : (a1 != 0) = true := bne_iff_ne.mpr c4
      obtain rfl := Option.some.inj H
      go_enter Try.func21, Try.ntmps21
      go_wp2
      all_goals go_ret
      all_goals exact ⟨by first | rfl | (simp; done) | (simp [*]; done), by repeat (first | exact Drawn0.refl _ | apply Drawn0.step)⟩
  · rw [if_neg c3] at H
    have c3b0 : decide (a0 < 0) = false := decide_eq_false c3
    clear c3
    by_cases c5 : a1 = 0
    · rw [if_pos c5] at H
      exact absurd H (by simp)
    · rw [if_neg c5] at H
      have c5b0 : (a1 == 0) = false := beq_eq_false_iff_ne.mpr c5
      have c5b1 : (a1 != 0) = true := bne_iff_ne.mpr c5
      obtain rfl := Option.some.inj H
      go_enter Try.func21, Try.ntmps21
      go_wp2
      all_goals go_ret
      all_goals exact ⟨by first | rfl | (simp; done) | (simp [*]; done), by repeat (first | exact Drawn0.refl _ | apply Drawn0.step)⟩
end Go.Proofs.Ytbhainkcdkgbbaa.P

end
section
set_option linter.unusedVariables false
set_option linter.unusedSimpArgs false
namespace Go.Proofs.Ytbhainkcdkgbbaa.Pure
open Go.RowKit Go.Proofs.Ytbhainkcdkgbbaa.P Go.Proofs.Ytbhainkcdkgbbaa.Vp Go.Proofs.Ytbhainkcdkgbbaa.Sl Go.Proofs.YtbhainkcdkgbbaaW.PrintWords Go.Proofs.YtbhainkcdkgbbaaW.PrintLast Go.Proofs.YtbhainkcdkgbbaaW.PrintMore
theorem i64_wf {n : Int} (h : (Lit.int .i64 n).wf = true) : -9223372036854775808 ≤ n ∧ n ≤ 9223372036854775807 := by
  simp [Lit.wf, IntKind.min, IntKind.max, IntKind.signed, IntKind.bits] at h
  omega
theorem pick_f (c n : Int) (hc : -9223372036854775808 ≤ c ∧ c ≤ 9223372036854775807) (hn : 0 < n) : ∃ p, moultlaw8_pick.f c n = some p ∧ 0 ≤ p ∧ p < n := by
  unfold moultlaw8_pick.f
  split
  · rw [if_neg (by omega)]
    have e1 : wrap64 (c + 1) = c + 1 := by unfold wrap64; omega
    have e2 : wrap64 (-(c + 1)) = -(c + 1) := by unfold wrap64; omega
    rw [e1, e2, Int.tmod_eq_emod_of_nonneg (by omega)]
    exact ⟨_, rfl, Int.emod_nonneg _ (by omega), Int.emod_lt_of_pos _ hn⟩
  · rw [if_neg (by omega), Int.tmod_eq_emod_of_nonneg (by omega)]
    exact ⟨_, rfl, Int.emod_nonneg _ (by omega), Int.emod_lt_of_pos _ hn⟩
end Go.Proofs.Ytbhainkcdkgbbaa.Pure

end
section
namespace Go.Proofs.Ytbhainkcdkgbbaa.P
open Go.RowKit Go.Proofs.Ytbhainkcdkgbbaa.P Go.Proofs.YtbhainkcdkgbbaaW.PrintWords Go.Proofs.YtbhainkcdkgbbaaW.PrintLast
def moultlaw8_BlockCuts.Pure : Prop := ∀ (l0 : List (S43)) (a1 : Int), l0.length ≤ maxLen → (∀ x ∈ l0, okT43 x) → (Lit.int .i64 a1).wf = true → ∃ k, moultlaw8_BlockCuts.f k l0 a1 = some true
end Go.Proofs.Ytbhainkcdkgbbaa.P

end
section
set_option linter.unusedVariables false
set_option linter.unusedSimpArgs false
namespace Go.Proofs.Ytbhainkcdkgbbaa.Pure
open Go.RowKit Go.Proofs.Ytbhainkcdkgbbaa.P Go.Proofs.Ytbhainkcdkgbbaa.Vp Go.Proofs.YtbhainkcdkgbbaaW.PrintWords Go.Proofs.YtbhainkcdkgbbaaW.PrintLast Go.Proofs.YtbhainkcdkgbbaaW.PrintMore
theorem cuts_more (r : List Pa) (hz : (encFrom ⟨#[]⟩ r).length ≤ 40000) (k : Nat) (hk : 300000 < k) : block_Read.f k ((⟨(encFrom ⟨#[]⟩ r).toArray⟩ : ByteArray) ++ (⟨#[0]⟩ : ByteArray)) = some ([], 8) := by
  apply read_not _ k hk
  rintro ⟨l, h0, h1, h2⟩
  rw [ba_app, ba_mk] at h1
  have hz0 : (⟨#[]⟩ : ByteArray).size = 0 := rfl
  have hl : (encFrom ⟨#[]⟩ l).length = (encFrom ⟨#[]⟩ r).length + 1 := by rw [← h1, List.length_append]; rfl
  obtain ⟨suf, e1, e2⟩ := enc_pre r ⟨#[]⟩ l _ (by omega) h1.symm
  cases suf with
  | nil => exact absurd (congrArg List.length e2) (by simp [encFrom])
  | cons p suf =>
    have h3 := encA_pos (lastOf ⟨#[]⟩ r) p.f0 p.f1
    have := congrArg List.length e2
    simp only [encFrom, List.length_append] at this
    have h4 : ([0] : List UInt8).length = 1 := rfl
    omega
theorem cuts_j1 (a1 : Int) (h1 : -9223372036854775808 ≤ a1 ∧ a1 ≤ 9223372036854775807) (r : List Pa) (hok : okFrom false ⟨#[]⟩ r) (hlim : Lim r) (hl : r.length ≤ 1000) (hz : (encFrom ⟨#[]⟩ r).length ≤ 40000) (hpos : 0 < (encFrom ⟨#[]⟩ r).length) (k : Nat) (hk : 300000 < k) :
    moultlaw8_BlockCuts.j1 (k + 1) a1 r ⟨(encFrom ⟨#[]⟩ r).toArray⟩ false = some true := by
  have hsz : (⟨(encFrom ⟨#[]⟩ r).toArray⟩ : ByteArray).size = (encFrom ⟨#[]⟩ r).length := by rw [← ba_sz, ba_mk]
  obtain ⟨p, hpk, hp0, hp1⟩ := pick_f a1 ((⟨(encFrom ⟨#[]⟩ r).toArray⟩ : ByteArray).size : Int) h1 (by omega)
  rw [moultlaw8_BlockCuts.j1, if_neg (by decide), hpk, Option.bind_some, if_pos hp0, if_pos (by omega)]
  obtain ⟨j, rfl⟩ : ∃ j : Nat, p = j := ⟨p.toNat, by omega⟩
  rw [Int.toNat_natCast]
  have hdat : ((⟨(encFrom ⟨#[]⟩ r).toArray⟩ : ByteArray).extract 0 j).data.toList = (encFrom ⟨#[]⟩ r).take j := by rw [ba_ext_l, ba_mk, List.drop_zero, Nat.sub_zero]
  rcases read_f ((⟨(encFrom ⟨#[]⟩ r).toArray⟩ : ByteArray).extract 0 j) k hk with ⟨m, g0, g1, g2, g3⟩ | ⟨_, g3⟩
  · rw [g3, Option.bind_some, if_pos (by omega), cuts_more r hz k hk, Option.bind_some]
    dsimp only
    rw [hdat] at g1
    have hz0 : (⟨#[]⟩ : ByteArray).size = 0 := rfl
    obtain ⟨suf, e1, e2⟩ := enc_pre m ⟨#[]⟩ r ((encFrom ⟨#[]⟩ r).drop j) (by omega) (by rw [← g1, List.take_append_drop])
    have hmlen : (encFrom ⟨#[]⟩ m).length = j := by rw [← g1, List.length_take]; omega
    have hsuf : suf ≠ [] := by
      intro e
      rw [e] at e2
      have := congrArg List.length e2
      rw [List.length_drop] at this
      simp only [encFrom, List.length_nil] at this
      omega
    have hlt : m.length < r.length := by
      rw [e1, List.length_append]
      have := List.length_pos_iff.2 hsuf
      omega
    have hmn : mn (m.length : Int) (r.length : Int) = (m.length : Int) := by unfold mn; rw [if_neg (by omega)]
    have htk : r.take m.length = m := by rw [e1, List.take_left]
    have hlm : Lim m := ⟨by omega, fun q hq => hlim.2 q (by rw [e1]; exact List.mem_append_left _ hq)⟩
    rw [if_pos rfl, hmn, if_pos (by omega), if_pos (by omega), Int.toNat_natCast, htk, build_f hlm.small, Option.bind_some, build_ok g2 (by omega), if_pos (by omega), if_pos (by omega), if_pos (by omega), same_f m (by omega) k (by omega), Option.bind_some, if_pos rfl]
    dsimp only
    rw [if_pos (by rw [← ba_sz, ba_mk, hmlen])]
    rfl
  · rw [g3, Option.bind_some, if_pos (by omega), cuts_more r hz k hk, Option.bind_some]
    rfl
theorem BlockCuts : moultlaw8_BlockCuts.Pure := by
  intro l0 a1 w0 w1 w2
  have h64 := i64_wf w2
  refine ⟨400001 + 1, ?_⟩
  unfold moultlaw8_BlockCuts.f
  rw [shown_k _ (by omega), Option.bind_some]
  have skip : moultlaw8_BlockCuts.j0 (400001 + 1) l0 a1 true true = some true := by rw [moultlaw8_BlockCuts.j0, if_pos rfl]
  rcases as_f l0 (400001 + 1) (by omega) with ⟨h1, h2, h3⟩ | ⟨m, h1⟩
  · rw [h1, Option.bind_some, if_pos rfl]
    obtain ⟨r, hr1, hr2, hr3, hr4⟩ := rising_f l0 (by omega) 400001 (by omega)
    have hlim : Lim r := ⟨by omega, fun p hp => by have := h3 p (hr3 p hp); omega⟩
    dsimp only [Bool.not_true]
    rw [moultlaw8_BlockCuts.j0, if_neg (by decide), hr1, Option.bind_some, build_f hlim.small, Option.bind_some]
    have skip2 : ∀ t, moultlaw8_BlockCuts.j1 (400000 + 1) a1 r t true = some true := fun t => by rw [moultlaw8_BlockCuts.j1, if_pos rfl]
    by_cases c3 : (encFrom ⟨#[]⟩ r).length ≤ 40000
    · rw [build_ok hr2 c3, if_pos rfl]
      dsimp only
      have hsz : (⟨(encFrom ⟨#[]⟩ r).toArray⟩ : ByteArray).size = (encFrom ⟨#[]⟩ r).length := by rw [← ba_sz, ba_mk]
      rw [hsz]
      by_cases c4 : (encFrom ⟨#[]⟩ r).length = 0
      · rw [beq_iff_eq.2 (by omega : ((encFrom ⟨#[]⟩ r).length : Int) = 0)]; exact skip2 _
      · rw [beq_eq_false_iff_ne.2 (by omega : ((encFrom ⟨#[]⟩ r).length : Int) ≠ 0)]
        exact cuts_j1 a1 h64 r hr2 hlim (by omega) c3 (by omega) 400000 (by omega)
    · rw [build_long hr2 (by omega), if_neg (by decide)]; exact skip2 _
  · rw [h1, Option.bind_some, if_pos rfl]; exact skip
end Go.Proofs.Ytbhainkcdkgbbaa.Pure

end
