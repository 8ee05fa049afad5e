import Derived.Test.YtkdmjnmilmmnjaaPx3
import Derived.Test.YtkdmjnmilmmnjaaPk
set_option linter.unusedVariables false
set_option linter.unusedSimpArgs false
namespace Go.Proofs.Ytkdmjnmilmmnjaa.Pure
open Go.RowKit Go.Proofs.Ytkdmjnmilmmnjaa.P Go.Proofs.Ytkdmjnmilmmnjaa.Vp Go.Proofs.Ytkdmjnmilmmnjaa.Cp Go.Proofs.YtkdmjnmilmmnjaaW.PrintWords Go.Proofs.YtkdmjnmilmmnjaaW.PrintLast Go.Proofs.YtkdmjnmilmmnjaaW.PrintMore
theorem empty_nil : ((⟨#[]⟩ : ByteArray), (10 : Int)).1.toList = ([] : List UInt8) := (nil_iff _).2 rfl
theorem frames_end (t : ByteArray) (h : ¬ (t.size : Int) > 40000) : (frameP t).size ≥ t.size + 5 := by
  rw [frameP_size]
  have := putL_len (t.size : Int)
  have e : (putL (t.size : Int)).length = (putP (t.size : Int)).size := by rw [← putP_bytes (by omega), size_bytesOf]
  omega
theorem frames_l0 (x0 : ByteArray) (x1 : Int) (hx : x0.size ≤ 3000) (h1 : -9223372036854775808 ≤ x1 ∧ x1 ≤ 9223372036854775807) : ∀ (d m k : Nat) (t : ByteArray), m + d = 20 → d < k → t.size ≤ 43000 → moultlaw5_CheckFrames.l0 k x0 x1 t (m : Int) = some true := by
  obtain ⟨p, hp, hp0, hp1⟩ := pick_f x1 20 h1 (by decide)
  intro d
  induction d with
  | zero =>
    intro m k t hm hk ht
    obtain ⟨k, rfl⟩ : ∃ j, k = j + 1 := ⟨k - 1, by omega⟩
    rw [moultlaw5_CheckFrames.l0, hp, Option.bind_some, if_neg (by omega), frame_f, Option.bind_some]
    by_cases c : (t.size : Int) > 40000
    · rw [if_pos c]
      rw [if_neg (by decide), if_pos rfl, if_pos c, empty_nil]
      rfl
    · rw [if_neg c, if_pos rfl, if_pos (by omega)]
      have := frames_end t c
      have e : wrap64 ((t.size : Int) + 5) = (t.size : Int) + 5 := by unfold wrap64; omega
      rw [e, if_pos (by dsimp only; omega)]
  | succ d ih =>
    intro m k t hm hk ht
    obtain ⟨k, rfl⟩ : ∃ j, k = j + 1 := ⟨k - 1, by omega⟩
    rw [moultlaw5_CheckFrames.l0, hp, Option.bind_some]
    by_cases c0 : (m : Int) < p
    · rw [if_pos c0]
      by_cases c : (t.size : Int) ≤ 40000
      · rw [if_pos c, if_pos (by omega), wrap_succ (by omega)]
        exact ih (m + 1) k _ (by omega) (by omega) (by rw [ByteArray.size_append]; omega)
      · rw [if_neg c, frame_f, Option.bind_some, if_pos (show (t.size : Int) > 40000 by omega), if_neg (by decide), if_pos rfl, if_pos (by omega), empty_nil]
        rfl
    · rw [if_neg c0, frame_f, Option.bind_some]
      by_cases c : (t.size : Int) > 40000
      · rw [if_pos c]
        rw [if_neg (by decide), if_pos rfl, if_pos c, empty_nil]
        rfl
      · rw [if_neg c, if_pos rfl, if_pos (by omega)]
        have := frames_end t c
        have e : wrap64 ((t.size : Int) + 5) = (t.size : Int) + 5 := by unfold wrap64; omega
        rw [e, if_pos (by dsimp only; omega)]
theorem CheckFrames : moultlaw5_CheckFrames.Pure := by
  intro a0 a1 w0 w1
  have h1 := i64_wf w1
  refine ⟨100000, ?_⟩
  unfold moultlaw5_CheckFrames.f
  rw [shown_k _ (by omega), Option.bind_some, if_pos rfl]
  rw [show 100000 = 99999 + 1 from rfl, moultlaw5_CheckFrames.j0]
  by_cases c : (a0.size : Int) > 3000
  · rw [decide_eq_true c, if_pos rfl]
  · rw [decide_eq_false c, if_neg (by decide)]
    rw [frame_f, Option.bind_some, rframe_f a0 (by omega) _ (by omega), Option.bind_some, sum_f a0 (by omega), Option.bind_some, rsum_f a0 (by omega) _ (by omega), Option.bind_some, if_pos rfl, if_pos rfl]
    rw [show 99999 = 99998 + 1 from rfl, moultlaw5_CheckFrames.j1, if_neg (by simp)]
    exact frames_l0 a0 a1 (by omega) h1 20 0 _ _ (by omega) (by omega) (by simp [ByteArray.size])
end Go.Proofs.Ytkdmjnmilmmnjaa.Pure
