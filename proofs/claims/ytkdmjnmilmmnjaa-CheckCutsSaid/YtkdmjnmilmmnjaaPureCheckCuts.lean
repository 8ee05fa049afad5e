import Derived.Test.YtkdmjnmilmmnjaaPx8
import Derived.Test.YtkdmjnmilmmnjaaPk
set_option linter.unusedVariables false
set_option linter.unusedSimpArgs false
namespace Go.Proofs.Ytkdmjnmilmmnjaa.Pure
open Go.RowKit Go.Proofs.Ytkdmjnmilmmnjaa.P Go.Proofs.Ytkdmjnmilmmnjaa.Vp Go.Proofs.Ytkdmjnmilmmnjaa.Cp Go.Proofs.YtkdmjnmilmmnjaaW.PrintWords Go.Proofs.YtkdmjnmilmmnjaaW.PrintLast Go.Proofs.YtkdmjnmilmmnjaaW.PrintMore
theorem takeP_more (n : Int) (h0 : 0 ≤ n) (h1 : n < 18446744073709551616) (s : ByteArray) (i : Nat) (hi : (putP n).size ≤ i) : takeP ((putP n ++ s).extract 0 i) = (n, s.extract 0 (i - (putP n).size), true) := by
  rw [show (putP n ++ s).extract 0 i = putP n ++ s.extract 0 (i - (putP n).size) from ?_]
  · exact takeP_put n h0 h1 _
  · apply bytesOf_inj
    rw [bytesOf_take, bytesOf_append, bytesOf_append, bytesOf_take, List.take_append, size_bytesOf]
    rw [List.take_of_length_le (by rw [size_bytesOf]; exact hi)]
theorem unfP_cut (s : ByteArray) (hs : s.size ≤ 40000) (i : Nat) (hi : i < (frameP s).size) : unfP ((frameP s).extract 0 i) = (⟨#[]⟩, ⟨#[]⟩, 8) := by
  have hsz := frameP_size s
  have e : frameP s = putP (s.size : Int) ++ (s ++ fourP (sumN s)) := by rw [frameP_eq]; apply bytesOf_inj; simp [bytesOf_append]
  unfold unfP
  by_cases c : i < (putP (s.size : Int)).size
  · have e2 : (frameP s).extract 0 i = (putP (s.size : Int)).extract 0 i := by
      rw [e]; apply bytesOf_inj
      rw [bytesOf_take, bytesOf_take, bytesOf_append, List.take_append_of_le_length (by rw [size_bytesOf]; omega)]
    rw [e2, takeP_cut _ (by omega) (by omega) i c]
    simp
  · rw [e, takeP_more _ (by omega) (by omega) _ i (by omega)]
    dsimp only
    rw [if_pos rfl, if_neg (by omega), if_pos (by rw [ByteArray.size_extract, ByteArray.size_append, fourP_size]; omega)]
theorem CheckCuts : moultlaw5_CheckCuts.Pure := by
  intro a0 a1 w0 w1
  have h1 := i64_wf w1
  refine ⟨100000, ?_⟩
  unfold moultlaw5_CheckCuts.f
  rw [shown_k _ (by omega), Option.bind_some, if_pos rfl]
  rw [show 100000 = 99999 + 1 from rfl, moultlaw5_CheckCuts.j0]
  by_cases c : (a0.size : Int) > 2000
  · rw [decide_eq_true c, if_pos rfl]
  · rw [decide_eq_false c, if_neg (by decide), frame_f, if_neg (by omega), Option.bind_some]
    have hsz := frameP_size a0
    have hp := putL_len (a0.size : Int)
    have e : (putL (a0.size : Int)).length = (putP (a0.size : Int)).size := by rw [← putP_bytes (by omega), size_bytesOf]
    dsimp only
    rw [if_neg (by omega)]
    obtain ⟨p, hpk, hp0, hp1⟩ := pick_f a1 ((frameP a0).size : Int) h1 (by omega)
    rw [hpk, Option.bind_some, if_pos hp0, if_pos (by omega), unf_f _ (by rw [ByteArray.size_extract]; omega) _ (by omega), Option.bind_some, unfP_cut a0 (by omega) _ (by omega)]
    rw [if_pos ((nil_iff _).2 rfl), if_pos ((nil_iff _).2 rfl)]
    rfl
end Go.Proofs.Ytkdmjnmilmmnjaa.Pure
