/- CheckTurns of chapter 5: with one bit of its payload or its sum turned a frame is refused, by its sum. For every input. -/
import Derived.Test.YtkdmjnmilmmnjaaDCheckTurns
import Derived.Test.YtkdmjnmilmmnjaaPk
import Derived.Test.YtkdmjnmilmmnjaaPs
set_option linter.unusedVariables false
set_option linter.unusedSimpArgs false
namespace Go.Proofs.Ytkdmjnmilmmnjaa.Pure
open Go.RowKit Go.Proofs.Ytkdmjnmilmmnjaa.P Go.Proofs.Ytkdmjnmilmmnjaa.Vp Go.Proofs.Ytkdmjnmilmmnjaa.Cp Go.Proofs.Ytkdmjnmilmmnjaa.Ps Go.Proofs.YtkdmjnmilmmnjaaW.PrintWords Go.Proofs.YtkdmjnmilmmnjaaW.PrintLast Go.Proofs.YtkdmjnmilmmnjaaW.PrintMore
theorem turn_data (f : ByteArray) (k q : Nat) : (turnS f k q).data.toList = f.data.toList.set k (UInt8.ofNat ((f.data.toList.getD k 0).toNat ^^^ 2 ^ q)) := by simp [turnS]
theorem turn_sz (f : ByteArray) (k q : Nat) : (turnS f k q).size = f.size := by rw [← data_length, turn_data, List.length_set, data_length]
theorem ba_ext {s t : ByteArray} (h : s.data.toList = t.data.toList) : s = t := ByteArray.ext (Array.toList_inj.1 h)
theorem turn_right (a b : ByteArray) (k q : Nat) : turnS (a ++ b) (a.size + k) q = a ++ turnS b k q := by
  apply ba_ext
  rw [turn_data, data_app, data_app, turn_data, List.set_append, if_neg (by rw [data_length]; omega), data_length, Nat.add_sub_cancel_left]
  rw [List.getD_eq_getElem?_getD, List.getD_eq_getElem?_getD, List.getElem?_append_right (by rw [data_length]; omega), data_length, Nat.add_sub_cancel_left]
theorem turn_left (a b : ByteArray) (k q : Nat) (h : k < a.size) : turnS (a ++ b) k q = turnS a k q ++ b := by
  apply ba_ext
  rw [turn_data, data_app, data_app, turn_data, List.set_append, if_pos (by rw [data_length]; exact h)]
  rw [List.getD_eq_getElem?_getD, List.getD_eq_getElem?_getD, List.getElem?_append_left (by rw [data_length]; exact h)]
theorem turn_byte (f : ByteArray) (k q : Nat) (hk : k < f.size) (hq : q < 8) : byteN (turnS f k q) k ≠ byteN f k := by
  unfold turnS
  rw [byteN_set _ _ _ _ hk, if_pos rfl, ← byteN_list]
  have h1 := byteN_lt f k
  have h2 : 2 ^ q < 256 := Nat.pow_lt_pow_right (by decide) hq (n := 8)
  have h3 : byteN f k ^^^ 2 ^ q < 2 ^ 8 := Nat.xor_lt_two_pow h1 h2
  rw [UInt8.toNat_ofNat', Nat.mod_eq_of_lt h3]
  intro e
  have e2 : byteN f k ^^^ (byteN f k ^^^ 2 ^ q) = byteN f k ^^^ byteN f k := by rw [e]
  rw [← Nat.xor_assoc, Nat.xor_self, Nat.zero_xor] at e2
  have := Nat.two_pow_pos q
  omega
theorem turn_other (f : ByteArray) (k q i : Nat) (hk : k < f.size) (hi : i ≠ k) : byteN (turnS f k q) i = byteN f i := by
  unfold turnS
  rw [byteN_set _ _ _ _ hk, if_neg hi]
theorem turn_ne (f : ByteArray) (k q : Nat) (hk : k < f.size) (hq : q < 8) : turnS f k q ≠ f := fun e => turn_byte f k q hk hq (by rw [e])
theorem four_inj {a b : Nat} (ha : a < 4294967296) (hb : b < 4294967296) (h : fourP a = fourP b) : a = b := by
  have byt : ∀ n : Nat, Byt ([(n : Int) / 16777216 % 256, (n : Int) / 65536 % 256, (n : Int) / 256 % 256, (n : Int) % 256] : List Int) := by
    intro n x hx
    simp only [List.mem_cons, List.not_mem_nil, or_false] at hx
    rcases hx with h | h | h | h <;> omega
  have h2 := congrArg bytesOf h
  unfold fourP at h2
  rw [bytesOf_strOf (byt a), bytesOf_strOf (byt b)] at h2
  simp only [List.cons.injEq, and_true] at h2
  obtain ⟨e1, e2, e3, e4⟩ := h2
  omega
/-- A frame's text and sum, one bit of them turned, behind the length. -/
theorem unfP_turn (s : ByteArray) (hs : s.size ≤ 40000) (u v : ByteArray) (hu : u.size = s.size) (hv : v.size = 4) (hne : v ≠ fourP (sumN u)) : unfP (putP (s.size : Int) ++ (u ++ v)) = (⟨#[]⟩, ⟨#[]⟩, 9) := by
  unfold unfP
  rw [takeP_put _ (by omega) (by omega)]
  have e1 : (u ++ v).extract 0 s.size = u := by
    apply bytesOf_inj; rw [bytesOf_take, bytesOf_append, List.take_append_of_le_length (by rw [size_bytesOf]; omega), List.take_of_length_le (by rw [size_bytesOf]; omega)]
  have e2 : (u ++ v).extract s.size (s.size + 4) = v := by
    have e3 : (u ++ v).extract s.size (s.size + 4) = (u ++ v).extract s.size (u ++ v).size := by rw [ByteArray.size_append, hu, hv]
    rw [e3]
    apply bytesOf_inj; rw [bytesOf_drop, bytesOf_append, List.drop_append_of_le_length (by rw [size_bytesOf]; omega), List.drop_of_length_le (by rw [size_bytesOf]; omega), List.nil_append]
  dsimp only
  rw [if_pos rfl, if_neg (by omega), if_neg (by rw [ByteArray.size_append]; omega), Int.toNat_natCast, e1, e2, if_neg hne]
theorem unfP_turned (s : ByteArray) (hs : s.size ≤ 40000) (p q : Nat) (hp : p < s.size + 4) (hq : q < 8) : unfP (turnS (frameP s) ((putP (s.size : Int)).size + p) q) = (⟨#[]⟩, ⟨#[]⟩, 9) := by
  have e : frameP s = putP (s.size : Int) ++ (s ++ fourP (sumN s)) := by rw [frameP_eq]; apply bytesOf_inj; simp [bytesOf_append]
  rw [e, turn_right]
  by_cases c : p < s.size
  · rw [turn_left _ _ _ _ c]
    refine unfP_turn s hs _ _ (turn_sz _ _ _) (fourP_size _) (fun h => ?_)
    have := four_inj (sumN_lt _) (sumN_lt _) h
    refine sumN_one (turnS s p q) s (turn_sz _ _ _) p (by rw [turn_sz]; exact c) (fun i _ hi => turn_other s p q i c hi) (turn_byte s p q c hq) this.symm
  · obtain ⟨j, rfl⟩ : ∃ j, p = s.size + j := ⟨p - s.size, by omega⟩
    rw [turn_right]
    exact unfP_turn s hs _ _ rfl (by rw [turn_sz, fourP_size]) (turn_ne _ j q (by rw [fourP_size]; omega) hq)
theorem CheckTurns : moultlaw5_CheckTurns.Pure := by
  intro a0 a1 a2 w0 w1 w2
  have h1 := i64_wf w1
  have h2 := i64_wf w2
  refine ⟨100000, ?_⟩
  unfold moultlaw5_CheckTurns.f
  rw [shown_k _ (by omega), Option.bind_some, if_pos rfl]
  by_cases c : (a0.size : Int) > 2000
  · rw [if_pos c]
  obtain ⟨p, hpk, hp0, hp1⟩ := pick_f a1 ((a0.size : Int) + 4) h1 (by omega)
  obtain ⟨q, hqk, hq0, hq1⟩ := pick_f a2 8 h2 (by omega)
  rw [if_neg c, hpk, Option.bind_some, hqk, Option.bind_some, if_pos ⟨hp0, hp1, hq0, hq1⟩]
  have hsz := frameP_size a0
  have e : (frameP a0).size - a0.size - 4 + p.toNat = (putP (a0.size : Int)).size + p.toNat := by omega
  have hp9 := putP_size (a0.size : Int)
  rw [e, unf_f _ (by rw [turn_sz]; omega) _ (by omega), Option.bind_some, unfP_turned a0 (by omega) _ _ (by omega) (by omega)]
  rw [decide_eq_true ((nil_iff _).2 rfl)]
  rfl
end Go.Proofs.Ytkdmjnmilmmnjaa.Pure
