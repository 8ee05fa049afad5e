/- Chapter 4 (key), plain: the reference's After. -/
import Derived.Test.YtkjfifdcnlnocaaDoorKb
import Derived.Test.YtkjfifdcnlnocaaDoorPx6
import Derived.Test.YtkjfifdcnlnocaaDoorAf
set_option linter.unusedVariables false
set_option linter.unusedSimpArgs false
namespace Go.Proofs.YtkjfifdcnlnocaaDoor.Pure
open Go.RowKit Go.Proofs.YtkjfifdcnlnocaaDoor.P Go.Proofs.YtkjfifdcnlnocaaDoor.Vp Go.Proofs.YtkjfifdcnlnocaaDoorW.PrintWords Go.Proofs.YtkjfifdcnlnocaaDoorW.PrintLast Go.Proofs.YtkjfifdcnlnocaaDoorW.PrintMore
theorem wrap_pred (m : Nat) (h : m < 4611686018427387904) : wrap64 ((m : Int) - 1) = (m : Int) - 1 := by unfold wrap64; omega
theorem bt_list (s : ByteArray) (m : Nat) (h : m < s.data.toList.length) : bt s (m : Int) = ((s.data.toList[m]).toNat : Int) := by
  have hl : s.data.toList.length = s.size := data_length s
  unfold bt
  rw [dif_pos (by simpa using (by omega : m < s.size))]
  rfl
theorem app_up (s : ByteArray) (m : Nat) (c : UInt8) (h : m ≤ s.size) : s.extract 0 m ++ strOfNums [((c.toNat : Int) + 1) % 256] = ⟨(s.data.toList.take m ++ [c + 1]).toArray⟩ := by
  have e1 : (s.extract 0 m).data.toList = s.data.toList.take m := by rw [Lib.extract_data]; simp
  have e2 : (strOfNums [((c.toNat : Int) + 1) % 256]).data.toList = [c + 1] := by
    have hc := c.toNat_lt
    have e : UInt8.ofNat ((c.toNat + 1) % 256) = c + 1 := by
      apply UInt8.toNat_inj.1
      rw [UInt8.toNat_add, UInt8.toNat_ofNat']; simp
    have e4 : (((c.toNat : Int) + 1) % 256).toNat = (c.toNat + 1) % 256 := by omega
    simp only [strOfNums, List.map_cons, List.map_nil]
    rw [e4, e]
  have e3 : (s.extract 0 m ++ strOfNums [((c.toNat : Int) + 1) % 256]).data.toList = s.data.toList.take m ++ [c + 1] := by
    rw [ByteArray.data_append, Array.toList_append, e1, e2]
  rw [← e3]
theorem rafter_l0 (s : ByteArray) (hs : s.size < 4611686018427387904) : ∀ (n k : Nat), n ≤ s.size → n < k → moultref4_After.l0 k s ((n : Int) - 1) = some (aftO (aftL (s.data.toList.take n))) := by
  intro n
  induction n with
  | zero =>
    intro k h0 hk
    obtain ⟨k, rfl⟩ : ∃ j, k = j + 1 := ⟨k - 1, by omega⟩
    simp [moultref4_After.l0, aftL, aftR, aftO]
  | succ m ih =>
    intro k hm hk
    obtain ⟨k, rfl⟩ : ∃ j, k = j + 1 := ⟨k - 1, by omega⟩
    have hlen : m < s.data.toList.length := by rw [data_length]; omega
    rw [show ((m + 1 : Nat) : Int) - 1 = (m : Int) by omega, List.take_succ_eq_append_getElem hlen]
    simp only [moultref4_After.l0]
    rw [if_pos (by omega), if_pos (by omega), if_pos (by omega), bt_list s m hlen]
    generalize s.data.toList[m] = c
    by_cases hc : c = 255
    · subst hc
      rw [if_pos (by decide), aftL_full, wrap_pred m (by omega)]
      exact ih k (by omega) (by omega)
    · have hn : ¬ ((c.toNat : Int) = 255) := by
        intro e
        have e2 : c.toNat = (255 : UInt8).toNat := by simp; omega
        exact hc (UInt8.toNat_inj.1 e2)
      rw [if_neg hn, if_neg (by omega), if_pos (by omega), aftL_less _ _ hc]
      simp only [Option.bind_some, Int.toNat_natCast]
      rw [if_pos (by have h1 : (strOfNums [((c.toNat : Int) + 1) % 256]).size = 1 := rfl
                     rw [h1, ByteArray.size_extract]; omega), app_up s m c (by omega)]
      rfl
theorem rafter_f (s : ByteArray) (hs : s.size < 4611686018427387904) (k : Nat) (hk : s.size < k) : moultref4_After.f k s = some (aftO (aftL s.data.toList)) := by
  unfold moultref4_After.f
  rw [wrap_pred s.size hs, rafter_l0 s hs s.size k (Nat.le_refl _) hk]
  rw [List.take_of_length_le (by rw [data_length]; exact Nat.le_refl _)]
theorem after_f (s : ByteArray) (hs : s.size ≤ 1099511627776) : key_After.f s = some (aftO (aftL s.data.toList)) := by unfold key_After.f; rw [if_pos hs]
end Go.Proofs.YtkjfifdcnlnocaaDoor.Pure
