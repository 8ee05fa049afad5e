/- Chapter 4 (key), plain: two texts, byte by byte. -/
import Derived.Test.YtkjfifdcnlnocaaDoorPx3
import Derived.Test.YtkjfifdcnlnocaaDoorVb
set_option linter.unusedVariables false
set_option linter.unusedSimpArgs false
namespace Go.Proofs.YtkjfifdcnlnocaaDoor.Pure
open Go.RowKit Go.Proofs.YtkjfifdcnlnocaaDoor.P Go.Proofs.YtkjfifdcnlnocaaDoor.Vp Go.Proofs.YtkjfifdcnlnocaaDoorW.PrintWords Go.Proofs.YtkjfifdcnlnocaaDoorW.PrintLast Go.Proofs.YtkjfifdcnlnocaaDoorW.PrintMore
theorem bytes_l0 (s t : ByteArray) (hs : s.size < 4611686018427387904) (ht : t.size < 4611686018427387904) : ∀ (d n k : Nat), n + d = s.size + 1 → n ≤ s.size → n ≤ t.size → 2 * d < k → moultref1_Bytes.l0 k s t (n : Int) = some (cmpL ((bytesOf s).drop n) ((bytesOf t).drop n)) := by
  intro d
  induction d with
  | zero => intro n k hn h1; omega
  | succ d ih =>
    intro n k hn h1 h2 hk
    obtain ⟨k, rfl⟩ : ∃ j, k = j + 2 := ⟨k - 2, by omega⟩
    have ls := size_bytesOf s
    have lt := size_bytesOf t
    simp only [moultref1_Bytes.l0]
    by_cases c1 : (n : Int) < (s.size : Int)
    · rw [if_pos c1]
      simp only [moultref1_Bytes.j1]
      by_cases c2 : (n : Int) < (t.size : Int)
      · rw [if_pos (by simpa using c2), if_pos (by omega), if_pos c1, if_pos c2]
        rw [bt_get s n (by omega), bt_get t n (by omega), List.drop_eq_getElem_cons (by omega), List.drop_eq_getElem_cons (l := bytesOf t) (by omega), cmpL]
        split
        · rfl
        · split
          · rfl
          · rw [wrap_succ (by omega)]
            exact ih (n + 1) k (by omega) (by omega) (by omega) (by omega)
      · rw [if_neg (by simpa using c2), if_neg (by omega), if_pos (by omega)]
        rw [List.drop_eq_getElem_cons (by omega), List.drop_of_length_le (l := bytesOf t) (by omega), cmpL]
    · rw [if_neg c1]
      simp only [moultref1_Bytes.j1]
      rw [if_neg (by decide)]
      rw [List.drop_of_length_le (l := bytesOf s) (by omega)]
      by_cases c2 : (s.size : Int) < (t.size : Int)
      · rw [if_pos c2, List.drop_eq_getElem_cons (by omega), cmpL]
      · rw [if_neg c2, if_neg (by omega), List.drop_of_length_le (by omega), cmpL]
theorem bytes_f (s t : ByteArray) (hs : s.size < 4611686018427387904) (ht : t.size < 4611686018427387904) (k : Nat) (hk : 2 * s.size + 2 < k) : moultref1_Bytes.f k s t = some (cmpL (bytesOf s) (bytesOf t)) := by
  have := bytes_l0 s t hs ht (s.size + 1) 0 k (by omega) (by omega) (by omega) (by omega)
  exact this
end Go.Proofs.YtkjfifdcnlnocaaDoor.Pure
