/- Chapter 5 (check), plain: texts that differ in one byte have other sums; sums of texts laid over one another. -/
import Derived.Test.YtkdmjnmilmmnjaaVb
import Derived.Test.YtkdmjnmilmmnjaaCp
set_option linter.unusedVariables false
set_option linter.unusedSimpArgs false
namespace Go.Proofs.Ytkdmjnmilmmnjaa.Ps
open Go.RowKit Go.Proofs.Ytkdmjnmilmmnjaa.Vp Go.Proofs.Ytkdmjnmilmmnjaa.Cp Go.Proofs.YtkdmjnmilmmnjaaW.PrintWords Go.Proofs.YtkdmjnmilmmnjaaW.PrintLast Go.Proofs.YtkdmjnmilmmnjaaW.PrintMore
theorem byteN_list (s : ByteArray) (i : Nat) : byteN s i = (s.data.toList.getD i 0).toNat := by
  unfold byteN
  rw [bt_eq]
  unfold bytesOf
  rw [List.getElem?_map, List.getD_eq_getElem?_getD]
  cases h : s.data.toList[i]? with
  | none => rfl
  | some x => simp
theorem xor_inj {r a b : Nat} (h : r ^^^ a = r ^^^ b) : a = b := by
  have := congrArg (fun z => r ^^^ z) h
  simpa [← Nat.xor_assoc] using this
/-- Texts of one length that differ in one byte have other sums. -/
theorem sumN_one (s t : ByteArray) (hs : s.size = t.size) (k : Nat) (hk : k < s.size) (h : ∀ i, i < s.size → i ≠ k → byteN s i = byteN t i) (hne : byteN s k ≠ byteN t k) : sumN s ≠ sumN t := by
  unfold sumN
  intro he
  have := xor_inj he
  rw [← hs] at this
  exact regF_one (byteN s) (byteN t) (byteN_lt s) (byteN_lt t) s.size k hk h hne _ (by decide) this
theorem ext_bytes {s t : ByteArray} (hs : s.size = t.size) (h : ∀ i, i < s.size → byteN s i = byteN t i) : s = t := by
  apply ByteArray.ext
  apply Array.toList_inj.1
  apply List.ext_getElem
  · rw [data_length, data_length]; exact hs
  · intro i h1 h2
    have := h i (by rw [← data_length]; exact h1)
    rw [byteN_list, byteN_list, List.getD_eq_getElem?_getD, List.getD_eq_getElem?_getD, List.getElem?_eq_getElem h1, List.getElem?_eq_getElem h2] at this
    exact UInt8.toNat_inj.1 this
theorem sumN_three (a b c : ByteArray) (s t u v : ByteArray) (n : Nat) (hs : s.size = n) (ht : t.size = n) (hu : u.size = n) (hv : v.size = n)
    (h : ∀ i, i < n → byteN v i = byteN s i ^^^ byteN t i ^^^ byteN u i) : sumN v = sumN s ^^^ sumN t ^^^ sumN u := by
  unfold sumN
  rw [hs, ht, hu, hv]
  have e : regF (byteN v) 4294967295 n = regF (fun i => byteN s i ^^^ byteN t i ^^^ byteN u i) (4294967295 ^^^ 4294967295 ^^^ 4294967295) n := by
    rw [show (4294967295 ^^^ 4294967295 ^^^ 4294967295 : Nat) = 4294967295 by decide]
    exact regF_congr _ _ h
  rw [e, regF_xor (fun i => byteN s i ^^^ byteN t i) (byteN u) (4294967295 ^^^ 4294967295) 4294967295 n, regF_xor (byteN s) (byteN t) 4294967295 4294967295 n]
  generalize regF (byteN s) 4294967295 n = x
  generalize regF (byteN t) 4294967295 n = y
  generalize regF (byteN u) 4294967295 n = z
  generalize 4294967295 = r
  apply Nat.eq_of_testBit_eq
  intro i
  simp only [Nat.testBit_xor]
  cases r.testBit i <;> cases x.testBit i <;> cases y.testBit i <;> cases z.testBit i <;> rfl
theorem size_mk (l : List UInt8) : (⟨l.toArray⟩ : ByteArray).size = l.length := by simp [ByteArray.size]
theorem byteN_mk (l : List UInt8) (i : Nat) : byteN ⟨l.toArray⟩ i = (l.getD i 0).toNat := by rw [byteN_list]
theorem byteN_set (s : ByteArray) (k i : Nat) (x : UInt8) (hk : k < s.size) : byteN ⟨(s.data.toList.set k x).toArray⟩ i = if i = k then x.toNat else byteN s i := by
  rw [byteN_mk, byteN_list, List.getD_eq_getElem?_getD, List.getD_eq_getElem?_getD, List.getElem?_set]
  by_cases e : k = i
  · subst e
    rw [if_pos rfl, if_pos (by rw [data_length]; exact hk), if_pos rfl]; rfl
  · rw [if_neg e, if_neg (fun h => e h.symm)]
theorem byteN_extract (s : ByteArray) (n i : Nat) (h : i < n) : byteN (s.extract 0 n) i = byteN s i := by
  unfold byteN
  rw [bt_eq, bt_eq, bytesOf_take, List.getElem?_take, if_pos h]
end Go.Proofs.Ytkdmjnmilmmnjaa.Ps
