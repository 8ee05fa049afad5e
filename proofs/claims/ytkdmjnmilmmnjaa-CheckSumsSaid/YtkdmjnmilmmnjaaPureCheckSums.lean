/- CheckSums of chapter 5: texts that differ in one byte have other sums; three of one length, laid over one another, have the three sums laid over one another. For every input. -/
import Derived.Test.YtkdmjnmilmmnjaaDCheckSums
import Derived.Test.YtkdmjnmilmmnjaaPk
import Derived.Test.YtkdmjnmilmmnjaaPs
set_option linter.unusedVariables false
set_option linter.unusedSimpArgs false
namespace Go.Proofs.Ytkdmjnmilmmnjaa.Pure
open Go.RowKit Go.Proofs.Ytkdmjnmilmmnjaa.P Go.Proofs.Ytkdmjnmilmmnjaa.Vp Go.Proofs.Ytkdmjnmilmmnjaa.Cp Go.Proofs.Ytkdmjnmilmmnjaa.Ps Go.Proofs.YtkdmjnmilmmnjaaW.PrintWords Go.Proofs.YtkdmjnmilmmnjaaW.PrintLast Go.Proofs.YtkdmjnmilmmnjaaW.PrintMore
theorem one_law (s : ByteArray) (k : Nat) (v : Int) (hk : k < s.size) : (((sumN (setS s k v) : Int) == (sumN s : Int)) == (v % 256 == (byteN s k : Int))) = true := by
  have hz : (setS s k v).size = s.size := by unfold setS; rw [size_mk, List.length_set, data_length]
  have hx : (UInt8.ofNat (v % 256).toNat).toNat = (v % 256).toNat := by
    have h1 : (v % 256).toNat < 256 := by omega
    rw [UInt8.toNat_ofNat', Nat.mod_eq_of_lt (by simpa using h1)]
  have hb : ∀ i, byteN (setS s k v) i = if i = k then (v % 256).toNat else byteN s i := by
    intro i; unfold setS; rw [byteN_set _ _ _ _ hk, hx]
  by_cases e : v % 256 = (byteN s k : Int)
  · have he : setS s k v = s := ext_bytes hz (fun i _ => by
      rw [hb i]
      split
      · rename_i h; subst h; omega
      · rfl)
    rw [he, beq_iff_eq.2 e]; simp
  · have hne : sumN (setS s k v) ≠ sumN s := sumN_one _ _ hz k (by rw [hz]; exact hk) (fun i _ hi => by rw [hb i, if_neg hi]) (by rw [hb k, if_pos rfl]; omega)
    rw [beq_eq_false_iff_ne.2 e, beq_eq_false_iff_ne.2 (by omega : (sumN (setS s k v) : Int) ≠ (sumN s : Int))]; rfl
theorem byteN_xorL (a b c : ByteArray) (n i : Nat) (h : i < n) : byteN (strOfNums (xorL a b c n)) i = byteN a i ^^^ byteN b i ^^^ byteN c i := by
  have hb : Byt (xorL a b c n) := by
    intro x hx
    unfold xorL at hx
    rw [List.mem_map] at hx
    obtain ⟨j, _, rfl⟩ := hx
    have : byteN a j ^^^ byteN b j ^^^ byteN c j < 2 ^ 8 := Nat.xor_lt_two_pow (Nat.xor_lt_two_pow (byteN_lt a j) (byteN_lt b j)) (byteN_lt c j)
    omega
  rw [byteN, bt_eq, bytesOf_strOf hb]
  unfold xorL
  rw [List.getElem?_map, List.getElem?_range h]
  simp only [Option.map_some, Option.getD_some, Int.toNat_natCast]
theorem CheckSums : moultlaw5_CheckSums.Pure := by
  intro a0 a1 a2 a3 a4 w0 w1 w2 w3 w4
  have h3 := i64_wf w3
  refine ⟨100000, ?_⟩
  unfold moultlaw5_CheckSums.f
  rw [shown_k _ (by omega), Option.bind_some, if_pos rfl]
  obtain ⟨n, hn⟩ : ∃ n, mnN a0.size (mnN a1.size a2.size) = n := ⟨_, rfl⟩
  have hle : n ≤ a0.size ∧ n ≤ a1.size ∧ n ≤ a2.size := by rw [← hn]; unfold mnN; split <;> split <;> omega
  rw [hn]
  by_cases c : n > 2000
  · rw [if_pos c]
  by_cases z : n = 0
  · rw [if_neg c, if_pos z]
  obtain ⟨p, hpk, hp0, hp1⟩ := pick_f a3 (n : Int) h3 (by omega)
  rw [if_neg c, if_neg z, hpk, Option.bind_some, if_pos ⟨hp0, hp1⟩]
  obtain ⟨k, rfl⟩ : ∃ k : Nat, p = k := ⟨p.toNat, by omega⟩
  rw [Int.toNat_natCast]
  have hs : ∀ a : ByteArray, n ≤ a.size → (a.extract 0 n).size = n := fun a h => by rw [ByteArray.size_extract]; omega
  have h1 := one_law (a0.extract 0 n) k a4 (by rw [hs _ hle.1]; omega)
  rw [byteN_extract _ _ _ (by omega)] at h1
  have h2 := sumN_three a0 a1 a2 (a0.extract 0 n) (a1.extract 0 n) (a2.extract 0 n) (strOfNums (xorL a0 a1 a2 n)) n (hs _ hle.1) (hs _ hle.2.1) (hs _ hle.2.2) (by rw [strOfNums_size]; simp [xorL]) (fun i hi => by
    rw [byteN_xorL _ _ _ _ _ hi, byteN_extract _ _ _ hi, byteN_extract _ _ _ hi, byteN_extract _ _ _ hi])
  rw [byteN_eq, h1, u32_xor_nat _ _ (sumN_lt _) (sumN_lt _), u32_xor_nat _ _ (xor_lt (sumN_lt _) (sumN_lt _)) (sumN_lt _), h2]
  simp
end Go.Proofs.Ytkdmjnmilmmnjaa.Pure
