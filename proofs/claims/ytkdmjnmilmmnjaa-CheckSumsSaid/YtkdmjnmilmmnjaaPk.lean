/- Chapter 5 (check), plain: what the code's and the reference's functions come to. -/
import Derived.Test.YtkdmjnmilmmnjaaPx1b
import Derived.Test.YtkdmjnmilmmnjaaPx7
import Derived.Test.YtkdmjnmilmmnjaaPr
set_option linter.unusedVariables false
set_option linter.unusedSimpArgs false
namespace Go.Proofs.Ytkdmjnmilmmnjaa.Pure
open Go.RowKit Go.Proofs.Ytkdmjnmilmmnjaa.P Go.Proofs.Ytkdmjnmilmmnjaa.Vp Go.Proofs.Ytkdmjnmilmmnjaa.Cp Go.Proofs.YtkdmjnmilmmnjaaW.PrintWords Go.Proofs.YtkdmjnmilmmnjaaW.PrintLast Go.Proofs.YtkdmjnmilmmnjaaW.PrintMore
def fourP (n : Nat) : ByteArray := strOfNums (([((n : Nat) : Int) / 16777216 % 256, (n : Int) / 65536 % 256, (n : Int) / 256 % 256, (n : Int) % 256] : List Int))
theorem fourP_size (n : Nat) : (fourP n).size = 4 := by simp [fourP, strOfNums, ByteArray.size]
theorem frameP_eq (s : ByteArray) : frameP s = putP (s.size : Int) ++ s ++ fourP (sumN s) := rfl
theorem four_f (n : Nat) : check_four.f (n : Int) = some (fourP n) := rfl
theorem rfour_f (n : Nat) (h : n < 4294967296) : moultref5_four.f (n : Int) = some (fourP n) := by
  unfold moultref5_four.f fourP
  rw [tdiv_nn (by omega), tdiv_nn (by omega), tdiv_nn (by omega), tmod_nn (by omega)]
  rw [show (n : Int) / 16777216 % 4294967296 % 256 = (n : Int) / 16777216 % 256 by omega, show (n : Int) / 65536 % 4294967296 % 256 = (n : Int) / 65536 % 256 by omega, show (n : Int) / 256 % 4294967296 % 256 = (n : Int) / 256 % 256 by omega, show (n : Int) % 256 % 256 = (n : Int) % 256 by omega]
theorem rturn_f (n : Nat) (h : n < 4294967296) : moultref5_turn.f (n : Int) = some (trn n : Int) := by
  unfold moultref5_turn.f trn
  rw [tmod_nn (by omega), tdiv_nn (by omega)]
  rcases Nat.mod_two_eq_zero_or_one n with h2 | h2
  · rw [if_neg (by omega), if_neg (by omega)]
    congr 1; omega
  · rw [if_pos (by omega), if_pos h2]
    rw [show (n : Int) / 2 % 4294967296 = ((n / 2 : Nat) : Int) by omega, show (3988292384 : Int) = ((3988292384 : Nat) : Int) from rfl, u32_xor_nat _ _ (by omega) (by decide)]
theorem trns_comm (k n : Nat) : trns k (trn n) = trn (trns k n) := by
  induction k with
  | zero => rfl
  | succ k ih => rw [trns, ih]; rfl
theorem rsum_l1 (s : ByteArray) : ∀ (d k x : Nat) (i : Int), x < 4294967296 → d ≤ 8 → moultref5_Sum.l1 (k + d + 1) s (x : Int) i ((8 - d : Nat) : Int) = moultref5_Sum.l0 k s (trns d x : Nat) (wrap64 (i + 1))
  | 0, k, x, i, hx, hd => by rw [moultref5_Sum.l1, if_neg (by omega)]; rfl
  | d + 1, k, x, i, hx, hd => by
    rw [moultref5_Sum.l1, if_pos (by omega), rturn_f x hx, Option.bind_some]
    rw [wrap_succ (by omega), show 8 - (d + 1) + 1 = 8 - d by omega]
    rw [show k + (d + 1) = k + d + 1 by omega, rsum_l1 s d k (trn x) i (trn_lt hx) (by omega), trns_comm]
    rfl
theorem byteN_eq (s : ByteArray) (m : Nat) : bt s (m : Int) = (byteN s m : Int) := by
  have := bt_range s m
  unfold byteN; omega
theorem rsum_l0 (s : ByteArray) (hs : s.size < 4611686018427387904) : ∀ (d m k : Nat), m + d = s.size → 10 * d < k → moultref5_Sum.l0 k s (regF (byteN s) 4294967295 m : Nat) (m : Int) = some (sumN s : Int)
  | 0, m, k, hm, hk => by
    obtain ⟨k, rfl⟩ : ∃ j, k = j + 1 := ⟨k - 1, by omega⟩
    have hlt := regF_lt (byteN s) (byteN_lt s) 4294967295 (by decide) m
    rw [moultref5_Sum.l0, if_neg (by omega)]
    have hm2 : m = s.size := by omega
    subst hm2
    unfold sumN
    rw [xor_ones32 _ hlt]
    congr 1; omega
  | d + 1, m, k, hm, hk => by
    obtain ⟨k, rfl⟩ : ∃ j, k = j + 10 := ⟨k - 10, by omega⟩
    have hlt := regF_lt (byteN s) (byteN_lt s) 4294967295 (by decide) m
    have hb := byteN_lt s m
    rw [moultref5_Sum.l0, if_pos (by omega), if_pos (by omega), byteN_eq, mix_eq _ _ hlt hb]
    have h1 := rsum_l1 s 8 k (regF (byteN s) 4294967295 m ^^^ byteN s m) (m : Int) (xor_lt hlt (by omega)) (by omega)
    rw [show k + 8 + 1 = k + 9 by omega] at h1
    rw [show ((8 - 8 : Nat) : Int) = 0 from rfl] at h1
    rw [h1, wrap_succ (by omega)]
    exact rsum_l0 s hs d (m + 1) k (by omega) (by omega)
theorem rsum_f (s : ByteArray) (hs : s.size < 4611686018427387904) (k : Nat) (hk : 10 * s.size < k) : moultref5_Sum.f k s = some (sumN s : Int) := by
  unfold moultref5_Sum.f
  exact rsum_l0 s hs s.size 0 k (by omega) hk
theorem sum_f (s : ByteArray) (hs : s.size < 4611686018427387904) : check_Sum.f s = some (sumN s : Int) := by
  unfold check_Sum.f; rw [if_pos (by omega)]
theorem frame_f (s : ByteArray) : check_Frame.f s = some (if (s.size : Int) > 40000 then ((⟨#[]⟩ : ByteArray), 10) else (frameP s, 0)) := by
  unfold check_Frame.f; split <;> rfl
theorem frameP_size (s : ByteArray) : (frameP s).size = (putP (s.size : Int)).size + s.size + 4 := by rw [frameP_eq, ByteArray.size_append, ByteArray.size_append, fourP_size]
theorem rframe_f (s : ByteArray) (hs : s.size < 4611686018427387904) (k : Nat) (hk : 10 * s.size + 20 < k) : moultref5_Frame.f k s = some (if (s.size : Int) > 40000 then ((⟨#[]⟩ : ByteArray), 10) else (frameP s, 0)) := by
  unfold moultref5_Frame.f
  by_cases c : (s.size : Int) > 40000
  · rw [if_pos c, if_pos c]
  · rw [if_neg c, if_neg c, rput_f _ (by omega) (by omega) k (by omega), Option.bind_some]
    have hp := putP_size (s.size : Int)
    rw [if_pos (by omega), rsum_f s hs k (by omega), Option.bind_some, rfour_f _ (sumN_lt s), Option.bind_some, if_pos (by rw [fourP_size]; omega)]
    rfl
/-- What Unframe answers. -/
def unfP (s : ByteArray) : ByteArray × ByteArray × Int :=
  if (takeP s).2.2 = true then
    (if (takeP s).1 > 40000 then ((⟨#[]⟩ : ByteArray), (⟨#[]⟩ : ByteArray), 10) else
      if ((takeP s).2.1.size : Int) < (takeP s).1 + 4 then ((⟨#[]⟩ : ByteArray), (⟨#[]⟩ : ByteArray), 8) else
        if (takeP s).2.1.extract (takeP s).1.toNat ((takeP s).1.toNat + 4) = fourP (sumN ((takeP s).2.1.extract 0 (takeP s).1.toNat)) then
          ((takeP s).2.1.extract 0 (takeP s).1.toNat, (takeP s).2.1.extract ((takeP s).1.toNat + 4) (takeP s).2.1.size, 0)
        else ((⟨#[]⟩ : ByteArray), (⟨#[]⟩ : ByteArray), 9))
  else ((⟨#[]⟩ : ByteArray), (⟨#[]⟩ : ByteArray), 8)
theorem ext_ext (s : ByteArray) (a b c d : Nat) : (s.extract a b).extract c d = s.extract (a + c) (min (a + d) b) := ByteArray.extract_extract
theorem take_range (s : ByteArray) (h : (takeP s).2.2 = true) : 0 ≤ (takeP s).1 ∧ (takeP s).2.1.size < s.size := by
  obtain ⟨n, r, ok, ht⟩ : ∃ n r ok, takeP s = (n, r, ok) := ⟨_, _, _, rfl⟩
  rw [ht] at h ⊢
  dsimp only at h
  subst h
  obtain ⟨h0, h1, h2, h3⟩ := takeP_some ht
  have := putL_len n
  have e : (putL n).length = (putP n).size := by rw [← putP_bytes h0, size_bytesOf]
  show 0 ≤ n ∧ r.size < s.size
  exact ⟨h0, by omega⟩
theorem unf_f (s : ByteArray) (hs : s.size < 4611686018427387904) (k : Nat) (hk : 12 < k) : check_Unframe.f k s = some (unfP s) := by
  unfold check_Unframe.f unfP
  rw [take_f s hs k hk, Option.bind_some]
  by_cases c : (takeP s).2.2 = true
  · obtain ⟨h0, h1⟩ := take_range s c
    rw [if_pos c, if_pos c]
    by_cases c1 : (takeP s).1 > 40000
    · rw [if_pos c1, if_pos c1]
    · rw [if_neg c1, if_neg c1]
      have e1 : wrap64 ((wrap64 ((takeP s).1)) + 4) = (takeP s).1 + 4 := by unfold wrap64; omega
      rw [e1]
      by_cases c2 : ((takeP s).2.1.size : Int) < (takeP s).1 + 4
      · rw [if_pos c2, if_pos c2]
      · rw [if_neg c2, if_neg c2, if_pos h0, if_pos (by omega), if_pos (by omega), if_pos (by rw [ByteArray.size_extract]; omega)]
        rw [sum_f _ (by rw [ByteArray.size_extract]; omega), Option.bind_some, four_f, Option.bind_some, ext_ext, ByteArray.size_extract, ext_ext]
        rw [show min ((takeP s).1.toNat + 4) (takeP s).2.1.size = (takeP s).1.toNat + 4 by omega, show min ((takeP s).1.toNat + (min (takeP s).2.1.size (takeP s).2.1.size - (takeP s).1.toNat)) (takeP s).2.1.size = (takeP s).2.1.size by omega, Nat.add_zero]
        by_cases c3 : (takeP s).2.1.extract (takeP s).1.toNat ((takeP s).1.toNat + 4) = fourP (sumN ((takeP s).2.1.extract 0 (takeP s).1.toNat))
        · rw [if_pos c3, if_pos (toList_iff.2 c3)]
        · rw [if_neg c3, if_neg (fun h => c3 (toList_iff.1 h))]
  · rw [if_neg c, if_neg c]
theorem runf_f (s : ByteArray) (hs : s.size < 4611686018427387904) (k : Nat) (hk : 10 * s.size + 40 < k) : moultref5_Unframe.f k s = some (unfP s) := by
  unfold moultref5_Unframe.f unfP
  rw [rtake_f s hs k (by omega), Option.bind_some]
  by_cases c : (takeP s).2.2 = true
  · obtain ⟨h0, h1⟩ := take_range s c
    rw [if_pos c, if_pos c]
    by_cases c1 : (takeP s).1 > 40000
    · rw [if_pos c1, if_pos c1]
    · rw [if_neg c1, if_neg c1]
      have e0 : wrap64 ((takeP s).1) = (takeP s).1 := by unfold wrap64; omega
      have e1 : wrap64 ((takeP s).1 + 4) = (takeP s).1 + 4 := by unfold wrap64; omega
      rw [e0, e1]
      by_cases c2 : ((takeP s).2.1.size : Int) < (takeP s).1 + 4
      · rw [if_pos c2, if_pos c2]
      · rw [if_neg c2, if_neg c2, if_pos h0, if_pos (by omega)]
        have hsz : ((takeP s).2.1.extract 0 (takeP s).1.toNat).size ≤ s.size := by rw [ByteArray.size_extract]; omega
        rw [rsum_f _ (by omega) k (by omega), Option.bind_some, rfour_f _ (sumN_lt _), Option.bind_some, if_pos (by omega), if_pos (by omega)]
        rw [show ((takeP s).1 + 4).toNat = (takeP s).1.toNat + 4 by omega]
        by_cases c3 : (takeP s).2.1.extract (takeP s).1.toNat ((takeP s).1.toNat + 4) = fourP (sumN ((takeP s).2.1.extract 0 (takeP s).1.toNat))
        · rw [if_pos c3, if_pos (toList_iff.2 c3.symm), if_pos (by omega)]
        · rw [if_neg c3, if_neg (fun h => c3 (toList_iff.1 h).symm)]
  · rw [if_neg c, if_neg c]
theorem unfP_less {s t r : ByteArray} (h : unfP s = (t, r, 0)) : t.size + r.size < s.size := by
  unfold unfP at h
  split at h
  · rename_i c
    obtain ⟨h0, h1⟩ := take_range s c
    split at h
    · simp at h
    · split at h
      · simp at h
      · split at h
        · simp only [Prod.mk.injEq, and_true] at h
          obtain ⟨rfl, rfl⟩ := h
          rw [ByteArray.size_extract, ByteArray.size_extract]; omega
        · simp at h
  · simp at h
def scanP : Nat → ByteArray → List ByteArray × ByteArray × Int
  | 0, s => ([], s, 0)
  | j + 1, s => if s.size = 0 then ([], s, 0) else if (unfP s).2.2 = 0 then ((unfP s).1 :: (scanP j (unfP s).2.1).1, (scanP j (unfP s).2.1).2) else ([], s, (unfP s).2.2)
theorem unfP_less' {s : ByteArray} (h : (unfP s).2.2 = 0) : (unfP s).1.size + (unfP s).2.1.size < s.size := unfP_less (by rw [← h])
theorem scan_l : ∀ (j : Nat) (acc : List ByteArray) (s : ByteArray), s.size < j → s.size < 4611686018427387904 → acc.length + s.size < 8796093022208 → check_Scan.l j acc s = some (acc ++ (scanP j s).1, (scanP j s).2.1, (scanP j s).2.2)
  | 0, acc, s, h, _, _ => by omega
  | j + 1, acc, s, h, hs, ha => by
    rw [check_Scan.l, scanP]
    by_cases c : s.size = 0
    · rw [if_pos ((nil_iff s).2 c), if_pos c]; simp
    · rw [if_neg (fun e => c ((nil_iff s).1 e)), if_neg c, unf_f s hs 40 (by omega), Option.bind_some]
      by_cases c1 : (unfP s).2.2 = 0
      · have hl := unfP_less' c1
        rw [if_pos c1, if_pos c1, if_pos (by omega), scan_l j _ _ (by omega) (by omega) (by rw [List.length_append, List.length_singleton]; omega)]
        simp
      · rw [if_neg c1, if_neg c1]; simp
theorem scan_f (s : ByteArray) (hs : s.size < 8796093022208) : check_Scan.f s = some ((scanP (s.size + 1) s).1, wrap64 ((s.size : Int) - ((scanP (s.size + 1) s).2.1.size : Int)), (scanP (s.size + 1) s).2.2) := by
  unfold check_Scan.f
  rw [scan_l _ [] s (by omega) (by omega) (by simpa using hs), Option.bind_some]
  simp
theorem scanP_zero : ∀ (j : Nat) (s : ByteArray), s.size < j → (scanP j s).2.2 = 0 → (scanP j s).2.1.size = 0
  | 0, s, h, _ => by omega
  | j + 1, s, h, h2 => by
    rw [scanP] at h2 ⊢
    by_cases c : s.size = 0
    · rw [if_pos c]; exact c
    · rw [if_neg c] at h2 ⊢
      by_cases c1 : (unfP s).2.2 = 0
      · have hl := unfP_less' c1
        rw [if_pos c1] at h2 ⊢
        exact scanP_zero j _ (by omega) h2
      · rw [if_neg c1] at h2; exact absurd h2 c1
theorem rscan_l (x0 : ByteArray) : ∀ (j k : Nat) (acc : List ByteArray) (s : ByteArray), s.size < j → j + 10 * s.size + 41 < k → s.size < 4611686018427387904 → acc.length + s.size < 8796093022208 → x0.size < 4611686018427387904 →
    moultref5_Scan.l0 k x0 acc s = some (acc ++ (scanP j s).1, wrap64 ((x0.size : Int) - ((scanP j s).2.1.size : Int)), (scanP j s).2.2)
  | 0, k, acc, s, h, _, _, _, _ => by omega
  | j + 1, k, acc, s, h, hk, hs, ha, hx => by
    obtain ⟨k, rfl⟩ : ∃ i, k = i + 1 := ⟨k - 1, by omega⟩
    rw [moultref5_Scan.l0, scanP]
    by_cases c : s.size = 0
    · rw [if_pos ((nil_iff s).2 c), if_pos c]
      have : wrap64 ((x0.size : Int) - (s.size : Int)) = x0.size := by rw [c]; unfold wrap64; omega
      simp [this]
    · rw [if_neg (fun e => c ((nil_iff s).1 e)), if_neg c, runf_f s hs k (by omega), Option.bind_some]
      by_cases c1 : (unfP s).2.2 = 0
      · have hl := unfP_less' c1
        rw [if_pos c1, if_pos c1, if_pos (by omega), rscan_l x0 j k _ _ (by omega) (by omega) (by omega) (by rw [List.length_append, List.length_singleton]; omega) hx]
        simp
      · rw [if_neg c1, if_neg c1]; simp
theorem rscan_f (s : ByteArray) (hs : s.size < 8796093022208) (k : Nat) (hk : 11 * s.size + 50 < k) : moultref5_Scan.f k s = some ((scanP (s.size + 1) s).1, wrap64 ((s.size : Int) - ((scanP (s.size + 1) s).2.1.size : Int)), (scanP (s.size + 1) s).2.2) := by
  unfold moultref5_Scan.f
  rw [rscan_l s (s.size + 1) k [] s (by omega) (by omega) (by omega) (by simpa using hs) (by omega)]
  simp
theorem same_l0 (l : List ByteArray) (hl : l.length < 4611686018427387904) : ∀ (d m k : Nat), m + d = l.length → d < k → moultlaw5_same.l0 k l l (m : Int) = some true
  | 0, m, k, hm, hk => by
    obtain ⟨k, rfl⟩ : ∃ j, k = j + 1 := ⟨k - 1, by omega⟩
    rw [moultlaw5_same.l0, if_neg (by omega)]
  | d + 1, m, k, hm, hk => by
    obtain ⟨k, rfl⟩ : ∃ j, k = j + 1 := ⟨k - 1, by omega⟩
    rw [moultlaw5_same.l0, if_pos (by omega), if_pos (by omega), if_pos (by omega), if_pos rfl, wrap_succ (by omega)]
    exact same_l0 l hl d (m + 1) k (by omega) (by omega)
theorem same_f (l : List ByteArray) (hl : l.length < 4611686018427387904) (k : Nat) (hk : l.length < k) : moultlaw5_same.f k l l = some true := by
  unfold moultlaw5_same.f
  rw [if_pos rfl]
  exact same_l0 l hl l.length 0 k (by omega) hk
theorem scanP_len : ∀ (j : Nat) (s : ByteArray), s.size < j → (scanP j s).1.length ≤ s.size ∧ (scanP j s).2.1.size ≤ s.size
  | 0, s, h => by omega
  | j + 1, s, h => by
    rw [scanP]
    by_cases c : s.size = 0
    · rw [if_pos c]; simp
    · rw [if_neg c]
      by_cases c1 : (unfP s).2.2 = 0
      · have hl := unfP_less' c1
        have := scanP_len j (unfP s).2.1 (by omega)
        rw [if_pos c1]
        simp only [List.length_cons]
        omega
      · rw [if_neg c1]; simp
theorem shown_f : moultlaw5_shown.f 40 = some true := by decide +kernel
theorem shown_le (k : Nat) : moultlaw5_shown.f (k + 40) = some true := by
  induction k with
  | zero => rw [Nat.zero_add]; exact shown_f
  | succ k ih => rw [Nat.add_right_comm]; exact moultlaw5_shown.mono _ _ ih
theorem shown_k (k : Nat) (h : 40 ≤ k) : moultlaw5_shown.f k = some true := by
  have := shown_le (k - 40)
  rwa [show k - 40 + 40 = k by omega] at this
theorem pick_f (c n : Int) (hc : -9223372036854775808 ≤ c ∧ c ≤ 9223372036854775807) (hn : 0 < n) : ∃ p, moultlaw5_pick.f c n = some p ∧ 0 ≤ p ∧ p < n := by
  unfold moultlaw5_pick.f
  split
  · rw [if_neg (by omega)]
    have e1 : wrap64 (c + 1) = c + 1 := by unfold wrap64; omega
    have e2 : wrap64 (-(c + 1)) = -(c + 1) := by unfold wrap64; omega
    rw [e1, e2, tmod_nn (by omega)]
    exact ⟨_, rfl, Int.emod_nonneg _ (by omega), Int.emod_lt_of_pos _ hn⟩
  · rw [if_neg (by omega), tmod_nn (by omega)]
    exact ⟨_, rfl, Int.emod_nonneg _ (by omega), Int.emod_lt_of_pos _ hn⟩
theorem i64_wf {n : Int} (h : (Lit.int .i64 n).wf = true) : -9223372036854775808 ≤ n ∧ n ≤ 9223372036854775807 := by
  simp [Lit.wf, IntKind.min, IntKind.max, IntKind.signed, IntKind.bits] at h
  omega
end Go.Proofs.Ytkdmjnmilmmnjaa.Pure
