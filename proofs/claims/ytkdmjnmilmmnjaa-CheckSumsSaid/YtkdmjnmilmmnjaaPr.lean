/- Chapter 3 (varint), plain: what the reference's functions come to. -/
import Derived.Test.YtkdmjnmilmmnjaaPx6
import Derived.Test.YtkdmjnmilmmnjaaPt
set_option linter.unusedVariables false
set_option linter.unusedSimpArgs false
namespace Go.Proofs.Ytkdmjnmilmmnjaa.Pure
open Go.RowKit Go.Proofs.Ytkdmjnmilmmnjaa.P Go.Proofs.Ytkdmjnmilmmnjaa.Vp Go.Proofs.YtkdmjnmilmmnjaaW.PrintWords Go.Proofs.YtkdmjnmilmmnjaaW.PrintLast Go.Proofs.YtkdmjnmilmmnjaaW.PrintMore
theorem rbytes_f : ∀ (j k : Nat) (n : Int), 0 ≤ n → n < 18446744073709551616 → j ≤ 9 → j < k → moultref3_bytes.f k n (j : Int) = some (strOfNums (beL n j)) := by
  intro j
  induction j with
  | zero =>
    intro k n h0 h1 hj hk
    obtain ⟨k, rfl⟩ : ∃ m, k = m + 1 := ⟨k - 1, by omega⟩
    simp only [moultref3_bytes.f]
    rw [if_pos (by rfl)]; rfl
  | succ j ih =>
    intro k n h0 h1 hj hk
    obtain ⟨k, rfl⟩ : ∃ m, k = m + 1 := ⟨k - 1, by omega⟩
    simp only [moultref3_bytes.f]
    rw [if_neg (by omega), tdiv_nn h0, show IntKind.u64.wrap (n / 256) = n / 256 from by rw [IntKind.wrap_u64]; omega, show wrap64 (((j + 1 : Nat) : Int) - 1) = (j : Int) from by unfold wrap64; omega]
    rw [ih k (n / 256) (by omega) (by omega) (by omega) (by omega)]
    simp only [Option.bind_some]
    rw [tmod_nn h0, if_pos (by rw [strOfNums_size, strOfNums_size, beL_length]; simp; omega), beL, strOf_append, show n % 256 % 256 = n % 256 by omega]
theorem rcount_l0 : ∀ (j k : Nat) (n c : Int), 0 ≤ n → n < 256 ^ j → (j = 0 ∨ 256 ^ (j - 1) ≤ n) → 0 ≤ c → c + j ≤ 20 → j ≤ 9 → j < k → moultref3_count.l0 k n c = some (mx (c + j) 3) := by
  intro j
  induction j with
  | zero =>
    intro k n c h0 h1 _ hc hc2 hj hk
    obtain ⟨k, rfl⟩ : ∃ m, k = m + 1 := ⟨k - 1, by omega⟩
    simp at h1
    simp only [moultref3_count.l0]
    rw [if_neg (by omega)]; simp
  | succ j ih =>
    intro k n c h0 h1 h2 hc hc2 hj hk
    obtain ⟨k, rfl⟩ : ∃ m, k = m + 1 := ⟨k - 1, by omega⟩
    rw [p256] at h1
    have h2' : 256 ^ j ≤ n := by
      rcases h2 with h | h
      · omega
      · simpa using h
    have hp := p256_pos j
    have h3 : n < 18446744073709551616 * 256 := by
      have e : ∀ i : Nat, i ≤ 8 → (256 : Int) ^ i ≤ 18446744073709551616 := by
        intro i hi
        have : i = 0 ∨ i = 1 ∨ i = 2 ∨ i = 3 ∨ i = 4 ∨ i = 5 ∨ i = 6 ∨ i = 7 ∨ i = 8 := by omega
        rcases this with h | h | h | h | h | h | h | h | h <;> rw [h] <;> decide
      have := e j (by omega)
      omega
    simp only [moultref3_count.l0]
    rw [if_pos (by omega), tdiv_nn h0, show wrap64 (c + 1) = c + 1 from by unfold wrap64; omega]
    have e : IntKind.u64.wrap (n / 256) = n / 256 := by rw [IntKind.wrap_u64]; omega
    rw [e, ih k (n / 256) (c + 1) (by omega) (by omega) ?_ (by omega) (by omega) (by omega) (by omega)]
    · rw [show c + 1 + (j : Int) = c + ((j + 1 : Nat) : Int) by omega]
    · cases j with
      | zero => exact .inl rfl
      | succ j =>
        right
        rw [p256] at h2'
        simp only [Nat.add_sub_cancel]
        omega
theorem rcount_f (n : Int) (h0 : 67823 < n) (h1 : n < 18446744073709551616) (k : Nat) (hk : 12 < k) : moultref3_count.f k n = some (widthP n) := by
  unfold moultref3_count.f
  obtain ⟨p1, p2, p3, p4, p5, p6, p7, p8⟩ := pw 0
  have hw := widthP_range n
  have go : ∀ j : Nat, j ≤ 8 → (256 : Int) ^ (j - 1) ≤ n → n < 256 ^ j → widthP n = j → moultref3_count.l0 k n 0 = some (widthP n) := by
    intro j hj ha hb hc
    rw [rcount_l0 j k n 0 (by omega) hb (.inr ha) (by omega) (by omega) (by omega) (by omega), hc]
    congr 1
    unfold mx
    split <;> omega
  have hc : (n < 16777216 ∧ widthP n = 3) ∨ (16777216 ≤ n ∧ n < 4294967296 ∧ widthP n = 4) ∨ (4294967296 ≤ n ∧ n < 1099511627776 ∧ widthP n = 5) ∨ (1099511627776 ≤ n ∧ n < 281474976710656 ∧ widthP n = 6) ∨ (281474976710656 ≤ n ∧ n < 72057594037927936 ∧ widthP n = 7) ∨ (72057594037927936 ≤ n ∧ widthP n = 8) := by
    unfold widthP
    repeat' split
    all_goals omega
  rcases hc with ⟨a, b⟩ | ⟨a, c, b⟩ | ⟨a, c, b⟩ | ⟨a, c, b⟩ | ⟨a, c, b⟩ | ⟨a, b⟩
  · exact go 3 (by omega) (by simp only [Nat.reduceSub]; omega) (by omega) b
  · exact go 4 (by omega) (by simp only [Nat.reduceSub]; omega) (by omega) b
  · exact go 5 (by omega) (by simp only [Nat.reduceSub]; omega) (by omega) b
  · exact go 6 (by omega) (by simp only [Nat.reduceSub]; omega) (by omega) b
  · exact go 7 (by omega) (by simp only [Nat.reduceSub]; omega) (by omega) b
  · exact go 8 (by omega) (by simp only [Nat.reduceSub]; omega) (by omega) b
theorem rput_f (n : Int) (h0 : 0 ≤ n) (h1 : n < 18446744073709551616) (k : Nat) (hk : 12 < k) : moultref3_Put.f k n = some (putP n) := by
  have hw := widthP_range n
  have one : ∀ x : Int, 0 ≤ x → x < 256 → moultref3_bytes.f k x 1 = some (strOfNums [x]) := by
    intro x hx hx2
    have := rbytes_f 1 k x hx (by omega) (by omega) (by omega)
    rw [show beL x 1 = [x] from by simp [beL]; omega] at this
    exact this
  unfold moultref3_Put.f putP putL
  by_cases c1 : n ≤ 240
  · rw [if_pos c1, if_pos c1, one n h0 (by omega)]; rfl
  · rw [if_neg c1, if_neg c1]
    by_cases c2 : n ≤ 2287
    · rw [if_pos c2, if_pos c2]
      have e1 : IntKind.u64.wrap (n - 240) = n - 240 := by rw [IntKind.wrap_u64]; omega
      rw [e1, tdiv_nn (by omega), tmod_nn (by omega)]
      have e2 : IntKind.u64.wrap (241 + IntKind.u64.wrap ((n - 240) / 256)) = 241 + (n - 240) / 256 := by rw [IntKind.wrap_u64, IntKind.wrap_u64]; omega
      rw [e2, one _ (by omega) (by omega)]
      simp only [Option.bind_some]
      rw [one _ (by omega) (by omega)]
      simp only [Option.bind_some]
      rw [if_pos (by simp only [strOfNums_size, List.length_cons, List.length_nil]; omega), ← strOf_append]; rfl
    · rw [if_neg c2, if_neg c2]
      by_cases c3 : n ≤ 67823
      · rw [if_pos c3, if_pos c3, one 249 (by omega) (by omega)]
        simp only [Option.bind_some]
        rw [show IntKind.u64.wrap (n - 2288) = n - 2288 from by rw [IntKind.wrap_u64]; omega]
        have h2 := rbytes_f 2 k (n - 2288) (by omega) (by omega) (by omega) (by omega)
        rw [show ((2 : Nat) : Int) = 2 from rfl] at h2
        rw [h2]
        simp only [Option.bind_some]
        rw [if_pos (by simp only [strOfNums_size, beL_length, List.length_cons, List.length_nil]; omega), ← strOf_append]; rfl
      · rw [if_neg c3, if_neg c3, rcount_f n (by omega) h1 k hk]
        simp only [Option.bind_some]
        have e2 : IntKind.u64.wrap (wrap64 (247 + widthP n)) = 247 + widthP n := by
          rw [IntKind.wrap_u64]; unfold wrap64; omega
        rw [e2, one _ (by omega) (by omega)]
        simp only [Option.bind_some]
        have h2 := rbytes_f (widthP n).toNat k n h0 h1 (by omega) (by omega)
        rw [show (((widthP n).toNat : Nat) : Int) = widthP n by omega] at h2
        rw [h2]
        simp only [Option.bind_some]
        rw [if_pos (by simp only [strOfNums_size, beL_length, List.length_cons, List.length_nil]; omega), ← strOf_append]; rfl
/-- What was put is what was read, just where the size fits. -/
theorem fits_iff (s : ByteArray) (c : Int) (hc : 0 ≤ c ∧ c < 256) (K : Nat) (hK : K = kOf c) (hKs : K ≤ s.size) (hh : bt s 0 = c) (hne : 0 < s.size) (N : Int) (hN : N = rawN c (((bytesOf s).drop 1).take (K - 1))) (h0 : 0 ≤ N) :
    (putP N = s.extract 0 K ↔ sizeP N = K) := by
  have hbs : bytesOf s = c :: (bytesOf s).drop 1 := by
    have e0 := bt_get s 0 hne
    have e : bt s ((0 : Nat) : Int) = c := hh
    rw [e] at e0
    obtain ⟨y, ys, hy⟩ : ∃ y ys, bytesOf s = y :: ys := List.exists_cons_of_length_pos (by rw [size_bytesOf]; exact hne)
    rw [hy]
    simp only [hy, List.getElem_cons_zero] at e0
    rw [e0]; simp
  constructor
  · intro h
    have := congrArg ByteArray.size h
    rw [ByteArray.size_extract, ← size_bytesOf, putP_bytes h0] at this
    rw [← putL_length]; omega
  · intro h
    have ht : takeL (bytesOf s) = some (N, K) := by
      rw [hbs, takeL]
      rw [← hK, if_neg (by rw [List.length_drop, size_bytesOf]; omega), ← hN, if_pos h]
    obtain ⟨_, _, h2, h3⟩ := put_take (bytesOf_byt s) ht
    apply bytesOf_inj
    rw [bytesOf_take, putP_bytes h0, h3, h2, List.take_left]
theorem rtake_end (s : ByteArray) (hs : s.size < 4611686018427387904) (c : Int) (hc : 0 ≤ c ∧ c < 256) (K : Nat) (hK : K = kOf c) (hKs : K ≤ s.size) (hh : bt s 0 = c) (hne : 0 < s.size) (k : Nat) (hkk : 12 < k) :
    moultref3_Take.l0 (k + 1) s (K : Int) (beV (((bytesOf s).drop 1).take (K - 1))) (K : Int) = some (takeP s) := by
  have hk := kOf_range c hc.2
  have hkc := kOf_cases c
  have hr := beV_64 ((bytesOf s).drop 1) (fun x hx => bytesOf_byt s x (List.mem_of_mem_drop hx)) (K - 1) (by omega)
  have htk := take_end s hs c hc K hK hKs hh hne 12
  have hbs : bytesOf s = c :: (bytesOf s).drop 1 := by
    have e0 := bt_get s 0 hne
    have e : bt s ((0 : Nat) : Int) = c := hh
    rw [e] at e0
    obtain ⟨y, ys, hy⟩ : ∃ y ys, bytesOf s = y :: ys := List.exists_cons_of_length_pos (by rw [size_bytesOf]; exact hne)
    rw [hy]
    simp only [hy, List.getElem_cons_zero] at e0
    rw [e0]; simp
  have htp : takeP s = if sizeP (rawN c (((bytesOf s).drop 1).take (K - 1))) = K then (rawN c (((bytesOf s).drop 1).take (K - 1)), s.extract K s.size, true) else (0, ⟨#[]⟩, false) := by
    unfold takeP
    rw [hbs, takeL, List.drop_succ_cons, List.drop_zero, ← hK, if_neg (by rw [List.length_drop, size_bytesOf]; omega)]
    by_cases hz : sizeP (rawN c (((bytesOf s).drop 1).take (K - 1))) = (K : Int)
    · rw [if_pos hz, if_pos hz]
    · rw [if_neg hz, if_neg hz]
  obtain ⟨v, hv⟩ : ∃ v, beV (((bytesOf s).drop 1).take (K - 1)) = v := ⟨_, rfl⟩
  have hraw : rawN c (((bytesOf s).drop 1).take (K - 1)) = if K = 1 then c else if K = 2 then v + (240 + (c - 241) * 256) else if K = 3 then v + 2288 else v := by
    unfold rawN; rw [hv, ← hK]
  have hv2 : K = 2 → v < 256 := by
    intro h2
    rw [← hv, h2]
    have hl : 0 < ((bytesOf s).drop 1).length := by rw [List.length_drop, size_bytesOf]; omega
    rw [show 2 - 1 = 0 + 1 from rfl, beV_take_succ _ 0 hl]
    have := bytesOf_byt s _ (List.mem_of_mem_drop (List.getElem_mem hl))
    rw [List.take_zero, show beV [] = 0 from rfl]; omega
  have hv3 : K = 3 → v < 65536 := by
    intro h3
    have h1 := beL_beV (((bytesOf s).drop 1).take (K - 1)) (fun x hx => bytesOf_byt s x (List.mem_of_mem_drop (List.mem_of_mem_take hx)))
    rw [hv] at h1
    have hl : (((bytesOf s).drop 1).take (K - 1)).length = 2 := by rw [List.length_take, List.length_drop, size_bytesOf]; omega
    rw [hl] at h1
    have := (pw 0).2.1
    omega
  rw [hv] at hr ⊢
  have fits := fits_iff s c hc K hK hKs hh hne
  have fin : ∀ N : Int, N = rawN c (((bytesOf s).drop 1).take (K - 1)) → 0 ≤ N → N < 18446744073709551616 → ((moultref3_Put.f k N).bind fun t => (if 0 ≤ (K : Int) then (if (K : Int) ≤ (s.size : Int) then (if t.toList = (s.extract 0 (K : Int).toNat).toList then (some (N, s.extract (K : Int).toNat s.size, true)) else (some (0, (⟨#[]⟩ : ByteArray), false))) else (none)) else (none))) = some (takeP s) := by
    intro N hN h0 h1
    rw [rput_f N h0 h1 k hkk]
    simp only [Option.bind_some]
    rw [if_pos (show 0 ≤ (K : Int) by omega), if_pos (show (K : Int) ≤ (s.size : Int) by omega), Int.toNat_natCast, htp, ← hN]
    have hf := fits N hN h0
    by_cases hz : sizeP N = (K : Int)
    · rw [if_pos hz, if_pos (toList_iff.2 (hf.2 hz))]
    · rw [if_neg hz, if_neg (fun h => hz (hf.1 (toList_iff.1 h)))]
  simp only [moultref3_Take.l0]
  rw [if_neg (by omega)]
  rw [hh]
  by_cases k1 : K = 1
  · rw [if_pos (show (K : Int) = 1 by omega), if_pos (by omega)]
    have e : IntKind.u64.wrap c = c := by rw [IntKind.wrap_u64]; omega
    rw [e]
    exact fin c (by rw [hraw, if_pos k1]) (by omega) (by omega)
  · rw [if_neg (by omega)]
    by_cases k2 : K = 2
    · rw [if_pos (show (K : Int) = 2 by omega), if_pos (by omega)]
      have hv := hv2 k2
      have e : IntKind.u64.wrap (IntKind.u64.wrap (v + 240) + 256 * ((c - 241) % 256)) = v + (240 + (c - 241) * 256) := by rw [IntKind.wrap_u64, IntKind.wrap_u64]; omega
      rw [e]
      exact fin _ (by rw [hraw, if_neg k1, if_pos k2]) (by omega) (by omega)
    · rw [if_neg (by omega), if_pos (by omega)]
      by_cases k3 : K = 3
      · rw [if_pos (show c = 249 by omega)]
        have hv := hv3 k3
        have e : IntKind.u64.wrap (v + 2288) = v + 2288 := by rw [IntKind.wrap_u64]; omega
        rw [e]
        exact fin _ (by rw [hraw, if_neg k1, if_neg k2, if_pos k3]) (by omega) (by omega)
      · rw [if_neg (show ¬ c = 249 by omega)]
        exact fin v (by rw [hraw, if_neg k1, if_neg k2, if_neg k3]) hr.1 hr.2
theorem rtake_l0 (s : ByteArray) (hs : s.size < 4611686018427387904) (c : Int) (hc : 0 ≤ c ∧ c < 256) (K : Nat) (hK : K = kOf c) (hKs : K ≤ s.size) (hh : bt s 0 = c) (hne : 0 < s.size) :
    ∀ (d m k : Nat), m + d + 1 = K → d + 13 < k → moultref3_Take.l0 k s (K : Int) (beV (((bytesOf s).drop 1).take m)) ((m + 1 : Nat) : Int) = some (takeP s) := by
  have hk := kOf_range c hc.2
  intro d
  induction d with
  | zero =>
    intro m k hm hk
    obtain ⟨k, rfl⟩ : ∃ j, k = j + 1 := ⟨k - 1, by omega⟩
    have := rtake_end s hs c hc K hK hKs hh hne k (by omega)
    rw [show K - 1 = m by omega] at this
    rw [show ((m + 1 : Nat) : Int) = (K : Int) by omega]
    exact this
  | succ d ih =>
    intro m k hm hk
    obtain ⟨k, rfl⟩ : ∃ j, k = j + 1 := ⟨k - 1, by omega⟩
    obtain ⟨h1, h2⟩ := drop_one_take s m (by omega)
    have hb := beV_small ((bytesOf s).drop 1) (fun x hx => bytesOf_byt s x (List.mem_of_mem_drop hx)) m (by omega)
    have hbt := bt_range s ((m + 1 : Nat) : Int)
    simp only [moultref3_Take.l0]
    rw [if_pos (by omega), if_pos (by omega), if_pos (by omega), sub_byte _ _ hb.1 hb.2 ⟨hbt.1, by omega⟩, ← h2, ← beV_take_succ _ m h1]
    rw [wrap_succ (by omega)]
    exact ih (m + 1) k (by omega) (by omega)
theorem rtake_f (s : ByteArray) (hs : s.size < 4611686018427387904) (k : Nat) (hk : 30 < k) : moultref3_Take.f k s = some (takeP s) := by
  unfold moultref3_Take.f
  by_cases h0 : s.size = 0
  · rw [if_pos ((nil_iff s).2 h0)]
    unfold takeP
    have : bytesOf s = [] := List.eq_nil_of_length_eq_zero (by rw [size_bytesOf]; exact h0)
    rw [this]; rfl
  · rw [if_neg (fun h => h0 ((nil_iff s).1 h)), if_pos (by omega)]
    have hc := bt_range s 0
    obtain ⟨c, hcc⟩ : ∃ c, bt s 0 = c := ⟨_, rfl⟩
    rw [hcc] at hc ⊢
    have hkc := kOf_cases c
    have hj : ∀ K : Nat, K = kOf c → moultref3_Take.j0 k s (K : Int) = some (takeP s) := by
      intro K hK
      have hkr := kOf_range c (by omega)
      obtain ⟨k, rfl⟩ : ∃ j, k = j + 1 := ⟨k - 1, by omega⟩
      simp only [moultref3_Take.j0]
      by_cases hsz : (s.size : Int) < (K : Int)
      · rw [if_pos hsz, take_short s (by omega) (by rw [hcc]; omega)]
      · rw [if_neg hsz]
        exact rtake_l0 s hs c ⟨hc.1, by omega⟩ K hK (by omega) hcc (by omega) (K - 1) 0 k (by omega) (by omega)
    by_cases c1 : c ≥ 250
    · rw [if_pos c1, show wrap64 ((wrap64 c) - 246) = (((c - 246).toNat : Nat) : Int) from by unfold wrap64; omega]
      exact hj _ (by omega)
    · rw [if_neg c1]
      by_cases c2 : c = 249
      · rw [if_pos c2]; exact hj 3 (by omega)
      · rw [if_neg c2]
        by_cases c3 : c ≥ 241
        · rw [if_pos c3]; exact hj 2 (by omega)
        · rw [if_neg c3]; exact hj 1 (by omega)
/-! ### two texts, byte by byte -/
end Go.Proofs.Ytkdmjnmilmmnjaa.Pure
