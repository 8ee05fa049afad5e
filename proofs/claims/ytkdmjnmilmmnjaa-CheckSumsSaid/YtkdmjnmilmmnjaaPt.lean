/- Chapter 3 (varint), plain: what Take comes to, with enough rounds. -/
import Derived.Test.YtkdmjnmilmmnjaaPx4
import Derived.Test.YtkdmjnmilmmnjaaVb
set_option linter.unusedVariables false
set_option linter.unusedSimpArgs false
namespace Go.Proofs.Ytkdmjnmilmmnjaa.Pure
open Go.RowKit Go.Proofs.Ytkdmjnmilmmnjaa.P Go.Proofs.Ytkdmjnmilmmnjaa.Vp Go.Proofs.YtkdmjnmilmmnjaaW.PrintWords Go.Proofs.YtkdmjnmilmmnjaaW.PrintLast Go.Proofs.YtkdmjnmilmmnjaaW.PrintMore
theorem drop_one_take (s : ByteArray) (m : Nat) (h : m + 1 < s.size) : ∃ hh : m < ((bytesOf s).drop 1).length, ((bytesOf s).drop 1)[m] = bt s ((m + 1 : Nat) : Int) := by
  refine ⟨by rw [List.length_drop, size_bytesOf]; omega, ?_⟩
  rw [bt_get s (m + 1) h, List.getElem_drop]
  congr 1; omega
theorem take_end (s : ByteArray) (hs : s.size < 4611686018427387904) (c : Int) (hc : 0 ≤ c ∧ c < 256) (K : Nat) (hK : K = kOf c) (hKs : K ≤ s.size) (hh : bt s 0 = c) (hne : 0 < s.size) (k : Nat) :
    varint_Take.l0 (k + 1) s c (K : Int) (beV (((bytesOf s).drop 1).take (K - 1))) (K : Int) = some (takeP s) := by
  have hk := kOf_range c hc.2
  have hkc := kOf_cases c
  have hr := beV_64 ((bytesOf s).drop 1) (fun x hx => bytesOf_byt s x (List.mem_of_mem_drop hx)) (K - 1) (by omega)
  have hbs : bytesOf s = c :: (bytesOf s).drop 1 := by
    have h0 := bt_get s 0 hne
    have e : bt s ((0 : Nat) : Int) = c := hh
    rw [e] at h0
    obtain ⟨y, ys, hy⟩ : ∃ y ys, bytesOf s = y :: ys := List.exists_cons_of_length_pos (by rw [size_bytesOf]; exact hne)
    rw [hy]
    simp only [hy, List.getElem_cons_zero] at h0
    rw [h0]; simp
  have htk : takeP s = if sizeP (rawN c (((bytesOf s).drop 1).take (K - 1))) = K then (rawN c (((bytesOf s).drop 1).take (K - 1)), s.extract K s.size, true) else (0, ⟨#[]⟩, false) := by
    unfold takeP
    rw [hbs, takeL, List.drop_succ_cons, List.drop_zero, ← hK, if_neg (by rw [List.length_drop, size_bytesOf]; omega)]
    by_cases hz : sizeP (rawN c (((bytesOf s).drop 1).take (K - 1))) = (K : Int)
    · rw [if_pos hz, if_pos hz]
    · rw [if_neg hz, if_neg hz]
  obtain ⟨v, hv⟩ : ∃ v, beV (((bytesOf s).drop 1).take (K - 1)) = v := ⟨_, rfl⟩
  have hraw : rawN c (((bytesOf s).drop 1).take (K - 1)) = if K = 1 then c else if K = 2 then v + (240 + (c - 241) * 256) else if K = 3 then v + 2288 else v := by
    unfold rawN; rw [hv, ← hK]
  have hv2 : K = 2 → v < 256 := by
    intro h2
    rw [← hv, h2]
    have hl : 0 < ((bytesOf s).drop 1).length := by rw [List.length_drop, size_bytesOf]; omega
    rw [show 2 - 1 = 0 + 1 from rfl, beV_take_succ _ 0 hl]
    have := bytesOf_byt s _ (List.mem_of_mem_drop (List.getElem_mem hl))
    rw [List.take_zero, show beV [] = 0 from rfl]; omega
  have hv3 : K = 3 → v < 65536 := by
    intro h3
    have h1 := beL_beV (((bytesOf s).drop 1).take (K - 1)) (fun x hx => bytesOf_byt s x (List.mem_of_mem_drop (List.mem_of_mem_take hx)))
    rw [hv] at h1
    have hl : (((bytesOf s).drop 1).take (K - 1)).length = 2 := by rw [List.length_take, List.length_drop, size_bytesOf]; omega
    rw [hl] at h1
    have := (pw 0).2.1
    omega
  rw [hv] at hr ⊢
  rw [htk, hraw]
  simp only [varint_Take.l0]
  rw [if_neg (by omega)]
  have fin : ∀ N : Int, 0 ≤ N → N < 18446744073709551616 → ((varint_Size.f N).bind fun t => (if t = (K : Int) then (if 0 ≤ (K : Int) then (if (K : Int) ≤ (s.size : Int) then (some (N, s.extract (K : Int).toNat s.size, true)) else (none)) else (none)) else (some (0, (⟨#[]⟩ : ByteArray), false)))) = some (if sizeP N = K then (N, s.extract K s.size, true) else (0, ⟨#[]⟩, false)) := by
    intro N h0 h1
    rw [size_f N h0 h1]
    simp only [Option.bind_some]
    rw [if_pos (show 0 ≤ (K : Int) by omega), if_pos (show (K : Int) ≤ (s.size : Int) by omega), Int.toNat_natCast]
    split <;> rfl
  by_cases k1 : K = 1
  · rw [if_pos (show (K : Int) = 1 by omega), if_pos k1]
    have e : IntKind.u64.wrap c = c := by rw [IntKind.wrap_u64]; omega
    rw [e]
    exact fin c (by omega) (by omega)
  · rw [if_neg (by omega), if_neg k1]
    by_cases k2 : K = 2
    · rw [if_pos (show (K : Int) = 2 by omega), if_pos k2]
      have hv := hv2 k2
      have e : IntKind.u64.wrap (v + (240 + ((c - 240 - 1) % 256) * 256)) = v + (240 + (c - 241) * 256) := by rw [IntKind.wrap_u64]; omega
      rw [e]
      exact fin _ (by omega) (by omega)
    · rw [if_neg (by omega), if_neg k2]
      by_cases k3 : K = 3
      · rw [if_pos (show (K : Int) = 3 by omega), if_pos k3]
        have hv := hv3 k3
        have e : IntKind.u64.wrap (v + 2288) = v + 2288 := by rw [IntKind.wrap_u64]; omega
        rw [e]
        exact fin _ (by omega) (by omega)
      · rw [if_neg (by omega), if_neg k3]
        exact fin v hr.1 hr.2
theorem take_l0 (s : ByteArray) (hs : s.size < 4611686018427387904) (c : Int) (hc : 0 ≤ c ∧ c < 256) (K : Nat) (hK : K = kOf c) (hKs : K ≤ s.size) (hh : bt s 0 = c) (hne : 0 < s.size) :
    ∀ (d m k : Nat), m + d + 1 = K → d < k → varint_Take.l0 k s c (K : Int) (beV (((bytesOf s).drop 1).take m)) ((m + 1 : Nat) : Int) = some (takeP s) := by
  have hk := kOf_range c hc.2
  intro d
  induction d with
  | zero =>
    intro m k hm hk
    obtain ⟨k, rfl⟩ : ∃ j, k = j + 1 := ⟨k - 1, by omega⟩
    have := take_end s hs c hc K hK hKs hh hne k
    rw [show K - 1 = m by omega] at this
    rw [show ((m + 1 : Nat) : Int) = (K : Int) by omega]
    exact this
  | succ d ih =>
    intro m k hm hk
    obtain ⟨k, rfl⟩ : ∃ j, k = j + 1 := ⟨k - 1, by omega⟩
    obtain ⟨h1, h2⟩ := drop_one_take s m (by omega)
    have hb := beV_small ((bytesOf s).drop 1) (fun x hx => bytesOf_byt s x (List.mem_of_mem_drop hx)) m (by omega)
    have hbt := bt_range s ((m + 1 : Nat) : Int)
    simp only [varint_Take.l0]
    rw [if_pos (by omega), if_pos (by omega), if_pos (by omega), or_byte _ _ hb.1 hb.2 ⟨hbt.1, by omega⟩, ← h2, ← beV_take_succ _ m h1]
    rw [wrap_succ (by omega)]
    exact ih (m + 1) k (by omega) (by omega)
theorem take_short (s : ByteArray) (hne : 0 < s.size) (h : s.size < kOf (bt s 0)) : takeP s = (0, ⟨#[]⟩, false) := by
  unfold takeP
  obtain ⟨y, ys, hy⟩ : ∃ y ys, bytesOf s = y :: ys := List.exists_cons_of_length_pos (by rw [size_bytesOf]; exact hne)
  have e : bt s 0 = y := by
    have := bt_get s 0 hne
    simp only [hy, List.getElem_cons_zero] at this
    exact this
  have hl : ys.length + 1 = s.size := by rw [← size_bytesOf s, hy, List.length_cons]
  rw [hy, takeL, if_pos (by rw [← e]; omega)]
theorem take_f (s : ByteArray) (hs : s.size < 4611686018427387904) (k : Nat) (hk : 12 < k) : varint_Take.f k s = some (takeP s) := by
  unfold varint_Take.f
  by_cases h0 : s.size = 0
  · rw [if_pos ((nil_iff s).2 h0)]
    unfold takeP
    have : bytesOf s = [] := List.eq_nil_of_length_eq_zero (by rw [size_bytesOf]; exact h0)
    rw [this]; rfl
  · rw [if_neg (fun h => h0 ((nil_iff s).1 h)), if_pos (by omega)]
    have hc := bt_range s 0
    obtain ⟨c, hcc⟩ : ∃ c, bt s 0 = c := ⟨_, rfl⟩
    rw [hcc] at hc ⊢
    have hkc := kOf_cases c
    have hj : ∀ K : Nat, K = kOf c → varint_Take.j0 k s c (K : Int) = some (takeP s) := by
      intro K hK
      have hkr := kOf_range c (by omega)
      obtain ⟨k, rfl⟩ : ∃ j, k = j + 1 := ⟨k - 1, by omega⟩
      simp only [varint_Take.j0]
      by_cases hsz : (s.size : Int) < (K : Int)
      · rw [if_pos hsz, take_short s (by omega) (by rw [hcc]; omega)]
      · rw [if_neg hsz]
        exact take_l0 s hs c ⟨hc.1, by omega⟩ K hK (by omega) hcc (by omega) (K - 1) 0 k (by omega) (by omega)
    by_cases c1 : c > 249
    · rw [if_pos c1, show wrap64 ((wrap64 ((wrap64 c) - 249)) + 3) = (((c - 246).toNat : Nat) : Int) from by unfold wrap64; omega]
      exact hj _ (by omega)
    · rw [if_neg c1]
      by_cases c2 : c = 249
      · rw [if_pos c2]; exact hj 3 (by omega)
      · rw [if_neg c2]
        by_cases c3 : c > 240
        · rw [if_pos c3]; exact hj 2 (by omega)
        · rw [if_neg c3]; exact hj 1 (by omega)
/-- What takeP tells. -/
theorem takeP_put (n : Int) (h0 : 0 ≤ n) (h1 : n < 18446744073709551616) (s : ByteArray) : takeP (putP n ++ s) = (n, s, true) := by
  unfold takeP
  rw [bytesOf_append, putP_bytes h0, take_put n h0 h1]
  simp only [Prod.mk.injEq, true_and, and_true]
  apply bytesOf_inj
  rw [bytesOf_drop, bytesOf_append, putP_bytes h0, List.drop_left]
theorem takeP_cut (n : Int) (h0 : 0 ≤ n) (h1 : n < 18446744073709551616) (i : Nat) (hi : i < (putP n).size) : takeP ((putP n).extract 0 i) = (0, ⟨#[]⟩, false) := by
  unfold takeP
  rw [bytesOf_take, putP_bytes h0, take_cut n h0 h1 i (by rw [← putP_bytes h0, size_bytesOf]; exact hi)]
theorem takeP_some {s : ByteArray} {n : Int} {r : ByteArray} (h : takeP s = (n, r, true)) : 0 ≤ n ∧ n < 18446744073709551616 ∧ s = putP n ++ r ∧ r.size + (putP n).size = s.size := by
  unfold takeP at h
  split at h
  · rename_i n' k he
    simp only [Prod.mk.injEq, and_true] at h
    obtain ⟨rfl, rfl⟩ := h
    obtain ⟨h0, h1, h2, h3⟩ := put_take (bytesOf_byt s) he
    have e : s = putP n' ++ s.extract k s.size := by
      apply bytesOf_inj
      rw [bytesOf_append, putP_bytes h0, bytesOf_drop]
      exact h3
    refine ⟨h0, h1, e, ?_⟩
    conv => rhs; rw [e]
    rw [ByteArray.size_append]; omega
  · simp at h
theorem takeP_false {s : ByteArray} (h : (takeP s).2.2 = false) : takeP s = (0, ⟨#[]⟩, false) := by
  unfold takeP at h ⊢
  split
  · rename_i he; rw [he] at h; simp at h
  · rfl
end Go.Proofs.Ytkdmjnmilmmnjaa.Pure
