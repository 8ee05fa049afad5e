/- Chapter 9 (filter), plain: what the printed functions come to, with enough rounds. -/
import Derived.Test.YtdpadhmdiljpaaaPx4
namespace Go.Proofs.Ytdpadhmdiljpaaa.Pure
open Go.RowKit Go.Proofs.Ytdpadhmdiljpaaa.P Go.Proofs.Ytdpadhmdiljpaaa.Fp Go.Proofs.YtdpadhmdiljpaaaW.PrintWords Go.Proofs.YtdpadhmdiljpaaaW.PrintLast Go.Proofs.YtdpadhmdiljpaaaW.PrintMore

theorem shown_f : moultlaw9_shown.f 40 = some true := by decide +kernel
theorem moultlaw9_shown_le (k : Nat) : moultlaw9_shown.f (k + 40) = some true := by
  induction k with
  | zero => rw [Nat.zero_add]; exact shown_f
  | succ k ih => rw [Nat.add_right_comm]; exact moultlaw9_shown.mono _ _ ih

/-! ### the reference's hash and places -/
theorem tdiv_nn {a b : Int} (h : 0 ≤ a) : Int.tdiv a b = a / b := Int.tdiv_eq_ediv_of_nonneg h
theorem tmod_nn {a b : Int} (h : 0 ≤ a) : Int.tmod a b = a % b := Int.tmod_eq_emod_of_nonneg h
theorem rhash_l0 (s : ByteArray) (hs : s.size < 9223372036854775807) : ∀ (d n k : Nat), n + d = s.size → d < k → moultref9_Hash.l0 k s (hashN s n) (n : Int) = some (hashP s) := by
  intro d
  induction d with
  | zero =>
    intro n k hn hk
    obtain ⟨k, rfl⟩ : ∃ m, k = m + 1 := ⟨k - 1, by omega⟩
    obtain rfl : n = s.size := by omega
    simp only [moultref9_Hash.l0]
    have hr := hashN_range s s.size
    rw [if_neg (by omega), tdiv_nn hr.1, IntKind.wrap_u64]
    rw [Int.emod_eq_of_lt (by omega) (by omega)]; rfl
  | succ d ih =>
    intro n k hn hk
    obtain ⟨k, rfl⟩ : ∃ m, k = m + 1 := ⟨k - 1, by omega⟩
    simp only [moultref9_Hash.l0]
    rw [if_pos (by omega), if_pos (by omega), wrap_succ (by omega)]
    exact ih (n + 1) k (by omega) (by omega)
theorem rhash_f (s : ByteArray) (hs : s.size < 9223372036854775807) (k : Nat) (hk : s.size < k) : moultref9_Hash.f k s = some (hashP s) := rhash_l0 s hs s.size 0 k (by omega) hk

theorem rplaces_step (h n : Int) (i : Nat) (hi : i < 4) (hn : 1 ≤ n) (hn2 : n ≤ 9223372036854775807) :
    wrap64 (Int.tmod (IntKind.u64.wrap (lowP h + IntKind.u64.wrap (IntKind.u64.wrap (i : Int) * stepP h))) (IntKind.u64.wrap n)) = plac h n i := by
  have e : IntKind.u64.wrap n = n := by rw [IntKind.wrap_u64]; omega
  have ei : IntKind.u64.wrap (i : Int) = i := by rw [IntKind.wrap_u64]; omega
  have hp := plac_range h n i hn
  have e2 : IntKind.u64.wrap (lowP h + IntKind.u64.wrap ((i : Int) * stepP h)) = (lowP h + (i : Int) * stepP h) % 18446744073709551616 := by
    rw [IntKind.wrap_u64, IntKind.wrap_u64]; omega
  rw [e, ei, e2, tmod_nn (by omega)]
  show wrap64 (plac h n i) = plac h n i
  unfold wrap64; omega
theorem rplaces_l0 (h n : Int) (hn : 1 ≤ n) (hn2 : n ≤ 9223372036854775807) (k : Nat) (hk : 5 ≤ k) :
    moultref9_Places.l0 k n [] (lowP h) (stepP h) 0 = some [plac h n 0, plac h n 1, plac h n 2, plac h n 3] := by
  have hz : ¬ IntKind.u64.wrap n = 0 := by rw [IntKind.wrap_u64]; omega
  have w0 : wrap64 (0 + 1) = 1 := by unfold wrap64; omega
  have w1 : wrap64 (1 + 1) = 2 := by unfold wrap64; omega
  have w2 : wrap64 (2 + 1) = 3 := by unfold wrap64; omega
  have w3 : wrap64 (3 + 1) = 4 := by unfold wrap64; omega
  obtain ⟨k, rfl⟩ : ∃ m, k = m + 5 := ⟨k - 5, by omega⟩
  have s0 := rplaces_step h n 0 (by decide) hn hn2
  have s1 := rplaces_step h n 1 (by decide) hn hn2
  have s2 := rplaces_step h n 2 (by decide) hn hn2
  have s3 := rplaces_step h n 3 (by decide) hn hn2
  simp only [moultref9_Places.l0]
  rw [if_pos (by decide), if_pos hn, if_neg hz, if_pos (by simp), w0]
  rw [if_pos (by decide), if_pos hn, if_neg hz, if_pos (by simp), w1]
  rw [if_pos (by decide), if_pos hn, if_neg hz, if_pos (by simp), w2]
  rw [if_pos (by decide), if_pos hn, if_neg hz, if_pos (by simp), w3]
  rw [if_neg (by decide)]
  rw [show ((0 : Nat) : Int) = 0 from rfl] at s0
  rw [show ((1 : Nat) : Int) = 1 from rfl] at s1
  rw [show ((2 : Nat) : Int) = 2 from rfl] at s2
  rw [show ((3 : Nat) : Int) = 3 from rfl] at s3
  rw [s0, s1, s2, s3]; rfl
theorem rplaces_l0_none (a b n i : Int) (hn : n < 1) (hi : i = 0) (k : Nat) (hk : 1 ≤ k) : moultref9_Places.l0 k n [] a b i = some [] := by
  obtain ⟨k, rfl⟩ : ∃ m, k = m + 1 := ⟨k - 1, by omega⟩
  subst hi
  simp only [moultref9_Places.l0]
  rw [if_pos (by decide), if_neg (by omega)]
theorem rplaces_f (s : ByteArray) (hs : s.size < 9223372036854775807) (n : Int) (hn2 : n ≤ 9223372036854775807) (k : Nat) (hk : s.size + 6 < k) : moultref9_Places.f k s n = some (placesP s n) := by
  unfold moultref9_Places.f
  rw [rhash_f s hs k (by omega)]
  simp only [Option.bind_some]
  obtain ⟨h0, h1⟩ := hashP_range s
  have hstep := stepP_eq (hashP s) h0 h1
  obtain ⟨h, hh⟩ : ∃ h, hashP s = h := ⟨_, rfl⟩
  have e1 : IntKind.u64.wrap (Int.tdiv h 4294967296) = h / 4294967296 := by rw [tdiv_nn (by omega), IntKind.wrap_u64]; omega
  rw [hh] at h0 h1 hstep ⊢
  have e2 : Int.tmod (h / 4294967296) 2 = (h / 4294967296) % 2 := tmod_nn (by omega)
  have e3 : Int.tmod h 4294967296 = lowP h := tmod_nn h0
  rw [e1, e2, e3]
  obtain ⟨k, rfl⟩ : ∃ m, k = m + 1 := ⟨k - 1, by omega⟩
  have fin : ∀ st, st = stepP h → moultref9_Places.j0 (k + 1) n [] (lowP h) st = some (placesP s n) := by
    rintro st rfl
    simp only [moultref9_Places.j0]
    unfold placesP
    by_cases hn : n < 1
    · rw [if_pos hn, rplaces_l0_none _ _ _ _ hn rfl k (by omega)]
    · rw [if_neg hn, rplaces_l0 h n (by omega) hn2 k (by omega), hh]
  split
  · rename_i hc
    apply fin
    rw [hstep, if_pos hc, IntKind.wrap_u64]; omega
  · rename_i hc
    apply fin
    rw [hstep, if_neg hc]

/-! ### same, small -/
theorem same_l0 (l : List Int) (hl : l.length < 9223372036854775807) : ∀ (d n k : Nat), n + d = l.length → d < k → moultlaw9_same.l0 k l l (n : Int) = some true := by
  intro d
  induction d with
  | zero =>
    intro n k hn hk
    obtain ⟨k, rfl⟩ : ∃ m, k = m + 1 := ⟨k - 1, by omega⟩
    simp only [moultlaw9_same.l0]
    rw [if_neg (by omega)]
  | succ d ih =>
    intro n k hn hk
    obtain ⟨k, rfl⟩ : ∃ m, k = m + 1 := ⟨k - 1, by omega⟩
    simp only [moultlaw9_same.l0]
    rw [if_pos (by omega), if_pos (by omega), if_pos (by omega), wrap_succ (by omega)]
    simp only [if_true]
    exact ih (n + 1) k (by omega) (by omega)
theorem same_f (l : List Int) (hl : l.length < 9223372036854775807) (k : Nat) (hk : l.length < k) : moultlaw9_same.f k l l = some true := by
  unfold moultlaw9_same.f
  rw [if_pos rfl]
  exact same_l0 l hl l.length 0 k (by omega) hk
def smallP (l : List ByteArray) : Bool := decide (l.length ≤ 200) && l.all fun s => decide (s.size ≤ 300)
theorem rdOf_nat (l : List ByteArray) (n : Nat) (h : n < l.length) : rdOf ByteArray.empty l (n : Int) = l[n] := by
  simp [rdOf, List.getD_eq_getElem?_getD, h]
theorem small_l0 (l : List ByteArray) (hl : l.length ≤ 200) : ∀ (d n k : Nat), n + d = l.length → d < k → moultlaw9_small.l0 k l (n : Int) = some ((l.drop n).all fun s => decide (s.size ≤ 300)) := by
  intro d
  induction d with
  | zero =>
    intro n k hn hk
    obtain ⟨k, rfl⟩ : ∃ m, k = m + 1 := ⟨k - 1, by omega⟩
    simp only [moultlaw9_small.l0]
    rw [if_neg (by omega), List.drop_of_length_le (by omega)]; rfl
  | succ d ih =>
    intro n k hn hk
    obtain ⟨k, rfl⟩ : ∃ m, k = m + 1 := ⟨k - 1, by omega⟩
    have hlt : n < l.length := by omega
    simp only [moultlaw9_small.l0]
    rw [if_pos (by omega), if_pos (by omega), rdOf_nat l n hlt, wrap_succ (by omega), List.drop_eq_getElem_cons hlt, List.all_cons]
    by_cases hc : ((l[n].size : Nat) : Int) > 300
    · rw [if_pos hc]; simp; omega
    · rw [if_neg hc, ih (n + 1) k (by omega) (by omega)]
      have : decide (l[n].size ≤ 300) = true := by simp; omega
      rw [this, Bool.true_and]
theorem small_f (l : List ByteArray) (k : Nat) (hk : 201 < k) : moultlaw9_small.f k l = some (smallP l) := by
  unfold moultlaw9_small.f smallP
  by_cases h : (l.length : Int) > 200
  · rw [if_pos h]
    have : decide (l.length ≤ 200) = false := by simp; omega
    rw [this]; rfl
  · rw [if_neg h]
    have : decide (l.length ≤ 200) = true := by simp; omega
    rw [this, Bool.true_and]
    exact small_l0 l (by omega) l.length 0 k (by omega) (by omega)
theorem smallP_len {l : List ByteArray} (h : smallP l = true) : l.length ≤ 200 := by
  simp [smallP] at h; exact h.1
theorem smallP_size {l : List ByteArray} (h : smallP l = true) : ∀ s ∈ l, s.size ≤ 300 := by
  simp [smallP] at h; exact h.2

/-! ### how many bits are set -/
theorem onesCount_f (s : ByteArray) (i : Int) : bits_OnesCount8.f (bt s i) = some (Lib.onesCount (bt s i).toNat : Int) := by
  have := bt_range s i
  unfold bits_OnesCount8.f; rw [if_pos this]
theorem full_l0 (s : ByteArray) (hs : s.size ≤ 140737488355328) : ∀ (d n k : Nat), n + d = s.size → d < k → filter_Full.l0 k s (cntN s n : Int) (s.size : Int) (n : Int) = some ((cntP s : Int), 8 * (s.size : Int)) := by
  intro d
  induction d with
  | zero =>
    intro n k hn hk
    obtain ⟨k, rfl⟩ : ∃ m, k = m + 1 := ⟨k - 1, by omega⟩
    obtain rfl : n = s.size := by omega
    simp only [filter_Full.l0]
    rw [if_neg (by omega), show wrap64 (8 * (s.size : Int)) = 8 * (s.size : Int) from by unfold wrap64; omega]; rfl
  | succ d ih =>
    intro n k hn hk
    obtain ⟨k, rfl⟩ : ∃ m, k = m + 1 := ⟨k - 1, by omega⟩
    simp only [filter_Full.l0]
    have h1 := cntN_le s n
    have h2 := bt_pop s n
    rw [if_pos (by omega), if_pos (by omega), if_pos (by omega), onesCount_f]
    simp only [Option.bind_some]
    rw [wrap_succ (by omega), show wrap64 ((cntN s n : Int) + (Lib.onesCount (bt s n).toNat : Int)) = ((cntN s (n + 1) : Nat) : Int) from by simp only [cntN]; unfold wrap64; omega]
    exact ih (n + 1) k (by omega) (by omega)
theorem full_f (s : ByteArray) (hs : s.size ≤ 140737488355328) (k : Nat) (hk : s.size < k) : filter_Full.f k s = some ((cntP s : Int), 8 * (s.size : Int)) := full_l0 s hs s.size 0 k (by omega) hk
theorem rfull_l1 (s : ByteArray) (n K0 : Nat) (r : Int × Int) : ∀ (j x c : Nat), x < 2 ^ j → j ≤ 8 → c + j ≤ 1125899906842624 → (∀ k', K0 ≤ k' → moultref9_Full.l0 k' s ((c + Lib.popAux j x : Nat) : Int) (wrap64 ((n : Int) + 1)) = some r) →
    ∀ k, K0 + j + 1 ≤ k → moultref9_Full.l1 k s (c : Int) (n : Int) (x : Int) = some r := by
  intro j
  induction j with
  | zero =>
    intro x c hx _ _ h k hk
    obtain ⟨k, rfl⟩ : ∃ m, k = m + 1 := ⟨k - 1, by omega⟩
    obtain rfl : x = 0 := by simpa using hx
    simp only [moultref9_Full.l1]
    rw [if_neg (by decide)]
    exact h k (by omega)
  | succ j ih =>
    intro x c hx hj hc h k hk
    obtain ⟨k, rfl⟩ : ∃ m, k = m + 1 := ⟨k - 1, by omega⟩
    simp only [moultref9_Full.l1]
    by_cases hz : (x : Int) > 0
    · rw [if_pos hz, tmod_nn (by omega), tdiv_nn (by omega)]
      have hx8 : x < 256 := Nat.lt_of_lt_of_le hx (Nat.pow_le_pow_right (n := 2) (by decide) hj)
      rw [show wrap64 ((c : Int) + (x : Int) % 2) = ((c + x % 2 : Nat) : Int) from by unfold wrap64; omega, show wrap64 ((x : Int) / 2) = ((x / 2 : Nat) : Int) from by unfold wrap64; omega]
      refine ih (x / 2) (c + x % 2) ?_ (by omega) (by omega) (fun k' hk' => ?_) k (by omega)
      · rw [Nat.pow_succ] at hx; omega
      · have := h k' hk'
        simp only [Lib.popAux] at this
        rw [show c + x % 2 + Lib.popAux j (x / 2) = c + (x % 2 + Lib.popAux j (x / 2)) by omega]
        exact this
    · rw [if_neg hz]
      obtain rfl : x = 0 := by omega
      have hp : ∀ f, Lib.popAux f 0 = 0 := by intro f; induction f with | zero => rfl | succ f ih => simp [Lib.popAux, ih]
      have := h k (by omega)
      rw [hp, Nat.add_zero] at this
      exact this
theorem pop8_64 : ∀ n : Fin 256, Lib.popAux 8 n.val = Lib.onesCount n.val := by decide +kernel
theorem rfull_l0 (s : ByteArray) (hs : s.size ≤ 140737488355) : ∀ (d n k : Nat), n + d = s.size → 10 * d < k → moultref9_Full.l0 k s (cntN s n : Int) (n : Int) = some ((cntP s : Int), 8 * (s.size : Int)) := by
  intro d
  induction d with
  | zero =>
    intro n k hn hk
    obtain ⟨k, rfl⟩ : ∃ m, k = m + 1 := ⟨k - 1, by omega⟩
    obtain rfl : n = s.size := by omega
    simp only [moultref9_Full.l0]
    rw [if_neg (by omega), show wrap64 (8 * (s.size : Int)) = 8 * (s.size : Int) from by unfold wrap64; omega]; rfl
  | succ d ih =>
    intro n k hn hk
    obtain ⟨k, rfl⟩ : ∃ m, k = m + 1 := ⟨k - 1, by omega⟩
    simp only [moultref9_Full.l0]
    have h1 := cntN_le s n
    have h2 := bt_range s n
    rw [if_pos (by omega), if_pos (by omega)]
    obtain ⟨x, hx⟩ : ∃ x : Nat, bt s n = x := ⟨(bt s n).toNat, by omega⟩
    have hp := pop8_64 ⟨x, by omega⟩
    simp only at hp
    rw [hx, wrap_nat (by omega)]
    refine rfull_l1 s n (10 * d + 1) _ 8 x (cntN s n) (by omega) (by omega) (by omega) (fun k' hk' => ?_) k (by omega)
    rw [hp, wrap_succ (by omega)]
    have e : cntN s n + Lib.onesCount x = cntN s (n + 1) := by simp only [cntN, hx, Int.toNat_natCast]
    rw [e]
    exact ih (n + 1) k' (by omega) (by omega)
theorem rfull_f (s : ByteArray) (hs : s.size ≤ 140737488355) (k : Nat) (hk : 10 * s.size < k) : moultref9_Full.f k s = some ((cntP s : Int), 8 * (s.size : Int)) := rfull_l0 s hs s.size 0 k (by omega) hk

/-! ### the reference's filter -/
theorem rbuild_l1 (keys : List ByteArray) (N i K0 : Nat) (hN : N ≤ 140737488355) (l : List Int) (hl : ∀ p ∈ l, 0 ≤ p ∧ p < 8 * (N : Int)) (hlen : l.length < 9223372036854775807) (r : ByteArray) :
    ∀ (d m k : Nat) (xs : List Int), xs.length = N → m + d = l.length → (∀ k', K0 ≤ k' → moultref9_Build.l0 k' keys (N : Int) ((l.drop m).foldl setBit xs) (wrap64 ((i : Int) + 1)) = some r) → K0 + d + 1 ≤ k →
    moultref9_Build.l1 k keys (N : Int) xs (i : Int) l (m : Int) = some r := by
  intro d
  induction d with
  | zero =>
    intro m k xs hxs hm h hk
    obtain ⟨k, rfl⟩ : ∃ m, k = m + 1 := ⟨k - 1, by omega⟩
    simp only [moultref9_Build.l1]
    rw [if_neg (by omega)]
    have := h k (by omega)
    rwa [List.drop_of_length_le (by omega)] at this
  | succ d ih =>
    intro m k xs hxs hm h hk
    obtain ⟨k, rfl⟩ : ∃ m, k = m + 1 := ⟨k - 1, by omega⟩
    have hlt : m < l.length := by omega
    have hp := hl _ (List.getElem_mem hlt)
    have hrd : rd l (m : Int) = l[m] := by simp [rd, List.getD_eq_getElem?_getD, hlt]
    simp only [moultref9_Build.l1]
    rw [if_pos (by omega), if_pos (by omega), hrd]
    rw [List.drop_eq_getElem_cons hlt] at h
    obtain ⟨p, hpe⟩ : ∃ p, l[m] = p := ⟨_, rfl⟩
    rw [hpe] at hp h ⊢
    rw [tdiv_nn hp.1, tmod_nn hp.1, show wrap64 (p / 8) = p / 8 from by unfold wrap64; omega]
    rw [if_pos (by omega), if_pos (by omega), if_pos (by omega), wrap_succ (by omega)]
    have hsh : shl .u8 1 (p % 8) = 2 ^ (p % 8).toNat % 256 := by
      unfold shl
      rw [Nat.min_eq_left (by simp [IntKind.bits]; omega), IntKind.wrap_u8, Int.one_mul]
    rw [hsh]
    exact ih (m + 1) k (setBit xs p) (by rw [setBit_length, hxs]) (by omega) (fun k' hk' => h k' hk') (by omega)
theorem rbuild_l0 (keys : List ByteArray) (N : Nat) (hN : 1 ≤ N) (hN2 : N ≤ 140737488355) (hk2 : keys.length ≤ 1000000) (M : Nat) (hM : ∀ s ∈ keys, s.size ≤ M) (hM2 : M < 9223372036854775807) :
    ∀ (d m k : Nat), m + d = keys.length → M + 10 + 8 * d < k → moultref9_Build.l0 k keys (N : Int) (fillN keys N m) (m : Int) = some (strOfNums (buildN keys N)) := by
  intro d
  induction d with
  | zero =>
    intro m k hm hk
    obtain ⟨k, rfl⟩ : ∃ m, k = m + 1 := ⟨k - 1, by omega⟩
    simp only [moultref9_Build.l0]
    obtain rfl : m = keys.length := by omega
    rw [if_neg (by omega), fillN_all]
  | succ d ih =>
    intro m k hm hk
    obtain ⟨k, rfl⟩ : ∃ m, k = m + 1 := ⟨k - 1, by omega⟩
    have hlt : m < keys.length := by omega
    have hs := hM _ (List.getElem_mem hlt)
    simp only [moultref9_Build.l0]
    rw [if_pos (by omega), if_pos (by omega), rdOf_nat keys m hlt, show wrap64 (8 * (N : Int)) = 8 * (N : Int) from by unfold wrap64; omega]
    rw [rplaces_f _ (by omega) _ (by omega) k (by omega)]
    simp only [Option.bind_some]
    have hlen := placesP_length keys[m] (8 * (N : Int)) (by omega)
    refine rbuild_l1 keys N m (M + 10 + 8 * d + 1) hN2 _ (placesP_range _ _) (by omega) _ 4 0 k _ (fillN_ok keys N m (by omega)).1 (by omega) (fun k' hk' => ?_) (by omega)
    rw [List.drop_zero, ← fillN_succ keys N m hlt, wrap_succ (by omega)]
    exact ih (m + 1) k' (by omega) (by omega)
theorem rbuild_f (keys : List ByteArray) (hk2 : keys.length ≤ 1000000) (M : Nat) (hM : ∀ s ∈ keys, s.size ≤ M) (hM2 : M < 9223372036854775807) (k : Nat) (hk : M + 10 + 8 * keys.length < k) :
    moultref9_Build.f k keys = some (buildP keys) := by
  unfold moultref9_Build.f buildP
  by_cases h : keys = []
  · subst h; rfl
  · have hpos : 0 < keys.length := List.length_pos_iff.2 h
    rw [if_neg (by omega), if_neg h]
    have e : mx 8 (wrap64 ((keys.length : Int) + (wrap64 (Int.tdiv (wrap64 ((keys.length : Int) + 1)) 2)))) = (sizeP keys.length : Int) := by
      rw [show wrap64 ((keys.length : Int) + 1) = (keys.length : Int) + 1 from by unfold wrap64; omega, tdiv_nn (by omega), show wrap64 (((keys.length : Int) + 1) / 2) = ((keys.length : Int) + 1) / 2 from by unfold wrap64; omega]
      unfold wrap64 mx sizeP
      split <;> omega
    rw [e, if_pos (by omega), Int.toNat_natCast]
    have hs : sizeP keys.length ≤ 2000008 := by unfold sizeP; omega
    have hs1 : 8 ≤ sizeP keys.length := by unfold sizeP; omega
    rw [if_pos (by omega)]
    exact rbuild_l0 keys (sizeP keys.length) (by omega) (by omega) hk2 M hM hM2 keys.length 0 k (by omega) (by omega)
theorem build_f (keys : List ByteArray) (hk2 : keys.length ≤ 1000000) (hM : ∀ s ∈ keys, s.size ≤ 300) : filter_Build.f keys = some (buildP keys) := by
  unfold filter_Build.f
  rw [if_pos ⟨hk2, fun s hs => by have := hM s hs; omega⟩]
theorem may_f (f key : ByteArray) (h : f.size ≤ 140737488355328) (hk : key.size < 9223372036854775807) : filter_May.f f key = some (mayP f key) := by
  unfold filter_May.f; rw [if_pos ⟨h, hk⟩]
theorem shr_bit (x q : Int) (h0 : 0 ≤ x) (h1 : x < 256) (hq : 0 ≤ q) (hq2 : q < 8) : ((Int.tmod (shr .i64 x q) 2) = 0) = ¬ (x.toNat.testBit q.toNat = true) := by
  obtain ⟨m, rfl⟩ := Int.eq_ofNat_of_zero_le h0
  unfold shr
  rw [Nat.min_eq_left (by simp [IntKind.bits]; omega)]
  have e : ((m : Int) / 2 ^ q.toNat) = ((m / 2 ^ q.toNat : Nat) : Int) := by simp
  rw [e, tmod_nn (Int.natCast_nonneg _), Int.toNat_natCast, Nat.testBit_eq_decide_div_mod_eq]
  simp; omega
theorem rmay_l0 (s : ByteArray) (hs : s.size ≤ 140737488355328) (l : List Int) (hl : ∀ p ∈ l, 0 ≤ p ∧ p < 8 * (s.size : Int)) (hlen : l.length < 9223372036854775807) :
    ∀ (d m k : Nat), m + d = l.length → d < k → moultref9_May.l0 k s l (m : Int) = some ((l.drop m).all (hasBit s) && decide (0 < s.size)) := by
  intro d
  induction d with
  | zero =>
    intro m k hm hk
    obtain ⟨k, rfl⟩ : ∃ m, k = m + 1 := ⟨k - 1, by omega⟩
    simp only [moultref9_May.l0]
    rw [if_neg (by omega), List.drop_of_length_le (by omega)]
    simp
  | succ d ih =>
    intro m k hm hk
    obtain ⟨k, rfl⟩ : ∃ m, k = m + 1 := ⟨k - 1, by omega⟩
    have hlt : m < l.length := by omega
    have hp := hl _ (List.getElem_mem hlt)
    have hrd : rd l (m : Int) = l[m] := by simp [rd, List.getD_eq_getElem?_getD, hlt]
    simp only [moultref9_May.l0]
    rw [if_pos (by omega), if_pos (by omega), hrd, List.drop_eq_getElem_cons hlt, List.all_cons]
    obtain ⟨p, hpe⟩ : ∃ p, l[m] = p := ⟨_, rfl⟩
    rw [hpe] at hp ⊢
    have hb := bt_range s (p / 8)
    rw [tdiv_nn hp.1, tmod_nn hp.1, show wrap64 (p / 8) = p / 8 from by unfold wrap64; omega, show wrap64 (bt s (p / 8)) = bt s (p / 8) from by unfold wrap64; omega]
    rw [if_pos (by omega), if_pos (by omega), if_pos (by omega), wrap_succ (by omega)]
    have hbit := shr_bit (bt s (p / 8)) (p % 8) hb.1 (by omega) (by omega) (by omega)
    have hdef : hasBit s p = (bt s (p / 8)).toNat.testBit (p % 8).toNat := rfl
    by_cases hc : (bt s (p / 8)).toNat.testBit (p % 8).toNat = true
    · rw [if_neg (by rw [hbit]; simpa using hc), ih (m + 1) k (by omega) (by omega), hdef, hc, Bool.true_and]
    · rw [if_pos (by rw [hbit]; exact hc), hdef, Bool.eq_false_iff.2 hc]; rfl
theorem rmay_f (s key : ByteArray) (hs : s.size ≤ 140737488355) (hk2 : key.size < 9223372036854775807) (k : Nat) (hk : key.size + 6 < k) : moultref9_May.f k s key = some (mayP s key) := by
  unfold moultref9_May.f
  rw [show wrap64 (8 * (s.size : Int)) = 8 * (s.size : Int) from by unfold wrap64; omega, rplaces_f key hk2 _ (by omega) k hk]
  simp only [Option.bind_some]
  have hlen : (placesP key (8 * (s.size : Int))).length ≤ 4 := by unfold placesP; split <;> simp
  have h0 := rmay_l0 s (by omega) _ (placesP_range key (8 * (s.size : Int))) (by omega) _ 0 k (by rw [Nat.zero_add]) (by omega)
  rw [List.drop_zero] at h0
  refine Eq.trans h0 ?_
  unfold mayP
  by_cases h : s.size = 0
  · rw [if_pos h]; simp [h]
  · rw [if_neg h]; have : decide (0 < s.size) = true := by simp; omega
    rw [this, Bool.and_true]
end Go.Proofs.Ytdpadhmdiljpaaa.Pure
