/- FilterJoins holds: the bits of two filters of one size, laid over one another, say yes to what either says yes to; how many bits there are. Conditions: none beyond the statement's own. -/
import Derived.Test.YtdpadhmdiljpaaaPx7
import Derived.Test.YtdpadhmdiljpaaaPn
set_option linter.unusedVariables false
set_option linter.unusedSimpArgs false
namespace Go.Proofs.Ytdpadhmdiljpaaa.Pure
open Go.RowKit Go.Proofs.Ytdpadhmdiljpaaa.P Go.Proofs.Ytdpadhmdiljpaaa.Fp Go.Proofs.YtdpadhmdiljpaaaW.PrintWords Go.Proofs.YtdpadhmdiljpaaaW.PrintLast Go.Proofs.YtdpadhmdiljpaaaW.PrintMore
def orL (a b : ByteArray) (n : Nat) : List Int := (List.range n).map fun (i : Nat) => Go.bits .or .u8 (bt a (i : Int)) (bt b (i : Int))
theorem orL_rd (a b : ByteArray) (n i : Nat) (h : i < n) : rd (orL a b n) (i : Int) = ((bt a i).toNat ||| (bt b i).toNat : Nat) := by
  unfold orL
  have h1 := bt_range a i
  have h2 := bt_range b i
  rw [rd_of, Int.toNat_natCast, List.getElem?_map, List.getElem?_range h, Option.map_some, Option.getD_some, (or_u8 ⟨h1.1, by omega⟩ ⟨h2.1, by omega⟩).1]
theorem orL_byt (a b : ByteArray) (n : Nat) : Byt (orL a b n) := by
  intro x hx
  unfold orL at hx
  rw [List.mem_map] at hx
  obtain ⟨i, _, rfl⟩ := hx
  have h1 := bt_range a i
  have h2 := bt_range b i
  have := or_u8 (a := bt a i) (b := bt b i) ⟨h1.1, by omega⟩ ⟨h2.1, by omega⟩
  rw [this.1]; omega
theorem orL_length (a b : ByteArray) (n : Nat) : (orL a b n).length = n := by simp [orL]
theorem bt_take (s : ByteArray) (n : Nat) (i : Int) (hn : n ≤ s.size) (h0 : 0 ≤ i) (h : i < n) : bt (s.extract 0 n) i = bt s i := by
  unfold bt
  have e : (s.extract 0 n).size = n := by simp; omega
  rw [dif_pos (by omega), dif_pos (by omega)]
  congr 2
  simp [ByteArray.getElem_extract]
theorem set_orL (a b : ByteArray) (N i : Nat) (h : i < N) : (orL a b i ++ List.replicate (N - i) 0).set i (Go.bits .or .u8 (bt a (i : Int)) (bt b (i : Int))) = orL a b (i + 1) ++ List.replicate (N - (i + 1)) 0 := by
  apply List.ext_getElem
  · simp [orL_length]; omega
  · intro n h1 h2
    rw [List.getElem_set, List.getElem_append, List.getElem_append]
    simp only [orL_length, List.getElem_replicate]
    have e : ∀ m (h : n < (orL a b m).length), (orL a b m)[n] = Go.bits .or .u8 (bt a (n : Int)) (bt b (n : Int)) := by
      intro m h; simp [orL]
    split
    · rename_i hin
      subst hin
      rw [dif_pos (by omega), e]
    · split
      · rw [dif_pos (by omega), e, e]
      · rw [dif_neg (by omega)]
theorem joins_has (a b : ByteArray) (n : Nat) (ha : n ≤ a.size) (hb : n ≤ b.size) (p : Int) (h0 : 0 ≤ p) (h1 : p < 8 * (n : Int)) :
    hasBit (strOfNums (orL a b n)) p = (hasBit (a.extract 0 n) p || hasBit (b.extract 0 n) p) := by
  rw [hasBit_strOf (orL_byt a b n)]
  unfold hasL hasBit
  obtain ⟨j, hj⟩ : ∃ j : Nat, p / 8 = j := ⟨(p / 8).toNat, by omega⟩
  rw [hj, orL_rd a b n j (by omega), bt_take a n j ha (by omega) (by omega), bt_take b n j hb (by omega) (by omega), Int.toNat_natCast, Nat.testBit_or]
theorem joins_may (a b key : ByteArray) (n : Nat) (ha : n ≤ a.size) (hb : n ≤ b.size) (h : mayP (a.extract 0 n) key = true ∨ mayP (b.extract 0 n) key = true) : mayP (strOfNums (orL a b n)) key = true := by
  have e1 : (a.extract 0 n).size = n := by simp; omega
  have e2 : (b.extract 0 n).size = n := by simp; omega
  have e3 : (strOfNums (orL a b n)).size = n := by rw [strOfNums_size, orL_length]
  unfold mayP at *
  rw [e1, e2] at h
  rw [e3]
  by_cases hn : n = 0
  · simp [hn] at h
  · rw [if_neg hn] at h ⊢
    rw [if_neg hn] at h
    rw [List.all_eq_true]
    intro p hp
    have hr := placesP_range _ _ p hp
    rw [joins_has a b n ha hb p hr.1 hr.2]
    rcases h with h | h
    · rw [List.all_eq_true] at h; rw [h p hp, Bool.true_or]
    · rw [List.all_eq_true] at h; rw [h p hp, Bool.or_true]
theorem joins_cnt (a b : ByteArray) (n : Nat) (ha : n ≤ a.size) (hb : n ≤ b.size) : ∀ m, m ≤ n → cntN (a.extract 0 n) m ≤ cntL (orL a b n) m ∧ cntN (b.extract 0 n) m ≤ cntL (orL a b n) m ∧ cntL (orL a b n) m ≤ cntN (a.extract 0 n) m + cntN (b.extract 0 n) m := by
  intro m
  induction m with
  | zero => intro _; simp [cntN, cntL]
  | succ m ih =>
    intro hm
    have := ih (by omega)
    simp only [cntN, cntL]
    rw [orL_rd a b n m (by omega), bt_take a n m ha (by omega) (by omega), bt_take b n m hb (by omega) (by omega), Int.toNat_natCast]
    have := pop_or (bt a m).toNat (bt b m).toNat
    omega
theorem joins_end (a b key : ByteArray) (n : Nat) (ha : n ≤ a.size) (hb : n ≤ b.size) (hn : n ≤ 1000) (hk : key.size ≤ 300) (k : Nat) (hkk : 1000 < k) (hna : a.size ≤ 140737488351232) (hnb : b.size ≤ 140737488351232) :
    moultlaw9_FilterJoins.l0 (k + 1) a b key (n : Int) (orL a b n) (n : Int) = some true := by
  have e1 : (a.extract 0 n).size = n := by simp; omega
  have e2 : (b.extract 0 n).size = n := by simp; omega
  have e3 : (strOfNums (orL a b n)).size = n := by rw [strOfNums_size, orL_length]
  simp only [moultlaw9_FilterJoins.l0]
  rw [if_neg (by omega), if_pos (by omega), if_pos (by omega), Int.toNat_natCast, may_f _ _ (by omega) (by omega)]
  simp only [Option.bind_some]
  rw [if_pos (by omega), may_f _ _ (by omega) (by omega), full_f _ (by omega) k (by omega), full_f _ (by omega) k (by omega), full_f _ (by omega) k (by omega)]
  simp only [Option.bind_some]
  have hc := joins_cnt a b n ha hb n (Nat.le_refl _)
  have c1 : cntP (a.extract 0 n) = cntN (a.extract 0 n) n := by unfold cntP; rw [e1]
  have c2 : cntP (b.extract 0 n) = cntN (b.extract 0 n) n := by unfold cntP; rw [e2]
  have c3 : cntP (strOfNums (orL a b n)) = cntL (orL a b n) n := by rw [cntP_strOf (orL_byt a b n), orL_length]
  have b1 := cntN_le (a.extract 0 n) n
  have b2 := cntN_le (b.extract 0 n) n
  rw [c1, c2, c3]
  have hge : (cntL (orL a b n) n : Int) ≥ mx (cntN (a.extract 0 n) n) (cntN (b.extract 0 n) n) := by unfold mx; split <;> omega
  have hle : decide ((cntL (orL a b n) n : Int) ≤ wrap64 ((cntN (a.extract 0 n) n : Int) + (cntN (b.extract 0 n) n : Int))) = true := by
    rw [decide_eq_true_eq]; unfold wrap64; omega
  rw [if_pos hge, hle]
  cases hm1 : mayP (a.extract 0 n) key with
  | true =>
    rw [if_pos rfl, may_f _ _ (by omega) (by omega), joins_may a b key n ha hb (.inl hm1)]
    simp
  | false =>
    rw [if_neg (by decide)]
    cases hm2 : mayP (b.extract 0 n) key with
    | true =>
      rw [if_pos rfl, may_f _ _ (by omega) (by omega), joins_may a b key n ha hb (.inr hm2)]
      simp
    | false => rw [if_neg (by decide)]
theorem joins_l0 (a b key : ByteArray) (n : Nat) (ha : n ≤ a.size) (hb : n ≤ b.size) (hn : n ≤ 1000) (hk : key.size ≤ 300) (hna : a.size ≤ 140737488351232) (hnb : b.size ≤ 140737488351232) :
    ∀ (d i k : Nat), i + d = n → d + 1001 < k → moultlaw9_FilterJoins.l0 k a b key (n : Int) (orL a b i ++ List.replicate (n - i) 0) (i : Int) = some true := by
  intro d
  induction d with
  | zero =>
    intro i k hi hkk
    obtain ⟨k, rfl⟩ : ∃ m, k = m + 1 := ⟨k - 1, by omega⟩
    obtain rfl : i = n := by omega
    rw [Nat.sub_self, List.replicate_zero, List.append_nil]
    exact joins_end a b key i ha hb hn hk k (by omega) hna hnb
  | succ d ih =>
    intro i k hi hkk
    obtain ⟨k, rfl⟩ : ∃ m, k = m + 1 := ⟨k - 1, by omega⟩
    have hlt : i < n := by omega
    simp only [moultlaw9_FilterJoins.l0]
    rw [if_pos (by omega), if_pos (by omega), if_pos (by omega), if_pos (by omega), if_pos (by simp [orL_length]; omega), Int.toNat_natCast, set_orL a b n i hlt, wrap_succ (by omega)]
    exact ih (i + 1) k (by omega) (by omega)
theorem FilterJoins : moultlaw9_FilterJoins.Pure := by
  intro a b key ha hb hk
  refine ⟨3000 + 1 + 40, ?_⟩
  unfold moultlaw9_FilterJoins.f
  rw [moultlaw9_shown_le]
  simp only [Option.bind_some, if_true]
  obtain ⟨n, hn, hna, hnb⟩ : ∃ n : Nat, mn (a.size : Int) (b.size : Int) = n ∧ n ≤ a.size ∧ n ≤ b.size := by
    unfold mn; split
    · exact ⟨b.size, rfl, by omega, by omega⟩
    · exact ⟨a.size, rfl, by omega, by omega⟩
  rw [hn]
  have hj : ∀ c, moultlaw9_FilterJoins.j0 (3000 + 1 + 40) a b key true (n : Int) c = if c = true then some true else moultlaw9_FilterJoins.j0 (3000 + 1 + 40) a b key true (n : Int) false := by
    intro c
    cases c
    · rfl
    · show moultlaw9_FilterJoins.j0 (3040 + 1) a b key true (n : Int) true = _
      simp only [moultlaw9_FilterJoins.j0, if_true]
  rw [hj (decide ((key.size : Int) > 300)), hj true]
  simp only [if_true]
  split
  · rfl
  · split
    · rfl
    · rename_i h1 h2
      have h2' : key.size ≤ 300 := by
        rw [decide_eq_true_eq] at h2; omega
      show moultlaw9_FilterJoins.j0 (3040 + 1) a b key true (n : Int) false = _
      simp only [moultlaw9_FilterJoins.j0]
      rw [if_neg (by decide), if_pos (by omega), Int.toNat_natCast, if_pos (by omega)]
      have hn1 : n ≤ 1000 := by omega
      exact joins_l0 a b key n hna hnb hn1 h2' ha hb n 0 _ (by omega) (by omega)
end Go.Proofs.Ytdpadhmdiljpaaa.Pure
