/- Chapter 9 (filter), plain: what the hash, the places, the set's bits are, over numbers and lists alone. -/
import Derived.Test.YtdpadhmdiljpaaaWWords
import Derived.Test.YtdpadhmdiljpaaaWMore
import Derived.Laws.BitsAllLaws
import Derived.Laws.BitsLemmas
import Derived.Laws.Bits128
import Derived.Lib.BitFns
namespace Go.Proofs.Ytdpadhmdiljpaaa.Fp
open Go.RowKit Go.Proofs.YtdpadhmdiljpaaaW.PrintWords Go.Proofs.YtdpadhmdiljpaaaW.PrintLast Go.Proofs.YtdpadhmdiljpaaaW.PrintMore

theorem u64_range (x : Int) : 0 ≤ IntKind.u64.wrap x ∧ IntKind.u64.wrap x < 18446744073709551616 := by
  rw [IntKind.wrap_u64]; omega
theorem bits_u64_range (op : BinOp) (x y : Int) : 0 ≤ Go.bits op .u64 x y ∧ Go.bits op .u64 x y < 18446744073709551616 := by
  unfold Go.bits; exact u64_range _
theorem and7 (i : Int) : Go.bits .and .i64 i 7 = i % 8 := by
  have key : ((BitVec.ofInt 64 i) &&& (BitVec.ofInt 64 7)).toNat = (i % 8).toNat := by
    rw [BitVec.toNat_and, BitVec.toNat_ofInt, BitVec.toNat_ofInt]
    have h7 : ((7 : Int) % ((2 ^ 64 : Nat) : Int)).toNat = 2 ^ 3 - 1 := by decide
    rw [h7, Nat.and_two_pow_sub_one_eq_mod]
    have : ((2 ^ 64 : Nat) : Int) = 18446744073709551616 := by decide
    rw [this]
    omega
  show IntKind.i64.wrap (((BitVec.ofInt 64 i) &&& (BitVec.ofInt 64 7)).toNat : Int) = i % 8
  rw [key, IntKind.wrap_i64]; omega

/-! ### the hash -/
def hstep (h b : Int) : Int := IntKind.u64.wrap ((Go.bits .xor .u64 h (IntKind.u64.wrap b)) * 1099511628211)
def hashN (s : ByteArray) : Nat → Int
  | 0 => 14695981039346656037
  | n + 1 => hstep (hashN s n) (bt s n)
def hashP (s : ByteArray) : Int := Go.bits .xor .u64 (hashN s s.size) (hashN s s.size / 8589934592)
theorem hashN_range (s : ByteArray) (n : Nat) : 0 ≤ hashN s n ∧ hashN s n < 18446744073709551616 := by
  cases n with
  | zero => unfold hashN; omega
  | succ n => exact u64_range _
theorem hashP_range (s : ByteArray) : 0 ≤ hashP s ∧ hashP s < 18446744073709551616 := bits_u64_range _ _ _

/-! ### the places -/
def lowP (h : Int) : Int := h % 4294967296
def stepP (h : Int) : Int := Go.bits .or .u64 (h / 4294967296) 1
def plac (h n : Int) (i : Int) : Int := ((lowP h + i * stepP h) % 18446744073709551616) % n
def placesP (key : ByteArray) (n : Int) : List Int := if n < 1 then [] else [plac (hashP key) n 0, plac (hashP key) n 1, plac (hashP key) n 2, plac (hashP key) n 3]
theorem plac_range (h n i : Int) (hn : 1 ≤ n) : 0 ≤ plac h n i ∧ plac h n i < n :=
  ⟨Int.emod_nonneg _ (by omega), Int.emod_lt_of_pos _ (by omega)⟩
theorem placesP_range (key : ByteArray) (n : Int) : ∀ x ∈ placesP key n, 0 ≤ x ∧ x < n := by
  intro x hx
  unfold placesP at hx
  split at hx
  · simp at hx
  · simp only [List.mem_cons, List.not_mem_nil, or_false] at hx
    rcases hx with rfl | rfl | rfl | rfl <;> exact plac_range _ _ _ (by omega)
theorem placesP_length (key : ByteArray) (n : Int) (hn : 1 ≤ n) : (placesP key n).length = 4 := by
  unfold placesP; rw [if_neg (by omega)]; rfl
theorem stepP_eq (h : Int) (h0 : 0 ≤ h) (h1 : h < 18446744073709551616) : stepP h = if (h / 4294967296) % 2 = 0 then h / 4294967296 + 1 else h / 4294967296 := by
  unfold stepP
  obtain ⟨m, hm⟩ : ∃ m : Nat, h / 4294967296 = m := ⟨(h / 4294967296).toNat, by omega⟩
  rw [hm, show (1 : Int) = ((1 : Nat) : Int) from rfl, u64_or_nat m 1 (by omega) (by decide)]
  have ho : m ||| 1 = if m % 2 = 0 then m + 1 else m := by
    apply Nat.eq_of_testBit_eq
    intro i
    rw [Nat.testBit_or]
    by_cases hp : m % 2 = 0
    · rw [if_pos hp]
      obtain ⟨q, rfl⟩ : ∃ q, m = 2 * q := ⟨m / 2, by omega⟩
      cases i with
      | zero => simp [Nat.testBit_zero]
      | succ i =>
        rw [Nat.testBit_succ, Nat.testBit_succ, Nat.testBit_succ]
        have a : (2 * q + 1) / 2 = q := by omega
        have b : 2 * q / 2 = q := by omega
        rw [a, b]; simp
    · rw [if_neg hp]
      cases i with
      | zero => simp [Nat.testBit_zero]; omega
      | succ i => rw [Nat.testBit_succ, Nat.testBit_succ]; simp
  rw [ho]
  split <;> split <;> omega
theorem low_and (h : Int) (h0 : 0 ≤ h) (h1 : h < 18446744073709551616) : Go.bits .and .u64 h 4294967295 = h % 4294967296 := by
  obtain ⟨m, rfl⟩ := Int.eq_ofNat_of_zero_le h0
  rw [show (4294967295 : Int) = ((4294967295 : Nat) : Int) from rfl, u64_and_nat m _ (by omega) (by decide)]
  have := Nat.and_two_pow_sub_one_eq_mod m 32
  rw [show (2 : Nat) ^ 32 - 1 = 4294967295 from rfl, show (2 : Nat) ^ 32 = 4294967296 from rfl] at this
  rw [this]; omega

/-! ### bits of bytes -/
def hasBit (s : ByteArray) (i : Int) : Bool := (bt s (i / 8)).toNat.testBit (i % 8).toNat
def setBit (xs : List Int) (p : Int) : List Int := xs.set (p / 8).toNat (Go.bits .or .u8 (rd xs (p / 8)) (2 ^ (p % 8).toNat % 256))
theorem u8_range (x : Int) : 0 ≤ IntKind.u8.wrap x ∧ IntKind.u8.wrap x < 256 := by
  rw [IntKind.wrap_u8]; omega
theorem setBit_length (xs : List Int) (p : Int) : (setBit xs p).length = xs.length := by unfold setBit; simp
theorem fill_length (l : List Int) : ∀ xs : List Int, (l.foldl setBit xs).length = xs.length := by
  induction l with
  | nil => intro xs; rfl
  | cons p l ih => intro xs; rw [List.foldl_cons, ih, setBit_length]
def sizeP (m : Nat) : Nat := max 8 (m + (m + 1) / 2)
def buildN (keys : List ByteArray) (n : Nat) : List Int := keys.foldl (fun xs key => (placesP key (8 * (n : Int))).foldl setBit xs) (List.replicate n 0)
def buildP (keys : List ByteArray) : ByteArray := if keys = [] then ⟨#[]⟩ else strOfNums (buildN keys (sizeP keys.length))
def mayP (f key : ByteArray) : Bool := if f.size = 0 then false else (placesP key (8 * (f.size : Int))).all (hasBit f)
theorem and_one_shr (x i : Int) (h0 : 0 ≤ x) (h1 : x < 256) : (Go.bits .and .u8 (x / 2 ^ (i % 8).toNat) 1 == 1) = x.toNat.testBit (i % 8).toNat := by
  obtain ⟨m, rfl⟩ := Int.eq_ofNat_of_zero_le h0
  obtain ⟨j, hj⟩ : ∃ j, (i % 8).toNat = j := ⟨_, rfl⟩
  rw [hj]
  have e : ((m : Int) / 2 ^ j) = ((m / 2 ^ j : Nat) : Int) := by simp
  have hlt : m / 2 ^ j < 256 := Nat.lt_of_le_of_lt (Nat.div_le_self _ _) (by omega)
  rw [e, show (1 : Int) = ((1 : Nat) : Int) from rfl, u8_and_nat _ 1 hlt (by decide), Int.toNat_natCast, Nat.testBit_eq_decide_div_mod_eq, Nat.and_one_is_mod]
  rw [Bool.eq_iff_iff]; simp; omega


/-! ### counting bits -/
theorem pop_le : ∀ n : Fin 256, Lib.onesCount n.val ≤ 8 := Lib.onesCount_le8
theorem popAux_or (f : Nat) : ∀ a b : Nat, Lib.popAux f (a ||| b) ≤ Lib.popAux f a + Lib.popAux f b ∧ Lib.popAux f a ≤ Lib.popAux f (a ||| b) ∧ Lib.popAux f b ≤ Lib.popAux f (a ||| b) := by
  induction f with
  | zero => intro a b; simp [Lib.popAux]
  | succ f ih =>
    intro a b
    have h := ih (a / 2) (b / 2)
    have e : (a ||| b) / 2 = a / 2 ||| b / 2 := by
      apply Nat.eq_of_testBit_eq
      intro i
      rw [Nat.testBit_or, ← Nat.testBit_succ, ← Nat.testBit_succ, ← Nat.testBit_succ, Nat.testBit_or]
    have m : (a ||| b) % 2 = if a % 2 = 1 then 1 else b % 2 := by
      have h1 : (a ||| b) % 2 = a % 2 ||| b % 2 := Nat.or_mod_two_pow (n := 1)
      rw [h1]
      rcases Nat.mod_two_eq_zero_or_one a with h | h <;> rcases Nat.mod_two_eq_zero_or_one b with h' | h' <;> rw [h, h'] <;> rfl
    simp only [Lib.popAux, e, m]
    split <;> omega
theorem pop_or (a b : Nat) : Lib.onesCount (a ||| b) ≤ Lib.onesCount a + Lib.onesCount b ∧ Lib.onesCount a ≤ Lib.onesCount (a ||| b) ∧ Lib.onesCount b ≤ Lib.onesCount (a ||| b) := popAux_or 64 a b
theorem pop_bits : ∀ n : Fin 256, Lib.onesCount n.val = (n.val.testBit 0).toNat + (n.val.testBit 1).toNat + (n.val.testBit 2).toNat + (n.val.testBit 3).toNat + (n.val.testBit 4).toNat + (n.val.testBit 5).toNat + (n.val.testBit 6).toNat + (n.val.testBit 7).toNat := by decide +kernel
theorem pop_pow : ∀ q : Fin 8, Lib.onesCount (2 ^ q.val % 256) = 1 := by decide +kernel
def cntN (s : ByteArray) : Nat → Nat
  | 0 => 0
  | n + 1 => cntN s n + Lib.onesCount (bt s n).toNat
def cntP (s : ByteArray) : Nat := cntN s s.size
theorem bt_pop (s : ByteArray) (i : Int) : Lib.onesCount (bt s i).toNat ≤ 8 := by
  have := bt_range s i
  exact pop_le ⟨(bt s i).toNat, by omega⟩
theorem cntN_le (s : ByteArray) (n : Nat) : cntN s n ≤ 8 * n := by
  induction n with
  | zero => simp [cntN]
  | succ n ih => have := bt_pop s n; simp only [cntN]; omega
/-- How many of the first n bits are set. -/
def cbN (s : ByteArray) : Nat → Nat
  | 0 => 0
  | n + 1 => cbN s n + (hasBit s n).toNat
theorem cb_cnt (s : ByteArray) (n : Nat) : cbN s (8 * n) = cntN s n := by
  induction n with
  | zero => rfl
  | succ n ih =>
    have hb := bt_range s n
    have hp := pop_bits ⟨(bt s n).toNat, by omega⟩
    simp only at hp
    have e : ∀ j : Nat, j < 8 → hasBit s ((8 * n + j : Nat) : Int) = (bt s n).toNat.testBit j := by
      intro j hj
      unfold hasBit
      rw [show ((8 * n + j : Nat) : Int) / 8 = (n : Int) by omega, show (((8 * n + j : Nat) : Int) % 8).toNat = j by omega]
    have e0 := e 0 (by decide); have e1 := e 1 (by decide); have e2 := e 2 (by decide); have e3 := e 3 (by decide)
    have e4 := e 4 (by decide); have e5 := e 5 (by decide); have e6 := e 6 (by decide); have e7 := e 7 (by decide)
    rw [Nat.add_zero] at e0
    rw [show 8 * (n + 1) = 8 * n + 1 + 1 + 1 + 1 + 1 + 1 + 1 + 1 by omega]
    simp only [cbN, cntN, ih, hp, Nat.add_assoc, e0, e1, e2, e3, e4, e5, e6, e7]

/-! ### rows of bytes -/
def Byt (xs : List Int) : Prop := ∀ x ∈ xs, 0 ≤ x ∧ x < 256
def hasL (xs : List Int) (i : Int) : Bool := (rd xs (i / 8)).toNat.testBit (i % 8).toNat
theorem rd_of (xs : List Int) (i : Int) : rd xs i = xs[i.toNat]?.getD 0 := by simp [rd, List.getD_eq_getElem?_getD]
theorem Byt.rd {xs : List Int} (h : Byt xs) (i : Int) : 0 ≤ rd xs i ∧ rd xs i < 256 := by
  rw [rd_of]
  cases e : xs[i.toNat]? with
  | none => simp
  | some x => exact h x (List.mem_of_getElem? e)
theorem bt_strOf {xs : List Int} (h : Byt xs) (i : Int) : bt (strOfNums xs) i = rd xs i := by
  unfold bt
  split
  · rename_i hh
    rw [strOfNums_size] at hh
    have hx := h _ (List.getElem_mem hh)
    have e : (strOfNums xs)[i.toNat]'(by rw [strOfNums_size]; exact hh) = UInt8.ofNat (xs[i.toNat]).toNat := by
      show (strOfNums xs).data[i.toNat]'_ = _
      simp [strOfNums]
    rw [e, rd_of, List.getElem?_eq_getElem hh]
    simp
    omega
  · rename_i hh
    rw [strOfNums_size] at hh
    rw [rd_of, List.getElem?_eq_none (by omega)]; rfl
theorem hasBit_strOf {xs : List Int} (h : Byt xs) (i : Int) : hasBit (strOfNums xs) i = hasL xs i := by
  unfold hasBit hasL; rw [bt_strOf h]
theorem or_u8 {a b : Int} (ha : 0 ≤ a ∧ a < 256) (hb : 0 ≤ b ∧ b < 256) : Go.bits .or .u8 a b = ((a.toNat ||| b.toNat : Nat) : Int) ∧ a.toNat ||| b.toNat < 256 :=
  ⟨u8_or a b ha.1 ha.2 hb.1 hb.2, Nat.or_lt_two_pow (n := 8) (by omega) (by omega)⟩
theorem pow_range (p : Int) : 0 ≤ (2 ^ (p % 8).toNat % 256 : Int) ∧ (2 ^ (p % 8).toNat % 256 : Int) < 256 := ⟨Int.emod_nonneg _ (by decide), Int.emod_lt_of_pos _ (by decide)⟩
theorem pow_nat (p : Int) : (2 ^ (p % 8).toNat % 256 : Int).toNat = 2 ^ (p % 8).toNat := by
  have h : (p % 8).toNat < 8 := by omega
  have h2 : (2 : Nat) ^ (p % 8).toNat < 256 := Nat.pow_lt_pow_right (n := 8) (by decide) h
  have e : (2 ^ (p % 8).toNat : Int) = ((2 ^ (p % 8).toNat : Nat) : Int) := by simp
  rw [e, Int.emod_eq_of_lt (Int.natCast_nonneg _) (by omega), Int.toNat_natCast]
theorem setBit_byt {xs : List Int} (h : Byt xs) (p : Int) : Byt (setBit xs p) := by
  intro x hx
  unfold setBit at hx
  have ho := or_u8 (h.rd (p / 8)) (pow_range p)
  rcases List.mem_or_eq_of_mem_set hx with h1 | h1
  · exact h x h1
  · rw [h1, ho.1]; omega
theorem setBit_has {xs : List Int} (h : Byt xs) {p : Int} (h0 : 0 ≤ p) (h1 : p < 8 * (xs.length : Int)) (i : Int) (hi : 0 ≤ i) : hasL (setBit xs p) i = (hasL xs i || decide (i = p)) := by
  have ho := or_u8 (h.rd (p / 8)) (pow_range p)
  unfold hasL setBit
  rw [rd_of (xs.set _ _), List.getElem?_set, ho.1]
  have hl : (p / 8).toNat < xs.length := by omega
  by_cases hc : (p / 8).toNat = (i / 8).toNat
  · rw [if_pos hc, if_pos hl]
    have e8 : i / 8 = p / 8 := by omega
    rw [Option.getD_some, Int.toNat_natCast, Nat.testBit_or, pow_nat, Nat.testBit_two_pow, e8]
    have : decide ((p % 8).toNat = (i % 8).toNat) = decide (i = p) := by
      rw [decide_eq_decide]; omega
    rw [this]
  · rw [if_neg hc, ← rd_of]
    have : decide (i = p) = false := by simp; omega
    rw [this, Bool.or_false]
theorem fill_byt (l : List Int) : ∀ xs, Byt xs → Byt (l.foldl setBit xs) := by
  induction l with
  | nil => intro xs h; exact h
  | cons p l ih => intro xs h; exact ih _ (setBit_byt h p)
theorem fill_has (l : List Int) : ∀ xs, Byt xs → (∀ p ∈ l, 0 ≤ p ∧ p < 8 * (xs.length : Int)) → ∀ i, 0 ≤ i → hasL (l.foldl setBit xs) i = (hasL xs i || decide (i ∈ l)) := by
  induction l with
  | nil => intro xs h _ i _; simp
  | cons p l ih =>
    intro xs h hl i hi
    have hp := hl p (by simp)
    rw [List.foldl_cons, ih _ (setBit_byt h p) (fun q hq => by rw [setBit_length]; exact hl q (by simp [hq])) i hi, setBit_has h hp.1 hp.2 i hi]
    simp [Bool.or_assoc]
theorem rep_byt (n : Nat) : Byt (List.replicate n 0) := by
  intro x hx
  rw [List.mem_replicate] at hx
  omega
theorem rep_has (n : Nat) (i : Int) : hasL (List.replicate n 0) i = false := by
  unfold hasL
  rw [rd_of, List.getElem?_replicate]
  split <;> simp
def fillN (keys : List ByteArray) (n : Nat) (m : Nat) : List Int := (keys.take m).foldl (fun xs key => (placesP key (8 * (n : Int))).foldl setBit xs) (List.replicate n 0)
theorem fillN_succ (keys : List ByteArray) (n m : Nat) (h : m < keys.length) : fillN keys n (m + 1) = (placesP keys[m] (8 * (n : Int))).foldl setBit (fillN keys n m) := by
  unfold fillN; rw [List.take_succ_eq_append_getElem h, List.foldl_append]; rfl
theorem fillN_all (keys : List ByteArray) (n : Nat) : fillN keys n keys.length = buildN keys n := by
  unfold fillN buildN; rw [List.take_length]
theorem fillN_ok (keys : List ByteArray) (n : Nat) : ∀ m, m ≤ keys.length → (fillN keys n m).length = n ∧ Byt (fillN keys n m) ∧ ∀ i, 0 ≤ i → hasL (fillN keys n m) i = (keys.take m).any fun key => decide (i ∈ placesP key (8 * (n : Int))) := by
  intro m
  induction m with
  | zero => intro _; exact ⟨by simp [fillN], rep_byt n, fun i _ => by simp [fillN, rep_has]⟩
  | succ m ih =>
    intro hm
    obtain ⟨a, b, c⟩ := ih (by omega)
    rw [fillN_succ keys n m (by omega)]
    refine ⟨by rw [fill_length, a], fill_byt _ _ b, fun i hi => ?_⟩
    rw [fill_has _ _ b (fun p hp => by rw [a]; exact placesP_range _ _ p hp) i hi, c i hi, List.take_succ_eq_append_getElem (by omega), List.any_append]
    simp
theorem build_ok (keys : List ByteArray) (n : Nat) : (buildN keys n).length = n ∧ Byt (buildN keys n) ∧ ∀ i, 0 ≤ i → hasL (buildN keys n) i = keys.any fun key => decide (i ∈ placesP key (8 * (n : Int))) := by
  have := fillN_ok keys n keys.length (Nat.le_refl _)
  rwa [fillN_all, List.take_length] at this
end Go.Proofs.Ytdpadhmdiljpaaa.Fp
