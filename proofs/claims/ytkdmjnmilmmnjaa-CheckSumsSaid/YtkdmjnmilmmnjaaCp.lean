/- Chapter 5 (check), plain: the sum of a text over whole numbers; it is linear, and no turn of one byte leaves it as it was. -/
import Derived.Test.YtkdmjnmilmmnjaaWWords
import Derived.Test.YtkdmjnmilmmnjaaWMore
import Derived.Laws.BitsAllLaws
import Derived.Laws.BitsLemmas
set_option linter.unusedVariables false
set_option linter.unusedSimpArgs false
namespace Go.Proofs.Ytkdmjnmilmmnjaa.Cp
open Go.RowKit Go.Proofs.YtkdmjnmilmmnjaaW.PrintWords Go.Proofs.YtkdmjnmilmmnjaaW.PrintLast Go.Proofs.YtkdmjnmilmmnjaaW.PrintMore
/-- One bit of a sum. -/
def trn (n : Nat) : Nat := if n % 2 = 1 then n / 2 ^^^ 3988292384 else n / 2
theorem div2_xor (a b : Nat) : (a ^^^ b) / 2 = a / 2 ^^^ b / 2 := by
  apply Nat.eq_of_testBit_eq
  intro i
  rw [Nat.testBit_xor, ← Nat.testBit_succ, ← Nat.testBit_succ, ← Nat.testBit_succ, Nat.testBit_xor]
theorem mod2_xor (a b : Nat) : (a ^^^ b) % 2 = if a % 2 = b % 2 then 0 else 1 := by
  have h : (a ^^^ b) % 2 = a % 2 ^^^ b % 2 := Nat.xor_mod_two_pow (n := 1)
  rw [h]
  rcases Nat.mod_two_eq_zero_or_one a with ha | ha <;> rcases Nat.mod_two_eq_zero_or_one b with hb | hb <;> rw [ha, hb] <;> rfl
theorem xor_zero_eq {a b : Nat} (h : a ^^^ b = 0) : a = b := by
  have : (a ^^^ b) ^^^ b = a := by rw [Nat.xor_assoc, Nat.xor_self, Nat.xor_zero]
  rw [← this, h, Nat.zero_xor]
theorem xor_self_mid (a b c : Nat) : (a ^^^ c) ^^^ (b ^^^ c) = a ^^^ b := by
  rw [Nat.xor_assoc, ← Nat.xor_assoc c b c, Nat.xor_comm c b, Nat.xor_assoc b c c, Nat.xor_self, Nat.xor_zero]
theorem trn_xor (a b : Nat) : trn (a ^^^ b) = trn a ^^^ trn b := by
  unfold trn
  rw [mod2_xor, div2_xor]
  rcases Nat.mod_two_eq_zero_or_one a with ha | ha <;> rcases Nat.mod_two_eq_zero_or_one b with hb | hb <;> rw [ha, hb] <;> simp
  · rw [Nat.xor_assoc]
  · rw [Nat.xor_assoc, Nat.xor_assoc, Nat.xor_comm 3988292384 (b / 2)]
  · rw [xor_self_mid]
theorem xor_lt {a b : Nat} (ha : a < 4294967296) (hb : b < 4294967296) : a ^^^ b < 4294967296 := Nat.xor_lt_two_pow (n := 32) ha hb
theorem trn_lt {n : Nat} (h : n < 4294967296) : trn n < 4294967296 := by
  unfold trn
  split
  · exact xor_lt (by omega) (by decide)
  · omega
theorem trn_zero : trn 0 = 0 := rfl
/-- The turn loses nothing. -/
theorem trn_ne {n : Nat} (h : n < 4294967296) (h0 : n ≠ 0) : trn n ≠ 0 := by
  unfold trn
  split
  · intro he
    have hb : (n / 2 ^^^ 3988292384).testBit 31 = true := by
      rw [Nat.testBit_xor, Nat.testBit_lt_two_pow (x := n / 2) (i := 31) (by omega)]
      decide
    rw [he] at hb; simp at hb
  · omega
def trns : Nat → Nat → Nat
  | 0, n => n
  | k + 1, n => trn (trns k n)
theorem trns_xor (k a b : Nat) : trns k (a ^^^ b) = trns k a ^^^ trns k b := by
  induction k with
  | zero => rfl
  | succ k ih => rw [trns, ih, trn_xor]; rfl
theorem trns_lt (k : Nat) {n : Nat} (h : n < 4294967296) : trns k n < 4294967296 := by
  induction k with
  | zero => exact h
  | succ k ih => exact trn_lt ih
theorem trns_ne (k : Nat) {n : Nat} (h : n < 4294967296) (h0 : n ≠ 0) : trns k n ≠ 0 := by
  induction k with
  | zero => exact h0
  | succ k ih => exact trn_ne (trns_lt k h) ih
/-- The register behind so many bytes, begun at r. -/
def regF (f : Nat → Nat) (r : Nat) : Nat → Nat
  | 0 => r
  | m + 1 => trns 8 (regF f r m ^^^ f m)
theorem regF_lt (f : Nat → Nat) (hf : ∀ i, f i < 256) (r : Nat) (hr : r < 4294967296) (m : Nat) : regF f r m < 4294967296 := by
  induction m with
  | zero => exact hr
  | succ m ih => exact trns_lt 8 (xor_lt ih (by have := hf m; omega))
theorem regF_xor (f g : Nat → Nat) (r q : Nat) (m : Nat) : regF (fun i => f i ^^^ g i) (r ^^^ q) m = regF f r m ^^^ regF g q m := by
  induction m with
  | zero => rfl
  | succ m ih =>
    rw [regF, ih, regF, regF, ← trns_xor]
    congr 1
    rw [Nat.xor_assoc, Nat.xor_assoc, ← Nat.xor_assoc (regF g q m), Nat.xor_comm (regF g q m) (f m), Nat.xor_assoc (f m)]
theorem regF_congr {f g : Nat → Nat} (r m : Nat) (h : ∀ i, i < m → f i = g i) : regF f r m = regF g r m := by
  induction m with
  | zero => rfl
  | succ m ih => rw [regF, regF, ih (fun i hi => h i (by omega)), h m (by omega)]
/-- Two registers that stand apart stand apart behind the same bytes. -/
theorem regF_apart (f : Nat → Nat) (hf : ∀ i, f i < 256) (a b : Nat) (ha : a < 4294967296) (hb : b < 4294967296) (h : a ≠ b) : ∀ m, regF f a m ≠ regF f b m := by
  intro m he
  have hx : regF f a m ^^^ regF f b m = 0 := by rw [he, Nat.xor_self]
  rw [← regF_xor] at hx
  have hz : regF (fun i => f i ^^^ f i) (a ^^^ b) m = regF (fun _ => 0) (a ^^^ b) m := regF_congr _ _ (fun i _ => Nat.xor_self _)
  rw [hz] at hx
  have hne : ∀ m, regF (fun _ => 0) (a ^^^ b) m ≠ 0 ∧ regF (fun _ => 0) (a ^^^ b) m < 4294967296 := by
    intro m
    induction m with
    | zero => exact ⟨fun e => h (xor_zero_eq e), xor_lt ha hb⟩
    | succ m ih => rw [regF, Nat.xor_zero]; exact ⟨trns_ne 8 ih.2 ih.1, trns_lt 8 ih.2⟩
  exact (hne m).1 hx
def byteN (s : ByteArray) (i : Nat) : Nat := (bt s i).toNat
theorem byteN_lt (s : ByteArray) (i : Nat) : byteN s i < 256 := by have := bt_range s i; unfold byteN; omega
def sumN (s : ByteArray) : Nat := 4294967295 ^^^ regF (byteN s) 4294967295 s.size
theorem sumN_lt (s : ByteArray) : sumN s < 4294967296 := xor_lt (by decide) (regF_lt _ (byteN_lt s) _ (by decide) _)
/-- Bytes behind one another: the register goes on. -/
theorem regF_add (f : Nat → Nat) (r m n : Nat) : regF f r (m + n) = regF (fun i => f (m + i)) (regF f r m) n := by
  induction n with
  | zero => rfl
  | succ n ih => rw [← Nat.add_assoc, regF, ih, regF]
/-- Two rows of bytes that differ at one place have other registers. -/
theorem regF_one (f g : Nat → Nat) (hf : ∀ i, f i < 256) (hg : ∀ i, g i < 256) (n k : Nat) (hk : k < n) (h : ∀ i, i < n → i ≠ k → f i = g i) (hne : f k ≠ g k) (r : Nat) (hr : r < 4294967296) : regF f r n ≠ regF g r n := by
  have e : n = (k + 1) + (n - (k + 1)) := by omega
  rw [e, regF_add f r (k + 1), regF_add g r (k + 1)]
  have h1 : regF f r k = regF g r k := regF_congr r k (fun i hi => h i (by omega) (by omega))
  have h2 : regF (fun i => f (k + 1 + i)) (regF g r (k + 1)) (n - (k + 1)) = regF (fun i => g (k + 1 + i)) (regF g r (k + 1)) (n - (k + 1)) := regF_congr _ _ (fun i hi => h _ (by omega) (by omega))
  rw [← h2]
  refine regF_apart _ (fun i => hf _) _ _ (regF_lt f hf r hr _) (regF_lt g hg r hr _) ?_ _
  rw [regF, regF, h1]
  intro he
  have hx : trns 8 (regF g r k ^^^ f k) ^^^ trns 8 (regF g r k ^^^ g k) = 0 := by rw [he, Nat.xor_self]
  rw [← trns_xor, Nat.xor_comm (regF g r k) (f k), Nat.xor_comm (regF g r k) (g k), xor_self_mid] at hx
  exact trns_ne 8 (n := f k ^^^ g k) (xor_lt (by have := hf k; omega) (by have := hg k; omega)) (fun e => hne (xor_zero_eq e)) hx
/-- As the code has it. -/
def trnG (x : Int) : Int := Go.bits .xor .u32 (x / 2) (Go.bits .and .u32 3988292384 ((-(Go.bits .and .u32 x 1)) % 4294967296))
theorem trnG_eq (n : Nat) (h : n < 4294967296) : trnG (n : Int) = trn n := by
  unfold trnG trn
  have e1 : Go.bits .and .u32 (n : Int) 1 = ((n % 2 : Nat) : Int) := by
    rw [show (1 : Int) = ((1 : Nat) : Int) from rfl, u32_and_nat n 1 h (by decide), Nat.and_one_is_mod]
  have e2 : ((n : Int) / 2) = ((n / 2 : Nat) : Int) := by omega
  rw [e1, e2]
  rcases Nat.mod_two_eq_zero_or_one n with h2 | h2
  · rw [h2, if_neg (by decide), show (-((0 : Nat) : Int)) % 4294967296 = ((0 : Nat) : Int) by decide, show (3988292384 : Int) = ((3988292384 : Nat) : Int) from rfl, u32_and_nat _ _ (by decide) (by decide), u32_xor_nat _ _ (by omega) (by decide)]
    simp
  · rw [h2, if_pos rfl, show (-((1 : Nat) : Int)) % 4294967296 = ((4294967295 : Nat) : Int) by decide, show (3988292384 : Int) = ((3988292384 : Nat) : Int) from rfl, u32_and_nat _ _ (by decide) (by decide), u32_xor_nat _ _ (by omega) (by decide)]
    rfl
theorem not_eq (n : Nat) (h : n < 4294967296) : Go.bits .xor .u32 IntKind.u32.max (n : Int) = ((4294967295 ^^^ n : Nat) : Int) := by
  rw [show IntKind.u32.max = ((4294967295 : Nat) : Int) from by decide, u32_xor_nat _ _ (by decide) h]
theorem mix_eq (n b : Nat) (h : n < 4294967296) (hb : b < 256) : Go.bits .xor .u32 (n : Int) ((b : Int) % 4294967296) = ((n ^^^ b : Nat) : Int) := by
  rw [show (b : Int) % 4294967296 = b by omega, u32_xor_nat _ _ h (by omega)]
theorem xor_ones32 (m : Nat) (h : m < 4294967296) : 4294967295 ^^^ m = 4294967295 - m := by
  have := congrArg BitVec.toNat (BitVec.xor_allOnes (x := BitVec.ofNat 32 m))
  rw [BitVec.toNat_xor, BitVec.toNat_not, BitVec.toNat_allOnes, BitVec.toNat_ofNat, Nat.mod_eq_of_lt (by omega)] at this
  rw [Nat.xor_comm]
  exact this
end Go.Proofs.Ytkdmjnmilmmnjaa.Cp
