/- Chapter 9 (filter), plain: how many bits a filter has. -/
import Derived.Test.YtdpadhmdiljpaaaPl
namespace Go.Proofs.Ytdpadhmdiljpaaa.Pure
open Go.RowKit Go.Proofs.Ytdpadhmdiljpaaa.P Go.Proofs.Ytdpadhmdiljpaaa.Fp Go.Proofs.YtdpadhmdiljpaaaW.PrintWords Go.Proofs.YtdpadhmdiljpaaaW.PrintLast Go.Proofs.YtdpadhmdiljpaaaW.PrintMore
def cntL (xs : List Int) : Nat → Nat
  | 0 => 0
  | n + 1 => cntL xs n + Lib.onesCount (rd xs n).toNat
theorem cnt_strOf {xs : List Int} (h : Byt xs) (n : Nat) : cntN (strOfNums xs) n = cntL xs n := by
  induction n with
  | zero => rfl
  | succ n ih => simp only [cntN, cntL, ih, bt_strOf h]
theorem cntP_strOf {xs : List Int} (h : Byt xs) : cntP (strOfNums xs) = cntL xs xs.length := by
  unfold cntP; rw [cnt_strOf h, strOfNums_size]
theorem cnt_set {xs : List Int} (h : Byt xs) (p : Int) : ∀ n, n ≤ xs.length → cntL (setBit xs p) n ≤ cntL xs n + (if (p / 8).toNat < n then 1 else 0) := by
  intro n
  induction n with
  | zero => intro _; simp [cntL]
  | succ n ih =>
    intro hn
    have ih := ih (by omega)
    have ho := or_u8 (h.rd (p / 8)) (pow_range p)
    simp only [cntL]
    by_cases hc : (p / 8).toNat = n
    · have e : (rd (setBit xs p) n).toNat = (rd xs (p / 8)).toNat ||| 2 ^ (p % 8).toNat := by
        unfold setBit
        rw [rd_of, List.getElem?_set, Int.toNat_natCast, if_pos hc, if_pos (by omega), Option.getD_some, ho.1, Int.toNat_natCast, pow_nat]
      have e2 : rd xs (n : Int) = rd xs (p / 8) := by rw [rd_of, rd_of, hc, Int.toNat_natCast]
      have hp := (pop_or (rd xs (p / 8)).toNat (2 ^ (p % 8).toNat)).1
      have h1 := pop_pow ⟨(p % 8).toNat, by omega⟩
      simp only at h1
      have h2 : (2 : Nat) ^ (p % 8).toNat < 2 ^ 8 := Nat.pow_lt_pow_right (n := 8) (by decide) (by omega)
      rw [Nat.mod_eq_of_lt (by omega)] at h1
      rw [e, e2]
      rw [if_neg (by omega)] at ih
      rw [if_pos (by omega)]
      omega
    · have e : rd (setBit xs p) (n : Int) = rd xs (n : Int) := by
        unfold setBit
        rw [rd_of, List.getElem?_set, Int.toNat_natCast, if_neg hc, rd_of, Int.toNat_natCast]
      rw [e]
      have : (if (p / 8).toNat < n + 1 then 1 else 0) = (if (p / 8).toNat < n then 1 else 0 : Nat) := by split <;> split <;> omega
      rw [this]; omega
theorem cnt_fill (l : List Int) : ∀ xs, Byt xs → cntL (l.foldl setBit xs) xs.length ≤ cntL xs xs.length + l.length := by
  induction l with
  | nil => intro xs _; simp
  | cons p l ih =>
    intro xs h
    have h1 := ih _ (setBit_byt h p)
    rw [setBit_length] at h1
    have h2 := cnt_set h p xs.length (Nat.le_refl _)
    rw [List.foldl_cons, List.length_cons]
    split at h2 <;> omega
theorem cnt_rep (n m : Nat) : cntL (List.replicate n 0) m = 0 := by
  induction m with
  | zero => rfl
  | succ m ih =>
    simp only [cntL, ih]
    have : rd (List.replicate n 0) (m : Int) = 0 := by rw [rd_of, List.getElem?_replicate]; split <;> rfl
    rw [this]; rfl
theorem cnt_fillN (keys : List ByteArray) (n : Nat) (hn : 1 ≤ n) : ∀ m, m ≤ keys.length → cntL (fillN keys n m) n ≤ 4 * m := by
  intro m
  induction m with
  | zero => intro _; rw [show fillN keys n 0 = List.replicate n 0 from rfl, cnt_rep]; omega
  | succ m ih =>
    intro hm
    have ok := fillN_ok keys n m (by omega)
    have h1 := cnt_fill (placesP keys[m] (8 * (n : Int))) _ ok.2.1
    rw [ok.1] at h1
    rw [fillN_succ keys n m (by omega)]
    have h2 := placesP_length keys[m] (8 * (n : Int)) (by omega)
    have := ih (by omega)
    omega
theorem pop_pos : ∀ n : Fin 256, n.val ≠ 0 → 1 ≤ Lib.onesCount n.val := by decide +kernel
theorem cnt_pos {xs : List Int} (h : Byt xs) (i : Int) (hi : 0 ≤ i) (hb : hasL xs i = true) : ∀ n : Nat, i / 8 < n → 1 ≤ cntL xs n := by
  intro n
  induction n with
  | zero => intro h; omega
  | succ n ih =>
    intro hn
    simp only [cntL]
    by_cases hc : i / 8 = n
    · unfold hasL at hb
      rw [hc] at hb
      have hr := h.rd (n : Int)
      have := pop_pos ⟨(rd xs (n : Int)).toNat, by omega⟩ (by intro e; simp only at e; rw [e] at hb; simp at hb)
      simp only at this
      omega
    · have := ih (by omega); omega
end Go.Proofs.Ytdpadhmdiljpaaa.Pure
