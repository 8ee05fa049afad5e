/- Chapter 3 (varint), plain: a number's bytes, and bytes taken as a number, over lists of whole numbers alone. -/
import Derived.Test.YtkjfifdcnlnocaaDoorWWords
import Derived.Test.YtkjfifdcnlnocaaDoorWMore
import Derived.Laws.BitsAllLaws
import Derived.Laws.BitsLemmas
set_option linter.unusedVariables false
set_option linter.unusedSimpArgs false
namespace Go.Proofs.YtkjfifdcnlnocaaDoor.Vp
open Go.RowKit Go.Proofs.YtkjfifdcnlnocaaDoorW.PrintWords Go.Proofs.YtkjfifdcnlnocaaDoorW.PrintLast Go.Proofs.YtkjfifdcnlnocaaDoorW.PrintMore

def widthP (n : Int) : Int := if n < 16777216 then 3 else if n < 4294967296 then 4 else if n < 1099511627776 then 5 else if n < 281474976710656 then 6 else if n < 72057594037927936 then 7 else 8
def sizeP (n : Int) : Int := if n ≤ 240 then 1 else if n ≤ 2287 then 2 else if n ≤ 67823 then 3 else widthP n + 1
theorem widthP_range (n : Int) : 3 ≤ widthP n ∧ widthP n ≤ 8 := by unfold widthP; repeat' split <;> omega
def beL (n : Int) : Nat → List Int
  | 0 => []
  | k + 1 => beL (n / 256) k ++ [n % 256]
def putL (n : Int) : List Int :=
  if n ≤ 240 then [n] else if n ≤ 2287 then [241 + (n - 240) / 256, (n - 240) % 256] else if n ≤ 67823 then 249 :: beL (n - 2288) 2 else (247 + widthP n) :: beL n (widthP n).toNat
def putP (n : Int) : ByteArray := strOfNums (putL n)
theorem beL_length (k : Nat) : ∀ n, (beL n k).length = k := by
  induction k with
  | zero => intro n; rfl
  | succ k ih => intro n; simp [beL, ih]
theorem beL_succ (n : Int) : ∀ k, beL n (k + 1) = (n / 256 ^ k % 256) :: beL n k := by
  intro k
  induction k generalizing n with
  | zero => simp [beL]
  | succ k ih =>
    rw [beL, ih (n / 256)]
    simp only [List.cons_append]
    rw [Int.ediv_ediv_of_nonneg (by decide), show (256 : Int) * 256 ^ k = 256 ^ (k + 1) from by rw [Int.pow_succ, Int.mul_comm]]
    rfl
def Byt (xs : List Int) : Prop := ∀ x ∈ xs, 0 ≤ x ∧ x < 256
theorem beL_byt (k : Nat) : ∀ n, Byt (beL n k) := by
  induction k with
  | zero => intro n x hx; simp [beL] at hx
  | succ k ih =>
    intro n x hx
    rw [beL, List.mem_append, List.mem_singleton] at hx
    rcases hx with h | h
    · exact ih _ x h
    · omega
theorem putL_byt {n : Int} (h0 : 0 ≤ n) : Byt (putL n) := by
  have hw := widthP_range n
  intro x hx
  unfold putL at hx
  repeat' split at hx
  all_goals simp only [List.mem_cons, List.not_mem_nil, or_false] at hx
  · omega
  · omega
  · rcases hx with rfl | h
    · omega
    · exact beL_byt _ _ x h
  · rcases hx with rfl | h
    · omega
    · exact beL_byt _ _ x h
theorem putL_length (n : Int) : ((putL n).length : Int) = sizeP n := by
  have hw := widthP_range n
  unfold putL sizeP
  repeat' split
  all_goals simp [beL_length]
  omega
theorem sizeP_range (n : Int) : 1 ≤ sizeP n ∧ sizeP n ≤ 9 := by
  have hw := widthP_range n
  unfold sizeP; repeat' split <;> omega
theorem putL_len (n : Int) : 1 ≤ (putL n).length ∧ (putL n).length ≤ 9 := by
  have h1 := putL_length n
  have h2 := sizeP_range n
  omega
/-! ### values -/
def beV (l : List Int) : Int := l.foldl (fun n b => n * 256 + b) 0
theorem beV_append (l : List Int) (b : Int) : beV (l ++ [b]) = beV l * 256 + b := by simp [beV]
theorem p256 (k : Nat) : (256 : Int) ^ (k + 1) = 256 ^ k * 256 := Int.pow_succ ..
theorem p256_pos (k : Nat) : (0 : Int) < 256 ^ k := Int.pow_pos (by decide)
theorem beV_beL (k : Nat) : ∀ n : Int, 0 ≤ n → n < 256 ^ k → beV (beL n k) = n := by
  induction k with
  | zero => intro n h0 h1; simp at h1; rw [show n = 0 by omega]; rfl
  | succ k ih =>
    intro n h0 h1
    rw [p256] at h1
    rw [beL, beV_append, ih (n / 256) (by omega) (by omega)]; omega
theorem beL_beV_aux : ∀ (k : Nat) (l : List Int), l.length = k → Byt l → beL (beV l) k = l ∧ 0 ≤ beV l ∧ beV l < 256 ^ k := by
  intro k
  induction k with
  | zero =>
    intro l hl _
    obtain rfl := List.eq_nil_of_length_eq_zero hl
    exact ⟨rfl, by simp [beV], by simp [beV]⟩
  | succ k ih =>
    intro l hl h
    rcases List.eq_nil_or_concat l with rfl | ⟨l', b, rfl⟩
    · simp at hl
    · rw [List.concat_eq_append] at hl h ⊢
      rw [List.length_append, List.length_singleton] at hl
      have hb := h b (by simp)
      obtain ⟨h1, h2, h3⟩ := ih l' (by omega) (fun x hx => h x (by simp [hx]))
      rw [beV_append, beL, p256]
      rw [show (beV l' * 256 + b) / 256 = beV l' by omega, show (beV l' * 256 + b) % 256 = b by omega, h1]
      refine ⟨rfl, by omega, by omega⟩
theorem beL_beV (l : List Int) (h : Byt l) : beL (beV l) l.length = l ∧ 0 ≤ beV l ∧ beV l < 256 ^ l.length := beL_beV_aux _ l rfl h
theorem pw (k : Nat) : (256 : Int) ^ 1 = 256 ∧ (256 : Int) ^ 2 = 65536 ∧ (256 : Int) ^ 3 = 16777216 ∧ (256 : Int) ^ 4 = 4294967296 ∧ (256 : Int) ^ 5 = 1099511627776 ∧ (256 : Int) ^ 6 = 281474976710656 ∧ (256 : Int) ^ 7 = 72057594037927936 ∧ (256 : Int) ^ 8 = 18446744073709551616 := by decide
theorem width_pow (n : Int) (h0 : 0 ≤ n) (h1 : n < 18446744073709551616) : n < 256 ^ (widthP n).toNat := by
  obtain ⟨p1, p2, p3, p4, p5, p6, p7, p8⟩ := pw 0
  unfold widthP
  repeat' split
  all_goals simp only [Int.reduceToNat]
  all_goals omega
/-! ### taking -/
def kOf (c : Int) : Nat := if c > 249 then (c - 246).toNat else if c = 249 then 3 else if c > 240 then 2 else 1
def rawN (c : Int) (l : List Int) : Int := if kOf c = 1 then c else if kOf c = 2 then beV l + (240 + (c - 241) * 256) else if kOf c = 3 then beV l + 2288 else beV l
def takeL : List Int → Option (Int × Nat)
  | [] => none
  | c :: t => if t.length + 1 < kOf c then none else if sizeP (rawN c (t.take (kOf c - 1))) = kOf c then some (rawN c (t.take (kOf c - 1)), kOf c) else none
theorem kOf_cases (c : Int) : (249 < c ∧ kOf c = (c - 246).toNat) ∨ (c = 249 ∧ kOf c = 3) ∨ (240 < c ∧ c < 249 ∧ kOf c = 2) ∨ (c ≤ 240 ∧ kOf c = 1) := by
  unfold kOf
  repeat' split
  all_goals omega
theorem kOf_range (c : Int) (h : c < 256) : 1 ≤ kOf c ∧ kOf c ≤ 9 := by
  have := kOf_cases c
  omega
theorem take_put (n : Int) (h0 : 0 ≤ n) (h1 : n < 18446744073709551616) (rest : List Int) : takeL (putL n ++ rest) = some (n, (putL n).length) := by
  have hw := widthP_range n
  have hsz : sizeP n = ((putL n).length : Int) := (putL_length n).symm
  by_cases c1 : n ≤ 240
  · have e : putL n = [n] := by unfold putL; rw [if_pos c1]
    have k : kOf n = 1 := by unfold kOf; rw [if_neg (by omega), if_neg (by omega), if_neg (by omega)]
    have r : ∀ l, rawN n l = n := by intro l; unfold rawN; rw [if_pos k]
    rw [e, List.cons_append, takeL, k, r, if_neg (by omega), hsz, e]; simp
  · by_cases c2 : n ≤ 2287
    · have e : putL n = [241 + (n - 240) / 256, (n - 240) % 256] := by unfold putL; rw [if_neg c1, if_pos c2]
      have k : kOf (241 + (n - 240) / 256) = 2 := by unfold kOf; rw [if_neg (by omega), if_neg (by omega), if_pos (by omega)]
      have r : rawN (241 + (n - 240) / 256) [(n - 240) % 256] = n := by
        unfold rawN; rw [if_neg (by omega), if_pos k]; simp [beV]; try omega
      rw [e, List.cons_append, takeL, k, List.cons_append, show (((n - 240) % 256) :: ([] ++ rest)).take (2 - 1) = [(n - 240) % 256] by simp, r, if_neg (by simp), hsz, e]; simp
    · by_cases c3 : n ≤ 67823
      · have e : putL n = 249 :: beL (n - 2288) 2 := by unfold putL; rw [if_neg c1, if_neg c2, if_pos c3]
        have k : kOf 249 = 3 := by decide
        have hp := (pw 0).2.1
        have r : rawN 249 (beL (n - 2288) 2) = n := by
          unfold rawN; rw [if_neg (by omega), if_neg (by omega), if_pos k, beV_beL 2 _ (by omega) (by omega)]; omega
        have t : (beL (n - 2288) 2 ++ rest).take (3 - 1) = beL (n - 2288) 2 := List.take_left' (by rw [beL_length])
        rw [e, List.cons_append, takeL, k, t, r, if_neg (by simp [beL_length]; try omega), hsz, e]; simp [beL_length]
      · have e : putL n = (247 + widthP n) :: beL n (widthP n).toNat := by unfold putL; rw [if_neg c1, if_neg c2, if_neg c3]
        have k : kOf (247 + widthP n) = (widthP n).toNat + 1 := by unfold kOf; rw [if_pos (by omega)]; omega
        have r : rawN (247 + widthP n) (beL n (widthP n).toNat) = n := by
          unfold rawN; rw [if_neg (by omega), if_neg (by omega), if_neg (by omega), beV_beL _ _ h0 (width_pow n h0 h1)]
        have t : (beL n (widthP n).toNat ++ rest).take ((widthP n).toNat + 1 - 1) = beL n (widthP n).toNat := List.take_left' (by rw [beL_length]; rfl)
        rw [e, List.cons_append, takeL, k, t, r, if_neg (by simp [beL_length]; try omega), hsz, e]; simp [beL_length]
theorem put_take {s : List Int} (hs : Byt s) {n : Int} {k : Nat} (h : takeL s = some (n, k)) : 0 ≤ n ∧ n < 18446744073709551616 ∧ k = (putL n).length ∧ s = putL n ++ s.drop k := by
  cases s with
  | nil => simp [takeL] at h
  | cons c t =>
    have hc := hs c (by simp)
    rw [takeL] at h
    split at h
    · cases h
    · split at h
      · rename_i hlen hsz
        simp only [Option.some.injEq, Prod.mk.injEq] at h
        obtain ⟨rfl, rfl⟩ := h
        have hk := kOf_range c hc.2
        have hl : (t.take (kOf c - 1)).length = kOf c - 1 := by rw [List.length_take]; omega
        have hbt : Byt (t.take (kOf c - 1)) := fun x hx => hs x (by simp [List.mem_of_mem_take hx])
        obtain ⟨b1, b2, b3⟩ := beL_beV _ hbt
        rw [hl] at b1 b3
        obtain ⟨l, hle⟩ : ∃ l, t.take (kOf c - 1) = l := ⟨_, rfl⟩
        rw [hle] at hsz hl b1 b2 b3 ⊢
        have htd : t = l ++ t.drop (kOf c - 1) := by rw [← hle]; exact (List.take_append_drop _ _).symm
        have hdrop : (c :: t).drop (kOf c) = t.drop (kOf c - 1) := by
          obtain ⟨m, hm⟩ : ∃ m, kOf c = m + 1 := ⟨kOf c - 1, by omega⟩
          rw [hm]; simp
        obtain ⟨p1, p2, p3, p4, p5, p6, p7, p8⟩ := pw 0
        have hput : putL (rawN c l) = c :: l ∧ 0 ≤ rawN c l ∧ rawN c l < 18446744073709551616 := by
          by_cases k1 : kOf c = 1
          · have r : rawN c l = c := by unfold rawN; rw [if_pos k1]
            rw [r] at hsz ⊢
            have hc2 : c ≤ 240 := by have := kOf_cases c; omega
            have l0 : l = [] := List.eq_nil_of_length_eq_zero (by omega)
            refine ⟨?_, by omega, by omega⟩
            unfold putL; rw [if_pos hc2, l0]
          · by_cases k2 : kOf c = 2
            · have r : rawN c l = beV l + (240 + (c - 241) * 256) := by unfold rawN; rw [if_neg k1, if_pos k2]
              have hc2 : 240 < c ∧ c < 249 := by have := kOf_cases c; omega
              rw [k2] at hl b1 b3
              obtain ⟨b, hb⟩ : ∃ b, l = [b] := List.length_eq_one_iff.1 (by omega)
              subst hb
              have hv : beV [b] = b := by simp [beV]
              have hb := hbt b (by rw [hle]; simp)
              rw [r, hv] at hsz ⊢
              have hn : 240 < b + (240 + (c - 241) * 256) ∧ b + (240 + (c - 241) * 256) ≤ 2287 := by
                have hw := widthP_range (b + (240 + (c - 241) * 256))
                unfold sizeP at hsz; repeat' split at hsz
                all_goals omega
              refine ⟨?_, by omega, by omega⟩
              unfold putL
              rw [if_neg (by omega), if_pos hn.2]
              congr 1
              · omega
              · congr 1; omega
            · by_cases k3 : kOf c = 3
              · have r : rawN c l = beV l + 2288 := by unfold rawN; rw [if_neg k1, if_neg k2, if_pos k3]
                have hc2 : c = 249 := by have := kOf_cases c; omega
                rw [k3] at hl b1 b3
                simp only [Nat.reduceSub] at hl b1 b3
                rw [r] at hsz ⊢
                have hn : 2287 < beV l + 2288 ∧ beV l + 2288 ≤ 67823 := by omega
                refine ⟨?_, by omega, by omega⟩
                unfold putL
                rw [if_neg (by omega), if_neg (by omega), if_pos hn.2, show beV l + 2288 - 2288 = beV l by omega, b1, hc2]
              · have r : rawN c l = beV l := by unfold rawN; rw [if_neg k1, if_neg k2, if_neg k3]
                have hc2 : 249 < c ∧ kOf c = (c - 246).toNat := by have := kOf_cases c; omega
                rw [r] at hsz ⊢
                have hw := widthP_range (beV l)
                have hn : 67823 < beV l ∧ widthP (beV l) + 1 = kOf c := by
                  unfold sizeP at hsz; repeat' split at hsz
                  all_goals omega
                have hlt : beV l < 18446744073709551616 := by
                  have : kOf c = 4 ∨ kOf c = 5 ∨ kOf c = 6 ∨ kOf c = 7 ∨ kOf c = 8 ∨ kOf c = 9 := by omega
                  rcases this with h | h | h | h | h | h <;> rw [h] at b3 <;> simp only [Nat.reduceSub] at b3 <;> omega
                refine ⟨?_, by omega, hlt⟩
                unfold putL
                rw [if_neg (by omega), if_neg (by omega), if_neg (by omega), show (widthP (beV l)).toNat = kOf c - 1 by omega, b1]
                congr 1; omega
        refine ⟨hput.2.1, hput.2.2, ?_, ?_⟩
        · rw [hput.1, List.length_cons]; omega
        · rw [hput.1, hdrop, List.cons_append, ← htd]
      · cases h
theorem take_cut (n : Int) (h0 : 0 ≤ n) (h1 : n < 18446744073709551616) (i : Nat) (hi : i < (putL n).length) : takeL ((putL n).take i) = none := by
  cases h : takeL ((putL n).take i) with
  | none => rfl
  | some p =>
    obtain ⟨m, k⟩ := p
    exfalso
    have hb : Byt ((putL n).take i) := fun x hx => putL_byt h0 x (List.mem_of_mem_take hx)
    obtain ⟨m0, m1, hk, he⟩ := put_take hb h
    have hn : putL n = putL m ++ (((putL n).take i).drop k ++ (putL n).drop i) := by
      rw [← List.append_assoc, ← he, List.take_append_drop]
    have h2 := take_put m m0 m1 (((putL n).take i).drop k ++ (putL n).drop i)
    rw [← hn] at h2
    have h3 := take_put n h0 h1 []
    rw [List.append_nil, h2] at h3
    simp only [Option.some.injEq, Prod.mk.injEq] at h3
    have hl : (putL m).length ≤ ((putL n).take i).length := by rw [he, List.length_append]; omega
    rw [List.length_take, h3.1] at hl
    omega
/-! ### standing -/
def cmpL : List Int → List Int → Int
  | [], [] => 0
  | [], _ :: _ => -1
  | _ :: _, [] => 1
  | a :: s, b :: t => if a < b then -1 else if a > b then 1 else cmpL s t
theorem cmpL_refl (l : List Int) : cmpL l l = 0 := by
  induction l with
  | nil => rfl
  | cons a l ih => rw [cmpL, if_neg (by omega), if_neg (by omega), ih]
theorem cmpL_snoc (a b : Int) : ∀ s t : List Int, s.length = t.length → cmpL (s ++ [a]) (t ++ [b]) = if cmpL s t = 0 then (if a < b then -1 else if a > b then 1 else 0) else cmpL s t := by
  intro s
  induction s with
  | nil =>
    intro t h
    obtain rfl := List.eq_nil_of_length_eq_zero h.symm
    simp [cmpL]
  | cons x s ih =>
    intro t h
    cases t with
    | nil => simp at h
    | cons y t =>
      rw [List.cons_append, List.cons_append, cmpL, cmpL]
      split
      · simp
      · split
        · simp
        · exact ih t (by simpa using h)
theorem cmp_beL (k : Nat) : ∀ x y : Int, x < y → 0 ≤ x → y < 256 ^ k → cmpL (beL x k) (beL y k) = -1 := by
  induction k with
  | zero => intro x y h h0 h1; simp at h1; omega
  | succ k ih =>
    intro x y h h0 h1
    rw [p256] at h1
    rw [beL, beL, cmpL_snoc _ _ _ _ (by rw [beL_length, beL_length])]
    by_cases c : x / 256 < y / 256
    · have := ih (x / 256) (y / 256) c (by omega) (by omega)
      rw [this, if_neg (by decide)]
    · have e : x / 256 = y / 256 := by omega
      rw [e, cmpL_refl, if_pos rfl, if_pos (by omega)]
theorem cmpL_neg : ∀ s t : List Int, cmpL t s = - cmpL s t := by
  intro s
  induction s with
  | nil => intro t; cases t <;> simp [cmpL]
  | cons x s ih =>
    intro t
    cases t with
    | nil => simp [cmpL]
    | cons y t =>
      rw [cmpL, cmpL]
      by_cases h1 : x < y
      · rw [if_neg (by omega), if_pos (by omega), if_pos h1]; rfl
      · by_cases h2 : x > y
        · rw [if_pos (by omega), if_neg h1, if_pos h2]
        · rw [if_neg (by omega), if_neg (by omega), if_neg h1, if_neg h2, ih t]
/-- A lesser number's bytes stand ahead, are not more, and are not the other's beginning. -/
theorem put_cmp (a b : Int) (h0 : 0 ≤ a) (h : a < b) (h1 : b < 18446744073709551616) : cmpL (putL a) (putL b) = -1 ∧ (putL a).length ≤ (putL b).length := by
  have ha := widthP_range a
  have hb := widthP_range b
  have la := putL_length a
  have lb := putL_length b
  obtain ⟨p1, p2, p3, p4, p5, p6, p7, p8⟩ := pw 0
  have hmono : widthP a ≤ widthP b := by
    unfold widthP
    repeat' split
    all_goals omega
  have hsz : sizeP a ≤ sizeP b := by
    unfold sizeP
    repeat' split
    all_goals omega
  refine ⟨?_, by omega⟩
  unfold putL
  by_cases a1 : a ≤ 240
  · rw [if_pos a1]
    by_cases b1 : b ≤ 240
    · rw [if_pos b1, cmpL, if_pos h]
    · rw [if_neg b1]
      by_cases b2 : b ≤ 2287
      · rw [if_pos b2, cmpL, if_pos (by omega)]
      · rw [if_neg b2]
        by_cases b3 : b ≤ 67823
        · rw [if_pos b3, cmpL, if_pos (by omega)]
        · rw [if_neg b3, cmpL, if_pos (by omega)]
  · rw [if_neg a1, if_neg (show ¬ b ≤ 240 by omega)]
    by_cases a2 : a ≤ 2287
    · rw [if_pos a2]
      by_cases b2 : b ≤ 2287
      · rw [if_pos b2, cmpL]
        by_cases c : (a - 240) / 256 < (b - 240) / 256
        · rw [if_pos (by omega)]
        · rw [if_neg (by omega), if_neg (by omega), cmpL, if_pos (by omega)]
      · rw [if_neg b2]
        by_cases b3 : b ≤ 67823
        · rw [if_pos b3, cmpL, if_pos (by omega)]
        · rw [if_neg b3, cmpL, if_pos (by omega)]
    · rw [if_neg a2, if_neg (show ¬ b ≤ 2287 by omega)]
      by_cases a3 : a ≤ 67823
      · rw [if_pos a3]
        by_cases b3 : b ≤ 67823
        · rw [if_pos b3, cmpL, if_neg (by omega), if_neg (by omega)]
          exact cmp_beL 2 _ _ (by omega) (by omega) (by omega)
        · rw [if_neg b3, cmpL, if_pos (by omega)]
      · rw [if_neg a3, if_neg (show ¬ b ≤ 67823 by omega), cmpL]
        by_cases c : widthP a < widthP b
        · rw [if_pos (by omega)]
        · have e : widthP a = widthP b := by omega
          rw [if_neg (by omega), if_neg (by omega), e]
          exact cmp_beL _ _ _ h h0 (width_pow b (by omega) h1)
/-- Of two that stand apart no one is the other's beginning: their common lengths differ, too. -/
theorem put_apart (a b : Int) (h0 : 0 ≤ a) (h0' : 0 ≤ b) (h1 : a < 18446744073709551616) (h1' : b < 18446744073709551616) (h : (putL a).take (min (putL a).length (putL b).length) = (putL b).take (min (putL a).length (putL b).length)) : a = b := by
  rcases Nat.le_total (putL a).length (putL b).length with hl | hl
  · rw [Nat.min_eq_left hl, List.take_length] at h
    have e : putL b = putL a ++ (putL b).drop (putL a).length := by
      conv => lhs; rw [← List.take_append_drop (putL a).length (putL b), ← h]
    have t1 := take_put a h0 h1 ((putL b).drop (putL a).length)
    have t2 := take_put b h0' h1' []
    rw [List.append_nil] at t2
    rw [← e, t2] at t1
    simp only [Option.some.injEq, Prod.mk.injEq] at t1
    exact t1.1.symm
  · rw [Nat.min_eq_right hl, List.take_length] at h
    have e : putL a = putL b ++ (putL a).drop (putL b).length := by
      conv => lhs; rw [← List.take_append_drop (putL b).length (putL a), h]
    have t1 := take_put b h0' h1' ((putL a).drop (putL b).length)
    have t2 := take_put a h0 h1 []
    rw [List.append_nil] at t2
    rw [← e, t2] at t1
    simp only [Option.some.injEq, Prod.mk.injEq] at t1
    exact t1.1
/-! ### ints and numbers folded -/
def foldP (n : Int) : Int := if n ≥ 0 then 2 * n else -2 * n - 1
def unfoldP (u : Int) : Int := if u % 2 = 0 then u / 2 else -(u / 2) - 1
theorem unfold_fold (n : Int) : unfoldP (foldP n) = n := by unfold unfoldP foldP; repeat' split; all_goals omega
theorem fold_unfold (u : Int) (h : 0 ≤ u) : foldP (unfoldP u) = u := by unfold unfoldP foldP; repeat' split; all_goals omega
theorem foldP_range (n : Int) (h0 : -9223372036854775808 ≤ n) (h1 : n ≤ 9223372036854775807) : 0 ≤ foldP n ∧ foldP n < 18446744073709551616 := by unfold foldP; split <;> omega
theorem unfoldP_range (u : Int) (h0 : 0 ≤ u) (h1 : u < 18446744073709551616) : -9223372036854775808 ≤ unfoldP u ∧ unfoldP u ≤ 9223372036854775807 := by unfold unfoldP; split <;> omega
theorem xor_ones64 (m : Nat) (h : m < 18446744073709551616) : m ^^^ 18446744073709551615 = 18446744073709551615 - m := by
  have := congrArg BitVec.toNat (BitVec.xor_allOnes (x := BitVec.ofNat 64 m))
  rw [BitVec.toNat_xor, BitVec.toNat_not, BitVec.toNat_allOnes, BitVec.toNat_ofNat, Nat.mod_eq_of_lt (by omega)] at this
  exact this
theorem bits_xor_i64 (a b : Int) : Go.bits .xor .i64 a b = IntKind.i64.wrap ((BitVec.ofInt 64 a ^^^ BitVec.ofInt 64 b).toNat : Int) := rfl
end Go.Proofs.YtkjfifdcnlnocaaDoor.Vp
