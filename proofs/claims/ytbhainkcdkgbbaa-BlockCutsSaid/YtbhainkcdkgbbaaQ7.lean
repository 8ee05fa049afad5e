import Derived.Below
import Derived.Deep.Draws
import Derived.Deep.AppendLies
import Derived.Maps.AppendAt
import Derived.OwnWalk
import Derived.Laws.BytesArg
import Derived.Laws.MakeOwn
import Derived.Laws.OwnMore
import Derived.Deep.OwnRows
import Derived.Tactics
import Derived.Lib.ConvBytes
import Derived.Laws.Slices
import Derived.WalkKit
import Derived.KernelRfl
import Derived.RowKit3
import Derived.Deep.LoopGhost
import Derived.Deep.QuietTactic
import Derived.BigQuiet
import Derived.WideLaws
import Derived.Deep.DeepCutAuto
import Derived.Deep.CutBlock
import Derived.Deep.RegionHeld3
import Derived.Laws.Rows
import Derived.Lib.AppendStr
import Derived.ArgAppend
import Derived.Laws.IdiomCopy
import Derived.RowKit
import Derived.OrdersHeld
import Derived.Laws.BitsLemmas
import Derived.Laws.BitsAllLaws
import Derived.Laws.Strings
import Derived.Test.YtbhainkcdkgbbaaProg
import Derived.Lib.Hide
import Derived.Laws.ShiftsVar
import Derived.Laws.ShiftsVarLaws
import Derived.Shelf.Strings.Builder1
import Derived.Laws.StructEq
import Derived.WalkSpells
import Derived.Outline
import Derived.RegionTactic
import Derived.Deep.RegionWith
import Derived.StillTailTactics
import Derived.Test.YtbhainkcdkgbbaaQ0
import Derived.Test.YtbhainkcdkgbbaaQ1
import Derived.Test.YtbhainkcdkgbbaaQ2
import Derived.Test.YtbhainkcdkgbbaaQ3
import Derived.Test.YtbhainkcdkgbbaaQ4
import Derived.Test.YtbhainkcdkgbbaaQ5
import Derived.Test.YtbhainkcdkgbbaaQ6
namespace Go.Proofs.Ytbhainkcdkgbbaa.P
end Go.Proofs.Ytbhainkcdkgbbaa.P
namespace Go.Proofs.Ytbhainkcdkgbbaa.Sl
end Go.Proofs.Ytbhainkcdkgbbaa.Sl
namespace Go.Proofs.Ytbhainkcdkgbbaa.Vp
end Go.Proofs.Ytbhainkcdkgbbaa.Vp
namespace Go.Proofs.YtbhainkcdkgbbaaW.PrintLast
end Go.Proofs.YtbhainkcdkgbbaaW.PrintLast
namespace Go.Proofs.YtbhainkcdkgbbaaW.PrintMore
end Go.Proofs.YtbhainkcdkgbbaaW.PrintMore
namespace Go.Proofs.YtbhainkcdkgbbaaW.PrintWords
end Go.Proofs.YtbhainkcdkgbbaaW.PrintWords
section
set_option linter.unusedVariables false
set_option linter.unusedSimpArgs false
namespace Go.Proofs.YtbhainkcdkgbbaaW.PrintWords
open Go.RowKit
theorem bt_range (s : ByteArray) (i : Int) : 0 ≤ bt s i ∧ bt s i ≤ 255 := by
  unfold bt
  split
  · rename_i h
    have := (s[i.toNat]'h).toNat_lt
    omega
  · omega
end Go.Proofs.YtbhainkcdkgbbaaW.PrintWords

end
section
set_option linter.unusedVariables false
set_option linter.unusedSimpArgs false
namespace Go.Proofs.Ytbhainkcdkgbbaa.Vp
open Go.RowKit Go.Proofs.YtbhainkcdkgbbaaW.PrintWords Go.Proofs.YtbhainkcdkgbbaaW.PrintLast Go.Proofs.YtbhainkcdkgbbaaW.PrintMore
def Byt (xs : List Int) : Prop := ∀ x ∈ xs, 0 ≤ x ∧ x < 256
theorem beL_byt (k : Nat) : ∀ n, Byt (beL n k) := by
  induction k with
  | zero => intro n x hx; simp [beL] at hx
  | succ k ih =>
    intro n x hx
    rw [beL, List.mem_append, List.mem_singleton] at hx
    rcases hx with h | h
    · exact ih _ x h
    · omega
theorem putL_byt {n : Int} (h0 : 0 ≤ n) : Byt (putL n) := by
  have hw := widthP_range n
  intro x hx
  unfold putL at hx
  repeat' split at hx
  all_goals simp only [List.mem_cons, List.not_mem_nil, or_false] at hx
  · omega
  · omega
  · rcases hx with rfl | h
    · omega
    · exact beL_byt _ _ x h
  · rcases hx with rfl | h
    · omega
    · exact beL_byt _ _ x h
def beV (l : List Int) : Int := l.foldl (fun n b => n * 256 + b) 0
theorem beV_append (l : List Int) (b : Int) : beV (l ++ [b]) = beV l * 256 + b := by simp [beV]
theorem beV_beL (k : Nat) : ∀ n : Int, 0 ≤ n → n < 256 ^ k → beV (beL n k) = n := by
  induction k with
  | zero => intro n h0 h1; simp at h1; rw [show n = 0 by omega]; rfl
  | succ k ih =>
    intro n h0 h1
    rw [p256] at h1
    rw [beL, beV_append, ih (n / 256) (by omega) (by omega)]; omega
theorem beL_beV_aux : ∀ (k : Nat) (l : List Int), l.length = k → Byt l → beL (beV l) k = l ∧ 0 ≤ beV l ∧ beV l < 256 ^ k := by
  intro k
  induction k with
  | zero =>
    intro l hl _
    obtain rfl := List.eq_nil_of_length_eq_zero hl
    exact ⟨rfl, by simp [beV], by simp [beV]⟩
  | succ k ih =>
    intro l hl h
    rcases List.eq_nil_or_concat l with rfl | ⟨l', b, rfl⟩
    · simp at hl
    · rw [List.concat_eq_append] at hl h ⊢
      rw [List.length_append, List.length_singleton] at hl
      have hb := h b (by simp)
      obtain ⟨h1, h2, h3⟩ := ih l' (by omega) (fun x hx => h x (by simp [hx]))
      rw [beV_append, beL, p256]
      rw [show (beV l' * 256 + b) / 256 = beV l' by omega, show (beV l' * 256 + b) % 256 = b by omega, h1]
      refine ⟨rfl, by omega, by omega⟩
theorem beL_beV (l : List Int) (h : Byt l) : beL (beV l) l.length = l ∧ 0 ≤ beV l ∧ beV l < 256 ^ l.length := beL_beV_aux _ l rfl h
theorem width_pow (n : Int) (h0 : 0 ≤ n) (h1 : n < 18446744073709551616) : n < 256 ^ (widthP n).toNat := by
  obtain ⟨p1, p2, p3, p4, p5, p6, p7, p8⟩ := pw 0
  unfold widthP
  repeat' split
  all_goals simp only [Int.reduceToNat]
  all_goals omega
def kOf (c : Int) : Nat := if c > 249 then (c - 246).toNat else if c = 249 then 3 else if c > 240 then 2 else 1
def rawN (c : Int) (l : List Int) : Int := if kOf c = 1 then c else if kOf c = 2 then beV l + (240 + (c - 241) * 256) else if kOf c = 3 then beV l + 2288 else beV l
def takeL : List Int → Option (Int × Nat)
  | [] => none
  | c :: t => if t.length + 1 < kOf c then none else if sizeP (rawN c (t.take (kOf c - 1))) = kOf c then some (rawN c (t.take (kOf c - 1)), kOf c) else none
theorem kOf_cases (c : Int) : (249 < c ∧ kOf c = (c - 246).toNat) ∨ (c = 249 ∧ kOf c = 3) ∨ (240 < c ∧ c < 249 ∧ kOf c = 2) ∨ (c ≤ 240 ∧ kOf c = 1) := by
  unfold kOf
  repeat' split
  all_goals omega
theorem kOf_range (c : Int) (h : c < 256) : 1 ≤ kOf c ∧ kOf c ≤ 9 := by
  have := kOf_cases c
  omega
theorem take_put (n : Int) (h0 : 0 ≤ n) (h1 : n < 18446744073709551616) (rest : List Int) : takeL (putL n ++ rest) = some (n, (putL n).length) := by
  have hw := widthP_range n
  have hsz : sizeP n = ((putL n).length : Int) := (putL_length n).symm
  by_cases c1 : n ≤ 240
  · have e : putL n = [n] := by unfold putL; rw [if_pos c1]
    have k : kOf n = 1 := by unfold kOf; rw [if_neg (by omega), if_neg (by omega), if_neg (by omega)]
    have r : ∀ l, rawN n l = n := by intro l; unfold rawN; rw [if_pos k]
    rw [e, List.cons_append, takeL, k, r, if_neg (by omega), hsz, e]; simp
  · by_cases c2 : n ≤ 2287
    · have e : putL n = [241 + (n - 240) / 256, (n - 240) % 256] := by unfold putL; rw [if_neg c1, if_pos c2]
      have k : kOf (241 + (n - 240) / 256) = 2 := by unfold kOf; rw [if_neg (by omega), if_neg (by omega), if_pos (by omega)]
      have r : rawN (241 + (n - 240) / 256) [(n - 240) % 256] = n := by
        unfold rawN; rw [if_neg (by omega), if_pos k]; simp [beV]; try omega
      rw [e, List.cons_append, takeL, k, List.cons_append, show (((n - 240) % 256) :: ([] ++ rest)).take (2 - 1) = [(n - 240) % 256] by simp, r, if_neg (by simp), hsz, e]; simp
    · by_cases c3 : n ≤ 67823
      · have e : putL n = 249 :: beL (n - 2288) 2 := by unfold putL; rw [if_neg c1, if_neg c2, if_pos c3]
        have k : kOf 249 = 3 := by decide
        have hp := (pw 0).2.1
        have r : rawN 249 (beL (n - 2288) 2) = n := by
          unfold rawN; rw [if_neg (by omega), if_neg (by omega), if_pos k, beV_beL 2 _ (by omega) (by omega)]; omega
        have t : (beL (n - 2288) 2 ++ rest).take (3 - 1) = beL (n - 2288) 2 := List.take_left' (by rw [beL_length])
        rw [e, List.cons_append, takeL, k, t, r, if_neg (by simp [beL_length]; try omega), hsz, e]; simp [beL_length]
      · have e : putL n = (247 + widthP n) :: beL n (widthP n).toNat := by unfold putL; rw [if_neg c1, if_neg c2, if_neg c3]
        have k : kOf (247 + widthP n) = (widthP n).toNat + 1 := by unfold kOf; rw [if_pos (by omega)]; omega
        have r : rawN (247 + widthP n) (beL n (widthP n).toNat) = n := by
          unfold rawN; rw [if_neg (by omega), if_neg (by omega), if_neg (by omega), beV_beL _ _ h0 (width_pow n h0 h1)]
        have t : (beL n (widthP n).toNat ++ rest).take ((widthP n).toNat + 1 - 1) = beL n (widthP n).toNat := List.take_left' (by rw [beL_length]; rfl)
        rw [e, List.cons_append, takeL, k, t, r, if_neg (by simp [beL_length]; try omega), hsz, e]; simp [beL_length]
theorem put_take {s : List Int} (hs : Byt s) {n : Int} {k : Nat} (h : takeL s = some (n, k)) : 0 ≤ n ∧ n < 18446744073709551616 ∧ k = (putL n).length ∧ s = putL n ++ s.drop k := by
  cases s with
  | nil => simp [takeL] at h
  | cons c t =>
    have hc := hs c (by simp)
    rw [takeL] at h
    split at h
    · cases h
    · split at h
      · rename_i hlen hsz
        simp only [Option.some.injEq, Prod.mk.injEq] at h
        obtain ⟨rfl, rfl⟩ := h
        have hk := kOf_range c hc.2
        have hl : (t.take (kOf c - 1)).length = kOf c - 1 := by rw [List.length_take]; omega
        have hbt : Byt (t.take (kOf c - 1)) := fun x hx => hs x (by simp [List.mem_of_mem_take hx])
        obtain ⟨b1, b2, b3⟩ := beL_beV _ hbt
        rw [hl] at b1 b3
        obtain ⟨l, hle⟩ : ∃ l, t.take (kOf c - 1) = l := ⟨_, rfl⟩
        rw [hle] at hsz hl b1 b2 b3 ⊢
        have htd : t = l ++ t.drop (kOf c - 1) := by rw [← hle]; exact (List.take_append_drop _ _).symm
        have hdrop : (c :: t).drop (kOf c) = t.drop (kOf c - 1) := by
          obtain ⟨m, hm⟩ : ∃ m, kOf c = m + 1 := ⟨kOf c - 1, by omega⟩
          rw [hm]; simp
        obtain ⟨p1, p2, p3, p4, p5, p6, p7, p8⟩ := pw 0
        have hput : putL (rawN c l) = c :: l ∧ 0 ≤ rawN c l ∧ rawN c l < 18446744073709551616 := by
          by_cases k1 : kOf c = 1
          · have r : rawN c l = c := by unfold rawN; rw [if_pos k1]
            rw [r] at hsz ⊢
            have hc2 : c ≤ 240 := by have := kOf_cases c; omega
            have l0 : l = [] := List.eq_nil_of_length_eq_zero (by omega)
            refine ⟨?_, by omega, by omega⟩
            unfold putL; rw [if_pos hc2, l0]
          · by_cases k2 : kOf c = 2
            · have r : rawN c l = beV l + (240 + (c - 241) * 256) := by unfold rawN; rw [if_neg k1, if_pos k2]
              have hc2 : 240 < c ∧ c < 249 := by have := kOf_cases c; omega
              rw [k2] at hl b1 b3
              obtain ⟨b, hb⟩ : ∃ b, l = [b] := List.length_eq_one_iff.1 (by omega)
              subst hb
              have hv : beV [b] = b := by simp [beV]
              have hb := hbt b (by rw [hle]; simp)
              rw [r, hv] at hsz ⊢
              have hn : 240 < b + (240 + (c - 241) * 256) ∧ b + (240 + (c - 241) * 256) ≤ 2287 := by
                have hw := widthP_range (b + (240 + (c - 241) * 256))
                unfold sizeP at hsz; repeat' split at hsz
                all_goals omega
              refine ⟨?_, by omega, by omega⟩
              unfold putL
              rw [if_neg (by omega), if_pos hn.2]
              congr 1
              · omega
              · congr 1; omega
            · by_cases k3 : kOf c = 3
              · have r : rawN c l = beV l + 2288 := by unfold rawN; rw [if_neg k1, if_neg k2, if_pos k3]
                have hc2 : c = 249 := by have := kOf_cases c; omega
                rw [k3] at hl b1 b3
                simp only [Nat.reduceSub] at hl b1 b3
                rw [r] at hsz ⊢
                have hn : 2287 < beV l + 2288 ∧ beV l + 2288 ≤ 67823 := by omega
                refine ⟨?_, by omega, by omega⟩
                unfold putL
                rw [if_neg (by omega), if_neg (by omega), if_pos hn.2, show beV l + 2288 - 2288 = beV l by omega, b1, hc2]
              · have r : rawN c l = beV l := by unfold rawN; rw [if_neg k1, if_neg k2, if_neg k3]
                have hc2 : 249 < c ∧ kOf c = (c - 246).toNat := by have := kOf_cases c; omega
                rw [r] at hsz ⊢
                have hw := widthP_range (beV l)
                have hn : 67823 < beV l ∧ widthP (beV l) + 1 = kOf c := by
                  unfold sizeP at hsz; repeat' split at hsz
                  all_goals omega
                have hlt : beV l < 18446744073709551616 := by
                  have : kOf c = 4 ∨ kOf c = 5 ∨ kOf c = 6 ∨ kOf c = 7 ∨ kOf c = 8 ∨ kOf c = 9 := by omega
                  rcases this with h | h | h | h | h | h <;> rw [h] at b3 <;> simp only [Nat.reduceSub] at b3 <;> omega
                refine ⟨?_, by omega, hlt⟩
                unfold putL
                rw [if_neg (by omega), if_neg (by omega), if_neg (by omega), show (widthP (beV l)).toNat = kOf c - 1 by omega, b1]
                congr 1; omega
        refine ⟨hput.2.1, hput.2.2, ?_, ?_⟩
        · rw [hput.1, List.length_cons]; omega
        · rw [hput.1, hdrop, List.cons_append, ← htd]
      · cases h
end Go.Proofs.Ytbhainkcdkgbbaa.Vp

end
section
set_option linter.unusedVariables false
set_option linter.unusedSimpArgs false
namespace Go.Proofs.Ytbhainkcdkgbbaa.Vp
open Go.RowKit Go.Proofs.YtbhainkcdkgbbaaW.PrintWords Go.Proofs.YtbhainkcdkgbbaaW.PrintLast Go.Proofs.YtbhainkcdkgbbaaW.PrintMore
theorem bytesOf_byt (s : ByteArray) : Byt (bytesOf s) := by
  intro x hx
  unfold bytesOf at hx
  rw [List.mem_map] at hx
  obtain ⟨b, _, rfl⟩ := hx
  have := b.toNat_lt
  omega
theorem map_inj (a b : List UInt8) (h : a.map (fun b => (b.toNat : Int)) = b.map fun b => (b.toNat : Int)) : a = b := by
  induction a generalizing b with
  | nil => cases b with | nil => rfl | cons y b => simp at h
  | cons x a ih =>
    cases b with
    | nil => simp at h
    | cons y b =>
      simp only [List.map_cons, List.cons.injEq] at h
      rw [ih b h.2, UInt8.toNat_inj.1 (show x.toNat = y.toNat by omega)]
theorem bytesOf_inj {s t : ByteArray} (h : bytesOf s = bytesOf t) : s = t := by
  unfold bytesOf at h
  exact ByteArray.ext (Array.toList_inj.1 (map_inj _ _ h))
theorem bytesOf_strOf {xs : List Int} (h : Byt xs) : bytesOf (strOfNums xs) = xs := by
  unfold bytesOf
  rw [strOfNums_data, List.map_map]
  conv => rhs; rw [← List.map_id xs]
  apply List.map_congr_left
  intro x hx
  have := h x hx
  simp
  omega
theorem bytesOf_append (a b : ByteArray) : bytesOf (a ++ b) = bytesOf a ++ bytesOf b := by
  unfold bytesOf; rw [data_app, List.map_append]
theorem bytesOf_drop (s : ByteArray) (n : Nat) : bytesOf (s.extract n s.size) = (bytesOf s).drop n := by
  unfold bytesOf
  rw [ByteArray.data_extract, Array.toList_extract, ← List.map_drop]
  simp only [List.extract]
  congr 1
  rw [List.take_of_length_le]
  rw [List.length_drop, data_length]
  exact Nat.le_refl _
theorem nil_iff (s : ByteArray) : s.toList = ([] : List UInt8) ↔ s.size = 0 := by
  rw [ByteArray.toList_eq, ← List.length_eq_zero_iff, data_length]
theorem putP_bytes {n : Int} (h : 0 ≤ n) : bytesOf (putP n) = putL n := bytesOf_strOf (putL_byt h)
def takeP (s : ByteArray) : Int × ByteArray × Bool := match takeL (bytesOf s) with | some (n, k) => (n, s.extract k s.size, true) | none => (0, ⟨#[]⟩, false)
theorem or_byte (x b : Int) (h0 : 0 ≤ x) (h1 : x < 72057594037927936) (hb : 0 ≤ b ∧ b < 256) : Go.bits .or .u64 (IntKind.u64.wrap (x * 256)) (IntKind.u64.wrap b) = x * 256 + b := by
  have e1 : IntKind.u64.wrap (x * 256) = x * 256 := by rw [IntKind.wrap_u64]; omega
  have e2 : IntKind.u64.wrap b = b := by rw [IntKind.wrap_u64]; omega
  rw [e1, e2, u64_or _ _ (by omega) (by omega) hb.1 (by omega)]
  have := Nat.shiftLeft_add_eq_or_of_lt (i := 8) (b := b.toNat) (by omega) x.toNat
  rw [Nat.shiftLeft_eq] at this
  have e3 : (x * 256).toNat = x.toNat * 2 ^ 8 := by omega
  rw [e3, ← this]; omega
theorem beV_take_succ (l : List Int) (m : Nat) (h : m < l.length) : beV (l.take (m + 1)) = beV (l.take m) * 256 + l[m] := by
  rw [List.take_succ_eq_append_getElem h, beV_append]
theorem beV_small (l : List Int) (h : Byt l) (m : Nat) (hm : m ≤ 7) : 0 ≤ beV (l.take m) ∧ beV (l.take m) < 72057594037927936 := by
  obtain ⟨_, h2, h3⟩ := beL_beV (l.take m) (fun x hx => h x (List.mem_of_mem_take hx))
  refine ⟨h2, ?_⟩
  obtain ⟨p1, p2, p3, p4, p5, p6, p7, p8⟩ := pw 0
  have hl : (l.take m).length ≤ 7 := by rw [List.length_take]; omega
  obtain ⟨j, hj⟩ : ∃ j, (l.take m).length = j := ⟨_, rfl⟩
  rw [hj] at h3 hl
  have : j = 0 ∨ j = 1 ∨ j = 2 ∨ j = 3 ∨ j = 4 ∨ j = 5 ∨ j = 6 ∨ j = 7 := by omega
  rcases this with h | h | h | h | h | h | h | h <;> rw [h] at h3 <;> first | omega | (simp at h3; omega)
theorem beV_64 (l : List Int) (h : Byt l) (m : Nat) (hm : m ≤ 8) : 0 ≤ beV (l.take m) ∧ beV (l.take m) < 18446744073709551616 := by
  by_cases h7 : m ≤ 7
  · have := beV_small l h m h7; omega
  · obtain rfl : m = 8 := by omega
    by_cases hl : 7 < l.length
    · rw [beV_take_succ l 7 hl]
      have := beV_small l h 7 (by omega)
      have := h _ (List.getElem_mem hl)
      omega
    · rw [List.take_of_length_le (by omega)]
      have := beV_small l h 7 (by omega)
      rw [List.take_of_length_le (by omega)] at this
      omega
end Go.Proofs.Ytbhainkcdkgbbaa.Vp

end
section
set_option linter.unusedVariables false
set_option linter.unusedSimpArgs false
namespace Go.Proofs.Ytbhainkcdkgbbaa.Pure
open Go.RowKit Go.Proofs.Ytbhainkcdkgbbaa.P Go.Proofs.Ytbhainkcdkgbbaa.Vp Go.Proofs.YtbhainkcdkgbbaaW.PrintWords Go.Proofs.YtbhainkcdkgbbaaW.PrintLast Go.Proofs.YtbhainkcdkgbbaaW.PrintMore
theorem drop_one_take (s : ByteArray) (m : Nat) (h : m + 1 < s.size) : ∃ hh : m < ((bytesOf s).drop 1).length, ((bytesOf s).drop 1)[m] = bt s ((m + 1 : Nat) : Int) := by
  refine ⟨by rw [List.length_drop, size_bytesOf]; omega, ?_⟩
  rw [bt_get s (m + 1) h, List.getElem_drop]
  congr 1; omega
theorem take_end (s : ByteArray) (hs : s.size < 4611686018427387904) (c : Int) (hc : 0 ≤ c ∧ c < 256) (K : Nat) (hK : K = kOf c) (hKs : K ≤ s.size) (hh : bt s 0 = c) (hne : 0 < s.size) (k : Nat) :
    varint_Take.l0 (k + 1) s c (K : Int) (beV (((bytesOf s).drop 1).take (K - 1))) (K : Int) = some (takeP s) := by
  have hk := kOf_range c hc.2
  have hkc := kOf_cases c
  have hr := beV_64 ((bytesOf s).drop 1) (fun x hx => bytesOf_byt s x (List.mem_of_mem_drop hx)) (K - 1) (by omega)
  have hbs : bytesOf s = c :: (bytesOf s).drop 1 := by
    have h0 := bt_get s 0 hne
    have e : bt s ((0 : Nat) : Int) = c := hh
    rw [e] at h0
    obtain ⟨y, ys, hy⟩ : ∃ y ys, bytesOf s = y :: ys := List.exists_cons_of_length_pos (by rw [size_bytesOf]; exact hne)
    rw [hy]
    simp only [hy, List.getElem_cons_zero] at h0
    rw [h0]; simp
  have htk : takeP s = if sizeP (rawN c (((bytesOf s).drop 1).take (K - 1))) = K then (rawN c (((bytesOf s).drop 1).take (K - 1)), s.extract K s.size, true) else (0, ⟨#[]⟩, false) := by
    unfold takeP
    rw [hbs, takeL, List.drop_succ_cons, List.drop_zero, ← hK, if_neg (by rw [List.length_drop, size_bytesOf]; omega)]
    by_cases hz : sizeP (rawN c (((bytesOf s).drop 1).take (K - 1))) = (K : Int)
    · rw [if_pos hz, if_pos hz]
    · rw [if_neg hz, if_neg hz]
  obtain ⟨v, hv⟩ : ∃ v, beV (((bytesOf s).drop 1).take (K - 1)) = v := ⟨_, rfl⟩
  have hraw : rawN c (((bytesOf s).drop 1).take (K - 1)) = if K = 1 then c else if K = 2 then v + (240 + (c - 241) * 256) else if K = 3 then v + 2288 else v := by
    unfold rawN; rw [hv, ← hK]
  have hv2 : K = 2 → v < 256 := by
    intro h2
    rw [← hv, h2]
    have hl : 0 < ((bytesOf s).drop 1).length := by rw [List.length_drop, size_bytesOf]; omega
    rw [show 2 - 1 = 0 + 1 from rfl, beV_take_succ _ 0 hl]
    have := bytesOf_byt s _ (List.mem_of_mem_drop (List.getElem_mem hl))
    rw [List.take_zero, show beV [] = 0 from rfl]; omega
  have hv3 : K = 3 → v < 65536 := by
    intro h3
    have h1 := beL_beV (((bytesOf s).drop 1).take (K - 1)) (fun x hx => bytesOf_byt s x (List.mem_of_mem_drop (List.mem_of_mem_take hx)))
    rw [hv] at h1
    have hl : (((bytesOf s).drop 1).take (K - 1)).length = 2 := by rw [List.length_take, List.length_drop, size_bytesOf]; omega
    rw [hl] at h1
    have := (pw 0).2.1
    omega
  rw [hv] at hr ⊢
  rw [htk, hraw]
  simp only [varint_Take.l0]
  rw [if_neg (by omega)]
  have fin : ∀ N : Int, 0 ≤ N → N < 18446744073709551616 → ((varint_Size.f N).bind fun t => (if t = (K : Int) then (if 0 ≤ (K : Int) then (if (K : Int) ≤ (s.size : Int) then (some (N, s.extract (K : Int).toNat s.size, true)) else (none)) else (none)) else (some (0, (⟨#[]⟩ : ByteArray), false)))) = some (if sizeP N = K then (N, s.extract K s.size, true) else (0, ⟨#[]⟩, false)) := by
    intro N h0 h1
    rw [size_f N h0 h1]
    simp only [Option.bind_some]
    rw [if_pos (show 0 ≤ (K : Int) by omega), if_pos (show (K : Int) ≤ (s.size : Int) by omega), Int.toNat_natCast]
    split <;> rfl
  by_cases k1 : K = 1
  · rw [if_pos (show (K : Int) = 1 by omega), if_pos k1]
    have e : IntKind.u64.wrap c = c := by rw [IntKind.wrap_u64]; omega
    rw [e]
    exact fin c (by omega) (by omega)
  · rw [if_neg (by omega), if_neg k1]
    by_cases k2 : K = 2
    · rw [if_pos (show (K : Int) = 2 by omega), if_pos k2]
      have hv := hv2 k2
      have e : IntKind.u64.wrap (v + (240 + ((c - 240 - 1) % 256) * 256)) = v + (240 + (c - 241) * 256) := by rw [IntKind.wrap_u64]; omega
      rw [e]
      exact fin _ (by omega) (by omega)
    · rw [if_neg (by omega), if_neg k2]
      by_cases k3 : K = 3
      · rw [if_pos (show (K : Int) = 3 by omega), if_pos k3]
        have hv := hv3 k3
        have e : IntKind.u64.wrap (v + 2288) = v + 2288 := by rw [IntKind.wrap_u64]; omega
        rw [e]
        exact fin _ (by omega) (by omega)
      · rw [if_neg (by omega), if_neg k3]
        exact fin v hr.1 hr.2
theorem take_l0 (s : ByteArray) (hs : s.size < 4611686018427387904) (c : Int) (hc : 0 ≤ c ∧ c < 256) (K : Nat) (hK : K = kOf c) (hKs : K ≤ s.size) (hh : bt s 0 = c) (hne : 0 < s.size) :
    ∀ (d m k : Nat), m + d + 1 = K → d < k → varint_Take.l0 k s c (K : Int) (beV (((bytesOf s).drop 1).take m)) ((m + 1 : Nat) : Int) = some (takeP s) := by
  have hk := kOf_range c hc.2
  intro d
  induction d with
  | zero =>
    intro m k hm hk
    obtain ⟨k, rfl⟩ : ∃ j, k = j + 1 := ⟨k - 1, by omega⟩
    have := take_end s hs c hc K hK hKs hh hne k
    rw [show K - 1 = m by omega] at this
    rw [show ((m + 1 : Nat) : Int) = (K : Int) by omega]
    exact this
  | succ d ih =>
    intro m k hm hk
    obtain ⟨k, rfl⟩ : ∃ j, k = j + 1 := ⟨k - 1, by omega⟩
    obtain ⟨h1, h2⟩ := drop_one_take s m (by omega)
    have hb := beV_small ((bytesOf s).drop 1) (fun x hx => bytesOf_byt s x (List.mem_of_mem_drop hx)) m (by omega)
    have hbt := bt_range s ((m + 1 : Nat) : Int)
    simp only [varint_Take.l0]
    rw [if_pos (by omega), if_pos (by omega), if_pos (by omega), or_byte _ _ hb.1 hb.2 ⟨hbt.1, by omega⟩, ← h2, ← beV_take_succ _ m h1]
    rw [wrap_succ (by omega)]
    exact ih (m + 1) k (by omega) (by omega)
theorem take_short (s : ByteArray) (hne : 0 < s.size) (h : s.size < kOf (bt s 0)) : takeP s = (0, ⟨#[]⟩, false) := by
  unfold takeP
  obtain ⟨y, ys, hy⟩ : ∃ y ys, bytesOf s = y :: ys := List.exists_cons_of_length_pos (by rw [size_bytesOf]; exact hne)
  have e : bt s 0 = y := by
    have := bt_get s 0 hne
    simp only [hy, List.getElem_cons_zero] at this
    exact this
  have hl : ys.length + 1 = s.size := by rw [← size_bytesOf s, hy, List.length_cons]
  rw [hy, takeL, if_pos (by rw [← e]; omega)]
theorem take_f (s : ByteArray) (hs : s.size < 4611686018427387904) (k : Nat) (hk : 12 < k) : varint_Take.f k s = some (takeP s) := by
  unfold varint_Take.f
  by_cases h0 : s.size = 0
  · rw [if_pos ((nil_iff s).2 h0)]
    unfold takeP
    have : bytesOf s = [] := List.eq_nil_of_length_eq_zero (by rw [size_bytesOf]; exact h0)
    rw [this]; rfl
  · rw [if_neg (fun h => h0 ((nil_iff s).1 h)), if_pos (by omega)]
    have hc := bt_range s 0
    obtain ⟨c, hcc⟩ : ∃ c, bt s 0 = c := ⟨_, rfl⟩
    rw [hcc] at hc ⊢
    have hkc := kOf_cases c
    have hj : ∀ K : Nat, K = kOf c → varint_Take.j0 k s c (K : Int) = some (takeP s) := by
      intro K hK
      have hkr := kOf_range c (by omega)
      obtain ⟨k, rfl⟩ : ∃ j, k = j + 1 := ⟨k - 1, by omega⟩
      simp only [varint_Take.j0]
      by_cases hsz : (s.size : Int) < (K : Int)
      · rw [if_pos hsz, take_short s (by omega) (by rw [hcc]; omega)]
      · rw [if_neg hsz]
        exact take_l0 s hs c ⟨hc.1, by omega⟩ K hK (by omega) hcc (by omega) (K - 1) 0 k (by omega) (by omega)
    by_cases c1 : c > 249
    · rw [if_pos c1, show wrap64 ((wrap64 ((wrap64 c) - 249)) + 3) = (((c - 246).toNat : Nat) : Int) from by unfold wrap64; omega]
      exact hj _ (by omega)
    · rw [if_neg c1]
      by_cases c2 : c = 249
      · rw [if_pos c2]; exact hj 3 (by omega)
      · rw [if_neg c2]
        by_cases c3 : c > 240
        · rw [if_pos c3]; exact hj 2 (by omega)
        · rw [if_neg c3]; exact hj 1 (by omega)
theorem takeP_put (n : Int) (h0 : 0 ≤ n) (h1 : n < 18446744073709551616) (s : ByteArray) : takeP (putP n ++ s) = (n, s, true) := by
  unfold takeP
  rw [bytesOf_append, putP_bytes h0, take_put n h0 h1]
  simp only [Prod.mk.injEq, true_and, and_true]
  apply bytesOf_inj
  rw [bytesOf_drop, bytesOf_append, putP_bytes h0, List.drop_left]
theorem takeP_some {s : ByteArray} {n : Int} {r : ByteArray} (h : takeP s = (n, r, true)) : 0 ≤ n ∧ n < 18446744073709551616 ∧ s = putP n ++ r ∧ r.size + (putP n).size = s.size := by
  unfold takeP at h
  split at h
  · rename_i n' k he
    simp only [Prod.mk.injEq, and_true] at h
    obtain ⟨rfl, rfl⟩ := h
    obtain ⟨h0, h1, h2, h3⟩ := put_take (bytesOf_byt s) he
    have e : s = putP n' ++ s.extract k s.size := by
      apply bytesOf_inj
      rw [bytesOf_append, putP_bytes h0, bytesOf_drop]
      exact h3
    refine ⟨h0, h1, e, ?_⟩
    conv => rhs; rw [e]
    rw [ByteArray.size_append]; omega
  · simp at h
end Go.Proofs.Ytbhainkcdkgbbaa.Pure

end
section
set_option linter.unusedVariables false
set_option linter.unusedSimpArgs false
namespace Go.Proofs.Ytbhainkcdkgbbaa.Pure
open Go.RowKit Go.Proofs.Ytbhainkcdkgbbaa.P Go.Proofs.Ytbhainkcdkgbbaa.Vp Go.Proofs.YtbhainkcdkgbbaaW.PrintWords Go.Proofs.YtbhainkcdkgbbaaW.PrintLast Go.Proofs.YtbhainkcdkgbbaaW.PrintMore
theorem ba_eq {s t : ByteArray} (h : s.data.toList = t.data.toList) : s = t := ByteArray.ext (Array.toList_inj.1 h)
theorem ba_app (a b : ByteArray) : (a ++ b).data.toList = a.data.toList ++ b.data.toList := by rw [ByteArray.data_append, Array.toList_append]
theorem ba_ext_l (s : ByteArray) (a b : Nat) : (s.extract a b).data.toList = (s.data.toList.drop a).take (b - a) := by
  rw [ByteArray.data_extract, Array.toList_extract]
theorem ba_mk (l : List UInt8) : (⟨l.toArray⟩ : ByteArray).data.toList = l := by simp
theorem ba_sz (s : ByteArray) : s.data.toList.length = s.size := data_length s
theorem ba_isnil (s : ByteArray) : s.toList = ([] : List UInt8) ↔ s.data.toList = [] := by rw [ByteArray.toList_eq]
theorem putB_pos (n : Nat) : 1 ≤ (putB n).length := by
  have h := (putL_len (n : Int)).1
  unfold putB
  rw [ba_sz, ← size_bytesOf, putP_bytes (by omega)]; exact h
theorem takeP_l {s r : ByteArray} {n : Int} (h : takeP s = (n, r, true)) : ∃ m : Nat, n = (m : Int) ∧ m < 18446744073709551616 ∧ s.data.toList = putB m ++ r.data.toList := by
  obtain ⟨h0, h1, h2, _⟩ := takeP_some h
  refine ⟨n.toNat, by omega, by omega, ?_⟩
  rw [h2, ba_app]
  unfold putB
  rw [show ((n.toNat : Nat) : Int) = n by omega]
theorem takeP_r {s r : ByteArray} {m : Nat} (h : s.data.toList = putB m ++ r.data.toList) (hm : m < 18446744073709551616) : takeP s = ((m : Int), r, true) := by
  have e : s = putP (m : Int) ++ r := ba_eq (by rw [h, ba_app]; rfl)
  rw [e]
  exact takeP_put _ (by omega) (by omega) _
def tkP (s : ByteArray) (most : Nat) : Int × ByteArray × Bool := if (takeP s).2.2 = true ∧ (takeP s).1 ≤ (most : Int) then ((takeP s).1, (takeP s).2.1, true) else (0, ⟨#[]⟩, false)
theorem tk_f (s : ByteArray) (m : Nat) (hs : s.size < 4611686018427387904) (hm : m < 4611686018427387904) (k : Nat) (hk : 12 < k) : block_take.f k s (m : Int) = some (tkP s m) := by
  unfold block_take.f tkP
  rw [take_f s hs k hk, Option.bind_some]
  have hw : IntKind.u64.wrap (m : Int) = (m : Int) := by rw [IntKind.wrap_u64]; omega
  rw [hw]
  by_cases c : (takeP s).2.2 = true
  · rw [if_pos c]
    have h0 : 0 ≤ (takeP s).1 := by
      obtain ⟨n, r, hr⟩ : ∃ n r, takeP s = (n, r, true) := ⟨_, _, by rw [← c]⟩
      rw [hr]; exact (takeP_some hr).1
    by_cases c2 : (takeP s).1 > (m : Int)
    · rw [if_pos c2, if_neg (fun h => by omega)]
    · rw [if_neg c2, if_pos ⟨c, by omega⟩]
      rw [show wrap64 (takeP s).1 = (takeP s).1 by unfold wrap64; omega]
  · rw [if_neg c, if_neg (fun h => c h.1)]
theorem tk_some {s r : ByteArray} {n : Int} {m : Nat} (h : tkP s m = (n, r, true)) : ∃ j : Nat, n = (j : Int) ∧ j ≤ m ∧ j < 18446744073709551616 ∧ s.data.toList = putB j ++ r.data.toList := by
  unfold tkP at h
  split at h
  · rename_i c
    obtain ⟨n', r', hr⟩ : ∃ n r, takeP s = (n, r, true) := ⟨_, _, by rw [← c.1]⟩
    rw [hr] at h c
    simp only [Prod.mk.injEq, and_true] at h
    obtain ⟨rfl, rfl⟩ := h
    obtain ⟨j, hj, h1, h2⟩ := takeP_l hr
    exact ⟨j, hj, by have := c.2; simp only at this; omega, h1, h2⟩
  · simp at h
theorem tk_enc {s r : ByteArray} {j m : Nat} (h : s.data.toList = putB j ++ r.data.toList) (hj : j ≤ m) (hm : m < 4611686018427387904) : tkP s m = ((j : Int), r, true) := by
  unfold tkP
  rw [takeP_r h (by omega), if_pos ⟨rfl, by simp only; omega⟩]
theorem tk_size (s : ByteArray) (m : Nat) : (tkP s m).2.1.size ≤ s.size := by
  unfold tkP
  split
  · rename_i c
    obtain ⟨n', r', hr⟩ : ∃ n r, takeP s = (n, r, true) := ⟨_, _, by rw [← c.1]⟩
    rw [hr]
    have := (takeP_some hr).2.2.2
    simp only; omega
  · exact Nat.zero_le _
theorem tk_range (s : ByteArray) (m : Nat) : 0 ≤ (tkP s m).1 ∧ (tkP s m).1 ≤ (m : Int) := by
  unfold tkP
  split
  · rename_i c
    obtain ⟨n', r', hr⟩ : ∃ n r, takeP s = (n, r, true) := ⟨_, _, by rw [← c.1]⟩
    refine ⟨?_, c.2⟩
    rw [hr]; exact (takeP_some hr).1
  · simp only; omega
def nextP (s last : ByteArray) : ByteArray × ByteArray × ByteArray × Bool :=
  if (tkP s last.size).2.2 = true ∧ (tkP (tkP s last.size).2.1 (tkP s last.size).2.1.size).2.2 = true ∧
      (tkP (tkP (tkP s last.size).2.1 (tkP s last.size).2.1.size).2.1 (tkP (tkP s last.size).2.1 (tkP s last.size).2.1.size).2.1.size).2.2 = true ∧
      (tkP (tkP s last.size).2.1 (tkP s last.size).2.1.size).1 + (tkP (tkP (tkP s last.size).2.1 (tkP s last.size).2.1.size).2.1 (tkP (tkP s last.size).2.1 (tkP s last.size).2.1.size).2.1.size).1 ≤
        ((tkP (tkP (tkP s last.size).2.1 (tkP s last.size).2.1.size).2.1 (tkP (tkP s last.size).2.1 (tkP s last.size).2.1.size).2.1.size).2.1.size : Int) then
    (last.extract 0 (tkP s last.size).1.toNat ++ (tkP (tkP (tkP s last.size).2.1 (tkP s last.size).2.1.size).2.1 (tkP (tkP s last.size).2.1 (tkP s last.size).2.1.size).2.1.size).2.1.extract 0 (tkP (tkP s last.size).2.1 (tkP s last.size).2.1.size).1.toNat,
      (tkP (tkP (tkP s last.size).2.1 (tkP s last.size).2.1.size).2.1 (tkP (tkP s last.size).2.1 (tkP s last.size).2.1.size).2.1.size).2.1.extract (tkP (tkP s last.size).2.1 (tkP s last.size).2.1.size).1.toNat ((tkP (tkP s last.size).2.1 (tkP s last.size).2.1.size).1 + (tkP (tkP (tkP s last.size).2.1 (tkP s last.size).2.1.size).2.1 (tkP (tkP s last.size).2.1 (tkP s last.size).2.1.size).2.1.size).1).toNat,
      (tkP (tkP (tkP s last.size).2.1 (tkP s last.size).2.1.size).2.1 (tkP (tkP s last.size).2.1 (tkP s last.size).2.1.size).2.1.size).2.1.extract ((tkP (tkP s last.size).2.1 (tkP s last.size).2.1.size).1 + (tkP (tkP (tkP s last.size).2.1 (tkP s last.size).2.1.size).2.1 (tkP (tkP s last.size).2.1 (tkP s last.size).2.1.size).2.1.size).1).toNat (tkP (tkP (tkP s last.size).2.1 (tkP s last.size).2.1.size).2.1 (tkP (tkP s last.size).2.1 (tkP s last.size).2.1.size).2.1.size).2.1.size,
      ((tkP s last.size).1 == (comP last (last.extract 0 (tkP s last.size).1.toNat ++ (tkP (tkP (tkP s last.size).2.1 (tkP s last.size).2.1.size).2.1 (tkP (tkP s last.size).2.1 (tkP s last.size).2.1.size).2.1.size).2.1.extract 0 (tkP (tkP s last.size).2.1 (tkP s last.size).2.1.size).1.toNat) : Int)))
  else (⟨#[]⟩, ⟨#[]⟩, ⟨#[]⟩, false)
theorem next_f (s last : ByteArray) (hs : s.size < 1000000000) (hl : last.size < 1000000000) (k : Nat) (hk : last.size + 13 < k) : block_next.f k s last = some (nextP s last) := by
  unfold block_next.f nextP
  rw [tk_f s last.size (by omega) (by omega) k (by omega), Option.bind_some]
  have ra := tk_range s last.size
  have sa := tk_size s last.size
  obtain ⟨A, hA⟩ : ∃ A, tkP s last.size = A := ⟨_, rfl⟩
  rw [hA] at ra sa ⊢
  rw [tk_f A.2.1 A.2.1.size (by omega) (by omega) k (by omega), Option.bind_some]
  have rb := tk_range A.2.1 A.2.1.size
  have sb := tk_size A.2.1 A.2.1.size
  obtain ⟨B, hB⟩ : ∃ B, tkP A.2.1 A.2.1.size = B := ⟨_, rfl⟩
  rw [hB] at rb sb ⊢
  rw [tk_f B.2.1 B.2.1.size (by omega) (by omega) k (by omega), Option.bind_some]
  have rc := tk_range B.2.1 B.2.1.size
  have sc := tk_size B.2.1 B.2.1.size
  obtain ⟨C, hC⟩ : ∃ C, tkP B.2.1 B.2.1.size = C := ⟨_, rfl⟩
  rw [hC] at rc sc ⊢
  clear hA hB hC
  by_cases c1 : A.2.2 = true
  · by_cases c2 : B.2.2 = true
    · by_cases c3 : C.2.2 = true
      · rw [if_pos c1, if_pos c2, if_pos c3]
        by_cases c4 : B.1 + C.1 ≤ (C.2.1.size : Int)
        · have w1 : wrap64 ((C.2.1.size : Int) - B.1) = (C.2.1.size : Int) - B.1 := by unfold wrap64; omega
          have w2 : wrap64 (B.1 + C.1) = B.1 + C.1 := by unfold wrap64; omega
          rw [w1, w2, if_neg (by omega), if_neg (by omega), if_pos ra.1, if_pos ra.2, if_pos rb.1, if_pos (by omega)]
          rw [if_pos (by rw [ByteArray.size_extract, ByteArray.size_extract]; omega), if_pos (by omega), if_pos (by omega), if_pos (by omega)]
          rw [common_f _ _ (by omega) k (by omega), Option.bind_some, if_pos ⟨c1, c2, c3, c4⟩]
        · rw [if_neg (show ¬ (A.2.2 = true ∧ B.2.2 = true ∧ C.2.2 = true ∧ B.1 + C.1 ≤ (C.2.1.size : Int)) from fun h => c4 h.2.2.2)]
          by_cases c5 : B.1 > (C.2.1.size : Int)
          · rw [if_pos c5]
          · have w1 : wrap64 ((C.2.1.size : Int) - B.1) = (C.2.1.size : Int) - B.1 := by unfold wrap64; omega
            rw [if_neg c5, w1, if_pos (by omega)]
      · rw [if_pos c1, if_pos c2, if_neg c3, if_neg (show ¬ (A.2.2 = true ∧ B.2.2 = true ∧ C.2.2 = true ∧ B.1 + C.1 ≤ (C.2.1.size : Int)) from fun h => c3 h.2.2.1)]
    · rw [if_pos c1, if_neg c2, if_neg (show ¬ (A.2.2 = true ∧ B.2.2 = true ∧ C.2.2 = true ∧ B.1 + C.1 ≤ (C.2.1.size : Int)) from fun h => c2 h.2.1)]
  · rw [if_neg c1, if_neg (show ¬ (A.2.2 = true ∧ B.2.2 = true ∧ C.2.2 = true ∧ B.1 + C.1 ≤ (C.2.1.size : Int)) from fun h => c1 h.1)]
theorem comL_take : ∀ a b : List UInt8, a.take (comL a b) = b.take (comL a b)
  | [], b => by unfold comL; simp
  | x :: a, [] => by unfold comL; simp
  | x :: a, y :: b => by
    unfold comL
    split
    · rename_i e; subst e
      rw [List.take_succ_cons, List.take_succ_cons, comL_take a b]
    · simp
theorem encA_eq (last key val : ByteArray) : encA last key val = putB (comP last key) ++ (putB (key.size - comP last key) ++ (putB val.size ++ (key.data.toList.drop (comP last key) ++ val.data.toList))) := by
  unfold encA putsU
  simp [List.append_assoc]
theorem next_some {s last key val rest : ByteArray} (h : nextP s last = (key, val, rest, true)) : s.data.toList = encA last key val ++ rest.data.toList := by
  unfold nextP at h
  split at h
  case isFalse => simp at h
  case isTrue c =>
  obtain ⟨c1, c2, c3, c4⟩ := c
  obtain ⟨n, s1, hA⟩ : ∃ n s1, tkP s last.size = (n, s1, true) := ⟨_, _, by rw [← c1]⟩
  rw [hA] at h c2 c3 c4
  dsimp only at h c2 c3 c4
  obtain ⟨k, s2, hB⟩ : ∃ k s2, tkP s1 s1.size = (k, s2, true) := ⟨_, _, by rw [← c2]⟩
  rw [hB] at h c3 c4
  dsimp only at h c3 c4
  obtain ⟨v, s3, hC⟩ : ∃ v s3, tkP s2 s2.size = (v, s3, true) := ⟨_, _, by rw [← c3]⟩
  rw [hC] at h c4
  dsimp only at h c4
  obtain ⟨n, rfl, hn1, hn2, e1⟩ := tk_some hA
  obtain ⟨k, rfl, hk1, hk2, e2⟩ := tk_some hB
  obtain ⟨v, rfl, hv1, hv2, e3⟩ := tk_some hC
  simp only [Prod.mk.injEq, Int.toNat_natCast, beq_iff_eq] at h
  obtain ⟨hkey, hval, hrest, hcom⟩ := h
  rw [show ((k : Int) + (v : Int)).toNat = k + v by omega] at hval hrest
  rw [hkey] at hcom
  have hn : n = comP last key := by omega
  have hks : key.data.toList = last.data.toList.take n ++ s3.data.toList.take k := by
    rw [← hkey, ba_app, ba_ext_l, ba_ext_l]; simp
  have hl1 : (last.data.toList.take n).length = n := by rw [List.length_take, ba_sz]; omega
  have hl3 : s3.data.toList.length = s3.size := ba_sz s3
  have hkz : key.size - n = k := by
    rw [← ba_sz, hks, List.length_append, hl1, List.length_take, hl3]; omega
  have hdrop : key.data.toList.drop n = s3.data.toList.take k := by
    rw [hks, List.drop_append_of_le_length (by omega), List.drop_of_length_le (by omega), List.nil_append]
  have hvs : val.data.toList = (s3.data.toList.drop k).take v := by
    rw [← hval, ba_ext_l, show k + v - k = v by omega]
  have hvz : val.size = v := by
    rw [← ba_sz, hvs, List.length_take, List.length_drop, hl3]; omega
  have hr : rest.data.toList = s3.data.toList.drop (k + v) := by
    rw [← hrest, ba_ext_l, List.take_of_length_le (by rw [List.length_drop, hl3]; omega)]
  rw [encA_eq, ← hn, hkz, hvz, hdrop, hvs, hr, e1, e2, e3]
  simp only [List.append_assoc]
  congr 3
  rw [← List.drop_drop, ← List.append_assoc, List.append_assoc, List.take_append_drop, List.take_append_drop]
theorem next_enc {s last key val rest : ByteArray} (hs : s.size < 1000000000) (hl : last.size < 1000000000) (h : s.data.toList = encA last key val ++ rest.data.toList) : nextP s last = (key, val, rest, true) := by
  rw [encA_eq] at h
  simp only [List.append_assoc] at h
  have hn := comP_le last key
  have hct := comL_take last.data.toList key.data.toList
  change last.data.toList.take (comP last key) = key.data.toList.take (comP last key) at hct
  obtain ⟨n, hnn⟩ : ∃ n, comP last key = n := ⟨_, rfl⟩
  rw [hnn] at h hn hct
  obtain ⟨d, hd⟩ : ∃ d, key.size - n = d := ⟨_, rfl⟩
  rw [hd] at h
  obtain ⟨s3, h3⟩ : ∃ s3 : ByteArray, s3.data.toList = key.data.toList.drop n ++ (val.data.toList ++ rest.data.toList) := ⟨⟨(key.data.toList.drop n ++ (val.data.toList ++ rest.data.toList)).toArray⟩, ba_mk _⟩
  obtain ⟨s2, h2⟩ : ∃ s2 : ByteArray, s2.data.toList = putB val.size ++ s3.data.toList := ⟨⟨(putB val.size ++ s3.data.toList).toArray⟩, ba_mk _⟩
  obtain ⟨s1, h1⟩ : ∃ s1 : ByteArray, s1.data.toList = putB d ++ s2.data.toList := ⟨⟨(putB d ++ s2.data.toList).toArray⟩, ba_mk _⟩
  have h0 : s.data.toList = putB n ++ s1.data.toList := by rw [h1, h2, h3, h]
  have z3 : s3.size = d + (val.size + rest.size) := by
    rw [← ba_sz, h3, List.length_append, List.length_append, List.length_drop, ba_sz, ba_sz, ba_sz, hd]
  have z2 : s3.size ≤ s2.size := by rw [← ba_sz s2, h2, List.length_append, ba_sz]; omega
  have z1 : s2.size ≤ s1.size := by rw [← ba_sz s1, h1, List.length_append, ba_sz]; omega
  have z0 : s1.size ≤ s.size := by rw [← ba_sz s, h0, List.length_append, ba_sz]; omega
  have t1 : tkP s last.size = ((n : Int), s1, true) := tk_enc h0 hn.1 (by omega)
  have t2 : tkP s1 s1.size = ((d : Int), s2, true) := tk_enc h1 (by omega) (by omega)
  have t3 : tkP s2 s2.size = ((val.size : Int), s3, true) := tk_enc h2 (by omega) (by omega)
  have hkey : last.extract 0 n ++ s3.extract 0 d = key := by
    apply ba_eq
    rw [ba_app, ba_ext_l, ba_ext_l, h3, List.drop_zero, List.drop_zero, Nat.sub_zero, Nat.sub_zero, hct, List.take_append_of_le_length (by rw [List.length_drop, ba_sz]; omega)]
    rw [List.take_of_length_le (l := key.data.toList.drop n) (by rw [List.length_drop, ba_sz]; omega), List.take_append_drop]
  have hval : s3.extract d (d + val.size) = val := by
    apply ba_eq
    rw [ba_ext_l, h3, List.drop_append_of_le_length (by rw [List.length_drop, ba_sz]; omega), List.drop_of_length_le (l := key.data.toList.drop n) (by rw [List.length_drop, ba_sz]; omega), List.nil_append]
    rw [show d + val.size - d = val.size by omega, List.take_append_of_le_length (by rw [ba_sz]; omega), List.take_of_length_le (by rw [ba_sz]; omega)]
  have hrest : s3.extract (d + val.size) s3.size = rest := by
    apply ba_eq
    rw [ba_ext_l, h3, ← List.append_assoc, List.drop_append, List.drop_of_length_le (by rw [List.length_append, List.length_drop, ba_sz, ba_sz]; omega), List.nil_append]
    rw [List.length_append, List.length_drop, ba_sz, ba_sz, hd, Nat.sub_self, List.drop_zero, List.take_of_length_le (by rw [ba_sz]; omega)]
  unfold nextP
  rw [t1]
  dsimp only
  rw [t2]
  dsimp only
  rw [t3]
  dsimp only
  rw [if_pos ⟨rfl, rfl, rfl, by omega⟩, Int.toNat_natCast, Int.toNat_natCast, show ((d : Int) + (val.size : Int)).toNat = d + val.size by omega, hkey, hval, hrest, hnn]
  simp
def encFrom : ByteArray → List Pa → List UInt8
  | _, [] => []
  | last, p :: l => encA last p.f0 p.f1 ++ encFrom p.f0 l
def okFrom : Bool → ByteArray → List Pa → Prop
  | _, _, [] => True
  | b, last, p :: l => (b = true → Op.bytesLess last.toList p.f0.toList = true) ∧ okFrom true p.f0 l
theorem encA_pos (a b c : ByteArray) : 3 ≤ (encA a b c).length := by
  rw [encA_eq]
  have h1 := putB_pos (comP a b)
  have h2 := putB_pos (b.size - comP a b)
  have h3 := putB_pos c.size
  simp only [List.length_append]; omega
theorem encA_ge (a b c : ByteArray) : b.size + c.size + 3 ≤ (encA a b c).length + a.size := by
  rw [encA_eq]
  have h1 := putB_pos (comP a b)
  have h2 := putB_pos (b.size - comP a b)
  have h3 := putB_pos c.size
  have h4 := comP_le a b
  simp only [List.length_append, List.length_drop, ba_sz]; omega
theorem read_l0 : ∀ (N : Nat) (s last : ByteArray) (acc : List Pa) (k : Nat), s.size ≤ N → last.size + s.size ≤ 100000 → acc.length + s.size ≤ 1000000 → 200000 + N < k →
    (∃ l, s.data.toList = encFrom last l ∧ okFrom (decide (acc ≠ [])) last l ∧ block_Read.l0 k s acc last = some (acc ++ l, 0)) ∨
    ((¬ ∃ l, s.data.toList = encFrom last l ∧ okFrom (decide (acc ≠ [])) last l) ∧ block_Read.l0 k s acc last = some ([], 8)) := by
  intro N
  induction N with
  | zero =>
    intro s last acc k h1 h2 h3 hk
    obtain ⟨k, rfl⟩ : ∃ m, k = m + 1 := ⟨k - 1, by omega⟩
    have hz : s.data.toList = [] := List.eq_nil_of_length_eq_zero (by rw [ba_sz]; omega)
    refine .inl ⟨[], hz, trivial, ?_⟩
    rw [block_Read.l0, if_pos ((ba_isnil s).2 hz), List.append_nil]
  | succ N ih =>
    intro s last acc k h1 h2 h3 hk
    obtain ⟨k, rfl⟩ : ∃ m, k = m + 1 := ⟨k - 1, by omega⟩
    by_cases hz : s.data.toList = []
    · refine .inl ⟨[], hz, trivial, ?_⟩
      rw [block_Read.l0, if_pos ((ba_isnil s).2 hz), List.append_nil]
    · rw [block_Read.l0, if_neg (fun e => hz ((ba_isnil s).1 e)), next_f s last (by omega) (by omega) k (by omega), Option.bind_some]
      obtain ⟨key, val, rest, ok, hnx⟩ : ∃ key val rest ok, nextP s last = (key, val, rest, ok) := ⟨_, _, _, _, rfl⟩
      have uniq : ∀ (p : Pa) (l : List Pa), s.data.toList = encFrom last (p :: l) → ok = true ∧ p = ⟨key, val⟩ ∧ rest.data.toList = encFrom p.f0 l := by
        intro p l hp
        have := next_enc (s := s) (last := last) (key := p.f0) (val := p.f1) (rest := ⟨(encFrom p.f0 l).toArray⟩) (by omega) (by omega) (by rw [hp, ba_mk]; rfl)
        rw [hnx] at this
        simp only [Prod.mk.injEq] at this
        obtain ⟨e1, e2, e3, e4⟩ := this
        refine ⟨e4, ?_, by rw [e3, ba_mk]⟩
        rw [e1, e2]
      rw [hnx]
      dsimp only
      cases ok with
      | false =>
        rw [if_neg (by decide)]
        refine .inr ⟨?_, rfl⟩
        rintro ⟨l, hl, _⟩
        cases l with
        | nil => exact hz hl
        | cons p l => exact absurd (uniq p l hl).1 (by decide)
      | true =>
        rw [if_pos rfl]
        have he := next_some hnx
        have hsz : s.size = (encA last key val).length + rest.size := by rw [← ba_sz s, he, List.length_append, ba_sz]
        have hge := encA_ge last key val
        have hpos := encA_pos last key val
        have hgo := ih rest key (acc ++ [(⟨key, val⟩ : Pa)]) k (by omega) (by omega) (by rw [List.length_append, List.length_singleton]; omega) (by omega)
        have hne : decide (acc ++ [(⟨key, val⟩ : Pa)] ≠ []) = true := by simp
        rw [hne] at hgo
        by_cases ca : (acc.length : Int) > 0
        · have hane : acc ≠ [] := by intro e; rw [e] at ca; simp at ca
          rw [if_pos ca]
          by_cases cl : Op.bytesLess last.toList key.toList = true
          · rw [if_pos cl, if_pos (by omega)]
            rcases hgo with ⟨l, g1, g2, g3⟩ | ⟨g1, g2⟩
            · refine .inl ⟨(⟨key, val⟩ : Pa) :: l, by rw [he, g1]; rfl, ⟨fun _ => cl, g2⟩, by rw [g3]; simp⟩
            · refine .inr ⟨?_, g2⟩
              rintro ⟨l, hl, hok⟩
              cases l with
              | nil => exact hz hl
              | cons p l =>
                obtain ⟨_, rfl, hr⟩ := uniq p l hl
                exact g1 ⟨l, hr, hok.2⟩
          · rw [if_neg cl]
            refine .inr ⟨?_, rfl⟩
            rintro ⟨l, hl, hok⟩
            cases l with
            | nil => exact hz hl
            | cons p l =>
              obtain ⟨_, rfl, hr⟩ := uniq p l hl
              exact cl (hok.1 (by simp [hane]))
        · have hane : acc = [] := by
            cases acc with
            | nil => rfl
            | cons x y => simp at ca
          rw [if_neg ca, if_pos (by omega)]
          have hd : decide (acc ≠ []) = false := by simp [hane]
          rw [hd]
          rcases hgo with ⟨l, g1, g2, g3⟩ | ⟨g1, g2⟩
          · refine .inl ⟨(⟨key, val⟩ : Pa) :: l, by rw [he, g1]; rfl, ⟨(fun h => by cases h), g2⟩, by rw [g3]; simp⟩
          · refine .inr ⟨?_, g2⟩
            rintro ⟨l, hl, hok⟩
            cases l with
            | nil => exact hz hl
            | cons p l =>
              obtain ⟨_, rfl, hr⟩ := uniq p l hl
              exact g1 ⟨l, hr, hok.2⟩
end Go.Proofs.Ytbhainkcdkgbbaa.Pure

end
section
set_option linter.unusedVariables false
set_option linter.unusedSimpArgs false
namespace Go.Proofs.Ytbhainkcdkgbbaa.Pure
open Go.RowKit Go.Proofs.Ytbhainkcdkgbbaa.P Go.Proofs.Ytbhainkcdkgbbaa.Vp Go.Proofs.Ytbhainkcdkgbbaa.Sl Go.Proofs.YtbhainkcdkgbbaaW.PrintWords Go.Proofs.YtbhainkcdkgbbaaW.PrintLast Go.Proofs.YtbhainkcdkgbbaaW.PrintMore
def lastOf : ByteArray → List Pa → ByteArray
  | last, [] => last
  | _, p :: l => lastOf p.f0 l
theorem lastOf_snoc : ∀ (l : List Pa) (last : ByteArray) (p : Pa), lastOf last (l ++ [p]) = p.f0
  | [], _, _ => rfl
  | q :: l, _, p => lastOf_snoc l q.f0 p
theorem encFrom_app : ∀ (a : List Pa) (last : ByteArray) (b : List Pa), encFrom last (a ++ b) = encFrom last a ++ encFrom (lastOf last a) b
  | [], _, _ => rfl
  | p :: a, last, b => by
    show encA last p.f0 p.f1 ++ encFrom p.f0 (a ++ b) = _
    rw [encFrom_app a p.f0 b, ← List.append_assoc]; rfl
theorem okFrom_app : ∀ (a : List Pa) (b : Bool) (last : ByteArray) (c : List Pa), okFrom b last (a ++ c) ↔ okFrom b last a ∧ okFrom (b || decide (a ≠ [])) (lastOf last a) c
  | [], b, last, c => by simp [okFrom, lastOf]
  | p :: a, b, last, c => by
    show (_ ∧ okFrom true p.f0 (a ++ c)) ↔ (_ ∧ okFrom true p.f0 a) ∧ _
    rw [okFrom_app a true p.f0 c, and_assoc]
    simp [lastOf]
theorem lastOf_take (l : List Pa) : ∀ m, m ≤ l.length → lastOf ⟨#[]⟩ (l.take m) = lastA l m
  | 0, _ => by simp [lastOf, lastA]
  | m + 1, h => by
    rw [List.take_succ_eq_append_getElem (by omega), lastOf_snoc, lastA, keyA, rd_get l m (by omega)]
theorem encTo_take (l : List Pa) : ∀ m, m ≤ l.length → encTo l m = encFrom ⟨#[]⟩ (l.take m)
  | 0, _ => by simp [encTo, encFrom]
  | m + 1, h => by
    rw [encTo_succ, encTo_take l m (by omega), List.take_succ_eq_append_getElem (by omega), encFrom_app, lastOf_take l m (by omega)]
    simp only [encFrom, keyA, valA, rd_get l m (by omega), List.append_nil]
theorem rises_take (l : List Pa) : ∀ m, m ≤ l.length → (risesTo l m ↔ okFrom false ⟨#[]⟩ (l.take m))
  | 0, _ => by simp [risesTo, okFrom]
  | m + 1, h => by
    rw [List.take_succ_eq_append_getElem (by omega), okFrom_app, ← rises_take l m (by omega), lastOf_take l m (by omega)]
    have hk : l[m] = rd_T43 l (m : Int) := (rd_get l m (by omega)).symm
    constructor
    · intro hr
      refine ⟨fun i hi => hr i (by omega), ?_, trivial⟩
      intro hb
      cases m with
      | zero => simp at hb
      | succ j =>
        have := hr j (by omega)
        rw [hk]; exact this
    · rintro ⟨h1, h2, _⟩ i hi
      by_cases c : i + 1 < m
      · exact h1 i c
      · obtain rfl : m = i + 1 := by omega
        have h3 := h2 (by
          have hne : l.take (i + 1) ≠ [] := by
            intro e
            have := congrArg List.length e
            rw [List.length_take, List.length_nil] at this
            omega
          simp [hne])
        rw [hk] at h3
        exact h3
theorem enc_all (l : List Pa) : encTo l l.length = encFrom ⟨#[]⟩ l := by rw [encTo_take l l.length (Nat.le_refl _), List.take_length]
theorem rises_all (l : List Pa) : risesB l = true ↔ okFrom false ⟨#[]⟩ l := by rw [risesB_iff, rises_take l l.length (Nat.le_refl _), List.take_length]
theorem build_ok {l : List Pa} (h : okFrom false ⟨#[]⟩ l) (hl : (encFrom ⟨#[]⟩ l).length ≤ 40000) : buildP l = (⟨(encFrom ⟨#[]⟩ l).toArray⟩, 0) := by
  unfold buildP; rw [if_pos ((rises_all l).2 h), enc_all, if_neg (by omega)]
theorem build_long {l : List Pa} (h : okFrom false ⟨#[]⟩ l) (hl : 40000 < (encFrom ⟨#[]⟩ l).length) : buildP l = (⟨#[]⟩, 10) := by
  unfold buildP; rw [if_pos ((rises_all l).2 h), enc_all, if_pos (by omega)]
theorem read_f (s : ByteArray) (k : Nat) (hk : 300000 < k) :
    (∃ l, s.size ≤ 40000 ∧ s.data.toList = encFrom ⟨#[]⟩ l ∧ okFrom false ⟨#[]⟩ l ∧ block_Read.f k s = some (l, 0)) ∨
    ((¬ ∃ l, s.size ≤ 40000 ∧ s.data.toList = encFrom ⟨#[]⟩ l ∧ okFrom false ⟨#[]⟩ l) ∧ block_Read.f k s = some ([], 8)) := by
  unfold block_Read.f
  by_cases c : (s.size : Int) > 40000
  · rw [if_pos c]
    exact .inr ⟨fun ⟨l, h, _⟩ => by omega, rfl⟩
  · rw [if_neg c]
    have hz : (⟨#[]⟩ : ByteArray).size = 0 := rfl
    rcases read_l0 40000 s ⟨#[]⟩ [] k (by omega) (by omega) (by simp; omega) (by omega) with ⟨l, h1, h2, h3⟩ | ⟨h1, h2⟩
    · exact .inl ⟨l, by omega, h1, by simpa using h2, by simpa using h3⟩
    · refine .inr ⟨?_, h2⟩
      rintro ⟨l, _, g1, g2⟩
      exact h1 ⟨l, g1, by simpa using g2⟩
end Go.Proofs.Ytbhainkcdkgbbaa.Pure

end
