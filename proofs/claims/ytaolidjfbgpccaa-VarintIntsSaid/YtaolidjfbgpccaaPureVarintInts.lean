/- VarintInts holds: ints behind one another, and bytes that are read as so many, are as the reference says; what was put is read back. Conditions: none beyond the statement's own. -/
import Derived.Test.YtaolidjfbgpccaaPx8
import Derived.Test.YtaolidjfbgpccaaPf
set_option linter.unusedVariables false
set_option linter.unusedSimpArgs false
namespace Go.Proofs.Ytaolidjfbgpccaa.Pure
open Go.RowKit Go.Proofs.Ytaolidjfbgpccaa.P Go.Proofs.Ytaolidjfbgpccaa.Vp Go.Proofs.YtaolidjfbgpccaaW.PrintWords Go.Proofs.YtaolidjfbgpccaaW.PrintLast Go.Proofs.YtaolidjfbgpccaaW.PrintMore
/-- So many ints off a text, behind those that there are; none: it is none. -/
def toIntsP : Nat → ByteArray → List Int → List Int × ByteArray × Bool
  | 0, s, l => (l, s, true)
  | d + 1, s, l => if (takeP s).2.2 = true then toIntsP d (takeP s).2.1 (l ++ [unfoldP (takeP s).1]) else ([], ⟨#[]⟩, false)
theorem take_rest (s : ByteArray) : (takeP s).2.1.size ≤ s.size ∧ 0 ≤ (takeP s).1 ∧ (takeP s).1 < 18446744073709551616 := by
  cases h : (takeP s).2.2 with
  | false => rw [takeP_false h]; exact ⟨Nat.zero_le _, by decide, by decide⟩
  | true =>
    obtain ⟨n, r, b, e⟩ : ∃ n r b, takeP s = (n, r, b) := ⟨_, _, _, rfl⟩
    rw [e] at h ⊢
    simp only at h ⊢
    subst h
    obtain ⟨h0, h1, _, h3⟩ := takeP_some e
    exact ⟨by omega, h0, h1⟩
theorem toints_l0 : ∀ (d n k : Nat) (s : ByteArray) (l : List Int) (many : Int), many = ((n + d : Nat) : Int) → n + d ≤ 1000 → l.length = n → s.size < 4611686018427387904 → d + 40 < k →
    varint_ToInts.l0 k s l many (n : Int) = some (toIntsP d s l) := by
  intro d
  induction d with
  | zero =>
    intro n k s l many hm h1 hl hs hk
    obtain ⟨k, rfl⟩ : ∃ j, k = j + 1 := ⟨k - 1, by omega⟩
    simp only [varint_ToInts.l0]
    rw [if_neg (by omega)]; rfl
  | succ d ih =>
    intro n k s l many hm h1 hl hs hk
    obtain ⟨k, rfl⟩ : ∃ j, k = j + 1 := ⟨k - 1, by omega⟩
    simp only [varint_ToInts.l0]
    rw [if_pos (by omega), take_f s hs k (by omega)]
    simp only [Option.bind_some]
    obtain ⟨r1, r2, r3⟩ := take_rest s
    rw [toIntsP]
    split
    · rw [unfold_f _ r2 r3]
      simp only [Option.bind_some]
      rw [if_pos (by omega), wrap_succ (by omega)]
      exact ih (n + 1) k _ _ many (by omega) (by omega) (by simp; omega) (by omega) (by omega)
    · rfl
theorem rtoints_l0 : ∀ (d n k : Nat) (s : ByteArray) (l : List Int) (many : Int), many = ((n + d : Nat) : Int) → n + d ≤ 1000 → l.length = n → s.size < 4611686018427387904 → d + 40 < k →
    moultref3_ToInts.l0 k many l s (n : Int) = some (toIntsP d s l) := by
  intro d
  induction d with
  | zero =>
    intro n k s l many hm h1 hl hs hk
    obtain ⟨k, rfl⟩ : ∃ j, k = j + 1 := ⟨k - 1, by omega⟩
    simp only [moultref3_ToInts.l0]
    rw [if_neg (by omega)]; rfl
  | succ d ih =>
    intro n k s l many hm h1 hl hs hk
    obtain ⟨k, rfl⟩ : ∃ j, k = j + 1 := ⟨k - 1, by omega⟩
    simp only [moultref3_ToInts.l0]
    rw [if_pos (by omega), rtake_f s hs k (by omega)]
    simp only [Option.bind_some]
    obtain ⟨r1, r2, r3⟩ := take_rest s
    rw [toIntsP]
    split
    · rw [runfold_f _ r2 r3]
      simp only [Option.bind_some]
      rw [if_pos (by omega), wrap_succ (by omega)]
      exact ih (n + 1) k _ _ many (by omega) (by omega) (by simp; omega) (by omega) (by omega)
    · rfl
theorem rints_l0 (l : List Int) (hl : l.length ≤ 1000) (hr : ∀ x ∈ l, -9223372036854775808 ≤ x ∧ x ≤ 9223372036854775807) : ∀ (d n k : Nat) (s : ByteArray), n + d = l.length → s = intsP (l.take n) → d + 40 < k →
    moultref3_Ints.l0 k l s (n : Int) = some (intsP l) := by
  intro d
  induction d with
  | zero =>
    intro n k s hn hs hk
    obtain ⟨k, rfl⟩ : ∃ j, k = j + 1 := ⟨k - 1, by omega⟩
    simp only [moultref3_Ints.l0]
    rw [if_neg (by omega), hs, List.take_of_length_le (by omega)]
  | succ d ih =>
    intro n k s hn hs hk
    obtain ⟨k, rfl⟩ : ∃ j, k = j + 1 := ⟨k - 1, by omega⟩
    have hlt : n < l.length := by omega
    have hx := hr _ (List.getElem_mem hlt)
    have hf := foldP_range _ hx.1 hx.2
    have hrd : rd l (n : Int) = l[n] := by simp [rd, List.getD_eq_getElem?_getD, hlt]
    simp only [moultref3_Ints.l0]
    rw [if_pos (by omega), if_pos (by omega), hrd, rfold_f _ hx.1 hx.2]
    simp only [Option.bind_some]
    rw [rput_f _ hf.1 hf.2 k (by omega)]
    simp only [Option.bind_some]
    have h1 : s.size ≤ 9 * 1000 := by
      have := intsU_length (l.take n)
      rw [List.length_take] at this
      rw [hs]
      show (intsU (l.take n)).toArray.size ≤ _
      rw [List.size_toArray]
      omega
    have h2 := putP_size (foldP l[n])
    rw [if_pos (by omega), wrap_succ (by omega)]
    refine ih (n + 1) k _ (by omega) ?_ (by omega)
    rw [hs]
    apply ByteArray.ext
    apply Array.toList_inj.1
    rw [data_app]
    simp only [intsP, intsU]
    rw [List.take_succ_eq_append_getElem hlt, List.flatMap_append]
    simp
theorem intsP_cons (x : Int) (l : List Int) : intsP (x :: l) = putP (foldP x) ++ intsP l := by
  apply ByteArray.ext
  apply Array.toList_inj.1
  rw [data_app]
  simp [intsP, intsU]
theorem app_assoc (a b c : ByteArray) : a ++ b ++ c = a ++ (b ++ c) := by
  apply ByteArray.ext
  apply Array.toList_inj.1
  simp only [data_app, List.append_assoc]
theorem toints_back (s : ByteArray) : ∀ (l acc : List Int), (∀ x ∈ l, -9223372036854775808 ≤ x ∧ x ≤ 9223372036854775807) → toIntsP l.length (intsP l ++ s) acc = (acc ++ l, s, true) := by
  intro l
  induction l with
  | nil =>
    intro acc _
    have : intsP [] ++ s = s := by
      apply ByteArray.ext
      apply Array.toList_inj.1
      rw [data_app]; simp [intsP, intsU]
    rw [this]; simp [toIntsP]
  | cons x l ih =>
    intro acc h
    have hx := h x (by simp)
    have hf := foldP_range x hx.1 hx.2
    rw [List.length_cons, toIntsP, intsP_cons, app_assoc, takeP_put _ hf.1 hf.2]
    simp only [if_true]
    rw [ih _ (fun y hy => h y (by simp [hy])), unfold_fold]
    simp
theorem same_l0 (l : List Int) (hl : l.length < 9223372036854775807) : ∀ (d n k : Nat), n + d = l.length → d < k → moultlaw3_same.l0 k l l (n : Int) = some true := by
  intro d
  induction d with
  | zero =>
    intro n k hn hk
    obtain ⟨k, rfl⟩ : ∃ m, k = m + 1 := ⟨k - 1, by omega⟩
    simp only [moultlaw3_same.l0]
    rw [if_neg (by omega)]
  | succ d ih =>
    intro n k hn hk
    obtain ⟨k, rfl⟩ : ∃ m, k = m + 1 := ⟨k - 1, by omega⟩
    simp only [moultlaw3_same.l0]
    rw [if_pos (by omega), if_pos (by omega), if_pos (by omega), wrap_succ (by omega)]
    simp only [if_true]
    exact ih (n + 1) k (by omega) (by omega)
theorem same_f (l : List Int) (hl : l.length < 9223372036854775807) (k : Nat) (hk : l.length < k) : moultlaw3_same.f k l l = some true := by
  unfold moultlaw3_same.f
  rw [if_pos rfl]
  exact same_l0 l hl l.length 0 k (by omega) hk
theorem toints_len : ∀ (d : Nat) (s : ByteArray) (l : List Int), (toIntsP d s l).1.length ≤ l.length + d := by
  intro d
  induction d with
  | zero => intro s l; simp [toIntsP]
  | succ d ih =>
    intro s l
    rw [toIntsP]
    split
    · have := ih (takeP s).2.1 (l ++ [unfoldP (takeP s).1])
      simp at this; omega
    · simp
theorem toints_f (s : ByteArray) (hs : s.size < 4611686018427387904) (many : Int) (k : Nat) (hk : 1100 < k) : varint_ToInts.f k s many = some (if many < 0 ∨ many > 1000 then ([], ⟨#[]⟩, false) else toIntsP many.toNat s []) := by
  unfold varint_ToInts.f
  obtain ⟨k, rfl⟩ : ∃ j, k = j + 1 := ⟨k - 1, by omega⟩
  simp only [varint_ToInts.j0]
  by_cases h : many < 0
  · rw [if_pos h, if_pos (show many < 0 ∨ many > 1000 from .inl h)]; rfl
  · rw [if_neg h]
    by_cases h2 : many > 1000
    · rw [if_pos (by simpa using h2), if_pos (.inr h2)]
    · rw [if_neg (by simpa using h2), if_neg (by omega)]
      exact toints_l0 many.toNat 0 k s [] many (by omega) (by omega) rfl hs (by omega)
theorem rtoints_f (s : ByteArray) (hs : s.size < 4611686018427387904) (many : Int) (k : Nat) (hk : 1100 < k) : moultref3_ToInts.f k s many = some (if many < 0 ∨ many > 1000 then ([], ⟨#[]⟩, false) else toIntsP many.toNat s []) := by
  unfold moultref3_ToInts.f
  obtain ⟨k, rfl⟩ : ∃ j, k = j + 1 := ⟨k - 1, by omega⟩
  simp only [moultref3_ToInts.j0]
  by_cases h : many < 0
  · rw [if_pos h, if_pos (show many < 0 ∨ many > 1000 from .inl h)]; rfl
  · rw [if_neg h]
    by_cases h2 : many > 1000
    · rw [if_pos (by simpa using h2), if_pos (.inr h2)]
    · rw [if_neg (by simpa using h2), if_neg (by omega)]
      exact rtoints_l0 many.toNat 0 k s [] many (by omega) (by omega) rfl hs (by omega)
theorem VarintInts : moultlaw3_VarintInts.Pure := by
  intro l s many hl hl8 hwf hs hmany
  have hr : ∀ x ∈ l, -9223372036854775808 ≤ x ∧ x ≤ 9223372036854775807 := fun x hx => i64_wf (hwf x hx)
  refine ⟨(3000 + 1) + 40, ?_⟩
  unfold moultlaw3_VarintInts.f
  rw [shown_le]
  simp only [Option.bind_some, if_true]
  have hj : ∀ b, moultlaw3_VarintInts.j0 ((3000 + 1) + 40) l s many true b = if b = true then some true else moultlaw3_VarintInts.j0 ((3000 + 1) + 40) l s many true false := by
    intro b
    cases b
    · rfl
    · show moultlaw3_VarintInts.j0 (3040 + 1) l s many true true = _
      simp only [moultlaw3_VarintInts.j0, if_true]
  rw [hj (decide ((s.size : Int) > 3000)), hj true]
  simp only [if_true]
  split
  · rfl
  · split
    · rfl
    · rename_i h1 h2
      have hs2 : s.size ≤ 3000 := by rw [decide_eq_true_eq] at h2; omega
      have hl2 : l.length ≤ 300 := by omega
      show moultlaw3_VarintInts.j0 (3040 + 1) l s many true false = _
      simp only [moultlaw3_VarintInts.j0]
      rw [if_neg (by decide)]
      have hi : varint_Ints.f l = some (intsP l) := by unfold varint_Ints.f; rw [if_pos ⟨by omega, hr⟩]
      have hsz : (intsP l).size ≤ 2700 := by
        have := intsU_length l
        show (intsU l).toArray.size ≤ _
        rw [List.size_toArray]; omega
      rw [hi]
      simp only [Option.bind_some]
      have hri : moultref3_Ints.f 3040 l = some (intsP l) := by
        unfold moultref3_Ints.f
        exact rints_l0 l (by omega) hr l.length 0 3040 _ (by omega) rfl (by omega)
      have hti : varint_ToInts.f 3040 (intsP l ++ s) (l.length : Int) = some (l, s, true) := by
        rw [toints_f _ (by rw [ByteArray.size_append]; omega) _ _ (by omega), if_neg (by omega), Int.toNat_natCast, toints_back s l [] hr, List.nil_append]
      have htm := toints_f s (by omega) many 3040 (by omega)
      have hrm := rtoints_f s (by omega) many 3040 (by omega)
      obtain ⟨p, hp⟩ : ∃ p, (if many < 0 ∨ many > 1000 then (([] : List Int), (⟨#[]⟩ : ByteArray), false) else toIntsP many.toNat s []) = p := ⟨_, rfl⟩
      have hpl : p.1.length ≤ 1000 := by
        rw [← hp]; split
        · simp
        · have := toints_len many.toNat s []
          simp at this; omega
      rw [hp] at htm hrm
      rw [if_pos (by rw [show ((intsP l).size) = (intsP l).size from rfl]; omega), hti]
      simp only [Option.bind_some]
      rw [htm, hrm]
      simp only [Option.bind_some]
      rw [hri]
      simp only [Option.bind_some, if_true]
      rw [same_f l (by omega) _ (by omega)]
      simp only [Option.bind_some, if_true]
      rw [same_f p.1 (by omega) _ (by omega)]
      simp
end Go.Proofs.Ytaolidjfbgpccaa.Pure
