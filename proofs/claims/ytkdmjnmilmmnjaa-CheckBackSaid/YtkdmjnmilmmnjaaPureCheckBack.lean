import Derived.Test.YtkdmjnmilmmnjaaDCheckBack
import Derived.Test.YtkdmjnmilmmnjaaPk
set_option linter.unusedVariables false
set_option linter.unusedSimpArgs false
namespace Go.Proofs.Ytkdmjnmilmmnjaa.Pure
open Go.RowKit Go.Proofs.Ytkdmjnmilmmnjaa.P Go.Proofs.Ytkdmjnmilmmnjaa.Vp Go.Proofs.Ytkdmjnmilmmnjaa.Cp Go.Proofs.YtkdmjnmilmmnjaaW.PrintWords Go.Proofs.YtkdmjnmilmmnjaaW.PrintLast Go.Proofs.YtkdmjnmilmmnjaaW.PrintMore
theorem ba_assoc (a b c : ByteArray) : a ++ b ++ c = a ++ (b ++ c) := by apply bytesOf_inj; simp [bytesOf_append]
theorem ba_nil (a : ByteArray) : a ++ (⟨#[]⟩ : ByteArray) = a := by apply bytesOf_inj; rw [bytesOf_append]; simp [bytesOf]
theorem ba_nil_l (a : ByteArray) : (⟨#[]⟩ : ByteArray) ++ a = a := by apply bytesOf_inj; rw [bytesOf_append]; simp [bytesOf]
theorem take_app (a b : ByteArray) : (a ++ b).extract 0 a.size = a := by
  apply bytesOf_inj
  rw [bytesOf_take, bytesOf_append, List.take_left' (size_bytesOf a)]
theorem mid_app (a b c : ByteArray) : (a ++ (b ++ c)).extract a.size (a.size + b.size) = b := by
  have h1 : ((a ++ (b ++ c)).extract a.size (a ++ (b ++ c)).size).extract 0 b.size = b := by
    apply bytesOf_inj
    rw [bytesOf_take, bytesOf_drop, bytesOf_append, List.drop_left' (size_bytesOf a), bytesOf_append, List.take_left' (size_bytesOf b)]
  rw [ext_ext] at h1
  rw [show min (a.size + b.size) (a ++ (b ++ c)).size = a.size + b.size by rw [ByteArray.size_append, ByteArray.size_append]; omega, Nat.add_zero] at h1
  exact h1
theorem end_app (a b c : ByteArray) : (a ++ (b ++ c)).extract (a.size + b.size) (a ++ (b ++ c)).size = c := by
  apply bytesOf_inj
  rw [bytesOf_drop, ← ba_assoc, bytesOf_append, List.drop_left' (by rw [size_bytesOf, ByteArray.size_append])]
theorem unfP_frame (x r : ByteArray) (hx : x.size ≤ 40000) : unfP (frameP x ++ r) = (x, r, 0) := by
  have e : frameP x ++ r = putP (x.size : Int) ++ (x ++ (fourP (sumN x) ++ r)) := by rw [frameP_eq, ba_assoc, ba_assoc]
  have hf := fourP_size (sumN x)
  unfold unfP
  rw [e, takeP_put _ (by omega) (by omega)]
  dsimp only
  rw [if_pos rfl, if_neg (by omega), if_neg (by rw [ByteArray.size_append, ByteArray.size_append]; omega)]
  have e1 := mid_app x (fourP (sumN x)) r
  have e2 := end_app x (fourP (sumN x)) r
  rw [hf] at e1 e2
  rw [Int.toNat_natCast, take_app, e1, if_pos rfl, e2]
def framesR : List ByteArray → ByteArray
  | [] => ⟨#[]⟩
  | x :: l => frameP x ++ framesR l
theorem framesR_snoc (l : List ByteArray) (x : ByteArray) : framesR (l ++ [x]) = framesR l ++ frameP x := by
  induction l with
  | nil => simp only [List.nil_append, framesR]; rw [ba_nil, ba_nil_l]
  | cons y l ih => simp only [List.cons_append, framesR]; rw [ih, ba_assoc]
theorem scanP_fuel : ∀ (i j : Nat) (s : ByteArray), s.size < i → s.size < j → scanP i s = scanP j s
  | 0, j, s, h, _ => by omega
  | i + 1, 0, s, _, h => by omega
  | i + 1, j + 1, s, hi, hj => by
    rw [scanP, scanP]
    by_cases c : s.size = 0
    · rw [if_pos c, if_pos c]
    · rw [if_neg c, if_neg c]
      by_cases c1 : (unfP s).2.2 = 0
      · have hl := unfP_less' c1
        rw [if_pos c1, if_pos c1, scanP_fuel i j (unfP s).2.1 (by omega) (by omega)]
      · rw [if_neg c1, if_neg c1]
theorem scanP_frames : ∀ (l : List ByteArray) (s : ByteArray) (j : Nat), (∀ x ∈ l, x.size ≤ 40000) → (framesR l ++ s).size < j → scanP j (framesR l ++ s) = (l ++ (scanP (s.size + 1) s).1, (scanP (s.size + 1) s).2)
  | [], s, j, _, h => by
    simp only [framesR, ba_nil_l, List.nil_append] at h ⊢
    exact scanP_fuel _ _ s h (by omega)
  | x :: l, s, j, hx, h => by
    obtain ⟨j, rfl⟩ : ∃ i, j = i + 1 := ⟨j - 1, by omega⟩
    have hxs := hx x (by simp)
    have hu := unfP_frame x (framesR l ++ s) hxs
    rw [← ba_assoc] at hu
    have hsz := frameP_size x
    rw [framesR] at h ⊢
    have hs2 : (frameP x ++ framesR l ++ s).size = (frameP x).size + (framesR l ++ s).size := by rw [ba_assoc, ByteArray.size_append]
    rw [scanP, if_neg (by omega), hu]
    dsimp only
    rw [if_pos rfl, scanP_frames l s j (fun y hy => hx y (by simp [hy])) (by omega)]
    simp
theorem framesR_size : ∀ (l : List ByteArray), (∀ x ∈ l, x.size ≤ 500) → (framesR l).size ≤ 513 * l.length
  | [], _ => by simp [framesR, ByteArray.size]
  | x :: l, h => by
    have h1 := framesR_size l (fun y hy => h y (by simp [hy]))
    have h2 := h x (by simp)
    have h3 := frameP_size x
    have h4 := putP_size (x.size : Int)
    rw [framesR, ByteArray.size_append, List.length_cons]
    omega
theorem rdOf_eq (l : List ByteArray) (m : Nat) (h : m < l.length) : rdOf ByteArray.empty l (m : Int) = l[m] := by
  simp [rdOf, List.getD_eq_getElem?_getD, h]
theorem back_l0 (l : List ByteArray) (s : ByteArray) (hl : l.length ≤ 30) (hs : s.size ≤ 1000) : ∀ (d m k : Nat), m + d = l.length → d + 5000 < k → (∀ x ∈ l.take m, x.size ≤ 500) → moultlaw5_CheckBack.l0 k l s (framesR (l.take m)) (m : Int) = some true
  | 0, m, k, hm, hk, hx => by
    obtain ⟨k, rfl⟩ : ∃ j, k = j + 2 := ⟨k - 2, by omega⟩
    have em : l.take m = l := List.take_of_length_le (by omega)
    rw [em] at hx ⊢
    have hfs := framesR_size l hx
    have hx4 : ∀ x ∈ l, x.size ≤ 40000 := fun x hxm => by have := hx x hxm; omega
    have h1 := scanP_frames l (⟨#[]⟩ : ByteArray) ((framesR l).size + 1) hx4 (by rw [ba_nil]; omega)
    rw [ba_nil] at h1
    have h0 : scanP ((⟨#[]⟩ : ByteArray).size + 1) (⟨#[]⟩ : ByteArray) = ([], ⟨#[]⟩, 0) := rfl
    rw [h0] at h1
    have hsz : (framesR l ++ s).size = (framesR l).size + s.size := ByteArray.size_append
    have h2 := scanP_frames l s ((framesR l ++ s).size + 1) hx4 (by omega)
    have h3 := scanP_len (s.size + 1) s (by omega)
    rw [moultlaw5_CheckBack.l0, if_neg (by omega), scan_f _ (by omega), Option.bind_some, if_pos (by omega), scan_f _ (by omega), Option.bind_some, scan_f _ (by omega), Option.bind_some, h1, h2]
    generalize scanP (s.size + 1) s = c at h3 ⊢
    obtain ⟨c1, c2, c3⟩ := c
    dsimp only at h3 ⊢
    rw [List.append_nil, same_f l (by omega) _ (by omega), Option.bind_some, if_pos rfl]
    have e1 : wrap64 (((framesR l).size : Int) - ((⟨#[]⟩ : ByteArray).size : Int)) = ((framesR l).size : Int) := by
      rw [show ((⟨#[]⟩ : ByteArray).size : Int) = 0 from rfl]; unfold wrap64; omega
    have e2 : wrap64 ((s.size : Int) - (c2.size : Int)) = (s.size : Int) - c2.size := by unfold wrap64; omega
    have e3 : wrap64 (((framesR l ++ s).size : Int) - (c2.size : Int)) = (framesR l).size + ((s.size : Int) - c2.size) := by rw [hsz]; unfold wrap64; omega
    have e4 : wrap64 (((framesR l).size : Int) + ((s.size : Int) - c2.size)) = (framesR l).size + ((s.size : Int) - c2.size) := by unfold wrap64; omega
    have e5 : wrap64 ((l.length : Int) + (c1.length : Int)) = ((l ++ c1).length : Int) := by rw [List.length_append]; unfold wrap64; omega
    rw [e1, e2, e3, e4, e5, if_pos rfl, if_pos rfl, if_pos rfl, if_pos rfl]
    rw [moultlaw5_CheckBack.j2, if_neg (by simp), if_pos (by omega), if_pos (by rw [List.length_append]; omega), Int.toNat_natCast, List.take_left, same_f l (by omega) _ (by omega), Option.bind_some, if_pos rfl, List.drop_left, same_f c1 (by omega) _ (by omega)]
    rfl
  | d + 1, m, k, hm, hk, hx => by
    obtain ⟨k, rfl⟩ : ∃ j, k = j + 1 := ⟨k - 1, by omega⟩
    have hml : m < l.length := by omega
    rw [moultlaw5_CheckBack.l0, if_pos (by omega), if_pos (by omega), rdOf_eq l m hml]
    by_cases c : ((l[m]).size : Int) > 500
    · rw [if_pos c]
    · have hfs := framesR_size (l.take m) hx
      have htl : (l.take m).length ≤ 30 := by rw [List.length_take]; omega
      have hfz := frameP_size l[m]
      have hpz := putP_size ((l[m]).size : Int)
      rw [if_neg c, frame_f, if_neg (by omega), Option.bind_some, if_pos (by dsimp only; omega), wrap_succ (by omega)]
      dsimp only
      rw [← framesR_snoc, ← List.take_succ_eq_append_getElem hml]
      exact back_l0 l s hl hs d (m + 1) k (by omega) (by omega) (by
        rw [List.take_succ_eq_append_getElem hml]
        intro x hxm
        rcases List.mem_append.1 hxm with h | h
        · exact hx x h
        · simp only [List.mem_singleton] at h; subst h; omega)
theorem CheckBack : moultlaw5_CheckBack.Pure := by
  intro l0 a1 w0 w1 w2
  refine ⟨100000, ?_⟩
  unfold moultlaw5_CheckBack.f
  rw [shown_k _ (by omega), Option.bind_some, if_pos rfl]
  rw [show 100000 = 99999 + 1 from rfl, moultlaw5_CheckBack.j0]
  by_cases c0 : (l0.length : Int) > 30
  · rw [if_pos c0, if_pos rfl]
  · rw [if_neg c0, moultlaw5_CheckBack.j0]
    by_cases c : (a1.size : Int) > 1000
    · rw [decide_eq_true c, if_pos rfl]
    · rw [decide_eq_false c, if_neg (by decide)]
      have h := back_l0 l0 a1 (by omega) (by omega) l0.length 0 99999 (by omega) (by omega) (by simp)
      exact h
end Go.Proofs.Ytkdmjnmilmmnjaa.Pure
