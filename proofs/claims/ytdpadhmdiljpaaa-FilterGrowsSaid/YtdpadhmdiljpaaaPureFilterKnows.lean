/- FilterKnows holds: of all keys that it was built of a filter says yes, in whatever order they came. Conditions: none beyond the statement's own. -/
import Derived.Test.YtdpadhmdiljpaaaDFilterKnows
import Derived.Test.YtdpadhmdiljpaaaPl
namespace Go.Proofs.Ytdpadhmdiljpaaa.Pure
open Go.RowKit Go.Proofs.Ytdpadhmdiljpaaa.P Go.Proofs.Ytdpadhmdiljpaaa.Fp Go.Proofs.YtdpadhmdiljpaaaW.PrintWords Go.Proofs.YtdpadhmdiljpaaaW.PrintLast Go.Proofs.YtdpadhmdiljpaaaW.PrintMore
theorem rows_ext {xs ys : List Int} (hl : xs.length = ys.length) (hx : Byt xs) (hy : Byt ys) (h : ∀ i, 0 ≤ i → hasL xs i = hasL ys i) : xs = ys := by
  apply List.ext_getElem hl
  intro n h1 h2
  have a := hx _ (List.getElem_mem h1)
  have b := hy _ (List.getElem_mem h2)
  have hn : xs[n].toNat = ys[n].toNat := by
    apply Nat.eq_of_testBit_eq
    intro j
    by_cases hj : j < 8
    · have := h (8 * (n : Int) + (j : Int)) (by omega)
      unfold hasL at this
      rw [show (8 * (n : Int) + (j : Int)) / 8 = (n : Int) by omega, show ((8 * (n : Int) + (j : Int)) % 8).toNat = j by omega] at this
      rwa [rd_of, rd_of, Int.toNat_natCast, List.getElem?_eq_getElem h1, List.getElem?_eq_getElem h2, Option.getD_some, Option.getD_some] at this
    · have hp : (2 : Nat) ^ 8 ≤ 2 ^ j := Nat.pow_le_pow_right (by decide) (by omega)
      rw [Nat.testBit_lt_two_pow (by omega), Nat.testBit_lt_two_pow (by omega)]
  omega
theorem build_same {k1 k2 : List ByteArray} (hl : k1.length = k2.length) (h : ∀ x, x ∈ k1 ↔ x ∈ k2) : buildP k1 = buildP k2 := by
  unfold buildP
  by_cases h1 : k1 = []
  · subst h1
    have h2 : k2 = [] := List.eq_nil_of_length_eq_zero hl.symm
    rw [h2]
  · have h2 : k2 ≠ [] := by rintro rfl; exact h1 (List.eq_nil_of_length_eq_zero hl)
    rw [if_neg h1, if_neg h2, hl]
    congr 1
    obtain ⟨a1, b1, c1⟩ := build_ok k1 (sizeP k2.length)
    obtain ⟨a2, b2, c2⟩ := build_ok k2 (sizeP k2.length)
    refine rows_ext (a1.trans a2.symm) b1 b2 (fun i hi => ?_)
    rw [c1 i hi, c2 i hi, Bool.eq_iff_iff]
    simp only [List.any_eq_true]
    exact ⟨fun ⟨x, hx, p⟩ => ⟨x, (h x).1 hx, p⟩, fun ⟨x, hx, p⟩ => ⟨x, (h x).2 hx, p⟩⟩
theorem may_build {l : List ByteArray} {key : ByteArray} (h : key ∈ l) : mayP (buildP l) key = true := by
  have hne : l ≠ [] := by rintro rfl; cases h
  have hpos : 0 < l.length := List.length_pos_iff.2 hne
  unfold mayP buildP
  rw [if_neg hne]
  obtain ⟨a, b, c⟩ := build_ok l (sizeP l.length)
  rw [strOfNums_size, a]
  rw [if_neg (by unfold sizeP; omega)]
  rw [List.all_eq_true]
  intro p hp
  have hr := placesP_range _ _ p hp
  rw [hasBit_strOf b, c p hr.1, List.any_eq_true]
  exact ⟨key, h, by simpa using hp⟩
theorem knows_l0 (l : List ByteArray) (b : ByteArray) (hb : b.size ≤ 140737488355328) (hsz : ∀ s ∈ l, s.size ≤ 300) (hlen : l.length ≤ 200) (hm : ∀ s ∈ l, mayP b s = true) :
    ∀ (d n k : Nat), n + d = l.length → d < k → moultlaw9_FilterKnows.l0 k l b (n : Int) = some true := by
  intro d
  induction d with
  | zero =>
    intro n k hn hk
    obtain ⟨k, rfl⟩ : ∃ m, k = m + 1 := ⟨k - 1, by omega⟩
    simp only [moultlaw9_FilterKnows.l0]
    rw [if_neg (by omega)]
  | succ d ih =>
    intro n k hn hk
    obtain ⟨k, rfl⟩ : ∃ m, k = m + 1 := ⟨k - 1, by omega⟩
    have hlt : n < l.length := by omega
    simp only [moultlaw9_FilterKnows.l0]
    have h1 := hsz _ (List.getElem_mem hlt)
    rw [if_pos (by omega), if_pos (by omega), rdOf_nat l n hlt, may_f _ _ hb (by omega), hm _ (List.getElem_mem hlt), wrap_succ (by omega)]
    simp only [Option.bind_some, if_true]
    exact ih (n + 1) k (by omega) (by omega)
theorem buildP_size2 (keys : List ByteArray) (h : keys.length ≤ 200) : (buildP keys).size ≤ 400 := by
  unfold buildP
  split
  · decide
  · rw [strOfNums_size, (build_ok keys _).1]; unfold sizeP; omega
theorem knows_j1 (l : List ByteArray) (n : Int) (h0 : 0 ≤ n) (h1 : n ≤ l.length) (hsz : ∀ s ∈ l, s.size ≤ 300) (hlen : l.length ≤ 200) (k : Nat) (hk : l.length + 1 < k) :
    moultlaw9_FilterKnows.j1 k l (buildP l) n = some true := by
  obtain ⟨k, rfl⟩ : ∃ m, k = m + 1 := ⟨k - 1, by omega⟩
  have hd : (l.drop n.toNat).length ≤ 200 := by rw [List.length_drop]; omega
  have ht : (l.take n.toNat).length ≤ 200 := by rw [List.length_take]; omega
  have e : buildP (l.drop n.toNat ++ l.take n.toNat) = buildP l := by
    apply build_same
    · rw [List.length_append, List.length_drop, List.length_take]; omega
    · intro x
      have := List.take_append_drop n.toNat l
      constructor
      · intro h
        rw [List.mem_append] at h
        rcases h with h | h
        · exact List.mem_of_mem_drop h
        · exact List.mem_of_mem_take h
      · intro h
        rw [← this, List.mem_append] at h
        rw [List.mem_append]
        exact h.symm
  simp only [moultlaw9_FilterKnows.j1, Option.bind_some, List.nil_append]
  rw [if_pos h0, if_pos h1, if_pos (by simp; omega), if_pos (by omega)]
  rw [build_f _ (by rw [List.length_append]; omega) (fun s hs => by
    rw [List.mem_append] at hs
    rcases hs with h | h
    · exact hsz s (List.mem_of_mem_drop h)
    · exact hsz s (List.mem_of_mem_take h)), e]
  simp only [Option.bind_some, if_true]
  have hb := buildP_size2 l hlen
  exact knows_l0 l (buildP l) (by omega) hsz hlen (fun s hs => may_build hs) l.length 0 k (by omega) (by omega)
theorem FilterKnows : moultlaw9_FilterKnows.Pure := by
  intro l turn hl hls hturn
  refine ⟨1000 + 1 + 40, ?_⟩
  unfold moultlaw9_FilterKnows.f
  rw [moultlaw9_shown_le, small_f l _ (by omega)]
  simp only [Option.bind_some, if_true]
  have hj : ∀ b, moultlaw9_FilterKnows.j0 (1000 + 1 + 40) l turn true b = if b = true then some true else moultlaw9_FilterKnows.j0 (1000 + 1 + 40) l turn true false := by
    intro b
    cases b
    · rfl
    · show moultlaw9_FilterKnows.j0 (1040 + 1) l turn true true = _
      simp only [moultlaw9_FilterKnows.j0, if_true]
  rw [hj ((l.length : Int) == 0), hj true]
  simp only [if_true]
  split
  · rename_i hsm
    have hlen := smallP_len hsm
    have hsz := smallP_size hsm
    split
    · rfl
    · rename_i hz
      have hz' : ¬ (l.length : Int) = 0 := by simpa using hz
      show moultlaw9_FilterKnows.j0 (1040 + 1) l turn true false = _
      simp only [moultlaw9_FilterKnows.j0]
      rw [if_neg (by decide), build_f l (by omega) hsz]
      simp only [Option.bind_some]
      rw [if_neg hz']
      have hm1 : Int.tmod turn (l.length : Int) < l.length := Int.tmod_lt_of_pos _ (by omega)
      have hm2 : -(l.length : Int) < Int.tmod turn (l.length : Int) := by
        have := Int.tmod_lt_of_pos (-turn) (b := (l.length : Int)) (by omega)
        rw [Int.neg_tmod] at this
        omega
      split
      · rw [show wrap64 (-(Int.tmod turn (l.length : Int))) = -(Int.tmod turn (l.length : Int)) from by unfold wrap64; omega]
        exact knows_j1 l _ (by omega) (by omega) hsz hlen _ (by omega)
      · exact knows_j1 l _ (by omega) (by omega) hsz hlen _ (by omega)
  · rfl
end Go.Proofs.Ytdpadhmdiljpaaa.Pure
