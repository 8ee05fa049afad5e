/- FilterGrows holds: with one key in the place of another one all keys that are there are known; with all bits set all is yes, with none nothing; how many bits there are. Conditions: none beyond the statement's own. -/
import Derived.Test.YtdpadhmdiljpaaaDFilterGrows
import Derived.Test.YtdpadhmdiljpaaaPureFilterKnows
import Derived.Test.YtdpadhmdiljpaaaPn
set_option linter.unusedVariables false
set_option linter.unusedSimpArgs false
namespace Go.Proofs.Ytdpadhmdiljpaaa.Pure
open Go.RowKit Go.Proofs.Ytdpadhmdiljpaaa.P Go.Proofs.Ytdpadhmdiljpaaa.Fp Go.Proofs.YtdpadhmdiljpaaaW.PrintWords Go.Proofs.YtdpadhmdiljpaaaW.PrintLast Go.Proofs.YtdpadhmdiljpaaaW.PrintMore
theorem rep255_byt (n : Nat) : Byt (List.replicate n 255) := by
  intro x hx
  rw [List.mem_replicate] at hx
  omega
theorem bits255 : ∀ j : Fin 8, (255 : Nat).testBit j.val = true := by decide
theorem full_yes (n : Nat) (key : ByteArray) (hn : 1 ≤ n) : mayP (strOfNums (List.replicate n 255)) key = true := by
  unfold mayP
  rw [strOfNums_size, List.length_replicate, if_neg (by omega), List.all_eq_true]
  intro p hp
  have hr := placesP_range _ _ p hp
  rw [hasBit_strOf (rep255_byt n)]
  unfold hasL
  rw [rd_of, List.getElem?_replicate, if_pos (by omega)]
  exact bits255 ⟨(p % 8).toNat, by omega⟩
theorem none_no (n : Nat) (key : ByteArray) : mayP (strOfNums (List.replicate n 0)) key = false := by
  unfold mayP
  rw [strOfNums_size, List.length_replicate]
  split
  · rfl
  · rename_i hn
    rw [List.all_eq_false]
    have hl := placesP_length key (8 * (n : Int)) (by omega)
    refine ⟨(placesP key (8 * (n : Int)))[0]'(by omega), List.getElem_mem _, ?_⟩
    rw [hasBit_strOf (rep_byt n), rep_has]
    simp
theorem set_rep (N i : Nat) (h : i < N) : (List.replicate i (255 : Int) ++ List.replicate (N - i) 0).set i 255 = List.replicate (i + 1) 255 ++ List.replicate (N - (i + 1)) 0 := by
  apply List.ext_getElem
  · simp; omega
  · intro n h1 h2
    rw [List.getElem_set, List.getElem_append, List.getElem_append]
    simp only [List.length_replicate, List.getElem_replicate]
    repeat' split
    all_goals first | rfl | omega
theorem grows_l1 (key : ByteArray) (m : List ByteArray) (b : ByteArray) (N : Nat) (hN : 1 ≤ N) (hbN : b.size = N) (hN2 : N ≤ 400) (hk2 : key.size ≤ 300) (hm : m.length ≤ 200) (h1 : 1 ≤ cntP b) (h4 : cntP b ≤ 4 * m.length) :
    ∀ (d i k : Nat), i + d = N → d + 500 < k → moultlaw9_FilterGrows.l1 k key m b (List.replicate i 255 ++ List.replicate (N - i) 0) (List.replicate N 0) (i : Int) = some true := by
  intro d
  induction d with
  | zero =>
    intro i k hi hk
    obtain ⟨k, rfl⟩ : ∃ m, k = m + 1 := ⟨k - 1, by omega⟩
    obtain rfl : i = N := by omega
    simp only [moultlaw9_FilterGrows.l1]
    rw [Nat.sub_self, List.replicate_zero, List.append_nil, List.length_replicate, if_neg (by omega)]
    rw [full_f b (by omega) k (by omega)]
    simp only [Option.bind_some]
    rw [may_f _ _ (by rw [strOfNums_size, List.length_replicate]; omega) (by omega), full_yes i key hN]
    simp only [Option.bind_some, if_true]
    rw [may_f _ _ (by rw [strOfNums_size, List.length_replicate]; omega) (by omega), none_no]
    simp only [Option.bind_some]
    rw [if_neg (by decide), if_pos (by omega), if_pos (by unfold wrap64; omega)]
    rw [show wrap64 (8 * (b.size : Int)) = 8 * (b.size : Int) from by unfold wrap64; omega]
    simp
  | succ d ih =>
    intro i k hi hk
    obtain ⟨k, rfl⟩ : ∃ m, k = m + 1 := ⟨k - 1, by omega⟩
    have hlt : i < N := by omega
    simp only [moultlaw9_FilterGrows.l1]
    rw [if_pos (by simp; omega), if_pos (by omega), Int.toNat_natCast, set_rep N i hlt, wrap_succ (by omega)]
    exact ih (i + 1) k (by omega) (by omega)
theorem grows_l0 (key : ByteArray) (m : List ByteArray) (b : ByteArray) (hN : 1 ≤ b.size) (hN2 : b.size ≤ 400) (hk2 : key.size ≤ 300) (hm : m.length ≤ 200) (hsz : ∀ s ∈ m, s.size ≤ 300) (h1 : 1 ≤ cntP b) (h4 : cntP b ≤ 4 * m.length) (hmay : ∀ s ∈ m, mayP b s = true) :
    ∀ (d n k : Nat), n + d = m.length → d + 1000 < k → moultlaw9_FilterGrows.l0 k key m b (n : Int) = some true := by
  intro d
  induction d with
  | zero =>
    intro n k hn hk
    obtain ⟨k, rfl⟩ : ∃ m, k = m + 1 := ⟨k - 1, by omega⟩
    simp only [moultlaw9_FilterGrows.l0]
    rw [if_neg (by omega), if_pos (by omega), Int.toNat_natCast, if_pos (by omega)]
    exact grows_l1 key m b b.size hN rfl hN2 hk2 hm h1 h4 b.size 0 k (by omega) (by omega)
  | succ d ih =>
    intro n k hn hk
    obtain ⟨k, rfl⟩ : ∃ m, k = m + 1 := ⟨k - 1, by omega⟩
    have hlt : n < m.length := by omega
    simp only [moultlaw9_FilterGrows.l0]
    have hs := hsz _ (List.getElem_mem hlt)
    rw [if_pos (by omega), if_pos (by omega), rdOf_nat m n hlt, may_f _ _ (by omega) (by omega), hmay _ (List.getElem_mem hlt), wrap_succ (by omega)]
    simp only [Option.bind_some, if_true]
    exact ih (n + 1) k (by omega) (by omega)
theorem buildP_cnt (m : List ByteArray) (hm : m ≠ []) : (buildP m).size = sizeP m.length ∧ 1 ≤ cntP (buildP m) ∧ cntP (buildP m) ≤ 4 * m.length := by
  obtain ⟨a, b, c⟩ := build_ok m (sizeP m.length)
  have hs1 : 8 ≤ sizeP m.length := by unfold sizeP; omega
  unfold buildP
  rw [if_neg hm, strOfNums_size, cntP_strOf b, a]
  refine ⟨rfl, ?_, ?_⟩
  · obtain ⟨x, xs, rfl⟩ := List.exists_cons_of_ne_nil hm
    have hl := placesP_length x (8 * (sizeP (x :: xs).length : Int)) (by omega)
    have hmem := List.getElem_mem (l := placesP x (8 * (sizeP (x :: xs).length : Int))) (n := 0) (by omega)
    have hr := placesP_range _ _ _ hmem
    refine cnt_pos b _ hr.1 ?_ _ (Int.ediv_lt_of_lt_mul (by decide) (by omega))
    rw [c _ hr.1, List.any_cons]
    simp [hmem]
  · have := cnt_fillN m (sizeP m.length) (by omega) m.length (Nat.le_refl _)
    rwa [fillN_all] at this
theorem grows_j1 (l : List ByteArray) (key : ByteArray) (n : Int) (h0 : 0 ≤ n) (h1 : n < l.length) (hsz : ∀ s ∈ l, s.size ≤ 300) (hk2 : key.size ≤ 300) (hlen : l.length ≤ 200) (k : Nat) (hk : 1300 < k) :
    moultlaw9_FilterGrows.j1 k l key n = some true := by
  obtain ⟨k, rfl⟩ : ∃ m, k = m + 1 := ⟨k - 1, by omega⟩
  simp only [moultlaw9_FilterGrows.j1, Option.bind_some, List.nil_append]
  rw [if_pos (by simp; omega), if_pos h0, if_pos h1]
  have hsz2 : ∀ s ∈ l.set n.toNat key, s.size ≤ 300 := fun s hs => by
    rcases List.mem_or_eq_of_mem_set hs with h | h
    · exact hsz s h
    · rw [h]; exact hk2
  have hl2 : (l.set n.toNat key).length = l.length := List.length_set
  obtain ⟨m, hm⟩ : ∃ m, l.set n.toNat key = m := ⟨_, rfl⟩
  rw [hm] at hsz2 hl2 ⊢
  have hne : m ≠ [] := by rintro rfl; simp at hl2; omega
  rw [build_f m (by omega) hsz2]
  simp only [Option.bind_some]
  obtain ⟨c1, c2, c3⟩ := buildP_cnt m hne
  have hs1 : 8 ≤ sizeP m.length ∧ sizeP m.length ≤ 400 := by unfold sizeP; omega
  exact grows_l0 key m (buildP m) (by omega) (by omega) hk2 (by omega) hsz2 c2 c3 (fun s hs => may_build hs) m.length 0 k (by omega) (by omega)
theorem FilterGrows : moultlaw9_FilterGrows.Pure := by
  intro l key n hl hls hks hn
  refine ⟨2000 + 1 + 40, ?_⟩
  unfold moultlaw9_FilterGrows.f
  rw [moultlaw9_shown_le, small_f l _ (by omega)]
  simp only [Option.bind_some, if_true]
  have hj : ∀ b, moultlaw9_FilterGrows.j0 (2000 + 1 + 40) l key n true b = if b = true then some true else moultlaw9_FilterGrows.j0 (2000 + 1 + 40) l key n true false := by
    intro b
    cases b
    · rfl
    · show moultlaw9_FilterGrows.j0 (2040 + 1) l key n true true = _
      simp only [moultlaw9_FilterGrows.j0, if_true]
  rw [hj ((l.length : Int) == 0), hj true]
  simp only [if_true]
  split
  · rename_i hsm
    have hlen := smallP_len hsm
    have hsz := smallP_size hsm
    split
    · rfl
    · split
      · rfl
      · rename_i hk hz
        have hz' : ¬ (l.length : Int) = 0 := by simpa using hz
        show moultlaw9_FilterGrows.j0 (2040 + 1) l key n true false = _
        simp only [moultlaw9_FilterGrows.j0]
        rw [if_neg (by decide), if_neg hz']
        have hm1 : Int.tmod n (l.length : Int) < l.length := Int.tmod_lt_of_pos _ (by omega)
        have hm2 : -(l.length : Int) < Int.tmod n (l.length : Int) := by
          have := Int.tmod_lt_of_pos (-n) (b := (l.length : Int)) (by omega)
          rw [Int.neg_tmod] at this
          omega
        split
        · rw [show wrap64 (-(Int.tmod n (l.length : Int))) = -(Int.tmod n (l.length : Int)) from by unfold wrap64; omega]
          exact grows_j1 l key _ (by omega) (by omega) hsz (by omega) hlen _ (by omega)
        · exact grows_j1 l key _ (by omega) (by omega) hsz (by omega) hlen _ (by omega)
  · rfl
end Go.Proofs.Ytdpadhmdiljpaaa.Pure
