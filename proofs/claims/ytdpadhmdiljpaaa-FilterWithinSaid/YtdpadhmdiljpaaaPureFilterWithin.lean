/- FilterWithin holds: a key's bits are four, all within, for any number of bits; of a filter of one key just these are set. Conditions: none beyond the statement's own. -/
import Derived.Test.YtdpadhmdiljpaaaPx8
import Derived.Test.YtdpadhmdiljpaaaPn
import Derived.Test.YtdpadhmdiljpaaaPureFilterPlaces
set_option linter.unusedVariables false
set_option linter.unusedSimpArgs false
namespace Go.Proofs.Ytdpadhmdiljpaaa.Pure
open Go.RowKit Go.Proofs.Ytdpadhmdiljpaaa.P Go.Proofs.Ytdpadhmdiljpaaa.Fp Go.Proofs.YtdpadhmdiljpaaaW.PrintWords Go.Proofs.YtdpadhmdiljpaaaW.PrintLast Go.Proofs.YtdpadhmdiljpaaaW.PrintMore
theorem shr_bit8 (x q : Int) (h0 : 0 ≤ x) (h1 : x < 256) (hq : 0 ≤ q) (hq2 : q < 8) : ((Int.tmod (shr .u8 x q) 2) = 0) = ¬ (x.toNat.testBit q.toNat = true) := by
  obtain ⟨m, rfl⟩ := Int.eq_ofNat_of_zero_le h0
  unfold shr
  rw [Nat.min_eq_left (by simp [IntKind.bits]; omega)]
  have e : ((m : Int) / 2 ^ q.toNat) = ((m / 2 ^ q.toNat : Nat) : Int) := by simp
  rw [e, tmod_nn (Int.natCast_nonneg _), Int.toNat_natCast, Nat.testBit_eq_decide_div_mod_eq]
  simp; omega
theorem mem4 {α : Type} {l : List α} {a b c d : α} {x : α} (h : l = [a, b, c, d]) : x ∈ l ↔ x = a ∨ x = b ∨ x = c ∨ x = d := by
  subst h; simp
theorem within_l1 (l : List Int) (f : ByteArray) (m : List Int) (hl : l.length = 4) (hf : f.size = 8) (a b c e : Int) (hm : m = [a, b, c, e]) (hbit : ∀ i, 0 ≤ i → i < 64 → hasBit f i = decide (i ∈ m)) :
    ∀ (d i k : Nat), i + d = 64 → d < k → moultlaw9_FilterWithin.l1 k l f m (cntP f : Int) 64 (cbN f i : Int) (i : Int) = some true := by
  have hcb : cbN f 64 = cntP f := by
    unfold cntP
    rw [← cb_cnt, hf]
  have hle : ∀ i, cbN f i ≤ i := by
    intro i
    induction i with
    | zero => simp [cbN]
    | succ i ih => simp only [cbN]; cases hasBit f (i : Int) <;> simp <;> omega
  intro d
  induction d with
  | zero =>
    intro i k hi hk
    obtain ⟨k, rfl⟩ : ∃ m, k = m + 1 := ⟨k - 1, by omega⟩
    obtain rfl : i = 64 := by omega
    simp only [moultlaw9_FilterWithin.l1]
    rw [if_neg (by decide), if_pos (by omega), if_pos (by omega), if_pos (by rw [hcb])]
    rfl
  | succ d ih =>
    intro i k hi hk
    obtain ⟨k, rfl⟩ : ∃ m, k = m + 1 := ⟨k - 1, by omega⟩
    have hlt : i < 64 := by omega
    have hlm : m.length = 4 := by rw [hm]; rfl
    simp only [moultlaw9_FilterWithin.l1]
    have hb := bt_range f ((i : Int) / 8)
    rw [tdiv_nn (by omega), tmod_nn (by omega), show wrap64 ((i : Int) / 8) = (i : Int) / 8 from by unfold wrap64; omega]
    rw [if_pos (by omega), if_pos (by omega), if_pos (by omega), if_pos (by omega), wrap_succ (by omega)]
    have hs := shr_bit8 (bt f ((i : Int) / 8)) ((i : Int) % 8) hb.1 (by omega) (by omega) (by omega)
    have hdef : hasBit f (i : Int) = (bt f ((i : Int) / 8)).toNat.testBit ((i : Int) % 8).toNat := rfl
    have hcs : cbN f (i + 1) = cbN f i + (hasBit f (i : Int)).toNat := rfl
    by_cases hc : (bt f ((i : Int) / 8)).toNat.testBit ((i : Int) % 8).toNat = true
    · rw [if_neg (by rw [hs]; simpa using hc)]
      have hmem := hbit (i : Int) (by omega) (by omega)
      rw [hdef, hc] at hmem
      have hmem2 : (i : Int) ∈ m := by simpa using hmem.symm
      rw [hdef, hc] at hcs
      have hw : wrap64 ((cbN f i : Int) + 1) = (cbN f (i + 1) : Int) := by
        have := hle i
        rw [hcs]; simp only [Bool.toNat_true]; unfold wrap64; omega
      have hgo := ih (i + 1) k (by omega) (by omega)
      rw [mem4 hm] at hmem2
      have r0 : rd m 0 = a := by rw [hm]; rfl
      have r1 : rd m 1 = b := by rw [hm]; rfl
      have r2 : rd m 2 = c := by rw [hm]; rfl
      have r3 : rd m 3 = e := by rw [hm]; rfl
      rw [r0, r1, r2, r3, hw, if_pos (by omega)]
      split
      · exact hgo
      · rw [if_pos (by omega)]
        split
        · exact hgo
        · rw [if_pos (by omega)]
          split
          · exact hgo
          · rw [if_pos (by omega)]
            split
            · exact hgo
            · rename_i h1 h2 h3 h4
              rcases hmem2 with h | h | h | h
              · exact absurd h h1
              · exact absurd h h2
              · exact absurd h h3
              · exact absurd h h4
    · rw [if_pos (by rw [hs]; exact hc)]
      rw [hdef, Bool.eq_false_iff.2 hc] at hcs
      have := ih (i + 1) k (by omega) (by omega)
      rw [hcs] at this
      exact this
theorem within_l0 (key : ByteArray) (n : Int) (hk2 : key.size ≤ 2000) (hn : 1 ≤ n) (hl : (placesP key n).length = 4) :
    ∀ (d i k : Nat), i + d = 4 → d + 2100 < k → moultlaw9_FilterWithin.l0 k key n (placesP key n) (i : Int) = some true := by
  intro d
  induction d with
  | zero =>
    intro i k hi hk
    obtain ⟨k, rfl⟩ : ∃ m, k = m + 1 := ⟨k - 1, by omega⟩
    simp only [moultlaw9_FilterWithin.l0]
    rw [if_neg (by omega)]
    have hb : filter_Build.f [key] = some (buildP [key]) := by
      unfold filter_Build.f
      rw [if_pos ⟨by simp, fun s hs => by rw [List.mem_singleton] at hs; subst hs; omega⟩]
    rw [hb]
    simp only [Option.bind_some]
    rw [places_f key (by omega) 64 (by omega) k (by omega)]
    simp only [Option.bind_some]
    obtain ⟨ba, bb, bc⟩ := build_ok [key] 8
    have hbp : buildP [key] = strOfNums (buildN [key] 8) := by unfold buildP; rw [if_neg (by simp), show sizeP [key].length = 8 from by simp [sizeP]]
    have hsz : (buildP [key]).size = 8 := by rw [hbp, strOfNums_size, ba]
    rw [full_f _ (by omega) k (by omega)]
    simp only [Option.bind_some]
    rw [hsz]
    obtain ⟨a, b, c, e, hm⟩ : ∃ a b c e, placesP key 64 = [a, b, c, e] := ⟨_, _, _, _, rfl⟩
    refine within_l1 (placesP key n) (buildP [key]) (placesP key 64) hl hsz a b c e hm (fun i h0 h1 => ?_) 64 0 k (by omega) (by omega)
    rw [hbp, hasBit_strOf bb, bc i h0]
    simp
  | succ d ih =>
    intro i k hi hk
    obtain ⟨k, rfl⟩ : ∃ m, k = m + 1 := ⟨k - 1, by omega⟩
    have hlt : i < (placesP key n).length := by omega
    simp only [moultlaw9_FilterWithin.l0]
    have hrd : rd (placesP key n) (i : Int) = (placesP key n)[i] := by simp [rd, List.getD_eq_getElem?_getD, hlt]
    have hr := placesP_range key n _ (List.getElem_mem hlt)
    rw [if_pos (by omega), if_pos (by omega), hrd, if_neg (by omega), if_neg (by omega), wrap_succ (by omega)]
    exact ih (i + 1) k (by omega) (by omega)
theorem FilterWithin : moultlaw9_FilterWithin.Pure := by
  intro key n hs hn
  obtain ⟨n1, n2⟩ := i64_range hn
  refine ⟨3000 + 1 + 40, ?_⟩
  unfold moultlaw9_FilterWithin.f
  rw [moultlaw9_shown_le]
  simp only [Option.bind_some, if_true]
  show moultlaw9_FilterWithin.j0 (3040 + 1) key n true _ = _
  simp only [moultlaw9_FilterWithin.j0]
  by_cases h : decide ((key.size : Int) > 2000) = true
  · rw [if_pos h]
  · have h' : key.size ≤ 2000 := by rw [decide_eq_true_eq] at h; omega
    rw [if_neg h, places_f key (by omega) n n2 _ (by omega)]
    simp only [Option.bind_some]
    by_cases hn1 : n < 1
    · rw [if_pos hn1]
      unfold placesP
      rw [if_pos hn1]; rfl
    · rw [if_neg hn1]
      exact within_l0 key n h' (by omega) (placesP_length key n (by omega)) 4 0 _ (by omega) (by omega)
end Go.Proofs.Ytdpadhmdiljpaaa.Pure
