import Derived.Test.YtkjfifdcnlnocaaDoorPx0
import Derived.Test.YtkjfifdcnlnocaaDoorTx
import Derived.Test.YtkjfifdcnlnocaaDoorSb
import Derived.Test.YtkjfifdcnlnocaaDoorSh
import Derived.Deep.LoopGhost
import Derived.Lib.Hide
import Derived.Outline
import Derived.WalkKit
import Derived.RegionTactic
import Derived.Deep.RegionWith
import Derived.Deep.QuietTactic
import Derived.BigQuiet
import Derived.WalkSpells
-- Written by sprint.py (wip/tools) with the kit's print.py: a program's text, checked by Lean alone.
namespace Go.Proofs.YtkjfifdcnlnocaaDoor.P
open Go.RowKit Go.Proofs.YtkjfifdcnlnocaaDoorW.PrintWords Go.Proofs.YtkjfifdcnlnocaaDoorW.PrintLast Go.Proofs.YtkjfifdcnlnocaaDoorW.PrintMore
attribute [local go_sem] max2_int min2_int max_two min_two max_three min_three max_four min_four   -- for this text's walks alone
set_option linter.unusedVariables false
set_option linter.unusedSimpArgs false

def escL (l : List UInt8) : List UInt8 := l.flatMap fun c => if c = 0 then [0, 255] else [c]
def escB (s : ByteArray) : ByteArray := ⟨(escL s.data.toList).toArray⟩
theorem escL_append (a b : List UInt8) : escL (a ++ b) = escL a ++ escL b := by unfold escL; rw [List.flatMap_append]
theorem escL_other (a : List UInt8) (h : ∀ c ∈ a, c ≠ 0) : escL a = a := by
  induction a with
  | nil => rfl
  | cons c a ih =>
    unfold escL at ih ⊢
    rw [List.flatMap_cons, if_neg (h c (by simp)), ih (fun x hx => h x (by simp [hx]))]
    rfl
theorem escL_length (l : List UInt8) : (escL l).length = l.length + l.count 0 := by
  induction l with
  | nil => rfl
  | cons c l ih =>
    unfold escL at ih ⊢
    rw [List.flatMap_cons, List.length_append, ih, List.length_cons]
    by_cases h : c = 0
    · subst h; simp; omega
    · rw [if_neg h, List.count_cons_of_ne h]; simp; omega
theorem count_none (a : List UInt8) (h : ∀ c ∈ a, c ≠ 0) : a.count 0 = 0 := List.count_eq_zero.2 (fun hm => h 0 hm rfl)
theorem idx_call2 (s : ByteArray) (w : World) : Calls Tryd.prog 47 #[.string s, .string ⟨#[0]⟩] w fun e w' => e = .returned (.int .i64 (Lib.indexByte s.data.toList 0)) ∧ w' = w := Tryd.strings_Index_one s 0 w
theorem cnt_call (s : ByteArray) (w : World) : Calls Tryd.prog 45 #[.string s, .string ⟨#[0]⟩] w fun e w' => e = .returned (.int .i64 (s.data.toList.count 0 : Nat)) ∧ w' = w := Tryd.strings_Count_one s 0 w
theorem grow_call (n m : Nat) (w : World) (hn : n + m ≤ 281474976710656) :
    Calls Tryd.prog 46 #[.pointer (some ⟨w.heap.size, 0, none⟩), .int .i64 ((n : Int) + (m : Int))] (w.alloc (.cells #[.pointer none, .slice none 0 0] 64)) fun e w' => e = .returned (.tuple #[]) ∧ Lib.IsBuilder 64 5 w.heap.size w.heap.size (Lib.byteCells []) w' ∧ Below w.heap.size w w' := by
  have e : ((n : Int) + (m : Int)) = ((n + m : Nat) : Int) := by omega
  rw [e]
  refine (Tryd.Builder_Grow_fresh w.heap.size w.heap.size (n + m) _ (Nat.le_refl _) (heap_alloc_new w _) (by simp) hn).mono ?_
  rintro e w' ⟨rfl, h1, h2⟩
  exact ⟨rfl, .inr h1, ((Below.refl w.heap.size w).alloc (Nat.le_refl _) _).trans h2⟩
set_option maxHeartbeats 6400000 in
set_option maxRecDepth 100000 in
theorem replace_some (s old new : ByteArray) (K : Nat) (w : World) (ho : old = ⟨#[0]⟩) (hn : new = ⟨#[0, 255]⟩) (hK : s.data.toList.count 0 = K) (h0 : 1 ≤ K) (hs : s.size ≤ 1099511627776) :
    Calls Tryd.prog 41 #[.string s, .string old, .string new, .int .i64 (-1)] w fun e w' => e = .returned (.string (escB s)) ∧ Below w.heap.size w w' := by
  have hbeq : (old.toList == new.toList) = false := (Lib.bytes_beq_false_iff old new).2 (by subst ho; subst hn; intro e; have := congrArg ByteArray.size e; exact absurd this (by decide))
  have hos : old.size = 1 := by subst ho; rfl
  have hns : new.size = 2 := by subst hn; rfl
  have hnd : new.data.toList = [0, 255] := by subst hn; rfl
  have HC : Aside0 (∀ w, Calls Tryd.prog 45 #[.string s, .string old] w fun e w' => e = .returned (.int .i64 (K : Nat)) ∧ w' = w) := ⟨by subst ho; rw [← hK]; exact cnt_call s⟩
  have HI : Aside0 (∀ t w, Calls Tryd.prog 47 #[.string t, .string old] w fun e w' => e = .returned (.int .i64 (Lib.indexByte t.data.toList 0)) ∧ w' = w) := ⟨by subst ho; exact idx_call2⟩
  have hKs : K ≤ s.size := by rw [← hK, ← data_length]; exact List.count_le_length
  have hcz : ((K : Int) == 0) = false := by simp; omega
  have HND := Aside0.mk hnd
  have HKK := Aside0.mk hK
  clear hK hnd ho hn
  go_enter Tryd.func41, Tryd.ntmps41
  have HG : Aside0 (s.size + K ≤ 281474976710656) := ⟨by omega⟩
  go_wp2_with (first | (go_at_call 45; (refine (HC.out _).mono ?_); rintro e w5 ⟨rfl, hw5⟩; rw [hw5]; clear hw5) | (go_at_call 46; (refine (grow_call s.size K w HG.out).mono ?_); rintro e w6 ⟨rfl, hf6, hb6⟩; have HF6 := Aside0.mk hf6; have HB6 := Aside0.mk hb6; clear hf6 hb6))
  go_loopg [11, 53] K (fun kq v11 v53 w' => ∃ (i start : Nat) (acc : List UInt8), v53 = .int .i64 i ∧ v11 = .int .i64 start ∧ Aside0 (i + kq = K) ∧ Aside0 (start ≤ s.size) ∧ Aside0 (acc ++ escL (s.data.toList.drop start) = escL s.data.toList) ∧ Aside0 ((s.data.toList.drop start).count 0 = kq) ∧ Aside0 (Lib.IsBuilder 64 5 w.heap.size w.heap.size (Lib.byteCells acc) w') ∧ Aside0 (Below w.heap.size w w'))
  case atStart => exact ⟨0, 0, [], rfl, rfl, ⟨by omega⟩, ⟨by omega⟩, ⟨by simp⟩, ⟨by rw [List.drop_zero]; exact HKK.out⟩, HF6, HB6⟩
  case round =>
    clear HF6 HB6
    obtain ⟨i, start, acc, rfl, rfl, HI1, HS, HA, HQ, HF, HB⟩ := hrel
    have hal : acc.length + (escL (s.data.toList.drop start)).length = s.size + K := by
      rw [← List.length_append, HA.out, escL_length, HKK.out, data_length]
    have hst := HS.out
    have hdl : (s.data.toList.drop start).length = s.size - start := by rw [List.length_drop, data_length]
    have hdx : (s.extract start s.size).data.toList = s.data.toList.drop start := by
      rw [Lib.extract_data, List.take_of_length_le (by rw [hdl]; omega)]
    have hel := escL_length (s.data.toList.drop start)
    have hi1 := HI1.out
    rcases idx_cut (s.data.toList.drop start) with ⟨hi, hn⟩ | ⟨a, r, hr, hi, hn⟩
    · have hq := HQ.out
      rw [count_none _ hn] at hq
      subst hq
      have hend : acc ++ (s.extract start s.size).data.toList = escL s.data.toList := by rw [hdx, ← HA.out, escL_other _ hn]
      have hcl : ¬ ((i : Int) < (K : Int)) := by omega
      have c2 : (start : Int) ≤ (s.size : Int) := by omega
      have HL : Aside0 (acc.length + (s.extract start s.size).size ≤ 140737488355328) := ⟨by rw [← data_length, hdx, hdl]; omega⟩
      have HEND := Aside0.mk hend
      have HX : Aside0 (s.extract start s.size = s.extract start s.size) := ⟨rfl⟩
      clear hi hn hdx hdl hel hal hend hi1 hst
      go_wp2_with (first | (go_at_call 37; (with_reducible refine (Sb.wstr w.heap.size w.heap.size _ _ w _ HF.out HL.out HB.out HB.out.size).mono ?_); rintro e w7 ⟨rfl, hf7, hb7⟩; rw [HEND.out] at hf7; have HF7 := Aside0.mk hf7; have HB7 := Aside0.mk hb7; clear hf7 hb7) | (go_at_call 38; (with_reducible refine (Sb.sout w.heap.size w.heap.size _ w _ HF7.out HB7.out HB7.out.size).mono ?_); rintro e w8 ⟨rfl, hb8⟩; have HB8 := Aside0.mk hb8; clear hb8))
      try rw [Exit.noGoto_ret]
      go_ret
      exact ⟨rfl, HB8.out⟩
    · obtain ⟨j, hj⟩ : ∃ j, a.length = j := ⟨_, rfl⟩
      have hjl : start + j + 1 + r.length = s.size := by rw [hr] at hdl; simp only [List.length_append, List.length_cons] at hdl; omega
      have hx1 : (s.extract start (start + j)).data.toList = a := by
        rw [Lib.extract_data, hr, Nat.add_sub_cancel_left, ← hj, List.take_left]
      have hdr : s.data.toList.drop (start + j + 1) = r := by
        rw [show start + j + 1 = start + (j + 1) by omega, ← List.drop_drop, hr, show a ++ 0 :: r = (a ++ [0]) ++ r by simp, show j + 1 = (a ++ [0]).length by simp [hj], List.drop_left]
      have hq := HQ.out
      rw [hr, List.count_append, count_none _ hn, List.count_cons_self, Nat.zero_add] at hq
      have hA2 : (acc ++ a ++ [0, 255]) ++ escL (s.data.toList.drop (start + j + 1)) = escL s.data.toList := by
        rw [hdr, ← HA.out, hr, show a ++ 0 :: r = a ++ ([0] ++ r) by simp, escL_append, escL_append, escL_other a hn]
        simp [escL]
      have hQ2 : (s.data.toList.drop (start + j + 1)).count 0 = gk - 1 := by rw [hdr]; omega
      have hea : (escL (s.data.toList.drop start)).length = a.length + (2 + (escL r).length) := by
        rw [hr, show a ++ 0 :: r = a ++ ([0] ++ r) by simp, escL_append, escL_append, escL_other a hn, show escL [0] = [0, 255] from rfl, List.length_append, List.length_append]
        rfl
      have hcl : (i : Int) < (K : Int) := by omega
      have c2 : (start : Int) ≤ (s.size : Int) := by omega
      have c3 : (start : Int) ≤ (start : Int) + (j : Int) := by omega
      have c4 : (start : Int) + (j : Int) ≤ (s.size : Int) := by omega
      have HL1 : Aside0 (acc.length + (s.extract start (start + j)).size ≤ 140737488355328) := ⟨by rw [← data_length, hx1]; omega⟩
      have HL2 : Aside0 ((acc ++ a).length + new.size ≤ 140737488355328) := ⟨by rw [List.length_append, hns]; omega⟩
      have HIJ : Aside0 (Lib.indexByte (s.extract start s.size).data.toList 0 = (j : Int)) := ⟨by rw [hdx, hi, hj]⟩
      have HX1 := Aside0.mk hx1
      have HA2 := Aside0.mk hA2
      have HQ2 := Aside0.mk hQ2
      have HQ1 : Aside0 (1 ≤ gk) := ⟨by omega⟩
      have HS2 : Aside0 (start + j + 1 ≤ s.size) := ⟨by omega⟩
      have HW0 : Aside0 (wrap64 ((start : Int) + (j : Int)) = (start : Int) + (j : Int)) := ⟨w64 _ (by omega) (by omega)⟩
      have HW1 : Aside0 (wrap64 ((start : Int) + (j : Int) + 1) = (start : Int) + (j : Int) + 1) := ⟨w64 _ (by omega) (by omega)⟩
      have HW2 : Aside0 (wrap64 ((i : Int) + 1) = (i : Int) + 1) := ⟨w64 _ (by omega) (by omega)⟩
      clear hi hn hdx hdl hel hal hi1 hst hq hx1 hdr hA2 hQ2 hea hjl hr hj
      have hw0 := HW0.out
      have hw1 := HW1.out
      have hw2 := HW2.out
      clear HW0 HW1 HW2
      go_wp2_with (first | (go_at_call 47; (refine (HI.out _ _).mono ?_); rintro e w6 ⟨rfl, hw6⟩; rw [hw6]; clear hw6; rw [HIJ.out]) | (go_at_call 37; (with_reducible refine (Sb.wstr w.heap.size w.heap.size _ (s.extract start (start + j)) w _ HF.out HL1.out HB.out HB.out.size).mono ?_); rintro e w7 ⟨rfl, hf7, hb7⟩; rw [HX1.out] at hf7; have HF7 := Aside0.mk hf7; have HB7 := Aside0.mk hb7; clear hf7 hb7) | (go_at_call 37; (with_reducible refine (Sb.wstr w.heap.size w.heap.size _ new w _ HF7.out HL2.out HB7.out HB7.out.size).mono ?_); rintro e w8 ⟨rfl, hf8, hb8⟩; rw [HND.out] at hf8; have HF8 := Aside0.mk hf8; have HB8 := Aside0.mk hb8; clear hf8 hb8))
      go_roundg (gk - 1)
      case measure => have := HQ1.out; omega
      case rel => exact ⟨i + 1, start + j + 1, acc ++ a ++ [0, 255], by go_num, by go_num, ⟨by have := HI1.out; have := HQ1.out; omega⟩, HS2, HA2, HQ2, HF8, HB8⟩
set_option maxHeartbeats 1600000 in
theorem replace_none (s old new : ByteArray) (w : World) (ho : old = ⟨#[0]⟩) (hn : new = ⟨#[0, 255]⟩) (hK : s.data.toList.count 0 = 0) :
    Calls Tryd.prog 41 #[.string s, .string old, .string new, .int .i64 (-1)] w fun e w' => e = .returned (.string s) ∧ w' = w := by
  have hbeq : (old.toList == new.toList) = false := (Lib.bytes_beq_false_iff old new).2 (by subst ho; subst hn; intro e; have := congrArg ByteArray.size e; exact absurd this (by decide))
  have HC : Aside0 (∀ w, Calls Tryd.prog 45 #[.string s, .string old] w fun e w' => e = .returned (.int .i64 0) ∧ w' = w) := ⟨by subst ho; intro w; have := cnt_call s w; rw [hK] at this; exact this⟩
  clear ho hn hK
  go_enter Tryd.func41, Tryd.ntmps41
  go_wp2_with (first | (go_at_call 45; (refine (HC.out _).mono ?_); rintro e w5 ⟨rfl, hw5⟩; rw [hw5]; clear hw5))
  go_ret
  exact ⟨rfl, rfl⟩
theorem replace_any (s : ByteArray) (w : World) (hs : s.size ≤ 1099511627776) :
    Calls Tryd.prog 41 #[.string s, .string ⟨#[0]⟩, .string ⟨#[0, 255]⟩, .int .i64 (-1)] w fun e w' => e = .returned (.string (escB s)) ∧ Below w.heap.size w w' := by
  by_cases h : s.data.toList.count 0 = 0
  · refine (replace_none s _ _ w rfl rfl h).mono ?_
    rintro e w' ⟨rfl, rfl⟩
    refine ⟨?_, Below.refl _ _⟩
    have : escB s = s := by
      unfold escB
      rw [escL_other _ (fun c hc e => by subst e; exact absurd hc (List.count_eq_zero.1 h))]
    rw [this]
  · exact replace_some s _ _ _ w rfl rfl rfl (by omega) hs
def strings_ReplaceAll.f (a0 a1 a2 : ByteArray) : Option ByteArray := if a1 = ⟨#[0]⟩ ∧ a2 = ⟨#[0, 255]⟩ ∧ a0.size ≤ 1099511627776 then some (escB a0) else none
set_option maxHeartbeats 1600000 in
theorem strings_ReplaceAll.calls (a0 a1 a2 : ByteArray) (r : ByteArray) (w : World) (h : strings_ReplaceAll.f a0 a1 a2 = some r) :
    Calls Tryd.prog 26 #[.string a0, .string a1, .string a2] w fun e w' => e = .returned (.string r) ∧ Below w.heap.size w w' := by
  unfold strings_ReplaceAll.f at h
  split at h
  case isFalse => simp at h
  case isTrue hh =>
  obtain ⟨h1, h2, hs⟩ := hh
  obtain rfl := Option.some.inj h
  have HC : Aside0 (∀ w, Calls Tryd.prog 41 #[.string a0, .string a1, .string a2, .int .i64 (-1)] w fun e w' => e = .returned (.string (escB a0)) ∧ Below w.heap.size w w') := ⟨by subst h1; subst h2; exact fun w => replace_any a0 w hs⟩
  clear h h1 h2
  go_enter Tryd.func26, Tryd.ntmps26
  go_wp2_with (first | (go_at_call 41; (refine (HC.out _).mono ?_); rintro e w5 ⟨rfl, hb5⟩; have HB5 := Aside0.mk hb5; clear hb5))
  go_ret
  exact ⟨rfl, HB5.out⟩
end Go.Proofs.YtkjfifdcnlnocaaDoor.P
