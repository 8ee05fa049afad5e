import Derived.Test.YtkjfifdcnlnocaaDoorPx0
import Derived.Test.YtkjfifdcnlnocaaDoorSb
import Derived.Test.YtkjfifdcnlnocaaDoorSh
import Derived.Deep.LoopGhost
import Derived.Lib.Hide
import Derived.Outline
import Derived.WalkKit
import Derived.RegionTactic
import Derived.Deep.RegionWith
import Derived.Deep.QuietTactic
import Derived.BigQuiet
import Derived.WalkSpells
-- Written by sprint.py (wip/tools) with the kit's print.py: a program's text, checked by Lean alone.
namespace Go.Proofs.YtkjfifdcnlnocaaDoor.P
open Go.RowKit Go.Proofs.YtkjfifdcnlnocaaDoorW.PrintWords Go.Proofs.YtkjfifdcnlnocaaDoorW.PrintLast Go.Proofs.YtkjfifdcnlnocaaDoorW.PrintMore
attribute [local go_sem] max2_int min2_int max_two min_two max_three min_three max_four min_four   -- for this text's walks alone
set_option linter.unusedVariables false
set_option linter.unusedSimpArgs false

def textL : List UInt8 → Option (List UInt8 × List UInt8)
  | [] => none
  | [_] => none
  | c :: d :: r => if c = 0 then (if d = 0 then some ([], r) else if d = 255 then (textL r).map (fun p => (0 :: p.1, p.2)) else none) else (textL (d :: r)).map (fun p => (c :: p.1, p.2))
theorem textL_cons (c : UInt8) (l : List UInt8) (h : c ≠ 0) : textL (c :: l) = (textL l).map (fun p => (c :: p.1, p.2)) := by
  cases l with
  | nil => rfl
  | cons d r => rw [textL, if_neg h]
theorem textL_other (a : List UInt8) (r : List UInt8) (h : ∀ c ∈ a, c ≠ 0) : textL (a ++ r) = (textL r).map (fun p => (a ++ p.1, p.2)) := by
  induction a with
  | nil => rw [List.nil_append]; cases textL r <;> simp
  | cons c a ih =>
    have hc : c ≠ 0 := h c (by simp)
    rw [List.cons_append, textL_cons _ _ hc, ih (fun x hx => h x (by simp [hx]))]
    cases textL r <;> simp
theorem textL_none (a : List UInt8) (h : ∀ c ∈ a, c ≠ 0) : textL a = none := by
  have := textL_other a [] h
  rw [List.append_nil] at this
  rw [this]; rfl
theorem ne_cons {b : UInt8} {l : List UInt8} (hb : b ≠ 0) (h : ∀ c ∈ l, c ≠ 0) : ∀ c ∈ b :: l, c ≠ 0 := by
  intro c hc
  rcases List.mem_cons.1 hc with rfl | hc
  · exact hb
  · exact h c hc
theorem idx_cut (l : List UInt8) : (Lib.indexByte l 0 = -1 ∧ ∀ c ∈ l, c ≠ 0) ∨ ∃ a r, l = a ++ 0 :: r ∧ Lib.indexByte l 0 = (a.length : Int) ∧ ∀ c ∈ a, c ≠ 0 := by
  induction l with
  | nil => exact .inl ⟨rfl, by simp⟩
  | cons b l ih =>
    unfold Lib.indexByte
    by_cases hb : b = 0
    · subst hb
      exact .inr ⟨[], l, rfl, by simp, by simp⟩
    · rw [if_neg (by simpa using hb)]
      rcases ih with ⟨h1, h2⟩ | ⟨a, r, h1, h2, h3⟩
      · rw [h1]
        exact .inl ⟨by simp, ne_cons hb h2⟩
      · refine .inr ⟨b :: a, r, by rw [h1, List.cons_append], ?_, ne_cons hb h3⟩
        rw [h2, if_neg (by simp), List.length_cons]
        omega
theorem idx_call (s : ByteArray) (w : World) : Calls Tryd.prog 42 #[.string s, .int .u8 0] w fun e w' => e = .returned (.int .i64 (Lib.indexByte s.data.toList 0)) ∧ w' = w := Tryd.strings_IndexByte s 0 w
def textP (s : ByteArray) : ByteArray × ByteArray × Bool := match textL s.data.toList with | some p => (⟨p.1.toArray⟩, ⟨p.2.toArray⟩, true) | none => (⟨#[]⟩, ⟨#[]⟩, false)
def addP (acc : List UInt8) (o : Option (List UInt8 × List UInt8)) : ByteArray × ByteArray × Bool := match o with | some p => (⟨(acc ++ p.1).toArray⟩, ⟨p.2.toArray⟩, true) | none => (⟨#[]⟩, ⟨#[]⟩, false)
theorem addP_map (acc a : List UInt8) (o : Option (List UInt8 × List UInt8)) : addP acc (o.map (fun p => (a ++ p.1, p.2))) = addP (acc ++ a) o := by
  cases o <;> simp [addP]
theorem w64 (x : Int) (h0 : 0 ≤ x) (h1 : x < 4611686018427387904) : wrap64 x = x := by unfold wrap64; omega
theorem w64k (x : Int) (h0 : 0 ≤ x) (h1 : x < 4611686018427387904) : IntKind.i64.wrap x = x := by rw [IntKind.wrap_i64]; omega
theorem byte_split (s : ByteArray) (a : List UInt8) (c : UInt8) (r : List UInt8) (h : s.data.toList = a ++ c :: r) (n : Nat) (hn : a.length = n) (hlt : n < s.size) : ((s[n]'hlt).toNat : Int) = c.toNat := by
  subst hn
  have hl : s.data.toList.length = s.size := data_length s
  have e : s[a.length]'hlt = s.data.toList[a.length]'(by rw [hl]; exact hlt) := rfl
  rw [e]
  simp [h]
theorem sout_drew (B b : Nat) (l : List UInt8) (w0 w : World) (h : Lib.IsBuilder 64 5 B b (Lib.byteCells l) w) (hB : Below B w0 w) (hBw : B ≤ w.heap.size) :
    Calls Tryd.prog 38 #[.pointer (some ⟨b, 0, none⟩)] w.drew fun e w' => e = .returned (.string ⟨l.toArray⟩) ∧ Below B w0 w' :=
  Sb.sout B b l w0 _ (Sb.keep h (Below.refl _ _).drew) hB.drew hBw
theorem wzero (B b : Nat) (l : List UInt8) (w0 w : World) (h : Lib.IsBuilder 64 5 B b (Lib.byteCells l) w) (hlen : l.length + 1 ≤ 140737488355328) (hB : Below B w0 w) (hBw : B ≤ w.heap.size) :
    Calls Tryd.prog 43 #[.pointer (some ⟨b, 0, none⟩), .int .u8 0] w fun e w' => e = .returned .nilIface ∧ Lib.IsBuilder 64 5 B b (Lib.byteCells (l ++ [0])) w' ∧ Below B w0 w' :=
  Sb.wbyte B b l 0 w0 w h hlen hB hBw
def key_text.f (a0 : ByteArray) : Option (ByteArray × ByteArray × Bool) := if a0.size ≤ 1099511627776 then some (textP a0) else none
set_option maxHeartbeats 3200000 in
set_option maxRecDepth 100000 in
theorem key_text.calls (a0 : ByteArray) (r1 r2 : ByteArray) (r3 : Bool) (w : World) (h : key_text.f a0 = some (r1, r2, r3)) :
    Calls Tryd.prog 29 #[.string a0] w fun e w' => e = .returned (.tuple #[.string r1, .string r2, .bool r3]) ∧ Below w.heap.size w w' := by
  unfold key_text.f at h
  split at h
  case isFalse => simp at h
  case isTrue hlim =>
  have h2 := Option.some.inj h
  have HR : Aside0 (addP [] (textL a0.data.toList) = (r1, r2, r3)) := ⟨by rw [← h2]; rfl⟩
  clear h h2
  go_enter Tryd.func29, Tryd.ntmps29
  go_wp2_with fail
  have hb0 : Lib.IsBuilder 64 5 w.heap.size w.heap.size (Lib.byteCells []) (w.alloc (.cells #[.pointer none, .slice none 0 0] 64)) := Sb.fresh w
  have HB0 := Aside0.mk hb0
  clear hb0
  go_loopg [0] (a0.size) (fun kq v0 w' => ∃ (s : ByteArray) (acc : List UInt8), v0 = .string s ∧ Aside0 (kq = s.size) ∧ Aside0 (acc.length + s.size ≤ a0.size) ∧ Aside0 (addP acc (textL s.data.toList) = (r1, r2, r3)) ∧ Aside0 (Lib.IsBuilder 64 5 w.heap.size w.heap.size (Lib.byteCells acc) w') ∧ Aside0 (Below w.heap.size w w'))
  case atStart => exact ⟨a0, [], rfl, ⟨rfl⟩, ⟨by simp⟩, HR, HB0, ⟨below_alloc (Below.refl _ _) _⟩⟩
  case round =>
    clear HB0 HR
    obtain ⟨s, acc, rfl, HK, HL, HR, HF, HB⟩ := hrel
    rcases idx_cut s.data.toList with ⟨hi, hn⟩ | ⟨a, r, hs, hi, hn⟩
    · have hr := HR.out
      rw [textL_none _ hn] at hr
      simp only [addP, Prod.mk.injEq] at hr
      obtain ⟨rfl, rfl, rfl⟩ := hr
      have HI := Aside0.mk hi
      clear hi hn
      go_wp2_with (first | (go_at_call 42; (refine (idx_call s _).mono ?_); rintro e w5 ⟨rfl, rfl⟩; rw [HI.out]))
      go_ret3
      exact ⟨rfl, HB.out⟩
    · have hsz : s.size = a.length + (r.length + 1) := by rw [← data_length, hs]; simp
      have HI := Aside0.mk hi
      have hr := HR.out
      rw [hs, textL_other a _ hn, addP_map] at hr
      obtain ⟨j, hj⟩ : ∃ j, a.length = j := ⟨_, rfl⟩
      rw [hj] at HI hsz
      cases r with
      | nil =>
        simp only [textL, addP, Prod.mk.injEq] at hr
        obtain ⟨rfl, rfl, rfl⟩ := hr
        have hl := HL.out
        simp only [List.length_nil] at hsz
        have c1 : decide ((s.size : Int) ≤ (j : Int) + 1) = true := by simp; omega
        have hj2 : (j : Int) < 9223372036854775807 := by omega
        clear hi hn hs hl hsz
        go_wp2_with (first | (go_at_call 42; (refine (idx_call s _).mono ?_); rintro e w5 ⟨rfl, rfl⟩; rw [HI.out]))
        go_ret3
        exact ⟨rfl, HB.out⟩
      | cons d r =>
        simp only [List.length_cons] at hsz
        have hb1 : ∀ h : j + 1 < s.size, ((s[j + 1]'h).toNat : Int) = (d.toNat : Int) := byte_split s (a ++ [0]) d r (by rw [hs]; simp) (j + 1) (by simp [hj])
        have hl := HL.out
        have hex : (s.extract 0 j).data.toList = a := by
          rw [Lib.extract_data, hs]; simp [hj]
        have hdr : (s.extract (j + 2) s.size).data.toList = r := by
          have e : s.size - (j + 2) = r.length := by omega
          rw [Lib.extract_data, hs, e, ← hj]
          rw [show a ++ 0 :: d :: r = (a ++ [0, d]) ++ r by simp, show a.length + 2 = (a ++ [0, d]).length by simp, List.drop_left]
          simp
        have hds : (s.extract (j + 2) s.size).size = r.length := by rw [← data_length, hdr]
        have hes : (s.extract 0 j).size = j := by rw [← data_length, hex, hj]
        have c1 : decide ((s.size : Int) ≤ (j : Int) + 1) = false := by simp; omega
        have HW1 : Aside0 (wrap64 ((j : Int) + 1) = (j : Int) + 1) := ⟨w64 _ (by omega) (by omega)⟩
        have HW3 : Aside0 (IntKind.i64.wrap ((j : Int) + 2) = (j : Int) + 2) := ⟨w64k _ (by omega) (by omega)⟩
        have HW2 : Aside0 (wrap64 ((j : Int) + 2) = (j : Int) + 2) := ⟨w64 _ (by omega) (by omega)⟩
        have c2 : (j : Int) ≤ (s.size : Int) := by omega
        have c3 : (j : Int) + 2 ≤ (s.size : Int) := by omega
        have c4 : (j : Int) + 1 < (s.size : Int) := by omega
        have HLw : Aside0 (acc.length + (s.extract 0 j).size ≤ 140737488355328) := ⟨by rw [hes]; omega⟩
        have HEX := Aside0.mk hex
        have HDR := Aside0.mk hdr
        have HDS := Aside0.mk hds
        have HSZ := Aside0.mk hsz
        have HB1 := Aside0.mk hb1
        clear hex hdr hds hes hi hn hsz hs hj hl
        by_cases hd : d = 0
        · subst hd
          have hb2 : ∀ h : j + 1 < s.size, ((s[j + 1]'h).toNat : Int) = 0 := HB1.out
          simp only [textL, if_true, addP, Prod.mk.injEq, List.append_nil] at hr
          obtain ⟨h1, h2, rfl⟩ := hr
          have HA : Aside0 ((⟨(acc ++ a).toArray⟩ : ByteArray) = r1) := ⟨h1⟩
          have HD2 : Aside0 (s.extract (j + 2) s.size = r2) := ⟨by rw [← h2, ← HDR.out]⟩
          clear hb1 HB1 h1 h2
          have hw1 := HW1.out
          have hw2 := HW2.out
          have hw3 := HW3.out
          clear HW1 HW2 HW3
          go_wp2_with (first | (go_at_call 42; (refine (idx_call s _).mono ?_); rintro e w5 ⟨rfl, rfl⟩; rw [HI.out]) | (go_at_call 37; (with_reducible refine (Sb.wstr w.heap.size w.heap.size _ _ w _ HF.out HLw.out HB.out HB.out.size).mono ?_); rintro e w7 ⟨rfl, hf7, hb7⟩; rw [HEX.out] at hf7; have HF7 := Aside0.mk hf7; have HB7 := Aside0.mk hb7; clear hf7 hb7))
          go_region_with (first | (go_at_call 38; go_loud ((with_reducible refine (sout_drew w.heap.size w.heap.size _ w _ HF7.out HB7.out HB7.out.size).mono ?_); rintro e w8 ⟨rfl, hb8⟩; have HB8 := Aside0.mk hb8; clear hb8)))
          all_goals (go_wp2; go_ret3; exact ⟨by rw [HA.out, HD2.out]; rfl, HB8.out⟩)
        · have hd0 : ¬ d.toNat = 0 := fun e => hd (UInt8.toNat_inj.1 (by simpa using e))
          by_cases hd2 : d = 255
          · subst hd2
            have hb2 : ∀ h : j + 1 < s.size, ((s[j + 1]'h).toNat : Int) = 255 := HB1.out
            have hr2 : addP (acc ++ a ++ [0]) (textL r) = (r1, r2, r3) := by rw [← hr, textL, if_pos rfl, if_neg (by decide), if_pos rfl]; exact (addP_map (acc ++ a) [0] (textL r)).symm
            have HR2 := Aside0.mk hr2
            have k1 := HLw.out
            have k2 := HL.out
            have k3 := HSZ.out
            have k4 := HDS.out
            have k5 : (s.extract 0 j).size = a.length := by rw [← data_length, HEX.out]
            have k6 : (s.extract 0 j).size = j := by simp; omega
            have HLb : Aside0 ((acc ++ a).length + 1 ≤ 140737488355328) := ⟨by rw [List.length_append, ← k5, k6]; omega⟩
            have HLn : Aside0 ((acc ++ a ++ [0]).length + (s.extract (j + 2) s.size).size ≤ a0.size) := ⟨by rw [List.length_append, List.length_append, ← k5, k6, k4]; simp only [List.length_cons, List.length_nil]; omega⟩
            clear k1 k2 k3 k4 k5 k6
            have hw1 := HW1.out
            have hw2 := HW2.out
            clear hb1 HB1 HW1 HW2 HW3 hr hr2 hd hd0
            go_wp2_with (first | (go_at_call 42; (refine (idx_call s _).mono ?_); rintro e w5 ⟨rfl, rfl⟩; rw [HI.out]) | (go_at_call 37; (with_reducible refine (Sb.wstr w.heap.size w.heap.size _ _ w _ HF.out HLw.out HB.out HB.out.size).mono ?_); rintro e w7 ⟨rfl, hf7, hb7⟩; rw [HEX.out] at hf7; have HF7 := Aside0.mk hf7; have HB7 := Aside0.mk hb7; clear hf7 hb7) | (go_at_call 43; (with_reducible refine (wzero w.heap.size w.heap.size _ w _ HF7.out HLb.out HB7.out HB7.out.size).mono ?_); rintro e w8 ⟨rfl, hf8, hb8⟩; have HF8 := Aside0.mk hf8; have HB8 := Aside0.mk hb8; clear hf8 hb8))
            go_roundg (s.extract (j + 2) s.size).size
            case measure => have h1 := HDS.out; have h2 := HSZ.out; have h3 := HK.out; omega
            case rel => exact ⟨_, _, rfl, ⟨rfl⟩, HLn, ⟨by rw [HDR.out]; exact HR2.out⟩, HF8, HB8⟩
          · have hd3 : ¬ d.toNat = 255 := fun e => hd2 (UInt8.toNat_inj.1 (by simpa using e))
            rw [textL, if_pos rfl, if_neg hd, if_neg hd2] at hr
            simp only [addP, Prod.mk.injEq] at hr
            obtain ⟨rfl, rfl, rfl⟩ := hr
            obtain ⟨dv, hdv⟩ : ∃ dv : Int, (d.toNat : Int) = dv := ⟨_, rfl⟩
            have hb2 : ∀ h : j + 1 < s.size, ((s[j + 1]'h).toNat : Int) = dv := fun h => (HB1.out h).trans hdv
            have hz1 : (dv == 0) = false := by simp; omega
            have hz2 : (dv == 255) = false := by simp; omega
            have hw1 := HW1.out
            have hw2 := HW2.out
            clear hb1 HB1 HW1 HW2 HW3 hd hd0 hd2 hd3 hdv
            go_wp2_with (first | (go_at_call 42; (refine (idx_call s _).mono ?_); rintro e w5 ⟨rfl, rfl⟩; rw [HI.out]) | (go_at_call 37; (with_reducible refine (Sb.wstr w.heap.size w.heap.size _ _ w _ HF.out HLw.out HB.out HB.out.size).mono ?_); rintro e w7 ⟨rfl, hf7, hb7⟩; rw [HEX.out] at hf7; have HF7 := Aside0.mk hf7; have HB7 := Aside0.mk hb7; clear hf7 hb7))
            go_ret3
            exact ⟨rfl, HB7.out⟩
end Go.Proofs.YtkjfifdcnlnocaaDoor.P
