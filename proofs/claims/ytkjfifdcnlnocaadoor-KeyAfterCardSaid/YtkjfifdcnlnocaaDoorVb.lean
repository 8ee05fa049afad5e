/- Texts as lists of whole numbers: what joins, cuts and lengths are. -/
import Derived.Test.YtkjfifdcnlnocaaDoorVp
import Derived.Laws.Strings
set_option linter.unusedVariables false
set_option linter.unusedSimpArgs false
namespace Go.Proofs.YtkjfifdcnlnocaaDoor.Vp
open Go.RowKit Go.Proofs.YtkjfifdcnlnocaaDoorW.PrintWords Go.Proofs.YtkjfifdcnlnocaaDoorW.PrintLast Go.Proofs.YtkjfifdcnlnocaaDoorW.PrintMore
theorem bytesOf_byt (s : ByteArray) : Byt (bytesOf s) := by
  intro x hx
  unfold bytesOf at hx
  rw [List.mem_map] at hx
  obtain ⟨b, _, rfl⟩ := hx
  have := b.toNat_lt
  omega
theorem map_inj (a b : List UInt8) (h : a.map (fun b => (b.toNat : Int)) = b.map fun b => (b.toNat : Int)) : a = b := by
  induction a generalizing b with
  | nil => cases b with | nil => rfl | cons y b => simp at h
  | cons x a ih =>
    cases b with
    | nil => simp at h
    | cons y b =>
      simp only [List.map_cons, List.cons.injEq] at h
      rw [ih b h.2, UInt8.toNat_inj.1 (show x.toNat = y.toNat by omega)]
theorem bytesOf_inj {s t : ByteArray} (h : bytesOf s = bytesOf t) : s = t := by
  unfold bytesOf at h
  exact ByteArray.ext (Array.toList_inj.1 (map_inj _ _ h))
theorem data_app (a b : ByteArray) : (a ++ b).data.toList = a.data.toList ++ b.data.toList := by
  rw [ByteArray.data_append, Array.toList_append]
theorem bytesOf_strOf {xs : List Int} (h : Byt xs) : bytesOf (strOfNums xs) = xs := by
  unfold bytesOf
  rw [strOfNums_data, List.map_map]
  conv => rhs; rw [← List.map_id xs]
  apply List.map_congr_left
  intro x hx
  have := h x hx
  simp
  omega
theorem strOf_bytesOf (s : ByteArray) : strOfNums (bytesOf s) = s := bytesOf_inj (bytesOf_strOf (bytesOf_byt s))
theorem bytesOf_append (a b : ByteArray) : bytesOf (a ++ b) = bytesOf a ++ bytesOf b := by
  unfold bytesOf; rw [data_app, List.map_append]
theorem strOf_append (a b : List Int) : strOfNums (a ++ b) = strOfNums a ++ strOfNums b := by
  apply ByteArray.ext
  apply Array.toList_inj.1
  rw [data_app, strOfNums_data, strOfNums_data, strOfNums_data, List.map_append]
theorem bytesOf_take (s : ByteArray) (n : Nat) : bytesOf (s.extract 0 n) = (bytesOf s).take n := by
  unfold bytesOf
  rw [ByteArray.data_extract, Array.toList_extract, List.map_take]
  simp [List.extract]
theorem bytesOf_drop (s : ByteArray) (n : Nat) : bytesOf (s.extract n s.size) = (bytesOf s).drop n := by
  unfold bytesOf
  rw [ByteArray.data_extract, Array.toList_extract, ← List.map_drop]
  simp only [List.extract]
  congr 1
  rw [List.take_of_length_le]
  rw [List.length_drop, data_length]
  exact Nat.le_refl _
theorem toList_iff {s t : ByteArray} : s.toList = t.toList ↔ s = t := by
  constructor
  · intro h
    rw [ByteArray.toList_eq, ByteArray.toList_eq] at h
    exact ByteArray.ext (Array.toList_inj.1 h)
  · rintro rfl; rfl
theorem size_bytesOf (s : ByteArray) : (bytesOf s).length = s.size := bytesOf_length s
theorem bt_eq (s : ByteArray) (i : Nat) : bt s (i : Int) = (bytesOf s)[i]?.getD 0 := by
  rw [← rd_bytesOf]; simp [rd, List.getD_eq_getElem?_getD]
theorem bt_get (s : ByteArray) (i : Nat) (h : i < s.size) : bt s (i : Int) = (bytesOf s)[i]'(by rw [size_bytesOf]; exact h) := by
  rw [bt_eq, List.getElem?_eq_getElem (by rw [size_bytesOf]; exact h)]; rfl
theorem nil_iff (s : ByteArray) : s.toList = ([] : List UInt8) ↔ s.size = 0 := by
  rw [ByteArray.toList_eq, ← List.length_eq_zero_iff, data_length]
theorem putP_bytes {n : Int} (h : 0 ≤ n) : bytesOf (putP n) = putL n := bytesOf_strOf (putL_byt h)
/-- What Take answers. -/
def takeP (s : ByteArray) : Int × ByteArray × Bool := match takeL (bytesOf s) with | some (n, k) => (n, s.extract k s.size, true) | none => (0, ⟨#[]⟩, false)
theorem wrap_nat {m : Nat} (h : m ≤ 9223372036854775807) : wrap64 (m : Int) = m := by unfold wrap64; omega
theorem wrap_succ {m : Nat} (h : m < 9223372036854775807) : wrap64 ((m : Int) + 1) = ((m + 1 : Nat) : Int) := by unfold wrap64; omega
theorem tdiv_nn {a b : Int} (h : 0 ≤ a) : Int.tdiv a b = a / b := Int.tdiv_eq_ediv_of_nonneg h
theorem tmod_nn {a b : Int} (h : 0 ≤ a) : Int.tmod a b = a % b := Int.tmod_eq_emod_of_nonneg h
theorem or_byte (x b : Int) (h0 : 0 ≤ x) (h1 : x < 72057594037927936) (hb : 0 ≤ b ∧ b < 256) : Go.bits .or .u64 (IntKind.u64.wrap (x * 256)) (IntKind.u64.wrap b) = x * 256 + b := by
  have e1 : IntKind.u64.wrap (x * 256) = x * 256 := by rw [IntKind.wrap_u64]; omega
  have e2 : IntKind.u64.wrap b = b := by rw [IntKind.wrap_u64]; omega
  rw [e1, e2, u64_or _ _ (by omega) (by omega) hb.1 (by omega)]
  have := Nat.shiftLeft_add_eq_or_of_lt (i := 8) (b := b.toNat) (by omega) x.toNat
  rw [Nat.shiftLeft_eq] at this
  have e3 : (x * 256).toNat = x.toNat * 2 ^ 8 := by omega
  rw [e3, ← this]; omega
theorem sub_byte (x b : Int) (h0 : 0 ≤ x) (h1 : x < 72057594037927936) (hb : 0 ≤ b ∧ b < 256) : IntKind.u64.wrap (IntKind.u64.wrap (x * 256) + IntKind.u64.wrap b) = x * 256 + b := by
  rw [IntKind.wrap_u64, IntKind.wrap_u64, IntKind.wrap_u64]; omega
/-- The first bytes behind the head, as a number. -/
theorem beV_take_succ (l : List Int) (m : Nat) (h : m < l.length) : beV (l.take (m + 1)) = beV (l.take m) * 256 + l[m] := by
  rw [List.take_succ_eq_append_getElem h, beV_append]
theorem beV_small (l : List Int) (h : Byt l) (m : Nat) (hm : m ≤ 7) : 0 ≤ beV (l.take m) ∧ beV (l.take m) < 72057594037927936 := by
  obtain ⟨_, h2, h3⟩ := beL_beV (l.take m) (fun x hx => h x (List.mem_of_mem_take hx))
  refine ⟨h2, ?_⟩
  obtain ⟨p1, p2, p3, p4, p5, p6, p7, p8⟩ := pw 0
  have hl : (l.take m).length ≤ 7 := by rw [List.length_take]; omega
  obtain ⟨j, hj⟩ : ∃ j, (l.take m).length = j := ⟨_, rfl⟩
  rw [hj] at h3 hl
  have : j = 0 ∨ j = 1 ∨ j = 2 ∨ j = 3 ∨ j = 4 ∨ j = 5 ∨ j = 6 ∨ j = 7 := by omega
  rcases this with h | h | h | h | h | h | h | h <;> rw [h] at h3 <;> first | omega | (simp at h3; omega)
theorem beV_64 (l : List Int) (h : Byt l) (m : Nat) (hm : m ≤ 8) : 0 ≤ beV (l.take m) ∧ beV (l.take m) < 18446744073709551616 := by
  by_cases h7 : m ≤ 7
  · have := beV_small l h m h7; omega
  · obtain rfl : m = 8 := by omega
    by_cases hl : 7 < l.length
    · rw [beV_take_succ l 7 hl]
      have := beV_small l h 7 (by omega)
      have := h _ (List.getElem_mem hl)
      omega
    · rw [List.take_of_length_le (by omega)]
      have := beV_small l h 7 (by omega)
      rw [List.take_of_length_le (by omega)] at this
      omega
end Go.Proofs.YtkjfifdcnlnocaaDoor.Vp
