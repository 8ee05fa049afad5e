/- Slices that came in, opened: a slice of strings as the print's words read it. -/
import Derived.Test.YtkdmjnmilmmnjaaWWords
import Derived.SliceStrings
namespace Go.Proofs.Ytkdmjnmilmmnjaa.P
open Go.ChangeShapes Go.WideShapes Go.RowKit Go.Proofs.YtkdmjnmilmmnjaaW.PrintWords
theorem open_strsC {H : Type} {enc : TypeId × Value → H} {P : Program} {W : World} {base : Nat} {spare : Nat → Bool} {held : Bool} {t e : TypeId} {a : Option Addr} {len cap : Nat} {d : DataW H} {ps : List MemPlace}
    (ht : P.underlying t = some (.slice e)) (he : P.underlying e = some .string) (hc : P.cellsOf e = 1) (h : DataW.Trod enc P W base spare held t (.slice a len cap) d ps) :
    ∃ l : List ByteArray, len = l.length ∧ l.length ≤ cap ∧ l.length ≤ maxLen ∧ Kd.C Kd.string W a l.length l ∧ ∀ x ∈ l, x.size ≤ maxLen := by
  obtain ⟨fuel, hf⟩ := h
  rcases open_strings ht he hc hf with ⟨hcs, _⟩ | ⟨x, l, c, ss, hcs, _, hl, hm, hz, _, hcell, hws⟩
  · simp [Value.cells] at hcs
    obtain ⟨rfl, rfl, rfl⟩ := hcs
    exact ⟨[], rfl, by simp, by simp, ⟨rfl, by simp, fun h => absurd h (by simp)⟩, by simp⟩
  · simp [Value.cells] at hcs
    obtain ⟨rfl, rfl, rfl⟩ := hcs
    have hle : len ≤ ss.length := by rw [hz]; split <;> omega
    have hlen : (ss.take len).length = len := by rw [List.length_take]; omega
    have hmx : len ≤ 9223372036854775807 := by unfold maxLen at hm; omega
    refine ⟨ss.take len, hlen.symm, by omega, by unfold maxLen at hm ⊢; omega, ?_, fun y hy => hws y (List.mem_of_mem_take hy)⟩
    refine Kd.C_of_reads (d := ByteArray.empty) (h1 := fun _ => rfl) ⟨rfl, by omega, fun _ => ⟨x, rfl, fun j hj => ?_⟩⟩
    rw [hcell j (by omega)]
    rw [hlen] at hj
    simp [List.getD_eq_getElem?_getD, hj]
end Go.Proofs.Ytkdmjnmilmmnjaa.P
