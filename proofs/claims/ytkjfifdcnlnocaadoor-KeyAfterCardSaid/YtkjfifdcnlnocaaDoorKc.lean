/- Chapter 4 (key), plain: what stands behind a text. -/
import Derived.Test.YtkjfifdcnlnocaaDoorKa
import Derived.Test.YtkjfifdcnlnocaaDoorKs
set_option linter.unusedVariables false
set_option linter.unusedSimpArgs false
namespace Go.Proofs.YtkjfifdcnlnocaaDoor.Pure
open Go.RowKit Go.Proofs.YtkjfifdcnlnocaaDoor.P Go.Proofs.YtkjfifdcnlnocaaDoor.Vp Go.Proofs.YtkjfifdcnlnocaaDoorW.PrintWords Go.Proofs.YtkjfifdcnlnocaaDoorW.PrintLast Go.Proofs.YtkjfifdcnlnocaaDoorW.PrintMore
theorem aftL_some : ∀ (l a : List UInt8), aftL l = some a → ∃ p c n, c ≠ 255 ∧ l = p ++ [c] ++ List.replicate n 255 ∧ a = p ++ [c + 1] := by
  intro l
  unfold aftL
  generalize hr : l.reverse = r
  have hl : l = r.reverse := by rw [← hr, List.reverse_reverse]
  subst hl
  clear hr
  induction r with
  | nil => intro a h; simp [aftR] at h
  | cons c r ih =>
    intro a h
    by_cases hc : c = 255
    · subst hc
      rw [aftR, if_pos rfl] at h
      obtain ⟨p, c, n, h1, h2, h3⟩ := ih a h
      exact ⟨p, c, n + 1, h1, by rw [List.reverse_cons, h2, List.replicate_succ', List.append_assoc (p ++ [c])], h3⟩
    · rw [aftR, if_neg hc] at h
      exact ⟨r.reverse, c, 0, hc, by simp, (Option.some.inj h).symm⟩
theorem most_all : ∀ (n : Nat) (r : List Int), (∀ x ∈ r, 0 ≤ x ∧ x ≤ 255) → (r.take n = List.replicate n 255 ∨ cmpL r (List.replicate n 255) < 0) := by
  intro n
  induction n with
  | zero => intro r _; left; rfl
  | succ n ih =>
    intro r hr
    cases r with
    | nil => right; rw [List.replicate_succ, cmpL]; decide
    | cons x r =>
      have hx := hr x (by simp)
      rw [List.replicate_succ, List.take_succ_cons, cmpL]
      by_cases h : x < 255
      · right; rw [if_pos h]; decide
      · have e : x = 255 := by omega
        subst e
        rw [if_neg (by omega), if_neg (by omega)]
        rcases ih r (fun y hy => hr y (by simp [hy])) with h1 | h1
        · left; rw [h1]
        · right; exact h1
theorem behind (c : Int) (hc : c < 255) (n : Nat) : ∀ (p t : List Int), (∀ x ∈ t, 0 ≤ x ∧ x ≤ 255) →
    (cmpL t (p ++ [c + 1]) < 0 ↔ (t.take (p ++ [c] ++ List.replicate n 255).length = p ++ [c] ++ List.replicate n 255 ∨ cmpL t (p ++ [c] ++ List.replicate n 255) < 0)) := by
  intro p
  induction p with
  | nil =>
    intro t ht
    cases t with
    | nil => simp [cmpL]
    | cons x r =>
      simp only [List.nil_append, List.cons_append, List.length_cons, List.take_succ_cons, cmpL]
      have hm := most_all n r (fun y hy => ht y (by simp [hy]))
      have hl : (List.replicate n (255 : Int)).length = n := by simp
      by_cases h1 : x < c
      · rw [if_pos (by omega), if_pos h1]; simp
      · by_cases h2 : x = c
        · subst h2
          rw [if_pos (by omega), if_neg (by omega), if_neg (by omega), hl]
          constructor
          · intro _
            rcases hm with h | h
            · left; rw [h]
            · right; exact h
          · intro _; decide
        · have h3 : c < x := by omega
          rw [if_neg h1, if_pos h3]
          constructor
          · intro h
            exfalso
            split at h
            · omega
            · split at h
              · exact absurd h (by decide)
              · cases r <;> simp [cmpL] at h
          · rintro (h | h)
            · injection h with h4 _; exact absurd h4 h2
            · exact absurd h (by decide)
  | cons b p ih =>
    intro t ht
    cases t with
    | nil => simp [cmpL]
    | cons x r =>
      have := ih r (fun y hy => ht y (by simp [hy]))
      simp only [List.cons_append, List.length_cons, List.take_succ_cons, cmpL]
      by_cases h1 : x < b
      · rw [if_pos h1, if_pos h1]; simp
      · by_cases h2 : x > b
        · rw [if_neg h1, if_pos h2, if_neg h1, if_pos h2]
          constructor
          · intro h; exact absurd h (by decide)
          · rintro (h | h)
            · injection h with h4 _; omega
            · exact absurd h (by decide)
        · have e : x = b := by omega
          subst e
          rw [if_neg h1, if_neg h2, if_neg h1, if_neg h2, this]
          simp only [List.append_assoc, List.cons.injEq, true_and]
end Go.Proofs.YtkjfifdcnlnocaaDoor.Pure
