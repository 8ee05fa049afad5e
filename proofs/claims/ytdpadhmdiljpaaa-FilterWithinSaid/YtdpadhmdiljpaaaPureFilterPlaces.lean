/- FilterPlaces holds: a text's hash and its four bits are as the reference says. Conditions: none beyond the statement's own. -/
import Derived.Test.YtdpadhmdiljpaaaPl
namespace Go.Proofs.Ytdpadhmdiljpaaa.Pure
open Go.RowKit Go.Proofs.Ytdpadhmdiljpaaa.P Go.Proofs.Ytdpadhmdiljpaaa.Fp Go.Proofs.YtdpadhmdiljpaaaW.PrintWords Go.Proofs.YtdpadhmdiljpaaaW.PrintLast Go.Proofs.YtdpadhmdiljpaaaW.PrintMore
theorem i64_range {n : Int} (h : (Lit.int .i64 n).wf = true) : -9223372036854775808 ≤ n ∧ n ≤ 9223372036854775807 := by
  simp [Lit.wf, IntKind.min, IntKind.max, IntKind.signed, IntKind.bits] at h
  omega
theorem FilterPlaces : moultlaw9_FilterPlaces.Pure := by
  intro s n hs hn
  obtain ⟨n1, n2⟩ := i64_range hn
  refine ⟨s.size + 1 + 40, ?_⟩
  unfold moultlaw9_FilterPlaces.f
  rw [moultlaw9_shown_le]
  simp only [Option.bind_some, if_true]
  have e : s.size + 1 + 40 = (s.size + 40) + 1 := by omega
  rw [e]
  simp only [moultlaw9_FilterPlaces.j0]
  by_cases h : decide ((s.size : Int) > 2000) = true
  · rw [if_pos h]
  · rw [if_neg h, hash_f s (by omega) _ (by omega), rhash_f s (by omega) _ (by omega)]
    simp only [Option.bind_some, if_true]
    rw [places_f s (by omega) n n2 _ (by omega), rplaces_f s (by omega) n n2 _ (by omega)]
    simp only [Option.bind_some]
    have hlen : (placesP s n).length ≤ 4 := by unfold placesP; split <;> simp
    rw [same_f _ (by omega) _ (by omega)]
    rfl
end Go.Proofs.Ytdpadhmdiljpaaa.Pure
