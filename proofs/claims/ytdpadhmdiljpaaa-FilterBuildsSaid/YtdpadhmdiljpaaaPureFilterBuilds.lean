/- FilterBuilds holds: a filter of keys, what it tells of a key, and how full any bits are, is as the reference says. Conditions: none beyond the statement's own. -/
import Derived.Test.YtdpadhmdiljpaaaDFilterBuilds
import Derived.Test.YtdpadhmdiljpaaaPl
namespace Go.Proofs.Ytdpadhmdiljpaaa.Pure
open Go.RowKit Go.Proofs.Ytdpadhmdiljpaaa.P Go.Proofs.Ytdpadhmdiljpaaa.Fp Go.Proofs.YtdpadhmdiljpaaaW.PrintWords Go.Proofs.YtdpadhmdiljpaaaW.PrintLast Go.Proofs.YtdpadhmdiljpaaaW.PrintMore
theorem buildP_size (keys : List ByteArray) : (buildP keys).size = if keys = [] then 0 else sizeP keys.length := by
  unfold buildP
  split
  · rfl
  · rw [strOfNums_size, (build_ok keys _).1]
theorem FilterBuilds : moultlaw9_FilterBuilds.Pure := by
  intro l f key hl hls hf hkey
  refine ⟨14000 + 10 * f.size + key.size + 1 + 40, ?_⟩
  unfold moultlaw9_FilterBuilds.f
  rw [moultlaw9_shown_le]
  simp only [Option.bind_some]
  rw [small_f l _ (by omega)]
  simp only [Option.bind_some, if_true]
  have e : 14000 + 10 * f.size + key.size + 1 + 40 = (14000 + 10 * f.size + key.size + 40) + 1 := by omega
  rw [e]
  have hj : ∀ b, moultlaw9_FilterBuilds.j0 (14000 + 10 * f.size + key.size + 40 + 1) l f key true b = if b = true then some true else moultlaw9_FilterBuilds.j0 (14000 + 10 * f.size + key.size + 40 + 1) l f key true false := by
    intro b
    cases b
    · rfl
    · simp only [moultlaw9_FilterBuilds.j0, if_true]
  rw [hj (decide ((key.size : Int) > 300)), hj true]
  simp only [if_true]
  split
  · rename_i hsm
    split
    · rfl
    · split
      · rfl
      · have hlen := smallP_len hsm
        have hsz := smallP_size hsm
        have hbs := buildP_size l
        have hbs2 : (buildP l).size ≤ 400 := by rw [hbs]; unfold sizeP; split <;> omega
        simp only [moultlaw9_FilterBuilds.j0]
        rw [if_neg (by decide), build_f l (by omega) hsz]
        simp only [Option.bind_some]
        rename_i hf1 hk1
        rw [full_f f (by omega) _ (by omega), rfull_f f (by omega) _ (by omega), rbuild_f l (by omega) 300 hsz (by omega) _ (by omega)]
        simp only [Option.bind_some, if_true]
        rw [may_f _ _ (by omega) (by omega), rmay_f _ _ (by omega) (by omega) _ (by omega)]
        simp only [Option.bind_some, beq_self_eq_true, if_true]
        rw [may_f _ _ (by omega) (by omega), rmay_f _ _ (by omega) (by omega) _ (by omega)]
        simp only [Option.bind_some, beq_self_eq_true, if_true]
  · rfl
end Go.Proofs.Ytdpadhmdiljpaaa.Pure
