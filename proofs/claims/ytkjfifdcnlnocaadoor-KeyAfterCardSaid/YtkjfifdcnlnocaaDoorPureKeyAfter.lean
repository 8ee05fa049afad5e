import Derived.Test.YtkjfifdcnlnocaaDoorKc
namespace Go.Proofs.YtkjfifdcnlnocaaDoor.Pure
open Go.RowKit Go.Proofs.YtkjfifdcnlnocaaDoor.P Go.Proofs.YtkjfifdcnlnocaaDoor.Vp Go.Proofs.YtkjfifdcnlnocaaDoorW.PrintWords Go.Proofs.YtkjfifdcnlnocaaDoorW.PrintLast
theorem byt_of (s : ByteArray) : ∀ x ∈ bytesOf s, 0 ≤ x ∧ x ≤ 255 := by
  intro x hx
  unfold bytesOf at hx
  obtain ⟨b, _, rfl⟩ := List.mem_map.1 hx
  have := b.toNat_lt
  omega
theorem KeyAfter : moultlaw4_KeyAfter.Pure := by
  intro a0 a1 _ _
  obtain ⟨k, hk⟩ : ∃ k : Nat, 100000 ≤ k := ⟨100000, Nat.le_refl _⟩
  refine ⟨k + 4, ?_⟩
  unfold moultlaw4_KeyAfter.f
  rw [Ks.shown_k _ (by omega)]
  simp only [Option.bind_some, if_true]
  by_cases c0 : (a0.size : Int) > 2000
  · rw [if_pos c0]; simp [moultlaw4_KeyAfter.j0]
  rw [if_neg c0]
  by_cases c1 : (a1.size : Int) > 2000
  · simp [moultlaw4_KeyAfter.j0, c1]
  rw [decide_eq_false c1, moultlaw4_KeyAfter.j0, if_neg (by decide), after_f a0 (by omega), rafter_f a0 (by omega) _ (by omega)]
  simp only [Option.bind_some, if_true, bne_self_eq_false]
  rw [moultlaw4_KeyAfter.j1, if_neg (by decide)]
  cases ha : aftL a0.data.toList with
  | none => simp [aftO]
  | some a =>
    simp only [aftO, if_true]
    obtain ⟨p, c, n, hc, hs, rfl⟩ := aftL_some _ _ ha
    have hcn : ¬ c.toNat = 255 := fun e => hc (UInt8.toNat_inj.1 (by rw [e]; rfl))
    have hcl := c.toNat_lt
    have hup : ((c + 1).toNat : Int) = (c.toNat : Int) + 1 := by rw [UInt8.toNat_add]; simp; omega
    obtain ⟨P, hP⟩ : ∃ P : List Int, p.map (fun b => (b.toNat : Int)) = P := ⟨_, rfl⟩
    have hsB : bytesOf a0 = P ++ [(c.toNat : Int)] ++ List.replicate n 255 := by
      unfold bytesOf; rw [hs, List.map_append, List.map_append, hP]; simp
    obtain ⟨u, hu⟩ : ∃ u : ByteArray, (⟨(p ++ [c + 1]).toArray⟩ : ByteArray) = u := ⟨_, rfl⟩
    rw [hu]
    have huB : bytesOf u = P ++ [(c.toNat : Int) + 1] := by
      rw [← hu]; unfold bytesOf; rw [List.map_append, hP, List.map_cons, hup]; rfl
    have hus : u.size ≤ 2000 := by
      have h1 := bytesOf_length u
      have h2 := bytesOf_length a0
      rw [huB] at h1; rw [hsB] at h2
      simp at h1 h2; omega
    have B1 := behind (c.toNat : Int) (by omega) n P (bytesOf a1) (byt_of a1)
    rw [← hsB, ← huB, bytesOf_length] at B1
    have B2 := behind (c.toNat : Int) (by omega) n P (bytesOf (a0 ++ a1)) (byt_of _)
    rw [← hsB, ← huB, bytesOf_length] at B2
    have hap : bytesOf (a0 ++ a1) = bytesOf a0 ++ bytesOf a1 := by unfold bytesOf; simp
    have L2 : cmpL (bytesOf (a0 ++ a1)) (bytesOf u) < 0 := B2.2 (.inl (by rw [hap, List.take_left' (bytesOf_length a0)]))
    have hj3 : ∀ (b : Bool), b = decide (cmpL (bytesOf a1) (bytesOf u) < 0) → moultlaw4_KeyAfter.j3 (k + 1) a0 a1 u b = some true := by
      intro b hb
      rw [moultlaw4_KeyAfter.j3, bytes_f a1 u (by omega) (by omega) k (by omega)]
      by_cases h : cmpL (bytesOf a1) (bytesOf u) < 0
      · rw [hb, decide_eq_true h, if_pos rfl]
        simp only [Option.bind_some]
        rw [if_pos h, if_pos (by omega), bytes_f (a0 ++ a1) u (by rw [ByteArray.size_append]; omega) (by omega) k (by rw [ByteArray.size_append]; omega)]
        simp only [Option.bind_some, decide_eq_true L2]
      · rw [hb, decide_eq_false h, if_neg (by decide)]
        simp only [Option.bind_some]
        rw [decide_eq_true (by omega)]
    have hj2 : ∀ (b : Bool), (b = true ↔ (bytesOf a1).take a0.size = bytesOf a0) → moultlaw4_KeyAfter.j2 (k + 2) a0 a1 u b = some true := by
      intro b hb
      rw [moultlaw4_KeyAfter.j2]
      cases b with
      | true => rw [if_pos rfl]; exact hj3 true (by rw [decide_eq_true (B1.2 (.inl (hb.1 rfl)))])
      | false =>
        rw [if_neg (by decide), bytes_f a1 a0 (by omega) (by omega) (k + 1) (by omega)]
        simp only [Option.bind_some]
        refine hj3 _ ?_
        have hnb : ¬ (bytesOf a1).take a0.size = bytesOf a0 := fun e => by have := hb.2 e; cases this
        congr 1
        exact propext ⟨fun h => B1.2 (.inr h), fun h => (B1.1 h).resolve_left hnb⟩
    by_cases c2 : (a1.size : Int) ≥ (a0.size : Int)
    · rw [if_pos c2, if_pos (by omega), if_pos (by omega)]
      refine hj2 _ ?_
      rw [Int.toNat_natCast, Lib.bytes_beq_iff]
      have hex : bytesOf (a1.extract 0 a0.size) = (bytesOf a1).take a0.size := by
        unfold bytesOf; rw [Lib.extract_data, List.drop_zero, Nat.sub_zero, List.map_take]
      rw [← hex]
      exact ⟨fun h => by rw [h], fun h => bytesOf_inj h⟩
    · rw [if_neg c2]
      refine hj2 _ ⟨fun h => (by cases h), fun h => ?_⟩
      have := congrArg List.length h
      rw [List.length_take, bytesOf_length, bytesOf_length] at this
      omega
end Go.Proofs.YtkjfifdcnlnocaaDoor.Pure
