-- Written by sprint.py (wip/tools) with the kit's print.py: a program's text, checked by Lean alone.
import Derived.Test.YtaolidjfbgpccaaPx0
import Derived.Test.YtaolidjfbgpccaaPx1
import Derived.Test.YtaolidjfbgpccaaPx2
import Derived.Test.YtaolidjfbgpccaaPx5
namespace Go.Proofs.Ytaolidjfbgpccaa.P
open Go.RowKit Go.Proofs.Ytaolidjfbgpccaa.Vp Go.Proofs.YtaolidjfbgpccaaW.PrintWords Go.Proofs.YtaolidjfbgpccaaW.PrintLast Go.Proofs.YtaolidjfbgpccaaW.PrintMore
attribute [local go_sem] max2_int min2_int max_two min_two max_three min_three max_four min_four   -- for this text's walks alone
set_option linter.unusedVariables false
set_option linter.unusedSimpArgs false

/-! ### moultlaw3_VarintOrders: function 6 -/
def moultlaw3_VarintOrders.f (k : Nat) (a0 : Int) (a1 : Int) : Option (Bool) := (moultlaw3_shown.f k).bind fun t190 => (if t190 = true then ((varint_Put.f a0).bind fun t191 => ((varint_Put.f a1).bind fun t192 => ((moultref1_Bytes.f k t191 t192).bind fun t193 => (if a0 = a1 then (some (t193 == 0)) else (if 0 ≤ (mn (t191.size : Int) (t192.size : Int)) then (if (mn (t191.size : Int) (t192.size : Int)) ≤ (t191.size : Int) then (if (mn (t191.size : Int) (t192.size : Int)) ≤ (t192.size : Int) then (if (t191.extract 0 ((mn (t191.size : Int) (t192.size : Int)) : Int).toNat).toList = (t192.extract 0 ((mn (t191.size : Int) (t192.size : Int)) : Int).toNat).toList then (some false) else (if ((decide (t193 < 0)) == (decide (a0 < a1))) = true then (if a0 > a1 then (if a0 < a1 then (some true) else (some (decide ((t192.size : Int) ≤ (t191.size : Int))))) else (if (t191.size : Int) ≤ (t192.size : Int) then (if a0 < a1 then (some true) else (some (decide ((t192.size : Int) ≤ (t191.size : Int))))) else (some false))) else (some false))) else (none)) else (none)) else (none)))))) else (some false))
theorem moultlaw3_VarintOrders.mono : ∀ a0 a1 k, LeO (moultlaw3_VarintOrders.f k a0 a1) (moultlaw3_VarintOrders.f (k + 1) a0 a1) := by
  intro a0 a1 k
  unfold moultlaw3_VarintOrders.f
  repeat' first
      | (with_reducible exact moultlaw3_shown.mono _)
      | (with_reducible exact moultref1_Bytes.mono _ _ _)
      | (with_reducible exact LeO.refl _)
      | (with_reducible exact LeO.none _)
      | (with_reducible refine LeO.ite ?_ ?_)
      | (with_reducible refine LeO.bind ?_ (fun _ => ?_))
      | exact moultlaw3_shown.mono _
      | exact moultref1_Bytes.mono _ _ _
      | exact LeO.none _
      | refine LeO.ite ?_ ?_
      | refine LeO.bind ?_ (fun _ => ?_)
set_option maxHeartbeats 8000000 in
set_option maxRecDepth 100000 in
theorem moultlaw3_VarintOrders.calls (k : Nat) (a0 : Int) (a1 : Int) (r : Bool) (w : World) (h : moultlaw3_VarintOrders.f k a0 a1 = some r) :
    Calls Try.prog 6 #[.int .u64 a0, .int .u64 a1] w fun e w' => e = .returned (.bool r) ∧ Below w.heap.size w w' := by
  have HB := Aside0.mk (Below.refl w.heap.size w)
  have H : ((moultlaw3_shown.f k).bind fun t190 => (if t190 = true then ((varint_Put.f a0).bind fun t191 => ((varint_Put.f a1).bind fun t192 => ((moultref1_Bytes.f k t191 t192).bind fun t193 => (if a0 = a1 then (some (t193 == 0)) else (if 0 ≤ (mn (t191.size : Int) (t192.size : Int)) then (if (mn (t191.size : Int) (t192.size : Int)) ≤ (t191.size : Int) then (if (mn (t191.size : Int) (t192.size : Int)) ≤ (t192.size : Int) then (if (t191.extract 0 ((mn (t191.size : Int) (t192.size : Int)) : Int).toNat).toList = (t192.extract 0 ((mn (t191.size : Int) (t192.size : Int)) : Int).toNat).toList then (some false) else (if ((decide (t193 < 0)) == (decide (a0 < a1))) = true then (if a0 > a1 then (if a0 < a1 then (some true) else (some (decide ((t192.size : Int) ≤ (t191.size : Int))))) else (if (t191.size : Int) ≤ (t192.size : Int) then (if a0 < a1 then (some true) else (some (decide ((t192.size : Int) ≤ (t191.size : Int))))) else (some false))) else (some false))) else (none)) else (none)) else (none)))))) else (some false))) = some r := h
  clear h
  replace H := Option.bind_eq_some_iff.mp H
  obtain ⟨t190, A30, H⟩ := H
  replace H : (if t190 = true then ((varint_Put.f a0).bind fun t191 => ((varint_Put.f a1).bind fun t192 => ((moultref1_Bytes.f k t191 t192).bind fun t193 => (if a0 = a1 then (some (t193 == 0)) else (if 0 ≤ (mn (t191.size : Int) (t192.size : Int)) then (if (mn (t191.size : Int) (t192.size : Int)) ≤ (t191.size : Int) then (if (mn (t191.size : Int) (t192.size : Int)) ≤ (t192.size : Int) then (if (t191.extract 0 ((mn (t191.size : Int) (t192.size : Int)) : Int).toNat).toList = (t192.extract 0 ((mn (t191.size : Int) (t192.size : Int)) : Int).toNat).toList then (some false) else (if ((decide (t193 < 0)) == (decide (a0 < a1))) = true then (if a0 > a1 then (if a0 < a1 then (some true) else (some (decide ((t192.size : Int) ≤ (t191.size : Int))))) else (if (t191.size : Int) ≤ (t192.size : Int) then (if a0 < a1 then (some true) else (some (decide ((t192.size : Int) ≤ (t191.size : Int))))) else (some false))) else (some false))) else (none)) else (none)) else (none)))))) else (some false)) = some r := H
  have A3 := Aside0.mk A30
  clear A30
  by_cases c4 : t190 = true
  · subst c4
    have H1 : ((varint_Put.f a0).bind fun t191 => ((varint_Put.f a1).bind fun t192 => ((moultref1_Bytes.f k t191 t192).bind fun t193 => (if a0 = a1 then (some (t193 == 0)) else (if 0 ≤ (mn (t191.size : Int) (t192.size : Int)) then (if (mn (t191.size : Int) (t192.size : Int)) ≤ (t191.size : Int) then (if (mn (t191.size : Int) (t192.size : Int)) ≤ (t192.size : Int) then (if (t191.extract 0 ((mn (t191.size : Int) (t192.size : Int)) : Int).toNat).toList = (t192.extract 0 ((mn (t191.size : Int) (t192.size : Int)) : Int).toNat).toList then (some false) else (if ((decide (t193 < 0)) == (decide (a0 < a1))) = true then (if a0 > a1 then (if a0 < a1 then (some true) else (some (decide ((t192.size : Int) ≤ (t191.size : Int))))) else (if (t191.size : Int) ≤ (t192.size : Int) then (if a0 < a1 then (some true) else (some (decide ((t192.size : Int) ≤ (t191.size : Int))))) else (some false))) else (some false))) else (none)) else (none)) else (none)))))) = some r := by rw [if_pos rfl] at H; exact H
    clear H
    have H := H1
    clear H1
    replace H := Option.bind_eq_some_iff.mp H
    obtain ⟨t191, A50, H⟩ := H
    replace H : ((varint_Put.f a1).bind fun t192 => ((moultref1_Bytes.f k t191 t192).bind fun t193 => (if a0 = a1 then (some (t193 == 0)) else (if 0 ≤ (mn (t191.size : Int) (t192.size : Int)) then (if (mn (t191.size : Int) (t192.size : Int)) ≤ (t191.size : Int) then (if (mn (t191.size : Int) (t192.size : Int)) ≤ (t192.size : Int) then (if (t191.extract 0 ((mn (t191.size : Int) (t192.size : Int)) : Int).toNat).toList = (t192.extract 0 ((mn (t191.size : Int) (t192.size : Int)) : Int).toNat).toList then (some false) else (if ((decide (t193 < 0)) == (decide (a0 < a1))) = true then (if a0 > a1 then (if a0 < a1 then (some true) else (some (decide ((t192.size : Int) ≤ (t191.size : Int))))) else (if (t191.size : Int) ≤ (t192.size : Int) then (if a0 < a1 then (some true) else (some (decide ((t192.size : Int) ≤ (t191.size : Int))))) else (some false))) else (some false))) else (none)) else (none)) else (none))))) = some r := H
    have A5 := Aside0.mk A50
    clear A50
    replace H := Option.bind_eq_some_iff.mp H
    obtain ⟨t192, A60, H⟩ := H
    replace H : ((moultref1_Bytes.f k t191 t192).bind fun t193 => (if a0 = a1 then (some (t193 == 0)) else (if 0 ≤ (mn (t191.size : Int) (t192.size : Int)) then (if (mn (t191.size : Int) (t192.size : Int)) ≤ (t191.size : Int) then (if (mn (t191.size : Int) (t192.size : Int)) ≤ (t192.size : Int) then (if (t191.extract 0 ((mn (t191.size : Int) (t192.size : Int)) : Int).toNat).toList = (t192.extract 0 ((mn (t191.size : Int) (t192.size : Int)) : Int).toNat).toList then (some false) else (if ((decide (t193 < 0)) == (decide (a0 < a1))) = true then (if a0 > a1 then (if a0 < a1 then (some true) else (some (decide ((t192.size : Int) ≤ (t191.size : Int))))) else (if (t191.size : Int) ≤ (t192.size : Int) then (if a0 < a1 then (some true) else (some (decide ((t192.size : Int) ≤ (t191.size : Int))))) else (some false))) else (some false))) else (none)) else (none)) else (none)))) = some r := H
    have A6 := Aside0.mk A60
    clear A60
    replace H := Option.bind_eq_some_iff.mp H
    obtain ⟨t193, A70, H⟩ := H
    replace H : (if a0 = a1 then (some (t193 == 0)) else (if 0 ≤ (mn (t191.size : Int) (t192.size : Int)) then (if (mn (t191.size : Int) (t192.size : Int)) ≤ (t191.size : Int) then (if (mn (t191.size : Int) (t192.size : Int)) ≤ (t192.size : Int) then (if (t191.extract 0 ((mn (t191.size : Int) (t192.size : Int)) : Int).toNat).toList = (t192.extract 0 ((mn (t191.size : Int) (t192.size : Int)) : Int).toNat).toList then (some false) else (if ((decide (t193 < 0)) == (decide (a0 < a1))) = true then (if a0 > a1 then (if a0 < a1 then (some true) else (some (decide ((t192.size : Int) ≤ (t191.size : Int))))) else (if (t191.size : Int) ≤ (t192.size : Int) then (if a0 < a1 then (some true) else (some (decide ((t192.size : Int) ≤ (t191.size : Int))))) else (some false))) else (some false))) else (none)) else (none)) else (none))) = some r := H
    have A7 := Aside0.mk A70
    clear A70
    by_cases c8 : a0 = a1
    · rw [if_pos c8] at H
      have c8b0 : (a0 == a1) = true := beq_iff_eq.mpr c8
      have c8b1 : (a0 != a1) = false := bne_eq_false_iff_eq.mpr c8
      clear c8
      obtain rfl := Option.some.inj H
      have hmn_ : ∀ x y : Nat, (if y < x then (y : Int) else (x : Int)) = mn (x : Int) (y : Int) := fun x y => (by unfold mn; split <;> split <;> omega); go_enter Try.func6, Try.ntmps6
      go_wp2_with (first | (go_at_call 9; (with_reducible refine (moultlaw3_shown.calls k  true _ A3.out).mono ?_); rintro e w9 ⟨rfl, hb⟩; have n0_ := Aside0.mk (below_step (by repeat (first | (with_reducible first | exact HB.out | apply below_alloc | apply pw_below_drewN | apply below_drew1) | exact HB.out)) hb); clear HB; have HB := n0_; clear n0_; (try clear hb); (try clear hb2); (try clear hk); (try clear hi)) | (go_at_call 10; (with_reducible refine (varint_Put.calls a0 t191 _ A5.out).mono ?_); rintro e w10 ⟨rfl, hb⟩; have n0_ := Aside0.mk (below_step (by repeat (first | (with_reducible first | exact HB.out | apply below_alloc | apply pw_below_drewN | apply below_drew1) | exact HB.out)) hb); clear HB; have HB := n0_; clear n0_; (try clear hb); (try clear hb2); (try clear hk); (try clear hi)) | (go_at_call 10; (with_reducible refine (varint_Put.calls a1 t192 _ A6.out).mono ?_); rintro e w11 ⟨rfl, hb⟩; have n0_ := Aside0.mk (below_step (by repeat (first | (with_reducible first | exact HB.out | apply below_alloc | apply pw_below_drewN | apply below_drew1) | exact HB.out)) hb); clear HB; have HB := n0_; clear n0_; (try clear hb); (try clear hb2); (try clear hk); (try clear hi)) | (go_at_call 15; (with_reducible refine (moultref1_Bytes.calls k t191 t192 t193 _ A7.out).mono ?_); rintro e w' ⟨rfl, ⟨nd, rfl⟩⟩; (try first | exact ⟨rfl, _, World.drewN_drewN _ _ _⟩ | exact ⟨rfl, _, Eq.trans (World.drewN_drewN _ _ _) (congrArg (World.drewN _) (Nat.add_assoc _ _ _))⟩)))
      repeat (go_quiet (first | (go_at_call 9; (with_reducible refine (moultlaw3_shown.calls k  true _ A3.out).mono ?_); rintro e w9 ⟨rfl, hb⟩; have n0_ := Aside0.mk (below_step (by repeat (first | (with_reducible first | exact HB.out | apply below_alloc | apply pw_below_drewN | apply below_drew1) | exact HB.out)) hb); clear HB; have HB := n0_; clear n0_; (try clear hb); (try clear hb2); (try clear hk); (try clear hi)) | (go_at_call 10; (with_reducible refine (varint_Put.calls a0 t191 _ A5.out).mono ?_); rintro e w10 ⟨rfl, hb⟩; have n0_ := Aside0.mk (below_step (by repeat (first | (with_reducible first | exact HB.out | apply below_alloc | apply pw_below_drewN | apply below_drew1) | exact HB.out)) hb); clear HB; have HB := n0_; clear n0_; (try clear hb); (try clear hb2); (try clear hk); (try clear hi)) | (go_at_call 10; (with_reducible refine (varint_Put.calls a1 t192 _ A6.out).mono ?_); rintro e w11 ⟨rfl, hb⟩; have n0_ := Aside0.mk (below_step (by repeat (first | (with_reducible first | exact HB.out | apply below_alloc | apply pw_below_drewN | apply below_drew1) | exact HB.out)) hb); clear HB; have HB := n0_; clear n0_; (try clear hb); (try clear hb2); (try clear hk); (try clear hi)) | (go_at_call 15; (with_reducible refine (moultref1_Bytes.calls k t191 t192 t193 _ A7.out).mono ?_); rintro e w' ⟨rfl, ⟨nd, rfl⟩⟩; (try first | exact ⟨rfl, _, World.drewN_drewN _ _ _⟩ | exact ⟨rfl, _, Eq.trans (World.drewN_drewN _ _ _) (congrArg (World.drewN _) (Nat.add_assoc _ _ _))⟩))); try go_wp2_with (first | (go_at_call 9; (with_reducible refine (moultlaw3_shown.calls k  true _ A3.out).mono ?_); rintro e w9 ⟨rfl, hb⟩; have n0_ := Aside0.mk (below_step (by repeat (first | (with_reducible first | exact HB.out | apply below_alloc | apply pw_below_drewN | apply below_drew1) | exact HB.out)) hb); clear HB; have HB := n0_; clear n0_; (try clear hb); (try clear hb2); (try clear hk); (try clear hi)) | (go_at_call 10; (with_reducible refine (varint_Put.calls a0 t191 _ A5.out).mono ?_); rintro e w10 ⟨rfl, hb⟩; have n0_ := Aside0.mk (below_step (by repeat (first | (with_reducible first | exact HB.out | apply below_alloc | apply pw_below_drewN | apply below_drew1) | exact HB.out)) hb); clear HB; have HB := n0_; clear n0_; (try clear hb); (try clear hb2); (try clear hk); (try clear hi)) | (go_at_call 10; (with_reducible refine (varint_Put.calls a1 t192 _ A6.out).mono ?_); rintro e w11 ⟨rfl, hb⟩; have n0_ := Aside0.mk (below_step (by repeat (first | (with_reducible first | exact HB.out | apply below_alloc | apply pw_below_drewN | apply below_drew1) | exact HB.out)) hb); clear HB; have HB := n0_; clear n0_; (try clear hb); (try clear hb2); (try clear hk); (try clear hi)) | (go_at_call 15; (with_reducible refine (moultref1_Bytes.calls k t191 t192 t193 _ A7.out).mono ?_); rintro e w' ⟨rfl, ⟨nd, rfl⟩⟩; (try first | exact ⟨rfl, _, World.drewN_drewN _ _ _⟩ | exact ⟨rfl, _, Eq.trans (World.drewN_drewN _ _ _) (congrArg (World.drewN _) (Nat.add_assoc _ _ _))⟩))))
      all_goals go_ret
      all_goals exact ⟨by first | rfl | (exfalso; simp_all; done) | (exfalso; simp_all; omega) | (simp [errW_none, errW_some] <;> rfl) | (simp [*, errW_none, errW_some] <;> rfl), by repeat (first | (with_reducible first | exact HB.out | apply below_alloc | apply pw_below_drewN | apply below_drew1) | exact HB.out)⟩
    · rw [if_neg c8] at H
      have c8b0 : (a0 == a1) = false := beq_eq_false_iff_ne.mpr c8
      have c8b1 : (a0 != a1) = true := bne_iff_ne.mpr c8
      obtain ⟨ji12, hji12⟩ : ∃ j_ : Int, (mn (t191.size : Int) (t192.size : Int)) = j_ := ⟨_, rfl⟩
      replace H : (if 0 ≤ (ji12) then (if (ji12) ≤ (t191.size : Int) then (if (ji12) ≤ (t192.size : Int) then (if (t191.extract 0 ((ji12) : Int).toNat).toList = (t192.extract 0 ((ji12) : Int).toNat).toList then (some false) else (if ((decide (t193 < 0)) == (decide (a0 < a1))) = true then (if a0 > a1 then (if a0 < a1 then (some true) else (some (decide ((t192.size : Int) ≤ (t191.size : Int))))) else (if (t191.size : Int) ≤ (t192.size : Int) then (if a0 < a1 then (some true) else (some (decide ((t192.size : Int) ≤ (t191.size : Int))))) else (some false))) else (some false))) else (none)) else (none)) else (none)) = some r := by first | (rw [hji12] at H; exact H) | (simp only [hji12] at H ⊢; exact H)
      (try rw [hji12] at A3)
      (try rw [hji12] at A5)
      (try rw [hji12] at A6)
      (try rw [hji12] at A7)
      (try (have hji12l : 0 ≤ ji12 := by (rw [← hji12]; unfold mn; (repeat' split) <;> omega)))
      (try (have hji12m : 0 ≤ ji12 := by omega))
      have hji12_ : (if (t192.size : Int) < (t191.size : Int) then (t192.size : Int) else (t191.size : Int)) = ji12 := hji12
      by_cases c13 : 0 ≤ (ji12)
      · rw [if_pos c13] at H
        have c13b0 := eq_true c13
        have c13b1 : decide (0 ≤ (ji12)) = true := decide_eq_true c13
        clear c13
        by_cases c14 : (ji12) ≤ (t191.size : Int)
        · rw [if_pos c14] at H
          have c14b0 := eq_true c14
          have c14b1 : decide ((ji12) ≤ (t191.size : Int)) = true := decide_eq_true c14
          clear c14
          have c15b0 := eq_true (of_decide_eq_true (by first | (with_reducible assumption) | assumption) : 0 ≤ (ji12))
          by_cases c16 : (ji12) ≤ (t192.size : Int)
          · rw [if_pos c16] at H
            have c16b0 := eq_true c16
            have c16b1 : decide ((ji12) ≤ (t192.size : Int)) = true := decide_eq_true c16
            clear c16
            by_cases c17 : (t191.extract 0 ((ji12) : Int).toNat).toList = (t192.extract 0 ((ji12) : Int).toNat).toList
            · rw [if_pos c17] at H
              have c17b0 : ((t191.extract 0 ((ji12) : Int).toNat).toList == (t192.extract 0 ((ji12) : Int).toNat).toList) = true := beq_iff_eq.mpr c17
              have c17b1 : ((t191.extract 0 ((ji12) : Int).toNat).toList != (t192.extract 0 ((ji12) : Int).toNat).toList) = false := bne_eq_false_iff_eq.mpr c17
              clear c17
              obtain rfl := Option.some.inj H
              have hmn_ : ∀ x y : Nat, (if y < x then (y : Int) else (x : Int)) = mn (x : Int) (y : Int) := fun x y => (by unfold mn; split <;> split <;> omega); go_enter Try.func6, Try.ntmps6
              go_wp2_with (first | (go_at_call 9; (with_reducible refine (moultlaw3_shown.calls k  true _ A3.out).mono ?_); rintro e w18 ⟨rfl, hb⟩; have n0_ := Aside0.mk (below_step (by repeat (first | (with_reducible first | exact HB.out | apply below_alloc | apply pw_below_drewN | apply below_drew1) | exact HB.out)) hb); clear HB; have HB := n0_; clear n0_; (try clear hb); (try clear hb2); (try clear hk); (try clear hi)) | (go_at_call 10; (with_reducible refine (varint_Put.calls a0 t191 _ A5.out).mono ?_); rintro e w19 ⟨rfl, hb⟩; have n0_ := Aside0.mk (below_step (by repeat (first | (with_reducible first | exact HB.out | apply below_alloc | apply pw_below_drewN | apply below_drew1) | exact HB.out)) hb); clear HB; have HB := n0_; clear n0_; (try clear hb); (try clear hb2); (try clear hk); (try clear hi)) | (go_at_call 10; (with_reducible refine (varint_Put.calls a1 t192 _ A6.out).mono ?_); rintro e w20 ⟨rfl, hb⟩; have n0_ := Aside0.mk (below_step (by repeat (first | (with_reducible first | exact HB.out | apply below_alloc | apply pw_below_drewN | apply below_drew1) | exact HB.out)) hb); clear HB; have HB := n0_; clear n0_; (try clear hb); (try clear hb2); (try clear hk); (try clear hi)) | (go_at_call 15; (with_reducible refine (moultref1_Bytes.calls k t191 t192 t193 _ A7.out).mono ?_); rintro e w' ⟨rfl, ⟨nd, rfl⟩⟩; (try first | exact ⟨rfl, _, World.drewN_drewN _ _ _⟩ | exact ⟨rfl, _, Eq.trans (World.drewN_drewN _ _ _) (congrArg (World.drewN _) (Nat.add_assoc _ _ _))⟩)))
              repeat (go_quiet (first | (go_at_call 9; (with_reducible refine (moultlaw3_shown.calls k  true _ A3.out).mono ?_); rintro e w18 ⟨rfl, hb⟩; have n0_ := Aside0.mk (below_step (by repeat (first | (with_reducible first | exact HB.out | apply below_alloc | apply pw_below_drewN | apply below_drew1) | exact HB.out)) hb); clear HB; have HB := n0_; clear n0_; (try clear hb); (try clear hb2); (try clear hk); (try clear hi)) | (go_at_call 10; (with_reducible refine (varint_Put.calls a0 t191 _ A5.out).mono ?_); rintro e w19 ⟨rfl, hb⟩; have n0_ := Aside0.mk (below_step (by repeat (first | (with_reducible first | exact HB.out | apply below_alloc | apply pw_below_drewN | apply below_drew1) | exact HB.out)) hb); clear HB; have HB := n0_; clear n0_; (try clear hb); (try clear hb2); (try clear hk); (try clear hi)) | (go_at_call 10; (with_reducible refine (varint_Put.calls a1 t192 _ A6.out).mono ?_); rintro e w20 ⟨rfl, hb⟩; have n0_ := Aside0.mk (below_step (by repeat (first | (with_reducible first | exact HB.out | apply below_alloc | apply pw_below_drewN | apply below_drew1) | exact HB.out)) hb); clear HB; have HB := n0_; clear n0_; (try clear hb); (try clear hb2); (try clear hk); (try clear hi)) | (go_at_call 15; (with_reducible refine (moultref1_Bytes.calls k t191 t192 t193 _ A7.out).mono ?_); rintro e w' ⟨rfl, ⟨nd, rfl⟩⟩; (try first | exact ⟨rfl, _, World.drewN_drewN _ _ _⟩ | exact ⟨rfl, _, Eq.trans (World.drewN_drewN _ _ _) (congrArg (World.drewN _) (Nat.add_assoc _ _ _))⟩))); try go_wp2_with (first | (go_at_call 9; (with_reducible refine (moultlaw3_shown.calls k  true _ A3.out).mono ?_); rintro e w18 ⟨rfl, hb⟩; have n0_ := Aside0.mk (below_step (by repeat (first | (with_reducible first | exact HB.out | apply below_alloc | apply pw_below_drewN | apply below_drew1) | exact HB.out)) hb); clear HB; have HB := n0_; clear n0_; (try clear hb); (try clear hb2); (try clear hk); (try clear hi)) | (go_at_call 10; (with_reducible refine (varint_Put.calls a0 t191 _ A5.out).mono ?_); rintro e w19 ⟨rfl, hb⟩; have n0_ := Aside0.mk (below_step (by repeat (first | (with_reducible first | exact HB.out | apply below_alloc | apply pw_below_drewN | apply below_drew1) | exact HB.out)) hb); clear HB; have HB := n0_; clear n0_; (try clear hb); (try clear hb2); (try clear hk); (try clear hi)) | (go_at_call 10; (with_reducible refine (varint_Put.calls a1 t192 _ A6.out).mono ?_); rintro e w20 ⟨rfl, hb⟩; have n0_ := Aside0.mk (below_step (by repeat (first | (with_reducible first | exact HB.out | apply below_alloc | apply pw_below_drewN | apply below_drew1) | exact HB.out)) hb); clear HB; have HB := n0_; clear n0_; (try clear hb); (try clear hb2); (try clear hk); (try clear hi)) | (go_at_call 15; (with_reducible refine (moultref1_Bytes.calls k t191 t192 t193 _ A7.out).mono ?_); rintro e w' ⟨rfl, ⟨nd, rfl⟩⟩; (try first | exact ⟨rfl, _, World.drewN_drewN _ _ _⟩ | exact ⟨rfl, _, Eq.trans (World.drewN_drewN _ _ _) (congrArg (World.drewN _) (Nat.add_assoc _ _ _))⟩))))
              all_goals go_ret
              all_goals exact ⟨by first | rfl | (exfalso; simp_all; done) | (exfalso; simp_all; omega) | (simp [errW_none, errW_some] <;> rfl) | (simp only [← hji12]; first | rfl | (simp [errW_none, errW_some] <;> rfl)) | (simp [*, errW_none, errW_some] <;> rfl), by repeat (first | (with_reducible first | exact HB.out | apply below_alloc | apply pw_below_drewN | apply below_drew1) | exact HB.out)⟩
            · rw [if_neg c17] at H
              have c17b0 : ((t191.extract 0 ((ji12) : Int).toNat).toList == (t192.extract 0 ((ji12) : Int).toNat).toList) = false := beq_eq_false_iff_ne.mpr c17
              have c17b1 : ((t191.extract 0 ((ji12) : Int).toNat).toList != (t192.extract 0 ((ji12) : Int).toNat).toList) = true := bne_iff_ne.mpr c17
              by_cases c21 : ((decide (t193 < 0)) == (decide (a0 < a1))) = true
              · rw [if_pos c21] at H
                have c21b0 : ((decide (t193 < 0)) == (decide (a0 < a1))) = true := c21
                (try (have c21b1 : decide ((decide (t193 < 0)) = (decide (a0 < a1))) = true := by simpa using c21))
                (try (have c21b2 : ((decide (t193 < 0)) == (decide (a0 < a1))) = true := by simpa using c21))
                clear c21
                by_cases c22 : a0 > a1
                · rw [if_pos c22] at H
                  have c22b0 : decide (a1 < a0) = true := decide_eq_true c22
                  clear c22
                  by_cases c23 : a0 < a1
                  · rw [if_pos c23] at H
                    have c23b0 : decide (a0 < a1) = true := decide_eq_true c23
                    clear c23
                    obtain rfl := Option.some.inj H
                    have hmn_ : ∀ x y : Nat, (if y < x then (y : Int) else (x : Int)) = mn (x : Int) (y : Int) := fun x y => (by unfold mn; split <;> split <;> omega); go_enter Try.func6, Try.ntmps6
                    go_wp2_with (first | (go_at_call 9; (with_reducible refine (moultlaw3_shown.calls k  true _ A3.out).mono ?_); rintro e w24 ⟨rfl, hb⟩; have n0_ := Aside0.mk (below_step (by repeat (first | (with_reducible first | exact HB.out | apply below_alloc | apply pw_below_drewN | apply below_drew1) | exact HB.out)) hb); clear HB; have HB := n0_; clear n0_; (try clear hb); (try clear hb2); (try clear hk); (try clear hi)) | (go_at_call 10; (with_reducible refine (varint_Put.calls a0 t191 _ A5.out).mono ?_); rintro e w25 ⟨rfl, hb⟩; have n0_ := Aside0.mk (below_step (by repeat (first | (with_reducible first | exact HB.out | apply below_alloc | apply pw_below_drewN | apply below_drew1) | exact HB.out)) hb); clear HB; have HB := n0_; clear n0_; (try clear hb); (try clear hb2); (try clear hk); (try clear hi)) | (go_at_call 10; (with_reducible refine (varint_Put.calls a1 t192 _ A6.out).mono ?_); rintro e w26 ⟨rfl, hb⟩; have n0_ := Aside0.mk (below_step (by repeat (first | (with_reducible first | exact HB.out | apply below_alloc | apply pw_below_drewN | apply below_drew1) | exact HB.out)) hb); clear HB; have HB := n0_; clear n0_; (try clear hb); (try clear hb2); (try clear hk); (try clear hi)) | (go_at_call 15; (with_reducible refine (moultref1_Bytes.calls k t191 t192 t193 _ A7.out).mono ?_); rintro e w' ⟨rfl, ⟨nd, rfl⟩⟩; (try first | exact ⟨rfl, _, World.drewN_drewN _ _ _⟩ | exact ⟨rfl, _, Eq.trans (World.drewN_drewN _ _ _) (congrArg (World.drewN _) (Nat.add_assoc _ _ _))⟩)))
                    repeat (go_quiet (first | (go_at_call 9; (with_reducible refine (moultlaw3_shown.calls k  true _ A3.out).mono ?_); rintro e w24 ⟨rfl, hb⟩; have n0_ := Aside0.mk (below_step (by repeat (first | (with_reducible first | exact HB.out | apply below_alloc | apply pw_below_drewN | apply below_drew1) | exact HB.out)) hb); clear HB; have HB := n0_; clear n0_; (try clear hb); (try clear hb2); (try clear hk); (try clear hi)) | (go_at_call 10; (with_reducible refine (varint_Put.calls a0 t191 _ A5.out).mono ?_); rintro e w25 ⟨rfl, hb⟩; have n0_ := Aside0.mk (below_step (by repeat (first | (with_reducible first | exact HB.out | apply below_alloc | apply pw_below_drewN | apply below_drew1) | exact HB.out)) hb); clear HB; have HB := n0_; clear n0_; (try clear hb); (try clear hb2); (try clear hk); (try clear hi)) | (go_at_call 10; (with_reducible refine (varint_Put.calls a1 t192 _ A6.out).mono ?_); rintro e w26 ⟨rfl, hb⟩; have n0_ := Aside0.mk (below_step (by repeat (first | (with_reducible first | exact HB.out | apply below_alloc | apply pw_below_drewN | apply below_drew1) | exact HB.out)) hb); clear HB; have HB := n0_; clear n0_; (try clear hb); (try clear hb2); (try clear hk); (try clear hi)) | (go_at_call 15; (with_reducible refine (moultref1_Bytes.calls k t191 t192 t193 _ A7.out).mono ?_); rintro e w' ⟨rfl, ⟨nd, rfl⟩⟩; (try first | exact ⟨rfl, _, World.drewN_drewN _ _ _⟩ | exact ⟨rfl, _, Eq.trans (World.drewN_drewN _ _ _) (congrArg (World.drewN _) (Nat.add_assoc _ _ _))⟩))); try go_wp2_with (first | (go_at_call 9; (with_reducible refine (moultlaw3_shown.calls k  true _ A3.out).mono ?_); rintro e w24 ⟨rfl, hb⟩; have n0_ := Aside0.mk (below_step (by repeat (first | (with_reducible first | exact HB.out | apply below_alloc | apply pw_below_drewN | apply below_drew1) | exact HB.out)) hb); clear HB; have HB := n0_; clear n0_; (try clear hb); (try clear hb2); (try clear hk); (try clear hi)) | (go_at_call 10; (with_reducible refine (varint_Put.calls a0 t191 _ A5.out).mono ?_); rintro e w25 ⟨rfl, hb⟩; have n0_ := Aside0.mk (below_step (by repeat (first | (with_reducible first | exact HB.out | apply below_alloc | apply pw_below_drewN | apply below_drew1) | exact HB.out)) hb); clear HB; have HB := n0_; clear n0_; (try clear hb); (try clear hb2); (try clear hk); (try clear hi)) | (go_at_call 10; (with_reducible refine (varint_Put.calls a1 t192 _ A6.out).mono ?_); rintro e w26 ⟨rfl, hb⟩; have n0_ := Aside0.mk (below_step (by repeat (first | (with_reducible first | exact HB.out | apply below_alloc | apply pw_below_drewN | apply below_drew1) | exact HB.out)) hb); clear HB; have HB := n0_; clear n0_; (try clear hb); (try clear hb2); (try clear hk); (try clear hi)) | (go_at_call 15; (with_reducible refine (moultref1_Bytes.calls k t191 t192 t193 _ A7.out).mono ?_); rintro e w' ⟨rfl, ⟨nd, rfl⟩⟩; (try first | exact ⟨rfl, _, World.drewN_drewN _ _ _⟩ | exact ⟨rfl, _, Eq.trans (World.drewN_drewN _ _ _) (congrArg (World.drewN _) (Nat.add_assoc _ _ _))⟩))))
                    all_goals go_ret
                    all_goals exact ⟨by first | rfl | (exfalso; simp_all; done) | (exfalso; simp_all; omega) | (simp [errW_none, errW_some] <;> rfl) | (simp only [← hji12]; first | rfl | (simp [errW_none, errW_some] <;> rfl)) | (simp [*, errW_none, errW_some] <;> rfl), by repeat (first | (with_reducible first | exact HB.out | apply below_alloc | apply pw_below_drewN | apply below_drew1) | exact HB.out)⟩
                  · rw [if_neg c23] at H
                    have c23b0 : decide (a0 < a1) = false := decide_eq_false c23
                    clear c23
                    obtain rfl := Option.some.inj H
                    have hmn_ : ∀ x y : Nat, (if y < x then (y : Int) else (x : Int)) = mn (x : Int) (y : Int) := fun x y => (by unfold mn; split <;> split <;> omega); go_enter Try.func6, Try.ntmps6
                    go_wp2_with (first | (go_at_call 9; (with_reducible refine (moultlaw3_shown.calls k  true _ A3.out).mono ?_); rintro e w27 ⟨rfl, hb⟩; have n0_ := Aside0.mk (below_step (by repeat (first | (with_reducible first | exact HB.out | apply below_alloc | apply pw_below_drewN | apply below_drew1) | exact HB.out)) hb); clear HB; have HB := n0_; clear n0_; (try clear hb); (try clear hb2); (try clear hk); (try clear hi)) | (go_at_call 10; (with_reducible refine (varint_Put.calls a0 t191 _ A5.out).mono ?_); rintro e w28 ⟨rfl, hb⟩; have n0_ := Aside0.mk (below_step (by repeat (first | (with_reducible first | exact HB.out | apply below_alloc | apply pw_below_drewN | apply below_drew1) | exact HB.out)) hb); clear HB; have HB := n0_; clear n0_; (try clear hb); (try clear hb2); (try clear hk); (try clear hi)) | (go_at_call 10; (with_reducible refine (varint_Put.calls a1 t192 _ A6.out).mono ?_); rintro e w29 ⟨rfl, hb⟩; have n0_ := Aside0.mk (below_step (by repeat (first | (with_reducible first | exact HB.out | apply below_alloc | apply pw_below_drewN | apply below_drew1) | exact HB.out)) hb); clear HB; have HB := n0_; clear n0_; (try clear hb); (try clear hb2); (try clear hk); (try clear hi)) | (go_at_call 15; (with_reducible refine (moultref1_Bytes.calls k t191 t192 t193 _ A7.out).mono ?_); rintro e w' ⟨rfl, ⟨nd, rfl⟩⟩; (try first | exact ⟨rfl, _, World.drewN_drewN _ _ _⟩ | exact ⟨rfl, _, Eq.trans (World.drewN_drewN _ _ _) (congrArg (World.drewN _) (Nat.add_assoc _ _ _))⟩)))
                    repeat (go_quiet (first | (go_at_call 9; (with_reducible refine (moultlaw3_shown.calls k  true _ A3.out).mono ?_); rintro e w27 ⟨rfl, hb⟩; have n0_ := Aside0.mk (below_step (by repeat (first | (with_reducible first | exact HB.out | apply below_alloc | apply pw_below_drewN | apply below_drew1) | exact HB.out)) hb); clear HB; have HB := n0_; clear n0_; (try clear hb); (try clear hb2); (try clear hk); (try clear hi)) | (go_at_call 10; (with_reducible refine (varint_Put.calls a0 t191 _ A5.out).mono ?_); rintro e w28 ⟨rfl, hb⟩; have n0_ := Aside0.mk (below_step (by repeat (first | (with_reducible first | exact HB.out | apply below_alloc | apply pw_below_drewN | apply below_drew1) | exact HB.out)) hb); clear HB; have HB := n0_; clear n0_; (try clear hb); (try clear hb2); (try clear hk); (try clear hi)) | (go_at_call 10; (with_reducible refine (varint_Put.calls a1 t192 _ A6.out).mono ?_); rintro e w29 ⟨rfl, hb⟩; have n0_ := Aside0.mk (below_step (by repeat (first | (with_reducible first | exact HB.out | apply below_alloc | apply pw_below_drewN | apply below_drew1) | exact HB.out)) hb); clear HB; have HB := n0_; clear n0_; (try clear hb); (try clear hb2); (try clear hk); (try clear hi)) | (go_at_call 15; (with_reducible refine (moultref1_Bytes.calls k t191 t192 t193 _ A7.out).mono ?_); rintro e w' ⟨rfl, ⟨nd, rfl⟩⟩; (try first | exact ⟨rfl, _, World.drewN_drewN _ _ _⟩ | exact ⟨rfl, _, Eq.trans (World.drewN_drewN _ _ _) (congrArg (World.drewN _) (Nat.add_assoc _ _ _))⟩))); try go_wp2_with (first | (go_at_call 9; (with_reducible refine (moultlaw3_shown.calls k  true _ A3.out).mono ?_); rintro e w27 ⟨rfl, hb⟩; have n0_ := Aside0.mk (below_step (by repeat (first | (with_reducible first | exact HB.out | apply below_alloc | apply pw_below_drewN | apply below_drew1) | exact HB.out)) hb); clear HB; have HB := n0_; clear n0_; (try clear hb); (try clear hb2); (try clear hk); (try clear hi)) | (go_at_call 10; (with_reducible refine (varint_Put.calls a0 t191 _ A5.out).mono ?_); rintro e w28 ⟨rfl, hb⟩; have n0_ := Aside0.mk (below_step (by repeat (first | (with_reducible first | exact HB.out | apply below_alloc | apply pw_below_drewN | apply below_drew1) | exact HB.out)) hb); clear HB; have HB := n0_; clear n0_; (try clear hb); (try clear hb2); (try clear hk); (try clear hi)) | (go_at_call 10; (with_reducible refine (varint_Put.calls a1 t192 _ A6.out).mono ?_); rintro e w29 ⟨rfl, hb⟩; have n0_ := Aside0.mk (below_step (by repeat (first | (with_reducible first | exact HB.out | apply below_alloc | apply pw_below_drewN | apply below_drew1) | exact HB.out)) hb); clear HB; have HB := n0_; clear n0_; (try clear hb); (try clear hb2); (try clear hk); (try clear hi)) | (go_at_call 15; (with_reducible refine (moultref1_Bytes.calls k t191 t192 t193 _ A7.out).mono ?_); rintro e w' ⟨rfl, ⟨nd, rfl⟩⟩; (try first | exact ⟨rfl, _, World.drewN_drewN _ _ _⟩ | exact ⟨rfl, _, Eq.trans (World.drewN_drewN _ _ _) (congrArg (World.drewN _) (Nat.add_assoc _ _ _))⟩))))
                    all_goals go_ret
                    all_goals exact ⟨by first | rfl | (exfalso; simp_all; done) | (exfalso; simp_all; omega) | (simp [errW_none, errW_some] <;> rfl) | (simp only [← hji12]; first | rfl | (simp [errW_none, errW_some] <;> rfl)) | (simp [*, errW_none, errW_some] <;> rfl), by repeat (first | (with_reducible first | exact HB.out | apply below_alloc | apply pw_below_drewN | apply below_drew1) | exact HB.out)⟩
                · rw [if_neg c22] at H
                  have c22b0 : decide (a1 < a0) = false := decide_eq_false c22
                  clear c22
                  by_cases c30 : (t191.size : Int) ≤ (t192.size : Int)
                  · rw [if_pos c30] at H
                    have c30b0 : decide ((t191.size : Int) ≤ (t192.size : Int)) = true := decide_eq_true c30
                    have c30b1 : decide (t191.size ≤ t192.size) = true := decide_eq_true (Int.ofNat_le.mp c30)
                    clear c30
                    by_cases c31 : a0 < a1
                    · rw [if_pos c31] at H
                      have c31b0 : decide (a0 < a1) = true := decide_eq_true c31
                      clear c31
                      obtain rfl := Option.some.inj H
                      have hmn_ : ∀ x y : Nat, (if y < x then (y : Int) else (x : Int)) = mn (x : Int) (y : Int) := fun x y => (by unfold mn; split <;> split <;> omega); go_enter Try.func6, Try.ntmps6
                      go_wp2_with (first | (go_at_call 9; (with_reducible refine (moultlaw3_shown.calls k  true _ A3.out).mono ?_); rintro e w32 ⟨rfl, hb⟩; have n0_ := Aside0.mk (below_step (by repeat (first | (with_reducible first | exact HB.out | apply below_alloc | apply pw_below_drewN | apply below_drew1) | exact HB.out)) hb); clear HB; have HB := n0_; clear n0_; (try clear hb); (try clear hb2); (try clear hk); (try clear hi)) | (go_at_call 10; (with_reducible refine (varint_Put.calls a0 t191 _ A5.out).mono ?_); rintro e w33 ⟨rfl, hb⟩; have n0_ := Aside0.mk (below_step (by repeat (first | (with_reducible first | exact HB.out | apply below_alloc | apply pw_below_drewN | apply below_drew1) | exact HB.out)) hb); clear HB; have HB := n0_; clear n0_; (try clear hb); (try clear hb2); (try clear hk); (try clear hi)) | (go_at_call 10; (with_reducible refine (varint_Put.calls a1 t192 _ A6.out).mono ?_); rintro e w34 ⟨rfl, hb⟩; have n0_ := Aside0.mk (below_step (by repeat (first | (with_reducible first | exact HB.out | apply below_alloc | apply pw_below_drewN | apply below_drew1) | exact HB.out)) hb); clear HB; have HB := n0_; clear n0_; (try clear hb); (try clear hb2); (try clear hk); (try clear hi)) | (go_at_call 15; (with_reducible refine (moultref1_Bytes.calls k t191 t192 t193 _ A7.out).mono ?_); rintro e w' ⟨rfl, ⟨nd, rfl⟩⟩; (try first | exact ⟨rfl, _, World.drewN_drewN _ _ _⟩ | exact ⟨rfl, _, Eq.trans (World.drewN_drewN _ _ _) (congrArg (World.drewN _) (Nat.add_assoc _ _ _))⟩)))
                      repeat (go_quiet (first | (go_at_call 9; (with_reducible refine (moultlaw3_shown.calls k  true _ A3.out).mono ?_); rintro e w32 ⟨rfl, hb⟩; have n0_ := Aside0.mk (below_step (by repeat (first | (with_reducible first | exact HB.out | apply below_alloc | apply pw_below_drewN | apply below_drew1) | exact HB.out)) hb); clear HB; have HB := n0_; clear n0_; (try clear hb); (try clear hb2); (try clear hk); (try clear hi)) | (go_at_call 10; (with_reducible refine (varint_Put.calls a0 t191 _ A5.out).mono ?_); rintro e w33 ⟨rfl, hb⟩; have n0_ := Aside0.mk (below_step (by repeat (first | (with_reducible first | exact HB.out | apply below_alloc | apply pw_below_drewN | apply below_drew1) | exact HB.out)) hb); clear HB; have HB := n0_; clear n0_; (try clear hb); (try clear hb2); (try clear hk); (try clear hi)) | (go_at_call 10; (with_reducible refine (varint_Put.calls a1 t192 _ A6.out).mono ?_); rintro e w34 ⟨rfl, hb⟩; have n0_ := Aside0.mk (below_step (by repeat (first | (with_reducible first | exact HB.out | apply below_alloc | apply pw_below_drewN | apply below_drew1) | exact HB.out)) hb); clear HB; have HB := n0_; clear n0_; (try clear hb); (try clear hb2); (try clear hk); (try clear hi)) | (go_at_call 15; (with_reducible refine (moultref1_Bytes.calls k t191 t192 t193 _ A7.out).mono ?_); rintro e w' ⟨rfl, ⟨nd, rfl⟩⟩; (try first | exact ⟨rfl, _, World.drewN_drewN _ _ _⟩ | exact ⟨rfl, _, Eq.trans (World.drewN_drewN _ _ _) (congrArg (World.drewN _) (Nat.add_assoc _ _ _))⟩))); try go_wp2_with (first | (go_at_call 9; (with_reducible refine (moultlaw3_shown.calls k  true _ A3.out).mono ?_); rintro e w32 ⟨rfl, hb⟩; have n0_ := Aside0.mk (below_step (by repeat (first | (with_reducible first | exact HB.out | apply below_alloc | apply pw_below_drewN | apply below_drew1) | exact HB.out)) hb); clear HB; have HB := n0_; clear n0_; (try clear hb); (try clear hb2); (try clear hk); (try clear hi)) | (go_at_call 10; (with_reducible refine (varint_Put.calls a0 t191 _ A5.out).mono ?_); rintro e w33 ⟨rfl, hb⟩; have n0_ := Aside0.mk (below_step (by repeat (first | (with_reducible first | exact HB.out | apply below_alloc | apply pw_below_drewN | apply below_drew1) | exact HB.out)) hb); clear HB; have HB := n0_; clear n0_; (try clear hb); (try clear hb2); (try clear hk); (try clear hi)) | (go_at_call 10; (with_reducible refine (varint_Put.calls a1 t192 _ A6.out).mono ?_); rintro e w34 ⟨rfl, hb⟩; have n0_ := Aside0.mk (below_step (by repeat (first | (with_reducible first | exact HB.out | apply below_alloc | apply pw_below_drewN | apply below_drew1) | exact HB.out)) hb); clear HB; have HB := n0_; clear n0_; (try clear hb); (try clear hb2); (try clear hk); (try clear hi)) | (go_at_call 15; (with_reducible refine (moultref1_Bytes.calls k t191 t192 t193 _ A7.out).mono ?_); rintro e w' ⟨rfl, ⟨nd, rfl⟩⟩; (try first | exact ⟨rfl, _, World.drewN_drewN _ _ _⟩ | exact ⟨rfl, _, Eq.trans (World.drewN_drewN _ _ _) (congrArg (World.drewN _) (Nat.add_assoc _ _ _))⟩))))
                      all_goals go_ret
                      all_goals exact ⟨by first | rfl | (exfalso; simp_all; done) | (exfalso; simp_all; omega) | (simp [errW_none, errW_some] <;> rfl) | (simp only [← hji12]; first | rfl | (simp [errW_none, errW_some] <;> rfl)) | (simp [*, errW_none, errW_some] <;> rfl), by repeat (first | (with_reducible first | exact HB.out | apply below_alloc | apply pw_below_drewN | apply below_drew1) | exact HB.out)⟩
                    · rw [if_neg c31] at H
                      have c31b0 : decide (a0 < a1) = false := decide_eq_false c31
                      clear c31
                      obtain rfl := Option.some.inj H
                      have hmn_ : ∀ x y : Nat, (if y < x then (y : Int) else (x : Int)) = mn (x : Int) (y : Int) := fun x y => (by unfold mn; split <;> split <;> omega); go_enter Try.func6, Try.ntmps6
                      go_wp2_with (first | (go_at_call 9; (with_reducible refine (moultlaw3_shown.calls k  true _ A3.out).mono ?_); rintro e w35 ⟨rfl, hb⟩; have n0_ := Aside0.mk (below_step (by repeat (first | (with_reducible first | exact HB.out | apply below_alloc | apply pw_below_drewN | apply below_drew1) | exact HB.out)) hb); clear HB; have HB := n0_; clear n0_; (try clear hb); (try clear hb2); (try clear hk); (try clear hi)) | (go_at_call 10; (with_reducible refine (varint_Put.calls a0 t191 _ A5.out).mono ?_); rintro e w36 ⟨rfl, hb⟩; have n0_ := Aside0.mk (below_step (by repeat (first | (with_reducible first | exact HB.out | apply below_alloc | apply pw_below_drewN | apply below_drew1) | exact HB.out)) hb); clear HB; have HB := n0_; clear n0_; (try clear hb); (try clear hb2); (try clear hk); (try clear hi)) | (go_at_call 10; (with_reducible refine (varint_Put.calls a1 t192 _ A6.out).mono ?_); rintro e w37 ⟨rfl, hb⟩; have n0_ := Aside0.mk (below_step (by repeat (first | (with_reducible first | exact HB.out | apply below_alloc | apply pw_below_drewN | apply below_drew1) | exact HB.out)) hb); clear HB; have HB := n0_; clear n0_; (try clear hb); (try clear hb2); (try clear hk); (try clear hi)) | (go_at_call 15; (with_reducible refine (moultref1_Bytes.calls k t191 t192 t193 _ A7.out).mono ?_); rintro e w' ⟨rfl, ⟨nd, rfl⟩⟩; (try first | exact ⟨rfl, _, World.drewN_drewN _ _ _⟩ | exact ⟨rfl, _, Eq.trans (World.drewN_drewN _ _ _) (congrArg (World.drewN _) (Nat.add_assoc _ _ _))⟩)))
                      repeat (go_quiet (first | (go_at_call 9; (with_reducible refine (moultlaw3_shown.calls k  true _ A3.out).mono ?_); rintro e w35 ⟨rfl, hb⟩; have n0_ := Aside0.mk (below_step (by repeat (first | (with_reducible first | exact HB.out | apply below_alloc | apply pw_below_drewN | apply below_drew1) | exact HB.out)) hb); clear HB; have HB := n0_; clear n0_; (try clear hb); (try clear hb2); (try clear hk); (try clear hi)) | (go_at_call 10; (with_reducible refine (varint_Put.calls a0 t191 _ A5.out).mono ?_); rintro e w36 ⟨rfl, hb⟩; have n0_ := Aside0.mk (below_step (by repeat (first | (with_reducible first | exact HB.out | apply below_alloc | apply pw_below_drewN | apply below_drew1) | exact HB.out)) hb); clear HB; have HB := n0_; clear n0_; (try clear hb); (try clear hb2); (try clear hk); (try clear hi)) | (go_at_call 10; (with_reducible refine (varint_Put.calls a1 t192 _ A6.out).mono ?_); rintro e w37 ⟨rfl, hb⟩; have n0_ := Aside0.mk (below_step (by repeat (first | (with_reducible first | exact HB.out | apply below_alloc | apply pw_below_drewN | apply below_drew1) | exact HB.out)) hb); clear HB; have HB := n0_; clear n0_; (try clear hb); (try clear hb2); (try clear hk); (try clear hi)) | (go_at_call 15; (with_reducible refine (moultref1_Bytes.calls k t191 t192 t193 _ A7.out).mono ?_); rintro e w' ⟨rfl, ⟨nd, rfl⟩⟩; (try first | exact ⟨rfl, _, World.drewN_drewN _ _ _⟩ | exact ⟨rfl, _, Eq.trans (World.drewN_drewN _ _ _) (congrArg (World.drewN _) (Nat.add_assoc _ _ _))⟩))); try go_wp2_with (first | (go_at_call 9; (with_reducible refine (moultlaw3_shown.calls k  true _ A3.out).mono ?_); rintro e w35 ⟨rfl, hb⟩; have n0_ := Aside0.mk (below_step (by repeat (first | (with_reducible first | exact HB.out | apply below_alloc | apply pw_below_drewN | apply below_drew1) | exact HB.out)) hb); clear HB; have HB := n0_; clear n0_; (try clear hb); (try clear hb2); (try clear hk); (try clear hi)) | (go_at_call 10; (with_reducible refine (varint_Put.calls a0 t191 _ A5.out).mono ?_); rintro e w36 ⟨rfl, hb⟩; have n0_ := Aside0.mk (below_step (by repeat (first | (with_reducible first | exact HB.out | apply below_alloc | apply pw_below_drewN | apply below_drew1) | exact HB.out)) hb); clear HB; have HB := n0_; clear n0_; (try clear hb); (try clear hb2); (try clear hk); (try clear hi)) | (go_at_call 10; (with_reducible refine (varint_Put.calls a1 t192 _ A6.out).mono ?_); rintro e w37 ⟨rfl, hb⟩; have n0_ := Aside0.mk (below_step (by repeat (first | (with_reducible first | exact HB.out | apply below_alloc | apply pw_below_drewN | apply below_drew1) | exact HB.out)) hb); clear HB; have HB := n0_; clear n0_; (try clear hb); (try clear hb2); (try clear hk); (try clear hi)) | (go_at_call 15; (with_reducible refine (moultref1_Bytes.calls k t191 t192 t193 _ A7.out).mono ?_); rintro e w' ⟨rfl, ⟨nd, rfl⟩⟩; (try first | exact ⟨rfl, _, World.drewN_drewN _ _ _⟩ | exact ⟨rfl, _, Eq.trans (World.drewN_drewN _ _ _) (congrArg (World.drewN _) (Nat.add_assoc _ _ _))⟩))))
                      all_goals go_ret
                      all_goals exact ⟨by first | rfl | (exfalso; simp_all; done) | (exfalso; simp_all; omega) | (simp [errW_none, errW_some] <;> rfl) | (simp only [← hji12]; first | rfl | (simp [errW_none, errW_some] <;> rfl)) | (simp [*, errW_none, errW_some] <;> rfl), by repeat (first | (with_reducible first | exact HB.out | apply below_alloc | apply pw_below_drewN | apply below_drew1) | exact HB.out)⟩
                  · rw [if_neg c30] at H
                    have c30b0 : decide ((t191.size : Int) ≤ (t192.size : Int)) = false := decide_eq_false c30
                    have c30b1 : decide (t191.size ≤ t192.size) = false := decide_eq_false (fun h => c30 (Int.ofNat_le.mpr h))
                    clear c30
                    obtain rfl := Option.some.inj H
                    have hmn_ : ∀ x y : Nat, (if y < x then (y : Int) else (x : Int)) = mn (x : Int) (y : Int) := fun x y => (by unfold mn; split <;> split <;> omega); go_enter Try.func6, Try.ntmps6
                    go_wp2_with (first | (go_at_call 9; (with_reducible refine (moultlaw3_shown.calls k  true _ A3.out).mono ?_); rintro e w38 ⟨rfl, hb⟩; have n0_ := Aside0.mk (below_step (by repeat (first | (with_reducible first | exact HB.out | apply below_alloc | apply pw_below_drewN | apply below_drew1) | exact HB.out)) hb); clear HB; have HB := n0_; clear n0_; (try clear hb); (try clear hb2); (try clear hk); (try clear hi)) | (go_at_call 10; (with_reducible refine (varint_Put.calls a0 t191 _ A5.out).mono ?_); rintro e w39 ⟨rfl, hb⟩; have n0_ := Aside0.mk (below_step (by repeat (first | (with_reducible first | exact HB.out | apply below_alloc | apply pw_below_drewN | apply below_drew1) | exact HB.out)) hb); clear HB; have HB := n0_; clear n0_; (try clear hb); (try clear hb2); (try clear hk); (try clear hi)) | (go_at_call 10; (with_reducible refine (varint_Put.calls a1 t192 _ A6.out).mono ?_); rintro e w40 ⟨rfl, hb⟩; have n0_ := Aside0.mk (below_step (by repeat (first | (with_reducible first | exact HB.out | apply below_alloc | apply pw_below_drewN | apply below_drew1) | exact HB.out)) hb); clear HB; have HB := n0_; clear n0_; (try clear hb); (try clear hb2); (try clear hk); (try clear hi)) | (go_at_call 15; (with_reducible refine (moultref1_Bytes.calls k t191 t192 t193 _ A7.out).mono ?_); rintro e w' ⟨rfl, ⟨nd, rfl⟩⟩; (try first | exact ⟨rfl, _, World.drewN_drewN _ _ _⟩ | exact ⟨rfl, _, Eq.trans (World.drewN_drewN _ _ _) (congrArg (World.drewN _) (Nat.add_assoc _ _ _))⟩)))
                    repeat (go_quiet (first | (go_at_call 9; (with_reducible refine (moultlaw3_shown.calls k  true _ A3.out).mono ?_); rintro e w38 ⟨rfl, hb⟩; have n0_ := Aside0.mk (below_step (by repeat (first | (with_reducible first | exact HB.out | apply below_alloc | apply pw_below_drewN | apply below_drew1) | exact HB.out)) hb); clear HB; have HB := n0_; clear n0_; (try clear hb); (try clear hb2); (try clear hk); (try clear hi)) | (go_at_call 10; (with_reducible refine (varint_Put.calls a0 t191 _ A5.out).mono ?_); rintro e w39 ⟨rfl, hb⟩; have n0_ := Aside0.mk (below_step (by repeat (first | (with_reducible first | exact HB.out | apply below_alloc | apply pw_below_drewN | apply below_drew1) | exact HB.out)) hb); clear HB; have HB := n0_; clear n0_; (try clear hb); (try clear hb2); (try clear hk); (try clear hi)) | (go_at_call 10; (with_reducible refine (varint_Put.calls a1 t192 _ A6.out).mono ?_); rintro e w40 ⟨rfl, hb⟩; have n0_ := Aside0.mk (below_step (by repeat (first | (with_reducible first | exact HB.out | apply below_alloc | apply pw_below_drewN | apply below_drew1) | exact HB.out)) hb); clear HB; have HB := n0_; clear n0_; (try clear hb); (try clear hb2); (try clear hk); (try clear hi)) | (go_at_call 15; (with_reducible refine (moultref1_Bytes.calls k t191 t192 t193 _ A7.out).mono ?_); rintro e w' ⟨rfl, ⟨nd, rfl⟩⟩; (try first | exact ⟨rfl, _, World.drewN_drewN _ _ _⟩ | exact ⟨rfl, _, Eq.trans (World.drewN_drewN _ _ _) (congrArg (World.drewN _) (Nat.add_assoc _ _ _))⟩))); try go_wp2_with (first | (go_at_call 9; (with_reducible refine (moultlaw3_shown.calls k  true _ A3.out).mono ?_); rintro e w38 ⟨rfl, hb⟩; have n0_ := Aside0.mk (below_step (by repeat (first | (with_reducible first | exact HB.out | apply below_alloc | apply pw_below_drewN | apply below_drew1) | exact HB.out)) hb); clear HB; have HB := n0_; clear n0_; (try clear hb); (try clear hb2); (try clear hk); (try clear hi)) | (go_at_call 10; (with_reducible refine (varint_Put.calls a0 t191 _ A5.out).mono ?_); rintro e w39 ⟨rfl, hb⟩; have n0_ := Aside0.mk (below_step (by repeat (first | (with_reducible first | exact HB.out | apply below_alloc | apply pw_below_drewN | apply below_drew1) | exact HB.out)) hb); clear HB; have HB := n0_; clear n0_; (try clear hb); (try clear hb2); (try clear hk); (try clear hi)) | (go_at_call 10; (with_reducible refine (varint_Put.calls a1 t192 _ A6.out).mono ?_); rintro e w40 ⟨rfl, hb⟩; have n0_ := Aside0.mk (below_step (by repeat (first | (with_reducible first | exact HB.out | apply below_alloc | apply pw_below_drewN | apply below_drew1) | exact HB.out)) hb); clear HB; have HB := n0_; clear n0_; (try clear hb); (try clear hb2); (try clear hk); (try clear hi)) | (go_at_call 15; (with_reducible refine (moultref1_Bytes.calls k t191 t192 t193 _ A7.out).mono ?_); rintro e w' ⟨rfl, ⟨nd, rfl⟩⟩; (try first | exact ⟨rfl, _, World.drewN_drewN _ _ _⟩ | exact ⟨rfl, _, Eq.trans (World.drewN_drewN _ _ _) (congrArg (World.drewN _) (Nat.add_assoc _ _ _))⟩))))
                    all_goals go_ret
                    all_goals exact ⟨by first | rfl | (exfalso; simp_all; done) | (exfalso; simp_all; omega) | (simp [errW_none, errW_some] <;> rfl) | (simp only [← hji12]; first | rfl | (simp [errW_none, errW_some] <;> rfl)) | (simp [*, errW_none, errW_some] <;> rfl), by repeat (first | (with_reducible first | exact HB.out | apply below_alloc | apply pw_below_drewN | apply below_drew1) | exact HB.out)⟩
              · rw [if_neg c21] at H
                have c21b0 : ((decide (t193 < 0)) == (decide (a0 < a1))) = false := by simpa using c21
                (try (have c21b1 : decide ((decide (t193 < 0)) = (decide (a0 < a1))) = false := by simpa using c21))
                (try (have c21b2 : ((decide (t193 < 0)) == (decide (a0 < a1))) = false := by simpa using c21))
                (try (have c21b3 : ¬ ((decide (t193 < 0)) = (decide (a0 < a1))) := by simpa using c21))
                clear c21
                obtain rfl := Option.some.inj H
                have hmn_ : ∀ x y : Nat, (if y < x then (y : Int) else (x : Int)) = mn (x : Int) (y : Int) := fun x y => (by unfold mn; split <;> split <;> omega); go_enter Try.func6, Try.ntmps6
                go_wp2_with (first | (go_at_call 9; (with_reducible refine (moultlaw3_shown.calls k  true _ A3.out).mono ?_); rintro e w41 ⟨rfl, hb⟩; have n0_ := Aside0.mk (below_step (by repeat (first | (with_reducible first | exact HB.out | apply below_alloc | apply pw_below_drewN | apply below_drew1) | exact HB.out)) hb); clear HB; have HB := n0_; clear n0_; (try clear hb); (try clear hb2); (try clear hk); (try clear hi)) | (go_at_call 10; (with_reducible refine (varint_Put.calls a0 t191 _ A5.out).mono ?_); rintro e w42 ⟨rfl, hb⟩; have n0_ := Aside0.mk (below_step (by repeat (first | (with_reducible first | exact HB.out | apply below_alloc | apply pw_below_drewN | apply below_drew1) | exact HB.out)) hb); clear HB; have HB := n0_; clear n0_; (try clear hb); (try clear hb2); (try clear hk); (try clear hi)) | (go_at_call 10; (with_reducible refine (varint_Put.calls a1 t192 _ A6.out).mono ?_); rintro e w43 ⟨rfl, hb⟩; have n0_ := Aside0.mk (below_step (by repeat (first | (with_reducible first | exact HB.out | apply below_alloc | apply pw_below_drewN | apply below_drew1) | exact HB.out)) hb); clear HB; have HB := n0_; clear n0_; (try clear hb); (try clear hb2); (try clear hk); (try clear hi)) | (go_at_call 15; (with_reducible refine (moultref1_Bytes.calls k t191 t192 t193 _ A7.out).mono ?_); rintro e w' ⟨rfl, ⟨nd, rfl⟩⟩; (try first | exact ⟨rfl, _, World.drewN_drewN _ _ _⟩ | exact ⟨rfl, _, Eq.trans (World.drewN_drewN _ _ _) (congrArg (World.drewN _) (Nat.add_assoc _ _ _))⟩)))
                repeat (go_quiet (first | (go_at_call 9; (with_reducible refine (moultlaw3_shown.calls k  true _ A3.out).mono ?_); rintro e w41 ⟨rfl, hb⟩; have n0_ := Aside0.mk (below_step (by repeat (first | (with_reducible first | exact HB.out | apply below_alloc | apply pw_below_drewN | apply below_drew1) | exact HB.out)) hb); clear HB; have HB := n0_; clear n0_; (try clear hb); (try clear hb2); (try clear hk); (try clear hi)) | (go_at_call 10; (with_reducible refine (varint_Put.calls a0 t191 _ A5.out).mono ?_); rintro e w42 ⟨rfl, hb⟩; have n0_ := Aside0.mk (below_step (by repeat (first | (with_reducible first | exact HB.out | apply below_alloc | apply pw_below_drewN | apply below_drew1) | exact HB.out)) hb); clear HB; have HB := n0_; clear n0_; (try clear hb); (try clear hb2); (try clear hk); (try clear hi)) | (go_at_call 10; (with_reducible refine (varint_Put.calls a1 t192 _ A6.out).mono ?_); rintro e w43 ⟨rfl, hb⟩; have n0_ := Aside0.mk (below_step (by repeat (first | (with_reducible first | exact HB.out | apply below_alloc | apply pw_below_drewN | apply below_drew1) | exact HB.out)) hb); clear HB; have HB := n0_; clear n0_; (try clear hb); (try clear hb2); (try clear hk); (try clear hi)) | (go_at_call 15; (with_reducible refine (moultref1_Bytes.calls k t191 t192 t193 _ A7.out).mono ?_); rintro e w' ⟨rfl, ⟨nd, rfl⟩⟩; (try first | exact ⟨rfl, _, World.drewN_drewN _ _ _⟩ | exact ⟨rfl, _, Eq.trans (World.drewN_drewN _ _ _) (congrArg (World.drewN _) (Nat.add_assoc _ _ _))⟩))); try go_wp2_with (first | (go_at_call 9; (with_reducible refine (moultlaw3_shown.calls k  true _ A3.out).mono ?_); rintro e w41 ⟨rfl, hb⟩; have n0_ := Aside0.mk (below_step (by repeat (first | (with_reducible first | exact HB.out | apply below_alloc | apply pw_below_drewN | apply below_drew1) | exact HB.out)) hb); clear HB; have HB := n0_; clear n0_; (try clear hb); (try clear hb2); (try clear hk); (try clear hi)) | (go_at_call 10; (with_reducible refine (varint_Put.calls a0 t191 _ A5.out).mono ?_); rintro e w42 ⟨rfl, hb⟩; have n0_ := Aside0.mk (below_step (by repeat (first | (with_reducible first | exact HB.out | apply below_alloc | apply pw_below_drewN | apply below_drew1) | exact HB.out)) hb); clear HB; have HB := n0_; clear n0_; (try clear hb); (try clear hb2); (try clear hk); (try clear hi)) | (go_at_call 10; (with_reducible refine (varint_Put.calls a1 t192 _ A6.out).mono ?_); rintro e w43 ⟨rfl, hb⟩; have n0_ := Aside0.mk (below_step (by repeat (first | (with_reducible first | exact HB.out | apply below_alloc | apply pw_below_drewN | apply below_drew1) | exact HB.out)) hb); clear HB; have HB := n0_; clear n0_; (try clear hb); (try clear hb2); (try clear hk); (try clear hi)) | (go_at_call 15; (with_reducible refine (moultref1_Bytes.calls k t191 t192 t193 _ A7.out).mono ?_); rintro e w' ⟨rfl, ⟨nd, rfl⟩⟩; (try first | exact ⟨rfl, _, World.drewN_drewN _ _ _⟩ | exact ⟨rfl, _, Eq.trans (World.drewN_drewN _ _ _) (congrArg (World.drewN _) (Nat.add_assoc _ _ _))⟩))))
                all_goals go_ret
                all_goals exact ⟨by first | rfl | (exfalso; simp_all; done) | (exfalso; simp_all; omega) | (simp [errW_none, errW_some] <;> rfl) | (simp only [← hji12]; first | rfl | (simp [errW_none, errW_some] <;> rfl)) | (simp [*, errW_none, errW_some] <;> rfl), by repeat (first | (with_reducible first | exact HB.out | apply below_alloc | apply pw_below_drewN | apply below_drew1) | exact HB.out)⟩
          · rw [if_neg c16] at H
            exact absurd H (by simp)
        · rw [if_neg c14] at H
          exact absurd H (by simp)
      · rw [if_neg c13] at H
        exact absurd H (by simp)
  · replace c4 := Bool.eq_false_iff.mpr c4
    subst c4
    have H1 : (some false) = some r := by rw [if_neg (show ¬ (false = true) by decide)] at H; exact H
    clear H
    have H := H1
    clear H1
    obtain rfl := Option.some.inj H
    have hmn_ : ∀ x y : Nat, (if y < x then (y : Int) else (x : Int)) = mn (x : Int) (y : Int) := fun x y => (by unfold mn; split <;> split <;> omega); go_enter Try.func6, Try.ntmps6
    go_wp2_with (first | (go_at_call 9; (with_reducible refine (moultlaw3_shown.calls k  false _ A3.out).mono ?_); rintro e w44 ⟨rfl, hb⟩; have n0_ := Aside0.mk (below_step (by repeat (first | (with_reducible first | exact HB.out | apply below_alloc | apply pw_below_drewN | apply below_drew1) | exact HB.out)) hb); clear HB; have HB := n0_; clear n0_; (try clear hb); (try clear hb2); (try clear hk); (try clear hi)))
    repeat (go_quiet (first | (go_at_call 9; (with_reducible refine (moultlaw3_shown.calls k  false _ A3.out).mono ?_); rintro e w44 ⟨rfl, hb⟩; have n0_ := Aside0.mk (below_step (by repeat (first | (with_reducible first | exact HB.out | apply below_alloc | apply pw_below_drewN | apply below_drew1) | exact HB.out)) hb); clear HB; have HB := n0_; clear n0_; (try clear hb); (try clear hb2); (try clear hk); (try clear hi))); try go_wp2_with (first | (go_at_call 9; (with_reducible refine (moultlaw3_shown.calls k  false _ A3.out).mono ?_); rintro e w44 ⟨rfl, hb⟩; have n0_ := Aside0.mk (below_step (by repeat (first | (with_reducible first | exact HB.out | apply below_alloc | apply pw_below_drewN | apply below_drew1) | exact HB.out)) hb); clear HB; have HB := n0_; clear n0_; (try clear hb); (try clear hb2); (try clear hk); (try clear hi))))
    all_goals go_ret
    all_goals exact ⟨by first | rfl | (exfalso; simp_all; done) | (exfalso; simp_all; omega) | (simp [errW_none, errW_some] <;> rfl) | (simp [*, errW_none, errW_some] <;> rfl), by repeat (first | (with_reducible first | exact HB.out | apply below_alloc | apply pw_below_drewN | apply below_drew1) | exact HB.out)⟩

/-- THE ONE PURE STATEMENT of moultlaw3_VarintOrders: yours. -/
def moultlaw3_VarintOrders.Pure : Prop := ∀ (a0 : Int) (a1 : Int), (Lit.int .u64 a0).wf = true → (Lit.int .u64 a1).wf = true → ∃ k, moultlaw3_VarintOrders.f k a0 a1 = some true
theorem moultlaw3_VarintOrders.walk (P : moultlaw3_VarintOrders.Pure) (a0 : Int) (a1 : Int) (w : World) (w0 : (Lit.int .u64 a0).wf = true) (w1 : (Lit.int .u64 a1).wf = true) :
    Calls Try.prog 6 #[.int .u64 a0, .int .u64 a1] w fun e w' => e = .returned (.bool true) ∧ Below w.heap.size w w' := by
  obtain ⟨k, h⟩ := P a0 a1 w0 w1
  refine (moultlaw3_VarintOrders.calls k a0 a1 true w h).mono ?_
  rintro e w' ⟨rfl, hd⟩
  exact ⟨rfl, hd⟩

/-! ### varint_Unfold: function 16 -/
def varint_Unfold.f (a0 : Int) : Option (Int) := some (Go.bits .xor .i64 (wrap64 (a0 / 2)) (wrap64 (-(wrap64 (Go.bits .and .u64 a0 1)))))
set_option maxHeartbeats 8000000 in
set_option maxRecDepth 100000 in
theorem varint_Unfold.calls (a0 : Int) (r : Int) (w : World) (h : varint_Unfold.f a0 = some r) :
    Calls Try.prog 16 #[.int .u64 a0] w fun e w' => e = .returned (.int .i64 r) ∧ Drawn0 w w' := by
  have H : (some (Go.bits .xor .i64 (wrap64 (a0 / 2)) (wrap64 (-(wrap64 (Go.bits .and .u64 a0 1)))))) = some r := h
  clear h
  obtain rfl := Option.some.inj H
  go_enter Try.func16, Try.ntmps16
  go_wp2
  all_goals go_ret
  all_goals exact ⟨by first | rfl | (simp; done) | (simp [*]; done), by repeat (first | exact Drawn0.refl _ | apply Drawn0.step)⟩

/-! ### moultref3_Fold: function 18 -/
def moultref3_Fold.f (a0 : Int) : Option (Int) := if a0 ≥ 0 then (some (IntKind.u64.wrap (2 * (IntKind.u64.wrap (a0))))) else (some (IntKind.u64.wrap ((IntKind.u64.wrap (2 * (IntKind.u64.wrap (wrap64 (-(wrap64 (a0 + 1))))))) + 1)))
set_option maxHeartbeats 8000000 in
set_option maxRecDepth 100000 in
theorem moultref3_Fold.calls (a0 : Int) (r : Int) (w : World) (h : moultref3_Fold.f a0 = some r) :
    Calls Try.prog 18 #[.int .i64 a0] w fun e w' => e = .returned (.int .u64 r) ∧ Drawn0 w w' := by
  have H : (if a0 ≥ 0 then (some (IntKind.u64.wrap (2 * (IntKind.u64.wrap (a0))))) else (some (IntKind.u64.wrap ((IntKind.u64.wrap (2 * (IntKind.u64.wrap (wrap64 (-(wrap64 (a0 + 1))))))) + 1)))) = some r := h
  clear h
  by_cases c2 : a0 ≥ 0
  · rw [if_pos c2] at H
    have c2b0 : decide (0 ≤ a0) = true := decide_eq_true c2
    clear c2
    obtain rfl := Option.some.inj H
    go_enter Try.func18, Try.ntmps18
    go_wp2
    all_goals go_ret
    all_goals exact ⟨by first | rfl | (simp; done) | (simp [*]; done), by repeat (first | exact Drawn0.refl _ | apply Drawn0.step)⟩
  · rw [if_neg c2] at H
    have c2b0 : decide (0 ≤ a0) = false := decide_eq_false c2
    clear c2
    obtain rfl := Option.some.inj H
    go_enter Try.func18, Try.ntmps18
    go_wp2
    all_goals go_ret
    all_goals exact ⟨by first | rfl | (simp; done) | (simp [*]; done), by repeat (first | exact Drawn0.refl _ | apply Drawn0.step)⟩

/-! ### moultref3_Unfold: function 19 -/
def moultref3_Unfold.f (a0 : Int) : Option (Int) := if (Int.tmod a0 2) = 0 then (some (wrap64 (IntKind.u64.wrap (Int.tdiv a0 2)))) else (some (wrap64 ((wrap64 (-(wrap64 (IntKind.u64.wrap (Int.tdiv a0 2))))) - 1)))
set_option maxHeartbeats 8000000 in
set_option maxRecDepth 100000 in
theorem moultref3_Unfold.calls (a0 : Int) (r : Int) (w : World) (h : moultref3_Unfold.f a0 = some r) :
    Calls Try.prog 19 #[.int .u64 a0] w fun e w' => e = .returned (.int .i64 r) ∧ Drawn0 w w' := by
  have H : (if (Int.tmod a0 2) = 0 then (some (wrap64 (IntKind.u64.wrap (Int.tdiv a0 2)))) else (some (wrap64 ((wrap64 (-(wrap64 (IntKind.u64.wrap (Int.tdiv a0 2))))) - 1)))) = some r := h
  clear h
  by_cases c2 : (Int.tmod a0 2) = 0
  · rw [if_pos c2] at H
    have c2b0 : ((Int.tmod a0 2) == 0) = true := beq_iff_eq.mpr c2
    have c2b1 : ((Int.tmod a0 2) != 0) = false := bne_eq_false_iff_eq.mpr c2
    clear c2
    obtain rfl := Option.some.inj H
    go_enter Try.func19, Try.ntmps19
    go_wp2
    all_goals go_ret
    all_goals exact ⟨by first | rfl | (simp; done) | (simp [*]; done), by repeat (first | exact Drawn0.refl _ | apply Drawn0.step)⟩
  · rw [if_neg c2] at H
    have c2b0 : ((Int.tmod a0 2) == 0) = false := beq_eq_false_iff_ne.mpr c2
    have c2b1 : ((Int.tmod a0 2) != 0) = true := bne_iff_ne.mpr c2
    obtain rfl := Option.some.inj H
    go_enter Try.func19, Try.ntmps19
    go_wp2
    all_goals go_ret
    all_goals exact ⟨by first | rfl | (simp; done) | (simp [*]; done), by repeat (first | exact Drawn0.refl _ | apply Drawn0.step)⟩

/-! ### moultlaw3_VarintFolds: function 7 -/
mutual
def moultlaw3_VarintFolds.j0 : Nat → Int → Int → Bool → Option (Bool)
  | 0, _, _, _ => none
  | k + 1, x0, x2, x36 => if x36 = true then (some false) else (if x0 < 0 then (moultlaw3_VarintFolds.j1 k x0 x2 true) else (moultlaw3_VarintFolds.j1 k x0 x2 (decide (x2 < 0))))
def moultlaw3_VarintFolds.j1 : Nat → Int → Int → Bool → Option (Bool)
  | 0, _, _, _ => none
  | k + 1, x0, x2, x42 => if x42 = true then (some true) else ((varint_Fold.f x0).bind fun t203 => ((varint_Fold.f x2).bind fun t204 => (if ((decide (t203 < t204)) == (decide (x0 < x2))) = true then ((varint_Fold.f (wrap64 (-x0))).bind fun t205 => ((varint_Fold.f x0).bind fun t206 => (some (decide (t205 ≤ t206))))) else (some false))))
end
def moultlaw3_VarintFolds.f (k : Nat) (a0 : Int) (a1 : Int) (a2 : Int) : Option (Bool) := (moultlaw3_shown.f k).bind fun t194 => (if t194 = true then ((varint_Fold.f a0).bind fun t195 => ((varint_Unfold.f t195).bind fun t196 => (if t196 = a0 then ((varint_Unfold.f a1).bind fun t197 => ((varint_Fold.f t197).bind fun t198 => (if t198 = a1 then ((varint_Fold.f a0).bind fun t199 => ((moultref3_Fold.f a0).bind fun t200 => (if t199 = t200 then ((varint_Unfold.f a1).bind fun t201 => ((moultref3_Unfold.f a1).bind fun t202 => (moultlaw3_VarintFolds.j0 k a0 a2 (t201 != t202)))) else (moultlaw3_VarintFolds.j0 k a0 a2 true)))) else (moultlaw3_VarintFolds.j0 k a0 a2 true)))) else (moultlaw3_VarintFolds.j0 k a0 a2 true)))) else (some false))
theorem moultlaw3_VarintFolds.mono_l : ∀ k, (∀ y0 y1 y2, LeO (moultlaw3_VarintFolds.j0 k y0 y1 y2) (moultlaw3_VarintFolds.j0 (k + 1) y0 y1 y2)) ∧ (∀ y0 y1 y2, LeO (moultlaw3_VarintFolds.j1 k y0 y1 y2) (moultlaw3_VarintFolds.j1 (k + 1) y0 y1 y2))
  | 0 => ⟨fun _ _ _ r h => by simp [moultlaw3_VarintFolds.j0] at h, fun _ _ _ r h => by simp [moultlaw3_VarintFolds.j1] at h⟩
  | k + 1 => by
    obtain ⟨ih0, ih1⟩ := moultlaw3_VarintFolds.mono_l k
    refine ⟨?_, ?_⟩
    · intro y0 y1 y2
      unfold moultlaw3_VarintFolds.j0
      repeat' first
      | (with_reducible exact ih0 _ _ _)
      | (with_reducible exact ih1 _ _ _)
      | (with_reducible exact moultlaw3_shown.mono _)
      | (with_reducible exact LeO.refl _)
      | (with_reducible exact LeO.none _)
      | (with_reducible refine LeO.ite ?_ ?_)
      | (with_reducible refine LeO.bind ?_ (fun _ => ?_))
      | exact ih0 _ _ _
      | exact ih1 _ _ _
      | exact moultlaw3_shown.mono _
      | exact LeO.none _
      | refine LeO.ite ?_ ?_
      | refine LeO.bind ?_ (fun _ => ?_)
    · intro y0 y1 y2
      unfold moultlaw3_VarintFolds.j1
      repeat' first
      | (with_reducible exact ih0 _ _ _)
      | (with_reducible exact ih1 _ _ _)
      | (with_reducible exact moultlaw3_shown.mono _)
      | (with_reducible exact LeO.refl _)
      | (with_reducible exact LeO.none _)
      | (with_reducible refine LeO.ite ?_ ?_)
      | (with_reducible refine LeO.bind ?_ (fun _ => ?_))
      | exact ih0 _ _ _
      | exact ih1 _ _ _
      | exact moultlaw3_shown.mono _
      | exact LeO.none _
      | refine LeO.ite ?_ ?_
      | refine LeO.bind ?_ (fun _ => ?_)
theorem moultlaw3_VarintFolds.mono : ∀ a0 a1 a2 k, LeO (moultlaw3_VarintFolds.f k a0 a1 a2) (moultlaw3_VarintFolds.f (k + 1) a0 a1 a2) := by
  intro a0 a1 a2 k
  obtain ⟨ih0, ih1⟩ := moultlaw3_VarintFolds.mono_l k
  unfold moultlaw3_VarintFolds.f
  repeat' first
      | (with_reducible exact ih0 _ _ _)
      | (with_reducible exact ih1 _ _ _)
      | (with_reducible exact moultlaw3_shown.mono _)
      | (with_reducible exact LeO.refl _)
      | (with_reducible exact LeO.none _)
      | (with_reducible refine LeO.ite ?_ ?_)
      | (with_reducible refine LeO.bind ?_ (fun _ => ?_))
      | exact ih0 _ _ _
      | exact ih1 _ _ _
      | exact moultlaw3_shown.mono _
      | exact LeO.none _
      | refine LeO.ite ?_ ?_
      | refine LeO.bind ?_ (fun _ => ?_)
set_option maxHeartbeats 8000000 in
set_option maxRecDepth 100000 in
theorem moultlaw3_VarintFolds.calls (k : Nat) (a0 : Int) (a1 : Int) (a2 : Int) (r : Bool) (w : World) (h : moultlaw3_VarintFolds.f k a0 a1 a2 = some r) :
    Calls Try.prog 7 #[.int .i64 a0, .int .u64 a1, .int .i64 a2] w fun e w' => e = .returned (.bool r) ∧ Below w.heap.size w w' := by
  have HB := Aside0.mk (Below.refl w.heap.size w)
  have H : ((moultlaw3_shown.f k).bind fun t194 => (if t194 = true then ((varint_Fold.f a0).bind fun t195 => ((varint_Unfold.f t195).bind fun t196 => (if t196 = a0 then ((varint_Unfold.f a1).bind fun t197 => ((varint_Fold.f t197).bind fun t198 => (if t198 = a1 then ((varint_Fold.f a0).bind fun t199 => ((moultref3_Fold.f a0).bind fun t200 => (if t199 = t200 then ((varint_Unfold.f a1).bind fun t201 => ((moultref3_Unfold.f a1).bind fun t202 => (moultlaw3_VarintFolds.j0 k a0 a2 (t201 != t202)))) else (moultlaw3_VarintFolds.j0 k a0 a2 true)))) else (moultlaw3_VarintFolds.j0 k a0 a2 true)))) else (moultlaw3_VarintFolds.j0 k a0 a2 true)))) else (some false))) = some r := h
  clear h
  replace H := Option.bind_eq_some_iff.mp H
  obtain ⟨t194, A40, H⟩ := H
  replace H : (if t194 = true then ((varint_Fold.f a0).bind fun t195 => ((varint_Unfold.f t195).bind fun t196 => (if t196 = a0 then ((varint_Unfold.f a1).bind fun t197 => ((varint_Fold.f t197).bind fun t198 => (if t198 = a1 then ((varint_Fold.f a0).bind fun t199 => ((moultref3_Fold.f a0).bind fun t200 => (if t199 = t200 then ((varint_Unfold.f a1).bind fun t201 => ((moultref3_Unfold.f a1).bind fun t202 => (moultlaw3_VarintFolds.j0 k a0 a2 (t201 != t202)))) else (moultlaw3_VarintFolds.j0 k a0 a2 true)))) else (moultlaw3_VarintFolds.j0 k a0 a2 true)))) else (moultlaw3_VarintFolds.j0 k a0 a2 true)))) else (some false)) = some r := H
  have A4 := Aside0.mk A40
  clear A40
  by_cases c5 : t194 = true
  · subst c5
    have H1 : ((varint_Fold.f a0).bind fun t195 => ((varint_Unfold.f t195).bind fun t196 => (if t196 = a0 then ((varint_Unfold.f a1).bind fun t197 => ((varint_Fold.f t197).bind fun t198 => (if t198 = a1 then ((varint_Fold.f a0).bind fun t199 => ((moultref3_Fold.f a0).bind fun t200 => (if t199 = t200 then ((varint_Unfold.f a1).bind fun t201 => ((moultref3_Unfold.f a1).bind fun t202 => (moultlaw3_VarintFolds.j0 k a0 a2 (t201 != t202)))) else (moultlaw3_VarintFolds.j0 k a0 a2 true)))) else (moultlaw3_VarintFolds.j0 k a0 a2 true)))) else (moultlaw3_VarintFolds.j0 k a0 a2 true)))) = some r := by rw [if_pos rfl] at H; exact H
    clear H
    have H := H1
    clear H1
    have HC6 := Aside0.mk H
    clear H
    go_enter Try.func7, Try.ntmps7
    go_upto_region 4 with (first | ((with_reducible refine gate_callee (f := 9) rfl ?_); refine goesL_ (some 8) rfl rfl Try.func9 (by kernel_rfl) rfl #[] rfl (by (try simp only [List.map_toArray, List.map_cons, List.map_nil]); first | done | rfl | (simp only [List.length_drop, List.length_take]; rfl)) ?_; (with_reducible refine (moultlaw3_shown.calls k  true _ A4.out).mono ?_); rintro e w7 ⟨rfl, hb⟩; refine ⟨_, rfl, ?_⟩; have n0_ := Aside0.mk (below_step (by repeat (first | (with_reducible first | exact HB.out | apply below_alloc | apply pw_below_drewN | apply below_drew1) | exact HB.out)) hb); clear HB; have HB := n0_; clear n0_; (try clear hb); (try clear hb2); (try clear hk); (try clear hi)))
    (try simp only [Act.put, List.setIfInBounds_toArray, List.set_cons_zero, List.set_cons_succ])
    go_cut [36] (fun v36 wc => ∃ (kq : Nat) (x36_5 : Bool), v36 = .bool x36_5 ∧ Aside0 (moultlaw3_VarintFolds.j0 kq a0 a2 x36_5 = some r) ∧ Aside0 (kq ≤ k) ∧ Aside0 (Below w.heap.size w wc))
    case first =>
      have H := HC6.out
      clear HC6
      replace H := Option.bind_eq_some_iff.mp H
      obtain ⟨t195, A80, H⟩ := H
      replace H : ((varint_Unfold.f t195).bind fun t196 => (if t196 = a0 then ((varint_Unfold.f a1).bind fun t197 => ((varint_Fold.f t197).bind fun t198 => (if t198 = a1 then ((varint_Fold.f a0).bind fun t199 => ((moultref3_Fold.f a0).bind fun t200 => (if t199 = t200 then ((varint_Unfold.f a1).bind fun t201 => ((moultref3_Unfold.f a1).bind fun t202 => (moultlaw3_VarintFolds.j0 k a0 a2 (t201 != t202)))) else (moultlaw3_VarintFolds.j0 k a0 a2 true)))) else (moultlaw3_VarintFolds.j0 k a0 a2 true)))) else (moultlaw3_VarintFolds.j0 k a0 a2 true))) = some r := H
      have A8 := Aside0.mk A80
      clear A80
      replace H := Option.bind_eq_some_iff.mp H
      obtain ⟨t196, A90, H⟩ := H
      replace H : (if t196 = a0 then ((varint_Unfold.f a1).bind fun t197 => ((varint_Fold.f t197).bind fun t198 => (if t198 = a1 then ((varint_Fold.f a0).bind fun t199 => ((moultref3_Fold.f a0).bind fun t200 => (if t199 = t200 then ((varint_Unfold.f a1).bind fun t201 => ((moultref3_Unfold.f a1).bind fun t202 => (moultlaw3_VarintFolds.j0 k a0 a2 (t201 != t202)))) else (moultlaw3_VarintFolds.j0 k a0 a2 true)))) else (moultlaw3_VarintFolds.j0 k a0 a2 true)))) else (moultlaw3_VarintFolds.j0 k a0 a2 true)) = some r := H
      have A9 := Aside0.mk A90
      clear A90
      by_cases c10 : t196 = a0
      · rw [if_pos c10] at H
        have c10b0 : (t196 == a0) = true := beq_iff_eq.mpr c10
        have c10b1 : (t196 != a0) = false := bne_eq_false_iff_eq.mpr c10
        clear c10
        (first | rw [c10b0] | (simp only [i64_w, i32_w]; rw [c10b0]) | skip)
        replace H := Option.bind_eq_some_iff.mp H
        obtain ⟨t197, A110, H⟩ := H
        replace H : ((varint_Fold.f t197).bind fun t198 => (if t198 = a1 then ((varint_Fold.f a0).bind fun t199 => ((moultref3_Fold.f a0).bind fun t200 => (if t199 = t200 then ((varint_Unfold.f a1).bind fun t201 => ((moultref3_Unfold.f a1).bind fun t202 => (moultlaw3_VarintFolds.j0 k a0 a2 (t201 != t202)))) else (moultlaw3_VarintFolds.j0 k a0 a2 true)))) else (moultlaw3_VarintFolds.j0 k a0 a2 true))) = some r := H
        have A11 := Aside0.mk A110
        clear A110
        replace H := Option.bind_eq_some_iff.mp H
        obtain ⟨t198, A120, H⟩ := H
        replace H : (if t198 = a1 then ((varint_Fold.f a0).bind fun t199 => ((moultref3_Fold.f a0).bind fun t200 => (if t199 = t200 then ((varint_Unfold.f a1).bind fun t201 => ((moultref3_Unfold.f a1).bind fun t202 => (moultlaw3_VarintFolds.j0 k a0 a2 (t201 != t202)))) else (moultlaw3_VarintFolds.j0 k a0 a2 true)))) else (moultlaw3_VarintFolds.j0 k a0 a2 true)) = some r := H
        have A12 := Aside0.mk A120
        clear A120
        by_cases c13 : t198 = a1
        · rw [if_pos c13] at H
          have c13b0 : (t198 == a1) = true := beq_iff_eq.mpr c13
          have c13b1 : (t198 != a1) = false := bne_eq_false_iff_eq.mpr c13
          clear c13
          replace H := Option.bind_eq_some_iff.mp H
          obtain ⟨t199, A140, H⟩ := H
          replace H : ((moultref3_Fold.f a0).bind fun t200 => (if t199 = t200 then ((varint_Unfold.f a1).bind fun t201 => ((moultref3_Unfold.f a1).bind fun t202 => (moultlaw3_VarintFolds.j0 k a0 a2 (t201 != t202)))) else (moultlaw3_VarintFolds.j0 k a0 a2 true))) = some r := H
          have A14 := Aside0.mk A140
          clear A140
          replace H := Option.bind_eq_some_iff.mp H
          obtain ⟨t200, A150, H⟩ := H
          replace H : (if t199 = t200 then ((varint_Unfold.f a1).bind fun t201 => ((moultref3_Unfold.f a1).bind fun t202 => (moultlaw3_VarintFolds.j0 k a0 a2 (t201 != t202)))) else (moultlaw3_VarintFolds.j0 k a0 a2 true)) = some r := H
          have A15 := Aside0.mk A150
          clear A150
          by_cases c16 : t199 = t200
          · rw [if_pos c16] at H
            have c16b0 : (t199 == t200) = true := beq_iff_eq.mpr c16
            have c16b1 : (t199 != t200) = false := bne_eq_false_iff_eq.mpr c16
            clear c16
            replace H := Option.bind_eq_some_iff.mp H
            obtain ⟨t201, A170, H⟩ := H
            replace H : ((moultref3_Unfold.f a1).bind fun t202 => (moultlaw3_VarintFolds.j0 k a0 a2 (t201 != t202))) = some r := H
            have A17 := Aside0.mk A170
            clear A170
            replace H := Option.bind_eq_some_iff.mp H
            obtain ⟨t202, A180, H⟩ := H
            replace H : (moultlaw3_VarintFolds.j0 k a0 a2 (t201 != t202)) = some r := H
            have A18 := Aside0.mk A180
            clear A180
            have H' := Aside0.mk H
            clear H
            go_wp2_with (first | ((with_reducible refine gate_callee (f := 17) rfl ?_); refine goesL_ (some 12) rfl rfl Try.func17 (by kernel_rfl) rfl #[.int .i64 a0] rfl (by (try simp only [List.map_toArray, List.map_cons, List.map_nil]); first | done | rfl | (simp only [List.length_drop, List.length_take]; rfl)) ?_; (with_reducible refine (varint_Fold.calls a0 t195 _ A8.out).mono ?_); rintro e w' ⟨rfl, ⟨nd, rfl⟩⟩; refine ⟨_, rfl, ?_⟩) | ((with_reducible refine gate_callee (f := 16) rfl ?_); refine goesL_ (some 13) rfl rfl Try.func16 (by kernel_rfl) rfl #[.int .u64 t195] rfl (by (try simp only [List.map_toArray, List.map_cons, List.map_nil]); first | done | rfl | (simp only [List.length_drop, List.length_take]; rfl)) ?_; (with_reducible refine (varint_Unfold.calls t195 t196 _ A9.out).mono ?_); rintro e w' ⟨rfl, ⟨nd, rfl⟩⟩; refine ⟨_, rfl, ?_⟩) | (go_at_call 16; (with_reducible refine (varint_Unfold.calls a1 t197 _ A11.out).mono ?_); rintro e w' ⟨rfl, ⟨nd, rfl⟩⟩) | (go_at_call 17; (with_reducible refine (varint_Fold.calls t197 t198 _ A12.out).mono ?_); rintro e w' ⟨rfl, ⟨nd, rfl⟩⟩) | (go_at_call 17; (with_reducible refine (varint_Fold.calls a0 t199 _ A14.out).mono ?_); rintro e w' ⟨rfl, ⟨nd, rfl⟩⟩) | (go_at_call 18; (with_reducible refine (moultref3_Fold.calls a0 t200 _ A15.out).mono ?_); rintro e w' ⟨rfl, ⟨nd, rfl⟩⟩) | (go_at_call 16; (with_reducible refine (varint_Unfold.calls a1 t201 _ A17.out).mono ?_); rintro e w' ⟨rfl, ⟨nd, rfl⟩⟩) | (go_at_call 19; (with_reducible refine (moultref3_Unfold.calls a1 t202 _ A18.out).mono ?_); rintro e w' ⟨rfl, ⟨nd, rfl⟩⟩))
            go_meet
            case rel => exact ⟨_, ((t201 != t202)), (by first | rfl | (rw [Option.some.inj (A11.out.symm.trans A17.out)]; done) | (simp; done) | (simp [*]; done)), H', ⟨by first | omega | exact Nat.le_refl _⟩, ⟨by repeat (first | (with_reducible first | exact HB.out | apply below_alloc | apply pw_below_drewN | apply below_drew1) | exact HB.out)⟩⟩
          · rw [if_neg c16] at H
            have c16b0 : (t199 == t200) = false := beq_eq_false_iff_ne.mpr c16
            have c16b1 : (t199 != t200) = true := bne_iff_ne.mpr c16
            have H' := Aside0.mk H
            clear H
            go_wp2_with (first | ((with_reducible refine gate_callee (f := 17) rfl ?_); refine goesL_ (some 12) rfl rfl Try.func17 (by kernel_rfl) rfl #[.int .i64 a0] rfl (by (try simp only [List.map_toArray, List.map_cons, List.map_nil]); first | done | rfl | (simp only [List.length_drop, List.length_take]; rfl)) ?_; (with_reducible refine (varint_Fold.calls a0 t195 _ A8.out).mono ?_); rintro e w' ⟨rfl, ⟨nd, rfl⟩⟩; refine ⟨_, rfl, ?_⟩) | ((with_reducible refine gate_callee (f := 16) rfl ?_); refine goesL_ (some 13) rfl rfl Try.func16 (by kernel_rfl) rfl #[.int .u64 t195] rfl (by (try simp only [List.map_toArray, List.map_cons, List.map_nil]); first | done | rfl | (simp only [List.length_drop, List.length_take]; rfl)) ?_; (with_reducible refine (varint_Unfold.calls t195 t196 _ A9.out).mono ?_); rintro e w' ⟨rfl, ⟨nd, rfl⟩⟩; refine ⟨_, rfl, ?_⟩) | (go_at_call 16; (with_reducible refine (varint_Unfold.calls a1 t197 _ A11.out).mono ?_); rintro e w' ⟨rfl, ⟨nd, rfl⟩⟩) | (go_at_call 17; (with_reducible refine (varint_Fold.calls t197 t198 _ A12.out).mono ?_); rintro e w' ⟨rfl, ⟨nd, rfl⟩⟩) | (go_at_call 17; (with_reducible refine (varint_Fold.calls a0 t199 _ A14.out).mono ?_); rintro e w' ⟨rfl, ⟨nd, rfl⟩⟩) | (go_at_call 18; (with_reducible refine (moultref3_Fold.calls a0 t200 _ A15.out).mono ?_); rintro e w' ⟨rfl, ⟨nd, rfl⟩⟩))
            go_meet
            case rel => exact ⟨_, (true), (by first | rfl | (simp; done) | (simp [*]; done)), H', ⟨by first | omega | exact Nat.le_refl _⟩, ⟨by repeat (first | (with_reducible first | exact HB.out | apply below_alloc | apply pw_below_drewN | apply below_drew1) | exact HB.out)⟩⟩
        · rw [if_neg c13] at H
          have c13b0 : (t198 == a1) = false := beq_eq_false_iff_ne.mpr c13
          have c13b1 : (t198 != a1) = true := bne_iff_ne.mpr c13
          have H' := Aside0.mk H
          clear H
          go_wp2_with (first | ((with_reducible refine gate_callee (f := 17) rfl ?_); refine goesL_ (some 12) rfl rfl Try.func17 (by kernel_rfl) rfl #[.int .i64 a0] rfl (by (try simp only [List.map_toArray, List.map_cons, List.map_nil]); first | done | rfl | (simp only [List.length_drop, List.length_take]; rfl)) ?_; (with_reducible refine (varint_Fold.calls a0 t195 _ A8.out).mono ?_); rintro e w' ⟨rfl, ⟨nd, rfl⟩⟩; refine ⟨_, rfl, ?_⟩) | ((with_reducible refine gate_callee (f := 16) rfl ?_); refine goesL_ (some 13) rfl rfl Try.func16 (by kernel_rfl) rfl #[.int .u64 t195] rfl (by (try simp only [List.map_toArray, List.map_cons, List.map_nil]); first | done | rfl | (simp only [List.length_drop, List.length_take]; rfl)) ?_; (with_reducible refine (varint_Unfold.calls t195 t196 _ A9.out).mono ?_); rintro e w' ⟨rfl, ⟨nd, rfl⟩⟩; refine ⟨_, rfl, ?_⟩) | (go_at_call 16; (with_reducible refine (varint_Unfold.calls a1 t197 _ A11.out).mono ?_); rintro e w' ⟨rfl, ⟨nd, rfl⟩⟩) | (go_at_call 17; (with_reducible refine (varint_Fold.calls t197 t198 _ A12.out).mono ?_); rintro e w' ⟨rfl, ⟨nd, rfl⟩⟩))
          go_meet
          case rel => exact ⟨_, (true), (by first | rfl | (simp; done) | (simp [*]; done)), H', ⟨by first | omega | exact Nat.le_refl _⟩, ⟨by repeat (first | (with_reducible first | exact HB.out | apply below_alloc | apply pw_below_drewN | apply below_drew1) | exact HB.out)⟩⟩
      · rw [if_neg c10] at H
        have c10b0 : (t196 == a0) = false := beq_eq_false_iff_ne.mpr c10
        have c10b1 : (t196 != a0) = true := bne_iff_ne.mpr c10
        (first | rw [c10b0] | (simp only [i64_w, i32_w]; rw [c10b0]) | skip)
        have H' := Aside0.mk H
        clear H
        go_wp2_with (first | ((with_reducible refine gate_callee (f := 17) rfl ?_); refine goesL_ (some 12) rfl rfl Try.func17 (by kernel_rfl) rfl #[.int .i64 a0] rfl (by (try simp only [List.map_toArray, List.map_cons, List.map_nil]); first | done | rfl | (simp only [List.length_drop, List.length_take]; rfl)) ?_; (with_reducible refine (varint_Fold.calls a0 t195 _ A8.out).mono ?_); rintro e w' ⟨rfl, ⟨nd, rfl⟩⟩; refine ⟨_, rfl, ?_⟩) | ((with_reducible refine gate_callee (f := 16) rfl ?_); refine goesL_ (some 13) rfl rfl Try.func16 (by kernel_rfl) rfl #[.int .u64 t195] rfl (by (try simp only [List.map_toArray, List.map_cons, List.map_nil]); first | done | rfl | (simp only [List.length_drop, List.length_take]; rfl)) ?_; (with_reducible refine (varint_Unfold.calls t195 t196 _ A9.out).mono ?_); rintro e w' ⟨rfl, ⟨nd, rfl⟩⟩; refine ⟨_, rfl, ?_⟩))
        go_meet
        case rel => exact ⟨_, (true), (by first | rfl | (simp; done) | (simp [*]; done)), H', ⟨by first | omega | exact Nat.le_refl _⟩, ⟨by repeat (first | (with_reducible first | exact HB.out | apply below_alloc | apply pw_below_drewN | apply below_drew1) | exact HB.out)⟩⟩
    case rest =>
      clear HC6
      try clear c1
      try clear p2
      try clear c5
      try clear c7
      try clear c9
      try clear c10
      try clear c10b0
      try clear c10b1
      try clear c13
      try clear c13b0
      try clear c13b1
      try clear c16
      try clear c16b0
      try clear c16b1
      try clear c17
      obtain ⟨kq, x36_5, rfl, HA, HJ5, HB⟩ := hcut
      cases kq with
      | zero => exact absurd HA.out (by simp [moultlaw3_VarintFolds.j0])
      | succ kj5 =>
        have H := HA.out
        clear HA
        simp only [moultlaw3_VarintFolds.j0] at H
        by_cases c19 : x36_5 = true
        · subst c19
          have H1 : (some false) = some r := by rw [if_pos rfl] at H; exact H
          clear H
          have H := H1
          clear H1
          obtain rfl := Option.some.inj H
          go_wp2
          all_goals go_ret
          all_goals exact ⟨by first | rfl | (simp [errW_none, errW_some] <;> rfl) | (simp [*, errW_none, errW_some] <;> rfl), by repeat (first | (with_reducible first | exact HB.out | apply below_alloc | apply pw_below_drewN | apply below_drew1) | exact HB.out)⟩
        · replace c19 := Bool.eq_false_iff.mpr c19
          subst c19
          have H1 : (if a0 < 0 then (moultlaw3_VarintFolds.j1 kj5 a0 a2 true) else (moultlaw3_VarintFolds.j1 kj5 a0 a2 (decide (a2 < 0)))) = some r := by rw [if_neg (show ¬ (false = true) by decide)] at H; exact H
          clear H
          have H := H1
          clear H1
          have HC20 := Aside0.mk H
          clear H
          go_upto_region 6 with (fail)
          go_cut [42] (fun v42 wc => ∃ (kq : Nat) (x42_19 : Bool), v42 = .bool x42_19 ∧ Aside0 (moultlaw3_VarintFolds.j1 kq a0 a2 x42_19 = some r) ∧ Aside0 (kq ≤ kj5) ∧ Aside0 (Below w.heap.size w wc))
          case first =>
            have H := HC20.out
            clear HC20
            by_cases c21 : a0 < 0
            · rw [if_pos c21] at H
              have c21b0 : decide (a0 < 0) = true := decide_eq_true c21
              clear c21
              (first | rw [c21b0] | (simp only [i64_w, i32_w]; rw [c21b0]) | skip)
              have H' := Aside0.mk H
              clear H
              go_wp2
              go_meet
              case rel => exact ⟨_, (true), (by first | rfl | (simp; done) | (simp [*]; done)), H', ⟨by have := HJ5.out; first | omega | exact Nat.le_refl _⟩, ⟨by repeat (first | (with_reducible first | exact HB.out | apply below_alloc | apply pw_below_drewN | apply below_drew1) | exact HB.out)⟩⟩
            · rw [if_neg c21] at H
              have c21b0 : decide (a0 < 0) = false := decide_eq_false c21
              clear c21
              (first | rw [c21b0] | (simp only [i64_w, i32_w]; rw [c21b0]) | skip)
              have H' := Aside0.mk H
              clear H
              go_wp2
              go_meet
              case rel => exact ⟨_, (decide (a2 < 0)), (by first | rfl | (simp; done) | (simp [*]; done)), H', ⟨by have := HJ5.out; first | omega | exact Nat.le_refl _⟩, ⟨by repeat (first | (with_reducible first | exact HB.out | apply below_alloc | apply pw_below_drewN | apply below_drew1) | exact HB.out)⟩⟩
          case rest =>
            clear HC20
            try clear c1
            try clear c2
            try clear p2
            try clear c5
            try clear c7
            try clear c9
            try clear c10
            try clear c10b0
            try clear c10b1
            try clear c13
            try clear c13b0
            try clear c13b1
            try clear c16
            try clear c16b0
            try clear c16b1
            try clear c17
            try clear c19
            try clear c21
            try clear c21b0
            try clear p2
            obtain ⟨kq, x42_19, rfl, HA, HJ19, HB⟩ := hcut
            cases kq with
            | zero => exact absurd HA.out (by simp [moultlaw3_VarintFolds.j1])
            | succ kj19 =>
              have H := HA.out
              clear HA
              simp only [moultlaw3_VarintFolds.j1] at H
              by_cases c22 : x42_19 = true
              · subst c22
                have H1 : (some true) = some r := by rw [if_pos rfl] at H; exact H
                clear H
                have H := H1
                clear H1
                obtain rfl := Option.some.inj H
                go_wp2
                all_goals go_ret
                all_goals exact ⟨by first | rfl | (simp [errW_none, errW_some] <;> rfl) | (simp [*, errW_none, errW_some] <;> rfl), by repeat (first | (with_reducible first | exact HB.out | apply below_alloc | apply pw_below_drewN | apply below_drew1) | exact HB.out)⟩
              · replace c22 := Bool.eq_false_iff.mpr c22
                subst c22
                have H1 : ((varint_Fold.f a0).bind fun t203 => ((varint_Fold.f a2).bind fun t204 => (if ((decide (t203 < t204)) == (decide (a0 < a2))) = true then ((varint_Fold.f (wrap64 (-a0))).bind fun t205 => ((varint_Fold.f a0).bind fun t206 => (some (decide (t205 ≤ t206))))) else (some false)))) = some r := by rw [if_neg (show ¬ (false = true) by decide)] at H; exact H
                clear H
                have H := H1
                clear H1
                replace H := Option.bind_eq_some_iff.mp H
                obtain ⟨t203, A230, H⟩ := H
                replace H : ((varint_Fold.f a2).bind fun t204 => (if ((decide (t203 < t204)) == (decide (a0 < a2))) = true then ((varint_Fold.f (wrap64 (-a0))).bind fun t205 => ((varint_Fold.f a0).bind fun t206 => (some (decide (t205 ≤ t206))))) else (some false))) = some r := H
                have A23 := Aside0.mk A230
                clear A230
                replace H := Option.bind_eq_some_iff.mp H
                obtain ⟨t204, A240, H⟩ := H
                replace H : (if ((decide (t203 < t204)) == (decide (a0 < a2))) = true then ((varint_Fold.f (wrap64 (-a0))).bind fun t205 => ((varint_Fold.f a0).bind fun t206 => (some (decide (t205 ≤ t206))))) else (some false)) = some r := H
                have A24 := Aside0.mk A240
                clear A240
                by_cases c25 : ((decide (t203 < t204)) == (decide (a0 < a2))) = true
                · rw [if_pos c25] at H
                  have c25b0 : ((decide (t203 < t204)) == (decide (a0 < a2))) = true := c25
                  (try (have c25b1 : decide ((decide (t203 < t204)) = (decide (a0 < a2))) = true := by simpa using c25))
                  (try (have c25b2 : ((decide (t203 < t204)) == (decide (a0 < a2))) = true := by simpa using c25))
                  clear c25
                  replace H := Option.bind_eq_some_iff.mp H
                  obtain ⟨t205, A260, H⟩ := H
                  replace H : ((varint_Fold.f a0).bind fun t206 => (some (decide (t205 ≤ t206)))) = some r := H
                  have A26 := Aside0.mk A260
                  clear A260
                  replace H := Option.bind_eq_some_iff.mp H
                  obtain ⟨t206, A270, H⟩ := H
                  replace H : (some (decide (t205 ≤ t206))) = some r := H
                  have A27 := Aside0.mk A270
                  clear A270
                  obtain rfl := Option.some.inj H
                  go_wp2_with (first | ((with_reducible refine gate_callee (f := 17) rfl ?_); refine goesL_ (some 44) rfl rfl Try.func17 (by kernel_rfl) rfl #[.int .i64 a0] rfl (by (try simp only [List.map_toArray, List.map_cons, List.map_nil]); first | done | rfl | (simp only [List.length_drop, List.length_take]; rfl)) ?_; (with_reducible refine (varint_Fold.calls a0 t203 _ A23.out).mono ?_); rintro e w' ⟨rfl, ⟨nd, rfl⟩⟩; refine ⟨_, rfl, ?_⟩) | ((with_reducible refine gate_callee (f := 17) rfl ?_); refine goesL_ (some 46) rfl rfl Try.func17 (by kernel_rfl) rfl #[.int .i64 a2] rfl (by (try simp only [List.map_toArray, List.map_cons, List.map_nil]); first | done | rfl | (simp only [List.length_drop, List.length_take]; rfl)) ?_; (with_reducible refine (varint_Fold.calls a2 t204 _ A24.out).mono ?_); rintro e w' ⟨rfl, ⟨nd, rfl⟩⟩; refine ⟨_, rfl, ?_⟩) | (go_at_call 17; (with_reducible refine (varint_Fold.calls (wrap64 (-a0)) t205 _ A26.out).mono ?_); rintro e w' ⟨rfl, ⟨nd, rfl⟩⟩) | (go_at_call 17; (with_reducible refine (varint_Fold.calls a0 t206 _ A27.out).mono ?_); rintro e w' ⟨rfl, ⟨nd, rfl⟩⟩))
                  all_goals go_ret
                  all_goals exact ⟨by first | rfl | (simp [errW_none, errW_some] <;> rfl) | (simp [*, errW_none, errW_some] <;> rfl), by repeat (first | (with_reducible first | exact HB.out | apply below_alloc | apply pw_below_drewN | apply below_drew1) | exact HB.out)⟩
                · rw [if_neg c25] at H
                  have c25b0 : ((decide (t203 < t204)) == (decide (a0 < a2))) = false := by simpa using c25
                  (try (have c25b1 : decide ((decide (t203 < t204)) = (decide (a0 < a2))) = false := by simpa using c25))
                  (try (have c25b2 : ((decide (t203 < t204)) == (decide (a0 < a2))) = false := by simpa using c25))
                  (try (have c25b3 : ¬ ((decide (t203 < t204)) = (decide (a0 < a2))) := by simpa using c25))
                  clear c25
                  obtain rfl := Option.some.inj H
                  go_wp2_with (first | ((with_reducible refine gate_callee (f := 17) rfl ?_); refine goesL_ (some 44) rfl rfl Try.func17 (by kernel_rfl) rfl #[.int .i64 a0] rfl (by (try simp only [List.map_toArray, List.map_cons, List.map_nil]); first | done | rfl | (simp only [List.length_drop, List.length_take]; rfl)) ?_; (with_reducible refine (varint_Fold.calls a0 t203 _ A23.out).mono ?_); rintro e w' ⟨rfl, ⟨nd, rfl⟩⟩; refine ⟨_, rfl, ?_⟩) | ((with_reducible refine gate_callee (f := 17) rfl ?_); refine goesL_ (some 46) rfl rfl Try.func17 (by kernel_rfl) rfl #[.int .i64 a2] rfl (by (try simp only [List.map_toArray, List.map_cons, List.map_nil]); first | done | rfl | (simp only [List.length_drop, List.length_take]; rfl)) ?_; (with_reducible refine (varint_Fold.calls a2 t204 _ A24.out).mono ?_); rintro e w' ⟨rfl, ⟨nd, rfl⟩⟩; refine ⟨_, rfl, ?_⟩))
                  all_goals go_ret
                  all_goals exact ⟨by first | rfl | (simp [errW_none, errW_some] <;> rfl) | (simp [*, errW_none, errW_some] <;> rfl), by repeat (first | (with_reducible first | exact HB.out | apply below_alloc | apply pw_below_drewN | apply below_drew1) | exact HB.out)⟩
  · replace c5 := Bool.eq_false_iff.mpr c5
    subst c5
    have H1 : (some false) = some r := by rw [if_neg (show ¬ (false = true) by decide)] at H; exact H
    clear H
    have H := H1
    clear H1
    obtain rfl := Option.some.inj H
    go_enter Try.func7, Try.ntmps7
    go_wp2_with (first | ((with_reducible refine gate_callee (f := 9) rfl ?_); refine goesL_ (some 8) rfl rfl Try.func9 (by kernel_rfl) rfl #[] rfl (by (try simp only [List.map_toArray, List.map_cons, List.map_nil]); first | done | rfl | (simp only [List.length_drop, List.length_take]; rfl)) ?_; (with_reducible refine (moultlaw3_shown.calls k  false _ A4.out).mono ?_); rintro e w28 ⟨rfl, hb⟩; refine ⟨_, rfl, ?_⟩; have n0_ := Aside0.mk (below_step (by repeat (first | (with_reducible first | exact HB.out | apply below_alloc | apply pw_below_drewN | apply below_drew1) | exact HB.out)) hb); clear HB; have HB := n0_; clear n0_; (try clear hb); (try clear hb2); (try clear hk); (try clear hi)))
    all_goals go_ret
    all_goals exact ⟨by first | rfl | (simp [errW_none, errW_some] <;> rfl) | (simp [*, errW_none, errW_some] <;> rfl), by repeat (first | (with_reducible first | exact HB.out | apply below_alloc | apply pw_below_drewN | apply below_drew1) | exact HB.out)⟩

/-- THE ONE PURE STATEMENT of moultlaw3_VarintFolds: yours. -/
def moultlaw3_VarintFolds.Pure : Prop := ∀ (a0 : Int) (a1 : Int) (a2 : Int), (Lit.int .i64 a0).wf = true → (Lit.int .u64 a1).wf = true → (Lit.int .i64 a2).wf = true → ∃ k, moultlaw3_VarintFolds.f k a0 a1 a2 = some true
theorem moultlaw3_VarintFolds.walk (P : moultlaw3_VarintFolds.Pure) (a0 : Int) (a1 : Int) (a2 : Int) (w : World) (w0 : (Lit.int .i64 a0).wf = true) (w1 : (Lit.int .u64 a1).wf = true) (w2 : (Lit.int .i64 a2).wf = true) :
    Calls Try.prog 7 #[.int .i64 a0, .int .u64 a1, .int .i64 a2] w fun e w' => e = .returned (.bool true) ∧ Below w.heap.size w w' := by
  obtain ⟨k, h⟩ := P a0 a1 a2 w0 w1 w2
  refine (moultlaw3_VarintFolds.calls k a0 a1 a2 true w h).mono ?_
  rintro e w' ⟨rfl, hd⟩
  exact ⟨rfl, hd⟩

-- NOT PRINTED: function 31 (abi_NoEscape)

-- NOT PRINTED: function 30 (strings_Builder_copyCheck)

-- NOT PRINTED: function 28 (strings_Builder_WriteString)

-- NOT PRINTED: function 29 (strings_Builder_String)

/-! ### varint_Ints: function 20 -/
theorem fold_f (n : Int) (h0 : -9223372036854775808 ≤ n) (h1 : n ≤ 9223372036854775807) : varint_Fold.f n = some (foldP n) := by
  unfold varint_Fold.f foldP
  congr 1
  by_cases h : n ≥ 0
  · rw [if_pos h]
    have e1 : IntKind.u64.wrap (IntKind.u64.wrap n * 2) = 2 * n := by rw [IntKind.wrap_u64, IntKind.wrap_u64]; omega
    have e2 : IntKind.u64.wrap (n / 9223372036854775808) = 0 := by rw [IntKind.wrap_u64]; omega
    rw [e1, e2, u64_xor _ _ (by omega) (by omega) (by decide) (by decide)]
    simp; omega
  · rw [if_neg h]
    have e1 : IntKind.u64.wrap (IntKind.u64.wrap n * 2) = 2 * n + 18446744073709551616 := by rw [IntKind.wrap_u64, IntKind.wrap_u64]; omega
    have e2 : IntKind.u64.wrap (n / 9223372036854775808) = 18446744073709551615 := by rw [IntKind.wrap_u64]; omega
    rw [e1, e2, u64_xor _ _ (by omega) (by omega) (by decide) (by decide)]
    rw [show (18446744073709551615 : Int).toNat = 18446744073709551615 from rfl, xor_ones64 _ (by omega)]
    omega
def intsU (l : List Int) : List UInt8 := l.flatMap fun n => (putP (foldP n)).data.toList
def intsP (l : List Int) : ByteArray := ⟨(intsU l).toArray⟩
theorem intsU_length (l : List Int) : (intsU l).length ≤ 9 * l.length := by
  induction l with
  | nil => simp [intsU]
  | cons n l ih =>
    have := putP_size (foldP n)
    have e : (putP (foldP n)).data.toList.length = (putP (foldP n)).size := data_length _
    simp only [intsU, List.flatMap_cons, List.length_append, List.length_cons] at ih ⊢
    omega
def varint_Ints.f (l0 : List Int) : Option ByteArray := if l0.length ≤ 1000000 ∧ ∀ n ∈ l0, -9223372036854775808 ≤ n ∧ n ≤ 9223372036854775807 then some (intsP l0) else none
set_option maxHeartbeats 1600000 in
theorem varint_Ints.calls (A0 : Option Addr) (c0 : Nat) (l0 : List Int) (r : ByteArray) (w : World) (hr0 : Kd.C (Kd.int .i64) w A0 l0.length l0) (hc0 : l0.length ≤ c0) (h : varint_Ints.f l0 = some r) :
    Calls Try.prog 20 #[.slice A0 l0.length c0] w fun e w' => e = .returned (.string r) ∧ Below w.heap.size w w' := by
  unfold varint_Ints.f at h
  split at h
  case isFalse => simp at h
  case isTrue hlim =>
  obtain ⟨hlen, hsz⟩ := hlim
  have HSZ := Aside0.mk hsz
  obtain rfl := Option.some.inj h
  have HR0 := Aside0.mk hr0
  clear h hsz hr0
  go_enter Try.func20, Try.ntmps20
  go_wp2_with fail
  have hb0 : Lib.IsBuilder 48 5 w.heap.size w.heap.size (Lib.byteCells (intsU (l0.take 0))) (w.alloc (.cells #[.pointer none, .slice none 0 0] 48)) := by
    simpa [intsU, Lib.byteCells] using Lib.fresh_isBuilder 48 5 w
  have HB0 := Aside0.mk hb0
  clear hb0
  go_loopg [8] (l0.length) (fun kq v8 w' => ∃ (m : Nat), v8 = .int .i64 (m : Int) ∧ Aside0 (kq = l0.length - m) ∧ Aside0 (m ≤ l0.length) ∧ Aside0 (Lib.IsBuilder 48 5 w.heap.size w.heap.size (Lib.byteCells (intsU (l0.take m))) w') ∧ Aside0 (Below w.heap.size w w'))
  case atStart => exact ⟨0, rfl, ⟨rfl⟩, ⟨by omega⟩, HB0, ⟨below_alloc (Below.refl _ _) _⟩⟩
  case round =>
    clear HB0
    obtain ⟨m, rfl, HKQ, HM, HF, HB⟩ := hrel
    by_cases c : m < l0.length
    · have c1 : decide ((m : Int) < (l0.length : Int)) = true := by simp; exact c
      have hn0 : 0 ≤ (m : Int) := by omega
      obtain ⟨ad158, e158, hx158_0⟩ := Kd.at_int HR0.out (m : Int) hn0 (by omega)
      cases e158
      simp only [Int.toNat_natCast] at hx158_0
      have hrd : rd l0 (m : Int) = l0[m] := by simp [rd, List.getD_eq_getElem?_getD, c]
      rw [hrd] at hx158_0
      have hcell := pw_cell_below HB.out hx158_0
      have hks := HSZ.out _ (List.getElem_mem c)
      have hnext : intsU (l0.take (m + 1)) = intsU (l0.take m) ++ (putP (foldP l0[m])).data.toList := by
        unfold intsU; rw [List.take_succ_eq_append_getElem c, List.flatMap_append]; simp
      clear hrd hx158_0
      obtain ⟨x, hxe⟩ : ∃ x : Int, l0[m] = x := ⟨_, rfl⟩
      rw [hxe] at hcell hks hnext
      have hfr := foldP_range x hks.1 hks.2
      have HFo := Aside0.mk (fold_f x hks.1 hks.2)
      have HPu := Aside0.mk (put_f (foldP x) hfr.1 hfr.2)
      have hl1 := intsU_length (l0.take m)
      have hl2 : (l0.take m).length ≤ 1000000 := by rw [List.length_take]; omega
      have hps := putP_size (foldP x)
      have HL : Aside0 ((intsU (l0.take m)).length + (putP (foldP x)).size ≤ 140737488355328) := ⟨by omega⟩
      have Hnext := Lib.hid hnext
      clear hxe hnext hl1 hl2 hps hks hfr
      go_wp2_with (first | (go_at_call 17; (with_reducible refine (varint_Fold.calls x (foldP x) _ HFo.out).mono ?_); rintro e w5 ⟨rfl, ⟨n5, rfl⟩⟩; have HF5 := Aside0.mk (Sb.keepN HF.out n5); have HB5 := Aside0.mk (pw_below_drewN HB.out n5); clear HF HB) | (go_at_call 10; (with_reducible refine (varint_Put.calls (foldP x) (putP (foldP x)) _ HPu.out).mono ?_); rintro e w6 ⟨rfl, hb5⟩; have HF6 := Aside0.mk (Sb.keep HF5.out hb5); have HB6 := Aside0.mk (below_then HB5.out HB5.out.size hb5); clear hb5) | (go_at_call 28; (with_reducible refine (Sb.wstr w.heap.size w.heap.size _ _ w _ HF6.out HL.out HB6.out HB6.out.size).mono ?_); rintro e w7 ⟨rfl, hf7, hb7⟩; have HF7 := Aside0.mk hf7; have HB7 := Aside0.mk hb7; clear hf7 hb7))
      go_roundg (l0.length - (m + 1))
      case measure => have := HKQ.out; omega
      case rel => exact ⟨m + 1, by go_num, ⟨rfl⟩, ⟨by omega⟩, ⟨by rw [Hnext.out]; exact HF7.out⟩, HB7⟩
    · have hn := HM.out
      have en : m = l0.length := by omega
      have c1 : decide ((m : Int) < (l0.length : Int)) = false := by simp; omega
      have hfin : (⟨(intsU (l0.take m)).toArray⟩ : ByteArray) = intsP l0 := by rw [en, List.take_length]; rfl
      have Hfin := Lib.hid hfin
      clear en hfin
      go_wp2_with (first | (go_at_call 29; (with_reducible refine (Sb.sout w.heap.size w.heap.size _ w _ HF.out HB.out HB.out.size).mono ?_); rintro e w7 ⟨rfl, hb7⟩; have HB7 := Aside0.mk hb7; clear hb7))
      go_ret
      exact ⟨by rw [Hfin.out]; rfl, HB7.out⟩


end Go.Proofs.Ytaolidjfbgpccaa.P
