-- Written by sprint.py (wip/tools) with the kit's print.py: a program's text, checked by Lean alone.
import Derived.Test.YtkdmjnmilmmnjaaPx0
import Derived.Test.YtkdmjnmilmmnjaaPx1
namespace Go.Proofs.Ytkdmjnmilmmnjaa.P
open Go.RowKit Go.Proofs.Ytkdmjnmilmmnjaa.Vp Go.Proofs.Ytkdmjnmilmmnjaa.Cp Go.Proofs.YtkdmjnmilmmnjaaW.PrintWords Go.Proofs.YtkdmjnmilmmnjaaW.PrintLast Go.Proofs.YtkdmjnmilmmnjaaW.PrintMore
attribute [local go_sem] max2_int min2_int max_two min_two max_three min_three max_four min_four   -- for this text's walks alone
set_option linter.unusedVariables false
set_option linter.unusedSimpArgs false

/-! ### varint_Take: function 25 -/
mutual
def varint_Take.j0 : Nat → ByteArray → Int → Int → Option (Int × ByteArray × Bool)
  | 0, _, _, _ => none
  | k + 1, x0, x5, x6 => if (x0.size : Int) < x6 then (some (0, (⟨#[]⟩ : ByteArray), false)) else (varint_Take.l0 k x0 x5 x6 0 1)
def varint_Take.l0 : Nat → ByteArray → Int → Int → Int → Int → Option (Int × ByteArray × Bool)
  | 0, _, _, _, _, _ => none
  | k + 1, x0, x5, x6, x7, x8 => if x8 < x6 then (if 0 ≤ x8 then (if x8 < (x0.size : Int) then (varint_Take.l0 k x0 x5 x6 (Go.bits .or .u64 (IntKind.u64.wrap (x7 * 256)) (IntKind.u64.wrap (bt x0 x8))) (wrap64 (x8 + 1))) else (none)) else (none)) else (if x6 = 1 then ((varint_Size.f (IntKind.u64.wrap (x5))).bind fun t151 => (if t151 = x6 then (if 0 ≤ x6 then (if x6 ≤ (x0.size : Int) then (some (IntKind.u64.wrap (x5), x0.extract (x6 : Int).toNat x0.size, true)) else (none)) else (none)) else (some (0, (⟨#[]⟩ : ByteArray), false)))) else (if x6 = 2 then ((varint_Size.f (IntKind.u64.wrap (x7 + (240 + (((x5 - 240 - 1) % 256) * 256))))).bind fun t152 => (if t152 = x6 then (if 0 ≤ x6 then (if x6 ≤ (x0.size : Int) then (some (IntKind.u64.wrap (x7 + (240 + (((x5 - 240 - 1) % 256) * 256))), x0.extract (x6 : Int).toNat x0.size, true)) else (none)) else (none)) else (some (0, (⟨#[]⟩ : ByteArray), false)))) else (if x6 = 3 then ((varint_Size.f (IntKind.u64.wrap (x7 + 2288))).bind fun t153 => (if t153 = x6 then (if 0 ≤ x6 then (if x6 ≤ (x0.size : Int) then (some (IntKind.u64.wrap (x7 + 2288), x0.extract (x6 : Int).toNat x0.size, true)) else (none)) else (none)) else (some (0, (⟨#[]⟩ : ByteArray), false)))) else ((varint_Size.f x7).bind fun t154 => (if t154 = x6 then (if 0 ≤ x6 then (if x6 ≤ (x0.size : Int) then (some (x7, x0.extract (x6 : Int).toNat x0.size, true)) else (none)) else (none)) else (some (0, (⟨#[]⟩ : ByteArray), false)))))))
end
def varint_Take.f (k : Nat) (a0 : ByteArray) : Option (Int × ByteArray × Bool) := if a0.toList = ([] : List UInt8) then (some (0, (⟨#[]⟩ : ByteArray), false)) else (if 0 < (a0.size : Int) then (if (bt a0 0) > 249 then (varint_Take.j0 k a0 (bt a0 0) (wrap64 ((wrap64 ((wrap64 (bt a0 0)) - 249)) + 3))) else (if (bt a0 0) = 249 then (varint_Take.j0 k a0 (bt a0 0) 3) else (if (bt a0 0) > 240 then (varint_Take.j0 k a0 (bt a0 0) 2) else (varint_Take.j0 k a0 (bt a0 0) 1)))) else (none))
theorem varint_Take.mono_l : ∀ k, (∀ y0 y1 y2, LeO (varint_Take.j0 k y0 y1 y2) (varint_Take.j0 (k + 1) y0 y1 y2)) ∧ (∀ y0 y1 y2 y3 y4, LeO (varint_Take.l0 k y0 y1 y2 y3 y4) (varint_Take.l0 (k + 1) y0 y1 y2 y3 y4))
  | 0 => ⟨fun _ _ _ r h => by simp [varint_Take.j0] at h, fun _ _ _ _ _ r h => by simp [varint_Take.l0] at h⟩
  | k + 1 => by
    obtain ⟨ih0, ih1⟩ := varint_Take.mono_l k
    refine ⟨?_, ?_⟩
    · intro y0 y1 y2
      unfold varint_Take.j0
      repeat' first
      | (with_reducible exact ih0 _ _ _)
      | (with_reducible exact ih1 _ _ _ _ _)
      | (with_reducible exact LeO.refl _)
      | (with_reducible exact LeO.none _)
      | (with_reducible refine LeO.ite ?_ ?_)
      | (with_reducible refine LeO.bind ?_ (fun _ => ?_))
      | exact ih0 _ _ _
      | exact ih1 _ _ _ _ _
      | exact LeO.none _
      | refine LeO.ite ?_ ?_
      | refine LeO.bind ?_ (fun _ => ?_)
    · intro y0 y1 y2 y3 y4
      unfold varint_Take.l0
      repeat' first
      | (with_reducible exact ih0 _ _ _)
      | (with_reducible exact ih1 _ _ _ _ _)
      | (with_reducible exact LeO.refl _)
      | (with_reducible exact LeO.none _)
      | (with_reducible refine LeO.ite ?_ ?_)
      | (with_reducible refine LeO.bind ?_ (fun _ => ?_))
      | exact ih0 _ _ _
      | exact ih1 _ _ _ _ _
      | exact LeO.none _
      | refine LeO.ite ?_ ?_
      | refine LeO.bind ?_ (fun _ => ?_)
theorem varint_Take.mono : ∀ a0 k, LeO (varint_Take.f k a0) (varint_Take.f (k + 1) a0) := by
  intro a0 k
  obtain ⟨ih0, ih1⟩ := varint_Take.mono_l k
  unfold varint_Take.f
  repeat' first
      | (with_reducible exact ih0 _ _ _)
      | (with_reducible exact ih1 _ _ _ _ _)
      | (with_reducible exact LeO.refl _)
      | (with_reducible exact LeO.none _)
      | (with_reducible refine LeO.ite ?_ ?_)
      | (with_reducible refine LeO.bind ?_ (fun _ => ?_))
      | exact ih0 _ _ _
      | exact ih1 _ _ _ _ _
      | exact LeO.none _
      | refine LeO.ite ?_ ?_
      | refine LeO.bind ?_ (fun _ => ?_)
set_option maxHeartbeats 8000000 in
set_option maxRecDepth 100000 in
theorem varint_Take.calls (k : Nat) (a0 : ByteArray) (r1 : Int) (r2 : ByteArray) (r3 : Bool) (w : World) (h : varint_Take.f k a0 = some (r1, r2, r3)) :
    Calls Try.prog 25 #[.string a0] w fun e w' => e = .returned (.tuple #[.int .u64 r1, .string r2, .bool r3]) ∧ Drawn0 w w' := by
  have H : (if a0.toList = ([] : List UInt8) then (some (0, (⟨#[]⟩ : ByteArray), false)) else (if 0 < (a0.size : Int) then (if (bt a0 0) > 249 then (varint_Take.j0 k a0 (bt a0 0) (wrap64 ((wrap64 ((wrap64 (bt a0 0)) - 249)) + 3))) else (if (bt a0 0) = 249 then (varint_Take.j0 k a0 (bt a0 0) 3) else (if (bt a0 0) > 240 then (varint_Take.j0 k a0 (bt a0 0) 2) else (varint_Take.j0 k a0 (bt a0 0) 1)))) else (none))) = some (r1, r2, r3) := h
  clear h
  by_cases c2 : a0.toList = ([] : List UInt8)
  · rw [if_pos c2] at H
    have c2b0 : (a0.toList == ([] : List UInt8)) = true := beq_iff_eq.mpr c2
    have c2b1 : (a0.toList != ([] : List UInt8)) = false := bne_eq_false_iff_eq.mpr c2
    clear c2
    simp only [Option.some.injEq, Prod.mk.injEq] at H
    obtain ⟨rfl, rfl, rfl⟩ := H
    go_enter Try.func25, Try.ntmps25
    go_wp2
    repeat (go_quiet (fail); try go_wp2)
    all_goals go_ret3
    all_goals exact ⟨by first | rfl | (simp; done) | (simp [*]; done), by repeat (first | exact Drawn0.refl _ | apply Drawn0.step)⟩
  · rw [if_neg c2] at H
    have c2b0 : (a0.toList == ([] : List UInt8)) = false := beq_eq_false_iff_ne.mpr c2
    have c2b1 : (a0.toList != ([] : List UInt8)) = true := bne_iff_ne.mpr c2
    by_cases c3 : 0 < (a0.size : Int)
    · rw [if_pos c3] at H
      have c3b0 : decide (0 < (a0.size : Int)) = true := decide_eq_true c3
      have c3b1 : decide (0 < a0.size) = true := decide_eq_true (by omega)
      clear c3
      have HC5 := Aside0.mk H
      clear H
      have p4 : 0 ≤ (0 : Int) := (by omega)
      have q4 : 0 < a0.size := (by have : (0 : Int) < (a0.size : Int) := of_decide_eq_true (by first | (with_reducible assumption) | assumption); omega)
      have hx4 : ∀ h : 0 < a0.size, ((a0[0]'h).toNat : Int) = bt a0 0 := bt_at a0 0
      clear p4
      have qi4 : (0 < (a0.size : Int)) = True := eq_true (of_decide_eq_true (by first | (with_reducible assumption) | assumption))
      replace q4 := eq_true q4
      go_enter Try.func25, Try.ntmps25
      go_upto_block 0 with (fail)
      repeat (go_quiet (fail); go_upto_block 0 with (fail))
      go_cut [6] (fun v6 wc => ∃ (kq : Nat) (x6_4 : Int), v6 = .int .i64 x6_4 ∧ Aside0 (varint_Take.j0 kq a0 (bt a0 0) x6_4 = some (r1, r2, r3)) ∧ Aside0 (kq ≤ k) ∧ Drawn0 w wc)
      case first =>
        have H := HC5.out
        clear HC5
        by_cases c6 : (bt a0 0) > 249
        · rw [if_pos c6] at H
          have c6b0 : decide (249 < (bt a0 0)) = true := decide_eq_true c6
          clear c6
          (first | rw [c6b0] | (simp only [i64_w, i32_w]; rw [c6b0]) | skip)
          have H' := Aside0.mk H
          clear H
          go_wp2
          repeat (go_quiet (fail); try go_wp2)
          go_meet
          case rel => exact ⟨_, (wrap64 ((wrap64 ((wrap64 (bt a0 0)) - 249)) + 3)), (by first | rfl | (simp; done) | (simp [*]; done)), H', ⟨by first | omega | exact Nat.le_refl _⟩, by repeat (first | exact Drawn0.refl _ | apply Drawn0.step)⟩
        · rw [if_neg c6] at H
          have c6b0 : decide (249 < (bt a0 0)) = false := decide_eq_false c6
          clear c6
          (first | rw [c6b0] | (simp only [i64_w, i32_w]; rw [c6b0]) | skip)
          by_cases c7 : (bt a0 0) = 249
          · rw [if_pos c7] at H
            have c7b0 : ((bt a0 0) == 249) = true := beq_iff_eq.mpr c7
            have c7b1 : ((bt a0 0) != 249) = false := bne_eq_false_iff_eq.mpr c7
            clear c7
            have H' := Aside0.mk H
            clear H
            go_wp2
            repeat (go_quiet (fail); try go_wp2)
            go_meet
            case rel => exact ⟨_, (3), (by first | rfl | (simp; done) | (simp [*]; done)), H', ⟨by first | omega | exact Nat.le_refl _⟩, by repeat (first | exact Drawn0.refl _ | apply Drawn0.step)⟩
          · rw [if_neg c7] at H
            have c7b0 : ((bt a0 0) == 249) = false := beq_eq_false_iff_ne.mpr c7
            have c7b1 : ((bt a0 0) != 249) = true := bne_iff_ne.mpr c7
            by_cases c8 : (bt a0 0) > 240
            · rw [if_pos c8] at H
              have c8b0 : decide (240 < (bt a0 0)) = true := decide_eq_true c8
              clear c8
              have H' := Aside0.mk H
              clear H
              go_wp2
              repeat (go_quiet (fail); try go_wp2)
              go_meet
              case rel => exact ⟨_, (2), (by first | rfl | (simp; done) | (simp [*]; done)), H', ⟨by first | omega | exact Nat.le_refl _⟩, by repeat (first | exact Drawn0.refl _ | apply Drawn0.step)⟩
            · rw [if_neg c8] at H
              have c8b0 : decide (240 < (bt a0 0)) = false := decide_eq_false c8
              clear c8
              have H' := Aside0.mk H
              clear H
              go_wp2
              repeat (go_quiet (fail); try go_wp2)
              go_meet
              case rel => exact ⟨_, (1), (by first | rfl | (simp; done) | (simp [*]; done)), H', ⟨by first | omega | exact Nat.le_refl _⟩, by repeat (first | exact Drawn0.refl _ | apply Drawn0.step)⟩
      case rest =>
        clear HC5
        try clear c2
        try clear c2b0
        try clear c2b1
        try clear p2
        try clear c3
        try clear c3b0
        try clear c3b1
        try clear p4
        try clear q4
        try clear hx4
        try clear qi4
        try clear c6
        try clear c6b0
        try clear p6
        try clear c7
        try clear c7b0
        try clear c7b1
        try clear c8
        try clear c8b0
        try clear p4
        try clear q4
        obtain ⟨kq, x6_4, rfl, HA, HJ4, ⟨mc4, rfl⟩⟩ := hcut
        cases kq with
        | zero => exact absurd HA.out (by simp [varint_Take.j0])
        | succ kj4 =>
          have H := HA.out
          clear HA
          simp only [varint_Take.j0] at H
          by_cases c9 : (a0.size : Int) < x6_4
          · rw [if_pos c9] at H
            have c9b0 : decide ((a0.size : Int) < x6_4) = true := decide_eq_true c9
            clear c9
            simp only [Option.some.injEq, Prod.mk.injEq] at H
            obtain ⟨rfl, rfl, rfl⟩ := H
            go_wp2
            repeat (go_quiet (fail); try go_wp2)
            all_goals go_ret3
            all_goals exact ⟨by first | rfl | (simp; done) | (simp [*]; done), by repeat (first | exact Drawn0.refl _ | apply Drawn0.step)⟩
          · rw [if_neg c9] at H
            have c9b0 : decide ((a0.size : Int) < x6_4) = false := decide_eq_false c9
            clear c9
            have H' := Aside0.mk H
            clear H
            go_wp2
            repeat (go_quiet (fail); try go_wp2)
            go_loopg [7, 8] kj4 (fun kq v7 v8 w' => ∃ (x7_2 : Int) (x8_2 : Int), v7 = .int .u64 x7_2 ∧ v8 = .int .i64 x8_2 ∧ Aside0 (varint_Take.l0 kq a0 (bt a0 0) x6_4 x7_2 x8_2 = some (r1, r2, r3)) ∧ Aside0 (kq ≤ kj4) ∧ Drawn0 w w')
            case atStart => exact ⟨(0), (1), (by first | rfl | (simp; done) | (simp [*]; done)), (by first | rfl | (simp; done) | (simp [*]; done)), H', ⟨Nat.le_refl _⟩, by repeat (first | exact Drawn0.refl _ | apply Drawn0.step)⟩
            case round =>
              clear H'
              try clear c2
              try clear c2b0
              try clear c2b1
              try clear p2
              try clear c3
              try clear c3b0
              try clear c3b1
              try clear c4
              try clear p4
              try clear q4
              try clear hx4
              try clear qi4
              try clear c6
              try clear c6b0
              try clear p6
              try clear c7
              try clear c7b0
              try clear c7b1
              try clear c8
              try clear c8b0
              try clear c9
              try clear c9b0
              try clear p2
              try clear p4
              try clear p6
              try clear q4
              obtain ⟨x7_2, x8_2, rfl, rfl, HA, HK2, ⟨m2, rfl⟩⟩ := hrel
              cases gk with
              | zero => exact absurd HA.out (by simp [varint_Take.l0])
              | succ k2 =>
                have H := HA.out
                clear HA
                simp only [varint_Take.l0] at H
                by_cases c10 : x8_2 < x6_4
                · rw [if_pos c10] at H
                  have c10b0 : decide (x8_2 < x6_4) = true := decide_eq_true c10
                  clear c10
                  by_cases c11 : 0 ≤ x8_2
                  · rw [if_pos c11] at H
                    have c11b0 : decide (0 ≤ x8_2) = true := decide_eq_true c11
                    clear c11
                    by_cases c12 : x8_2 < (a0.size : Int)
                    · rw [if_pos c12] at H
                      have c12b0 : decide (x8_2 < (a0.size : Int)) = true := decide_eq_true c12
                      clear c12
                      have H' := Aside0.mk H
                      clear H
                      have p13 : 0 ≤ (x8_2 : Int) := of_decide_eq_true (by first | (with_reducible assumption) | assumption)
                      have q13 : x8_2 < (a0.size : Int) := of_decide_eq_true (by first | (with_reducible assumption) | assumption)
                      have hx13 := bt_at a0 x8_2
                      replace p13 := eq_true p13
                      replace q13 := eq_true q13
                      go_wp2
                      repeat (go_quiet (fail); try go_wp2)
                      go_roundg k2
                      case measure => have := HJ4.out; have := HK2.out; omega
                      case rel => exact ⟨(Go.bits .or .u64 (IntKind.u64.wrap (x7_2 * 256)) (IntKind.u64.wrap (bt a0 x8_2))), (wrap64 (x8_2 + 1)), (by first | rfl | (simp; done) | (simp [*]; done)), (by first | rfl | (simp; done) | (simp [*]; done)), H', ⟨by have := HJ4.out; have := HK2.out; omega⟩, by repeat (first | exact Drawn0.refl _ | apply Drawn0.step)⟩
                    · rw [if_neg c12] at H
                      exact absurd H (by simp)
                  · rw [if_neg c11] at H
                    exact absurd H (by simp)
                · rw [if_neg c10] at H
                  have c10b0 : decide (x8_2 < x6_4) = false := decide_eq_false c10
                  clear c10
                  by_cases c14 : x6_4 = 1
                  · rw [if_pos c14] at H
                    have c14b0 : (x6_4 == 1) = true := beq_iff_eq.mpr c14
                    have c14b1 : (x6_4 != 1) = false := bne_eq_false_iff_eq.mpr c14
                    clear c14
                    replace H := Option.bind_eq_some_iff.mp H
                    obtain ⟨t151, A150, H⟩ := H
                    replace H : (if t151 = x6_4 then (if 0 ≤ x6_4 then (if x6_4 ≤ (a0.size : Int) then (some (IntKind.u64.wrap ((bt a0 0)), a0.extract (x6_4 : Int).toNat a0.size, true)) else (none)) else (none)) else (some (0, (⟨#[]⟩ : ByteArray), false))) = some (r1, r2, r3) := H
                    have A15 := Aside0.mk A150
                    clear A150
                    by_cases c16 : t151 = x6_4
                    · rw [if_pos c16] at H
                      have c16b0 : (t151 == x6_4) = true := beq_iff_eq.mpr c16
                      have c16b1 : (t151 != x6_4) = false := bne_eq_false_iff_eq.mpr c16
                      clear c16
                      by_cases c17 : 0 ≤ x6_4
                      · rw [if_pos c17] at H
                        have c17b0 := eq_true c17
                        have c17b1 : decide (0 ≤ x6_4) = true := decide_eq_true c17
                        clear c17
                        by_cases c18 : x6_4 ≤ (a0.size : Int)
                        · rw [if_pos c18] at H
                          have c18b0 := eq_true c18
                          have c18b1 : decide (x6_4 ≤ (a0.size : Int)) = true := decide_eq_true c18
                          clear c18
                          simp only [Option.some.injEq, Prod.mk.injEq] at H
                          obtain ⟨rfl, rfl, rfl⟩ := H
                          go_wp2_with (first | (go_at_call 28; (with_reducible refine (varint_Size.calls (IntKind.u64.wrap ((bt a0 0))) t151 _ A15.out).mono ?_); rintro e w' ⟨rfl, ⟨nd, rfl⟩⟩; (try first | exact ⟨rfl, _, World.drewN_drewN _ _ _⟩ | exact ⟨rfl, _, Eq.trans (World.drewN_drewN _ _ _) (congrArg (World.drewN _) (Nat.add_assoc _ _ _))⟩)))
                          repeat (go_quiet (first | (go_at_call 28; (with_reducible refine (varint_Size.calls (IntKind.u64.wrap ((bt a0 0))) t151 _ A15.out).mono ?_); rintro e w' ⟨rfl, ⟨nd, rfl⟩⟩; (try first | exact ⟨rfl, _, World.drewN_drewN _ _ _⟩ | exact ⟨rfl, _, Eq.trans (World.drewN_drewN _ _ _) (congrArg (World.drewN _) (Nat.add_assoc _ _ _))⟩))); try go_wp2_with (first | (go_at_call 28; (with_reducible refine (varint_Size.calls (IntKind.u64.wrap ((bt a0 0))) t151 _ A15.out).mono ?_); rintro e w' ⟨rfl, ⟨nd, rfl⟩⟩; (try first | exact ⟨rfl, _, World.drewN_drewN _ _ _⟩ | exact ⟨rfl, _, Eq.trans (World.drewN_drewN _ _ _) (congrArg (World.drewN _) (Nat.add_assoc _ _ _))⟩))))
                          all_goals go_ret3
                          all_goals exact ⟨by first | rfl | (simp; done) | (simp [*]; done), by repeat (first | exact Drawn0.refl _ | apply Drawn0.step)⟩
                        · rw [if_neg c18] at H
                          exact absurd H (by simp)
                      · rw [if_neg c17] at H
                        exact absurd H (by simp)
                    · rw [if_neg c16] at H
                      have c16b0 : (t151 == x6_4) = false := beq_eq_false_iff_ne.mpr c16
                      have c16b1 : (t151 != x6_4) = true := bne_iff_ne.mpr c16
                      simp only [Option.some.injEq, Prod.mk.injEq] at H
                      obtain ⟨rfl, rfl, rfl⟩ := H
                      go_wp2_with (first | (go_at_call 28; (with_reducible refine (varint_Size.calls (IntKind.u64.wrap ((bt a0 0))) t151 _ A15.out).mono ?_); rintro e w' ⟨rfl, ⟨nd, rfl⟩⟩; (try first | exact ⟨rfl, _, World.drewN_drewN _ _ _⟩ | exact ⟨rfl, _, Eq.trans (World.drewN_drewN _ _ _) (congrArg (World.drewN _) (Nat.add_assoc _ _ _))⟩)))
                      repeat (go_quiet (first | (go_at_call 28; (with_reducible refine (varint_Size.calls (IntKind.u64.wrap ((bt a0 0))) t151 _ A15.out).mono ?_); rintro e w' ⟨rfl, ⟨nd, rfl⟩⟩; (try first | exact ⟨rfl, _, World.drewN_drewN _ _ _⟩ | exact ⟨rfl, _, Eq.trans (World.drewN_drewN _ _ _) (congrArg (World.drewN _) (Nat.add_assoc _ _ _))⟩))); try go_wp2_with (first | (go_at_call 28; (with_reducible refine (varint_Size.calls (IntKind.u64.wrap ((bt a0 0))) t151 _ A15.out).mono ?_); rintro e w' ⟨rfl, ⟨nd, rfl⟩⟩; (try first | exact ⟨rfl, _, World.drewN_drewN _ _ _⟩ | exact ⟨rfl, _, Eq.trans (World.drewN_drewN _ _ _) (congrArg (World.drewN _) (Nat.add_assoc _ _ _))⟩))))
                      all_goals go_ret3
                      all_goals exact ⟨by first | rfl | (simp; done) | (simp [*]; done), by repeat (first | exact Drawn0.refl _ | apply Drawn0.step)⟩
                  · rw [if_neg c14] at H
                    have c14b0 : (x6_4 == 1) = false := beq_eq_false_iff_ne.mpr c14
                    have c14b1 : (x6_4 != 1) = true := bne_iff_ne.mpr c14
                    by_cases c19 : x6_4 = 2
                    · rw [if_pos c19] at H
                      have c19b0 : (x6_4 == 2) = true := beq_iff_eq.mpr c19
                      have c19b1 : (x6_4 != 2) = false := bne_eq_false_iff_eq.mpr c19
                      clear c19
                      replace H := Option.bind_eq_some_iff.mp H
                      obtain ⟨t152, A200, H⟩ := H
                      replace H : (if t152 = x6_4 then (if 0 ≤ x6_4 then (if x6_4 ≤ (a0.size : Int) then (some (IntKind.u64.wrap (x7_2 + (240 + ((((bt a0 0) - 240 - 1) % 256) * 256))), a0.extract (x6_4 : Int).toNat a0.size, true)) else (none)) else (none)) else (some (0, (⟨#[]⟩ : ByteArray), false))) = some (r1, r2, r3) := H
                      have A20 := Aside0.mk A200
                      clear A200
                      by_cases c21 : t152 = x6_4
                      · rw [if_pos c21] at H
                        have c21b0 : (t152 == x6_4) = true := beq_iff_eq.mpr c21
                        have c21b1 : (t152 != x6_4) = false := bne_eq_false_iff_eq.mpr c21
                        clear c21
                        by_cases c22 : 0 ≤ x6_4
                        · rw [if_pos c22] at H
                          have c22b0 := eq_true c22
                          have c22b1 : decide (0 ≤ x6_4) = true := decide_eq_true c22
                          clear c22
                          by_cases c23 : x6_4 ≤ (a0.size : Int)
                          · rw [if_pos c23] at H
                            have c23b0 := eq_true c23
                            have c23b1 : decide (x6_4 ≤ (a0.size : Int)) = true := decide_eq_true c23
                            clear c23
                            simp only [Option.some.injEq, Prod.mk.injEq] at H
                            obtain ⟨rfl, rfl, rfl⟩ := H
                            go_wp2_with (first | (go_at_call 28; (with_reducible refine (varint_Size.calls (IntKind.u64.wrap (x7_2 + (240 + ((((bt a0 0) - 240 - 1) % 256) * 256)))) t152 _ A20.out).mono ?_); rintro e w' ⟨rfl, ⟨nd, rfl⟩⟩; (try first | exact ⟨rfl, _, World.drewN_drewN _ _ _⟩ | exact ⟨rfl, _, Eq.trans (World.drewN_drewN _ _ _) (congrArg (World.drewN _) (Nat.add_assoc _ _ _))⟩)))
                            repeat (go_quiet (first | (go_at_call 28; (with_reducible refine (varint_Size.calls (IntKind.u64.wrap (x7_2 + (240 + ((((bt a0 0) - 240 - 1) % 256) * 256)))) t152 _ A20.out).mono ?_); rintro e w' ⟨rfl, ⟨nd, rfl⟩⟩; (try first | exact ⟨rfl, _, World.drewN_drewN _ _ _⟩ | exact ⟨rfl, _, Eq.trans (World.drewN_drewN _ _ _) (congrArg (World.drewN _) (Nat.add_assoc _ _ _))⟩))); try go_wp2_with (first | (go_at_call 28; (with_reducible refine (varint_Size.calls (IntKind.u64.wrap (x7_2 + (240 + ((((bt a0 0) - 240 - 1) % 256) * 256)))) t152 _ A20.out).mono ?_); rintro e w' ⟨rfl, ⟨nd, rfl⟩⟩; (try first | exact ⟨rfl, _, World.drewN_drewN _ _ _⟩ | exact ⟨rfl, _, Eq.trans (World.drewN_drewN _ _ _) (congrArg (World.drewN _) (Nat.add_assoc _ _ _))⟩))))
                            all_goals go_ret3
                            all_goals exact ⟨by first | rfl | (simp; done) | (simp [*]; done), by repeat (first | exact Drawn0.refl _ | apply Drawn0.step)⟩
                          · rw [if_neg c23] at H
                            exact absurd H (by simp)
                        · rw [if_neg c22] at H
                          exact absurd H (by simp)
                      · rw [if_neg c21] at H
                        have c21b0 : (t152 == x6_4) = false := beq_eq_false_iff_ne.mpr c21
                        have c21b1 : (t152 != x6_4) = true := bne_iff_ne.mpr c21
                        simp only [Option.some.injEq, Prod.mk.injEq] at H
                        obtain ⟨rfl, rfl, rfl⟩ := H
                        go_wp2_with (first | (go_at_call 28; (with_reducible refine (varint_Size.calls (IntKind.u64.wrap (x7_2 + (240 + ((((bt a0 0) - 240 - 1) % 256) * 256)))) t152 _ A20.out).mono ?_); rintro e w' ⟨rfl, ⟨nd, rfl⟩⟩; (try first | exact ⟨rfl, _, World.drewN_drewN _ _ _⟩ | exact ⟨rfl, _, Eq.trans (World.drewN_drewN _ _ _) (congrArg (World.drewN _) (Nat.add_assoc _ _ _))⟩)))
                        repeat (go_quiet (first | (go_at_call 28; (with_reducible refine (varint_Size.calls (IntKind.u64.wrap (x7_2 + (240 + ((((bt a0 0) - 240 - 1) % 256) * 256)))) t152 _ A20.out).mono ?_); rintro e w' ⟨rfl, ⟨nd, rfl⟩⟩; (try first | exact ⟨rfl, _, World.drewN_drewN _ _ _⟩ | exact ⟨rfl, _, Eq.trans (World.drewN_drewN _ _ _) (congrArg (World.drewN _) (Nat.add_assoc _ _ _))⟩))); try go_wp2_with (first | (go_at_call 28; (with_reducible refine (varint_Size.calls (IntKind.u64.wrap (x7_2 + (240 + ((((bt a0 0) - 240 - 1) % 256) * 256)))) t152 _ A20.out).mono ?_); rintro e w' ⟨rfl, ⟨nd, rfl⟩⟩; (try first | exact ⟨rfl, _, World.drewN_drewN _ _ _⟩ | exact ⟨rfl, _, Eq.trans (World.drewN_drewN _ _ _) (congrArg (World.drewN _) (Nat.add_assoc _ _ _))⟩))))
                        all_goals go_ret3
                        all_goals exact ⟨by first | rfl | (simp; done) | (simp [*]; done), by repeat (first | exact Drawn0.refl _ | apply Drawn0.step)⟩
                    · rw [if_neg c19] at H
                      have c19b0 : (x6_4 == 2) = false := beq_eq_false_iff_ne.mpr c19
                      have c19b1 : (x6_4 != 2) = true := bne_iff_ne.mpr c19
                      by_cases c24 : x6_4 = 3
                      · rw [if_pos c24] at H
                        have c24b0 : (x6_4 == 3) = true := beq_iff_eq.mpr c24
                        have c24b1 : (x6_4 != 3) = false := bne_eq_false_iff_eq.mpr c24
                        clear c24
                        replace H := Option.bind_eq_some_iff.mp H
                        obtain ⟨t153, A250, H⟩ := H
                        replace H : (if t153 = x6_4 then (if 0 ≤ x6_4 then (if x6_4 ≤ (a0.size : Int) then (some (IntKind.u64.wrap (x7_2 + 2288), a0.extract (x6_4 : Int).toNat a0.size, true)) else (none)) else (none)) else (some (0, (⟨#[]⟩ : ByteArray), false))) = some (r1, r2, r3) := H
                        have A25 := Aside0.mk A250
                        clear A250
                        by_cases c26 : t153 = x6_4
                        · rw [if_pos c26] at H
                          have c26b0 : (t153 == x6_4) = true := beq_iff_eq.mpr c26
                          have c26b1 : (t153 != x6_4) = false := bne_eq_false_iff_eq.mpr c26
                          clear c26
                          by_cases c27 : 0 ≤ x6_4
                          · rw [if_pos c27] at H
                            have c27b0 := eq_true c27
                            have c27b1 : decide (0 ≤ x6_4) = true := decide_eq_true c27
                            clear c27
                            by_cases c28 : x6_4 ≤ (a0.size : Int)
                            · rw [if_pos c28] at H
                              have c28b0 := eq_true c28
                              have c28b1 : decide (x6_4 ≤ (a0.size : Int)) = true := decide_eq_true c28
                              clear c28
                              simp only [Option.some.injEq, Prod.mk.injEq] at H
                              obtain ⟨rfl, rfl, rfl⟩ := H
                              go_wp2_with (first | (go_at_call 28; (with_reducible refine (varint_Size.calls (IntKind.u64.wrap (x7_2 + 2288)) t153 _ A25.out).mono ?_); rintro e w' ⟨rfl, ⟨nd, rfl⟩⟩; (try first | exact ⟨rfl, _, World.drewN_drewN _ _ _⟩ | exact ⟨rfl, _, Eq.trans (World.drewN_drewN _ _ _) (congrArg (World.drewN _) (Nat.add_assoc _ _ _))⟩)))
                              repeat (go_quiet (first | (go_at_call 28; (with_reducible refine (varint_Size.calls (IntKind.u64.wrap (x7_2 + 2288)) t153 _ A25.out).mono ?_); rintro e w' ⟨rfl, ⟨nd, rfl⟩⟩; (try first | exact ⟨rfl, _, World.drewN_drewN _ _ _⟩ | exact ⟨rfl, _, Eq.trans (World.drewN_drewN _ _ _) (congrArg (World.drewN _) (Nat.add_assoc _ _ _))⟩))); try go_wp2_with (first | (go_at_call 28; (with_reducible refine (varint_Size.calls (IntKind.u64.wrap (x7_2 + 2288)) t153 _ A25.out).mono ?_); rintro e w' ⟨rfl, ⟨nd, rfl⟩⟩; (try first | exact ⟨rfl, _, World.drewN_drewN _ _ _⟩ | exact ⟨rfl, _, Eq.trans (World.drewN_drewN _ _ _) (congrArg (World.drewN _) (Nat.add_assoc _ _ _))⟩))))
                              all_goals go_ret3
                              all_goals exact ⟨by first | rfl | (simp; done) | (simp [*]; done), by repeat (first | exact Drawn0.refl _ | apply Drawn0.step)⟩
                            · rw [if_neg c28] at H
                              exact absurd H (by simp)
                          · rw [if_neg c27] at H
                            exact absurd H (by simp)
                        · rw [if_neg c26] at H
                          have c26b0 : (t153 == x6_4) = false := beq_eq_false_iff_ne.mpr c26
                          have c26b1 : (t153 != x6_4) = true := bne_iff_ne.mpr c26
                          simp only [Option.some.injEq, Prod.mk.injEq] at H
                          obtain ⟨rfl, rfl, rfl⟩ := H
                          go_wp2_with (first | (go_at_call 28; (with_reducible refine (varint_Size.calls (IntKind.u64.wrap (x7_2 + 2288)) t153 _ A25.out).mono ?_); rintro e w' ⟨rfl, ⟨nd, rfl⟩⟩; (try first | exact ⟨rfl, _, World.drewN_drewN _ _ _⟩ | exact ⟨rfl, _, Eq.trans (World.drewN_drewN _ _ _) (congrArg (World.drewN _) (Nat.add_assoc _ _ _))⟩)))
                          repeat (go_quiet (first | (go_at_call 28; (with_reducible refine (varint_Size.calls (IntKind.u64.wrap (x7_2 + 2288)) t153 _ A25.out).mono ?_); rintro e w' ⟨rfl, ⟨nd, rfl⟩⟩; (try first | exact ⟨rfl, _, World.drewN_drewN _ _ _⟩ | exact ⟨rfl, _, Eq.trans (World.drewN_drewN _ _ _) (congrArg (World.drewN _) (Nat.add_assoc _ _ _))⟩))); try go_wp2_with (first | (go_at_call 28; (with_reducible refine (varint_Size.calls (IntKind.u64.wrap (x7_2 + 2288)) t153 _ A25.out).mono ?_); rintro e w' ⟨rfl, ⟨nd, rfl⟩⟩; (try first | exact ⟨rfl, _, World.drewN_drewN _ _ _⟩ | exact ⟨rfl, _, Eq.trans (World.drewN_drewN _ _ _) (congrArg (World.drewN _) (Nat.add_assoc _ _ _))⟩))))
                          all_goals go_ret3
                          all_goals exact ⟨by first | rfl | (simp; done) | (simp [*]; done), by repeat (first | exact Drawn0.refl _ | apply Drawn0.step)⟩
                      · rw [if_neg c24] at H
                        have c24b0 : (x6_4 == 3) = false := beq_eq_false_iff_ne.mpr c24
                        have c24b1 : (x6_4 != 3) = true := bne_iff_ne.mpr c24
                        replace H := Option.bind_eq_some_iff.mp H
                        obtain ⟨t154, A290, H⟩ := H
                        replace H : (if t154 = x6_4 then (if 0 ≤ x6_4 then (if x6_4 ≤ (a0.size : Int) then (some (x7_2, a0.extract (x6_4 : Int).toNat a0.size, true)) else (none)) else (none)) else (some (0, (⟨#[]⟩ : ByteArray), false))) = some (r1, r2, r3) := H
                        have A29 := Aside0.mk A290
                        clear A290
                        by_cases c30 : t154 = x6_4
                        · rw [if_pos c30] at H
                          have c30b0 : (t154 == x6_4) = true := beq_iff_eq.mpr c30
                          have c30b1 : (t154 != x6_4) = false := bne_eq_false_iff_eq.mpr c30
                          clear c30
                          by_cases c31 : 0 ≤ x6_4
                          · rw [if_pos c31] at H
                            have c31b0 := eq_true c31
                            have c31b1 : decide (0 ≤ x6_4) = true := decide_eq_true c31
                            clear c31
                            by_cases c32 : x6_4 ≤ (a0.size : Int)
                            · rw [if_pos c32] at H
                              have c32b0 := eq_true c32
                              have c32b1 : decide (x6_4 ≤ (a0.size : Int)) = true := decide_eq_true c32
                              clear c32
                              simp only [Option.some.injEq, Prod.mk.injEq] at H
                              obtain ⟨rfl, rfl, rfl⟩ := H
                              go_wp2_with (first | (go_at_call 28; (with_reducible refine (varint_Size.calls x7_2 t154 _ A29.out).mono ?_); rintro e w' ⟨rfl, ⟨nd, rfl⟩⟩; (try first | exact ⟨rfl, _, World.drewN_drewN _ _ _⟩ | exact ⟨rfl, _, Eq.trans (World.drewN_drewN _ _ _) (congrArg (World.drewN _) (Nat.add_assoc _ _ _))⟩)))
                              repeat (go_quiet (first | (go_at_call 28; (with_reducible refine (varint_Size.calls x7_2 t154 _ A29.out).mono ?_); rintro e w' ⟨rfl, ⟨nd, rfl⟩⟩; (try first | exact ⟨rfl, _, World.drewN_drewN _ _ _⟩ | exact ⟨rfl, _, Eq.trans (World.drewN_drewN _ _ _) (congrArg (World.drewN _) (Nat.add_assoc _ _ _))⟩))); try go_wp2_with (first | (go_at_call 28; (with_reducible refine (varint_Size.calls x7_2 t154 _ A29.out).mono ?_); rintro e w' ⟨rfl, ⟨nd, rfl⟩⟩; (try first | exact ⟨rfl, _, World.drewN_drewN _ _ _⟩ | exact ⟨rfl, _, Eq.trans (World.drewN_drewN _ _ _) (congrArg (World.drewN _) (Nat.add_assoc _ _ _))⟩))))
                              all_goals go_ret3
                              all_goals exact ⟨by first | rfl | (simp; done) | (simp [*]; done), by repeat (first | exact Drawn0.refl _ | apply Drawn0.step)⟩
                            · rw [if_neg c32] at H
                              exact absurd H (by simp)
                          · rw [if_neg c31] at H
                            exact absurd H (by simp)
                        · rw [if_neg c30] at H
                          have c30b0 : (t154 == x6_4) = false := beq_eq_false_iff_ne.mpr c30
                          have c30b1 : (t154 != x6_4) = true := bne_iff_ne.mpr c30
                          simp only [Option.some.injEq, Prod.mk.injEq] at H
                          obtain ⟨rfl, rfl, rfl⟩ := H
                          go_wp2_with (first | (go_at_call 28; (with_reducible refine (varint_Size.calls x7_2 t154 _ A29.out).mono ?_); rintro e w' ⟨rfl, ⟨nd, rfl⟩⟩; (try first | exact ⟨rfl, _, World.drewN_drewN _ _ _⟩ | exact ⟨rfl, _, Eq.trans (World.drewN_drewN _ _ _) (congrArg (World.drewN _) (Nat.add_assoc _ _ _))⟩)))
                          repeat (go_quiet (first | (go_at_call 28; (with_reducible refine (varint_Size.calls x7_2 t154 _ A29.out).mono ?_); rintro e w' ⟨rfl, ⟨nd, rfl⟩⟩; (try first | exact ⟨rfl, _, World.drewN_drewN _ _ _⟩ | exact ⟨rfl, _, Eq.trans (World.drewN_drewN _ _ _) (congrArg (World.drewN _) (Nat.add_assoc _ _ _))⟩))); try go_wp2_with (first | (go_at_call 28; (with_reducible refine (varint_Size.calls x7_2 t154 _ A29.out).mono ?_); rintro e w' ⟨rfl, ⟨nd, rfl⟩⟩; (try first | exact ⟨rfl, _, World.drewN_drewN _ _ _⟩ | exact ⟨rfl, _, Eq.trans (World.drewN_drewN _ _ _) (congrArg (World.drewN _) (Nat.add_assoc _ _ _))⟩))))
                          all_goals go_ret3
                          all_goals exact ⟨by first | rfl | (simp; done) | (simp [*]; done), by repeat (first | exact Drawn0.refl _ | apply Drawn0.step)⟩
    · rw [if_neg c3] at H
      exact absurd H (by simp)

end Go.Proofs.Ytkdmjnmilmmnjaa.P
