-- Written by sprint.py (wip/tools) with the kit's print.py: a program's text, checked by Lean alone.
import Derived.Test.YtaolidjfbgpccaaPx0
import Derived.Test.YtaolidjfbgpccaaPx1
import Derived.Test.YtaolidjfbgpccaaPx2
namespace Go.Proofs.Ytaolidjfbgpccaa.P
open Go.RowKit Go.Proofs.Ytaolidjfbgpccaa.Vp Go.Proofs.YtaolidjfbgpccaaW.PrintWords Go.Proofs.YtaolidjfbgpccaaW.PrintLast Go.Proofs.YtaolidjfbgpccaaW.PrintMore
attribute [local go_sem] max2_int min2_int max_two min_two max_three min_three max_four min_four   -- for this text's walks alone
set_option linter.unusedVariables false
set_option linter.unusedSimpArgs false

/-! ### moultref3_Put: function 11 -/
def moultref3_Put.f (k : Nat) (a0 : Int) : Option (ByteArray) := if a0 ≤ 240 then ((moultref3_bytes.f k a0 1).bind fun t155 => (some t155)) else (if a0 ≤ 2287 then ((moultref3_bytes.f k (IntKind.u64.wrap (241 + (IntKind.u64.wrap (Int.tdiv (IntKind.u64.wrap (a0 - 240)) 256)))) 1).bind fun t156 => ((moultref3_bytes.f k (Int.tmod (IntKind.u64.wrap (a0 - 240)) 256) 1).bind fun t157 => (if t156.size + t157.size ≤ 9223372036854775807 then (some (t156 ++ t157)) else (none)))) else (if a0 ≤ 67823 then ((moultref3_bytes.f k 249 1).bind fun t158 => ((moultref3_bytes.f k (IntKind.u64.wrap (a0 - 2288)) 2).bind fun t159 => (if t158.size + t159.size ≤ 9223372036854775807 then (some (t158 ++ t159)) else (none)))) else ((moultref3_count.f k a0).bind fun t160 => ((moultref3_bytes.f k (IntKind.u64.wrap (wrap64 (247 + t160))) 1).bind fun t161 => ((moultref3_bytes.f k a0 t160).bind fun t162 => (if t161.size + t162.size ≤ 9223372036854775807 then (some (t161 ++ t162)) else (none)))))))
theorem moultref3_Put.mono : ∀ a0 k, LeO (moultref3_Put.f k a0) (moultref3_Put.f (k + 1) a0) := by
  intro a0 k
  unfold moultref3_Put.f
  repeat' first
      | (with_reducible exact moultref3_bytes.mono _ _ _)
      | (with_reducible exact moultref3_count.mono _ _)
      | (with_reducible exact LeO.refl _)
      | (with_reducible exact LeO.none _)
      | (with_reducible refine LeO.ite ?_ ?_)
      | (with_reducible refine LeO.bind ?_ (fun _ => ?_))
      | exact moultref3_bytes.mono _ _ _
      | exact moultref3_count.mono _ _
      | exact LeO.none _
      | refine LeO.ite ?_ ?_
      | refine LeO.bind ?_ (fun _ => ?_)
set_option maxHeartbeats 8000000 in
set_option maxRecDepth 100000 in
theorem moultref3_Put.calls (k : Nat) (a0 : Int) (r : ByteArray) (w : World) (h : moultref3_Put.f k a0 = some r) :
    Calls Try.prog 11 #[.int .u64 a0] w fun e w' => e = .returned (.string r) ∧ Below w.heap.size w w' := by
  have HB := Aside0.mk (Below.refl w.heap.size w)
  have H : (if a0 ≤ 240 then ((moultref3_bytes.f k a0 1).bind fun t155 => (some t155)) else (if a0 ≤ 2287 then ((moultref3_bytes.f k (IntKind.u64.wrap (241 + (IntKind.u64.wrap (Int.tdiv (IntKind.u64.wrap (a0 - 240)) 256)))) 1).bind fun t156 => ((moultref3_bytes.f k (Int.tmod (IntKind.u64.wrap (a0 - 240)) 256) 1).bind fun t157 => (if t156.size + t157.size ≤ 9223372036854775807 then (some (t156 ++ t157)) else (none)))) else (if a0 ≤ 67823 then ((moultref3_bytes.f k 249 1).bind fun t158 => ((moultref3_bytes.f k (IntKind.u64.wrap (a0 - 2288)) 2).bind fun t159 => (if t158.size + t159.size ≤ 9223372036854775807 then (some (t158 ++ t159)) else (none)))) else ((moultref3_count.f k a0).bind fun t160 => ((moultref3_bytes.f k (IntKind.u64.wrap (wrap64 (247 + t160))) 1).bind fun t161 => ((moultref3_bytes.f k a0 t160).bind fun t162 => (if t161.size + t162.size ≤ 9223372036854775807 then (some (t161 ++ t162)) else (none)))))))) = some r := h
  clear h
  by_cases c2 : a0 ≤ 240
  · rw [if_pos c2] at H
    have c2b0 : decide (a0 ≤ 240) = true := decide_eq_true c2
    clear c2
    replace H := Option.bind_eq_some_iff.mp H
    obtain ⟨t155, A30, H⟩ := H
    replace H : (some t155) = some r := H
    have A3 := Aside0.mk A30
    clear A30
    obtain rfl := Option.some.inj H
    go_enter Try.func11, Try.ntmps11
    go_wp2_with (first | ((with_reducible refine gate_callee (f := 25) rfl ?_); refine goesL_ (some 8) rfl rfl Try.func25 (by kernel_rfl) rfl #[.int .u64 a0, .int .i64 1] rfl (by (try simp only [List.map_toArray, List.map_cons, List.map_nil]); first | done | rfl | (simp only [List.length_drop, List.length_take]; rfl)) ?_; (with_reducible refine (moultref3_bytes.calls k a0 1 t155 _ A3.out).mono ?_); rintro e w4 ⟨rfl, hb⟩; refine ⟨_, rfl, ?_⟩; have n0_ := Aside0.mk (below_step (by repeat (first | (with_reducible first | exact HB.out | apply below_alloc | apply pw_below_drewN | apply below_drew1) | exact HB.out)) hb); clear HB; have HB := n0_; clear n0_; (try clear hb); (try clear hb2); (try clear hk); (try clear hi)))
    all_goals go_ret
    all_goals exact ⟨by first | rfl | (simp [errW_none, errW_some] <;> rfl) | (simp [*, errW_none, errW_some] <;> rfl), by repeat (first | (with_reducible first | exact HB.out | apply below_alloc | apply pw_below_drewN | apply below_drew1) | exact HB.out)⟩
  · rw [if_neg c2] at H
    have c2b0 : decide (a0 ≤ 240) = false := decide_eq_false c2
    clear c2
    by_cases c5 : a0 ≤ 2287
    · rw [if_pos c5] at H
      have c5b0 : decide (a0 ≤ 2287) = true := decide_eq_true c5
      clear c5
      replace H := Option.bind_eq_some_iff.mp H
      obtain ⟨t156, A60, H⟩ := H
      replace H : ((moultref3_bytes.f k (Int.tmod (IntKind.u64.wrap (a0 - 240)) 256) 1).bind fun t157 => (if t156.size + t157.size ≤ 9223372036854775807 then (some (t156 ++ t157)) else (none))) = some r := H
      have A6 := Aside0.mk A60
      clear A60
      replace H := Option.bind_eq_some_iff.mp H
      obtain ⟨t157, A70, H⟩ := H
      replace H : (if t156.size + t157.size ≤ 9223372036854775807 then (some (t156 ++ t157)) else (none)) = some r := H
      have A7 := Aside0.mk A70
      clear A70
      by_cases c8 : t156.size + t157.size ≤ 9223372036854775807
      · rw [if_pos c8] at H
        have c8b0 := eq_true c8
        have c8b1 : decide (t156.size + t157.size ≤ 9223372036854775807) = true := decide_eq_true c8
        try have c8b2 : (9223372036854775807 < t156.size + t157.size) = False := eq_false (Nat.not_lt.2 c8)
        obtain rfl := Option.some.inj H
        go_enter Try.func11, Try.ntmps11
        go_wp2_with (first | ((with_reducible refine gate_callee (f := 25) rfl ?_); refine goesL_ (some 16) rfl rfl Try.func25 (by kernel_rfl) rfl #[.int .u64 (IntKind.u64.wrap (241 + (IntKind.u64.wrap (Int.tdiv (IntKind.u64.wrap (a0 - 240)) 256)))), .int .i64 1] rfl (by (try simp only [List.map_toArray, List.map_cons, List.map_nil]); first | done | rfl | (simp only [List.length_drop, List.length_take]; rfl)) ?_; (with_reducible refine (moultref3_bytes.calls k (IntKind.u64.wrap (241 + (IntKind.u64.wrap (Int.tdiv (IntKind.u64.wrap (a0 - 240)) 256)))) 1 t156 _ A6.out).mono ?_); rintro e w9 ⟨rfl, hb⟩; refine ⟨_, rfl, ?_⟩; have n0_ := Aside0.mk (below_step (by repeat (first | (with_reducible first | exact HB.out | apply below_alloc | apply pw_below_drewN | apply below_drew1) | exact HB.out)) hb); clear HB; have HB := n0_; clear n0_; (try clear hb); (try clear hb2); (try clear hk); (try clear hi)) | ((with_reducible refine gate_callee (f := 25) rfl ?_); refine goesL_ (some 20) rfl rfl Try.func25 (by kernel_rfl) rfl #[.int .u64 (Int.tmod (IntKind.u64.wrap (a0 - 240)) 256), .int .i64 1] rfl (by (try simp only [List.map_toArray, List.map_cons, List.map_nil]); first | done | rfl | (simp only [List.length_drop, List.length_take]; rfl)) ?_; (with_reducible refine (moultref3_bytes.calls k (Int.tmod (IntKind.u64.wrap (a0 - 240)) 256) 1 t157 _ A7.out).mono ?_); rintro e w10 ⟨rfl, hb⟩; refine ⟨_, rfl, ?_⟩; have n0_ := Aside0.mk (below_step (by repeat (first | (with_reducible first | exact HB.out | apply below_alloc | apply pw_below_drewN | apply below_drew1) | exact HB.out)) hb); clear HB; have HB := n0_; clear n0_; (try clear hb); (try clear hb2); (try clear hk); (try clear hi)))
        all_goals go_ret
        all_goals exact ⟨by first | rfl | (simp [errW_none, errW_some] <;> rfl) | (simp [*, errW_none, errW_some] <;> rfl), by repeat (first | (with_reducible first | exact HB.out | apply below_alloc | apply pw_below_drewN | apply below_drew1) | exact HB.out)⟩
      · rw [if_neg c8] at H
        exact absurd H (by simp)
    · rw [if_neg c5] at H
      have c5b0 : decide (a0 ≤ 2287) = false := decide_eq_false c5
      clear c5
      by_cases c11 : a0 ≤ 67823
      · rw [if_pos c11] at H
        have c11b0 : decide (a0 ≤ 67823) = true := decide_eq_true c11
        clear c11
        replace H := Option.bind_eq_some_iff.mp H
        obtain ⟨t158, A120, H⟩ := H
        replace H : ((moultref3_bytes.f k (IntKind.u64.wrap (a0 - 2288)) 2).bind fun t159 => (if t158.size + t159.size ≤ 9223372036854775807 then (some (t158 ++ t159)) else (none))) = some r := H
        have A12 := Aside0.mk A120
        clear A120
        replace H := Option.bind_eq_some_iff.mp H
        obtain ⟨t159, A130, H⟩ := H
        replace H : (if t158.size + t159.size ≤ 9223372036854775807 then (some (t158 ++ t159)) else (none)) = some r := H
        have A13 := Aside0.mk A130
        clear A130
        by_cases c14 : t158.size + t159.size ≤ 9223372036854775807
        · rw [if_pos c14] at H
          have c14b0 := eq_true c14
          have c14b1 : decide (t158.size + t159.size ≤ 9223372036854775807) = true := decide_eq_true c14
          try have c14b2 : (9223372036854775807 < t158.size + t159.size) = False := eq_false (Nat.not_lt.2 c14)
          obtain rfl := Option.some.inj H
          go_enter Try.func11, Try.ntmps11
          go_wp2_with (first | ((with_reducible refine gate_callee (f := 25) rfl ?_); refine goesL_ (some 25) rfl rfl Try.func25 (by kernel_rfl) rfl #[.int .u64 249, .int .i64 1] rfl (by (try simp only [List.map_toArray, List.map_cons, List.map_nil]); first | done | rfl | (simp only [List.length_drop, List.length_take]; rfl)) ?_; (with_reducible refine (moultref3_bytes.calls k 249 1 t158 _ A12.out).mono ?_); rintro e w15 ⟨rfl, hb⟩; refine ⟨_, rfl, ?_⟩; have n0_ := Aside0.mk (below_step (by repeat (first | (with_reducible first | exact HB.out | apply below_alloc | apply pw_below_drewN | apply below_drew1) | exact HB.out)) hb); clear HB; have HB := n0_; clear n0_; (try clear hb); (try clear hb2); (try clear hk); (try clear hi)) | ((with_reducible refine gate_callee (f := 25) rfl ?_); refine goesL_ (some 28) rfl rfl Try.func25 (by kernel_rfl) rfl #[.int .u64 (IntKind.u64.wrap (a0 - 2288)), .int .i64 2] rfl (by (try simp only [List.map_toArray, List.map_cons, List.map_nil]); first | done | rfl | (simp only [List.length_drop, List.length_take]; rfl)) ?_; (with_reducible refine (moultref3_bytes.calls k (IntKind.u64.wrap (a0 - 2288)) 2 t159 _ A13.out).mono ?_); rintro e w16 ⟨rfl, hb⟩; refine ⟨_, rfl, ?_⟩; have n0_ := Aside0.mk (below_step (by repeat (first | (with_reducible first | exact HB.out | apply below_alloc | apply pw_below_drewN | apply below_drew1) | exact HB.out)) hb); clear HB; have HB := n0_; clear n0_; (try clear hb); (try clear hb2); (try clear hk); (try clear hi)))
          all_goals go_ret
          all_goals exact ⟨by first | rfl | (simp [errW_none, errW_some] <;> rfl) | (simp [*, errW_none, errW_some] <;> rfl), by repeat (first | (with_reducible first | exact HB.out | apply below_alloc | apply pw_below_drewN | apply below_drew1) | exact HB.out)⟩
        · rw [if_neg c14] at H
          exact absurd H (by simp)
      · rw [if_neg c11] at H
        have c11b0 : decide (a0 ≤ 67823) = false := decide_eq_false c11
        clear c11
        replace H := Option.bind_eq_some_iff.mp H
        obtain ⟨t160, A170, H⟩ := H
        replace H : ((moultref3_bytes.f k (IntKind.u64.wrap (wrap64 (247 + t160))) 1).bind fun t161 => ((moultref3_bytes.f k a0 t160).bind fun t162 => (if t161.size + t162.size ≤ 9223372036854775807 then (some (t161 ++ t162)) else (none)))) = some r := H
        have A17 := Aside0.mk A170
        clear A170
        replace H := Option.bind_eq_some_iff.mp H
        obtain ⟨t161, A180, H⟩ := H
        replace H : ((moultref3_bytes.f k a0 t160).bind fun t162 => (if t161.size + t162.size ≤ 9223372036854775807 then (some (t161 ++ t162)) else (none))) = some r := H
        have A18 := Aside0.mk A180
        clear A180
        replace H := Option.bind_eq_some_iff.mp H
        obtain ⟨t162, A190, H⟩ := H
        replace H : (if t161.size + t162.size ≤ 9223372036854775807 then (some (t161 ++ t162)) else (none)) = some r := H
        have A19 := Aside0.mk A190
        clear A190
        by_cases c20 : t161.size + t162.size ≤ 9223372036854775807
        · rw [if_pos c20] at H
          have c20b0 := eq_true c20
          have c20b1 : decide (t161.size + t162.size ≤ 9223372036854775807) = true := decide_eq_true c20
          try have c20b2 : (9223372036854775807 < t161.size + t162.size) = False := eq_false (Nat.not_lt.2 c20)
          obtain rfl := Option.some.inj H
          go_enter Try.func11, Try.ntmps11
          go_wp2_with (first | ((with_reducible refine gate_callee (f := 26) rfl ?_); refine goesL_ (some 31) rfl rfl Try.func26 (by kernel_rfl) rfl #[.int .u64 a0] rfl (by (try simp only [List.map_toArray, List.map_cons, List.map_nil]); first | done | rfl | (simp only [List.length_drop, List.length_take]; rfl)) ?_; (with_reducible refine (moultref3_count.calls k a0 t160 _ A17.out).mono ?_); rintro e w21 ⟨rfl, hb⟩; refine ⟨_, rfl, ?_⟩; have n0_ := Aside0.mk (below_step (by repeat (first | (with_reducible first | exact HB.out | apply below_alloc | apply pw_below_drewN | apply below_drew1) | exact HB.out)) hb); clear HB; have HB := n0_; clear n0_; (try clear hb); (try clear hb2); (try clear hk); (try clear hi)) | ((with_reducible refine gate_callee (f := 25) rfl ?_); refine goesL_ (some 35) rfl rfl Try.func25 (by kernel_rfl) rfl #[.int .u64 (IntKind.u64.wrap (wrap64 (247 + t160))), .int .i64 1] rfl (by (try simp only [List.map_toArray, List.map_cons, List.map_nil]); first | done | rfl | (simp only [List.length_drop, List.length_take]; rfl)) ?_; (with_reducible refine (moultref3_bytes.calls k (IntKind.u64.wrap (wrap64 (247 + t160))) 1 t161 _ A18.out).mono ?_); rintro e w22 ⟨rfl, hb⟩; refine ⟨_, rfl, ?_⟩; have n0_ := Aside0.mk (below_step (by repeat (first | (with_reducible first | exact HB.out | apply below_alloc | apply pw_below_drewN | apply below_drew1) | exact HB.out)) hb); clear HB; have HB := n0_; clear n0_; (try clear hb); (try clear hb2); (try clear hk); (try clear hi)) | ((with_reducible refine gate_callee (f := 25) rfl ?_); refine goesL_ (some 38) rfl rfl Try.func25 (by kernel_rfl) rfl #[.int .u64 a0, .int .i64 t160] rfl (by (try simp only [List.map_toArray, List.map_cons, List.map_nil]); first | done | rfl | (simp only [List.length_drop, List.length_take]; rfl)) ?_; (with_reducible refine (moultref3_bytes.calls k a0 t160 t162 _ A19.out).mono ?_); rintro e w23 ⟨rfl, hb⟩; refine ⟨_, rfl, ?_⟩; have n0_ := Aside0.mk (below_step (by repeat (first | (with_reducible first | exact HB.out | apply below_alloc | apply pw_below_drewN | apply below_drew1) | exact HB.out)) hb); clear HB; have HB := n0_; clear n0_; (try clear hb); (try clear hb2); (try clear hk); (try clear hi)))
          all_goals go_ret
          all_goals exact ⟨by first | rfl | (simp [errW_none, errW_some] <;> rfl) | (simp [*, errW_none, errW_some] <;> rfl), by repeat (first | (with_reducible first | exact HB.out | apply below_alloc | apply pw_below_drewN | apply below_drew1) | exact HB.out)⟩
        · rw [if_neg c20] at H
          exact absurd H (by simp)

/-! ### moultlaw3_VarintPuts: function 3 -/
def moultlaw3_VarintPuts.f (k : Nat) (a0 : Int) : Option (Bool) := (moultlaw3_shown.f k).bind fun t163 => (if t163 = true then ((varint_Put.f a0).bind fun t164 => ((moultref3_Put.f k a0).bind fun t165 => (if t164.toList = t165.toList then ((varint_Size.f a0).bind fun t166 => (some (t166 == (t164.size : Int)))) else (some false)))) else (some false))
theorem moultlaw3_VarintPuts.mono : ∀ a0 k, LeO (moultlaw3_VarintPuts.f k a0) (moultlaw3_VarintPuts.f (k + 1) a0) := by
  intro a0 k
  unfold moultlaw3_VarintPuts.f
  repeat' first
      | (with_reducible exact moultlaw3_shown.mono _)
      | (with_reducible exact moultref3_Put.mono _ _)
      | (with_reducible exact LeO.refl _)
      | (with_reducible exact LeO.none _)
      | (with_reducible refine LeO.ite ?_ ?_)
      | (with_reducible refine LeO.bind ?_ (fun _ => ?_))
      | exact moultlaw3_shown.mono _
      | exact moultref3_Put.mono _ _
      | exact LeO.none _
      | refine LeO.ite ?_ ?_
      | refine LeO.bind ?_ (fun _ => ?_)
set_option maxHeartbeats 8000000 in
set_option maxRecDepth 100000 in
theorem moultlaw3_VarintPuts.calls (k : Nat) (a0 : Int) (r : Bool) (w : World) (h : moultlaw3_VarintPuts.f k a0 = some r) :
    Calls Try.prog 3 #[.int .u64 a0] w fun e w' => e = .returned (.bool r) ∧ Below w.heap.size w w' := by
  have HB := Aside0.mk (Below.refl w.heap.size w)
  have H : ((moultlaw3_shown.f k).bind fun t163 => (if t163 = true then ((varint_Put.f a0).bind fun t164 => ((moultref3_Put.f k a0).bind fun t165 => (if t164.toList = t165.toList then ((varint_Size.f a0).bind fun t166 => (some (t166 == (t164.size : Int)))) else (some false)))) else (some false))) = some r := h
  clear h
  replace H := Option.bind_eq_some_iff.mp H
  obtain ⟨t163, A20, H⟩ := H
  replace H : (if t163 = true then ((varint_Put.f a0).bind fun t164 => ((moultref3_Put.f k a0).bind fun t165 => (if t164.toList = t165.toList then ((varint_Size.f a0).bind fun t166 => (some (t166 == (t164.size : Int)))) else (some false)))) else (some false)) = some r := H
  have A2 := Aside0.mk A20
  clear A20
  by_cases c3 : t163 = true
  · subst c3
    have H1 : ((varint_Put.f a0).bind fun t164 => ((moultref3_Put.f k a0).bind fun t165 => (if t164.toList = t165.toList then ((varint_Size.f a0).bind fun t166 => (some (t166 == (t164.size : Int)))) else (some false)))) = some r := by rw [if_pos rfl] at H; exact H
    clear H
    have H := H1
    clear H1
    replace H := Option.bind_eq_some_iff.mp H
    obtain ⟨t164, A40, H⟩ := H
    replace H : ((moultref3_Put.f k a0).bind fun t165 => (if t164.toList = t165.toList then ((varint_Size.f a0).bind fun t166 => (some (t166 == (t164.size : Int)))) else (some false))) = some r := H
    have A4 := Aside0.mk A40
    clear A40
    replace H := Option.bind_eq_some_iff.mp H
    obtain ⟨t165, A50, H⟩ := H
    replace H : (if t164.toList = t165.toList then ((varint_Size.f a0).bind fun t166 => (some (t166 == (t164.size : Int)))) else (some false)) = some r := H
    have A5 := Aside0.mk A50
    clear A50
    by_cases c6 : t164.toList = t165.toList
    · rw [if_pos c6] at H
      have c6b0 : (t164.toList == t165.toList) = true := beq_iff_eq.mpr c6
      have c6b1 : (t164.toList != t165.toList) = false := bne_eq_false_iff_eq.mpr c6
      clear c6
      replace H := Option.bind_eq_some_iff.mp H
      obtain ⟨t166, A70, H⟩ := H
      replace H : (some (t166 == (t164.size : Int))) = some r := H
      have A7 := Aside0.mk A70
      clear A70
      obtain rfl := Option.some.inj H
      go_enter Try.func3, Try.ntmps3
      go_wp2_with (first | ((with_reducible refine gate_callee (f := 9) rfl ?_); refine goesL_ (some 5) rfl rfl Try.func9 (by kernel_rfl) rfl #[] rfl (by (try simp only [List.map_toArray, List.map_cons, List.map_nil]); first | done | rfl | (simp only [List.length_drop, List.length_take]; rfl)) ?_; (with_reducible refine (moultlaw3_shown.calls k  true _ A2.out).mono ?_); rintro e w8 ⟨rfl, hb⟩; refine ⟨_, rfl, ?_⟩; have n0_ := Aside0.mk (below_step (by repeat (first | (with_reducible first | exact HB.out | apply below_alloc | apply pw_below_drewN | apply below_drew1) | exact HB.out)) hb); clear HB; have HB := n0_; clear n0_; (try clear hb); (try clear hb2); (try clear hk); (try clear hi)) | ((with_reducible refine gate_callee (f := 10) rfl ?_); refine goesL_ (some 9) rfl rfl Try.func10 (by kernel_rfl) rfl #[.int .u64 a0] rfl (by (try simp only [List.map_toArray, List.map_cons, List.map_nil]); first | done | rfl | (simp only [List.length_drop, List.length_take]; rfl)) ?_; (with_reducible refine (varint_Put.calls a0 t164 _ A4.out).mono ?_); rintro e w9 ⟨rfl, hb⟩; refine ⟨_, rfl, ?_⟩; have n0_ := Aside0.mk (below_step (by repeat (first | (with_reducible first | exact HB.out | apply below_alloc | apply pw_below_drewN | apply below_drew1) | exact HB.out)) hb); clear HB; have HB := n0_; clear n0_; (try clear hb); (try clear hb2); (try clear hk); (try clear hi)) | ((with_reducible refine gate_callee (f := 11) rfl ?_); refine goesL_ (some 12) rfl rfl Try.func11 (by kernel_rfl) rfl #[.int .u64 a0] rfl (by (try simp only [List.map_toArray, List.map_cons, List.map_nil]); first | done | rfl | (simp only [List.length_drop, List.length_take]; rfl)) ?_; (with_reducible refine (moultref3_Put.calls k a0 t165 _ A5.out).mono ?_); rintro e w10 ⟨rfl, hb⟩; refine ⟨_, rfl, ?_⟩; have n0_ := Aside0.mk (below_step (by repeat (first | (with_reducible first | exact HB.out | apply below_alloc | apply pw_below_drewN | apply below_drew1) | exact HB.out)) hb); clear HB; have HB := n0_; clear n0_; (try clear hb); (try clear hb2); (try clear hk); (try clear hi)) | (go_at_call 12; (with_reducible refine (varint_Size.calls a0 t166 _ A7.out).mono ?_); rintro e w' ⟨rfl, ⟨nd, rfl⟩⟩))
      all_goals go_ret
      all_goals exact ⟨by first | rfl | (simp [errW_none, errW_some] <;> rfl) | (simp [*, errW_none, errW_some] <;> rfl), by repeat (first | (with_reducible first | exact HB.out | apply below_alloc | apply pw_below_drewN | apply below_drew1) | exact HB.out)⟩
    · rw [if_neg c6] at H
      have c6b0 : (t164.toList == t165.toList) = false := beq_eq_false_iff_ne.mpr c6
      have c6b1 : (t164.toList != t165.toList) = true := bne_iff_ne.mpr c6
      obtain rfl := Option.some.inj H
      go_enter Try.func3, Try.ntmps3
      go_wp2_with (first | ((with_reducible refine gate_callee (f := 9) rfl ?_); refine goesL_ (some 5) rfl rfl Try.func9 (by kernel_rfl) rfl #[] rfl (by (try simp only [List.map_toArray, List.map_cons, List.map_nil]); first | done | rfl | (simp only [List.length_drop, List.length_take]; rfl)) ?_; (with_reducible refine (moultlaw3_shown.calls k  true _ A2.out).mono ?_); rintro e w11 ⟨rfl, hb⟩; refine ⟨_, rfl, ?_⟩; have n0_ := Aside0.mk (below_step (by repeat (first | (with_reducible first | exact HB.out | apply below_alloc | apply pw_below_drewN | apply below_drew1) | exact HB.out)) hb); clear HB; have HB := n0_; clear n0_; (try clear hb); (try clear hb2); (try clear hk); (try clear hi)) | ((with_reducible refine gate_callee (f := 10) rfl ?_); refine goesL_ (some 9) rfl rfl Try.func10 (by kernel_rfl) rfl #[.int .u64 a0] rfl (by (try simp only [List.map_toArray, List.map_cons, List.map_nil]); first | done | rfl | (simp only [List.length_drop, List.length_take]; rfl)) ?_; (with_reducible refine (varint_Put.calls a0 t164 _ A4.out).mono ?_); rintro e w12 ⟨rfl, hb⟩; refine ⟨_, rfl, ?_⟩; have n0_ := Aside0.mk (below_step (by repeat (first | (with_reducible first | exact HB.out | apply below_alloc | apply pw_below_drewN | apply below_drew1) | exact HB.out)) hb); clear HB; have HB := n0_; clear n0_; (try clear hb); (try clear hb2); (try clear hk); (try clear hi)) | ((with_reducible refine gate_callee (f := 11) rfl ?_); refine goesL_ (some 12) rfl rfl Try.func11 (by kernel_rfl) rfl #[.int .u64 a0] rfl (by (try simp only [List.map_toArray, List.map_cons, List.map_nil]); first | done | rfl | (simp only [List.length_drop, List.length_take]; rfl)) ?_; (with_reducible refine (moultref3_Put.calls k a0 t165 _ A5.out).mono ?_); rintro e w13 ⟨rfl, hb⟩; refine ⟨_, rfl, ?_⟩; have n0_ := Aside0.mk (below_step (by repeat (first | (with_reducible first | exact HB.out | apply below_alloc | apply pw_below_drewN | apply below_drew1) | exact HB.out)) hb); clear HB; have HB := n0_; clear n0_; (try clear hb); (try clear hb2); (try clear hk); (try clear hi)))
      all_goals go_ret
      all_goals exact ⟨by first | rfl | (simp [errW_none, errW_some] <;> rfl) | (simp [*, errW_none, errW_some] <;> rfl), by repeat (first | (with_reducible first | exact HB.out | apply below_alloc | apply pw_below_drewN | apply below_drew1) | exact HB.out)⟩
  · replace c3 := Bool.eq_false_iff.mpr c3
    subst c3
    have H1 : (some false) = some r := by rw [if_neg (show ¬ (false = true) by decide)] at H; exact H
    clear H
    have H := H1
    clear H1
    obtain rfl := Option.some.inj H
    go_enter Try.func3, Try.ntmps3
    go_wp2_with (first | ((with_reducible refine gate_callee (f := 9) rfl ?_); refine goesL_ (some 5) rfl rfl Try.func9 (by kernel_rfl) rfl #[] rfl (by (try simp only [List.map_toArray, List.map_cons, List.map_nil]); first | done | rfl | (simp only [List.length_drop, List.length_take]; rfl)) ?_; (with_reducible refine (moultlaw3_shown.calls k  false _ A2.out).mono ?_); rintro e w14 ⟨rfl, hb⟩; refine ⟨_, rfl, ?_⟩; have n0_ := Aside0.mk (below_step (by repeat (first | (with_reducible first | exact HB.out | apply below_alloc | apply pw_below_drewN | apply below_drew1) | exact HB.out)) hb); clear HB; have HB := n0_; clear n0_; (try clear hb); (try clear hb2); (try clear hk); (try clear hi)))
    all_goals go_ret
    all_goals exact ⟨by first | rfl | (simp [errW_none, errW_some] <;> rfl) | (simp [*, errW_none, errW_some] <;> rfl), by repeat (first | (with_reducible first | exact HB.out | apply below_alloc | apply pw_below_drewN | apply below_drew1) | exact HB.out)⟩

/-- THE ONE PURE STATEMENT of moultlaw3_VarintPuts: yours. -/
def moultlaw3_VarintPuts.Pure : Prop := ∀ (a0 : Int), (Lit.int .u64 a0).wf = true → ∃ k, moultlaw3_VarintPuts.f k a0 = some true
theorem moultlaw3_VarintPuts.walk (P : moultlaw3_VarintPuts.Pure) (a0 : Int) (w : World) (w0 : (Lit.int .u64 a0).wf = true) :
    Calls Try.prog 3 #[.int .u64 a0] w fun e w' => e = .returned (.bool true) ∧ Below w.heap.size w w' := by
  obtain ⟨k, h⟩ := P a0 w0
  refine (moultlaw3_VarintPuts.calls k a0 true w h).mono ?_
  rintro e w' ⟨rfl, hd⟩
  exact ⟨rfl, hd⟩

end Go.Proofs.Ytaolidjfbgpccaa.P
