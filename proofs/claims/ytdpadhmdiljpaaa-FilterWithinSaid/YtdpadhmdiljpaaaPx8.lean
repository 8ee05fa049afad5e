-- Written by sprint.py (wip/tools) with the kit's print.py: a program's text, checked by Lean alone.
import Derived.Test.YtdpadhmdiljpaaaPx0
import Derived.Test.YtdpadhmdiljpaaaPx1
import Derived.Test.YtdpadhmdiljpaaaPx2
namespace Go.Proofs.Ytdpadhmdiljpaaa.P
open Go.RowKit Go.Proofs.Ytdpadhmdiljpaaa.Fp Go.Proofs.YtdpadhmdiljpaaaW.PrintWords Go.Proofs.YtdpadhmdiljpaaaW.PrintLast Go.Proofs.YtdpadhmdiljpaaaW.PrintMore
attribute [local go_sem] max2_int min2_int max_two min_two max_three min_three max_four min_four   -- for this text's walks alone
set_option linter.unusedVariables false
set_option linter.unusedSimpArgs false

/-! ### moultlaw9_FilterWithin: function 8 -/
mutual
def moultlaw9_FilterWithin.j0 : Nat → ByteArray → Int → Bool → Bool → Option (Bool)
  | 0, _, _, _, _ => none
  | k + 1, x0, x1, x5, x21 => if x21 = true then (some x5) else ((filter_Places.f k x0 x1).bind fun t227 => (if x1 < 1 then (some ((t227.length : Int) == 0)) else (moultlaw9_FilterWithin.l0 k x0 x1 t227 0)))
def moultlaw9_FilterWithin.l0 : Nat → ByteArray → Int → List Int → Int → Option (Bool)
  | 0, _, _, _, _ => none
  | k + 1, x0, x1, x6, x7 => if x7 < (x6.length : Int) then (if 0 ≤ x7 then (if (rd x6 x7) < 0 then (some false) else (if (rd x6 x7) ≥ x1 then (some false) else (moultlaw9_FilterWithin.l0 k x0 x1 x6 (wrap64 (x7 + 1))))) else (none)) else ((filter_Build.f (([x0] : List ByteArray))).bind fun t235 => ((filter_Places.f k x0 64).bind fun t236 => ((filter_Full.f k t235).bind fun bt239 => (moultlaw9_FilterWithin.l1 k x6 t235 t236 bt239.1 bt239.2 0 0))))
def moultlaw9_FilterWithin.l1 : Nat → List Int → ByteArray → List Int → Int → Int → Int → Int → Option (Bool)
  | 0, _, _, _, _, _, _, _ => none
  | k + 1, x6, x8, x9, x10, x11, x12, x13 => if x13 < 64 then (if 0 ≤ (wrap64 (Int.tdiv x13 8)) then (if (wrap64 (Int.tdiv x13 8)) < (x8.size : Int) then (if 0 ≤ (Int.tmod x13 8) then (if (Int.tmod (shr .u8 (bt x8 (wrap64 (Int.tdiv x13 8))) (Int.tmod x13 8)) 2) = 0 then (moultlaw9_FilterWithin.l1 k x6 x8 x9 x10 x11 x12 (wrap64 (x13 + 1))) else (if 0 < (x9.length : Int) then (if x13 = (rd x9 0) then (moultlaw9_FilterWithin.l1 k x6 x8 x9 x10 x11 (wrap64 (x12 + 1)) (wrap64 (x13 + 1))) else (if 1 < (x9.length : Int) then (if x13 = (rd x9 1) then (moultlaw9_FilterWithin.l1 k x6 x8 x9 x10 x11 (wrap64 (x12 + 1)) (wrap64 (x13 + 1))) else (if 2 < (x9.length : Int) then (if x13 = (rd x9 2) then (moultlaw9_FilterWithin.l1 k x6 x8 x9 x10 x11 (wrap64 (x12 + 1)) (wrap64 (x13 + 1))) else (if 3 < (x9.length : Int) then (if x13 = (rd x9 3) then (moultlaw9_FilterWithin.l1 k x6 x8 x9 x10 x11 (wrap64 (x12 + 1)) (wrap64 (x13 + 1))) else (some false)) else (none))) else (none))) else (none))) else (none))) else (none)) else (none)) else (none)) else (if (x6.length : Int) = 4 then (if (x8.size : Int) = 8 then (if x10 = x12 then (some (x11 == 64)) else (some false)) else (some false)) else (some false))
end
def moultlaw9_FilterWithin.f (k : Nat) (a0 : ByteArray) (a1 : Int) : Option (Bool) := (moultlaw9_shown.f k).bind fun t226 => (if t226 = true then (moultlaw9_FilterWithin.j0 k a0 a1 t226 (decide ((a0.size : Int) > 2000))) else (moultlaw9_FilterWithin.j0 k a0 a1 t226 true))
theorem moultlaw9_FilterWithin.mono_l : ∀ k, (∀ y0 y1 y2 y3, LeO (moultlaw9_FilterWithin.j0 k y0 y1 y2 y3) (moultlaw9_FilterWithin.j0 (k + 1) y0 y1 y2 y3)) ∧ (∀ y0 y1 y2 y3, LeO (moultlaw9_FilterWithin.l0 k y0 y1 y2 y3) (moultlaw9_FilterWithin.l0 (k + 1) y0 y1 y2 y3)) ∧ (∀ y0 y1 y2 y3 y4 y5 y6, LeO (moultlaw9_FilterWithin.l1 k y0 y1 y2 y3 y4 y5 y6) (moultlaw9_FilterWithin.l1 (k + 1) y0 y1 y2 y3 y4 y5 y6))
  | 0 => ⟨fun _ _ _ _ r h => by simp [moultlaw9_FilterWithin.j0] at h, fun _ _ _ _ r h => by simp [moultlaw9_FilterWithin.l0] at h, fun _ _ _ _ _ _ _ r h => by simp [moultlaw9_FilterWithin.l1] at h⟩
  | k + 1 => by
    obtain ⟨ih0, ih1, ih2⟩ := moultlaw9_FilterWithin.mono_l k
    refine ⟨?_, ?_, ?_⟩
    · intro y0 y1 y2 y3
      unfold moultlaw9_FilterWithin.j0
      repeat' first
      | (with_reducible exact ih0 _ _ _ _)
      | (with_reducible exact ih1 _ _ _ _)
      | (with_reducible exact ih2 _ _ _ _ _ _ _)
      | (with_reducible exact filter_Full.mono _ _)
      | (with_reducible exact filter_Places.mono _ _ _)
      | (with_reducible exact moultlaw9_shown.mono _)
      | (with_reducible exact LeO.refl _)
      | (with_reducible exact LeO.none _)
      | (with_reducible refine LeO.ite ?_ ?_)
      | (with_reducible refine LeO.bind ?_ (fun _ => ?_))
      | exact ih0 _ _ _ _
      | exact ih1 _ _ _ _
      | exact ih2 _ _ _ _ _ _ _
      | exact filter_Full.mono _ _
      | exact filter_Places.mono _ _ _
      | exact moultlaw9_shown.mono _
      | exact LeO.none _
      | refine LeO.ite ?_ ?_
      | refine LeO.bind ?_ (fun _ => ?_)
    · intro y0 y1 y2 y3
      unfold moultlaw9_FilterWithin.l0
      repeat' first
      | (with_reducible exact ih0 _ _ _ _)
      | (with_reducible exact ih1 _ _ _ _)
      | (with_reducible exact ih2 _ _ _ _ _ _ _)
      | (with_reducible exact filter_Full.mono _ _)
      | (with_reducible exact filter_Places.mono _ _ _)
      | (with_reducible exact moultlaw9_shown.mono _)
      | (with_reducible exact LeO.refl _)
      | (with_reducible exact LeO.none _)
      | (with_reducible refine LeO.ite ?_ ?_)
      | (with_reducible refine LeO.bind ?_ (fun _ => ?_))
      | exact ih0 _ _ _ _
      | exact ih1 _ _ _ _
      | exact ih2 _ _ _ _ _ _ _
      | exact filter_Full.mono _ _
      | exact filter_Places.mono _ _ _
      | exact moultlaw9_shown.mono _
      | exact LeO.none _
      | refine LeO.ite ?_ ?_
      | refine LeO.bind ?_ (fun _ => ?_)
    · intro y0 y1 y2 y3 y4 y5 y6
      unfold moultlaw9_FilterWithin.l1
      repeat' first
      | (with_reducible exact ih0 _ _ _ _)
      | (with_reducible exact ih1 _ _ _ _)
      | (with_reducible exact ih2 _ _ _ _ _ _ _)
      | (with_reducible exact filter_Full.mono _ _)
      | (with_reducible exact filter_Places.mono _ _ _)
      | (with_reducible exact moultlaw9_shown.mono _)
      | (with_reducible exact LeO.refl _)
      | (with_reducible exact LeO.none _)
      | (with_reducible refine LeO.ite ?_ ?_)
      | (with_reducible refine LeO.bind ?_ (fun _ => ?_))
      | exact ih0 _ _ _ _
      | exact ih1 _ _ _ _
      | exact ih2 _ _ _ _ _ _ _
      | exact filter_Full.mono _ _
      | exact filter_Places.mono _ _ _
      | exact moultlaw9_shown.mono _
      | exact LeO.none _
      | refine LeO.ite ?_ ?_
      | refine LeO.bind ?_ (fun _ => ?_)
theorem moultlaw9_FilterWithin.mono : ∀ a0 a1 k, LeO (moultlaw9_FilterWithin.f k a0 a1) (moultlaw9_FilterWithin.f (k + 1) a0 a1) := by
  intro a0 a1 k
  obtain ⟨ih0, ih1, ih2⟩ := moultlaw9_FilterWithin.mono_l k
  unfold moultlaw9_FilterWithin.f
  repeat' first
      | (with_reducible exact ih0 _ _ _ _)
      | (with_reducible exact ih1 _ _ _ _)
      | (with_reducible exact ih2 _ _ _ _ _ _ _)
      | (with_reducible exact filter_Full.mono _ _)
      | (with_reducible exact filter_Places.mono _ _ _)
      | (with_reducible exact moultlaw9_shown.mono _)
      | (with_reducible exact LeO.refl _)
      | (with_reducible exact LeO.none _)
      | (with_reducible refine LeO.ite ?_ ?_)
      | (with_reducible refine LeO.bind ?_ (fun _ => ?_))
      | exact ih0 _ _ _ _
      | exact ih1 _ _ _ _
      | exact ih2 _ _ _ _ _ _ _
      | exact filter_Full.mono _ _
      | exact filter_Places.mono _ _ _
      | exact moultlaw9_shown.mono _
      | exact LeO.none _
      | refine LeO.ite ?_ ?_
      | refine LeO.bind ?_ (fun _ => ?_)
set_option maxHeartbeats 8000000 in
set_option maxRecDepth 100000 in
theorem moultlaw9_FilterWithin.calls (k : Nat) (a0 : ByteArray) (a1 : Int) (r : Bool) (w : World) (h : moultlaw9_FilterWithin.f k a0 a1 = some r) :
    Calls Try.prog 8 #[.string a0, .int .i64 a1] w fun e w' => e = .returned (.bool r) ∧ Below w.heap.size w w' := by
  have HB := Aside0.mk (Below.refl w.heap.size w)
  have H : ((moultlaw9_shown.f k).bind fun t226 => (if t226 = true then (moultlaw9_FilterWithin.j0 k a0 a1 t226 (decide ((a0.size : Int) > 2000))) else (moultlaw9_FilterWithin.j0 k a0 a1 t226 true))) = some r := h
  clear h
  replace H := Option.bind_eq_some_iff.mp H
  obtain ⟨t226, A30, H⟩ := H
  replace H : (if t226 = true then (moultlaw9_FilterWithin.j0 k a0 a1 t226 (decide ((a0.size : Int) > 2000))) else (moultlaw9_FilterWithin.j0 k a0 a1 t226 true)) = some r := H
  have A3 := Aside0.mk A30
  clear A30
  have HC4 := Aside0.mk H
  clear H
  go_enter Try.func8, Try.ntmps8
  go_upto_region 2 with (first | ((with_reducible refine gate_callee (f := 9) rfl ?_); refine goesL_ (some 14) rfl rfl Try.func9 (by kernel_rfl) rfl #[] rfl (by (try simp only [List.map_toArray, List.map_cons, List.map_nil]); first | done | rfl | (simp only [List.length_drop, List.length_take]; rfl)) ?_; (with_reducible refine (moultlaw9_shown.calls k  t226 _ A3.out).mono ?_); rintro e w5 ⟨rfl, hb⟩; refine ⟨_, rfl, ?_⟩; have n0_ := Aside0.mk (below_step (by repeat (first | (with_reducible first | exact HB.out | apply below_alloc | apply pw_below_drewN | apply below_drew1) | exact HB.out)) hb); clear HB; have HB := n0_; clear n0_; (try clear hb); (try clear hb2); (try clear hk); (try clear hi)))
  (try simp only [Act.put, List.setIfInBounds_toArray, List.set_cons_zero, List.set_cons_succ])
  go_cut [21] (fun v21 wc => ∃ (kq : Nat) (x21_3 : Bool), v21 = .bool x21_3 ∧ Aside0 (moultlaw9_FilterWithin.j0 kq a0 a1 t226 x21_3 = some r) ∧ Aside0 (kq ≤ k) ∧ Aside0 (Below w.heap.size w wc))
  case first =>
    have H := HC4.out
    clear HC4
    by_cases c6 : t226 = true
    · subst c6
      have H1 : (moultlaw9_FilterWithin.j0 k a0 a1 true (decide ((a0.size : Int) > 2000))) = some r := by rw [if_pos rfl] at H; exact H
      clear H
      have H := H1
      clear H1
      have H' := Aside0.mk H
      clear H
      go_wp2
      go_meet
      case rel => exact ⟨_, (decide ((a0.size : Int) > 2000)), (by first | rfl | (simp; done) | (simp [*]; done)), H', ⟨by first | omega | exact Nat.le_refl _⟩, ⟨by repeat (first | (with_reducible first | exact HB.out | apply below_alloc | apply pw_below_drewN | apply below_drew1) | exact HB.out)⟩⟩
    · replace c6 := Bool.eq_false_iff.mpr c6
      subst c6
      have H1 : (moultlaw9_FilterWithin.j0 k a0 a1 false true) = some r := by rw [if_neg (show ¬ (false = true) by decide)] at H; exact H
      clear H
      have H := H1
      clear H1
      have H' := Aside0.mk H
      clear H
      go_wp2
      go_meet
      case rel => exact ⟨_, (true), (by first | rfl | (simp; done) | (simp [*]; done)), H', ⟨by first | omega | exact Nat.le_refl _⟩, ⟨by repeat (first | (with_reducible first | exact HB.out | apply below_alloc | apply pw_below_drewN | apply below_drew1) | exact HB.out)⟩⟩
  case rest =>
    clear HC4
    try clear p2
    try clear c6
    obtain ⟨kq, x21_3, rfl, HA, HJ3, HB⟩ := hcut
    cases kq with
    | zero => exact absurd HA.out (by simp [moultlaw9_FilterWithin.j0])
    | succ kj3 =>
      have H := HA.out
      clear HA
      simp only [moultlaw9_FilterWithin.j0] at H
      by_cases c7 : x21_3 = true
      · subst c7
        have H1 : (some t226) = some r := by rw [if_pos rfl] at H; exact H
        clear H
        have H := H1
        clear H1
        obtain rfl := Option.some.inj H
        go_wp2
        go_ret
        exact ⟨by first | rfl | (simp [errW_none, errW_some] <;> rfl) | (simp [*, errW_none, errW_some] <;> rfl), by repeat (first | (with_reducible first | exact HB.out | apply below_alloc | apply pw_below_drewN | apply below_drew1) | exact HB.out)⟩
      · replace c7 := Bool.eq_false_iff.mpr c7
        subst c7
        have H1 : ((filter_Places.f kj3 a0 a1).bind fun t227 => (if a1 < 1 then (some ((t227.length : Int) == 0)) else (moultlaw9_FilterWithin.l0 kj3 a0 a1 t227 0))) = some r := by rw [if_neg (show ¬ (false = true) by decide)] at H; exact H
        clear H
        have H := H1
        clear H1
        replace H := Option.bind_eq_some_iff.mp H
        obtain ⟨t227, A80, H⟩ := H
        replace H : (if a1 < 1 then (some ((t227.length : Int) == 0)) else (moultlaw9_FilterWithin.l0 kj3 a0 a1 t227 0)) = some r := H
        have A8 := Aside0.mk A80
        clear A80
        by_cases c9 : a1 < 1
        · rw [if_pos c9] at H
          have c9b0 : decide (a1 < 1) = true := decide_eq_true c9
          clear c9
          obtain rfl := Option.some.inj H
          go_wp2_with (first | ((with_reducible refine gate_callee (f := 13) rfl ?_); refine goesL_ (some 25) rfl rfl Try.func13 (by kernel_rfl) rfl #[.string a0, .int .i64 a1] rfl (by (try simp only [List.map_toArray, List.map_cons, List.map_nil]); first | done | rfl | (simp only [List.length_drop, List.length_take]; rfl)) ?_; (with_reducible refine (filter_Places.calls kj3 a0 a1 t227 _ A8.out).mono ?_); rintro e w10 ⟨v228, rfl, ho0, hb⟩; refine ⟨_, rfl, ?_⟩; have n0_ := Aside0.mk (Kd.R_lower ho0 (below_size (by repeat (first | (with_reducible first | exact HB.out | apply below_alloc | apply pw_below_drewN | apply below_drew1) | exact HB.out)))); have n1_ := Aside0.mk (below_step (by repeat (first | (with_reducible first | exact HB.out | apply below_alloc | apply pw_below_drewN | apply below_drew1) | exact HB.out)) hb); clear HB; have HO229 := n0_; have HB := n1_; clear n0_ n1_; (try clear hb); (try clear hb2); (try clear hk); (try clear hi); (try clear ho0); obtain ⟨Ao11, co11, eo11⟩ := Kd.R_slice HO229.out; subst eo11))
          go_ret
          exact ⟨by first | rfl | (simp [errW_none, errW_some] <;> rfl) | (simp [*, errW_none, errW_some] <;> rfl), by repeat (first | (with_reducible first | exact HB.out | apply below_alloc | apply pw_below_drewN | apply below_drew1) | exact HB.out)⟩
        · rw [if_neg c9] at H
          have c9b0 : decide (a1 < 1) = false := decide_eq_false c9
          clear c9
          have H' := Aside0.mk H
          clear H
          go_wp2_with (first | ((with_reducible refine gate_callee (f := 13) rfl ?_); refine goesL_ (some 25) rfl rfl Try.func13 (by kernel_rfl) rfl #[.string a0, .int .i64 a1] rfl (by (try simp only [List.map_toArray, List.map_cons, List.map_nil]); first | done | rfl | (simp only [List.length_drop, List.length_take]; rfl)) ?_; (with_reducible refine (filter_Places.calls kj3 a0 a1 t227 _ A8.out).mono ?_); rintro e w12 ⟨v228, rfl, ho0, hb⟩; refine ⟨_, rfl, ?_⟩; have n0_ := Aside0.mk (Kd.R_lower ho0 (below_size (by repeat (first | (with_reducible first | exact HB.out | apply below_alloc | apply pw_below_drewN | apply below_drew1) | exact HB.out)))); have n1_ := Aside0.mk (below_step (by repeat (first | (with_reducible first | exact HB.out | apply below_alloc | apply pw_below_drewN | apply below_drew1) | exact HB.out)) hb); clear HB; have HO229 := n0_; have HB := n1_; clear n0_ n1_; (try clear hb); (try clear hb2); (try clear hk); (try clear hi); (try clear ho0)))
          go_loopg [7] kj3 (fun kq v7 w' => ∃ (x7_2 : Int), v7 = .int .i64 x7_2 ∧ Aside0 (moultlaw9_FilterWithin.l0 kq a0 a1 t227 x7_2 = some r) ∧ Aside0 (kq ≤ kj3) ∧ Aside0 (Kd.R (Kd.int .i64) 3 w' w.heap.size (fun _ => True) v228 t227) ∧ Aside0 (Below w.heap.size w w'))
          case atStart => exact ⟨(0), (by first | rfl | (simp; done) | (simp [*]; done)), H', ⟨Nat.le_refl _⟩, ⟨by (with_reducible repeat (first | apply Kd.R_alloc | apply Kd.R_drewN | apply Kd.R_drew)); exact HO229.out⟩, ⟨by repeat (first | (with_reducible first | exact HB.out | apply below_alloc | apply pw_below_drewN | apply below_drew1) | exact HB.out)⟩⟩
          case round =>
            clear H'
            try clear c1
            try clear p2
            try clear c6
            try clear c7
            try clear c8
            try clear c9
            try clear c9b0
            try clear p2
            obtain ⟨x7_2, rfl, HA, HK2, HO_6, HB⟩ := hrel
            cases gk with
            | zero => exact absurd HA.out (by simp [moultlaw9_FilterWithin.l0])
            | succ k2 =>
              have H := HA.out
              clear HA
              simp only [moultlaw9_FilterWithin.l0] at H
              by_cases c13 : x7_2 < (t227.length : Int)
              · rw [if_pos c13] at H
                have c13b0 : decide (x7_2 < (t227.length : Int)) = true := decide_eq_true c13
                clear c13
                by_cases c14 : 0 ≤ x7_2
                · rw [if_pos c14] at H
                  have c14b0 : decide (0 ≤ x7_2) = true := decide_eq_true c14
                  clear c14
                  by_cases c15 : (rd t227 x7_2) < 0
                  · rw [if_pos c15] at H
                    have c15b0 : decide ((rd t227 x7_2) < 0) = true := decide_eq_true c15
                    clear c15
                    obtain rfl := Option.some.inj H
                    obtain ⟨Ao16, co16, eo16⟩ := Kd.R_slice HO_6.out
                    subst eo16
                    have p230 : 0 ≤ (x7_2 : Int) := of_decide_eq_true (by first | (with_reducible assumption) | assumption)
                    have q230 : x7_2 < (t227.length : Int) := of_decide_eq_true (by first | (with_reducible assumption) | assumption)
                    obtain ⟨ad230, e230, hx230_0⟩ := Kd.at_int (Kd.R_reads' HO_6.out).2.2 x7_2 p230 q230
                    cases e230
                    replace p230 := eq_true p230
                    replace q230 := eq_true q230
                    go_wp2
                    go_ret
                    exact ⟨by first | rfl | (simp [errW_none, errW_some] <;> rfl) | (simp [*, errW_none, errW_some] <;> rfl), by repeat (first | (with_reducible first | exact HB.out | apply below_alloc | apply pw_below_drewN | apply below_drew1) | exact HB.out)⟩
                  · rw [if_neg c15] at H
                    have c15b0 : decide ((rd t227 x7_2) < 0) = false := decide_eq_false c15
                    clear c15
                    by_cases c17 : (rd t227 x7_2) ≥ a1
                    · rw [if_pos c17] at H
                      have c17b0 : decide (a1 ≤ (rd t227 x7_2)) = true := decide_eq_true c17
                      clear c17
                      obtain rfl := Option.some.inj H
                      obtain ⟨Ao18, co18, eo18⟩ := Kd.R_slice HO_6.out
                      subst eo18
                      have p230 : 0 ≤ (x7_2 : Int) := of_decide_eq_true (by first | (with_reducible assumption) | assumption)
                      have q230 : x7_2 < (t227.length : Int) := of_decide_eq_true (by first | (with_reducible assumption) | assumption)
                      obtain ⟨ad230, e230, hx230_0⟩ := Kd.at_int (Kd.R_reads' HO_6.out).2.2 x7_2 p230 q230
                      cases e230
                      replace p230 := eq_true p230
                      replace q230 := eq_true q230
                      have p231 : 0 ≤ (x7_2 : Int) := of_decide_eq_true (by first | (with_reducible assumption) | assumption)
                      have q231 : x7_2 < (t227.length : Int) := of_decide_eq_true (by first | (with_reducible assumption) | assumption)
                      obtain ⟨ad231, e231, hx231_0⟩ := Kd.at_int (Kd.R_reads' HO_6.out).2.2 x7_2 p231 q231
                      obtain rfl : ad230 = ad231 := (by injection e231)
                      replace p231 := eq_true p231
                      replace q231 := eq_true q231
                      go_wp2
                      go_ret
                      exact ⟨by first | rfl | (simp [errW_none, errW_some] <;> rfl) | (simp [*, errW_none, errW_some] <;> rfl), by repeat (first | (with_reducible first | exact HB.out | apply below_alloc | apply pw_below_drewN | apply below_drew1) | exact HB.out)⟩
                    · rw [if_neg c17] at H
                      have c17b0 : decide (a1 ≤ (rd t227 x7_2)) = false := decide_eq_false c17
                      clear c17
                      have H' := Aside0.mk H
                      clear H
                      obtain ⟨Ao19, co19, eo19⟩ := Kd.R_slice HO_6.out
                      subst eo19
                      have p230 : 0 ≤ (x7_2 : Int) := of_decide_eq_true (by first | (with_reducible assumption) | assumption)
                      have q230 : x7_2 < (t227.length : Int) := of_decide_eq_true (by first | (with_reducible assumption) | assumption)
                      obtain ⟨ad230, e230, hx230_0⟩ := Kd.at_int (Kd.R_reads' HO_6.out).2.2 x7_2 p230 q230
                      cases e230
                      replace p230 := eq_true p230
                      replace q230 := eq_true q230
                      have p231 : 0 ≤ (x7_2 : Int) := of_decide_eq_true (by first | (with_reducible assumption) | assumption)
                      have q231 : x7_2 < (t227.length : Int) := of_decide_eq_true (by first | (with_reducible assumption) | assumption)
                      obtain ⟨ad231, e231, hx231_0⟩ := Kd.at_int (Kd.R_reads' HO_6.out).2.2 x7_2 p231 q231
                      obtain rfl : ad230 = ad231 := (by injection e231)
                      replace p231 := eq_true p231
                      replace q231 := eq_true q231
                      go_wp2
                      go_roundg k2
                      case measure => have := HJ3.out; have := HK2.out; omega
                      case rel => exact ⟨(wrap64 (x7_2 + 1)), (by first | rfl | (simp; done) | (simp [*]; done)), H', ⟨by have := HJ3.out; have := HK2.out; omega⟩, ⟨by (with_reducible repeat (first | apply Kd.R_alloc | apply Kd.R_drewN | apply Kd.R_drew)); exact HO_6.out⟩, ⟨by repeat (first | (with_reducible first | exact HB.out | apply below_alloc | apply pw_below_drewN | apply below_drew1) | exact HB.out)⟩⟩
                · rw [if_neg c14] at H
                  exact absurd H (by simp)
              · rw [if_neg c13] at H
                have c13b0 : decide (x7_2 < (t227.length : Int)) = false := decide_eq_false c13
                clear c13
                obtain ⟨y232, hy232⟩ : ∃ y_ : List ByteArray, y_ = (([a0] : List ByteArray)) := ⟨_, rfl⟩
                replace H : ((filter_Build.f y232).bind fun t235 => ((filter_Places.f k2 a0 64).bind fun t236 => ((filter_Full.f k2 t235).bind fun bt239 => (moultlaw9_FilterWithin.l1 k2 t227 t235 t236 bt239.1 bt239.2 0 0)))) = some r := by first | (rw [hy232]; with_reducible exact H) | (have H2_ := (Option.bind_some _ _).symm.trans H; rw [hy232]; with_reducible exact H2_) | (have H2_ := (Option.bind_some _ _).symm.trans H; with_reducible exact H2_) | with_reducible exact H | (rw [hy232]; exact H) | exact H
                have Ny232 := Aside0.mk hy232
                clear hy232
                replace H := Option.bind_eq_some_iff.mp H
                obtain ⟨t235, A200, H⟩ := H
                replace H : ((filter_Places.f k2 a0 64).bind fun t236 => ((filter_Full.f k2 t235).bind fun bt239 => (moultlaw9_FilterWithin.l1 k2 t227 t235 t236 bt239.1 bt239.2 0 0))) = some r := H
                have A20 := Aside0.mk A200
                clear A200
                replace H := Option.bind_eq_some_iff.mp H
                obtain ⟨t236, A210, H⟩ := H
                replace H : ((filter_Full.f k2 t235).bind fun bt239 => (moultlaw9_FilterWithin.l1 k2 t227 t235 t236 bt239.1 bt239.2 0 0)) = some r := H
                have A21 := Aside0.mk A210
                clear A210
                replace H := Option.bind_eq_some_iff.mp H
                obtain ⟨⟨t239, t240⟩, A220, H⟩ := H
                replace H : (moultlaw9_FilterWithin.l1 k2 t227 t235 t236 t239 t240 0 0) = some r := H
                have A22 := Aside0.mk A220
                clear A220
                have H' := Aside0.mk H
                clear H
                obtain ⟨Ao23, co23, eo23⟩ := Kd.R_slice HO_6.out
                subst eo23
                go_wp2_with (first | ((with_reducible refine gate_dst (N := 51) rfl ?_); (try (refine gate_guard (by rfl) ?_; dsimp only)); refine Kd.R_lit Kd.string _ 9 ?hg (N := 51) ?hd (xs := ([a0] : List ByteArray)) (inner := [.string a0]) (ok := fun _ => True) (okp := fun _ => True) ?hr ?hp (fun _ hk => hk) trivial (Below.refl _ _) (Nat.le_refl _) (by simp) ?_; (case hd => rfl); (case hg => rfl); (case hr => first | (go_simp; done) | (go_simp; rfl)); (case hp => exact (Reps.one (show Kd.M Kd.string _ _ _ a0 [.string a0] from rfl) (Reps.none _ _))); intro v233 w24 ho25 hb hg_ hnew_; clear hg_ hnew_; (first | rw [← Ny232.out] at ho25 | (simp only [Int.reduceToNat] at ho25; rw [← Ny232.out] at ho25)); have n0_ := Aside0.mk (Kd.R_below (by (with_reducible repeat (first | apply Kd.R_alloc | apply Kd.R_drewN | apply Kd.R_drew)); exact HO_6.out) hb); have n1_ := Aside0.mk (Kd.R_lower ho25 (below_size (by repeat (first | (with_reducible first | exact HB.out | apply below_alloc | apply pw_below_drewN | apply below_drew1) | exact HB.out)))); have n2_ := Aside0.mk (below_step (by repeat (first | (with_reducible first | exact HB.out | apply below_alloc | apply pw_below_drewN | apply below_drew1) | exact HB.out)) hb); clear HO_6; clear HB; have HO_6 := n0_; have HO234 := n1_; have HB := n2_; clear n0_ n1_ n2_; clear hb ho25; obtain ⟨Ao26, co26, eo26⟩ := Kd.R_slice HO234.out; subst eo26) | ((with_reducible refine gate_callee (f := 16) rfl ?_); refine goesL_ (some 52) rfl rfl Try.func16 (by kernel_rfl) rfl #[.slice Ao26 y232.length co26] rfl (by (try simp only [List.map_toArray, List.map_cons, List.map_nil]); first | done | rfl | (simp only [List.length_drop, List.length_take]; rfl)) ?_; (with_reducible refine (filter_Build.calls _ _ y232 t235 _ ?side1 ?side2 A20.out).mono ?_); (case side1 => repeat (first | exact (Kd.R_reads' HO234.out).2.2 | (with_reducible refine Kd.C_alloc ?_ _) | (with_reducible refine Kd.C_drewN ?_ _) | (with_reducible refine Kd.C_drew ?_))); (case side2 => exact (Kd.R_reads' HO234.out).2.1); rintro e w27 ⟨rfl, hb⟩; refine ⟨_, rfl, ?_⟩; have n0_ := Aside0.mk (Kd.R_below (by (with_reducible repeat (first | apply Kd.R_alloc | apply Kd.R_drewN | apply Kd.R_drew)); exact HO_6.out) hb); have n1_ := Aside0.mk (Kd.R_below (by (with_reducible repeat (first | apply Kd.R_alloc | apply Kd.R_drewN | apply Kd.R_drew)); exact HO234.out) hb); have n2_ := Aside0.mk (below_step (by repeat (first | (with_reducible first | exact HB.out | apply below_alloc | apply pw_below_drewN | apply below_drew1) | exact HB.out)) hb); clear HO_6; clear HO234; clear HB; have HO_6 := n0_; have HO234 := n1_; have HB := n2_; clear n0_ n1_ n2_; (try clear hb); (try clear hb2); (try clear hk); (try clear hi)) | ((with_reducible refine gate_callee (f := 13) rfl ?_); refine goesL_ (some 54) rfl rfl Try.func13 (by kernel_rfl) rfl #[.string a0, .int .i64 64] rfl (by (try simp only [List.map_toArray, List.map_cons, List.map_nil]); first | done | rfl | (simp only [List.length_drop, List.length_take]; rfl)) ?_; (with_reducible refine (filter_Places.calls k2 a0 64 t236 _ A21.out).mono ?_); rintro e w28 ⟨v237, rfl, ho0, hb⟩; refine ⟨_, rfl, ?_⟩; have n0_ := Aside0.mk (Kd.R_elder' (by (with_reducible repeat (first | apply Kd.R_alloc | apply Kd.R_drewN | apply Kd.R_drew)); exact HO_6.out) (Kd.R_base ho0) hb); have n1_ := Aside0.mk (Kd.R_below (by (with_reducible repeat (first | apply Kd.R_alloc | apply Kd.R_drewN | apply Kd.R_drew)); exact HO234.out) hb); have n2_ := Aside0.mk (Kd.R_lower (Kd.R_new' ho0 (Kd.R_lt (by (with_reducible repeat (first | apply Kd.R_alloc | apply Kd.R_drewN | apply Kd.R_drew)); exact HO_6.out))) (below_size (by repeat (first | (with_reducible first | exact HB.out | apply below_alloc | apply pw_below_drewN | apply below_drew1) | exact HB.out)))); have n3_ := Aside0.mk (below_step (by repeat (first | (with_reducible first | exact HB.out | apply below_alloc | apply pw_below_drewN | apply below_drew1) | exact HB.out)) hb); clear HO_6; clear HO234; clear HB; have HO_6 := n0_; have HO234 := n1_; have HO238 := n2_; have HB := n3_; clear n0_ n1_ n2_ n3_; (try clear hb); (try clear hb2); (try clear hk); (try clear hi); (try clear ho0)) | ((with_reducible refine gate_callee (f := 17) rfl ?_); refine goesL_ (some 57) rfl rfl Try.func17 (by kernel_rfl) rfl #[.string t235] rfl (by (try simp only [List.map_toArray, List.map_cons, List.map_nil]); first | done | rfl | (simp only [List.length_drop, List.length_take]; rfl)) ?_; (with_reducible refine (filter_Full.calls k2 t235 t239 t240 _ A22.out).mono ?_); rintro e w' ⟨rfl, ⟨nd, rfl⟩⟩; refine ⟨_, rfl, ?_⟩))
                go_loopg [12, 13] k2 (fun kq v12 v13 w' => ∃ (x12_3 : Int) (x13_3 : Int), v12 = .int .i64 x12_3 ∧ v13 = .int .i64 x13_3 ∧ Aside0 (moultlaw9_FilterWithin.l1 kq t227 t235 t236 t239 t240 x12_3 x13_3 = some r) ∧ Aside0 (kq ≤ k2) ∧ Aside0 (Kd.R (Kd.int .i64) 3 w' w.heap.size (fun k_ => some k_ ≠ (v237 : Value).ownBlock) (.slice Ao23 t227.length co23) t227) ∧ Aside0 (Kd.R (Kd.int .i64) 3 w' w.heap.size (fun k_ => some k_ ≠ ((.slice Ao23 t227.length co23) : Value).ownBlock) v237 t236) ∧ Aside0 (Below w.heap.size w w'))
                case atStart => exact ⟨(0), (0), (by first | rfl | (simp; done) | (simp [*]; done)), (by first | rfl | (simp; done) | (simp [*]; done)), H', ⟨Nat.le_refl _⟩, ⟨by (with_reducible repeat (first | apply Kd.R_alloc | apply Kd.R_drewN | apply Kd.R_drew)); exact Kd.R_mono HO_6.out (fun _ hk => hk.2)⟩, ⟨by (with_reducible repeat (first | apply Kd.R_alloc | apply Kd.R_drewN | apply Kd.R_drew)); exact Kd.R_mono HO238.out (fun _ hk => hk.2)⟩, ⟨by repeat (first | (with_reducible first | exact HB.out | apply below_alloc | apply pw_below_drewN | apply below_drew1) | exact HB.out)⟩⟩
                case round =>
                  clear H'
                  try clear c1
                  try clear p2
                  try clear q2
                  try clear hx2
                  try clear c6
                  try clear p6
                  try clear c7
                  try clear c8
                  try clear c9
                  try clear c9b0
                  try clear c13
                  try clear c13b0
                  try clear c14
                  try clear c14b0
                  try clear c15
                  try clear c15b0
                  try clear c16
                  try clear c17
                  try clear c17b0
                  try clear p23
                  try clear q23
                  try clear hx23
                  try clear hx230_0
                  try clear hx231_0
                  try clear p2
                  try clear p230
                  try clear p231
                  try clear q230
                  try clear q231
                  obtain ⟨x12_3, x13_3, rfl, rfl, HA, HK3, HO_6, HO_9, HB⟩ := hrel
                  cases gk with
                  | zero => exact absurd HA.out (by simp [moultlaw9_FilterWithin.l1])
                  | succ k3 =>
                    have H := HA.out
                    clear HA
                    simp only [moultlaw9_FilterWithin.l1] at H
                    by_cases c29 : x13_3 < 64
                    · rw [if_pos c29] at H
                      have c29b0 : decide (x13_3 < 64) = true := decide_eq_true c29
                      clear c29
                      obtain ⟨ji30, hji30⟩ : ∃ j_ : Int, (wrap64 (Int.tdiv x13_3 8)) = j_ := ⟨_, rfl⟩
                      replace H : (if 0 ≤ (ji30) then (if (ji30) < (t235.size : Int) then (if 0 ≤ (Int.tmod x13_3 8) then (if (Int.tmod (shr .u8 (bt t235 (ji30)) (Int.tmod x13_3 8)) 2) = 0 then (moultlaw9_FilterWithin.l1 k3 t227 t235 t236 t239 t240 x12_3 (wrap64 (x13_3 + 1))) else (if 0 < (t236.length : Int) then (if x13_3 = (rd t236 0) then (moultlaw9_FilterWithin.l1 k3 t227 t235 t236 t239 t240 (wrap64 (x12_3 + 1)) (wrap64 (x13_3 + 1))) else (if 1 < (t236.length : Int) then (if x13_3 = (rd t236 1) then (moultlaw9_FilterWithin.l1 k3 t227 t235 t236 t239 t240 (wrap64 (x12_3 + 1)) (wrap64 (x13_3 + 1))) else (if 2 < (t236.length : Int) then (if x13_3 = (rd t236 2) then (moultlaw9_FilterWithin.l1 k3 t227 t235 t236 t239 t240 (wrap64 (x12_3 + 1)) (wrap64 (x13_3 + 1))) else (if 3 < (t236.length : Int) then (if x13_3 = (rd t236 3) then (moultlaw9_FilterWithin.l1 k3 t227 t235 t236 t239 t240 (wrap64 (x12_3 + 1)) (wrap64 (x13_3 + 1))) else (some false)) else (none))) else (none))) else (none))) else (none))) else (none)) else (none)) else (none)) = some r := by first | (rw [hji30] at H; exact H) | (simp only [hji30] at H ⊢; exact H)
                      have hji30w : (IntKind.i64.wrap (Int.tdiv x13_3 8)) = ji30 := (i64_w _).trans hji30
                      by_cases c31 : 0 ≤ (ji30)
                      · rw [if_pos c31] at H
                        have c31b0 : decide (0 ≤ (ji30)) = true := decide_eq_true c31
                        clear c31
                        by_cases c32 : (ji30) < (t235.size : Int)
                        · rw [if_pos c32] at H
                          have c32b0 : decide ((ji30) < (t235.size : Int)) = true := decide_eq_true c32
                          clear c32
                          obtain ⟨ji34, hji34⟩ : ∃ j_ : Int, (Int.tmod x13_3 8) = j_ := ⟨_, rfl⟩
                          replace H : (if 0 ≤ (ji34) then (if (Int.tmod (shr .u8 (bt t235 (ji30)) (ji34)) 2) = 0 then (moultlaw9_FilterWithin.l1 k3 t227 t235 t236 t239 t240 x12_3 (wrap64 (x13_3 + 1))) else (if 0 < (t236.length : Int) then (if x13_3 = (rd t236 0) then (moultlaw9_FilterWithin.l1 k3 t227 t235 t236 t239 t240 (wrap64 (x12_3 + 1)) (wrap64 (x13_3 + 1))) else (if 1 < (t236.length : Int) then (if x13_3 = (rd t236 1) then (moultlaw9_FilterWithin.l1 k3 t227 t235 t236 t239 t240 (wrap64 (x12_3 + 1)) (wrap64 (x13_3 + 1))) else (if 2 < (t236.length : Int) then (if x13_3 = (rd t236 2) then (moultlaw9_FilterWithin.l1 k3 t227 t235 t236 t239 t240 (wrap64 (x12_3 + 1)) (wrap64 (x13_3 + 1))) else (if 3 < (t236.length : Int) then (if x13_3 = (rd t236 3) then (moultlaw9_FilterWithin.l1 k3 t227 t235 t236 t239 t240 (wrap64 (x12_3 + 1)) (wrap64 (x13_3 + 1))) else (some false)) else (none))) else (none))) else (none))) else (none))) else (none)) = some r := by first | (rw [hji34] at H; exact H) | (simp only [hji34] at H ⊢; exact H)
                          by_cases c35 : 0 ≤ (ji34)
                          · rw [if_pos c35] at H
                            have c35b0 := eq_true c35
                            have c35b1 : decide (0 ≤ (ji34)) = true := decide_eq_true c35
                            clear c35
                            obtain ⟨ji36, hji36⟩ : ∃ j_ : Int, (shr .u8 (bt t235 (ji30)) (ji34)) = j_ := ⟨_, rfl⟩
                            replace H : (if (Int.tmod (ji36) 2) = 0 then (moultlaw9_FilterWithin.l1 k3 t227 t235 t236 t239 t240 x12_3 (wrap64 (x13_3 + 1))) else (if 0 < (t236.length : Int) then (if x13_3 = (rd t236 0) then (moultlaw9_FilterWithin.l1 k3 t227 t235 t236 t239 t240 (wrap64 (x12_3 + 1)) (wrap64 (x13_3 + 1))) else (if 1 < (t236.length : Int) then (if x13_3 = (rd t236 1) then (moultlaw9_FilterWithin.l1 k3 t227 t235 t236 t239 t240 (wrap64 (x12_3 + 1)) (wrap64 (x13_3 + 1))) else (if 2 < (t236.length : Int) then (if x13_3 = (rd t236 2) then (moultlaw9_FilterWithin.l1 k3 t227 t235 t236 t239 t240 (wrap64 (x12_3 + 1)) (wrap64 (x13_3 + 1))) else (if 3 < (t236.length : Int) then (if x13_3 = (rd t236 3) then (moultlaw9_FilterWithin.l1 k3 t227 t235 t236 t239 t240 (wrap64 (x12_3 + 1)) (wrap64 (x13_3 + 1))) else (some false)) else (none))) else (none))) else (none))) else (none))) = some r := by first | (rw [hji36] at H; exact H) | (simp only [hji36] at H ⊢; exact H)
                            have hji36_ : ((bt t235 (ji30)) / 2 ^ min (ji34).toNat 8) = ji36 := hji36
                            have hji36z : (ji34) ≤ 8 → ((bt t235 (ji30)) / 2 ^ (ji34).toNat) = ji36 := shr_small hji36
                            by_cases c37 : (Int.tmod (ji36) 2) = 0
                            · rw [if_pos c37] at H
                              have c37b0 : ((Int.tmod (ji36) 2) == 0) = true := beq_iff_eq.mpr c37
                              have c37b1 : ((Int.tmod (ji36) 2) != 0) = false := bne_eq_false_iff_eq.mpr c37
                              clear c37
                              have H' := Aside0.mk H
                              clear H
                              have p33 : 0 ≤ ((ji30) : Int) := of_decide_eq_true (by first | (with_reducible assumption) | assumption)
                              have q33 : (ji30) < (t235.size : Int) := of_decide_eq_true (by first | (with_reducible assumption) | assumption)
                              have hx33 := bt_at t235 (ji30)
                              replace p33 := eq_true p33
                              replace q33 := eq_true q33
                              go_wp2
                              go_roundg k3
                              case measure => have := HJ3.out; have := HK2.out; have := HK3.out; omega
                              case rel => exact ⟨(x12_3), (wrap64 (x13_3 + 1)), (by first | rfl | (simp; done) | (simp [*]; done)), (by first | rfl | (simp; done) | (simp [*]; done)), H', ⟨by have := HJ3.out; have := HK2.out; have := HK3.out; omega⟩, ⟨by (with_reducible repeat (first | apply Kd.R_alloc | apply Kd.R_drewN | apply Kd.R_drew)); exact HO_6.out⟩, ⟨by (with_reducible repeat (first | apply Kd.R_alloc | apply Kd.R_drewN | apply Kd.R_drew)); exact HO_9.out⟩, ⟨by repeat (first | (with_reducible first | exact HB.out | apply below_alloc | apply pw_below_drewN | apply below_drew1) | exact HB.out)⟩⟩
                            · rw [if_neg c37] at H
                              have c37b0 : ((Int.tmod (ji36) 2) == 0) = false := beq_eq_false_iff_ne.mpr c37
                              have c37b1 : ((Int.tmod (ji36) 2) != 0) = true := bne_iff_ne.mpr c37
                              by_cases c38 : 0 < (t236.length : Int)
                              · rw [if_pos c38] at H
                                have c38b0 : decide (0 < (t236.length : Int)) = true := decide_eq_true c38
                                have c38b1 : decide (0 < t236.length) = true := decide_eq_true (by omega)
                                clear c38
                                by_cases c39 : x13_3 = (rd t236 0)
                                · rw [if_pos c39] at H
                                  have c39b0 : (x13_3 == (rd t236 0)) = true := beq_iff_eq.mpr c39
                                  have c39b1 : (x13_3 != (rd t236 0)) = false := bne_eq_false_iff_eq.mpr c39
                                  clear c39
                                  have H' := Aside0.mk H
                                  clear H
                                  have p33 : 0 ≤ ((ji30) : Int) := of_decide_eq_true (by first | (with_reducible assumption) | assumption)
                                  have q33 : (ji30) < (t235.size : Int) := of_decide_eq_true (by first | (with_reducible assumption) | assumption)
                                  have hx33 := bt_at t235 (ji30)
                                  replace p33 := eq_true p33
                                  replace q33 := eq_true q33
                                  obtain ⟨Ao40, co40, eo40⟩ := Kd.R_slice HO_9.out
                                  subst eo40
                                  have p241 : 0 ≤ (0 : Int) := (by omega)
                                  have q241 : 0 < (t236.length : Int) := of_decide_eq_true (by first | (with_reducible assumption) | assumption)
                                  obtain ⟨ad241, e241, hx241_0⟩ := Kd.at_int (Kd.R_reads' HO_9.out).2.2 0 p241 q241
                                  cases e241
                                  have qi241 : (0 < t236.length) = True := eq_true (by omega)
                                  (try rw [show ((0 : Int)).toNat = 0 from rfl] at hx241_0)
                                  (try rw [Addr.add_zero'] at hx241_0)
                                  replace p241 := eq_true p241
                                  replace q241 := eq_true q241
                                  go_wp2
                                  go_roundg k3
                                  case measure => have := HJ3.out; have := HK2.out; have := HK3.out; omega
                                  case rel => exact ⟨(wrap64 (x12_3 + 1)), (wrap64 (x13_3 + 1)), (by first | rfl | (simp; done) | (simp [*]; done)), (by first | rfl | (simp; done) | (simp [*]; done)), H', ⟨by have := HJ3.out; have := HK2.out; have := HK3.out; omega⟩, ⟨by (with_reducible repeat (first | apply Kd.R_alloc | apply Kd.R_drewN | apply Kd.R_drew)); exact HO_6.out⟩, ⟨by (with_reducible repeat (first | apply Kd.R_alloc | apply Kd.R_drewN | apply Kd.R_drew)); exact HO_9.out⟩, ⟨by repeat (first | (with_reducible first | exact HB.out | apply below_alloc | apply pw_below_drewN | apply below_drew1) | exact HB.out)⟩⟩
                                · rw [if_neg c39] at H
                                  have c39b0 : (x13_3 == (rd t236 0)) = false := beq_eq_false_iff_ne.mpr c39
                                  have c39b1 : (x13_3 != (rd t236 0)) = true := bne_iff_ne.mpr c39
                                  by_cases c41 : 1 < (t236.length : Int)
                                  · rw [if_pos c41] at H
                                    have c41b0 : decide (1 < (t236.length : Int)) = true := decide_eq_true c41
                                    have c41b1 : decide (1 < t236.length) = true := decide_eq_true (by omega)
                                    clear c41
                                    by_cases c42 : x13_3 = (rd t236 1)
                                    · rw [if_pos c42] at H
                                      have c42b0 : (x13_3 == (rd t236 1)) = true := beq_iff_eq.mpr c42
                                      have c42b1 : (x13_3 != (rd t236 1)) = false := bne_eq_false_iff_eq.mpr c42
                                      clear c42
                                      have H' := Aside0.mk H
                                      clear H
                                      have p33 : 0 ≤ ((ji30) : Int) := of_decide_eq_true (by first | (with_reducible assumption) | assumption)
                                      have q33 : (ji30) < (t235.size : Int) := of_decide_eq_true (by first | (with_reducible assumption) | assumption)
                                      have hx33 := bt_at t235 (ji30)
                                      replace p33 := eq_true p33
                                      replace q33 := eq_true q33
                                      obtain ⟨Ao43, co43, eo43⟩ := Kd.R_slice HO_9.out
                                      subst eo43
                                      have p241 : 0 ≤ (0 : Int) := (by omega)
                                      have q241 : 0 < (t236.length : Int) := of_decide_eq_true (by first | (with_reducible assumption) | assumption)
                                      obtain ⟨ad241, e241, hx241_0⟩ := Kd.at_int (Kd.R_reads' HO_9.out).2.2 0 p241 q241
                                      cases e241
                                      have qi241 : (0 < t236.length) = True := eq_true (by omega)
                                      (try rw [show ((0 : Int)).toNat = 0 from rfl] at hx241_0)
                                      (try rw [Addr.add_zero'] at hx241_0)
                                      replace p241 := eq_true p241
                                      replace q241 := eq_true q241
                                      have p242 : 0 ≤ (1 : Int) := (by omega)
                                      have q242 : 1 < (t236.length : Int) := of_decide_eq_true (by first | (with_reducible assumption) | assumption)
                                      obtain ⟨ad242, e242, hx242_0⟩ := Kd.at_int (Kd.R_reads' HO_9.out).2.2 1 p242 q242
                                      obtain rfl : ad241 = ad242 := (by injection e242)
                                      (try simp only [show (1 : Int).toNat = 1 from rfl, Nat.reduceMul, Nat.reduceEqDiff, Go.Addr.add, ↓reduceIte] at hx242_0)
                                      have qi242 : (1 < t236.length) = True := eq_true (by omega)
                                      (try rw [show ((1 : Int)).toNat = 1 from rfl] at hx242_0)
                                      replace p242 := eq_true p242
                                      replace q242 := eq_true q242
                                      go_wp2
                                      go_roundg k3
                                      case measure => have := HJ3.out; have := HK2.out; have := HK3.out; omega
                                      case rel => exact ⟨(wrap64 (x12_3 + 1)), (wrap64 (x13_3 + 1)), (by first | rfl | (simp; done) | (simp [*]; done)), (by first | rfl | (simp; done) | (simp [*]; done)), H', ⟨by have := HJ3.out; have := HK2.out; have := HK3.out; omega⟩, ⟨by (with_reducible repeat (first | apply Kd.R_alloc | apply Kd.R_drewN | apply Kd.R_drew)); exact HO_6.out⟩, ⟨by (with_reducible repeat (first | apply Kd.R_alloc | apply Kd.R_drewN | apply Kd.R_drew)); exact HO_9.out⟩, ⟨by repeat (first | (with_reducible first | exact HB.out | apply below_alloc | apply pw_below_drewN | apply below_drew1) | exact HB.out)⟩⟩
                                    · rw [if_neg c42] at H
                                      have c42b0 : (x13_3 == (rd t236 1)) = false := beq_eq_false_iff_ne.mpr c42
                                      have c42b1 : (x13_3 != (rd t236 1)) = true := bne_iff_ne.mpr c42
                                      by_cases c44 : 2 < (t236.length : Int)
                                      · rw [if_pos c44] at H
                                        have c44b0 : decide (2 < (t236.length : Int)) = true := decide_eq_true c44
                                        have c44b1 : decide (2 < t236.length) = true := decide_eq_true (by omega)
                                        clear c44
                                        by_cases c45 : x13_3 = (rd t236 2)
                                        · rw [if_pos c45] at H
                                          have c45b0 : (x13_3 == (rd t236 2)) = true := beq_iff_eq.mpr c45
                                          have c45b1 : (x13_3 != (rd t236 2)) = false := bne_eq_false_iff_eq.mpr c45
                                          clear c45
                                          have H' := Aside0.mk H
                                          clear H
                                          have p33 : 0 ≤ ((ji30) : Int) := of_decide_eq_true (by first | (with_reducible assumption) | assumption)
                                          have q33 : (ji30) < (t235.size : Int) := of_decide_eq_true (by first | (with_reducible assumption) | assumption)
                                          have hx33 := bt_at t235 (ji30)
                                          replace p33 := eq_true p33
                                          replace q33 := eq_true q33
                                          obtain ⟨Ao46, co46, eo46⟩ := Kd.R_slice HO_9.out
                                          subst eo46
                                          have p241 : 0 ≤ (0 : Int) := (by omega)
                                          have q241 : 0 < (t236.length : Int) := of_decide_eq_true (by first | (with_reducible assumption) | assumption)
                                          obtain ⟨ad241, e241, hx241_0⟩ := Kd.at_int (Kd.R_reads' HO_9.out).2.2 0 p241 q241
                                          cases e241
                                          have qi241 : (0 < t236.length) = True := eq_true (by omega)
                                          (try rw [show ((0 : Int)).toNat = 0 from rfl] at hx241_0)
                                          (try rw [Addr.add_zero'] at hx241_0)
                                          replace p241 := eq_true p241
                                          replace q241 := eq_true q241
                                          have p242 : 0 ≤ (1 : Int) := (by omega)
                                          have q242 : 1 < (t236.length : Int) := of_decide_eq_true (by first | (with_reducible assumption) | assumption)
                                          obtain ⟨ad242, e242, hx242_0⟩ := Kd.at_int (Kd.R_reads' HO_9.out).2.2 1 p242 q242
                                          obtain rfl : ad241 = ad242 := (by injection e242)
                                          (try simp only [show (1 : Int).toNat = 1 from rfl, Nat.reduceMul, Nat.reduceEqDiff, Go.Addr.add, ↓reduceIte] at hx242_0)
                                          have qi242 : (1 < t236.length) = True := eq_true (by omega)
                                          (try rw [show ((1 : Int)).toNat = 1 from rfl] at hx242_0)
                                          replace p242 := eq_true p242
                                          replace q242 := eq_true q242
                                          have p243 : 0 ≤ (2 : Int) := (by omega)
                                          have q243 : 2 < (t236.length : Int) := of_decide_eq_true (by first | (with_reducible assumption) | assumption)
                                          obtain ⟨ad243, e243, hx243_0⟩ := Kd.at_int (Kd.R_reads' HO_9.out).2.2 2 p243 q243
                                          obtain rfl : ad241 = ad243 := (by injection e243)
                                          (try simp only [show (2 : Int).toNat = 2 from rfl, Nat.reduceMul, Nat.reduceEqDiff, Go.Addr.add, ↓reduceIte] at hx243_0)
                                          have qi243 : (2 < t236.length) = True := eq_true (by omega)
                                          (try rw [show ((2 : Int)).toNat = 2 from rfl] at hx243_0)
                                          replace p243 := eq_true p243
                                          replace q243 := eq_true q243
                                          go_wp2
                                          go_roundg k3
                                          case measure => have := HJ3.out; have := HK2.out; have := HK3.out; omega
                                          case rel => exact ⟨(wrap64 (x12_3 + 1)), (wrap64 (x13_3 + 1)), (by first | rfl | (simp; done) | (simp [*]; done)), (by first | rfl | (simp; done) | (simp [*]; done)), H', ⟨by have := HJ3.out; have := HK2.out; have := HK3.out; omega⟩, ⟨by (with_reducible repeat (first | apply Kd.R_alloc | apply Kd.R_drewN | apply Kd.R_drew)); exact HO_6.out⟩, ⟨by (with_reducible repeat (first | apply Kd.R_alloc | apply Kd.R_drewN | apply Kd.R_drew)); exact HO_9.out⟩, ⟨by repeat (first | (with_reducible first | exact HB.out | apply below_alloc | apply pw_below_drewN | apply below_drew1) | exact HB.out)⟩⟩
                                        · rw [if_neg c45] at H
                                          have c45b0 : (x13_3 == (rd t236 2)) = false := beq_eq_false_iff_ne.mpr c45
                                          have c45b1 : (x13_3 != (rd t236 2)) = true := bne_iff_ne.mpr c45
                                          by_cases c47 : 3 < (t236.length : Int)
                                          · rw [if_pos c47] at H
                                            have c47b0 : decide (3 < (t236.length : Int)) = true := decide_eq_true c47
                                            have c47b1 : decide (3 < t236.length) = true := decide_eq_true (by omega)
                                            clear c47
                                            by_cases c48 : x13_3 = (rd t236 3)
                                            · rw [if_pos c48] at H
                                              have c48b0 : (x13_3 == (rd t236 3)) = true := beq_iff_eq.mpr c48
                                              have c48b1 : (x13_3 != (rd t236 3)) = false := bne_eq_false_iff_eq.mpr c48
                                              clear c48
                                              have H' := Aside0.mk H
                                              clear H
                                              have p33 : 0 ≤ ((ji30) : Int) := of_decide_eq_true (by first | (with_reducible assumption) | assumption)
                                              have q33 : (ji30) < (t235.size : Int) := of_decide_eq_true (by first | (with_reducible assumption) | assumption)
                                              have hx33 := bt_at t235 (ji30)
                                              replace p33 := eq_true p33
                                              replace q33 := eq_true q33
                                              obtain ⟨Ao49, co49, eo49⟩ := Kd.R_slice HO_9.out
                                              subst eo49
                                              have p241 : 0 ≤ (0 : Int) := (by omega)
                                              have q241 : 0 < (t236.length : Int) := of_decide_eq_true (by first | (with_reducible assumption) | assumption)
                                              obtain ⟨ad241, e241, hx241_0⟩ := Kd.at_int (Kd.R_reads' HO_9.out).2.2 0 p241 q241
                                              cases e241
                                              have qi241 : (0 < t236.length) = True := eq_true (by omega)
                                              (try rw [show ((0 : Int)).toNat = 0 from rfl] at hx241_0)
                                              (try rw [Addr.add_zero'] at hx241_0)
                                              replace p241 := eq_true p241
                                              replace q241 := eq_true q241
                                              have p242 : 0 ≤ (1 : Int) := (by omega)
                                              have q242 : 1 < (t236.length : Int) := of_decide_eq_true (by first | (with_reducible assumption) | assumption)
                                              obtain ⟨ad242, e242, hx242_0⟩ := Kd.at_int (Kd.R_reads' HO_9.out).2.2 1 p242 q242
                                              obtain rfl : ad241 = ad242 := (by injection e242)
                                              (try simp only [show (1 : Int).toNat = 1 from rfl, Nat.reduceMul, Nat.reduceEqDiff, Go.Addr.add, ↓reduceIte] at hx242_0)
                                              have qi242 : (1 < t236.length) = True := eq_true (by omega)
                                              (try rw [show ((1 : Int)).toNat = 1 from rfl] at hx242_0)
                                              replace p242 := eq_true p242
                                              replace q242 := eq_true q242
                                              have p243 : 0 ≤ (2 : Int) := (by omega)
                                              have q243 : 2 < (t236.length : Int) := of_decide_eq_true (by first | (with_reducible assumption) | assumption)
                                              obtain ⟨ad243, e243, hx243_0⟩ := Kd.at_int (Kd.R_reads' HO_9.out).2.2 2 p243 q243
                                              obtain rfl : ad241 = ad243 := (by injection e243)
                                              (try simp only [show (2 : Int).toNat = 2 from rfl, Nat.reduceMul, Nat.reduceEqDiff, Go.Addr.add, ↓reduceIte] at hx243_0)
                                              have qi243 : (2 < t236.length) = True := eq_true (by omega)
                                              (try rw [show ((2 : Int)).toNat = 2 from rfl] at hx243_0)
                                              replace p243 := eq_true p243
                                              replace q243 := eq_true q243
                                              have p244 : 0 ≤ (3 : Int) := (by omega)
                                              have q244 : 3 < (t236.length : Int) := of_decide_eq_true (by first | (with_reducible assumption) | assumption)
                                              obtain ⟨ad244, e244, hx244_0⟩ := Kd.at_int (Kd.R_reads' HO_9.out).2.2 3 p244 q244
                                              obtain rfl : ad241 = ad244 := (by injection e244)
                                              (try simp only [show (3 : Int).toNat = 3 from rfl, Nat.reduceMul, Nat.reduceEqDiff, Go.Addr.add, ↓reduceIte] at hx244_0)
                                              have qi244 : (3 < t236.length) = True := eq_true (by omega)
                                              (try rw [show ((3 : Int)).toNat = 3 from rfl] at hx244_0)
                                              replace p244 := eq_true p244
                                              replace q244 := eq_true q244
                                              go_wp2
                                              go_roundg k3
                                              case measure => have := HJ3.out; have := HK2.out; have := HK3.out; omega
                                              case rel => exact ⟨(wrap64 (x12_3 + 1)), (wrap64 (x13_3 + 1)), (by first | rfl | (simp; done) | (simp [*]; done)), (by first | rfl | (simp; done) | (simp [*]; done)), H', ⟨by have := HJ3.out; have := HK2.out; have := HK3.out; omega⟩, ⟨by (with_reducible repeat (first | apply Kd.R_alloc | apply Kd.R_drewN | apply Kd.R_drew)); exact HO_6.out⟩, ⟨by (with_reducible repeat (first | apply Kd.R_alloc | apply Kd.R_drewN | apply Kd.R_drew)); exact HO_9.out⟩, ⟨by repeat (first | (with_reducible first | exact HB.out | apply below_alloc | apply pw_below_drewN | apply below_drew1) | exact HB.out)⟩⟩
                                            · rw [if_neg c48] at H
                                              have c48b0 : (x13_3 == (rd t236 3)) = false := beq_eq_false_iff_ne.mpr c48
                                              have c48b1 : (x13_3 != (rd t236 3)) = true := bne_iff_ne.mpr c48
                                              obtain rfl := Option.some.inj H
                                              have p33 : 0 ≤ ((ji30) : Int) := of_decide_eq_true (by first | (with_reducible assumption) | assumption)
                                              have q33 : (ji30) < (t235.size : Int) := of_decide_eq_true (by first | (with_reducible assumption) | assumption)
                                              have hx33 := bt_at t235 (ji30)
                                              replace p33 := eq_true p33
                                              replace q33 := eq_true q33
                                              obtain ⟨Ao50, co50, eo50⟩ := Kd.R_slice HO_9.out
                                              subst eo50
                                              have p241 : 0 ≤ (0 : Int) := (by omega)
                                              have q241 : 0 < (t236.length : Int) := of_decide_eq_true (by first | (with_reducible assumption) | assumption)
                                              obtain ⟨ad241, e241, hx241_0⟩ := Kd.at_int (Kd.R_reads' HO_9.out).2.2 0 p241 q241
                                              cases e241
                                              have qi241 : (0 < t236.length) = True := eq_true (by omega)
                                              (try rw [show ((0 : Int)).toNat = 0 from rfl] at hx241_0)
                                              (try rw [Addr.add_zero'] at hx241_0)
                                              replace p241 := eq_true p241
                                              replace q241 := eq_true q241
                                              have p242 : 0 ≤ (1 : Int) := (by omega)
                                              have q242 : 1 < (t236.length : Int) := of_decide_eq_true (by first | (with_reducible assumption) | assumption)
                                              obtain ⟨ad242, e242, hx242_0⟩ := Kd.at_int (Kd.R_reads' HO_9.out).2.2 1 p242 q242
                                              obtain rfl : ad241 = ad242 := (by injection e242)
                                              (try simp only [show (1 : Int).toNat = 1 from rfl, Nat.reduceMul, Nat.reduceEqDiff, Go.Addr.add, ↓reduceIte] at hx242_0)
                                              have qi242 : (1 < t236.length) = True := eq_true (by omega)
                                              (try rw [show ((1 : Int)).toNat = 1 from rfl] at hx242_0)
                                              replace p242 := eq_true p242
                                              replace q242 := eq_true q242
                                              have p243 : 0 ≤ (2 : Int) := (by omega)
                                              have q243 : 2 < (t236.length : Int) := of_decide_eq_true (by first | (with_reducible assumption) | assumption)
                                              obtain ⟨ad243, e243, hx243_0⟩ := Kd.at_int (Kd.R_reads' HO_9.out).2.2 2 p243 q243
                                              obtain rfl : ad241 = ad243 := (by injection e243)
                                              (try simp only [show (2 : Int).toNat = 2 from rfl, Nat.reduceMul, Nat.reduceEqDiff, Go.Addr.add, ↓reduceIte] at hx243_0)
                                              have qi243 : (2 < t236.length) = True := eq_true (by omega)
                                              (try rw [show ((2 : Int)).toNat = 2 from rfl] at hx243_0)
                                              replace p243 := eq_true p243
                                              replace q243 := eq_true q243
                                              have p244 : 0 ≤ (3 : Int) := (by omega)
                                              have q244 : 3 < (t236.length : Int) := of_decide_eq_true (by first | (with_reducible assumption) | assumption)
                                              obtain ⟨ad244, e244, hx244_0⟩ := Kd.at_int (Kd.R_reads' HO_9.out).2.2 3 p244 q244
                                              obtain rfl : ad241 = ad244 := (by injection e244)
                                              (try simp only [show (3 : Int).toNat = 3 from rfl, Nat.reduceMul, Nat.reduceEqDiff, Go.Addr.add, ↓reduceIte] at hx244_0)
                                              have qi244 : (3 < t236.length) = True := eq_true (by omega)
                                              (try rw [show ((3 : Int)).toNat = 3 from rfl] at hx244_0)
                                              replace p244 := eq_true p244
                                              replace q244 := eq_true q244
                                              go_wp2
                                              go_ret
                                              exact ⟨by first | rfl | (simp [errW_none, errW_some] <;> rfl) | (simp only [← hji30, ← hji34, ← hji36]; first | rfl | (simp [errW_none, errW_some] <;> rfl)) | (simp [*, errW_none, errW_some] <;> rfl), by repeat (first | (with_reducible first | exact HB.out | apply below_alloc | apply pw_below_drewN | apply below_drew1) | exact HB.out)⟩
                                          · rw [if_neg c47] at H
                                            exact absurd H (by simp)
                                      · rw [if_neg c44] at H
                                        exact absurd H (by simp)
                                  · rw [if_neg c41] at H
                                    exact absurd H (by simp)
                              · rw [if_neg c38] at H
                                exact absurd H (by simp)
                          · rw [if_neg c35] at H
                            exact absurd H (by simp)
                        · rw [if_neg c32] at H
                          exact absurd H (by simp)
                      · rw [if_neg c31] at H
                        exact absurd H (by simp)
                    · rw [if_neg c29] at H
                      have c29b0 : decide (x13_3 < 64) = false := decide_eq_false c29
                      clear c29
                      by_cases c51 : (t227.length : Int) = 4
                      · rw [if_pos c51] at H
                        have c51b0 : ((t227.length : Int) == 4) = true := beq_iff_eq.mpr c51
                        have c51b1 : ((t227.length : Int) != 4) = false := bne_eq_false_iff_eq.mpr c51
                        clear c51
                        by_cases c52 : (t235.size : Int) = 8
                        · rw [if_pos c52] at H
                          have c52b0 : ((t235.size : Int) == 8) = true := beq_iff_eq.mpr c52
                          have c52b1 : ((t235.size : Int) != 8) = false := bne_eq_false_iff_eq.mpr c52
                          clear c52
                          by_cases c53 : t239 = x12_3
                          · rw [if_pos c53] at H
                            have c53b0 : (t239 == x12_3) = true := beq_iff_eq.mpr c53
                            have c53b1 : (t239 != x12_3) = false := bne_eq_false_iff_eq.mpr c53
                            clear c53
                            obtain rfl := Option.some.inj H
                            go_wp2
                            go_ret
                            exact ⟨by first | rfl | (simp [errW_none, errW_some] <;> rfl) | (simp [*, errW_none, errW_some] <;> rfl), by repeat (first | (with_reducible first | exact HB.out | apply below_alloc | apply pw_below_drewN | apply below_drew1) | exact HB.out)⟩
                          · rw [if_neg c53] at H
                            have c53b0 : (t239 == x12_3) = false := beq_eq_false_iff_ne.mpr c53
                            have c53b1 : (t239 != x12_3) = true := bne_iff_ne.mpr c53
                            obtain rfl := Option.some.inj H
                            go_wp2
                            go_ret
                            exact ⟨by first | rfl | (simp [errW_none, errW_some] <;> rfl) | (simp [*, errW_none, errW_some] <;> rfl), by repeat (first | (with_reducible first | exact HB.out | apply below_alloc | apply pw_below_drewN | apply below_drew1) | exact HB.out)⟩
                        · rw [if_neg c52] at H
                          have c52b0 : ((t235.size : Int) == 8) = false := beq_eq_false_iff_ne.mpr c52
                          have c52b1 : ((t235.size : Int) != 8) = true := bne_iff_ne.mpr c52
                          obtain rfl := Option.some.inj H
                          go_wp2
                          go_ret
                          exact ⟨by first | rfl | (simp [errW_none, errW_some] <;> rfl) | (simp [*, errW_none, errW_some] <;> rfl), by repeat (first | (with_reducible first | exact HB.out | apply below_alloc | apply pw_below_drewN | apply below_drew1) | exact HB.out)⟩
                      · rw [if_neg c51] at H
                        have c51b0 : ((t227.length : Int) == 4) = false := beq_eq_false_iff_ne.mpr c51
                        have c51b1 : ((t227.length : Int) != 4) = true := bne_iff_ne.mpr c51
                        obtain rfl := Option.some.inj H
                        go_wp2
                        go_ret
                        exact ⟨by first | rfl | (simp [errW_none, errW_some] <;> rfl) | (simp [*, errW_none, errW_some] <;> rfl), by repeat (first | (with_reducible first | exact HB.out | apply below_alloc | apply pw_below_drewN | apply below_drew1) | exact HB.out)⟩

/-- THE ONE PURE STATEMENT of moultlaw9_FilterWithin: yours. -/
def moultlaw9_FilterWithin.Pure : Prop := ∀ (a0 : ByteArray) (a1 : Int), a0.size ≤ 140737488351232 → (Lit.int .i64 a1).wf = true → ∃ k, moultlaw9_FilterWithin.f k a0 a1 = some true
theorem moultlaw9_FilterWithin.walk (P : moultlaw9_FilterWithin.Pure) (a0 : ByteArray) (a1 : Int) (w : World) (w0 : a0.size ≤ 140737488351232) (w1 : (Lit.int .i64 a1).wf = true) :
    Calls Try.prog 8 #[.string a0, .int .i64 a1] w fun e w' => e = .returned (.bool true) ∧ Below w.heap.size w w' := by
  obtain ⟨k, h⟩ := P a0 a1 w0 w1
  refine (moultlaw9_FilterWithin.calls k a0 a1 true w h).mono ?_
  rintro e w' ⟨rfl, hd⟩
  exact ⟨rfl, hd⟩

end Go.Proofs.Ytdpadhmdiljpaaa.P
