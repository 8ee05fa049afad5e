-- Written by sprint.py (wip/tools) with the kit's print.py: a program's text, checked by Lean alone.
import Derived.Test.YtdpadhmdiljpaaaPx0
import Derived.Test.YtdpadhmdiljpaaaPx1
import Derived.Test.YtdpadhmdiljpaaaPx2
import Derived.Test.YtdpadhmdiljpaaaPx3
namespace Go.Proofs.Ytdpadhmdiljpaaa.P
open Go.RowKit Go.Proofs.Ytdpadhmdiljpaaa.Fp Go.Proofs.YtdpadhmdiljpaaaW.PrintWords Go.Proofs.YtdpadhmdiljpaaaW.PrintLast Go.Proofs.YtdpadhmdiljpaaaW.PrintMore
attribute [local go_sem] max2_int min2_int max_two min_two max_three min_three max_four min_four   -- for this text's walks alone
set_option linter.unusedVariables false
set_option linter.unusedSimpArgs false

/-! ### moultlaw9_FilterGrows: function 6 -/
mutual
def moultlaw9_FilterGrows.j0 : Nat → List ByteArray → ByteArray → Int → Bool → Bool → Option (Bool)
  | 0, _, _, _, _, _ => none
  | k + 1, x0, x1, x2, x7, x36 => if x36 = true then (some x7) else (if (x0.length : Int) = 0 then (none) else (if (Int.tmod x2 (x0.length : Int)) < 0 then (moultlaw9_FilterGrows.j1 k x0 x1 (wrap64 (-(Int.tmod x2 (x0.length : Int))))) else (moultlaw9_FilterGrows.j1 k x0 x1 (Int.tmod x2 (x0.length : Int)))))
def moultlaw9_FilterGrows.j1 : Nat → List ByteArray → ByteArray → Int → Option (Bool)
  | 0, _, _, _ => none
  | k + 1, x0, x1, x9 => (some (([] : List ByteArray) : List ByteArray)).bind fun y190 => (if y190.length + x0.length < 8796093022208 then ((some (y190 ++ x0 : List ByteArray)).bind fun y193 => (if 0 ≤ x9 then (if x9 < (y193.length : Int) then ((some (y193.set (x9 : Int).toNat x1 : List ByteArray)).bind fun y196 => ((filter_Build.f y196).bind fun t197 => (moultlaw9_FilterGrows.l0 k x1 y196 t197 0))) else (none)) else (none))) else (none))
def moultlaw9_FilterGrows.l0 : Nat → ByteArray → List ByteArray → ByteArray → Int → Option (Bool)
  | 0, _, _, _, _ => none
  | k + 1, x1, x10, x11, x12 => if x12 < (x10.length : Int) then (if 0 ≤ x12 then ((filter_May.f x11 (rdOf ByteArray.empty x10 x12)).bind fun t199 => (if t199 = true then (moultlaw9_FilterGrows.l0 k x1 x10 x11 (wrap64 (x12 + 1))) else (some false))) else (none)) else (if 0 ≤ (x11.size : Int) then (if ((x11.size : Int) : Int).toNat ≤ 281474976710656 then (moultlaw9_FilterGrows.l1 k x1 x10 x11 (List.replicate ((x11.size : Int) : Int).toNat 0) (List.replicate ((x11.size : Int) : Int).toNat 0) 0) else (none)) else (none))
def moultlaw9_FilterGrows.l1 : Nat → ByteArray → List ByteArray → ByteArray → List Int → List Int → Int → Option (Bool)
  | 0, _, _, _, _, _, _ => none
  | k + 1, x1, x10, x11, x13, x14, x15 => if x15 < (x13.length : Int) then (if 0 ≤ x15 then (moultlaw9_FilterGrows.l1 k x1 x10 x11 (x13.set (x15 : Int).toNat 255) x14 (wrap64 (x15 + 1))) else (none)) else ((filter_Full.f k x11).bind fun bt207 => ((filter_May.f (strOfNums x13) x1).bind fun t209 => (if t209 = true then ((filter_May.f (strOfNums x14) x1).bind fun t210 => (if t210 = true then (some false) else (if bt207.1 ≥ 1 then (if bt207.1 ≤ (wrap64 (4 * (x10.length : Int))) then (some (bt207.2 == (wrap64 (8 * (x11.size : Int))))) else (some false)) else (some false)))) else (some false))))
end
def moultlaw9_FilterGrows.f (k : Nat) (l0 : List ByteArray) (a1 : ByteArray) (a2 : Int) : Option (Bool) := (moultlaw9_shown.f k).bind fun t188 => ((moultlaw9_small.f k l0).bind fun t189 => (if t188 = true then (if t189 = true then (if (a1.size : Int) > 300 then (moultlaw9_FilterGrows.j0 k l0 a1 a2 t188 true) else (moultlaw9_FilterGrows.j0 k l0 a1 a2 t188 ((l0.length : Int) == 0))) else (moultlaw9_FilterGrows.j0 k l0 a1 a2 t188 true)) else (moultlaw9_FilterGrows.j0 k l0 a1 a2 t188 true)))
theorem moultlaw9_FilterGrows.mono_l : ∀ k, (∀ y0 y1 y2 y3 y4, LeO (moultlaw9_FilterGrows.j0 k y0 y1 y2 y3 y4) (moultlaw9_FilterGrows.j0 (k + 1) y0 y1 y2 y3 y4)) ∧ (∀ y0 y1 y2, LeO (moultlaw9_FilterGrows.j1 k y0 y1 y2) (moultlaw9_FilterGrows.j1 (k + 1) y0 y1 y2)) ∧ (∀ y0 y1 y2 y3, LeO (moultlaw9_FilterGrows.l0 k y0 y1 y2 y3) (moultlaw9_FilterGrows.l0 (k + 1) y0 y1 y2 y3)) ∧ (∀ y0 y1 y2 y3 y4 y5, LeO (moultlaw9_FilterGrows.l1 k y0 y1 y2 y3 y4 y5) (moultlaw9_FilterGrows.l1 (k + 1) y0 y1 y2 y3 y4 y5))
  | 0 => ⟨fun _ _ _ _ _ r h => by simp [moultlaw9_FilterGrows.j0] at h, fun _ _ _ r h => by simp [moultlaw9_FilterGrows.j1] at h, fun _ _ _ _ r h => by simp [moultlaw9_FilterGrows.l0] at h, fun _ _ _ _ _ _ r h => by simp [moultlaw9_FilterGrows.l1] at h⟩
  | k + 1 => by
    obtain ⟨ih0, ih1, ih2, ih3⟩ := moultlaw9_FilterGrows.mono_l k
    refine ⟨?_, ?_, ?_, ?_⟩
    · intro y0 y1 y2 y3 y4
      unfold moultlaw9_FilterGrows.j0
      repeat' first
      | (with_reducible exact ih0 _ _ _ _ _)
      | (with_reducible exact ih1 _ _ _)
      | (with_reducible exact ih2 _ _ _ _)
      | (with_reducible exact ih3 _ _ _ _ _ _)
      | (with_reducible exact filter_Full.mono _ _)
      | (with_reducible exact moultlaw9_shown.mono _)
      | (with_reducible exact moultlaw9_small.mono _ _)
      | (with_reducible exact LeO.refl _)
      | (with_reducible exact LeO.none _)
      | (with_reducible refine LeO.ite ?_ ?_)
      | (with_reducible refine LeO.bind ?_ (fun _ => ?_))
      | exact ih0 _ _ _ _ _
      | exact ih1 _ _ _
      | exact ih2 _ _ _ _
      | exact ih3 _ _ _ _ _ _
      | exact filter_Full.mono _ _
      | exact moultlaw9_shown.mono _
      | exact moultlaw9_small.mono _ _
      | exact LeO.none _
      | refine LeO.ite ?_ ?_
      | refine LeO.bind ?_ (fun _ => ?_)
    · intro y0 y1 y2
      unfold moultlaw9_FilterGrows.j1
      repeat' first
      | (with_reducible exact ih0 _ _ _ _ _)
      | (with_reducible exact ih1 _ _ _)
      | (with_reducible exact ih2 _ _ _ _)
      | (with_reducible exact ih3 _ _ _ _ _ _)
      | (with_reducible exact filter_Full.mono _ _)
      | (with_reducible exact moultlaw9_shown.mono _)
      | (with_reducible exact moultlaw9_small.mono _ _)
      | (with_reducible exact LeO.refl _)
      | (with_reducible exact LeO.none _)
      | (with_reducible refine LeO.ite ?_ ?_)
      | (with_reducible refine LeO.bind ?_ (fun _ => ?_))
      | exact ih0 _ _ _ _ _
      | exact ih1 _ _ _
      | exact ih2 _ _ _ _
      | exact ih3 _ _ _ _ _ _
      | exact filter_Full.mono _ _
      | exact moultlaw9_shown.mono _
      | exact moultlaw9_small.mono _ _
      | exact LeO.none _
      | refine LeO.ite ?_ ?_
      | refine LeO.bind ?_ (fun _ => ?_)
    · intro y0 y1 y2 y3
      unfold moultlaw9_FilterGrows.l0
      repeat' first
      | (with_reducible exact ih0 _ _ _ _ _)
      | (with_reducible exact ih1 _ _ _)
      | (with_reducible exact ih2 _ _ _ _)
      | (with_reducible exact ih3 _ _ _ _ _ _)
      | (with_reducible exact filter_Full.mono _ _)
      | (with_reducible exact moultlaw9_shown.mono _)
      | (with_reducible exact moultlaw9_small.mono _ _)
      | (with_reducible exact LeO.refl _)
      | (with_reducible exact LeO.none _)
      | (with_reducible refine LeO.ite ?_ ?_)
      | (with_reducible refine LeO.bind ?_ (fun _ => ?_))
      | exact ih0 _ _ _ _ _
      | exact ih1 _ _ _
      | exact ih2 _ _ _ _
      | exact ih3 _ _ _ _ _ _
      | exact filter_Full.mono _ _
      | exact moultlaw9_shown.mono _
      | exact moultlaw9_small.mono _ _
      | exact LeO.none _
      | refine LeO.ite ?_ ?_
      | refine LeO.bind ?_ (fun _ => ?_)
    · intro y0 y1 y2 y3 y4 y5
      unfold moultlaw9_FilterGrows.l1
      repeat' first
      | (with_reducible exact ih0 _ _ _ _ _)
      | (with_reducible exact ih1 _ _ _)
      | (with_reducible exact ih2 _ _ _ _)
      | (with_reducible exact ih3 _ _ _ _ _ _)
      | (with_reducible exact filter_Full.mono _ _)
      | (with_reducible exact moultlaw9_shown.mono _)
      | (with_reducible exact moultlaw9_small.mono _ _)
      | (with_reducible exact LeO.refl _)
      | (with_reducible exact LeO.none _)
      | (with_reducible refine LeO.ite ?_ ?_)
      | (with_reducible refine LeO.bind ?_ (fun _ => ?_))
      | exact ih0 _ _ _ _ _
      | exact ih1 _ _ _
      | exact ih2 _ _ _ _
      | exact ih3 _ _ _ _ _ _
      | exact filter_Full.mono _ _
      | exact moultlaw9_shown.mono _
      | exact moultlaw9_small.mono _ _
      | exact LeO.none _
      | refine LeO.ite ?_ ?_
      | refine LeO.bind ?_ (fun _ => ?_)
theorem moultlaw9_FilterGrows.mono : ∀ a0 a1 a2 k, LeO (moultlaw9_FilterGrows.f k a0 a1 a2) (moultlaw9_FilterGrows.f (k + 1) a0 a1 a2) := by
  intro a0 a1 a2 k
  obtain ⟨ih0, ih1, ih2, ih3⟩ := moultlaw9_FilterGrows.mono_l k
  unfold moultlaw9_FilterGrows.f
  repeat' first
      | (with_reducible exact ih0 _ _ _ _ _)
      | (with_reducible exact ih1 _ _ _)
      | (with_reducible exact ih2 _ _ _ _)
      | (with_reducible exact ih3 _ _ _ _ _ _)
      | (with_reducible exact filter_Full.mono _ _)
      | (with_reducible exact moultlaw9_shown.mono _)
      | (with_reducible exact moultlaw9_small.mono _ _)
      | (with_reducible exact LeO.refl _)
      | (with_reducible exact LeO.none _)
      | (with_reducible refine LeO.ite ?_ ?_)
      | (with_reducible refine LeO.bind ?_ (fun _ => ?_))
      | exact ih0 _ _ _ _ _
      | exact ih1 _ _ _
      | exact ih2 _ _ _ _
      | exact ih3 _ _ _ _ _ _
      | exact filter_Full.mono _ _
      | exact moultlaw9_shown.mono _
      | exact moultlaw9_small.mono _ _
      | exact LeO.none _
      | refine LeO.ite ?_ ?_
      | refine LeO.bind ?_ (fun _ => ?_)
set_option maxHeartbeats 8000000 in
set_option maxRecDepth 100000 in
theorem moultlaw9_FilterGrows.calls (k : Nat) (A0 : Option Addr) (c0 : Nat) (l0 : List ByteArray) (a1 : ByteArray) (a2 : Int) (r : Bool) (w : World) (hr0 : Kd.C Kd.string w A0 l0.length l0) (hc0 : l0.length ≤ c0) (h : moultlaw9_FilterGrows.f k l0 a1 a2 = some r) :
    Calls Try.prog 6 #[.slice A0 l0.length c0, .string a1, .int .i64 a2] w fun e w' => e = .returned (.bool r) ∧ Below w.heap.size w w' := by
  have HR0 := Aside0.mk hr0
  have HC0 := Aside0.mk hc0
  clear hr0 hc0
  have HB := Aside0.mk (Below.refl w.heap.size w)
  have H : ((moultlaw9_shown.f k).bind fun t188 => ((moultlaw9_small.f k l0).bind fun t189 => (if t188 = true then (if t189 = true then (if (a1.size : Int) > 300 then (moultlaw9_FilterGrows.j0 k l0 a1 a2 t188 true) else (moultlaw9_FilterGrows.j0 k l0 a1 a2 t188 ((l0.length : Int) == 0))) else (moultlaw9_FilterGrows.j0 k l0 a1 a2 t188 true)) else (moultlaw9_FilterGrows.j0 k l0 a1 a2 t188 true)))) = some r := h
  clear h
  replace H := Option.bind_eq_some_iff.mp H
  obtain ⟨t188, A40, H⟩ := H
  replace H : ((moultlaw9_small.f k l0).bind fun t189 => (if t188 = true then (if t189 = true then (if (a1.size : Int) > 300 then (moultlaw9_FilterGrows.j0 k l0 a1 a2 t188 true) else (moultlaw9_FilterGrows.j0 k l0 a1 a2 t188 ((l0.length : Int) == 0))) else (moultlaw9_FilterGrows.j0 k l0 a1 a2 t188 true)) else (moultlaw9_FilterGrows.j0 k l0 a1 a2 t188 true))) = some r := H
  have A4 := Aside0.mk A40
  clear A40
  replace H := Option.bind_eq_some_iff.mp H
  obtain ⟨t189, A50, H⟩ := H
  replace H : (if t188 = true then (if t189 = true then (if (a1.size : Int) > 300 then (moultlaw9_FilterGrows.j0 k l0 a1 a2 t188 true) else (moultlaw9_FilterGrows.j0 k l0 a1 a2 t188 ((l0.length : Int) == 0))) else (moultlaw9_FilterGrows.j0 k l0 a1 a2 t188 true)) else (moultlaw9_FilterGrows.j0 k l0 a1 a2 t188 true)) = some r := H
  have A5 := Aside0.mk A50
  clear A50
  have HC6 := Aside0.mk H
  clear H
  go_enter Try.func6, Try.ntmps6
  go_upto_region 3 with (first | ((with_reducible refine gate_callee (f := 9) rfl ?_); refine goesL_ (some 18) rfl rfl Try.func9 (by kernel_rfl) rfl #[] rfl (by (try simp only [List.map_toArray, List.map_cons, List.map_nil]); first | done | rfl | (simp only [List.length_drop, List.length_take]; rfl)) ?_; (with_reducible refine (moultlaw9_shown.calls k  t188 _ A4.out).mono ?_); rintro e w7 ⟨rfl, hb⟩; refine ⟨_, rfl, ?_⟩; have n0_ := Aside0.mk (below_step (by repeat (first | (with_reducible first | exact HB.out | apply below_alloc | apply pw_below_drewN | apply below_drew1) | exact HB.out)) hb); clear HB; have HB := n0_; clear n0_; (try clear hb); (try clear hb2); (try clear hk); (try clear hi)) | ((with_reducible refine gate_callee (f := 15) rfl ?_); refine goesL_ (some 20) rfl rfl Try.func15 (by kernel_rfl) rfl #[.slice A0 l0.length c0] rfl (by (try simp only [List.map_toArray, List.map_cons, List.map_nil]); first | done | rfl | (simp only [List.length_drop, List.length_take]; rfl)) ?_; (with_reducible refine (moultlaw9_small.calls k _ _ l0 t189 _ ?side1 ?side2 A5.out).mono ?_); (case side1 => repeat (first | exact (Kd.C_below HR0.out HB.out) | (with_reducible refine Kd.C_alloc ?_ _) | (with_reducible refine Kd.C_drewN ?_ _) | (with_reducible refine Kd.C_drew ?_))); (case side2 => exact HC0.out); rintro e w' ⟨rfl, ⟨nd, rfl⟩⟩; refine ⟨_, rfl, ?_⟩))
  (try simp only [Act.put, List.setIfInBounds_toArray, List.set_cons_zero, List.set_cons_succ])
  go_cut [36] (fun v36 wc => ∃ (kq : Nat) (x36_5 : Bool), v36 = .bool x36_5 ∧ Aside0 (moultlaw9_FilterGrows.j0 kq l0 a1 a2 t188 x36_5 = some r) ∧ Aside0 (kq ≤ k) ∧ Aside0 (Below w.heap.size w wc))
  case first =>
    have H := HC6.out
    clear HC6
    by_cases c8 : t188 = true
    · subst c8
      have H1 : (if t189 = true then (if (a1.size : Int) > 300 then (moultlaw9_FilterGrows.j0 k l0 a1 a2 true true) else (moultlaw9_FilterGrows.j0 k l0 a1 a2 true ((l0.length : Int) == 0))) else (moultlaw9_FilterGrows.j0 k l0 a1 a2 true true)) = some r := by rw [if_pos rfl] at H; exact H
      clear H
      have H := H1
      clear H1
      by_cases c9 : t189 = true
      · subst c9
        have H1 : (if (a1.size : Int) > 300 then (moultlaw9_FilterGrows.j0 k l0 a1 a2 true true) else (moultlaw9_FilterGrows.j0 k l0 a1 a2 true ((l0.length : Int) == 0))) = some r := by rw [if_pos rfl] at H; exact H
        clear H
        have H := H1
        clear H1
        by_cases c10 : (a1.size : Int) > 300
        · rw [if_pos c10] at H
          have c10b0 : decide (300 < (a1.size : Int)) = true := decide_eq_true c10
          have c10b1 : decide (300 < a1.size) = true := decide_eq_true (by omega)
          clear c10
          (first | rw [c10b0] | (simp only [i64_w, i32_w]; rw [c10b0]) | skip)
          have H' := Aside0.mk H
          clear H
          go_wp2
          go_meet
          case rel => exact ⟨_, (true), (by first | rfl | (simp; done) | (simp [*]; done)), H', ⟨by first | omega | exact Nat.le_refl _⟩, ⟨by repeat (first | (with_reducible first | exact HB.out | apply below_alloc | apply pw_below_drewN | apply below_drew1) | exact HB.out)⟩⟩
        · rw [if_neg c10] at H
          have c10b0 : decide (300 < (a1.size : Int)) = false := decide_eq_false c10
          have c10b1 : decide (300 < a1.size) = false := decide_eq_false (by omega)
          clear c10
          (first | rw [c10b0] | (simp only [i64_w, i32_w]; rw [c10b0]) | skip)
          have H' := Aside0.mk H
          clear H
          go_wp2
          go_meet
          case rel => exact ⟨_, (((l0.length : Int) == 0)), (by first | rfl | (simp; done) | (simp [*]; done)), H', ⟨by first | omega | exact Nat.le_refl _⟩, ⟨by repeat (first | (with_reducible first | exact HB.out | apply below_alloc | apply pw_below_drewN | apply below_drew1) | exact HB.out)⟩⟩
      · replace c9 := Bool.eq_false_iff.mpr c9
        subst c9
        have H1 : (moultlaw9_FilterGrows.j0 k l0 a1 a2 true true) = some r := by rw [if_neg (show ¬ (false = true) by decide)] at H; exact H
        clear H
        have H := H1
        clear H1
        have H' := Aside0.mk H
        clear H
        go_wp2
        go_meet
        case rel => exact ⟨_, (true), (by first | rfl | (simp; done) | (simp [*]; done)), H', ⟨by first | omega | exact Nat.le_refl _⟩, ⟨by repeat (first | (with_reducible first | exact HB.out | apply below_alloc | apply pw_below_drewN | apply below_drew1) | exact HB.out)⟩⟩
    · replace c8 := Bool.eq_false_iff.mpr c8
      subst c8
      have H1 : (moultlaw9_FilterGrows.j0 k l0 a1 a2 false true) = some r := by rw [if_neg (show ¬ (false = true) by decide)] at H; exact H
      clear H
      have H := H1
      clear H1
      have H' := Aside0.mk H
      clear H
      go_wp2
      go_meet
      case rel => exact ⟨_, (true), (by first | rfl | (simp; done) | (simp [*]; done)), H', ⟨by first | omega | exact Nat.le_refl _⟩, ⟨by repeat (first | (with_reducible first | exact HB.out | apply below_alloc | apply pw_below_drewN | apply below_drew1) | exact HB.out)⟩⟩
  case rest =>
    clear HC6
    try clear c1
    try clear p2
    try clear c6
    try clear c8
    try clear c9
    try clear c10
    try clear c10b0
    try clear c10b1
    obtain ⟨kq, x36_5, rfl, HA, HJ5, HB⟩ := hcut
    cases kq with
    | zero => exact absurd HA.out (by simp [moultlaw9_FilterGrows.j0])
    | succ kj5 =>
      have H := HA.out
      clear HA
      simp only [moultlaw9_FilterGrows.j0] at H
      by_cases c11 : x36_5 = true
      · subst c11
        have H1 : (some t188) = some r := by rw [if_pos rfl] at H; exact H
        clear H
        have H := H1
        clear H1
        obtain rfl := Option.some.inj H
        go_wp2
        go_ret
        exact ⟨by first | rfl | (simp [errW_none, errW_some] <;> rfl) | (simp [*, errW_none, errW_some] <;> rfl), by repeat (first | (with_reducible first | exact HB.out | apply below_alloc | apply pw_below_drewN | apply below_drew1) | exact HB.out)⟩
      · replace c11 := Bool.eq_false_iff.mpr c11
        subst c11
        have H1 : (if (l0.length : Int) = 0 then (none) else (if (Int.tmod a2 (l0.length : Int)) < 0 then (moultlaw9_FilterGrows.j1 kj5 l0 a1 (wrap64 (-(Int.tmod a2 (l0.length : Int))))) else (moultlaw9_FilterGrows.j1 kj5 l0 a1 (Int.tmod a2 (l0.length : Int))))) = some r := by rw [if_neg (show ¬ (false = true) by decide)] at H; exact H
        clear H
        have H := H1
        clear H1
        by_cases c12 : (l0.length : Int) = 0
        · rw [if_pos c12] at H
          exact absurd H (by simp)
        · rw [if_neg c12] at H
          have c12b0 : ((l0.length : Int) == 0) = false := beq_eq_false_iff_ne.mpr c12
          have c12b1 : ((l0.length : Int) != 0) = true := bne_iff_ne.mpr c12
          have c12b2 : ¬ (l0 = []) := fun h_ => c12 (by rw [h_]; rfl)
          have HC13 := Aside0.mk H
          clear H
          go_upto_if 43 with (fail)
          go_cut [9] (fun v9 wc => ∃ (kq : Nat) (x9_12 : Int), v9 = .int .i64 x9_12 ∧ Aside0 (moultlaw9_FilterGrows.j1 kq l0 a1 x9_12 = some r) ∧ Aside0 (kq ≤ kj5) ∧ Aside0 (Below w.heap.size w wc))
          case first =>
            have H := HC13.out
            clear HC13
            by_cases c14 : (Int.tmod a2 (l0.length : Int)) < 0
            · rw [if_pos c14] at H
              have c14b0 : decide ((Int.tmod a2 (l0.length : Int)) < 0) = true := decide_eq_true c14
              clear c14
              (first | rw [c14b0] | (simp only [i64_w, i32_w]; rw [c14b0]) | skip)
              have H' := Aside0.mk H
              clear H
              go_wp2
              go_meet
              case rel => exact ⟨_, (wrap64 (-(Int.tmod a2 (l0.length : Int)))), (by first | rfl | (simp; done) | (simp [*]; done)), H', ⟨by have := HJ5.out; first | omega | exact Nat.le_refl _⟩, ⟨by repeat (first | (with_reducible first | exact HB.out | apply below_alloc | apply pw_below_drewN | apply below_drew1) | exact HB.out)⟩⟩
            · rw [if_neg c14] at H
              have c14b0 : decide ((Int.tmod a2 (l0.length : Int)) < 0) = false := decide_eq_false c14
              clear c14
              (first | rw [c14b0] | (simp only [i64_w, i32_w]; rw [c14b0]) | skip)
              have H' := Aside0.mk H
              clear H
              go_wp2
              go_meet
              case rel => exact ⟨_, (Int.tmod a2 (l0.length : Int)), (by first | rfl | (simp; done) | (simp [*]; done)), H', ⟨by have := HJ5.out; first | omega | exact Nat.le_refl _⟩, ⟨by repeat (first | (with_reducible first | exact HB.out | apply below_alloc | apply pw_below_drewN | apply below_drew1) | exact HB.out)⟩⟩
          case rest =>
            clear HC13
            try clear c1
            try clear p2
            try clear c6
            try clear p6
            try clear c8
            try clear c9
            try clear c10
            try clear c10b0
            try clear c10b1
            try clear c11
            try clear c12
            try clear c12b0
            try clear c12b1
            try clear c12b2
            try clear c14
            try clear c14b0
            try clear p2
            obtain ⟨kq, x9_12, rfl, HA, HJ12, HB⟩ := hcut
            cases kq with
            | zero => exact absurd HA.out (by simp [moultlaw9_FilterGrows.j1])
            | succ kj12 =>
              have H := HA.out
              clear HA
              simp only [moultlaw9_FilterGrows.j1] at H
              obtain ⟨y190, hy190⟩ : ∃ y_ : List ByteArray, y_ = (([] : List ByteArray)) := ⟨_, rfl⟩
              replace H : (if y190.length + l0.length < 8796093022208 then ((some (y190 ++ l0 : List ByteArray)).bind fun y193 => (if 0 ≤ x9_12 then (if x9_12 < (y193.length : Int) then ((some (y193.set (x9_12 : Int).toNat a1 : List ByteArray)).bind fun y196 => ((filter_Build.f y196).bind fun t197 => (moultlaw9_FilterGrows.l0 kj12 a1 y196 t197 0))) else (none)) else (none))) else (none)) = some r := by first | (rw [hy190]; with_reducible exact H) | (have H2_ := (Option.bind_some _ _).symm.trans H; rw [hy190]; with_reducible exact H2_) | (have H2_ := (Option.bind_some _ _).symm.trans H; with_reducible exact H2_) | with_reducible exact H | (rw [hy190]; exact H) | exact H
              have Ny190 := Aside0.mk hy190
              clear hy190
              by_cases c15 : y190.length + l0.length < 8796093022208
              · rw [if_pos c15] at H
                have LMc15 := Aside0.mk c15
                clear c15
                obtain ⟨y193, hy193⟩ : ∃ y_ : List ByteArray, y_ = (y190 ++ l0) := ⟨_, rfl⟩
                replace H : (if 0 ≤ x9_12 then (if x9_12 < (y193.length : Int) then ((some (y193.set (x9_12 : Int).toNat a1 : List ByteArray)).bind fun y196 => ((filter_Build.f y196).bind fun t197 => (moultlaw9_FilterGrows.l0 kj12 a1 y196 t197 0))) else (none)) else (none)) = some r := by first | (rw [hy193]; with_reducible exact H) | (have H2_ := (Option.bind_some _ _).symm.trans H; rw [hy193]; with_reducible exact H2_) | (have H2_ := (Option.bind_some _ _).symm.trans H; with_reducible exact H2_) | with_reducible exact H | (rw [hy193]; exact H) | exact H
                have Ny193 := Aside0.mk hy193
                clear hy193
                by_cases c16 : 0 ≤ x9_12
                · rw [if_pos c16] at H
                  have c16b0 : decide (0 ≤ x9_12) = true := decide_eq_true c16
                  clear c16
                  by_cases c17 : x9_12 < (y193.length : Int)
                  · rw [if_pos c17] at H
                    have c17b0 : decide (x9_12 < (y193.length : Int)) = true := decide_eq_true c17
                    clear c17
                    obtain ⟨y196, hy196⟩ : ∃ y_ : List ByteArray, y_ = (y193.set (x9_12 : Int).toNat a1) := ⟨_, rfl⟩
                    replace H : ((filter_Build.f y196).bind fun t197 => (moultlaw9_FilterGrows.l0 kj12 a1 y196 t197 0)) = some r := by first | (rw [hy196]; with_reducible exact H) | (have H2_ := (Option.bind_some _ _).symm.trans H; rw [hy196]; with_reducible exact H2_) | (have H2_ := (Option.bind_some _ _).symm.trans H; with_reducible exact H2_) | with_reducible exact H | (rw [hy196]; exact H) | exact H
                    have Ny196 := Aside0.mk hy196
                    clear hy196
                    replace H := Option.bind_eq_some_iff.mp H
                    obtain ⟨t197, A190, H⟩ := H
                    replace H : (moultlaw9_FilterGrows.l0 kj12 a1 y196 t197 0) = some r := H
                    have A19 := Aside0.mk A190
                    clear A190
                    have H' := Aside0.mk H
                    clear H
                    go_wp2_with (first | ((with_reducible refine gate_dst (N := 46) rfl ?_); (try (refine gate_guard (by rfl) ?_; dsimp only)); refine Kd.R_lit Kd.string _ 9 ?hg (N := 46) ?hd (xs := ([] : List ByteArray)) (inner := []) (ok := fun _ => True) (okp := fun _ => True) ?hr ?hp (fun _ hk => hk) trivial (Below.refl _ _) (Nat.le_refl _) (by simp) ?_; (case hd => rfl); (case hg => rfl); (case hr => first | (go_simp; done) | (go_simp; rfl)); (case hp => exact (Reps.none _ _)); intro v191 w20 ho21 hb hg_ hnew_; clear hg_ hnew_; (first | rw [← Ny190.out] at ho21 | (simp only [Int.reduceToNat] at ho21; rw [← Ny190.out] at ho21)); have n0_ := Aside0.mk (Kd.R_lower ho21 (below_size (by repeat (first | (with_reducible first | exact HB.out | apply below_alloc | apply pw_below_drewN | apply below_drew1) | exact HB.out)))); have n1_ := Aside0.mk (below_step (by repeat (first | (with_reducible first | exact HB.out | apply below_alloc | apply pw_below_drewN | apply below_drew1) | exact HB.out)) hb); clear HB; have HO192 := n0_; have HB := n1_; clear n0_ n1_; clear hb ho21) | ((with_reducible refine gate_builtin (b := .append) (xs := #[.tmp 46, .tmp 47]) rfl ?_); (try (refine gate_guard (by rfl) ?_; dsimp only)); at_builtin; refine Kd.R_append_rows Kd.string (w0 := w) w.heap.size rfl (.tmp 46) (.tmp 47) 29 9 (.string ⟨#[]⟩) 16 rfl Try.underlying29 info9 rfl (by decide) (by omega) v191 y190 l0 _ _ _ (fun _ => True) (fun _ => False) rfl rfl ?aO ?aR (fun _ _ h => h) (fun _ h => h.elim) ?aF ?aB ?aS ?aL ?_; (case aR => repeat (first | exact (Kd.C_below HR0.out HB.out) | (with_reducible refine Kd.C_alloc ?_ _) | (with_reducible refine Kd.C_drewN ?_ _) | (with_reducible refine Kd.C_drew ?_))); (case aB => exact (by repeat (first | (with_reducible first | exact HB.out | apply below_alloc | apply pw_below_drewN | apply below_drew1) | exact HB.out))); (case aF => exact (fun _ _ => trivial)); (case aO => exact (by (with_reducible repeat (first | apply Kd.R_alloc | apply Kd.R_drewN | apply Kd.R_drew)); exact HO192.out)); (case aS => exact (below_size (by repeat (first | (with_reducible first | exact HB.out | apply below_alloc | apply pw_below_drewN | apply below_drew1) | exact HB.out)))); (case aL => have := LMc15.out; omega); intro v194 w22 ho hb hg hat; rw [← Ny193.out] at ho; have n0_ := Aside0.mk (hb); have n1_ := Aside0.mk (ho); clear HB; clear HO192; have HB := n0_; have HO195 := n1_; clear n0_ n1_; clear ho hb hg hat; have p18 : 0 ≤ (x9_12 : Int) := of_decide_eq_true (by first | (with_reducible assumption) | assumption); have q18 : (x9_12 : Int) < ((y193.length : Int) : Int) := of_decide_eq_true (by first | (with_reducible assumption) | assumption); obtain ⟨go18, co18, eo18, gb18, gl18, cl18, HG18⟩ := Kd.R_form HO195.out (by omega); (first | cases eo18 | (injection eo18 with ea_ en_ ec_; (first | subst ea_ | (injection ea_ with ea_; subst ea_)); subst ec_; clear en_)); have GB18 := Aside0.mk gb18; have GG18 := Aside0.mk HG18; clear gb18 gl18 HG18; obtain ⟨hx18_0, hf18_0⟩ := Kd.R_celln (⟨#[]⟩ : ByteArray) HO195.out (x9_12 : Int) p18 q18; replace p18 := eq_true p18; replace q18 := eq_true q18; obtain ⟨hy23_, hz23_⟩ := Kd.R_celln (⟨#[]⟩ : ByteArray) HO195.out (x9_12 : Int) (of_decide_eq_true (by first | (with_reducible assumption) | assumption)) (of_decide_eq_true (by first | (with_reducible assumption) | assumption)); have HP23 := Kd.R_putg HO195.out (x9_12 : Int) a1) | ((with_reducible refine gate_store (t := 9) (p := 52) rfl ?_); refine store_event (t := 9) (p := 52) (v := ?vo_w24) (w1 := (w22.setCell ⟨go18, (x9_12 : Int).toNat, none⟩ (.string a1))) ?hg ?ho ?hn ?hr ?_; (case ho => rfl); (case hg => rfl); (case hn => rfl); (case hr => first | (go_simp; done) | (go_simp; rfl)); intro w24 hw; have hg : w22.grownBy w24 (some go18) := (by rw [hw]; exact HP23.2); have hp_ : Kd.R Kd.string 9 w24 w.heap.size (fun _ => True) (.slice (some ⟨go18, 0, none⟩) y193.length co18) y196 := (by rw [hw, Ny196.out]; exact HP23.1); clear HP23; have n0_ := Aside0.mk (hp_); have n1_ := Aside0.mk ((by rw [hw]; exact below_set (HB.out) GB18.out : Below w.heap.size w w24)); clear HO195; clear HB; have HO195 := n0_; have HB := n1_; clear n0_ n1_; clear hg hw hp_) | ((with_reducible refine gate_callee (f := 16) rfl ?_); refine goesL_ (some 54) rfl rfl Try.func16 (by kernel_rfl) rfl #[.slice (some ⟨go18, 0, none⟩) y196.length co18] rfl (by (try simp only [List.map_toArray, List.map_cons, List.map_nil]); first | done | (rw [show y196.length = y193.length from (Kd.R_reads' HO195.out).1.symm] <;> rfl) | rfl | (simp only [List.length_drop, List.length_take]; rfl)) ?_; (with_reducible refine (filter_Build.calls _ _ y196 t197 _ ?side1 ?side2 A19.out).mono ?_); (case side1 => repeat (first | exact (Kd.R_reads' HO195.out).2.2 | (with_reducible refine Kd.C_alloc ?_ _) | (with_reducible refine Kd.C_drewN ?_ _) | (with_reducible refine Kd.C_drew ?_))); (case side2 => rw [show y196.length = y193.length from (Kd.R_reads' HO195.out).1.symm]; exact (Kd.R_reads' HO195.out).2.1); rintro e w25 ⟨rfl, hb⟩; refine ⟨_, rfl, ?_⟩; have n0_ := Aside0.mk (Kd.R_below (by (with_reducible repeat (first | apply Kd.R_alloc | apply Kd.R_drewN | apply Kd.R_drew)); exact HO195.out) hb); have n1_ := Aside0.mk (below_step (by repeat (first | (with_reducible first | exact HB.out | apply below_alloc | apply pw_below_drewN | apply below_drew1) | exact HB.out)) hb); clear HO195; clear HB; have HO195 := n0_; have HB := n1_; clear n0_ n1_; (try clear hb); (try clear hb2); (try clear hk); (try clear hi)))
                    go_loopg [12] kj12 (fun kq v12 w' => ∃ (x12_3 : Int), v12 = .int .i64 x12_3 ∧ Aside0 (moultlaw9_FilterGrows.l0 kq a1 y196 t197 x12_3 = some r) ∧ Aside0 (kq ≤ kj12) ∧ Aside0 (Kd.R Kd.string 9 w' w.heap.size (fun _ => True) (.slice (some ⟨go18, 0, none⟩) y193.length co18) y196) ∧ Aside0 (Below w.heap.size w w'))
                    case atStart => exact ⟨(0), (by first | rfl | (simp; done) | (simp [*]; done)), H', ⟨Nat.le_refl _⟩, ⟨by (with_reducible repeat (first | apply Kd.R_alloc | apply Kd.R_drewN | apply Kd.R_drew)); exact HO195.out⟩, ⟨by repeat (first | (with_reducible first | exact HB.out | apply below_alloc | apply pw_below_drewN | apply below_drew1) | exact HB.out)⟩⟩
                    case round =>
                      clear H'
                      try clear c1
                      try clear p1
                      try clear q1
                      try clear hx1
                      try clear p2
                      try clear c6
                      try clear p6
                      try clear c8
                      try clear c9
                      try clear c10
                      try clear c10b0
                      try clear c10b1
                      try clear c11
                      try clear c12
                      try clear c12b0
                      try clear c12b1
                      try clear c12b2
                      try clear c14
                      try clear c14b0
                      try clear c15
                      try clear c16
                      try clear c16b0
                      try clear c17
                      try clear c17b0
                      try clear p18
                      try clear q18
                      try clear hx18
                      try clear hf18
                      try clear hx18_0
                      try clear p18
                      try clear p2
                      try clear p6
                      try clear q18
                      obtain ⟨x12_3, rfl, HA, HK3, HO_10, HB⟩ := hrel
                      have hl10_3 := (Kd.R_reads' HO_10.out).1
                      rw [hl10_3] at HO_10
                      (try simp only [hl10_3])
                      cases gk with
                      | zero => exact absurd HA.out (by simp [moultlaw9_FilterGrows.l0])
                      | succ k3 =>
                        have H := HA.out
                        clear HA
                        simp only [moultlaw9_FilterGrows.l0] at H
                        by_cases c26 : x12_3 < (y196.length : Int)
                        · rw [if_pos c26] at H
                          have c26b0 : decide (x12_3 < (y196.length : Int)) = true := decide_eq_true c26
                          clear c26
                          by_cases c27 : 0 ≤ x12_3
                          · rw [if_pos c27] at H
                            have c27b0 : decide (0 ≤ x12_3) = true := decide_eq_true c27
                            clear c27
                            replace H := Option.bind_eq_some_iff.mp H
                            obtain ⟨t199, A280, H⟩ := H
                            replace H : (if t199 = true then (moultlaw9_FilterGrows.l0 k3 a1 y196 t197 (wrap64 (x12_3 + 1))) else (some false)) = some r := H
                            have A28 := Aside0.mk A280
                            clear A280
                            by_cases c29 : t199 = true
                            · subst c29
                              have H1 : (moultlaw9_FilterGrows.l0 k3 a1 y196 t197 (wrap64 (x12_3 + 1))) = some r := by rw [if_pos rfl] at H; exact H
                              clear H
                              have H := H1
                              clear H1
                              have H' := Aside0.mk H
                              clear H
                              have p198 : 0 ≤ (x12_3 : Int) := of_decide_eq_true (by first | (with_reducible assumption) | assumption)
                              have q198 : x12_3 < (y196.length : Int) := of_decide_eq_true (by first | (with_reducible assumption) | assumption)
                              obtain ⟨ad198, e198, hx198_0⟩ := Kd.at_string (Kd.R_reads' HO_10.out).2.2 x12_3 p198 q198
                              obtain rfl : (⟨go18, 0, none⟩ : Addr) = ad198 := (by injection e198)
                              (first | simp only [add_plain] at hx198_0 | simp only [add_at] at hx198_0 | simp only [Addr.add, Nat.zero_add] at hx198_0 | skip)
                              replace p198 := eq_true p198
                              replace q198 := eq_true q198
                              go_wp2_with (first | ((with_reducible refine gate_callee (f := 20) rfl ?_); refine goesL_ (some 66) rfl rfl Try.func20 (by kernel_rfl) rfl #[.string t197, .string (rdOf ByteArray.empty y196 x12_3)] rfl (by (try simp only [List.map_toArray, List.map_cons, List.map_nil]); first | done | rfl | (simp only [List.length_drop, List.length_take]; rfl)) ?_; (with_reducible refine (filter_May.calls t197 (rdOf ByteArray.empty y196 x12_3) true _ A28.out).mono ?_); rintro e w30 ⟨rfl, hb⟩; refine ⟨_, rfl, ?_⟩; have n0_ := Aside0.mk (Kd.R_below (by (with_reducible repeat (first | apply Kd.R_alloc | apply Kd.R_drewN | apply Kd.R_drew)); exact HO_10.out) hb); have n1_ := Aside0.mk (below_step (by repeat (first | (with_reducible first | exact HB.out | apply below_alloc | apply pw_below_drewN | apply below_drew1) | exact HB.out)) hb); clear HO_10; clear HB; have HO_10 := n0_; have HB := n1_; clear n0_ n1_; (try clear hb); (try clear hb2); (try clear hk); (try clear hi)))
                              (try simp only [← hl10_3])
                              go_roundg k3
                              case measure => have := HJ5.out; have := HJ12.out; have := HK3.out; omega
                              case rel => exact ⟨(wrap64 (x12_3 + 1)), (by first | rfl | (simp; done) | (simp [*]; done)), H', ⟨by have := HJ5.out; have := HJ12.out; have := HK3.out; omega⟩, ⟨by (try simp only [hl10_3]); (with_reducible repeat (first | apply Kd.R_alloc | apply Kd.R_drewN | apply Kd.R_drew)); exact HO_10.out⟩, ⟨by repeat (first | (with_reducible first | exact HB.out | apply below_alloc | apply pw_below_drewN | apply below_drew1) | exact HB.out)⟩⟩
                            · replace c29 := Bool.eq_false_iff.mpr c29
                              subst c29
                              have H1 : (some false) = some r := by rw [if_neg (show ¬ (false = true) by decide)] at H; exact H
                              clear H
                              have H := H1
                              clear H1
                              obtain rfl := Option.some.inj H
                              have p198 : 0 ≤ (x12_3 : Int) := of_decide_eq_true (by first | (with_reducible assumption) | assumption)
                              have q198 : x12_3 < (y196.length : Int) := of_decide_eq_true (by first | (with_reducible assumption) | assumption)
                              obtain ⟨ad198, e198, hx198_0⟩ := Kd.at_string (Kd.R_reads' HO_10.out).2.2 x12_3 p198 q198
                              obtain rfl : (⟨go18, 0, none⟩ : Addr) = ad198 := (by injection e198)
                              (first | simp only [add_plain] at hx198_0 | simp only [add_at] at hx198_0 | simp only [Addr.add, Nat.zero_add] at hx198_0 | skip)
                              replace p198 := eq_true p198
                              replace q198 := eq_true q198
                              go_wp2_with (first | ((with_reducible refine gate_callee (f := 20) rfl ?_); refine goesL_ (some 66) rfl rfl Try.func20 (by kernel_rfl) rfl #[.string t197, .string (rdOf ByteArray.empty y196 x12_3)] rfl (by (try simp only [List.map_toArray, List.map_cons, List.map_nil]); first | done | rfl | (simp only [List.length_drop, List.length_take]; rfl)) ?_; (with_reducible refine (filter_May.calls t197 (rdOf ByteArray.empty y196 x12_3) false _ A28.out).mono ?_); rintro e w31 ⟨rfl, hb⟩; refine ⟨_, rfl, ?_⟩; have n0_ := Aside0.mk (Kd.R_below (by (with_reducible repeat (first | apply Kd.R_alloc | apply Kd.R_drewN | apply Kd.R_drew)); exact HO_10.out) hb); have n1_ := Aside0.mk (below_step (by repeat (first | (with_reducible first | exact HB.out | apply below_alloc | apply pw_below_drewN | apply below_drew1) | exact HB.out)) hb); clear HO_10; clear HB; have HO_10 := n0_; have HB := n1_; clear n0_ n1_; (try clear hb); (try clear hb2); (try clear hk); (try clear hi)))
                              go_ret
                              exact ⟨by first | rfl | (simp [errW_none, errW_some] <;> rfl) | (simp [*, errW_none, errW_some] <;> rfl), by repeat (first | (with_reducible first | exact HB.out | apply below_alloc | apply pw_below_drewN | apply below_drew1) | exact HB.out)⟩
                          · rw [if_neg c27] at H
                            exact absurd H (by simp)
                        · rw [if_neg c26] at H
                          have c26b0 : decide (x12_3 < (y196.length : Int)) = false := decide_eq_false c26
                          clear c26
                          by_cases c32 : 0 ≤ (t197.size : Int)
                          · rw [if_pos c32] at H
                            have c32b0 := eq_true c32
                            have c32b1 : decide (0 ≤ (t197.size : Int)) = true := decide_eq_true c32
                            clear c32
                            by_cases c33 : ((t197.size : Int) : Int).toNat ≤ 281474976710656
                            · rw [if_pos c33] at H
                              have c33b0 := eq_true c33
                              have c33b1 : decide (((t197.size : Int) : Int).toNat ≤ 281474976710656) = true := decide_eq_true c33
                              clear c33
                              obtain ⟨y200, hy200⟩ : ∃ y_ : List Int, y_ = (List.replicate ((t197.size : Int) : Int).toNat 0) := ⟨_, rfl⟩
                              replace H : (moultlaw9_FilterGrows.l1 k3 a1 y196 t197 y200 (List.replicate ((t197.size : Int) : Int).toNat 0) 0) = some r := by first | (rw [hy200]; with_reducible exact H) | (have H2_ := (Option.bind_some _ _).symm.trans H; rw [hy200]; with_reducible exact H2_) | (have H2_ := (Option.bind_some _ _).symm.trans H; with_reducible exact H2_) | with_reducible exact H | (rw [hy200]; exact H) | exact H
                              have Ny200 := Aside0.mk hy200
                              clear hy200
                              obtain ⟨y203, hy203⟩ : ∃ y_ : List Int, y_ = (List.replicate ((t197.size : Int) : Int).toNat 0) := ⟨_, rfl⟩
                              replace H : (moultlaw9_FilterGrows.l1 k3 a1 y196 t197 y200 y203 0) = some r := by first | (rw [hy203]; with_reducible exact H) | (have H2_ := (Option.bind_some _ _).symm.trans H; rw [hy203]; with_reducible exact H2_) | (have H2_ := (Option.bind_some _ _).symm.trans H; with_reducible exact H2_) | with_reducible exact H | (rw [hy203]; exact H) | exact H
                              have Ny203 := Aside0.mk hy203
                              clear hy203
                              have H' := Aside0.mk H
                              clear H
                              go_wp2_with (first | ((with_reducible refine gate_dst (N := 70) rfl ?_); (try (refine gate_guard (by rfl) ?_; dsimp only)); refine Kd.R_make (Kd.int .u8) _ 5 rfl (N := 70) rfl 37 _ _ rfl (t197.size : Int) rfl rfl Try.underlying37 (.int .u8 0) 1 info5 rfl (by decide) (by omega) 0 (ok := fun _ => True) (okp := fun _ => True) rfl (fun _ hk => hk) trivial (of_decide_eq_true (by first | (with_reducible assumption) | assumption)) (Nat.le_trans (Nat.mul_le_mul_right _ (of_decide_eq_true (by first | (with_reducible assumption) | assumption) : (t197.size : Int).toNat ≤ 281474976710656)) (by omega)) (Below.refl _ _) (Nat.le_refl _) ?_; intro v201 w34 ho35 hb hg_ hnew_; clear hg_ hnew_; (first | rw [← Ny200.out] at ho35 | (simp only [Int.reduceToNat] at ho35; rw [← Ny200.out] at ho35)); have n0_ := Aside0.mk (Kd.R_below (by (with_reducible repeat (first | apply Kd.R_alloc | apply Kd.R_drewN | apply Kd.R_drew)); exact HO_10.out) hb); have n1_ := Aside0.mk (Kd.R_lower ho35 (below_size (by repeat (first | (with_reducible first | exact HB.out | apply below_alloc | apply pw_below_drewN | apply below_drew1) | exact HB.out)))); have n2_ := Aside0.mk (below_step (by repeat (first | (with_reducible first | exact HB.out | apply below_alloc | apply pw_below_drewN | apply below_drew1) | exact HB.out)) hb); clear HO_10; clear HB; have HO_10 := n0_; have HO202 := n1_; have HB := n2_; clear n0_ n1_ n2_; clear hb ho35) | ((with_reducible refine gate_dst (N := 73) rfl ?_); (try (refine gate_guard (by rfl) ?_; dsimp only)); refine Kd.R_make (Kd.int .u8) _ 5 rfl (N := 73) rfl 37 _ _ rfl (t197.size : Int) rfl rfl Try.underlying37 (.int .u8 0) 1 info5 rfl (by decide) (by omega) 0 (ok := fun _ => True) (okp := fun _ => True) rfl (fun _ hk => hk) trivial (of_decide_eq_true (by first | (with_reducible assumption) | assumption)) (Nat.le_trans (Nat.mul_le_mul_right _ (of_decide_eq_true (by first | (with_reducible assumption) | assumption) : (t197.size : Int).toNat ≤ 281474976710656)) (by omega)) (Below.refl _ _) (Nat.le_refl _) ?_; intro v204 w36 ho37 hb hg_ hnew_; clear hg_ hnew_; (first | rw [← Ny203.out] at ho37 | (simp only [Int.reduceToNat] at ho37; rw [← Ny203.out] at ho37)); have n0_ := Aside0.mk (Kd.R_below (by (with_reducible repeat (first | apply Kd.R_alloc | apply Kd.R_drewN | apply Kd.R_drew)); exact HO_10.out) hb); have n1_ := Aside0.mk (Kd.R_elder' (by (with_reducible repeat (first | apply Kd.R_alloc | apply Kd.R_drewN | apply Kd.R_drew)); exact HO202.out) (Kd.R_base ho37) hb); have n2_ := Aside0.mk (Kd.R_lower (Kd.R_new' ho37 (Kd.R_lt (by (with_reducible repeat (first | apply Kd.R_alloc | apply Kd.R_drewN | apply Kd.R_drew)); exact HO202.out))) (below_size (by repeat (first | (with_reducible first | exact HB.out | apply below_alloc | apply pw_below_drewN | apply below_drew1) | exact HB.out)))); have n3_ := Aside0.mk (below_step (by repeat (first | (with_reducible first | exact HB.out | apply below_alloc | apply pw_below_drewN | apply below_drew1) | exact HB.out)) hb); clear HO_10; clear HO202; clear HB; have HO_10 := n0_; have HO202 := n1_; have HO205 := n2_; have HB := n3_; clear n0_ n1_ n2_ n3_; clear hb ho37))
                              go_loopg [15] k3 (fun kq v15 w' => ∃ (x13_4 : List Int) (x15_4 : Int), v15 = .int .i64 x15_4 ∧ Aside0 (moultlaw9_FilterGrows.l1 kq a1 y196 t197 x13_4 y203 x15_4 = some r) ∧ Aside0 (kq ≤ k3) ∧ Aside0 (Kd.R Kd.string 9 w' w.heap.size (fun _ => True) (.slice (some ⟨go18, 0, none⟩) y196.length co18) y196) ∧ Aside0 (Kd.R (Kd.int .u8) 5 w' w.heap.size (fun k_ => some k_ ≠ (v204 : Value).ownBlock) v201 x13_4) ∧ Aside0 (Kd.R (Kd.int .u8) 5 w' w.heap.size (fun k_ => some k_ ≠ (v201 : Value).ownBlock) v204 y203) ∧ Aside0 (Below w.heap.size w w'))
                              case atStart => exact ⟨(y200), (0), (by first | rfl | (simp; done) | (simp [*]; done)), H', ⟨Nat.le_refl _⟩, ⟨by (try simp only [hl10_3]); (with_reducible repeat (first | apply Kd.R_alloc | apply Kd.R_drewN | apply Kd.R_drew)); exact HO_10.out⟩, ⟨by (try simp only [hl10_3]); (with_reducible repeat (first | apply Kd.R_alloc | apply Kd.R_drewN | apply Kd.R_drew)); exact Kd.R_mono HO202.out (fun _ hk => hk.2)⟩, ⟨by (try simp only [hl10_3]); (with_reducible repeat (first | apply Kd.R_alloc | apply Kd.R_drewN | apply Kd.R_drew)); exact Kd.R_mono HO205.out (fun _ hk => hk.2)⟩, ⟨by repeat (first | (with_reducible first | exact HB.out | apply below_alloc | apply pw_below_drewN | apply below_drew1) | exact HB.out)⟩⟩
                              case round =>
                                clear H'
                                try clear c1
                                try clear p1
                                try clear q1
                                try clear hx1
                                try clear c2
                                try clear p2
                                try clear c3
                                try clear c6
                                try clear p6
                                try clear c8
                                try clear c9
                                try clear c10
                                try clear c10b0
                                try clear c10b1
                                try clear c11
                                try clear c12
                                try clear c12b0
                                try clear c12b1
                                try clear c12b2
                                try clear c14
                                try clear c14b0
                                try clear c15
                                try clear c16
                                try clear c16b0
                                try clear c17
                                try clear c17b0
                                try clear p18
                                try clear q18
                                try clear hx18
                                try clear hf18
                                try clear p19
                                try clear q19
                                try clear hx19
                                try clear c20
                                try clear c26
                                try clear c26b0
                                try clear c27
                                try clear c27b0
                                try clear c29
                                try clear c32
                                try clear c32b0
                                try clear c32b1
                                try clear c33
                                try clear c33b0
                                try clear c33b1
                                try clear hx18_0
                                try clear hx198_0
                                try clear p1
                                try clear p18
                                try clear p198
                                try clear p2
                                try clear p6
                                try clear q1
                                try clear q18
                                try clear q198
                                obtain ⟨x13_4, x15_4, rfl, HA, HK4, HO_10, HO_13, HO_14, HB⟩ := hrel
                                cases gk with
                                | zero => exact absurd HA.out (by simp [moultlaw9_FilterGrows.l1])
                                | succ k4 =>
                                  have H := HA.out
                                  clear HA
                                  simp only [moultlaw9_FilterGrows.l1] at H
                                  by_cases c38 : x15_4 < (x13_4.length : Int)
                                  · rw [if_pos c38] at H
                                    have c38b0 : decide (x15_4 < (x13_4.length : Int)) = true := decide_eq_true c38
                                    clear c38
                                    by_cases c39 : 0 ≤ x15_4
                                    · rw [if_pos c39] at H
                                      have c39b0 : decide (0 ≤ x15_4) = true := decide_eq_true c39
                                      clear c39
                                      obtain ⟨y206, hy206⟩ : ∃ y_ : List Int, y_ = (x13_4.set (x15_4 : Int).toNat 255) := ⟨_, rfl⟩
                                      replace H : (moultlaw9_FilterGrows.l1 k4 a1 y196 t197 y206 y203 (wrap64 (x15_4 + 1))) = some r := by first | (rw [hy206]; with_reducible exact H) | (have H2_ := (Option.bind_some _ _).symm.trans H; rw [hy206]; with_reducible exact H2_) | (have H2_ := (Option.bind_some _ _).symm.trans H; with_reducible exact H2_) | with_reducible exact H | (rw [hy206]; exact H) | exact H
                                      have Ny206 := Aside0.mk hy206
                                      clear hy206
                                      have H' := Aside0.mk H
                                      clear H
                                      obtain ⟨Ao41, co41, eo41⟩ := Kd.R_slice HO_13.out
                                      subst eo41
                                      have p40 : 0 ≤ (x15_4 : Int) := of_decide_eq_true (by first | (with_reducible assumption) | assumption)
                                      have q40 : (x15_4 : Int) < ((x13_4.length : Int) : Int) := of_decide_eq_true (by first | (with_reducible assumption) | assumption)
                                      obtain ⟨go40, co40, eo40, gb40, gl40, cl40, HG40⟩ := Kd.R_form HO_13.out (by omega)
                                      (first | cases eo40 | (injection eo40 with ea_ en_ ec_; (first | subst ea_ | (injection ea_ with ea_; subst ea_)); subst ec_; clear en_))
                                      have GB40 := Aside0.mk gb40
                                      have GG40 := Aside0.mk HG40
                                      clear gb40 gl40 HG40
                                      obtain ⟨hx40_0, hf40_0⟩ := Kd.R_celln 0 HO_13.out (x15_4 : Int) p40 q40
                                      replace p40 := eq_true p40
                                      replace q40 := eq_true q40
                                      have HP42 := Kd.R_putg HO_13.out (x15_4 : Int) 255
                                      go_wp2_with (first | ((with_reducible refine gate_store (t := 5) (p := 82) rfl ?_); refine store_event (t := 5) (p := 82) (v := ?vo_w43) (w1 := (wr.setCell ⟨go40, (x15_4 : Int).toNat, none⟩ (.int .u8 255))) ?hg ?ho ?hn ?hr ?_; (case ho => rfl); (case hg => rfl); (case hn => rfl); (case hr => first | (go_simp; done) | (go_simp; rfl)); intro w43 hw; have hg : wr.grownBy w43 (some go40) := (by rw [hw]; exact HP42.2); have hp_ : Kd.R (Kd.int .u8) 5 w43 w.heap.size (fun k_ => some k_ ≠ (v204 : Value).ownBlock) (.slice (some ⟨go40, 0, none⟩) x13_4.length co41) y206 := (by rw [hw, Ny206.out]; exact HP42.1); clear HP42; have n0_ := Aside0.mk (Kd.R_over' (v := (.slice (some ⟨go40, 0, none⟩) x13_4.length co41)) (by (with_reducible repeat (first | apply Kd.R_alloc | apply Kd.R_drewN | apply Kd.R_drew)); exact HO_10.out) (Kd.R_typed HO_13.out) (by decide) hg); have n1_ := Aside0.mk (hp_); have n2_ := Aside0.mk (Kd.R_after (v := (.slice (some ⟨go40, 0, none⟩) x13_4.length co41)) (v1 := (.slice (some ⟨go40, 0, none⟩) x13_4.length co41)) (ok := (fun _ => True)) (by (with_reducible repeat (first | apply Kd.R_alloc | apply Kd.R_drewN | apply Kd.R_drew)); exact Kd.R_mono HO_14.out (fun _ hk => ⟨trivial, hk⟩)) hg (.inl rfl)); have n3_ := Aside0.mk ((by rw [hw]; exact below_set (HB.out) GB40.out : Below w.heap.size w w43)); clear HO_10; clear HO_13; clear HO_14; clear HB; have HO_10 := n0_; have HO_13 := n1_; have HO_14 := n2_; have HB := n3_; clear n0_ n1_ n2_ n3_; clear hg hw hp_))
                                      go_roundg k4
                                      case measure => have := HJ5.out; have := HJ12.out; have := HK3.out; have := HK4.out; omega
                                      case rel => exact ⟨(y206), (wrap64 (x15_4 + 1)), (by first | rfl | (simp; done) | (simp [*]; done)), H', ⟨by have := HJ5.out; have := HJ12.out; have := HK3.out; have := HK4.out; omega⟩, ⟨by (try simp only [hl10_3]); (with_reducible repeat (first | apply Kd.R_alloc | apply Kd.R_drewN | apply Kd.R_drew)); exact HO_10.out⟩, ⟨by (try simp only [hl10_3]); (with_reducible repeat (first | apply Kd.R_alloc | apply Kd.R_drewN | apply Kd.R_drew)); exact HO_13.out⟩, ⟨by (try simp only [hl10_3]); (with_reducible repeat (first | apply Kd.R_alloc | apply Kd.R_drewN | apply Kd.R_drew)); exact Kd.R_mono HO_14.out (fun _ hk => hk.2)⟩, ⟨by repeat (first | (with_reducible first | exact HB.out | apply below_alloc | apply pw_below_drewN | apply below_drew1) | exact HB.out)⟩⟩
                                    · rw [if_neg c39] at H
                                      exact absurd H (by simp)
                                  · rw [if_neg c38] at H
                                    have c38b0 : decide (x15_4 < (x13_4.length : Int)) = false := decide_eq_false c38
                                    clear c38
                                    replace H := Option.bind_eq_some_iff.mp H
                                    obtain ⟨⟨t207, t208⟩, A440, H⟩ := H
                                    replace H : ((filter_May.f (strOfNums x13_4) a1).bind fun t209 => (if t209 = true then ((filter_May.f (strOfNums y203) a1).bind fun t210 => (if t210 = true then (some false) else (if t207 ≥ 1 then (if t207 ≤ (wrap64 (4 * (y196.length : Int))) then (some (t208 == (wrap64 (8 * (t197.size : Int))))) else (some false)) else (some false)))) else (some false))) = some r := H
                                    have A44 := Aside0.mk A440
                                    clear A440
                                    replace H := Option.bind_eq_some_iff.mp H
                                    obtain ⟨t209, A450, H⟩ := H
                                    replace H : (if t209 = true then ((filter_May.f (strOfNums y203) a1).bind fun t210 => (if t210 = true then (some false) else (if t207 ≥ 1 then (if t207 ≤ (wrap64 (4 * (y196.length : Int))) then (some (t208 == (wrap64 (8 * (t197.size : Int))))) else (some false)) else (some false)))) else (some false)) = some r := H
                                    have A45 := Aside0.mk A450
                                    clear A450
                                    by_cases c46 : t209 = true
                                    · subst c46
                                      have H1 : ((filter_May.f (strOfNums y203) a1).bind fun t210 => (if t210 = true then (some false) else (if t207 ≥ 1 then (if t207 ≤ (wrap64 (4 * (y196.length : Int))) then (some (t208 == (wrap64 (8 * (t197.size : Int))))) else (some false)) else (some false)))) = some r := by rw [if_pos rfl] at H; exact H
                                      clear H
                                      have H := H1
                                      clear H1
                                      replace H := Option.bind_eq_some_iff.mp H
                                      obtain ⟨t210, A470, H⟩ := H
                                      replace H : (if t210 = true then (some false) else (if t207 ≥ 1 then (if t207 ≤ (wrap64 (4 * (y196.length : Int))) then (some (t208 == (wrap64 (8 * (t197.size : Int))))) else (some false)) else (some false))) = some r := H
                                      have A47 := Aside0.mk A470
                                      clear A470
                                      by_cases c48 : t210 = true
                                      · subst c48
                                        have H1 : (some false) = some r := by rw [if_pos rfl] at H; exact H
                                        clear H
                                        have H := H1
                                        clear H1
                                        obtain rfl := Option.some.inj H
                                        obtain ⟨Ao49, co49, eo49⟩ := Kd.R_slice HO_13.out
                                        subst eo49
                                        go_wp2_with (first | ((with_reducible refine gate_callee (f := 17) rfl ?_); refine goesL_ (some 85) rfl rfl Try.func17 (by kernel_rfl) rfl #[.string t197] rfl (by (try simp only [List.map_toArray, List.map_cons, List.map_nil]); first | done | rfl | (simp only [List.length_drop, List.length_take]; rfl)) ?_; (with_reducible refine (filter_Full.calls k4 t197 t207 t208 _ A44.out).mono ?_); rintro e w' ⟨rfl, ⟨nd, rfl⟩⟩; refine ⟨_, rfl, ?_⟩; have hcv50 := own_string (P := Try.prog) Try.underlying37 Try.underlying5 Try.underlying9 (Kd.own_of_R HO_13.out); have hcv50n := fun (m_ : Nat) => own_string (P := Try.prog) Try.underlying37 Try.underlying5 Try.underlying9 (Kd.own_of_R (Kd.R_drewN HO_13.out m_))) | ((with_reducible refine gate_callee (f := 20) rfl ?_); refine goesL_ (some 91) rfl rfl Try.func20 (by kernel_rfl) rfl #[.string (strOfNums x13_4), .string a1] rfl (by (try simp only [List.map_toArray, List.map_cons, List.map_nil]); first | done | rfl | (simp only [List.length_drop, List.length_take]; rfl)) ?_; (with_reducible refine (filter_May.calls (strOfNums x13_4) a1 true _ A45.out).mono ?_); rintro e w51 ⟨rfl, hb⟩; refine ⟨_, rfl, ?_⟩; have n0_ := Aside0.mk (Kd.R_below (by (with_reducible repeat (first | apply Kd.R_alloc | apply Kd.R_drewN | apply Kd.R_drew)); exact HO_10.out) hb); have n1_ := Aside0.mk (Kd.R_below (by (with_reducible repeat (first | apply Kd.R_alloc | apply Kd.R_drewN | apply Kd.R_drew)); exact HO_13.out) hb); have n2_ := Aside0.mk (Kd.R_below (by (with_reducible repeat (first | apply Kd.R_alloc | apply Kd.R_drewN | apply Kd.R_drew)); exact HO_14.out) hb); have n3_ := Aside0.mk (below_step (by repeat (first | (with_reducible first | exact HB.out | apply below_alloc | apply pw_below_drewN | apply below_drew1) | exact HB.out)) hb); clear HO_10; clear HO_13; clear HO_14; clear HB; have HO_10 := n0_; have HO_13 := n1_; have HO_14 := n2_; have HB := n3_; clear n0_ n1_ n2_ n3_; (try clear hb); (try clear hb2); (try clear hk); (try clear hi); have hcv52 := own_string (P := Try.prog) Try.underlying37 Try.underlying5 Try.underlying9 (Kd.own_of_R HO_14.out); have hcv52n := fun (m_ : Nat) => own_string (P := Try.prog) Try.underlying37 Try.underlying5 Try.underlying9 (Kd.own_of_R (Kd.R_drewN HO_14.out m_))) | (go_at_call 20; (with_reducible refine (filter_May.calls (strOfNums y203) a1 true _ A47.out).mono ?_); rintro e w53 ⟨rfl, hb⟩; have n0_ := Aside0.mk (Kd.R_below (by (with_reducible repeat (first | apply Kd.R_alloc | apply Kd.R_drewN | apply Kd.R_drew)); exact HO_10.out) hb); have n1_ := Aside0.mk (Kd.R_below (by (with_reducible repeat (first | apply Kd.R_alloc | apply Kd.R_drewN | apply Kd.R_drew)); exact HO_13.out) hb); have n2_ := Aside0.mk (Kd.R_below (by (with_reducible repeat (first | apply Kd.R_alloc | apply Kd.R_drewN | apply Kd.R_drew)); exact HO_14.out) hb); have n3_ := Aside0.mk (below_step (by repeat (first | (with_reducible first | exact HB.out | apply below_alloc | apply pw_below_drewN | apply below_drew1) | exact HB.out)) hb); clear HO_10; clear HO_13; clear HO_14; clear HB; have HO_10 := n0_; have HO_13 := n1_; have HO_14 := n2_; have HB := n3_; clear n0_ n1_ n2_ n3_; (try clear hb); (try clear hb2); (try clear hk); (try clear hi)))
                                        go_ret
                                        exact ⟨by first | rfl | (simp [errW_none, errW_some] <;> rfl) | (simp [*, errW_none, errW_some] <;> rfl), by repeat (first | (with_reducible first | exact HB.out | apply below_alloc | apply pw_below_drewN | apply below_drew1) | exact HB.out)⟩
                                      · replace c48 := Bool.eq_false_iff.mpr c48
                                        subst c48
                                        have H1 : (if t207 ≥ 1 then (if t207 ≤ (wrap64 (4 * (y196.length : Int))) then (some (t208 == (wrap64 (8 * (t197.size : Int))))) else (some false)) else (some false)) = some r := by rw [if_neg (show ¬ (false = true) by decide)] at H; exact H
                                        clear H
                                        have H := H1
                                        clear H1
                                        by_cases c54 : t207 ≥ 1
                                        · rw [if_pos c54] at H
                                          have c54b0 : decide (1 ≤ t207) = true := decide_eq_true c54
                                          clear c54
                                          by_cases c55 : t207 ≤ (wrap64 (4 * (y196.length : Int)))
                                          · rw [if_pos c55] at H
                                            have c55b0 : decide (t207 ≤ (wrap64 (4 * (y196.length : Int)))) = true := decide_eq_true c55
                                            clear c55
                                            obtain rfl := Option.some.inj H
                                            obtain ⟨Ao56, co56, eo56⟩ := Kd.R_slice HO_13.out
                                            subst eo56
                                            go_wp2_with (first | ((with_reducible refine gate_callee (f := 17) rfl ?_); refine goesL_ (some 85) rfl rfl Try.func17 (by kernel_rfl) rfl #[.string t197] rfl (by (try simp only [List.map_toArray, List.map_cons, List.map_nil]); first | done | rfl | (simp only [List.length_drop, List.length_take]; rfl)) ?_; (with_reducible refine (filter_Full.calls k4 t197 t207 t208 _ A44.out).mono ?_); rintro e w' ⟨rfl, ⟨nd, rfl⟩⟩; refine ⟨_, rfl, ?_⟩; have hcv57 := own_string (P := Try.prog) Try.underlying37 Try.underlying5 Try.underlying9 (Kd.own_of_R HO_13.out); have hcv57n := fun (m_ : Nat) => own_string (P := Try.prog) Try.underlying37 Try.underlying5 Try.underlying9 (Kd.own_of_R (Kd.R_drewN HO_13.out m_))) | ((with_reducible refine gate_callee (f := 20) rfl ?_); refine goesL_ (some 91) rfl rfl Try.func20 (by kernel_rfl) rfl #[.string (strOfNums x13_4), .string a1] rfl (by (try simp only [List.map_toArray, List.map_cons, List.map_nil]); first | done | rfl | (simp only [List.length_drop, List.length_take]; rfl)) ?_; (with_reducible refine (filter_May.calls (strOfNums x13_4) a1 true _ A45.out).mono ?_); rintro e w58 ⟨rfl, hb⟩; refine ⟨_, rfl, ?_⟩; have n0_ := Aside0.mk (Kd.R_below (by (with_reducible repeat (first | apply Kd.R_alloc | apply Kd.R_drewN | apply Kd.R_drew)); exact HO_10.out) hb); have n1_ := Aside0.mk (Kd.R_below (by (with_reducible repeat (first | apply Kd.R_alloc | apply Kd.R_drewN | apply Kd.R_drew)); exact HO_13.out) hb); have n2_ := Aside0.mk (Kd.R_below (by (with_reducible repeat (first | apply Kd.R_alloc | apply Kd.R_drewN | apply Kd.R_drew)); exact HO_14.out) hb); have n3_ := Aside0.mk (below_step (by repeat (first | (with_reducible first | exact HB.out | apply below_alloc | apply pw_below_drewN | apply below_drew1) | exact HB.out)) hb); clear HO_10; clear HO_13; clear HO_14; clear HB; have HO_10 := n0_; have HO_13 := n1_; have HO_14 := n2_; have HB := n3_; clear n0_ n1_ n2_ n3_; (try clear hb); (try clear hb2); (try clear hk); (try clear hi); have hcv59 := own_string (P := Try.prog) Try.underlying37 Try.underlying5 Try.underlying9 (Kd.own_of_R HO_14.out); have hcv59n := fun (m_ : Nat) => own_string (P := Try.prog) Try.underlying37 Try.underlying5 Try.underlying9 (Kd.own_of_R (Kd.R_drewN HO_14.out m_))) | (go_at_call 20; (with_reducible refine (filter_May.calls (strOfNums y203) a1 false _ A47.out).mono ?_); rintro e w60 ⟨rfl, hb⟩; have n0_ := Aside0.mk (Kd.R_below (by (with_reducible repeat (first | apply Kd.R_alloc | apply Kd.R_drewN | apply Kd.R_drew)); exact HO_10.out) hb); have n1_ := Aside0.mk (Kd.R_below (by (with_reducible repeat (first | apply Kd.R_alloc | apply Kd.R_drewN | apply Kd.R_drew)); exact HO_13.out) hb); have n2_ := Aside0.mk (Kd.R_below (by (with_reducible repeat (first | apply Kd.R_alloc | apply Kd.R_drewN | apply Kd.R_drew)); exact HO_14.out) hb); have n3_ := Aside0.mk (below_step (by repeat (first | (with_reducible first | exact HB.out | apply below_alloc | apply pw_below_drewN | apply below_drew1) | exact HB.out)) hb); clear HO_10; clear HO_13; clear HO_14; clear HB; have HO_10 := n0_; have HO_13 := n1_; have HO_14 := n2_; have HB := n3_; clear n0_ n1_ n2_ n3_; (try clear hb); (try clear hb2); (try clear hk); (try clear hi)))
                                            go_ret
                                            exact ⟨by first | rfl | (simp [errW_none, errW_some] <;> rfl) | (simp [*, errW_none, errW_some] <;> rfl), by repeat (first | (with_reducible first | exact HB.out | apply below_alloc | apply pw_below_drewN | apply below_drew1) | exact HB.out)⟩
                                          · rw [if_neg c55] at H
                                            have c55b0 : decide (t207 ≤ (wrap64 (4 * (y196.length : Int)))) = false := decide_eq_false c55
                                            clear c55
                                            obtain rfl := Option.some.inj H
                                            obtain ⟨Ao61, co61, eo61⟩ := Kd.R_slice HO_13.out
                                            subst eo61
                                            go_wp2_with (first | ((with_reducible refine gate_callee (f := 17) rfl ?_); refine goesL_ (some 85) rfl rfl Try.func17 (by kernel_rfl) rfl #[.string t197] rfl (by (try simp only [List.map_toArray, List.map_cons, List.map_nil]); first | done | rfl | (simp only [List.length_drop, List.length_take]; rfl)) ?_; (with_reducible refine (filter_Full.calls k4 t197 t207 t208 _ A44.out).mono ?_); rintro e w' ⟨rfl, ⟨nd, rfl⟩⟩; refine ⟨_, rfl, ?_⟩; have hcv62 := own_string (P := Try.prog) Try.underlying37 Try.underlying5 Try.underlying9 (Kd.own_of_R HO_13.out); have hcv62n := fun (m_ : Nat) => own_string (P := Try.prog) Try.underlying37 Try.underlying5 Try.underlying9 (Kd.own_of_R (Kd.R_drewN HO_13.out m_))) | ((with_reducible refine gate_callee (f := 20) rfl ?_); refine goesL_ (some 91) rfl rfl Try.func20 (by kernel_rfl) rfl #[.string (strOfNums x13_4), .string a1] rfl (by (try simp only [List.map_toArray, List.map_cons, List.map_nil]); first | done | rfl | (simp only [List.length_drop, List.length_take]; rfl)) ?_; (with_reducible refine (filter_May.calls (strOfNums x13_4) a1 true _ A45.out).mono ?_); rintro e w63 ⟨rfl, hb⟩; refine ⟨_, rfl, ?_⟩; have n0_ := Aside0.mk (Kd.R_below (by (with_reducible repeat (first | apply Kd.R_alloc | apply Kd.R_drewN | apply Kd.R_drew)); exact HO_10.out) hb); have n1_ := Aside0.mk (Kd.R_below (by (with_reducible repeat (first | apply Kd.R_alloc | apply Kd.R_drewN | apply Kd.R_drew)); exact HO_13.out) hb); have n2_ := Aside0.mk (Kd.R_below (by (with_reducible repeat (first | apply Kd.R_alloc | apply Kd.R_drewN | apply Kd.R_drew)); exact HO_14.out) hb); have n3_ := Aside0.mk (below_step (by repeat (first | (with_reducible first | exact HB.out | apply below_alloc | apply pw_below_drewN | apply below_drew1) | exact HB.out)) hb); clear HO_10; clear HO_13; clear HO_14; clear HB; have HO_10 := n0_; have HO_13 := n1_; have HO_14 := n2_; have HB := n3_; clear n0_ n1_ n2_ n3_; (try clear hb); (try clear hb2); (try clear hk); (try clear hi); have hcv64 := own_string (P := Try.prog) Try.underlying37 Try.underlying5 Try.underlying9 (Kd.own_of_R HO_14.out); have hcv64n := fun (m_ : Nat) => own_string (P := Try.prog) Try.underlying37 Try.underlying5 Try.underlying9 (Kd.own_of_R (Kd.R_drewN HO_14.out m_))) | (go_at_call 20; (with_reducible refine (filter_May.calls (strOfNums y203) a1 false _ A47.out).mono ?_); rintro e w65 ⟨rfl, hb⟩; have n0_ := Aside0.mk (Kd.R_below (by (with_reducible repeat (first | apply Kd.R_alloc | apply Kd.R_drewN | apply Kd.R_drew)); exact HO_10.out) hb); have n1_ := Aside0.mk (Kd.R_below (by (with_reducible repeat (first | apply Kd.R_alloc | apply Kd.R_drewN | apply Kd.R_drew)); exact HO_13.out) hb); have n2_ := Aside0.mk (Kd.R_below (by (with_reducible repeat (first | apply Kd.R_alloc | apply Kd.R_drewN | apply Kd.R_drew)); exact HO_14.out) hb); have n3_ := Aside0.mk (below_step (by repeat (first | (with_reducible first | exact HB.out | apply below_alloc | apply pw_below_drewN | apply below_drew1) | exact HB.out)) hb); clear HO_10; clear HO_13; clear HO_14; clear HB; have HO_10 := n0_; have HO_13 := n1_; have HO_14 := n2_; have HB := n3_; clear n0_ n1_ n2_ n3_; (try clear hb); (try clear hb2); (try clear hk); (try clear hi)))
                                            go_ret
                                            exact ⟨by first | rfl | (simp [errW_none, errW_some] <;> rfl) | (simp [*, errW_none, errW_some] <;> rfl), by repeat (first | (with_reducible first | exact HB.out | apply below_alloc | apply pw_below_drewN | apply below_drew1) | exact HB.out)⟩
                                        · rw [if_neg c54] at H
                                          have c54b0 : decide (1 ≤ t207) = false := decide_eq_false c54
                                          clear c54
                                          obtain rfl := Option.some.inj H
                                          obtain ⟨Ao66, co66, eo66⟩ := Kd.R_slice HO_13.out
                                          subst eo66
                                          go_wp2_with (first | ((with_reducible refine gate_callee (f := 17) rfl ?_); refine goesL_ (some 85) rfl rfl Try.func17 (by kernel_rfl) rfl #[.string t197] rfl (by (try simp only [List.map_toArray, List.map_cons, List.map_nil]); first | done | rfl | (simp only [List.length_drop, List.length_take]; rfl)) ?_; (with_reducible refine (filter_Full.calls k4 t197 t207 t208 _ A44.out).mono ?_); rintro e w' ⟨rfl, ⟨nd, rfl⟩⟩; refine ⟨_, rfl, ?_⟩; have hcv67 := own_string (P := Try.prog) Try.underlying37 Try.underlying5 Try.underlying9 (Kd.own_of_R HO_13.out); have hcv67n := fun (m_ : Nat) => own_string (P := Try.prog) Try.underlying37 Try.underlying5 Try.underlying9 (Kd.own_of_R (Kd.R_drewN HO_13.out m_))) | ((with_reducible refine gate_callee (f := 20) rfl ?_); refine goesL_ (some 91) rfl rfl Try.func20 (by kernel_rfl) rfl #[.string (strOfNums x13_4), .string a1] rfl (by (try simp only [List.map_toArray, List.map_cons, List.map_nil]); first | done | rfl | (simp only [List.length_drop, List.length_take]; rfl)) ?_; (with_reducible refine (filter_May.calls (strOfNums x13_4) a1 true _ A45.out).mono ?_); rintro e w68 ⟨rfl, hb⟩; refine ⟨_, rfl, ?_⟩; have n0_ := Aside0.mk (Kd.R_below (by (with_reducible repeat (first | apply Kd.R_alloc | apply Kd.R_drewN | apply Kd.R_drew)); exact HO_10.out) hb); have n1_ := Aside0.mk (Kd.R_below (by (with_reducible repeat (first | apply Kd.R_alloc | apply Kd.R_drewN | apply Kd.R_drew)); exact HO_13.out) hb); have n2_ := Aside0.mk (Kd.R_below (by (with_reducible repeat (first | apply Kd.R_alloc | apply Kd.R_drewN | apply Kd.R_drew)); exact HO_14.out) hb); have n3_ := Aside0.mk (below_step (by repeat (first | (with_reducible first | exact HB.out | apply below_alloc | apply pw_below_drewN | apply below_drew1) | exact HB.out)) hb); clear HO_10; clear HO_13; clear HO_14; clear HB; have HO_10 := n0_; have HO_13 := n1_; have HO_14 := n2_; have HB := n3_; clear n0_ n1_ n2_ n3_; (try clear hb); (try clear hb2); (try clear hk); (try clear hi); have hcv69 := own_string (P := Try.prog) Try.underlying37 Try.underlying5 Try.underlying9 (Kd.own_of_R HO_14.out); have hcv69n := fun (m_ : Nat) => own_string (P := Try.prog) Try.underlying37 Try.underlying5 Try.underlying9 (Kd.own_of_R (Kd.R_drewN HO_14.out m_))) | (go_at_call 20; (with_reducible refine (filter_May.calls (strOfNums y203) a1 false _ A47.out).mono ?_); rintro e w70 ⟨rfl, hb⟩; have n0_ := Aside0.mk (Kd.R_below (by (with_reducible repeat (first | apply Kd.R_alloc | apply Kd.R_drewN | apply Kd.R_drew)); exact HO_10.out) hb); have n1_ := Aside0.mk (Kd.R_below (by (with_reducible repeat (first | apply Kd.R_alloc | apply Kd.R_drewN | apply Kd.R_drew)); exact HO_13.out) hb); have n2_ := Aside0.mk (Kd.R_below (by (with_reducible repeat (first | apply Kd.R_alloc | apply Kd.R_drewN | apply Kd.R_drew)); exact HO_14.out) hb); have n3_ := Aside0.mk (below_step (by repeat (first | (with_reducible first | exact HB.out | apply below_alloc | apply pw_below_drewN | apply below_drew1) | exact HB.out)) hb); clear HO_10; clear HO_13; clear HO_14; clear HB; have HO_10 := n0_; have HO_13 := n1_; have HO_14 := n2_; have HB := n3_; clear n0_ n1_ n2_ n3_; (try clear hb); (try clear hb2); (try clear hk); (try clear hi)))
                                          go_ret
                                          exact ⟨by first | rfl | (simp [errW_none, errW_some] <;> rfl) | (simp [*, errW_none, errW_some] <;> rfl), by repeat (first | (with_reducible first | exact HB.out | apply below_alloc | apply pw_below_drewN | apply below_drew1) | exact HB.out)⟩
                                    · replace c46 := Bool.eq_false_iff.mpr c46
                                      subst c46
                                      have H1 : (some false) = some r := by rw [if_neg (show ¬ (false = true) by decide)] at H; exact H
                                      clear H
                                      have H := H1
                                      clear H1
                                      obtain rfl := Option.some.inj H
                                      obtain ⟨Ao71, co71, eo71⟩ := Kd.R_slice HO_13.out
                                      subst eo71
                                      go_wp2_with (first | ((with_reducible refine gate_callee (f := 17) rfl ?_); refine goesL_ (some 85) rfl rfl Try.func17 (by kernel_rfl) rfl #[.string t197] rfl (by (try simp only [List.map_toArray, List.map_cons, List.map_nil]); first | done | rfl | (simp only [List.length_drop, List.length_take]; rfl)) ?_; (with_reducible refine (filter_Full.calls k4 t197 t207 t208 _ A44.out).mono ?_); rintro e w' ⟨rfl, ⟨nd, rfl⟩⟩; refine ⟨_, rfl, ?_⟩; have hcv72 := own_string (P := Try.prog) Try.underlying37 Try.underlying5 Try.underlying9 (Kd.own_of_R HO_13.out); have hcv72n := fun (m_ : Nat) => own_string (P := Try.prog) Try.underlying37 Try.underlying5 Try.underlying9 (Kd.own_of_R (Kd.R_drewN HO_13.out m_))) | ((with_reducible refine gate_callee (f := 20) rfl ?_); refine goesL_ (some 91) rfl rfl Try.func20 (by kernel_rfl) rfl #[.string (strOfNums x13_4), .string a1] rfl (by (try simp only [List.map_toArray, List.map_cons, List.map_nil]); first | done | rfl | (simp only [List.length_drop, List.length_take]; rfl)) ?_; (with_reducible refine (filter_May.calls (strOfNums x13_4) a1 false _ A45.out).mono ?_); rintro e w73 ⟨rfl, hb⟩; refine ⟨_, rfl, ?_⟩; have n0_ := Aside0.mk (Kd.R_below (by (with_reducible repeat (first | apply Kd.R_alloc | apply Kd.R_drewN | apply Kd.R_drew)); exact HO_10.out) hb); have n1_ := Aside0.mk (Kd.R_below (by (with_reducible repeat (first | apply Kd.R_alloc | apply Kd.R_drewN | apply Kd.R_drew)); exact HO_13.out) hb); have n2_ := Aside0.mk (Kd.R_below (by (with_reducible repeat (first | apply Kd.R_alloc | apply Kd.R_drewN | apply Kd.R_drew)); exact HO_14.out) hb); have n3_ := Aside0.mk (below_step (by repeat (first | (with_reducible first | exact HB.out | apply below_alloc | apply pw_below_drewN | apply below_drew1) | exact HB.out)) hb); clear HO_10; clear HO_13; clear HO_14; clear HB; have HO_10 := n0_; have HO_13 := n1_; have HO_14 := n2_; have HB := n3_; clear n0_ n1_ n2_ n3_; (try clear hb); (try clear hb2); (try clear hk); (try clear hi)))
                                      go_ret
                                      exact ⟨by first | rfl | (simp [errW_none, errW_some] <;> rfl) | (simp [*, errW_none, errW_some] <;> rfl), by repeat (first | (with_reducible first | exact HB.out | apply below_alloc | apply pw_below_drewN | apply below_drew1) | exact HB.out)⟩
                            · rw [if_neg c33] at H
                              exact absurd H (by simp)
                          · rw [if_neg c32] at H
                            exact absurd H (by simp)
                  · rw [if_neg c17] at H
                    exact absurd H (by simp)
                · rw [if_neg c16] at H
                  exact absurd H (by simp)
              · rw [if_neg c15] at H
                exact absurd H (by simp)

end Go.Proofs.Ytdpadhmdiljpaaa.P
