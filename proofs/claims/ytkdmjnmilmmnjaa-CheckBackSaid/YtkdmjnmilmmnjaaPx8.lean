-- Written by sprint.py (wip/tools) with the kit's print.py: a program's text, checked by Lean alone.
import Derived.Test.YtkdmjnmilmmnjaaPx1b
import Derived.Test.YtkdmjnmilmmnjaaFr
import Derived.Test.YtkdmjnmilmmnjaaSc
import Derived.Test.YtkdmjnmilmmnjaaPx0
import Derived.Test.YtkdmjnmilmmnjaaPx1
import Derived.Test.YtkdmjnmilmmnjaaPx2
import Derived.Test.YtkdmjnmilmmnjaaPx5
namespace Go.Proofs.Ytkdmjnmilmmnjaa.P
open Go.RowKit Go.Proofs.Ytkdmjnmilmmnjaa.Vp Go.Proofs.Ytkdmjnmilmmnjaa.Cp Go.Proofs.YtkdmjnmilmmnjaaW.PrintWords Go.Proofs.YtkdmjnmilmmnjaaW.PrintLast Go.Proofs.YtkdmjnmilmmnjaaW.PrintMore
attribute [local go_sem] max2_int min2_int max_two min_two max_three min_three max_four min_four   -- for this text's walks alone
set_option linter.unusedVariables false
set_option linter.unusedSimpArgs false

/-! ### moultlaw5_CheckBack: function 5 -/
mutual
def moultlaw5_CheckBack.j0 : Nat → List ByteArray → ByteArray → Bool → Bool → Option (Bool)
  | 0, _, _, _, _ => none
  | k + 1, x0, x1, x5, x31 => if x31 = true then (some x5) else (moultlaw5_CheckBack.l0 k x0 x1 (⟨#[]⟩ : ByteArray) 0)
def moultlaw5_CheckBack.l0 : Nat → List ByteArray → ByteArray → ByteArray → Int → Option (Bool)
  | 0, _, _, _, _ => none
  | k + 1, x0, x1, x6, x7 => if x7 < (x0.length : Int) then (if 0 ≤ x7 then (if ((rdOf ByteArray.empty x0 x7).size : Int) > 500 then (some true) else ((check_Frame.f (rdOf ByteArray.empty x0 x7)).bind fun bt196 => (if x6.size + bt196.1.size ≤ 9223372036854775807 then (moultlaw5_CheckBack.l0 k x0 x1 (x6 ++ bt196.1) (wrap64 (x7 + 1))) else (none)))) else (none)) else ((check_Scan.f x6).bind fun bt198 => (if x6.size + x1.size ≤ 9223372036854775807 then ((check_Scan.f (x6 ++ x1)).bind fun bt203 => ((check_Scan.f x1).bind fun bt208 => ((moultlaw5_same.f k bt198.1 x0).bind fun t213 => (if t213 = true then (if bt198.2.1 = (x6.size : Int) then (if bt198.2.2 = 0 then (if (bt203.1.length : Int) = (wrap64 ((x0.length : Int) + (bt208.1.length : Int))) then (if bt203.2.1 = (wrap64 (bt198.2.1 + bt208.2.1)) then (moultlaw5_CheckBack.j2 k x0 bt203.1 bt208.1 (bt203.2.2 != bt208.2.2)) else (moultlaw5_CheckBack.j2 k x0 bt203.1 bt208.1 true)) else (moultlaw5_CheckBack.j2 k x0 bt203.1 bt208.1 true)) else (moultlaw5_CheckBack.j2 k x0 bt203.1 bt208.1 true)) else (moultlaw5_CheckBack.j2 k x0 bt203.1 bt208.1 true)) else (moultlaw5_CheckBack.j2 k x0 bt203.1 bt208.1 true))))) else (none)))
def moultlaw5_CheckBack.j2 : Nat → List ByteArray → List ByteArray → List ByteArray → Bool → Option (Bool)
  | 0, _, _, _, _ => none
  | k + 1, x0, x13, x16, x111 => if x111 = true then (some false) else (if 0 ≤ (x0.length : Int) then (if (x0.length : Int) ≤ (x13.length : Int) then ((moultlaw5_same.f k (x13.take ((x0.length : Int) : Int).toNat) x0).bind fun t218 => (if t218 = true then ((moultlaw5_same.f k (x13.drop ((x0.length : Int) : Int).toNat) x16).bind fun t223 => (some t223)) else (some false))) else (none)) else (none))
end
def moultlaw5_CheckBack.f (k : Nat) (l0 : List ByteArray) (a1 : ByteArray) : Option (Bool) := (moultlaw5_shown.f k).bind fun t193 => (if t193 = true then (if (l0.length : Int) > 30 then (moultlaw5_CheckBack.j0 k l0 a1 t193 true) else (moultlaw5_CheckBack.j0 k l0 a1 t193 (decide ((a1.size : Int) > 1000)))) else (moultlaw5_CheckBack.j0 k l0 a1 t193 true))
theorem moultlaw5_CheckBack.mono_l : ∀ k, (∀ y0 y1 y2 y3, LeO (moultlaw5_CheckBack.j0 k y0 y1 y2 y3) (moultlaw5_CheckBack.j0 (k + 1) y0 y1 y2 y3)) ∧ (∀ y0 y1 y2 y3, LeO (moultlaw5_CheckBack.l0 k y0 y1 y2 y3) (moultlaw5_CheckBack.l0 (k + 1) y0 y1 y2 y3)) ∧ (∀ y0 y1 y2 y3, LeO (moultlaw5_CheckBack.j2 k y0 y1 y2 y3) (moultlaw5_CheckBack.j2 (k + 1) y0 y1 y2 y3))
  | 0 => ⟨fun _ _ _ _ r h => by simp [moultlaw5_CheckBack.j0] at h, fun _ _ _ _ r h => by simp [moultlaw5_CheckBack.l0] at h, fun _ _ _ _ r h => by simp [moultlaw5_CheckBack.j2] at h⟩
  | k + 1 => by
    obtain ⟨ih0, ih1, ih2⟩ := moultlaw5_CheckBack.mono_l k
    refine ⟨?_, ?_, ?_⟩
    · intro y0 y1 y2 y3
      unfold moultlaw5_CheckBack.j0
      repeat' first
      | (with_reducible exact ih0 _ _ _ _)
      | (with_reducible exact ih1 _ _ _ _)
      | (with_reducible exact ih2 _ _ _ _)
      | (with_reducible exact moultlaw5_same.mono _ _ _)
      | (with_reducible exact moultlaw5_shown.mono _)
      | (with_reducible exact LeO.refl _)
      | (with_reducible exact LeO.none _)
      | (with_reducible refine LeO.ite ?_ ?_)
      | (with_reducible refine LeO.bind ?_ (fun _ => ?_))
      | exact ih0 _ _ _ _
      | exact ih1 _ _ _ _
      | exact ih2 _ _ _ _
      | exact moultlaw5_same.mono _ _ _
      | exact moultlaw5_shown.mono _
      | exact LeO.none _
      | refine LeO.ite ?_ ?_
      | refine LeO.bind ?_ (fun _ => ?_)
    · intro y0 y1 y2 y3
      unfold moultlaw5_CheckBack.l0
      repeat' first
      | (with_reducible exact ih0 _ _ _ _)
      | (with_reducible exact ih1 _ _ _ _)
      | (with_reducible exact ih2 _ _ _ _)
      | (with_reducible exact moultlaw5_same.mono _ _ _)
      | (with_reducible exact moultlaw5_shown.mono _)
      | (with_reducible exact LeO.refl _)
      | (with_reducible exact LeO.none _)
      | (with_reducible refine LeO.ite ?_ ?_)
      | (with_reducible refine LeO.bind ?_ (fun _ => ?_))
      | exact ih0 _ _ _ _
      | exact ih1 _ _ _ _
      | exact ih2 _ _ _ _
      | exact moultlaw5_same.mono _ _ _
      | exact moultlaw5_shown.mono _
      | exact LeO.none _
      | refine LeO.ite ?_ ?_
      | refine LeO.bind ?_ (fun _ => ?_)
    · intro y0 y1 y2 y3
      unfold moultlaw5_CheckBack.j2
      repeat' first
      | (with_reducible exact ih0 _ _ _ _)
      | (with_reducible exact ih1 _ _ _ _)
      | (with_reducible exact ih2 _ _ _ _)
      | (with_reducible exact moultlaw5_same.mono _ _ _)
      | (with_reducible exact moultlaw5_shown.mono _)
      | (with_reducible exact LeO.refl _)
      | (with_reducible exact LeO.none _)
      | (with_reducible refine LeO.ite ?_ ?_)
      | (with_reducible refine LeO.bind ?_ (fun _ => ?_))
      | exact ih0 _ _ _ _
      | exact ih1 _ _ _ _
      | exact ih2 _ _ _ _
      | exact moultlaw5_same.mono _ _ _
      | exact moultlaw5_shown.mono _
      | exact LeO.none _
      | refine LeO.ite ?_ ?_
      | refine LeO.bind ?_ (fun _ => ?_)
theorem moultlaw5_CheckBack.mono : ∀ a0 a1 k, LeO (moultlaw5_CheckBack.f k a0 a1) (moultlaw5_CheckBack.f (k + 1) a0 a1) := by
  intro a0 a1 k
  obtain ⟨ih0, ih1, ih2⟩ := moultlaw5_CheckBack.mono_l k
  unfold moultlaw5_CheckBack.f
  repeat' first
      | (with_reducible exact ih0 _ _ _ _)
      | (with_reducible exact ih1 _ _ _ _)
      | (with_reducible exact ih2 _ _ _ _)
      | (with_reducible exact moultlaw5_same.mono _ _ _)
      | (with_reducible exact moultlaw5_shown.mono _)
      | (with_reducible exact LeO.refl _)
      | (with_reducible exact LeO.none _)
      | (with_reducible refine LeO.ite ?_ ?_)
      | (with_reducible refine LeO.bind ?_ (fun _ => ?_))
      | exact ih0 _ _ _ _
      | exact ih1 _ _ _ _
      | exact ih2 _ _ _ _
      | exact moultlaw5_same.mono _ _ _
      | exact moultlaw5_shown.mono _
      | exact LeO.none _
      | refine LeO.ite ?_ ?_
      | refine LeO.bind ?_ (fun _ => ?_)
set_option maxHeartbeats 8000000 in
set_option maxRecDepth 100000 in
theorem moultlaw5_CheckBack.calls (k : Nat) (A0 : Option Addr) (c0 : Nat) (l0 : List ByteArray) (a1 : ByteArray) (r : Bool) (w : World) (hr0 : Kd.C Kd.string w A0 l0.length l0) (hc0 : l0.length ≤ c0) (h : moultlaw5_CheckBack.f k l0 a1 = some r) :
    Calls Try.prog 5 #[.slice A0 l0.length c0, .string a1] w fun e w' => e = .returned (.bool r) ∧ Below w.heap.size w w' := by
  have HR0 := Aside0.mk hr0
  have HC0 := Aside0.mk hc0
  clear hr0 hc0
  have HB := Aside0.mk (Below.refl w.heap.size w)
  have H : ((moultlaw5_shown.f k).bind fun t193 => (if t193 = true then (if (l0.length : Int) > 30 then (moultlaw5_CheckBack.j0 k l0 a1 t193 true) else (moultlaw5_CheckBack.j0 k l0 a1 t193 (decide ((a1.size : Int) > 1000)))) else (moultlaw5_CheckBack.j0 k l0 a1 t193 true))) = some r := h
  clear h
  replace H := Option.bind_eq_some_iff.mp H
  obtain ⟨t193, A30, H⟩ := H
  replace H : (if t193 = true then (if (l0.length : Int) > 30 then (moultlaw5_CheckBack.j0 k l0 a1 t193 true) else (moultlaw5_CheckBack.j0 k l0 a1 t193 (decide ((a1.size : Int) > 1000)))) else (moultlaw5_CheckBack.j0 k l0 a1 t193 true)) = some r := H
  have A3 := Aside0.mk A30
  clear A30
  have HC4 := Aside0.mk H
  clear H
  go_enter Try.func5, Try.ntmps5
  go_upto_region 2 with (first | ((with_reducible refine gate_callee (f := 9) rfl ?_); refine goesL_ (some 19) rfl rfl Try.func9 (by kernel_rfl) rfl #[] rfl (by (try simp only [List.map_toArray, List.map_cons, List.map_nil]); first | done | rfl | (simp only [List.length_drop, List.length_take]; rfl)) ?_; (with_reducible refine (moultlaw5_shown.calls k  t193 _ A3.out).mono ?_); rintro e w5 ⟨rfl, hb⟩; refine ⟨_, rfl, ?_⟩; have n0_ := Aside0.mk (below_step (by repeat (first | (with_reducible first | exact HB.out | apply below_alloc | apply pw_below_drewN | apply below_drew1) | exact HB.out)) hb); clear HB; have HB := n0_; clear n0_; (try clear hb); (try clear hb2); (try clear hk); (try clear hi)))
  (try simp only [Act.put, List.setIfInBounds_toArray, List.set_cons_zero, List.set_cons_succ])
  go_cut [31] (fun v31 wc => ∃ (kq : Nat) (x31_3 : Bool), v31 = .bool x31_3 ∧ Aside0 (moultlaw5_CheckBack.j0 kq l0 a1 t193 x31_3 = some r) ∧ Aside0 (kq ≤ k) ∧ Aside0 (Below w.heap.size w wc))
  case first =>
    have H := HC4.out
    clear HC4
    by_cases c6 : t193 = true
    · subst c6
      have H1 : (if (l0.length : Int) > 30 then (moultlaw5_CheckBack.j0 k l0 a1 true true) else (moultlaw5_CheckBack.j0 k l0 a1 true (decide ((a1.size : Int) > 1000)))) = some r := by rw [if_pos rfl] at H; exact H
      clear H
      have H := H1
      clear H1
      by_cases c7 : (l0.length : Int) > 30
      · rw [if_pos c7] at H
        have c7b0 : decide (30 < (l0.length : Int)) = true := decide_eq_true c7
        have c7b1 : decide (30 < l0.length) = true := decide_eq_true (by omega)
        clear c7
        (first | rw [c7b0] | (simp only [i64_w, i32_w]; rw [c7b0]) | skip)
        have H' := Aside0.mk H
        clear H
        go_wp2
        go_meet
        case rel => exact ⟨_, (true), (by first | rfl | (simp; done) | (simp [*]; done)), H', ⟨by first | omega | exact Nat.le_refl _⟩, ⟨by repeat (first | (with_reducible first | exact HB.out | apply below_alloc | apply pw_below_drewN | apply below_drew1) | exact HB.out)⟩⟩
      · rw [if_neg c7] at H
        have c7b0 : decide (30 < (l0.length : Int)) = false := decide_eq_false c7
        have c7b1 : decide (30 < l0.length) = false := decide_eq_false (by omega)
        clear c7
        (first | rw [c7b0] | (simp only [i64_w, i32_w]; rw [c7b0]) | skip)
        have H' := Aside0.mk H
        clear H
        go_wp2
        go_meet
        case rel => exact ⟨_, (decide ((a1.size : Int) > 1000)), (by first | rfl | (simp; done) | (simp [*]; done)), H', ⟨by first | omega | exact Nat.le_refl _⟩, ⟨by repeat (first | (with_reducible first | exact HB.out | apply below_alloc | apply pw_below_drewN | apply below_drew1) | exact HB.out)⟩⟩
    · replace c6 := Bool.eq_false_iff.mpr c6
      subst c6
      have H1 : (moultlaw5_CheckBack.j0 k l0 a1 false true) = some r := by rw [if_neg (show ¬ (false = true) by decide)] at H; exact H
      clear H
      have H := H1
      clear H1
      have H' := Aside0.mk H
      clear H
      go_wp2
      go_meet
      case rel => exact ⟨_, (true), (by first | rfl | (simp; done) | (simp [*]; done)), H', ⟨by first | omega | exact Nat.le_refl _⟩, ⟨by repeat (first | (with_reducible first | exact HB.out | apply below_alloc | apply pw_below_drewN | apply below_drew1) | exact HB.out)⟩⟩
  case rest =>
    clear HC4
    try clear p2
    try clear c5
    try clear c6
    try clear c7
    try clear c7b0
    try clear c7b1
    obtain ⟨kq, x31_3, rfl, HA, HJ3, HB⟩ := hcut
    cases kq with
    | zero => exact absurd HA.out (by simp [moultlaw5_CheckBack.j0])
    | succ kj3 =>
      have H := HA.out
      clear HA
      simp only [moultlaw5_CheckBack.j0] at H
      by_cases c8 : x31_3 = true
      · subst c8
        have H1 : (some t193) = some r := by rw [if_pos rfl] at H; exact H
        clear H
        have H := H1
        clear H1
        obtain rfl := Option.some.inj H
        go_wp2
        all_goals go_ret
        all_goals exact ⟨by first | rfl | (simp [errW_none, errW_some] <;> rfl) | (simp [*, errW_none, errW_some] <;> rfl), by repeat (first | (with_reducible first | exact HB.out | apply below_alloc | apply pw_below_drewN | apply below_drew1) | exact HB.out)⟩
      · replace c8 := Bool.eq_false_iff.mpr c8
        subst c8
        have H1 : (moultlaw5_CheckBack.l0 kj3 l0 a1 (⟨#[]⟩ : ByteArray) 0) = some r := by rw [if_neg (show ¬ (false = true) by decide)] at H; exact H
        clear H
        have H := H1
        clear H1
        have H' := Aside0.mk H
        clear H
        go_wp2
        go_loopg [6, 7] kj3 (fun kq v6 v7 w' => ∃ (x6_2 : ByteArray) (x7_2 : Int), v6 = .string x6_2 ∧ v7 = .int .i64 x7_2 ∧ Aside0 (moultlaw5_CheckBack.l0 kq l0 a1 x6_2 x7_2 = some r) ∧ Aside0 (kq ≤ kj3) ∧ Aside0 (Below w.heap.size w w'))
        case atStart => exact ⟨((⟨#[]⟩ : ByteArray)), (0), (by first | rfl | (simp; done) | (simp [*]; done)), (by first | rfl | (simp; done) | (simp [*]; done)), H', ⟨Nat.le_refl _⟩, ⟨by repeat (first | (with_reducible first | exact HB.out | apply below_alloc | apply pw_below_drewN | apply below_drew1) | exact HB.out)⟩⟩
        case round =>
          clear H'
          try clear p2
          try clear c5
          try clear c6
          try clear c7
          try clear c7b0
          try clear c7b1
          try clear c8
          try clear p2
          obtain ⟨x6_2, x7_2, rfl, rfl, HA, HK2, HB⟩ := hrel
          cases gk with
          | zero => exact absurd HA.out (by simp [moultlaw5_CheckBack.l0])
          | succ k2 =>
            have H := HA.out
            clear HA
            simp only [moultlaw5_CheckBack.l0] at H
            by_cases c9 : x7_2 < (l0.length : Int)
            · rw [if_pos c9] at H
              have c9b0 : decide (x7_2 < (l0.length : Int)) = true := decide_eq_true c9
              clear c9
              by_cases c10 : 0 ≤ x7_2
              · rw [if_pos c10] at H
                have c10b0 : decide (0 ≤ x7_2) = true := decide_eq_true c10
                clear c10
                by_cases c11 : ((rdOf ByteArray.empty l0 x7_2).size : Int) > 500
                · rw [if_pos c11] at H
                  have c11b0 : decide (500 < ((rdOf ByteArray.empty l0 x7_2).size : Int)) = true := decide_eq_true c11
                  have c11b1 : decide (500 < (rdOf ByteArray.empty l0 x7_2).size) = true := decide_eq_true (by omega)
                  clear c11
                  obtain rfl := Option.some.inj H
                  have p194 : 0 ≤ (x7_2 : Int) := of_decide_eq_true (by first | (with_reducible assumption) | assumption)
                  have q194 : x7_2 < (l0.length : Int) := of_decide_eq_true (by first | (with_reducible assumption) | assumption)
                  obtain ⟨ad194, e194, hx194_0⟩ := Kd.at_string HR0.out x7_2 p194 q194
                  cases e194
                  replace hx194_0 := (HB.out.cell (World.block_lt_of_cell? w _ hx194_0)).trans hx194_0
                  replace p194 := eq_true p194
                  replace q194 := eq_true q194
                  go_wp2
                  all_goals go_ret
                  all_goals exact ⟨by first | rfl | (simp [errW_none, errW_some] <;> rfl) | (simp [*, errW_none, errW_some] <;> rfl), by repeat (first | (with_reducible first | exact HB.out | apply below_alloc | apply pw_below_drewN | apply below_drew1) | exact HB.out)⟩
                · rw [if_neg c11] at H
                  have c11b0 : decide (500 < ((rdOf ByteArray.empty l0 x7_2).size : Int)) = false := decide_eq_false c11
                  have c11b1 : decide (500 < (rdOf ByteArray.empty l0 x7_2).size) = false := decide_eq_false (by omega)
                  clear c11
                  replace H := Option.bind_eq_some_iff.mp H
                  obtain ⟨⟨t196, t197⟩, A120, H⟩ := H
                  replace H : (if x6_2.size + t196.size ≤ 9223372036854775807 then (moultlaw5_CheckBack.l0 k2 l0 a1 (x6_2 ++ t196) (wrap64 (x7_2 + 1))) else (none)) = some r := H
                  have A12 := Aside0.mk A120
                  clear A120
                  by_cases c13 : x6_2.size + t196.size ≤ 9223372036854775807
                  · rw [if_pos c13] at H
                    have c13b0 := eq_true c13
                    have c13b1 : decide (x6_2.size + t196.size ≤ 9223372036854775807) = true := decide_eq_true c13
                    try have c13b2 : (9223372036854775807 < x6_2.size + t196.size) = False := eq_false (Nat.not_lt.2 c13)
                    have H' := Aside0.mk H
                    clear H
                    have p194 : 0 ≤ (x7_2 : Int) := of_decide_eq_true (by first | (with_reducible assumption) | assumption)
                    have q194 : x7_2 < (l0.length : Int) := of_decide_eq_true (by first | (with_reducible assumption) | assumption)
                    obtain ⟨ad194, e194, hx194_0⟩ := Kd.at_string HR0.out x7_2 p194 q194
                    cases e194
                    replace hx194_0 := (HB.out.cell (World.block_lt_of_cell? w _ hx194_0)).trans hx194_0
                    replace p194 := eq_true p194
                    replace q194 := eq_true q194
                    have p195 : 0 ≤ (x7_2 : Int) := of_decide_eq_true (by first | (with_reducible assumption) | assumption)
                    have q195 : x7_2 < (l0.length : Int) := of_decide_eq_true (by first | (with_reducible assumption) | assumption)
                    obtain ⟨ad195, e195, hx195_0⟩ := Kd.at_string HR0.out x7_2 p195 q195
                    obtain rfl : ad194 = ad195 := (by injection e195)
                    replace hx195_0 := (HB.out.cell (World.block_lt_of_cell? w _ hx195_0)).trans hx195_0
                    replace p195 := eq_true p195
                    replace q195 := eq_true q195
                    go_wp2_with (first | ((with_reducible refine gate_callee (f := 10) rfl ?_); refine goesL_ (some 50) rfl rfl Try.func10 (by kernel_rfl) rfl #[.string (rdOf ByteArray.empty l0 x7_2)] rfl (by (try simp only [List.map_toArray, List.map_cons, List.map_nil]); first | done | rfl | (simp only [List.length_drop, List.length_take]; rfl)) ?_; (with_reducible refine (check_Frame.calls (rdOf ByteArray.empty l0 x7_2) t196 t197 _ A12.out).mono ?_); rintro e w14 ⟨rfl, hb⟩; refine ⟨_, rfl, ?_⟩; have n0_ := Aside0.mk (below_step (by repeat (first | (with_reducible first | exact HB.out | apply below_alloc | apply pw_below_drewN | apply below_drew1) | exact HB.out)) hb); clear HB; have HB := n0_; clear n0_; (try clear hb); (try clear hb2); (try clear hk); (try clear hi)))
                    go_roundg k2
                    case measure => have := HJ3.out; have := HK2.out; omega
                    case rel => exact ⟨(x6_2 ++ t196), (wrap64 (x7_2 + 1)), (by first | rfl | (simp; done) | (simp [*]; done)), (by first | rfl | (simp; done) | (simp [*]; done)), H', ⟨by have := HJ3.out; have := HK2.out; omega⟩, ⟨by repeat (first | (with_reducible first | exact HB.out | apply below_alloc | apply pw_below_drewN | apply below_drew1) | exact HB.out)⟩⟩
                  · rw [if_neg c13] at H
                    exact absurd H (by simp)
              · rw [if_neg c10] at H
                exact absurd H (by simp)
            · rw [if_neg c9] at H
              have c9b0 : decide (x7_2 < (l0.length : Int)) = false := decide_eq_false c9
              clear c9
              replace H := Option.bind_eq_some_iff.mp H
              obtain ⟨⟨t198, t199, t200⟩, A150, H⟩ := H
              replace H : (if x6_2.size + a1.size ≤ 9223372036854775807 then ((check_Scan.f (x6_2 ++ a1)).bind fun bt203 => ((check_Scan.f a1).bind fun bt208 => ((moultlaw5_same.f k2 t198 l0).bind fun t213 => (if t213 = true then (if t199 = (x6_2.size : Int) then (if t200 = 0 then (if (bt203.1.length : Int) = (wrap64 ((l0.length : Int) + (bt208.1.length : Int))) then (if bt203.2.1 = (wrap64 (t199 + bt208.2.1)) then (moultlaw5_CheckBack.j2 k2 l0 bt203.1 bt208.1 (bt203.2.2 != bt208.2.2)) else (moultlaw5_CheckBack.j2 k2 l0 bt203.1 bt208.1 true)) else (moultlaw5_CheckBack.j2 k2 l0 bt203.1 bt208.1 true)) else (moultlaw5_CheckBack.j2 k2 l0 bt203.1 bt208.1 true)) else (moultlaw5_CheckBack.j2 k2 l0 bt203.1 bt208.1 true)) else (moultlaw5_CheckBack.j2 k2 l0 bt203.1 bt208.1 true))))) else (none)) = some r := H
              have A15 := Aside0.mk A150
              clear A150
              by_cases c16 : x6_2.size + a1.size ≤ 9223372036854775807
              · rw [if_pos c16] at H
                have c16b0 := eq_true c16
                have c16b1 : decide (x6_2.size + a1.size ≤ 9223372036854775807) = true := decide_eq_true c16
                try have c16b2 : (9223372036854775807 < x6_2.size + a1.size) = False := eq_false (Nat.not_lt.2 c16)
                replace H := Option.bind_eq_some_iff.mp H
                obtain ⟨⟨t203, t204, t205⟩, A170, H⟩ := H
                replace H : ((check_Scan.f a1).bind fun bt208 => ((moultlaw5_same.f k2 t198 l0).bind fun t213 => (if t213 = true then (if t199 = (x6_2.size : Int) then (if t200 = 0 then (if (t203.length : Int) = (wrap64 ((l0.length : Int) + (bt208.1.length : Int))) then (if t204 = (wrap64 (t199 + bt208.2.1)) then (moultlaw5_CheckBack.j2 k2 l0 t203 bt208.1 (t205 != bt208.2.2)) else (moultlaw5_CheckBack.j2 k2 l0 t203 bt208.1 true)) else (moultlaw5_CheckBack.j2 k2 l0 t203 bt208.1 true)) else (moultlaw5_CheckBack.j2 k2 l0 t203 bt208.1 true)) else (moultlaw5_CheckBack.j2 k2 l0 t203 bt208.1 true)) else (moultlaw5_CheckBack.j2 k2 l0 t203 bt208.1 true)))) = some r := H
                have A17 := Aside0.mk A170
                clear A170
                replace H := Option.bind_eq_some_iff.mp H
                obtain ⟨⟨t208, t209, t210⟩, A180, H⟩ := H
                replace H : ((moultlaw5_same.f k2 t198 l0).bind fun t213 => (if t213 = true then (if t199 = (x6_2.size : Int) then (if t200 = 0 then (if (t203.length : Int) = (wrap64 ((l0.length : Int) + (t208.length : Int))) then (if t204 = (wrap64 (t199 + t209)) then (moultlaw5_CheckBack.j2 k2 l0 t203 t208 (t205 != t210)) else (moultlaw5_CheckBack.j2 k2 l0 t203 t208 true)) else (moultlaw5_CheckBack.j2 k2 l0 t203 t208 true)) else (moultlaw5_CheckBack.j2 k2 l0 t203 t208 true)) else (moultlaw5_CheckBack.j2 k2 l0 t203 t208 true)) else (moultlaw5_CheckBack.j2 k2 l0 t203 t208 true))) = some r := H
                have A18 := Aside0.mk A180
                clear A180
                have HC19 := Aside0.mk H
                clear H
                go_upto_region 15 with (first | ((with_reducible refine gate_callee (f := 17) rfl ?_); refine goesL_ (some 58) rfl rfl Try.func17 (by kernel_rfl) rfl #[.string x6_2] rfl (by (try simp only [List.map_toArray, List.map_cons, List.map_nil]); first | done | rfl | (simp only [List.length_drop, List.length_take]; rfl)) ?_; (with_reducible refine (check_Scan.calls x6_2 t198 t199 t200 _ A15.out).mono ?_); rintro e w20 ⟨v201, rfl, ho0, hb⟩; refine ⟨_, rfl, ?_⟩; have n0_ := Aside0.mk (Kd.R_lower ho0 (below_size (by repeat (first | (with_reducible first | exact HB.out | apply below_alloc | apply pw_below_drewN | apply below_drew1) | exact HB.out)))); have n1_ := Aside0.mk (below_step (by repeat (first | (with_reducible first | exact HB.out | apply below_alloc | apply pw_below_drewN | apply below_drew1) | exact HB.out)) hb); clear HB; have HO202 := n0_; have HB := n1_; clear n0_ n1_; (try clear hb); (try clear hb2); (try clear hk); (try clear hi); (try clear ho0)) | ((with_reducible refine gate_callee (f := 17) rfl ?_); refine goesL_ (some 66) rfl rfl Try.func17 (by kernel_rfl) rfl #[.string (x6_2 ++ a1)] rfl (by (try simp only [List.map_toArray, List.map_cons, List.map_nil]); first | done | rfl | (simp only [List.length_drop, List.length_take]; rfl)) ?_; (with_reducible refine (check_Scan.calls (x6_2 ++ a1) t203 t204 t205 _ A17.out).mono ?_); rintro e w21 ⟨v206, rfl, ho0, hb⟩; refine ⟨_, rfl, ?_⟩; have n0_ := Aside0.mk (Kd.R_elder' (by (with_reducible repeat (first | apply Kd.R_alloc | apply Kd.R_drewN | apply Kd.R_drew)); exact HO202.out) (Kd.R_base ho0) hb); have n1_ := Aside0.mk (Kd.R_lower (Kd.R_new' ho0 (Kd.R_lt (by (with_reducible repeat (first | apply Kd.R_alloc | apply Kd.R_drewN | apply Kd.R_drew)); exact HO202.out))) (below_size (by repeat (first | (with_reducible first | exact HB.out | apply below_alloc | apply pw_below_drewN | apply below_drew1) | exact HB.out)))); have n2_ := Aside0.mk (below_step (by repeat (first | (with_reducible first | exact HB.out | apply below_alloc | apply pw_below_drewN | apply below_drew1) | exact HB.out)) hb); clear HO202; clear HB; have HO202 := n0_; have HO207 := n1_; have HB := n2_; clear n0_ n1_ n2_; (try clear hb); (try clear hb2); (try clear hk); (try clear hi); (try clear ho0)) | ((with_reducible refine gate_callee (f := 17) rfl ?_); refine goesL_ (some 72) rfl rfl Try.func17 (by kernel_rfl) rfl #[.string a1] rfl (by (try simp only [List.map_toArray, List.map_cons, List.map_nil]); first | done | rfl | (simp only [List.length_drop, List.length_take]; rfl)) ?_; (with_reducible refine (check_Scan.calls a1 t208 t209 t210 _ A18.out).mono ?_); rintro e w22 ⟨v211, rfl, ho0, hb⟩; refine ⟨_, rfl, ?_⟩; have n0_ := Aside0.mk (Kd.R_elder' (by (with_reducible repeat (first | apply Kd.R_alloc | apply Kd.R_drewN | apply Kd.R_drew)); exact HO202.out) (Kd.R_base ho0) hb); have n1_ := Aside0.mk (Kd.R_elder' (by (with_reducible repeat (first | apply Kd.R_alloc | apply Kd.R_drewN | apply Kd.R_drew)); exact HO207.out) (Kd.R_base ho0) hb); have n2_ := Aside0.mk (Kd.R_lower (Kd.R_new' (Kd.R_new' ho0 (Kd.R_lt (by (with_reducible repeat (first | apply Kd.R_alloc | apply Kd.R_drewN | apply Kd.R_drew)); exact HO202.out))) (Kd.R_lt (by (with_reducible repeat (first | apply Kd.R_alloc | apply Kd.R_drewN | apply Kd.R_drew)); exact HO207.out))) (below_size (by repeat (first | (with_reducible first | exact HB.out | apply below_alloc | apply pw_below_drewN | apply below_drew1) | exact HB.out)))); have n3_ := Aside0.mk (below_step (by repeat (first | (with_reducible first | exact HB.out | apply below_alloc | apply pw_below_drewN | apply below_drew1) | exact HB.out)) hb); clear HO202; clear HO207; clear HB; have HO202 := n0_; have HO207 := n1_; have HO212 := n2_; have HB := n3_; clear n0_ n1_ n2_ n3_; (try clear hb); (try clear hb2); (try clear hk); (try clear hi); (try clear ho0)))
                (try simp only [Act.put, List.setIfInBounds_toArray, List.set_cons_zero, List.set_cons_succ])
                go_cut [111] (fun v111 wc => ∃ (kq : Nat) (x111_18 : Bool), v111 = .bool x111_18 ∧ Aside0 (moultlaw5_CheckBack.j2 kq l0 t203 t208 x111_18 = some r) ∧ Aside0 (kq ≤ k2) ∧ Aside0 (Kd.R Kd.string 9 wc w.heap.size (fun k_ => some k_ ≠ (v211 : Value).ownBlock) v206 t203) ∧ Aside0 (Kd.R Kd.string 9 wc w.heap.size (fun k_ => some k_ ≠ (v206 : Value).ownBlock) v211 t208) ∧ Aside0 (Below w.heap.size w wc))
                case first =>
                  have H := HC19.out
                  clear HC19
                  replace H := Option.bind_eq_some_iff.mp H
                  obtain ⟨t213, A230, H⟩ := H
                  replace H : (if t213 = true then (if t199 = (x6_2.size : Int) then (if t200 = 0 then (if (t203.length : Int) = (wrap64 ((l0.length : Int) + (t208.length : Int))) then (if t204 = (wrap64 (t199 + t209)) then (moultlaw5_CheckBack.j2 k2 l0 t203 t208 (t205 != t210)) else (moultlaw5_CheckBack.j2 k2 l0 t203 t208 true)) else (moultlaw5_CheckBack.j2 k2 l0 t203 t208 true)) else (moultlaw5_CheckBack.j2 k2 l0 t203 t208 true)) else (moultlaw5_CheckBack.j2 k2 l0 t203 t208 true)) else (moultlaw5_CheckBack.j2 k2 l0 t203 t208 true)) = some r := H
                  have A23 := Aside0.mk A230
                  clear A230
                  by_cases c24 : t213 = true
                  · subst c24
                    have H1 : (if t199 = (x6_2.size : Int) then (if t200 = 0 then (if (t203.length : Int) = (wrap64 ((l0.length : Int) + (t208.length : Int))) then (if t204 = (wrap64 (t199 + t209)) then (moultlaw5_CheckBack.j2 k2 l0 t203 t208 (t205 != t210)) else (moultlaw5_CheckBack.j2 k2 l0 t203 t208 true)) else (moultlaw5_CheckBack.j2 k2 l0 t203 t208 true)) else (moultlaw5_CheckBack.j2 k2 l0 t203 t208 true)) else (moultlaw5_CheckBack.j2 k2 l0 t203 t208 true)) = some r := by rw [if_pos rfl] at H; exact H
                    clear H
                    have H := H1
                    clear H1
                    by_cases c25 : t199 = (x6_2.size : Int)
                    · rw [if_pos c25] at H
                      have c25b0 : (t199 == (x6_2.size : Int)) = true := beq_iff_eq.mpr c25
                      have c25b1 : (t199 != (x6_2.size : Int)) = false := bne_eq_false_iff_eq.mpr c25
                      clear c25
                      (first | rw [c25b0] | (simp only [i64_w, i32_w]; rw [c25b0]) | skip)
                      by_cases c26 : t200 = 0
                      · rw [if_pos c26] at H
                        have c26b0 : (t200 == 0) = true := beq_iff_eq.mpr c26
                        have c26b1 : (t200 != 0) = false := bne_eq_false_iff_eq.mpr c26
                        clear c26
                        by_cases c27 : (t203.length : Int) = (wrap64 ((l0.length : Int) + (t208.length : Int)))
                        · rw [if_pos c27] at H
                          have c27b0 : ((t203.length : Int) == (wrap64 ((l0.length : Int) + (t208.length : Int)))) = true := beq_iff_eq.mpr c27
                          have c27b1 : ((t203.length : Int) != (wrap64 ((l0.length : Int) + (t208.length : Int)))) = false := bne_eq_false_iff_eq.mpr c27
                          clear c27
                          by_cases c28 : t204 = (wrap64 (t199 + t209))
                          · rw [if_pos c28] at H
                            have c28b0 : (t204 == (wrap64 (t199 + t209))) = true := beq_iff_eq.mpr c28
                            have c28b1 : (t204 != (wrap64 (t199 + t209))) = false := bne_eq_false_iff_eq.mpr c28
                            clear c28
                            have H' := Aside0.mk H
                            clear H
                            obtain ⟨Ao29, co29, eo29⟩ := Kd.R_slice HO202.out
                            subst eo29
                            go_wp2_with (first | ((with_reducible refine gate_callee (f := 19) rfl ?_); refine goesL_ (some 78) rfl rfl Try.func19 (by kernel_rfl) rfl #[.slice Ao29 t198.length co29, .slice A0 l0.length c0] rfl (by (try simp only [List.map_toArray, List.map_cons, List.map_nil]); first | done | rfl | (simp only [List.length_drop, List.length_take]; rfl)) ?_; (with_reducible refine (moultlaw5_same.calls k2 _ _ t198 _ _ l0 true _ ?side1 ?side2 ?side3 ?side4 A23.out).mono ?_); (case side1 => repeat (first | exact (Kd.R_reads' HO202.out).2.2 | (with_reducible refine Kd.C_alloc ?_ _) | (with_reducible refine Kd.C_drewN ?_ _) | (with_reducible refine Kd.C_drew ?_))); (case side2 => exact (Kd.R_reads' HO202.out).2.1); (case side3 => repeat (first | exact (Kd.C_below HR0.out HB.out) | (with_reducible refine Kd.C_alloc ?_ _) | (with_reducible refine Kd.C_drewN ?_ _) | (with_reducible refine Kd.C_drew ?_))); (case side4 => exact HC0.out); rintro e w' ⟨rfl, ⟨nd, rfl⟩⟩; refine ⟨_, rfl, ?_⟩; obtain ⟨Ao30, co30, eo30⟩ := Kd.R_slice HO207.out; subst eo30; obtain ⟨Ao31, co31, eo31⟩ := Kd.R_slice HO212.out; subst eo31))
                            go_meet
                            case rel => exact ⟨_, ((t205 != t210)), (by first | rfl | (simp; done) | (simp [*]; done)), H', ⟨by have := HJ3.out; have := HK2.out; first | omega | exact Nat.le_refl _⟩, ⟨by (with_reducible repeat (first | apply Kd.R_alloc | apply Kd.R_drewN | apply Kd.R_drew)); exact Kd.R_mono HO207.out (fun _ hk => hk.2)⟩, ⟨by (with_reducible repeat (first | apply Kd.R_alloc | apply Kd.R_drewN | apply Kd.R_drew)); exact Kd.R_mono HO212.out (fun _ hk => hk.2)⟩, ⟨by repeat (first | (with_reducible first | exact HB.out | apply below_alloc | apply pw_below_drewN | apply below_drew1) | exact HB.out)⟩⟩
                          · rw [if_neg c28] at H
                            have c28b0 : (t204 == (wrap64 (t199 + t209))) = false := beq_eq_false_iff_ne.mpr c28
                            have c28b1 : (t204 != (wrap64 (t199 + t209))) = true := bne_iff_ne.mpr c28
                            have H' := Aside0.mk H
                            clear H
                            obtain ⟨Ao32, co32, eo32⟩ := Kd.R_slice HO202.out
                            subst eo32
                            go_wp2_with (first | ((with_reducible refine gate_callee (f := 19) rfl ?_); refine goesL_ (some 78) rfl rfl Try.func19 (by kernel_rfl) rfl #[.slice Ao32 t198.length co32, .slice A0 l0.length c0] rfl (by (try simp only [List.map_toArray, List.map_cons, List.map_nil]); first | done | rfl | (simp only [List.length_drop, List.length_take]; rfl)) ?_; (with_reducible refine (moultlaw5_same.calls k2 _ _ t198 _ _ l0 true _ ?side1 ?side2 ?side3 ?side4 A23.out).mono ?_); (case side1 => repeat (first | exact (Kd.R_reads' HO202.out).2.2 | (with_reducible refine Kd.C_alloc ?_ _) | (with_reducible refine Kd.C_drewN ?_ _) | (with_reducible refine Kd.C_drew ?_))); (case side2 => exact (Kd.R_reads' HO202.out).2.1); (case side3 => repeat (first | exact (Kd.C_below HR0.out HB.out) | (with_reducible refine Kd.C_alloc ?_ _) | (with_reducible refine Kd.C_drewN ?_ _) | (with_reducible refine Kd.C_drew ?_))); (case side4 => exact HC0.out); rintro e w' ⟨rfl, ⟨nd, rfl⟩⟩; refine ⟨_, rfl, ?_⟩; obtain ⟨Ao33, co33, eo33⟩ := Kd.R_slice HO207.out; subst eo33; obtain ⟨Ao34, co34, eo34⟩ := Kd.R_slice HO212.out; subst eo34))
                            go_meet
                            case rel => exact ⟨_, (true), (by first | rfl | (simp; done) | (simp [*]; done)), H', ⟨by have := HJ3.out; have := HK2.out; first | omega | exact Nat.le_refl _⟩, ⟨by (with_reducible repeat (first | apply Kd.R_alloc | apply Kd.R_drewN | apply Kd.R_drew)); exact Kd.R_mono HO207.out (fun _ hk => hk.2)⟩, ⟨by (with_reducible repeat (first | apply Kd.R_alloc | apply Kd.R_drewN | apply Kd.R_drew)); exact Kd.R_mono HO212.out (fun _ hk => hk.2)⟩, ⟨by repeat (first | (with_reducible first | exact HB.out | apply below_alloc | apply pw_below_drewN | apply below_drew1) | exact HB.out)⟩⟩
                        · rw [if_neg c27] at H
                          have c27b0 : ((t203.length : Int) == (wrap64 ((l0.length : Int) + (t208.length : Int)))) = false := beq_eq_false_iff_ne.mpr c27
                          have c27b1 : ((t203.length : Int) != (wrap64 ((l0.length : Int) + (t208.length : Int)))) = true := bne_iff_ne.mpr c27
                          have H' := Aside0.mk H
                          clear H
                          obtain ⟨Ao35, co35, eo35⟩ := Kd.R_slice HO202.out
                          subst eo35
                          go_wp2_with (first | ((with_reducible refine gate_callee (f := 19) rfl ?_); refine goesL_ (some 78) rfl rfl Try.func19 (by kernel_rfl) rfl #[.slice Ao35 t198.length co35, .slice A0 l0.length c0] rfl (by (try simp only [List.map_toArray, List.map_cons, List.map_nil]); first | done | rfl | (simp only [List.length_drop, List.length_take]; rfl)) ?_; (with_reducible refine (moultlaw5_same.calls k2 _ _ t198 _ _ l0 true _ ?side1 ?side2 ?side3 ?side4 A23.out).mono ?_); (case side1 => repeat (first | exact (Kd.R_reads' HO202.out).2.2 | (with_reducible refine Kd.C_alloc ?_ _) | (with_reducible refine Kd.C_drewN ?_ _) | (with_reducible refine Kd.C_drew ?_))); (case side2 => exact (Kd.R_reads' HO202.out).2.1); (case side3 => repeat (first | exact (Kd.C_below HR0.out HB.out) | (with_reducible refine Kd.C_alloc ?_ _) | (with_reducible refine Kd.C_drewN ?_ _) | (with_reducible refine Kd.C_drew ?_))); (case side4 => exact HC0.out); rintro e w' ⟨rfl, ⟨nd, rfl⟩⟩; refine ⟨_, rfl, ?_⟩; obtain ⟨Ao36, co36, eo36⟩ := Kd.R_slice HO207.out; subst eo36; obtain ⟨Ao37, co37, eo37⟩ := Kd.R_slice HO212.out; subst eo37))
                          go_meet
                          case rel => exact ⟨_, (true), (by first | rfl | (simp; done) | (simp [*]; done)), H', ⟨by have := HJ3.out; have := HK2.out; first | omega | exact Nat.le_refl _⟩, ⟨by (with_reducible repeat (first | apply Kd.R_alloc | apply Kd.R_drewN | apply Kd.R_drew)); exact Kd.R_mono HO207.out (fun _ hk => hk.2)⟩, ⟨by (with_reducible repeat (first | apply Kd.R_alloc | apply Kd.R_drewN | apply Kd.R_drew)); exact Kd.R_mono HO212.out (fun _ hk => hk.2)⟩, ⟨by repeat (first | (with_reducible first | exact HB.out | apply below_alloc | apply pw_below_drewN | apply below_drew1) | exact HB.out)⟩⟩
                      · rw [if_neg c26] at H
                        have c26b0 : (t200 == 0) = false := beq_eq_false_iff_ne.mpr c26
                        have c26b1 : (t200 != 0) = true := bne_iff_ne.mpr c26
                        have H' := Aside0.mk H
                        clear H
                        obtain ⟨Ao38, co38, eo38⟩ := Kd.R_slice HO202.out
                        subst eo38
                        go_wp2_with (first | ((with_reducible refine gate_callee (f := 19) rfl ?_); refine goesL_ (some 78) rfl rfl Try.func19 (by kernel_rfl) rfl #[.slice Ao38 t198.length co38, .slice A0 l0.length c0] rfl (by (try simp only [List.map_toArray, List.map_cons, List.map_nil]); first | done | rfl | (simp only [List.length_drop, List.length_take]; rfl)) ?_; (with_reducible refine (moultlaw5_same.calls k2 _ _ t198 _ _ l0 true _ ?side1 ?side2 ?side3 ?side4 A23.out).mono ?_); (case side1 => repeat (first | exact (Kd.R_reads' HO202.out).2.2 | (with_reducible refine Kd.C_alloc ?_ _) | (with_reducible refine Kd.C_drewN ?_ _) | (with_reducible refine Kd.C_drew ?_))); (case side2 => exact (Kd.R_reads' HO202.out).2.1); (case side3 => repeat (first | exact (Kd.C_below HR0.out HB.out) | (with_reducible refine Kd.C_alloc ?_ _) | (with_reducible refine Kd.C_drewN ?_ _) | (with_reducible refine Kd.C_drew ?_))); (case side4 => exact HC0.out); rintro e w' ⟨rfl, ⟨nd, rfl⟩⟩; refine ⟨_, rfl, ?_⟩))
                        go_meet
                        case rel => exact ⟨_, (true), (by first | rfl | (simp; done) | (simp [*]; done)), H', ⟨by have := HJ3.out; have := HK2.out; first | omega | exact Nat.le_refl _⟩, ⟨by (with_reducible repeat (first | apply Kd.R_alloc | apply Kd.R_drewN | apply Kd.R_drew)); exact Kd.R_mono HO207.out (fun _ hk => hk.2)⟩, ⟨by (with_reducible repeat (first | apply Kd.R_alloc | apply Kd.R_drewN | apply Kd.R_drew)); exact Kd.R_mono HO212.out (fun _ hk => hk.2)⟩, ⟨by repeat (first | (with_reducible first | exact HB.out | apply below_alloc | apply pw_below_drewN | apply below_drew1) | exact HB.out)⟩⟩
                    · rw [if_neg c25] at H
                      have c25b0 : (t199 == (x6_2.size : Int)) = false := beq_eq_false_iff_ne.mpr c25
                      have c25b1 : (t199 != (x6_2.size : Int)) = true := bne_iff_ne.mpr c25
                      (first | rw [c25b0] | (simp only [i64_w, i32_w]; rw [c25b0]) | skip)
                      have H' := Aside0.mk H
                      clear H
                      obtain ⟨Ao39, co39, eo39⟩ := Kd.R_slice HO202.out
                      subst eo39
                      go_wp2_with (first | ((with_reducible refine gate_callee (f := 19) rfl ?_); refine goesL_ (some 78) rfl rfl Try.func19 (by kernel_rfl) rfl #[.slice Ao39 t198.length co39, .slice A0 l0.length c0] rfl (by (try simp only [List.map_toArray, List.map_cons, List.map_nil]); first | done | rfl | (simp only [List.length_drop, List.length_take]; rfl)) ?_; (with_reducible refine (moultlaw5_same.calls k2 _ _ t198 _ _ l0 true _ ?side1 ?side2 ?side3 ?side4 A23.out).mono ?_); (case side1 => repeat (first | exact (Kd.R_reads' HO202.out).2.2 | (with_reducible refine Kd.C_alloc ?_ _) | (with_reducible refine Kd.C_drewN ?_ _) | (with_reducible refine Kd.C_drew ?_))); (case side2 => exact (Kd.R_reads' HO202.out).2.1); (case side3 => repeat (first | exact (Kd.C_below HR0.out HB.out) | (with_reducible refine Kd.C_alloc ?_ _) | (with_reducible refine Kd.C_drewN ?_ _) | (with_reducible refine Kd.C_drew ?_))); (case side4 => exact HC0.out); rintro e w' ⟨rfl, ⟨nd, rfl⟩⟩; refine ⟨_, rfl, ?_⟩))
                      go_meet
                      case rel => exact ⟨_, (true), (by first | rfl | (simp; done) | (simp [*]; done)), H', ⟨by have := HJ3.out; have := HK2.out; first | omega | exact Nat.le_refl _⟩, ⟨by (with_reducible repeat (first | apply Kd.R_alloc | apply Kd.R_drewN | apply Kd.R_drew)); exact Kd.R_mono HO207.out (fun _ hk => hk.2)⟩, ⟨by (with_reducible repeat (first | apply Kd.R_alloc | apply Kd.R_drewN | apply Kd.R_drew)); exact Kd.R_mono HO212.out (fun _ hk => hk.2)⟩, ⟨by repeat (first | (with_reducible first | exact HB.out | apply below_alloc | apply pw_below_drewN | apply below_drew1) | exact HB.out)⟩⟩
                  · replace c24 := Bool.eq_false_iff.mpr c24
                    subst c24
                    have H1 : (moultlaw5_CheckBack.j2 k2 l0 t203 t208 true) = some r := by rw [if_neg (show ¬ (false = true) by decide)] at H; exact H
                    clear H
                    have H := H1
                    clear H1
                    have H' := Aside0.mk H
                    clear H
                    obtain ⟨Ao40, co40, eo40⟩ := Kd.R_slice HO202.out
                    subst eo40
                    go_wp2_with (first | ((with_reducible refine gate_callee (f := 19) rfl ?_); refine goesL_ (some 78) rfl rfl Try.func19 (by kernel_rfl) rfl #[.slice Ao40 t198.length co40, .slice A0 l0.length c0] rfl (by (try simp only [List.map_toArray, List.map_cons, List.map_nil]); first | done | rfl | (simp only [List.length_drop, List.length_take]; rfl)) ?_; (with_reducible refine (moultlaw5_same.calls k2 _ _ t198 _ _ l0 false _ ?side1 ?side2 ?side3 ?side4 A23.out).mono ?_); (case side1 => repeat (first | exact (Kd.R_reads' HO202.out).2.2 | (with_reducible refine Kd.C_alloc ?_ _) | (with_reducible refine Kd.C_drewN ?_ _) | (with_reducible refine Kd.C_drew ?_))); (case side2 => exact (Kd.R_reads' HO202.out).2.1); (case side3 => repeat (first | exact (Kd.C_below HR0.out HB.out) | (with_reducible refine Kd.C_alloc ?_ _) | (with_reducible refine Kd.C_drewN ?_ _) | (with_reducible refine Kd.C_drew ?_))); (case side4 => exact HC0.out); rintro e w' ⟨rfl, ⟨nd, rfl⟩⟩; refine ⟨_, rfl, ?_⟩))
                    go_meet
                    case rel => exact ⟨_, (true), (by first | rfl | (simp; done) | (simp [*]; done)), H', ⟨by have := HJ3.out; have := HK2.out; first | omega | exact Nat.le_refl _⟩, ⟨by (with_reducible repeat (first | apply Kd.R_alloc | apply Kd.R_drewN | apply Kd.R_drew)); exact Kd.R_mono HO207.out (fun _ hk => hk.2)⟩, ⟨by (with_reducible repeat (first | apply Kd.R_alloc | apply Kd.R_drewN | apply Kd.R_drew)); exact Kd.R_mono HO212.out (fun _ hk => hk.2)⟩, ⟨by repeat (first | (with_reducible first | exact HB.out | apply below_alloc | apply pw_below_drewN | apply below_drew1) | exact HB.out)⟩⟩
                case rest =>
                  clear HC19
                  try clear c1
                  try clear p1
                  try clear q1
                  try clear hx1
                  try clear c2
                  try clear p2
                  try clear c5
                  try clear c6
                  try clear p6
                  try clear c7
                  try clear c7b0
                  try clear c7b1
                  try clear c8
                  try clear c9
                  try clear c9b0
                  try clear c10
                  try clear c10b0
                  try clear c11
                  try clear c11b0
                  try clear c11b1
                  try clear c13
                  try clear c13b0
                  try clear c13b1
                  try clear c13b2
                  try clear c16
                  try clear c16b0
                  try clear c16b1
                  try clear c16b2
                  try clear c17
                  try clear c19
                  try clear p19
                  try clear q19
                  try clear hx19
                  try clear c24
                  try clear c25
                  try clear c25b0
                  try clear c25b1
                  try clear c26
                  try clear c26b0
                  try clear c26b1
                  try clear c27
                  try clear c27b0
                  try clear c27b1
                  try clear c28
                  try clear c28b0
                  try clear c28b1
                  try clear hx194_0
                  try clear hx195_0
                  try clear p194
                  try clear p195
                  try clear p2
                  try clear q194
                  try clear q195
                  obtain ⟨kq, x111_18, rfl, HA, HJ18, HO_13, HO_16, HB⟩ := hcut
                  cases kq with
                  | zero => exact absurd HA.out (by simp [moultlaw5_CheckBack.j2])
                  | succ kj18 =>
                    have H := HA.out
                    clear HA
                    simp only [moultlaw5_CheckBack.j2] at H
                    by_cases c41 : x111_18 = true
                    · subst c41
                      have H1 : (some false) = some r := by rw [if_pos rfl] at H; exact H
                      clear H
                      have H := H1
                      clear H1
                      obtain rfl := Option.some.inj H
                      go_wp2
                      all_goals go_ret
                      all_goals exact ⟨by first | rfl | (simp [errW_none, errW_some] <;> rfl) | (simp [*, errW_none, errW_some] <;> rfl), by repeat (first | (with_reducible first | exact HB.out | apply below_alloc | apply pw_below_drewN | apply below_drew1) | exact HB.out)⟩
                    · replace c41 := Bool.eq_false_iff.mpr c41
                      subst c41
                      have H1 : (if 0 ≤ (l0.length : Int) then (if (l0.length : Int) ≤ (t203.length : Int) then ((moultlaw5_same.f kj18 (t203.take ((l0.length : Int) : Int).toNat) l0).bind fun t218 => (if t218 = true then ((moultlaw5_same.f kj18 (t203.drop ((l0.length : Int) : Int).toNat) t208).bind fun t223 => (some t223)) else (some false))) else (none)) else (none)) = some r := by rw [if_neg (show ¬ (false = true) by decide)] at H; exact H
                      clear H
                      have H := H1
                      clear H1
                      by_cases c42 : 0 ≤ (l0.length : Int)
                      · rw [if_pos c42] at H
                        have c42b0 := eq_true c42
                        have c42b1 : decide (0 ≤ (l0.length : Int)) = true := decide_eq_true c42
                        clear c42
                        by_cases c43 : (l0.length : Int) ≤ (t203.length : Int)
                        · rw [if_pos c43] at H
                          have c43b0 := eq_true c43
                          have c43b1 : decide ((l0.length : Int) ≤ (t203.length : Int)) = true := decide_eq_true c43
                          clear c43
                          obtain ⟨y214, hy214⟩ : ∃ y_ : List ByteArray, y_ = (t203.take ((l0.length : Int) : Int).toNat) := ⟨_, rfl⟩
                          replace H : ((moultlaw5_same.f kj18 y214 l0).bind fun t218 => (if t218 = true then ((moultlaw5_same.f kj18 (t203.drop ((l0.length : Int) : Int).toNat) t208).bind fun t223 => (some t223)) else (some false))) = some r := by first | (rw [hy214]; with_reducible exact H) | (have H2_ := (Option.bind_some _ _).symm.trans H; rw [hy214]; with_reducible exact H2_) | (have H2_ := (Option.bind_some _ _).symm.trans H; with_reducible exact H2_) | with_reducible exact H | (rw [hy214]; exact H) | exact H
                          have Ny214 := Aside0.mk hy214
                          clear hy214
                          replace H := Option.bind_eq_some_iff.mp H
                          obtain ⟨t218, A440, H⟩ := H
                          replace H : (if t218 = true then ((moultlaw5_same.f kj18 (t203.drop ((l0.length : Int) : Int).toNat) t208).bind fun t223 => (some t223)) else (some false)) = some r := H
                          have A44 := Aside0.mk A440
                          clear A440
                          by_cases c45 : t218 = true
                          · subst c45
                            have H1 : ((moultlaw5_same.f kj18 (t203.drop ((l0.length : Int) : Int).toNat) t208).bind fun t223 => (some t223)) = some r := by rw [if_pos rfl] at H; exact H
                            clear H
                            have H := H1
                            clear H1
                            have c46b0 := eq_true (of_decide_eq_true (by first | (with_reducible assumption) | assumption) : 0 ≤ (l0.length : Int))
                            have c47b0 := eq_true (of_decide_eq_true (by first | (with_reducible assumption) | assumption) : (l0.length : Int) ≤ (t203.length : Int))
                            obtain ⟨y219, hy219⟩ : ∃ y_ : List ByteArray, y_ = (t203.drop ((l0.length : Int) : Int).toNat) := ⟨_, rfl⟩
                            replace H : ((moultlaw5_same.f kj18 y219 t208).bind fun t223 => (some t223)) = some r := by first | (rw [hy219]; with_reducible exact H) | (have H2_ := (Option.bind_some _ _).symm.trans H; rw [hy219]; with_reducible exact H2_) | (have H2_ := (Option.bind_some _ _).symm.trans H; with_reducible exact H2_) | with_reducible exact H | (rw [hy219]; exact H) | exact H
                            have Ny219 := Aside0.mk hy219
                            clear hy219
                            replace H := Option.bind_eq_some_iff.mp H
                            obtain ⟨t223, A480, H⟩ := H
                            replace H : (some t223) = some r := H
                            have A48 := Aside0.mk A480
                            clear A480
                            obtain rfl := Option.some.inj H
                            obtain ⟨Ao50, co50, eo50⟩ := Kd.R_slice HO_13.out
                            subst eo50
                            have q49 : ((l0.length : Int) : Int) ≤ ((t203.length : Int) : Int) := of_decide_eq_true (by first | (with_reducible assumption) | assumption)
                            obtain ⟨i049, hi049, _, hsz49, _⟩ := info_parts info9
                            have hroom49 : t203.length ≤ co50 := (Kd.R_reads' HO_13.out).2.1
                            have hC49 : Kd.C Kd.string _ Ao50 t203.length t203 := (Kd.R_reads' HO_13.out).2.2
                            have hcut49 := cut_to (P := Try.prog) 32 9 .i64 Try.underlying32 hi049 Ao50 t203.length co50 (l0.length : Int) (of_decide_eq_true (by first | (with_reducible assumption) | assumption)) q49 hroom49
                            have hr49 := Kd.C_take (m := ((l0.length : Int) : Int).toNat) hC49 (by omega)
                            have hy49 : y214.length = ((l0.length : Int) : Int).toNat := (by rw [Ny214.out, List.length_take]; omega)
                            rw [← Ny214.out] at hr49
                            rw [← hy49] at hcut49
                            have HR217 := Aside0.mk hr49
                            have HC217 := Aside0.mk (show y214.length ≤ co50 from by omega)
                            clear hr49 hC49 hroom49 hi049 hsz49
                            have KY49 := Aside0.mk hy49
                            clear hy49
                            have KL49 := Aside0.mk (show ((l0.length : Int) : Int).toNat ≤ t203.length from by omega)
                            replace q49 := eq_true q49
                            go_wp2_with (first | ((with_reducible refine gate_callee (f := 19) rfl ?_); refine goesL_ (some 117) rfl rfl Try.func19 (by kernel_rfl) rfl #[.slice Ao50 y214.length co50, .slice A0 l0.length c0] rfl (by (try simp only [List.map_toArray, List.map_cons, List.map_nil]); first | done | rfl | (simp only [List.length_drop, List.length_take]; rfl)) ?_; (with_reducible refine (moultlaw5_same.calls kj18 _ _ y214 _ _ l0 true _ ?side1 ?side2 ?side3 ?side4 A44.out).mono ?_); (case side1 => repeat (first | exact (by repeat (first | (with_reducible exact HR217.out) | (with_reducible refine Kd.C_alloc ?_ _) | (with_reducible refine Kd.C_drewN ?_ _) | (with_reducible refine Kd.C_drew ?_) | exact HR217.out)) | (with_reducible refine Kd.C_alloc ?_ _) | (with_reducible refine Kd.C_drewN ?_ _) | (with_reducible refine Kd.C_drew ?_))); (case side2 => exact HC217.out); (case side3 => repeat (first | exact (Kd.C_below HR0.out HB.out) | (with_reducible refine Kd.C_alloc ?_ _) | (with_reducible refine Kd.C_drewN ?_ _) | (with_reducible refine Kd.C_drew ?_))); (case side4 => exact HC0.out); rintro e w' ⟨rfl, ⟨nd, rfl⟩⟩; refine ⟨_, rfl, ?_⟩; have q51 : ((l0.length : Int) : Int) ≤ ((t203.length : Int) : Int) := of_decide_eq_true (by first | (with_reducible assumption) | assumption); obtain ⟨i051, hi051, _, hsz51, _⟩ := info_parts info9; have hroom51 : t203.length ≤ co50 := (Kd.R_reads' HO_13.out).2.1; have hC51 : Kd.C Kd.string _ Ao50 t203.length t203 := (Kd.R_reads' HO_13.out).2.2; have q051 : (0 : Int) ≤ ((l0.length : Int) : Int) := of_decide_eq_true (by first | (with_reducible assumption) | assumption); have hcut51 := cut_from (P := Try.prog) 32 9 .i64 Try.underlying32 hi051 1 hsz51 Ao50 t203.length co50 (l0.length : Int) q051 q51; have hr51 := Kd.C_drop (m := ((l0.length : Int) : Int).toNat) (c := co50) hC51 (by omega) hroom51; obtain ⟨A51, hA51⟩ : ∃ A1, A1 = (if co50 = ((l0.length : Int) : Int).toNat then Ao50 else (Ao50 : Option Addr).map (·.add (((l0.length : Int) : Int).toNat * 1))) := ⟨_, rfl⟩; obtain ⟨c51, hc51⟩ : ∃ c1, c1 = co50 - ((l0.length : Int) : Int).toNat := ⟨_, rfl⟩; have hy51 : y219.length = t203.length - ((l0.length : Int) : Int).toNat := (by rw [Ny219.out, List.length_drop] <;> omega); rw [show (t203).drop ((l0.length : Int) : Int).toNat = y219 from Ny219.out.symm] at hr51; replace hr51 : Kd.C Kd.string _ A51 y219.length y219 := (by rw [hA51]; exact hr51); rw [← hy51, ← hA51, ← hc51] at hcut51; have HR222 := Aside0.mk hr51; have HC222 := Aside0.mk (show y219.length ≤ c51 from by rw [hy51, hc51]; exact Nat.sub_le_sub_right hroom51 _); clear hr51 hC51 hroom51 hi051 hsz51 hc51; have KY51 := Aside0.mk hy51; have KA51 := Aside0.mk hA51; clear hy51 hA51; have KL51 := Aside0.mk (show ((l0.length : Int) : Int).toNat ≤ t203.length from by omega); replace q51 := eq_true q51; obtain ⟨Ao52, co52, eo52⟩ := Kd.R_slice HO_16.out; subst eo52) | (go_at_call 19; (with_reducible refine (moultlaw5_same.calls kj18 _ _ y219 _ _ t208 t223 _ ?side1 ?side2 ?side3 ?side4 A48.out).mono ?_); (case side1 => repeat (first | exact (by repeat (first | (with_reducible exact HR222.out) | (with_reducible refine Kd.C_alloc ?_ _) | (with_reducible refine Kd.C_drewN ?_ _) | (with_reducible refine Kd.C_drew ?_) | exact HR222.out)) | (with_reducible refine Kd.C_alloc ?_ _) | (with_reducible refine Kd.C_drewN ?_ _) | (with_reducible refine Kd.C_drew ?_))); (case side2 => exact HC222.out); (case side3 => repeat (first | exact (Kd.R_reads' HO_16.out).2.2 | (with_reducible refine Kd.C_alloc ?_ _) | (with_reducible refine Kd.C_drewN ?_ _) | (with_reducible refine Kd.C_drew ?_))); (case side4 => exact (Kd.R_reads' HO_16.out).2.1); rintro e w' ⟨rfl, ⟨nd, rfl⟩⟩))
                            all_goals go_ret
                            all_goals exact ⟨by first | rfl | (simp [errW_none, errW_some] <;> rfl) | (simp [*, errW_none, errW_some] <;> rfl), by repeat (first | (with_reducible first | exact HB.out | apply below_alloc | apply pw_below_drewN | apply below_drew1) | exact HB.out)⟩
                          · replace c45 := Bool.eq_false_iff.mpr c45
                            subst c45
                            have H1 : (some false) = some r := by rw [if_neg (show ¬ (false = true) by decide)] at H; exact H
                            clear H
                            have H := H1
                            clear H1
                            obtain rfl := Option.some.inj H
                            obtain ⟨Ao54, co54, eo54⟩ := Kd.R_slice HO_13.out
                            subst eo54
                            have q53 : ((l0.length : Int) : Int) ≤ ((t203.length : Int) : Int) := of_decide_eq_true (by first | (with_reducible assumption) | assumption)
                            obtain ⟨i053, hi053, _, hsz53, _⟩ := info_parts info9
                            have hroom53 : t203.length ≤ co54 := (Kd.R_reads' HO_13.out).2.1
                            have hC53 : Kd.C Kd.string _ Ao54 t203.length t203 := (Kd.R_reads' HO_13.out).2.2
                            have hcut53 := cut_to (P := Try.prog) 32 9 .i64 Try.underlying32 hi053 Ao54 t203.length co54 (l0.length : Int) (of_decide_eq_true (by first | (with_reducible assumption) | assumption)) q53 hroom53
                            have hr53 := Kd.C_take (m := ((l0.length : Int) : Int).toNat) hC53 (by omega)
                            have hy53 : y214.length = ((l0.length : Int) : Int).toNat := (by rw [Ny214.out, List.length_take]; omega)
                            rw [← Ny214.out] at hr53
                            rw [← hy53] at hcut53
                            have HR217 := Aside0.mk hr53
                            have HC217 := Aside0.mk (show y214.length ≤ co54 from by omega)
                            clear hr53 hC53 hroom53 hi053 hsz53
                            have KY53 := Aside0.mk hy53
                            clear hy53
                            have KL53 := Aside0.mk (show ((l0.length : Int) : Int).toNat ≤ t203.length from by omega)
                            replace q53 := eq_true q53
                            go_wp2_with (first | ((with_reducible refine gate_callee (f := 19) rfl ?_); refine goesL_ (some 117) rfl rfl Try.func19 (by kernel_rfl) rfl #[.slice Ao54 y214.length co54, .slice A0 l0.length c0] rfl (by (try simp only [List.map_toArray, List.map_cons, List.map_nil]); first | done | rfl | (simp only [List.length_drop, List.length_take]; rfl)) ?_; (with_reducible refine (moultlaw5_same.calls kj18 _ _ y214 _ _ l0 false _ ?side1 ?side2 ?side3 ?side4 A44.out).mono ?_); (case side1 => repeat (first | exact (by repeat (first | (with_reducible exact HR217.out) | (with_reducible refine Kd.C_alloc ?_ _) | (with_reducible refine Kd.C_drewN ?_ _) | (with_reducible refine Kd.C_drew ?_) | exact HR217.out)) | (with_reducible refine Kd.C_alloc ?_ _) | (with_reducible refine Kd.C_drewN ?_ _) | (with_reducible refine Kd.C_drew ?_))); (case side2 => exact HC217.out); (case side3 => repeat (first | exact (Kd.C_below HR0.out HB.out) | (with_reducible refine Kd.C_alloc ?_ _) | (with_reducible refine Kd.C_drewN ?_ _) | (with_reducible refine Kd.C_drew ?_))); (case side4 => exact HC0.out); rintro e w' ⟨rfl, ⟨nd, rfl⟩⟩; refine ⟨_, rfl, ?_⟩))
                            all_goals go_ret
                            all_goals exact ⟨by first | rfl | (simp [errW_none, errW_some] <;> rfl) | (simp [*, errW_none, errW_some] <;> rfl), by repeat (first | (with_reducible first | exact HB.out | apply below_alloc | apply pw_below_drewN | apply below_drew1) | exact HB.out)⟩
                        · rw [if_neg c43] at H
                          exact absurd H (by simp)
                      · rw [if_neg c42] at H
                        exact absurd H (by simp)
              · rw [if_neg c16] at H
                exact absurd H (by simp)

/-! ### moultlaw5_CheckCuts: function 6 -/
def moultlaw5_CheckCuts.j0 : Nat → ByteArray → Int → Bool → Bool → Option (Bool)
  | 0, _, _, _, _ => none
  | k + 1, x0, x1, x5, x18 => if x18 = true then (some x5) else ((check_Frame.f x0).bind fun bt225 => (if (bt225.1.size : Int) < 5 then (some false) else ((moultlaw5_pick.f x1 (bt225.1.size : Int)).bind fun t227 => (if 0 ≤ t227 then (if t227 ≤ (bt225.1.size : Int) then ((check_Unframe.f k (bt225.1.extract 0 (t227 : Int).toNat)).bind fun bt228 => (if bt228.1.toList = ([] : List UInt8) then (if bt228.2.1.toList = ([] : List UInt8) then (some (bt228.2.2 == 8)) else (some false)) else (some false))) else (none)) else (none)))))
def moultlaw5_CheckCuts.f (k : Nat) (a0 : ByteArray) (a1 : Int) : Option (Bool) := (moultlaw5_shown.f k).bind fun t224 => (if t224 = true then (moultlaw5_CheckCuts.j0 k a0 a1 t224 (decide ((a0.size : Int) > 2000))) else (moultlaw5_CheckCuts.j0 k a0 a1 t224 true))
theorem moultlaw5_CheckCuts.mono_l : ∀ k, (∀ y0 y1 y2 y3, LeO (moultlaw5_CheckCuts.j0 k y0 y1 y2 y3) (moultlaw5_CheckCuts.j0 (k + 1) y0 y1 y2 y3))
  | 0 => fun _ _ _ _ r h => by simp [moultlaw5_CheckCuts.j0] at h
  | k + 1 => by
    have ih0 := moultlaw5_CheckCuts.mono_l k
    · intro y0 y1 y2 y3
      unfold moultlaw5_CheckCuts.j0
      repeat' first
      | (with_reducible exact ih0 _ _ _ _)
      | (with_reducible exact check_Unframe.mono _ _)
      | (with_reducible exact moultlaw5_shown.mono _)
      | (with_reducible exact LeO.refl _)
      | (with_reducible exact LeO.none _)
      | (with_reducible refine LeO.ite ?_ ?_)
      | (with_reducible refine LeO.bind ?_ (fun _ => ?_))
      | exact ih0 _ _ _ _
      | exact check_Unframe.mono _ _
      | exact moultlaw5_shown.mono _
      | exact LeO.none _
      | refine LeO.ite ?_ ?_
      | refine LeO.bind ?_ (fun _ => ?_)
theorem moultlaw5_CheckCuts.mono : ∀ a0 a1 k, LeO (moultlaw5_CheckCuts.f k a0 a1) (moultlaw5_CheckCuts.f (k + 1) a0 a1) := by
  intro a0 a1 k
  have ih0 := moultlaw5_CheckCuts.mono_l k
  unfold moultlaw5_CheckCuts.f
  repeat' first
      | (with_reducible exact ih0 _ _ _ _)
      | (with_reducible exact check_Unframe.mono _ _)
      | (with_reducible exact moultlaw5_shown.mono _)
      | (with_reducible exact LeO.refl _)
      | (with_reducible exact LeO.none _)
      | (with_reducible refine LeO.ite ?_ ?_)
      | (with_reducible refine LeO.bind ?_ (fun _ => ?_))
      | exact ih0 _ _ _ _
      | exact check_Unframe.mono _ _
      | exact moultlaw5_shown.mono _
      | exact LeO.none _
      | refine LeO.ite ?_ ?_
      | refine LeO.bind ?_ (fun _ => ?_)
set_option maxHeartbeats 8000000 in
set_option maxRecDepth 100000 in
theorem moultlaw5_CheckCuts.calls (k : Nat) (a0 : ByteArray) (a1 : Int) (r : Bool) (w : World) (h : moultlaw5_CheckCuts.f k a0 a1 = some r) :
    Calls Try.prog 6 #[.string a0, .int .i64 a1] w fun e w' => e = .returned (.bool r) ∧ Below w.heap.size w w' := by
  have HB := Aside0.mk (Below.refl w.heap.size w)
  have H : ((moultlaw5_shown.f k).bind fun t224 => (if t224 = true then (moultlaw5_CheckCuts.j0 k a0 a1 t224 (decide ((a0.size : Int) > 2000))) else (moultlaw5_CheckCuts.j0 k a0 a1 t224 true))) = some r := h
  clear h
  replace H := Option.bind_eq_some_iff.mp H
  obtain ⟨t224, A30, H⟩ := H
  replace H : (if t224 = true then (moultlaw5_CheckCuts.j0 k a0 a1 t224 (decide ((a0.size : Int) > 2000))) else (moultlaw5_CheckCuts.j0 k a0 a1 t224 true)) = some r := H
  have A3 := Aside0.mk A30
  clear A30
  have HC4 := Aside0.mk H
  clear H
  go_enter Try.func6, Try.ntmps6
  go_upto_region 2 with (first | ((with_reducible refine gate_callee (f := 9) rfl ?_); refine goesL_ (some 11) rfl rfl Try.func9 (by kernel_rfl) rfl #[] rfl (by (try simp only [List.map_toArray, List.map_cons, List.map_nil]); first | done | rfl | (simp only [List.length_drop, List.length_take]; rfl)) ?_; (with_reducible refine (moultlaw5_shown.calls k  t224 _ A3.out).mono ?_); rintro e w5 ⟨rfl, hb⟩; refine ⟨_, rfl, ?_⟩; have n0_ := Aside0.mk (below_step (by repeat (first | (with_reducible first | exact HB.out | apply below_alloc | apply pw_below_drewN | apply below_drew1) | exact HB.out)) hb); clear HB; have HB := n0_; clear n0_; (try clear hb); (try clear hb2); (try clear hk); (try clear hi)))
  (try simp only [Act.put, List.setIfInBounds_toArray, List.set_cons_zero, List.set_cons_succ])
  go_cut [18] (fun v18 wc => ∃ (kq : Nat) (x18_3 : Bool), v18 = .bool x18_3 ∧ Aside0 (moultlaw5_CheckCuts.j0 kq a0 a1 t224 x18_3 = some r) ∧ Aside0 (kq ≤ k) ∧ Aside0 (Below w.heap.size w wc))
  case first =>
    have H := HC4.out
    clear HC4
    by_cases c6 : t224 = true
    · subst c6
      have H1 : (moultlaw5_CheckCuts.j0 k a0 a1 true (decide ((a0.size : Int) > 2000))) = some r := by rw [if_pos rfl] at H; exact H
      clear H
      have H := H1
      clear H1
      have H' := Aside0.mk H
      clear H
      go_wp2
      go_meet
      case rel => exact ⟨_, (decide ((a0.size : Int) > 2000)), (by first | rfl | (simp; done) | (simp [*]; done)), H', ⟨by first | omega | exact Nat.le_refl _⟩, ⟨by repeat (first | (with_reducible first | exact HB.out | apply below_alloc | apply pw_below_drewN | apply below_drew1) | exact HB.out)⟩⟩
    · replace c6 := Bool.eq_false_iff.mpr c6
      subst c6
      have H1 : (moultlaw5_CheckCuts.j0 k a0 a1 false true) = some r := by rw [if_neg (show ¬ (false = true) by decide)] at H; exact H
      clear H
      have H := H1
      clear H1
      have H' := Aside0.mk H
      clear H
      go_wp2
      go_meet
      case rel => exact ⟨_, (true), (by first | rfl | (simp; done) | (simp [*]; done)), H', ⟨by first | omega | exact Nat.le_refl _⟩, ⟨by repeat (first | (with_reducible first | exact HB.out | apply below_alloc | apply pw_below_drewN | apply below_drew1) | exact HB.out)⟩⟩
  case rest =>
    clear HC4
    try clear p2
    try clear c6
    obtain ⟨kq, x18_3, rfl, HA, HJ3, HB⟩ := hcut
    cases kq with
    | zero => exact absurd HA.out (by simp [moultlaw5_CheckCuts.j0])
    | succ kj3 =>
      have H := HA.out
      clear HA
      simp only [moultlaw5_CheckCuts.j0] at H
      by_cases c7 : x18_3 = true
      · subst c7
        have H1 : (some t224) = some r := by rw [if_pos rfl] at H; exact H
        clear H
        have H := H1
        clear H1
        obtain rfl := Option.some.inj H
        go_wp2
        all_goals go_ret
        all_goals exact ⟨by first | rfl | (simp [errW_none, errW_some] <;> rfl) | (simp [*, errW_none, errW_some] <;> rfl), by repeat (first | (with_reducible first | exact HB.out | apply below_alloc | apply pw_below_drewN | apply below_drew1) | exact HB.out)⟩
      · replace c7 := Bool.eq_false_iff.mpr c7
        subst c7
        have H1 : ((check_Frame.f a0).bind fun bt225 => (if (bt225.1.size : Int) < 5 then (some false) else ((moultlaw5_pick.f a1 (bt225.1.size : Int)).bind fun t227 => (if 0 ≤ t227 then (if t227 ≤ (bt225.1.size : Int) then ((check_Unframe.f kj3 (bt225.1.extract 0 (t227 : Int).toNat)).bind fun bt228 => (if bt228.1.toList = ([] : List UInt8) then (if bt228.2.1.toList = ([] : List UInt8) then (some (bt228.2.2 == 8)) else (some false)) else (some false))) else (none)) else (none))))) = some r := by rw [if_neg (show ¬ (false = true) by decide)] at H; exact H
        clear H
        have H := H1
        clear H1
        replace H := Option.bind_eq_some_iff.mp H
        obtain ⟨⟨t225, t226⟩, A80, H⟩ := H
        replace H : (if (t225.size : Int) < 5 then (some false) else ((moultlaw5_pick.f a1 (t225.size : Int)).bind fun t227 => (if 0 ≤ t227 then (if t227 ≤ (t225.size : Int) then ((check_Unframe.f kj3 (t225.extract 0 (t227 : Int).toNat)).bind fun bt228 => (if bt228.1.toList = ([] : List UInt8) then (if bt228.2.1.toList = ([] : List UInt8) then (some (bt228.2.2 == 8)) else (some false)) else (some false))) else (none)) else (none)))) = some r := H
        have A8 := Aside0.mk A80
        clear A80
        by_cases c9 : (t225.size : Int) < 5
        · rw [if_pos c9] at H
          have c9b0 : decide ((t225.size : Int) < 5) = true := decide_eq_true c9
          have c9b1 : decide (t225.size < 5) = true := decide_eq_true (by omega)
          clear c9
          obtain rfl := Option.some.inj H
          go_wp2_with (first | ((with_reducible refine gate_callee (f := 10) rfl ?_); refine goesL_ (some 22) rfl rfl Try.func10 (by kernel_rfl) rfl #[.string a0] rfl (by (try simp only [List.map_toArray, List.map_cons, List.map_nil]); first | done | rfl | (simp only [List.length_drop, List.length_take]; rfl)) ?_; (with_reducible refine (check_Frame.calls a0 t225 t226 _ A8.out).mono ?_); rintro e w10 ⟨rfl, hb⟩; refine ⟨_, rfl, ?_⟩; have n0_ := Aside0.mk (below_step (by repeat (first | (with_reducible first | exact HB.out | apply below_alloc | apply pw_below_drewN | apply below_drew1) | exact HB.out)) hb); clear HB; have HB := n0_; clear n0_; (try clear hb); (try clear hb2); (try clear hk); (try clear hi)))
          all_goals go_ret
          all_goals exact ⟨by first | rfl | (simp [errW_none, errW_some] <;> rfl) | (simp [*, errW_none, errW_some] <;> rfl), by repeat (first | (with_reducible first | exact HB.out | apply below_alloc | apply pw_below_drewN | apply below_drew1) | exact HB.out)⟩
        · rw [if_neg c9] at H
          have c9b0 : decide ((t225.size : Int) < 5) = false := decide_eq_false c9
          have c9b1 : decide (t225.size < 5) = false := decide_eq_false (by omega)
          clear c9
          replace H := Option.bind_eq_some_iff.mp H
          obtain ⟨t227, A110, H⟩ := H
          replace H : (if 0 ≤ t227 then (if t227 ≤ (t225.size : Int) then ((check_Unframe.f kj3 (t225.extract 0 (t227 : Int).toNat)).bind fun bt228 => (if bt228.1.toList = ([] : List UInt8) then (if bt228.2.1.toList = ([] : List UInt8) then (some (bt228.2.2 == 8)) else (some false)) else (some false))) else (none)) else (none)) = some r := H
          have A11 := Aside0.mk A110
          clear A110
          by_cases c12 : 0 ≤ t227
          · rw [if_pos c12] at H
            have c12b0 := eq_true c12
            have c12b1 : decide (0 ≤ t227) = true := decide_eq_true c12
            clear c12
            by_cases c13 : t227 ≤ (t225.size : Int)
            · rw [if_pos c13] at H
              have c13b0 := eq_true c13
              have c13b1 : decide (t227 ≤ (t225.size : Int)) = true := decide_eq_true c13
              clear c13
              replace H := Option.bind_eq_some_iff.mp H
              obtain ⟨⟨t228, t229, t230⟩, A140, H⟩ := H
              replace H : (if t228.toList = ([] : List UInt8) then (if t229.toList = ([] : List UInt8) then (some (t230 == 8)) else (some false)) else (some false)) = some r := H
              have A14 := Aside0.mk A140
              clear A140
              by_cases c15 : t228.toList = ([] : List UInt8)
              · rw [if_pos c15] at H
                have c15b0 : (t228.toList == ([] : List UInt8)) = true := beq_iff_eq.mpr c15
                have c15b1 : (t228.toList != ([] : List UInt8)) = false := bne_eq_false_iff_eq.mpr c15
                clear c15
                by_cases c16 : t229.toList = ([] : List UInt8)
                · rw [if_pos c16] at H
                  have c16b0 : (t229.toList == ([] : List UInt8)) = true := beq_iff_eq.mpr c16
                  have c16b1 : (t229.toList != ([] : List UInt8)) = false := bne_eq_false_iff_eq.mpr c16
                  clear c16
                  obtain rfl := Option.some.inj H
                  go_wp2_with (first | ((with_reducible refine gate_callee (f := 10) rfl ?_); refine goesL_ (some 22) rfl rfl Try.func10 (by kernel_rfl) rfl #[.string a0] rfl (by (try simp only [List.map_toArray, List.map_cons, List.map_nil]); first | done | rfl | (simp only [List.length_drop, List.length_take]; rfl)) ?_; (with_reducible refine (check_Frame.calls a0 t225 t226 _ A8.out).mono ?_); rintro e w17 ⟨rfl, hb⟩; refine ⟨_, rfl, ?_⟩; have n0_ := Aside0.mk (below_step (by repeat (first | (with_reducible first | exact HB.out | apply below_alloc | apply pw_below_drewN | apply below_drew1) | exact HB.out)) hb); clear HB; have HB := n0_; clear n0_; (try clear hb); (try clear hb2); (try clear hk); (try clear hi)) | ((with_reducible refine gate_callee (f := 14) rfl ?_); refine goesL_ (some 33) rfl rfl Try.func14 (by kernel_rfl) rfl #[.int .i64 a1, .int .i64 (t225.size : Int)] rfl (by (try simp only [List.map_toArray, List.map_cons, List.map_nil]); first | done | rfl | (simp only [List.length_drop, List.length_take]; rfl)) ?_; (with_reducible refine (moultlaw5_pick.calls a1 (t225.size : Int) t227 _ A11.out).mono ?_); rintro e w' ⟨rfl, ⟨nd, rfl⟩⟩; refine ⟨_, rfl, ?_⟩) | ((with_reducible refine gate_callee (f := 15) rfl ?_); refine goesL_ (some 35) rfl rfl Try.func15 (by kernel_rfl) rfl #[.string (t225.extract 0 (t227 : Int).toNat)] rfl (by (try simp only [List.map_toArray, List.map_cons, List.map_nil]); first | done | rfl | (simp only [List.length_drop, List.length_take]; rfl)) ?_; (with_reducible refine (check_Unframe.calls kj3 (t225.extract 0 (t227 : Int).toNat) t228 t229 t230 _ A14.out).mono ?_); rintro e w18 ⟨rfl, hb⟩; refine ⟨_, rfl, ?_⟩; have n0_ := Aside0.mk (below_step (by repeat (first | (with_reducible first | exact HB.out | apply below_alloc | apply pw_below_drewN | apply below_drew1) | exact HB.out)) hb); clear HB; have HB := n0_; clear n0_; (try clear hb); (try clear hb2); (try clear hk); (try clear hi)))
                  all_goals go_ret
                  all_goals exact ⟨by first | rfl | (simp [errW_none, errW_some] <;> rfl) | (simp [*, errW_none, errW_some] <;> rfl), by repeat (first | (with_reducible first | exact HB.out | apply below_alloc | apply pw_below_drewN | apply below_drew1) | exact HB.out)⟩
                · rw [if_neg c16] at H
                  have c16b0 : (t229.toList == ([] : List UInt8)) = false := beq_eq_false_iff_ne.mpr c16
                  have c16b1 : (t229.toList != ([] : List UInt8)) = true := bne_iff_ne.mpr c16
                  obtain rfl := Option.some.inj H
                  go_wp2_with (first | ((with_reducible refine gate_callee (f := 10) rfl ?_); refine goesL_ (some 22) rfl rfl Try.func10 (by kernel_rfl) rfl #[.string a0] rfl (by (try simp only [List.map_toArray, List.map_cons, List.map_nil]); first | done | rfl | (simp only [List.length_drop, List.length_take]; rfl)) ?_; (with_reducible refine (check_Frame.calls a0 t225 t226 _ A8.out).mono ?_); rintro e w19 ⟨rfl, hb⟩; refine ⟨_, rfl, ?_⟩; have n0_ := Aside0.mk (below_step (by repeat (first | (with_reducible first | exact HB.out | apply below_alloc | apply pw_below_drewN | apply below_drew1) | exact HB.out)) hb); clear HB; have HB := n0_; clear n0_; (try clear hb); (try clear hb2); (try clear hk); (try clear hi)) | ((with_reducible refine gate_callee (f := 14) rfl ?_); refine goesL_ (some 33) rfl rfl Try.func14 (by kernel_rfl) rfl #[.int .i64 a1, .int .i64 (t225.size : Int)] rfl (by (try simp only [List.map_toArray, List.map_cons, List.map_nil]); first | done | rfl | (simp only [List.length_drop, List.length_take]; rfl)) ?_; (with_reducible refine (moultlaw5_pick.calls a1 (t225.size : Int) t227 _ A11.out).mono ?_); rintro e w' ⟨rfl, ⟨nd, rfl⟩⟩; refine ⟨_, rfl, ?_⟩) | ((with_reducible refine gate_callee (f := 15) rfl ?_); refine goesL_ (some 35) rfl rfl Try.func15 (by kernel_rfl) rfl #[.string (t225.extract 0 (t227 : Int).toNat)] rfl (by (try simp only [List.map_toArray, List.map_cons, List.map_nil]); first | done | rfl | (simp only [List.length_drop, List.length_take]; rfl)) ?_; (with_reducible refine (check_Unframe.calls kj3 (t225.extract 0 (t227 : Int).toNat) t228 t229 t230 _ A14.out).mono ?_); rintro e w20 ⟨rfl, hb⟩; refine ⟨_, rfl, ?_⟩; have n0_ := Aside0.mk (below_step (by repeat (first | (with_reducible first | exact HB.out | apply below_alloc | apply pw_below_drewN | apply below_drew1) | exact HB.out)) hb); clear HB; have HB := n0_; clear n0_; (try clear hb); (try clear hb2); (try clear hk); (try clear hi)))
                  all_goals go_ret
                  all_goals exact ⟨by first | rfl | (simp [errW_none, errW_some] <;> rfl) | (simp [*, errW_none, errW_some] <;> rfl), by repeat (first | (with_reducible first | exact HB.out | apply below_alloc | apply pw_below_drewN | apply below_drew1) | exact HB.out)⟩
              · rw [if_neg c15] at H
                have c15b0 : (t228.toList == ([] : List UInt8)) = false := beq_eq_false_iff_ne.mpr c15
                have c15b1 : (t228.toList != ([] : List UInt8)) = true := bne_iff_ne.mpr c15
                obtain rfl := Option.some.inj H
                go_wp2_with (first | ((with_reducible refine gate_callee (f := 10) rfl ?_); refine goesL_ (some 22) rfl rfl Try.func10 (by kernel_rfl) rfl #[.string a0] rfl (by (try simp only [List.map_toArray, List.map_cons, List.map_nil]); first | done | rfl | (simp only [List.length_drop, List.length_take]; rfl)) ?_; (with_reducible refine (check_Frame.calls a0 t225 t226 _ A8.out).mono ?_); rintro e w21 ⟨rfl, hb⟩; refine ⟨_, rfl, ?_⟩; have n0_ := Aside0.mk (below_step (by repeat (first | (with_reducible first | exact HB.out | apply below_alloc | apply pw_below_drewN | apply below_drew1) | exact HB.out)) hb); clear HB; have HB := n0_; clear n0_; (try clear hb); (try clear hb2); (try clear hk); (try clear hi)) | ((with_reducible refine gate_callee (f := 14) rfl ?_); refine goesL_ (some 33) rfl rfl Try.func14 (by kernel_rfl) rfl #[.int .i64 a1, .int .i64 (t225.size : Int)] rfl (by (try simp only [List.map_toArray, List.map_cons, List.map_nil]); first | done | rfl | (simp only [List.length_drop, List.length_take]; rfl)) ?_; (with_reducible refine (moultlaw5_pick.calls a1 (t225.size : Int) t227 _ A11.out).mono ?_); rintro e w' ⟨rfl, ⟨nd, rfl⟩⟩; refine ⟨_, rfl, ?_⟩) | ((with_reducible refine gate_callee (f := 15) rfl ?_); refine goesL_ (some 35) rfl rfl Try.func15 (by kernel_rfl) rfl #[.string (t225.extract 0 (t227 : Int).toNat)] rfl (by (try simp only [List.map_toArray, List.map_cons, List.map_nil]); first | done | rfl | (simp only [List.length_drop, List.length_take]; rfl)) ?_; (with_reducible refine (check_Unframe.calls kj3 (t225.extract 0 (t227 : Int).toNat) t228 t229 t230 _ A14.out).mono ?_); rintro e w22 ⟨rfl, hb⟩; refine ⟨_, rfl, ?_⟩; have n0_ := Aside0.mk (below_step (by repeat (first | (with_reducible first | exact HB.out | apply below_alloc | apply pw_below_drewN | apply below_drew1) | exact HB.out)) hb); clear HB; have HB := n0_; clear n0_; (try clear hb); (try clear hb2); (try clear hk); (try clear hi)))
                all_goals go_ret
                all_goals exact ⟨by first | rfl | (simp [errW_none, errW_some] <;> rfl) | (simp [*, errW_none, errW_some] <;> rfl), by repeat (first | (with_reducible first | exact HB.out | apply below_alloc | apply pw_below_drewN | apply below_drew1) | exact HB.out)⟩
            · rw [if_neg c13] at H
              exact absurd H (by simp)
          · rw [if_neg c12] at H
            exact absurd H (by simp)

/-- THE ONE PURE STATEMENT of moultlaw5_CheckCuts: yours. -/
def moultlaw5_CheckCuts.Pure : Prop := ∀ (a0 : ByteArray) (a1 : Int), a0.size ≤ 140737488351232 → (Lit.int .i64 a1).wf = true → ∃ k, moultlaw5_CheckCuts.f k a0 a1 = some true
theorem moultlaw5_CheckCuts.walk (P : moultlaw5_CheckCuts.Pure) (a0 : ByteArray) (a1 : Int) (w : World) (w0 : a0.size ≤ 140737488351232) (w1 : (Lit.int .i64 a1).wf = true) :
    Calls Try.prog 6 #[.string a0, .int .i64 a1] w fun e w' => e = .returned (.bool true) ∧ Below w.heap.size w w' := by
  obtain ⟨k, h⟩ := P a0 a1 w0 w1
  refine (moultlaw5_CheckCuts.calls k a0 a1 true w h).mono ?_
  rintro e w' ⟨rfl, hd⟩
  exact ⟨rfl, hd⟩

-- NOT PRINTED: function 7 (moultlaw5_CheckTurns)

-- NOT PRINTED: function 8 (moultlaw5_CheckSums)

end Go.Proofs.Ytkdmjnmilmmnjaa.P
