-- Written by sprint.py (wip/tools) with the kit's print.py: a program's text, checked by Lean alone.
import Derived.Test.YtdpadhmdiljpaaaPx0
namespace Go.Proofs.Ytdpadhmdiljpaaa.P
open Go.RowKit Go.Proofs.Ytdpadhmdiljpaaa.Fp Go.Proofs.YtdpadhmdiljpaaaW.PrintWords Go.Proofs.YtdpadhmdiljpaaaW.PrintLast Go.Proofs.YtdpadhmdiljpaaaW.PrintMore
attribute [local go_sem] max2_int min2_int max_two min_two max_three min_three max_four min_four   -- for this text's walks alone
set_option linter.unusedVariables false
set_option linter.unusedSimpArgs false

/-! ### moultlaw9_same: function 12 -/
def moultlaw9_same.l0 : Nat → List Int → List Int → Int → Option (Bool)
  | 0, _, _, _ => none
  | k + 1, x0, x1, x5 => if x5 < (x0.length : Int) then (if 0 ≤ x5 then (if x5 < (x1.length : Int) then (if (rd x0 x5) = (rd x1 x5) then (moultlaw9_same.l0 k x0 x1 (wrap64 (x5 + 1))) else (some false)) else (none)) else (none)) else (some true)
def moultlaw9_same.f (k : Nat) (l0 : List Int) (l1 : List Int) : Option (Bool) := if (l0.length : Int) = (l1.length : Int) then (moultlaw9_same.l0 k l0 l1 0) else (some false)
theorem moultlaw9_same.mono_l : ∀ k, (∀ y0 y1 y2, LeO (moultlaw9_same.l0 k y0 y1 y2) (moultlaw9_same.l0 (k + 1) y0 y1 y2))
  | 0 => fun _ _ _ r h => by simp [moultlaw9_same.l0] at h
  | k + 1 => by
    have ih0 := moultlaw9_same.mono_l k
    · intro y0 y1 y2
      unfold moultlaw9_same.l0
      repeat' first
      | (with_reducible exact ih0 _ _ _)
      | (with_reducible exact LeO.refl _)
      | (with_reducible exact LeO.none _)
      | (with_reducible refine LeO.ite ?_ ?_)
      | (with_reducible refine LeO.bind ?_ (fun _ => ?_))
      | exact ih0 _ _ _
      | exact LeO.none _
      | refine LeO.ite ?_ ?_
      | refine LeO.bind ?_ (fun _ => ?_)
theorem moultlaw9_same.mono : ∀ a0 a1 k, LeO (moultlaw9_same.f k a0 a1) (moultlaw9_same.f (k + 1) a0 a1) := by
  intro a0 a1 k
  have ih0 := moultlaw9_same.mono_l k
  unfold moultlaw9_same.f
  repeat' first
      | (with_reducible exact ih0 _ _ _)
      | (with_reducible exact LeO.refl _)
      | (with_reducible exact LeO.none _)
      | (with_reducible refine LeO.ite ?_ ?_)
      | (with_reducible refine LeO.bind ?_ (fun _ => ?_))
      | exact ih0 _ _ _
      | exact LeO.none _
      | refine LeO.ite ?_ ?_
      | refine LeO.bind ?_ (fun _ => ?_)
set_option maxHeartbeats 8000000 in
set_option maxRecDepth 100000 in
theorem moultlaw9_same.calls (k : Nat) (A0 : Option Addr) (c0 : Nat) (l0 : List Int) (A1 : Option Addr) (c1 : Nat) (l1 : List Int) (r : Bool) (w : World) (hr0 : Kd.C (Kd.int .i64) w A0 l0.length l0) (hc0 : l0.length ≤ c0) (hr1 : Kd.C (Kd.int .i64) w A1 l1.length l1) (hc1 : l1.length ≤ c1) (h : moultlaw9_same.f k l0 l1 = some r) :
    Calls Try.prog 12 #[.slice A0 l0.length c0, .slice A1 l1.length c1] w fun e w' => e = .returned (.bool r) ∧ Drawn0 w w' := by
  have HR0 := Aside0.mk hr0
  have HC0 := Aside0.mk hc0
  clear hr0 hc0
  have HR1 := Aside0.mk hr1
  have HC1 := Aside0.mk hc1
  clear hr1 hc1
  have H : (if (l0.length : Int) = (l1.length : Int) then (moultlaw9_same.l0 k l0 l1 0) else (some false)) = some r := h
  clear h
  by_cases c3 : (l0.length : Int) = (l1.length : Int)
  · rw [if_pos c3] at H
    have c3b0 : ((l0.length : Int) == (l1.length : Int)) = true := beq_iff_eq.mpr c3
    have c3b1 : ((l0.length : Int) != (l1.length : Int)) = false := bne_eq_false_iff_eq.mpr c3
    have c3b2 : (l0.length == l1.length) = true := by first | simpa using c3 | (simp at c3 ⊢; omega)
    clear c3
    have H' := Aside0.mk H
    clear H
    go_enter Try.func12, Try.ntmps12
    go_wp2
    repeat (go_quiet (fail); try go_wp2)
    go_loopg [5] k (fun kq v5 w' => ∃ (x5_1 : Int), v5 = .int .i64 x5_1 ∧ Aside0 (moultlaw9_same.l0 kq l0 l1 x5_1 = some r) ∧ Aside0 (kq ≤ k) ∧ Drawn0 w w')
    case atStart => exact ⟨(0), (by first | rfl | (simp; done) | (simp [*]; done)), H', ⟨Nat.le_refl _⟩, by repeat (first | exact Drawn0.refl _ | apply Drawn0.step)⟩
    case round =>
      clear H'
      try clear c1
      try clear p2
      try clear c3
      try clear c3b0
      try clear c3b1
      try clear c3b2
      obtain ⟨x5_1, rfl, HA, HK1, ⟨m1, rfl⟩⟩ := hrel
      cases gk with
      | zero => exact absurd HA.out (by simp [moultlaw9_same.l0])
      | succ k1 =>
        have H := HA.out
        clear HA
        simp only [moultlaw9_same.l0] at H
        by_cases c4 : x5_1 < (l0.length : Int)
        · rw [if_pos c4] at H
          have c4b0 : decide (x5_1 < (l0.length : Int)) = true := decide_eq_true c4
          clear c4
          by_cases c5 : 0 ≤ x5_1
          · rw [if_pos c5] at H
            have c5b0 : decide (0 ≤ x5_1) = true := decide_eq_true c5
            clear c5
            by_cases c6 : x5_1 < (l1.length : Int)
            · rw [if_pos c6] at H
              have c6b0 : decide (x5_1 < (l1.length : Int)) = true := decide_eq_true c6
              clear c6
              by_cases c7 : (rd l0 x5_1) = (rd l1 x5_1)
              · rw [if_pos c7] at H
                have c7b0 : ((rd l0 x5_1) == (rd l1 x5_1)) = true := beq_iff_eq.mpr c7
                have c7b1 : ((rd l0 x5_1) != (rd l1 x5_1)) = false := bne_eq_false_iff_eq.mpr c7
                clear c7
                have H' := Aside0.mk H
                clear H
                have p101 : 0 ≤ (x5_1 : Int) := of_decide_eq_true (by first | (with_reducible assumption) | assumption)
                have q101 : x5_1 < (l0.length : Int) := of_decide_eq_true (by first | (with_reducible assumption) | assumption)
                obtain ⟨ad101, e101, hx101_0⟩ := Kd.at_int HR0.out x5_1 p101 q101
                cases e101
                replace p101 := eq_true p101
                replace q101 := eq_true q101
                have p102 : 0 ≤ (x5_1 : Int) := of_decide_eq_true (by first | (with_reducible assumption) | assumption)
                have q102 : x5_1 < (l1.length : Int) := of_decide_eq_true (by first | (with_reducible assumption) | assumption)
                obtain ⟨ad102, e102, hx102_0⟩ := Kd.at_int HR1.out x5_1 p102 q102
                cases e102
                replace p102 := eq_true p102
                replace q102 := eq_true q102
                go_wp2
                repeat (go_quiet (fail); try go_wp2)
                go_roundg k1
                case measure => have := HK1.out; omega
                case rel => exact ⟨(wrap64 (x5_1 + 1)), (by first | rfl | (simp; done) | (simp [*]; done)), H', ⟨by have := HK1.out; omega⟩, by repeat (first | exact Drawn0.refl _ | apply Drawn0.step)⟩
              · rw [if_neg c7] at H
                have c7b0 : ((rd l0 x5_1) == (rd l1 x5_1)) = false := beq_eq_false_iff_ne.mpr c7
                have c7b1 : ((rd l0 x5_1) != (rd l1 x5_1)) = true := bne_iff_ne.mpr c7
                obtain rfl := Option.some.inj H
                have p101 : 0 ≤ (x5_1 : Int) := of_decide_eq_true (by first | (with_reducible assumption) | assumption)
                have q101 : x5_1 < (l0.length : Int) := of_decide_eq_true (by first | (with_reducible assumption) | assumption)
                obtain ⟨ad101, e101, hx101_0⟩ := Kd.at_int HR0.out x5_1 p101 q101
                cases e101
                replace p101 := eq_true p101
                replace q101 := eq_true q101
                have p102 : 0 ≤ (x5_1 : Int) := of_decide_eq_true (by first | (with_reducible assumption) | assumption)
                have q102 : x5_1 < (l1.length : Int) := of_decide_eq_true (by first | (with_reducible assumption) | assumption)
                obtain ⟨ad102, e102, hx102_0⟩ := Kd.at_int HR1.out x5_1 p102 q102
                cases e102
                replace p102 := eq_true p102
                replace q102 := eq_true q102
                go_wp2
                repeat (go_quiet (fail); try go_wp2)
                go_ret
                exact ⟨by first | rfl | (simp; done) | (simp [*]; done), by repeat (first | exact Drawn0.refl _ | apply Drawn0.step)⟩
            · rw [if_neg c6] at H
              exact absurd H (by simp)
          · rw [if_neg c5] at H
            exact absurd H (by simp)
        · rw [if_neg c4] at H
          have c4b0 : decide (x5_1 < (l0.length : Int)) = false := decide_eq_false c4
          clear c4
          obtain rfl := Option.some.inj H
          go_wp2
          repeat (go_quiet (fail); try go_wp2)
          go_ret
          exact ⟨by first | rfl | (simp; done) | (simp [*]; done), by repeat (first | exact Drawn0.refl _ | apply Drawn0.step)⟩
  · rw [if_neg c3] at H
    have c3b0 : ((l0.length : Int) == (l1.length : Int)) = false := beq_eq_false_iff_ne.mpr c3
    have c3b1 : ((l0.length : Int) != (l1.length : Int)) = true := bne_iff_ne.mpr c3
    have c3b2 : (l0.length == l1.length) = false := by first | simpa using c3 | (simp at c3 ⊢; omega)
    obtain rfl := Option.some.inj H
    go_enter Try.func12, Try.ntmps12
    go_wp2
    repeat (go_quiet (fail); try go_wp2)
    go_ret
    exact ⟨by first | rfl | (simp; done) | (simp [*]; done), by repeat (first | exact Drawn0.refl _ | apply Drawn0.step)⟩

/-! ### filter_Hash: function 10 -/
def filter_Hash.l0 : Nat → ByteArray → Int → Int → Int → Option (Int)
  | 0, _, _, _, _ => none
  | k + 1, x0, x3, x6, x7 => if x7 < x6 then (if 0 ≤ x7 then (if x7 < (x0.size : Int) then (filter_Hash.l0 k x0 (IntKind.u64.wrap ((Go.bits .xor .u64 x3 (IntKind.u64.wrap (bt x0 x7))) * 1099511628211)) x6 (wrap64 (x7 + 1))) else (none)) else (none)) else (some (Go.bits .xor .u64 x3 (x3 / 8589934592)))
def filter_Hash.f (k : Nat) (a0 : ByteArray) : Option (Int) := filter_Hash.l0 k a0 14695981039346656037 (a0.size : Int) 0
theorem filter_Hash.mono_l : ∀ k, (∀ y0 y1 y2 y3, LeO (filter_Hash.l0 k y0 y1 y2 y3) (filter_Hash.l0 (k + 1) y0 y1 y2 y3))
  | 0 => fun _ _ _ _ r h => by simp [filter_Hash.l0] at h
  | k + 1 => by
    have ih0 := filter_Hash.mono_l k
    · intro y0 y1 y2 y3
      unfold filter_Hash.l0
      repeat' first
      | (with_reducible exact ih0 _ _ _ _)
      | (with_reducible exact LeO.refl _)
      | (with_reducible exact LeO.none _)
      | (with_reducible refine LeO.ite ?_ ?_)
      | (with_reducible refine LeO.bind ?_ (fun _ => ?_))
      | exact ih0 _ _ _ _
      | exact LeO.none _
      | refine LeO.ite ?_ ?_
      | refine LeO.bind ?_ (fun _ => ?_)
theorem filter_Hash.mono : ∀ a0 k, LeO (filter_Hash.f k a0) (filter_Hash.f (k + 1) a0) := by
  intro a0 k
  have ih0 := filter_Hash.mono_l k
  unfold filter_Hash.f
  repeat' first
      | (with_reducible exact ih0 _ _ _ _)
      | (with_reducible exact LeO.refl _)
      | (with_reducible exact LeO.none _)
      | (with_reducible refine LeO.ite ?_ ?_)
      | (with_reducible refine LeO.bind ?_ (fun _ => ?_))
      | exact ih0 _ _ _ _
      | exact LeO.none _
      | refine LeO.ite ?_ ?_
      | refine LeO.bind ?_ (fun _ => ?_)
set_option maxHeartbeats 8000000 in
set_option maxRecDepth 100000 in
theorem filter_Hash.calls (k : Nat) (a0 : ByteArray) (r : Int) (w : World) (h : filter_Hash.f k a0 = some r) :
    Calls Try.prog 10 #[.string a0] w fun e w' => e = .returned (.int .u64 r) ∧ Drawn0 w w' := by
  have H : (filter_Hash.l0 k a0 14695981039346656037 (a0.size : Int) 0) = some r := h
  clear h
  have H' := Aside0.mk H
  clear H
  go_enter Try.func10, Try.ntmps10
  go_wp2
  go_loopg [3, 7] k (fun kq v3 v7 w' => ∃ (x3_1 : Int) (x7_1 : Int), v3 = .int .u64 x3_1 ∧ v7 = .int .i64 x7_1 ∧ Aside0 (filter_Hash.l0 kq a0 x3_1 (a0.size : Int) x7_1 = some r) ∧ Aside0 (kq ≤ k) ∧ Drawn0 w w')
  case atStart => exact ⟨(14695981039346656037), (0), (by first | rfl | (simp; done) | (simp [*]; done)), (by first | rfl | (simp; done) | (simp [*]; done)), H', ⟨Nat.le_refl _⟩, by repeat (first | exact Drawn0.refl _ | apply Drawn0.step)⟩
  case round =>
    clear H'
    try clear c1
    obtain ⟨x3_1, x7_1, rfl, rfl, HA, HK1, ⟨m1, rfl⟩⟩ := hrel
    cases gk with
    | zero => exact absurd HA.out (by simp [filter_Hash.l0])
    | succ k1 =>
      have H := HA.out
      clear HA
      simp only [filter_Hash.l0] at H
      by_cases c2 : x7_1 < (a0.size : Int)
      · rw [if_pos c2] at H
        have c2b0 : decide (x7_1 < (a0.size : Int)) = true := decide_eq_true c2
        clear c2
        by_cases c3 : 0 ≤ x7_1
        · rw [if_pos c3] at H
          have c3b0 : decide (0 ≤ x7_1) = true := decide_eq_true c3
          clear c3
          by_cases c4 : x7_1 < (a0.size : Int)
          · rw [if_pos c4] at H
            have c4b0 : decide (x7_1 < (a0.size : Int)) = true := decide_eq_true c4
            clear c4
            have H' := Aside0.mk H
            clear H
            have p5 : 0 ≤ (x7_1 : Int) := of_decide_eq_true (by first | (with_reducible assumption) | assumption)
            have q5 : x7_1 < (a0.size : Int) := of_decide_eq_true (by first | (with_reducible assumption) | assumption)
            have hx5 := bt_at a0 x7_1
            replace p5 := eq_true p5
            replace q5 := eq_true q5
            go_wp2
            go_roundg k1
            case measure => have := HK1.out; omega
            case rel => exact ⟨(IntKind.u64.wrap ((Go.bits .xor .u64 x3_1 (IntKind.u64.wrap (bt a0 x7_1))) * 1099511628211)), (wrap64 (x7_1 + 1)), (by first | rfl | (simp; done) | (simp [*]; done)), (by first | rfl | (simp; done) | (simp [*]; done)), H', ⟨by have := HK1.out; omega⟩, by repeat (first | exact Drawn0.refl _ | apply Drawn0.step)⟩
          · rw [if_neg c4] at H
            exact absurd H (by simp)
        · rw [if_neg c3] at H
          exact absurd H (by simp)
      · rw [if_neg c2] at H
        have c2b0 : decide (x7_1 < (a0.size : Int)) = false := decide_eq_false c2
        clear c2
        obtain rfl := Option.some.inj H
        go_wp2
        go_ret
        exact ⟨by first | rfl | (simp; done) | (simp [*]; done), by repeat (first | exact Drawn0.refl _ | apply Drawn0.step)⟩

/-! ### filter_Places: function 13 -/
def filter_Places.l0 : Nat → Int → Int → Int → List Int → Int → Option (List Int)
  | 0, _, _, _, _, _ => none
  | k + 1, x1, x6, x7, x8, x18 => if x18 < 4 then (if (IntKind.u64.wrap (x1)) = 0 then (none) else (if x8.length < 17592186044416 then (filter_Places.l0 k x1 (IntKind.u64.wrap (x6 + x7)) x7 (x8 ++ [wrap64 (Int.tmod x6 (IntKind.u64.wrap (x1)))]) (wrap64 (x18 + 1))) else (none))) else (some x8)
def filter_Places.f (k : Nat) (a0 : ByteArray) (a1 : Int) : Option (List Int) := if a1 < 1 then (some ([] : List Int)) else ((filter_Hash.f k a0).bind fun t103 => (filter_Places.l0 k a1 (Go.bits .and .u64 t103 4294967295) (Go.bits .or .u64 (t103 / 4294967296) 1) ([] : List Int) 0))
theorem filter_Places.mono_l : ∀ k, (∀ y0 y1 y2 y3 y4, LeO (filter_Places.l0 k y0 y1 y2 y3 y4) (filter_Places.l0 (k + 1) y0 y1 y2 y3 y4))
  | 0 => fun _ _ _ _ _ r h => by simp [filter_Places.l0] at h
  | k + 1 => by
    have ih0 := filter_Places.mono_l k
    · intro y0 y1 y2 y3 y4
      unfold filter_Places.l0
      repeat' first
      | (with_reducible exact ih0 _ _ _ _ _)
      | (with_reducible exact filter_Hash.mono _ _)
      | (with_reducible exact LeO.refl _)
      | (with_reducible exact LeO.none _)
      | (with_reducible refine LeO.ite ?_ ?_)
      | (with_reducible refine LeO.bind ?_ (fun _ => ?_))
      | exact ih0 _ _ _ _ _
      | exact filter_Hash.mono _ _
      | exact LeO.none _
      | refine LeO.ite ?_ ?_
      | refine LeO.bind ?_ (fun _ => ?_)
theorem filter_Places.mono : ∀ a0 a1 k, LeO (filter_Places.f k a0 a1) (filter_Places.f (k + 1) a0 a1) := by
  intro a0 a1 k
  have ih0 := filter_Places.mono_l k
  unfold filter_Places.f
  repeat' first
      | (with_reducible exact ih0 _ _ _ _ _)
      | (with_reducible exact filter_Hash.mono _ _)
      | (with_reducible exact LeO.refl _)
      | (with_reducible exact LeO.none _)
      | (with_reducible refine LeO.ite ?_ ?_)
      | (with_reducible refine LeO.bind ?_ (fun _ => ?_))
      | exact ih0 _ _ _ _ _
      | exact filter_Hash.mono _ _
      | exact LeO.none _
      | refine LeO.ite ?_ ?_
      | refine LeO.bind ?_ (fun _ => ?_)
set_option maxHeartbeats 8000000 in
set_option maxRecDepth 100000 in
theorem filter_Places.calls (k : Nat) (a0 : ByteArray) (a1 : Int) (r : List Int) (w : World) (h : filter_Places.f k a0 a1 = some r) :
    Calls Try.prog 13 #[.string a0, .int .i64 a1] w fun e w' => ∃ v0_ : Value, e = .returned (v0_) ∧ Kd.R (Kd.int .i64) 3 w' w.heap.size (fun _ => True) v0_ r ∧ Below w.heap.size w w' := by
  have HB := Aside0.mk (Below.refl w.heap.size w)
  have H : (if a1 < 1 then (some ([] : List Int)) else ((filter_Hash.f k a0).bind fun t103 => (filter_Places.l0 k a1 (Go.bits .and .u64 t103 4294967295) (Go.bits .or .u64 (t103 / 4294967296) 1) ([] : List Int) 0))) = some r := h
  clear h
  by_cases c3 : a1 < 1
  · rw [if_pos c3] at H
    have c3b0 : decide (a1 < 1) = true := decide_eq_true c3
    clear c3
    obtain rfl := Option.some.inj H
    go_enter Try.func13, Try.ntmps13
    go_wp2
    go_ret
    exact ⟨_, by first | rfl | (simp [errW_none, errW_some] <;> rfl) | (simp [*, errW_none, errW_some] <;> rfl), by first | exact Kd.R_nil _ _ _ _ _ | exact Kd.N_nil _ _ _ _ _ | exact Kd.V_nil _ _ _ _ _ | exact Kd.Q_nil _ _ _ _ _ | exact Kd.S_nil _ _ _ _ _, by repeat (first | (with_reducible first | exact HB.out | apply below_alloc | apply pw_below_drewN | apply below_drew1) | exact HB.out)⟩
  · rw [if_neg c3] at H
    have c3b0 : decide (a1 < 1) = false := decide_eq_false c3
    clear c3
    replace H := Option.bind_eq_some_iff.mp H
    obtain ⟨t103, A40, H⟩ := H
    replace H : (filter_Places.l0 k a1 (Go.bits .and .u64 t103 4294967295) (Go.bits .or .u64 (t103 / 4294967296) 1) ([] : List Int) 0) = some r := H
    have A4 := Aside0.mk A40
    clear A40
    have H' := Aside0.mk H
    clear H
    go_enter Try.func13, Try.ntmps13
    go_wp2_with (first | ((with_reducible refine gate_callee (f := 10) rfl ?_); refine goesL_ (some 12) rfl rfl Try.func10 (by kernel_rfl) rfl #[.string a0] rfl (by (try simp only [List.map_toArray, List.map_cons, List.map_nil]); first | done | rfl | (simp only [List.length_drop, List.length_take]; rfl)) ?_; (with_reducible refine (filter_Hash.calls k a0 t103 _ A4.out).mono ?_); rintro e w' ⟨rfl, ⟨nd, rfl⟩⟩; refine ⟨_, rfl, ?_⟩))
    go_loopg [6, 8, 18] k (fun kq v6 v8 v18 w' => ∃ (x6_1 : Int) (x8_1 : List Int) (x18_1 : Int), v6 = .int .u64 x6_1 ∧ v18 = .int .i64 x18_1 ∧ Aside0 (filter_Places.l0 kq a1 x6_1 (Go.bits .or .u64 (t103 / 4294967296) 1) x8_1 x18_1 = some r) ∧ Aside0 (kq ≤ k) ∧ Aside0 (Kd.R (Kd.int .i64) 3 w' w.heap.size (fun _ => True) v8 x8_1) ∧ Aside0 (Below w.heap.size w w'))
    case atStart => exact ⟨(Go.bits .and .u64 t103 4294967295), (([] : List Int)), (0), (by first | rfl | (simp; done) | (simp [*]; done)), (by first | rfl | (simp; done) | (simp [*]; done)), H', ⟨Nat.le_refl _⟩, ⟨by first | exact Kd.R_nil _ _ _ _ _ | exact Kd.N_nil _ _ _ _ _ | exact Kd.V_nil _ _ _ _ _ | exact Kd.Q_nil _ _ _ _ _ | exact Kd.S_nil _ _ _ _ _⟩, ⟨by repeat (first | (with_reducible first | exact HB.out | apply below_alloc | apply pw_below_drewN | apply below_drew1) | exact HB.out)⟩⟩
    case round =>
      clear H'
      try clear c1
      try clear p2
      try clear c3
      try clear c3b0
      obtain ⟨x6_1, x8_1, x18_1, rfl, rfl, HA, HK1, HO_8, HB⟩ := hrel
      cases gk with
      | zero => exact absurd HA.out (by simp [filter_Places.l0])
      | succ k1 =>
        have H := HA.out
        clear HA
        simp only [filter_Places.l0] at H
        by_cases c5 : x18_1 < 4
        · rw [if_pos c5] at H
          have c5b0 : decide (x18_1 < 4) = true := decide_eq_true c5
          clear c5
          by_cases c6 : (IntKind.u64.wrap (a1)) = 0
          · rw [if_pos c6] at H
            exact absurd H (by simp)
          · rw [if_neg c6] at H
            have c6b0 : ((IntKind.u64.wrap (a1)) == 0) = false := beq_eq_false_iff_ne.mpr c6
            have c6b1 : ((IntKind.u64.wrap (a1)) != 0) = true := bne_iff_ne.mpr c6
            by_cases c7 : x8_1.length < 17592186044416
            · rw [if_pos c7] at H
              have LMc7 := Aside0.mk c7
              clear c7
              obtain ⟨y104, hy104⟩ : ∃ y_ : List Int, y_ = (x8_1 ++ [wrap64 (Int.tmod x6_1 (IntKind.u64.wrap (a1)))]) := ⟨_, rfl⟩
              replace H : (filter_Places.l0 k1 a1 (IntKind.u64.wrap (x6_1 + (Go.bits .or .u64 (t103 / 4294967296) 1))) (Go.bits .or .u64 (t103 / 4294967296) 1) y104 (wrap64 (x18_1 + 1))) = some r := by first | (rw [hy104]; with_reducible exact H) | (have H2_ := (Option.bind_some _ _).symm.trans H; rw [hy104]; with_reducible exact H2_) | (have H2_ := (Option.bind_some _ _).symm.trans H; with_reducible exact H2_) | with_reducible exact H | (rw [hy104]; exact H) | exact H
              have Ny104 := Aside0.mk hy104
              clear hy104
              have H' := Aside0.mk H
              clear H
              go_wp2_with (first | ((with_reducible refine gate_builtin (b := .append) (xs := #[.tmp 20, .tmp 26]) rfl ?_); at_builtin; refine Kd.R_append (Kd.int .i64) (w0 := w) w.heap.size rfl (.tmp 20) (.tmp 26) 26 3 (.int .i64 0) 8 rfl Try.underlying26 info3 rfl (by decide) (by omega) u8 x8_1 (wrap64 (Int.tmod x6_1 (IntKind.u64.wrap (a1)))) [.int .i64 (wrap64 (Int.tmod x6_1 (IntKind.u64.wrap (a1))))] (fun _ => True) (fun _ => False) rfl rfl ?aP (fun _ hk => hk.elim) ?aF ?aO ?aB ?aS ?aL ?_; (case aP => exact rfl); (case aB => exact (by repeat (first | (with_reducible first | exact HB.out | apply below_alloc | apply pw_below_drewN | apply below_drew1) | exact HB.out))); (case aF => exact (fun _ _ => trivial)); (case aO => exact (by (with_reducible repeat (first | apply Kd.R_alloc | apply Kd.R_drewN | apply Kd.R_drew)); exact HO_8.out)); (case aS => exact (below_size (by repeat (first | (with_reducible first | exact HB.out | apply below_alloc | apply pw_below_drewN | apply below_drew1) | exact HB.out)))); (case aL => have := LMc7.out; omega); intro v105 w8 ho hb hg hat; rw [← Ny104.out] at ho; have n0_ := Aside0.mk (hb); have n1_ := Aside0.mk (ho); clear HB; clear HO_8; have HB := n0_; have HO106 := n1_; clear n0_ n1_; clear ho hb hg hat))
              go_roundg k1
              case measure => have := HK1.out; omega
              case rel => exact ⟨(IntKind.u64.wrap (x6_1 + (Go.bits .or .u64 (t103 / 4294967296) 1))), (y104), (wrap64 (x18_1 + 1)), (by first | rfl | (simp; done) | (simp [*]; done)), (by first | rfl | (simp; done) | (simp [*]; done)), H', ⟨by have := HK1.out; omega⟩, ⟨by (with_reducible repeat (first | apply Kd.R_alloc | apply Kd.R_drewN | apply Kd.R_drew)); exact HO106.out⟩, ⟨by repeat (first | (with_reducible first | exact HB.out | apply below_alloc | apply pw_below_drewN | apply below_drew1) | exact HB.out)⟩⟩
            · rw [if_neg c7] at H
              exact absurd H (by simp)
        · rw [if_neg c5] at H
          have c5b0 : decide (x18_1 < 4) = false := decide_eq_false c5
          clear c5
          obtain rfl := Option.some.inj H
          go_wp2
          go_ret
          exact ⟨_, by first | rfl | (simp [errW_none, errW_some] <;> rfl) | (simp [*, errW_none, errW_some] <;> rfl), by (with_reducible repeat (first | apply Kd.R_alloc | apply Kd.R_drewN | apply Kd.R_drew)); exact HO_8.out, by repeat (first | (with_reducible first | exact HB.out | apply below_alloc | apply pw_below_drewN | apply below_drew1) | exact HB.out)⟩

-- NOT PRINTED: function 22 (filter_set_each)

-- NOT PRINTED: function 23 (filter_set_put)

/-! ### filter_Build: function 16 -/
/-! contracts of this session for filter.Build and filter.May: a method value handed on -/
theorem wrap_nat {m : Nat} (h : m ≤ 9223372036854775807) : wrap64 (m : Int) = m := by unfold wrap64; omega
theorem wrap_succ {m : Nat} (h : m < 9223372036854775807) : wrap64 ((m : Int) + 1) = ((m + 1 : Nat) : Int) := by unfold wrap64; omega
theorem hash_l0 (s : ByteArray) (hs : s.size < 9223372036854775807) : ∀ (d n k : Nat), n + d = s.size → d < k → filter_Hash.l0 k s (hashN s n) (s.size : Int) (n : Int) = some (hashP s) := by
  intro d
  induction d with
  | zero =>
    intro n k hn hk
    obtain ⟨k, rfl⟩ : ∃ m, k = m + 1 := ⟨k - 1, by omega⟩
    obtain rfl : n = s.size := by omega
    simp only [filter_Hash.l0]
    rw [if_neg (by omega)]; rfl
  | succ d ih =>
    intro n k hn hk
    obtain ⟨k, rfl⟩ : ∃ m, k = m + 1 := ⟨k - 1, by omega⟩
    simp only [filter_Hash.l0]
    rw [if_pos (by omega), if_pos (by omega), if_pos (by omega), wrap_succ (by omega)]
    exact ih (n + 1) k (by omega) (by omega)
theorem hash_f (s : ByteArray) (hs : s.size < 9223372036854775807) (k : Nat) (hk : s.size < k) : filter_Hash.f k s = some (hashP s) := hash_l0 s hs s.size 0 k (by omega) hk
theorem places_step (h n i : Int) (h0 : 0 ≤ h) (h1 : h < 18446744073709551616) (hn : 1 ≤ n) (hn2 : n ≤ 9223372036854775807) :
    wrap64 (Int.tmod ((lowP h + i * stepP h) % 18446744073709551616) (IntKind.u64.wrap n)) = plac h n i := by
  have e : IntKind.u64.wrap n = n := by rw [IntKind.wrap_u64]; omega
  have hx : 0 ≤ (lowP h + i * stepP h) % 18446744073709551616 := by omega
  have hp := plac_range h n i hn
  rw [e, Int.tmod_eq_emod_of_nonneg hx]
  show wrap64 (plac h n i) = plac h n i
  unfold wrap64; omega
theorem places_f (s : ByteArray) (hs : s.size < 9223372036854775807) (n : Int) (hn2 : n ≤ 9223372036854775807) (k : Nat) (hk : s.size + 5 < k) : filter_Places.f k s n = some (placesP s n) := by
  unfold filter_Places.f placesP
  by_cases hn : n < 1
  · rw [if_pos hn, if_pos hn]
  · rw [if_neg hn, if_neg hn, hash_f s hs k (by omega)]
    simp only [Option.bind_some]
    obtain ⟨h0, h1⟩ := hashP_range s
    obtain ⟨h, hh⟩ : ∃ h, hashP s = h := ⟨_, rfl⟩
    rw [hh] at h0 h1 ⊢
    rw [low_and h h0 h1]
    have hz : ¬ IntKind.u64.wrap n = 0 := by rw [IntKind.wrap_u64]; omega
    have e0 : h % 4294967296 = (lowP h + 0 * stepP h) % 18446744073709551616 := by unfold lowP; omega
    have es : ∀ i j : Int, j = i + 1 → IntKind.u64.wrap ((lowP h + i * stepP h) % 18446744073709551616 + stepP h) = (lowP h + j * stepP h) % 18446744073709551616 := by
      intro i j hj
      rw [IntKind.wrap_u64, hj, Int.add_mul, Int.one_mul]
      omega
    show filter_Places.l0 k n (h % 4294967296) (stepP h) [] 0 = _
    rw [e0]
    obtain ⟨k, rfl⟩ : ∃ m, k = m + 5 := ⟨k - 5, by omega⟩
    have w0 : wrap64 (0 + 1) = 1 := by unfold wrap64; omega
    have w1 : wrap64 (1 + 1) = 2 := by unfold wrap64; omega
    have w2 : wrap64 (2 + 1) = 3 := by unfold wrap64; omega
    have w3 : wrap64 (3 + 1) = 4 := by unfold wrap64; omega
    simp only [filter_Places.l0]
    rw [if_pos (by decide), if_neg hz, if_pos (by simp), w0, es 0 1 rfl, places_step h n 0 h0 h1 (by omega) hn2]
    rw [if_pos (by decide), if_neg hz, if_pos (by simp), w1, es 1 2 rfl, places_step h n 1 h0 h1 (by omega) hn2]
    rw [if_pos (by decide), if_neg hz, if_pos (by simp), w2, es 2 3 rfl, places_step h n 2 h0 h1 (by omega) hn2]
    rw [if_pos (by decide), if_neg hz, if_pos (by simp), w3, es 3 4 rfl, places_step h n 3 h0 h1 (by omega) hn2]
    rw [if_neg (by decide)]
    rfl

theorem len_small {e : Nat} {W : World} {base : Nat} {ok : Nat → Prop} {v : Value} {l : List Int} (h : Kd.R (Kd.int .i64) e W base ok v l) : l.length ≤ 9223372036854775807 := by
  obtain ⟨A, c, rfl⟩ := Kd.R_slice h
  exact (Kd.R_reads' h).2.2.2.1

/-- The set that is being filled: its block, its row. -/
structure Filling (w0 W : World) (g b n : Nat) (xs : List Int) : Prop where
  blk : W.heap[g]? = some (.cells #[.slice (some ⟨b, 0, none⟩) n n] 43 (0, 0))
  row : Kd.R (Kd.int .u8) 5 W w0.heap.size (fun _ => True) (.slice (some ⟨b, 0, none⟩) n n) xs
  below : Below w0.heap.size w0 W
  ge : w0.heap.size ≤ g
theorem Filling.cell {w0 W : World} {g b n : Nat} {xs : List Int} (h : Filling w0 W g b n xs) : W.cell? ⟨g, 0, none⟩ = some (.slice (some ⟨b, 0, none⟩) n n) := (blk_cell h.blk 0).trans rfl
theorem Filling.ne {w0 W : World} {g b n : Nat} {xs : List Int} (h : Filling w0 W g b n xs) (hn : 0 < n) : g ≠ b := by
  rintro rfl
  obtain ⟨inner, ho⟩ := Kd.R_own h.row
  rcases ho.2 with ⟨h1, _⟩ | ⟨g', cap, cur, he, hb, hh, _⟩
  · cases h1
  · injection he with he
    injection he with he
    injection he with he
    subst he
    rw [h.blk] at hh
    injection hh with hh
    injection hh with _ ht
    exact absurd ht (by decide)
theorem Filling.step {w0 W W1 : World} {g b n : Nat} {xs : List Int} (h : Filling w0 W g b n xs) (hb : Below W.heap.size W W1) : Filling w0 W1 g b n xs :=
  ⟨by rw [hb.block g (blk_lt h.blk)]; exact h.blk, Kd.R_below h.row hb, below_then h.below h.below.size hb, h.ge⟩
theorem Filling.put {w0 W : World} {g b n : Nat} {xs : List Int} (h : Filling w0 W g b n xs) (p : Int) (h0 : 0 ≤ p) (hn : 0 < n) :
    Filling w0 (W.setCell ⟨b, (p / 8).toNat, none⟩ (.int .u8 (Go.bits .or .u8 (rd xs (p / 8)) (2 ^ (p % 8).toNat % 256)))) g b n (setBit xs p) := by
  have hne := h.ne hn
  obtain ⟨hr, hg⟩ := Kd.R_putg h.row (p / 8) (Go.bits .or .u8 (rd xs (p / 8)) (2 ^ (p % 8).toNat % 256))
  have hbge : w0.heap.size ≤ b := by
    obtain ⟨inner, ho⟩ := Kd.R_own h.row
    exact own_base ho b rfl
  refine ⟨?_, hr, h.below.setCell hbge _, h.ge⟩
  rw [hg.block g (blk_lt h.blk) (by simpa using hne)]
  exact h.blk

set_option maxHeartbeats 800000 in
theorem put_calls (g b n : Nat) (xs : List Int) (p : Int) (w0 W : World) (h : Filling w0 W g b n xs) (h0 : 0 ≤ p) (h1 : p / 8 < n) :
    Calls Try.prog 23 #[.pointer (some ⟨g, 0, none⟩), .int .i64 p] W fun e W' => e = .returned (.bool true) ∧ Filling w0 W' g b n (setBit xs p) ∧ ∀ a : Addr, a.block ≠ b → W'.cell? a = W.cell? a := by
  have hc := h.cell
  have h2 : 0 ≤ p / 8 := by omega
  have hn : 0 < n := by omega
  have hfin := h.put p h0 hn
  obtain ⟨hx, hf⟩ := Kd.R_celln 0 h.row (p / 8) h2 h1
  clear h
  have hx' : W.cell? ⟨b, (p / 8).toNat, none⟩ = some (.int .u8 (rd xs (p / 8))) := hx
  clear hx
  have e7 := and7 p
  obtain ⟨q, hq⟩ : ∃ q, p % 8 = q := ⟨_, rfl⟩
  have hb0 : 0 ≤ q := by omega
  have hb1 : q < 8 := by omega
  rw [hq] at e7 hfin
  have Hfin := Lib.hid hfin
  clear hfin hq
  go_enter Try.func23, Try.ntmps23
  go_wp2
  go_region
  all_goals go_wp2
  all_goals go_ret
  all_goals exact ⟨rfl, Hfin.out.step ⟨rfl, rfl, rfl, Nat.le_refl _, fun _ _ => rfl⟩, fun a ha => World.cell?_setCell_other _ _ _ _ (fun e => ha (by rw [← e]))⟩

set_option maxHeartbeats 1600000 in
theorem each_put (k : Nat) (key : ByteArray) (l xs : List Int) (g b n : Nat) (w0 w : World) (h : filter_Places.f k key (wrap64 (8 * (n : Int))) = some l)
    (hF : Filling w0 w g b n xs) (hl : ∀ x ∈ l, 0 ≤ x ∧ x < 8 * (n : Int)) :
    Calls Try.prog 22 #[.pointer (some ⟨g, 0, none⟩), .string key, .func (.func 23) #[.pointer (some ⟨g, 0, none⟩)] #[]] w fun e w' => e = .returned (.bool true) ∧ Filling w0 w' g b n (l.foldl setBit xs) := by
  have hg := hF.cell
  have A3 := Aside0.mk h
  have HF := Aside0.mk hF
  have HLL := Aside0.mk hl
  clear h hl hF
  go_enter Try.func22, Try.ntmps22
  go_wp2_with (first | (go_at_call 13; (with_reducible refine (filter_Places.calls k key (wrap64 (8 * (n : Int))) l _ A3.out).mono ?_); rintro e w4 ⟨v156, rfl, ho0, hb⟩; have HB4 := Aside0.mk hb; have HO157 := Aside0.mk ho0; clear hb ho0; obtain ⟨Ao15, co15, eo15⟩ := Kd.R_slice HO157.out; subst eo15))
  have hF4 := HF.out.step HB4.out
  have HFill := Aside0.mk hF4
  clear hF4 hg
  have hrow : Kd.C (Kd.int .i64) w4 Ao15 l.length l := (Kd.R_reads' HO157.out).2.2
  have hkeep : ∀ j : Nat, j < l.length → ∀ ad, Ao15 = some ad → (ad.add j).block ≠ b := by
    intro j hj ad he hbb
    obtain ⟨inner, ho⟩ := Kd.R_own HO157.out
    obtain ⟨inner2, ho2⟩ := Kd.R_own HF.out.row
    have hlt := own_lt ho2 b rfl
    rcases ho.2 with ⟨h1, _⟩ | ⟨g', cap, cur, he2, hb2, _⟩
    · injection h1 with h1; rw [he] at h1; cases h1
    · injection he2 with he2
      rw [he] at he2
      injection he2 with he2
      subst he2
      rw [add_plain] at hbb
      simp only at hbb
      omega
  have HKeep := Aside0.mk hkeep
  have HRow := Aside0.mk hrow
  have hlen := len_small HO157.out
  clear hkeep hrow HO157 HB4
  go_loopg [18] (l.length) (fun kq v18 w' => ∃ (m : Nat), v18 = .int .i64 (m : Int) ∧ Aside0 (kq = l.length - m) ∧ Aside0 (m ≤ l.length) ∧ Aside0 (Filling w0 w' g b n ((l.take m).foldl setBit xs)) ∧ Aside0 (∀ a : Addr, a.block < w4.heap.size → a.block ≠ b → w'.cell? a = w4.cell? a))
  case atStart => exact ⟨0, rfl, ⟨rfl⟩, ⟨by omega⟩, HFill, ⟨fun _ _ _ => rfl⟩⟩
  case round =>
    obtain ⟨m, rfl, HKQ, HN, HA, HO⟩ := hrel
    by_cases c : m < l.length
    · have c1 : decide ((m : Int) < (l.length : Int)) = true := by simp; exact c
      have hx := HLL.out _ (List.getElem_mem c)
      have hn0 : 0 ≤ (m : Int) := by omega
      obtain ⟨ad158, e158, hx158_0⟩ := Kd.at_int HRow.out (m : Int) hn0 (by omega)
      have hne := HKeep.out m c ad158 e158
      cases e158
      simp only [Int.toNat_natCast] at hx158_0
      have hrd : rd l (m : Int) = l[m] := by simp [rd, List.getD_eq_getElem?_getD, c]
      rw [hrd] at hx158_0
      have hcell := (HO.out _ (World.block_lt_of_cell? _ _ hx158_0) hne).trans hx158_0
      clear hx158_0 hne
      obtain ⟨x, hxe⟩ : ∃ x : Int, l[m] = x := ⟨_, rfl⟩
      have hfold : (l.take (m + 1)).foldl setBit xs = setBit ((l.take m).foldl setBit xs) x := by
        rw [List.take_succ_eq_append_getElem c, List.foldl_append, hxe]; rfl
      rw [hxe] at hcell hx
      have Hfold := Lib.hid hfold
      clear hxe hrd hfold
      have hx0 := hx.1
      have hx1 : x / 8 < (n : Int) := by omega
      clear hx
      have hn1 : (m : Int) < 9223372036854775807 := by omega
      go_wp2_with (first | (go_at_call 23; (with_reducible refine (put_calls g b n _ x w0 _ HA.out hx0 hx1).mono ?_); rintro e w5 ⟨rfl, hf5, hk5⟩; have HF5 := Aside0.mk hf5; have HK5 := Aside0.mk hk5; clear hf5 hk5))
      go_roundg (l.length - (m + 1))
      case measure => have := HKQ.out; omega
      case rel => exact ⟨m + 1, by go_num, ⟨rfl⟩, ⟨by omega⟩, ⟨by rw [Hfold.out]; exact HF5.out⟩, ⟨fun a ha hb => (HK5.out a hb).trans (HO.out a ha hb)⟩⟩
    · have hn := HN.out
      have en : m = l.length := by omega
      have hfin : Filling w0 wr g b n (l.foldl setBit xs) := by
        have := HA.out
        rwa [en, List.take_length] at this
      have Hfin := Lib.hid hfin
      have c1 : decide ((m : Int) < (l.length : Int)) = false := by simp; omega
      clear hfin en
      go_wp2
      go_ret
      exact ⟨rfl, Hfin.out⟩

theorem row_made (w : World) (m : Nat) (hm : m ≤ 9223372036854775807) : Kd.R (Kd.int .u8) 5 (w.alloc (.cells (madeCells #[.int .u8 0] m) 5)) w.heap.size (fun _ => True) (.slice (some ⟨w.heap.size, 0, none⟩) m m) (List.replicate m 0) :=
  Kd.R_of_own (by rw [List.length_replicate]; exact own_made w _ _ .u8 m (Nat.le_refl _) hm) (fun _ _ => trivial)
theorem own_nums {e : Nat} {W : World} {base : Nat} {ok : Nat → Prop} {v : Value} {l : List Int} (h : Kd.R (Kd.int .u8) e W base ok v l) : W.ownsRow base e 1 v l.length (nums .u8 l) := Kd.own_of_R h
def filter_Build.f (l0 : List ByteArray) : Option ByteArray := if l0.length ≤ 1000000 ∧ ∀ s ∈ l0, s.size < 9223372036854775807 then some (buildP l0) else none
set_option maxHeartbeats 1600000 in
theorem filter_Build.calls (A0 : Option Addr) (c0 : Nat) (l0 : List ByteArray) (r : ByteArray) (w : World) (hr0 : Kd.C Kd.string w A0 l0.length l0) (hc0 : l0.length ≤ c0) (h : filter_Build.f l0 = some r) :
    Calls Try.prog 16 #[.slice A0 l0.length c0] w fun e w' => e = .returned (.string r) ∧ Below w.heap.size w w' := by
  unfold filter_Build.f at h
  split at h
  case isFalse => simp at h
  case isTrue hlim =>
  obtain ⟨hlen, hsz⟩ := hlim
  have HSZ := Aside0.mk hsz
  obtain rfl := Option.some.inj h
  clear h hsz
  by_cases hz : l0.length = 0
  · obtain rfl : l0 = [] := List.eq_nil_of_length_eq_zero hz
    clear hz
    go_enter Try.func16, Try.ntmps16
    go_wp2
    go_ret
    exact ⟨rfl, Below.refl _ _⟩
  · have hz1 : ((l0.length : Int) == 0) = false := by simp; intro e; exact hz (by rw [e]; rfl)
    have hz2 : (l0.length == 0) = false := by simp; intro e; exact hz (by rw [e]; rfl)
    have hne : l0 ≠ [] := by intro e; exact hz (by rw [e]; rfl)
    have hpos : 0 < l0.length := by omega
    obtain ⟨N, hN⟩ : ∃ N, sizeP l0.length = N := ⟨_, rfl⟩
    have hN8 : 8 ≤ N := by rw [← hN]; unfold sizeP; omega
    have hN9 : N ≤ 2000008 := by rw [← hN]; unfold sizeP; omega
    have hNs : (N : Int) = if (l0.length : Int) + ((l0.length : Int) + 1) / 2 ≤ 8 then 8 else (l0.length : Int) + ((l0.length : Int) + 1) / 2 := by
      rw [← hN]; unfold sizeP; split <;> omega
    have hmk := print_make (P := Try.prog) 37 5 .u8 1 Try.underlying37 (by kernel_rfl) (by decide) N (by omega)
    have HR0 := Aside0.mk hr0
    have HNE := Aside0.mk hne
    have HN := Lib.hid hN
    clear hr0 hz hN hne
    by_cases hb : (l0.length : Int) + ((l0.length : Int) + 1) / 2 ≤ 8
    all_goals
      first | rw [if_pos hb] at hNs | rw [if_neg hb] at hNs
      rw [hNs] at hmk
      clear hNs
      go_enter Try.func16, Try.ntmps16
      go_wp2
      have hf0 : Filling w ((w.alloc (.cells (madeCells #[.int .u8 0] N) 5)).alloc (.cells #[.slice (some ⟨w.heap.size, 0, none⟩) N N] 43)) (w.heap.size + 1) w.heap.size N (fillN l0 N 0) :=
        ⟨by simpa using heap_alloc_new (w.alloc (.cells (madeCells #[.int .u8 0] N) 5)) _, Kd.R_alloc (row_made w N (by omega)) _, below_alloc (below_alloc (Below.refl _ _) _) _, by omega⟩
      have HF0 := Aside0.mk hf0
      clear hf0 hmk
      go_loopg [22] (l0.length) (fun kq v22 w' => ∃ (m : Nat), v22 = .int .i64 (m : Int) ∧ Aside0 (kq = l0.length - m) ∧ Aside0 (m ≤ l0.length) ∧ Aside0 (Filling w w' (w.heap.size + 1) w.heap.size N (fillN l0 N m)))
      case atStart => exact ⟨0, rfl, ⟨rfl⟩, ⟨by omega⟩, HF0⟩
      case round =>
        clear HF0
        obtain ⟨m, rfl, HKQ, HM, HF⟩ := hrel
        by_cases c : m < l0.length
        · have c1 : decide ((m : Int) < (l0.length : Int)) = true := by simp; exact c
          have hn0 : 0 ≤ (m : Int) := by omega
          obtain ⟨ad158, e158, hx158_0⟩ := Kd.at_string HR0.out (m : Int) hn0 (by omega)
          cases e158
          simp only [Int.toNat_natCast] at hx158_0
          have hrd : rdOf ByteArray.empty l0 (m : Int) = l0[m] := by simp [rdOf, List.getD_eq_getElem?_getD, c]
          rw [hrd] at hx158_0
          have hcell := pw_cell_below HF.out.below hx158_0
          have hks := HSZ.out _ (List.getElem_mem c)
          have hfold : fillN l0 N (m + 1) = (placesP l0[m] (8 * (N : Int))).foldl setBit (fillN l0 N m) := by
            unfold fillN; rw [List.take_succ_eq_append_getElem c, List.foldl_append]; rfl
          clear hrd hx158_0
          obtain ⟨x, hxe⟩ : ∃ x : ByteArray, l0[m] = x := ⟨_, rfl⟩
          rw [hxe] at hcell hks hfold
          have Hfold := Lib.hid hfold
          clear hxe hfold
          have hpl := places_f x hks (8 * (N : Int)) (by omega) (x.size + 6) (by omega)
          have hpl2 : filter_Places.f (x.size + 6) x (wrap64 (8 * (N : Int))) = some (placesP x (8 * (N : Int))) := by
            rw [show wrap64 (8 * (N : Int)) = 8 * (N : Int) from by unfold wrap64; omega]; exact hpl
          have hrange := placesP_range x (8 * (N : Int))
          have HPL := Lib.hid hpl2
          have HRG := Aside0.mk hrange
          clear hpl hpl2 hrange hks
          have hmf : ∀ (fn : Fn) (first cap : Array Value) (w : World), (Instr.makeFunc fn first cap).run Try.prog w = .ok (.func fn first cap) w := fun _ _ _ _ => rfl
          go_wp2_with (first | (go_at_call 22; (with_reducible refine (each_put (x.size + 6) x _ _ _ _ N w _ HPL.out HF.out HRG.out).mono ?_); rintro e w5 ⟨rfl, hf5⟩; have HF5 := Aside0.mk hf5; clear hf5))
          go_roundg (l0.length - (m + 1))
          case measure => have := HKQ.out; omega
          case rel => exact ⟨m + 1, by go_num, ⟨rfl⟩, ⟨by omega⟩, ⟨by rw [Hfold.out]; exact HF5.out⟩⟩
        · have hn := HM.out
          have en : m = l0.length := by omega
          have c1 : decide ((m : Int) < (l0.length : Int)) = false := by simp; omega
          have hcg := HF.out.cell
          have hstr := own_string (P := Try.prog) (src := 37) (dst := 9) Try.underlying37 Try.underlying5 Try.underlying9 (own_nums HF.out.row)
          have hfin : strOfNums (fillN l0 N m) = buildP l0 := by
            rw [en]
            unfold buildP fillN
            rw [if_neg HNE.out, HN.out, List.take_length]; rfl
          have Hfin := Lib.hid hfin
          clear hfin en
          go_wp2
          go_ret
          exact ⟨by rw [Hfin.out]; rfl, HF.out.below⟩


/-! ### bits_OnesCount8: function 24 -/
def bits_OnesCount8.f (a0 : Int) : Option (Int) := if 0 ≤ a0 ∧ a0 ≤ 255 then some (Lib.onesCount a0.toNat : Int) else none
set_option maxRecDepth 100000 in
theorem bits_OnesCount8.calls (a0 : Int) (r : Int) (w : World) (h : bits_OnesCount8.f a0 = some r) :
    Calls Try.prog 24 #[.int .u8 a0] w fun e w' => e = .returned (.int .i64 r) ∧ Drawn0 w w' := by
  unfold bits_OnesCount8.f at h
  split at h
  case isFalse => simp at h
  case isTrue hh =>
  obtain ⟨h0, h1⟩ := hh
  obtain rfl := Option.some.inj h
  clear h
  have hfin : wrap64 (Lib.pop8 a0) = (Lib.onesCount a0.toNat : Int) := by unfold wrap64; exact Lib.pop8_int a0 h0 h1
  rw [← hfin]
  clear hfin
  go_enter Try.func24, Try.ntmps24
  go_wp2
  go_ret
  exact ⟨rfl, Drawn0.refl _⟩


/-! ### filter_Full: function 17 -/
def filter_Full.l0 : Nat → ByteArray → Int → Int → Int → Option (Int × Int)
  | 0, _, _, _, _ => none
  | k + 1, x0, x4, x7, x8 => if x8 < x7 then (if 0 ≤ x8 then (if x8 < (x0.size : Int) then ((bits_OnesCount8.f (bt x0 x8)).bind fun t107 => (filter_Full.l0 k x0 (wrap64 (x4 + t107)) x7 (wrap64 (x8 + 1)))) else (none)) else (none)) else (some (x4, wrap64 (8 * (x0.size : Int))))
def filter_Full.f (k : Nat) (a0 : ByteArray) : Option (Int × Int) := filter_Full.l0 k a0 0 (a0.size : Int) 0
theorem filter_Full.mono_l : ∀ k, (∀ y0 y1 y2 y3, LeO (filter_Full.l0 k y0 y1 y2 y3) (filter_Full.l0 (k + 1) y0 y1 y2 y3))
  | 0 => fun _ _ _ _ r h => by simp [filter_Full.l0] at h
  | k + 1 => by
    have ih0 := filter_Full.mono_l k
    · intro y0 y1 y2 y3
      unfold filter_Full.l0
      repeat' first
      | (with_reducible exact ih0 _ _ _ _)
      | (with_reducible exact LeO.refl _)
      | (with_reducible exact LeO.none _)
      | (with_reducible refine LeO.ite ?_ ?_)
      | (with_reducible refine LeO.bind ?_ (fun _ => ?_))
      | exact ih0 _ _ _ _
      | exact LeO.none _
      | refine LeO.ite ?_ ?_
      | refine LeO.bind ?_ (fun _ => ?_)
theorem filter_Full.mono : ∀ a0 k, LeO (filter_Full.f k a0) (filter_Full.f (k + 1) a0) := by
  intro a0 k
  have ih0 := filter_Full.mono_l k
  unfold filter_Full.f
  repeat' first
      | (with_reducible exact ih0 _ _ _ _)
      | (with_reducible exact LeO.refl _)
      | (with_reducible exact LeO.none _)
      | (with_reducible refine LeO.ite ?_ ?_)
      | (with_reducible refine LeO.bind ?_ (fun _ => ?_))
      | exact ih0 _ _ _ _
      | exact LeO.none _
      | refine LeO.ite ?_ ?_
      | refine LeO.bind ?_ (fun _ => ?_)
set_option maxHeartbeats 8000000 in
set_option maxRecDepth 100000 in
theorem filter_Full.calls (k : Nat) (a0 : ByteArray) (r1 : Int) (r2 : Int) (w : World) (h : filter_Full.f k a0 = some (r1, r2)) :
    Calls Try.prog 17 #[.string a0] w fun e w' => e = .returned (.tuple #[.int .i64 r1, .int .i64 r2]) ∧ Drawn0 w w' := by
  have H : (filter_Full.l0 k a0 0 (a0.size : Int) 0) = some (r1, r2) := h
  clear h
  have H' := Aside0.mk H
  clear H
  go_enter Try.func17, Try.ntmps17
  go_wp2
  go_loopg [4, 8] k (fun kq v4 v8 w' => ∃ (x4_1 : Int) (x8_1 : Int), v4 = .int .i64 x4_1 ∧ v8 = .int .i64 x8_1 ∧ Aside0 (filter_Full.l0 kq a0 x4_1 (a0.size : Int) x8_1 = some (r1, r2)) ∧ Aside0 (kq ≤ k) ∧ Drawn0 w w')
  case atStart => exact ⟨(0), (0), (by first | rfl | (simp; done) | (simp [*]; done)), (by first | rfl | (simp; done) | (simp [*]; done)), H', ⟨Nat.le_refl _⟩, by repeat (first | exact Drawn0.refl _ | apply Drawn0.step)⟩
  case round =>
    clear H'
    try clear c1
    obtain ⟨x4_1, x8_1, rfl, rfl, HA, HK1, ⟨m1, rfl⟩⟩ := hrel
    cases gk with
    | zero => exact absurd HA.out (by simp [filter_Full.l0])
    | succ k1 =>
      have H := HA.out
      clear HA
      simp only [filter_Full.l0] at H
      by_cases c2 : x8_1 < (a0.size : Int)
      · rw [if_pos c2] at H
        have c2b0 : decide (x8_1 < (a0.size : Int)) = true := decide_eq_true c2
        clear c2
        by_cases c3 : 0 ≤ x8_1
        · rw [if_pos c3] at H
          have c3b0 : decide (0 ≤ x8_1) = true := decide_eq_true c3
          clear c3
          by_cases c4 : x8_1 < (a0.size : Int)
          · rw [if_pos c4] at H
            have c4b0 : decide (x8_1 < (a0.size : Int)) = true := decide_eq_true c4
            clear c4
            replace H := Option.bind_eq_some_iff.mp H
            obtain ⟨t107, A60, H⟩ := H
            replace H : (filter_Full.l0 k1 a0 (wrap64 (x4_1 + t107)) (a0.size : Int) (wrap64 (x8_1 + 1))) = some (r1, r2) := H
            have A6 := Aside0.mk A60
            clear A60
            have H' := Aside0.mk H
            clear H
            have p5 : 0 ≤ (x8_1 : Int) := of_decide_eq_true (by first | (with_reducible assumption) | assumption)
            have q5 : x8_1 < (a0.size : Int) := of_decide_eq_true (by first | (with_reducible assumption) | assumption)
            have hx5 := bt_at a0 x8_1
            replace p5 := eq_true p5
            replace q5 := eq_true q5
            go_wp2_with (first | ((with_reducible refine gate_callee (f := 24) rfl ?_); refine goesL_ (some 15) rfl rfl Try.func24 (by kernel_rfl) rfl #[.int .u8 (bt a0 x8_1)] rfl (by (try simp only [List.map_toArray, List.map_cons, List.map_nil]); first | done | rfl | (simp only [List.length_drop, List.length_take]; rfl)) ?_; (with_reducible refine (bits_OnesCount8.calls (bt a0 x8_1) t107 _ A6.out).mono ?_); rintro e w' ⟨rfl, ⟨nd, rfl⟩⟩; refine ⟨_, rfl, ?_⟩))
            go_roundg k1
            case measure => have := HK1.out; omega
            case rel => exact ⟨(wrap64 (x4_1 + t107)), (wrap64 (x8_1 + 1)), (by first | rfl | (simp; done) | (simp [*]; done)), (by first | rfl | (simp; done) | (simp [*]; done)), H', ⟨by have := HK1.out; omega⟩, by repeat (first | exact Drawn0.refl _ | apply Drawn0.step)⟩
          · rw [if_neg c4] at H
            exact absurd H (by simp)
        · rw [if_neg c3] at H
          exact absurd H (by simp)
      · rw [if_neg c2] at H
        have c2b0 : decide (x8_1 < (a0.size : Int)) = false := decide_eq_false c2
        clear c2
        simp only [Option.some.injEq, Prod.mk.injEq] at H
        obtain ⟨rfl, rfl⟩ := H
        go_wp2
        go_ret2
        exact ⟨by first | rfl | (simp; done) | (simp [*]; done), by repeat (first | exact Drawn0.refl _ | apply Drawn0.step)⟩

-- NOT PRINTED: function 25 (filter_set_has)

end Go.Proofs.Ytdpadhmdiljpaaa.P
