import Derived.Test.YtbhainkcdkgbbaaProg
import Derived.Below
import Derived.Deep.Draws
import Derived.Deep.AppendLies
import Derived.Maps.AppendAt
import Derived.OwnWalk
import Derived.Laws.BytesArg
import Derived.Laws.MakeOwn
import Derived.Laws.OwnMore
import Derived.Deep.OwnRows
import Derived.Tactics
import Derived.Lib.ConvBytes
import Derived.Laws.Slices
import Derived.WalkKit
import Derived.KernelRfl
import Derived.RowKit3
import Derived.Deep.LoopGhost
import Derived.Deep.QuietTactic
import Derived.BigQuiet
import Derived.WideLaws
import Derived.Deep.DeepCutAuto
import Derived.Deep.CutBlock
import Derived.Deep.RegionHeld3
import Derived.Laws.Rows
import Derived.Lib.AppendStr
import Derived.ArgAppend
import Derived.Laws.IdiomCopy
import Derived.OrdersHeld
import Derived.Laws.BitsLemmas
import Derived.RowKit
import Derived.Lib.Hide
import Derived.Laws.ShiftsVar
import Derived.Laws.ShiftsVarLaws
import Derived.Laws.BitsAllLaws
import Derived.Shelf.Strings.Builder1
import Derived.Laws.Strings
import Derived.Laws.StructEq
import Derived.Test.YtbhainkcdkgbbaaQ0
import Derived.Test.YtbhainkcdkgbbaaQ1
namespace Go.Proofs.Ytbhainkcdkgbbaa.Sl
end Go.Proofs.Ytbhainkcdkgbbaa.Sl
namespace Go.Proofs.Ytbhainkcdkgbbaa.Vp
end Go.Proofs.Ytbhainkcdkgbbaa.Vp
namespace Go.Proofs.YtbhainkcdkgbbaaW.PrintLast
end Go.Proofs.YtbhainkcdkgbbaaW.PrintLast
namespace Go.Proofs.YtbhainkcdkgbbaaW.PrintMore
end Go.Proofs.YtbhainkcdkgbbaaW.PrintMore
namespace Go.Proofs.YtbhainkcdkgbbaaW.PrintWords
end Go.Proofs.YtbhainkcdkgbbaaW.PrintWords
namespace Go.Proofs.Ytbhainkcdkgbbaa.P
open Go.RowKit Go.Proofs.Ytbhainkcdkgbbaa.Vp Go.Proofs.Ytbhainkcdkgbbaa.Sl Go.Proofs.YtbhainkcdkgbbaaW.PrintWords Go.Proofs.YtbhainkcdkgbbaaW.PrintLast Go.Proofs.YtbhainkcdkgbbaaW.PrintMore
attribute [local go_sem] str_gtr str_leq str_geq max2_int min2_int max_two min_two max_three min_three max_four min_four
set_option linter.unusedVariables false
set_option linter.unusedSimpArgs false
def block_Common.l0 : Nat → ByteArray → ByteArray → Int → Option (Int)
  | 0, _, _, _ => none
  | k + 1, x0, x1, x5 => if x5 < (mn (x0.size : Int) (x1.size : Int)) then (if 0 ≤ x5 then (if x5 < (x0.size : Int) then (if x5 < (x1.size : Int) then (if (bt x0 x5) = (bt x1 x5) then (block_Common.l0 k x0 x1 (wrap64 (x5 + 1))) else (some x5)) else (none)) else (none)) else (none)) else (some x5)
def block_Common.f (k : Nat) (a0 : ByteArray) (a1 : ByteArray) : Option (Int) := block_Common.l0 k a0 a1 0
theorem block_Common.mono_l : ∀ k, (∀ y0 y1 y2, LeO (block_Common.l0 k y0 y1 y2) (block_Common.l0 (k + 1) y0 y1 y2))
  | 0 => fun _ _ _ r h => by simp [block_Common.l0] at h
  | k + 1 => by
    have ih0 := block_Common.mono_l k
    · intro y0 y1 y2
      unfold block_Common.l0
      repeat' first
      | (with_reducible exact ih0 _ _ _)
      | (with_reducible exact LeO.refl _)
      | (with_reducible exact LeO.none _)
      | (with_reducible refine LeO.ite ?_ ?_)
      | (with_reducible refine LeO.bind ?_ (fun _ => ?_))
      | exact ih0 _ _ _
      | exact LeO.none _
      | refine LeO.ite ?_ ?_
      | refine LeO.bind ?_ (fun _ => ?_)
theorem block_Common.mono : ∀ a0 a1 k, LeO (block_Common.f k a0 a1) (block_Common.f (k + 1) a0 a1) := by
  intro a0 a1 k
  have ih0 := block_Common.mono_l k
  unfold block_Common.f
  repeat' first
      | (with_reducible exact ih0 _ _ _)
      | (with_reducible exact LeO.refl _)
      | (with_reducible exact LeO.none _)
      | (with_reducible refine LeO.ite ?_ ?_)
      | (with_reducible refine LeO.bind ?_ (fun _ => ?_))
      | exact ih0 _ _ _
      | exact LeO.none _
      | refine LeO.ite ?_ ?_
      | refine LeO.bind ?_ (fun _ => ?_)
set_option maxHeartbeats 8000000 in
set_option maxRecDepth 100000 in
theorem block_Common.calls (k : Nat) (a0 : ByteArray) (a1 : ByteArray) (r : Int) (w : World) (h : block_Common.f k a0 a1 = some r) :
    Calls Try.prog 25 #[.string a0, .string a1] w fun e w' => e = .returned (.int .i64 r) ∧ Below w.heap.size w w' := by
  have HB := Aside0.mk (Below.refl w.heap.size w)
  have H : (block_Common.l0 k a0 a1 0) = some r := h
  clear h
  have H' := Aside0.mk H
  clear H
  go_enter Try.func25, Try.ntmps25
  go_wp2
  repeat (go_quiet (fail); try go_wp2)
  go_loopg [5] k (fun kq v5 w' => ∃ (x5_1 : Int), v5 = .int .i64 x5_1 ∧ Aside0 (block_Common.l0 kq a0 a1 x5_1 = some r) ∧ Aside0 (kq ≤ k) ∧ Aside0 (Below w.heap.size w w'))
  case atStart => exact ⟨(0), (by first | rfl | (simp; done) | (simp [*]; done)), H', ⟨Nat.le_refl _⟩, ⟨by repeat (first | (with_reducible first | exact HB.out | apply below_alloc | apply pw_below_drewN | apply below_drew1) | exact HB.out)⟩⟩
  case round =>
    clear H'
    try clear c2
    try clear p2
    obtain ⟨x5_1, rfl, HA, HK1, HB⟩ := hrel
    cases gk with
    | zero => exact absurd HA.out (by simp [block_Common.l0])
    | succ k1 =>
      have H := HA.out
      clear HA
      simp only [block_Common.l0] at H
      obtain ⟨ji3, hji3⟩ : ∃ j_ : Int, (mn (a0.size : Int) (a1.size : Int)) = j_ := ⟨_, rfl⟩
      replace H : (if x5_1 < (ji3) then (if 0 ≤ x5_1 then (if x5_1 < (a0.size : Int) then (if x5_1 < (a1.size : Int) then (if (bt a0 x5_1) = (bt a1 x5_1) then (block_Common.l0 k1 a0 a1 (wrap64 (x5_1 + 1))) else (some x5_1)) else (none)) else (none)) else (none)) else (some x5_1)) = some r := by first | (rw [hji3] at H; exact H) | (simp only [hji3] at H ⊢; exact H)
      have hji3_ : (if (a1.size : Int) < (a0.size : Int) then (a1.size : Int) else (a0.size : Int)) = ji3 := hji3
      have hji3n_ : (if a1.size < a0.size then (a1.size : Int) else (a0.size : Int)) = ji3 := by (rw [← hji3]; unfold mn; split <;> split <;> omega)
      by_cases c4 : x5_1 < (ji3)
      · rw [if_pos c4] at H
        have c4b0 : decide (x5_1 < (ji3)) = true := decide_eq_true c4
        clear c4
        by_cases c5 : 0 ≤ x5_1
        · rw [if_pos c5] at H
          have c5b0 : decide (0 ≤ x5_1) = true := decide_eq_true c5
          clear c5
          by_cases c6 : x5_1 < (a0.size : Int)
          · rw [if_pos c6] at H
            have c6b0 : decide (x5_1 < (a0.size : Int)) = true := decide_eq_true c6
            clear c6
            by_cases c8 : x5_1 < (a1.size : Int)
            · rw [if_pos c8] at H
              have c8b0 : decide (x5_1 < (a1.size : Int)) = true := decide_eq_true c8
              clear c8
              by_cases c10 : (bt a0 x5_1) = (bt a1 x5_1)
              · rw [if_pos c10] at H
                have c10b0 : ((bt a0 x5_1) == (bt a1 x5_1)) = true := beq_iff_eq.mpr c10
                have c10b1 : ((bt a0 x5_1) != (bt a1 x5_1)) = false := bne_eq_false_iff_eq.mpr c10
                clear c10
                have H' := Aside0.mk H
                clear H
                have p7 : 0 ≤ (x5_1 : Int) := of_decide_eq_true (by first | (with_reducible assumption) | assumption)
                have q7 : x5_1 < (a0.size : Int) := of_decide_eq_true (by first | (with_reducible assumption) | assumption)
                have hx7 := bt_at a0 x5_1
                replace p7 := eq_true p7
                replace q7 := eq_true q7
                have p9 : 0 ≤ (x5_1 : Int) := of_decide_eq_true (by first | (with_reducible assumption) | assumption)
                have q9 : x5_1 < (a1.size : Int) := of_decide_eq_true (by first | (with_reducible assumption) | assumption)
                have hx9 := bt_at a1 x5_1
                replace p9 := eq_true p9
                replace q9 := eq_true q9
                go_wp2
                repeat (go_quiet (fail); try go_wp2)
                go_roundg k1
                case measure => have := HK1.out; omega
                case rel => exact ⟨(wrap64 (x5_1 + 1)), (by first | rfl | (simp; done) | (simp [*]; done)), H', ⟨by have := HK1.out; omega⟩, ⟨by repeat (first | (with_reducible first | exact HB.out | apply below_alloc | apply pw_below_drewN | apply below_drew1) | exact HB.out)⟩⟩
              · rw [if_neg c10] at H
                have c10b0 : ((bt a0 x5_1) == (bt a1 x5_1)) = false := beq_eq_false_iff_ne.mpr c10
                have c10b1 : ((bt a0 x5_1) != (bt a1 x5_1)) = true := bne_iff_ne.mpr c10
                obtain rfl := Option.some.inj H
                have p7 : 0 ≤ (x5_1 : Int) := of_decide_eq_true (by first | (with_reducible assumption) | assumption)
                have q7 : x5_1 < (a0.size : Int) := of_decide_eq_true (by first | (with_reducible assumption) | assumption)
                have hx7 := bt_at a0 x5_1
                replace p7 := eq_true p7
                replace q7 := eq_true q7
                have p9 : 0 ≤ (x5_1 : Int) := of_decide_eq_true (by first | (with_reducible assumption) | assumption)
                have q9 : x5_1 < (a1.size : Int) := of_decide_eq_true (by first | (with_reducible assumption) | assumption)
                have hx9 := bt_at a1 x5_1
                replace p9 := eq_true p9
                replace q9 := eq_true q9
                go_wp2
                repeat (go_quiet (fail); try go_wp2)
                all_goals go_ret
                all_goals exact ⟨by first | rfl | (simp [errW_none, errW_some] <;> rfl) | (simp only [← hji3]; first | rfl | (simp [errW_none, errW_some] <;> rfl)) | (simp [*, errW_none, errW_some] <;> rfl), by repeat (first | (with_reducible first | exact HB.out | apply below_alloc | apply pw_below_drewN | apply below_drew1) | exact HB.out)⟩
            · rw [if_neg c8] at H
              exact absurd H (by simp)
          · rw [if_neg c6] at H
            exact absurd H (by simp)
        · rw [if_neg c5] at H
          exact absurd H (by simp)
      · rw [if_neg c4] at H
        have c4b0 : decide (x5_1 < (ji3)) = false := decide_eq_false c4
        clear c4
        obtain rfl := Option.some.inj H
        go_wp2
        repeat (go_quiet (fail); try go_wp2)
        all_goals go_ret
        all_goals exact ⟨by first | rfl | (simp [errW_none, errW_some] <;> rfl) | (simp only [← hji3]; first | rfl | (simp [errW_none, errW_some] <;> rfl)) | (simp [*, errW_none, errW_some] <;> rfl), by repeat (first | (with_reducible first | exact HB.out | apply below_alloc | apply pw_below_drewN | apply below_drew1) | exact HB.out)⟩
def varint_width.f (a0 : Int) : Option Int := if 0 ≤ a0 ∧ a0 < 18446744073709551616 then some (widthP a0) else none
set_option maxHeartbeats 1600000 in
theorem varint_width.calls (a0 : Int) (r : Int) (w : World) (h : varint_width.f a0 = some r) :
    Calls Try.prog 50 #[.int .u64 a0] w fun e w' => e = .returned (.int .i64 r) ∧ Drawn0 w w' := by
  unfold varint_width.f at h
  split at h
  case isFalse => simp at h
  case isTrue hh =>
  obtain ⟨h0, h1⟩ := hh
  obtain rfl := Option.some.inj h
  clear h
  have hw : 3 ≤ widthP a0 ∧ widthP a0 ≤ 8 := by unfold widthP; repeat' split <;> omega
  have hlt : ∀ j : Int, 3 ≤ j → j < widthP a0 → (j = 3 ∧ 16777216 ≤ a0) ∨ (j = 4 ∧ 4294967296 ≤ a0) ∨ (j = 5 ∧ 1099511627776 ≤ a0) ∨ (j = 6 ∧ 281474976710656 ≤ a0) ∨ (j = 7 ∧ 72057594037927936 ≤ a0) := by
    intro j hj hj2
    unfold widthP at hj2
    repeat' split at hj2
    all_goals omega
  have heq : (widthP a0 = 3 ∧ a0 < 16777216) ∨ (widthP a0 = 4 ∧ a0 < 4294967296) ∨ (widthP a0 = 5 ∧ a0 < 1099511627776) ∨ (widthP a0 = 6 ∧ a0 < 281474976710656) ∨ (widthP a0 = 7 ∧ a0 < 72057594037927936) ∨ widthP a0 = 8 := by
    unfold widthP
    repeat' split
    all_goals omega
  obtain ⟨W, hW⟩ : ∃ W, widthP a0 = W := ⟨_, rfl⟩
  rw [hW] at hw hlt heq ⊢
  have HLT := Aside0.mk hlt
  have HEQ := Aside0.mk heq
  have HWR := Aside0.mk hw
  clear hlt heq hw hW
  go_enter Try.func50, Try.ntmps50
  go_wp2
  go_step3
  go_wp2
  go_step3
  go_wp2
  go_loopg [3] 5 (fun kq v3 w' => ∃ j : Int, v3 = .int .i64 j ∧ Aside0 (3 ≤ j) ∧ Aside0 (j ≤ W) ∧ Aside0 ((kq : Int) = 8 - j) ∧ Drawn0 w w')
  case atStart => exact ⟨3, rfl, ⟨by omega⟩, ⟨HWR.out.1⟩, ⟨by decide⟩, Drawn0.refl _⟩
  case round =>
    obtain ⟨j, rfl, H3, HJ, HK, ⟨m1, rfl⟩⟩ := hrel
    by_cases hjw : j < W
    · rcases HLT.out j H3.out hjw with ⟨rfl, hn⟩ | ⟨rfl, hn⟩ | ⟨rfl, hn⟩ | ⟨rfl, hn⟩ | ⟨rfl, hn⟩
      all_goals
        have hz1 : ((a0 / 16777216) == 0) = false := by simp; omega
        try have hz2 : ((a0 / 4294967296) == 0) = false := by simp; omega
        try have hz3 : ((a0 / 1099511627776) == 0) = false := by simp; omega
        try have hz4 : ((a0 / 281474976710656) == 0) = false := by simp; omega
        try have hz5 : ((a0 / 72057594037927936) == 0) = false := by simp; omega
        go_wp2
        go_roundg (gk - 1)
        case measure => have := HK.out; omega
        case rel => exact ⟨_, rfl, ⟨by omega⟩, ⟨by have := hjw; omega⟩, ⟨by have := HK.out; omega⟩, ⟨⟨m1, rfl⟩⟩⟩
    · have hjw2 : j = W := by have := HJ.out; omega
      subst hjw2
      rcases HEQ.out with ⟨rfl, hn⟩ | ⟨rfl, hn⟩ | ⟨rfl, hn⟩ | ⟨rfl, hn⟩ | ⟨rfl, hn⟩ | rfl
      all_goals
        try have hz1 : ((a0 / 16777216) == 0) = true := by simp; omega
        try have hz2 : ((a0 / 4294967296) == 0) = true := by simp; omega
        try have hz3 : ((a0 / 1099511627776) == 0) = true := by simp; omega
        try have hz4 : ((a0 / 281474976710656) == 0) = true := by simp; omega
        try have hz5 : ((a0 / 72057594037927936) == 0) = true := by simp; omega
        go_wp2
        try rw [Exit.noGoto_ret]
        go_ret
        exact ⟨rfl, ⟨⟨m1, rfl⟩⟩⟩
def varint_Size.f (a0 : Int) : Option (Int) := if a0 ≤ 240 then (some 1) else (if a0 ≤ 2287 then (some 2) else (if a0 ≤ 67823 then (some 3) else ((varint_width.f a0).bind fun t101 => (some (wrap64 (t101 + 1))))))
set_option maxHeartbeats 8000000 in
set_option maxRecDepth 100000 in
theorem varint_Size.calls (a0 : Int) (r : Int) (w : World) (h : varint_Size.f a0 = some r) :
    Calls Try.prog 46 #[.int .u64 a0] w fun e w' => e = .returned (.int .i64 r) ∧ Drawn0 w w' := by
  have H : (if a0 ≤ 240 then (some 1) else (if a0 ≤ 2287 then (some 2) else (if a0 ≤ 67823 then (some 3) else ((varint_width.f a0).bind fun t101 => (some (wrap64 (t101 + 1))))))) = some r := h
  clear h
  by_cases c2 : a0 ≤ 240
  · rw [if_pos c2] at H
    have c2b0 : decide (a0 ≤ 240) = true := decide_eq_true c2
    clear c2
    obtain rfl := Option.some.inj H
    go_enter Try.func46, Try.ntmps46
    go_wp2
    all_goals go_ret
    all_goals exact ⟨by first | rfl | (simp; done) | (simp [*]; done), by repeat (first | exact Drawn0.refl _ | apply Drawn0.step)⟩
  · rw [if_neg c2] at H
    have c2b0 : decide (a0 ≤ 240) = false := decide_eq_false c2
    clear c2
    by_cases c3 : a0 ≤ 2287
    · rw [if_pos c3] at H
      have c3b0 : decide (a0 ≤ 2287) = true := decide_eq_true c3
      clear c3
      obtain rfl := Option.some.inj H
      go_enter Try.func46, Try.ntmps46
      go_wp2
      all_goals go_ret
      all_goals exact ⟨by first | rfl | (simp; done) | (simp [*]; done), by repeat (first | exact Drawn0.refl _ | apply Drawn0.step)⟩
    · rw [if_neg c3] at H
      have c3b0 : decide (a0 ≤ 2287) = false := decide_eq_false c3
      clear c3
      by_cases c4 : a0 ≤ 67823
      · rw [if_pos c4] at H
        have c4b0 : decide (a0 ≤ 67823) = true := decide_eq_true c4
        clear c4
        obtain rfl := Option.some.inj H
        go_enter Try.func46, Try.ntmps46
        go_wp2
        all_goals go_ret
        all_goals exact ⟨by first | rfl | (simp; done) | (simp [*]; done), by repeat (first | exact Drawn0.refl _ | apply Drawn0.step)⟩
      · rw [if_neg c4] at H
        have c4b0 : decide (a0 ≤ 67823) = false := decide_eq_false c4
        clear c4
        replace H := Option.bind_eq_some_iff.mp H
        obtain ⟨t101, A50, H⟩ := H
        replace H : (some (wrap64 (t101 + 1))) = some r := H
        have A5 := Aside0.mk A50
        clear A50
        obtain rfl := Option.some.inj H
        go_enter Try.func46, Try.ntmps46
        go_wp2_with (first | ((with_reducible refine gate_callee (f := 50) rfl ?_); refine goesL_ (some 13) rfl rfl Try.func50 (by kernel_rfl) rfl #[.int .u64 a0] rfl (by (try simp only [List.map_toArray, List.map_cons, List.map_nil]); first | done | rfl | (simp only [List.length_drop, List.length_take]; rfl)) ?_; (with_reducible refine (varint_width.calls a0 t101 _ A5.out).mono ?_); rintro e w' ⟨rfl, ⟨nd, rfl⟩⟩; refine ⟨_, rfl, ?_⟩))
        all_goals go_ret
        all_goals exact ⟨by first | rfl | (simp; done) | (simp [*]; done), by repeat (first | exact Drawn0.refl _ | apply Drawn0.step)⟩
mutual
def varint_Take.j0 : Nat → ByteArray → Int → Int → Option (Int × ByteArray × Bool)
  | 0, _, _, _ => none
  | k + 1, x0, x5, x6 => if (x0.size : Int) < x6 then (some (0, (⟨#[]⟩ : ByteArray), false)) else (varint_Take.l0 k x0 x5 x6 0 1)
def varint_Take.l0 : Nat → ByteArray → Int → Int → Int → Int → Option (Int × ByteArray × Bool)
  | 0, _, _, _, _, _ => none
  | k + 1, x0, x5, x6, x7, x8 => if x8 < x6 then (if 0 ≤ x8 then (if x8 < (x0.size : Int) then (varint_Take.l0 k x0 x5 x6 (Go.bits .or .u64 (IntKind.u64.wrap (x7 * 256)) (IntKind.u64.wrap (bt x0 x8))) (wrap64 (x8 + 1))) else (none)) else (none)) else (if x6 = 1 then ((varint_Size.f (IntKind.u64.wrap (x5))).bind fun t102 => (if t102 = x6 then (if 0 ≤ x6 then (if x6 ≤ (x0.size : Int) then (some (IntKind.u64.wrap (x5), x0.extract (x6 : Int).toNat x0.size, true)) else (none)) else (none)) else (some (0, (⟨#[]⟩ : ByteArray), false)))) else (if x6 = 2 then ((varint_Size.f (IntKind.u64.wrap (x7 + (240 + (((x5 - 240 - 1) % 256) * 256))))).bind fun t103 => (if t103 = x6 then (if 0 ≤ x6 then (if x6 ≤ (x0.size : Int) then (some (IntKind.u64.wrap (x7 + (240 + (((x5 - 240 - 1) % 256) * 256))), x0.extract (x6 : Int).toNat x0.size, true)) else (none)) else (none)) else (some (0, (⟨#[]⟩ : ByteArray), false)))) else (if x6 = 3 then ((varint_Size.f (IntKind.u64.wrap (x7 + 2288))).bind fun t104 => (if t104 = x6 then (if 0 ≤ x6 then (if x6 ≤ (x0.size : Int) then (some (IntKind.u64.wrap (x7 + 2288), x0.extract (x6 : Int).toNat x0.size, true)) else (none)) else (none)) else (some (0, (⟨#[]⟩ : ByteArray), false)))) else ((varint_Size.f x7).bind fun t105 => (if t105 = x6 then (if 0 ≤ x6 then (if x6 ≤ (x0.size : Int) then (some (x7, x0.extract (x6 : Int).toNat x0.size, true)) else (none)) else (none)) else (some (0, (⟨#[]⟩ : ByteArray), false)))))))
end
def varint_Take.f (k : Nat) (a0 : ByteArray) : Option (Int × ByteArray × Bool) := if a0.toList = ([] : List UInt8) then (some (0, (⟨#[]⟩ : ByteArray), false)) else (if 0 < (a0.size : Int) then (if (bt a0 0) > 249 then (varint_Take.j0 k a0 (bt a0 0) (wrap64 ((wrap64 ((wrap64 (bt a0 0)) - 249)) + 3))) else (if (bt a0 0) = 249 then (varint_Take.j0 k a0 (bt a0 0) 3) else (if (bt a0 0) > 240 then (varint_Take.j0 k a0 (bt a0 0) 2) else (varint_Take.j0 k a0 (bt a0 0) 1)))) else (none))
theorem varint_Take.mono_l : ∀ k, (∀ y0 y1 y2, LeO (varint_Take.j0 k y0 y1 y2) (varint_Take.j0 (k + 1) y0 y1 y2)) ∧ (∀ y0 y1 y2 y3 y4, LeO (varint_Take.l0 k y0 y1 y2 y3 y4) (varint_Take.l0 (k + 1) y0 y1 y2 y3 y4))
  | 0 => ⟨fun _ _ _ r h => by simp [varint_Take.j0] at h, fun _ _ _ _ _ r h => by simp [varint_Take.l0] at h⟩
  | k + 1 => by
    obtain ⟨ih0, ih1⟩ := varint_Take.mono_l k
    refine ⟨?_, ?_⟩
    · intro y0 y1 y2
      unfold varint_Take.j0
      repeat' first
      | (with_reducible exact ih0 _ _ _)
      | (with_reducible exact ih1 _ _ _ _ _)
      | (with_reducible exact LeO.refl _)
      | (with_reducible exact LeO.none _)
      | (with_reducible refine LeO.ite ?_ ?_)
      | (with_reducible refine LeO.bind ?_ (fun _ => ?_))
      | exact ih0 _ _ _
      | exact ih1 _ _ _ _ _
      | exact LeO.none _
      | refine LeO.ite ?_ ?_
      | refine LeO.bind ?_ (fun _ => ?_)
    · intro y0 y1 y2 y3 y4
      unfold varint_Take.l0
      repeat' first
      | (with_reducible exact ih0 _ _ _)
      | (with_reducible exact ih1 _ _ _ _ _)
      | (with_reducible exact LeO.refl _)
      | (with_reducible exact LeO.none _)
      | (with_reducible refine LeO.ite ?_ ?_)
      | (with_reducible refine LeO.bind ?_ (fun _ => ?_))
      | exact ih0 _ _ _
      | exact ih1 _ _ _ _ _
      | exact LeO.none _
      | refine LeO.ite ?_ ?_
      | refine LeO.bind ?_ (fun _ => ?_)
theorem varint_Take.mono : ∀ a0 k, LeO (varint_Take.f k a0) (varint_Take.f (k + 1) a0) := by
  intro a0 k
  obtain ⟨ih0, ih1⟩ := varint_Take.mono_l k
  unfold varint_Take.f
  repeat' first
      | (with_reducible exact ih0 _ _ _)
      | (with_reducible exact ih1 _ _ _ _ _)
      | (with_reducible exact LeO.refl _)
      | (with_reducible exact LeO.none _)
      | (with_reducible refine LeO.ite ?_ ?_)
      | (with_reducible refine LeO.bind ?_ (fun _ => ?_))
      | exact ih0 _ _ _
      | exact ih1 _ _ _ _ _
      | exact LeO.none _
      | refine LeO.ite ?_ ?_
      | refine LeO.bind ?_ (fun _ => ?_)
set_option maxHeartbeats 8000000 in
set_option maxRecDepth 100000 in
theorem varint_Take.calls (k : Nat) (a0 : ByteArray) (r1 : Int) (r2 : ByteArray) (r3 : Bool) (w : World) (h : varint_Take.f k a0 = some (r1, r2, r3)) :
    Calls Try.prog 45 #[.string a0] w fun e w' => e = .returned (.tuple #[.int .u64 r1, .string r2, .bool r3]) ∧ Drawn0 w w' := by
  have H : (if a0.toList = ([] : List UInt8) then (some (0, (⟨#[]⟩ : ByteArray), false)) else (if 0 < (a0.size : Int) then (if (bt a0 0) > 249 then (varint_Take.j0 k a0 (bt a0 0) (wrap64 ((wrap64 ((wrap64 (bt a0 0)) - 249)) + 3))) else (if (bt a0 0) = 249 then (varint_Take.j0 k a0 (bt a0 0) 3) else (if (bt a0 0) > 240 then (varint_Take.j0 k a0 (bt a0 0) 2) else (varint_Take.j0 k a0 (bt a0 0) 1)))) else (none))) = some (r1, r2, r3) := h
  clear h
  by_cases c2 : a0.toList = ([] : List UInt8)
  · rw [if_pos c2] at H
    have c2b0 : (a0.toList == ([] : List UInt8)) = true := beq_iff_eq.mpr c2
    have c2b1 : (a0.toList != ([] : List UInt8)) = false := bne_eq_false_iff_eq.mpr c2
    clear c2
    simp only [Option.some.injEq, Prod.mk.injEq] at H
    obtain ⟨rfl, rfl, rfl⟩ := H
    go_enter Try.func45, Try.ntmps45
    go_wp2
    repeat (go_quiet (fail); try go_wp2)
    all_goals go_ret3
    all_goals exact ⟨by first | rfl | (simp; done) | (simp [*]; done), by repeat (first | exact Drawn0.refl _ | apply Drawn0.step)⟩
  · rw [if_neg c2] at H
    have c2b0 : (a0.toList == ([] : List UInt8)) = false := beq_eq_false_iff_ne.mpr c2
    have c2b1 : (a0.toList != ([] : List UInt8)) = true := bne_iff_ne.mpr c2
    by_cases c3 : 0 < (a0.size : Int)
    · rw [if_pos c3] at H
      have c3b0 : decide (0 < (a0.size : Int)) = true := decide_eq_true c3
      have c3b1 : decide (0 < a0.size) = true := decide_eq_true (by omega)
      clear c3
      have HC5 := Aside0.mk H
      clear H
      have p4 : 0 ≤ (0 : Int) := (by omega)
      have q4 : 0 < a0.size := (by have : (0 : Int) < (a0.size : Int) := of_decide_eq_true (by first | (with_reducible assumption) | assumption); omega)
      have hx4 : ∀ h : 0 < a0.size, ((a0[0]'h).toNat : Int) = bt a0 0 := bt_at a0 0
      clear p4
      have qi4 : (0 < (a0.size : Int)) = True := eq_true (of_decide_eq_true (by first | (with_reducible assumption) | assumption))
      replace q4 := eq_true q4
      go_enter Try.func45, Try.ntmps45
      go_upto_block 0 with (fail)
      repeat (go_quiet (fail); go_upto_block 0 with (fail))
      go_cut [6] (fun v6 wc => ∃ (kq : Nat) (x6_4 : Int), v6 = .int .i64 x6_4 ∧ Aside0 (varint_Take.j0 kq a0 (bt a0 0) x6_4 = some (r1, r2, r3)) ∧ Aside0 (kq ≤ k) ∧ Drawn0 w wc)
      case first =>
        have H := HC5.out
        clear HC5
        by_cases c6 : (bt a0 0) > 249
        · rw [if_pos c6] at H
          have c6b0 : decide (249 < (bt a0 0)) = true := decide_eq_true c6
          clear c6
          (first | rw [c6b0] | (simp only [i64_w, i32_w]; rw [c6b0]) | skip)
          have H' := Aside0.mk H
          clear H
          go_wp2
          repeat (go_quiet (fail); try go_wp2)
          go_meet
          case rel => exact ⟨_, (wrap64 ((wrap64 ((wrap64 (bt a0 0)) - 249)) + 3)), (by first | rfl | (simp; done) | (simp [*]; done)), H', ⟨by first | omega | exact Nat.le_refl _⟩, by repeat (first | exact Drawn0.refl _ | apply Drawn0.step)⟩
        · rw [if_neg c6] at H
          have c6b0 : decide (249 < (bt a0 0)) = false := decide_eq_false c6
          clear c6
          (first | rw [c6b0] | (simp only [i64_w, i32_w]; rw [c6b0]) | skip)
          by_cases c7 : (bt a0 0) = 249
          · rw [if_pos c7] at H
            have c7b0 : ((bt a0 0) == 249) = true := beq_iff_eq.mpr c7
            have c7b1 : ((bt a0 0) != 249) = false := bne_eq_false_iff_eq.mpr c7
            clear c7
            have H' := Aside0.mk H
            clear H
            go_wp2
            repeat (go_quiet (fail); try go_wp2)
            go_meet
            case rel => exact ⟨_, (3), (by first | rfl | (simp; done) | (simp [*]; done)), H', ⟨by first | omega | exact Nat.le_refl _⟩, by repeat (first | exact Drawn0.refl _ | apply Drawn0.step)⟩
          · rw [if_neg c7] at H
            have c7b0 : ((bt a0 0) == 249) = false := beq_eq_false_iff_ne.mpr c7
            have c7b1 : ((bt a0 0) != 249) = true := bne_iff_ne.mpr c7
            by_cases c8 : (bt a0 0) > 240
            · rw [if_pos c8] at H
              have c8b0 : decide (240 < (bt a0 0)) = true := decide_eq_true c8
              clear c8
              have H' := Aside0.mk H
              clear H
              go_wp2
              repeat (go_quiet (fail); try go_wp2)
              go_meet
              case rel => exact ⟨_, (2), (by first | rfl | (simp; done) | (simp [*]; done)), H', ⟨by first | omega | exact Nat.le_refl _⟩, by repeat (first | exact Drawn0.refl _ | apply Drawn0.step)⟩
            · rw [if_neg c8] at H
              have c8b0 : decide (240 < (bt a0 0)) = false := decide_eq_false c8
              clear c8
              have H' := Aside0.mk H
              clear H
              go_wp2
              repeat (go_quiet (fail); try go_wp2)
              go_meet
              case rel => exact ⟨_, (1), (by first | rfl | (simp; done) | (simp [*]; done)), H', ⟨by first | omega | exact Nat.le_refl _⟩, by repeat (first | exact Drawn0.refl _ | apply Drawn0.step)⟩
      case rest =>
        clear HC5
        try clear c2
        try clear c2b0
        try clear c2b1
        try clear p2
        try clear c3
        try clear c3b0
        try clear c3b1
        try clear c4
        try clear p4
        try clear q4
        try clear hx4
        try clear qi4
        try clear c6
        try clear c6b0
        try clear p6
        try clear c7
        try clear c7b0
        try clear c7b1
        try clear c8
        try clear c8b0
        try clear p4
        try clear q4
        obtain ⟨kq, x6_4, rfl, HA, HJ4, ⟨mc4, rfl⟩⟩ := hcut
        cases kq with
        | zero => exact absurd HA.out (by simp [varint_Take.j0])
        | succ kj4 =>
          have H := HA.out
          clear HA
          simp only [varint_Take.j0] at H
          by_cases c9 : (a0.size : Int) < x6_4
          · rw [if_pos c9] at H
            have c9b0 : decide ((a0.size : Int) < x6_4) = true := decide_eq_true c9
            clear c9
            simp only [Option.some.injEq, Prod.mk.injEq] at H
            obtain ⟨rfl, rfl, rfl⟩ := H
            go_wp2
            repeat (go_quiet (fail); try go_wp2)
            all_goals go_ret3
            all_goals exact ⟨by first | rfl | (simp; done) | (simp [*]; done), by repeat (first | exact Drawn0.refl _ | apply Drawn0.step)⟩
          · rw [if_neg c9] at H
            have c9b0 : decide ((a0.size : Int) < x6_4) = false := decide_eq_false c9
            clear c9
            have H' := Aside0.mk H
            clear H
            go_wp2
            repeat (go_quiet (fail); try go_wp2)
            go_loopg [7, 8] kj4 (fun kq v7 v8 w' => ∃ (x7_2 : Int) (x8_2 : Int), v7 = .int .u64 x7_2 ∧ v8 = .int .i64 x8_2 ∧ Aside0 (varint_Take.l0 kq a0 (bt a0 0) x6_4 x7_2 x8_2 = some (r1, r2, r3)) ∧ Aside0 (kq ≤ kj4) ∧ Drawn0 w w')
            case atStart => exact ⟨(0), (1), (by first | rfl | (simp; done) | (simp [*]; done)), (by first | rfl | (simp; done) | (simp [*]; done)), H', ⟨Nat.le_refl _⟩, by repeat (first | exact Drawn0.refl _ | apply Drawn0.step)⟩
            case round =>
              clear H'
              try clear c2
              try clear c2b0
              try clear c2b1
              try clear p2
              try clear c3
              try clear c3b0
              try clear c3b1
              try clear c4
              try clear p4
              try clear q4
              try clear hx4
              try clear qi4
              try clear c6
              try clear c6b0
              try clear p6
              try clear c7
              try clear c7b0
              try clear c7b1
              try clear c8
              try clear c8b0
              try clear c9
              try clear c9b0
              try clear p2
              try clear p4
              try clear p6
              try clear q4
              obtain ⟨x7_2, x8_2, rfl, rfl, HA, HK2, ⟨m2, rfl⟩⟩ := hrel
              cases gk with
              | zero => exact absurd HA.out (by simp [varint_Take.l0])
              | succ k2 =>
                have H := HA.out
                clear HA
                simp only [varint_Take.l0] at H
                by_cases c10 : x8_2 < x6_4
                · rw [if_pos c10] at H
                  have c10b0 : decide (x8_2 < x6_4) = true := decide_eq_true c10
                  clear c10
                  by_cases c11 : 0 ≤ x8_2
                  · rw [if_pos c11] at H
                    have c11b0 : decide (0 ≤ x8_2) = true := decide_eq_true c11
                    clear c11
                    by_cases c12 : x8_2 < (a0.size : Int)
                    · rw [if_pos c12] at H
                      have c12b0 : decide (x8_2 < (a0.size : Int)) = true := decide_eq_true c12
                      clear c12
                      have H' := Aside0.mk H
                      clear H
                      have p13 : 0 ≤ (x8_2 : Int) := of_decide_eq_true (by first | (with_reducible assumption) | assumption)
                      have q13 : x8_2 < (a0.size : Int) := of_decide_eq_true (by first | (with_reducible assumption) | assumption)
                      have hx13 := bt_at a0 x8_2
                      replace p13 := eq_true p13
                      replace q13 := eq_true q13
                      go_wp2
                      repeat (go_quiet (fail); try go_wp2)
                      go_roundg k2
                      case measure => have := HJ4.out; have := HK2.out; omega
                      case rel => exact ⟨(Go.bits .or .u64 (IntKind.u64.wrap (x7_2 * 256)) (IntKind.u64.wrap (bt a0 x8_2))), (wrap64 (x8_2 + 1)), (by first | rfl | (simp; done) | (simp [*]; done)), (by first | rfl | (simp; done) | (simp [*]; done)), H', ⟨by have := HJ4.out; have := HK2.out; omega⟩, by repeat (first | exact Drawn0.refl _ | apply Drawn0.step)⟩
                    · rw [if_neg c12] at H
                      exact absurd H (by simp)
                  · rw [if_neg c11] at H
                    exact absurd H (by simp)
                · rw [if_neg c10] at H
                  have c10b0 : decide (x8_2 < x6_4) = false := decide_eq_false c10
                  clear c10
                  by_cases c14 : x6_4 = 1
                  · rw [if_pos c14] at H
                    have c14b0 : (x6_4 == 1) = true := beq_iff_eq.mpr c14
                    have c14b1 : (x6_4 != 1) = false := bne_eq_false_iff_eq.mpr c14
                    clear c14
                    replace H := Option.bind_eq_some_iff.mp H
                    obtain ⟨t102, A150, H⟩ := H
                    replace H : (if t102 = x6_4 then (if 0 ≤ x6_4 then (if x6_4 ≤ (a0.size : Int) then (some (IntKind.u64.wrap ((bt a0 0)), a0.extract (x6_4 : Int).toNat a0.size, true)) else (none)) else (none)) else (some (0, (⟨#[]⟩ : ByteArray), false))) = some (r1, r2, r3) := H
                    have A15 := Aside0.mk A150
                    clear A150
                    by_cases c16 : t102 = x6_4
                    · rw [if_pos c16] at H
                      have c16b0 : (t102 == x6_4) = true := beq_iff_eq.mpr c16
                      have c16b1 : (t102 != x6_4) = false := bne_eq_false_iff_eq.mpr c16
                      clear c16
                      by_cases c17 : 0 ≤ x6_4
                      · rw [if_pos c17] at H
                        have c17b0 := eq_true c17
                        have c17b1 : decide (0 ≤ x6_4) = true := decide_eq_true c17
                        clear c17
                        by_cases c18 : x6_4 ≤ (a0.size : Int)
                        · rw [if_pos c18] at H
                          have c18b0 := eq_true c18
                          have c18b1 : decide (x6_4 ≤ (a0.size : Int)) = true := decide_eq_true c18
                          clear c18
                          simp only [Option.some.injEq, Prod.mk.injEq] at H
                          obtain ⟨rfl, rfl, rfl⟩ := H
                          go_wp2_with (first | (go_at_call 46; (with_reducible refine (varint_Size.calls (IntKind.u64.wrap ((bt a0 0))) t102 _ A15.out).mono ?_); rintro e w' ⟨rfl, ⟨nd, rfl⟩⟩; (try first | exact ⟨rfl, _, World.drewN_drewN _ _ _⟩ | exact ⟨rfl, _, Eq.trans (World.drewN_drewN _ _ _) (congrArg (World.drewN _) (Nat.add_assoc _ _ _))⟩)))
                          repeat (go_quiet (first | (go_at_call 46; (with_reducible refine (varint_Size.calls (IntKind.u64.wrap ((bt a0 0))) t102 _ A15.out).mono ?_); rintro e w' ⟨rfl, ⟨nd, rfl⟩⟩; (try first | exact ⟨rfl, _, World.drewN_drewN _ _ _⟩ | exact ⟨rfl, _, Eq.trans (World.drewN_drewN _ _ _) (congrArg (World.drewN _) (Nat.add_assoc _ _ _))⟩))); try go_wp2_with (first | (go_at_call 46; (with_reducible refine (varint_Size.calls (IntKind.u64.wrap ((bt a0 0))) t102 _ A15.out).mono ?_); rintro e w' ⟨rfl, ⟨nd, rfl⟩⟩; (try first | exact ⟨rfl, _, World.drewN_drewN _ _ _⟩ | exact ⟨rfl, _, Eq.trans (World.drewN_drewN _ _ _) (congrArg (World.drewN _) (Nat.add_assoc _ _ _))⟩))))
                          all_goals go_ret3
                          all_goals exact ⟨by first | rfl | (simp; done) | (simp [*]; done), by repeat (first | exact Drawn0.refl _ | apply Drawn0.step)⟩
                        · rw [if_neg c18] at H
                          exact absurd H (by simp)
                      · rw [if_neg c17] at H
                        exact absurd H (by simp)
                    · rw [if_neg c16] at H
                      have c16b0 : (t102 == x6_4) = false := beq_eq_false_iff_ne.mpr c16
                      have c16b1 : (t102 != x6_4) = true := bne_iff_ne.mpr c16
                      simp only [Option.some.injEq, Prod.mk.injEq] at H
                      obtain ⟨rfl, rfl, rfl⟩ := H
                      go_wp2_with (first | (go_at_call 46; (with_reducible refine (varint_Size.calls (IntKind.u64.wrap ((bt a0 0))) t102 _ A15.out).mono ?_); rintro e w' ⟨rfl, ⟨nd, rfl⟩⟩; (try first | exact ⟨rfl, _, World.drewN_drewN _ _ _⟩ | exact ⟨rfl, _, Eq.trans (World.drewN_drewN _ _ _) (congrArg (World.drewN _) (Nat.add_assoc _ _ _))⟩)))
                      repeat (go_quiet (first | (go_at_call 46; (with_reducible refine (varint_Size.calls (IntKind.u64.wrap ((bt a0 0))) t102 _ A15.out).mono ?_); rintro e w' ⟨rfl, ⟨nd, rfl⟩⟩; (try first | exact ⟨rfl, _, World.drewN_drewN _ _ _⟩ | exact ⟨rfl, _, Eq.trans (World.drewN_drewN _ _ _) (congrArg (World.drewN _) (Nat.add_assoc _ _ _))⟩))); try go_wp2_with (first | (go_at_call 46; (with_reducible refine (varint_Size.calls (IntKind.u64.wrap ((bt a0 0))) t102 _ A15.out).mono ?_); rintro e w' ⟨rfl, ⟨nd, rfl⟩⟩; (try first | exact ⟨rfl, _, World.drewN_drewN _ _ _⟩ | exact ⟨rfl, _, Eq.trans (World.drewN_drewN _ _ _) (congrArg (World.drewN _) (Nat.add_assoc _ _ _))⟩))))
                      all_goals go_ret3
                      all_goals exact ⟨by first | rfl | (simp; done) | (simp [*]; done), by repeat (first | exact Drawn0.refl _ | apply Drawn0.step)⟩
                  · rw [if_neg c14] at H
                    have c14b0 : (x6_4 == 1) = false := beq_eq_false_iff_ne.mpr c14
                    have c14b1 : (x6_4 != 1) = true := bne_iff_ne.mpr c14
                    by_cases c19 : x6_4 = 2
                    · rw [if_pos c19] at H
                      have c19b0 : (x6_4 == 2) = true := beq_iff_eq.mpr c19
                      have c19b1 : (x6_4 != 2) = false := bne_eq_false_iff_eq.mpr c19
                      clear c19
                      replace H := Option.bind_eq_some_iff.mp H
                      obtain ⟨t103, A200, H⟩ := H
                      replace H : (if t103 = x6_4 then (if 0 ≤ x6_4 then (if x6_4 ≤ (a0.size : Int) then (some (IntKind.u64.wrap (x7_2 + (240 + ((((bt a0 0) - 240 - 1) % 256) * 256))), a0.extract (x6_4 : Int).toNat a0.size, true)) else (none)) else (none)) else (some (0, (⟨#[]⟩ : ByteArray), false))) = some (r1, r2, r3) := H
                      have A20 := Aside0.mk A200
                      clear A200
                      by_cases c21 : t103 = x6_4
                      · rw [if_pos c21] at H
                        have c21b0 : (t103 == x6_4) = true := beq_iff_eq.mpr c21
                        have c21b1 : (t103 != x6_4) = false := bne_eq_false_iff_eq.mpr c21
                        clear c21
                        by_cases c22 : 0 ≤ x6_4
                        · rw [if_pos c22] at H
                          have c22b0 := eq_true c22
                          have c22b1 : decide (0 ≤ x6_4) = true := decide_eq_true c22
                          clear c22
                          by_cases c23 : x6_4 ≤ (a0.size : Int)
                          · rw [if_pos c23] at H
                            have c23b0 := eq_true c23
                            have c23b1 : decide (x6_4 ≤ (a0.size : Int)) = true := decide_eq_true c23
                            clear c23
                            simp only [Option.some.injEq, Prod.mk.injEq] at H
                            obtain ⟨rfl, rfl, rfl⟩ := H
                            go_wp2_with (first | (go_at_call 46; (with_reducible refine (varint_Size.calls (IntKind.u64.wrap (x7_2 + (240 + ((((bt a0 0) - 240 - 1) % 256) * 256)))) t103 _ A20.out).mono ?_); rintro e w' ⟨rfl, ⟨nd, rfl⟩⟩; (try first | exact ⟨rfl, _, World.drewN_drewN _ _ _⟩ | exact ⟨rfl, _, Eq.trans (World.drewN_drewN _ _ _) (congrArg (World.drewN _) (Nat.add_assoc _ _ _))⟩)))
                            repeat (go_quiet (first | (go_at_call 46; (with_reducible refine (varint_Size.calls (IntKind.u64.wrap (x7_2 + (240 + ((((bt a0 0) - 240 - 1) % 256) * 256)))) t103 _ A20.out).mono ?_); rintro e w' ⟨rfl, ⟨nd, rfl⟩⟩; (try first | exact ⟨rfl, _, World.drewN_drewN _ _ _⟩ | exact ⟨rfl, _, Eq.trans (World.drewN_drewN _ _ _) (congrArg (World.drewN _) (Nat.add_assoc _ _ _))⟩))); try go_wp2_with (first | (go_at_call 46; (with_reducible refine (varint_Size.calls (IntKind.u64.wrap (x7_2 + (240 + ((((bt a0 0) - 240 - 1) % 256) * 256)))) t103 _ A20.out).mono ?_); rintro e w' ⟨rfl, ⟨nd, rfl⟩⟩; (try first | exact ⟨rfl, _, World.drewN_drewN _ _ _⟩ | exact ⟨rfl, _, Eq.trans (World.drewN_drewN _ _ _) (congrArg (World.drewN _) (Nat.add_assoc _ _ _))⟩))))
                            all_goals go_ret3
                            all_goals exact ⟨by first | rfl | (simp; done) | (simp [*]; done), by repeat (first | exact Drawn0.refl _ | apply Drawn0.step)⟩
                          · rw [if_neg c23] at H
                            exact absurd H (by simp)
                        · rw [if_neg c22] at H
                          exact absurd H (by simp)
                      · rw [if_neg c21] at H
                        have c21b0 : (t103 == x6_4) = false := beq_eq_false_iff_ne.mpr c21
                        have c21b1 : (t103 != x6_4) = true := bne_iff_ne.mpr c21
                        simp only [Option.some.injEq, Prod.mk.injEq] at H
                        obtain ⟨rfl, rfl, rfl⟩ := H
                        go_wp2_with (first | (go_at_call 46; (with_reducible refine (varint_Size.calls (IntKind.u64.wrap (x7_2 + (240 + ((((bt a0 0) - 240 - 1) % 256) * 256)))) t103 _ A20.out).mono ?_); rintro e w' ⟨rfl, ⟨nd, rfl⟩⟩; (try first | exact ⟨rfl, _, World.drewN_drewN _ _ _⟩ | exact ⟨rfl, _, Eq.trans (World.drewN_drewN _ _ _) (congrArg (World.drewN _) (Nat.add_assoc _ _ _))⟩)))
                        repeat (go_quiet (first | (go_at_call 46; (with_reducible refine (varint_Size.calls (IntKind.u64.wrap (x7_2 + (240 + ((((bt a0 0) - 240 - 1) % 256) * 256)))) t103 _ A20.out).mono ?_); rintro e w' ⟨rfl, ⟨nd, rfl⟩⟩; (try first | exact ⟨rfl, _, World.drewN_drewN _ _ _⟩ | exact ⟨rfl, _, Eq.trans (World.drewN_drewN _ _ _) (congrArg (World.drewN _) (Nat.add_assoc _ _ _))⟩))); try go_wp2_with (first | (go_at_call 46; (with_reducible refine (varint_Size.calls (IntKind.u64.wrap (x7_2 + (240 + ((((bt a0 0) - 240 - 1) % 256) * 256)))) t103 _ A20.out).mono ?_); rintro e w' ⟨rfl, ⟨nd, rfl⟩⟩; (try first | exact ⟨rfl, _, World.drewN_drewN _ _ _⟩ | exact ⟨rfl, _, Eq.trans (World.drewN_drewN _ _ _) (congrArg (World.drewN _) (Nat.add_assoc _ _ _))⟩))))
                        all_goals go_ret3
                        all_goals exact ⟨by first | rfl | (simp; done) | (simp [*]; done), by repeat (first | exact Drawn0.refl _ | apply Drawn0.step)⟩
                    · rw [if_neg c19] at H
                      have c19b0 : (x6_4 == 2) = false := beq_eq_false_iff_ne.mpr c19
                      have c19b1 : (x6_4 != 2) = true := bne_iff_ne.mpr c19
                      by_cases c24 : x6_4 = 3
                      · rw [if_pos c24] at H
                        have c24b0 : (x6_4 == 3) = true := beq_iff_eq.mpr c24
                        have c24b1 : (x6_4 != 3) = false := bne_eq_false_iff_eq.mpr c24
                        clear c24
                        replace H := Option.bind_eq_some_iff.mp H
                        obtain ⟨t104, A250, H⟩ := H
                        replace H : (if t104 = x6_4 then (if 0 ≤ x6_4 then (if x6_4 ≤ (a0.size : Int) then (some (IntKind.u64.wrap (x7_2 + 2288), a0.extract (x6_4 : Int).toNat a0.size, true)) else (none)) else (none)) else (some (0, (⟨#[]⟩ : ByteArray), false))) = some (r1, r2, r3) := H
                        have A25 := Aside0.mk A250
                        clear A250
                        by_cases c26 : t104 = x6_4
                        · rw [if_pos c26] at H
                          have c26b0 : (t104 == x6_4) = true := beq_iff_eq.mpr c26
                          have c26b1 : (t104 != x6_4) = false := bne_eq_false_iff_eq.mpr c26
                          clear c26
                          by_cases c27 : 0 ≤ x6_4
                          · rw [if_pos c27] at H
                            have c27b0 := eq_true c27
                            have c27b1 : decide (0 ≤ x6_4) = true := decide_eq_true c27
                            clear c27
                            by_cases c28 : x6_4 ≤ (a0.size : Int)
                            · rw [if_pos c28] at H
                              have c28b0 := eq_true c28
                              have c28b1 : decide (x6_4 ≤ (a0.size : Int)) = true := decide_eq_true c28
                              clear c28
                              simp only [Option.some.injEq, Prod.mk.injEq] at H
                              obtain ⟨rfl, rfl, rfl⟩ := H
                              go_wp2_with (first | (go_at_call 46; (with_reducible refine (varint_Size.calls (IntKind.u64.wrap (x7_2 + 2288)) t104 _ A25.out).mono ?_); rintro e w' ⟨rfl, ⟨nd, rfl⟩⟩; (try first | exact ⟨rfl, _, World.drewN_drewN _ _ _⟩ | exact ⟨rfl, _, Eq.trans (World.drewN_drewN _ _ _) (congrArg (World.drewN _) (Nat.add_assoc _ _ _))⟩)))
                              repeat (go_quiet (first | (go_at_call 46; (with_reducible refine (varint_Size.calls (IntKind.u64.wrap (x7_2 + 2288)) t104 _ A25.out).mono ?_); rintro e w' ⟨rfl, ⟨nd, rfl⟩⟩; (try first | exact ⟨rfl, _, World.drewN_drewN _ _ _⟩ | exact ⟨rfl, _, Eq.trans (World.drewN_drewN _ _ _) (congrArg (World.drewN _) (Nat.add_assoc _ _ _))⟩))); try go_wp2_with (first | (go_at_call 46; (with_reducible refine (varint_Size.calls (IntKind.u64.wrap (x7_2 + 2288)) t104 _ A25.out).mono ?_); rintro e w' ⟨rfl, ⟨nd, rfl⟩⟩; (try first | exact ⟨rfl, _, World.drewN_drewN _ _ _⟩ | exact ⟨rfl, _, Eq.trans (World.drewN_drewN _ _ _) (congrArg (World.drewN _) (Nat.add_assoc _ _ _))⟩))))
                              all_goals go_ret3
                              all_goals exact ⟨by first | rfl | (simp; done) | (simp [*]; done), by repeat (first | exact Drawn0.refl _ | apply Drawn0.step)⟩
                            · rw [if_neg c28] at H
                              exact absurd H (by simp)
                          · rw [if_neg c27] at H
                            exact absurd H (by simp)
                        · rw [if_neg c26] at H
                          have c26b0 : (t104 == x6_4) = false := beq_eq_false_iff_ne.mpr c26
                          have c26b1 : (t104 != x6_4) = true := bne_iff_ne.mpr c26
                          simp only [Option.some.injEq, Prod.mk.injEq] at H
                          obtain ⟨rfl, rfl, rfl⟩ := H
                          go_wp2_with (first | (go_at_call 46; (with_reducible refine (varint_Size.calls (IntKind.u64.wrap (x7_2 + 2288)) t104 _ A25.out).mono ?_); rintro e w' ⟨rfl, ⟨nd, rfl⟩⟩; (try first | exact ⟨rfl, _, World.drewN_drewN _ _ _⟩ | exact ⟨rfl, _, Eq.trans (World.drewN_drewN _ _ _) (congrArg (World.drewN _) (Nat.add_assoc _ _ _))⟩)))
                          repeat (go_quiet (first | (go_at_call 46; (with_reducible refine (varint_Size.calls (IntKind.u64.wrap (x7_2 + 2288)) t104 _ A25.out).mono ?_); rintro e w' ⟨rfl, ⟨nd, rfl⟩⟩; (try first | exact ⟨rfl, _, World.drewN_drewN _ _ _⟩ | exact ⟨rfl, _, Eq.trans (World.drewN_drewN _ _ _) (congrArg (World.drewN _) (Nat.add_assoc _ _ _))⟩))); try go_wp2_with (first | (go_at_call 46; (with_reducible refine (varint_Size.calls (IntKind.u64.wrap (x7_2 + 2288)) t104 _ A25.out).mono ?_); rintro e w' ⟨rfl, ⟨nd, rfl⟩⟩; (try first | exact ⟨rfl, _, World.drewN_drewN _ _ _⟩ | exact ⟨rfl, _, Eq.trans (World.drewN_drewN _ _ _) (congrArg (World.drewN _) (Nat.add_assoc _ _ _))⟩))))
                          all_goals go_ret3
                          all_goals exact ⟨by first | rfl | (simp; done) | (simp [*]; done), by repeat (first | exact Drawn0.refl _ | apply Drawn0.step)⟩
                      · rw [if_neg c24] at H
                        have c24b0 : (x6_4 == 3) = false := beq_eq_false_iff_ne.mpr c24
                        have c24b1 : (x6_4 != 3) = true := bne_iff_ne.mpr c24
                        replace H := Option.bind_eq_some_iff.mp H
                        obtain ⟨t105, A290, H⟩ := H
                        replace H : (if t105 = x6_4 then (if 0 ≤ x6_4 then (if x6_4 ≤ (a0.size : Int) then (some (x7_2, a0.extract (x6_4 : Int).toNat a0.size, true)) else (none)) else (none)) else (some (0, (⟨#[]⟩ : ByteArray), false))) = some (r1, r2, r3) := H
                        have A29 := Aside0.mk A290
                        clear A290
                        by_cases c30 : t105 = x6_4
                        · rw [if_pos c30] at H
                          have c30b0 : (t105 == x6_4) = true := beq_iff_eq.mpr c30
                          have c30b1 : (t105 != x6_4) = false := bne_eq_false_iff_eq.mpr c30
                          clear c30
                          by_cases c31 : 0 ≤ x6_4
                          · rw [if_pos c31] at H
                            have c31b0 := eq_true c31
                            have c31b1 : decide (0 ≤ x6_4) = true := decide_eq_true c31
                            clear c31
                            by_cases c32 : x6_4 ≤ (a0.size : Int)
                            · rw [if_pos c32] at H
                              have c32b0 := eq_true c32
                              have c32b1 : decide (x6_4 ≤ (a0.size : Int)) = true := decide_eq_true c32
                              clear c32
                              simp only [Option.some.injEq, Prod.mk.injEq] at H
                              obtain ⟨rfl, rfl, rfl⟩ := H
                              go_wp2_with (first | (go_at_call 46; (with_reducible refine (varint_Size.calls x7_2 t105 _ A29.out).mono ?_); rintro e w' ⟨rfl, ⟨nd, rfl⟩⟩; (try first | exact ⟨rfl, _, World.drewN_drewN _ _ _⟩ | exact ⟨rfl, _, Eq.trans (World.drewN_drewN _ _ _) (congrArg (World.drewN _) (Nat.add_assoc _ _ _))⟩)))
                              repeat (go_quiet (first | (go_at_call 46; (with_reducible refine (varint_Size.calls x7_2 t105 _ A29.out).mono ?_); rintro e w' ⟨rfl, ⟨nd, rfl⟩⟩; (try first | exact ⟨rfl, _, World.drewN_drewN _ _ _⟩ | exact ⟨rfl, _, Eq.trans (World.drewN_drewN _ _ _) (congrArg (World.drewN _) (Nat.add_assoc _ _ _))⟩))); try go_wp2_with (first | (go_at_call 46; (with_reducible refine (varint_Size.calls x7_2 t105 _ A29.out).mono ?_); rintro e w' ⟨rfl, ⟨nd, rfl⟩⟩; (try first | exact ⟨rfl, _, World.drewN_drewN _ _ _⟩ | exact ⟨rfl, _, Eq.trans (World.drewN_drewN _ _ _) (congrArg (World.drewN _) (Nat.add_assoc _ _ _))⟩))))
                              all_goals go_ret3
                              all_goals exact ⟨by first | rfl | (simp; done) | (simp [*]; done), by repeat (first | exact Drawn0.refl _ | apply Drawn0.step)⟩
                            · rw [if_neg c32] at H
                              exact absurd H (by simp)
                          · rw [if_neg c31] at H
                            exact absurd H (by simp)
                        · rw [if_neg c30] at H
                          have c30b0 : (t105 == x6_4) = false := beq_eq_false_iff_ne.mpr c30
                          have c30b1 : (t105 != x6_4) = true := bne_iff_ne.mpr c30
                          simp only [Option.some.injEq, Prod.mk.injEq] at H
                          obtain ⟨rfl, rfl, rfl⟩ := H
                          go_wp2_with (first | (go_at_call 46; (with_reducible refine (varint_Size.calls x7_2 t105 _ A29.out).mono ?_); rintro e w' ⟨rfl, ⟨nd, rfl⟩⟩; (try first | exact ⟨rfl, _, World.drewN_drewN _ _ _⟩ | exact ⟨rfl, _, Eq.trans (World.drewN_drewN _ _ _) (congrArg (World.drewN _) (Nat.add_assoc _ _ _))⟩)))
                          repeat (go_quiet (first | (go_at_call 46; (with_reducible refine (varint_Size.calls x7_2 t105 _ A29.out).mono ?_); rintro e w' ⟨rfl, ⟨nd, rfl⟩⟩; (try first | exact ⟨rfl, _, World.drewN_drewN _ _ _⟩ | exact ⟨rfl, _, Eq.trans (World.drewN_drewN _ _ _) (congrArg (World.drewN _) (Nat.add_assoc _ _ _))⟩))); try go_wp2_with (first | (go_at_call 46; (with_reducible refine (varint_Size.calls x7_2 t105 _ A29.out).mono ?_); rintro e w' ⟨rfl, ⟨nd, rfl⟩⟩; (try first | exact ⟨rfl, _, World.drewN_drewN _ _ _⟩ | exact ⟨rfl, _, Eq.trans (World.drewN_drewN _ _ _) (congrArg (World.drewN _) (Nat.add_assoc _ _ _))⟩))))
                          all_goals go_ret3
                          all_goals exact ⟨by first | rfl | (simp; done) | (simp [*]; done), by repeat (first | exact Drawn0.refl _ | apply Drawn0.step)⟩
    · rw [if_neg c3] at H
      exact absurd H (by simp)
def block_take.f (k : Nat) (a0 : ByteArray) (a1 : Int) : Option (Int × ByteArray × Bool) := (varint_Take.f k a0).bind fun bt106 => (if bt106.2.2 = true then (if bt106.1 > (IntKind.u64.wrap (a1)) then (some (0, (⟨#[]⟩ : ByteArray), false)) else (some (wrap64 (bt106.1), bt106.2.1, true))) else (some (0, (⟨#[]⟩ : ByteArray), false)))
theorem block_take.mono : ∀ a0 a1 k, LeO (block_take.f k a0 a1) (block_take.f (k + 1) a0 a1) := by
  intro a0 a1 k
  unfold block_take.f
  repeat' first
      | (with_reducible exact varint_Take.mono _ _)
      | (with_reducible exact LeO.refl _)
      | (with_reducible exact LeO.none _)
      | (with_reducible refine LeO.ite ?_ ?_)
      | (with_reducible refine LeO.bind ?_ (fun _ => ?_))
      | exact varint_Take.mono _ _
      | exact LeO.none _
      | refine LeO.ite ?_ ?_
      | refine LeO.bind ?_ (fun _ => ?_)
set_option maxHeartbeats 8000000 in
set_option maxRecDepth 100000 in
theorem block_take.calls (k : Nat) (a0 : ByteArray) (a1 : Int) (r1 : Int) (r2 : ByteArray) (r3 : Bool) (w : World) (h : block_take.f k a0 a1 = some (r1, r2, r3)) :
    Calls Try.prog 40 #[.string a0, .int .i64 a1] w fun e w' => e = .returned (.tuple #[.int .i64 r1, .string r2, .bool r3]) ∧ Drawn0 w w' := by
  have H : ((varint_Take.f k a0).bind fun bt106 => (if bt106.2.2 = true then (if bt106.1 > (IntKind.u64.wrap (a1)) then (some (0, (⟨#[]⟩ : ByteArray), false)) else (some (wrap64 (bt106.1), bt106.2.1, true))) else (some (0, (⟨#[]⟩ : ByteArray), false)))) = some (r1, r2, r3) := h
  clear h
  replace H := Option.bind_eq_some_iff.mp H
  obtain ⟨⟨t106, t107, t108⟩, A30, H⟩ := H
  replace H : (if t108 = true then (if t106 > (IntKind.u64.wrap (a1)) then (some (0, (⟨#[]⟩ : ByteArray), false)) else (some (wrap64 (t106), t107, true))) else (some (0, (⟨#[]⟩ : ByteArray), false))) = some (r1, r2, r3) := H
  have A3 := Aside0.mk A30
  clear A30
  by_cases c4 : t108 = true
  · subst c4
    have H1 : (if t106 > (IntKind.u64.wrap (a1)) then (some (0, (⟨#[]⟩ : ByteArray), false)) else (some (wrap64 (t106), t107, true))) = some (r1, r2, r3) := by rw [if_pos rfl] at H; exact H
    clear H
    have H := H1
    clear H1
    by_cases c5 : t106 > (IntKind.u64.wrap (a1))
    · rw [if_pos c5] at H
      have c5b0 : decide ((IntKind.u64.wrap (a1)) < t106) = true := decide_eq_true c5
      clear c5
      simp only [Option.some.injEq, Prod.mk.injEq] at H
      obtain ⟨rfl, rfl, rfl⟩ := H
      go_enter Try.func40, Try.ntmps40
      go_wp2_with (first | ((with_reducible refine gate_callee (f := 45) rfl ?_); refine goesL_ (some 12) rfl rfl Try.func45 (by kernel_rfl) rfl #[.string a0] rfl (by (try simp only [List.map_toArray, List.map_cons, List.map_nil]); first | done | rfl | (simp only [List.length_drop, List.length_take]; rfl)) ?_; (with_reducible refine (varint_Take.calls k a0 t106 t107 true _ A3.out).mono ?_); rintro e w' ⟨rfl, ⟨nd, rfl⟩⟩; refine ⟨_, rfl, ?_⟩))
      all_goals go_ret3
      all_goals exact ⟨by first | rfl | (simp; done) | (simp [*]; done), by repeat (first | exact Drawn0.refl _ | apply Drawn0.step)⟩
    · rw [if_neg c5] at H
      have c5b0 : decide ((IntKind.u64.wrap (a1)) < t106) = false := decide_eq_false c5
      clear c5
      simp only [Option.some.injEq, Prod.mk.injEq] at H
      obtain ⟨rfl, rfl, rfl⟩ := H
      go_enter Try.func40, Try.ntmps40
      go_wp2_with (first | ((with_reducible refine gate_callee (f := 45) rfl ?_); refine goesL_ (some 12) rfl rfl Try.func45 (by kernel_rfl) rfl #[.string a0] rfl (by (try simp only [List.map_toArray, List.map_cons, List.map_nil]); first | done | rfl | (simp only [List.length_drop, List.length_take]; rfl)) ?_; (with_reducible refine (varint_Take.calls k a0 t106 t107 true _ A3.out).mono ?_); rintro e w' ⟨rfl, ⟨nd, rfl⟩⟩; refine ⟨_, rfl, ?_⟩))
      all_goals go_ret3
      all_goals exact ⟨by first | rfl | (simp; done) | (simp [*]; done), by repeat (first | exact Drawn0.refl _ | apply Drawn0.step)⟩
  · replace c4 := Bool.eq_false_iff.mpr c4
    subst c4
    have H1 : (some (0, (⟨#[]⟩ : ByteArray), false)) = some (r1, r2, r3) := by rw [if_neg (show ¬ (false = true) by decide)] at H; exact H
    clear H
    have H := H1
    clear H1
    simp only [Option.some.injEq, Prod.mk.injEq] at H
    obtain ⟨rfl, rfl, rfl⟩ := H
    go_enter Try.func40, Try.ntmps40
    go_wp2_with (first | ((with_reducible refine gate_callee (f := 45) rfl ?_); refine goesL_ (some 12) rfl rfl Try.func45 (by kernel_rfl) rfl #[.string a0] rfl (by (try simp only [List.map_toArray, List.map_cons, List.map_nil]); first | done | rfl | (simp only [List.length_drop, List.length_take]; rfl)) ?_; (with_reducible refine (varint_Take.calls k a0 t106 t107 false _ A3.out).mono ?_); rintro e w' ⟨rfl, ⟨nd, rfl⟩⟩; refine ⟨_, rfl, ?_⟩))
    all_goals go_ret3
    all_goals exact ⟨by first | rfl | (simp; done) | (simp [*]; done), by repeat (first | exact Drawn0.refl _ | apply Drawn0.step)⟩
end Go.Proofs.Ytbhainkcdkgbbaa.P

