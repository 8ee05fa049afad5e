import Derived.Test.YtbhainkcdkgbbaaProg
import Derived.Below
import Derived.Deep.Draws
import Derived.Deep.AppendLies
import Derived.Maps.AppendAt
import Derived.OwnWalk
import Derived.Laws.BytesArg
import Derived.Laws.MakeOwn
import Derived.Laws.OwnMore
import Derived.Deep.OwnRows
import Derived.Tactics
import Derived.Lib.ConvBytes
import Derived.Laws.Slices
import Derived.WalkKit
import Derived.KernelRfl
import Derived.RowKit3
import Derived.Deep.LoopGhost
import Derived.Deep.QuietTactic
import Derived.BigQuiet
import Derived.WideLaws
import Derived.Deep.DeepCutAuto
import Derived.Deep.CutBlock
import Derived.Deep.RegionHeld3
import Derived.Laws.Rows
import Derived.Lib.AppendStr
import Derived.ArgAppend
import Derived.Laws.IdiomCopy
import Derived.OrdersHeld
import Derived.Laws.BitsLemmas
import Derived.RowKit
import Derived.Lib.Hide
import Derived.Laws.ShiftsVar
import Derived.Laws.ShiftsVarLaws
import Derived.Laws.BitsAllLaws
import Derived.Shelf.Strings.Builder1
import Derived.Laws.Strings
import Derived.Laws.StructEq
import Derived.WalkSpells
import Derived.Outline
import Derived.RegionTactic
import Derived.Deep.RegionWith
import Derived.StillTailTactics
import Derived.Test.YtbhainkcdkgbbaaQ0
import Derived.Test.YtbhainkcdkgbbaaQ1
import Derived.Test.YtbhainkcdkgbbaaQ2
import Derived.Test.YtbhainkcdkgbbaaQ4
import Derived.Test.YtbhainkcdkgbbaaQ5
import Derived.Test.YtbhainkcdkgbbaaQ8
import Derived.Test.YtbhainkcdkgbbaaQ11
import Derived.Test.YtbhainkcdkgbbaaQ14
import Derived.Test.YtbhainkcdkgbbaaQ15
import Derived.Test.YtbhainkcdkgbbaaQ18
import Derived.Test.YtbhainkcdkgbbaaQ31
namespace Go.Proofs.Ytbhainkcdkgbbaa.Sl
end Go.Proofs.Ytbhainkcdkgbbaa.Sl
namespace Go.Proofs.Ytbhainkcdkgbbaa.Vp
end Go.Proofs.Ytbhainkcdkgbbaa.Vp
namespace Go.Proofs.YtbhainkcdkgbbaaW.PrintLast
end Go.Proofs.YtbhainkcdkgbbaaW.PrintLast
namespace Go.Proofs.YtbhainkcdkgbbaaW.PrintMore
end Go.Proofs.YtbhainkcdkgbbaaW.PrintMore
namespace Go.Proofs.YtbhainkcdkgbbaaW.PrintWords
end Go.Proofs.YtbhainkcdkgbbaaW.PrintWords
namespace Go.Proofs.Ytbhainkcdkgbbaa.P
open Go.RowKit Go.Proofs.Ytbhainkcdkgbbaa.Vp Go.Proofs.Ytbhainkcdkgbbaa.Sl Go.Proofs.YtbhainkcdkgbbaaW.PrintWords Go.Proofs.YtbhainkcdkgbbaaW.PrintLast Go.Proofs.YtbhainkcdkgbbaaW.PrintMore
attribute [local go_sem] str_gtr str_leq str_geq max2_int min2_int max_two min_two max_three min_three max_four min_four
set_option linter.unusedVariables false
set_option linter.unusedSimpArgs false
mutual
def moultlaw8_BlockRows.j0 : Nat → List (S43) → Int → Bool → Bool → Option (Bool)
  | 0, _, _, _, _ => none
  | k + 1, x0, x1, x5, x24 => if x24 = true then (some x5) else ((block_Split.f k x0 x1).bind fun t440 => (moultlaw8_BlockRows.l0 k x0 x1 t440 ([] : List (S43)) 0))
def moultlaw8_BlockRows.l0 : Nat → List (S43) → Int → List (List (S43)) → List (S43) → Int → Option (Bool)
  | 0, _, _, _, _, _ => none
  | k + 1, x0, x1, x8, x9, x10 => if x10 < (x8.length : Int) then (moultlaw8_BlockRows.l1 k x0 x1 x8 x9 x10 0 0) else ((moultlaw8_same.f k x9 x0).bind fun t443 => (some t443))
def moultlaw8_BlockRows.l1 : Nat → List (S43) → Int → List (List (S43)) → List (S43) → Int → Int → Int → Option (Bool)
  | 0, _, _, _, _, _, _, _ => none
  | k + 1, x0, x1, x8, x9, x10, x11, x12 => if 0 ≤ x10 then (if x10 < (x8.length : Int) then (if x12 < ((rd_L5 x8 x10).length : Int) then (if x11 ≥ x1 then (if x12 > 0 then (some false) else (if 0 ≤ x12 then (moultlaw8_BlockRows.l1 k x0 x1 x8 x9 x10 (wrap64 ((wrap64 (x11 + (((rd_T43 (rd_L5 x8 x10) x12).f0).size : Int))) + (((rd_T43 (rd_L5 x8 x10) x12).f1).size : Int))) (wrap64 (x12 + 1))) else (none))) else (if 0 ≤ x12 then (moultlaw8_BlockRows.l1 k x0 x1 x8 x9 x10 (wrap64 ((wrap64 (x11 + (((rd_T43 (rd_L5 x8 x10) x12).f0).size : Int))) + (((rd_T43 (rd_L5 x8 x10) x12).f1).size : Int))) (wrap64 (x12 + 1))) else (none))) else (if ((rd_L5 x8 x10).length : Int) = 0 then (some false) else (if x11 < x1 then (if x10 < (wrap64 ((x8.length : Int) - 1)) then (some false) else (if x9.length + (rd_L5 x8 x10).length < 4398046511104 then (moultlaw8_BlockRows.l0 k x0 x1 x8 (x9 ++ (rd_L5 x8 x10)) (wrap64 (x10 + 1))) else (none))) else (if x9.length + (rd_L5 x8 x10).length < 4398046511104 then (moultlaw8_BlockRows.l0 k x0 x1 x8 (x9 ++ (rd_L5 x8 x10)) (wrap64 (x10 + 1))) else (none))))) else (none)) else (none)
end
def moultlaw8_BlockRows.f (k : Nat) (l0 : List (S43)) (a1 : Int) : Option (Bool) := (moultlaw8_shown.f k).bind fun t435 => ((moultlaw8_as.f k l0).bind fun bt436 => (if t435 = true then (moultlaw8_BlockRows.j0 k l0 a1 t435 (!bt436.2)) else (moultlaw8_BlockRows.j0 k l0 a1 t435 true)))
theorem moultlaw8_BlockRows.mono_l : ∀ k, (∀ y0 y1 y2 y3, LeO (moultlaw8_BlockRows.j0 k y0 y1 y2 y3) (moultlaw8_BlockRows.j0 (k + 1) y0 y1 y2 y3)) ∧ (∀ y0 y1 y2 y3 y4, LeO (moultlaw8_BlockRows.l0 k y0 y1 y2 y3 y4) (moultlaw8_BlockRows.l0 (k + 1) y0 y1 y2 y3 y4)) ∧ (∀ y0 y1 y2 y3 y4 y5 y6, LeO (moultlaw8_BlockRows.l1 k y0 y1 y2 y3 y4 y5 y6) (moultlaw8_BlockRows.l1 (k + 1) y0 y1 y2 y3 y4 y5 y6))
  | 0 => ⟨fun _ _ _ _ r h => by simp [moultlaw8_BlockRows.j0] at h, fun _ _ _ _ _ r h => by simp [moultlaw8_BlockRows.l0] at h, fun _ _ _ _ _ _ _ r h => by simp [moultlaw8_BlockRows.l1] at h⟩
  | k + 1 => by
    obtain ⟨ih0, ih1, ih2⟩ := moultlaw8_BlockRows.mono_l k
    refine ⟨?_, ?_, ?_⟩
    · intro y0 y1 y2 y3
      unfold moultlaw8_BlockRows.j0
      repeat' first
      | (with_reducible exact ih0 _ _ _ _)
      | (with_reducible exact ih1 _ _ _ _ _)
      | (with_reducible exact ih2 _ _ _ _ _ _ _)
      | (with_reducible exact block_Split.mono _ _ _)
      | (with_reducible exact moultlaw8_as.mono _ _)
      | (with_reducible exact moultlaw8_same.mono _ _ _)
      | (with_reducible exact moultlaw8_shown.mono _)
      | (with_reducible exact LeO.refl _)
      | (with_reducible exact LeO.none _)
      | (with_reducible refine LeO.ite ?_ ?_)
      | (with_reducible refine LeO.bind ?_ (fun _ => ?_))
      | exact ih0 _ _ _ _
      | exact ih1 _ _ _ _ _
      | exact ih2 _ _ _ _ _ _ _
      | exact block_Split.mono _ _ _
      | exact moultlaw8_as.mono _ _
      | exact moultlaw8_same.mono _ _ _
      | exact moultlaw8_shown.mono _
      | exact LeO.none _
      | refine LeO.ite ?_ ?_
      | refine LeO.bind ?_ (fun _ => ?_)
    · intro y0 y1 y2 y3 y4
      unfold moultlaw8_BlockRows.l0
      repeat' first
      | (with_reducible exact ih0 _ _ _ _)
      | (with_reducible exact ih1 _ _ _ _ _)
      | (with_reducible exact ih2 _ _ _ _ _ _ _)
      | (with_reducible exact block_Split.mono _ _ _)
      | (with_reducible exact moultlaw8_as.mono _ _)
      | (with_reducible exact moultlaw8_same.mono _ _ _)
      | (with_reducible exact moultlaw8_shown.mono _)
      | (with_reducible exact LeO.refl _)
      | (with_reducible exact LeO.none _)
      | (with_reducible refine LeO.ite ?_ ?_)
      | (with_reducible refine LeO.bind ?_ (fun _ => ?_))
      | exact ih0 _ _ _ _
      | exact ih1 _ _ _ _ _
      | exact ih2 _ _ _ _ _ _ _
      | exact block_Split.mono _ _ _
      | exact moultlaw8_as.mono _ _
      | exact moultlaw8_same.mono _ _ _
      | exact moultlaw8_shown.mono _
      | exact LeO.none _
      | refine LeO.ite ?_ ?_
      | refine LeO.bind ?_ (fun _ => ?_)
    · intro y0 y1 y2 y3 y4 y5 y6
      unfold moultlaw8_BlockRows.l1
      repeat' first
      | (with_reducible exact ih0 _ _ _ _)
      | (with_reducible exact ih1 _ _ _ _ _)
      | (with_reducible exact ih2 _ _ _ _ _ _ _)
      | (with_reducible exact block_Split.mono _ _ _)
      | (with_reducible exact moultlaw8_as.mono _ _)
      | (with_reducible exact moultlaw8_same.mono _ _ _)
      | (with_reducible exact moultlaw8_shown.mono _)
      | (with_reducible exact LeO.refl _)
      | (with_reducible exact LeO.none _)
      | (with_reducible refine LeO.ite ?_ ?_)
      | (with_reducible refine LeO.bind ?_ (fun _ => ?_))
      | exact ih0 _ _ _ _
      | exact ih1 _ _ _ _ _
      | exact ih2 _ _ _ _ _ _ _
      | exact block_Split.mono _ _ _
      | exact moultlaw8_as.mono _ _
      | exact moultlaw8_same.mono _ _ _
      | exact moultlaw8_shown.mono _
      | exact LeO.none _
      | refine LeO.ite ?_ ?_
      | refine LeO.bind ?_ (fun _ => ?_)
theorem moultlaw8_BlockRows.mono : ∀ a0 a1 k, LeO (moultlaw8_BlockRows.f k a0 a1) (moultlaw8_BlockRows.f (k + 1) a0 a1) := by
  intro a0 a1 k
  obtain ⟨ih0, ih1, ih2⟩ := moultlaw8_BlockRows.mono_l k
  unfold moultlaw8_BlockRows.f
  repeat' first
      | (with_reducible exact ih0 _ _ _ _)
      | (with_reducible exact ih1 _ _ _ _ _)
      | (with_reducible exact ih2 _ _ _ _ _ _ _)
      | (with_reducible exact block_Split.mono _ _ _)
      | (with_reducible exact moultlaw8_as.mono _ _)
      | (with_reducible exact moultlaw8_same.mono _ _ _)
      | (with_reducible exact moultlaw8_shown.mono _)
      | (with_reducible exact LeO.refl _)
      | (with_reducible exact LeO.none _)
      | (with_reducible refine LeO.ite ?_ ?_)
      | (with_reducible refine LeO.bind ?_ (fun _ => ?_))
      | exact ih0 _ _ _ _
      | exact ih1 _ _ _ _ _
      | exact ih2 _ _ _ _ _ _ _
      | exact block_Split.mono _ _ _
      | exact moultlaw8_as.mono _ _
      | exact moultlaw8_same.mono _ _ _
      | exact moultlaw8_shown.mono _
      | exact LeO.none _
      | refine LeO.ite ?_ ?_
      | refine LeO.bind ?_ (fun _ => ?_)
set_option maxHeartbeats 8000000 in
set_option maxRecDepth 100000 in
theorem moultlaw8_BlockRows.calls (k : Nat) (A0 : Option Addr) (c0 : Nat) (l0 : List (S43)) (a1 : Int) (r : Bool) (w : World) (hr0 : Kd.C k43 w A0 l0.length l0) (hc0 : l0.length ≤ c0) (h : moultlaw8_BlockRows.f k l0 a1 = some r) :
    Calls Try.prog 8 #[.slice A0 l0.length c0, .int .i64 a1] w fun e w' => e = .returned (.bool r) ∧ Below w.heap.size w w' := by
  have HR0 := Aside0.mk hr0
  have HC0 := Aside0.mk hc0
  clear hr0 hc0
  have HB := Aside0.mk (Below.refl w.heap.size w)
  have H : ((moultlaw8_shown.f k).bind fun t435 => ((moultlaw8_as.f k l0).bind fun bt436 => (if t435 = true then (moultlaw8_BlockRows.j0 k l0 a1 t435 (!bt436.2)) else (moultlaw8_BlockRows.j0 k l0 a1 t435 true)))) = some r := h
  clear h
  replace H := Option.bind_eq_some_iff.mp H
  obtain ⟨t435, A30, H⟩ := H
  replace H : ((moultlaw8_as.f k l0).bind fun bt436 => (if t435 = true then (moultlaw8_BlockRows.j0 k l0 a1 t435 (!bt436.2)) else (moultlaw8_BlockRows.j0 k l0 a1 t435 true))) = some r := H
  have A3 := Aside0.mk A30
  clear A30
  replace H := Option.bind_eq_some_iff.mp H
  obtain ⟨⟨t436, t437⟩, A40, H⟩ := H
  replace H : (if t435 = true then (moultlaw8_BlockRows.j0 k l0 a1 t435 (!t437)) else (moultlaw8_BlockRows.j0 k l0 a1 t435 true)) = some r := H
  have A4 := Aside0.mk A40
  clear A40
  have HC5 := Aside0.mk H
  clear H
  go_enter Try.func8, Try.ntmps8
  go_upto_region 3 with (first | (go_at_call 9; (with_reducible refine (moultlaw8_shown.calls k  t435 _ A3.out).mono ?_); rintro e w6 ⟨rfl, hb⟩; have n0_ := Aside0.mk (below_step (by repeat (first | (with_reducible first | exact HB.out | apply below_alloc | apply pw_below_drewN | apply below_drew1) | exact HB.out)) hb); clear HB; have HB := n0_; clear n0_; (try clear hb); (try clear hb2); (try clear hk); (try clear hi)) | (go_at_call 17; (with_reducible refine (moultlaw8_as.calls k _ _ l0 t436 t437 _ ?side1 ?side2 A4.out).mono ?_); (case side1 => repeat (first | exact (Kd.C_below HR0.out HB.out) | (with_reducible refine Kd.C_alloc ?_ _) | (with_reducible refine Kd.C_drewN ?_ _) | (with_reducible refine Kd.C_drew ?_))); (case side2 => exact HC0.out); rintro e w7 ⟨v438, rfl, ho0, hb⟩; have n0_ := Aside0.mk (Kd.R_lower ho0 (below_size (by repeat (first | (with_reducible first | exact HB.out | apply below_alloc | apply pw_below_drewN | apply below_drew1) | exact HB.out)))); have n1_ := Aside0.mk (below_step (by repeat (first | (with_reducible first | exact HB.out | apply below_alloc | apply pw_below_drewN | apply below_drew1) | exact HB.out)) hb); clear HB; have HO439 := n0_; have HB := n1_; clear n0_ n1_; (try clear hb); (try clear hb2); (try clear hk); (try clear hi); (try clear ho0)))
  repeat (go_quiet (first | (go_at_call 9; (with_reducible refine (moultlaw8_shown.calls k  t435 _ A3.out).mono ?_); rintro e w6 ⟨rfl, hb⟩; have n0_ := Aside0.mk (below_step (by repeat (first | (with_reducible first | exact HB.out | apply below_alloc | apply pw_below_drewN | apply below_drew1) | exact HB.out)) hb); clear HB; have HB := n0_; clear n0_; (try clear hb); (try clear hb2); (try clear hk); (try clear hi)) | (go_at_call 17; (with_reducible refine (moultlaw8_as.calls k _ _ l0 t436 t437 _ ?side1 ?side2 A4.out).mono ?_); (case side1 => repeat (first | exact (Kd.C_below HR0.out HB.out) | (with_reducible refine Kd.C_alloc ?_ _) | (with_reducible refine Kd.C_drewN ?_ _) | (with_reducible refine Kd.C_drew ?_))); (case side2 => exact HC0.out); rintro e w7 ⟨v438, rfl, ho0, hb⟩; have n0_ := Aside0.mk (Kd.R_lower ho0 (below_size (by repeat (first | (with_reducible first | exact HB.out | apply below_alloc | apply pw_below_drewN | apply below_drew1) | exact HB.out)))); have n1_ := Aside0.mk (below_step (by repeat (first | (with_reducible first | exact HB.out | apply below_alloc | apply pw_below_drewN | apply below_drew1) | exact HB.out)) hb); clear HB; have HO439 := n0_; have HB := n1_; clear n0_ n1_; (try clear hb); (try clear hb2); (try clear hk); (try clear hi); (try clear ho0))); go_upto_region 3 with (first | (go_at_call 9; (with_reducible refine (moultlaw8_shown.calls k  t435 _ A3.out).mono ?_); rintro e w6 ⟨rfl, hb⟩; have n0_ := Aside0.mk (below_step (by repeat (first | (with_reducible first | exact HB.out | apply below_alloc | apply pw_below_drewN | apply below_drew1) | exact HB.out)) hb); clear HB; have HB := n0_; clear n0_; (try clear hb); (try clear hb2); (try clear hk); (try clear hi)) | (go_at_call 17; (with_reducible refine (moultlaw8_as.calls k _ _ l0 t436 t437 _ ?side1 ?side2 A4.out).mono ?_); (case side1 => repeat (first | exact (Kd.C_below HR0.out HB.out) | (with_reducible refine Kd.C_alloc ?_ _) | (with_reducible refine Kd.C_drewN ?_ _) | (with_reducible refine Kd.C_drew ?_))); (case side2 => exact HC0.out); rintro e w7 ⟨v438, rfl, ho0, hb⟩; have n0_ := Aside0.mk (Kd.R_lower ho0 (below_size (by repeat (first | (with_reducible first | exact HB.out | apply below_alloc | apply pw_below_drewN | apply below_drew1) | exact HB.out)))); have n1_ := Aside0.mk (below_step (by repeat (first | (with_reducible first | exact HB.out | apply below_alloc | apply pw_below_drewN | apply below_drew1) | exact HB.out)) hb); clear HB; have HO439 := n0_; have HB := n1_; clear n0_ n1_; (try clear hb); (try clear hb2); (try clear hk); (try clear hi); (try clear ho0))))
  (try simp only [Act.put, List.setIfInBounds_toArray, List.set_cons_zero, List.set_cons_succ])
  go_cut [24] (fun v24 wc => ∃ (kq : Nat) (x24_4 : Bool), v24 = .bool x24_4 ∧ Aside0 (moultlaw8_BlockRows.j0 kq l0 a1 t435 x24_4 = some r) ∧ Aside0 (kq ≤ k) ∧ Aside0 (Below w.heap.size w wc))
  case first =>
    have H := HC5.out
    clear HC5
    by_cases c8 : t435 = true
    · subst c8
      have H1 : (moultlaw8_BlockRows.j0 k l0 a1 true (!t437)) = some r := by rw [if_pos rfl] at H; exact H
      clear H
      have H := H1
      clear H1
      have H' := Aside0.mk H
      clear H
      go_wp2
      repeat (go_quiet (fail); try go_wp2)
      go_meet
      case rel => exact ⟨_, (!t437), (by first | rfl | (simp; done) | (simp [*]; done)), H', ⟨by first | omega | exact Nat.le_refl _⟩, ⟨by repeat (first | (with_reducible first | exact HB.out | apply below_alloc | apply pw_below_drewN | apply below_drew1) | exact HB.out)⟩⟩
    · replace c8 := Bool.eq_false_iff.mpr c8
      subst c8
      have H1 : (moultlaw8_BlockRows.j0 k l0 a1 false true) = some r := by rw [if_neg (show ¬ (false = true) by decide)] at H; exact H
      clear H
      have H := H1
      clear H1
      have H' := Aside0.mk H
      clear H
      go_wp2
      repeat (go_quiet (fail); try go_wp2)
      go_meet
      case rel => exact ⟨_, (true), (by first | rfl | (simp; done) | (simp [*]; done)), H', ⟨by first | omega | exact Nat.le_refl _⟩, ⟨by repeat (first | (with_reducible first | exact HB.out | apply below_alloc | apply pw_below_drewN | apply below_drew1) | exact HB.out)⟩⟩
  case rest =>
    clear HC5
    try clear p2
    try clear c8
    obtain ⟨kq, x24_4, rfl, HA, HJ4, HB⟩ := hcut
    cases kq with
    | zero => exact absurd HA.out (by simp [moultlaw8_BlockRows.j0])
    | succ kj4 =>
      have H := HA.out
      clear HA
      simp only [moultlaw8_BlockRows.j0] at H
      by_cases c9 : x24_4 = true
      · subst c9
        have H1 : (some t435) = some r := by rw [if_pos rfl] at H; exact H
        clear H
        have H := H1
        clear H1
        obtain rfl := Option.some.inj H
        go_wp2
        repeat (go_quiet (fail); try go_wp2)
        all_goals go_ret
        all_goals exact ⟨by first | rfl | (simp [errW_none, errW_some] <;> rfl) | (simp [*, errW_none, errW_some] <;> rfl), by repeat (first | (with_reducible first | exact HB.out | apply below_alloc | apply pw_below_drewN | apply below_drew1) | exact HB.out)⟩
      · replace c9 := Bool.eq_false_iff.mpr c9
        subst c9
        have H1 : ((block_Split.f kj4 l0 a1).bind fun t440 => (moultlaw8_BlockRows.l0 kj4 l0 a1 t440 ([] : List (S43)) 0)) = some r := by rw [if_neg (show ¬ (false = true) by decide)] at H; exact H
        clear H
        have H := H1
        clear H1
        replace H := Option.bind_eq_some_iff.mp H
        obtain ⟨t440, A100, H⟩ := H
        replace H : (moultlaw8_BlockRows.l0 kj4 l0 a1 t440 ([] : List (S43)) 0) = some r := H
        have A10 := Aside0.mk A100
        clear A100
        have H' := Aside0.mk H
        clear H
        go_wp2_with (first | (go_at_call 23; (with_reducible refine (block_Split.calls kj4 _ _ l0 a1 t440 _ ?side1 ?side2 A10.out).mono ?_); (case side1 => repeat (first | exact (Kd.C_below HR0.out HB.out) | (with_reducible refine Kd.C_alloc ?_ _) | (with_reducible refine Kd.C_drewN ?_ _) | (with_reducible refine Kd.C_drew ?_))); (case side2 => exact HC0.out); rintro e w11 ⟨v441, rfl, ho0, hb⟩; have n0_ := Aside0.mk (Kd.S_lower ho0 (below_size (by repeat (first | (with_reducible first | exact HB.out | apply below_alloc | apply pw_below_drewN | apply below_drew1) | exact HB.out)))); have n1_ := Aside0.mk (below_step (by repeat (first | (with_reducible first | exact HB.out | apply below_alloc | apply pw_below_drewN | apply below_drew1) | exact HB.out)) hb); clear HB; have HO442 := n0_; have HB := n1_; clear n0_ n1_; (try clear hb); (try clear hb2); (try clear hk); (try clear hi); (try clear ho0)))
        repeat (go_quiet (first | (go_at_call 23; (with_reducible refine (block_Split.calls kj4 _ _ l0 a1 t440 _ ?side1 ?side2 A10.out).mono ?_); (case side1 => repeat (first | exact (Kd.C_below HR0.out HB.out) | (with_reducible refine Kd.C_alloc ?_ _) | (with_reducible refine Kd.C_drewN ?_ _) | (with_reducible refine Kd.C_drew ?_))); (case side2 => exact HC0.out); rintro e w11 ⟨v441, rfl, ho0, hb⟩; have n0_ := Aside0.mk (Kd.S_lower ho0 (below_size (by repeat (first | (with_reducible first | exact HB.out | apply below_alloc | apply pw_below_drewN | apply below_drew1) | exact HB.out)))); have n1_ := Aside0.mk (below_step (by repeat (first | (with_reducible first | exact HB.out | apply below_alloc | apply pw_below_drewN | apply below_drew1) | exact HB.out)) hb); clear HB; have HO442 := n0_; have HB := n1_; clear n0_ n1_; (try clear hb); (try clear hb2); (try clear hk); (try clear hi); (try clear ho0))); try go_wp2_with (first | (go_at_call 23; (with_reducible refine (block_Split.calls kj4 _ _ l0 a1 t440 _ ?side1 ?side2 A10.out).mono ?_); (case side1 => repeat (first | exact (Kd.C_below HR0.out HB.out) | (with_reducible refine Kd.C_alloc ?_ _) | (with_reducible refine Kd.C_drewN ?_ _) | (with_reducible refine Kd.C_drew ?_))); (case side2 => exact HC0.out); rintro e w11 ⟨v441, rfl, ho0, hb⟩; have n0_ := Aside0.mk (Kd.S_lower ho0 (below_size (by repeat (first | (with_reducible first | exact HB.out | apply below_alloc | apply pw_below_drewN | apply below_drew1) | exact HB.out)))); have n1_ := Aside0.mk (below_step (by repeat (first | (with_reducible first | exact HB.out | apply below_alloc | apply pw_below_drewN | apply below_drew1) | exact HB.out)) hb); clear HB; have HO442 := n0_; have HB := n1_; clear n0_ n1_; (try clear hb); (try clear hb2); (try clear hk); (try clear hi); (try clear ho0))))
        go_loopg [9, 10] kj4 (fun kq v9 v10 w' => ∃ (x9_2 : List (S43)) (x10_2 : Int), v10 = .int .i64 x10_2 ∧ Aside0 (moultlaw8_BlockRows.l0 kq l0 a1 t440 x9_2 x10_2 = some r) ∧ Aside0 (kq ≤ kj4) ∧ Aside0 (Kd.S (Kd.slice 43 k43) 23 w' w.heap.size (fun k_ => some k_ ≠ (v9 : Value).ownBlock) v441 t440) ∧ Aside0 (Kd.R k43 43 w' w.heap.size (fun _ => True) v9 x9_2) ∧ Aside0 (Below w.heap.size w w'))
        case atStart => exact ⟨(([] : List (S43))), (0), (by first | rfl | (simp; done) | (simp [*]; done)), H', ⟨Nat.le_refl _⟩, ⟨by (with_reducible repeat (first | apply Kd.S_alloc | apply Kd.S_drewN | apply Kd.S_drew)); exact Kd.S_mono HO442.out (fun _ hk => (by simp [Value.ownBlock]))⟩, ⟨by first | exact Kd.R_nil _ _ _ _ _ | exact Kd.N_nil _ _ _ _ _ | exact Kd.V_nil _ _ _ _ _ | exact Kd.Q_nil _ _ _ _ _ | exact Kd.S_nil _ _ _ _ _⟩, ⟨by repeat (first | (with_reducible first | exact HB.out | apply below_alloc | apply pw_below_drewN | apply below_drew1) | exact HB.out)⟩⟩
        case round =>
          clear H'
          try clear p2
          try clear c8
          try clear c9
          try clear p2
          obtain ⟨x9_2, x10_2, rfl, HA, HK2, HO_8, HO_9, HB⟩ := hrel
          cases gk with
          | zero => exact absurd HA.out (by simp [moultlaw8_BlockRows.l0])
          | succ k2 =>
            have H := HA.out
            clear HA
            simp only [moultlaw8_BlockRows.l0] at H
            by_cases c12 : x10_2 < (t440.length : Int)
            · rw [if_pos c12] at H
              have c12b0 : decide (x10_2 < (t440.length : Int)) = true := decide_eq_true c12
              clear c12
              have H' := Aside0.mk H
              clear H
              obtain ⟨Ao13, co13, eo13⟩ := Kd.S_slice HO_8.out
              subst eo13
              go_wp2
              repeat (go_quiet (fail); try go_wp2)
              go_loopg [11, 12] k2 (fun kq v11 v12 w' => ∃ (x11_3 : Int) (x12_3 : Int), v11 = .int .i64 x11_3 ∧ v12 = .int .i64 x12_3 ∧ Aside0 (moultlaw8_BlockRows.l1 kq l0 a1 t440 x9_2 x10_2 x11_3 x12_3 = some r) ∧ Aside0 (kq ≤ k2) ∧ Aside0 (Kd.S (Kd.slice 43 k43) 23 w' w.heap.size (fun k_ => some k_ ≠ (u9 : Value).ownBlock) (.slice Ao13 t440.length co13) t440) ∧ Aside0 (Kd.R k43 43 w' w.heap.size (fun _ => True) u9 x9_2) ∧ Aside0 (Below w.heap.size w w'))
              case atStart => exact ⟨(0), (0), (by first | rfl | (simp; done) | (simp [*]; done)), (by first | rfl | (simp; done) | (simp [*]; done)), H', ⟨Nat.le_refl _⟩, ⟨by (with_reducible repeat (first | apply Kd.S_alloc | apply Kd.S_drewN | apply Kd.S_drew)); exact HO_8.out⟩, ⟨by (with_reducible repeat (first | apply Kd.R_alloc | apply Kd.R_drewN | apply Kd.R_drew)); exact HO_9.out⟩, ⟨by repeat (first | (with_reducible first | exact HB.out | apply below_alloc | apply pw_below_drewN | apply below_drew1) | exact HB.out)⟩⟩
              case round =>
                clear H'
                try clear c1
                try clear p2
                try clear c8
                try clear c9
                try clear c12
                try clear c12b0
                try clear p2
                obtain ⟨x11_3, x12_3, rfl, rfl, HA, HK3, HO_8, HO_9, HB⟩ := hrel
                cases gk with
                | zero => exact absurd HA.out (by simp [moultlaw8_BlockRows.l1])
                | succ k3 =>
                  have H := HA.out
                  clear HA
                  simp only [moultlaw8_BlockRows.l1] at H
                  by_cases c14 : 0 ≤ x10_2
                  · rw [if_pos c14] at H
                    have c14b0 : decide (0 ≤ x10_2) = true := decide_eq_true c14
                    clear c14
                    by_cases c15 : x10_2 < (t440.length : Int)
                    · rw [if_pos c15] at H
                      have c15b0 : decide (x10_2 < (t440.length : Int)) = true := decide_eq_true c15
                      clear c15
                      by_cases c16 : x12_3 < ((rd_L5 t440 x10_2).length : Int)
                      · rw [if_pos c16] at H
                        have c16b0 : decide (x12_3 < ((rd_L5 t440 x10_2).length : Int)) = true := decide_eq_true c16
                        clear c16
                        by_cases c17 : x11_3 ≥ a1
                        · rw [if_pos c17] at H
                          have c17b0 : decide (a1 ≤ x11_3) = true := decide_eq_true c17
                          clear c17
                          by_cases c18 : x12_3 > 0
                          · rw [if_pos c18] at H
                            have c18b0 : decide (0 < x12_3) = true := decide_eq_true c18
                            clear c18
                            obtain rfl := Option.some.inj H
                            have p444 : 0 ≤ (x10_2 : Int) := of_decide_eq_true (by first | (with_reducible assumption) | assumption)
                            have q444 : x10_2 < (t440.length : Int) := of_decide_eq_true (by first | (with_reducible assumption) | assumption)
                            obtain ⟨ad444, A444_0, c444_0, e444, hx444_0, hl444_0, hi444_0⟩ := at_L5 (Kd.S_reads' HO_8.out).2.2 x10_2 p444 q444
                            cases e444
                            obtain ⟨ce444, hce444, hMe444, hcc444⟩ := Kd.S_get HO_8.out [] x10_2 p444 (by first | exact q444 | exact of_decide_eq_true (by first | (with_reducible assumption) | assumption) | (have e_ := (Kd.S_reads' HO_8.out).1; omega))
                            obtain ⟨ve444_0, rfl, ge444_0⟩ := hMe444
                            have hv444_0 := hcc444 0 _ rfl
                            rw [Nat.add_zero, show ((Kd.slice 43 k43)).sz = 1 from rfl, Nat.mul_one] at hv444_0
                            replace hv444_0 := Option.some.inj (hv444_0.symm.trans hx444_0)
                            rw [hv444_0] at ge444_0
                            have HL444_0 := Aside0.mk (show Kd.R k43 43 _ _ _ _ (rd_L5 t440 x10_2) from ge444_0)
                            clear hv444_0 ge444_0
                            clear hcc444 hce444
                            have HR444_0 := Aside0.mk hi444_0
                            have HC444_0 := Aside0.mk hl444_0
                            clear hi444_0 hl444_0
                            replace p444 := eq_true p444
                            replace q444 := eq_true q444
                            go_wp2
                            repeat (go_quiet (fail); try go_wp2)
                            all_goals go_ret
                            all_goals exact ⟨by first | rfl | (simp [errW_none, errW_some] <;> rfl) | (simp [*, errW_none, errW_some] <;> rfl), by repeat (first | (with_reducible first | exact HB.out | apply below_alloc | apply pw_below_drewN | apply below_drew1) | exact HB.out)⟩
                          · rw [if_neg c18] at H
                            have c18b0 : decide (0 < x12_3) = false := decide_eq_false c18
                            clear c18
                            by_cases c19 : 0 ≤ x12_3
                            · rw [if_pos c19] at H
                              have c19b0 : decide (0 ≤ x12_3) = true := decide_eq_true c19
                              clear c19
                              have H' := Aside0.mk H
                              clear H
                              have p444 : 0 ≤ (x10_2 : Int) := of_decide_eq_true (by first | (with_reducible assumption) | assumption)
                              have q444 : x10_2 < (t440.length : Int) := of_decide_eq_true (by first | (with_reducible assumption) | assumption)
                              obtain ⟨ad444, A444_0, c444_0, e444, hx444_0, hl444_0, hi444_0⟩ := at_L5 (Kd.S_reads' HO_8.out).2.2 x10_2 p444 q444
                              cases e444
                              obtain ⟨ce444, hce444, hMe444, hcc444⟩ := Kd.S_get HO_8.out [] x10_2 p444 (by first | exact q444 | exact of_decide_eq_true (by first | (with_reducible assumption) | assumption) | (have e_ := (Kd.S_reads' HO_8.out).1; omega))
                              obtain ⟨ve444_0, rfl, ge444_0⟩ := hMe444
                              have hv444_0 := hcc444 0 _ rfl
                              rw [Nat.add_zero, show ((Kd.slice 43 k43)).sz = 1 from rfl, Nat.mul_one] at hv444_0
                              replace hv444_0 := Option.some.inj (hv444_0.symm.trans hx444_0)
                              rw [hv444_0] at ge444_0
                              have HL444_0 := Aside0.mk (show Kd.R k43 43 _ _ _ _ (rd_L5 t440 x10_2) from ge444_0)
                              clear hv444_0 ge444_0
                              clear hcc444 hce444
                              have HR444_0 := Aside0.mk hi444_0
                              have HC444_0 := Aside0.mk hl444_0
                              clear hi444_0 hl444_0
                              replace p444 := eq_true p444
                              replace q444 := eq_true q444
                              have p445 : 0 ≤ (x10_2 : Int) := of_decide_eq_true (by first | (with_reducible assumption) | assumption)
                              have q445 : x10_2 < (t440.length : Int) := of_decide_eq_true (by first | (with_reducible assumption) | assumption)
                              obtain ⟨ad445, A445_0, c445_0, e445, hx445_0, hl445_0, hi445_0⟩ := at_L5 (Kd.S_reads' HO_8.out).2.2 x10_2 p445 q445
                              obtain rfl : ad444 = ad445 := (by injection e445)
                              obtain ⟨ce445, hce445, hMe445, hcc445⟩ := Kd.S_get HO_8.out [] x10_2 p445 (by first | exact q445 | exact of_decide_eq_true (by first | (with_reducible assumption) | assumption) | (have e_ := (Kd.S_reads' HO_8.out).1; omega))
                              obtain ⟨ve445_0, rfl, ge445_0⟩ := hMe445
                              have hv445_0 := hcc445 0 _ rfl
                              rw [Nat.add_zero, show ((Kd.slice 43 k43)).sz = 1 from rfl, Nat.mul_one] at hv445_0
                              replace hv445_0 := Option.some.inj (hv445_0.symm.trans hx445_0)
                              rw [hv445_0] at ge445_0
                              have HL445_0 := Aside0.mk (show Kd.R k43 43 _ _ _ _ (rd_L5 t440 x10_2) from ge445_0)
                              clear hv445_0 ge445_0
                              clear hcc445 hce445
                              have HR445_0 := Aside0.mk hi445_0
                              have HC445_0 := Aside0.mk hl445_0
                              clear hi445_0 hl445_0
                              replace p445 := eq_true p445
                              replace q445 := eq_true q445
                              have ea_ := Option.some.inj (hx444_0.symm.trans hx445_0)
                              injection ea_ with ea_ en_ ec_
                              subst ea_
                              subst ec_
                              clear en_
                              have p446 : 0 ≤ (x12_3 : Int) := of_decide_eq_true (by first | (with_reducible assumption) | assumption)
                              have q446 : x12_3 < ((rd_L5 t440 x10_2).length : Int) := of_decide_eq_true (by first | (with_reducible assumption) | assumption)
                              obtain ⟨ad446, e446, hx446_0, hx446_1⟩ := at_T43 (by repeat (first | (with_reducible exact HR445_0.out) | (with_reducible refine Kd.C_alloc ?_ _) | (with_reducible refine Kd.C_drewN ?_ _) | (with_reducible refine Kd.C_drew ?_) | exact HR445_0.out)) x12_3 p446 q446
                              cases e446
                              replace p446 := eq_true p446
                              replace q446 := eq_true q446
                              have p447 : 0 ≤ (x10_2 : Int) := of_decide_eq_true (by first | (with_reducible assumption) | assumption)
                              have q447 : x10_2 < (t440.length : Int) := of_decide_eq_true (by first | (with_reducible assumption) | assumption)
                              obtain ⟨ad447, A447_0, c447_0, e447, hx447_0, hl447_0, hi447_0⟩ := at_L5 (Kd.S_reads' HO_8.out).2.2 x10_2 p447 q447
                              obtain rfl : ad444 = ad447 := (by injection e447)
                              obtain ⟨ce447, hce447, hMe447, hcc447⟩ := Kd.S_get HO_8.out [] x10_2 p447 (by first | exact q447 | exact of_decide_eq_true (by first | (with_reducible assumption) | assumption) | (have e_ := (Kd.S_reads' HO_8.out).1; omega))
                              obtain ⟨ve447_0, rfl, ge447_0⟩ := hMe447
                              have hv447_0 := hcc447 0 _ rfl
                              rw [Nat.add_zero, show ((Kd.slice 43 k43)).sz = 1 from rfl, Nat.mul_one] at hv447_0
                              replace hv447_0 := Option.some.inj (hv447_0.symm.trans hx447_0)
                              rw [hv447_0] at ge447_0
                              have HL447_0 := Aside0.mk (show Kd.R k43 43 _ _ _ _ (rd_L5 t440 x10_2) from ge447_0)
                              clear hv447_0 ge447_0
                              clear hcc447 hce447
                              have HR447_0 := Aside0.mk hi447_0
                              have HC447_0 := Aside0.mk hl447_0
                              clear hi447_0 hl447_0
                              replace p447 := eq_true p447
                              replace q447 := eq_true q447
                              have ea_ := Option.some.inj (hx444_0.symm.trans hx447_0)
                              injection ea_ with ea_ en_ ec_
                              subst ea_
                              subst ec_
                              clear en_
                              have p448 : 0 ≤ (x12_3 : Int) := of_decide_eq_true (by first | (with_reducible assumption) | assumption)
                              have q448 : x12_3 < ((rd_L5 t440 x10_2).length : Int) := of_decide_eq_true (by first | (with_reducible assumption) | assumption)
                              obtain ⟨ad448, e448, hx448_0, hx448_1⟩ := at_T43 (by repeat (first | (with_reducible exact HR447_0.out) | (with_reducible refine Kd.C_alloc ?_ _) | (with_reducible refine Kd.C_drewN ?_ _) | (with_reducible refine Kd.C_drew ?_) | exact HR447_0.out)) x12_3 p448 q448
                              cases e448
                              replace p448 := eq_true p448
                              replace q448 := eq_true q448
                              go_wp2
                              repeat (go_quiet (fail); try go_wp2)
                              go_roundg k3
                              case measure => have := HJ4.out; have := HK2.out; have := HK3.out; omega
                              case rel => exact ⟨(wrap64 ((wrap64 (x11_3 + (((rd_T43 (rd_L5 t440 x10_2) x12_3).f0).size : Int))) + (((rd_T43 (rd_L5 t440 x10_2) x12_3).f1).size : Int))), (wrap64 (x12_3 + 1)), (by first | rfl | (simp; done) | (simp [*]; done)), (by first | rfl | (simp; done) | (simp [*]; done)), H', ⟨by have := HJ4.out; have := HK2.out; have := HK3.out; omega⟩, ⟨by (with_reducible repeat (first | apply Kd.S_alloc | apply Kd.S_drewN | apply Kd.S_drew)); exact HO_8.out⟩, ⟨by (with_reducible repeat (first | apply Kd.R_alloc | apply Kd.R_drewN | apply Kd.R_drew)); exact HO_9.out⟩, ⟨by repeat (first | (with_reducible first | exact HB.out | apply below_alloc | apply pw_below_drewN | apply below_drew1) | exact HB.out)⟩⟩
                            · rw [if_neg c19] at H
                              exact absurd H (by simp)
                        · rw [if_neg c17] at H
                          have c17b0 : decide (a1 ≤ x11_3) = false := decide_eq_false c17
                          clear c17
                          by_cases c20 : 0 ≤ x12_3
                          · rw [if_pos c20] at H
                            have c20b0 : decide (0 ≤ x12_3) = true := decide_eq_true c20
                            clear c20
                            have H' := Aside0.mk H
                            clear H
                            have p444 : 0 ≤ (x10_2 : Int) := of_decide_eq_true (by first | (with_reducible assumption) | assumption)
                            have q444 : x10_2 < (t440.length : Int) := of_decide_eq_true (by first | (with_reducible assumption) | assumption)
                            obtain ⟨ad444, A444_0, c444_0, e444, hx444_0, hl444_0, hi444_0⟩ := at_L5 (Kd.S_reads' HO_8.out).2.2 x10_2 p444 q444
                            cases e444
                            obtain ⟨ce444, hce444, hMe444, hcc444⟩ := Kd.S_get HO_8.out [] x10_2 p444 (by first | exact q444 | exact of_decide_eq_true (by first | (with_reducible assumption) | assumption) | (have e_ := (Kd.S_reads' HO_8.out).1; omega))
                            obtain ⟨ve444_0, rfl, ge444_0⟩ := hMe444
                            have hv444_0 := hcc444 0 _ rfl
                            rw [Nat.add_zero, show ((Kd.slice 43 k43)).sz = 1 from rfl, Nat.mul_one] at hv444_0
                            replace hv444_0 := Option.some.inj (hv444_0.symm.trans hx444_0)
                            rw [hv444_0] at ge444_0
                            have HL444_0 := Aside0.mk (show Kd.R k43 43 _ _ _ _ (rd_L5 t440 x10_2) from ge444_0)
                            clear hv444_0 ge444_0
                            clear hcc444 hce444
                            have HR444_0 := Aside0.mk hi444_0
                            have HC444_0 := Aside0.mk hl444_0
                            clear hi444_0 hl444_0
                            replace p444 := eq_true p444
                            replace q444 := eq_true q444
                            have p449 : 0 ≤ (x10_2 : Int) := of_decide_eq_true (by first | (with_reducible assumption) | assumption)
                            have q449 : x10_2 < (t440.length : Int) := of_decide_eq_true (by first | (with_reducible assumption) | assumption)
                            obtain ⟨ad449, A449_0, c449_0, e449, hx449_0, hl449_0, hi449_0⟩ := at_L5 (Kd.S_reads' HO_8.out).2.2 x10_2 p449 q449
                            obtain rfl : ad444 = ad449 := (by injection e449)
                            obtain ⟨ce449, hce449, hMe449, hcc449⟩ := Kd.S_get HO_8.out [] x10_2 p449 (by first | exact q449 | exact of_decide_eq_true (by first | (with_reducible assumption) | assumption) | (have e_ := (Kd.S_reads' HO_8.out).1; omega))
                            obtain ⟨ve449_0, rfl, ge449_0⟩ := hMe449
                            have hv449_0 := hcc449 0 _ rfl
                            rw [Nat.add_zero, show ((Kd.slice 43 k43)).sz = 1 from rfl, Nat.mul_one] at hv449_0
                            replace hv449_0 := Option.some.inj (hv449_0.symm.trans hx449_0)
                            rw [hv449_0] at ge449_0
                            have HL449_0 := Aside0.mk (show Kd.R k43 43 _ _ _ _ (rd_L5 t440 x10_2) from ge449_0)
                            clear hv449_0 ge449_0
                            clear hcc449 hce449
                            have HR449_0 := Aside0.mk hi449_0
                            have HC449_0 := Aside0.mk hl449_0
                            clear hi449_0 hl449_0
                            replace p449 := eq_true p449
                            replace q449 := eq_true q449
                            have ea_ := Option.some.inj (hx444_0.symm.trans hx449_0)
                            injection ea_ with ea_ en_ ec_
                            subst ea_
                            subst ec_
                            clear en_
                            have p450 : 0 ≤ (x12_3 : Int) := of_decide_eq_true (by first | (with_reducible assumption) | assumption)
                            have q450 : x12_3 < ((rd_L5 t440 x10_2).length : Int) := of_decide_eq_true (by first | (with_reducible assumption) | assumption)
                            obtain ⟨ad450, e450, hx450_0, hx450_1⟩ := at_T43 (by repeat (first | (with_reducible exact HR449_0.out) | (with_reducible refine Kd.C_alloc ?_ _) | (with_reducible refine Kd.C_drewN ?_ _) | (with_reducible refine Kd.C_drew ?_) | exact HR449_0.out)) x12_3 p450 q450
                            cases e450
                            replace p450 := eq_true p450
                            replace q450 := eq_true q450
                            have p451 : 0 ≤ (x10_2 : Int) := of_decide_eq_true (by first | (with_reducible assumption) | assumption)
                            have q451 : x10_2 < (t440.length : Int) := of_decide_eq_true (by first | (with_reducible assumption) | assumption)
                            obtain ⟨ad451, A451_0, c451_0, e451, hx451_0, hl451_0, hi451_0⟩ := at_L5 (Kd.S_reads' HO_8.out).2.2 x10_2 p451 q451
                            obtain rfl : ad444 = ad451 := (by injection e451)
                            obtain ⟨ce451, hce451, hMe451, hcc451⟩ := Kd.S_get HO_8.out [] x10_2 p451 (by first | exact q451 | exact of_decide_eq_true (by first | (with_reducible assumption) | assumption) | (have e_ := (Kd.S_reads' HO_8.out).1; omega))
                            obtain ⟨ve451_0, rfl, ge451_0⟩ := hMe451
                            have hv451_0 := hcc451 0 _ rfl
                            rw [Nat.add_zero, show ((Kd.slice 43 k43)).sz = 1 from rfl, Nat.mul_one] at hv451_0
                            replace hv451_0 := Option.some.inj (hv451_0.symm.trans hx451_0)
                            rw [hv451_0] at ge451_0
                            have HL451_0 := Aside0.mk (show Kd.R k43 43 _ _ _ _ (rd_L5 t440 x10_2) from ge451_0)
                            clear hv451_0 ge451_0
                            clear hcc451 hce451
                            have HR451_0 := Aside0.mk hi451_0
                            have HC451_0 := Aside0.mk hl451_0
                            clear hi451_0 hl451_0
                            replace p451 := eq_true p451
                            replace q451 := eq_true q451
                            have ea_ := Option.some.inj (hx444_0.symm.trans hx451_0)
                            injection ea_ with ea_ en_ ec_
                            subst ea_
                            subst ec_
                            clear en_
                            have p452 : 0 ≤ (x12_3 : Int) := of_decide_eq_true (by first | (with_reducible assumption) | assumption)
                            have q452 : x12_3 < ((rd_L5 t440 x10_2).length : Int) := of_decide_eq_true (by first | (with_reducible assumption) | assumption)
                            obtain ⟨ad452, e452, hx452_0, hx452_1⟩ := at_T43 (by repeat (first | (with_reducible exact HR451_0.out) | (with_reducible refine Kd.C_alloc ?_ _) | (with_reducible refine Kd.C_drewN ?_ _) | (with_reducible refine Kd.C_drew ?_) | exact HR451_0.out)) x12_3 p452 q452
                            cases e452
                            replace p452 := eq_true p452
                            replace q452 := eq_true q452
                            go_wp2
                            repeat (go_quiet (fail); try go_wp2)
                            go_roundg k3
                            case measure => have := HJ4.out; have := HK2.out; have := HK3.out; omega
                            case rel => exact ⟨(wrap64 ((wrap64 (x11_3 + (((rd_T43 (rd_L5 t440 x10_2) x12_3).f0).size : Int))) + (((rd_T43 (rd_L5 t440 x10_2) x12_3).f1).size : Int))), (wrap64 (x12_3 + 1)), (by first | rfl | (simp; done) | (simp [*]; done)), (by first | rfl | (simp; done) | (simp [*]; done)), H', ⟨by have := HJ4.out; have := HK2.out; have := HK3.out; omega⟩, ⟨by (with_reducible repeat (first | apply Kd.S_alloc | apply Kd.S_drewN | apply Kd.S_drew)); exact HO_8.out⟩, ⟨by (with_reducible repeat (first | apply Kd.R_alloc | apply Kd.R_drewN | apply Kd.R_drew)); exact HO_9.out⟩, ⟨by repeat (first | (with_reducible first | exact HB.out | apply below_alloc | apply pw_below_drewN | apply below_drew1) | exact HB.out)⟩⟩
                          · rw [if_neg c20] at H
                            exact absurd H (by simp)
                      · rw [if_neg c16] at H
                        have c16b0 : decide (x12_3 < ((rd_L5 t440 x10_2).length : Int)) = false := decide_eq_false c16
                        clear c16
                        by_cases c21 : ((rd_L5 t440 x10_2).length : Int) = 0
                        · rw [if_pos c21] at H
                          have c21b0 : (((rd_L5 t440 x10_2).length : Int) == 0) = true := beq_iff_eq.mpr c21
                          have c21b1 : (((rd_L5 t440 x10_2).length : Int) != 0) = false := bne_eq_false_iff_eq.mpr c21
                          clear c21
                          obtain rfl := Option.some.inj H
                          have p444 : 0 ≤ (x10_2 : Int) := of_decide_eq_true (by first | (with_reducible assumption) | assumption)
                          have q444 : x10_2 < (t440.length : Int) := of_decide_eq_true (by first | (with_reducible assumption) | assumption)
                          obtain ⟨ad444, A444_0, c444_0, e444, hx444_0, hl444_0, hi444_0⟩ := at_L5 (Kd.S_reads' HO_8.out).2.2 x10_2 p444 q444
                          cases e444
                          obtain ⟨ce444, hce444, hMe444, hcc444⟩ := Kd.S_get HO_8.out [] x10_2 p444 (by first | exact q444 | exact of_decide_eq_true (by first | (with_reducible assumption) | assumption) | (have e_ := (Kd.S_reads' HO_8.out).1; omega))
                          obtain ⟨ve444_0, rfl, ge444_0⟩ := hMe444
                          have hv444_0 := hcc444 0 _ rfl
                          rw [Nat.add_zero, show ((Kd.slice 43 k43)).sz = 1 from rfl, Nat.mul_one] at hv444_0
                          replace hv444_0 := Option.some.inj (hv444_0.symm.trans hx444_0)
                          rw [hv444_0] at ge444_0
                          have HL444_0 := Aside0.mk (show Kd.R k43 43 _ _ _ _ (rd_L5 t440 x10_2) from ge444_0)
                          clear hv444_0 ge444_0
                          clear hcc444 hce444
                          have HR444_0 := Aside0.mk hi444_0
                          have HC444_0 := Aside0.mk hl444_0
                          clear hi444_0 hl444_0
                          replace p444 := eq_true p444
                          replace q444 := eq_true q444
                          have p453 : 0 ≤ (x10_2 : Int) := of_decide_eq_true (by first | (with_reducible assumption) | assumption)
                          have q453 : x10_2 < (t440.length : Int) := of_decide_eq_true (by first | (with_reducible assumption) | assumption)
                          obtain ⟨ad453, A453_0, c453_0, e453, hx453_0, hl453_0, hi453_0⟩ := at_L5 (Kd.S_reads' HO_8.out).2.2 x10_2 p453 q453
                          obtain rfl : ad444 = ad453 := (by injection e453)
                          obtain ⟨ce453, hce453, hMe453, hcc453⟩ := Kd.S_get HO_8.out [] x10_2 p453 (by first | exact q453 | exact of_decide_eq_true (by first | (with_reducible assumption) | assumption) | (have e_ := (Kd.S_reads' HO_8.out).1; omega))
                          obtain ⟨ve453_0, rfl, ge453_0⟩ := hMe453
                          have hv453_0 := hcc453 0 _ rfl
                          rw [Nat.add_zero, show ((Kd.slice 43 k43)).sz = 1 from rfl, Nat.mul_one] at hv453_0
                          replace hv453_0 := Option.some.inj (hv453_0.symm.trans hx453_0)
                          rw [hv453_0] at ge453_0
                          have HL453_0 := Aside0.mk (show Kd.R k43 43 _ _ _ _ (rd_L5 t440 x10_2) from ge453_0)
                          clear hv453_0 ge453_0
                          clear hcc453 hce453
                          have HR453_0 := Aside0.mk hi453_0
                          have HC453_0 := Aside0.mk hl453_0
                          clear hi453_0 hl453_0
                          replace p453 := eq_true p453
                          replace q453 := eq_true q453
                          have ea_ := Option.some.inj (hx444_0.symm.trans hx453_0)
                          injection ea_ with ea_ en_ ec_
                          subst ea_
                          subst ec_
                          clear en_
                          go_wp2
                          repeat (go_quiet (fail); try go_wp2)
                          all_goals go_ret
                          all_goals exact ⟨by first | rfl | (simp [errW_none, errW_some] <;> rfl) | (simp [*, errW_none, errW_some] <;> rfl), by repeat (first | (with_reducible first | exact HB.out | apply below_alloc | apply pw_below_drewN | apply below_drew1) | exact HB.out)⟩
                        · rw [if_neg c21] at H
                          have c21b0 : (((rd_L5 t440 x10_2).length : Int) == 0) = false := beq_eq_false_iff_ne.mpr c21
                          have c21b1 : (((rd_L5 t440 x10_2).length : Int) != 0) = true := bne_iff_ne.mpr c21
                          have c21b2 : ¬ ((rd_L5 t440 x10_2) = []) := fun h_ => c21 (by rw [h_]; rfl)
                          by_cases c22 : x11_3 < a1
                          · rw [if_pos c22] at H
                            have c22b0 : decide (x11_3 < a1) = true := decide_eq_true c22
                            clear c22
                            by_cases c23 : x10_2 < (wrap64 ((t440.length : Int) - 1))
                            · rw [if_pos c23] at H
                              have c23b0 : decide (x10_2 < (wrap64 ((t440.length : Int) - 1))) = true := decide_eq_true c23
                              clear c23
                              obtain rfl := Option.some.inj H
                              have p444 : 0 ≤ (x10_2 : Int) := of_decide_eq_true (by first | (with_reducible assumption) | assumption)
                              have q444 : x10_2 < (t440.length : Int) := of_decide_eq_true (by first | (with_reducible assumption) | assumption)
                              obtain ⟨ad444, A444_0, c444_0, e444, hx444_0, hl444_0, hi444_0⟩ := at_L5 (Kd.S_reads' HO_8.out).2.2 x10_2 p444 q444
                              cases e444
                              obtain ⟨ce444, hce444, hMe444, hcc444⟩ := Kd.S_get HO_8.out [] x10_2 p444 (by first | exact q444 | exact of_decide_eq_true (by first | (with_reducible assumption) | assumption) | (have e_ := (Kd.S_reads' HO_8.out).1; omega))
                              obtain ⟨ve444_0, rfl, ge444_0⟩ := hMe444
                              have hv444_0 := hcc444 0 _ rfl
                              rw [Nat.add_zero, show ((Kd.slice 43 k43)).sz = 1 from rfl, Nat.mul_one] at hv444_0
                              replace hv444_0 := Option.some.inj (hv444_0.symm.trans hx444_0)
                              rw [hv444_0] at ge444_0
                              have HL444_0 := Aside0.mk (show Kd.R k43 43 _ _ _ _ (rd_L5 t440 x10_2) from ge444_0)
                              clear hv444_0 ge444_0
                              clear hcc444 hce444
                              have HR444_0 := Aside0.mk hi444_0
                              have HC444_0 := Aside0.mk hl444_0
                              clear hi444_0 hl444_0
                              replace p444 := eq_true p444
                              replace q444 := eq_true q444
                              have p453 : 0 ≤ (x10_2 : Int) := of_decide_eq_true (by first | (with_reducible assumption) | assumption)
                              have q453 : x10_2 < (t440.length : Int) := of_decide_eq_true (by first | (with_reducible assumption) | assumption)
                              obtain ⟨ad453, A453_0, c453_0, e453, hx453_0, hl453_0, hi453_0⟩ := at_L5 (Kd.S_reads' HO_8.out).2.2 x10_2 p453 q453
                              obtain rfl : ad444 = ad453 := (by injection e453)
                              obtain ⟨ce453, hce453, hMe453, hcc453⟩ := Kd.S_get HO_8.out [] x10_2 p453 (by first | exact q453 | exact of_decide_eq_true (by first | (with_reducible assumption) | assumption) | (have e_ := (Kd.S_reads' HO_8.out).1; omega))
                              obtain ⟨ve453_0, rfl, ge453_0⟩ := hMe453
                              have hv453_0 := hcc453 0 _ rfl
                              rw [Nat.add_zero, show ((Kd.slice 43 k43)).sz = 1 from rfl, Nat.mul_one] at hv453_0
                              replace hv453_0 := Option.some.inj (hv453_0.symm.trans hx453_0)
                              rw [hv453_0] at ge453_0
                              have HL453_0 := Aside0.mk (show Kd.R k43 43 _ _ _ _ (rd_L5 t440 x10_2) from ge453_0)
                              clear hv453_0 ge453_0
                              clear hcc453 hce453
                              have HR453_0 := Aside0.mk hi453_0
                              have HC453_0 := Aside0.mk hl453_0
                              clear hi453_0 hl453_0
                              replace p453 := eq_true p453
                              replace q453 := eq_true q453
                              have ea_ := Option.some.inj (hx444_0.symm.trans hx453_0)
                              injection ea_ with ea_ en_ ec_
                              subst ea_
                              subst ec_
                              clear en_
                              go_wp2
                              repeat (go_quiet (fail); try go_wp2)
                              all_goals go_ret
                              all_goals exact ⟨by first | rfl | (simp [errW_none, errW_some] <;> rfl) | (simp [*, errW_none, errW_some] <;> rfl), by repeat (first | (with_reducible first | exact HB.out | apply below_alloc | apply pw_below_drewN | apply below_drew1) | exact HB.out)⟩
                            · rw [if_neg c23] at H
                              have c23b0 : decide (x10_2 < (wrap64 ((t440.length : Int) - 1))) = false := decide_eq_false c23
                              clear c23
                              by_cases c24 : x9_2.length + (rd_L5 t440 x10_2).length < 4398046511104
                              · rw [if_pos c24] at H
                                have LMc24 := Aside0.mk c24
                                clear c24
                                obtain ⟨y455, hy455⟩ : ∃ y_ : List (S43), y_ = (x9_2 ++ (rd_L5 t440 x10_2)) := ⟨_, rfl⟩
                                replace H : (moultlaw8_BlockRows.l0 k3 l0 a1 t440 y455 (wrap64 (x10_2 + 1))) = some r := by first | (rw [hy455]; with_reducible exact H) | (have H2_ := (Option.bind_some _ _).symm.trans H; rw [hy455]; with_reducible exact H2_) | (have H2_ := (Option.bind_some _ _).symm.trans H; with_reducible exact H2_) | with_reducible exact H | (rw [hy455]; exact H) | exact H
                                have Ny455 := Aside0.mk hy455
                                clear hy455
                                have H' := Aside0.mk H
                                clear H
                                have p444 : 0 ≤ (x10_2 : Int) := of_decide_eq_true (by first | (with_reducible assumption) | assumption)
                                have q444 : x10_2 < (t440.length : Int) := of_decide_eq_true (by first | (with_reducible assumption) | assumption)
                                obtain ⟨ad444, A444_0, c444_0, e444, hx444_0, hl444_0, hi444_0⟩ := at_L5 (Kd.S_reads' HO_8.out).2.2 x10_2 p444 q444
                                cases e444
                                obtain ⟨ce444, hce444, hMe444, hcc444⟩ := Kd.S_get HO_8.out [] x10_2 p444 (by first | exact q444 | exact of_decide_eq_true (by first | (with_reducible assumption) | assumption) | (have e_ := (Kd.S_reads' HO_8.out).1; omega))
                                obtain ⟨ve444_0, rfl, ge444_0⟩ := hMe444
                                have hv444_0 := hcc444 0 _ rfl
                                rw [Nat.add_zero, show ((Kd.slice 43 k43)).sz = 1 from rfl, Nat.mul_one] at hv444_0
                                replace hv444_0 := Option.some.inj (hv444_0.symm.trans hx444_0)
                                rw [hv444_0] at ge444_0
                                have HL444_0 := Aside0.mk (show Kd.R k43 43 _ _ _ _ (rd_L5 t440 x10_2) from ge444_0)
                                clear hv444_0 ge444_0
                                clear hcc444 hce444
                                have HR444_0 := Aside0.mk hi444_0
                                have HC444_0 := Aside0.mk hl444_0
                                clear hi444_0 hl444_0
                                replace p444 := eq_true p444
                                replace q444 := eq_true q444
                                have p453 : 0 ≤ (x10_2 : Int) := of_decide_eq_true (by first | (with_reducible assumption) | assumption)
                                have q453 : x10_2 < (t440.length : Int) := of_decide_eq_true (by first | (with_reducible assumption) | assumption)
                                obtain ⟨ad453, A453_0, c453_0, e453, hx453_0, hl453_0, hi453_0⟩ := at_L5 (Kd.S_reads' HO_8.out).2.2 x10_2 p453 q453
                                obtain rfl : ad444 = ad453 := (by injection e453)
                                obtain ⟨ce453, hce453, hMe453, hcc453⟩ := Kd.S_get HO_8.out [] x10_2 p453 (by first | exact q453 | exact of_decide_eq_true (by first | (with_reducible assumption) | assumption) | (have e_ := (Kd.S_reads' HO_8.out).1; omega))
                                obtain ⟨ve453_0, rfl, ge453_0⟩ := hMe453
                                have hv453_0 := hcc453 0 _ rfl
                                rw [Nat.add_zero, show ((Kd.slice 43 k43)).sz = 1 from rfl, Nat.mul_one] at hv453_0
                                replace hv453_0 := Option.some.inj (hv453_0.symm.trans hx453_0)
                                rw [hv453_0] at ge453_0
                                have HL453_0 := Aside0.mk (show Kd.R k43 43 _ _ _ _ (rd_L5 t440 x10_2) from ge453_0)
                                clear hv453_0 ge453_0
                                clear hcc453 hce453
                                have HR453_0 := Aside0.mk hi453_0
                                have HC453_0 := Aside0.mk hl453_0
                                clear hi453_0 hl453_0
                                replace p453 := eq_true p453
                                replace q453 := eq_true q453
                                have ea_ := Option.some.inj (hx444_0.symm.trans hx453_0)
                                injection ea_ with ea_ en_ ec_
                                subst ea_
                                subst ec_
                                clear en_
                                have p454 : 0 ≤ (x10_2 : Int) := of_decide_eq_true (by first | (with_reducible assumption) | assumption)
                                have q454 : x10_2 < (t440.length : Int) := of_decide_eq_true (by first | (with_reducible assumption) | assumption)
                                obtain ⟨ad454, A454_0, c454_0, e454, hx454_0, hl454_0, hi454_0⟩ := at_L5 (Kd.S_reads' HO_8.out).2.2 x10_2 p454 q454
                                obtain rfl : ad444 = ad454 := (by injection e454)
                                obtain ⟨ce454, hce454, hMe454, hcc454⟩ := Kd.S_get HO_8.out [] x10_2 p454 (by first | exact q454 | exact of_decide_eq_true (by first | (with_reducible assumption) | assumption) | (have e_ := (Kd.S_reads' HO_8.out).1; omega))
                                obtain ⟨ve454_0, rfl, ge454_0⟩ := hMe454
                                have hv454_0 := hcc454 0 _ rfl
                                rw [Nat.add_zero, show ((Kd.slice 43 k43)).sz = 1 from rfl, Nat.mul_one] at hv454_0
                                replace hv454_0 := Option.some.inj (hv454_0.symm.trans hx454_0)
                                rw [hv454_0] at ge454_0
                                have HL454_0 := Aside0.mk (show Kd.R k43 43 _ _ _ _ (rd_L5 t440 x10_2) from ge454_0)
                                clear hv454_0 ge454_0
                                clear hcc454 hce454
                                have HR454_0 := Aside0.mk hi454_0
                                have HC454_0 := Aside0.mk hl454_0
                                clear hi454_0 hl454_0
                                replace p454 := eq_true p454
                                replace q454 := eq_true q454
                                have ea_ := Option.some.inj (hx444_0.symm.trans hx454_0)
                                injection ea_ with ea_ en_ ec_
                                subst ea_
                                subst ec_
                                clear en_
                                go_wp2_with (first | ((with_reducible refine gate_builtin (b := .append) (xs := #[.tmp 90, .tmp 94]) rfl ?_); (try (refine gate_guard (by rfl) ?_; dsimp only)); at_builtin; refine Kd.R_append_rows k43 (w0 := w) w.heap.size rfl (.tmp 90) (.tmp 94) 23 43 (.agg #[(.string ⟨#[]⟩), (.string ⟨#[]⟩)]) 32 rfl Try.underlying23 info43 rfl (by decide) (by omega) u9 x9_2 (rd_L5 t440 x10_2) _ _ _ (fun _ => True) (fun _ => False) rfl rfl ?aO ?aR (fun _ _ h => h) (fun _ h => h.elim) ?aF ?aB ?aS ?aL ?_; (case aR => repeat (first | exact (by repeat (first | (with_reducible exact HR454_0.out) | (with_reducible refine Kd.C_alloc ?_ _) | (with_reducible refine Kd.C_drewN ?_ _) | (with_reducible refine Kd.C_drew ?_) | exact HR454_0.out)) | (with_reducible refine Kd.C_alloc ?_ _) | (with_reducible refine Kd.C_drewN ?_ _) | (with_reducible refine Kd.C_drew ?_))); (case aB => exact (by repeat (first | (with_reducible first | exact HB.out | apply below_alloc | apply pw_below_drewN | apply below_drew1) | exact HB.out))); (case aF => exact (fun _ _ => trivial)); (case aO => exact (by (with_reducible repeat (first | apply Kd.R_alloc | apply Kd.R_drewN | apply Kd.R_drew)); exact HO_9.out)); (case aS => exact (below_size (by repeat (first | (with_reducible first | exact HB.out | apply below_alloc | apply pw_below_drewN | apply below_drew1) | exact HB.out)))); (case aL => have := LMc24.out; omega); intro v456 w25 ho hb hg hat; rw [← Ny455.out] at ho; have n0_ := Aside0.mk (Kd.S_after (ok := (fun _ => True)) (by (with_reducible repeat (first | apply Kd.S_alloc | apply Kd.S_drewN | apply Kd.S_drew)); exact Kd.S_mono HO_8.out (fun _ hk => ⟨trivial, hk⟩)) hg hat); have n1_ := Aside0.mk (Kd.R_after (ok := (fun k_ => some k_ ≠ (.slice (some ad444) t440.length co13 : Value).ownBlock)) (by (with_reducible repeat (first | apply Kd.R_alloc | apply Kd.R_drewN | apply Kd.R_drew)); exact Kd.R_mono HL444_0.out (fun _ hk => ⟨hk.2, hk.1⟩)) hg hat); have n2_ := Aside0.mk (Kd.R_after (ok := (fun k_ => some k_ ≠ (.slice (some ad444) t440.length co13 : Value).ownBlock)) (by (with_reducible repeat (first | apply Kd.R_alloc | apply Kd.R_drewN | apply Kd.R_drew)); exact Kd.R_mono HL453_0.out (fun _ hk => ⟨hk.2, hk.1⟩)) hg hat); have n3_ := Aside0.mk (Kd.R_after (ok := (fun k_ => some k_ ≠ (.slice (some ad444) t440.length co13 : Value).ownBlock)) (by (with_reducible repeat (first | apply Kd.R_alloc | apply Kd.R_drewN | apply Kd.R_drew)); exact Kd.R_mono HL454_0.out (fun _ hk => ⟨hk.2, hk.1⟩)) hg hat); have n4_ := Aside0.mk (hb); have n5_ := Aside0.mk (ho); clear HO_8; clear HL444_0; clear HL453_0; clear HL454_0; clear HB; clear HO_9; have HO_8 := n0_; have HL444_0 := n1_; have HL453_0 := n2_; have HL454_0 := n3_; have HB := n4_; have HO457 := n5_; clear n0_ n1_ n2_ n3_ n4_ n5_; clear ho hb hg hat))
                                repeat (go_quiet (first | ((with_reducible refine gate_builtin (b := .append) (xs := #[.tmp 90, .tmp 94]) rfl ?_); (try (refine gate_guard (by rfl) ?_; dsimp only)); at_builtin; refine Kd.R_append_rows k43 (w0 := w) w.heap.size rfl (.tmp 90) (.tmp 94) 23 43 (.agg #[(.string ⟨#[]⟩), (.string ⟨#[]⟩)]) 32 rfl Try.underlying23 info43 rfl (by decide) (by omega) u9 x9_2 (rd_L5 t440 x10_2) _ _ _ (fun _ => True) (fun _ => False) rfl rfl ?aO ?aR (fun _ _ h => h) (fun _ h => h.elim) ?aF ?aB ?aS ?aL ?_; (case aR => repeat (first | exact (by repeat (first | (with_reducible exact HR454_0.out) | (with_reducible refine Kd.C_alloc ?_ _) | (with_reducible refine Kd.C_drewN ?_ _) | (with_reducible refine Kd.C_drew ?_) | exact HR454_0.out)) | (with_reducible refine Kd.C_alloc ?_ _) | (with_reducible refine Kd.C_drewN ?_ _) | (with_reducible refine Kd.C_drew ?_))); (case aB => exact (by repeat (first | (with_reducible first | exact HB.out | apply below_alloc | apply pw_below_drewN | apply below_drew1) | exact HB.out))); (case aF => exact (fun _ _ => trivial)); (case aO => exact (by (with_reducible repeat (first | apply Kd.R_alloc | apply Kd.R_drewN | apply Kd.R_drew)); exact HO_9.out)); (case aS => exact (below_size (by repeat (first | (with_reducible first | exact HB.out | apply below_alloc | apply pw_below_drewN | apply below_drew1) | exact HB.out)))); (case aL => have := LMc24.out; omega); intro v456 w25 ho hb hg hat; rw [← Ny455.out] at ho; have n0_ := Aside0.mk (Kd.S_after (ok := (fun _ => True)) (by (with_reducible repeat (first | apply Kd.S_alloc | apply Kd.S_drewN | apply Kd.S_drew)); exact Kd.S_mono HO_8.out (fun _ hk => ⟨trivial, hk⟩)) hg hat); have n1_ := Aside0.mk (Kd.R_after (ok := (fun k_ => some k_ ≠ (.slice (some ad444) t440.length co13 : Value).ownBlock)) (by (with_reducible repeat (first | apply Kd.R_alloc | apply Kd.R_drewN | apply Kd.R_drew)); exact Kd.R_mono HL444_0.out (fun _ hk => ⟨hk.2, hk.1⟩)) hg hat); have n2_ := Aside0.mk (Kd.R_after (ok := (fun k_ => some k_ ≠ (.slice (some ad444) t440.length co13 : Value).ownBlock)) (by (with_reducible repeat (first | apply Kd.R_alloc | apply Kd.R_drewN | apply Kd.R_drew)); exact Kd.R_mono HL453_0.out (fun _ hk => ⟨hk.2, hk.1⟩)) hg hat); have n3_ := Aside0.mk (Kd.R_after (ok := (fun k_ => some k_ ≠ (.slice (some ad444) t440.length co13 : Value).ownBlock)) (by (with_reducible repeat (first | apply Kd.R_alloc | apply Kd.R_drewN | apply Kd.R_drew)); exact Kd.R_mono HL454_0.out (fun _ hk => ⟨hk.2, hk.1⟩)) hg hat); have n4_ := Aside0.mk (hb); have n5_ := Aside0.mk (ho); clear HO_8; clear HL444_0; clear HL453_0; clear HL454_0; clear HB; clear HO_9; have HO_8 := n0_; have HL444_0 := n1_; have HL453_0 := n2_; have HL454_0 := n3_; have HB := n4_; have HO457 := n5_; clear n0_ n1_ n2_ n3_ n4_ n5_; clear ho hb hg hat)); try go_wp2_with (first | ((with_reducible refine gate_builtin (b := .append) (xs := #[.tmp 90, .tmp 94]) rfl ?_); (try (refine gate_guard (by rfl) ?_; dsimp only)); at_builtin; refine Kd.R_append_rows k43 (w0 := w) w.heap.size rfl (.tmp 90) (.tmp 94) 23 43 (.agg #[(.string ⟨#[]⟩), (.string ⟨#[]⟩)]) 32 rfl Try.underlying23 info43 rfl (by decide) (by omega) u9 x9_2 (rd_L5 t440 x10_2) _ _ _ (fun _ => True) (fun _ => False) rfl rfl ?aO ?aR (fun _ _ h => h) (fun _ h => h.elim) ?aF ?aB ?aS ?aL ?_; (case aR => repeat (first | exact (by repeat (first | (with_reducible exact HR454_0.out) | (with_reducible refine Kd.C_alloc ?_ _) | (with_reducible refine Kd.C_drewN ?_ _) | (with_reducible refine Kd.C_drew ?_) | exact HR454_0.out)) | (with_reducible refine Kd.C_alloc ?_ _) | (with_reducible refine Kd.C_drewN ?_ _) | (with_reducible refine Kd.C_drew ?_))); (case aB => exact (by repeat (first | (with_reducible first | exact HB.out | apply below_alloc | apply pw_below_drewN | apply below_drew1) | exact HB.out))); (case aF => exact (fun _ _ => trivial)); (case aO => exact (by (with_reducible repeat (first | apply Kd.R_alloc | apply Kd.R_drewN | apply Kd.R_drew)); exact HO_9.out)); (case aS => exact (below_size (by repeat (first | (with_reducible first | exact HB.out | apply below_alloc | apply pw_below_drewN | apply below_drew1) | exact HB.out)))); (case aL => have := LMc24.out; omega); intro v456 w25 ho hb hg hat; rw [← Ny455.out] at ho; have n0_ := Aside0.mk (Kd.S_after (ok := (fun _ => True)) (by (with_reducible repeat (first | apply Kd.S_alloc | apply Kd.S_drewN | apply Kd.S_drew)); exact Kd.S_mono HO_8.out (fun _ hk => ⟨trivial, hk⟩)) hg hat); have n1_ := Aside0.mk (Kd.R_after (ok := (fun k_ => some k_ ≠ (.slice (some ad444) t440.length co13 : Value).ownBlock)) (by (with_reducible repeat (first | apply Kd.R_alloc | apply Kd.R_drewN | apply Kd.R_drew)); exact Kd.R_mono HL444_0.out (fun _ hk => ⟨hk.2, hk.1⟩)) hg hat); have n2_ := Aside0.mk (Kd.R_after (ok := (fun k_ => some k_ ≠ (.slice (some ad444) t440.length co13 : Value).ownBlock)) (by (with_reducible repeat (first | apply Kd.R_alloc | apply Kd.R_drewN | apply Kd.R_drew)); exact Kd.R_mono HL453_0.out (fun _ hk => ⟨hk.2, hk.1⟩)) hg hat); have n3_ := Aside0.mk (Kd.R_after (ok := (fun k_ => some k_ ≠ (.slice (some ad444) t440.length co13 : Value).ownBlock)) (by (with_reducible repeat (first | apply Kd.R_alloc | apply Kd.R_drewN | apply Kd.R_drew)); exact Kd.R_mono HL454_0.out (fun _ hk => ⟨hk.2, hk.1⟩)) hg hat); have n4_ := Aside0.mk (hb); have n5_ := Aside0.mk (ho); clear HO_8; clear HL444_0; clear HL453_0; clear HL454_0; clear HB; clear HO_9; have HO_8 := n0_; have HL444_0 := n1_; have HL453_0 := n2_; have HL454_0 := n3_; have HB := n4_; have HO457 := n5_; clear n0_ n1_ n2_ n3_ n4_ n5_; clear ho hb hg hat)))
                                go_roundg k3
                                case measure => have := HJ4.out; have := HK2.out; have := HK3.out; omega
                                case rel => exact ⟨(y455), (wrap64 (x10_2 + 1)), (by first | rfl | (simp; done) | (simp [*]; done)), H', ⟨by have := HJ4.out; have := HK2.out; have := HK3.out; omega⟩, ⟨by (with_reducible repeat (first | apply Kd.S_alloc | apply Kd.S_drewN | apply Kd.S_drew)); exact Kd.S_mono HO_8.out (fun _ hk => hk.2)⟩, ⟨by (with_reducible repeat (first | apply Kd.R_alloc | apply Kd.R_drewN | apply Kd.R_drew)); exact HO457.out⟩, ⟨by repeat (first | (with_reducible first | exact HB.out | apply below_alloc | apply pw_below_drewN | apply below_drew1) | exact HB.out)⟩⟩
                              · rw [if_neg c24] at H
                                exact absurd H (by simp)
                          · rw [if_neg c22] at H
                            have c22b0 : decide (x11_3 < a1) = false := decide_eq_false c22
                            clear c22
                            by_cases c26 : x9_2.length + (rd_L5 t440 x10_2).length < 4398046511104
                            · rw [if_pos c26] at H
                              have LMc26 := Aside0.mk c26
                              clear c26
                              obtain ⟨y459, hy459⟩ : ∃ y_ : List (S43), y_ = (x9_2 ++ (rd_L5 t440 x10_2)) := ⟨_, rfl⟩
                              replace H : (moultlaw8_BlockRows.l0 k3 l0 a1 t440 y459 (wrap64 (x10_2 + 1))) = some r := by first | (rw [hy459]; with_reducible exact H) | (have H2_ := (Option.bind_some _ _).symm.trans H; rw [hy459]; with_reducible exact H2_) | (have H2_ := (Option.bind_some _ _).symm.trans H; with_reducible exact H2_) | with_reducible exact H | (rw [hy459]; exact H) | exact H
                              have Ny459 := Aside0.mk hy459
                              clear hy459
                              have H' := Aside0.mk H
                              clear H
                              have p444 : 0 ≤ (x10_2 : Int) := of_decide_eq_true (by first | (with_reducible assumption) | assumption)
                              have q444 : x10_2 < (t440.length : Int) := of_decide_eq_true (by first | (with_reducible assumption) | assumption)
                              obtain ⟨ad444, A444_0, c444_0, e444, hx444_0, hl444_0, hi444_0⟩ := at_L5 (Kd.S_reads' HO_8.out).2.2 x10_2 p444 q444
                              cases e444
                              obtain ⟨ce444, hce444, hMe444, hcc444⟩ := Kd.S_get HO_8.out [] x10_2 p444 (by first | exact q444 | exact of_decide_eq_true (by first | (with_reducible assumption) | assumption) | (have e_ := (Kd.S_reads' HO_8.out).1; omega))
                              obtain ⟨ve444_0, rfl, ge444_0⟩ := hMe444
                              have hv444_0 := hcc444 0 _ rfl
                              rw [Nat.add_zero, show ((Kd.slice 43 k43)).sz = 1 from rfl, Nat.mul_one] at hv444_0
                              replace hv444_0 := Option.some.inj (hv444_0.symm.trans hx444_0)
                              rw [hv444_0] at ge444_0
                              have HL444_0 := Aside0.mk (show Kd.R k43 43 _ _ _ _ (rd_L5 t440 x10_2) from ge444_0)
                              clear hv444_0 ge444_0
                              clear hcc444 hce444
                              have HR444_0 := Aside0.mk hi444_0
                              have HC444_0 := Aside0.mk hl444_0
                              clear hi444_0 hl444_0
                              replace p444 := eq_true p444
                              replace q444 := eq_true q444
                              have p453 : 0 ≤ (x10_2 : Int) := of_decide_eq_true (by first | (with_reducible assumption) | assumption)
                              have q453 : x10_2 < (t440.length : Int) := of_decide_eq_true (by first | (with_reducible assumption) | assumption)
                              obtain ⟨ad453, A453_0, c453_0, e453, hx453_0, hl453_0, hi453_0⟩ := at_L5 (Kd.S_reads' HO_8.out).2.2 x10_2 p453 q453
                              obtain rfl : ad444 = ad453 := (by injection e453)
                              obtain ⟨ce453, hce453, hMe453, hcc453⟩ := Kd.S_get HO_8.out [] x10_2 p453 (by first | exact q453 | exact of_decide_eq_true (by first | (with_reducible assumption) | assumption) | (have e_ := (Kd.S_reads' HO_8.out).1; omega))
                              obtain ⟨ve453_0, rfl, ge453_0⟩ := hMe453
                              have hv453_0 := hcc453 0 _ rfl
                              rw [Nat.add_zero, show ((Kd.slice 43 k43)).sz = 1 from rfl, Nat.mul_one] at hv453_0
                              replace hv453_0 := Option.some.inj (hv453_0.symm.trans hx453_0)
                              rw [hv453_0] at ge453_0
                              have HL453_0 := Aside0.mk (show Kd.R k43 43 _ _ _ _ (rd_L5 t440 x10_2) from ge453_0)
                              clear hv453_0 ge453_0
                              clear hcc453 hce453
                              have HR453_0 := Aside0.mk hi453_0
                              have HC453_0 := Aside0.mk hl453_0
                              clear hi453_0 hl453_0
                              replace p453 := eq_true p453
                              replace q453 := eq_true q453
                              have ea_ := Option.some.inj (hx444_0.symm.trans hx453_0)
                              injection ea_ with ea_ en_ ec_
                              subst ea_
                              subst ec_
                              clear en_
                              have p458 : 0 ≤ (x10_2 : Int) := of_decide_eq_true (by first | (with_reducible assumption) | assumption)
                              have q458 : x10_2 < (t440.length : Int) := of_decide_eq_true (by first | (with_reducible assumption) | assumption)
                              obtain ⟨ad458, A458_0, c458_0, e458, hx458_0, hl458_0, hi458_0⟩ := at_L5 (Kd.S_reads' HO_8.out).2.2 x10_2 p458 q458
                              obtain rfl : ad444 = ad458 := (by injection e458)
                              obtain ⟨ce458, hce458, hMe458, hcc458⟩ := Kd.S_get HO_8.out [] x10_2 p458 (by first | exact q458 | exact of_decide_eq_true (by first | (with_reducible assumption) | assumption) | (have e_ := (Kd.S_reads' HO_8.out).1; omega))
                              obtain ⟨ve458_0, rfl, ge458_0⟩ := hMe458
                              have hv458_0 := hcc458 0 _ rfl
                              rw [Nat.add_zero, show ((Kd.slice 43 k43)).sz = 1 from rfl, Nat.mul_one] at hv458_0
                              replace hv458_0 := Option.some.inj (hv458_0.symm.trans hx458_0)
                              rw [hv458_0] at ge458_0
                              have HL458_0 := Aside0.mk (show Kd.R k43 43 _ _ _ _ (rd_L5 t440 x10_2) from ge458_0)
                              clear hv458_0 ge458_0
                              clear hcc458 hce458
                              have HR458_0 := Aside0.mk hi458_0
                              have HC458_0 := Aside0.mk hl458_0
                              clear hi458_0 hl458_0
                              replace p458 := eq_true p458
                              replace q458 := eq_true q458
                              have ea_ := Option.some.inj (hx444_0.symm.trans hx458_0)
                              injection ea_ with ea_ en_ ec_
                              subst ea_
                              subst ec_
                              clear en_
                              go_wp2_with (first | ((with_reducible refine gate_builtin (b := .append) (xs := #[.tmp 90, .tmp 94]) rfl ?_); (try (refine gate_guard (by rfl) ?_; dsimp only)); at_builtin; refine Kd.R_append_rows k43 (w0 := w) w.heap.size rfl (.tmp 90) (.tmp 94) 23 43 (.agg #[(.string ⟨#[]⟩), (.string ⟨#[]⟩)]) 32 rfl Try.underlying23 info43 rfl (by decide) (by omega) u9 x9_2 (rd_L5 t440 x10_2) _ _ _ (fun _ => True) (fun _ => False) rfl rfl ?aO ?aR (fun _ _ h => h) (fun _ h => h.elim) ?aF ?aB ?aS ?aL ?_; (case aR => repeat (first | exact (by repeat (first | (with_reducible exact HR458_0.out) | (with_reducible refine Kd.C_alloc ?_ _) | (with_reducible refine Kd.C_drewN ?_ _) | (with_reducible refine Kd.C_drew ?_) | exact HR458_0.out)) | (with_reducible refine Kd.C_alloc ?_ _) | (with_reducible refine Kd.C_drewN ?_ _) | (with_reducible refine Kd.C_drew ?_))); (case aB => exact (by repeat (first | (with_reducible first | exact HB.out | apply below_alloc | apply pw_below_drewN | apply below_drew1) | exact HB.out))); (case aF => exact (fun _ _ => trivial)); (case aO => exact (by (with_reducible repeat (first | apply Kd.R_alloc | apply Kd.R_drewN | apply Kd.R_drew)); exact HO_9.out)); (case aS => exact (below_size (by repeat (first | (with_reducible first | exact HB.out | apply below_alloc | apply pw_below_drewN | apply below_drew1) | exact HB.out)))); (case aL => have := LMc26.out; omega); intro v460 w27 ho hb hg hat; rw [← Ny459.out] at ho; have n0_ := Aside0.mk (Kd.S_after (ok := (fun _ => True)) (by (with_reducible repeat (first | apply Kd.S_alloc | apply Kd.S_drewN | apply Kd.S_drew)); exact Kd.S_mono HO_8.out (fun _ hk => ⟨trivial, hk⟩)) hg hat); have n1_ := Aside0.mk (Kd.R_after (ok := (fun k_ => some k_ ≠ (.slice (some ad444) t440.length co13 : Value).ownBlock)) (by (with_reducible repeat (first | apply Kd.R_alloc | apply Kd.R_drewN | apply Kd.R_drew)); exact Kd.R_mono HL444_0.out (fun _ hk => ⟨hk.2, hk.1⟩)) hg hat); have n2_ := Aside0.mk (Kd.R_after (ok := (fun k_ => some k_ ≠ (.slice (some ad444) t440.length co13 : Value).ownBlock)) (by (with_reducible repeat (first | apply Kd.R_alloc | apply Kd.R_drewN | apply Kd.R_drew)); exact Kd.R_mono HL453_0.out (fun _ hk => ⟨hk.2, hk.1⟩)) hg hat); have n3_ := Aside0.mk (Kd.R_after (ok := (fun k_ => some k_ ≠ (.slice (some ad444) t440.length co13 : Value).ownBlock)) (by (with_reducible repeat (first | apply Kd.R_alloc | apply Kd.R_drewN | apply Kd.R_drew)); exact Kd.R_mono HL458_0.out (fun _ hk => ⟨hk.2, hk.1⟩)) hg hat); have n4_ := Aside0.mk (hb); have n5_ := Aside0.mk (ho); clear HO_8; clear HL444_0; clear HL453_0; clear HL458_0; clear HB; clear HO_9; have HO_8 := n0_; have HL444_0 := n1_; have HL453_0 := n2_; have HL458_0 := n3_; have HB := n4_; have HO461 := n5_; clear n0_ n1_ n2_ n3_ n4_ n5_; clear ho hb hg hat))
                              repeat (go_quiet (first | ((with_reducible refine gate_builtin (b := .append) (xs := #[.tmp 90, .tmp 94]) rfl ?_); (try (refine gate_guard (by rfl) ?_; dsimp only)); at_builtin; refine Kd.R_append_rows k43 (w0 := w) w.heap.size rfl (.tmp 90) (.tmp 94) 23 43 (.agg #[(.string ⟨#[]⟩), (.string ⟨#[]⟩)]) 32 rfl Try.underlying23 info43 rfl (by decide) (by omega) u9 x9_2 (rd_L5 t440 x10_2) _ _ _ (fun _ => True) (fun _ => False) rfl rfl ?aO ?aR (fun _ _ h => h) (fun _ h => h.elim) ?aF ?aB ?aS ?aL ?_; (case aR => repeat (first | exact (by repeat (first | (with_reducible exact HR458_0.out) | (with_reducible refine Kd.C_alloc ?_ _) | (with_reducible refine Kd.C_drewN ?_ _) | (with_reducible refine Kd.C_drew ?_) | exact HR458_0.out)) | (with_reducible refine Kd.C_alloc ?_ _) | (with_reducible refine Kd.C_drewN ?_ _) | (with_reducible refine Kd.C_drew ?_))); (case aB => exact (by repeat (first | (with_reducible first | exact HB.out | apply below_alloc | apply pw_below_drewN | apply below_drew1) | exact HB.out))); (case aF => exact (fun _ _ => trivial)); (case aO => exact (by (with_reducible repeat (first | apply Kd.R_alloc | apply Kd.R_drewN | apply Kd.R_drew)); exact HO_9.out)); (case aS => exact (below_size (by repeat (first | (with_reducible first | exact HB.out | apply below_alloc | apply pw_below_drewN | apply below_drew1) | exact HB.out)))); (case aL => have := LMc26.out; omega); intro v460 w27 ho hb hg hat; rw [← Ny459.out] at ho; have n0_ := Aside0.mk (Kd.S_after (ok := (fun _ => True)) (by (with_reducible repeat (first | apply Kd.S_alloc | apply Kd.S_drewN | apply Kd.S_drew)); exact Kd.S_mono HO_8.out (fun _ hk => ⟨trivial, hk⟩)) hg hat); have n1_ := Aside0.mk (Kd.R_after (ok := (fun k_ => some k_ ≠ (.slice (some ad444) t440.length co13 : Value).ownBlock)) (by (with_reducible repeat (first | apply Kd.R_alloc | apply Kd.R_drewN | apply Kd.R_drew)); exact Kd.R_mono HL444_0.out (fun _ hk => ⟨hk.2, hk.1⟩)) hg hat); have n2_ := Aside0.mk (Kd.R_after (ok := (fun k_ => some k_ ≠ (.slice (some ad444) t440.length co13 : Value).ownBlock)) (by (with_reducible repeat (first | apply Kd.R_alloc | apply Kd.R_drewN | apply Kd.R_drew)); exact Kd.R_mono HL453_0.out (fun _ hk => ⟨hk.2, hk.1⟩)) hg hat); have n3_ := Aside0.mk (Kd.R_after (ok := (fun k_ => some k_ ≠ (.slice (some ad444) t440.length co13 : Value).ownBlock)) (by (with_reducible repeat (first | apply Kd.R_alloc | apply Kd.R_drewN | apply Kd.R_drew)); exact Kd.R_mono HL458_0.out (fun _ hk => ⟨hk.2, hk.1⟩)) hg hat); have n4_ := Aside0.mk (hb); have n5_ := Aside0.mk (ho); clear HO_8; clear HL444_0; clear HL453_0; clear HL458_0; clear HB; clear HO_9; have HO_8 := n0_; have HL444_0 := n1_; have HL453_0 := n2_; have HL458_0 := n3_; have HB := n4_; have HO461 := n5_; clear n0_ n1_ n2_ n3_ n4_ n5_; clear ho hb hg hat)); try go_wp2_with (first | ((with_reducible refine gate_builtin (b := .append) (xs := #[.tmp 90, .tmp 94]) rfl ?_); (try (refine gate_guard (by rfl) ?_; dsimp only)); at_builtin; refine Kd.R_append_rows k43 (w0 := w) w.heap.size rfl (.tmp 90) (.tmp 94) 23 43 (.agg #[(.string ⟨#[]⟩), (.string ⟨#[]⟩)]) 32 rfl Try.underlying23 info43 rfl (by decide) (by omega) u9 x9_2 (rd_L5 t440 x10_2) _ _ _ (fun _ => True) (fun _ => False) rfl rfl ?aO ?aR (fun _ _ h => h) (fun _ h => h.elim) ?aF ?aB ?aS ?aL ?_; (case aR => repeat (first | exact (by repeat (first | (with_reducible exact HR458_0.out) | (with_reducible refine Kd.C_alloc ?_ _) | (with_reducible refine Kd.C_drewN ?_ _) | (with_reducible refine Kd.C_drew ?_) | exact HR458_0.out)) | (with_reducible refine Kd.C_alloc ?_ _) | (with_reducible refine Kd.C_drewN ?_ _) | (with_reducible refine Kd.C_drew ?_))); (case aB => exact (by repeat (first | (with_reducible first | exact HB.out | apply below_alloc | apply pw_below_drewN | apply below_drew1) | exact HB.out))); (case aF => exact (fun _ _ => trivial)); (case aO => exact (by (with_reducible repeat (first | apply Kd.R_alloc | apply Kd.R_drewN | apply Kd.R_drew)); exact HO_9.out)); (case aS => exact (below_size (by repeat (first | (with_reducible first | exact HB.out | apply below_alloc | apply pw_below_drewN | apply below_drew1) | exact HB.out)))); (case aL => have := LMc26.out; omega); intro v460 w27 ho hb hg hat; rw [← Ny459.out] at ho; have n0_ := Aside0.mk (Kd.S_after (ok := (fun _ => True)) (by (with_reducible repeat (first | apply Kd.S_alloc | apply Kd.S_drewN | apply Kd.S_drew)); exact Kd.S_mono HO_8.out (fun _ hk => ⟨trivial, hk⟩)) hg hat); have n1_ := Aside0.mk (Kd.R_after (ok := (fun k_ => some k_ ≠ (.slice (some ad444) t440.length co13 : Value).ownBlock)) (by (with_reducible repeat (first | apply Kd.R_alloc | apply Kd.R_drewN | apply Kd.R_drew)); exact Kd.R_mono HL444_0.out (fun _ hk => ⟨hk.2, hk.1⟩)) hg hat); have n2_ := Aside0.mk (Kd.R_after (ok := (fun k_ => some k_ ≠ (.slice (some ad444) t440.length co13 : Value).ownBlock)) (by (with_reducible repeat (first | apply Kd.R_alloc | apply Kd.R_drewN | apply Kd.R_drew)); exact Kd.R_mono HL453_0.out (fun _ hk => ⟨hk.2, hk.1⟩)) hg hat); have n3_ := Aside0.mk (Kd.R_after (ok := (fun k_ => some k_ ≠ (.slice (some ad444) t440.length co13 : Value).ownBlock)) (by (with_reducible repeat (first | apply Kd.R_alloc | apply Kd.R_drewN | apply Kd.R_drew)); exact Kd.R_mono HL458_0.out (fun _ hk => ⟨hk.2, hk.1⟩)) hg hat); have n4_ := Aside0.mk (hb); have n5_ := Aside0.mk (ho); clear HO_8; clear HL444_0; clear HL453_0; clear HL458_0; clear HB; clear HO_9; have HO_8 := n0_; have HL444_0 := n1_; have HL453_0 := n2_; have HL458_0 := n3_; have HB := n4_; have HO461 := n5_; clear n0_ n1_ n2_ n3_ n4_ n5_; clear ho hb hg hat)))
                              go_roundg k3
                              case measure => have := HJ4.out; have := HK2.out; have := HK3.out; omega
                              case rel => exact ⟨(y459), (wrap64 (x10_2 + 1)), (by first | rfl | (simp; done) | (simp [*]; done)), H', ⟨by have := HJ4.out; have := HK2.out; have := HK3.out; omega⟩, ⟨by (with_reducible repeat (first | apply Kd.S_alloc | apply Kd.S_drewN | apply Kd.S_drew)); exact Kd.S_mono HO_8.out (fun _ hk => hk.2)⟩, ⟨by (with_reducible repeat (first | apply Kd.R_alloc | apply Kd.R_drewN | apply Kd.R_drew)); exact HO461.out⟩, ⟨by repeat (first | (with_reducible first | exact HB.out | apply below_alloc | apply pw_below_drewN | apply below_drew1) | exact HB.out)⟩⟩
                            · rw [if_neg c26] at H
                              exact absurd H (by simp)
                    · rw [if_neg c15] at H
                      exact absurd H (by simp)
                  · rw [if_neg c14] at H
                    exact absurd H (by simp)
            · rw [if_neg c12] at H
              have c12b0 : decide (x10_2 < (t440.length : Int)) = false := decide_eq_false c12
              clear c12
              replace H := Option.bind_eq_some_iff.mp H
              obtain ⟨t443, A280, H⟩ := H
              replace H : (some t443) = some r := H
              have A28 := Aside0.mk A280
              clear A280
              obtain rfl := Option.some.inj H
              obtain ⟨Ao29, co29, eo29⟩ := Kd.S_slice HO_8.out
              subst eo29
              obtain ⟨Ao30, co30, eo30⟩ := Kd.R_slice HO_9.out
              subst eo30
              go_wp2_with (first | (go_at_call 20; (with_reducible refine (moultlaw8_same.calls k2 _ _ x9_2 _ _ l0 t443 _ ?side1 ?side2 ?side3 ?side4 A28.out).mono ?_); (case side1 => repeat (first | exact (Kd.R_reads' HO_9.out).2.2 | (with_reducible refine Kd.C_alloc ?_ _) | (with_reducible refine Kd.C_drewN ?_ _) | (with_reducible refine Kd.C_drew ?_))); (case side2 => exact (Kd.R_reads' HO_9.out).2.1); (case side3 => repeat (first | exact (Kd.C_below HR0.out HB.out) | (with_reducible refine Kd.C_alloc ?_ _) | (with_reducible refine Kd.C_drewN ?_ _) | (with_reducible refine Kd.C_drew ?_))); (case side4 => exact HC0.out); rintro e w' ⟨rfl, ⟨nd, rfl⟩⟩; (try first | exact ⟨rfl, _, World.drewN_drewN _ _ _⟩ | exact ⟨rfl, _, Eq.trans (World.drewN_drewN _ _ _) (congrArg (World.drewN _) (Nat.add_assoc _ _ _))⟩)))
              repeat (go_quiet (first | (go_at_call 20; (with_reducible refine (moultlaw8_same.calls k2 _ _ x9_2 _ _ l0 t443 _ ?side1 ?side2 ?side3 ?side4 A28.out).mono ?_); (case side1 => repeat (first | exact (Kd.R_reads' HO_9.out).2.2 | (with_reducible refine Kd.C_alloc ?_ _) | (with_reducible refine Kd.C_drewN ?_ _) | (with_reducible refine Kd.C_drew ?_))); (case side2 => exact (Kd.R_reads' HO_9.out).2.1); (case side3 => repeat (first | exact (Kd.C_below HR0.out HB.out) | (with_reducible refine Kd.C_alloc ?_ _) | (with_reducible refine Kd.C_drewN ?_ _) | (with_reducible refine Kd.C_drew ?_))); (case side4 => exact HC0.out); rintro e w' ⟨rfl, ⟨nd, rfl⟩⟩; (try first | exact ⟨rfl, _, World.drewN_drewN _ _ _⟩ | exact ⟨rfl, _, Eq.trans (World.drewN_drewN _ _ _) (congrArg (World.drewN _) (Nat.add_assoc _ _ _))⟩))); try go_wp2_with (first | (go_at_call 20; (with_reducible refine (moultlaw8_same.calls k2 _ _ x9_2 _ _ l0 t443 _ ?side1 ?side2 ?side3 ?side4 A28.out).mono ?_); (case side1 => repeat (first | exact (Kd.R_reads' HO_9.out).2.2 | (with_reducible refine Kd.C_alloc ?_ _) | (with_reducible refine Kd.C_drewN ?_ _) | (with_reducible refine Kd.C_drew ?_))); (case side2 => exact (Kd.R_reads' HO_9.out).2.1); (case side3 => repeat (first | exact (Kd.C_below HR0.out HB.out) | (with_reducible refine Kd.C_alloc ?_ _) | (with_reducible refine Kd.C_drewN ?_ _) | (with_reducible refine Kd.C_drew ?_))); (case side4 => exact HC0.out); rintro e w' ⟨rfl, ⟨nd, rfl⟩⟩; (try first | exact ⟨rfl, _, World.drewN_drewN _ _ _⟩ | exact ⟨rfl, _, Eq.trans (World.drewN_drewN _ _ _) (congrArg (World.drewN _) (Nat.add_assoc _ _ _))⟩))))
              all_goals go_ret
              all_goals exact ⟨by first | rfl | (simp [errW_none, errW_some] <;> rfl) | (simp [*, errW_none, errW_some] <;> rfl), by repeat (first | (with_reducible first | exact HB.out | apply below_alloc | apply pw_below_drewN | apply below_drew1) | exact HB.out)⟩
end Go.Proofs.Ytbhainkcdkgbbaa.P

