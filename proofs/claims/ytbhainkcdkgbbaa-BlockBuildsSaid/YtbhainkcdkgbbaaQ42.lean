import Derived.Test.YtbhainkcdkgbbaaProg
import Derived.Below
import Derived.Deep.Draws
import Derived.Deep.AppendLies
import Derived.Maps.AppendAt
import Derived.OwnWalk
import Derived.Laws.BytesArg
import Derived.Laws.MakeOwn
import Derived.Laws.OwnMore
import Derived.Deep.OwnRows
import Derived.Tactics
import Derived.Lib.ConvBytes
import Derived.Laws.Slices
import Derived.WalkKit
import Derived.KernelRfl
import Derived.RowKit3
import Derived.Deep.LoopGhost
import Derived.Deep.QuietTactic
import Derived.BigQuiet
import Derived.WideLaws
import Derived.Deep.DeepCutAuto
import Derived.Deep.CutBlock
import Derived.Deep.RegionHeld3
import Derived.Laws.Rows
import Derived.Lib.AppendStr
import Derived.ArgAppend
import Derived.Laws.IdiomCopy
import Derived.OrdersHeld
import Derived.Laws.BitsLemmas
import Derived.RowKit
import Derived.Lib.Hide
import Derived.Laws.ShiftsVar
import Derived.Laws.ShiftsVarLaws
import Derived.Laws.BitsAllLaws
import Derived.Shelf.Strings.Builder1
import Derived.Laws.Strings
import Derived.Laws.StructEq
import Derived.WalkSpells
import Derived.Outline
import Derived.RegionTactic
import Derived.Deep.RegionWith
import Derived.StillTailTactics
import Derived.Deep.RegionLaw
import Derived.Test.YtbhainkcdkgbbaaQ0
import Derived.Test.YtbhainkcdkgbbaaQ1
import Derived.Test.YtbhainkcdkgbbaaQ2
import Derived.Test.YtbhainkcdkgbbaaQ4
import Derived.Test.YtbhainkcdkgbbaaQ5
import Derived.Test.YtbhainkcdkgbbaaQ11
import Derived.Test.YtbhainkcdkgbbaaQ12
import Derived.Test.YtbhainkcdkgbbaaQ13
import Derived.Test.YtbhainkcdkgbbaaQ15
import Derived.Test.YtbhainkcdkgbbaaQ16
import Derived.Test.YtbhainkcdkgbbaaQ18
import Derived.Test.YtbhainkcdkgbbaaQ24
import Derived.Test.YtbhainkcdkgbbaaQ27
import Derived.Test.YtbhainkcdkgbbaaQ41
namespace Go.Proofs.Ytbhainkcdkgbbaa.Sl
end Go.Proofs.Ytbhainkcdkgbbaa.Sl
namespace Go.Proofs.Ytbhainkcdkgbbaa.Vp
end Go.Proofs.Ytbhainkcdkgbbaa.Vp
namespace Go.Proofs.YtbhainkcdkgbbaaW.PrintLast
end Go.Proofs.YtbhainkcdkgbbaaW.PrintLast
namespace Go.Proofs.YtbhainkcdkgbbaaW.PrintMore
end Go.Proofs.YtbhainkcdkgbbaaW.PrintMore
namespace Go.Proofs.YtbhainkcdkgbbaaW.PrintWords
end Go.Proofs.YtbhainkcdkgbbaaW.PrintWords
namespace Go.Proofs.Ytbhainkcdkgbbaa.P
open Go.RowKit Go.Proofs.Ytbhainkcdkgbbaa.Vp Go.Proofs.Ytbhainkcdkgbbaa.Sl Go.Proofs.YtbhainkcdkgbbaaW.PrintWords Go.Proofs.YtbhainkcdkgbbaaW.PrintLast Go.Proofs.YtbhainkcdkgbbaaW.PrintMore
attribute [local go_sem] str_gtr str_leq str_geq max2_int min2_int max_two min_two max_three min_three max_four min_four
set_option linter.unusedVariables false
set_option linter.unusedSimpArgs false
mutual
def moultlaw8_BlockBuilds.j0 : Nat → List (S43) → Int → ByteArray → ByteArray → Bool → List (S59) → Bool → Option (Bool)
  | 0, _, _, _, _, _, _, _ => none
  | k + 1, x0, x1, x2, x3, x9, x10, x41 => if x41 = true then (some x9) else ((block_Build.f x0).bind fun bt420 => ((moultref8_Build.f k x10).bind fun bt422 => ((block_Split.f k x0 x1).bind fun t424 => ((moultref8_Split.f k x10 x1).bind fun t427 => (if bt420.1.toList = bt422.1.toList then (if bt420.2 = bt422.2 then (if (t424.length : Int) = (t427.length : Int) then ((block_Common.f k x2 x3).bind fun t430 => ((moultref8_Common.f k x2 x3).bind fun t431 => (moultlaw8_BlockBuilds.j1 k t424 t427 (t430 != t431)))) else (moultlaw8_BlockBuilds.j1 k t424 t427 true)) else (moultlaw8_BlockBuilds.j1 k t424 t427 true)) else (moultlaw8_BlockBuilds.j1 k t424 t427 true))))))
def moultlaw8_BlockBuilds.j1 : Nat → List (List (S43)) → List (List (S59)) → Bool → Option (Bool)
  | 0, _, _, _ => none
  | k + 1, x16, x17, x82 => if x82 = true then (some false) else (moultlaw8_BlockBuilds.l0 k x16 x17 0)
def moultlaw8_BlockBuilds.l0 : Nat → List (List (S43)) → List (List (S59)) → Int → Option (Bool)
  | 0, _, _, _ => none
  | k + 1, x16, x17, x18 => if x18 < (x16.length : Int) then (if 0 ≤ x18 then (if x18 < (x17.length : Int) then ((moultlaw8_alike.f k (rd_L5 x16 x18) (rd_L8 x17 x18)).bind fun t434 => (if t434 = true then (moultlaw8_BlockBuilds.l0 k x16 x17 (wrap64 (x18 + 1))) else (some false))) else (none)) else (none)) else (some true)
end
def moultlaw8_BlockBuilds.f (k : Nat) (l0 : List (S43)) (a1 : Int) (a2 : ByteArray) (a3 : ByteArray) : Option (Bool) := (moultlaw8_shown.f k).bind fun t415 => ((moultlaw8_as.f k l0).bind fun bt416 => (if t415 = true then (if bt416.2 = true then (if (a2.size : Int) > 1000 then (moultlaw8_BlockBuilds.j0 k l0 a1 a2 a3 t415 bt416.1 true) else (moultlaw8_BlockBuilds.j0 k l0 a1 a2 a3 t415 bt416.1 (decide ((a3.size : Int) > 1000)))) else (moultlaw8_BlockBuilds.j0 k l0 a1 a2 a3 t415 bt416.1 true)) else (moultlaw8_BlockBuilds.j0 k l0 a1 a2 a3 t415 bt416.1 true)))
theorem moultlaw8_BlockBuilds.mono_l : ∀ k, (∀ y0 y1 y2 y3 y4 y5 y6, LeO (moultlaw8_BlockBuilds.j0 k y0 y1 y2 y3 y4 y5 y6) (moultlaw8_BlockBuilds.j0 (k + 1) y0 y1 y2 y3 y4 y5 y6)) ∧ (∀ y0 y1 y2, LeO (moultlaw8_BlockBuilds.j1 k y0 y1 y2) (moultlaw8_BlockBuilds.j1 (k + 1) y0 y1 y2)) ∧ (∀ y0 y1 y2, LeO (moultlaw8_BlockBuilds.l0 k y0 y1 y2) (moultlaw8_BlockBuilds.l0 (k + 1) y0 y1 y2))
  | 0 => ⟨fun _ _ _ _ _ _ _ r h => by simp [moultlaw8_BlockBuilds.j0] at h, fun _ _ _ r h => by simp [moultlaw8_BlockBuilds.j1] at h, fun _ _ _ r h => by simp [moultlaw8_BlockBuilds.l0] at h⟩
  | k + 1 => by
    obtain ⟨ih0, ih1, ih2⟩ := moultlaw8_BlockBuilds.mono_l k
    refine ⟨?_, ?_, ?_⟩
    · intro y0 y1 y2 y3 y4 y5 y6
      unfold moultlaw8_BlockBuilds.j0
      repeat' first
      | (with_reducible exact ih0 _ _ _ _ _ _ _)
      | (with_reducible exact ih1 _ _ _)
      | (with_reducible exact ih2 _ _ _)
      | (with_reducible exact block_Common.mono _ _ _)
      | (with_reducible exact block_Split.mono _ _ _)
      | (with_reducible exact moultlaw8_alike.mono _ _ _)
      | (with_reducible exact moultlaw8_as.mono _ _)
      | (with_reducible exact moultlaw8_shown.mono _)
      | (with_reducible exact moultref8_Build.mono _ _)
      | (with_reducible exact moultref8_Common.mono _ _ _)
      | (with_reducible exact moultref8_Split.mono _ _ _)
      | (with_reducible exact LeO.refl _)
      | (with_reducible exact LeO.none _)
      | (with_reducible refine LeO.ite ?_ ?_)
      | (with_reducible refine LeO.bind ?_ (fun _ => ?_))
      | exact ih0 _ _ _ _ _ _ _
      | exact ih1 _ _ _
      | exact ih2 _ _ _
      | exact block_Common.mono _ _ _
      | exact block_Split.mono _ _ _
      | exact moultlaw8_alike.mono _ _ _
      | exact moultlaw8_as.mono _ _
      | exact moultlaw8_shown.mono _
      | exact moultref8_Build.mono _ _
      | exact moultref8_Common.mono _ _ _
      | exact moultref8_Split.mono _ _ _
      | exact LeO.none _
      | refine LeO.ite ?_ ?_
      | refine LeO.bind ?_ (fun _ => ?_)
    · intro y0 y1 y2
      unfold moultlaw8_BlockBuilds.j1
      repeat' first
      | (with_reducible exact ih0 _ _ _ _ _ _ _)
      | (with_reducible exact ih1 _ _ _)
      | (with_reducible exact ih2 _ _ _)
      | (with_reducible exact block_Common.mono _ _ _)
      | (with_reducible exact block_Split.mono _ _ _)
      | (with_reducible exact moultlaw8_alike.mono _ _ _)
      | (with_reducible exact moultlaw8_as.mono _ _)
      | (with_reducible exact moultlaw8_shown.mono _)
      | (with_reducible exact moultref8_Build.mono _ _)
      | (with_reducible exact moultref8_Common.mono _ _ _)
      | (with_reducible exact moultref8_Split.mono _ _ _)
      | (with_reducible exact LeO.refl _)
      | (with_reducible exact LeO.none _)
      | (with_reducible refine LeO.ite ?_ ?_)
      | (with_reducible refine LeO.bind ?_ (fun _ => ?_))
      | exact ih0 _ _ _ _ _ _ _
      | exact ih1 _ _ _
      | exact ih2 _ _ _
      | exact block_Common.mono _ _ _
      | exact block_Split.mono _ _ _
      | exact moultlaw8_alike.mono _ _ _
      | exact moultlaw8_as.mono _ _
      | exact moultlaw8_shown.mono _
      | exact moultref8_Build.mono _ _
      | exact moultref8_Common.mono _ _ _
      | exact moultref8_Split.mono _ _ _
      | exact LeO.none _
      | refine LeO.ite ?_ ?_
      | refine LeO.bind ?_ (fun _ => ?_)
    · intro y0 y1 y2
      unfold moultlaw8_BlockBuilds.l0
      repeat' first
      | (with_reducible exact ih0 _ _ _ _ _ _ _)
      | (with_reducible exact ih1 _ _ _)
      | (with_reducible exact ih2 _ _ _)
      | (with_reducible exact block_Common.mono _ _ _)
      | (with_reducible exact block_Split.mono _ _ _)
      | (with_reducible exact moultlaw8_alike.mono _ _ _)
      | (with_reducible exact moultlaw8_as.mono _ _)
      | (with_reducible exact moultlaw8_shown.mono _)
      | (with_reducible exact moultref8_Build.mono _ _)
      | (with_reducible exact moultref8_Common.mono _ _ _)
      | (with_reducible exact moultref8_Split.mono _ _ _)
      | (with_reducible exact LeO.refl _)
      | (with_reducible exact LeO.none _)
      | (with_reducible refine LeO.ite ?_ ?_)
      | (with_reducible refine LeO.bind ?_ (fun _ => ?_))
      | exact ih0 _ _ _ _ _ _ _
      | exact ih1 _ _ _
      | exact ih2 _ _ _
      | exact block_Common.mono _ _ _
      | exact block_Split.mono _ _ _
      | exact moultlaw8_alike.mono _ _ _
      | exact moultlaw8_as.mono _ _
      | exact moultlaw8_shown.mono _
      | exact moultref8_Build.mono _ _
      | exact moultref8_Common.mono _ _ _
      | exact moultref8_Split.mono _ _ _
      | exact LeO.none _
      | refine LeO.ite ?_ ?_
      | refine LeO.bind ?_ (fun _ => ?_)
theorem moultlaw8_BlockBuilds.mono : ∀ a0 a1 a2 a3 k, LeO (moultlaw8_BlockBuilds.f k a0 a1 a2 a3) (moultlaw8_BlockBuilds.f (k + 1) a0 a1 a2 a3) := by
  intro a0 a1 a2 a3 k
  obtain ⟨ih0, ih1, ih2⟩ := moultlaw8_BlockBuilds.mono_l k
  unfold moultlaw8_BlockBuilds.f
  repeat' first
      | (with_reducible exact ih0 _ _ _ _ _ _ _)
      | (with_reducible exact ih1 _ _ _)
      | (with_reducible exact ih2 _ _ _)
      | (with_reducible exact block_Common.mono _ _ _)
      | (with_reducible exact block_Split.mono _ _ _)
      | (with_reducible exact moultlaw8_alike.mono _ _ _)
      | (with_reducible exact moultlaw8_as.mono _ _)
      | (with_reducible exact moultlaw8_shown.mono _)
      | (with_reducible exact moultref8_Build.mono _ _)
      | (with_reducible exact moultref8_Common.mono _ _ _)
      | (with_reducible exact moultref8_Split.mono _ _ _)
      | (with_reducible exact LeO.refl _)
      | (with_reducible exact LeO.none _)
      | (with_reducible refine LeO.ite ?_ ?_)
      | (with_reducible refine LeO.bind ?_ (fun _ => ?_))
      | exact ih0 _ _ _ _ _ _ _
      | exact ih1 _ _ _
      | exact ih2 _ _ _
      | exact block_Common.mono _ _ _
      | exact block_Split.mono _ _ _
      | exact moultlaw8_alike.mono _ _ _
      | exact moultlaw8_as.mono _ _
      | exact moultlaw8_shown.mono _
      | exact moultref8_Build.mono _ _
      | exact moultref8_Common.mono _ _ _
      | exact moultref8_Split.mono _ _ _
      | exact LeO.none _
      | refine LeO.ite ?_ ?_
      | refine LeO.bind ?_ (fun _ => ?_)
set_option maxHeartbeats 8000000 in
set_option maxRecDepth 100000 in
theorem moultlaw8_BlockBuilds.calls (k : Nat) (A0 : Option Addr) (c0 : Nat) (l0 : List (S43)) (a1 : Int) (a2 : ByteArray) (a3 : ByteArray) (r : Bool) (w : World) (hr0 : Kd.C k43 w A0 l0.length l0) (hc0 : l0.length ≤ c0) (h : moultlaw8_BlockBuilds.f k l0 a1 a2 a3 = some r) :
    Calls Try.prog 7 #[.slice A0 l0.length c0, .int .i64 a1, .string a2, .string a3] w fun e w' => e = .returned (.bool r) ∧ Below w.heap.size w w' := by
  have HR0 := Aside0.mk hr0
  have HC0 := Aside0.mk hc0
  clear hr0 hc0
  have HB := Aside0.mk (Below.refl w.heap.size w)
  have H : ((moultlaw8_shown.f k).bind fun t415 => ((moultlaw8_as.f k l0).bind fun bt416 => (if t415 = true then (if bt416.2 = true then (if (a2.size : Int) > 1000 then (moultlaw8_BlockBuilds.j0 k l0 a1 a2 a3 t415 bt416.1 true) else (moultlaw8_BlockBuilds.j0 k l0 a1 a2 a3 t415 bt416.1 (decide ((a3.size : Int) > 1000)))) else (moultlaw8_BlockBuilds.j0 k l0 a1 a2 a3 t415 bt416.1 true)) else (moultlaw8_BlockBuilds.j0 k l0 a1 a2 a3 t415 bt416.1 true)))) = some r := h
  clear h
  replace H := Option.bind_eq_some_iff.mp H
  obtain ⟨t415, A50, H⟩ := H
  replace H : ((moultlaw8_as.f k l0).bind fun bt416 => (if t415 = true then (if bt416.2 = true then (if (a2.size : Int) > 1000 then (moultlaw8_BlockBuilds.j0 k l0 a1 a2 a3 t415 bt416.1 true) else (moultlaw8_BlockBuilds.j0 k l0 a1 a2 a3 t415 bt416.1 (decide ((a3.size : Int) > 1000)))) else (moultlaw8_BlockBuilds.j0 k l0 a1 a2 a3 t415 bt416.1 true)) else (moultlaw8_BlockBuilds.j0 k l0 a1 a2 a3 t415 bt416.1 true))) = some r := H
  have A5 := Aside0.mk A50
  clear A50
  replace H := Option.bind_eq_some_iff.mp H
  obtain ⟨⟨t416, t417⟩, A60, H⟩ := H
  replace H : (if t415 = true then (if t417 = true then (if (a2.size : Int) > 1000 then (moultlaw8_BlockBuilds.j0 k l0 a1 a2 a3 t415 t416 true) else (moultlaw8_BlockBuilds.j0 k l0 a1 a2 a3 t415 t416 (decide ((a3.size : Int) > 1000)))) else (moultlaw8_BlockBuilds.j0 k l0 a1 a2 a3 t415 t416 true)) else (moultlaw8_BlockBuilds.j0 k l0 a1 a2 a3 t415 t416 true)) = some r := H
  have A6 := Aside0.mk A60
  clear A60
  have HC7 := Aside0.mk H
  clear H
  go_enter Try.func7, Try.ntmps7
  go_upto_region 3 with (first | (go_at_call 9; (with_reducible refine (moultlaw8_shown.calls k  t415 _ A5.out).mono ?_); rintro e w8 ⟨rfl, hb⟩; have n0_ := Aside0.mk (below_step (by repeat (first | (with_reducible first | exact HB.out | apply below_alloc | apply pw_below_drewN | apply below_drew1) | exact HB.out)) hb); clear HB; have HB := n0_; clear n0_; (try clear hb); (try clear hb2); (try clear hk); (try clear hi)) | (go_at_call 17; (with_reducible refine (moultlaw8_as.calls k _ _ l0 t416 t417 _ ?side1 ?side2 A6.out).mono ?_); (case side1 => repeat (first | exact (Kd.C_below HR0.out HB.out) | (with_reducible refine Kd.C_alloc ?_ _) | (with_reducible refine Kd.C_drewN ?_ _) | (with_reducible refine Kd.C_drew ?_))); (case side2 => exact HC0.out); rintro e w9 ⟨v418, rfl, ho0, hb⟩; have n0_ := Aside0.mk (Kd.R_lower ho0 (below_size (by repeat (first | (with_reducible first | exact HB.out | apply below_alloc | apply pw_below_drewN | apply below_drew1) | exact HB.out)))); have n1_ := Aside0.mk (below_step (by repeat (first | (with_reducible first | exact HB.out | apply below_alloc | apply pw_below_drewN | apply below_drew1) | exact HB.out)) hb); clear HB; have HO419 := n0_; have HB := n1_; clear n0_ n1_; (try clear hb); (try clear hb2); (try clear hk); (try clear hi); (try clear ho0)))
  repeat (go_quiet (first | (go_at_call 9; (with_reducible refine (moultlaw8_shown.calls k  t415 _ A5.out).mono ?_); rintro e w8 ⟨rfl, hb⟩; have n0_ := Aside0.mk (below_step (by repeat (first | (with_reducible first | exact HB.out | apply below_alloc | apply pw_below_drewN | apply below_drew1) | exact HB.out)) hb); clear HB; have HB := n0_; clear n0_; (try clear hb); (try clear hb2); (try clear hk); (try clear hi)) | (go_at_call 17; (with_reducible refine (moultlaw8_as.calls k _ _ l0 t416 t417 _ ?side1 ?side2 A6.out).mono ?_); (case side1 => repeat (first | exact (Kd.C_below HR0.out HB.out) | (with_reducible refine Kd.C_alloc ?_ _) | (with_reducible refine Kd.C_drewN ?_ _) | (with_reducible refine Kd.C_drew ?_))); (case side2 => exact HC0.out); rintro e w9 ⟨v418, rfl, ho0, hb⟩; have n0_ := Aside0.mk (Kd.R_lower ho0 (below_size (by repeat (first | (with_reducible first | exact HB.out | apply below_alloc | apply pw_below_drewN | apply below_drew1) | exact HB.out)))); have n1_ := Aside0.mk (below_step (by repeat (first | (with_reducible first | exact HB.out | apply below_alloc | apply pw_below_drewN | apply below_drew1) | exact HB.out)) hb); clear HB; have HO419 := n0_; have HB := n1_; clear n0_ n1_; (try clear hb); (try clear hb2); (try clear hk); (try clear hi); (try clear ho0))); go_upto_region 3 with (first | (go_at_call 9; (with_reducible refine (moultlaw8_shown.calls k  t415 _ A5.out).mono ?_); rintro e w8 ⟨rfl, hb⟩; have n0_ := Aside0.mk (below_step (by repeat (first | (with_reducible first | exact HB.out | apply below_alloc | apply pw_below_drewN | apply below_drew1) | exact HB.out)) hb); clear HB; have HB := n0_; clear n0_; (try clear hb); (try clear hb2); (try clear hk); (try clear hi)) | (go_at_call 17; (with_reducible refine (moultlaw8_as.calls k _ _ l0 t416 t417 _ ?side1 ?side2 A6.out).mono ?_); (case side1 => repeat (first | exact (Kd.C_below HR0.out HB.out) | (with_reducible refine Kd.C_alloc ?_ _) | (with_reducible refine Kd.C_drewN ?_ _) | (with_reducible refine Kd.C_drew ?_))); (case side2 => exact HC0.out); rintro e w9 ⟨v418, rfl, ho0, hb⟩; have n0_ := Aside0.mk (Kd.R_lower ho0 (below_size (by repeat (first | (with_reducible first | exact HB.out | apply below_alloc | apply pw_below_drewN | apply below_drew1) | exact HB.out)))); have n1_ := Aside0.mk (below_step (by repeat (first | (with_reducible first | exact HB.out | apply below_alloc | apply pw_below_drewN | apply below_drew1) | exact HB.out)) hb); clear HB; have HO419 := n0_; have HB := n1_; clear n0_ n1_; (try clear hb); (try clear hb2); (try clear hk); (try clear hi); (try clear ho0))))
  (try simp only [Act.put, List.setIfInBounds_toArray, List.set_cons_zero, List.set_cons_succ])
  go_cut [41] (fun v41 wc => ∃ (kq : Nat) (x41_6 : Bool), v41 = .bool x41_6 ∧ Aside0 (moultlaw8_BlockBuilds.j0 kq l0 a1 a2 a3 t415 t416 x41_6 = some r) ∧ Aside0 (kq ≤ k) ∧ Aside0 (Kd.R k59 59 wc w.heap.size (fun _ => True) v418 t416) ∧ Aside0 (Below w.heap.size w wc))
  case first =>
    have H := HC7.out
    clear HC7
    by_cases c10 : t415 = true
    · subst c10
      have H1 : (if t417 = true then (if (a2.size : Int) > 1000 then (moultlaw8_BlockBuilds.j0 k l0 a1 a2 a3 true t416 true) else (moultlaw8_BlockBuilds.j0 k l0 a1 a2 a3 true t416 (decide ((a3.size : Int) > 1000)))) else (moultlaw8_BlockBuilds.j0 k l0 a1 a2 a3 true t416 true)) = some r := by rw [if_pos rfl] at H; exact H
      clear H
      have H := H1
      clear H1
      by_cases c11 : t417 = true
      · subst c11
        have H1 : (if (a2.size : Int) > 1000 then (moultlaw8_BlockBuilds.j0 k l0 a1 a2 a3 true t416 true) else (moultlaw8_BlockBuilds.j0 k l0 a1 a2 a3 true t416 (decide ((a3.size : Int) > 1000)))) = some r := by rw [if_pos rfl] at H; exact H
        clear H
        have H := H1
        clear H1
        by_cases c12 : (a2.size : Int) > 1000
        · rw [if_pos c12] at H
          have c12b0 : decide (1000 < (a2.size : Int)) = true := decide_eq_true c12
          have c12b1 : decide (1000 < a2.size) = true := decide_eq_true (by omega)
          clear c12
          (first | rw [c12b0] | (simp only [i64_w, i32_w]; rw [c12b0]) | skip)
          have H' := Aside0.mk H
          clear H
          go_wp2
          repeat (go_quiet (fail); try go_wp2)
          go_meet
          case rel => exact ⟨_, (true), (by first | rfl | (simp; done) | (simp [*]; done)), H', ⟨by first | omega | exact Nat.le_refl _⟩, ⟨by (with_reducible repeat (first | apply Kd.R_alloc | apply Kd.R_drewN | apply Kd.R_drew)); exact HO419.out⟩, ⟨by repeat (first | (with_reducible first | exact HB.out | apply below_alloc | apply pw_below_drewN | apply below_drew1) | exact HB.out)⟩⟩
        · rw [if_neg c12] at H
          have c12b0 : decide (1000 < (a2.size : Int)) = false := decide_eq_false c12
          have c12b1 : decide (1000 < a2.size) = false := decide_eq_false (by omega)
          clear c12
          (first | rw [c12b0] | (simp only [i64_w, i32_w]; rw [c12b0]) | skip)
          have H' := Aside0.mk H
          clear H
          go_wp2
          repeat (go_quiet (fail); try go_wp2)
          go_meet
          case rel => exact ⟨_, (decide ((a3.size : Int) > 1000)), (by first | rfl | (simp; done) | (simp [*]; done)), H', ⟨by first | omega | exact Nat.le_refl _⟩, ⟨by (with_reducible repeat (first | apply Kd.R_alloc | apply Kd.R_drewN | apply Kd.R_drew)); exact HO419.out⟩, ⟨by repeat (first | (with_reducible first | exact HB.out | apply below_alloc | apply pw_below_drewN | apply below_drew1) | exact HB.out)⟩⟩
      · replace c11 := Bool.eq_false_iff.mpr c11
        subst c11
        have H1 : (moultlaw8_BlockBuilds.j0 k l0 a1 a2 a3 true t416 true) = some r := by rw [if_neg (show ¬ (false = true) by decide)] at H; exact H
        clear H
        have H := H1
        clear H1
        have H' := Aside0.mk H
        clear H
        go_wp2
        repeat (go_quiet (fail); try go_wp2)
        go_meet
        case rel => exact ⟨_, (true), (by first | rfl | (simp; done) | (simp [*]; done)), H', ⟨by first | omega | exact Nat.le_refl _⟩, ⟨by (with_reducible repeat (first | apply Kd.R_alloc | apply Kd.R_drewN | apply Kd.R_drew)); exact HO419.out⟩, ⟨by repeat (first | (with_reducible first | exact HB.out | apply below_alloc | apply pw_below_drewN | apply below_drew1) | exact HB.out)⟩⟩
    · replace c10 := Bool.eq_false_iff.mpr c10
      subst c10
      have H1 : (moultlaw8_BlockBuilds.j0 k l0 a1 a2 a3 false t416 true) = some r := by rw [if_neg (show ¬ (false = true) by decide)] at H; exact H
      clear H
      have H := H1
      clear H1
      have H' := Aside0.mk H
      clear H
      go_wp2
      repeat (go_quiet (fail); try go_wp2)
      go_meet
      case rel => exact ⟨_, (true), (by first | rfl | (simp; done) | (simp [*]; done)), H', ⟨by first | omega | exact Nat.le_refl _⟩, ⟨by (with_reducible repeat (first | apply Kd.R_alloc | apply Kd.R_drewN | apply Kd.R_drew)); exact HO419.out⟩, ⟨by repeat (first | (with_reducible first | exact HB.out | apply below_alloc | apply pw_below_drewN | apply below_drew1) | exact HB.out)⟩⟩
  case rest =>
    clear HC7
    try clear c1
    try clear p2
    try clear c7
    try clear c10
    try clear c11
    try clear c12
    try clear c12b0
    try clear c12b1
    obtain ⟨kq, x41_6, rfl, HA, HJ6, HO_10, HB⟩ := hcut
    cases kq with
    | zero => exact absurd HA.out (by simp [moultlaw8_BlockBuilds.j0])
    | succ kj6 =>
      have H := HA.out
      clear HA
      simp only [moultlaw8_BlockBuilds.j0] at H
      by_cases c13 : x41_6 = true
      · subst c13
        have H1 : (some t415) = some r := by rw [if_pos rfl] at H; exact H
        clear H
        have H := H1
        clear H1
        obtain rfl := Option.some.inj H
        go_wp2
        repeat (go_quiet (fail); try go_wp2)
        all_goals go_ret
        all_goals exact ⟨by first | rfl | (simp [errW_none, errW_some] <;> rfl) | (simp [*, errW_none, errW_some] <;> rfl), by repeat (first | (with_reducible first | exact HB.out | apply below_alloc | apply pw_below_drewN | apply below_drew1) | exact HB.out)⟩
      · replace c13 := Bool.eq_false_iff.mpr c13
        subst c13
        have H1 : ((block_Build.f l0).bind fun bt420 => ((moultref8_Build.f kj6 t416).bind fun bt422 => ((block_Split.f kj6 l0 a1).bind fun t424 => ((moultref8_Split.f kj6 t416 a1).bind fun t427 => (if bt420.1.toList = bt422.1.toList then (if bt420.2 = bt422.2 then (if (t424.length : Int) = (t427.length : Int) then ((block_Common.f kj6 a2 a3).bind fun t430 => ((moultref8_Common.f kj6 a2 a3).bind fun t431 => (moultlaw8_BlockBuilds.j1 kj6 t424 t427 (t430 != t431)))) else (moultlaw8_BlockBuilds.j1 kj6 t424 t427 true)) else (moultlaw8_BlockBuilds.j1 kj6 t424 t427 true)) else (moultlaw8_BlockBuilds.j1 kj6 t424 t427 true)))))) = some r := by rw [if_neg (show ¬ (false = true) by decide)] at H; exact H
        clear H
        have H := H1
        clear H1
        replace H := Option.bind_eq_some_iff.mp H
        obtain ⟨⟨t420, t421⟩, A140, H⟩ := H
        replace H : ((moultref8_Build.f kj6 t416).bind fun bt422 => ((block_Split.f kj6 l0 a1).bind fun t424 => ((moultref8_Split.f kj6 t416 a1).bind fun t427 => (if t420.toList = bt422.1.toList then (if t421 = bt422.2 then (if (t424.length : Int) = (t427.length : Int) then ((block_Common.f kj6 a2 a3).bind fun t430 => ((moultref8_Common.f kj6 a2 a3).bind fun t431 => (moultlaw8_BlockBuilds.j1 kj6 t424 t427 (t430 != t431)))) else (moultlaw8_BlockBuilds.j1 kj6 t424 t427 true)) else (moultlaw8_BlockBuilds.j1 kj6 t424 t427 true)) else (moultlaw8_BlockBuilds.j1 kj6 t424 t427 true))))) = some r := H
        have A14 := Aside0.mk A140
        clear A140
        replace H := Option.bind_eq_some_iff.mp H
        obtain ⟨⟨t422, t423⟩, A150, H⟩ := H
        replace H : ((block_Split.f kj6 l0 a1).bind fun t424 => ((moultref8_Split.f kj6 t416 a1).bind fun t427 => (if t420.toList = t422.toList then (if t421 = t423 then (if (t424.length : Int) = (t427.length : Int) then ((block_Common.f kj6 a2 a3).bind fun t430 => ((moultref8_Common.f kj6 a2 a3).bind fun t431 => (moultlaw8_BlockBuilds.j1 kj6 t424 t427 (t430 != t431)))) else (moultlaw8_BlockBuilds.j1 kj6 t424 t427 true)) else (moultlaw8_BlockBuilds.j1 kj6 t424 t427 true)) else (moultlaw8_BlockBuilds.j1 kj6 t424 t427 true)))) = some r := H
        have A15 := Aside0.mk A150
        clear A150
        replace H := Option.bind_eq_some_iff.mp H
        obtain ⟨t424, A160, H⟩ := H
        replace H : ((moultref8_Split.f kj6 t416 a1).bind fun t427 => (if t420.toList = t422.toList then (if t421 = t423 then (if (t424.length : Int) = (t427.length : Int) then ((block_Common.f kj6 a2 a3).bind fun t430 => ((moultref8_Common.f kj6 a2 a3).bind fun t431 => (moultlaw8_BlockBuilds.j1 kj6 t424 t427 (t430 != t431)))) else (moultlaw8_BlockBuilds.j1 kj6 t424 t427 true)) else (moultlaw8_BlockBuilds.j1 kj6 t424 t427 true)) else (moultlaw8_BlockBuilds.j1 kj6 t424 t427 true))) = some r := H
        have A16 := Aside0.mk A160
        clear A160
        replace H := Option.bind_eq_some_iff.mp H
        obtain ⟨t427, A170, H⟩ := H
        replace H : (if t420.toList = t422.toList then (if t421 = t423 then (if (t424.length : Int) = (t427.length : Int) then ((block_Common.f kj6 a2 a3).bind fun t430 => ((moultref8_Common.f kj6 a2 a3).bind fun t431 => (moultlaw8_BlockBuilds.j1 kj6 t424 t427 (t430 != t431)))) else (moultlaw8_BlockBuilds.j1 kj6 t424 t427 true)) else (moultlaw8_BlockBuilds.j1 kj6 t424 t427 true)) else (moultlaw8_BlockBuilds.j1 kj6 t424 t427 true)) = some r := H
        have A17 := Aside0.mk A170
        clear A170
        have HC18 := Aside0.mk H
        clear H
        go_upto_region 9 with (first | (go_at_call 19; (with_reducible refine (block_Build.calls _ _ l0 t420 t421 _ ?side1 ?side2 A14.out).mono ?_); (case side1 => repeat (first | exact (Kd.C_below HR0.out HB.out) | (with_reducible refine Kd.C_alloc ?_ _) | (with_reducible refine Kd.C_drewN ?_ _) | (with_reducible refine Kd.C_drew ?_))); (case side2 => exact HC0.out); rintro e w19 ⟨rfl, hb⟩; have n0_ := Aside0.mk (Kd.R_below (by (with_reducible repeat (first | apply Kd.R_alloc | apply Kd.R_drewN | apply Kd.R_drew)); exact HO_10.out) hb); have n1_ := Aside0.mk (below_step (by repeat (first | (with_reducible first | exact HB.out | apply below_alloc | apply pw_below_drewN | apply below_drew1) | exact HB.out)) hb); clear HO_10; clear HB; have HO_10 := n0_; have HB := n1_; clear n0_ n1_; (try clear hb); (try clear hb2); (try clear hk); (try clear hi); obtain ⟨Ao20, co20, eo20⟩ := Kd.R_slice HO_10.out; subst eo20) | (go_at_call 22; (with_reducible refine (moultref8_Build.calls kj6 _ _ t416 t422 t423 _ ?side1 ?side2 A15.out).mono ?_); (case side1 => repeat (first | exact (Kd.R_reads' HO_10.out).2.2 | (with_reducible refine Kd.C_alloc ?_ _) | (with_reducible refine Kd.C_drewN ?_ _) | (with_reducible refine Kd.C_drew ?_))); (case side2 => exact (Kd.R_reads' HO_10.out).2.1); rintro e w21 ⟨rfl, hb⟩; have n0_ := Aside0.mk (Kd.R_below (by (with_reducible repeat (first | apply Kd.R_alloc | apply Kd.R_drewN | apply Kd.R_drew)); exact HO_10.out) hb); have n1_ := Aside0.mk (below_step (by repeat (first | (with_reducible first | exact HB.out | apply below_alloc | apply pw_below_drewN | apply below_drew1) | exact HB.out)) hb); clear HO_10; clear HB; have HO_10 := n0_; have HB := n1_; clear n0_ n1_; (try clear hb); (try clear hb2); (try clear hk); (try clear hi)) | (go_at_call 23; (with_reducible refine (block_Split.calls kj6 _ _ l0 a1 t424 _ ?side1 ?side2 A16.out).mono ?_); (case side1 => repeat (first | exact (Kd.C_below HR0.out HB.out) | (with_reducible refine Kd.C_alloc ?_ _) | (with_reducible refine Kd.C_drewN ?_ _) | (with_reducible refine Kd.C_drew ?_))); (case side2 => exact HC0.out); rintro e w22 ⟨v425, rfl, ho0, hb⟩; have n0_ := Aside0.mk (Kd.R_below (by (with_reducible repeat (first | apply Kd.R_alloc | apply Kd.R_drewN | apply Kd.R_drew)); exact HO_10.out) hb); have n1_ := Aside0.mk (Kd.N_lower (Kd.N_mono (ok' := fun k_ => some k_ ≠ (.slice Ao20 t416.length co20 : Value).ownBlock) (Kd.S_N (Kd.S_bound ho0)) (fun k_ hk_ => (Kd.fresh' (Kd.R_lt (by (with_reducible repeat (first | apply Kd.R_alloc | apply Kd.R_drewN | apply Kd.R_drew)); exact HO_10.out)) k_ hk_.2.1))) (below_size (by repeat (first | (with_reducible first | exact HB.out | apply below_alloc | apply pw_below_drewN | apply below_drew1) | exact HB.out)))); have n2_ := Aside0.mk (below_step (by repeat (first | (with_reducible first | exact HB.out | apply below_alloc | apply pw_below_drewN | apply below_drew1) | exact HB.out)) hb); clear HO_10; clear HB; have HO_10 := n0_; have HO426 := n1_; have HB := n2_; clear n0_ n1_ n2_; (try clear hb); (try clear hb2); (try clear hk); (try clear hi); (try clear ho0)) | (go_at_call 24; (with_reducible refine (moultref8_Split.calls kj6 _ _ t416 a1 t427 _ ?side1 ?side2 A17.out).mono ?_); (case side1 => repeat (first | exact (Kd.R_reads' HO_10.out).2.2 | (with_reducible refine Kd.C_alloc ?_ _) | (with_reducible refine Kd.C_drewN ?_ _) | (with_reducible refine Kd.C_drew ?_))); (case side2 => exact (Kd.R_reads' HO_10.out).2.1); rintro e w23 ⟨v428, rfl, ho0, hb⟩; have n0_ := Aside0.mk (Kd.R_below (by (with_reducible repeat (first | apply Kd.R_alloc | apply Kd.R_drewN | apply Kd.R_drew)); exact HO_10.out) hb); have n1_ := Aside0.mk (Kd.N_elder' (by (with_reducible repeat (first | apply Kd.N_alloc | apply Kd.N_drewN | apply Kd.N_drew)); exact HO426.out) (Kd.N_base ho0) hb); have n2_ := Aside0.mk (Kd.N_lower (Kd.N_mono (ok' := fun k_ => some k_ ≠ (.slice Ao20 t416.length co20 : Value).ownBlock ∧ some k_ ≠ (v425 : Value).ownBlock) ho0 (fun k_ hk_ => ⟨(Kd.fresh' (Kd.R_lt (by (with_reducible repeat (first | apply Kd.R_alloc | apply Kd.R_drewN | apply Kd.R_drew)); exact HO_10.out)) k_ hk_), (Kd.fresh' (Kd.N_lt (by (with_reducible repeat (first | apply Kd.N_alloc | apply Kd.N_drewN | apply Kd.N_drew)); exact HO426.out)) k_ hk_)⟩)) (below_size (by repeat (first | (with_reducible first | exact HB.out | apply below_alloc | apply pw_below_drewN | apply below_drew1) | exact HB.out)))); have n3_ := Aside0.mk (below_step (by repeat (first | (with_reducible first | exact HB.out | apply below_alloc | apply pw_below_drewN | apply below_drew1) | exact HB.out)) hb); clear HO_10; clear HO426; clear HB; have HO_10 := n0_; have HO426 := n1_; have HO429 := n2_; have HB := n3_; clear n0_ n1_ n2_ n3_; (try clear hb); (try clear hb2); (try clear hk); (try clear hi); (try clear ho0)))
        repeat (go_quiet (first | (go_at_call 19; (with_reducible refine (block_Build.calls _ _ l0 t420 t421 _ ?side1 ?side2 A14.out).mono ?_); (case side1 => repeat (first | exact (Kd.C_below HR0.out HB.out) | (with_reducible refine Kd.C_alloc ?_ _) | (with_reducible refine Kd.C_drewN ?_ _) | (with_reducible refine Kd.C_drew ?_))); (case side2 => exact HC0.out); rintro e w19 ⟨rfl, hb⟩; have n0_ := Aside0.mk (Kd.R_below (by (with_reducible repeat (first | apply Kd.R_alloc | apply Kd.R_drewN | apply Kd.R_drew)); exact HO_10.out) hb); have n1_ := Aside0.mk (below_step (by repeat (first | (with_reducible first | exact HB.out | apply below_alloc | apply pw_below_drewN | apply below_drew1) | exact HB.out)) hb); clear HO_10; clear HB; have HO_10 := n0_; have HB := n1_; clear n0_ n1_; (try clear hb); (try clear hb2); (try clear hk); (try clear hi); obtain ⟨Ao20, co20, eo20⟩ := Kd.R_slice HO_10.out; subst eo20) | (go_at_call 22; (with_reducible refine (moultref8_Build.calls kj6 _ _ t416 t422 t423 _ ?side1 ?side2 A15.out).mono ?_); (case side1 => repeat (first | exact (Kd.R_reads' HO_10.out).2.2 | (with_reducible refine Kd.C_alloc ?_ _) | (with_reducible refine Kd.C_drewN ?_ _) | (with_reducible refine Kd.C_drew ?_))); (case side2 => exact (Kd.R_reads' HO_10.out).2.1); rintro e w21 ⟨rfl, hb⟩; have n0_ := Aside0.mk (Kd.R_below (by (with_reducible repeat (first | apply Kd.R_alloc | apply Kd.R_drewN | apply Kd.R_drew)); exact HO_10.out) hb); have n1_ := Aside0.mk (below_step (by repeat (first | (with_reducible first | exact HB.out | apply below_alloc | apply pw_below_drewN | apply below_drew1) | exact HB.out)) hb); clear HO_10; clear HB; have HO_10 := n0_; have HB := n1_; clear n0_ n1_; (try clear hb); (try clear hb2); (try clear hk); (try clear hi)) | (go_at_call 23; (with_reducible refine (block_Split.calls kj6 _ _ l0 a1 t424 _ ?side1 ?side2 A16.out).mono ?_); (case side1 => repeat (first | exact (Kd.C_below HR0.out HB.out) | (with_reducible refine Kd.C_alloc ?_ _) | (with_reducible refine Kd.C_drewN ?_ _) | (with_reducible refine Kd.C_drew ?_))); (case side2 => exact HC0.out); rintro e w22 ⟨v425, rfl, ho0, hb⟩; have n0_ := Aside0.mk (Kd.R_below (by (with_reducible repeat (first | apply Kd.R_alloc | apply Kd.R_drewN | apply Kd.R_drew)); exact HO_10.out) hb); have n1_ := Aside0.mk (Kd.N_lower (Kd.N_mono (ok' := fun k_ => some k_ ≠ (.slice Ao20 t416.length co20 : Value).ownBlock) (Kd.S_N (Kd.S_bound ho0)) (fun k_ hk_ => (Kd.fresh' (Kd.R_lt (by (with_reducible repeat (first | apply Kd.R_alloc | apply Kd.R_drewN | apply Kd.R_drew)); exact HO_10.out)) k_ hk_.2.1))) (below_size (by repeat (first | (with_reducible first | exact HB.out | apply below_alloc | apply pw_below_drewN | apply below_drew1) | exact HB.out)))); have n2_ := Aside0.mk (below_step (by repeat (first | (with_reducible first | exact HB.out | apply below_alloc | apply pw_below_drewN | apply below_drew1) | exact HB.out)) hb); clear HO_10; clear HB; have HO_10 := n0_; have HO426 := n1_; have HB := n2_; clear n0_ n1_ n2_; (try clear hb); (try clear hb2); (try clear hk); (try clear hi); (try clear ho0)) | (go_at_call 24; (with_reducible refine (moultref8_Split.calls kj6 _ _ t416 a1 t427 _ ?side1 ?side2 A17.out).mono ?_); (case side1 => repeat (first | exact (Kd.R_reads' HO_10.out).2.2 | (with_reducible refine Kd.C_alloc ?_ _) | (with_reducible refine Kd.C_drewN ?_ _) | (with_reducible refine Kd.C_drew ?_))); (case side2 => exact (Kd.R_reads' HO_10.out).2.1); rintro e w23 ⟨v428, rfl, ho0, hb⟩; have n0_ := Aside0.mk (Kd.R_below (by (with_reducible repeat (first | apply Kd.R_alloc | apply Kd.R_drewN | apply Kd.R_drew)); exact HO_10.out) hb); have n1_ := Aside0.mk (Kd.N_elder' (by (with_reducible repeat (first | apply Kd.N_alloc | apply Kd.N_drewN | apply Kd.N_drew)); exact HO426.out) (Kd.N_base ho0) hb); have n2_ := Aside0.mk (Kd.N_lower (Kd.N_mono (ok' := fun k_ => some k_ ≠ (.slice Ao20 t416.length co20 : Value).ownBlock ∧ some k_ ≠ (v425 : Value).ownBlock) ho0 (fun k_ hk_ => ⟨(Kd.fresh' (Kd.R_lt (by (with_reducible repeat (first | apply Kd.R_alloc | apply Kd.R_drewN | apply Kd.R_drew)); exact HO_10.out)) k_ hk_), (Kd.fresh' (Kd.N_lt (by (with_reducible repeat (first | apply Kd.N_alloc | apply Kd.N_drewN | apply Kd.N_drew)); exact HO426.out)) k_ hk_)⟩)) (below_size (by repeat (first | (with_reducible first | exact HB.out | apply below_alloc | apply pw_below_drewN | apply below_drew1) | exact HB.out)))); have n3_ := Aside0.mk (below_step (by repeat (first | (with_reducible first | exact HB.out | apply below_alloc | apply pw_below_drewN | apply below_drew1) | exact HB.out)) hb); clear HO_10; clear HO426; clear HB; have HO_10 := n0_; have HO426 := n1_; have HO429 := n2_; have HB := n3_; clear n0_ n1_ n2_ n3_; (try clear hb); (try clear hb2); (try clear hk); (try clear hi); (try clear ho0))); go_upto_region 9 with (first | (go_at_call 19; (with_reducible refine (block_Build.calls _ _ l0 t420 t421 _ ?side1 ?side2 A14.out).mono ?_); (case side1 => repeat (first | exact (Kd.C_below HR0.out HB.out) | (with_reducible refine Kd.C_alloc ?_ _) | (with_reducible refine Kd.C_drewN ?_ _) | (with_reducible refine Kd.C_drew ?_))); (case side2 => exact HC0.out); rintro e w19 ⟨rfl, hb⟩; have n0_ := Aside0.mk (Kd.R_below (by (with_reducible repeat (first | apply Kd.R_alloc | apply Kd.R_drewN | apply Kd.R_drew)); exact HO_10.out) hb); have n1_ := Aside0.mk (below_step (by repeat (first | (with_reducible first | exact HB.out | apply below_alloc | apply pw_below_drewN | apply below_drew1) | exact HB.out)) hb); clear HO_10; clear HB; have HO_10 := n0_; have HB := n1_; clear n0_ n1_; (try clear hb); (try clear hb2); (try clear hk); (try clear hi); obtain ⟨Ao20, co20, eo20⟩ := Kd.R_slice HO_10.out; subst eo20) | (go_at_call 22; (with_reducible refine (moultref8_Build.calls kj6 _ _ t416 t422 t423 _ ?side1 ?side2 A15.out).mono ?_); (case side1 => repeat (first | exact (Kd.R_reads' HO_10.out).2.2 | (with_reducible refine Kd.C_alloc ?_ _) | (with_reducible refine Kd.C_drewN ?_ _) | (with_reducible refine Kd.C_drew ?_))); (case side2 => exact (Kd.R_reads' HO_10.out).2.1); rintro e w21 ⟨rfl, hb⟩; have n0_ := Aside0.mk (Kd.R_below (by (with_reducible repeat (first | apply Kd.R_alloc | apply Kd.R_drewN | apply Kd.R_drew)); exact HO_10.out) hb); have n1_ := Aside0.mk (below_step (by repeat (first | (with_reducible first | exact HB.out | apply below_alloc | apply pw_below_drewN | apply below_drew1) | exact HB.out)) hb); clear HO_10; clear HB; have HO_10 := n0_; have HB := n1_; clear n0_ n1_; (try clear hb); (try clear hb2); (try clear hk); (try clear hi)) | (go_at_call 23; (with_reducible refine (block_Split.calls kj6 _ _ l0 a1 t424 _ ?side1 ?side2 A16.out).mono ?_); (case side1 => repeat (first | exact (Kd.C_below HR0.out HB.out) | (with_reducible refine Kd.C_alloc ?_ _) | (with_reducible refine Kd.C_drewN ?_ _) | (with_reducible refine Kd.C_drew ?_))); (case side2 => exact HC0.out); rintro e w22 ⟨v425, rfl, ho0, hb⟩; have n0_ := Aside0.mk (Kd.R_below (by (with_reducible repeat (first | apply Kd.R_alloc | apply Kd.R_drewN | apply Kd.R_drew)); exact HO_10.out) hb); have n1_ := Aside0.mk (Kd.N_lower (Kd.N_mono (ok' := fun k_ => some k_ ≠ (.slice Ao20 t416.length co20 : Value).ownBlock) (Kd.S_N (Kd.S_bound ho0)) (fun k_ hk_ => (Kd.fresh' (Kd.R_lt (by (with_reducible repeat (first | apply Kd.R_alloc | apply Kd.R_drewN | apply Kd.R_drew)); exact HO_10.out)) k_ hk_.2.1))) (below_size (by repeat (first | (with_reducible first | exact HB.out | apply below_alloc | apply pw_below_drewN | apply below_drew1) | exact HB.out)))); have n2_ := Aside0.mk (below_step (by repeat (first | (with_reducible first | exact HB.out | apply below_alloc | apply pw_below_drewN | apply below_drew1) | exact HB.out)) hb); clear HO_10; clear HB; have HO_10 := n0_; have HO426 := n1_; have HB := n2_; clear n0_ n1_ n2_; (try clear hb); (try clear hb2); (try clear hk); (try clear hi); (try clear ho0)) | (go_at_call 24; (with_reducible refine (moultref8_Split.calls kj6 _ _ t416 a1 t427 _ ?side1 ?side2 A17.out).mono ?_); (case side1 => repeat (first | exact (Kd.R_reads' HO_10.out).2.2 | (with_reducible refine Kd.C_alloc ?_ _) | (with_reducible refine Kd.C_drewN ?_ _) | (with_reducible refine Kd.C_drew ?_))); (case side2 => exact (Kd.R_reads' HO_10.out).2.1); rintro e w23 ⟨v428, rfl, ho0, hb⟩; have n0_ := Aside0.mk (Kd.R_below (by (with_reducible repeat (first | apply Kd.R_alloc | apply Kd.R_drewN | apply Kd.R_drew)); exact HO_10.out) hb); have n1_ := Aside0.mk (Kd.N_elder' (by (with_reducible repeat (first | apply Kd.N_alloc | apply Kd.N_drewN | apply Kd.N_drew)); exact HO426.out) (Kd.N_base ho0) hb); have n2_ := Aside0.mk (Kd.N_lower (Kd.N_mono (ok' := fun k_ => some k_ ≠ (.slice Ao20 t416.length co20 : Value).ownBlock ∧ some k_ ≠ (v425 : Value).ownBlock) ho0 (fun k_ hk_ => ⟨(Kd.fresh' (Kd.R_lt (by (with_reducible repeat (first | apply Kd.R_alloc | apply Kd.R_drewN | apply Kd.R_drew)); exact HO_10.out)) k_ hk_), (Kd.fresh' (Kd.N_lt (by (with_reducible repeat (first | apply Kd.N_alloc | apply Kd.N_drewN | apply Kd.N_drew)); exact HO426.out)) k_ hk_)⟩)) (below_size (by repeat (first | (with_reducible first | exact HB.out | apply below_alloc | apply pw_below_drewN | apply below_drew1) | exact HB.out)))); have n3_ := Aside0.mk (below_step (by repeat (first | (with_reducible first | exact HB.out | apply below_alloc | apply pw_below_drewN | apply below_drew1) | exact HB.out)) hb); clear HO_10; clear HO426; clear HB; have HO_10 := n0_; have HO426 := n1_; have HO429 := n2_; have HB := n3_; clear n0_ n1_ n2_ n3_; (try clear hb); (try clear hb2); (try clear hk); (try clear hi); (try clear ho0))))
        (try simp only [Act.put, List.setIfInBounds_toArray, List.set_cons_zero, List.set_cons_succ])
        go_cut [82] (fun v82 wc => ∃ (kq : Nat) (x82_17 : Bool), v82 = .bool x82_17 ∧ Aside0 (moultlaw8_BlockBuilds.j1 kq t424 t427 x82_17 = some r) ∧ Aside0 (kq ≤ kj6) ∧ Aside0 (Kd.N (Kd.slice 43 k43) 23 wc w.heap.size (fun k_ => some k_ ≠ (v428 : Value).ownBlock) v425 t424) ∧ Aside0 (Kd.N (Kd.slice 59 k59) 27 wc w.heap.size (fun k_ => some k_ ≠ (v425 : Value).ownBlock) v428 t427) ∧ Aside0 (Below w.heap.size w wc))
        case first =>
          have H := HC18.out
          clear HC18
          by_cases c24 : t420.toList = t422.toList
          · rw [if_pos c24] at H
            have c24b0 : (t420.toList == t422.toList) = true := beq_iff_eq.mpr c24
            have c24b1 : (t420.toList != t422.toList) = false := bne_eq_false_iff_eq.mpr c24
            clear c24
            (first | rw [c24b0] | (simp only [i64_w, i32_w]; rw [c24b0]) | skip)
            by_cases c25 : t421 = t423
            · rw [if_pos c25] at H
              have c25b0 : (t421 == t423) = true := beq_iff_eq.mpr c25
              have c25b1 : (t421 != t423) = false := bne_eq_false_iff_eq.mpr c25
              clear c25
              by_cases c26 : (t424.length : Int) = (t427.length : Int)
              · rw [if_pos c26] at H
                have c26b0 : ((t424.length : Int) == (t427.length : Int)) = true := beq_iff_eq.mpr c26
                have c26b1 : ((t424.length : Int) != (t427.length : Int)) = false := bne_eq_false_iff_eq.mpr c26
                have c26b2 : (t424.length == t427.length) = true := by first | simpa using c26 | (simp at c26 ⊢; omega)
                clear c26
                replace H := Option.bind_eq_some_iff.mp H
                obtain ⟨t430, A270, H⟩ := H
                replace H : ((moultref8_Common.f kj6 a2 a3).bind fun t431 => (moultlaw8_BlockBuilds.j1 kj6 t424 t427 (t430 != t431))) = some r := H
                have A27 := Aside0.mk A270
                clear A270
                replace H := Option.bind_eq_some_iff.mp H
                obtain ⟨t431, A280, H⟩ := H
                replace H : (moultlaw8_BlockBuilds.j1 kj6 t424 t427 (t430 != t431)) = some r := H
                have A28 := Aside0.mk A280
                clear A280
                have H' := Aside0.mk H
                clear H
                obtain ⟨Ao29, co29, eo29⟩ := Kd.N_slice HO426.out
                subst eo29
                obtain ⟨Ao30, co30, eo30⟩ := Kd.N_slice HO429.out
                subst eo30
                go_wp2_with (first | (go_at_call 25; (with_reducible refine (block_Common.calls kj6 a2 a3 t430 _ A27.out).mono ?_); rintro e w31 ⟨rfl, hb⟩; have n0_ := Aside0.mk (Kd.R_below (by (with_reducible repeat (first | apply Kd.R_alloc | apply Kd.R_drewN | apply Kd.R_drew)); exact HO_10.out) hb); have n1_ := Aside0.mk (Kd.N_below (by (with_reducible repeat (first | apply Kd.N_alloc | apply Kd.N_drewN | apply Kd.N_drew)); exact HO426.out) hb); have n2_ := Aside0.mk (Kd.N_below (by (with_reducible repeat (first | apply Kd.N_alloc | apply Kd.N_drewN | apply Kd.N_drew)); exact HO429.out) hb); have n3_ := Aside0.mk (below_step (by repeat (first | (with_reducible first | exact HB.out | apply below_alloc | apply pw_below_drewN | apply below_drew1) | exact HB.out)) hb); clear HO_10; clear HO426; clear HO429; clear HB; have HO_10 := n0_; have HO426 := n1_; have HO429 := n2_; have HB := n3_; clear n0_ n1_ n2_ n3_; (try clear hb); (try clear hb2); (try clear hk); (try clear hi)) | (go_at_call 26; (with_reducible refine (moultref8_Common.calls kj6 a2 a3 t431 _ A28.out).mono ?_); rintro e w' ⟨rfl, ⟨nd, rfl⟩⟩; (try first | exact ⟨rfl, _, World.drewN_drewN _ _ _⟩ | exact ⟨rfl, _, Eq.trans (World.drewN_drewN _ _ _) (congrArg (World.drewN _) (Nat.add_assoc _ _ _))⟩)))
                repeat (go_quiet (first | (go_at_call 25; (with_reducible refine (block_Common.calls kj6 a2 a3 t430 _ A27.out).mono ?_); rintro e w31 ⟨rfl, hb⟩; have n0_ := Aside0.mk (Kd.R_below (by (with_reducible repeat (first | apply Kd.R_alloc | apply Kd.R_drewN | apply Kd.R_drew)); exact HO_10.out) hb); have n1_ := Aside0.mk (Kd.N_below (by (with_reducible repeat (first | apply Kd.N_alloc | apply Kd.N_drewN | apply Kd.N_drew)); exact HO426.out) hb); have n2_ := Aside0.mk (Kd.N_below (by (with_reducible repeat (first | apply Kd.N_alloc | apply Kd.N_drewN | apply Kd.N_drew)); exact HO429.out) hb); have n3_ := Aside0.mk (below_step (by repeat (first | (with_reducible first | exact HB.out | apply below_alloc | apply pw_below_drewN | apply below_drew1) | exact HB.out)) hb); clear HO_10; clear HO426; clear HO429; clear HB; have HO_10 := n0_; have HO426 := n1_; have HO429 := n2_; have HB := n3_; clear n0_ n1_ n2_ n3_; (try clear hb); (try clear hb2); (try clear hk); (try clear hi)) | (go_at_call 26; (with_reducible refine (moultref8_Common.calls kj6 a2 a3 t431 _ A28.out).mono ?_); rintro e w' ⟨rfl, ⟨nd, rfl⟩⟩; (try first | exact ⟨rfl, _, World.drewN_drewN _ _ _⟩ | exact ⟨rfl, _, Eq.trans (World.drewN_drewN _ _ _) (congrArg (World.drewN _) (Nat.add_assoc _ _ _))⟩))); try go_wp2_with (first | (go_at_call 25; (with_reducible refine (block_Common.calls kj6 a2 a3 t430 _ A27.out).mono ?_); rintro e w31 ⟨rfl, hb⟩; have n0_ := Aside0.mk (Kd.R_below (by (with_reducible repeat (first | apply Kd.R_alloc | apply Kd.R_drewN | apply Kd.R_drew)); exact HO_10.out) hb); have n1_ := Aside0.mk (Kd.N_below (by (with_reducible repeat (first | apply Kd.N_alloc | apply Kd.N_drewN | apply Kd.N_drew)); exact HO426.out) hb); have n2_ := Aside0.mk (Kd.N_below (by (with_reducible repeat (first | apply Kd.N_alloc | apply Kd.N_drewN | apply Kd.N_drew)); exact HO429.out) hb); have n3_ := Aside0.mk (below_step (by repeat (first | (with_reducible first | exact HB.out | apply below_alloc | apply pw_below_drewN | apply below_drew1) | exact HB.out)) hb); clear HO_10; clear HO426; clear HO429; clear HB; have HO_10 := n0_; have HO426 := n1_; have HO429 := n2_; have HB := n3_; clear n0_ n1_ n2_ n3_; (try clear hb); (try clear hb2); (try clear hk); (try clear hi)) | (go_at_call 26; (with_reducible refine (moultref8_Common.calls kj6 a2 a3 t431 _ A28.out).mono ?_); rintro e w' ⟨rfl, ⟨nd, rfl⟩⟩; (try first | exact ⟨rfl, _, World.drewN_drewN _ _ _⟩ | exact ⟨rfl, _, Eq.trans (World.drewN_drewN _ _ _) (congrArg (World.drewN _) (Nat.add_assoc _ _ _))⟩))))
                go_meet
                case rel => exact ⟨_, ((t430 != t431)), (by first | rfl | (simp; done) | (simp [*]; done)), H', ⟨by have := HJ6.out; first | omega | exact Nat.le_refl _⟩, ⟨by (with_reducible repeat (first | apply Kd.N_alloc | apply Kd.N_drewN | apply Kd.N_drew)); exact Kd.N_mono HO426.out (fun _ hk => hk.2)⟩, ⟨by (with_reducible repeat (first | apply Kd.N_alloc | apply Kd.N_drewN | apply Kd.N_drew)); exact Kd.N_mono HO429.out (fun _ hk => hk.2)⟩, ⟨by repeat (first | (with_reducible first | exact HB.out | apply below_alloc | apply pw_below_drewN | apply below_drew1) | exact HB.out)⟩⟩
              · rw [if_neg c26] at H
                have c26b0 : ((t424.length : Int) == (t427.length : Int)) = false := beq_eq_false_iff_ne.mpr c26
                have c26b1 : ((t424.length : Int) != (t427.length : Int)) = true := bne_iff_ne.mpr c26
                have c26b2 : (t424.length == t427.length) = false := by first | simpa using c26 | (simp at c26 ⊢; omega)
                have H' := Aside0.mk H
                clear H
                obtain ⟨Ao32, co32, eo32⟩ := Kd.N_slice HO426.out
                subst eo32
                obtain ⟨Ao33, co33, eo33⟩ := Kd.N_slice HO429.out
                subst eo33
                go_wp2
                repeat (go_quiet (fail); try go_wp2)
                go_meet
                case rel => exact ⟨_, (true), (by first | rfl | (simp; done) | (simp [*]; done)), H', ⟨by have := HJ6.out; first | omega | exact Nat.le_refl _⟩, ⟨by (with_reducible repeat (first | apply Kd.N_alloc | apply Kd.N_drewN | apply Kd.N_drew)); exact Kd.N_mono HO426.out (fun _ hk => hk.2)⟩, ⟨by (with_reducible repeat (first | apply Kd.N_alloc | apply Kd.N_drewN | apply Kd.N_drew)); exact Kd.N_mono HO429.out (fun _ hk => hk.2)⟩, ⟨by repeat (first | (with_reducible first | exact HB.out | apply below_alloc | apply pw_below_drewN | apply below_drew1) | exact HB.out)⟩⟩
            · rw [if_neg c25] at H
              have c25b0 : (t421 == t423) = false := beq_eq_false_iff_ne.mpr c25
              have c25b1 : (t421 != t423) = true := bne_iff_ne.mpr c25
              have H' := Aside0.mk H
              clear H
              go_wp2
              repeat (go_quiet (fail); try go_wp2)
              go_meet
              case rel => exact ⟨_, (true), (by first | rfl | (simp; done) | (simp [*]; done)), H', ⟨by have := HJ6.out; first | omega | exact Nat.le_refl _⟩, ⟨by (with_reducible repeat (first | apply Kd.N_alloc | apply Kd.N_drewN | apply Kd.N_drew)); exact Kd.N_mono HO426.out (fun _ hk => hk.2)⟩, ⟨by (with_reducible repeat (first | apply Kd.N_alloc | apply Kd.N_drewN | apply Kd.N_drew)); exact Kd.N_mono HO429.out (fun _ hk => hk.2)⟩, ⟨by repeat (first | (with_reducible first | exact HB.out | apply below_alloc | apply pw_below_drewN | apply below_drew1) | exact HB.out)⟩⟩
          · rw [if_neg c24] at H
            have c24b0 : (t420.toList == t422.toList) = false := beq_eq_false_iff_ne.mpr c24
            have c24b1 : (t420.toList != t422.toList) = true := bne_iff_ne.mpr c24
            (first | rw [c24b0] | (simp only [i64_w, i32_w]; rw [c24b0]) | skip)
            have H' := Aside0.mk H
            clear H
            go_wp2
            repeat (go_quiet (fail); try go_wp2)
            go_meet
            case rel => exact ⟨_, (true), (by first | rfl | (simp; done) | (simp [*]; done)), H', ⟨by have := HJ6.out; first | omega | exact Nat.le_refl _⟩, ⟨by (with_reducible repeat (first | apply Kd.N_alloc | apply Kd.N_drewN | apply Kd.N_drew)); exact Kd.N_mono HO426.out (fun _ hk => hk.2)⟩, ⟨by (with_reducible repeat (first | apply Kd.N_alloc | apply Kd.N_drewN | apply Kd.N_drew)); exact Kd.N_mono HO429.out (fun _ hk => hk.2)⟩, ⟨by repeat (first | (with_reducible first | exact HB.out | apply below_alloc | apply pw_below_drewN | apply below_drew1) | exact HB.out)⟩⟩
        case rest =>
          clear HC18
          try clear c1
          try clear c2
          try clear p2
          try clear c7
          try clear c10
          try clear c11
          try clear c12
          try clear c12b0
          try clear c12b1
          try clear c13
          try clear c24
          try clear c24b0
          try clear c24b1
          try clear c25
          try clear c25b0
          try clear c25b1
          try clear c26
          try clear c26b0
          try clear c26b1
          try clear c26b2
          try clear p2
          obtain ⟨kq, x82_17, rfl, HA, HJ17, HO_16, HO_17, HB⟩ := hcut
          cases kq with
          | zero => exact absurd HA.out (by simp [moultlaw8_BlockBuilds.j1])
          | succ kj17 =>
            have H := HA.out
            clear HA
            simp only [moultlaw8_BlockBuilds.j1] at H
            by_cases c34 : x82_17 = true
            · subst c34
              have H1 : (some false) = some r := by rw [if_pos rfl] at H; exact H
              clear H
              have H := H1
              clear H1
              obtain rfl := Option.some.inj H
              go_wp2
              repeat (go_quiet (fail); try go_wp2)
              all_goals go_ret
              all_goals exact ⟨by first | rfl | (simp [errW_none, errW_some] <;> rfl) | (simp [*, errW_none, errW_some] <;> rfl), by repeat (first | (with_reducible first | exact HB.out | apply below_alloc | apply pw_below_drewN | apply below_drew1) | exact HB.out)⟩
            · replace c34 := Bool.eq_false_iff.mpr c34
              subst c34
              have H1 : (moultlaw8_BlockBuilds.l0 kj17 t424 t427 0) = some r := by rw [if_neg (show ¬ (false = true) by decide)] at H; exact H
              clear H
              have H := H1
              clear H1
              have H' := Aside0.mk H
              clear H
              go_wp2
              repeat (go_quiet (fail); try go_wp2)
              go_loopg [18] kj17 (fun kq v18 w' => ∃ (x18_3 : Int), v18 = .int .i64 x18_3 ∧ Aside0 (moultlaw8_BlockBuilds.l0 kq t424 t427 x18_3 = some r) ∧ Aside0 (kq ≤ kj17) ∧ Aside0 (Kd.N (Kd.slice 43 k43) 23 w' w.heap.size (fun k_ => some k_ ≠ (v428 : Value).ownBlock) v425 t424) ∧ Aside0 (Kd.N (Kd.slice 59 k59) 27 w' w.heap.size (fun k_ => some k_ ≠ (v425 : Value).ownBlock) v428 t427) ∧ Aside0 (Below w.heap.size w w'))
              case atStart => exact ⟨(0), (by first | rfl | (simp; done) | (simp [*]; done)), H', ⟨Nat.le_refl _⟩, ⟨by (with_reducible repeat (first | apply Kd.N_alloc | apply Kd.N_drewN | apply Kd.N_drew)); exact HO_16.out⟩, ⟨by (with_reducible repeat (first | apply Kd.N_alloc | apply Kd.N_drewN | apply Kd.N_drew)); exact HO_17.out⟩, ⟨by repeat (first | (with_reducible first | exact HB.out | apply below_alloc | apply pw_below_drewN | apply below_drew1) | exact HB.out)⟩⟩
              case round =>
                clear H'
                try clear c1
                try clear c2
                try clear p2
                try clear c3
                try clear c7
                try clear c10
                try clear c11
                try clear c12
                try clear c12b0
                try clear c12b1
                try clear c13
                try clear c24
                try clear c24b0
                try clear c24b1
                try clear c25
                try clear c25b0
                try clear c25b1
                try clear c26
                try clear c26b0
                try clear c26b1
                try clear c26b2
                try clear c34
                try clear p2
                obtain ⟨x18_3, rfl, HA, HK3, HO_16, HO_17, HB⟩ := hrel
                cases gk with
                | zero => exact absurd HA.out (by simp [moultlaw8_BlockBuilds.l0])
                | succ k3 =>
                  have H := HA.out
                  clear HA
                  simp only [moultlaw8_BlockBuilds.l0] at H
                  by_cases c35 : x18_3 < (t424.length : Int)
                  · rw [if_pos c35] at H
                    have c35b0 : decide (x18_3 < (t424.length : Int)) = true := decide_eq_true c35
                    clear c35
                    by_cases c36 : 0 ≤ x18_3
                    · rw [if_pos c36] at H
                      have c36b0 : decide (0 ≤ x18_3) = true := decide_eq_true c36
                      clear c36
                      by_cases c37 : x18_3 < (t427.length : Int)
                      · rw [if_pos c37] at H
                        have c37b0 : decide (x18_3 < (t427.length : Int)) = true := decide_eq_true c37
                        clear c37
                        replace H := Option.bind_eq_some_iff.mp H
                        obtain ⟨t434, A380, H⟩ := H
                        replace H : (if t434 = true then (moultlaw8_BlockBuilds.l0 k3 t424 t427 (wrap64 (x18_3 + 1))) else (some false)) = some r := H
                        have A38 := Aside0.mk A380
                        clear A380
                        by_cases c39 : t434 = true
                        · subst c39
                          have H1 : (moultlaw8_BlockBuilds.l0 k3 t424 t427 (wrap64 (x18_3 + 1))) = some r := by rw [if_pos rfl] at H; exact H
                          clear H
                          have H := H1
                          clear H1
                          have H' := Aside0.mk H
                          clear H
                          obtain ⟨Ao40, co40, eo40⟩ := Kd.N_slice HO_16.out
                          subst eo40
                          have p432 : 0 ≤ (x18_3 : Int) := of_decide_eq_true (by first | (with_reducible assumption) | assumption)
                          have q432 : x18_3 < (t424.length : Int) := of_decide_eq_true (by first | (with_reducible assumption) | assumption)
                          obtain ⟨ad432, A432_0, c432_0, e432, hx432_0, hl432_0, hi432_0⟩ := at_L5 (Kd.N_reads' HO_16.out).2.2 x18_3 p432 q432
                          cases e432
                          obtain ⟨ce432, hce432, hMe432, hcc432⟩ := Kd.N_get HO_16.out [] x18_3 p432 (by first | exact q432 | exact of_decide_eq_true (by first | (with_reducible assumption) | assumption) | (have e_ := (Kd.N_reads' HO_16.out).1; omega))
                          obtain ⟨ua432_0, uc432_0, rfl, ul432_0, ge432_0⟩ := Kd.FK_slice_open hMe432
                          have hv432_0 := hcc432 0 _ rfl
                          rw [Nat.add_zero, show ((Kd.slice 43 k43)).sz = 1 from rfl, Nat.mul_one] at hv432_0
                          replace hv432_0 := Option.some.inj (hv432_0.symm.trans hx432_0)
                          injection hv432_0 with hva_ hvn_ hvc_
                          rw [hva_] at ge432_0
                          rw [hvc_] at ul432_0
                          have HL432_0 := Aside0.mk (show Kd.V k43 43 _ w.heap.size _ _ (rd_L5 t424 x18_3) from Kd.V_mk ul432_0 ge432_0)
                          clear hva_ hvn_ hvc_ ge432_0 ul432_0
                          clear hcc432 hce432
                          have HR432_0 := Aside0.mk hi432_0
                          have HC432_0 := Aside0.mk hl432_0
                          clear hi432_0 hl432_0
                          replace p432 := eq_true p432
                          replace q432 := eq_true q432
                          obtain ⟨Ao41, co41, eo41⟩ := Kd.N_slice HO_17.out
                          subst eo41
                          have p433 : 0 ≤ (x18_3 : Int) := of_decide_eq_true (by first | (with_reducible assumption) | assumption)
                          have q433 : x18_3 < (t427.length : Int) := of_decide_eq_true (by first | (with_reducible assumption) | assumption)
                          obtain ⟨ad433, A433_0, c433_0, e433, hx433_0, hl433_0, hi433_0⟩ := at_L8 (Kd.N_reads' HO_17.out).2.2 x18_3 p433 q433
                          cases e433
                          obtain ⟨ce433, hce433, hMe433, hcc433⟩ := Kd.N_get HO_17.out [] x18_3 p433 (by first | exact q433 | exact of_decide_eq_true (by first | (with_reducible assumption) | assumption) | (have e_ := (Kd.N_reads' HO_17.out).1; omega))
                          obtain ⟨ua433_0, uc433_0, rfl, ul433_0, ge433_0⟩ := Kd.FK_slice_open hMe433
                          have hv433_0 := hcc433 0 _ rfl
                          rw [Nat.add_zero, show ((Kd.slice 59 k59)).sz = 1 from rfl, Nat.mul_one] at hv433_0
                          replace hv433_0 := Option.some.inj (hv433_0.symm.trans hx433_0)
                          injection hv433_0 with hva_ hvn_ hvc_
                          rw [hva_] at ge433_0
                          rw [hvc_] at ul433_0
                          have HL433_0 := Aside0.mk (show Kd.V k59 59 _ w.heap.size _ _ (rd_L8 t427 x18_3) from Kd.V_mk ul433_0 ge433_0)
                          clear hva_ hvn_ hvc_ ge433_0 ul433_0
                          clear hcc433 hce433
                          have HR433_0 := Aside0.mk hi433_0
                          have HC433_0 := Aside0.mk hl433_0
                          clear hi433_0 hl433_0
                          replace p433 := eq_true p433
                          replace q433 := eq_true q433
                          go_wp2_with (first | (go_at_call 16; (with_reducible refine (moultlaw8_alike.calls k3 _ _ (rd_L5 t424 x18_3) _ _ (rd_L8 t427 x18_3) true _ ?side1 ?side2 ?side3 ?side4 A38.out).mono ?_); (case side1 => repeat (first | exact (by repeat (first | (with_reducible exact HR432_0.out) | (with_reducible refine Kd.C_alloc ?_ _) | (with_reducible refine Kd.C_drewN ?_ _) | (with_reducible refine Kd.C_drew ?_) | exact HR432_0.out)) | (with_reducible refine Kd.C_alloc ?_ _) | (with_reducible refine Kd.C_drewN ?_ _) | (with_reducible refine Kd.C_drew ?_))); (case side2 => exact HC432_0.out); (case side3 => repeat (first | exact (by repeat (first | (with_reducible exact HR433_0.out) | (with_reducible refine Kd.C_alloc ?_ _) | (with_reducible refine Kd.C_drewN ?_ _) | (with_reducible refine Kd.C_drew ?_) | exact HR433_0.out)) | (with_reducible refine Kd.C_alloc ?_ _) | (with_reducible refine Kd.C_drewN ?_ _) | (with_reducible refine Kd.C_drew ?_))); (case side4 => exact HC433_0.out); rintro e w' ⟨rfl, ⟨nd, rfl⟩⟩; (try first | exact ⟨rfl, _, World.drewN_drewN _ _ _⟩ | exact ⟨rfl, _, Eq.trans (World.drewN_drewN _ _ _) (congrArg (World.drewN _) (Nat.add_assoc _ _ _))⟩)))
                          repeat (go_quiet (first | (go_at_call 16; (with_reducible refine (moultlaw8_alike.calls k3 _ _ (rd_L5 t424 x18_3) _ _ (rd_L8 t427 x18_3) true _ ?side1 ?side2 ?side3 ?side4 A38.out).mono ?_); (case side1 => repeat (first | exact (by repeat (first | (with_reducible exact HR432_0.out) | (with_reducible refine Kd.C_alloc ?_ _) | (with_reducible refine Kd.C_drewN ?_ _) | (with_reducible refine Kd.C_drew ?_) | exact HR432_0.out)) | (with_reducible refine Kd.C_alloc ?_ _) | (with_reducible refine Kd.C_drewN ?_ _) | (with_reducible refine Kd.C_drew ?_))); (case side2 => exact HC432_0.out); (case side3 => repeat (first | exact (by repeat (first | (with_reducible exact HR433_0.out) | (with_reducible refine Kd.C_alloc ?_ _) | (with_reducible refine Kd.C_drewN ?_ _) | (with_reducible refine Kd.C_drew ?_) | exact HR433_0.out)) | (with_reducible refine Kd.C_alloc ?_ _) | (with_reducible refine Kd.C_drewN ?_ _) | (with_reducible refine Kd.C_drew ?_))); (case side4 => exact HC433_0.out); rintro e w' ⟨rfl, ⟨nd, rfl⟩⟩; (try first | exact ⟨rfl, _, World.drewN_drewN _ _ _⟩ | exact ⟨rfl, _, Eq.trans (World.drewN_drewN _ _ _) (congrArg (World.drewN _) (Nat.add_assoc _ _ _))⟩))); try go_wp2_with (first | (go_at_call 16; (with_reducible refine (moultlaw8_alike.calls k3 _ _ (rd_L5 t424 x18_3) _ _ (rd_L8 t427 x18_3) true _ ?side1 ?side2 ?side3 ?side4 A38.out).mono ?_); (case side1 => repeat (first | exact (by repeat (first | (with_reducible exact HR432_0.out) | (with_reducible refine Kd.C_alloc ?_ _) | (with_reducible refine Kd.C_drewN ?_ _) | (with_reducible refine Kd.C_drew ?_) | exact HR432_0.out)) | (with_reducible refine Kd.C_alloc ?_ _) | (with_reducible refine Kd.C_drewN ?_ _) | (with_reducible refine Kd.C_drew ?_))); (case side2 => exact HC432_0.out); (case side3 => repeat (first | exact (by repeat (first | (with_reducible exact HR433_0.out) | (with_reducible refine Kd.C_alloc ?_ _) | (with_reducible refine Kd.C_drewN ?_ _) | (with_reducible refine Kd.C_drew ?_) | exact HR433_0.out)) | (with_reducible refine Kd.C_alloc ?_ _) | (with_reducible refine Kd.C_drewN ?_ _) | (with_reducible refine Kd.C_drew ?_))); (case side4 => exact HC433_0.out); rintro e w' ⟨rfl, ⟨nd, rfl⟩⟩; (try first | exact ⟨rfl, _, World.drewN_drewN _ _ _⟩ | exact ⟨rfl, _, Eq.trans (World.drewN_drewN _ _ _) (congrArg (World.drewN _) (Nat.add_assoc _ _ _))⟩))))
                          go_roundg k3
                          case measure => have := HJ6.out; have := HJ17.out; have := HK3.out; omega
                          case rel => exact ⟨(wrap64 (x18_3 + 1)), (by first | rfl | (simp; done) | (simp [*]; done)), H', ⟨by have := HJ6.out; have := HJ17.out; have := HK3.out; omega⟩, ⟨by (with_reducible repeat (first | apply Kd.N_alloc | apply Kd.N_drewN | apply Kd.N_drew)); exact HO_16.out⟩, ⟨by (with_reducible repeat (first | apply Kd.N_alloc | apply Kd.N_drewN | apply Kd.N_drew)); exact HO_17.out⟩, ⟨by repeat (first | (with_reducible first | exact HB.out | apply below_alloc | apply pw_below_drewN | apply below_drew1) | exact HB.out)⟩⟩
                        · replace c39 := Bool.eq_false_iff.mpr c39
                          subst c39
                          have H1 : (some false) = some r := by rw [if_neg (show ¬ (false = true) by decide)] at H; exact H
                          clear H
                          have H := H1
                          clear H1
                          obtain rfl := Option.some.inj H
                          obtain ⟨Ao42, co42, eo42⟩ := Kd.N_slice HO_16.out
                          subst eo42
                          have p432 : 0 ≤ (x18_3 : Int) := of_decide_eq_true (by first | (with_reducible assumption) | assumption)
                          have q432 : x18_3 < (t424.length : Int) := of_decide_eq_true (by first | (with_reducible assumption) | assumption)
                          obtain ⟨ad432, A432_0, c432_0, e432, hx432_0, hl432_0, hi432_0⟩ := at_L5 (Kd.N_reads' HO_16.out).2.2 x18_3 p432 q432
                          cases e432
                          obtain ⟨ce432, hce432, hMe432, hcc432⟩ := Kd.N_get HO_16.out [] x18_3 p432 (by first | exact q432 | exact of_decide_eq_true (by first | (with_reducible assumption) | assumption) | (have e_ := (Kd.N_reads' HO_16.out).1; omega))
                          obtain ⟨ua432_0, uc432_0, rfl, ul432_0, ge432_0⟩ := Kd.FK_slice_open hMe432
                          have hv432_0 := hcc432 0 _ rfl
                          rw [Nat.add_zero, show ((Kd.slice 43 k43)).sz = 1 from rfl, Nat.mul_one] at hv432_0
                          replace hv432_0 := Option.some.inj (hv432_0.symm.trans hx432_0)
                          injection hv432_0 with hva_ hvn_ hvc_
                          rw [hva_] at ge432_0
                          rw [hvc_] at ul432_0
                          have HL432_0 := Aside0.mk (show Kd.V k43 43 _ w.heap.size _ _ (rd_L5 t424 x18_3) from Kd.V_mk ul432_0 ge432_0)
                          clear hva_ hvn_ hvc_ ge432_0 ul432_0
                          clear hcc432 hce432
                          have HR432_0 := Aside0.mk hi432_0
                          have HC432_0 := Aside0.mk hl432_0
                          clear hi432_0 hl432_0
                          replace p432 := eq_true p432
                          replace q432 := eq_true q432
                          obtain ⟨Ao43, co43, eo43⟩ := Kd.N_slice HO_17.out
                          subst eo43
                          have p433 : 0 ≤ (x18_3 : Int) := of_decide_eq_true (by first | (with_reducible assumption) | assumption)
                          have q433 : x18_3 < (t427.length : Int) := of_decide_eq_true (by first | (with_reducible assumption) | assumption)
                          obtain ⟨ad433, A433_0, c433_0, e433, hx433_0, hl433_0, hi433_0⟩ := at_L8 (Kd.N_reads' HO_17.out).2.2 x18_3 p433 q433
                          cases e433
                          obtain ⟨ce433, hce433, hMe433, hcc433⟩ := Kd.N_get HO_17.out [] x18_3 p433 (by first | exact q433 | exact of_decide_eq_true (by first | (with_reducible assumption) | assumption) | (have e_ := (Kd.N_reads' HO_17.out).1; omega))
                          obtain ⟨ua433_0, uc433_0, rfl, ul433_0, ge433_0⟩ := Kd.FK_slice_open hMe433
                          have hv433_0 := hcc433 0 _ rfl
                          rw [Nat.add_zero, show ((Kd.slice 59 k59)).sz = 1 from rfl, Nat.mul_one] at hv433_0
                          replace hv433_0 := Option.some.inj (hv433_0.symm.trans hx433_0)
                          injection hv433_0 with hva_ hvn_ hvc_
                          rw [hva_] at ge433_0
                          rw [hvc_] at ul433_0
                          have HL433_0 := Aside0.mk (show Kd.V k59 59 _ w.heap.size _ _ (rd_L8 t427 x18_3) from Kd.V_mk ul433_0 ge433_0)
                          clear hva_ hvn_ hvc_ ge433_0 ul433_0
                          clear hcc433 hce433
                          have HR433_0 := Aside0.mk hi433_0
                          have HC433_0 := Aside0.mk hl433_0
                          clear hi433_0 hl433_0
                          replace p433 := eq_true p433
                          replace q433 := eq_true q433
                          go_wp2_with (first | (go_at_call 16; (with_reducible refine (moultlaw8_alike.calls k3 _ _ (rd_L5 t424 x18_3) _ _ (rd_L8 t427 x18_3) false _ ?side1 ?side2 ?side3 ?side4 A38.out).mono ?_); (case side1 => repeat (first | exact (by repeat (first | (with_reducible exact HR432_0.out) | (with_reducible refine Kd.C_alloc ?_ _) | (with_reducible refine Kd.C_drewN ?_ _) | (with_reducible refine Kd.C_drew ?_) | exact HR432_0.out)) | (with_reducible refine Kd.C_alloc ?_ _) | (with_reducible refine Kd.C_drewN ?_ _) | (with_reducible refine Kd.C_drew ?_))); (case side2 => exact HC432_0.out); (case side3 => repeat (first | exact (by repeat (first | (with_reducible exact HR433_0.out) | (with_reducible refine Kd.C_alloc ?_ _) | (with_reducible refine Kd.C_drewN ?_ _) | (with_reducible refine Kd.C_drew ?_) | exact HR433_0.out)) | (with_reducible refine Kd.C_alloc ?_ _) | (with_reducible refine Kd.C_drewN ?_ _) | (with_reducible refine Kd.C_drew ?_))); (case side4 => exact HC433_0.out); rintro e w' ⟨rfl, ⟨nd, rfl⟩⟩; (try first | exact ⟨rfl, _, World.drewN_drewN _ _ _⟩ | exact ⟨rfl, _, Eq.trans (World.drewN_drewN _ _ _) (congrArg (World.drewN _) (Nat.add_assoc _ _ _))⟩)))
                          repeat (go_quiet (first | (go_at_call 16; (with_reducible refine (moultlaw8_alike.calls k3 _ _ (rd_L5 t424 x18_3) _ _ (rd_L8 t427 x18_3) false _ ?side1 ?side2 ?side3 ?side4 A38.out).mono ?_); (case side1 => repeat (first | exact (by repeat (first | (with_reducible exact HR432_0.out) | (with_reducible refine Kd.C_alloc ?_ _) | (with_reducible refine Kd.C_drewN ?_ _) | (with_reducible refine Kd.C_drew ?_) | exact HR432_0.out)) | (with_reducible refine Kd.C_alloc ?_ _) | (with_reducible refine Kd.C_drewN ?_ _) | (with_reducible refine Kd.C_drew ?_))); (case side2 => exact HC432_0.out); (case side3 => repeat (first | exact (by repeat (first | (with_reducible exact HR433_0.out) | (with_reducible refine Kd.C_alloc ?_ _) | (with_reducible refine Kd.C_drewN ?_ _) | (with_reducible refine Kd.C_drew ?_) | exact HR433_0.out)) | (with_reducible refine Kd.C_alloc ?_ _) | (with_reducible refine Kd.C_drewN ?_ _) | (with_reducible refine Kd.C_drew ?_))); (case side4 => exact HC433_0.out); rintro e w' ⟨rfl, ⟨nd, rfl⟩⟩; (try first | exact ⟨rfl, _, World.drewN_drewN _ _ _⟩ | exact ⟨rfl, _, Eq.trans (World.drewN_drewN _ _ _) (congrArg (World.drewN _) (Nat.add_assoc _ _ _))⟩))); try go_wp2_with (first | (go_at_call 16; (with_reducible refine (moultlaw8_alike.calls k3 _ _ (rd_L5 t424 x18_3) _ _ (rd_L8 t427 x18_3) false _ ?side1 ?side2 ?side3 ?side4 A38.out).mono ?_); (case side1 => repeat (first | exact (by repeat (first | (with_reducible exact HR432_0.out) | (with_reducible refine Kd.C_alloc ?_ _) | (with_reducible refine Kd.C_drewN ?_ _) | (with_reducible refine Kd.C_drew ?_) | exact HR432_0.out)) | (with_reducible refine Kd.C_alloc ?_ _) | (with_reducible refine Kd.C_drewN ?_ _) | (with_reducible refine Kd.C_drew ?_))); (case side2 => exact HC432_0.out); (case side3 => repeat (first | exact (by repeat (first | (with_reducible exact HR433_0.out) | (with_reducible refine Kd.C_alloc ?_ _) | (with_reducible refine Kd.C_drewN ?_ _) | (with_reducible refine Kd.C_drew ?_) | exact HR433_0.out)) | (with_reducible refine Kd.C_alloc ?_ _) | (with_reducible refine Kd.C_drewN ?_ _) | (with_reducible refine Kd.C_drew ?_))); (case side4 => exact HC433_0.out); rintro e w' ⟨rfl, ⟨nd, rfl⟩⟩; (try first | exact ⟨rfl, _, World.drewN_drewN _ _ _⟩ | exact ⟨rfl, _, Eq.trans (World.drewN_drewN _ _ _) (congrArg (World.drewN _) (Nat.add_assoc _ _ _))⟩))))
                          all_goals go_ret
                          all_goals exact ⟨by first | rfl | (simp [errW_none, errW_some] <;> rfl) | (simp [*, errW_none, errW_some] <;> rfl), by repeat (first | (with_reducible first | exact HB.out | apply below_alloc | apply pw_below_drewN | apply below_drew1) | exact HB.out)⟩
                      · rw [if_neg c37] at H
                        exact absurd H (by simp)
                    · rw [if_neg c36] at H
                      exact absurd H (by simp)
                  · rw [if_neg c35] at H
                    have c35b0 : decide (x18_3 < (t424.length : Int)) = false := decide_eq_false c35
                    clear c35
                    obtain rfl := Option.some.inj H
                    obtain ⟨Ao44, co44, eo44⟩ := Kd.N_slice HO_16.out
                    subst eo44
                    go_wp2
                    repeat (go_quiet (fail); try go_wp2)
                    all_goals go_ret
                    all_goals exact ⟨by first | rfl | (simp [errW_none, errW_some] <;> rfl) | (simp [*, errW_none, errW_some] <;> rfl), by repeat (first | (with_reducible first | exact HB.out | apply below_alloc | apply pw_below_drewN | apply below_drew1) | exact HB.out)⟩
end Go.Proofs.Ytbhainkcdkgbbaa.P

