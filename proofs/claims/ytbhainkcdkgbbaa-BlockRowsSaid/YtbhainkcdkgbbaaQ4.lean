import Derived.Test.YtbhainkcdkgbbaaProg
import Derived.Below
import Derived.Deep.Draws
import Derived.Deep.AppendLies
import Derived.Maps.AppendAt
import Derived.OwnWalk
import Derived.Laws.BytesArg
import Derived.Laws.MakeOwn
import Derived.Laws.OwnMore
import Derived.Deep.OwnRows
import Derived.Tactics
import Derived.Lib.ConvBytes
import Derived.Laws.Slices
import Derived.WalkKit
import Derived.KernelRfl
import Derived.RowKit3
import Derived.Deep.LoopGhost
import Derived.Deep.QuietTactic
import Derived.BigQuiet
import Derived.WideLaws
import Derived.Deep.DeepCutAuto
import Derived.Deep.CutBlock
import Derived.Deep.RegionHeld3
import Derived.Laws.Rows
import Derived.Lib.AppendStr
import Derived.ArgAppend
import Derived.Laws.IdiomCopy
import Derived.OrdersHeld
import Derived.Laws.BitsLemmas
import Derived.RowKit
import Derived.Lib.Hide
import Derived.Laws.ShiftsVar
import Derived.Laws.ShiftsVarLaws
import Derived.Laws.BitsAllLaws
import Derived.Shelf.Strings.Builder1
import Derived.Laws.Strings
import Derived.Laws.StructEq
import Derived.Test.YtbhainkcdkgbbaaQ0
import Derived.Test.YtbhainkcdkgbbaaQ1
import Derived.Test.YtbhainkcdkgbbaaQ2
import Derived.Test.YtbhainkcdkgbbaaQ3
namespace Go.Proofs.Ytbhainkcdkgbbaa.Sl
end Go.Proofs.Ytbhainkcdkgbbaa.Sl
namespace Go.Proofs.Ytbhainkcdkgbbaa.Vp
end Go.Proofs.Ytbhainkcdkgbbaa.Vp
namespace Go.Proofs.YtbhainkcdkgbbaaW.PrintLast
end Go.Proofs.YtbhainkcdkgbbaaW.PrintLast
namespace Go.Proofs.YtbhainkcdkgbbaaW.PrintMore
end Go.Proofs.YtbhainkcdkgbbaaW.PrintMore
namespace Go.Proofs.YtbhainkcdkgbbaaW.PrintWords
end Go.Proofs.YtbhainkcdkgbbaaW.PrintWords
namespace Go.Proofs.Ytbhainkcdkgbbaa.P
open Go.RowKit Go.Proofs.Ytbhainkcdkgbbaa.Vp Go.Proofs.Ytbhainkcdkgbbaa.Sl Go.Proofs.YtbhainkcdkgbbaaW.PrintWords Go.Proofs.YtbhainkcdkgbbaaW.PrintLast Go.Proofs.YtbhainkcdkgbbaaW.PrintMore
attribute [local go_sem] str_gtr str_leq str_geq max2_int min2_int max_two min_two max_three min_three max_four min_four
set_option linter.unusedVariables false
set_option linter.unusedSimpArgs false
def block_Read.l0 : Nat → ByteArray → List (S43) → ByteArray → Option ((List (S43)) × Int)
  | 0, _, _, _ => none
  | k + 1, x0, x4, x5 => if x0.toList = ([] : List UInt8) then (some (x4, 0)) else ((block_next.f k x0 x5).bind fun bt121 => (if bt121.2.2.2 = true then (if (x4.length : Int) > 0 then (if ((Op.bytesLess x5.toList bt121.1.toList) = true) then (if x4.length < 4398046511104 then (block_Read.l0 k bt121.2.2.1 (x4 ++ [(⟨bt121.1, bt121.2.1⟩ : S43)]) bt121.1) else (none)) else (some (([] : List (S43)), 8))) else (if x4.length < 4398046511104 then (block_Read.l0 k bt121.2.2.1 (x4 ++ [(⟨bt121.1, bt121.2.1⟩ : S43)]) bt121.1) else (none))) else (some (([] : List (S43)), 8))))
def block_Read.f (k : Nat) (a0 : ByteArray) : Option ((List (S43)) × Int) := if (a0.size : Int) > 40000 then (some (([] : List (S43)), 8)) else (block_Read.l0 k a0 ([] : List (S43)) (⟨#[]⟩ : ByteArray))
theorem block_Read.mono_l : ∀ k, (∀ y0 y1 y2, LeO (block_Read.l0 k y0 y1 y2) (block_Read.l0 (k + 1) y0 y1 y2))
  | 0 => fun _ _ _ r h => by simp [block_Read.l0] at h
  | k + 1 => by
    have ih0 := block_Read.mono_l k
    · intro y0 y1 y2
      unfold block_Read.l0
      repeat' first
      | (with_reducible exact ih0 _ _ _)
      | (with_reducible exact block_next.mono _ _ _)
      | (with_reducible exact LeO.refl _)
      | (with_reducible exact LeO.none _)
      | (with_reducible refine LeO.ite ?_ ?_)
      | (with_reducible refine LeO.bind ?_ (fun _ => ?_))
      | exact ih0 _ _ _
      | exact block_next.mono _ _ _
      | exact LeO.none _
      | refine LeO.ite ?_ ?_
      | refine LeO.bind ?_ (fun _ => ?_)
theorem block_Read.mono : ∀ a0 k, LeO (block_Read.f k a0) (block_Read.f (k + 1) a0) := by
  intro a0 k
  have ih0 := block_Read.mono_l k
  unfold block_Read.f
  repeat' first
      | (with_reducible exact ih0 _ _ _)
      | (with_reducible exact block_next.mono _ _ _)
      | (with_reducible exact LeO.refl _)
      | (with_reducible exact LeO.none _)
      | (with_reducible refine LeO.ite ?_ ?_)
      | (with_reducible refine LeO.bind ?_ (fun _ => ?_))
      | exact ih0 _ _ _
      | exact block_next.mono _ _ _
      | exact LeO.none _
      | refine LeO.ite ?_ ?_
      | refine LeO.bind ?_ (fun _ => ?_)
def block_Read.T9 : Bool × List (List Nat × List Nat) := (true, [([], []), ([], []), ([1], [1]), ([0, 2], [0, 2]), ([], []), ([], []), ([5], [5]), ([3, 3, 0, 1, 2, 3], [0, 3]), ([4, 7, 0, 1, 2, 3, 4, 7], [4]), ([6, 8, 0, 1, 2, 3, 4, 5, 6, 7, 8], [6])])
def block_Read.B9 : List Nat := [0, 0, 2, 7, 0, 0, 32, 15, 159, 511]
theorem block_Read.tab9 : rtab .any (opsOf Try.f10 9) = block_Read.T9 := by kernel_rfl
theorem block_Read.bits9 : waitsOk block_Read.T9.2 block_Read.B9 = true := by kernel_rfl
set_option maxHeartbeats 8000000 in
set_option maxRecDepth 100000 in
theorem block_Read.calls (k : Nat) (a0 : ByteArray) (r1 : List (S43)) (r2 : Int) (w : World) (h : block_Read.f k a0 = some (r1, r2)) :
    Calls Try.prog 10 #[.string a0] w fun e w' => ∃ v0_ : Value, e = .returned (.tuple #[v0_, .int .i64 r2]) ∧ Kd.R k43 43 w' w.heap.size (fun _ => True) v0_ r1 ∧ Below w.heap.size w w' := by
  have hu43 := Try.underlying43
  have HB := Aside0.mk (Below.refl w.heap.size w)
  have H : (if (a0.size : Int) > 40000 then (some (([] : List (S43)), 8)) else (block_Read.l0 k a0 ([] : List (S43)) (⟨#[]⟩ : ByteArray))) = some (r1, r2) := h
  clear h
  by_cases c2 : (a0.size : Int) > 40000
  · rw [if_pos c2] at H
    have c2b0 : decide (40000 < (a0.size : Int)) = true := decide_eq_true c2
    have c2b1 : decide (40000 < a0.size) = true := decide_eq_true (by omega)
    clear c2
    simp only [Option.some.injEq, Prod.mk.injEq] at H
    obtain ⟨rfl, rfl⟩ := H
    go_enter Try.func10, Try.ntmps10
    go_wp2
    all_goals go_ret2
    all_goals exact ⟨_, by first | rfl | (simp [errW_none, errW_some] <;> rfl) | (simp [*, errW_none, errW_some] <;> rfl), by first | exact Kd.R_nil _ _ _ _ _ | exact Kd.N_nil _ _ _ _ _ | exact Kd.V_nil _ _ _ _ _ | exact Kd.Q_nil _ _ _ _ _ | exact Kd.S_nil _ _ _ _ _, by repeat (first | (with_reducible first | exact HB.out | apply below_alloc | apply pw_below_drewN | apply below_drew1) | exact HB.out)⟩
  · rw [if_neg c2] at H
    have c2b0 : decide (40000 < (a0.size : Int)) = false := decide_eq_false c2
    have c2b1 : decide (40000 < a0.size) = false := decide_eq_false (by omega)
    clear c2
    have H' := Aside0.mk H
    clear H
    go_enter Try.func10, Try.ntmps10
    go_wp2
    go_loopg [0, 4, 5] k (fun kq v0 v4 v5 w' => ∃ (x0_1 : ByteArray) (x4_1 : List (S43)) (x5_1 : ByteArray), v0 = .string x0_1 ∧ v5 = .string x5_1 ∧ Aside0 (block_Read.l0 kq x0_1 x4_1 x5_1 = some (r1, r2)) ∧ Aside0 (kq ≤ k) ∧ Aside0 (Kd.R k43 43 w' w.heap.size (fun _ => True) v4 x4_1) ∧ Aside0 (Below w.heap.size w w'))
    case atStart => exact ⟨(a0), (([] : List (S43))), ((⟨#[]⟩ : ByteArray)), (by first | rfl | (simp; done) | (simp [*]; done)), (by first | rfl | (simp; done) | (simp [*]; done)), H', ⟨Nat.le_refl _⟩, ⟨by first | exact Kd.R_nil _ _ _ _ _ | exact Kd.N_nil _ _ _ _ _ | exact Kd.V_nil _ _ _ _ _ | exact Kd.Q_nil _ _ _ _ _ | exact Kd.S_nil _ _ _ _ _⟩, ⟨by repeat (first | (with_reducible first | exact HB.out | apply below_alloc | apply pw_below_drewN | apply below_drew1) | exact HB.out)⟩⟩
    case round =>
      clear H'
      try clear c1
      try clear c2
      try clear c2b0
      try clear c2b1
      try clear p2
      obtain ⟨x0_1, x4_1, x5_1, rfl, rfl, HA, HK1, HO_4, HB⟩ := hrel
      cases gk with
      | zero => exact absurd HA.out (by simp [block_Read.l0])
      | succ k1 =>
        have H := HA.out
        clear HA
        simp only [block_Read.l0] at H
        by_cases c3 : x0_1.toList = ([] : List UInt8)
        · rw [if_pos c3] at H
          have c3b0 : (x0_1.toList == ([] : List UInt8)) = true := beq_iff_eq.mpr c3
          have c3b1 : (x0_1.toList != ([] : List UInt8)) = false := bne_eq_false_iff_eq.mpr c3
          clear c3
          simp only [Option.some.injEq, Prod.mk.injEq] at H
          obtain ⟨rfl, rfl⟩ := H
          go_wp2
          all_goals go_ret2
          all_goals exact ⟨_, by first | rfl | (simp [errW_none, errW_some] <;> rfl) | (simp [*, errW_none, errW_some] <;> rfl), by (with_reducible repeat (first | apply Kd.R_alloc | apply Kd.R_drewN | apply Kd.R_drew)); exact HO_4.out, by repeat (first | (with_reducible first | exact HB.out | apply below_alloc | apply pw_below_drewN | apply below_drew1) | exact HB.out)⟩
        · rw [if_neg c3] at H
          have c3b0 : (x0_1.toList == ([] : List UInt8)) = false := beq_eq_false_iff_ne.mpr c3
          have c3b1 : (x0_1.toList != ([] : List UInt8)) = true := bne_iff_ne.mpr c3
          replace H := Option.bind_eq_some_iff.mp H
          obtain ⟨⟨t121, t122, t123, t124⟩, A40, H⟩ := H
          replace H : (if t124 = true then (if (x4_1.length : Int) > 0 then (if ((Op.bytesLess x5_1.toList t121.toList) = true) then (if x4_1.length < 4398046511104 then (block_Read.l0 k1 t123 (x4_1 ++ [(⟨t121, t122⟩ : S43)]) t121) else (none)) else (some (([] : List (S43)), 8))) else (if x4_1.length < 4398046511104 then (block_Read.l0 k1 t123 (x4_1 ++ [(⟨t121, t122⟩ : S43)]) t121) else (none))) else (some (([] : List (S43)), 8))) = some (r1, r2) := H
          have A4 := Aside0.mk A40
          clear A40
          by_cases c5 : t124 = true
          · subst c5
            have H1 : (if (x4_1.length : Int) > 0 then (if ((Op.bytesLess x5_1.toList t121.toList) = true) then (if x4_1.length < 4398046511104 then (block_Read.l0 k1 t123 (x4_1 ++ [(⟨t121, t122⟩ : S43)]) t121) else (none)) else (some (([] : List (S43)), 8))) else (if x4_1.length < 4398046511104 then (block_Read.l0 k1 t123 (x4_1 ++ [(⟨t121, t122⟩ : S43)]) t121) else (none))) = some (r1, r2) := by rw [if_pos rfl] at H; exact H
            clear H
            have H := H1
            clear H1
            by_cases c6 : (x4_1.length : Int) > 0
            · rw [if_pos c6] at H
              have c6b0 : decide (0 < (x4_1.length : Int)) = true := decide_eq_true c6
              have c6b1 : decide (0 < x4_1.length) = true := decide_eq_true (by omega)
              clear c6
              by_cases c7 : ((Op.bytesLess x5_1.toList t121.toList) = true)
              · rw [if_pos c7] at H
                have c7b0 : (Op.bytesLess x5_1.toList t121.toList) = true := c7
                clear c7
                by_cases c8 : x4_1.length < 4398046511104
                · rw [if_pos c8] at H
                  have LMc8 := Aside0.mk c8
                  clear c8
                  obtain ⟨y126, hy126⟩ : ∃ y_ : List (S43), y_ = (x4_1 ++ [(⟨t121, t122⟩ : S43)]) := ⟨_, rfl⟩
                  replace H : (block_Read.l0 k1 t123 y126 t121) = some (r1, r2) := by first | (rw [hy126]; with_reducible exact H) | (have H2_ := (Option.bind_some _ _).symm.trans H; rw [hy126]; with_reducible exact H2_) | (have H2_ := (Option.bind_some _ _).symm.trans H; with_reducible exact H2_) | with_reducible exact H | (rw [hy126]; exact H) | exact H
                  have Ny126 := Aside0.mk hy126
                  clear hy126
                  have H' := Aside0.mk H
                  clear H
                  try go_wp2_with (first | ((with_reducible refine gate_callee (f := 27) rfl ?_); refine goesL_ (some 17) rfl rfl Try.func27 (by kernel_rfl) rfl #[.string x0_1, .string x5_1] rfl (by (try simp only [List.map_toArray, List.map_cons, List.map_nil]); first | done | rfl | (simp only [List.length_drop, List.length_take]; rfl)) ?_; (with_reducible refine (block_next.calls k1 x0_1 x5_1 t121 t122 t123 true _ A4.out).mono ?_); rintro e w9 ⟨rfl, hb⟩; refine ⟨_, rfl, ?_⟩; have n0_ := Aside0.mk (Kd.R_below (by (with_reducible repeat (first | apply Kd.R_alloc | apply Kd.R_drewN | apply Kd.R_drew)); exact HO_4.out) hb); have n1_ := Aside0.mk (below_step (by repeat (first | (with_reducible first | exact HB.out | apply below_alloc | apply pw_below_drewN | apply below_drew1) | exact HB.out)) hb); clear HO_4; clear HB; have HO_4 := n0_; have HB := n1_; clear n0_ n1_; (try clear hb); (try clear hb2); (try clear hk); (try clear hi)) | ((with_reducible refine gate_dst (N := 6) rfl ?_); (try (refine gate_guard (by rfl) ?_; dsimp only)); refine box_event ?hg (N := 6) ?hd (cs := #[.string (⟨#[]⟩ : ByteArray), .string (⟨#[]⟩ : ByteArray)]) (t := 43) ?hr ?_; (case hd => rfl); (case hg => rfl); (case hr => first | (go_simp; done) | (go_simp; rfl)); intro gb125 hg w10 hbox hb; have n0_ := Aside0.mk (Kd.R_below (Kd.R_elderB (by (with_reducible repeat (first | apply Kd.R_alloc | apply Kd.R_drewN | apply Kd.R_drew)); exact HO_4.out) gb125 (Nat.le_of_eq hg.symm)) hb); have n1_ := Aside0.mk (below_step (by repeat (first | (with_reducible first | exact HB.out | apply below_alloc | apply pw_below_drewN | apply below_drew1) | exact HB.out)) hb); have n2_ := Aside0.mk (hbox); have n3_ := Aside0.mk ((by rw [hg]; exact (below_size (by repeat (first | (with_reducible first | exact HB.out | apply below_alloc | apply pw_below_drewN | apply below_drew1) | exact HB.out))) : w.heap.size ≤ gb125)); have n4_ := Aside0.mk ((by rw [hg]; exact (below_size (by repeat (first | (with_reducible first | exact HB.out | apply below_alloc | apply pw_below_drewN | apply below_drew1) | exact HB.out))) : w.heap.size ≤ gb125)); clear HO_4; clear HB; have HO_4 := n0_; have HB := n1_; have BK125 := n2_; have GW125 := n3_; have GE125 := n4_; clear n0_ n1_ n2_ n3_ n4_; clear hb hbox hg; have hcz11_0 : w10.cell? ⟨gb125, 0, none⟩ = some (.string (⟨#[]⟩ : ByteArray)) := (blk_cell BK125.out 0).trans rfl; have hcz11_1 : w10.cell? ⟨gb125, 1, none⟩ = some (.string (⟨#[]⟩ : ByteArray)) := (blk_cell BK125.out 1).trans rfl; have hfz11_0 := blk_frozen BK125.out 0; have hfz11_1 := blk_frozen BK125.out 1; obtain ⟨Ao12, co12, eo12⟩ := Kd.R_slice HO_4.out; subst eo12))
                  have n0_ : Aside0 (Kd.R k43 43 ((w10.setCell ⟨gb125, 0, none⟩ (.string t121)).setCell ⟨gb125, 1, none⟩ (.string t122)) w.heap.size (fun k_ => k_ ≠ gb125) (.slice Ao12 x4_1.length co12) x4_1) := ⟨by (with_reducible repeat (first | apply Kd.R_alloc | apply Kd.R_drewN | apply Kd.R_drew)); exact Kd.R_mono (Kd.R_far (p := ⟨gb125, 1, none⟩) (Kd.R_far (p := ⟨gb125, 0, none⟩) (Kd.R_mono HO_4.out (fun k_ hk => (⟨hk, hk.2⟩ : _ ∧ k_ ≠ gb125))) (fun _ hk => hk.2) (.string t121)) (fun _ hk => hk.2) (.string t122)) (fun _ hk => hk.1.2)⟩
                  have n1_ : Aside0 (((w10.setCell ⟨gb125, 0, none⟩ (.string t121)).setCell ⟨gb125, 1, none⟩ (.string t122)).heap[gb125]? = some (.cells #[.string t121, .string t122] 43 (0, 0))) := ⟨by (with_reducible repeat (first | refine blk_drewN ?_ _ | refine blk_drew ?_ | refine blk_alloc ?_ _)); refine blk_put (cs := #[.string t121, .string (⟨#[]⟩ : ByteArray)]) ?_ 1 _ rfl; (with_reducible repeat (first | refine blk_drewN ?_ _ | refine blk_drew ?_ | refine blk_alloc ?_ _)); refine blk_put (cs := #[.string (⟨#[]⟩ : ByteArray), .string (⟨#[]⟩ : ByteArray)]) ?_ 0 _ rfl; (with_reducible repeat (first | refine blk_drewN ?_ _ | refine blk_drew ?_ | refine blk_alloc ?_ _)); exact BK125.out⟩
                  have n2_ : Aside0 (Below w.heap.size w ((w10.setCell ⟨gb125, 0, none⟩ (.string t121)).setCell ⟨gb125, 1, none⟩ (.string t122))) := ⟨by repeat (first | (with_reducible first | exact HB.out | apply below_alloc | apply pw_below_drewN | apply below_drew1 | refine below_set ?_ GE125.out) | exact HB.out)⟩
                  (try clear HO_4)
                  (try clear BK125)
                  (try clear HB)
                  generalize ((w10.setCell ⟨gb125, 0, none⟩ (.string t121)).setCell ⟨gb125, 1, none⟩ (.string t122)) = w13 at n0_ n1_ n2_ ⊢
                  have HO_4 := n0_
                  have BK125 := n1_
                  have HB := n2_
                  clear n0_ n1_ n2_
                  have n0_ := Aside0.mk (Kd.R_drew HO_4.out)
                  have n1_ := Aside0.mk (blk_drew BK125.out)
                  have n2_ := Aside0.mk (below_drew1 HB.out)
                  clear HO_4
                  clear BK125
                  clear HB
                  have HO_4 := n0_
                  have BK125 := n1_
                  have HB := n2_
                  clear n0_ n1_ n2_
                  refine start_ (n := 10) (S := fun w' => w'.cell? ⟨gb125, 0, none⟩ = some (.string t121) ∧ w'.cell? ⟨gb125, 1, none⟩ = some (.string t122)) (ds := []) #[false, false, false, false, false, false, false, false, false, false] (by kernel_rfl) rfl rfl ⟨(blk_cell BK125.out 0).trans rfl, (blk_cell BK125.out 1).trans rfl⟩ (fun hHeld => ?_); refine with_tabW block_Read.tab9 block_Read.bits9 (fun HT_ HW_ => ?_)
                  generalize w13.drew = w14 at HO_4 BK125 HB hHeld ⊢
                  refine pure_ (i := 0) (N := some 34) (v := ?_) (a' := ?_) #[true, false, false, false, false, false, false, false, false, false] rfl rfl (any_of HT_.out (by kernel_rfl)) (fun _ _ _ h => h) (Or.inl ⟨by rfl, ?_⟩) ?_ ?_
                  rotate_left
                  · intro w'
                    go_simp
                    with_reducible rfl
                  rotate_left
                  · simp only [Act.put, List.setIfInBounds_toArray, List.set_cons_zero, List.set_cons_succ, i64_w, i32_w]
                    rfl
                  refine pure_ (i := 4) (N := some 38) (v := ?_) (a' := ?_) #[true, false, false, false, true, false, false, false, false, false] rfl rfl (any_of HT_.out (by kernel_rfl)) (fun _ _ _ h => h) (Or.inl ⟨by rfl, ?_⟩) ?_ ?_
                  rotate_left
                  · intro w'
                    go_simp
                    with_reducible rfl
                  rotate_left
                  · simp only [Act.put, List.setIfInBounds_toArray, List.set_cons_zero, List.set_cons_succ, i64_w, i32_w]
                    rfl
                  refine pure_ (i := 5) (N := some 39) (v := ?_) (a' := ?_) #[true, false, false, false, true, true, false, false, false, false] rfl rfl (any_of HT_.out (by kernel_rfl)) (fun _ _ _ h => h) (Or.inl ⟨by rfl, ?_⟩) ?_ ?_
                  rotate_left
                  · intro w'
                    go_simp
                    with_reducible rfl
                  rotate_left
                  · simp only [Act.put, List.setIfInBounds_toArray, List.set_cons_zero, List.set_cons_succ, i64_w, i32_w]
                    rfl
                  refine take_ (i := 1) (N := some 35) (v := ?_) (a' := ?_) #[true, true, false, false, true, true, false, false, false, false] rfl rfl (take_ofW HT_.out HW_.out (by kernel_rfl)) (fun _ _ _ h => h) (Or.inl ⟨by rfl, ?_⟩) hHeld ?_ ?_
                  rotate_left
                  · rintro w' ⟨s0, s1⟩
                    go_simp
                    with_reducible rfl
                  rotate_left
                  · simp only [Act.put, List.setIfInBounds_toArray, List.set_cons_zero, List.set_cons_succ, i64_w, i32_w]
                    rfl
                  refine take_ (i := 6) (N := some 40) (v := ?_) (a' := ?_) #[true, true, false, false, true, true, true, false, false, false] rfl rfl (take_ofW HT_.out HW_.out (by kernel_rfl)) (fun _ _ _ h => h) (Or.inl ⟨by rfl, ?_⟩) hHeld ?_ ?_
                  rotate_left
                  · rintro w' ⟨s0, s1⟩
                    go_simp
                    with_reducible rfl
                  rotate_left
                  · simp only [Act.put, List.setIfInBounds_toArray, List.set_cons_zero, List.set_cons_succ, i64_w, i32_w]
                    rfl
                  refine one_ (i := 2) (N := some 36) #[true, true, true, false, true, true, true, false, false, false] rfl rfl (one_of HT_.out (by kernel_rfl)) (by decide) (fun K hK => ?_)
                  refine value_ (w1 := ?_) (v := ?_) (by rfl) rfl ?_ ?_
                  rotate_left 2
                  · go_simp
                    constructor
                    · rfl
                    · rfl
                  refine hK.out _ _ ⟨(blk_cell (blk_alloc BK125.out _) 0).trans rfl, (blk_cell (blk_alloc BK125.out _) 1).trans rfl⟩ (fun hHeld => ?_)
                  clear hK K
                  refine norm_ (a' := ?_) ?_ ?_
                  rotate_left
                  · show Act.put _ (some 36) _ = _
                    simp only [Act.put, List.setIfInBounds_toArray, List.set_cons_zero, List.set_cons_succ, i64_w, i32_w]
                    rfl
                  refine one_ (i := 3) (N := some 37) #[true, true, true, true, true, true, true, false, false, false] rfl rfl (one_of HT_.out (by kernel_rfl)) (by decide) (fun K hK => ?_)
                  refine Kd.R_append_step k43 (w0 := w) w.heap.size (by rfl) (.tmp 34) (.tmp 36) 23 43 (.agg #[(.string ⟨#[]⟩), (.string ⟨#[]⟩)]) 32 rfl Try.underlying23 info43 rfl (by decide) (by omega) (.slice Ao12 x4_1.length co12) x4_1 (⟨t121, t122⟩ : S43) [.string t121, .string t122] (fun k_ => k_ ≠ gb125) (fun _ => False) rfl rfl ?aP (fun _ hk => hk.elim) ?aF ?aO ?aB ?aS ?aL ?_
                  (case aP => exact k43_mkM _ _ _ (⟨t121, t122⟩ : S43))
                  (case aB => exact (by repeat (first | (with_reducible first | exact HB.out | apply below_alloc | apply pw_below_drewN | apply below_drew1 | refine below_set ?_ GE125.out) | exact HB.out)))
                  (case aF => exact (fun k_ hk => Kd.freshB (g := gb125) (o := .cells #[.string t121, .string t122] 43 (0, 0)) (by (with_reducible repeat (first | refine blk_drewN ?_ _ | refine blk_drew ?_ | refine blk_alloc ?_ _)); exact BK125.out) k_ hk))
                  (case aO => exact (by (with_reducible repeat (first | apply Kd.R_alloc | apply Kd.R_drewN | apply Kd.R_drew)); exact HO_4.out))
                  (case aS => exact (below_size (by repeat (first | (with_reducible first | exact HB.out | apply below_alloc | apply pw_below_drewN | apply below_drew1 | refine below_set ?_ GE125.out) | exact HB.out))))
                  (case aL => have := LMc8.out; omega)
                  intro v127 w15 ho hb hg hat
                  rw [← Ny126.out] at ho
                  have n0_ := Aside0.mk (blk_grown (g := gb125) (o := .cells #[.string t121, .string t122] 43 (0, 0)) (by (with_reducible repeat (first | refine blk_drewN ?_ _ | refine blk_drew ?_ | refine blk_alloc ?_ _)); exact BK125.out) hg (Kd.R_away HO_4.out (fun _ hk => hk)))
                  have n1_ := Aside0.mk (hb)
                  have n2_ := Aside0.mk (ho)
                  clear BK125
                  clear HB
                  clear HO_4
                  have BK125 := n0_
                  have HB := n1_
                  have HO128 := n2_
                  clear n0_ n1_ n2_
                  clear ho hb hg hat
                  refine hK.out _ _ ⟨(blk_cell BK125.out 0).trans rfl, (blk_cell BK125.out 1).trans rfl⟩ (fun hHeld => ?_)
                  clear hK K
                  refine norm_ (a' := ?_) ?_ ?_
                  rotate_left
                  · show Act.put _ (some 37) _ = _
                    simp only [Act.put, List.setIfInBounds_toArray, List.set_cons_zero, List.set_cons_succ, i64_w, i32_w]
                    rfl
                  refine pure_ (i := 7) (N := some 4) (v := ?_) (a' := ?_) #[true, true, true, true, true, true, true, true, false, false] rfl rfl (any_of HT_.out (by kernel_rfl)) (fun _ _ _ h => h) (Or.inl ⟨by rfl, ?_⟩) ?_ ?_
                  rotate_left
                  · intro w'
                    go_simp
                    with_reducible rfl
                  rotate_left
                  · simp only [Act.put, List.setIfInBounds_toArray, List.set_cons_zero, List.set_cons_succ, i64_w, i32_w]
                    rfl
                  refine pure_ (i := 8) (N := some 0) (v := ?_) (a' := ?_) #[true, true, true, true, true, true, true, true, true, false] rfl rfl (any_of HT_.out (by kernel_rfl)) (fun _ _ _ h => h) (Or.inl ⟨by rfl, ?_⟩) ?_ ?_
                  rotate_left
                  · intro w'
                    go_simp
                    with_reducible rfl
                  rotate_left
                  · simp only [Act.put, List.setIfInBounds_toArray, List.set_cons_zero, List.set_cons_succ, i64_w, i32_w]
                    rfl
                  refine pure_ (i := 9) (N := some 5) (v := ?_) (a' := ?_) #[true, true, true, true, true, true, true, true, true, true] rfl rfl (any_of HT_.out (by kernel_rfl)) (fun _ _ _ h => h) (Or.inl ⟨by rfl, ?_⟩) ?_ ?_
                  rotate_left
                  · intro w'
                    go_simp
                    with_reducible rfl
                  rotate_left
                  · simp only [Act.put, List.setIfInBounds_toArray, List.set_cons_zero, List.set_cons_succ, i64_w, i32_w]
                    rfl
                  refine done_ (done_of HT_.out (by kernel_rfl)) ?_
                  try go_wp2
                  go_roundg k1
                  case measure => have := HK1.out; omega
                  case rel => exact ⟨(t123), (y126), (t121), (by first | rfl | (simp; done) | (simp [*]; done)), (by first | rfl | (simp; done) | (simp [*]; done)), H', ⟨by have := HK1.out; omega⟩, ⟨by (with_reducible repeat (first | apply Kd.R_alloc | apply Kd.R_drewN | apply Kd.R_drew)); exact Kd.R_mono HO128.out (fun _ hk => trivial)⟩, ⟨by repeat (first | (with_reducible first | exact HB.out | apply below_alloc | apply pw_below_drewN | apply below_drew1 | refine below_set ?_ GE125.out) | exact HB.out)⟩⟩
                · rw [if_neg c8] at H
                  exact absurd H (by simp)
              · rw [if_neg c7] at H
                have c7b0 : (Op.bytesLess x5_1.toList t121.toList) = false := by simpa using c7
                clear c7
                simp only [Option.some.injEq, Prod.mk.injEq] at H
                obtain ⟨rfl, rfl⟩ := H
                go_wp2_with (first | ((with_reducible refine gate_callee (f := 27) rfl ?_); refine goesL_ (some 17) rfl rfl Try.func27 (by kernel_rfl) rfl #[.string x0_1, .string x5_1] rfl (by (try simp only [List.map_toArray, List.map_cons, List.map_nil]); first | done | rfl | (simp only [List.length_drop, List.length_take]; rfl)) ?_; (with_reducible refine (block_next.calls k1 x0_1 x5_1 t121 t122 t123 true _ A4.out).mono ?_); rintro e w16 ⟨rfl, hb⟩; refine ⟨_, rfl, ?_⟩; have n0_ := Aside0.mk (Kd.R_below (by (with_reducible repeat (first | apply Kd.R_alloc | apply Kd.R_drewN | apply Kd.R_drew)); exact HO_4.out) hb); have n1_ := Aside0.mk (below_step (by repeat (first | (with_reducible first | exact HB.out | apply below_alloc | apply pw_below_drewN | apply below_drew1) | exact HB.out)) hb); clear HO_4; clear HB; have HO_4 := n0_; have HB := n1_; clear n0_ n1_; (try clear hb); (try clear hb2); (try clear hk); (try clear hi)) | ((with_reducible refine gate_dst (N := 6) rfl ?_); (try (refine gate_guard (by rfl) ?_; dsimp only)); refine box_event ?hg (N := 6) ?hd (cs := #[.string (⟨#[]⟩ : ByteArray), .string (⟨#[]⟩ : ByteArray)]) (t := 43) ?hr ?_; (case hd => rfl); (case hg => rfl); (case hr => first | (go_simp; done) | (go_simp; rfl)); intro gb125 hg w17 hbox hb; have n0_ := Aside0.mk (Kd.R_below (Kd.R_elderB (by (with_reducible repeat (first | apply Kd.R_alloc | apply Kd.R_drewN | apply Kd.R_drew)); exact HO_4.out) gb125 (Nat.le_of_eq hg.symm)) hb); have n1_ := Aside0.mk (below_step (by repeat (first | (with_reducible first | exact HB.out | apply below_alloc | apply pw_below_drewN | apply below_drew1) | exact HB.out)) hb); have n2_ := Aside0.mk (hbox); have n3_ := Aside0.mk ((by rw [hg]; exact (below_size (by repeat (first | (with_reducible first | exact HB.out | apply below_alloc | apply pw_below_drewN | apply below_drew1) | exact HB.out))) : w.heap.size ≤ gb125)); have n4_ := Aside0.mk ((by rw [hg]; exact (below_size (by repeat (first | (with_reducible first | exact HB.out | apply below_alloc | apply pw_below_drewN | apply below_drew1) | exact HB.out))) : w.heap.size ≤ gb125)); clear HO_4; clear HB; have HO_4 := n0_; have HB := n1_; have BK125 := n2_; have GW125 := n3_; have GE125 := n4_; clear n0_ n1_ n2_ n3_ n4_; clear hb hbox hg; have hcz18_0 : w17.cell? ⟨gb125, 0, none⟩ = some (.string (⟨#[]⟩ : ByteArray)) := (blk_cell BK125.out 0).trans rfl; have hcz18_1 : w17.cell? ⟨gb125, 1, none⟩ = some (.string (⟨#[]⟩ : ByteArray)) := (blk_cell BK125.out 1).trans rfl; have hfz18_0 := blk_frozen BK125.out 0; have hfz18_1 := blk_frozen BK125.out 1; obtain ⟨Ao19, co19, eo19⟩ := Kd.R_slice HO_4.out; subst eo19))
                all_goals go_ret2
                all_goals exact ⟨_, by first | rfl | (simp [errW_none, errW_some] <;> rfl) | (simp [*, errW_none, errW_some] <;> rfl), by first | exact Kd.R_nil _ _ _ _ _ | exact Kd.N_nil _ _ _ _ _ | exact Kd.V_nil _ _ _ _ _ | exact Kd.Q_nil _ _ _ _ _ | exact Kd.S_nil _ _ _ _ _, by repeat (first | (with_reducible first | exact HB.out | apply below_alloc | apply pw_below_drewN | apply below_drew1 | refine below_set ?_ GE125.out) | exact HB.out)⟩
            · rw [if_neg c6] at H
              have c6b0 : decide (0 < (x4_1.length : Int)) = false := decide_eq_false c6
              have c6b1 : decide (0 < x4_1.length) = false := decide_eq_false (by omega)
              clear c6
              by_cases c20 : x4_1.length < 4398046511104
              · rw [if_pos c20] at H
                have LMc20 := Aside0.mk c20
                clear c20
                obtain ⟨y129, hy129⟩ : ∃ y_ : List (S43), y_ = (x4_1 ++ [(⟨t121, t122⟩ : S43)]) := ⟨_, rfl⟩
                replace H : (block_Read.l0 k1 t123 y129 t121) = some (r1, r2) := by first | (rw [hy129]; with_reducible exact H) | (have H2_ := (Option.bind_some _ _).symm.trans H; rw [hy129]; with_reducible exact H2_) | (have H2_ := (Option.bind_some _ _).symm.trans H; with_reducible exact H2_) | with_reducible exact H | (rw [hy129]; exact H) | exact H
                have Ny129 := Aside0.mk hy129
                clear hy129
                have H' := Aside0.mk H
                clear H
                try go_wp2_with (first | ((with_reducible refine gate_callee (f := 27) rfl ?_); refine goesL_ (some 17) rfl rfl Try.func27 (by kernel_rfl) rfl #[.string x0_1, .string x5_1] rfl (by (try simp only [List.map_toArray, List.map_cons, List.map_nil]); first | done | rfl | (simp only [List.length_drop, List.length_take]; rfl)) ?_; (with_reducible refine (block_next.calls k1 x0_1 x5_1 t121 t122 t123 true _ A4.out).mono ?_); rintro e w21 ⟨rfl, hb⟩; refine ⟨_, rfl, ?_⟩; have n0_ := Aside0.mk (Kd.R_below (by (with_reducible repeat (first | apply Kd.R_alloc | apply Kd.R_drewN | apply Kd.R_drew)); exact HO_4.out) hb); have n1_ := Aside0.mk (below_step (by repeat (first | (with_reducible first | exact HB.out | apply below_alloc | apply pw_below_drewN | apply below_drew1) | exact HB.out)) hb); clear HO_4; clear HB; have HO_4 := n0_; have HB := n1_; clear n0_ n1_; (try clear hb); (try clear hb2); (try clear hk); (try clear hi)) | ((with_reducible refine gate_dst (N := 6) rfl ?_); (try (refine gate_guard (by rfl) ?_; dsimp only)); refine box_event ?hg (N := 6) ?hd (cs := #[.string (⟨#[]⟩ : ByteArray), .string (⟨#[]⟩ : ByteArray)]) (t := 43) ?hr ?_; (case hd => rfl); (case hg => rfl); (case hr => first | (go_simp; done) | (go_simp; rfl)); intro gb125 hg w22 hbox hb; have n0_ := Aside0.mk (Kd.R_below (Kd.R_elderB (by (with_reducible repeat (first | apply Kd.R_alloc | apply Kd.R_drewN | apply Kd.R_drew)); exact HO_4.out) gb125 (Nat.le_of_eq hg.symm)) hb); have n1_ := Aside0.mk (below_step (by repeat (first | (with_reducible first | exact HB.out | apply below_alloc | apply pw_below_drewN | apply below_drew1) | exact HB.out)) hb); have n2_ := Aside0.mk (hbox); have n3_ := Aside0.mk ((by rw [hg]; exact (below_size (by repeat (first | (with_reducible first | exact HB.out | apply below_alloc | apply pw_below_drewN | apply below_drew1) | exact HB.out))) : w.heap.size ≤ gb125)); have n4_ := Aside0.mk ((by rw [hg]; exact (below_size (by repeat (first | (with_reducible first | exact HB.out | apply below_alloc | apply pw_below_drewN | apply below_drew1) | exact HB.out))) : w.heap.size ≤ gb125)); clear HO_4; clear HB; have HO_4 := n0_; have HB := n1_; have BK125 := n2_; have GW125 := n3_; have GE125 := n4_; clear n0_ n1_ n2_ n3_ n4_; clear hb hbox hg; have hcz23_0 : w22.cell? ⟨gb125, 0, none⟩ = some (.string (⟨#[]⟩ : ByteArray)) := (blk_cell BK125.out 0).trans rfl; have hcz23_1 : w22.cell? ⟨gb125, 1, none⟩ = some (.string (⟨#[]⟩ : ByteArray)) := (blk_cell BK125.out 1).trans rfl; have hfz23_0 := blk_frozen BK125.out 0; have hfz23_1 := blk_frozen BK125.out 1; obtain ⟨Ao24, co24, eo24⟩ := Kd.R_slice HO_4.out; subst eo24))
                have n0_ : Aside0 (Kd.R k43 43 ((w22.setCell ⟨gb125, 0, none⟩ (.string t121)).setCell ⟨gb125, 1, none⟩ (.string t122)) w.heap.size (fun k_ => k_ ≠ gb125) (.slice Ao24 x4_1.length co24) x4_1) := ⟨by (with_reducible repeat (first | apply Kd.R_alloc | apply Kd.R_drewN | apply Kd.R_drew)); exact Kd.R_mono (Kd.R_far (p := ⟨gb125, 1, none⟩) (Kd.R_far (p := ⟨gb125, 0, none⟩) (Kd.R_mono HO_4.out (fun k_ hk => (⟨hk, hk.2⟩ : _ ∧ k_ ≠ gb125))) (fun _ hk => hk.2) (.string t121)) (fun _ hk => hk.2) (.string t122)) (fun _ hk => hk.1.2)⟩
                have n1_ : Aside0 (((w22.setCell ⟨gb125, 0, none⟩ (.string t121)).setCell ⟨gb125, 1, none⟩ (.string t122)).heap[gb125]? = some (.cells #[.string t121, .string t122] 43 (0, 0))) := ⟨by (with_reducible repeat (first | refine blk_drewN ?_ _ | refine blk_drew ?_ | refine blk_alloc ?_ _)); refine blk_put (cs := #[.string t121, .string (⟨#[]⟩ : ByteArray)]) ?_ 1 _ rfl; (with_reducible repeat (first | refine blk_drewN ?_ _ | refine blk_drew ?_ | refine blk_alloc ?_ _)); refine blk_put (cs := #[.string (⟨#[]⟩ : ByteArray), .string (⟨#[]⟩ : ByteArray)]) ?_ 0 _ rfl; (with_reducible repeat (first | refine blk_drewN ?_ _ | refine blk_drew ?_ | refine blk_alloc ?_ _)); exact BK125.out⟩
                have n2_ : Aside0 (Below w.heap.size w ((w22.setCell ⟨gb125, 0, none⟩ (.string t121)).setCell ⟨gb125, 1, none⟩ (.string t122))) := ⟨by repeat (first | (with_reducible first | exact HB.out | apply below_alloc | apply pw_below_drewN | apply below_drew1 | refine below_set ?_ GE125.out) | exact HB.out)⟩
                (try clear HO_4)
                (try clear BK125)
                (try clear HB)
                generalize ((w22.setCell ⟨gb125, 0, none⟩ (.string t121)).setCell ⟨gb125, 1, none⟩ (.string t122)) = w25 at n0_ n1_ n2_ ⊢
                have HO_4 := n0_
                have BK125 := n1_
                have HB := n2_
                clear n0_ n1_ n2_
                have n0_ := Aside0.mk (Kd.R_drew HO_4.out)
                have n1_ := Aside0.mk (blk_drew BK125.out)
                have n2_ := Aside0.mk (below_drew1 HB.out)
                clear HO_4
                clear BK125
                clear HB
                have HO_4 := n0_
                have BK125 := n1_
                have HB := n2_
                clear n0_ n1_ n2_
                refine start_ (n := 10) (S := fun w' => w'.cell? ⟨gb125, 0, none⟩ = some (.string t121) ∧ w'.cell? ⟨gb125, 1, none⟩ = some (.string t122)) (ds := []) #[false, false, false, false, false, false, false, false, false, false] (by kernel_rfl) rfl rfl ⟨(blk_cell BK125.out 0).trans rfl, (blk_cell BK125.out 1).trans rfl⟩ (fun hHeld => ?_); refine with_tabW block_Read.tab9 block_Read.bits9 (fun HT_ HW_ => ?_)
                generalize w25.drew = w26 at HO_4 BK125 HB hHeld ⊢
                refine pure_ (i := 0) (N := some 34) (v := ?_) (a' := ?_) #[true, false, false, false, false, false, false, false, false, false] rfl rfl (any_of HT_.out (by kernel_rfl)) (fun _ _ _ h => h) (Or.inl ⟨by rfl, ?_⟩) ?_ ?_
                rotate_left
                · intro w'
                  go_simp
                  with_reducible rfl
                rotate_left
                · simp only [Act.put, List.setIfInBounds_toArray, List.set_cons_zero, List.set_cons_succ, i64_w, i32_w]
                  rfl
                refine pure_ (i := 4) (N := some 38) (v := ?_) (a' := ?_) #[true, false, false, false, true, false, false, false, false, false] rfl rfl (any_of HT_.out (by kernel_rfl)) (fun _ _ _ h => h) (Or.inl ⟨by rfl, ?_⟩) ?_ ?_
                rotate_left
                · intro w'
                  go_simp
                  with_reducible rfl
                rotate_left
                · simp only [Act.put, List.setIfInBounds_toArray, List.set_cons_zero, List.set_cons_succ, i64_w, i32_w]
                  rfl
                refine pure_ (i := 5) (N := some 39) (v := ?_) (a' := ?_) #[true, false, false, false, true, true, false, false, false, false] rfl rfl (any_of HT_.out (by kernel_rfl)) (fun _ _ _ h => h) (Or.inl ⟨by rfl, ?_⟩) ?_ ?_
                rotate_left
                · intro w'
                  go_simp
                  with_reducible rfl
                rotate_left
                · simp only [Act.put, List.setIfInBounds_toArray, List.set_cons_zero, List.set_cons_succ, i64_w, i32_w]
                  rfl
                refine take_ (i := 1) (N := some 35) (v := ?_) (a' := ?_) #[true, true, false, false, true, true, false, false, false, false] rfl rfl (take_ofW HT_.out HW_.out (by kernel_rfl)) (fun _ _ _ h => h) (Or.inl ⟨by rfl, ?_⟩) hHeld ?_ ?_
                rotate_left
                · rintro w' ⟨s0, s1⟩
                  go_simp
                  with_reducible rfl
                rotate_left
                · simp only [Act.put, List.setIfInBounds_toArray, List.set_cons_zero, List.set_cons_succ, i64_w, i32_w]
                  rfl
                refine take_ (i := 6) (N := some 40) (v := ?_) (a' := ?_) #[true, true, false, false, true, true, true, false, false, false] rfl rfl (take_ofW HT_.out HW_.out (by kernel_rfl)) (fun _ _ _ h => h) (Or.inl ⟨by rfl, ?_⟩) hHeld ?_ ?_
                rotate_left
                · rintro w' ⟨s0, s1⟩
                  go_simp
                  with_reducible rfl
                rotate_left
                · simp only [Act.put, List.setIfInBounds_toArray, List.set_cons_zero, List.set_cons_succ, i64_w, i32_w]
                  rfl
                refine one_ (i := 2) (N := some 36) #[true, true, true, false, true, true, true, false, false, false] rfl rfl (one_of HT_.out (by kernel_rfl)) (by decide) (fun K hK => ?_)
                refine value_ (w1 := ?_) (v := ?_) (by rfl) rfl ?_ ?_
                rotate_left 2
                · go_simp
                  constructor
                  · rfl
                  · rfl
                refine hK.out _ _ ⟨(blk_cell (blk_alloc BK125.out _) 0).trans rfl, (blk_cell (blk_alloc BK125.out _) 1).trans rfl⟩ (fun hHeld => ?_)
                clear hK K
                refine norm_ (a' := ?_) ?_ ?_
                rotate_left
                · show Act.put _ (some 36) _ = _
                  simp only [Act.put, List.setIfInBounds_toArray, List.set_cons_zero, List.set_cons_succ, i64_w, i32_w]
                  rfl
                refine one_ (i := 3) (N := some 37) #[true, true, true, true, true, true, true, false, false, false] rfl rfl (one_of HT_.out (by kernel_rfl)) (by decide) (fun K hK => ?_)
                refine Kd.R_append_step k43 (w0 := w) w.heap.size (by rfl) (.tmp 34) (.tmp 36) 23 43 (.agg #[(.string ⟨#[]⟩), (.string ⟨#[]⟩)]) 32 rfl Try.underlying23 info43 rfl (by decide) (by omega) (.slice Ao24 x4_1.length co24) x4_1 (⟨t121, t122⟩ : S43) [.string t121, .string t122] (fun k_ => k_ ≠ gb125) (fun _ => False) rfl rfl ?aP (fun _ hk => hk.elim) ?aF ?aO ?aB ?aS ?aL ?_
                (case aP => exact k43_mkM _ _ _ (⟨t121, t122⟩ : S43))
                (case aB => exact (by repeat (first | (with_reducible first | exact HB.out | apply below_alloc | apply pw_below_drewN | apply below_drew1 | refine below_set ?_ GE125.out) | exact HB.out)))
                (case aF => exact (fun k_ hk => Kd.freshB (g := gb125) (o := .cells #[.string t121, .string t122] 43 (0, 0)) (by (with_reducible repeat (first | refine blk_drewN ?_ _ | refine blk_drew ?_ | refine blk_alloc ?_ _)); exact BK125.out) k_ hk))
                (case aO => exact (by (with_reducible repeat (first | apply Kd.R_alloc | apply Kd.R_drewN | apply Kd.R_drew)); exact HO_4.out))
                (case aS => exact (below_size (by repeat (first | (with_reducible first | exact HB.out | apply below_alloc | apply pw_below_drewN | apply below_drew1 | refine below_set ?_ GE125.out) | exact HB.out))))
                (case aL => have := LMc20.out; omega)
                intro v130 w27 ho hb hg hat
                rw [← Ny129.out] at ho
                have n0_ := Aside0.mk (blk_grown (g := gb125) (o := .cells #[.string t121, .string t122] 43 (0, 0)) (by (with_reducible repeat (first | refine blk_drewN ?_ _ | refine blk_drew ?_ | refine blk_alloc ?_ _)); exact BK125.out) hg (Kd.R_away HO_4.out (fun _ hk => hk)))
                have n1_ := Aside0.mk (hb)
                have n2_ := Aside0.mk (ho)
                clear BK125
                clear HB
                clear HO_4
                have BK125 := n0_
                have HB := n1_
                have HO131 := n2_
                clear n0_ n1_ n2_
                clear ho hb hg hat
                refine hK.out _ _ ⟨(blk_cell BK125.out 0).trans rfl, (blk_cell BK125.out 1).trans rfl⟩ (fun hHeld => ?_)
                clear hK K
                refine norm_ (a' := ?_) ?_ ?_
                rotate_left
                · show Act.put _ (some 37) _ = _
                  simp only [Act.put, List.setIfInBounds_toArray, List.set_cons_zero, List.set_cons_succ, i64_w, i32_w]
                  rfl
                refine pure_ (i := 7) (N := some 4) (v := ?_) (a' := ?_) #[true, true, true, true, true, true, true, true, false, false] rfl rfl (any_of HT_.out (by kernel_rfl)) (fun _ _ _ h => h) (Or.inl ⟨by rfl, ?_⟩) ?_ ?_
                rotate_left
                · intro w'
                  go_simp
                  with_reducible rfl
                rotate_left
                · simp only [Act.put, List.setIfInBounds_toArray, List.set_cons_zero, List.set_cons_succ, i64_w, i32_w]
                  rfl
                refine pure_ (i := 8) (N := some 0) (v := ?_) (a' := ?_) #[true, true, true, true, true, true, true, true, true, false] rfl rfl (any_of HT_.out (by kernel_rfl)) (fun _ _ _ h => h) (Or.inl ⟨by rfl, ?_⟩) ?_ ?_
                rotate_left
                · intro w'
                  go_simp
                  with_reducible rfl
                rotate_left
                · simp only [Act.put, List.setIfInBounds_toArray, List.set_cons_zero, List.set_cons_succ, i64_w, i32_w]
                  rfl
                refine pure_ (i := 9) (N := some 5) (v := ?_) (a' := ?_) #[true, true, true, true, true, true, true, true, true, true] rfl rfl (any_of HT_.out (by kernel_rfl)) (fun _ _ _ h => h) (Or.inl ⟨by rfl, ?_⟩) ?_ ?_
                rotate_left
                · intro w'
                  go_simp
                  with_reducible rfl
                rotate_left
                · simp only [Act.put, List.setIfInBounds_toArray, List.set_cons_zero, List.set_cons_succ, i64_w, i32_w]
                  rfl
                refine done_ (done_of HT_.out (by kernel_rfl)) ?_
                try go_wp2
                go_roundg k1
                case measure => have := HK1.out; omega
                case rel => exact ⟨(t123), (y129), (t121), (by first | rfl | (simp; done) | (simp [*]; done)), (by first | rfl | (simp; done) | (simp [*]; done)), H', ⟨by have := HK1.out; omega⟩, ⟨by (with_reducible repeat (first | apply Kd.R_alloc | apply Kd.R_drewN | apply Kd.R_drew)); exact Kd.R_mono HO131.out (fun _ hk => trivial)⟩, ⟨by repeat (first | (with_reducible first | exact HB.out | apply below_alloc | apply pw_below_drewN | apply below_drew1 | refine below_set ?_ GE125.out) | exact HB.out)⟩⟩
              · rw [if_neg c20] at H
                exact absurd H (by simp)
          · replace c5 := Bool.eq_false_iff.mpr c5
            subst c5
            have H1 : (some (([] : List (S43)), 8)) = some (r1, r2) := by rw [if_neg (show ¬ (false = true) by decide)] at H; exact H
            clear H
            have H := H1
            clear H1
            simp only [Option.some.injEq, Prod.mk.injEq] at H
            obtain ⟨rfl, rfl⟩ := H
            go_wp2_with (first | ((with_reducible refine gate_callee (f := 27) rfl ?_); refine goesL_ (some 17) rfl rfl Try.func27 (by kernel_rfl) rfl #[.string x0_1, .string x5_1] rfl (by (try simp only [List.map_toArray, List.map_cons, List.map_nil]); first | done | rfl | (simp only [List.length_drop, List.length_take]; rfl)) ?_; (with_reducible refine (block_next.calls k1 x0_1 x5_1 t121 t122 t123 false _ A4.out).mono ?_); rintro e w28 ⟨rfl, hb⟩; refine ⟨_, rfl, ?_⟩; have n0_ := Aside0.mk (Kd.R_below (by (with_reducible repeat (first | apply Kd.R_alloc | apply Kd.R_drewN | apply Kd.R_drew)); exact HO_4.out) hb); have n1_ := Aside0.mk (below_step (by repeat (first | (with_reducible first | exact HB.out | apply below_alloc | apply pw_below_drewN | apply below_drew1) | exact HB.out)) hb); clear HO_4; clear HB; have HO_4 := n0_; have HB := n1_; clear n0_ n1_; (try clear hb); (try clear hb2); (try clear hk); (try clear hi)) | ((with_reducible refine gate_dst (N := 6) rfl ?_); (try (refine gate_guard (by rfl) ?_; dsimp only)); refine box_event ?hg (N := 6) ?hd (cs := #[.string (⟨#[]⟩ : ByteArray), .string (⟨#[]⟩ : ByteArray)]) (t := 43) ?hr ?_; (case hd => rfl); (case hg => rfl); (case hr => first | (go_simp; done) | (go_simp; rfl)); intro gb125 hg w29 hbox hb; have n0_ := Aside0.mk (Kd.R_below (Kd.R_elderB (by (with_reducible repeat (first | apply Kd.R_alloc | apply Kd.R_drewN | apply Kd.R_drew)); exact HO_4.out) gb125 (Nat.le_of_eq hg.symm)) hb); have n1_ := Aside0.mk (below_step (by repeat (first | (with_reducible first | exact HB.out | apply below_alloc | apply pw_below_drewN | apply below_drew1) | exact HB.out)) hb); have n2_ := Aside0.mk (hbox); have n3_ := Aside0.mk ((by rw [hg]; exact (below_size (by repeat (first | (with_reducible first | exact HB.out | apply below_alloc | apply pw_below_drewN | apply below_drew1) | exact HB.out))) : w.heap.size ≤ gb125)); have n4_ := Aside0.mk ((by rw [hg]; exact (below_size (by repeat (first | (with_reducible first | exact HB.out | apply below_alloc | apply pw_below_drewN | apply below_drew1) | exact HB.out))) : w.heap.size ≤ gb125)); clear HO_4; clear HB; have HO_4 := n0_; have HB := n1_; have BK125 := n2_; have GW125 := n3_; have GE125 := n4_; clear n0_ n1_ n2_ n3_ n4_; clear hb hbox hg; have hcz30_0 : w29.cell? ⟨gb125, 0, none⟩ = some (.string (⟨#[]⟩ : ByteArray)) := (blk_cell BK125.out 0).trans rfl; have hcz30_1 : w29.cell? ⟨gb125, 1, none⟩ = some (.string (⟨#[]⟩ : ByteArray)) := (blk_cell BK125.out 1).trans rfl; have hfz30_0 := blk_frozen BK125.out 0; have hfz30_1 := blk_frozen BK125.out 1))
            all_goals go_ret2
            all_goals exact ⟨_, by first | rfl | (simp [errW_none, errW_some] <;> rfl) | (simp [*, errW_none, errW_some] <;> rfl), by first | exact Kd.R_nil _ _ _ _ _ | exact Kd.N_nil _ _ _ _ _ | exact Kd.V_nil _ _ _ _ _ | exact Kd.Q_nil _ _ _ _ _ | exact Kd.S_nil _ _ _ _ _, by repeat (first | (with_reducible first | exact HB.out | apply below_alloc | apply pw_below_drewN | apply below_drew1 | refine below_set ?_ GE125.out) | exact HB.out)⟩
theorem size_f (n : Int) (h0 : 0 ≤ n) (h1 : n < 18446744073709551616) : varint_Size.f n = some (sizeP n) := by
  unfold varint_Size.f sizeP varint_width.f
  split
  · rfl
  · split
    · rfl
    · split
      · rfl
      · rw [if_pos ⟨h0, h1⟩]
        have := widthP_range n
        simp only [Option.bind_some]
        rw [show wrap64 (widthP n + 1) = widthP n + 1 from by unfold wrap64; omega]
theorem arr_row (w : World) (c : Int) : Kd.R (Kd.int .u8) 83 (w.alloc (.cells #[.int .u8 c, .int .u8 0, .int .u8 0, .int .u8 0, .int .u8 0, .int .u8 0, .int .u8 0, .int .u8 0, .int .u8 0] 83)) w.heap.size (fun _ => True) (.slice (some ⟨w.heap.size, 0, none⟩) 9 9) [c, 0, 0, 0, 0, 0, 0, 0, 0] :=
  Kd.R_of_own (by
    have h := World.ownsRow_lit (base := w.heap.size) (e := 83) (size := 1) w #[.int .u8 c, .int .u8 0, .int .u8 0, .int .u8 0, .int .u8 0, .int .u8 0, .int .u8 0, .int .u8 0, .int .u8 0] 9 (Nat.le_refl _) (by decide) (by simp)
    exact h) (fun _ _ => trivial)
theorem own_nums {e : Nat} {W : World} {base : Nat} {ok : Nat → Prop} {v : Value} {l : List Int} (h : Kd.R (Kd.int .u8) e W base ok v l) : W.ownsRow base e 1 v l.length (nums .u8 l) := Kd.own_of_R h
structure Fill (c x0 x : Int) (m k : Nat) (xs : List Int) : Prop where
  len : xs.length = 9
  lt : m < k
  k9 : k ≤ 9
  head : xs.take 1 = [c]
  rest : (xs.take k).drop (m + 1) = beL x0 (k - 1 - m)
  left : x = x0 / 256 ^ (k - 1 - m)
theorem Fill.step {c x0 x : Int} {m k : Nat} {xs : List Int} (h : Fill c x0 x (m + 1) k xs) : Fill c x0 (x / 256) m k (xs.set (m + 1) (x % 256)) := by
  have h1 := h.len
  have h2 := h.lt
  have h3 := h.k9
  have e : k - 1 - m = (k - 1 - (m + 1)) + 1 := by omega
  refine ⟨by rw [List.length_set, h1], by omega, h3, ?_, ?_, ?_⟩
  · rw [← h.head, List.take_set_of_le (by omega)]
  · rw [e, beL_succ, ← h.left, ← h.rest]
    rw [List.take_set, List.drop_eq_getElem_cons (by simp; omega), List.getElem_set_self]
    rw [List.drop_set_of_lt (by omega)]
  · rw [e, h.left, Int.ediv_ediv_of_nonneg (Int.pow_nonneg (by decide)), Int.pow_succ]
theorem Fill.out {c x0 x : Int} {k : Nat} {xs : List Int} (h : Fill c x0 x 0 k xs) : xs.take k = c :: beL x0 (k - 1) := by
  have h1 := h.len
  have h2 := h.lt
  have h3 := h.rest
  rw [Nat.sub_zero, Nat.zero_add] at h3
  rw [← h3]
  have h4 := h.head
  obtain ⟨y, ys, rfl⟩ : ∃ y ys, xs = y :: ys := List.exists_cons_of_length_pos (by omega)
  simp only [List.take_succ_cons, List.take_zero, List.cons.injEq, and_true] at h4
  subst h4
  obtain ⟨k, rfl⟩ : ∃ j, k = j + 1 := ⟨k - 1, by omega⟩
  simp
theorem Fill.start (c x0 : Int) (k : Nat) (h1 : 0 < k) (h9 : k ≤ 9) : Fill c x0 x0 (k - 1) k [c, 0, 0, 0, 0, 0, 0, 0, 0] := by
  refine ⟨rfl, by omega, h9, rfl, ?_, ?_⟩
  · rw [show k - 1 - (k - 1) = 0 by omega, show k - 1 + 1 = k by omega, List.drop_of_length_le (by simp; omega)]; rfl
  · rw [show k - 1 - (k - 1) = 0 by omega]; simp
set_option maxHeartbeats 1600000 in
theorem put_one (a0 : Int) (w : World) (h0 : 0 ≤ a0) (h1 : a0 ≤ 240) :
    Calls Try.prog 42 #[.int .u64 a0] w fun e w' => e = .returned (.string (putP a0)) ∧ Below w.heap.size w w' := by
  have hs := size_f a0 h0 (by omega)
  have hsz : sizeP a0 = 1 := by unfold sizeP; rw [if_pos h1]
  rw [hsz] at hs
  have hfin : putP a0 = strOfNums [a0] := by
    unfold putP putL
    rw [if_pos h1]
  have HS := Aside0.mk hs
  have HF := Lib.hid hfin
  have hstr : ∀ w1 : World, (convert 63 9 (.slice (some ⟨w1.heap.size, 0, none⟩) 1 9)).run Try.prog (w1.alloc (.cells #[.int .u8 a0, .int .u8 0, .int .u8 0, .int .u8 0, .int .u8 0, .int .u8 0, .int .u8 0, .int .u8 0, .int .u8 0] 83)) = .ok (.string (putP a0)) (w1.alloc (.cells #[.int .u8 a0, .int .u8 0, .int .u8 0, .int .u8 0, .int .u8 0, .int .u8 0, .int .u8 0, .int .u8 0, .int .u8 0] 83)) := by
    intro w1
    have hown := own_nums (Kd.R_take (arr_row w1 a0) (m := 1) (by simp))
    rw [hfin]
    exact own_string (P := Try.prog) (src := 63) (dst := 9) Try.underlying63 Try.underlying5 Try.underlying9 hown
  clear hs hsz hfin
  go_enter Try.func42, Try.ntmps42
  go_wp2_with (first | (go_at_call 46; (with_reducible refine (varint_Size.calls a0 _ _ HS.out).mono ?_); rintro e w1 ⟨rfl, hd⟩; have HD := Aside0.mk hd.below; clear hd))
  go_ret
  exact ⟨rfl, below_then HD.out HD.out.size (below_alloc (Below.refl _ _) _)⟩
set_option maxHeartbeats 3200000 in
theorem put_two (a0 : Int) (w : World) (h1 : 240 < a0) (h2 : a0 ≤ 2287) :
    Calls Try.prog 42 #[.int .u64 a0] w fun e w' => e = .returned (.string (putP a0)) ∧ Below w.heap.size w w' := by
  have h0 : 0 ≤ a0 := by omega
  have hs := size_f a0 h0 (by omega)
  have hsz : sizeP a0 = 2 := by unfold sizeP; rw [if_neg (by omega), if_pos (by omega)]
  rw [hsz] at hs
  have hfin : putP a0 = strOfNums ((241 + (a0 - 240) / 256) :: beL (a0 - 240) 1) := by
    unfold putP putL
    rw [if_neg (by omega), if_pos (by omega)]; rfl
  have HS := Aside0.mk hs
  have HF := Lib.hid hfin
  clear hs hsz hfin
  go_enter Try.func42, Try.ntmps42
  go_wp2_with (first | (go_at_call 46; (with_reducible refine (varint_Size.calls a0 _ _ HS.out).mono ?_); rintro e w1 ⟨rfl, hd⟩; have HD := Aside0.mk hd.below; clear hd))
  have HR := Aside0.mk (arr_row w1 (241 + (a0 - 240) / 256))
  have hst := Fill.start (241 + (a0 - 240) / 256) (a0 - 240) 2 (by omega) (by omega)
  have HST := Aside0.mk hst
  clear hst
  go_loopg [0, 5] 1 (fun kq v0 v5 w' => ∃ (x : Int) (m : Nat) (xs : List Int), v0 = .int .u64 x ∧ v5 = .int .i64 (m : Int) ∧ Aside0 (kq = m) ∧ Aside0 (0 ≤ x ∧ x < 18446744073709551616) ∧ Aside0 (Fill (241 + (a0 - 240) / 256) (a0 - 240) x m 2 xs) ∧ Aside0 (Kd.R (Kd.int .u8) 83 w' w1.heap.size (fun _ => True) (.slice (some ⟨w1.heap.size, 0, none⟩) 9 9) xs) ∧ Aside0 (Below w1.heap.size w1 w'))
  case atStart => exact ⟨a0 - 240, 1, _, rfl, by first | rfl | go_num, ⟨rfl⟩, ⟨by omega⟩, HST, HR, ⟨below_alloc (Below.refl _ _) _⟩⟩
  case round =>
    clear HR HST
    obtain ⟨x, m, xs, rfl, rfl, HK, HX, HFL, HR, HB⟩ := hrel
    have hx0 := HX.out.1
    have hx1 := HX.out.2
    have hmk := HFL.out.lt
    cases m with
    | zero =>
      have hown := own_nums (Kd.R_take HR.out (m := 2) (by rw [HFL.out.len]; omega))
      have hout := HFL.out.out
      have hlen : (xs.take 2).length = 2 := by rw [List.length_take, HFL.out.len]; omega
      rw [hlen] at hown
      have hstr := own_string (P := Try.prog) (src := 63) (dst := 9) Try.underlying63 Try.underlying5 Try.underlying9 hown
      rw [hout] at hstr
      have hstr2 := hstr.trans (by rw [← HF.out])
      clear hstr
      have hstr := hstr2
      clear hstr2 hown hout hlen
      go_wp2
      go_ret
      exact ⟨rfl, below_then HD.out HD.out.size HB.out⟩
    | succ m =>
      obtain ⟨hc, hf⟩ := Kd.R_celln 0 HR.out ((m + 1 : Nat) : Int) (by omega) (by omega)
      rw [Int.toNat_natCast] at hc hf
      obtain ⟨hput, hg⟩ := Kd.R_putg HR.out ((m + 1 : Nat) : Int) (x % 256)
      have hstep := HFL.out.step
      rw [Int.toNat_natCast] at hput hg
      have hbge : w1.heap.size ≤ w1.heap.size := Nat.le_refl _
      have HP := Aside0.mk hput
      have HST := Aside0.mk hstep
      have HB2 : Below w1.heap.size w1 (wr.setCell ⟨w1.heap.size, m + 1, none⟩ (.int .u8 (x % 256))) := HB.out.setCell (Nat.le_refl _) _
      have HBB := Aside0.mk HB2
      clear hput hg hstep HB2 hbge
      have hq : Kd.R (Kd.int .u8) 83 wr w1.heap.size (fun _ => True) (.slice (some ⟨w1.heap.size, 0, none⟩) 9 9) xs := HR.out
      clear hq
      have hm8 : (m : Int) + 1 < 9 := by omega
      go_wp2
      go_roundg m
      case measure => have := HK.out; omega
      case rel => exact ⟨_, m, _, rfl, rfl, ⟨rfl⟩, ⟨by omega⟩, HST, HP, HBB⟩
set_option maxHeartbeats 3200000 in
theorem put_three (a0 : Int) (w : World) (h1 : 2287 < a0) (h2 : a0 ≤ 67823) :
    Calls Try.prog 42 #[.int .u64 a0] w fun e w' => e = .returned (.string (putP a0)) ∧ Below w.heap.size w w' := by
  have h0 : 0 ≤ a0 := by omega
  have hs := size_f a0 h0 (by omega)
  have hsz : sizeP a0 = 3 := by unfold sizeP; rw [if_neg (by omega), if_neg (by omega), if_pos (by omega)]
  rw [hsz] at hs
  have hfin : putP a0 = strOfNums (249 :: beL (a0 - 2288) 2) := by
    unfold putP putL
    rw [if_neg (by omega), if_neg (by omega), if_pos (by omega)]
  have HS := Aside0.mk hs
  have HF := Lib.hid hfin
  clear hs hsz hfin
  go_enter Try.func42, Try.ntmps42
  go_wp2_with (first | (go_at_call 46; (with_reducible refine (varint_Size.calls a0 _ _ HS.out).mono ?_); rintro e w1 ⟨rfl, hd⟩; have HD := Aside0.mk hd.below; clear hd))
  have HR := Aside0.mk (arr_row w1 (249))
  have hst := Fill.start (249) (a0 - 2288) 3 (by omega) (by omega)
  have HST := Aside0.mk hst
  clear hst
  go_loopg [0, 5] 2 (fun kq v0 v5 w' => ∃ (x : Int) (m : Nat) (xs : List Int), v0 = .int .u64 x ∧ v5 = .int .i64 (m : Int) ∧ Aside0 (kq = m) ∧ Aside0 (0 ≤ x ∧ x < 18446744073709551616) ∧ Aside0 (Fill (249) (a0 - 2288) x m 3 xs) ∧ Aside0 (Kd.R (Kd.int .u8) 83 w' w1.heap.size (fun _ => True) (.slice (some ⟨w1.heap.size, 0, none⟩) 9 9) xs) ∧ Aside0 (Below w1.heap.size w1 w'))
  case atStart => exact ⟨a0 - 2288, 2, _, rfl, by first | rfl | go_num, ⟨rfl⟩, ⟨by omega⟩, HST, HR, ⟨below_alloc (Below.refl _ _) _⟩⟩
  case round =>
    clear HR HST
    obtain ⟨x, m, xs, rfl, rfl, HK, HX, HFL, HR, HB⟩ := hrel
    have hx0 := HX.out.1
    have hx1 := HX.out.2
    have hmk := HFL.out.lt
    cases m with
    | zero =>
      have hown := own_nums (Kd.R_take HR.out (m := 3) (by rw [HFL.out.len]; omega))
      have hout := HFL.out.out
      have hlen : (xs.take 3).length = 3 := by rw [List.length_take, HFL.out.len]; omega
      rw [hlen] at hown
      have hstr := own_string (P := Try.prog) (src := 63) (dst := 9) Try.underlying63 Try.underlying5 Try.underlying9 hown
      rw [hout] at hstr
      have hstr2 := hstr.trans (by rw [← HF.out])
      clear hstr
      have hstr := hstr2
      clear hstr2 hown hout hlen
      go_wp2
      go_ret
      exact ⟨rfl, below_then HD.out HD.out.size HB.out⟩
    | succ m =>
      obtain ⟨hc, hf⟩ := Kd.R_celln 0 HR.out ((m + 1 : Nat) : Int) (by omega) (by omega)
      rw [Int.toNat_natCast] at hc hf
      obtain ⟨hput, hg⟩ := Kd.R_putg HR.out ((m + 1 : Nat) : Int) (x % 256)
      have hstep := HFL.out.step
      rw [Int.toNat_natCast] at hput hg
      have hbge : w1.heap.size ≤ w1.heap.size := Nat.le_refl _
      have HP := Aside0.mk hput
      have HST := Aside0.mk hstep
      have HB2 : Below w1.heap.size w1 (wr.setCell ⟨w1.heap.size, m + 1, none⟩ (.int .u8 (x % 256))) := HB.out.setCell (Nat.le_refl _) _
      have HBB := Aside0.mk HB2
      clear hput hg hstep HB2 hbge
      have hq : Kd.R (Kd.int .u8) 83 wr w1.heap.size (fun _ => True) (.slice (some ⟨w1.heap.size, 0, none⟩) 9 9) xs := HR.out
      clear hq
      have hm8 : (m : Int) + 1 < 9 := by omega
      go_wp2
      go_roundg m
      case measure => have := HK.out; omega
      case rel => exact ⟨_, m, _, rfl, rfl, ⟨rfl⟩, ⟨by omega⟩, HST, HP, HBB⟩
set_option maxHeartbeats 3200000 in
theorem put_more (a0 : Int) (w : World) (h0 : 0 ≤ a0) (h1 : 67823 < a0) (h2 : a0 < 18446744073709551616) :
    Calls Try.prog 42 #[.int .u64 a0] w fun e w' => e = .returned (.string (putP a0)) ∧ Below w.heap.size w w' := by
  have hs := size_f a0 h0 h2
  have hsz : sizeP a0 = widthP a0 + 1 := by unfold sizeP; rw [if_neg (by omega), if_neg (by omega), if_neg (by omega)]
  have hw := widthP_range a0
  rw [hsz] at hs
  obtain ⟨W, hW⟩ : ∃ W : Nat, widthP a0 = W := ⟨(widthP a0).toNat, by omega⟩
  have hfin : putP a0 = strOfNums ((247 + (W : Int)) :: beL a0 W) := by
    unfold putP putL
    rw [if_neg (by omega), if_neg (by omega), if_neg (by omega), hW, Int.toNat_natCast]
  rw [hW] at hs hw
  have HS := Aside0.mk hs
  have HF := Lib.hid hfin
  have e1 : ((W : Int) + 1 == 1) = false := by simp; omega
  have e2 : ((W : Int) + 1 == 2) = false := by simp; omega
  have e3 : ((W : Int) + 1 == 3) = false := by simp; omega
  have hw1 := hw.1
  have hw2 := hw.2
  clear hs hsz hW hfin hw
  go_enter Try.func42, Try.ntmps42
  go_wp2_with (first | (go_at_call 46; (with_reducible refine (varint_Size.calls a0 _ _ HS.out).mono ?_); rintro e w1 ⟨rfl, hd⟩; have HD := Aside0.mk hd.below; clear hd))
  have HR := Aside0.mk (arr_row w1 (249 + ((W : Int) + 1) - 3))
  have hst := Fill.start (249 + ((W : Int) + 1) - 3) a0 (W + 1) (by omega) (by omega)
  rw [Nat.add_sub_cancel] at hst
  have HST := Aside0.mk hst
  clear hst
  go_loopg [0, 5] W (fun kq v0 v5 w' => ∃ (x : Int) (m : Nat) (xs : List Int), v0 = .int .u64 x ∧ v5 = .int .i64 (m : Int) ∧ Aside0 (kq = m) ∧ Aside0 (0 ≤ x ∧ x < 18446744073709551616) ∧ Aside0 (Fill (249 + ((W : Int) + 1) - 3) a0 x m (W + 1) xs) ∧ Aside0 (Kd.R (Kd.int .u8) 83 w' w1.heap.size (fun _ => True) (.slice (some ⟨w1.heap.size, 0, none⟩) 9 9) xs) ∧ Aside0 (Below w1.heap.size w1 w'))
  case atStart => exact ⟨a0, W, _, rfl, by first | rfl | go_num, ⟨rfl⟩, ⟨h0, h2⟩, HST, HR, ⟨below_alloc (Below.refl _ _) _⟩⟩
  case round =>
    clear HR HST
    obtain ⟨x, m, xs, rfl, rfl, HK, HX, HFL, HR, HB⟩ := hrel
    have hx0 := HX.out.1
    have hx1 := HX.out.2
    have hmk := HFL.out.lt
    cases m with
    | zero =>
      have hown := own_nums (Kd.R_take HR.out (m := W + 1) (by rw [HFL.out.len]; omega))
      have hout := HFL.out.out
      rw [Nat.add_sub_cancel] at hout
      have hlen : (xs.take (W + 1)).length = W + 1 := by rw [List.length_take, HFL.out.len]; omega
      rw [hlen] at hown
      have hstr := own_string (P := Try.prog) (src := 63) (dst := 9) Try.underlying63 Try.underlying5 Try.underlying9 hown
      rw [hout] at hstr
      have e249 : 249 + ((W : Int) + 1) - 3 = 247 + (W : Int) := by omega
      rw [e249, ← HF.out] at hstr
      clear hown hout hlen e249
      have hal : Try.prog.arrayLen 83 = 9 := by kernel_rfl
      have hsl : ∀ Z : World, (Instr.sliceAt 83 (.pointer (some ⟨w1.heap.size, 0, none⟩)) none (some (.int .i64 ((W : Int) + 1))) none).run Try.prog Z = .ok (.slice (some ⟨w1.heap.size, 0, none⟩) (W + 1) 9) Z := by
        intro Z
        rw [run_sliceAt_array_h (P := Try.prog) (h := (W : Int) + 1) (ht := Try.underlying83) (h0 := by omega) (h2 := by rw [hal]; omega), hal]
        rfl
      go_wp2
      go_ret
      exact ⟨rfl, below_then HD.out HD.out.size HB.out⟩
    | succ m =>
      obtain ⟨hc, hf⟩ := Kd.R_celln 0 HR.out ((m + 1 : Nat) : Int) (by omega) (by omega)
      rw [Int.toNat_natCast] at hc hf
      obtain ⟨hput, hg⟩ := Kd.R_putg HR.out ((m + 1 : Nat) : Int) (x % 256)
      have hstep := HFL.out.step
      rw [Int.toNat_natCast] at hput hg
      have hbge : w1.heap.size ≤ w1.heap.size := Nat.le_refl _
      have HP := Aside0.mk hput
      have HST := Aside0.mk hstep
      have HB2 : Below w1.heap.size w1 (wr.setCell ⟨w1.heap.size, m + 1, none⟩ (.int .u8 (x % 256))) := HB.out.setCell (Nat.le_refl _) _
      have HBB := Aside0.mk HB2
      clear hput hg hstep HB2 hbge
      have hq : Kd.R (Kd.int .u8) 83 wr w1.heap.size (fun _ => True) (.slice (some ⟨w1.heap.size, 0, none⟩) 9 9) xs := HR.out
      clear hq
      have hm8 : (m : Int) + 1 < 9 := by omega
      go_wp2
      go_roundg m
      case measure => have := HK.out; omega
      case rel => exact ⟨_, m, _, rfl, rfl, ⟨rfl⟩, ⟨by omega⟩, HST, HP, HBB⟩
def varint_Put.f (a0 : Int) : Option ByteArray := if 0 ≤ a0 ∧ a0 < 18446744073709551616 then some (putP a0) else none
theorem varint_Put.calls (a0 : Int) (r : ByteArray) (w : World) (h : varint_Put.f a0 = some r) :
    Calls Try.prog 42 #[.int .u64 a0] w fun e w' => e = .returned (.string r) ∧ Below w.heap.size w w' := by
  unfold varint_Put.f at h
  split at h
  case isFalse => simp at h
  case isTrue hh =>
  obtain rfl := Option.some.inj h
  by_cases h1 : a0 ≤ 240
  · exact put_one a0 w hh.1 h1
  · by_cases h2 : a0 ≤ 2287
    · exact put_two a0 w (by omega) h2
    · by_cases h3 : a0 ≤ 67823
      · exact put_three a0 w (by omega) h3
      · exact put_more a0 w hh.1 (by omega) hh.2
theorem put_f (n : Int) (h0 : 0 ≤ n) (h1 : n < 18446744073709551616) : varint_Put.f n = some (putP n) := by
  unfold varint_Put.f; rw [if_pos ⟨h0, h1⟩]
theorem putP_size (n : Int) : (putP n).size ≤ 9 := by
  unfold putP; rw [strOfNums_size]; exact (putL_len n).2
end Go.Proofs.Ytbhainkcdkgbbaa.P

