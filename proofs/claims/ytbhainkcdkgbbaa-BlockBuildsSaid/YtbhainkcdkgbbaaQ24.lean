import Derived.Test.YtbhainkcdkgbbaaProg
import Derived.Below
import Derived.Deep.Draws
import Derived.Deep.AppendLies
import Derived.Maps.AppendAt
import Derived.OwnWalk
import Derived.Laws.BytesArg
import Derived.Laws.MakeOwn
import Derived.Laws.OwnMore
import Derived.Deep.OwnRows
import Derived.Tactics
import Derived.Lib.ConvBytes
import Derived.Laws.Slices
import Derived.WalkKit
import Derived.KernelRfl
import Derived.RowKit3
import Derived.Deep.LoopGhost
import Derived.Deep.QuietTactic
import Derived.BigQuiet
import Derived.WideLaws
import Derived.Deep.DeepCutAuto
import Derived.Deep.CutBlock
import Derived.Deep.RegionHeld3
import Derived.Laws.Rows
import Derived.Lib.AppendStr
import Derived.ArgAppend
import Derived.Laws.IdiomCopy
import Derived.OrdersHeld
import Derived.Laws.BitsLemmas
import Derived.RowKit
import Derived.Lib.Hide
import Derived.Laws.ShiftsVar
import Derived.Laws.ShiftsVarLaws
import Derived.Laws.BitsAllLaws
import Derived.Shelf.Strings.Builder1
import Derived.Laws.Strings
import Derived.Laws.StructEq
import Derived.WalkSpells
import Derived.Outline
import Derived.RegionTactic
import Derived.Deep.RegionWith
import Derived.StillTailTactics
import Derived.Test.YtbhainkcdkgbbaaQ0
import Derived.Test.YtbhainkcdkgbbaaQ1
import Derived.Test.YtbhainkcdkgbbaaQ6
import Derived.Test.YtbhainkcdkgbbaaQ15
import Derived.Test.YtbhainkcdkgbbaaQ16
namespace Go.Proofs.Ytbhainkcdkgbbaa.P
end Go.Proofs.Ytbhainkcdkgbbaa.P
namespace Go.Proofs.Ytbhainkcdkgbbaa.Sl
end Go.Proofs.Ytbhainkcdkgbbaa.Sl
namespace Go.Proofs.Ytbhainkcdkgbbaa.Vp
end Go.Proofs.Ytbhainkcdkgbbaa.Vp
namespace Go.Proofs.YtbhainkcdkgbbaaW.PrintLast
end Go.Proofs.YtbhainkcdkgbbaaW.PrintLast
namespace Go.Proofs.YtbhainkcdkgbbaaW.PrintMore
end Go.Proofs.YtbhainkcdkgbbaaW.PrintMore
namespace Go.Proofs.YtbhainkcdkgbbaaW.PrintWords
end Go.Proofs.YtbhainkcdkgbbaaW.PrintWords
section
namespace Go.Proofs.Ytbhainkcdkgbbaa.P
open Go.RowKit Go.Proofs.Ytbhainkcdkgbbaa.Vp Go.Proofs.Ytbhainkcdkgbbaa.Sl Go.Proofs.YtbhainkcdkgbbaaW.PrintWords Go.Proofs.YtbhainkcdkgbbaaW.PrintLast Go.Proofs.YtbhainkcdkgbbaaW.PrintMore
attribute [local go_sem] str_gtr str_leq str_geq max2_int min2_int max_two min_two max_three min_three max_four min_four
set_option linter.unusedVariables false
set_option linter.unusedSimpArgs false
def moultref3_bytes.f : Nat → Int → Int → Option (ByteArray)
  | 0, _, _ => none
  | k + 1, a0, a1 => if a1 = 0 then (some (⟨#[]⟩ : ByteArray)) else ((moultref3_bytes.f k (IntKind.u64.wrap (Int.tdiv a0 256)) (wrap64 (a1 - 1))).bind fun t159 => ((some (([(Int.tmod a0 256) % 256] : List Int) : List Int)).bind fun y160 => (if t159.size + (strOfNums y160).size ≤ 9223372036854775807 then (some (t159 ++ (strOfNums y160))) else (none))))
theorem moultref3_bytes.mono_l : ∀ k, (∀ y0 y1, LeO (moultref3_bytes.f k y0 y1) (moultref3_bytes.f (k + 1) y0 y1))
  | 0 => fun _ _ r h => by simp [moultref3_bytes.f] at h
  | k + 1 => by
    have ih0 := moultref3_bytes.mono_l k
    · intro y0 y1
      unfold moultref3_bytes.f
      repeat' first
      | (with_reducible exact ih0 _ _)
      | (with_reducible exact LeO.refl _)
      | (with_reducible exact LeO.none _)
      | (with_reducible refine LeO.ite ?_ ?_)
      | (with_reducible refine LeO.bind ?_ (fun _ => ?_))
      | exact ih0 _ _
      | exact LeO.none _
      | refine LeO.ite ?_ ?_
      | refine LeO.bind ?_ (fun _ => ?_)
theorem moultref3_bytes.mono : ∀ a0 a1 k, LeO (moultref3_bytes.f k a0 a1) (moultref3_bytes.f (k + 1) a0 a1) := by
  intro a0 a1 k
  have ih0 := moultref3_bytes.mono_l k
  exact ih0 a0 a1
def moultref3_bytes.T3 : Bool × List (List Nat × List Nat) := (true, [([], []), ([0], [0]), ([], []), ([2], [2]), ([1, 3], [1, 3]), ([], []), ([5], [5]), ([6], [6]), ([7], [7]), ([8], [8]), ([4, 9], [4, 9]), ([10, 4, 0, 1, 2, 3, 4, 5, 6, 7, 8, 9, 10], [10])])
def moultref3_bytes.B3 : List Nat := [0, 1, 0, 4, 15, 0, 32, 96, 224, 480, 1023, 2047]
theorem moultref3_bytes.tab3 : rtab .any (opsOf Try.f48 3) = moultref3_bytes.T3 := by kernel_rfl
theorem moultref3_bytes.bits3 : waitsOk moultref3_bytes.T3.2 moultref3_bytes.B3 = true := by kernel_rfl
set_option maxHeartbeats 8000000 in
set_option maxRecDepth 100000 in
theorem moultref3_bytes.calls (k : Nat) : ∀ (a0 : Int) (a1 : Int) (r : ByteArray) (w : World) (h : moultref3_bytes.f k a0 a1 = some r),
    Calls Try.prog 48 #[.int .u64 a0, .int .i64 a1] w fun e w' => e = .returned (.string r) ∧ Below w.heap.size w w' := by
  induction k using Nat.strongRecOn with
  | _ k ih =>
  intro a0 a1 r w h
  cases k with
  | zero => exact absurd h (by simp [moultref3_bytes.f])
  | succ k =>
  simp only [moultref3_bytes.f] at h
  have HB := Aside0.mk (Below.refl w.heap.size w)
  have H : (if a1 = 0 then (some (⟨#[]⟩ : ByteArray)) else ((moultref3_bytes.f k (IntKind.u64.wrap (Int.tdiv a0 256)) (wrap64 (a1 - 1))).bind fun t159 => ((some (([(Int.tmod a0 256) % 256] : List Int) : List Int)).bind fun y160 => (if t159.size + (strOfNums y160).size ≤ 9223372036854775807 then (some (t159 ++ (strOfNums y160))) else (none))))) = some r := h
  clear h
  by_cases c3 : a1 = 0
  · rw [if_pos c3] at H
    have c3b0 : (a1 == 0) = true := beq_iff_eq.mpr c3
    have c3b1 : (a1 != 0) = false := bne_eq_false_iff_eq.mpr c3
    clear c3
    obtain rfl := Option.some.inj H
    go_enter Try.func48, Try.ntmps48
    go_wp2
    all_goals go_ret
    all_goals exact ⟨by first | rfl | (simp [errW_none, errW_some] <;> rfl) | (simp [*, errW_none, errW_some] <;> rfl), by repeat (first | (with_reducible first | exact HB.out | apply below_alloc | apply pw_below_drewN | apply below_drew1) | exact HB.out)⟩
  · rw [if_neg c3] at H
    have c3b0 : (a1 == 0) = false := beq_eq_false_iff_ne.mpr c3
    have c3b1 : (a1 != 0) = true := bne_iff_ne.mpr c3
    replace H := Option.bind_eq_some_iff.mp H
    obtain ⟨t159, A40, H⟩ := H
    replace H : ((some (([(Int.tmod a0 256) % 256] : List Int) : List Int)).bind fun y160 => (if t159.size + (strOfNums y160).size ≤ 9223372036854775807 then (some (t159 ++ (strOfNums y160))) else (none))) = some r := H
    have A4 := Aside0.mk A40
    clear A40
    obtain ⟨y160, hy160⟩ : ∃ y_ : List Int, y_ = (([(Int.tmod a0 256) % 256] : List Int)) := ⟨_, rfl⟩
    replace H : (if t159.size + (strOfNums y160).size ≤ 9223372036854775807 then (some (t159 ++ (strOfNums y160))) else (none)) = some r := by first | (rw [hy160]; with_reducible exact H) | (have H2_ := (Option.bind_some _ _).symm.trans H; rw [hy160]; with_reducible exact H2_) | (have H2_ := (Option.bind_some _ _).symm.trans H; with_reducible exact H2_) | with_reducible exact H | (rw [hy160]; exact H) | exact H
    have Ny160 := Aside0.mk hy160
    clear hy160
    by_cases c5 : t159.size + (strOfNums y160).size ≤ 9223372036854775807
    · rw [if_pos c5] at H
      have c5b0 := eq_true c5
      have c5b1 : decide (t159.size + (strOfNums y160).size ≤ 9223372036854775807) = true := decide_eq_true c5
      try have c5b2 : (9223372036854775807 < t159.size + (strOfNums y160).size) = False := eq_false (Nat.not_lt.2 c5)
      obtain rfl := Option.some.inj H
      go_enter Try.func48, Try.ntmps48
      try go_wp2
      have n0_ := Aside0.mk (below_drew1 HB.out)
      clear HB
      have HB := n0_
      clear n0_
      refine start_ (n := 12) (S := fun w' => True) (ds := []) #[false, false, false, false, false, false, false, false, false, false, false, false] (by kernel_rfl) rfl rfl trivial (fun hHeld => ?_); refine with_tabW moultref3_bytes.tab3 moultref3_bytes.bits3 (fun HT_ HW_ => ?_)
      generalize w.drew = w6 at HB hHeld ⊢
      refine pure_ (i := 0) (N := some 7) (v := ?_) (a' := ?_) #[true, false, false, false, false, false, false, false, false, false, false, false] rfl rfl (any_of HT_.out (by kernel_rfl)) (fun _ _ _ h => h) (Or.inl ⟨by rfl, ?_⟩) ?_ ?_
      rotate_left
      · intro w'
        go_simp
        with_reducible rfl
      rotate_left
      · simp only [Act.put, List.setIfInBounds_toArray, List.set_cons_zero, List.set_cons_succ, i64_w, i32_w]
        rfl
      refine pure_ (i := 1) (N := some 8) (v := ?_) (a' := ?_) #[true, true, false, false, false, false, false, false, false, false, false, false] rfl rfl (any_of HT_.out (by kernel_rfl)) (fun _ _ _ h => h) (Or.inl ⟨by rfl, ?_⟩) ?_ ?_
      rotate_left
      · intro w'
        go_simp
        with_reducible rfl
      rotate_left
      · simp only [Act.put, List.setIfInBounds_toArray, List.set_cons_zero, List.set_cons_succ, i64_w, i32_w]
        rfl
      refine pure_ (i := 2) (N := some 9) (v := ?_) (a' := ?_) #[true, true, true, false, false, false, false, false, false, false, false, false] rfl rfl (any_of HT_.out (by kernel_rfl)) (fun _ _ _ h => h) (Or.inl ⟨by rfl, ?_⟩) ?_ ?_
      rotate_left
      · intro w'
        go_simp
        with_reducible rfl
      rotate_left
      · simp only [Act.put, List.setIfInBounds_toArray, List.set_cons_zero, List.set_cons_succ, i64_w, i32_w]
        rfl
      refine pure_ (i := 3) (N := some 10) (v := ?_) (a' := ?_) #[true, true, true, true, false, false, false, false, false, false, false, false] rfl rfl (any_of HT_.out (by kernel_rfl)) (fun _ _ _ h => h) (Or.inl ⟨by rfl, ?_⟩) ?_ ?_
      rotate_left
      · intro w'
        go_simp
        with_reducible rfl
      rotate_left
      · simp only [Act.put, List.setIfInBounds_toArray, List.set_cons_zero, List.set_cons_succ, i64_w, i32_w]
        rfl
      refine pure_ (i := 5) (N := some 12) (v := ?_) (a' := ?_) #[true, true, true, true, false, true, false, false, false, false, false, false] rfl rfl (any_of HT_.out (by kernel_rfl)) (fun _ _ _ h => h) (Or.inl ⟨by rfl, ?_⟩) ?_ ?_
      rotate_left
      · intro w'
        go_simp
        with_reducible rfl
      rotate_left
      · simp only [Act.put, List.setIfInBounds_toArray, List.set_cons_zero, List.set_cons_succ, i64_w, i32_w]
        rfl
      refine pure_ (i := 6) (N := some 13) (v := ?_) (a' := ?_) #[true, true, true, true, false, true, true, false, false, false, false, false] rfl rfl (any_of HT_.out (by kernel_rfl)) (fun _ _ _ h => h) (Or.inl ⟨by rfl, ?_⟩) ?_ ?_
      rotate_left
      · intro w'
        go_simp
        with_reducible rfl
      rotate_left
      · simp only [Act.put, List.setIfInBounds_toArray, List.set_cons_zero, List.set_cons_succ, i64_w, i32_w]
        rfl
      refine pure_ (i := 7) (N := some 14) (v := ?_) (a' := ?_) #[true, true, true, true, false, true, true, true, false, false, false, false] rfl rfl (any_of HT_.out (by kernel_rfl)) (fun _ _ _ h => h) (Or.inl ⟨by rfl, ?_⟩) ?_ ?_
      rotate_left
      · intro w'
        go_simp
        with_reducible rfl
      rotate_left
      · simp only [Act.put, List.setIfInBounds_toArray, List.set_cons_zero, List.set_cons_succ, i64_w, i32_w]
        rfl
      refine join_ (σ := Value) 2 #[true, true, true, true, true, true, true, true, true, true, false, false] (fun s_ => [(11, .string t159), (15, s_), (16, .string (strOfNums y160))]) (fun s_ w' => (Kd.R (Kd.int .u8) 5 w' w.heap.size (fun _ => True) s_ y160) ∧ (Below w.heap.size w w')) ?_ ?_
      rotate_left
      · intro hCont
        refine two_ (i := 4) (j := 8) (Ni := some 11) (Nj := some 15) #[true, true, true, true, true, true, true, true, false, false, false, false] #[true, true, true, true, false, true, true, true, true, false, false, false] rfl rfl rfl rfl (two_of HT_.out (by kernel_rfl)) (by decide) (by decide) (fun K hK => ?_) (fun K hK => ?_)
        · skip
          refine goes_ Try.func48 (by kernel_rfl) rfl #[.int .u64 (IntKind.u64.wrap (Int.tdiv a0 256)), .int .i64 (wrap64 (a1 - 1))] (by rfl) rfl rfl (by (try simp only [List.map_toArray, List.map_cons, List.map_nil]); first | done | rfl | (simp only [List.length_drop, List.length_take]; rfl)) ?_
          with_reducible refine (ih k (by omega) (IntKind.u64.wrap (Int.tdiv a0 256)) (wrap64 (a1 - 1)) t159 _ A4.out).mono ?_
          rintro e w7 ⟨rfl, hb⟩
          refine ⟨_, rfl, ?_⟩
          have n0_ := Aside0.mk (below_step (by repeat (first | (with_reducible first | exact HB.out | apply below_alloc | apply pw_below_drewN | apply below_drew1) | exact HB.out)) hb)
          clear HB
          have HB := n0_
          clear n0_
          (try clear hb)
          (try clear hb2)
          (try clear hk)
          (try clear hi)
          refine hK.out _ _ trivial (fun hHeld => ?_)
          clear hK K
          refine norm_ (a' := ?_) ?_ ?_
          rotate_left
          · show Act.put _ (some 11) _ = _
            simp only [Act.put, List.setIfInBounds_toArray, List.set_cons_zero, List.set_cons_succ, i64_w, i32_w]
            rfl
          refine one_ (i := 8) (N := some 15) #[true, true, true, true, true, true, true, true, true, false, false, false] rfl rfl (one_of HT_.out (by kernel_rfl)) (by decide) (fun K hK => ?_)
          refine Kd.R_lit_step (Kd.int .u8) _ 5 ?hg (N := 15) ?hd (xs := ([(Int.tmod a0 256) % 256] : List Int)) (inner := [.int .u8 ((Int.tmod a0 256) % 256)]) (ok := fun _ => True) (okp := fun _ => True) ?hr ?hp (fun _ hk => hk) trivial (Below.refl _ _) (Nat.le_refl _) (by simp) ?_; (case hd => rfl); (case hg => rfl); (case hr => first | (go_simp; done) | (go_simp; rfl)); (case hp => exact (Reps.one (show Kd.M (Kd.int .u8) _ _ _ ((Int.tmod a0 256) % 256) [.int .u8 ((Int.tmod a0 256) % 256)] from rfl) (Reps.none _ _)))
          intro v161 w8 ho9 hb hg_ hnew_
          clear hg_ hnew_
          (first | rw [← Ny160.out] at ho9 | (simp only [Int.reduceToNat] at ho9; rw [← Ny160.out] at ho9))
          have n0_ := Aside0.mk (Kd.R_lower ho9 (below_size (by repeat (first | (with_reducible first | exact HB.out | apply below_alloc | apply pw_below_drewN | apply below_drew1) | exact HB.out))))
          have n1_ := Aside0.mk (below_step (by repeat (first | (with_reducible first | exact HB.out | apply below_alloc | apply pw_below_drewN | apply below_drew1) | exact HB.out)) hb)
          clear HB
          have HO162 := n0_
          have HB := n1_
          clear n0_ n1_
          clear hb ho9
          refine hK.out _ _ trivial (fun hHeld => ?_)
          clear hK K
          refine norm_ (a' := ?_) ?_ ?_
          rotate_left
          · show Act.put _ (some 15) _ = _
            simp only [Act.put, List.setIfInBounds_toArray, List.set_cons_zero, List.set_cons_succ, i64_w, i32_w]
            rfl
          refine one_ (i := 9) (N := some 16) #[true, true, true, true, true, true, true, true, true, true, false, false] rfl rfl (one_of HT_.out (by kernel_rfl)) (by decide) (fun K hK => ?_)
          have hcv10 := own_string (P := Try.prog) Try.underlying63 Try.underlying5 Try.underlying9 (Kd.own_of_R HO162.out); have hcv10n := fun (m_ : Nat) => own_string (P := Try.prog) Try.underlying63 Try.underlying5 Try.underlying9 (Kd.own_of_R (Kd.R_drewN HO162.out m_))
          refine value_ (w1 := ?_) (v := ?_) (by rfl) rfl ?_ ?_
          rotate_left 2
          · go_simp
            constructor
            · rfl
            · rfl
          clear hcv10
          refine hK.out _ _ trivial (fun hHeld => ?_)
          clear hK K
          refine norm_ (a' := ?_) ?_ ?_
          rotate_left
          · show Act.put _ (some 16) _ = _
            simp only [Act.put, List.setIfInBounds_toArray, List.set_cons_zero, List.set_cons_succ, i64_w, i32_w]
            rfl
          exact norm_ (by simp only [putAll, Act.put, List.setIfInBounds_toArray, List.set_cons_zero, List.set_cons_succ]) (hCont (v161) _ ⟨(by (with_reducible repeat (first | apply Kd.R_alloc | apply Kd.R_drewN | apply Kd.R_drew)); exact HO162.out), (by repeat (first | (with_reducible first | exact HB.out | apply below_alloc | apply pw_below_drewN | apply below_drew1) | exact HB.out))⟩)
        · skip
          refine Kd.R_lit_step (Kd.int .u8) _ 5 ?hg (N := 15) ?hd (xs := ([(Int.tmod a0 256) % 256] : List Int)) (inner := [.int .u8 ((Int.tmod a0 256) % 256)]) (ok := fun _ => True) (okp := fun _ => True) ?hr ?hp (fun _ hk => hk) trivial (Below.refl _ _) (Nat.le_refl _) (by simp) ?_; (case hd => rfl); (case hg => rfl); (case hr => first | (go_simp; done) | (go_simp; rfl)); (case hp => exact (Reps.one (show Kd.M (Kd.int .u8) _ _ _ ((Int.tmod a0 256) % 256) [.int .u8 ((Int.tmod a0 256) % 256)] from rfl) (Reps.none _ _)))
          intro v161 w7 ho8 hb hg_ hnew_
          clear hg_ hnew_
          (first | rw [← Ny160.out] at ho8 | (simp only [Int.reduceToNat] at ho8; rw [← Ny160.out] at ho8))
          have n0_ := Aside0.mk (Kd.R_lower ho8 (below_size (by repeat (first | (with_reducible first | exact HB.out | apply below_alloc | apply pw_below_drewN | apply below_drew1) | exact HB.out))))
          have n1_ := Aside0.mk (below_step (by repeat (first | (with_reducible first | exact HB.out | apply below_alloc | apply pw_below_drewN | apply below_drew1) | exact HB.out)) hb)
          clear HB
          have HO162 := n0_
          have HB := n1_
          clear n0_ n1_
          clear hb ho8
          refine hK.out _ _ trivial (fun hHeld => ?_)
          clear hK K
          refine norm_ (a' := ?_) ?_ ?_
          rotate_left
          · show Act.put _ (some 15) _ = _
            simp only [Act.put, List.setIfInBounds_toArray, List.set_cons_zero, List.set_cons_succ, i64_w, i32_w]
            rfl
          refine two_ (i := 4) (j := 9) (Ni := some 11) (Nj := some 16) #[true, true, true, true, true, true, true, true, true, false, false, false] #[true, true, true, true, false, true, true, true, true, true, false, false] rfl rfl rfl rfl (two_of HT_.out (by kernel_rfl)) (by decide) (by decide) (fun K hK => ?_) (fun K hK => ?_)
          · skip
            refine goes_ Try.func48 (by kernel_rfl) rfl #[.int .u64 (IntKind.u64.wrap (Int.tdiv a0 256)), .int .i64 (wrap64 (a1 - 1))] (by rfl) rfl rfl (by (try simp only [List.map_toArray, List.map_cons, List.map_nil]); first | done | rfl | (simp only [List.length_drop, List.length_take]; rfl)) ?_
            with_reducible refine (ih k (by omega) (IntKind.u64.wrap (Int.tdiv a0 256)) (wrap64 (a1 - 1)) t159 _ A4.out).mono ?_
            rintro e w9 ⟨rfl, hb⟩
            refine ⟨_, rfl, ?_⟩
            have n0_ := Aside0.mk (Kd.R_below (by (with_reducible repeat (first | apply Kd.R_alloc | apply Kd.R_drewN | apply Kd.R_drew)); exact HO162.out) hb)
            have n1_ := Aside0.mk (below_step (by repeat (first | (with_reducible first | exact HB.out | apply below_alloc | apply pw_below_drewN | apply below_drew1) | exact HB.out)) hb)
            clear HO162
            clear HB
            have HO162 := n0_
            have HB := n1_
            clear n0_ n1_
            (try clear hb)
            (try clear hb2)
            (try clear hk)
            (try clear hi)
            refine hK.out _ _ trivial (fun hHeld => ?_)
            clear hK K
            refine norm_ (a' := ?_) ?_ ?_
            rotate_left
            · show Act.put _ (some 11) _ = _
              simp only [Act.put, List.setIfInBounds_toArray, List.set_cons_zero, List.set_cons_succ, i64_w, i32_w]
              rfl
            refine one_ (i := 9) (N := some 16) #[true, true, true, true, true, true, true, true, true, true, false, false] rfl rfl (one_of HT_.out (by kernel_rfl)) (by decide) (fun K hK => ?_)
            have hcv10 := own_string (P := Try.prog) Try.underlying63 Try.underlying5 Try.underlying9 (Kd.own_of_R HO162.out); have hcv10n := fun (m_ : Nat) => own_string (P := Try.prog) Try.underlying63 Try.underlying5 Try.underlying9 (Kd.own_of_R (Kd.R_drewN HO162.out m_))
            refine value_ (w1 := ?_) (v := ?_) (by rfl) rfl ?_ ?_
            rotate_left 2
            · go_simp
              constructor
              · rfl
              · rfl
            clear hcv10
            refine hK.out _ _ trivial (fun hHeld => ?_)
            clear hK K
            refine norm_ (a' := ?_) ?_ ?_
            rotate_left
            · show Act.put _ (some 16) _ = _
              simp only [Act.put, List.setIfInBounds_toArray, List.set_cons_zero, List.set_cons_succ, i64_w, i32_w]
              rfl
            exact norm_ (by simp only [putAll, Act.put, List.setIfInBounds_toArray, List.set_cons_zero, List.set_cons_succ]) (hCont (v161) _ ⟨(by (with_reducible repeat (first | apply Kd.R_alloc | apply Kd.R_drewN | apply Kd.R_drew)); exact HO162.out), (by repeat (first | (with_reducible first | exact HB.out | apply below_alloc | apply pw_below_drewN | apply below_drew1) | exact HB.out))⟩)
          · skip
            have hcv9 := own_string (P := Try.prog) Try.underlying63 Try.underlying5 Try.underlying9 (Kd.own_of_R HO162.out); have hcv9n := fun (m_ : Nat) => own_string (P := Try.prog) Try.underlying63 Try.underlying5 Try.underlying9 (Kd.own_of_R (Kd.R_drewN HO162.out m_))
            refine value_ (w1 := ?_) (v := ?_) (by rfl) rfl ?_ ?_
            rotate_left 2
            · go_simp
              constructor
              · rfl
              · rfl
            clear hcv9
            refine hK.out _ _ trivial (fun hHeld => ?_)
            clear hK K
            refine norm_ (a' := ?_) ?_ ?_
            rotate_left
            · show Act.put _ (some 16) _ = _
              simp only [Act.put, List.setIfInBounds_toArray, List.set_cons_zero, List.set_cons_succ, i64_w, i32_w]
              rfl
            refine one_ (i := 4) (N := some 11) #[true, true, true, true, true, true, true, true, true, true, false, false] rfl rfl (one_of HT_.out (by kernel_rfl)) (by decide) (fun K hK => ?_)
            refine goes_ Try.func48 (by kernel_rfl) rfl #[.int .u64 (IntKind.u64.wrap (Int.tdiv a0 256)), .int .i64 (wrap64 (a1 - 1))] (by rfl) rfl rfl (by (try simp only [List.map_toArray, List.map_cons, List.map_nil]); first | done | rfl | (simp only [List.length_drop, List.length_take]; rfl)) ?_
            with_reducible refine (ih k (by omega) (IntKind.u64.wrap (Int.tdiv a0 256)) (wrap64 (a1 - 1)) t159 _ A4.out).mono ?_
            rintro e w10 ⟨rfl, hb⟩
            refine ⟨_, rfl, ?_⟩
            have n0_ := Aside0.mk (Kd.R_below (by (with_reducible repeat (first | apply Kd.R_alloc | apply Kd.R_drewN | apply Kd.R_drew)); exact HO162.out) hb)
            have n1_ := Aside0.mk (below_step (by repeat (first | (with_reducible first | exact HB.out | apply below_alloc | apply pw_below_drewN | apply below_drew1) | exact HB.out)) hb)
            clear HO162
            clear HB
            have HO162 := n0_
            have HB := n1_
            clear n0_ n1_
            (try clear hb)
            (try clear hb2)
            (try clear hk)
            (try clear hi)
            refine hK.out _ _ trivial (fun hHeld => ?_)
            clear hK K
            refine norm_ (a' := ?_) ?_ ?_
            rotate_left
            · show Act.put _ (some 11) _ = _
              simp only [Act.put, List.setIfInBounds_toArray, List.set_cons_zero, List.set_cons_succ, i64_w, i32_w]
              rfl
            exact norm_ (by simp only [putAll, Act.put, List.setIfInBounds_toArray, List.set_cons_zero, List.set_cons_succ]) (hCont (v161) _ ⟨(by (with_reducible repeat (first | apply Kd.R_alloc | apply Kd.R_drewN | apply Kd.R_drew)); exact HO162.out), (by repeat (first | (with_reducible first | exact HB.out | apply below_alloc | apply pw_below_drewN | apply below_drew1) | exact HB.out))⟩)
      rintro v161 w11 ⟨h0_, h1_⟩
      have n0_ : Aside0 (Kd.R (Kd.int .u8) 5 w11 w.heap.size (fun _ => True) v161 y160) := ⟨h0_⟩
      have n1_ : Aside0 (Below w.heap.size w w11) := ⟨h1_⟩
      clear HB
      clear h0_ h1_
      have HO162 := n0_
      have HB := n1_
      clear n0_ n1_
      have hHeld := trivial
      refine norm_ (a' := ?_) ?_ ?_
      rotate_left
      · simp only [putAll, Act.put, List.setIfInBounds_toArray, List.set_cons_zero, List.set_cons_succ]
        rfl
      refine pure_ (i := 10) (N := some 17) (v := ?_) (a' := ?_) #[true, true, true, true, true, true, true, true, true, true, true, false] rfl rfl (any_of HT_.out (by kernel_rfl)) (fun _ _ _ h => h) (Or.inl ⟨by rfl, ?_⟩) ?_ ?_
      rotate_left
      · intro w'
        go_simp
        with_reducible rfl
      rotate_left
      · simp only [Act.put, List.setIfInBounds_toArray, List.set_cons_zero, List.set_cons_succ, i64_w, i32_w]
        rfl
      refine pure_ (i := 11) (N := some 4) (v := ?_) (a' := ?_) #[true, true, true, true, true, true, true, true, true, true, true, true] rfl rfl (any_of HT_.out (by kernel_rfl)) (fun _ _ _ h => h) (Or.inl ⟨by rfl, ?_⟩) ?_ ?_
      rotate_left
      · intro w'
        go_simp
        with_reducible rfl
      rotate_left
      · simp only [Act.put, List.setIfInBounds_toArray, List.set_cons_zero, List.set_cons_succ, i64_w, i32_w]
        rfl
      refine done_ (done_of HT_.out (by kernel_rfl)) ?_
      try go_wp2
      all_goals go_ret
      all_goals exact ⟨by first | rfl | (simp [errW_none, errW_some] <;> rfl) | (simp [*, errW_none, errW_some] <;> rfl), by repeat (first | (with_reducible first | exact HB.out | apply below_alloc | apply pw_below_drewN | apply below_drew1) | exact HB.out)⟩
    · rw [if_neg c5] at H
      exact absurd H (by simp)
def moultref3_count.l0 : Nat → Int → Int → Option (Int)
  | 0, _, _ => none
  | k + 1, x0, x3 => if x0 > 0 then (moultref3_count.l0 k (IntKind.u64.wrap (Int.tdiv x0 256)) (wrap64 (x3 + 1))) else (some (mx x3 3))
def moultref3_count.f (k : Nat) (a0 : Int) : Option (Int) := moultref3_count.l0 k a0 0
theorem moultref3_count.mono_l : ∀ k, (∀ y0 y1, LeO (moultref3_count.l0 k y0 y1) (moultref3_count.l0 (k + 1) y0 y1))
  | 0 => fun _ _ r h => by simp [moultref3_count.l0] at h
  | k + 1 => by
    have ih0 := moultref3_count.mono_l k
    · intro y0 y1
      unfold moultref3_count.l0
      repeat' first
      | (with_reducible exact ih0 _ _)
      | (with_reducible exact LeO.refl _)
      | (with_reducible exact LeO.none _)
      | (with_reducible refine LeO.ite ?_ ?_)
      | (with_reducible refine LeO.bind ?_ (fun _ => ?_))
      | exact ih0 _ _
      | exact LeO.none _
      | refine LeO.ite ?_ ?_
      | refine LeO.bind ?_ (fun _ => ?_)
theorem moultref3_count.mono : ∀ a0 k, LeO (moultref3_count.f k a0) (moultref3_count.f (k + 1) a0) := by
  intro a0 k
  have ih0 := moultref3_count.mono_l k
  unfold moultref3_count.f
  repeat' first
      | (with_reducible exact ih0 _ _)
      | (with_reducible exact LeO.refl _)
      | (with_reducible exact LeO.none _)
      | (with_reducible refine LeO.ite ?_ ?_)
      | (with_reducible refine LeO.bind ?_ (fun _ => ?_))
      | exact ih0 _ _
      | exact LeO.none _
      | refine LeO.ite ?_ ?_
      | refine LeO.bind ?_ (fun _ => ?_)
set_option maxHeartbeats 8000000 in
set_option maxRecDepth 100000 in
theorem moultref3_count.calls (k : Nat) (a0 : Int) (r : Int) (w : World) (h : moultref3_count.f k a0 = some r) :
    Calls Try.prog 49 #[.int .u64 a0] w fun e w' => e = .returned (.int .i64 r) ∧ Below w.heap.size w w' := by
  have HB := Aside0.mk (Below.refl w.heap.size w)
  have H : (moultref3_count.l0 k a0 0) = some r := h
  clear h
  have H' := Aside0.mk H
  clear H
  go_enter Try.func49, Try.ntmps49
  go_wp2
  go_loopg [0, 3] k (fun kq v0 v3 w' => ∃ (x0_1 : Int) (x3_1 : Int), v0 = .int .u64 x0_1 ∧ v3 = .int .i64 x3_1 ∧ Aside0 (moultref3_count.l0 kq x0_1 x3_1 = some r) ∧ Aside0 (kq ≤ k) ∧ Aside0 (Below w.heap.size w w'))
  case atStart => exact ⟨(a0), (0), (by first | rfl | (simp; done) | (simp [*]; done)), (by first | rfl | (simp; done) | (simp [*]; done)), H', ⟨Nat.le_refl _⟩, ⟨by repeat (first | (with_reducible first | exact HB.out | apply below_alloc | apply pw_below_drewN | apply below_drew1) | exact HB.out)⟩⟩
  case round =>
    clear H'
    obtain ⟨x0_1, x3_1, rfl, rfl, HA, HK1, HB⟩ := hrel
    cases gk with
    | zero => exact absurd HA.out (by simp [moultref3_count.l0])
    | succ k1 =>
      have H := HA.out
      clear HA
      simp only [moultref3_count.l0] at H
      by_cases c2 : x0_1 > 0
      · rw [if_pos c2] at H
        have c2b0 : decide (0 < x0_1) = true := decide_eq_true c2
        clear c2
        have H' := Aside0.mk H
        clear H
        go_wp2
        go_roundg k1
        case measure => have := HK1.out; omega
        case rel => exact ⟨(IntKind.u64.wrap (Int.tdiv x0_1 256)), (wrap64 (x3_1 + 1)), (by first | rfl | (simp; done) | (simp [*]; done)), (by first | rfl | (simp; done) | (simp [*]; done)), H', ⟨by have := HK1.out; omega⟩, ⟨by repeat (first | (with_reducible first | exact HB.out | apply below_alloc | apply pw_below_drewN | apply below_drew1) | exact HB.out)⟩⟩
      · rw [if_neg c2] at H
        have c2b0 : decide (0 < x0_1) = false := decide_eq_false c2
        clear c2
        obtain ⟨ji3, hji3⟩ : ∃ j_ : Int, (mx x3_1 3) = j_ := ⟨_, rfl⟩
        replace H : (some ji3) = some r := by first | (rw [hji3] at H; exact H) | (simp only [hji3] at H ⊢; exact H)
        have hji3_ : (if x3_1 < 3 then 3 else x3_1) = ji3 := hji3
        obtain rfl := Option.some.inj H
        go_wp2
        all_goals go_ret
        all_goals exact ⟨by first | rfl | (simp [errW_none, errW_some] <;> rfl) | (simp only [← hji3]; first | rfl | (simp [errW_none, errW_some] <;> rfl)) | (simp [*, errW_none, errW_some] <;> rfl), by repeat (first | (with_reducible first | exact HB.out | apply below_alloc | apply pw_below_drewN | apply below_drew1) | exact HB.out)⟩
def moultref3_Put.f (k : Nat) (a0 : Int) : Option (ByteArray) := if a0 ≤ 240 then ((moultref3_bytes.f k a0 1).bind fun t163 => (some t163)) else (if a0 ≤ 2287 then ((moultref3_bytes.f k (IntKind.u64.wrap (241 + (IntKind.u64.wrap (Int.tdiv (IntKind.u64.wrap (a0 - 240)) 256)))) 1).bind fun t164 => ((moultref3_bytes.f k (Int.tmod (IntKind.u64.wrap (a0 - 240)) 256) 1).bind fun t165 => (if t164.size + t165.size ≤ 9223372036854775807 then (some (t164 ++ t165)) else (none)))) else (if a0 ≤ 67823 then ((moultref3_bytes.f k 249 1).bind fun t166 => ((moultref3_bytes.f k (IntKind.u64.wrap (a0 - 2288)) 2).bind fun t167 => (if t166.size + t167.size ≤ 9223372036854775807 then (some (t166 ++ t167)) else (none)))) else ((moultref3_count.f k a0).bind fun t168 => ((moultref3_bytes.f k (IntKind.u64.wrap (wrap64 (247 + t168))) 1).bind fun t169 => ((moultref3_bytes.f k a0 t168).bind fun t170 => (if t169.size + t170.size ≤ 9223372036854775807 then (some (t169 ++ t170)) else (none)))))))
theorem moultref3_Put.mono : ∀ a0 k, LeO (moultref3_Put.f k a0) (moultref3_Put.f (k + 1) a0) := by
  intro a0 k
  unfold moultref3_Put.f
  repeat' first
      | (with_reducible exact moultref3_bytes.mono _ _ _)
      | (with_reducible exact moultref3_count.mono _ _)
      | (with_reducible exact LeO.refl _)
      | (with_reducible exact LeO.none _)
      | (with_reducible refine LeO.ite ?_ ?_)
      | (with_reducible refine LeO.bind ?_ (fun _ => ?_))
      | exact moultref3_bytes.mono _ _ _
      | exact moultref3_count.mono _ _
      | exact LeO.none _
      | refine LeO.ite ?_ ?_
      | refine LeO.bind ?_ (fun _ => ?_)
set_option maxHeartbeats 8000000 in
set_option maxRecDepth 100000 in
theorem moultref3_Put.calls (k : Nat) (a0 : Int) (r : ByteArray) (w : World) (h : moultref3_Put.f k a0 = some r) :
    Calls Try.prog 44 #[.int .u64 a0] w fun e w' => e = .returned (.string r) ∧ Below w.heap.size w w' := by
  have HB := Aside0.mk (Below.refl w.heap.size w)
  have H : (if a0 ≤ 240 then ((moultref3_bytes.f k a0 1).bind fun t163 => (some t163)) else (if a0 ≤ 2287 then ((moultref3_bytes.f k (IntKind.u64.wrap (241 + (IntKind.u64.wrap (Int.tdiv (IntKind.u64.wrap (a0 - 240)) 256)))) 1).bind fun t164 => ((moultref3_bytes.f k (Int.tmod (IntKind.u64.wrap (a0 - 240)) 256) 1).bind fun t165 => (if t164.size + t165.size ≤ 9223372036854775807 then (some (t164 ++ t165)) else (none)))) else (if a0 ≤ 67823 then ((moultref3_bytes.f k 249 1).bind fun t166 => ((moultref3_bytes.f k (IntKind.u64.wrap (a0 - 2288)) 2).bind fun t167 => (if t166.size + t167.size ≤ 9223372036854775807 then (some (t166 ++ t167)) else (none)))) else ((moultref3_count.f k a0).bind fun t168 => ((moultref3_bytes.f k (IntKind.u64.wrap (wrap64 (247 + t168))) 1).bind fun t169 => ((moultref3_bytes.f k a0 t168).bind fun t170 => (if t169.size + t170.size ≤ 9223372036854775807 then (some (t169 ++ t170)) else (none)))))))) = some r := h
  clear h
  by_cases c2 : a0 ≤ 240
  · rw [if_pos c2] at H
    have c2b0 : decide (a0 ≤ 240) = true := decide_eq_true c2
    clear c2
    replace H := Option.bind_eq_some_iff.mp H
    obtain ⟨t163, A30, H⟩ := H
    replace H : (some t163) = some r := H
    have A3 := Aside0.mk A30
    clear A30
    obtain rfl := Option.some.inj H
    go_enter Try.func44, Try.ntmps44
    go_wp2_with (first | ((with_reducible refine gate_callee (f := 48) rfl ?_); refine goesL_ (some 8) rfl rfl Try.func48 (by kernel_rfl) rfl #[.int .u64 a0, .int .i64 1] rfl (by (try simp only [List.map_toArray, List.map_cons, List.map_nil]); first | done | rfl | (simp only [List.length_drop, List.length_take]; rfl)) ?_; (with_reducible refine (moultref3_bytes.calls k a0 1 t163 _ A3.out).mono ?_); rintro e w4 ⟨rfl, hb⟩; refine ⟨_, rfl, ?_⟩; have n0_ := Aside0.mk (below_step (by repeat (first | (with_reducible first | exact HB.out | apply below_alloc | apply pw_below_drewN | apply below_drew1) | exact HB.out)) hb); clear HB; have HB := n0_; clear n0_; (try clear hb); (try clear hb2); (try clear hk); (try clear hi)))
    all_goals go_ret
    all_goals exact ⟨by first | rfl | (simp [errW_none, errW_some] <;> rfl) | (simp [*, errW_none, errW_some] <;> rfl), by repeat (first | (with_reducible first | exact HB.out | apply below_alloc | apply pw_below_drewN | apply below_drew1) | exact HB.out)⟩
  · rw [if_neg c2] at H
    have c2b0 : decide (a0 ≤ 240) = false := decide_eq_false c2
    clear c2
    by_cases c5 : a0 ≤ 2287
    · rw [if_pos c5] at H
      have c5b0 : decide (a0 ≤ 2287) = true := decide_eq_true c5
      clear c5
      replace H := Option.bind_eq_some_iff.mp H
      obtain ⟨t164, A60, H⟩ := H
      replace H : ((moultref3_bytes.f k (Int.tmod (IntKind.u64.wrap (a0 - 240)) 256) 1).bind fun t165 => (if t164.size + t165.size ≤ 9223372036854775807 then (some (t164 ++ t165)) else (none))) = some r := H
      have A6 := Aside0.mk A60
      clear A60
      replace H := Option.bind_eq_some_iff.mp H
      obtain ⟨t165, A70, H⟩ := H
      replace H : (if t164.size + t165.size ≤ 9223372036854775807 then (some (t164 ++ t165)) else (none)) = some r := H
      have A7 := Aside0.mk A70
      clear A70
      by_cases c8 : t164.size + t165.size ≤ 9223372036854775807
      · rw [if_pos c8] at H
        have c8b0 := eq_true c8
        have c8b1 : decide (t164.size + t165.size ≤ 9223372036854775807) = true := decide_eq_true c8
        try have c8b2 : (9223372036854775807 < t164.size + t165.size) = False := eq_false (Nat.not_lt.2 c8)
        obtain rfl := Option.some.inj H
        go_enter Try.func44, Try.ntmps44
        go_wp2_with (first | ((with_reducible refine gate_callee (f := 48) rfl ?_); refine goesL_ (some 16) rfl rfl Try.func48 (by kernel_rfl) rfl #[.int .u64 (IntKind.u64.wrap (241 + (IntKind.u64.wrap (Int.tdiv (IntKind.u64.wrap (a0 - 240)) 256)))), .int .i64 1] rfl (by (try simp only [List.map_toArray, List.map_cons, List.map_nil]); first | done | rfl | (simp only [List.length_drop, List.length_take]; rfl)) ?_; (with_reducible refine (moultref3_bytes.calls k (IntKind.u64.wrap (241 + (IntKind.u64.wrap (Int.tdiv (IntKind.u64.wrap (a0 - 240)) 256)))) 1 t164 _ A6.out).mono ?_); rintro e w9 ⟨rfl, hb⟩; refine ⟨_, rfl, ?_⟩; have n0_ := Aside0.mk (below_step (by repeat (first | (with_reducible first | exact HB.out | apply below_alloc | apply pw_below_drewN | apply below_drew1) | exact HB.out)) hb); clear HB; have HB := n0_; clear n0_; (try clear hb); (try clear hb2); (try clear hk); (try clear hi)) | ((with_reducible refine gate_callee (f := 48) rfl ?_); refine goesL_ (some 20) rfl rfl Try.func48 (by kernel_rfl) rfl #[.int .u64 (Int.tmod (IntKind.u64.wrap (a0 - 240)) 256), .int .i64 1] rfl (by (try simp only [List.map_toArray, List.map_cons, List.map_nil]); first | done | rfl | (simp only [List.length_drop, List.length_take]; rfl)) ?_; (with_reducible refine (moultref3_bytes.calls k (Int.tmod (IntKind.u64.wrap (a0 - 240)) 256) 1 t165 _ A7.out).mono ?_); rintro e w10 ⟨rfl, hb⟩; refine ⟨_, rfl, ?_⟩; have n0_ := Aside0.mk (below_step (by repeat (first | (with_reducible first | exact HB.out | apply below_alloc | apply pw_below_drewN | apply below_drew1) | exact HB.out)) hb); clear HB; have HB := n0_; clear n0_; (try clear hb); (try clear hb2); (try clear hk); (try clear hi)))
        all_goals go_ret
        all_goals exact ⟨by first | rfl | (simp [errW_none, errW_some] <;> rfl) | (simp [*, errW_none, errW_some] <;> rfl), by repeat (first | (with_reducible first | exact HB.out | apply below_alloc | apply pw_below_drewN | apply below_drew1) | exact HB.out)⟩
      · rw [if_neg c8] at H
        exact absurd H (by simp)
    · rw [if_neg c5] at H
      have c5b0 : decide (a0 ≤ 2287) = false := decide_eq_false c5
      clear c5
      by_cases c11 : a0 ≤ 67823
      · rw [if_pos c11] at H
        have c11b0 : decide (a0 ≤ 67823) = true := decide_eq_true c11
        clear c11
        replace H := Option.bind_eq_some_iff.mp H
        obtain ⟨t166, A120, H⟩ := H
        replace H : ((moultref3_bytes.f k (IntKind.u64.wrap (a0 - 2288)) 2).bind fun t167 => (if t166.size + t167.size ≤ 9223372036854775807 then (some (t166 ++ t167)) else (none))) = some r := H
        have A12 := Aside0.mk A120
        clear A120
        replace H := Option.bind_eq_some_iff.mp H
        obtain ⟨t167, A130, H⟩ := H
        replace H : (if t166.size + t167.size ≤ 9223372036854775807 then (some (t166 ++ t167)) else (none)) = some r := H
        have A13 := Aside0.mk A130
        clear A130
        by_cases c14 : t166.size + t167.size ≤ 9223372036854775807
        · rw [if_pos c14] at H
          have c14b0 := eq_true c14
          have c14b1 : decide (t166.size + t167.size ≤ 9223372036854775807) = true := decide_eq_true c14
          try have c14b2 : (9223372036854775807 < t166.size + t167.size) = False := eq_false (Nat.not_lt.2 c14)
          obtain rfl := Option.some.inj H
          go_enter Try.func44, Try.ntmps44
          go_wp2_with (first | ((with_reducible refine gate_callee (f := 48) rfl ?_); refine goesL_ (some 25) rfl rfl Try.func48 (by kernel_rfl) rfl #[.int .u64 249, .int .i64 1] rfl (by (try simp only [List.map_toArray, List.map_cons, List.map_nil]); first | done | rfl | (simp only [List.length_drop, List.length_take]; rfl)) ?_; (with_reducible refine (moultref3_bytes.calls k 249 1 t166 _ A12.out).mono ?_); rintro e w15 ⟨rfl, hb⟩; refine ⟨_, rfl, ?_⟩; have n0_ := Aside0.mk (below_step (by repeat (first | (with_reducible first | exact HB.out | apply below_alloc | apply pw_below_drewN | apply below_drew1) | exact HB.out)) hb); clear HB; have HB := n0_; clear n0_; (try clear hb); (try clear hb2); (try clear hk); (try clear hi)) | ((with_reducible refine gate_callee (f := 48) rfl ?_); refine goesL_ (some 28) rfl rfl Try.func48 (by kernel_rfl) rfl #[.int .u64 (IntKind.u64.wrap (a0 - 2288)), .int .i64 2] rfl (by (try simp only [List.map_toArray, List.map_cons, List.map_nil]); first | done | rfl | (simp only [List.length_drop, List.length_take]; rfl)) ?_; (with_reducible refine (moultref3_bytes.calls k (IntKind.u64.wrap (a0 - 2288)) 2 t167 _ A13.out).mono ?_); rintro e w16 ⟨rfl, hb⟩; refine ⟨_, rfl, ?_⟩; have n0_ := Aside0.mk (below_step (by repeat (first | (with_reducible first | exact HB.out | apply below_alloc | apply pw_below_drewN | apply below_drew1) | exact HB.out)) hb); clear HB; have HB := n0_; clear n0_; (try clear hb); (try clear hb2); (try clear hk); (try clear hi)))
          all_goals go_ret
          all_goals exact ⟨by first | rfl | (simp [errW_none, errW_some] <;> rfl) | (simp [*, errW_none, errW_some] <;> rfl), by repeat (first | (with_reducible first | exact HB.out | apply below_alloc | apply pw_below_drewN | apply below_drew1) | exact HB.out)⟩
        · rw [if_neg c14] at H
          exact absurd H (by simp)
      · rw [if_neg c11] at H
        have c11b0 : decide (a0 ≤ 67823) = false := decide_eq_false c11
        clear c11
        replace H := Option.bind_eq_some_iff.mp H
        obtain ⟨t168, A170, H⟩ := H
        replace H : ((moultref3_bytes.f k (IntKind.u64.wrap (wrap64 (247 + t168))) 1).bind fun t169 => ((moultref3_bytes.f k a0 t168).bind fun t170 => (if t169.size + t170.size ≤ 9223372036854775807 then (some (t169 ++ t170)) else (none)))) = some r := H
        have A17 := Aside0.mk A170
        clear A170
        replace H := Option.bind_eq_some_iff.mp H
        obtain ⟨t169, A180, H⟩ := H
        replace H : ((moultref3_bytes.f k a0 t168).bind fun t170 => (if t169.size + t170.size ≤ 9223372036854775807 then (some (t169 ++ t170)) else (none))) = some r := H
        have A18 := Aside0.mk A180
        clear A180
        replace H := Option.bind_eq_some_iff.mp H
        obtain ⟨t170, A190, H⟩ := H
        replace H : (if t169.size + t170.size ≤ 9223372036854775807 then (some (t169 ++ t170)) else (none)) = some r := H
        have A19 := Aside0.mk A190
        clear A190
        by_cases c20 : t169.size + t170.size ≤ 9223372036854775807
        · rw [if_pos c20] at H
          have c20b0 := eq_true c20
          have c20b1 : decide (t169.size + t170.size ≤ 9223372036854775807) = true := decide_eq_true c20
          try have c20b2 : (9223372036854775807 < t169.size + t170.size) = False := eq_false (Nat.not_lt.2 c20)
          obtain rfl := Option.some.inj H
          go_enter Try.func44, Try.ntmps44
          go_wp2_with (first | ((with_reducible refine gate_callee (f := 49) rfl ?_); refine goesL_ (some 31) rfl rfl Try.func49 (by kernel_rfl) rfl #[.int .u64 a0] rfl (by (try simp only [List.map_toArray, List.map_cons, List.map_nil]); first | done | rfl | (simp only [List.length_drop, List.length_take]; rfl)) ?_; (with_reducible refine (moultref3_count.calls k a0 t168 _ A17.out).mono ?_); rintro e w21 ⟨rfl, hb⟩; refine ⟨_, rfl, ?_⟩; have n0_ := Aside0.mk (below_step (by repeat (first | (with_reducible first | exact HB.out | apply below_alloc | apply pw_below_drewN | apply below_drew1) | exact HB.out)) hb); clear HB; have HB := n0_; clear n0_; (try clear hb); (try clear hb2); (try clear hk); (try clear hi)) | ((with_reducible refine gate_callee (f := 48) rfl ?_); refine goesL_ (some 35) rfl rfl Try.func48 (by kernel_rfl) rfl #[.int .u64 (IntKind.u64.wrap (wrap64 (247 + t168))), .int .i64 1] rfl (by (try simp only [List.map_toArray, List.map_cons, List.map_nil]); first | done | rfl | (simp only [List.length_drop, List.length_take]; rfl)) ?_; (with_reducible refine (moultref3_bytes.calls k (IntKind.u64.wrap (wrap64 (247 + t168))) 1 t169 _ A18.out).mono ?_); rintro e w22 ⟨rfl, hb⟩; refine ⟨_, rfl, ?_⟩; have n0_ := Aside0.mk (below_step (by repeat (first | (with_reducible first | exact HB.out | apply below_alloc | apply pw_below_drewN | apply below_drew1) | exact HB.out)) hb); clear HB; have HB := n0_; clear n0_; (try clear hb); (try clear hb2); (try clear hk); (try clear hi)) | ((with_reducible refine gate_callee (f := 48) rfl ?_); refine goesL_ (some 38) rfl rfl Try.func48 (by kernel_rfl) rfl #[.int .u64 a0, .int .i64 t168] rfl (by (try simp only [List.map_toArray, List.map_cons, List.map_nil]); first | done | rfl | (simp only [List.length_drop, List.length_take]; rfl)) ?_; (with_reducible refine (moultref3_bytes.calls k a0 t168 t170 _ A19.out).mono ?_); rintro e w23 ⟨rfl, hb⟩; refine ⟨_, rfl, ?_⟩; have n0_ := Aside0.mk (below_step (by repeat (first | (with_reducible first | exact HB.out | apply below_alloc | apply pw_below_drewN | apply below_drew1) | exact HB.out)) hb); clear HB; have HB := n0_; clear n0_; (try clear hb); (try clear hb2); (try clear hk); (try clear hi)))
          all_goals go_ret
          all_goals exact ⟨by first | rfl | (simp [errW_none, errW_some] <;> rfl) | (simp [*, errW_none, errW_some] <;> rfl), by repeat (first | (with_reducible first | exact HB.out | apply below_alloc | apply pw_below_drewN | apply below_drew1) | exact HB.out)⟩
        · rw [if_neg c20] at H
          exact absurd H (by simp)
def moultref8_size.f (k : Nat) (a0 : Int) : Option (ByteArray) := (moultref3_Put.f k (IntKind.u64.wrap (a0))).bind fun t171 => (some t171)
theorem moultref8_size.mono : ∀ a0 k, LeO (moultref8_size.f k a0) (moultref8_size.f (k + 1) a0) := by
  intro a0 k
  unfold moultref8_size.f
  repeat' first
      | (with_reducible exact moultref3_Put.mono _ _)
      | (with_reducible exact LeO.refl _)
      | (with_reducible exact LeO.none _)
      | (with_reducible refine LeO.ite ?_ ?_)
      | (with_reducible refine LeO.bind ?_ (fun _ => ?_))
      | exact moultref3_Put.mono _ _
      | exact LeO.none _
      | refine LeO.ite ?_ ?_
      | refine LeO.bind ?_ (fun _ => ?_)
set_option maxHeartbeats 8000000 in
set_option maxRecDepth 100000 in
theorem moultref8_size.calls (k : Nat) (a0 : Int) (r : ByteArray) (w : World) (h : moultref8_size.f k a0 = some r) :
    Calls Try.prog 38 #[.int .i64 a0] w fun e w' => e = .returned (.string r) ∧ Below w.heap.size w w' := by
  have HB := Aside0.mk (Below.refl w.heap.size w)
  have H : ((moultref3_Put.f k (IntKind.u64.wrap (a0))).bind fun t171 => (some t171)) = some r := h
  clear h
  replace H := Option.bind_eq_some_iff.mp H
  obtain ⟨t171, A20, H⟩ := H
  replace H : (some t171) = some r := H
  have A2 := Aside0.mk A20
  clear A20
  obtain rfl := Option.some.inj H
  go_enter Try.func38, Try.ntmps38
  go_wp2_with (first | ((with_reducible refine gate_callee (f := 44) rfl ?_); refine goesL_ (some 5) rfl rfl Try.func44 (by kernel_rfl) rfl #[.int .u64 (IntKind.u64.wrap (a0))] rfl (by (try simp only [List.map_toArray, List.map_cons, List.map_nil]); first | done | rfl | (simp only [List.length_drop, List.length_take]; rfl)) ?_; (with_reducible refine (moultref3_Put.calls k (IntKind.u64.wrap (a0)) t171 _ A2.out).mono ?_); rintro e w3 ⟨rfl, hb⟩; refine ⟨_, rfl, ?_⟩; have n0_ := Aside0.mk (below_step (by repeat (first | (with_reducible first | exact HB.out | apply below_alloc | apply pw_below_drewN | apply below_drew1) | exact HB.out)) hb); clear HB; have HB := n0_; clear n0_; (try clear hb); (try clear hb2); (try clear hk); (try clear hi)))
  all_goals go_ret
  all_goals exact ⟨by first | rfl | (simp [errW_none, errW_some] <;> rfl) | (simp [*, errW_none, errW_some] <;> rfl), by repeat (first | (with_reducible first | exact HB.out | apply below_alloc | apply pw_below_drewN | apply below_drew1) | exact HB.out)⟩
end Go.Proofs.Ytbhainkcdkgbbaa.P

end
section
namespace Go.Proofs.Ytbhainkcdkgbbaa.P
open Go.RowKit Go.Proofs.Ytbhainkcdkgbbaa.Vp Go.Proofs.Ytbhainkcdkgbbaa.Sl Go.Proofs.YtbhainkcdkgbbaaW.PrintWords Go.Proofs.YtbhainkcdkgbbaaW.PrintLast Go.Proofs.YtbhainkcdkgbbaaW.PrintMore
attribute [local go_sem] str_gtr str_leq str_geq max2_int min2_int max_two min_two max_three min_three max_four min_four
set_option linter.unusedVariables false
set_option linter.unusedSimpArgs false
mutual
def moultref3_Take.j0 : Nat → ByteArray → Int → Option (Int × ByteArray × Bool)
  | 0, _, _ => none
  | k + 1, x0, x5 => if (x0.size : Int) < x5 then (some (0, (⟨#[]⟩ : ByteArray), false)) else (moultref3_Take.l0 k x0 x5 0 1)
def moultref3_Take.l0 : Nat → ByteArray → Int → Int → Int → Option (Int × ByteArray × Bool)
  | 0, _, _, _, _ => none
  | k + 1, x0, x5, x6, x7 => if x7 < x5 then (if 0 ≤ x7 then (if x7 < (x0.size : Int) then (moultref3_Take.l0 k x0 x5 (IntKind.u64.wrap ((IntKind.u64.wrap (x6 * 256)) + (IntKind.u64.wrap (bt x0 x7)))) (wrap64 (x7 + 1))) else (none)) else (none)) else (if x5 = 1 then (if 0 < (x0.size : Int) then ((moultref3_Put.f k (IntKind.u64.wrap (bt x0 0))).bind fun t172 => (if 0 ≤ x5 then (if x5 ≤ (x0.size : Int) then (if t172.toList = (x0.extract 0 (x5 : Int).toNat).toList then (some (IntKind.u64.wrap (bt x0 0), x0.extract (x5 : Int).toNat x0.size, true)) else (some (0, (⟨#[]⟩ : ByteArray), false))) else (none)) else (none))) else (none)) else (if x5 = 2 then (if 0 < (x0.size : Int) then ((moultref3_Put.f k (IntKind.u64.wrap ((IntKind.u64.wrap (x6 + 240)) + (256 * (((bt x0 0) - 241) % 256))))).bind fun t173 => (if 0 ≤ x5 then (if x5 ≤ (x0.size : Int) then (if t173.toList = (x0.extract 0 (x5 : Int).toNat).toList then (some (IntKind.u64.wrap ((IntKind.u64.wrap (x6 + 240)) + (256 * (((bt x0 0) - 241) % 256))), x0.extract (x5 : Int).toNat x0.size, true)) else (some (0, (⟨#[]⟩ : ByteArray), false))) else (none)) else (none))) else (none)) else (if 0 < (x0.size : Int) then (if (bt x0 0) = 249 then ((moultref3_Put.f k (IntKind.u64.wrap (x6 + 2288))).bind fun t174 => (if 0 ≤ x5 then (if x5 ≤ (x0.size : Int) then (if t174.toList = (x0.extract 0 (x5 : Int).toNat).toList then (some (IntKind.u64.wrap (x6 + 2288), x0.extract (x5 : Int).toNat x0.size, true)) else (some (0, (⟨#[]⟩ : ByteArray), false))) else (none)) else (none))) else ((moultref3_Put.f k x6).bind fun t175 => (if 0 ≤ x5 then (if x5 ≤ (x0.size : Int) then (if t175.toList = (x0.extract 0 (x5 : Int).toNat).toList then (some (x6, x0.extract (x5 : Int).toNat x0.size, true)) else (some (0, (⟨#[]⟩ : ByteArray), false))) else (none)) else (none)))) else (none))))
end
def moultref3_Take.f (k : Nat) (a0 : ByteArray) : Option (Int × ByteArray × Bool) := if a0.toList = ([] : List UInt8) then (some (0, (⟨#[]⟩ : ByteArray), false)) else (if 0 < (a0.size : Int) then (if (bt a0 0) ≥ 250 then (moultref3_Take.j0 k a0 (wrap64 ((wrap64 (bt a0 0)) - 246))) else (if (bt a0 0) = 249 then (moultref3_Take.j0 k a0 3) else (if (bt a0 0) ≥ 241 then (moultref3_Take.j0 k a0 2) else (moultref3_Take.j0 k a0 1)))) else (none))
theorem moultref3_Take.mono_l : ∀ k, (∀ y0 y1, LeO (moultref3_Take.j0 k y0 y1) (moultref3_Take.j0 (k + 1) y0 y1)) ∧ (∀ y0 y1 y2 y3, LeO (moultref3_Take.l0 k y0 y1 y2 y3) (moultref3_Take.l0 (k + 1) y0 y1 y2 y3))
  | 0 => ⟨fun _ _ r h => by simp [moultref3_Take.j0] at h, fun _ _ _ _ r h => by simp [moultref3_Take.l0] at h⟩
  | k + 1 => by
    obtain ⟨ih0, ih1⟩ := moultref3_Take.mono_l k
    refine ⟨?_, ?_⟩
    · intro y0 y1
      unfold moultref3_Take.j0
      repeat' first
      | (with_reducible exact ih0 _ _)
      | (with_reducible exact ih1 _ _ _ _)
      | (with_reducible exact moultref3_Put.mono _ _)
      | (with_reducible exact LeO.refl _)
      | (with_reducible exact LeO.none _)
      | (with_reducible refine LeO.ite ?_ ?_)
      | (with_reducible refine LeO.bind ?_ (fun _ => ?_))
      | exact ih0 _ _
      | exact ih1 _ _ _ _
      | exact moultref3_Put.mono _ _
      | exact LeO.none _
      | refine LeO.ite ?_ ?_
      | refine LeO.bind ?_ (fun _ => ?_)
    · intro y0 y1 y2 y3
      unfold moultref3_Take.l0
      repeat' first
      | (with_reducible exact ih0 _ _)
      | (with_reducible exact ih1 _ _ _ _)
      | (with_reducible exact moultref3_Put.mono _ _)
      | (with_reducible exact LeO.refl _)
      | (with_reducible exact LeO.none _)
      | (with_reducible refine LeO.ite ?_ ?_)
      | (with_reducible refine LeO.bind ?_ (fun _ => ?_))
      | exact ih0 _ _
      | exact ih1 _ _ _ _
      | exact moultref3_Put.mono _ _
      | exact LeO.none _
      | refine LeO.ite ?_ ?_
      | refine LeO.bind ?_ (fun _ => ?_)
theorem moultref3_Take.mono : ∀ a0 k, LeO (moultref3_Take.f k a0) (moultref3_Take.f (k + 1) a0) := by
  intro a0 k
  obtain ⟨ih0, ih1⟩ := moultref3_Take.mono_l k
  unfold moultref3_Take.f
  repeat' first
      | (with_reducible exact ih0 _ _)
      | (with_reducible exact ih1 _ _ _ _)
      | (with_reducible exact moultref3_Put.mono _ _)
      | (with_reducible exact LeO.refl _)
      | (with_reducible exact LeO.none _)
      | (with_reducible refine LeO.ite ?_ ?_)
      | (with_reducible refine LeO.bind ?_ (fun _ => ?_))
      | exact ih0 _ _
      | exact ih1 _ _ _ _
      | exact moultref3_Put.mono _ _
      | exact LeO.none _
      | refine LeO.ite ?_ ?_
      | refine LeO.bind ?_ (fun _ => ?_)
end Go.Proofs.Ytbhainkcdkgbbaa.P

end
section
set_option linter.unusedVariables false
set_option linter.unusedSimpArgs false
namespace Go.Proofs.Ytbhainkcdkgbbaa.Pure
open Go.RowKit Go.Proofs.Ytbhainkcdkgbbaa.P Go.Proofs.Ytbhainkcdkgbbaa.Vp Go.Proofs.YtbhainkcdkgbbaaW.PrintWords Go.Proofs.YtbhainkcdkgbbaaW.PrintLast Go.Proofs.YtbhainkcdkgbbaaW.PrintMore
theorem rbytes_f : ∀ (j k : Nat) (n : Int), 0 ≤ n → n < 18446744073709551616 → j ≤ 9 → j < k → moultref3_bytes.f k n (j : Int) = some (strOfNums (beL n j)) := by
  intro j
  induction j with
  | zero =>
    intro k n h0 h1 hj hk
    obtain ⟨k, rfl⟩ : ∃ m, k = m + 1 := ⟨k - 1, by omega⟩
    simp only [moultref3_bytes.f]
    rw [if_pos (by rfl)]; rfl
  | succ j ih =>
    intro k n h0 h1 hj hk
    obtain ⟨k, rfl⟩ : ∃ m, k = m + 1 := ⟨k - 1, by omega⟩
    simp only [moultref3_bytes.f]
    rw [if_neg (by omega), tdiv_nn h0, show IntKind.u64.wrap (n / 256) = n / 256 from by rw [IntKind.wrap_u64]; omega, show wrap64 (((j + 1 : Nat) : Int) - 1) = (j : Int) from by unfold wrap64; omega]
    rw [ih k (n / 256) (by omega) (by omega) (by omega) (by omega)]
    simp only [Option.bind_some]
    rw [tmod_nn h0, if_pos (by rw [strOfNums_size, strOfNums_size, beL_length]; simp; omega), beL, strOf_append, show n % 256 % 256 = n % 256 by omega]
theorem rcount_l0 : ∀ (j k : Nat) (n c : Int), 0 ≤ n → n < 256 ^ j → (j = 0 ∨ 256 ^ (j - 1) ≤ n) → 0 ≤ c → c + j ≤ 20 → j ≤ 9 → j < k → moultref3_count.l0 k n c = some (mx (c + j) 3) := by
  intro j
  induction j with
  | zero =>
    intro k n c h0 h1 _ hc hc2 hj hk
    obtain ⟨k, rfl⟩ : ∃ m, k = m + 1 := ⟨k - 1, by omega⟩
    simp at h1
    simp only [moultref3_count.l0]
    rw [if_neg (by omega)]; simp
  | succ j ih =>
    intro k n c h0 h1 h2 hc hc2 hj hk
    obtain ⟨k, rfl⟩ : ∃ m, k = m + 1 := ⟨k - 1, by omega⟩
    rw [p256] at h1
    have h2' : 256 ^ j ≤ n := by
      rcases h2 with h | h
      · omega
      · simpa using h
    have hp := p256_pos j
    have h3 : n < 18446744073709551616 * 256 := by
      have e : ∀ i : Nat, i ≤ 8 → (256 : Int) ^ i ≤ 18446744073709551616 := by
        intro i hi
        have : i = 0 ∨ i = 1 ∨ i = 2 ∨ i = 3 ∨ i = 4 ∨ i = 5 ∨ i = 6 ∨ i = 7 ∨ i = 8 := by omega
        rcases this with h | h | h | h | h | h | h | h | h <;> rw [h] <;> decide
      have := e j (by omega)
      omega
    simp only [moultref3_count.l0]
    rw [if_pos (by omega), tdiv_nn h0, show wrap64 (c + 1) = c + 1 from by unfold wrap64; omega]
    have e : IntKind.u64.wrap (n / 256) = n / 256 := by rw [IntKind.wrap_u64]; omega
    rw [e, ih k (n / 256) (c + 1) (by omega) (by omega) ?_ (by omega) (by omega) (by omega) (by omega)]
    · rw [show c + 1 + (j : Int) = c + ((j + 1 : Nat) : Int) by omega]
    · cases j with
      | zero => exact .inl rfl
      | succ j =>
        right
        rw [p256] at h2'
        simp only [Nat.add_sub_cancel]
        omega
theorem rcount_f (n : Int) (h0 : 67823 < n) (h1 : n < 18446744073709551616) (k : Nat) (hk : 12 < k) : moultref3_count.f k n = some (widthP n) := by
  unfold moultref3_count.f
  obtain ⟨p1, p2, p3, p4, p5, p6, p7, p8⟩ := pw 0
  have hw := widthP_range n
  have go : ∀ j : Nat, j ≤ 8 → (256 : Int) ^ (j - 1) ≤ n → n < 256 ^ j → widthP n = j → moultref3_count.l0 k n 0 = some (widthP n) := by
    intro j hj ha hb hc
    rw [rcount_l0 j k n 0 (by omega) hb (.inr ha) (by omega) (by omega) (by omega) (by omega), hc]
    congr 1
    unfold mx
    split <;> omega
  have hc : (n < 16777216 ∧ widthP n = 3) ∨ (16777216 ≤ n ∧ n < 4294967296 ∧ widthP n = 4) ∨ (4294967296 ≤ n ∧ n < 1099511627776 ∧ widthP n = 5) ∨ (1099511627776 ≤ n ∧ n < 281474976710656 ∧ widthP n = 6) ∨ (281474976710656 ≤ n ∧ n < 72057594037927936 ∧ widthP n = 7) ∨ (72057594037927936 ≤ n ∧ widthP n = 8) := by
    unfold widthP
    repeat' split
    all_goals omega
  rcases hc with ⟨a, b⟩ | ⟨a, c, b⟩ | ⟨a, c, b⟩ | ⟨a, c, b⟩ | ⟨a, c, b⟩ | ⟨a, b⟩
  · exact go 3 (by omega) (by simp only [Nat.reduceSub]; omega) (by omega) b
  · exact go 4 (by omega) (by simp only [Nat.reduceSub]; omega) (by omega) b
  · exact go 5 (by omega) (by simp only [Nat.reduceSub]; omega) (by omega) b
  · exact go 6 (by omega) (by simp only [Nat.reduceSub]; omega) (by omega) b
  · exact go 7 (by omega) (by simp only [Nat.reduceSub]; omega) (by omega) b
  · exact go 8 (by omega) (by simp only [Nat.reduceSub]; omega) (by omega) b
theorem rput_f (n : Int) (h0 : 0 ≤ n) (h1 : n < 18446744073709551616) (k : Nat) (hk : 12 < k) : moultref3_Put.f k n = some (putP n) := by
  have hw := widthP_range n
  have one : ∀ x : Int, 0 ≤ x → x < 256 → moultref3_bytes.f k x 1 = some (strOfNums [x]) := by
    intro x hx hx2
    have := rbytes_f 1 k x hx (by omega) (by omega) (by omega)
    rw [show beL x 1 = [x] from by simp [beL]; omega] at this
    exact this
  unfold moultref3_Put.f putP putL
  by_cases c1 : n ≤ 240
  · rw [if_pos c1, if_pos c1, one n h0 (by omega)]; rfl
  · rw [if_neg c1, if_neg c1]
    by_cases c2 : n ≤ 2287
    · rw [if_pos c2, if_pos c2]
      have e1 : IntKind.u64.wrap (n - 240) = n - 240 := by rw [IntKind.wrap_u64]; omega
      rw [e1, tdiv_nn (by omega), tmod_nn (by omega)]
      have e2 : IntKind.u64.wrap (241 + IntKind.u64.wrap ((n - 240) / 256)) = 241 + (n - 240) / 256 := by rw [IntKind.wrap_u64, IntKind.wrap_u64]; omega
      rw [e2, one _ (by omega) (by omega)]
      simp only [Option.bind_some]
      rw [one _ (by omega) (by omega)]
      simp only [Option.bind_some]
      rw [if_pos (by simp only [strOfNums_size, List.length_cons, List.length_nil]; omega), ← strOf_append]; rfl
    · rw [if_neg c2, if_neg c2]
      by_cases c3 : n ≤ 67823
      · rw [if_pos c3, if_pos c3, one 249 (by omega) (by omega)]
        simp only [Option.bind_some]
        rw [show IntKind.u64.wrap (n - 2288) = n - 2288 from by rw [IntKind.wrap_u64]; omega]
        have h2 := rbytes_f 2 k (n - 2288) (by omega) (by omega) (by omega) (by omega)
        rw [show ((2 : Nat) : Int) = 2 from rfl] at h2
        rw [h2]
        simp only [Option.bind_some]
        rw [if_pos (by simp only [strOfNums_size, beL_length, List.length_cons, List.length_nil]; omega), ← strOf_append]; rfl
      · rw [if_neg c3, if_neg c3, rcount_f n (by omega) h1 k hk]
        simp only [Option.bind_some]
        have e2 : IntKind.u64.wrap (wrap64 (247 + widthP n)) = 247 + widthP n := by
          rw [IntKind.wrap_u64]; unfold wrap64; omega
        rw [e2, one _ (by omega) (by omega)]
        simp only [Option.bind_some]
        have h2 := rbytes_f (widthP n).toNat k n h0 h1 (by omega) (by omega)
        rw [show (((widthP n).toNat : Nat) : Int) = widthP n by omega] at h2
        rw [h2]
        simp only [Option.bind_some]
        rw [if_pos (by simp only [strOfNums_size, beL_length, List.length_cons, List.length_nil]; omega), ← strOf_append]; rfl
theorem bytes_l0 (s t : ByteArray) (hs : s.size < 4611686018427387904) (ht : t.size < 4611686018427387904) : ∀ (d n k : Nat), n + d = s.size + 1 → n ≤ s.size → n ≤ t.size → 2 * d < k → moultref1_Bytes.l0 k s t (n : Int) = some (cmpL ((bytesOf s).drop n) ((bytesOf t).drop n)) := by
  intro d
  induction d with
  | zero => intro n k hn h1; omega
  | succ d ih =>
    intro n k hn h1 h2 hk
    obtain ⟨k, rfl⟩ : ∃ j, k = j + 2 := ⟨k - 2, by omega⟩
    have ls := size_bytesOf s
    have lt := size_bytesOf t
    simp only [moultref1_Bytes.l0]
    by_cases c1 : (n : Int) < (s.size : Int)
    · rw [if_pos c1]
      simp only [moultref1_Bytes.j1]
      by_cases c2 : (n : Int) < (t.size : Int)
      · rw [if_pos (by simpa using c2), if_pos (by omega), if_pos c1, if_pos c2]
        rw [bt_get s n (by omega), bt_get t n (by omega), List.drop_eq_getElem_cons (by omega), List.drop_eq_getElem_cons (l := bytesOf t) (by omega), cmpL]
        split
        · rfl
        · split
          · rfl
          · rw [wrap_succ (by omega)]
            exact ih (n + 1) k (by omega) (by omega) (by omega) (by omega)
      · rw [if_neg (by simpa using c2), if_neg (by omega), if_pos (by omega)]
        rw [List.drop_eq_getElem_cons (by omega), List.drop_of_length_le (l := bytesOf t) (by omega), cmpL]
    · rw [if_neg c1]
      simp only [moultref1_Bytes.j1]
      rw [if_neg (by decide)]
      rw [List.drop_of_length_le (l := bytesOf s) (by omega)]
      by_cases c2 : (s.size : Int) < (t.size : Int)
      · rw [if_pos c2, List.drop_eq_getElem_cons (by omega), cmpL]
      · rw [if_neg c2, if_neg (by omega), List.drop_of_length_le (by omega), cmpL]
theorem bytes_f (s t : ByteArray) (hs : s.size < 4611686018427387904) (ht : t.size < 4611686018427387904) (k : Nat) (hk : 2 * s.size + 2 < k) : moultref1_Bytes.f k s t = some (cmpL (bytesOf s) (bytesOf t)) := by
  have := bytes_l0 s t hs ht (s.size + 1) 0 k (by omega) (by omega) (by omega) (by omega)
  exact this
end Go.Proofs.Ytbhainkcdkgbbaa.Pure

end
