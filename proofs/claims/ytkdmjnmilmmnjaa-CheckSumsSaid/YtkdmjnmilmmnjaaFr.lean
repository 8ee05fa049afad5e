import Derived.Test.YtkdmjnmilmmnjaaPx0
import Derived.Test.YtkdmjnmilmmnjaaAp
import Derived.Deep.LoopGhost
import Derived.Lib.Hide
import Derived.Outline
import Derived.WalkKit
import Derived.RegionTactic
import Derived.Deep.RegionWith
import Derived.Test.YtkdmjnmilmmnjaaPx1
import Derived.Test.YtkdmjnmilmmnjaaPx1
import Derived.Test.YtkdmjnmilmmnjaaPx1
-- Written by sprint.py (wip/tools) with the kit's print.py: a program's text, checked by Lean alone.
namespace Go.Proofs.Ytkdmjnmilmmnjaa.P
open Go.RowKit Go.Proofs.Ytkdmjnmilmmnjaa.Vp Go.Proofs.Ytkdmjnmilmmnjaa.Cp Go.Proofs.YtkdmjnmilmmnjaaW.PrintWords Go.Proofs.YtkdmjnmilmmnjaaW.PrintLast Go.Proofs.YtkdmjnmilmmnjaaW.PrintMore
attribute [local go_sem] max2_int min2_int max_two min_two max_three min_three max_four min_four   -- for this text's walks alone
set_option linter.unusedVariables false
set_option linter.unusedSimpArgs false

def frameP (s : ByteArray) : ByteArray := putP (s.size : Int) ++ s ++ strOfNums (([((sumN s : Int) / 16777216) % 256, ((sumN s : Int) / 65536) % 256, ((sumN s : Int) / 256) % 256, (sumN s : Int) % 256] : List Int))
theorem infoB : ∃ i0, Try.prog.info? 5 = some i0 ∧ i0.zero = some (.int .u8 0) ∧ i0.size = 1 ∧ i0.bytes = 1 := by
  have h : (Try.prog.info? 5).map (fun i => (i.zero, i.size, i.bytes)) = some (some (.int .u8 0), 1, 1) := by kernel_rfl
  cases hq : Try.prog.info? 5 with
  | none => rw [hq] at h; cases h
  | some i =>
    rw [hq] at h
    have h2 := Option.some.inj h
    simp only [Prod.mk.injEq] at h2
    exact ⟨i, rfl, h2.1, h2.2.1, h2.2.2⟩
def check_Frame.f (a0 : ByteArray) : Option (ByteArray × Int) := if (a0.size : Int) > 40000 then some ((⟨#[]⟩ : ByteArray), 10) else some (frameP a0, 0)
set_option maxHeartbeats 4000000 in
theorem check_Frame.calls (a0 : ByteArray) (r1 : ByteArray) (r2 : Int) (w : World) (h : check_Frame.f a0 = some (r1, r2)) :
    Calls Try.prog 10 #[.string a0] w fun e w' => e = .returned (.tuple #[.string r1, .int .i64 r2]) ∧ Below w.heap.size w w' := by
  unfold check_Frame.f at h
  by_cases c : (a0.size : Int) > 40000
  · rw [if_pos c] at h
    simp only [Option.some.injEq, Prod.mk.injEq] at h
    obtain ⟨rfl, rfl⟩ := h
    have c1 : decide (40000 < (a0.size : Int)) = true := decide_eq_true c
    have c2 : decide (40000 < a0.size) = true := decide_eq_true (by omega)
    clear c
    go_enter Try.func10, Try.ntmps10
    go_wp2
    go_ret2
    exact ⟨rfl, Below.refl _ _⟩
  · rw [if_neg c] at h
    simp only [Option.some.injEq, Prod.mk.injEq] at h
    obtain ⟨hr1, rfl⟩ := h
    have hlen : a0.size ≤ 40000 := by omega
    have HLen := Aside0.mk hlen
    have hwr : IntKind.u64.wrap (a0.size : Int) = (a0.size : Int) := by rw [IntKind.wrap_u64]; omega
    have c1 : decide (40000 < (a0.size : Int)) = false := decide_eq_false (by omega)
    have c2 : decide (40000 < a0.size) = false := decide_eq_false (by omega)
    have HPu := Aside0.mk (put_f (a0.size : Int) (by omega) (by omega))
    obtain ⟨p, hp⟩ : ∃ p, putP (a0.size : Int) = p := ⟨_, rfl⟩
    have hps := putP_size (a0.size : Int)
    rw [hp] at HPu hps
    have HPs := Aside0.mk hps
    have HS : Aside0 (check_Sum.f a0 = some (sumN a0 : Int)) := ⟨by unfold check_Sum.f; rw [if_pos (by omega)]⟩
    have hcv := fun w s => run_bytes_of_string (P := Try.prog) w 9 38 5 s Try.underlying9 Try.underlying38 Try.underlying5
    obtain ⟨i0, hi0, hz0, hz1, hz2⟩ := infoB
    have HI := Aside0.mk (And.intro hi0 (And.intro hz0 (And.intro hz1 hz2)))
    have HR1 := Aside0.mk hr1
    have HP := Aside0.mk hp
    clear c hlen hps hp hr1 hi0 hz0 hz1 hz2
    go_enter Try.func10, Try.ntmps10
    go_wp2_with (first | (go_at_call 20; go_loud ((with_reducible refine (varint_Put.calls (a0.size : Int) p _ HPu.out).mono ?_); rintro e w1 ⟨rfl, hb1⟩; obtain ⟨a', cap', w2, hap, hcells, hb2⟩ := Ap.run_append_bytes_string (P := Try.prog) w1 38 9 38 5 i0 Try.underlying38 Try.underlying9 HI.out.1 HI.out.2.1 HI.out.2.2.1 HI.out.2.2.2 p a0 (by have h1 := HLen.out; have h2 := HPs.out; omega); have HAP := Aside0.mk hap; have HC := Aside0.mk hcells; have HB := Aside0.mk (below_then (Below.refl w.heap.size w) (Nat.le_refl _) hb1); have HB2 := Aside0.mk (HB.out.trans (hb2.mono hb1.size)); clear hb1 hcells hb2 HB hap)) | ((with_reducible refine gate_dst (N := 14) rfl ?_); refine Ap.wpList_append_run rfl _ _ 38 9 rfl rfl rfl HAP.out ?_; clear HAP))
    have hfour : check_four.f (sumN a0 : Int) = some (strOfNums (([((sumN a0 : Int) / 16777216) % 256, ((sumN a0 : Int) / 65536) % 256, ((sumN a0 : Int) / 256) % 256, (sumN a0 : Int) % 256] : List Int))) := rfl
    obtain ⟨fs, hfs⟩ : ∃ fs, fs = strOfNums (([((sumN a0 : Int) / 16777216) % 256, ((sumN a0 : Int) / 65536) % 256, ((sumN a0 : Int) / 256) % 256, (sumN a0 : Int) % 256] : List Int)) := ⟨_, rfl⟩
    rw [← hfs] at hfour
    have HF := Aside0.mk hfour
    have hfsz : fs.size = 4 := by rw [hfs]; simp [strOfNums, ByteArray.size]
    have hr := HR1.out
    unfold frameP at hr
    rw [HP.out, ← hfs] at hr
    have HR := Aside0.mk hr
    obtain ⟨q, hq⟩ : ∃ q, p ++ a0 = q := ⟨_, rfl⟩
    have hqs : q.size = p.size + a0.size := by rw [← hq]; simp
    have hcv0 : ∀ W', (∀ (j : Nat) (hj : j < q.data.toList.length), W'.cell? (a'.add j) = some (.int .u8 (q.data.toList[j].toNat : Int))) → (convert 38 9 (.slice (some a') (p.size + a0.size) cap')).run Try.prog W' = .ok (.string q) W' := fun W' hc => by
      have h := run_convert_bytes_back (P := Try.prog) W' 38 9 5 a' cap' q.data.toList Try.underlying38 Try.underlying5 Try.underlying9 hc
      have e : q.data.toList.length = p.size + a0.size := by rw [Array.length_toList]; exact hqs
      rw [e] at h
      exact h
    have hC := HC.out
    rw [hq] at hC
    have hcvA := hcv0 w2.drew hC
    have hcvB := fun m : Nat => hcv0 (w2.drewN m) (fun j hj => by rw [World.cell?_drewN]; exact hC j hj)
    have hadd : q.size + fs.size ≤ 9223372036854775807 := by have h1 := HLen.out; have h2 := HPs.out; omega
    have HCV := Aside0.mk hcv0
    have HQ := Aside0.mk hq
    have HC2 := Aside0.mk hC
    have HFZ := Aside0.mk hfsz
    have HQS := Aside0.mk hqs
    clear hcv0 hq hC hfour hfs hr HC HR1 HP hcv HPu hqs hfsz c1 c2
    go_wp2
    go_region_with (first | (go_at_call 12; go_loud (refine (check_Sum.calls a0 _ _ HS.out).mono ?_; rintro e w' ⟨rfl, ⟨m, rfl⟩⟩)) | (go_at_call 21; go_loud (refine (check_four.calls (sumN a0 : Int) fs _ HF.out).mono ?_; rintro e w5 ⟨rfl, hb5⟩; have hcvC := HCV.out w5 (fun j hj => pw_cell_below hb5 (by first | exact HC2.out j hj | (rw [World.cell?_drewN]; exact HC2.out j hj))))))
    all_goals go_wp2
    all_goals go_ret2
    all_goals exact ⟨by rw [← HR.out, HQ.out]; rfl, below_step (by repeat (first | (with_reducible exact HB2.out) | (with_reducible apply pw_below_drewN) | (with_reducible apply below_drew1) | exact HB2.out)) hb5⟩
end Go.Proofs.Ytkdmjnmilmmnjaa.P
