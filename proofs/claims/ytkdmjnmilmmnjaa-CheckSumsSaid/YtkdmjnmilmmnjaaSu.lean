import Derived.Test.YtkdmjnmilmmnjaaPx0
import Derived.Test.YtkdmjnmilmmnjaaFr
import Derived.Test.YtkdmjnmilmmnjaaPx1b
import Derived.Test.YtkdmjnmilmmnjaaAp
import Derived.Test.YtkdmjnmilmmnjaaVb
import Derived.Deep.LoopGhost
import Derived.Lib.Hide
import Derived.Outline
import Derived.WalkKit
import Derived.RegionTactic
import Derived.Deep.RegionWith
import Derived.Deep.QuietTactic
import Derived.BigQuiet
import Derived.Test.YtkdmjnmilmmnjaaPx2
import Derived.Test.YtkdmjnmilmmnjaaPx1
-- Written by sprint.py (wip/tools) with the kit's print.py: a program's text, checked by Lean alone.
namespace Go.Proofs.Ytkdmjnmilmmnjaa.P
open Go.RowKit Go.Proofs.Ytkdmjnmilmmnjaa.Vp Go.Proofs.Ytkdmjnmilmmnjaa.Cp Go.Proofs.YtkdmjnmilmmnjaaW.PrintWords Go.Proofs.YtkdmjnmilmmnjaaW.PrintLast Go.Proofs.YtkdmjnmilmmnjaaW.PrintMore
attribute [local go_sem] max2_int min2_int max_two min_two max_three min_three max_four min_four   -- for this text's walks alone
set_option linter.unusedVariables false
set_option linter.unusedSimpArgs false

def mnN (x y : Nat) : Nat := if y < x then y else x
def xorL (a b c : ByteArray) (n : Nat) : List Int := (List.range n).map fun i => ((byteN a i ^^^ byteN b i ^^^ byteN c i : Nat) : Int)
def setS (s : ByteArray) (k : Nat) (v : Int) : ByteArray := ⟨(s.data.toList.set k (UInt8.ofNat (v % 256).toNat)).toArray⟩
def moultlaw5_CheckSums.f (k : Nat) (a0 a1 a2 : ByteArray) (a3 a4 : Int) : Option Bool :=
  (moultlaw5_shown.f k).bind fun sh => if sh = true then (if mnN a0.size (mnN a1.size a2.size) > 2000 then some true else if mnN a0.size (mnN a1.size a2.size) = 0 then some true else
    (moultlaw5_pick.f a3 (mnN a0.size (mnN a1.size a2.size) : Nat)).bind fun p =>
      if 0 ≤ p ∧ p < (mnN a0.size (mnN a1.size a2.size) : Nat) then
        some ((((sumN (setS (a0.extract 0 (mnN a0.size (mnN a1.size a2.size))) p.toNat a4) : Int) == (sumN (a0.extract 0 (mnN a0.size (mnN a1.size a2.size))) : Int)) == (a4 % 256 == bt a0 p)) &&
          ((sumN (strOfNums (xorL a0 a1 a2 (mnN a0.size (mnN a1.size a2.size)))) : Int) == Go.bits .xor .u32 (Go.bits .xor .u32 (sumN (a0.extract 0 (mnN a0.size (mnN a1.size a2.size))) : Int) (sumN (a1.extract 0 (mnN a0.size (mnN a1.size a2.size))) : Int)) (sumN (a2.extract 0 (mnN a0.size (mnN a1.size a2.size))) : Int)))
      else none) else none
theorem sum_any (s : ByteArray) (w : World) (hs : s.size ≤ 5000) : Calls Try.prog 12 #[.string s] w fun e w' => e = .returned (.int .u32 (sumN s : Int)) ∧ ∃ n, w' = w.drewN n :=
  (check_Sum.calls s _ w (by unfold check_Sum.f; rw [if_pos (by omega)])).mono fun e w' ⟨h1, h2⟩ => ⟨h1, h2.out⟩
theorem row_made (w : World) (m : Nat) (hm : m ≤ 9223372036854775807) : Kd.R (Kd.int .u8) 5 (w.alloc (.cells (madeCells #[.int .u8 0] m) 5)) w.heap.size (fun _ => True) (.slice (some ⟨w.heap.size, 0, none⟩) m m) (List.replicate m 0) :=
  Kd.R_of_own (by rw [List.length_replicate]; exact own_made w _ _ .u8 m (Nat.le_refl _) hm) (fun _ _ => trivial)
theorem xor3_u8 (x y z : Nat) (hx : x < 256) (hy : y < 256) (hz : z < 256) : Go.bits .xor .u8 (Go.bits .xor .u8 (x : Int) (y : Int)) (z : Int) = ((x ^^^ y ^^^ z : Nat) : Int) := by
  rw [u8_xor_nat _ _ hx hy, u8_xor_nat _ _ (Nat.xor_lt_two_pow (n := 8) hx hy) hz]
theorem xorL_set (a b c : ByteArray) (n m : Nat) (h : m < n) : (xorL a b c m ++ List.replicate (n - m) 0).set m ((byteN a m ^^^ byteN b m ^^^ byteN c m : Nat) : Int) = xorL a b c (m + 1) ++ List.replicate (n - (m + 1)) 0 := by
  have hl : (xorL a b c m).length = m := by simp [xorL]
  obtain ⟨d, hd⟩ : ∃ d, n - m = d + 1 := ⟨n - m - 1, by omega⟩
  have hd2 : n - (m + 1) = d := by omega
  rw [hd, hd2, List.set_append, if_neg (by omega), hl, Nat.sub_self, List.replicate_succ, List.set_cons_zero]
  unfold xorL
  rw [List.range_succ, List.map_append, List.append_assoc]
  rfl
theorem elem_byteN (s : ByteArray) (m : Nat) (h : m < s.size) : (s[m]).toNat = byteN s m := by
  unfold byteN
  rw [← bt_at s (m : Int) (by rw [Int.toNat_natCast]; exact h)]
  simp
theorem setS_size (s : ByteArray) (k : Nat) (v : Int) : (setS s k v).data.toList.length = s.size := by simp [setS]
theorem setS_cells (s : ByteArray) (k : Nat) (v : Int) (g : Nat) (w3 : World) (hkn : k < s.data.toList.length) (hc : ∀ (j : Nat) (hj : j < s.data.toList.length), w3.cell? ⟨g, j, none⟩ = some (.int .u8 (s.data.toList[j].toNat : Int))) :
    ∀ (j : Nat) (hj : j < (setS s k v).data.toList.length), (w3.setCell ⟨g, k, none⟩ (.int .u8 (v % 256))).cell? ((⟨g, 0, none⟩ : Addr).add j) = some (.int .u8 ((setS s k v).data.toList[j].toNat : Int)) := by
  intro j hj
  have hl : (setS s k v).data.toList = s.data.toList.set k (UInt8.ofNat (v % 256).toNat) := by simp [setS]
  have hj' : j < s.data.toList.length := by rw [hl, List.length_set] at hj; exact hj
  rw [Addr.add_lit, Nat.zero_add]
  by_cases e : j = k
  · subst e
    rw [World.cell?_setCell_same _ _ _ (hc j hj')]
    simp only [hl, List.getElem_set_self]
    have h1 : (v % 256).toNat < 256 := by omega
    rw [UInt8.toNat_ofNat', Nat.mod_eq_of_lt (by simpa using h1)]
    congr 2
    omega
  · rw [World.cell?_setCell_other _ _ _ _ (fun h => e (by injection h with _ h; exact h.symm)), hc j hj']
    simp only [hl]
    rw [List.getElem_set_ne (by omega)]
theorem setS_conv (s : ByteArray) (k : Nat) (v : Int) (g cap : Nat) (w3 : World) (hkn : k < s.data.toList.length) (hc : ∀ (j : Nat) (hj : j < s.data.toList.length), w3.cell? ⟨g, j, none⟩ = some (.int .u8 (s.data.toList[j].toNat : Int))) (n : Nat) :
    (convert 38 9 (.slice (some ⟨g, 0, none⟩) s.size cap)).run Try.prog ((w3.setCell ⟨g, k, none⟩ (.int .u8 (v % 256))).drewN n) = .ok (.string (setS s k v)) ((w3.setCell ⟨g, k, none⟩ (.int .u8 (v % 256))).drewN n) := by
  have h := run_convert_bytes_back (P := Try.prog) ((w3.setCell ⟨g, k, none⟩ (.int .u8 (v % 256))).drewN n) 38 9 5 ⟨g, 0, none⟩ cap (setS s k v).data.toList Try.underlying38 Try.underlying5 Try.underlying9 (fun j hj => by rw [World.cell?_drewN]; exact setS_cells s k v g w3 hkn hc j hj)
  rw [setS_size] at h
  exact h
set_option maxHeartbeats 4000000 in
theorem moultlaw5_CheckSums.calls (k : Nat) (a0 a1 a2 : ByteArray) (a3 a4 : Int) (r : Bool) (w : World) (h : moultlaw5_CheckSums.f k a0 a1 a2 a3 a4 = some r) :
    Calls Try.prog 8 #[.string a0, .string a1, .string a2, .int .i64 a3, .int .i64 a4] w fun e w' => e = .returned (.bool r) ∧ Below w.heap.size w w' := by
  unfold moultlaw5_CheckSums.f at h
  obtain ⟨sh, hsh, h⟩ := Option.bind_eq_some_iff.1 h
  have HSh := Aside0.mk hsh
  cases sh with
  | false => rw [if_neg (by decide)] at h; cases h
  | true =>
  rw [if_pos rfl] at h
  clear hsh
  obtain ⟨m1, hm1⟩ : ∃ m1, mnN a1.size a2.size = m1 := ⟨_, rfl⟩
  rw [hm1] at h
  obtain ⟨n, hn⟩ : ∃ n, mnN a0.size m1 = n := ⟨_, rfl⟩
  rw [hn] at h
  have hle : n ≤ a0.size ∧ n ≤ a1.size ∧ n ≤ a2.size := by
    rw [← hn, ← hm1]; unfold mnN; split <;> split <;> omega
  have M1 : (if a2.size < a1.size then (a2.size : Int) else (a1.size : Int)) = (m1 : Int) := by rw [← hm1]; unfold mnN; split <;> rfl
  have M2 : (if m1 < a0.size then (m1 : Int) else (a0.size : Int)) = (n : Int) := by rw [← hn]; unfold mnN; split <;> rfl
  clear hn hm1
  by_cases c : n > 2000
  · rw [if_pos c] at h
    obtain rfl := Option.some.inj h
    clear h
    have c1 : decide (2000 < (n : Int)) = true := decide_eq_true (by omega)
    have c2 : decide (2000 < n) = true := decide_eq_true (by omega)
    clear c
    go_enter Try.func8, Try.ntmps8
    go_wp2_with (first | (go_at_call 9; (with_reducible refine (moultlaw5_shown.calls k true _ HSh.out).mono ?_); rintro e w1 ⟨rfl, hb1⟩))
    go_ret
    exact ⟨rfl, hb1⟩
  · rw [if_neg c] at h
    have c1 : decide (2000 < (n : Int)) = false := (by simp; omega)
    have c2 : decide (2000 < n) = false := (by simp; omega)
    by_cases z : n = 0
    · rw [if_pos z] at h
      obtain rfl := Option.some.inj h
      clear h
      have z1 : ((n : Int) == 0) = true := by simp; exact z
      have z2 : (n == 0) = true := by simp; exact z
      clear c z
      go_enter Try.func8, Try.ntmps8
      go_wp2_with (first | (go_at_call 9; (with_reducible refine (moultlaw5_shown.calls k true _ HSh.out).mono ?_); rintro e w1 ⟨rfl, hb1⟩))
      go_ret
      exact ⟨rfl, hb1⟩
    · rw [if_neg z] at h
      have z1 : ((n : Int) == 0) = false := by simp; omega
      have z2 : (n == 0) = false := by simp; omega
      obtain ⟨p, hp, h⟩ := Option.bind_eq_some_iff.1 h
      split at h
      case isFalse => cases h
      case isTrue hpb =>
      have HR := Aside0.mk (Option.some.inj h)
      have HP := Aside0.mk hp
      obtain ⟨kN, rfl⟩ : ∃ kN : Nat, p = (kN : Int) := ⟨p.toNat, by omega⟩
      have hkn : kN < n := by omega
      have hmk := print_make (P := Try.prog) 38 5 .u8 1 Try.underlying38 (by kernel_rfl) (by decide) n (by omega)
      have HLe := Aside0.mk hle
      have HKN := Aside0.mk hkn
      have HN := Aside0.mk (show n ≤ 2000 by omega)
      clear h hp hpb hkn c z hle
      go_enter Try.func8, Try.ntmps8
      go_wp2_with (first | (go_at_call 9; (with_reducible refine (moultlaw5_shown.calls k true _ HSh.out).mono ?_); rintro e w1 ⟨rfl, hb1⟩; have HB1 := Aside0.mk hb1; clear hb1))
      have HX0 : Aside0 (Kd.R (Kd.int .u8) 5 (w1.alloc (.cells (madeCells #[.int .u8 0] n) 5)) w1.heap.size (fun _ => True) (.slice (some ⟨w1.heap.size, 0, none⟩) n n) (xorL a0 a1 a2 0 ++ List.replicate (n - 0) 0)) := ⟨row_made w1 n (by have := HN.out; omega)⟩
      have HB0 : Aside0 (Below w.heap.size w (w1.alloc (.cells (madeCells #[.int .u8 0] n) 5))) := ⟨below_alloc HB1.out _⟩
      have HBG : Aside0 (w.heap.size ≤ w1.heap.size) := ⟨HB1.out.size⟩
      obtain ⟨g, hg⟩ : ∃ g, g = w1.heap.size := ⟨_, rfl⟩
      rw [← hg] at HX0 HBG ⊢
      generalize w1.alloc (.cells (madeCells #[.int .u8 0] n) 5) = w2 at HX0 HB0 ⊢
      clear hmk M1 M2 hg
      go_loopg [14] n (fun kq v14 w' => ∃ (m : Nat), v14 = .int .i64 (m : Int) ∧ Aside0 (kq = n - m) ∧ Aside0 (m ≤ n) ∧ Aside0 (Kd.R (Kd.int .u8) 5 w' g (fun _ => True) (.slice (some ⟨g, 0, none⟩) n n) (xorL a0 a1 a2 m ++ List.replicate (n - m) 0)) ∧ Aside0 (Below w.heap.size w w'))
      case atStart => exact ⟨0, rfl, ⟨rfl⟩, ⟨by omega⟩, HX0, HB0⟩
      case round =>
        clear HX0 HB0
        obtain ⟨m, rfl, HKQ, HM, HF, HB⟩ := hrel
        by_cases c : m < n
        · have c3 : decide ((m : Int) < (n : Int)) = true := by simp; exact c
          have c4 : decide (m < n) = true := by simp; exact c
          have hm0 := HLe.out
          have ha0 : m < a0.size := by omega
          have ha1 : m < a1.size := by omega
          have ha2 : m < a2.size := by omega
          have hx3 := xor3_u8 (byteN a0 m) (byteN a1 m) (byteN a2 m) (byteN_lt _ _) (byteN_lt _ _) (byteN_lt _ _)
          rw [← elem_byteN a0 m ha0, ← elem_byteN a1 m ha1, ← elem_byteN a2 m ha2] at hx3
          have hln : (xorL a0 a1 a2 m ++ List.replicate (n - m) 0).length = n := by simp [xorL]; omega
          obtain ⟨hc, hf⟩ := Kd.R_celln 0 HF.out (m : Int) (by omega) (by omega)
          rw [Int.toNat_natCast] at hc hf
          obtain ⟨hput, hgr⟩ := Kd.R_putg HF.out (m : Int) ((byteN a0 m ^^^ byteN a1 m ^^^ byteN a2 m : Nat) : Int)
          rw [Int.toNat_natCast, xorL_set a0 a1 a2 n m c] at hput
          rw [← elem_byteN a0 m ha0, ← elem_byteN a1 m ha1, ← elem_byteN a2 m ha2] at hput
          have HPut := Aside0.mk hput
          have HB2 := Aside0.mk (HB.out.setCell (p := ⟨g, m, none⟩) HBG.out (.int .u8 (((a0[m]).toNat ^^^ (a1[m]).toNat ^^^ (a2[m]).toNat : Nat) : Int)))
          have hn1 : (m : Int) < 9223372036854775807 := by have := HN.out; omega
          have hn0 : 0 ≤ (m : Int) := by omega
          clear hput hgr hln hm0
          go_wp2
          go_region
          all_goals go_wp2
          all_goals go_roundg (n - (m + 1))
          case measure => have := HKQ.out; omega
          case rel => exact ⟨m + 1, by go_num, ⟨rfl⟩, ⟨by omega⟩, ⟨Kd.R_drew HPut.out⟩, ⟨below_drew1 HB2.out⟩⟩
        · have hmn : m = n := by have := HM.out; omega
          have c3 : decide ((m : Int) < (n : Int)) = false := by simp; omega
          have c4 : decide (m < n) = false := by simp; omega
          have hXF := HF.out
          rw [hmn, Nat.sub_self, List.replicate_zero, List.append_nil] at hXF
          have HXF := Aside0.mk hXF
          have hcv := fun w s => run_bytes_of_string (P := Try.prog) w 9 38 5 s Try.underlying9 Try.underlying38 Try.underlying5
          have hN0 : 0 ≤ (n : Int) := by omega
          have hle0 : (n : Int) ≤ (a0.size : Int) := by have := HLe.out; omega
          clear hXF hmn HF HKQ HM
          have hmin : min n a0.size = n := by have := HLe.out; omega
          go_wp2_with fail
          refine (moultlaw5_pick.calls a3 (n : Int) (kN : Int) _ HP.out).mono ?_
          rintro e w' ⟨rfl, ⟨mp, rfl⟩⟩
          obtain ⟨s0, hs0⟩ : ∃ s0, s0 = a0.extract 0 n := ⟨_, rfl⟩
          have hs0s : s0.size = n := by rw [hs0, ByteArray.size_extract, hmin, Nat.sub_zero]
          rw [← hs0]
          obtain ⟨cap, hcap⟩ : ∃ cap, grownCap wr n 0 5 = cap := ⟨_, rfl⟩
          have hge := grownCap_ge wr n 0 5
          rw [hcap] at hge ⊢
          obtain ⟨gy, hgy⟩ : ∃ gy, gy = wr.heap.size := ⟨_, rfl⟩
          have hbs := Ap.bytesRow_size s0 cap (by omega)
          have hsl : s0.data.toList.length = n := by rw [Array.length_toList]; exact hs0s
          have hc3 : ∀ (j : Nat) (hj : j < s0.data.toList.length), ((wr.alloc (.cells (bytesRow s0 cap) 5 ((bytesRow s0 cap).size, (bytesRow s0 cap).size + 1))).drewN (1 + mp)).cell? ⟨gy, j, none⟩ = some (.int .u8 (s0.data.toList[j].toNat : Int)) := fun j hj => by
            rw [World.cell?_drewN, hgy]
            refine (World.cell?_alloc_mark wr _ _ _ j).trans ?_
            rw [bytesRow_at s0 cap j (by rw [Array.length_toList] at hj; exact hj)]
            simp
          have hf3 : ((wr.alloc (.cells (bytesRow s0 cap) 5 ((bytesRow s0 cap).size, (bytesRow s0 cap).size + 1))).drewN (1 + mp)).frozen? ⟨gy, kN, none⟩ = false := by
            rw [World.frozen?_drewN, hgy]
            refine (World.frozen?_alloc_mark wr _ _ _ _ kN).trans ?_
            rw [decide_eq_false (show ¬ (bytesRow s0 cap).size ≤ kN by have := HKN.out; omega), Bool.false_and]
          have hb3 : Below wr.heap.size wr ((wr.alloc (.cells (bytesRow s0 cap) 5 ((bytesRow s0 cap).size, (bytesRow s0 cap).size + 1))).drewN (1 + mp)) := pw_below_drewN (below_alloc (Below.refl _ _) _) _
          have hdn : ∀ o, (wr.alloc o).drew.drewN mp = (wr.alloc o).drewN (1 + mp) := fun o => World.drewN_drewN (wr.alloc o) 1 mp
          rw [hdn, ← hgy]
          clear hdn
          generalize (wr.alloc (.cells (bytesRow s0 cap) 5 ((bytesRow s0 cap).size, (bytesRow s0 cap).size + 1))).drewN (1 + mp) = w3 at hc3 hf3 hb3 ⊢
          have hknl : kN < s0.data.toList.length := by rw [hsl]; exact HKN.out
          obtain ⟨x0, e3⟩ : ∃ x0 : Int, w3.cell? ⟨gy, kN, none⟩ = some (.int .u8 x0) := ⟨_, hc3 kN hknl⟩
          have hcvY := setS_conv s0 kN a4 gy cap w3 hknl hc3
          have hb4 : Below wr.heap.size wr (w3.setCell ⟨gy, kN, none⟩ (.int .u8 (a4 % 256))) := hb3.setCell (by rw [hgy]; exact Nat.le_refl _) _
          have HB4 := Aside0.mk hb4
          have hxr := Kd.R_below HXF.out hb4
          have hxo := own_nums hxr
          have hxl : (xorL a0 a1 a2 n).length = n := by simp [xorL]
          rw [hxl] at hxo
          have hcvX := fun (m_ : Nat) => own_string (P := Try.prog) (src := 38) (dst := 9) Try.underlying38 Try.underlying5 Try.underlying9 (Kd.own_of_R (Kd.R_drewN hxr m_))
          have hcY : (w3.setCell ⟨gy, kN, none⟩ (.int .u8 (a4 % 256))).cell? ⟨gy, kN, none⟩ = some (.int .u8 (a4 % 256)) := World.cell?_setCell_same _ _ _ e3
          have hk1 : (kN : Int) < (n : Int) := by have := HKN.out; omega
          have hk2 : 0 ≤ (kN : Int) := by omega
          have HS0 := Aside0.mk hs0
          have HS0s := Aside0.mk hs0s
          rw [hs0s] at hcvY
          clear hcv hc3 hb3 hb4 hs0 hs0s hcap hge hgy hbs hsl hxr hxo hxl hknl
          go_wp2
          generalize w3.setCell ⟨gy, kN, none⟩ (.int .u8 (a4 % 256)) = w4 at hcvY hcvX hcY HB4 ⊢
          have hZ1 : (setS s0 kN a4).size ≤ 5000 := by have h1 := setS_size s0 kN a4; have h2 := HS0s.out; have h3 := HN.out; have h4 : (setS s0 kN a4).size = (setS s0 kN a4).data.toList.length := by rw [Array.length_toList]; rfl
                                                       omega
          have hZ2 : ∀ a : ByteArray, (a.extract 0 n).size ≤ 5000 := fun a => by rw [ByteArray.size_extract]; have h3 := HN.out; omega
          have HZ1 := Aside0.mk hZ1
          have HZ2 := Aside0.mk hZ2
          have hka : kN < a0.size := by have := HLe.out; have := HKN.out; omega
          clear hZ1 hZ2 e3 hf3
          go_quiet ((go_at_call 12; refine Calls.quiet_of (sum_any _ _ (by first | exact HZ1.out | exact HZ2.out _))))
          rename_i nq
          go_wp2
          have hbt : (a0[kN].toNat : Int) = bt a0 (kN : Int) := by rw [← bt_at a0 (kN : Int) (by rw [Int.toNat_natCast]; exact hka)]; simp
          have hR := HR.out
          rw [Int.toNat_natCast, ← hbt, ← HS0.out] at hR
          have hexp : ∀ (X : Bool), (((sumN (setS s0 kN a4) : Int) == (sumN (a0.extract 0 n) : Int)) == (a4 % 256 == (a0[kN].toNat : Int))) = X → (X && ((sumN (strOfNums (xorL a0 a1 a2 n)) : Int) == Go.bits .xor .u32 (Go.bits .xor .u32 (sumN (a0.extract 0 n) : Int) (sumN (a1.extract 0 n) : Int)) (sumN (a2.extract 0 n) : Int))) = r := fun X hX => by rw [← hX, ← HS0.out]; exact hR
          have hZ3 : (strOfNums (xorL a0 a1 a2 n)).size ≤ 5000 := by rw [strOfNums_size]; have h3 := HN.out; simp [xorL]; omega
          have HZ3 := Aside0.mk hZ3
          have hl1 : (n : Int) ≤ (a1.size : Int) := by have := HLe.out; omega
          have hl2 : (n : Int) ≤ (a2.size : Int) := by have := HLe.out; omega
          have HB5 : Aside0 (Below w.heap.size w w4) := ⟨below_then HB.out HB.out.size HB4.out⟩
          have HEx := Aside0.mk hexp
          have hcvZ : ∀ m_ : Nat, (convert 38 9 (.slice (some ⟨g, 0, none⟩) n n)).run Try.prog ((w4.drewN nq).drewN m_) = .ok (.string (strOfNums (xorL a0 a1 a2 n))) ((w4.drewN nq).drewN m_) := fun m_ => by rw [World.drewN_drewN]; exact hcvX (nq + m_)
          have HB6 := Aside0.mk (pw_below_drewN HB5.out nq)
          clear hR hbt hexp hZ3 hcvY hcY hcvX HB5
          generalize w4.drewN nq = w5 at hcvZ HB6 ⊢
          generalize hone : (((sumN (setS s0 kN a4) : Int) == (sumN (a0.extract 0 n) : Int)) == (a4 % 256 == (a0[kN].toNat : Int))) = one
          have HEx2 := Aside0.mk (HEx.out one hone)
          clear hone HEx
          cases one with
          | true =>
            go_quiet ((go_at_call 12; refine Calls.quiet_of (sum_any _ _ (by first | exact HZ3.out | exact HZ2.out _))))
            all_goals go_wp2
            all_goals go_ret
            all_goals exact ⟨by rw [← HEx2.out]; rfl, pw_below_drewN HB6.out _⟩
          | false =>
            go_quiet (fail)
            all_goals go_wp2
            all_goals go_ret
            all_goals exact ⟨by rw [← HEx2.out]; rfl, pw_below_drewN HB6.out _⟩
end Go.Proofs.Ytkdmjnmilmmnjaa.P
