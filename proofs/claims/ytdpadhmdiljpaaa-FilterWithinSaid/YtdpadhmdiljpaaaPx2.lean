-- Written by sprint.py (wip/tools) with the kit's print.py: a program's text, checked by Lean alone.
import Derived.Test.YtdpadhmdiljpaaaPx0
import Derived.Test.YtdpadhmdiljpaaaPx1
namespace Go.Proofs.Ytdpadhmdiljpaaa.P
open Go.RowKit Go.Proofs.Ytdpadhmdiljpaaa.Fp Go.Proofs.YtdpadhmdiljpaaaW.PrintWords Go.Proofs.YtdpadhmdiljpaaaW.PrintLast Go.Proofs.YtdpadhmdiljpaaaW.PrintMore
attribute [local go_sem] max2_int min2_int max_two min_two max_three min_three max_four min_four   -- for this text's walks alone
set_option linter.unusedVariables false
set_option linter.unusedSimpArgs false

/-! ### filter_May: function 20 -/
set_option maxHeartbeats 800000 in
theorem has_calls (g b : Nat) (s : ByteArray) (cap : Nat) (i : Int) (w : World) (hg : w.cell? ⟨g, 0, none⟩ = some (.slice (some ⟨b, 0, none⟩) s.size cap))
    (hb : w.cell? ⟨b, (i / 8).toNat, none⟩ = some (.int .u8 (bt s (i / 8)))) (h0 : 0 ≤ i) (h1 : i / 8 < s.size) :
    Calls Try.prog 25 #[.pointer (some ⟨g, 0, none⟩), .int .i64 i] w fun e w' => e = .returned (.bool (hasBit s i)) ∧ w' = w := by
  have h2 : 0 ≤ i / 8 := by omega
  have e7 := and7 i
  have hbr := bt_range s (i / 8)
  have hfin : (Go.bits .and .u8 (bt s (i / 8) / 2 ^ (i % 8).toNat) 1 == 1) = hasBit s i := and_one_shr (bt s (i / 8)) i hbr.1 (by omega)
  have Hfin := Lib.hid hfin
  obtain ⟨q, hq⟩ : ∃ q, i % 8 = q := ⟨_, rfl⟩
  have hb0 : 0 ≤ q := by omega
  have hb1 : q < 8 := by omega
  rw [hq] at e7 Hfin
  clear hfin hbr hq
  go_enter Try.func25, Try.ntmps25
  go_wp2
  go_ret
  exact ⟨by rw [← Hfin.out]; rfl, rfl⟩
set_option maxHeartbeats 800000 in
theorem each_has (k : Nat) (key s : ByteArray) (l : List Int) (g b cap : Nat) (w : World) (h : filter_Places.f k key (wrap64 (8 * (s.size : Int))) = some l)
    (hg : w.cell? ⟨g, 0, none⟩ = some (.slice (some ⟨b, 0, none⟩) s.size cap)) (hb : ∀ j : Nat, j < s.size → w.cell? ⟨b, j, none⟩ = some (.int .u8 (bt s j)))
    (hl : ∀ x ∈ l, 0 ≤ x ∧ x < 8 * (s.size : Int)) :
    Calls Try.prog 22 #[.pointer (some ⟨g, 0, none⟩), .string key, .func (.func 25) #[.pointer (some ⟨g, 0, none⟩)] #[]] w fun e w' => e = .returned (.bool (l.all (hasBit s))) ∧ Below w.heap.size w w' := by
  have HB := Aside0.mk (Below.refl w.heap.size w)
  have A3 := Aside0.mk h
  have HBB := Aside0.mk hb
  have HLL := Aside0.mk hl
  clear h hb hl
  go_enter Try.func22, Try.ntmps22
  go_wp2_with (first | (go_at_call 13; (with_reducible refine (filter_Places.calls k key (wrap64 (8 * (s.size : Int))) l _ A3.out).mono ?_); rintro e w4 ⟨v156, rfl, ho0, hb⟩; have n0_ := Aside0.mk (Kd.R_lower ho0 (below_size (by repeat (first | (with_reducible first | exact HB.out | apply below_alloc | apply pw_below_drewN | apply below_drew1) | exact HB.out)))); have n1_ := Aside0.mk (below_step (by repeat (first | (with_reducible first | exact HB.out | apply below_alloc | apply pw_below_drewN | apply below_drew1) | exact HB.out)) hb); clear HB; have HO157 := n0_; have HB := n1_; obtain ⟨Ao15, co15, eo15⟩ := Kd.R_slice HO157.out; subst eo15; clear n0_ n1_; (try clear hb); (try clear hb2); (try clear hk); (try clear hi); (try clear ho0)))
  go_loopg [18] (l.length) (fun kq v18 w' => ∃ (n : Nat), v18 = .int .i64 (n : Int) ∧ Aside0 (kq = l.length - n) ∧ Aside0 (n ≤ l.length) ∧ Aside0 ((l.take n).all (hasBit s) = true) ∧ Aside0 (Kd.R (Kd.int .i64) 3 w' w.heap.size (fun _ => True) (.slice Ao15 l.length co15) l) ∧ Aside0 (Below w.heap.size w w'))
  case atStart => exact ⟨0, rfl, ⟨rfl⟩, ⟨by omega⟩, ⟨by simp⟩, ⟨by (with_reducible repeat (first | apply Kd.R_alloc | apply Kd.R_drewN | apply Kd.R_drew)); exact HO157.out⟩, ⟨by repeat (first | (with_reducible first | exact HB.out | apply below_alloc | apply pw_below_drewN | apply below_drew1) | exact HB.out)⟩⟩
  case round =>
    obtain ⟨n, rfl, HKQ, HN, HA, HO, HB⟩ := hrel
    by_cases c : n < l.length
    · have c1 : decide ((n : Int) < (l.length : Int)) = true := by simp; exact c
      have hx := HLL.out _ (List.getElem_mem c)
      have hn0 : 0 ≤ (n : Int) := by omega
      obtain ⟨ad158, e158, hx158_0⟩ := Kd.at_int (Kd.R_reads' HO.out).2.2 (n : Int) hn0 (by omega)
      cases e158
      have hrd : rd l (n : Int) = l[n] := by simp [rd, List.getD_eq_getElem?_getD, c]
      rw [hrd] at hx158_0
      have hg1 := pw_cell_below HB.out hg
      have hb1 := pw_cell_below HB.out (HBB.out (l[n] / 8).toNat (by omega))
      have e8 : (((l[n] / 8).toNat : Nat) : Int) = l[n] / 8 := by omega
      rw [e8] at hb1
      obtain ⟨x, hxe⟩ : ∃ x : Int, l[n] = x := ⟨_, rfl⟩
      rw [hxe] at hx158_0 hb1 hx
      have Hxe := Lib.hid hxe
      clear hxe hrd e8
      have hx0 := hx.1
      have hx1 : x / 8 < (s.size : Int) := by omega
      clear hx
      have hg2 := hg1
      clear hg
      simp only [Int.toNat_natCast] at hx158_0
      cases hbit : hasBit s x with
      | true =>
        have Hbit := Lib.hid hbit
        clear hbit
        go_wp2_with (first | (go_at_call 25; (with_reducible refine (has_calls g b s cap x _ hg2 hb1 hx0 hx1).mono ?_); rintro e w5 ⟨rfl, rfl⟩; rw [Hbit.out]))
        have hw : wrap64 ((n : Int) + 1) = ((n + 1 : Nat) : Int) := by
          have := len_small HO.out
          unfold wrap64; omega
        rw [hw]
        go_roundg (l.length - (n + 1))
        case measure => have := HKQ.out; omega
        case rel =>
          refine ⟨n + 1, rfl, ⟨rfl⟩, ⟨by omega⟩, ⟨?_⟩, ⟨HO.out⟩, ⟨HB.out⟩⟩
          rw [List.take_succ_eq_append_getElem c, List.all_append, HA.out, Hxe.out]
          simp [Hbit.out]
      | false =>
        have Hbit := Lib.hid hbit
        clear hbit
        have hall : l.all (hasBit s) = false := by
          rw [List.all_eq_false]
          exact ⟨l[n], List.getElem_mem c, by rw [Hxe.out, Hbit.out]; simp⟩
        have Hall := Lib.hid hall
        clear hall
        go_wp2_with (first | (go_at_call 25; (with_reducible refine (has_calls g b s cap x _ hg2 hb1 hx0 hx1).mono ?_); rintro e w5 ⟨rfl, rfl⟩; rw [Hbit.out]))
        go_ret
        exact ⟨by rw [Hall.out]; rfl, HB.out⟩
    · have hn := HN.out
      have en : n = l.length := by omega
      have hall : l.all (hasBit s) = true := by
        have := HA.out
        rwa [en, List.take_length] at this
      have Hall := Lib.hid hall
      have c1 : decide ((n : Int) < (l.length : Int)) = false := by simp; omega
      clear hall en
      go_wp2
      go_ret
      exact ⟨by rw [Hall.out]; rfl, HB.out⟩

def filter_May.f (a0 a1 : ByteArray) : Option Bool := if a0.size ≤ 140737488355328 ∧ a1.size < 9223372036854775807 then some (mayP a0 a1) else none
set_option maxHeartbeats 800000 in
theorem filter_May.calls (a0 a1 : ByteArray) (r : Bool) (w : World) (h : filter_May.f a0 a1 = some r) :
    Calls Try.prog 20 #[.string a0, .string a1] w fun e w' => e = .returned (.bool r) ∧ Below w.heap.size w w' := by
  unfold filter_May.f at h
  split at h
  case isFalse => simp at h
  case isTrue hh =>
  obtain ⟨hs, hks⟩ := hh
  obtain rfl := Option.some.inj h
  clear h
  have hconv := fun (W : World) => Lib.run_convert_string_bytes (P := Try.prog) W 9 37 5 a0 Try.underlying9 Try.underlying37 Try.underlying5
  have hmf : ∀ (fn : Fn) (first cap : Array Value) (w : World), (Instr.makeFunc fn first cap).run Try.prog w = .ok (.func fn first cap) w := fun _ _ _ _ => rfl
  have hbel : ∀ c, Below w.heap.size w ((Lib.bytesWorld w 5 a0).alloc (.cells #[.slice (some ⟨w.heap.size, 0, none⟩) a0.size c] 43)) := fun c => below_alloc (bytes_below (Below.refl _ _) (Nat.le_refl _) _ _) _
  have HBEL := Aside0.mk hbel
  clear hbel
  by_cases h0 : a0.size = 0
  · have hfin : mayP a0 a1 = false := by unfold mayP; rw [if_pos h0]
    have Hfin := Lib.hid hfin
    have he3 : a0 = ByteArray.empty := ByteArray.ext (Array.eq_empty_of_size_eq_zero h0)
    subst he3
    clear hfin h0 hs
    go_enter Try.func20, Try.ntmps20
    go_wp2
    go_ret
    exact ⟨by rw [Hfin.out]; rfl, HBEL.out _⟩
  · have hfin : mayP a0 a1 = (placesP a1 (8 * (a0.size : Int))).all (hasBit a0) := by unfold mayP; rw [if_neg h0]
    have Hfin := Lib.hid hfin
    have hne : a0.toList.isEmpty = false := by
      rw [Bool.eq_false_iff, Ne, List.isEmpty_iff, ByteArray.toList_eq]
      intro e
      exact h0 (by rw [← data_length, e]; rfl)
    have hpl2 : filter_Places.f (a1.size + 6) a1 (wrap64 (8 * (a0.size : Int))) = some (placesP a1 (8 * (a0.size : Int))) := by
      rw [show wrap64 (8 * (a0.size : Int)) = 8 * (a0.size : Int) from by unfold wrap64; omega]; exact places_f a1 hks (8 * (a0.size : Int)) (by omega) (a1.size + 6) (by omega)
    have HPL := Lib.hid hpl2
    have HRG := Aside0.mk (placesP_range a1 (8 * (a0.size : Int)))
    have hlt : w.heap.size < (Lib.bytesWorld w 5 a0).heap.size := by rw [Lib.bytesWorld_size]; omega
    have hg : ∀ c, ((Lib.bytesWorld w 5 a0).alloc (.cells #[.slice (some ⟨w.heap.size, 0, none⟩) a0.size c] 43)).cell? ⟨(Lib.bytesWorld w 5 a0).heap.size, 0, none⟩ = some (.slice (some ⟨w.heap.size, 0, none⟩) a0.size c) := fun c =>
      (blk_cell (by simpa using heap_alloc_new (Lib.bytesWorld w 5 a0) _) 0).trans rfl
    have hb : ∀ c, ∀ j : Nat, j < a0.size → ((Lib.bytesWorld w 5 a0).alloc (.cells #[.slice (some ⟨w.heap.size, 0, none⟩) a0.size c] 43)).cell? ⟨w.heap.size, j, none⟩ = some (.int .u8 (bt a0 j)) := by
      intro c j hj
      rw [World.cell?_alloc_lt _ _ _ hlt, Lib.bytesWorld_cell w _ a0 j hj, ← rd_bytesOf]
      have h' : j < a0.data.toList.length := by rw [data_length]; exact hj
      simp [rd, bytesOf, List.getD_eq_getElem?_getD, List.getElem?_eq_getElem h']
    have HG := Aside0.mk hg
    have HB := Aside0.mk hb
    clear hfin h0 hpl2 hg hb hlt hs hks
    go_enter Try.func20, Try.ntmps20
    go_wp2_with (first | (go_at_call 22; (with_reducible refine (each_has (a1.size + 6) a1 a0 _ _ _ _ _ HPL.out (HG.out _) (HB.out _) HRG.out).mono ?_); rintro e w5 ⟨rfl, hb5⟩; have HB5 := Aside0.mk hb5; clear hb5))
    go_ret
    exact ⟨by rw [Hfin.out]; rfl, below_then (HBEL.out _) (HBEL.out _).size HB5.out⟩


/-! ### moultlaw9_shown: function 9 -/
def moultlaw9_shown.f (k : Nat)  : Option (Bool) := (filter_Build.f (([(⟨#[97]⟩ : ByteArray)] : List ByteArray))).bind fun t111 => ((filter_Full.f k (⟨#[7]⟩ : ByteArray)).bind fun bt112 => ((filter_Build.f ([] : List ByteArray)).bind fun t114 => (if t114.toList = ([] : List UInt8) then (if (t111.size : Int) = 8 then ((filter_May.f t111 (⟨#[97]⟩ : ByteArray)).bind fun t115 => (if t115 = true then ((filter_May.f (⟨#[]⟩ : ByteArray) (⟨#[97]⟩ : ByteArray)).bind fun t116 => (if t116 = true then (some false) else ((filter_Places.f k (⟨#[97]⟩ : ByteArray) 1).bind fun t117 => ((moultlaw9_same.f k t117 (([0, 0, 0, 0] : List Int))).bind fun t123 => (if t123 = true then ((filter_Places.f k (⟨#[97]⟩ : ByteArray) 0).bind fun t124 => (if (t124.length : Int) = 0 then (if bt112.1 = 3 then (some (bt112.2 == 8)) else (some false)) else (some false))) else (some false)))))) else (some false))) else (some false)) else (some false))))
theorem moultlaw9_shown.mono : ∀ k, LeO (moultlaw9_shown.f k ) (moultlaw9_shown.f (k + 1) ) := by
  intro  k
  unfold moultlaw9_shown.f
  repeat' first
      | (with_reducible exact filter_Full.mono _ _)
      | (with_reducible exact filter_Places.mono _ _ _)
      | (with_reducible exact moultlaw9_same.mono _ _ _)
      | (with_reducible exact LeO.refl _)
      | (with_reducible exact LeO.none _)
      | (with_reducible refine LeO.ite ?_ ?_)
      | (with_reducible refine LeO.bind ?_ (fun _ => ?_))
      | exact filter_Full.mono _ _
      | exact filter_Places.mono _ _ _
      | exact moultlaw9_same.mono _ _ _
      | exact LeO.none _
      | refine LeO.ite ?_ ?_
      | refine LeO.bind ?_ (fun _ => ?_)
set_option maxHeartbeats 8000000 in
set_option maxRecDepth 100000 in
theorem moultlaw9_shown.calls (k : Nat)  (r : Bool) (w : World) (h : moultlaw9_shown.f k  = some r) :
    Calls Try.prog 9 #[] w fun e w' => e = .returned (.bool r) ∧ Below w.heap.size w w' := by
  have HB := Aside0.mk (Below.refl w.heap.size w)
  have H : ((filter_Build.f (([(⟨#[97]⟩ : ByteArray)] : List ByteArray))).bind fun t111 => ((filter_Full.f k (⟨#[7]⟩ : ByteArray)).bind fun bt112 => ((filter_Build.f ([] : List ByteArray)).bind fun t114 => (if t114.toList = ([] : List UInt8) then (if (t111.size : Int) = 8 then ((filter_May.f t111 (⟨#[97]⟩ : ByteArray)).bind fun t115 => (if t115 = true then ((filter_May.f (⟨#[]⟩ : ByteArray) (⟨#[97]⟩ : ByteArray)).bind fun t116 => (if t116 = true then (some false) else ((filter_Places.f k (⟨#[97]⟩ : ByteArray) 1).bind fun t117 => ((moultlaw9_same.f k t117 (([0, 0, 0, 0] : List Int))).bind fun t123 => (if t123 = true then ((filter_Places.f k (⟨#[97]⟩ : ByteArray) 0).bind fun t124 => (if (t124.length : Int) = 0 then (if bt112.1 = 3 then (some (bt112.2 == 8)) else (some false)) else (some false))) else (some false)))))) else (some false))) else (some false)) else (some false))))) = some r := h
  clear h
  obtain ⟨y108, hy108⟩ : ∃ y_ : List ByteArray, y_ = (([(⟨#[97]⟩ : ByteArray)] : List ByteArray)) := ⟨_, rfl⟩
  replace H : ((filter_Build.f y108).bind fun t111 => ((filter_Full.f k (⟨#[7]⟩ : ByteArray)).bind fun bt112 => ((filter_Build.f ([] : List ByteArray)).bind fun t114 => (if t114.toList = ([] : List UInt8) then (if (t111.size : Int) = 8 then ((filter_May.f t111 (⟨#[97]⟩ : ByteArray)).bind fun t115 => (if t115 = true then ((filter_May.f (⟨#[]⟩ : ByteArray) (⟨#[97]⟩ : ByteArray)).bind fun t116 => (if t116 = true then (some false) else ((filter_Places.f k (⟨#[97]⟩ : ByteArray) 1).bind fun t117 => ((moultlaw9_same.f k t117 (([0, 0, 0, 0] : List Int))).bind fun t123 => (if t123 = true then ((filter_Places.f k (⟨#[97]⟩ : ByteArray) 0).bind fun t124 => (if (t124.length : Int) = 0 then (if bt112.1 = 3 then (some (bt112.2 == 8)) else (some false)) else (some false))) else (some false)))))) else (some false))) else (some false)) else (some false))))) = some r := by first | (rw [hy108]; with_reducible exact H) | (have H2_ := (Option.bind_some _ _).symm.trans H; rw [hy108]; with_reducible exact H2_) | (have H2_ := (Option.bind_some _ _).symm.trans H; with_reducible exact H2_) | with_reducible exact H | (rw [hy108]; exact H) | exact H
  have Ny108 := Aside0.mk hy108
  clear hy108
  replace H := Option.bind_eq_some_iff.mp H
  obtain ⟨t111, A10, H⟩ := H
  replace H : ((filter_Full.f k (⟨#[7]⟩ : ByteArray)).bind fun bt112 => ((filter_Build.f ([] : List ByteArray)).bind fun t114 => (if t114.toList = ([] : List UInt8) then (if (t111.size : Int) = 8 then ((filter_May.f t111 (⟨#[97]⟩ : ByteArray)).bind fun t115 => (if t115 = true then ((filter_May.f (⟨#[]⟩ : ByteArray) (⟨#[97]⟩ : ByteArray)).bind fun t116 => (if t116 = true then (some false) else ((filter_Places.f k (⟨#[97]⟩ : ByteArray) 1).bind fun t117 => ((moultlaw9_same.f k t117 (([0, 0, 0, 0] : List Int))).bind fun t123 => (if t123 = true then ((filter_Places.f k (⟨#[97]⟩ : ByteArray) 0).bind fun t124 => (if (t124.length : Int) = 0 then (if bt112.1 = 3 then (some (bt112.2 == 8)) else (some false)) else (some false))) else (some false)))))) else (some false))) else (some false)) else (some false)))) = some r := H
  have A1 := Aside0.mk A10
  clear A10
  replace H := Option.bind_eq_some_iff.mp H
  obtain ⟨⟨t112, t113⟩, A20, H⟩ := H
  replace H : ((filter_Build.f ([] : List ByteArray)).bind fun t114 => (if t114.toList = ([] : List UInt8) then (if (t111.size : Int) = 8 then ((filter_May.f t111 (⟨#[97]⟩ : ByteArray)).bind fun t115 => (if t115 = true then ((filter_May.f (⟨#[]⟩ : ByteArray) (⟨#[97]⟩ : ByteArray)).bind fun t116 => (if t116 = true then (some false) else ((filter_Places.f k (⟨#[97]⟩ : ByteArray) 1).bind fun t117 => ((moultlaw9_same.f k t117 (([0, 0, 0, 0] : List Int))).bind fun t123 => (if t123 = true then ((filter_Places.f k (⟨#[97]⟩ : ByteArray) 0).bind fun t124 => (if (t124.length : Int) = 0 then (if t112 = 3 then (some (t113 == 8)) else (some false)) else (some false))) else (some false)))))) else (some false))) else (some false)) else (some false))) = some r := H
  have A2 := Aside0.mk A20
  clear A20
  replace H := Option.bind_eq_some_iff.mp H
  obtain ⟨t114, A30, H⟩ := H
  replace H : (if t114.toList = ([] : List UInt8) then (if (t111.size : Int) = 8 then ((filter_May.f t111 (⟨#[97]⟩ : ByteArray)).bind fun t115 => (if t115 = true then ((filter_May.f (⟨#[]⟩ : ByteArray) (⟨#[97]⟩ : ByteArray)).bind fun t116 => (if t116 = true then (some false) else ((filter_Places.f k (⟨#[97]⟩ : ByteArray) 1).bind fun t117 => ((moultlaw9_same.f k t117 (([0, 0, 0, 0] : List Int))).bind fun t123 => (if t123 = true then ((filter_Places.f k (⟨#[97]⟩ : ByteArray) 0).bind fun t124 => (if (t124.length : Int) = 0 then (if t112 = 3 then (some (t113 == 8)) else (some false)) else (some false))) else (some false)))))) else (some false))) else (some false)) else (some false)) = some r := H
  have A3 := Aside0.mk A30
  clear A30
  by_cases c4 : t114.toList = ([] : List UInt8)
  · rw [if_pos c4] at H
    have c4b0 : (t114.toList == ([] : List UInt8)) = true := beq_iff_eq.mpr c4
    have c4b1 : (t114.toList != ([] : List UInt8)) = false := bne_eq_false_iff_eq.mpr c4
    clear c4
    by_cases c5 : (t111.size : Int) = 8
    · rw [if_pos c5] at H
      have c5b0 : ((t111.size : Int) == 8) = true := beq_iff_eq.mpr c5
      have c5b1 : ((t111.size : Int) != 8) = false := bne_eq_false_iff_eq.mpr c5
      clear c5
      replace H := Option.bind_eq_some_iff.mp H
      obtain ⟨t115, A60, H⟩ := H
      replace H : (if t115 = true then ((filter_May.f (⟨#[]⟩ : ByteArray) (⟨#[97]⟩ : ByteArray)).bind fun t116 => (if t116 = true then (some false) else ((filter_Places.f k (⟨#[97]⟩ : ByteArray) 1).bind fun t117 => ((moultlaw9_same.f k t117 (([0, 0, 0, 0] : List Int))).bind fun t123 => (if t123 = true then ((filter_Places.f k (⟨#[97]⟩ : ByteArray) 0).bind fun t124 => (if (t124.length : Int) = 0 then (if t112 = 3 then (some (t113 == 8)) else (some false)) else (some false))) else (some false)))))) else (some false)) = some r := H
      have A6 := Aside0.mk A60
      clear A60
      by_cases c7 : t115 = true
      · subst c7
        have H1 : ((filter_May.f (⟨#[]⟩ : ByteArray) (⟨#[97]⟩ : ByteArray)).bind fun t116 => (if t116 = true then (some false) else ((filter_Places.f k (⟨#[97]⟩ : ByteArray) 1).bind fun t117 => ((moultlaw9_same.f k t117 (([0, 0, 0, 0] : List Int))).bind fun t123 => (if t123 = true then ((filter_Places.f k (⟨#[97]⟩ : ByteArray) 0).bind fun t124 => (if (t124.length : Int) = 0 then (if t112 = 3 then (some (t113 == 8)) else (some false)) else (some false))) else (some false)))))) = some r := by rw [if_pos rfl] at H; exact H
        clear H
        have H := H1
        clear H1
        replace H := Option.bind_eq_some_iff.mp H
        obtain ⟨t116, A80, H⟩ := H
        replace H : (if t116 = true then (some false) else ((filter_Places.f k (⟨#[97]⟩ : ByteArray) 1).bind fun t117 => ((moultlaw9_same.f k t117 (([0, 0, 0, 0] : List Int))).bind fun t123 => (if t123 = true then ((filter_Places.f k (⟨#[97]⟩ : ByteArray) 0).bind fun t124 => (if (t124.length : Int) = 0 then (if t112 = 3 then (some (t113 == 8)) else (some false)) else (some false))) else (some false))))) = some r := H
        have A8 := Aside0.mk A80
        clear A80
        by_cases c9 : t116 = true
        · subst c9
          have H1 : (some false) = some r := by rw [if_pos rfl] at H; exact H
          clear H
          have H := H1
          clear H1
          obtain rfl := Option.some.inj H
          go_enter Try.func9, Try.ntmps9
          go_wp2_with (first | ((with_reducible refine gate_dst (N := 4) rfl ?_); (try (refine gate_guard (by rfl) ?_; dsimp only)); refine Kd.R_lit Kd.string _ 9 ?hg (N := 4) ?hd (xs := ([(⟨#[97]⟩ : ByteArray)] : List ByteArray)) (inner := [.string (⟨#[97]⟩ : ByteArray)]) (ok := fun _ => True) (okp := fun _ => True) ?hr ?hp (fun _ hk => hk) trivial (Below.refl _ _) (Nat.le_refl _) (by simp) ?_; (case hd => rfl); (case hg => rfl); (case hr => first | (go_simp; done) | (go_simp; rfl)); (case hp => exact (Reps.one (show Kd.M Kd.string _ _ _ (⟨#[97]⟩ : ByteArray) [.string (⟨#[97]⟩ : ByteArray)] from rfl) (Reps.none _ _))); intro v109 w10 ho11 hb hg_ hnew_; clear hg_ hnew_; (first | rw [← Ny108.out] at ho11 | (simp only [Int.reduceToNat] at ho11; rw [← Ny108.out] at ho11)); have n0_ := Aside0.mk (Kd.R_lower ho11 (below_size (by repeat (first | (with_reducible first | exact HB.out | apply below_alloc | apply pw_below_drewN | apply below_drew1) | exact HB.out)))); have n1_ := Aside0.mk (below_step (by repeat (first | (with_reducible first | exact HB.out | apply below_alloc | apply pw_below_drewN | apply below_drew1) | exact HB.out)) hb); clear HB; have HO110 := n0_; have HB := n1_; clear n0_ n1_; clear hb ho11; obtain ⟨Ao12, co12, eo12⟩ := Kd.R_slice HO110.out; subst eo12) | ((with_reducible refine gate_callee (f := 16) rfl ?_); refine goesL_ (some 5) rfl rfl Try.func16 (by kernel_rfl) rfl #[.slice Ao12 y108.length co12] rfl (by (try simp only [List.map_toArray, List.map_cons, List.map_nil]); first | done | rfl | (simp only [List.length_drop, List.length_take]; rfl)) ?_; (with_reducible refine (filter_Build.calls _ _ y108 t111 _ ?side1 ?side2 A1.out).mono ?_); (case side1 => repeat (first | exact (Kd.R_reads' HO110.out).2.2 | (with_reducible refine Kd.C_alloc ?_ _) | (with_reducible refine Kd.C_drewN ?_ _) | (with_reducible refine Kd.C_drew ?_))); (case side2 => exact (Kd.R_reads' HO110.out).2.1); rintro e w13 ⟨rfl, hb⟩; refine ⟨_, rfl, ?_⟩; have n0_ := Aside0.mk (Kd.R_below (by (with_reducible repeat (first | apply Kd.R_alloc | apply Kd.R_drewN | apply Kd.R_drew)); exact HO110.out) hb); have n1_ := Aside0.mk (below_step (by repeat (first | (with_reducible first | exact HB.out | apply below_alloc | apply pw_below_drewN | apply below_drew1) | exact HB.out)) hb); clear HO110; clear HB; have HO110 := n0_; have HB := n1_; clear n0_ n1_; (try clear hb); (try clear hb2); (try clear hk); (try clear hi)) | ((with_reducible refine gate_callee (f := 17) rfl ?_); refine goesL_ (some 7) rfl rfl Try.func17 (by kernel_rfl) rfl #[.string (⟨#[7]⟩ : ByteArray)] rfl (by (try simp only [List.map_toArray, List.map_cons, List.map_nil]); first | done | rfl | (simp only [List.length_drop, List.length_take]; rfl)) ?_; (with_reducible refine (filter_Full.calls k (⟨#[7]⟩ : ByteArray) t112 t113 _ A2.out).mono ?_); rintro e w' ⟨rfl, ⟨nd, rfl⟩⟩; refine ⟨_, rfl, ?_⟩) | ((with_reducible refine gate_callee (f := 16) rfl ?_); refine goesL_ (some 10) rfl rfl Try.func16 (by kernel_rfl) rfl #[.slice none 0 0] rfl (by (try simp only [List.map_toArray, List.map_cons, List.map_nil]); first | done | rfl | (simp only [List.length_drop, List.length_take]; rfl)) ?_; (refine (filter_Build.calls _ _ ([] : List ByteArray) t114 _ ?side1 ?side2 A3.out).mono ?_); (case side1 => exact Kd.C_nil _ _); (case side2 => exact Nat.le_refl _); rintro e w14 ⟨rfl, hb⟩; refine ⟨_, rfl, ?_⟩; have n0_ := Aside0.mk (Kd.R_below (by (with_reducible repeat (first | apply Kd.R_alloc | apply Kd.R_drewN | apply Kd.R_drew)); exact HO110.out) hb); have n1_ := Aside0.mk (below_step (by repeat (first | (with_reducible first | exact HB.out | apply below_alloc | apply pw_below_drewN | apply below_drew1) | exact HB.out)) hb); clear HO110; clear HB; have HO110 := n0_; have HB := n1_; clear n0_ n1_; (try clear hb); (try clear hb2); (try clear hk); (try clear hi)) | (go_at_call 20; (with_reducible refine (filter_May.calls t111 (⟨#[97]⟩ : ByteArray) true _ A6.out).mono ?_); rintro e w15 ⟨rfl, hb⟩; have n0_ := Aside0.mk (Kd.R_below (by (with_reducible repeat (first | apply Kd.R_alloc | apply Kd.R_drewN | apply Kd.R_drew)); exact HO110.out) hb); have n1_ := Aside0.mk (below_step (by repeat (first | (with_reducible first | exact HB.out | apply below_alloc | apply pw_below_drewN | apply below_drew1) | exact HB.out)) hb); clear HO110; clear HB; have HO110 := n0_; have HB := n1_; clear n0_ n1_; (try clear hb); (try clear hb2); (try clear hk); (try clear hi)) | (go_at_call 20; (with_reducible refine (filter_May.calls (⟨#[]⟩ : ByteArray) (⟨#[97]⟩ : ByteArray) true _ A8.out).mono ?_); rintro e w16 ⟨rfl, hb⟩; have n0_ := Aside0.mk (Kd.R_below (by (with_reducible repeat (first | apply Kd.R_alloc | apply Kd.R_drewN | apply Kd.R_drew)); exact HO110.out) hb); have n1_ := Aside0.mk (below_step (by repeat (first | (with_reducible first | exact HB.out | apply below_alloc | apply pw_below_drewN | apply below_drew1) | exact HB.out)) hb); clear HO110; clear HB; have HO110 := n0_; have HB := n1_; clear n0_ n1_; (try clear hb); (try clear hb2); (try clear hk); (try clear hi)))
          go_ret
          exact ⟨by first | rfl | (simp [errW_none, errW_some] <;> rfl) | (simp [*, errW_none, errW_some] <;> rfl), by repeat (first | (with_reducible first | exact HB.out | apply below_alloc | apply pw_below_drewN | apply below_drew1) | exact HB.out)⟩
        · replace c9 := Bool.eq_false_iff.mpr c9
          subst c9
          have H1 : ((filter_Places.f k (⟨#[97]⟩ : ByteArray) 1).bind fun t117 => ((moultlaw9_same.f k t117 (([0, 0, 0, 0] : List Int))).bind fun t123 => (if t123 = true then ((filter_Places.f k (⟨#[97]⟩ : ByteArray) 0).bind fun t124 => (if (t124.length : Int) = 0 then (if t112 = 3 then (some (t113 == 8)) else (some false)) else (some false))) else (some false)))) = some r := by rw [if_neg (show ¬ (false = true) by decide)] at H; exact H
          clear H
          have H := H1
          clear H1
          replace H := Option.bind_eq_some_iff.mp H
          obtain ⟨t117, A170, H⟩ := H
          replace H : ((moultlaw9_same.f k t117 (([0, 0, 0, 0] : List Int))).bind fun t123 => (if t123 = true then ((filter_Places.f k (⟨#[97]⟩ : ByteArray) 0).bind fun t124 => (if (t124.length : Int) = 0 then (if t112 = 3 then (some (t113 == 8)) else (some false)) else (some false))) else (some false))) = some r := H
          have A17 := Aside0.mk A170
          clear A170
          obtain ⟨y120, hy120⟩ : ∃ y_ : List Int, y_ = (([0, 0, 0, 0] : List Int)) := ⟨_, rfl⟩
          replace H : ((moultlaw9_same.f k t117 y120).bind fun t123 => (if t123 = true then ((filter_Places.f k (⟨#[97]⟩ : ByteArray) 0).bind fun t124 => (if (t124.length : Int) = 0 then (if t112 = 3 then (some (t113 == 8)) else (some false)) else (some false))) else (some false))) = some r := by first | (rw [hy120]; with_reducible exact H) | (have H2_ := (Option.bind_some _ _).symm.trans H; rw [hy120]; with_reducible exact H2_) | (have H2_ := (Option.bind_some _ _).symm.trans H; with_reducible exact H2_) | with_reducible exact H | (rw [hy120]; exact H) | exact H
          have Ny120 := Aside0.mk hy120
          clear hy120
          replace H := Option.bind_eq_some_iff.mp H
          obtain ⟨t123, A180, H⟩ := H
          replace H : (if t123 = true then ((filter_Places.f k (⟨#[97]⟩ : ByteArray) 0).bind fun t124 => (if (t124.length : Int) = 0 then (if t112 = 3 then (some (t113 == 8)) else (some false)) else (some false))) else (some false)) = some r := H
          have A18 := Aside0.mk A180
          clear A180
          by_cases c19 : t123 = true
          · subst c19
            have H1 : ((filter_Places.f k (⟨#[97]⟩ : ByteArray) 0).bind fun t124 => (if (t124.length : Int) = 0 then (if t112 = 3 then (some (t113 == 8)) else (some false)) else (some false))) = some r := by rw [if_pos rfl] at H; exact H
            clear H
            have H := H1
            clear H1
            replace H := Option.bind_eq_some_iff.mp H
            obtain ⟨t124, A200, H⟩ := H
            replace H : (if (t124.length : Int) = 0 then (if t112 = 3 then (some (t113 == 8)) else (some false)) else (some false)) = some r := H
            have A20 := Aside0.mk A200
            clear A200
            by_cases c21 : (t124.length : Int) = 0
            · rw [if_pos c21] at H
              have c21b0 : ((t124.length : Int) == 0) = true := beq_iff_eq.mpr c21
              have c21b1 : ((t124.length : Int) != 0) = false := bne_eq_false_iff_eq.mpr c21
              clear c21
              by_cases c22 : t112 = 3
              · rw [if_pos c22] at H
                have c22b0 : (t112 == 3) = true := beq_iff_eq.mpr c22
                have c22b1 : (t112 != 3) = false := bne_eq_false_iff_eq.mpr c22
                clear c22
                obtain rfl := Option.some.inj H
                go_enter Try.func9, Try.ntmps9
                go_wp2_with (first | ((with_reducible refine gate_dst (N := 4) rfl ?_); (try (refine gate_guard (by rfl) ?_; dsimp only)); refine Kd.R_lit Kd.string _ 9 ?hg (N := 4) ?hd (xs := ([(⟨#[97]⟩ : ByteArray)] : List ByteArray)) (inner := [.string (⟨#[97]⟩ : ByteArray)]) (ok := fun _ => True) (okp := fun _ => True) ?hr ?hp (fun _ hk => hk) trivial (Below.refl _ _) (Nat.le_refl _) (by simp) ?_; (case hd => rfl); (case hg => rfl); (case hr => first | (go_simp; done) | (go_simp; rfl)); (case hp => exact (Reps.one (show Kd.M Kd.string _ _ _ (⟨#[97]⟩ : ByteArray) [.string (⟨#[97]⟩ : ByteArray)] from rfl) (Reps.none _ _))); intro v109 w23 ho24 hb hg_ hnew_; clear hg_ hnew_; (first | rw [← Ny108.out] at ho24 | (simp only [Int.reduceToNat] at ho24; rw [← Ny108.out] at ho24)); have n0_ := Aside0.mk (Kd.R_lower ho24 (below_size (by repeat (first | (with_reducible first | exact HB.out | apply below_alloc | apply pw_below_drewN | apply below_drew1) | exact HB.out)))); have n1_ := Aside0.mk (below_step (by repeat (first | (with_reducible first | exact HB.out | apply below_alloc | apply pw_below_drewN | apply below_drew1) | exact HB.out)) hb); clear HB; have HO110 := n0_; have HB := n1_; clear n0_ n1_; clear hb ho24; obtain ⟨Ao25, co25, eo25⟩ := Kd.R_slice HO110.out; subst eo25) | ((with_reducible refine gate_callee (f := 16) rfl ?_); refine goesL_ (some 5) rfl rfl Try.func16 (by kernel_rfl) rfl #[.slice Ao25 y108.length co25] rfl (by (try simp only [List.map_toArray, List.map_cons, List.map_nil]); first | done | rfl | (simp only [List.length_drop, List.length_take]; rfl)) ?_; (with_reducible refine (filter_Build.calls _ _ y108 t111 _ ?side1 ?side2 A1.out).mono ?_); (case side1 => repeat (first | exact (Kd.R_reads' HO110.out).2.2 | (with_reducible refine Kd.C_alloc ?_ _) | (with_reducible refine Kd.C_drewN ?_ _) | (with_reducible refine Kd.C_drew ?_))); (case side2 => exact (Kd.R_reads' HO110.out).2.1); rintro e w26 ⟨rfl, hb⟩; refine ⟨_, rfl, ?_⟩; have n0_ := Aside0.mk (Kd.R_below (by (with_reducible repeat (first | apply Kd.R_alloc | apply Kd.R_drewN | apply Kd.R_drew)); exact HO110.out) hb); have n1_ := Aside0.mk (below_step (by repeat (first | (with_reducible first | exact HB.out | apply below_alloc | apply pw_below_drewN | apply below_drew1) | exact HB.out)) hb); clear HO110; clear HB; have HO110 := n0_; have HB := n1_; clear n0_ n1_; (try clear hb); (try clear hb2); (try clear hk); (try clear hi)) | ((with_reducible refine gate_callee (f := 17) rfl ?_); refine goesL_ (some 7) rfl rfl Try.func17 (by kernel_rfl) rfl #[.string (⟨#[7]⟩ : ByteArray)] rfl (by (try simp only [List.map_toArray, List.map_cons, List.map_nil]); first | done | rfl | (simp only [List.length_drop, List.length_take]; rfl)) ?_; (with_reducible refine (filter_Full.calls k (⟨#[7]⟩ : ByteArray) t112 t113 _ A2.out).mono ?_); rintro e w' ⟨rfl, ⟨nd, rfl⟩⟩; refine ⟨_, rfl, ?_⟩) | ((with_reducible refine gate_callee (f := 16) rfl ?_); refine goesL_ (some 10) rfl rfl Try.func16 (by kernel_rfl) rfl #[.slice none 0 0] rfl (by (try simp only [List.map_toArray, List.map_cons, List.map_nil]); first | done | rfl | (simp only [List.length_drop, List.length_take]; rfl)) ?_; (refine (filter_Build.calls _ _ ([] : List ByteArray) t114 _ ?side1 ?side2 A3.out).mono ?_); (case side1 => exact Kd.C_nil _ _); (case side2 => exact Nat.le_refl _); rintro e w27 ⟨rfl, hb⟩; refine ⟨_, rfl, ?_⟩; have n0_ := Aside0.mk (Kd.R_below (by (with_reducible repeat (first | apply Kd.R_alloc | apply Kd.R_drewN | apply Kd.R_drew)); exact HO110.out) hb); have n1_ := Aside0.mk (below_step (by repeat (first | (with_reducible first | exact HB.out | apply below_alloc | apply pw_below_drewN | apply below_drew1) | exact HB.out)) hb); clear HO110; clear HB; have HO110 := n0_; have HB := n1_; clear n0_ n1_; (try clear hb); (try clear hb2); (try clear hk); (try clear hi)) | (go_at_call 20; (with_reducible refine (filter_May.calls t111 (⟨#[97]⟩ : ByteArray) true _ A6.out).mono ?_); rintro e w28 ⟨rfl, hb⟩; have n0_ := Aside0.mk (Kd.R_below (by (with_reducible repeat (first | apply Kd.R_alloc | apply Kd.R_drewN | apply Kd.R_drew)); exact HO110.out) hb); have n1_ := Aside0.mk (below_step (by repeat (first | (with_reducible first | exact HB.out | apply below_alloc | apply pw_below_drewN | apply below_drew1) | exact HB.out)) hb); clear HO110; clear HB; have HO110 := n0_; have HB := n1_; clear n0_ n1_; (try clear hb); (try clear hb2); (try clear hk); (try clear hi)) | (go_at_call 20; (with_reducible refine (filter_May.calls (⟨#[]⟩ : ByteArray) (⟨#[97]⟩ : ByteArray) false _ A8.out).mono ?_); rintro e w29 ⟨rfl, hb⟩; have n0_ := Aside0.mk (Kd.R_below (by (with_reducible repeat (first | apply Kd.R_alloc | apply Kd.R_drewN | apply Kd.R_drew)); exact HO110.out) hb); have n1_ := Aside0.mk (below_step (by repeat (first | (with_reducible first | exact HB.out | apply below_alloc | apply pw_below_drewN | apply below_drew1) | exact HB.out)) hb); clear HO110; clear HB; have HO110 := n0_; have HB := n1_; clear n0_ n1_; (try clear hb); (try clear hb2); (try clear hk); (try clear hi)) | (go_at_call 13; (with_reducible refine (filter_Places.calls k (⟨#[97]⟩ : ByteArray) 1 t117 _ A17.out).mono ?_); rintro e w30 ⟨v118, rfl, ho0, hb⟩; have n0_ := Aside0.mk (Kd.R_below (by (with_reducible repeat (first | apply Kd.R_alloc | apply Kd.R_drewN | apply Kd.R_drew)); exact HO110.out) hb); have n1_ := Aside0.mk (Kd.R_lower ho0 (below_size (by repeat (first | (with_reducible first | exact HB.out | apply below_alloc | apply pw_below_drewN | apply below_drew1) | exact HB.out)))); have n2_ := Aside0.mk (below_step (by repeat (first | (with_reducible first | exact HB.out | apply below_alloc | apply pw_below_drewN | apply below_drew1) | exact HB.out)) hb); clear HO110; clear HB; have HO110 := n0_; have HO119 := n1_; have HB := n2_; clear n0_ n1_ n2_; (try clear hb); (try clear hb2); (try clear hk); (try clear hi); (try clear ho0)) | ((with_reducible refine gate_dst (N := 27) rfl ?_); (try (refine gate_guard (by rfl) ?_; dsimp only)); refine Kd.R_lit (Kd.int .i64) _ 3 ?hg (N := 27) ?hd (xs := ([0, 0, 0, 0] : List Int)) (inner := [.int .i64 0, .int .i64 0, .int .i64 0, .int .i64 0]) (ok := fun _ => True) (okp := fun _ => True) ?hr ?hp (fun _ hk => hk) trivial (Below.refl _ _) (Nat.le_refl _) (by simp) ?_; (case hd => rfl); (case hg => rfl); (case hr => first | (go_simp; done) | (go_simp; rfl)); (case hp => exact (Reps.one (show Kd.M (Kd.int .i64) _ _ _ 0 [.int .i64 0] from rfl) (Reps.one (show Kd.M (Kd.int .i64) _ _ _ 0 [.int .i64 0] from rfl) (Reps.one (show Kd.M (Kd.int .i64) _ _ _ 0 [.int .i64 0] from rfl) (Reps.one (show Kd.M (Kd.int .i64) _ _ _ 0 [.int .i64 0] from rfl) (Reps.none _ _)))))); intro v121 w31 ho32 hb hg_ hnew_; clear hg_ hnew_; (first | rw [← Ny120.out] at ho32 | (simp only [Int.reduceToNat] at ho32; rw [← Ny120.out] at ho32)); have n0_ := Aside0.mk (Kd.R_below (by (with_reducible repeat (first | apply Kd.R_alloc | apply Kd.R_drewN | apply Kd.R_drew)); exact HO110.out) hb); have n1_ := Aside0.mk (Kd.R_elder' (by (with_reducible repeat (first | apply Kd.R_alloc | apply Kd.R_drewN | apply Kd.R_drew)); exact HO119.out) (Kd.R_base ho32) hb); have n2_ := Aside0.mk (Kd.R_lower (Kd.R_new' ho32 (Kd.R_lt (by (with_reducible repeat (first | apply Kd.R_alloc | apply Kd.R_drewN | apply Kd.R_drew)); exact HO119.out))) (below_size (by repeat (first | (with_reducible first | exact HB.out | apply below_alloc | apply pw_below_drewN | apply below_drew1) | exact HB.out)))); have n3_ := Aside0.mk (below_step (by repeat (first | (with_reducible first | exact HB.out | apply below_alloc | apply pw_below_drewN | apply below_drew1) | exact HB.out)) hb); clear HO110; clear HO119; clear HB; have HO110 := n0_; have HO119 := n1_; have HO122 := n2_; have HB := n3_; clear n0_ n1_ n2_ n3_; clear hb ho32; obtain ⟨Ao33, co33, eo33⟩ := Kd.R_slice HO119.out; subst eo33; obtain ⟨Ao34, co34, eo34⟩ := Kd.R_slice HO122.out; subst eo34) | (go_at_call 12; (with_reducible refine (moultlaw9_same.calls k _ _ t117 _ _ y120 true _ ?side1 ?side2 ?side3 ?side4 A18.out).mono ?_); (case side1 => repeat (first | exact (Kd.R_reads' HO119.out).2.2 | (with_reducible refine Kd.C_alloc ?_ _) | (with_reducible refine Kd.C_drewN ?_ _) | (with_reducible refine Kd.C_drew ?_))); (case side2 => exact (Kd.R_reads' HO119.out).2.1); (case side3 => repeat (first | exact (Kd.R_reads' HO122.out).2.2 | (with_reducible refine Kd.C_alloc ?_ _) | (with_reducible refine Kd.C_drewN ?_ _) | (with_reducible refine Kd.C_drew ?_))); (case side4 => exact (Kd.R_reads' HO122.out).2.1); rintro e w' ⟨rfl, ⟨nd, rfl⟩⟩) | (go_at_call 13; (with_reducible refine (filter_Places.calls k (⟨#[97]⟩ : ByteArray) 0 t124 _ A20.out).mono ?_); rintro e w35 ⟨v125, rfl, ho0, hb⟩; have n0_ := Aside0.mk (Kd.R_below (by (with_reducible repeat (first | apply Kd.R_alloc | apply Kd.R_drewN | apply Kd.R_drew)); exact HO110.out) hb); have n1_ := Aside0.mk (Kd.R_elder' (by (with_reducible repeat (first | apply Kd.R_alloc | apply Kd.R_drewN | apply Kd.R_drew)); exact HO119.out) (Kd.R_base ho0) hb); have n2_ := Aside0.mk (Kd.R_elder' (by (with_reducible repeat (first | apply Kd.R_alloc | apply Kd.R_drewN | apply Kd.R_drew)); exact HO122.out) (Kd.R_base ho0) hb); have n3_ := Aside0.mk (Kd.R_lower (Kd.R_new' (Kd.R_new' ho0 (Kd.R_lt (by (with_reducible repeat (first | apply Kd.R_alloc | apply Kd.R_drewN | apply Kd.R_drew)); exact HO119.out))) (Kd.R_lt (by (with_reducible repeat (first | apply Kd.R_alloc | apply Kd.R_drewN | apply Kd.R_drew)); exact HO122.out))) (below_size (by repeat (first | (with_reducible first | exact HB.out | apply below_alloc | apply pw_below_drewN | apply below_drew1) | exact HB.out)))); have n4_ := Aside0.mk (below_step (by repeat (first | (with_reducible first | exact HB.out | apply below_alloc | apply pw_below_drewN | apply below_drew1) | exact HB.out)) hb); clear HO110; clear HO119; clear HO122; clear HB; have HO110 := n0_; have HO119 := n1_; have HO122 := n2_; have HO126 := n3_; have HB := n4_; clear n0_ n1_ n2_ n3_ n4_; (try clear hb); (try clear hb2); (try clear hk); (try clear hi); (try clear ho0); obtain ⟨Ao36, co36, eo36⟩ := Kd.R_slice HO126.out; subst eo36))
                go_ret
                exact ⟨by first | rfl | (simp [errW_none, errW_some] <;> rfl) | (simp [*, errW_none, errW_some] <;> rfl), by repeat (first | (with_reducible first | exact HB.out | apply below_alloc | apply pw_below_drewN | apply below_drew1) | exact HB.out)⟩
              · rw [if_neg c22] at H
                have c22b0 : (t112 == 3) = false := beq_eq_false_iff_ne.mpr c22
                have c22b1 : (t112 != 3) = true := bne_iff_ne.mpr c22
                obtain rfl := Option.some.inj H
                go_enter Try.func9, Try.ntmps9
                go_wp2_with (first | ((with_reducible refine gate_dst (N := 4) rfl ?_); (try (refine gate_guard (by rfl) ?_; dsimp only)); refine Kd.R_lit Kd.string _ 9 ?hg (N := 4) ?hd (xs := ([(⟨#[97]⟩ : ByteArray)] : List ByteArray)) (inner := [.string (⟨#[97]⟩ : ByteArray)]) (ok := fun _ => True) (okp := fun _ => True) ?hr ?hp (fun _ hk => hk) trivial (Below.refl _ _) (Nat.le_refl _) (by simp) ?_; (case hd => rfl); (case hg => rfl); (case hr => first | (go_simp; done) | (go_simp; rfl)); (case hp => exact (Reps.one (show Kd.M Kd.string _ _ _ (⟨#[97]⟩ : ByteArray) [.string (⟨#[97]⟩ : ByteArray)] from rfl) (Reps.none _ _))); intro v109 w37 ho38 hb hg_ hnew_; clear hg_ hnew_; (first | rw [← Ny108.out] at ho38 | (simp only [Int.reduceToNat] at ho38; rw [← Ny108.out] at ho38)); have n0_ := Aside0.mk (Kd.R_lower ho38 (below_size (by repeat (first | (with_reducible first | exact HB.out | apply below_alloc | apply pw_below_drewN | apply below_drew1) | exact HB.out)))); have n1_ := Aside0.mk (below_step (by repeat (first | (with_reducible first | exact HB.out | apply below_alloc | apply pw_below_drewN | apply below_drew1) | exact HB.out)) hb); clear HB; have HO110 := n0_; have HB := n1_; clear n0_ n1_; clear hb ho38; obtain ⟨Ao39, co39, eo39⟩ := Kd.R_slice HO110.out; subst eo39) | ((with_reducible refine gate_callee (f := 16) rfl ?_); refine goesL_ (some 5) rfl rfl Try.func16 (by kernel_rfl) rfl #[.slice Ao39 y108.length co39] rfl (by (try simp only [List.map_toArray, List.map_cons, List.map_nil]); first | done | rfl | (simp only [List.length_drop, List.length_take]; rfl)) ?_; (with_reducible refine (filter_Build.calls _ _ y108 t111 _ ?side1 ?side2 A1.out).mono ?_); (case side1 => repeat (first | exact (Kd.R_reads' HO110.out).2.2 | (with_reducible refine Kd.C_alloc ?_ _) | (with_reducible refine Kd.C_drewN ?_ _) | (with_reducible refine Kd.C_drew ?_))); (case side2 => exact (Kd.R_reads' HO110.out).2.1); rintro e w40 ⟨rfl, hb⟩; refine ⟨_, rfl, ?_⟩; have n0_ := Aside0.mk (Kd.R_below (by (with_reducible repeat (first | apply Kd.R_alloc | apply Kd.R_drewN | apply Kd.R_drew)); exact HO110.out) hb); have n1_ := Aside0.mk (below_step (by repeat (first | (with_reducible first | exact HB.out | apply below_alloc | apply pw_below_drewN | apply below_drew1) | exact HB.out)) hb); clear HO110; clear HB; have HO110 := n0_; have HB := n1_; clear n0_ n1_; (try clear hb); (try clear hb2); (try clear hk); (try clear hi)) | ((with_reducible refine gate_callee (f := 17) rfl ?_); refine goesL_ (some 7) rfl rfl Try.func17 (by kernel_rfl) rfl #[.string (⟨#[7]⟩ : ByteArray)] rfl (by (try simp only [List.map_toArray, List.map_cons, List.map_nil]); first | done | rfl | (simp only [List.length_drop, List.length_take]; rfl)) ?_; (with_reducible refine (filter_Full.calls k (⟨#[7]⟩ : ByteArray) t112 t113 _ A2.out).mono ?_); rintro e w' ⟨rfl, ⟨nd, rfl⟩⟩; refine ⟨_, rfl, ?_⟩) | ((with_reducible refine gate_callee (f := 16) rfl ?_); refine goesL_ (some 10) rfl rfl Try.func16 (by kernel_rfl) rfl #[.slice none 0 0] rfl (by (try simp only [List.map_toArray, List.map_cons, List.map_nil]); first | done | rfl | (simp only [List.length_drop, List.length_take]; rfl)) ?_; (refine (filter_Build.calls _ _ ([] : List ByteArray) t114 _ ?side1 ?side2 A3.out).mono ?_); (case side1 => exact Kd.C_nil _ _); (case side2 => exact Nat.le_refl _); rintro e w41 ⟨rfl, hb⟩; refine ⟨_, rfl, ?_⟩; have n0_ := Aside0.mk (Kd.R_below (by (with_reducible repeat (first | apply Kd.R_alloc | apply Kd.R_drewN | apply Kd.R_drew)); exact HO110.out) hb); have n1_ := Aside0.mk (below_step (by repeat (first | (with_reducible first | exact HB.out | apply below_alloc | apply pw_below_drewN | apply below_drew1) | exact HB.out)) hb); clear HO110; clear HB; have HO110 := n0_; have HB := n1_; clear n0_ n1_; (try clear hb); (try clear hb2); (try clear hk); (try clear hi)) | (go_at_call 20; (with_reducible refine (filter_May.calls t111 (⟨#[97]⟩ : ByteArray) true _ A6.out).mono ?_); rintro e w42 ⟨rfl, hb⟩; have n0_ := Aside0.mk (Kd.R_below (by (with_reducible repeat (first | apply Kd.R_alloc | apply Kd.R_drewN | apply Kd.R_drew)); exact HO110.out) hb); have n1_ := Aside0.mk (below_step (by repeat (first | (with_reducible first | exact HB.out | apply below_alloc | apply pw_below_drewN | apply below_drew1) | exact HB.out)) hb); clear HO110; clear HB; have HO110 := n0_; have HB := n1_; clear n0_ n1_; (try clear hb); (try clear hb2); (try clear hk); (try clear hi)) | (go_at_call 20; (with_reducible refine (filter_May.calls (⟨#[]⟩ : ByteArray) (⟨#[97]⟩ : ByteArray) false _ A8.out).mono ?_); rintro e w43 ⟨rfl, hb⟩; have n0_ := Aside0.mk (Kd.R_below (by (with_reducible repeat (first | apply Kd.R_alloc | apply Kd.R_drewN | apply Kd.R_drew)); exact HO110.out) hb); have n1_ := Aside0.mk (below_step (by repeat (first | (with_reducible first | exact HB.out | apply below_alloc | apply pw_below_drewN | apply below_drew1) | exact HB.out)) hb); clear HO110; clear HB; have HO110 := n0_; have HB := n1_; clear n0_ n1_; (try clear hb); (try clear hb2); (try clear hk); (try clear hi)) | (go_at_call 13; (with_reducible refine (filter_Places.calls k (⟨#[97]⟩ : ByteArray) 1 t117 _ A17.out).mono ?_); rintro e w44 ⟨v118, rfl, ho0, hb⟩; have n0_ := Aside0.mk (Kd.R_below (by (with_reducible repeat (first | apply Kd.R_alloc | apply Kd.R_drewN | apply Kd.R_drew)); exact HO110.out) hb); have n1_ := Aside0.mk (Kd.R_lower ho0 (below_size (by repeat (first | (with_reducible first | exact HB.out | apply below_alloc | apply pw_below_drewN | apply below_drew1) | exact HB.out)))); have n2_ := Aside0.mk (below_step (by repeat (first | (with_reducible first | exact HB.out | apply below_alloc | apply pw_below_drewN | apply below_drew1) | exact HB.out)) hb); clear HO110; clear HB; have HO110 := n0_; have HO119 := n1_; have HB := n2_; clear n0_ n1_ n2_; (try clear hb); (try clear hb2); (try clear hk); (try clear hi); (try clear ho0)) | ((with_reducible refine gate_dst (N := 27) rfl ?_); (try (refine gate_guard (by rfl) ?_; dsimp only)); refine Kd.R_lit (Kd.int .i64) _ 3 ?hg (N := 27) ?hd (xs := ([0, 0, 0, 0] : List Int)) (inner := [.int .i64 0, .int .i64 0, .int .i64 0, .int .i64 0]) (ok := fun _ => True) (okp := fun _ => True) ?hr ?hp (fun _ hk => hk) trivial (Below.refl _ _) (Nat.le_refl _) (by simp) ?_; (case hd => rfl); (case hg => rfl); (case hr => first | (go_simp; done) | (go_simp; rfl)); (case hp => exact (Reps.one (show Kd.M (Kd.int .i64) _ _ _ 0 [.int .i64 0] from rfl) (Reps.one (show Kd.M (Kd.int .i64) _ _ _ 0 [.int .i64 0] from rfl) (Reps.one (show Kd.M (Kd.int .i64) _ _ _ 0 [.int .i64 0] from rfl) (Reps.one (show Kd.M (Kd.int .i64) _ _ _ 0 [.int .i64 0] from rfl) (Reps.none _ _)))))); intro v121 w45 ho46 hb hg_ hnew_; clear hg_ hnew_; (first | rw [← Ny120.out] at ho46 | (simp only [Int.reduceToNat] at ho46; rw [← Ny120.out] at ho46)); have n0_ := Aside0.mk (Kd.R_below (by (with_reducible repeat (first | apply Kd.R_alloc | apply Kd.R_drewN | apply Kd.R_drew)); exact HO110.out) hb); have n1_ := Aside0.mk (Kd.R_elder' (by (with_reducible repeat (first | apply Kd.R_alloc | apply Kd.R_drewN | apply Kd.R_drew)); exact HO119.out) (Kd.R_base ho46) hb); have n2_ := Aside0.mk (Kd.R_lower (Kd.R_new' ho46 (Kd.R_lt (by (with_reducible repeat (first | apply Kd.R_alloc | apply Kd.R_drewN | apply Kd.R_drew)); exact HO119.out))) (below_size (by repeat (first | (with_reducible first | exact HB.out | apply below_alloc | apply pw_below_drewN | apply below_drew1) | exact HB.out)))); have n3_ := Aside0.mk (below_step (by repeat (first | (with_reducible first | exact HB.out | apply below_alloc | apply pw_below_drewN | apply below_drew1) | exact HB.out)) hb); clear HO110; clear HO119; clear HB; have HO110 := n0_; have HO119 := n1_; have HO122 := n2_; have HB := n3_; clear n0_ n1_ n2_ n3_; clear hb ho46; obtain ⟨Ao47, co47, eo47⟩ := Kd.R_slice HO119.out; subst eo47; obtain ⟨Ao48, co48, eo48⟩ := Kd.R_slice HO122.out; subst eo48) | (go_at_call 12; (with_reducible refine (moultlaw9_same.calls k _ _ t117 _ _ y120 true _ ?side1 ?side2 ?side3 ?side4 A18.out).mono ?_); (case side1 => repeat (first | exact (Kd.R_reads' HO119.out).2.2 | (with_reducible refine Kd.C_alloc ?_ _) | (with_reducible refine Kd.C_drewN ?_ _) | (with_reducible refine Kd.C_drew ?_))); (case side2 => exact (Kd.R_reads' HO119.out).2.1); (case side3 => repeat (first | exact (Kd.R_reads' HO122.out).2.2 | (with_reducible refine Kd.C_alloc ?_ _) | (with_reducible refine Kd.C_drewN ?_ _) | (with_reducible refine Kd.C_drew ?_))); (case side4 => exact (Kd.R_reads' HO122.out).2.1); rintro e w' ⟨rfl, ⟨nd, rfl⟩⟩) | (go_at_call 13; (with_reducible refine (filter_Places.calls k (⟨#[97]⟩ : ByteArray) 0 t124 _ A20.out).mono ?_); rintro e w49 ⟨v125, rfl, ho0, hb⟩; have n0_ := Aside0.mk (Kd.R_below (by (with_reducible repeat (first | apply Kd.R_alloc | apply Kd.R_drewN | apply Kd.R_drew)); exact HO110.out) hb); have n1_ := Aside0.mk (Kd.R_elder' (by (with_reducible repeat (first | apply Kd.R_alloc | apply Kd.R_drewN | apply Kd.R_drew)); exact HO119.out) (Kd.R_base ho0) hb); have n2_ := Aside0.mk (Kd.R_elder' (by (with_reducible repeat (first | apply Kd.R_alloc | apply Kd.R_drewN | apply Kd.R_drew)); exact HO122.out) (Kd.R_base ho0) hb); have n3_ := Aside0.mk (Kd.R_lower (Kd.R_new' (Kd.R_new' ho0 (Kd.R_lt (by (with_reducible repeat (first | apply Kd.R_alloc | apply Kd.R_drewN | apply Kd.R_drew)); exact HO119.out))) (Kd.R_lt (by (with_reducible repeat (first | apply Kd.R_alloc | apply Kd.R_drewN | apply Kd.R_drew)); exact HO122.out))) (below_size (by repeat (first | (with_reducible first | exact HB.out | apply below_alloc | apply pw_below_drewN | apply below_drew1) | exact HB.out)))); have n4_ := Aside0.mk (below_step (by repeat (first | (with_reducible first | exact HB.out | apply below_alloc | apply pw_below_drewN | apply below_drew1) | exact HB.out)) hb); clear HO110; clear HO119; clear HO122; clear HB; have HO110 := n0_; have HO119 := n1_; have HO122 := n2_; have HO126 := n3_; have HB := n4_; clear n0_ n1_ n2_ n3_ n4_; (try clear hb); (try clear hb2); (try clear hk); (try clear hi); (try clear ho0); obtain ⟨Ao50, co50, eo50⟩ := Kd.R_slice HO126.out; subst eo50))
                go_ret
                exact ⟨by first | rfl | (simp [errW_none, errW_some] <;> rfl) | (simp [*, errW_none, errW_some] <;> rfl), by repeat (first | (with_reducible first | exact HB.out | apply below_alloc | apply pw_below_drewN | apply below_drew1) | exact HB.out)⟩
            · rw [if_neg c21] at H
              have c21b0 : ((t124.length : Int) == 0) = false := beq_eq_false_iff_ne.mpr c21
              have c21b1 : ((t124.length : Int) != 0) = true := bne_iff_ne.mpr c21
              have c21b2 : ¬ (t124 = []) := fun h_ => c21 (by rw [h_]; rfl)
              obtain rfl := Option.some.inj H
              go_enter Try.func9, Try.ntmps9
              go_wp2_with (first | ((with_reducible refine gate_dst (N := 4) rfl ?_); (try (refine gate_guard (by rfl) ?_; dsimp only)); refine Kd.R_lit Kd.string _ 9 ?hg (N := 4) ?hd (xs := ([(⟨#[97]⟩ : ByteArray)] : List ByteArray)) (inner := [.string (⟨#[97]⟩ : ByteArray)]) (ok := fun _ => True) (okp := fun _ => True) ?hr ?hp (fun _ hk => hk) trivial (Below.refl _ _) (Nat.le_refl _) (by simp) ?_; (case hd => rfl); (case hg => rfl); (case hr => first | (go_simp; done) | (go_simp; rfl)); (case hp => exact (Reps.one (show Kd.M Kd.string _ _ _ (⟨#[97]⟩ : ByteArray) [.string (⟨#[97]⟩ : ByteArray)] from rfl) (Reps.none _ _))); intro v109 w51 ho52 hb hg_ hnew_; clear hg_ hnew_; (first | rw [← Ny108.out] at ho52 | (simp only [Int.reduceToNat] at ho52; rw [← Ny108.out] at ho52)); have n0_ := Aside0.mk (Kd.R_lower ho52 (below_size (by repeat (first | (with_reducible first | exact HB.out | apply below_alloc | apply pw_below_drewN | apply below_drew1) | exact HB.out)))); have n1_ := Aside0.mk (below_step (by repeat (first | (with_reducible first | exact HB.out | apply below_alloc | apply pw_below_drewN | apply below_drew1) | exact HB.out)) hb); clear HB; have HO110 := n0_; have HB := n1_; clear n0_ n1_; clear hb ho52; obtain ⟨Ao53, co53, eo53⟩ := Kd.R_slice HO110.out; subst eo53) | ((with_reducible refine gate_callee (f := 16) rfl ?_); refine goesL_ (some 5) rfl rfl Try.func16 (by kernel_rfl) rfl #[.slice Ao53 y108.length co53] rfl (by (try simp only [List.map_toArray, List.map_cons, List.map_nil]); first | done | rfl | (simp only [List.length_drop, List.length_take]; rfl)) ?_; (with_reducible refine (filter_Build.calls _ _ y108 t111 _ ?side1 ?side2 A1.out).mono ?_); (case side1 => repeat (first | exact (Kd.R_reads' HO110.out).2.2 | (with_reducible refine Kd.C_alloc ?_ _) | (with_reducible refine Kd.C_drewN ?_ _) | (with_reducible refine Kd.C_drew ?_))); (case side2 => exact (Kd.R_reads' HO110.out).2.1); rintro e w54 ⟨rfl, hb⟩; refine ⟨_, rfl, ?_⟩; have n0_ := Aside0.mk (Kd.R_below (by (with_reducible repeat (first | apply Kd.R_alloc | apply Kd.R_drewN | apply Kd.R_drew)); exact HO110.out) hb); have n1_ := Aside0.mk (below_step (by repeat (first | (with_reducible first | exact HB.out | apply below_alloc | apply pw_below_drewN | apply below_drew1) | exact HB.out)) hb); clear HO110; clear HB; have HO110 := n0_; have HB := n1_; clear n0_ n1_; (try clear hb); (try clear hb2); (try clear hk); (try clear hi)) | ((with_reducible refine gate_callee (f := 17) rfl ?_); refine goesL_ (some 7) rfl rfl Try.func17 (by kernel_rfl) rfl #[.string (⟨#[7]⟩ : ByteArray)] rfl (by (try simp only [List.map_toArray, List.map_cons, List.map_nil]); first | done | rfl | (simp only [List.length_drop, List.length_take]; rfl)) ?_; (with_reducible refine (filter_Full.calls k (⟨#[7]⟩ : ByteArray) t112 t113 _ A2.out).mono ?_); rintro e w' ⟨rfl, ⟨nd, rfl⟩⟩; refine ⟨_, rfl, ?_⟩) | ((with_reducible refine gate_callee (f := 16) rfl ?_); refine goesL_ (some 10) rfl rfl Try.func16 (by kernel_rfl) rfl #[.slice none 0 0] rfl (by (try simp only [List.map_toArray, List.map_cons, List.map_nil]); first | done | rfl | (simp only [List.length_drop, List.length_take]; rfl)) ?_; (refine (filter_Build.calls _ _ ([] : List ByteArray) t114 _ ?side1 ?side2 A3.out).mono ?_); (case side1 => exact Kd.C_nil _ _); (case side2 => exact Nat.le_refl _); rintro e w55 ⟨rfl, hb⟩; refine ⟨_, rfl, ?_⟩; have n0_ := Aside0.mk (Kd.R_below (by (with_reducible repeat (first | apply Kd.R_alloc | apply Kd.R_drewN | apply Kd.R_drew)); exact HO110.out) hb); have n1_ := Aside0.mk (below_step (by repeat (first | (with_reducible first | exact HB.out | apply below_alloc | apply pw_below_drewN | apply below_drew1) | exact HB.out)) hb); clear HO110; clear HB; have HO110 := n0_; have HB := n1_; clear n0_ n1_; (try clear hb); (try clear hb2); (try clear hk); (try clear hi)) | (go_at_call 20; (with_reducible refine (filter_May.calls t111 (⟨#[97]⟩ : ByteArray) true _ A6.out).mono ?_); rintro e w56 ⟨rfl, hb⟩; have n0_ := Aside0.mk (Kd.R_below (by (with_reducible repeat (first | apply Kd.R_alloc | apply Kd.R_drewN | apply Kd.R_drew)); exact HO110.out) hb); have n1_ := Aside0.mk (below_step (by repeat (first | (with_reducible first | exact HB.out | apply below_alloc | apply pw_below_drewN | apply below_drew1) | exact HB.out)) hb); clear HO110; clear HB; have HO110 := n0_; have HB := n1_; clear n0_ n1_; (try clear hb); (try clear hb2); (try clear hk); (try clear hi)) | (go_at_call 20; (with_reducible refine (filter_May.calls (⟨#[]⟩ : ByteArray) (⟨#[97]⟩ : ByteArray) false _ A8.out).mono ?_); rintro e w57 ⟨rfl, hb⟩; have n0_ := Aside0.mk (Kd.R_below (by (with_reducible repeat (first | apply Kd.R_alloc | apply Kd.R_drewN | apply Kd.R_drew)); exact HO110.out) hb); have n1_ := Aside0.mk (below_step (by repeat (first | (with_reducible first | exact HB.out | apply below_alloc | apply pw_below_drewN | apply below_drew1) | exact HB.out)) hb); clear HO110; clear HB; have HO110 := n0_; have HB := n1_; clear n0_ n1_; (try clear hb); (try clear hb2); (try clear hk); (try clear hi)) | (go_at_call 13; (with_reducible refine (filter_Places.calls k (⟨#[97]⟩ : ByteArray) 1 t117 _ A17.out).mono ?_); rintro e w58 ⟨v118, rfl, ho0, hb⟩; have n0_ := Aside0.mk (Kd.R_below (by (with_reducible repeat (first | apply Kd.R_alloc | apply Kd.R_drewN | apply Kd.R_drew)); exact HO110.out) hb); have n1_ := Aside0.mk (Kd.R_lower ho0 (below_size (by repeat (first | (with_reducible first | exact HB.out | apply below_alloc | apply pw_below_drewN | apply below_drew1) | exact HB.out)))); have n2_ := Aside0.mk (below_step (by repeat (first | (with_reducible first | exact HB.out | apply below_alloc | apply pw_below_drewN | apply below_drew1) | exact HB.out)) hb); clear HO110; clear HB; have HO110 := n0_; have HO119 := n1_; have HB := n2_; clear n0_ n1_ n2_; (try clear hb); (try clear hb2); (try clear hk); (try clear hi); (try clear ho0)) | ((with_reducible refine gate_dst (N := 27) rfl ?_); (try (refine gate_guard (by rfl) ?_; dsimp only)); refine Kd.R_lit (Kd.int .i64) _ 3 ?hg (N := 27) ?hd (xs := ([0, 0, 0, 0] : List Int)) (inner := [.int .i64 0, .int .i64 0, .int .i64 0, .int .i64 0]) (ok := fun _ => True) (okp := fun _ => True) ?hr ?hp (fun _ hk => hk) trivial (Below.refl _ _) (Nat.le_refl _) (by simp) ?_; (case hd => rfl); (case hg => rfl); (case hr => first | (go_simp; done) | (go_simp; rfl)); (case hp => exact (Reps.one (show Kd.M (Kd.int .i64) _ _ _ 0 [.int .i64 0] from rfl) (Reps.one (show Kd.M (Kd.int .i64) _ _ _ 0 [.int .i64 0] from rfl) (Reps.one (show Kd.M (Kd.int .i64) _ _ _ 0 [.int .i64 0] from rfl) (Reps.one (show Kd.M (Kd.int .i64) _ _ _ 0 [.int .i64 0] from rfl) (Reps.none _ _)))))); intro v121 w59 ho60 hb hg_ hnew_; clear hg_ hnew_; (first | rw [← Ny120.out] at ho60 | (simp only [Int.reduceToNat] at ho60; rw [← Ny120.out] at ho60)); have n0_ := Aside0.mk (Kd.R_below (by (with_reducible repeat (first | apply Kd.R_alloc | apply Kd.R_drewN | apply Kd.R_drew)); exact HO110.out) hb); have n1_ := Aside0.mk (Kd.R_elder' (by (with_reducible repeat (first | apply Kd.R_alloc | apply Kd.R_drewN | apply Kd.R_drew)); exact HO119.out) (Kd.R_base ho60) hb); have n2_ := Aside0.mk (Kd.R_lower (Kd.R_new' ho60 (Kd.R_lt (by (with_reducible repeat (first | apply Kd.R_alloc | apply Kd.R_drewN | apply Kd.R_drew)); exact HO119.out))) (below_size (by repeat (first | (with_reducible first | exact HB.out | apply below_alloc | apply pw_below_drewN | apply below_drew1) | exact HB.out)))); have n3_ := Aside0.mk (below_step (by repeat (first | (with_reducible first | exact HB.out | apply below_alloc | apply pw_below_drewN | apply below_drew1) | exact HB.out)) hb); clear HO110; clear HO119; clear HB; have HO110 := n0_; have HO119 := n1_; have HO122 := n2_; have HB := n3_; clear n0_ n1_ n2_ n3_; clear hb ho60; obtain ⟨Ao61, co61, eo61⟩ := Kd.R_slice HO119.out; subst eo61; obtain ⟨Ao62, co62, eo62⟩ := Kd.R_slice HO122.out; subst eo62) | (go_at_call 12; (with_reducible refine (moultlaw9_same.calls k _ _ t117 _ _ y120 true _ ?side1 ?side2 ?side3 ?side4 A18.out).mono ?_); (case side1 => repeat (first | exact (Kd.R_reads' HO119.out).2.2 | (with_reducible refine Kd.C_alloc ?_ _) | (with_reducible refine Kd.C_drewN ?_ _) | (with_reducible refine Kd.C_drew ?_))); (case side2 => exact (Kd.R_reads' HO119.out).2.1); (case side3 => repeat (first | exact (Kd.R_reads' HO122.out).2.2 | (with_reducible refine Kd.C_alloc ?_ _) | (with_reducible refine Kd.C_drewN ?_ _) | (with_reducible refine Kd.C_drew ?_))); (case side4 => exact (Kd.R_reads' HO122.out).2.1); rintro e w' ⟨rfl, ⟨nd, rfl⟩⟩) | (go_at_call 13; (with_reducible refine (filter_Places.calls k (⟨#[97]⟩ : ByteArray) 0 t124 _ A20.out).mono ?_); rintro e w63 ⟨v125, rfl, ho0, hb⟩; have n0_ := Aside0.mk (Kd.R_below (by (with_reducible repeat (first | apply Kd.R_alloc | apply Kd.R_drewN | apply Kd.R_drew)); exact HO110.out) hb); have n1_ := Aside0.mk (Kd.R_elder' (by (with_reducible repeat (first | apply Kd.R_alloc | apply Kd.R_drewN | apply Kd.R_drew)); exact HO119.out) (Kd.R_base ho0) hb); have n2_ := Aside0.mk (Kd.R_elder' (by (with_reducible repeat (first | apply Kd.R_alloc | apply Kd.R_drewN | apply Kd.R_drew)); exact HO122.out) (Kd.R_base ho0) hb); have n3_ := Aside0.mk (Kd.R_lower (Kd.R_new' (Kd.R_new' ho0 (Kd.R_lt (by (with_reducible repeat (first | apply Kd.R_alloc | apply Kd.R_drewN | apply Kd.R_drew)); exact HO119.out))) (Kd.R_lt (by (with_reducible repeat (first | apply Kd.R_alloc | apply Kd.R_drewN | apply Kd.R_drew)); exact HO122.out))) (below_size (by repeat (first | (with_reducible first | exact HB.out | apply below_alloc | apply pw_below_drewN | apply below_drew1) | exact HB.out)))); have n4_ := Aside0.mk (below_step (by repeat (first | (with_reducible first | exact HB.out | apply below_alloc | apply pw_below_drewN | apply below_drew1) | exact HB.out)) hb); clear HO110; clear HO119; clear HO122; clear HB; have HO110 := n0_; have HO119 := n1_; have HO122 := n2_; have HO126 := n3_; have HB := n4_; clear n0_ n1_ n2_ n3_ n4_; (try clear hb); (try clear hb2); (try clear hk); (try clear hi); (try clear ho0); obtain ⟨Ao64, co64, eo64⟩ := Kd.R_slice HO126.out; subst eo64))
              go_ret
              exact ⟨by first | rfl | (simp [errW_none, errW_some] <;> rfl) | (simp [*, errW_none, errW_some] <;> rfl), by repeat (first | (with_reducible first | exact HB.out | apply below_alloc | apply pw_below_drewN | apply below_drew1) | exact HB.out)⟩
          · replace c19 := Bool.eq_false_iff.mpr c19
            subst c19
            have H1 : (some false) = some r := by rw [if_neg (show ¬ (false = true) by decide)] at H; exact H
            clear H
            have H := H1
            clear H1
            obtain rfl := Option.some.inj H
            go_enter Try.func9, Try.ntmps9
            go_wp2_with (first | ((with_reducible refine gate_dst (N := 4) rfl ?_); (try (refine gate_guard (by rfl) ?_; dsimp only)); refine Kd.R_lit Kd.string _ 9 ?hg (N := 4) ?hd (xs := ([(⟨#[97]⟩ : ByteArray)] : List ByteArray)) (inner := [.string (⟨#[97]⟩ : ByteArray)]) (ok := fun _ => True) (okp := fun _ => True) ?hr ?hp (fun _ hk => hk) trivial (Below.refl _ _) (Nat.le_refl _) (by simp) ?_; (case hd => rfl); (case hg => rfl); (case hr => first | (go_simp; done) | (go_simp; rfl)); (case hp => exact (Reps.one (show Kd.M Kd.string _ _ _ (⟨#[97]⟩ : ByteArray) [.string (⟨#[97]⟩ : ByteArray)] from rfl) (Reps.none _ _))); intro v109 w65 ho66 hb hg_ hnew_; clear hg_ hnew_; (first | rw [← Ny108.out] at ho66 | (simp only [Int.reduceToNat] at ho66; rw [← Ny108.out] at ho66)); have n0_ := Aside0.mk (Kd.R_lower ho66 (below_size (by repeat (first | (with_reducible first | exact HB.out | apply below_alloc | apply pw_below_drewN | apply below_drew1) | exact HB.out)))); have n1_ := Aside0.mk (below_step (by repeat (first | (with_reducible first | exact HB.out | apply below_alloc | apply pw_below_drewN | apply below_drew1) | exact HB.out)) hb); clear HB; have HO110 := n0_; have HB := n1_; clear n0_ n1_; clear hb ho66; obtain ⟨Ao67, co67, eo67⟩ := Kd.R_slice HO110.out; subst eo67) | ((with_reducible refine gate_callee (f := 16) rfl ?_); refine goesL_ (some 5) rfl rfl Try.func16 (by kernel_rfl) rfl #[.slice Ao67 y108.length co67] rfl (by (try simp only [List.map_toArray, List.map_cons, List.map_nil]); first | done | rfl | (simp only [List.length_drop, List.length_take]; rfl)) ?_; (with_reducible refine (filter_Build.calls _ _ y108 t111 _ ?side1 ?side2 A1.out).mono ?_); (case side1 => repeat (first | exact (Kd.R_reads' HO110.out).2.2 | (with_reducible refine Kd.C_alloc ?_ _) | (with_reducible refine Kd.C_drewN ?_ _) | (with_reducible refine Kd.C_drew ?_))); (case side2 => exact (Kd.R_reads' HO110.out).2.1); rintro e w68 ⟨rfl, hb⟩; refine ⟨_, rfl, ?_⟩; have n0_ := Aside0.mk (Kd.R_below (by (with_reducible repeat (first | apply Kd.R_alloc | apply Kd.R_drewN | apply Kd.R_drew)); exact HO110.out) hb); have n1_ := Aside0.mk (below_step (by repeat (first | (with_reducible first | exact HB.out | apply below_alloc | apply pw_below_drewN | apply below_drew1) | exact HB.out)) hb); clear HO110; clear HB; have HO110 := n0_; have HB := n1_; clear n0_ n1_; (try clear hb); (try clear hb2); (try clear hk); (try clear hi)) | ((with_reducible refine gate_callee (f := 17) rfl ?_); refine goesL_ (some 7) rfl rfl Try.func17 (by kernel_rfl) rfl #[.string (⟨#[7]⟩ : ByteArray)] rfl (by (try simp only [List.map_toArray, List.map_cons, List.map_nil]); first | done | rfl | (simp only [List.length_drop, List.length_take]; rfl)) ?_; (with_reducible refine (filter_Full.calls k (⟨#[7]⟩ : ByteArray) t112 t113 _ A2.out).mono ?_); rintro e w' ⟨rfl, ⟨nd, rfl⟩⟩; refine ⟨_, rfl, ?_⟩) | ((with_reducible refine gate_callee (f := 16) rfl ?_); refine goesL_ (some 10) rfl rfl Try.func16 (by kernel_rfl) rfl #[.slice none 0 0] rfl (by (try simp only [List.map_toArray, List.map_cons, List.map_nil]); first | done | rfl | (simp only [List.length_drop, List.length_take]; rfl)) ?_; (refine (filter_Build.calls _ _ ([] : List ByteArray) t114 _ ?side1 ?side2 A3.out).mono ?_); (case side1 => exact Kd.C_nil _ _); (case side2 => exact Nat.le_refl _); rintro e w69 ⟨rfl, hb⟩; refine ⟨_, rfl, ?_⟩; have n0_ := Aside0.mk (Kd.R_below (by (with_reducible repeat (first | apply Kd.R_alloc | apply Kd.R_drewN | apply Kd.R_drew)); exact HO110.out) hb); have n1_ := Aside0.mk (below_step (by repeat (first | (with_reducible first | exact HB.out | apply below_alloc | apply pw_below_drewN | apply below_drew1) | exact HB.out)) hb); clear HO110; clear HB; have HO110 := n0_; have HB := n1_; clear n0_ n1_; (try clear hb); (try clear hb2); (try clear hk); (try clear hi)) | (go_at_call 20; (with_reducible refine (filter_May.calls t111 (⟨#[97]⟩ : ByteArray) true _ A6.out).mono ?_); rintro e w70 ⟨rfl, hb⟩; have n0_ := Aside0.mk (Kd.R_below (by (with_reducible repeat (first | apply Kd.R_alloc | apply Kd.R_drewN | apply Kd.R_drew)); exact HO110.out) hb); have n1_ := Aside0.mk (below_step (by repeat (first | (with_reducible first | exact HB.out | apply below_alloc | apply pw_below_drewN | apply below_drew1) | exact HB.out)) hb); clear HO110; clear HB; have HO110 := n0_; have HB := n1_; clear n0_ n1_; (try clear hb); (try clear hb2); (try clear hk); (try clear hi)) | (go_at_call 20; (with_reducible refine (filter_May.calls (⟨#[]⟩ : ByteArray) (⟨#[97]⟩ : ByteArray) false _ A8.out).mono ?_); rintro e w71 ⟨rfl, hb⟩; have n0_ := Aside0.mk (Kd.R_below (by (with_reducible repeat (first | apply Kd.R_alloc | apply Kd.R_drewN | apply Kd.R_drew)); exact HO110.out) hb); have n1_ := Aside0.mk (below_step (by repeat (first | (with_reducible first | exact HB.out | apply below_alloc | apply pw_below_drewN | apply below_drew1) | exact HB.out)) hb); clear HO110; clear HB; have HO110 := n0_; have HB := n1_; clear n0_ n1_; (try clear hb); (try clear hb2); (try clear hk); (try clear hi)) | (go_at_call 13; (with_reducible refine (filter_Places.calls k (⟨#[97]⟩ : ByteArray) 1 t117 _ A17.out).mono ?_); rintro e w72 ⟨v118, rfl, ho0, hb⟩; have n0_ := Aside0.mk (Kd.R_below (by (with_reducible repeat (first | apply Kd.R_alloc | apply Kd.R_drewN | apply Kd.R_drew)); exact HO110.out) hb); have n1_ := Aside0.mk (Kd.R_lower ho0 (below_size (by repeat (first | (with_reducible first | exact HB.out | apply below_alloc | apply pw_below_drewN | apply below_drew1) | exact HB.out)))); have n2_ := Aside0.mk (below_step (by repeat (first | (with_reducible first | exact HB.out | apply below_alloc | apply pw_below_drewN | apply below_drew1) | exact HB.out)) hb); clear HO110; clear HB; have HO110 := n0_; have HO119 := n1_; have HB := n2_; clear n0_ n1_ n2_; (try clear hb); (try clear hb2); (try clear hk); (try clear hi); (try clear ho0)) | ((with_reducible refine gate_dst (N := 27) rfl ?_); (try (refine gate_guard (by rfl) ?_; dsimp only)); refine Kd.R_lit (Kd.int .i64) _ 3 ?hg (N := 27) ?hd (xs := ([0, 0, 0, 0] : List Int)) (inner := [.int .i64 0, .int .i64 0, .int .i64 0, .int .i64 0]) (ok := fun _ => True) (okp := fun _ => True) ?hr ?hp (fun _ hk => hk) trivial (Below.refl _ _) (Nat.le_refl _) (by simp) ?_; (case hd => rfl); (case hg => rfl); (case hr => first | (go_simp; done) | (go_simp; rfl)); (case hp => exact (Reps.one (show Kd.M (Kd.int .i64) _ _ _ 0 [.int .i64 0] from rfl) (Reps.one (show Kd.M (Kd.int .i64) _ _ _ 0 [.int .i64 0] from rfl) (Reps.one (show Kd.M (Kd.int .i64) _ _ _ 0 [.int .i64 0] from rfl) (Reps.one (show Kd.M (Kd.int .i64) _ _ _ 0 [.int .i64 0] from rfl) (Reps.none _ _)))))); intro v121 w73 ho74 hb hg_ hnew_; clear hg_ hnew_; (first | rw [← Ny120.out] at ho74 | (simp only [Int.reduceToNat] at ho74; rw [← Ny120.out] at ho74)); have n0_ := Aside0.mk (Kd.R_below (by (with_reducible repeat (first | apply Kd.R_alloc | apply Kd.R_drewN | apply Kd.R_drew)); exact HO110.out) hb); have n1_ := Aside0.mk (Kd.R_elder' (by (with_reducible repeat (first | apply Kd.R_alloc | apply Kd.R_drewN | apply Kd.R_drew)); exact HO119.out) (Kd.R_base ho74) hb); have n2_ := Aside0.mk (Kd.R_lower (Kd.R_new' ho74 (Kd.R_lt (by (with_reducible repeat (first | apply Kd.R_alloc | apply Kd.R_drewN | apply Kd.R_drew)); exact HO119.out))) (below_size (by repeat (first | (with_reducible first | exact HB.out | apply below_alloc | apply pw_below_drewN | apply below_drew1) | exact HB.out)))); have n3_ := Aside0.mk (below_step (by repeat (first | (with_reducible first | exact HB.out | apply below_alloc | apply pw_below_drewN | apply below_drew1) | exact HB.out)) hb); clear HO110; clear HO119; clear HB; have HO110 := n0_; have HO119 := n1_; have HO122 := n2_; have HB := n3_; clear n0_ n1_ n2_ n3_; clear hb ho74; obtain ⟨Ao75, co75, eo75⟩ := Kd.R_slice HO119.out; subst eo75; obtain ⟨Ao76, co76, eo76⟩ := Kd.R_slice HO122.out; subst eo76) | (go_at_call 12; (with_reducible refine (moultlaw9_same.calls k _ _ t117 _ _ y120 false _ ?side1 ?side2 ?side3 ?side4 A18.out).mono ?_); (case side1 => repeat (first | exact (Kd.R_reads' HO119.out).2.2 | (with_reducible refine Kd.C_alloc ?_ _) | (with_reducible refine Kd.C_drewN ?_ _) | (with_reducible refine Kd.C_drew ?_))); (case side2 => exact (Kd.R_reads' HO119.out).2.1); (case side3 => repeat (first | exact (Kd.R_reads' HO122.out).2.2 | (with_reducible refine Kd.C_alloc ?_ _) | (with_reducible refine Kd.C_drewN ?_ _) | (with_reducible refine Kd.C_drew ?_))); (case side4 => exact (Kd.R_reads' HO122.out).2.1); rintro e w' ⟨rfl, ⟨nd, rfl⟩⟩))
            go_ret
            exact ⟨by first | rfl | (simp [errW_none, errW_some] <;> rfl) | (simp [*, errW_none, errW_some] <;> rfl), by repeat (first | (with_reducible first | exact HB.out | apply below_alloc | apply pw_below_drewN | apply below_drew1) | exact HB.out)⟩
      · replace c7 := Bool.eq_false_iff.mpr c7
        subst c7
        have H1 : (some false) = some r := by rw [if_neg (show ¬ (false = true) by decide)] at H; exact H
        clear H
        have H := H1
        clear H1
        obtain rfl := Option.some.inj H
        go_enter Try.func9, Try.ntmps9
        go_wp2_with (first | ((with_reducible refine gate_dst (N := 4) rfl ?_); (try (refine gate_guard (by rfl) ?_; dsimp only)); refine Kd.R_lit Kd.string _ 9 ?hg (N := 4) ?hd (xs := ([(⟨#[97]⟩ : ByteArray)] : List ByteArray)) (inner := [.string (⟨#[97]⟩ : ByteArray)]) (ok := fun _ => True) (okp := fun _ => True) ?hr ?hp (fun _ hk => hk) trivial (Below.refl _ _) (Nat.le_refl _) (by simp) ?_; (case hd => rfl); (case hg => rfl); (case hr => first | (go_simp; done) | (go_simp; rfl)); (case hp => exact (Reps.one (show Kd.M Kd.string _ _ _ (⟨#[97]⟩ : ByteArray) [.string (⟨#[97]⟩ : ByteArray)] from rfl) (Reps.none _ _))); intro v109 w77 ho78 hb hg_ hnew_; clear hg_ hnew_; (first | rw [← Ny108.out] at ho78 | (simp only [Int.reduceToNat] at ho78; rw [← Ny108.out] at ho78)); have n0_ := Aside0.mk (Kd.R_lower ho78 (below_size (by repeat (first | (with_reducible first | exact HB.out | apply below_alloc | apply pw_below_drewN | apply below_drew1) | exact HB.out)))); have n1_ := Aside0.mk (below_step (by repeat (first | (with_reducible first | exact HB.out | apply below_alloc | apply pw_below_drewN | apply below_drew1) | exact HB.out)) hb); clear HB; have HO110 := n0_; have HB := n1_; clear n0_ n1_; clear hb ho78; obtain ⟨Ao79, co79, eo79⟩ := Kd.R_slice HO110.out; subst eo79) | ((with_reducible refine gate_callee (f := 16) rfl ?_); refine goesL_ (some 5) rfl rfl Try.func16 (by kernel_rfl) rfl #[.slice Ao79 y108.length co79] rfl (by (try simp only [List.map_toArray, List.map_cons, List.map_nil]); first | done | rfl | (simp only [List.length_drop, List.length_take]; rfl)) ?_; (with_reducible refine (filter_Build.calls _ _ y108 t111 _ ?side1 ?side2 A1.out).mono ?_); (case side1 => repeat (first | exact (Kd.R_reads' HO110.out).2.2 | (with_reducible refine Kd.C_alloc ?_ _) | (with_reducible refine Kd.C_drewN ?_ _) | (with_reducible refine Kd.C_drew ?_))); (case side2 => exact (Kd.R_reads' HO110.out).2.1); rintro e w80 ⟨rfl, hb⟩; refine ⟨_, rfl, ?_⟩; have n0_ := Aside0.mk (Kd.R_below (by (with_reducible repeat (first | apply Kd.R_alloc | apply Kd.R_drewN | apply Kd.R_drew)); exact HO110.out) hb); have n1_ := Aside0.mk (below_step (by repeat (first | (with_reducible first | exact HB.out | apply below_alloc | apply pw_below_drewN | apply below_drew1) | exact HB.out)) hb); clear HO110; clear HB; have HO110 := n0_; have HB := n1_; clear n0_ n1_; (try clear hb); (try clear hb2); (try clear hk); (try clear hi)) | ((with_reducible refine gate_callee (f := 17) rfl ?_); refine goesL_ (some 7) rfl rfl Try.func17 (by kernel_rfl) rfl #[.string (⟨#[7]⟩ : ByteArray)] rfl (by (try simp only [List.map_toArray, List.map_cons, List.map_nil]); first | done | rfl | (simp only [List.length_drop, List.length_take]; rfl)) ?_; (with_reducible refine (filter_Full.calls k (⟨#[7]⟩ : ByteArray) t112 t113 _ A2.out).mono ?_); rintro e w' ⟨rfl, ⟨nd, rfl⟩⟩; refine ⟨_, rfl, ?_⟩) | ((with_reducible refine gate_callee (f := 16) rfl ?_); refine goesL_ (some 10) rfl rfl Try.func16 (by kernel_rfl) rfl #[.slice none 0 0] rfl (by (try simp only [List.map_toArray, List.map_cons, List.map_nil]); first | done | rfl | (simp only [List.length_drop, List.length_take]; rfl)) ?_; (refine (filter_Build.calls _ _ ([] : List ByteArray) t114 _ ?side1 ?side2 A3.out).mono ?_); (case side1 => exact Kd.C_nil _ _); (case side2 => exact Nat.le_refl _); rintro e w81 ⟨rfl, hb⟩; refine ⟨_, rfl, ?_⟩; have n0_ := Aside0.mk (Kd.R_below (by (with_reducible repeat (first | apply Kd.R_alloc | apply Kd.R_drewN | apply Kd.R_drew)); exact HO110.out) hb); have n1_ := Aside0.mk (below_step (by repeat (first | (with_reducible first | exact HB.out | apply below_alloc | apply pw_below_drewN | apply below_drew1) | exact HB.out)) hb); clear HO110; clear HB; have HO110 := n0_; have HB := n1_; clear n0_ n1_; (try clear hb); (try clear hb2); (try clear hk); (try clear hi)) | (go_at_call 20; (with_reducible refine (filter_May.calls t111 (⟨#[97]⟩ : ByteArray) false _ A6.out).mono ?_); rintro e w82 ⟨rfl, hb⟩; have n0_ := Aside0.mk (Kd.R_below (by (with_reducible repeat (first | apply Kd.R_alloc | apply Kd.R_drewN | apply Kd.R_drew)); exact HO110.out) hb); have n1_ := Aside0.mk (below_step (by repeat (first | (with_reducible first | exact HB.out | apply below_alloc | apply pw_below_drewN | apply below_drew1) | exact HB.out)) hb); clear HO110; clear HB; have HO110 := n0_; have HB := n1_; clear n0_ n1_; (try clear hb); (try clear hb2); (try clear hk); (try clear hi)))
        go_ret
        exact ⟨by first | rfl | (simp [errW_none, errW_some] <;> rfl) | (simp [*, errW_none, errW_some] <;> rfl), by repeat (first | (with_reducible first | exact HB.out | apply below_alloc | apply pw_below_drewN | apply below_drew1) | exact HB.out)⟩
    · rw [if_neg c5] at H
      have c5b0 : ((t111.size : Int) == 8) = false := beq_eq_false_iff_ne.mpr c5
      have c5b1 : ((t111.size : Int) != 8) = true := bne_iff_ne.mpr c5
      obtain rfl := Option.some.inj H
      go_enter Try.func9, Try.ntmps9
      go_wp2_with (first | ((with_reducible refine gate_dst (N := 4) rfl ?_); (try (refine gate_guard (by rfl) ?_; dsimp only)); refine Kd.R_lit Kd.string _ 9 ?hg (N := 4) ?hd (xs := ([(⟨#[97]⟩ : ByteArray)] : List ByteArray)) (inner := [.string (⟨#[97]⟩ : ByteArray)]) (ok := fun _ => True) (okp := fun _ => True) ?hr ?hp (fun _ hk => hk) trivial (Below.refl _ _) (Nat.le_refl _) (by simp) ?_; (case hd => rfl); (case hg => rfl); (case hr => first | (go_simp; done) | (go_simp; rfl)); (case hp => exact (Reps.one (show Kd.M Kd.string _ _ _ (⟨#[97]⟩ : ByteArray) [.string (⟨#[97]⟩ : ByteArray)] from rfl) (Reps.none _ _))); intro v109 w83 ho84 hb hg_ hnew_; clear hg_ hnew_; (first | rw [← Ny108.out] at ho84 | (simp only [Int.reduceToNat] at ho84; rw [← Ny108.out] at ho84)); have n0_ := Aside0.mk (Kd.R_lower ho84 (below_size (by repeat (first | (with_reducible first | exact HB.out | apply below_alloc | apply pw_below_drewN | apply below_drew1) | exact HB.out)))); have n1_ := Aside0.mk (below_step (by repeat (first | (with_reducible first | exact HB.out | apply below_alloc | apply pw_below_drewN | apply below_drew1) | exact HB.out)) hb); clear HB; have HO110 := n0_; have HB := n1_; clear n0_ n1_; clear hb ho84; obtain ⟨Ao85, co85, eo85⟩ := Kd.R_slice HO110.out; subst eo85) | ((with_reducible refine gate_callee (f := 16) rfl ?_); refine goesL_ (some 5) rfl rfl Try.func16 (by kernel_rfl) rfl #[.slice Ao85 y108.length co85] rfl (by (try simp only [List.map_toArray, List.map_cons, List.map_nil]); first | done | rfl | (simp only [List.length_drop, List.length_take]; rfl)) ?_; (with_reducible refine (filter_Build.calls _ _ y108 t111 _ ?side1 ?side2 A1.out).mono ?_); (case side1 => repeat (first | exact (Kd.R_reads' HO110.out).2.2 | (with_reducible refine Kd.C_alloc ?_ _) | (with_reducible refine Kd.C_drewN ?_ _) | (with_reducible refine Kd.C_drew ?_))); (case side2 => exact (Kd.R_reads' HO110.out).2.1); rintro e w86 ⟨rfl, hb⟩; refine ⟨_, rfl, ?_⟩; have n0_ := Aside0.mk (Kd.R_below (by (with_reducible repeat (first | apply Kd.R_alloc | apply Kd.R_drewN | apply Kd.R_drew)); exact HO110.out) hb); have n1_ := Aside0.mk (below_step (by repeat (first | (with_reducible first | exact HB.out | apply below_alloc | apply pw_below_drewN | apply below_drew1) | exact HB.out)) hb); clear HO110; clear HB; have HO110 := n0_; have HB := n1_; clear n0_ n1_; (try clear hb); (try clear hb2); (try clear hk); (try clear hi)) | ((with_reducible refine gate_callee (f := 17) rfl ?_); refine goesL_ (some 7) rfl rfl Try.func17 (by kernel_rfl) rfl #[.string (⟨#[7]⟩ : ByteArray)] rfl (by (try simp only [List.map_toArray, List.map_cons, List.map_nil]); first | done | rfl | (simp only [List.length_drop, List.length_take]; rfl)) ?_; (with_reducible refine (filter_Full.calls k (⟨#[7]⟩ : ByteArray) t112 t113 _ A2.out).mono ?_); rintro e w' ⟨rfl, ⟨nd, rfl⟩⟩; refine ⟨_, rfl, ?_⟩) | ((with_reducible refine gate_callee (f := 16) rfl ?_); refine goesL_ (some 10) rfl rfl Try.func16 (by kernel_rfl) rfl #[.slice none 0 0] rfl (by (try simp only [List.map_toArray, List.map_cons, List.map_nil]); first | done | rfl | (simp only [List.length_drop, List.length_take]; rfl)) ?_; (refine (filter_Build.calls _ _ ([] : List ByteArray) t114 _ ?side1 ?side2 A3.out).mono ?_); (case side1 => exact Kd.C_nil _ _); (case side2 => exact Nat.le_refl _); rintro e w87 ⟨rfl, hb⟩; refine ⟨_, rfl, ?_⟩; have n0_ := Aside0.mk (Kd.R_below (by (with_reducible repeat (first | apply Kd.R_alloc | apply Kd.R_drewN | apply Kd.R_drew)); exact HO110.out) hb); have n1_ := Aside0.mk (below_step (by repeat (first | (with_reducible first | exact HB.out | apply below_alloc | apply pw_below_drewN | apply below_drew1) | exact HB.out)) hb); clear HO110; clear HB; have HO110 := n0_; have HB := n1_; clear n0_ n1_; (try clear hb); (try clear hb2); (try clear hk); (try clear hi)))
      go_ret
      exact ⟨by first | rfl | (simp [errW_none, errW_some] <;> rfl) | (simp [*, errW_none, errW_some] <;> rfl), by repeat (first | (with_reducible first | exact HB.out | apply below_alloc | apply pw_below_drewN | apply below_drew1) | exact HB.out)⟩
  · rw [if_neg c4] at H
    have c4b0 : (t114.toList == ([] : List UInt8)) = false := beq_eq_false_iff_ne.mpr c4
    have c4b1 : (t114.toList != ([] : List UInt8)) = true := bne_iff_ne.mpr c4
    obtain rfl := Option.some.inj H
    go_enter Try.func9, Try.ntmps9
    go_wp2_with (first | ((with_reducible refine gate_dst (N := 4) rfl ?_); (try (refine gate_guard (by rfl) ?_; dsimp only)); refine Kd.R_lit Kd.string _ 9 ?hg (N := 4) ?hd (xs := ([(⟨#[97]⟩ : ByteArray)] : List ByteArray)) (inner := [.string (⟨#[97]⟩ : ByteArray)]) (ok := fun _ => True) (okp := fun _ => True) ?hr ?hp (fun _ hk => hk) trivial (Below.refl _ _) (Nat.le_refl _) (by simp) ?_; (case hd => rfl); (case hg => rfl); (case hr => first | (go_simp; done) | (go_simp; rfl)); (case hp => exact (Reps.one (show Kd.M Kd.string _ _ _ (⟨#[97]⟩ : ByteArray) [.string (⟨#[97]⟩ : ByteArray)] from rfl) (Reps.none _ _))); intro v109 w88 ho89 hb hg_ hnew_; clear hg_ hnew_; (first | rw [← Ny108.out] at ho89 | (simp only [Int.reduceToNat] at ho89; rw [← Ny108.out] at ho89)); have n0_ := Aside0.mk (Kd.R_lower ho89 (below_size (by repeat (first | (with_reducible first | exact HB.out | apply below_alloc | apply pw_below_drewN | apply below_drew1) | exact HB.out)))); have n1_ := Aside0.mk (below_step (by repeat (first | (with_reducible first | exact HB.out | apply below_alloc | apply pw_below_drewN | apply below_drew1) | exact HB.out)) hb); clear HB; have HO110 := n0_; have HB := n1_; clear n0_ n1_; clear hb ho89; obtain ⟨Ao90, co90, eo90⟩ := Kd.R_slice HO110.out; subst eo90) | ((with_reducible refine gate_callee (f := 16) rfl ?_); refine goesL_ (some 5) rfl rfl Try.func16 (by kernel_rfl) rfl #[.slice Ao90 y108.length co90] rfl (by (try simp only [List.map_toArray, List.map_cons, List.map_nil]); first | done | rfl | (simp only [List.length_drop, List.length_take]; rfl)) ?_; (with_reducible refine (filter_Build.calls _ _ y108 t111 _ ?side1 ?side2 A1.out).mono ?_); (case side1 => repeat (first | exact (Kd.R_reads' HO110.out).2.2 | (with_reducible refine Kd.C_alloc ?_ _) | (with_reducible refine Kd.C_drewN ?_ _) | (with_reducible refine Kd.C_drew ?_))); (case side2 => exact (Kd.R_reads' HO110.out).2.1); rintro e w91 ⟨rfl, hb⟩; refine ⟨_, rfl, ?_⟩; have n0_ := Aside0.mk (Kd.R_below (by (with_reducible repeat (first | apply Kd.R_alloc | apply Kd.R_drewN | apply Kd.R_drew)); exact HO110.out) hb); have n1_ := Aside0.mk (below_step (by repeat (first | (with_reducible first | exact HB.out | apply below_alloc | apply pw_below_drewN | apply below_drew1) | exact HB.out)) hb); clear HO110; clear HB; have HO110 := n0_; have HB := n1_; clear n0_ n1_; (try clear hb); (try clear hb2); (try clear hk); (try clear hi)) | ((with_reducible refine gate_callee (f := 17) rfl ?_); refine goesL_ (some 7) rfl rfl Try.func17 (by kernel_rfl) rfl #[.string (⟨#[7]⟩ : ByteArray)] rfl (by (try simp only [List.map_toArray, List.map_cons, List.map_nil]); first | done | rfl | (simp only [List.length_drop, List.length_take]; rfl)) ?_; (with_reducible refine (filter_Full.calls k (⟨#[7]⟩ : ByteArray) t112 t113 _ A2.out).mono ?_); rintro e w' ⟨rfl, ⟨nd, rfl⟩⟩; refine ⟨_, rfl, ?_⟩) | ((with_reducible refine gate_callee (f := 16) rfl ?_); refine goesL_ (some 10) rfl rfl Try.func16 (by kernel_rfl) rfl #[.slice none 0 0] rfl (by (try simp only [List.map_toArray, List.map_cons, List.map_nil]); first | done | rfl | (simp only [List.length_drop, List.length_take]; rfl)) ?_; (refine (filter_Build.calls _ _ ([] : List ByteArray) t114 _ ?side1 ?side2 A3.out).mono ?_); (case side1 => exact Kd.C_nil _ _); (case side2 => exact Nat.le_refl _); rintro e w92 ⟨rfl, hb⟩; refine ⟨_, rfl, ?_⟩; have n0_ := Aside0.mk (Kd.R_below (by (with_reducible repeat (first | apply Kd.R_alloc | apply Kd.R_drewN | apply Kd.R_drew)); exact HO110.out) hb); have n1_ := Aside0.mk (below_step (by repeat (first | (with_reducible first | exact HB.out | apply below_alloc | apply pw_below_drewN | apply below_drew1) | exact HB.out)) hb); clear HO110; clear HB; have HO110 := n0_; have HB := n1_; clear n0_ n1_; (try clear hb); (try clear hb2); (try clear hk); (try clear hi)))
    go_ret
    exact ⟨by first | rfl | (simp [errW_none, errW_some] <;> rfl) | (simp [*, errW_none, errW_some] <;> rfl), by repeat (first | (with_reducible first | exact HB.out | apply below_alloc | apply pw_below_drewN | apply below_drew1) | exact HB.out)⟩

/-! ### moultref9_Hash: function 11 -/
def moultref9_Hash.l0 : Nat → ByteArray → Int → Int → Option (Int)
  | 0, _, _, _ => none
  | k + 1, x0, x3, x4 => if x4 < (x0.size : Int) then (if 0 ≤ x4 then (moultref9_Hash.l0 k x0 (IntKind.u64.wrap ((Go.bits .xor .u64 x3 (IntKind.u64.wrap (bt x0 x4))) * 1099511628211)) (wrap64 (x4 + 1))) else (none)) else (some (Go.bits .xor .u64 x3 (IntKind.u64.wrap (Int.tdiv x3 8589934592))))
def moultref9_Hash.f (k : Nat) (a0 : ByteArray) : Option (Int) := moultref9_Hash.l0 k a0 14695981039346656037 0
theorem moultref9_Hash.mono_l : ∀ k, (∀ y0 y1 y2, LeO (moultref9_Hash.l0 k y0 y1 y2) (moultref9_Hash.l0 (k + 1) y0 y1 y2))
  | 0 => fun _ _ _ r h => by simp [moultref9_Hash.l0] at h
  | k + 1 => by
    have ih0 := moultref9_Hash.mono_l k
    · intro y0 y1 y2
      unfold moultref9_Hash.l0
      repeat' first
      | (with_reducible exact ih0 _ _ _)
      | (with_reducible exact LeO.refl _)
      | (with_reducible exact LeO.none _)
      | (with_reducible refine LeO.ite ?_ ?_)
      | (with_reducible refine LeO.bind ?_ (fun _ => ?_))
      | exact ih0 _ _ _
      | exact LeO.none _
      | refine LeO.ite ?_ ?_
      | refine LeO.bind ?_ (fun _ => ?_)
theorem moultref9_Hash.mono : ∀ a0 k, LeO (moultref9_Hash.f k a0) (moultref9_Hash.f (k + 1) a0) := by
  intro a0 k
  have ih0 := moultref9_Hash.mono_l k
  unfold moultref9_Hash.f
  repeat' first
      | (with_reducible exact ih0 _ _ _)
      | (with_reducible exact LeO.refl _)
      | (with_reducible exact LeO.none _)
      | (with_reducible refine LeO.ite ?_ ?_)
      | (with_reducible refine LeO.bind ?_ (fun _ => ?_))
      | exact ih0 _ _ _
      | exact LeO.none _
      | refine LeO.ite ?_ ?_
      | refine LeO.bind ?_ (fun _ => ?_)
set_option maxHeartbeats 8000000 in
set_option maxRecDepth 100000 in
theorem moultref9_Hash.calls (k : Nat) (a0 : ByteArray) (r : Int) (w : World) (h : moultref9_Hash.f k a0 = some r) :
    Calls Try.prog 11 #[.string a0] w fun e w' => e = .returned (.int .u64 r) ∧ Drawn0 w w' := by
  have H : (moultref9_Hash.l0 k a0 14695981039346656037 0) = some r := h
  clear h
  have H' := Aside0.mk H
  clear H
  go_enter Try.func11, Try.ntmps11
  go_wp2
  go_loopg [3, 4] k (fun kq v3 v4 w' => ∃ (x3_1 : Int) (x4_1 : Int), v3 = .int .u64 x3_1 ∧ v4 = .int .i64 x4_1 ∧ Aside0 (moultref9_Hash.l0 kq a0 x3_1 x4_1 = some r) ∧ Aside0 (kq ≤ k) ∧ Drawn0 w w')
  case atStart => exact ⟨(14695981039346656037), (0), (by first | rfl | (simp; done) | (simp [*]; done)), (by first | rfl | (simp; done) | (simp [*]; done)), H', ⟨Nat.le_refl _⟩, by repeat (first | exact Drawn0.refl _ | apply Drawn0.step)⟩
  case round =>
    clear H'
    try clear c1
    obtain ⟨x3_1, x4_1, rfl, rfl, HA, HK1, ⟨m1, rfl⟩⟩ := hrel
    cases gk with
    | zero => exact absurd HA.out (by simp [moultref9_Hash.l0])
    | succ k1 =>
      have H := HA.out
      clear HA
      simp only [moultref9_Hash.l0] at H
      by_cases c2 : x4_1 < (a0.size : Int)
      · rw [if_pos c2] at H
        have c2b0 : decide (x4_1 < (a0.size : Int)) = true := decide_eq_true c2
        clear c2
        by_cases c3 : 0 ≤ x4_1
        · rw [if_pos c3] at H
          have c3b0 : decide (0 ≤ x4_1) = true := decide_eq_true c3
          clear c3
          have H' := Aside0.mk H
          clear H
          have p4 : 0 ≤ (x4_1 : Int) := of_decide_eq_true (by first | (with_reducible assumption) | assumption)
          have q4 : x4_1 < (a0.size : Int) := of_decide_eq_true (by first | (with_reducible assumption) | assumption)
          have hx4 := bt_at a0 x4_1
          replace p4 := eq_true p4
          replace q4 := eq_true q4
          go_wp2
          go_roundg k1
          case measure => have := HK1.out; omega
          case rel => exact ⟨(IntKind.u64.wrap ((Go.bits .xor .u64 x3_1 (IntKind.u64.wrap (bt a0 x4_1))) * 1099511628211)), (wrap64 (x4_1 + 1)), (by first | rfl | (simp; done) | (simp [*]; done)), (by first | rfl | (simp; done) | (simp [*]; done)), H', ⟨by have := HK1.out; omega⟩, by repeat (first | exact Drawn0.refl _ | apply Drawn0.step)⟩
        · rw [if_neg c3] at H
          exact absurd H (by simp)
      · rw [if_neg c2] at H
        have c2b0 : decide (x4_1 < (a0.size : Int)) = false := decide_eq_false c2
        clear c2
        obtain rfl := Option.some.inj H
        go_wp2
        go_ret
        exact ⟨by first | rfl | (simp; done) | (simp [*]; done), by repeat (first | exact Drawn0.refl _ | apply Drawn0.step)⟩

/-! ### moultref9_Places: function 14 -/
mutual
def moultref9_Places.j0 : Nat → Int → List Int → Int → Int → Option (List Int)
  | 0, _, _, _, _ => none
  | k + 1, x1, x5, x7, x8 => moultref9_Places.l0 k x1 x5 x7 x8 0
def moultref9_Places.l0 : Nat → Int → List Int → Int → Int → Int → Option (List Int)
  | 0, _, _, _, _, _ => none
  | k + 1, x1, x5, x7, x8, x9 => if x9 < 4 then (if x1 ≥ 1 then (if (IntKind.u64.wrap (x1)) = 0 then (none) else (if x5.length < 17592186044416 then (moultref9_Places.l0 k x1 (x5 ++ [wrap64 (Int.tmod (IntKind.u64.wrap (x7 + (IntKind.u64.wrap ((IntKind.u64.wrap (x9)) * x8)))) (IntKind.u64.wrap (x1)))]) x7 x8 (wrap64 (x9 + 1))) else (none))) else (some x5)) else (some x5)
end
def moultref9_Places.f (k : Nat) (a0 : ByteArray) (a1 : Int) : Option (List Int) := (moultref9_Hash.f k a0).bind fun t127 => (if (Int.tmod (IntKind.u64.wrap (Int.tdiv t127 4294967296)) 2) = 0 then (moultref9_Places.j0 k a1 ([] : List Int) (Int.tmod t127 4294967296) (IntKind.u64.wrap ((IntKind.u64.wrap (Int.tdiv t127 4294967296)) + 1))) else (moultref9_Places.j0 k a1 ([] : List Int) (Int.tmod t127 4294967296) (IntKind.u64.wrap (Int.tdiv t127 4294967296))))
theorem moultref9_Places.mono_l : ∀ k, (∀ y0 y1 y2 y3, LeO (moultref9_Places.j0 k y0 y1 y2 y3) (moultref9_Places.j0 (k + 1) y0 y1 y2 y3)) ∧ (∀ y0 y1 y2 y3 y4, LeO (moultref9_Places.l0 k y0 y1 y2 y3 y4) (moultref9_Places.l0 (k + 1) y0 y1 y2 y3 y4))
  | 0 => ⟨fun _ _ _ _ r h => by simp [moultref9_Places.j0] at h, fun _ _ _ _ _ r h => by simp [moultref9_Places.l0] at h⟩
  | k + 1 => by
    obtain ⟨ih0, ih1⟩ := moultref9_Places.mono_l k
    refine ⟨?_, ?_⟩
    · intro y0 y1 y2 y3
      unfold moultref9_Places.j0
      repeat' first
      | (with_reducible exact ih0 _ _ _ _)
      | (with_reducible exact ih1 _ _ _ _ _)
      | (with_reducible exact moultref9_Hash.mono _ _)
      | (with_reducible exact LeO.refl _)
      | (with_reducible exact LeO.none _)
      | (with_reducible refine LeO.ite ?_ ?_)
      | (with_reducible refine LeO.bind ?_ (fun _ => ?_))
      | exact ih0 _ _ _ _
      | exact ih1 _ _ _ _ _
      | exact moultref9_Hash.mono _ _
      | exact LeO.none _
      | refine LeO.ite ?_ ?_
      | refine LeO.bind ?_ (fun _ => ?_)
    · intro y0 y1 y2 y3 y4
      unfold moultref9_Places.l0
      repeat' first
      | (with_reducible exact ih0 _ _ _ _)
      | (with_reducible exact ih1 _ _ _ _ _)
      | (with_reducible exact moultref9_Hash.mono _ _)
      | (with_reducible exact LeO.refl _)
      | (with_reducible exact LeO.none _)
      | (with_reducible refine LeO.ite ?_ ?_)
      | (with_reducible refine LeO.bind ?_ (fun _ => ?_))
      | exact ih0 _ _ _ _
      | exact ih1 _ _ _ _ _
      | exact moultref9_Hash.mono _ _
      | exact LeO.none _
      | refine LeO.ite ?_ ?_
      | refine LeO.bind ?_ (fun _ => ?_)
theorem moultref9_Places.mono : ∀ a0 a1 k, LeO (moultref9_Places.f k a0 a1) (moultref9_Places.f (k + 1) a0 a1) := by
  intro a0 a1 k
  obtain ⟨ih0, ih1⟩ := moultref9_Places.mono_l k
  unfold moultref9_Places.f
  repeat' first
      | (with_reducible exact ih0 _ _ _ _)
      | (with_reducible exact ih1 _ _ _ _ _)
      | (with_reducible exact moultref9_Hash.mono _ _)
      | (with_reducible exact LeO.refl _)
      | (with_reducible exact LeO.none _)
      | (with_reducible refine LeO.ite ?_ ?_)
      | (with_reducible refine LeO.bind ?_ (fun _ => ?_))
      | exact ih0 _ _ _ _
      | exact ih1 _ _ _ _ _
      | exact moultref9_Hash.mono _ _
      | exact LeO.none _
      | refine LeO.ite ?_ ?_
      | refine LeO.bind ?_ (fun _ => ?_)
set_option maxHeartbeats 8000000 in
set_option maxRecDepth 100000 in
theorem moultref9_Places.calls (k : Nat) (a0 : ByteArray) (a1 : Int) (r : List Int) (w : World) (h : moultref9_Places.f k a0 a1 = some r) :
    Calls Try.prog 14 #[.string a0, .int .i64 a1] w fun e w' => ∃ v0_ : Value, e = .returned (v0_) ∧ Kd.R (Kd.int .i64) 3 w' w.heap.size (fun _ => True) v0_ r ∧ Below w.heap.size w w' := by
  have HB := Aside0.mk (Below.refl w.heap.size w)
  have H : ((moultref9_Hash.f k a0).bind fun t127 => (if (Int.tmod (IntKind.u64.wrap (Int.tdiv t127 4294967296)) 2) = 0 then (moultref9_Places.j0 k a1 ([] : List Int) (Int.tmod t127 4294967296) (IntKind.u64.wrap ((IntKind.u64.wrap (Int.tdiv t127 4294967296)) + 1))) else (moultref9_Places.j0 k a1 ([] : List Int) (Int.tmod t127 4294967296) (IntKind.u64.wrap (Int.tdiv t127 4294967296))))) = some r := h
  clear h
  replace H := Option.bind_eq_some_iff.mp H
  obtain ⟨t127, A30, H⟩ := H
  replace H : (if (Int.tmod (IntKind.u64.wrap (Int.tdiv t127 4294967296)) 2) = 0 then (moultref9_Places.j0 k a1 ([] : List Int) (Int.tmod t127 4294967296) (IntKind.u64.wrap ((IntKind.u64.wrap (Int.tdiv t127 4294967296)) + 1))) else (moultref9_Places.j0 k a1 ([] : List Int) (Int.tmod t127 4294967296) (IntKind.u64.wrap (Int.tdiv t127 4294967296)))) = some r := H
  have A3 := Aside0.mk A30
  clear A30
  have HC4 := Aside0.mk H
  clear H
  go_enter Try.func14, Try.ntmps14
  go_upto_if 18 with (first | ((with_reducible refine gate_callee (f := 11) rfl ?_); refine goesL_ (some 11) rfl rfl Try.func11 (by kernel_rfl) rfl #[.string a0] rfl (by (try simp only [List.map_toArray, List.map_cons, List.map_nil]); first | done | rfl | (simp only [List.length_drop, List.length_take]; rfl)) ?_; (with_reducible refine (moultref9_Hash.calls k a0 t127 _ A3.out).mono ?_); rintro e w' ⟨rfl, ⟨nd, rfl⟩⟩; refine ⟨_, rfl, ?_⟩))
  (try simp only [Act.put, List.setIfInBounds_toArray, List.set_cons_zero, List.set_cons_succ])
  go_cut [8] (fun v8 wc => ∃ (kq : Nat) (x8_3 : Int), v8 = .int .u64 x8_3 ∧ Aside0 (moultref9_Places.j0 kq a1 ([] : List Int) (Int.tmod t127 4294967296) x8_3 = some r) ∧ Aside0 (kq ≤ k) ∧ Aside0 (Kd.R (Kd.int .i64) 3 wc w.heap.size (fun _ => True) (.slice none 0 0) ([] : List Int)) ∧ Aside0 (Below w.heap.size w wc))
  case first =>
    have H := HC4.out
    clear HC4
    by_cases c5 : (Int.tmod (IntKind.u64.wrap (Int.tdiv t127 4294967296)) 2) = 0
    · rw [if_pos c5] at H
      have c5b0 : ((Int.tmod (IntKind.u64.wrap (Int.tdiv t127 4294967296)) 2) == 0) = true := beq_iff_eq.mpr c5
      have c5b1 : ((Int.tmod (IntKind.u64.wrap (Int.tdiv t127 4294967296)) 2) != 0) = false := bne_eq_false_iff_eq.mpr c5
      clear c5
      (first | rw [c5b0] | (simp only [i64_w, i32_w]; rw [c5b0]) | skip)
      have H' := Aside0.mk H
      clear H
      go_wp2
      go_meet
      case rel => exact ⟨_, (IntKind.u64.wrap ((IntKind.u64.wrap (Int.tdiv t127 4294967296)) + 1)), (by first | rfl | (simp; done) | (simp [*]; done)), H', ⟨by first | omega | exact Nat.le_refl _⟩, ⟨by first | exact Kd.R_nil _ _ _ _ _ | exact Kd.N_nil _ _ _ _ _ | exact Kd.V_nil _ _ _ _ _ | exact Kd.Q_nil _ _ _ _ _ | exact Kd.S_nil _ _ _ _ _⟩, ⟨by repeat (first | (with_reducible first | exact HB.out | apply below_alloc | apply pw_below_drewN | apply below_drew1) | exact HB.out)⟩⟩
    · rw [if_neg c5] at H
      have c5b0 : ((Int.tmod (IntKind.u64.wrap (Int.tdiv t127 4294967296)) 2) == 0) = false := beq_eq_false_iff_ne.mpr c5
      have c5b1 : ((Int.tmod (IntKind.u64.wrap (Int.tdiv t127 4294967296)) 2) != 0) = true := bne_iff_ne.mpr c5
      (first | rw [c5b0] | (simp only [i64_w, i32_w]; rw [c5b0]) | skip)
      have H' := Aside0.mk H
      clear H
      go_wp2
      go_meet
      case rel => exact ⟨_, (IntKind.u64.wrap (Int.tdiv t127 4294967296)), (by first | rfl | (simp; done) | (simp [*]; done)), H', ⟨by first | omega | exact Nat.le_refl _⟩, ⟨by first | exact Kd.R_nil _ _ _ _ _ | exact Kd.N_nil _ _ _ _ _ | exact Kd.V_nil _ _ _ _ _ | exact Kd.Q_nil _ _ _ _ _ | exact Kd.S_nil _ _ _ _ _⟩, ⟨by repeat (first | (with_reducible first | exact HB.out | apply below_alloc | apply pw_below_drewN | apply below_drew1) | exact HB.out)⟩⟩
  case rest =>
    clear HC4
    try clear c1
    try clear p2
    try clear c5
    try clear c5b0
    try clear c5b1
    obtain ⟨kq, x8_3, rfl, HA, HJ3, HO_5, HB⟩ := hcut
    cases kq with
    | zero => exact absurd HA.out (by simp [moultref9_Places.j0])
    | succ kj3 =>
      have H := HA.out
      clear HA
      simp only [moultref9_Places.j0] at H
      have H' := Aside0.mk H
      clear H
      go_wp2
      go_loopg [5, 9] kj3 (fun kq v5 v9 w' => ∃ (x5_2 : List Int) (x9_2 : Int), v9 = .int .i64 x9_2 ∧ Aside0 (moultref9_Places.l0 kq a1 x5_2 (Int.tmod t127 4294967296) x8_3 x9_2 = some r) ∧ Aside0 (kq ≤ kj3) ∧ Aside0 (Kd.R (Kd.int .i64) 3 w' w.heap.size (fun _ => True) v5 x5_2) ∧ Aside0 (Below w.heap.size w w'))
      case atStart => exact ⟨(([] : List Int)), (0), (by first | rfl | (simp; done) | (simp [*]; done)), H', ⟨Nat.le_refl _⟩, ⟨by (with_reducible repeat (first | apply Kd.R_alloc | apply Kd.R_drewN | apply Kd.R_drew)); exact HO_5.out⟩, ⟨by repeat (first | (with_reducible first | exact HB.out | apply below_alloc | apply pw_below_drewN | apply below_drew1) | exact HB.out)⟩⟩
      case round =>
        clear H'
        try clear c1
        try clear p2
        try clear c5
        try clear c5b0
        try clear c5b1
        try clear p2
        obtain ⟨x5_2, x9_2, rfl, HA, HK2, HO_5, HB⟩ := hrel
        cases gk with
        | zero => exact absurd HA.out (by simp [moultref9_Places.l0])
        | succ k2 =>
          have H := HA.out
          clear HA
          simp only [moultref9_Places.l0] at H
          by_cases c6 : x9_2 < 4
          · rw [if_pos c6] at H
            have c6b0 : decide (x9_2 < 4) = true := decide_eq_true c6
            clear c6
            by_cases c7 : a1 ≥ 1
            · rw [if_pos c7] at H
              have c7b0 : decide (1 ≤ a1) = true := decide_eq_true c7
              clear c7
              by_cases c8 : (IntKind.u64.wrap (a1)) = 0
              · rw [if_pos c8] at H
                exact absurd H (by simp)
              · rw [if_neg c8] at H
                have c8b0 : ((IntKind.u64.wrap (a1)) == 0) = false := beq_eq_false_iff_ne.mpr c8
                have c8b1 : ((IntKind.u64.wrap (a1)) != 0) = true := bne_iff_ne.mpr c8
                by_cases c9 : x5_2.length < 17592186044416
                · rw [if_pos c9] at H
                  have LMc9 := Aside0.mk c9
                  clear c9
                  obtain ⟨y128, hy128⟩ : ∃ y_ : List Int, y_ = (x5_2 ++ [wrap64 (Int.tmod (IntKind.u64.wrap ((Int.tmod t127 4294967296) + (IntKind.u64.wrap ((IntKind.u64.wrap (x9_2)) * x8_3)))) (IntKind.u64.wrap (a1)))]) := ⟨_, rfl⟩
                  replace H : (moultref9_Places.l0 k2 a1 y128 (Int.tmod t127 4294967296) x8_3 (wrap64 (x9_2 + 1))) = some r := by first | (rw [hy128]; with_reducible exact H) | (have H2_ := (Option.bind_some _ _).symm.trans H; rw [hy128]; with_reducible exact H2_) | (have H2_ := (Option.bind_some _ _).symm.trans H; with_reducible exact H2_) | with_reducible exact H | (rw [hy128]; exact H) | exact H
                  have Ny128 := Aside0.mk hy128
                  clear hy128
                  have H' := Aside0.mk H
                  clear H
                  go_wp2_with (first | ((with_reducible refine gate_builtin (b := .append) (xs := #[.tmp 29, .tmp 40]) rfl ?_); at_builtin; refine Kd.R_append (Kd.int .i64) (w0 := w) w.heap.size rfl (.tmp 29) (.tmp 40) 26 3 (.int .i64 0) 8 rfl Try.underlying26 info3 rfl (by decide) (by omega) u5 x5_2 (wrap64 (Int.tmod (IntKind.u64.wrap ((Int.tmod t127 4294967296) + (IntKind.u64.wrap ((IntKind.u64.wrap (x9_2)) * x8_3)))) (IntKind.u64.wrap (a1)))) [.int .i64 (wrap64 (Int.tmod (IntKind.u64.wrap ((Int.tmod t127 4294967296) + (IntKind.u64.wrap ((IntKind.u64.wrap (x9_2)) * x8_3)))) (IntKind.u64.wrap (a1))))] (fun _ => True) (fun _ => False) rfl rfl ?aP (fun _ hk => hk.elim) ?aF ?aO ?aB ?aS ?aL ?_; (case aP => exact rfl); (case aB => exact (by repeat (first | (with_reducible first | exact HB.out | apply below_alloc | apply pw_below_drewN | apply below_drew1) | exact HB.out))); (case aF => exact (fun _ _ => trivial)); (case aO => exact (by (with_reducible repeat (first | apply Kd.R_alloc | apply Kd.R_drewN | apply Kd.R_drew)); exact HO_5.out)); (case aS => exact (below_size (by repeat (first | (with_reducible first | exact HB.out | apply below_alloc | apply pw_below_drewN | apply below_drew1) | exact HB.out)))); (case aL => have := LMc9.out; omega); intro v129 w10 ho hb hg hat; rw [← Ny128.out] at ho; have n0_ := Aside0.mk (hb); have n1_ := Aside0.mk (ho); clear HB; clear HO_5; have HB := n0_; have HO130 := n1_; clear n0_ n1_; clear ho hb hg hat))
                  go_roundg k2
                  case measure => have := HJ3.out; have := HK2.out; omega
                  case rel => exact ⟨(y128), (wrap64 (x9_2 + 1)), (by first | rfl | (simp; done) | (simp [*]; done)), H', ⟨by have := HJ3.out; have := HK2.out; omega⟩, ⟨by (with_reducible repeat (first | apply Kd.R_alloc | apply Kd.R_drewN | apply Kd.R_drew)); exact HO130.out⟩, ⟨by repeat (first | (with_reducible first | exact HB.out | apply below_alloc | apply pw_below_drewN | apply below_drew1) | exact HB.out)⟩⟩
                · rw [if_neg c9] at H
                  exact absurd H (by simp)
            · rw [if_neg c7] at H
              have c7b0 : decide (1 ≤ a1) = false := decide_eq_false c7
              clear c7
              obtain rfl := Option.some.inj H
              go_wp2
              go_ret
              exact ⟨_, by first | rfl | (simp [errW_none, errW_some] <;> rfl) | (simp [*, errW_none, errW_some] <;> rfl), by (with_reducible repeat (first | apply Kd.R_alloc | apply Kd.R_drewN | apply Kd.R_drew)); exact HO_5.out, by repeat (first | (with_reducible first | exact HB.out | apply below_alloc | apply pw_below_drewN | apply below_drew1) | exact HB.out)⟩
          · rw [if_neg c6] at H
            have c6b0 : decide (x9_2 < 4) = false := decide_eq_false c6
            clear c6
            obtain rfl := Option.some.inj H
            go_wp2
            go_ret
            exact ⟨_, by first | rfl | (simp [errW_none, errW_some] <;> rfl) | (simp [*, errW_none, errW_some] <;> rfl), by (with_reducible repeat (first | apply Kd.R_alloc | apply Kd.R_drewN | apply Kd.R_drew)); exact HO_5.out, by repeat (first | (with_reducible first | exact HB.out | apply below_alloc | apply pw_below_drewN | apply below_drew1) | exact HB.out)⟩

/-! ### moultlaw9_FilterPlaces: function 3 -/
def moultlaw9_FilterPlaces.j0 : Nat → ByteArray → Int → Bool → Bool → Option (Bool)
  | 0, _, _, _, _ => none
  | k + 1, x0, x1, x5, x13 => if x13 = true then (some x5) else ((filter_Hash.f k x0).bind fun t132 => ((moultref9_Hash.f k x0).bind fun t133 => (if t132 = t133 then ((filter_Places.f k x0 x1).bind fun t134 => ((moultref9_Places.f k x0 x1).bind fun t137 => ((moultlaw9_same.f k t134 t137).bind fun t140 => (some t140)))) else (some false))))
def moultlaw9_FilterPlaces.f (k : Nat) (a0 : ByteArray) (a1 : Int) : Option (Bool) := (moultlaw9_shown.f k).bind fun t131 => (if t131 = true then (moultlaw9_FilterPlaces.j0 k a0 a1 t131 (decide ((a0.size : Int) > 2000))) else (moultlaw9_FilterPlaces.j0 k a0 a1 t131 true))
theorem moultlaw9_FilterPlaces.mono_l : ∀ k, (∀ y0 y1 y2 y3, LeO (moultlaw9_FilterPlaces.j0 k y0 y1 y2 y3) (moultlaw9_FilterPlaces.j0 (k + 1) y0 y1 y2 y3))
  | 0 => fun _ _ _ _ r h => by simp [moultlaw9_FilterPlaces.j0] at h
  | k + 1 => by
    have ih0 := moultlaw9_FilterPlaces.mono_l k
    · intro y0 y1 y2 y3
      unfold moultlaw9_FilterPlaces.j0
      repeat' first
      | (with_reducible exact ih0 _ _ _ _)
      | (with_reducible exact filter_Hash.mono _ _)
      | (with_reducible exact filter_Places.mono _ _ _)
      | (with_reducible exact moultlaw9_same.mono _ _ _)
      | (with_reducible exact moultlaw9_shown.mono _)
      | (with_reducible exact moultref9_Hash.mono _ _)
      | (with_reducible exact moultref9_Places.mono _ _ _)
      | (with_reducible exact LeO.refl _)
      | (with_reducible exact LeO.none _)
      | (with_reducible refine LeO.ite ?_ ?_)
      | (with_reducible refine LeO.bind ?_ (fun _ => ?_))
      | exact ih0 _ _ _ _
      | exact filter_Hash.mono _ _
      | exact filter_Places.mono _ _ _
      | exact moultlaw9_same.mono _ _ _
      | exact moultlaw9_shown.mono _
      | exact moultref9_Hash.mono _ _
      | exact moultref9_Places.mono _ _ _
      | exact LeO.none _
      | refine LeO.ite ?_ ?_
      | refine LeO.bind ?_ (fun _ => ?_)
theorem moultlaw9_FilterPlaces.mono : ∀ a0 a1 k, LeO (moultlaw9_FilterPlaces.f k a0 a1) (moultlaw9_FilterPlaces.f (k + 1) a0 a1) := by
  intro a0 a1 k
  have ih0 := moultlaw9_FilterPlaces.mono_l k
  unfold moultlaw9_FilterPlaces.f
  repeat' first
      | (with_reducible exact ih0 _ _ _ _)
      | (with_reducible exact filter_Hash.mono _ _)
      | (with_reducible exact filter_Places.mono _ _ _)
      | (with_reducible exact moultlaw9_same.mono _ _ _)
      | (with_reducible exact moultlaw9_shown.mono _)
      | (with_reducible exact moultref9_Hash.mono _ _)
      | (with_reducible exact moultref9_Places.mono _ _ _)
      | (with_reducible exact LeO.refl _)
      | (with_reducible exact LeO.none _)
      | (with_reducible refine LeO.ite ?_ ?_)
      | (with_reducible refine LeO.bind ?_ (fun _ => ?_))
      | exact ih0 _ _ _ _
      | exact filter_Hash.mono _ _
      | exact filter_Places.mono _ _ _
      | exact moultlaw9_same.mono _ _ _
      | exact moultlaw9_shown.mono _
      | exact moultref9_Hash.mono _ _
      | exact moultref9_Places.mono _ _ _
      | exact LeO.none _
      | refine LeO.ite ?_ ?_
      | refine LeO.bind ?_ (fun _ => ?_)
set_option maxHeartbeats 8000000 in
set_option maxRecDepth 100000 in
theorem moultlaw9_FilterPlaces.calls (k : Nat) (a0 : ByteArray) (a1 : Int) (r : Bool) (w : World) (h : moultlaw9_FilterPlaces.f k a0 a1 = some r) :
    Calls Try.prog 3 #[.string a0, .int .i64 a1] w fun e w' => e = .returned (.bool r) ∧ Below w.heap.size w w' := by
  have HB := Aside0.mk (Below.refl w.heap.size w)
  have H : ((moultlaw9_shown.f k).bind fun t131 => (if t131 = true then (moultlaw9_FilterPlaces.j0 k a0 a1 t131 (decide ((a0.size : Int) > 2000))) else (moultlaw9_FilterPlaces.j0 k a0 a1 t131 true))) = some r := h
  clear h
  replace H := Option.bind_eq_some_iff.mp H
  obtain ⟨t131, A30, H⟩ := H
  replace H : (if t131 = true then (moultlaw9_FilterPlaces.j0 k a0 a1 t131 (decide ((a0.size : Int) > 2000))) else (moultlaw9_FilterPlaces.j0 k a0 a1 t131 true)) = some r := H
  have A3 := Aside0.mk A30
  clear A30
  have HC4 := Aside0.mk H
  clear H
  go_enter Try.func3, Try.ntmps3
  go_upto_region 2 with (first | ((with_reducible refine gate_callee (f := 9) rfl ?_); refine goesL_ (some 6) rfl rfl Try.func9 (by kernel_rfl) rfl #[] rfl (by (try simp only [List.map_toArray, List.map_cons, List.map_nil]); first | done | rfl | (simp only [List.length_drop, List.length_take]; rfl)) ?_; (with_reducible refine (moultlaw9_shown.calls k  t131 _ A3.out).mono ?_); rintro e w5 ⟨rfl, hb⟩; refine ⟨_, rfl, ?_⟩; have n0_ := Aside0.mk (below_step (by repeat (first | (with_reducible first | exact HB.out | apply below_alloc | apply pw_below_drewN | apply below_drew1) | exact HB.out)) hb); clear HB; have HB := n0_; clear n0_; (try clear hb); (try clear hb2); (try clear hk); (try clear hi)))
  (try simp only [Act.put, List.setIfInBounds_toArray, List.set_cons_zero, List.set_cons_succ])
  go_cut [13] (fun v13 wc => ∃ (kq : Nat) (x13_3 : Bool), v13 = .bool x13_3 ∧ Aside0 (moultlaw9_FilterPlaces.j0 kq a0 a1 t131 x13_3 = some r) ∧ Aside0 (kq ≤ k) ∧ Aside0 (Below w.heap.size w wc))
  case first =>
    have H := HC4.out
    clear HC4
    by_cases c6 : t131 = true
    · subst c6
      have H1 : (moultlaw9_FilterPlaces.j0 k a0 a1 true (decide ((a0.size : Int) > 2000))) = some r := by rw [if_pos rfl] at H; exact H
      clear H
      have H := H1
      clear H1
      have H' := Aside0.mk H
      clear H
      go_wp2
      go_meet
      case rel => exact ⟨_, (decide ((a0.size : Int) > 2000)), (by first | rfl | (simp; done) | (simp [*]; done)), H', ⟨by first | omega | exact Nat.le_refl _⟩, ⟨by repeat (first | (with_reducible first | exact HB.out | apply below_alloc | apply pw_below_drewN | apply below_drew1) | exact HB.out)⟩⟩
    · replace c6 := Bool.eq_false_iff.mpr c6
      subst c6
      have H1 : (moultlaw9_FilterPlaces.j0 k a0 a1 false true) = some r := by rw [if_neg (show ¬ (false = true) by decide)] at H; exact H
      clear H
      have H := H1
      clear H1
      have H' := Aside0.mk H
      clear H
      go_wp2
      go_meet
      case rel => exact ⟨_, (true), (by first | rfl | (simp; done) | (simp [*]; done)), H', ⟨by first | omega | exact Nat.le_refl _⟩, ⟨by repeat (first | (with_reducible first | exact HB.out | apply below_alloc | apply pw_below_drewN | apply below_drew1) | exact HB.out)⟩⟩
  case rest =>
    clear HC4
    try clear p2
    try clear c3
    try clear c6
    obtain ⟨kq, x13_3, rfl, HA, HJ3, HB⟩ := hcut
    cases kq with
    | zero => exact absurd HA.out (by simp [moultlaw9_FilterPlaces.j0])
    | succ kj3 =>
      have H := HA.out
      clear HA
      simp only [moultlaw9_FilterPlaces.j0] at H
      by_cases c7 : x13_3 = true
      · subst c7
        have H1 : (some t131) = some r := by rw [if_pos rfl] at H; exact H
        clear H
        have H := H1
        clear H1
        obtain rfl := Option.some.inj H
        go_wp2
        go_ret
        exact ⟨by first | rfl | (simp [errW_none, errW_some] <;> rfl) | (simp [*, errW_none, errW_some] <;> rfl), by repeat (first | (with_reducible first | exact HB.out | apply below_alloc | apply pw_below_drewN | apply below_drew1) | exact HB.out)⟩
      · replace c7 := Bool.eq_false_iff.mpr c7
        subst c7
        have H1 : ((filter_Hash.f kj3 a0).bind fun t132 => ((moultref9_Hash.f kj3 a0).bind fun t133 => (if t132 = t133 then ((filter_Places.f kj3 a0 a1).bind fun t134 => ((moultref9_Places.f kj3 a0 a1).bind fun t137 => ((moultlaw9_same.f kj3 t134 t137).bind fun t140 => (some t140)))) else (some false)))) = some r := by rw [if_neg (show ¬ (false = true) by decide)] at H; exact H
        clear H
        have H := H1
        clear H1
        replace H := Option.bind_eq_some_iff.mp H
        obtain ⟨t132, A80, H⟩ := H
        replace H : ((moultref9_Hash.f kj3 a0).bind fun t133 => (if t132 = t133 then ((filter_Places.f kj3 a0 a1).bind fun t134 => ((moultref9_Places.f kj3 a0 a1).bind fun t137 => ((moultlaw9_same.f kj3 t134 t137).bind fun t140 => (some t140)))) else (some false))) = some r := H
        have A8 := Aside0.mk A80
        clear A80
        replace H := Option.bind_eq_some_iff.mp H
        obtain ⟨t133, A90, H⟩ := H
        replace H : (if t132 = t133 then ((filter_Places.f kj3 a0 a1).bind fun t134 => ((moultref9_Places.f kj3 a0 a1).bind fun t137 => ((moultlaw9_same.f kj3 t134 t137).bind fun t140 => (some t140)))) else (some false)) = some r := H
        have A9 := Aside0.mk A90
        clear A90
        by_cases c10 : t132 = t133
        · rw [if_pos c10] at H
          have c10b0 : (t132 == t133) = true := beq_iff_eq.mpr c10
          have c10b1 : (t132 != t133) = false := bne_eq_false_iff_eq.mpr c10
          clear c10
          replace H := Option.bind_eq_some_iff.mp H
          obtain ⟨t134, A110, H⟩ := H
          replace H : ((moultref9_Places.f kj3 a0 a1).bind fun t137 => ((moultlaw9_same.f kj3 t134 t137).bind fun t140 => (some t140))) = some r := H
          have A11 := Aside0.mk A110
          clear A110
          replace H := Option.bind_eq_some_iff.mp H
          obtain ⟨t137, A120, H⟩ := H
          replace H : ((moultlaw9_same.f kj3 t134 t137).bind fun t140 => (some t140)) = some r := H
          have A12 := Aside0.mk A120
          clear A120
          replace H := Option.bind_eq_some_iff.mp H
          obtain ⟨t140, A130, H⟩ := H
          replace H : (some t140) = some r := H
          have A13 := Aside0.mk A130
          clear A130
          obtain rfl := Option.some.inj H
          go_wp2_with (first | ((with_reducible refine gate_callee (f := 10) rfl ?_); refine goesL_ (some 16) rfl rfl Try.func10 (by kernel_rfl) rfl #[.string a0] rfl (by (try simp only [List.map_toArray, List.map_cons, List.map_nil]); first | done | rfl | (simp only [List.length_drop, List.length_take]; rfl)) ?_; (with_reducible refine (filter_Hash.calls kj3 a0 t132 _ A8.out).mono ?_); rintro e w' ⟨rfl, ⟨nd, rfl⟩⟩; refine ⟨_, rfl, ?_⟩) | ((with_reducible refine gate_callee (f := 11) rfl ?_); refine goesL_ (some 18) rfl rfl Try.func11 (by kernel_rfl) rfl #[.string a0] rfl (by (try simp only [List.map_toArray, List.map_cons, List.map_nil]); first | done | rfl | (simp only [List.length_drop, List.length_take]; rfl)) ?_; (with_reducible refine (moultref9_Hash.calls kj3 a0 t133 _ A9.out).mono ?_); rintro e w' ⟨rfl, ⟨nd, rfl⟩⟩; refine ⟨_, rfl, ?_⟩) | (go_at_call 13; (with_reducible refine (filter_Places.calls kj3 a0 a1 t134 _ A11.out).mono ?_); rintro e w14 ⟨v135, rfl, ho0, hb⟩; have n0_ := Aside0.mk (Kd.R_lower ho0 (below_size (by repeat (first | (with_reducible first | exact HB.out | apply below_alloc | apply pw_below_drewN | apply below_drew1) | exact HB.out)))); have n1_ := Aside0.mk (below_step (by repeat (first | (with_reducible first | exact HB.out | apply below_alloc | apply pw_below_drewN | apply below_drew1) | exact HB.out)) hb); clear HB; have HO136 := n0_; have HB := n1_; clear n0_ n1_; (try clear hb); (try clear hb2); (try clear hk); (try clear hi); (try clear ho0)) | (go_at_call 14; (with_reducible refine (moultref9_Places.calls kj3 a0 a1 t137 _ A12.out).mono ?_); rintro e w15 ⟨v138, rfl, ho0, hb⟩; have n0_ := Aside0.mk (Kd.R_elder' (by (with_reducible repeat (first | apply Kd.R_alloc | apply Kd.R_drewN | apply Kd.R_drew)); exact HO136.out) (Kd.R_base ho0) hb); have n1_ := Aside0.mk (Kd.R_lower (Kd.R_new' ho0 (Kd.R_lt (by (with_reducible repeat (first | apply Kd.R_alloc | apply Kd.R_drewN | apply Kd.R_drew)); exact HO136.out))) (below_size (by repeat (first | (with_reducible first | exact HB.out | apply below_alloc | apply pw_below_drewN | apply below_drew1) | exact HB.out)))); have n2_ := Aside0.mk (below_step (by repeat (first | (with_reducible first | exact HB.out | apply below_alloc | apply pw_below_drewN | apply below_drew1) | exact HB.out)) hb); clear HO136; clear HB; have HO136 := n0_; have HO139 := n1_; have HB := n2_; clear n0_ n1_ n2_; (try clear hb); (try clear hb2); (try clear hk); (try clear hi); (try clear ho0); obtain ⟨Ao16, co16, eo16⟩ := Kd.R_slice HO136.out; subst eo16; obtain ⟨Ao17, co17, eo17⟩ := Kd.R_slice HO139.out; subst eo17) | (go_at_call 12; (with_reducible refine (moultlaw9_same.calls kj3 _ _ t134 _ _ t137 t140 _ ?side1 ?side2 ?side3 ?side4 A13.out).mono ?_); (case side1 => repeat (first | exact (Kd.R_reads' HO136.out).2.2 | (with_reducible refine Kd.C_alloc ?_ _) | (with_reducible refine Kd.C_drewN ?_ _) | (with_reducible refine Kd.C_drew ?_))); (case side2 => exact (Kd.R_reads' HO136.out).2.1); (case side3 => repeat (first | exact (Kd.R_reads' HO139.out).2.2 | (with_reducible refine Kd.C_alloc ?_ _) | (with_reducible refine Kd.C_drewN ?_ _) | (with_reducible refine Kd.C_drew ?_))); (case side4 => exact (Kd.R_reads' HO139.out).2.1); rintro e w' ⟨rfl, ⟨nd, rfl⟩⟩))
          go_ret
          exact ⟨by first | rfl | (simp [errW_none, errW_some] <;> rfl) | (simp [*, errW_none, errW_some] <;> rfl), by repeat (first | (with_reducible first | exact HB.out | apply below_alloc | apply pw_below_drewN | apply below_drew1) | exact HB.out)⟩
        · rw [if_neg c10] at H
          have c10b0 : (t132 == t133) = false := beq_eq_false_iff_ne.mpr c10
          have c10b1 : (t132 != t133) = true := bne_iff_ne.mpr c10
          obtain rfl := Option.some.inj H
          go_wp2_with (first | ((with_reducible refine gate_callee (f := 10) rfl ?_); refine goesL_ (some 16) rfl rfl Try.func10 (by kernel_rfl) rfl #[.string a0] rfl (by (try simp only [List.map_toArray, List.map_cons, List.map_nil]); first | done | rfl | (simp only [List.length_drop, List.length_take]; rfl)) ?_; (with_reducible refine (filter_Hash.calls kj3 a0 t132 _ A8.out).mono ?_); rintro e w' ⟨rfl, ⟨nd, rfl⟩⟩; refine ⟨_, rfl, ?_⟩) | ((with_reducible refine gate_callee (f := 11) rfl ?_); refine goesL_ (some 18) rfl rfl Try.func11 (by kernel_rfl) rfl #[.string a0] rfl (by (try simp only [List.map_toArray, List.map_cons, List.map_nil]); first | done | rfl | (simp only [List.length_drop, List.length_take]; rfl)) ?_; (with_reducible refine (moultref9_Hash.calls kj3 a0 t133 _ A9.out).mono ?_); rintro e w' ⟨rfl, ⟨nd, rfl⟩⟩; refine ⟨_, rfl, ?_⟩))
          go_ret
          exact ⟨by first | rfl | (simp [errW_none, errW_some] <;> rfl) | (simp [*, errW_none, errW_some] <;> rfl), by repeat (first | (with_reducible first | exact HB.out | apply below_alloc | apply pw_below_drewN | apply below_drew1) | exact HB.out)⟩

/-- THE ONE PURE STATEMENT of moultlaw9_FilterPlaces: yours. -/
def moultlaw9_FilterPlaces.Pure : Prop := ∀ (a0 : ByteArray) (a1 : Int), a0.size ≤ 140737488351232 → (Lit.int .i64 a1).wf = true → ∃ k, moultlaw9_FilterPlaces.f k a0 a1 = some true
theorem moultlaw9_FilterPlaces.walk (P : moultlaw9_FilterPlaces.Pure) (a0 : ByteArray) (a1 : Int) (w : World) (w0 : a0.size ≤ 140737488351232) (w1 : (Lit.int .i64 a1).wf = true) :
    Calls Try.prog 3 #[.string a0, .int .i64 a1] w fun e w' => e = .returned (.bool true) ∧ Below w.heap.size w w' := by
  obtain ⟨k, h⟩ := P a0 a1 w0 w1
  refine (moultlaw9_FilterPlaces.calls k a0 a1 true w h).mono ?_
  rintro e w' ⟨rfl, hd⟩
  exact ⟨rfl, hd⟩

end Go.Proofs.Ytdpadhmdiljpaaa.P
