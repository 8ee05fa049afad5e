import Derived.Test.YtkdmjnmilmmnjaaPx0
import Derived.Test.YtkdmjnmilmmnjaaFr
import Derived.Test.YtkdmjnmilmmnjaaPx1b
import Derived.Test.YtkdmjnmilmmnjaaAp
import Derived.Test.YtkdmjnmilmmnjaaVb
import Derived.Deep.LoopGhost
import Derived.Lib.Hide
import Derived.Outline
import Derived.WalkKit
import Derived.RegionTactic
import Derived.Deep.RegionWith
import Derived.Deep.QuietTactic
import Derived.BigQuiet
import Derived.Test.YtkdmjnmilmmnjaaPx2
import Derived.Test.YtkdmjnmilmmnjaaPx5
-- Written by sprint.py (wip/tools) with the kit's print.py: a program's text, checked by Lean alone.
namespace Go.Proofs.Ytkdmjnmilmmnjaa.P
open Go.RowKit Go.Proofs.Ytkdmjnmilmmnjaa.Vp Go.Proofs.Ytkdmjnmilmmnjaa.Cp Go.Proofs.YtkdmjnmilmmnjaaW.PrintWords Go.Proofs.YtkdmjnmilmmnjaaW.PrintLast Go.Proofs.YtkdmjnmilmmnjaaW.PrintMore
attribute [local go_sem] max2_int min2_int max_two min_two max_three min_three max_four min_four   -- for this text's walks alone
set_option linter.unusedVariables false
set_option linter.unusedSimpArgs false

/-- A text of which one byte has one bit turned. -/
def turnS (f : ByteArray) (k q : Nat) : ByteArray := ⟨(f.data.toList.set k (UInt8.ofNat ((f.data.toList.getD k 0).toNat ^^^ 2 ^ q))).toArray⟩
def moultlaw5_CheckTurns.f (k : Nat) (a0 : ByteArray) (a1 a2 : Int) : Option Bool :=
  (moultlaw5_shown.f k).bind fun sh => if sh = true then (if (a0.size : Int) > 2000 then some true else
    (moultlaw5_pick.f a1 ((a0.size : Int) + 4)).bind fun p => (moultlaw5_pick.f a2 8).bind fun q =>
      if 0 ≤ p ∧ p < (a0.size : Int) + 4 ∧ 0 ≤ q ∧ q < 8 then
        (check_Unframe.f k (turnS (frameP a0) ((frameP a0).size - a0.size - 4 + p.toNat) q.toNat)).bind fun u => some (decide (u.1.toList = ([] : List UInt8)) && decide (u.2.2 = 9))
      else none) else none
theorem u8_turn (x : UInt8) (q : Nat) (hq : q < 8) : Go.bits .xor .u8 (x.toNat : Int) (IntKind.u8.wrap (2 ^ q)) = ((UInt8.ofNat (x.toNat ^^^ 2 ^ q)).toNat : Int) := by
  have hx := x.toNat_lt
  have h2 : 2 ^ q < 256 := Nat.pow_lt_pow_right (by decide) hq (n := 8)
  have e : IntKind.u8.wrap (2 ^ q) = ((2 ^ q : Nat) : Int) := by
    have : ((2 : Int) ^ q) = ((2 ^ q : Nat) : Int) := by simp
    rw [this]
    obtain ⟨z, hz⟩ : ∃ z : Nat, 2 ^ q = z := ⟨_, rfl⟩
    rw [hz] at h2 ⊢
    rw [IntKind.wrap_u8]; omega
  have h3 : x.toNat ^^^ 2 ^ q < 256 := Nat.xor_lt_two_pow (n := 8) (by omega) h2
  rw [e, u8_xor_nat _ _ (by omega) h2, UInt8.toNat_ofNat', Nat.mod_eq_of_lt h3]
theorem frameP_sz (s : ByteArray) : (frameP s).size = (putP (s.size : Int)).size + s.size + 4 := by
  have h : ∀ a b c d : Int, (strOfNums [a, b, c, d]).size = 4 := fun a b c d => by simp [strOfNums, ByteArray.size]
  unfold frameP; rw [ByteArray.size_append, ByteArray.size_append, h]
theorem turn_cells (fs : ByteArray) (kN q : Nat) (g : Nat) (w3 W' : World) (n : Nat) (x : UInt8) (hq : q < 8) (hkn : kN < fs.data.toList.length) (hx : x = fs.data.toList.getD kN 0) (hc : ∀ (j : Nat) (hj : j < fs.data.toList.length), w3.cell? ⟨g, j, none⟩ = some (.int .u8 (fs.data.toList[j].toNat : Int)))
    (hW : W' = (w3.drewN n).setCell ⟨g, kN, none⟩ (.int .u8 (Go.bits .xor .u8 (x.toNat : Int) (IntKind.u8.wrap (2 ^ q))))) :
    ∀ (j : Nat) (hj : j < (turnS fs kN q).data.toList.length), W'.cell? ((⟨g, 0, none⟩ : Addr).add j) = some (.int .u8 ((turnS fs kN q).data.toList[j].toNat : Int)) := by
  intro j hj
  have hl : (turnS fs kN q).data.toList = fs.data.toList.set kN (UInt8.ofNat ((fs.data.toList.getD kN 0).toNat ^^^ 2 ^ q)) := by simp [turnS]
  have hj' : j < fs.data.toList.length := by rw [hl, List.length_set] at hj; exact hj
  have hg : fs.data.toList.getD kN 0 = x := hx.symm
  have hgx : fs.data.toList[kN] = x := by rw [hx]; simp [List.getD_eq_getElem?_getD, List.getElem?_eq_getElem hkn]
  rw [hW, Addr.add_lit, Nat.zero_add]
  by_cases e : j = kN
  · subst e
    have h0 : (w3.drewN n).cell? ⟨g, j, none⟩ = some (.int .u8 (fs.data.toList[j].toNat : Int)) := by rw [World.cell?_drewN]; exact hc j hj'
    rw [World.cell?_setCell_same _ _ _ h0, u8_turn x q hq]
    simp only [hl, List.getElem_set_self, hg]
  · rw [World.cell?_setCell_other _ _ _ _ (fun h => e (by injection h with _ h; exact h.symm)), World.cell?_drewN, hc j hj']
    simp only [hl]
    rw [List.getElem_set_ne (by omega)]
theorem turnS_size (fs : ByteArray) (kN q : Nat) : (turnS fs kN q).data.toList.length = fs.size := by simp [turnS]
theorem turn_conv (fs : ByteArray) (kN q : Nat) (g cap : Nat) (w3 : World) (n : Nat) (x : UInt8) (hq : q < 8) (hkn : kN < fs.data.toList.length) (hx : x = fs.data.toList.getD kN 0) (hc : ∀ (j : Nat) (hj : j < fs.data.toList.length), w3.cell? ⟨g, j, none⟩ = some (.int .u8 (fs.data.toList[j].toNat : Int))) :
    (convert 38 9 (.slice (some ⟨g, 0, none⟩) fs.size cap)).run Try.prog ((w3.drewN n).setCell ⟨g, kN, none⟩ (.int .u8 (Go.bits .xor .u8 (x.toNat : Int) (IntKind.u8.wrap (2 ^ q))))) = .ok (.string (turnS fs kN q)) ((w3.drewN n).setCell ⟨g, kN, none⟩ (.int .u8 (Go.bits .xor .u8 (x.toNat : Int) (IntKind.u8.wrap (2 ^ q))))) := by
  have h := run_convert_bytes_back (P := Try.prog) _ 38 9 5 ⟨g, 0, none⟩ cap (turnS fs kN q).data.toList Try.underlying38 Try.underlying5 Try.underlying9 (turn_cells fs kN q g w3 _ n x hq hkn hx hc rfl)
  rw [turnS_size] at h
  exact h
set_option maxHeartbeats 4000000 in
theorem moultlaw5_CheckTurns.calls (k : Nat) (a0 : ByteArray) (a1 a2 : Int) (r : Bool) (w : World) (h : moultlaw5_CheckTurns.f k a0 a1 a2 = some r) :
    Calls Try.prog 7 #[.string a0, .int .i64 a1, .int .i64 a2] w fun e w' => e = .returned (.bool r) ∧ Below w.heap.size w w' := by
  unfold moultlaw5_CheckTurns.f at h
  obtain ⟨sh, hsh, h⟩ := Option.bind_eq_some_iff.1 h
  have HSh := Aside0.mk hsh
  cases sh with
  | false => rw [if_neg (by decide)] at h; cases h
  | true =>
  rw [if_pos rfl] at h
  clear hsh
  by_cases c : (a0.size : Int) > 2000
  · rw [if_pos c] at h
    obtain rfl := Option.some.inj h
    clear h
    have c1 : decide (2000 < (a0.size : Int)) = true := decide_eq_true c
    have c2 : decide (2000 < a0.size) = true := decide_eq_true (by omega)
    clear c
    go_enter Try.func7, Try.ntmps7
    go_wp2_with (first | (go_at_call 9; (with_reducible refine (moultlaw5_shown.calls k true _ HSh.out).mono ?_); rintro e w1 ⟨rfl, hb1⟩))
    go_ret
    exact ⟨rfl, hb1⟩
  · rw [if_neg c] at h
    obtain ⟨p, hp, h⟩ := Option.bind_eq_some_iff.1 h
    obtain ⟨q, hq, h⟩ := Option.bind_eq_some_iff.1 h
    split at h
    case isFalse => cases h
    case isTrue hpq =>
    obtain ⟨⟨t, rs, er⟩, hu, h⟩ := Option.bind_eq_some_iff.1 h
    obtain ⟨hp0, hp1, hq0, hq1⟩ := hpq
    have hr := Option.some.inj h
    have HR := Aside0.mk hr
    have HFr : Aside0 (check_Frame.f a0 = some (frameP a0, 0)) := ⟨by unfold check_Frame.f; rw [if_neg (by omega)]⟩
    have HP := Aside0.mk hp
    have HQ := Aside0.mk hq
    have HU := Aside0.mk hu
    clear h hr hp hq hu
    have hfz := frameP_sz a0
    have hp1l := putL_len (a0.size : Int)
    have hpe : (putL (a0.size : Int)).length = (putP (a0.size : Int)).size := by rw [← putP_bytes (by omega), size_bytesOf]
    generalize frameP a0 = fs at HFr HU hfz
    have hge : a0.size + 5 ≤ fs.size ∧ fs.size ≤ a0.size + 13 := by rw [hpe] at hp1l; rw [hfz]; generalize (putP (a0.size : Int)).size = z at hp1l ⊢; omega
    clear hfz hpe hp1l
    obtain ⟨D, hD⟩ : ∃ D, D = fs.size - a0.size := ⟨_, rfl⟩
    obtain ⟨Q, hQ⟩ : ∃ Q, Q = fs.size - a0.size - 4 := ⟨_, rfl⟩
    obtain ⟨kN, hk⟩ : ∃ kN, kN = fs.size - a0.size - 4 + p.toNat := ⟨_, rfl⟩
    rw [← hk] at HU
    have iD : (D : Int) = (fs.size : Int) - (a0.size : Int) := by rw [hD]; omega
    have iQ : (Q : Int) = (D : Int) - 4 := by rw [hQ, hD]; omega
    have ik : (kN : Int) = (Q : Int) + p := by rw [hk, hQ]; omega
    have hkl : kN < fs.size := by clear hD hQ hk; omega
    have hsm : fs.size ≤ 2013 := by clear hD hQ hk iD iQ ik; omega
    clear hD hQ hk
    have hw : ∀ x : Int, 0 ≤ x → x < 5000 → wrap64 x = x := by intro x h1 h2; clear iD iQ ik hkl hsm hge hp0 hp1 hq0 hq1 c; unfold wrap64; omega
    have B : 0 ≤ (D : Int) ∧ (D : Int) < 5000 ∧ 0 ≤ (Q : Int) ∧ (Q : Int) < 5000 ∧ 0 ≤ (kN : Int) ∧ (kN : Int) < 5000 ∧ ¬ ((fs.size : Int) < (a0.size : Int) + 5) := by omega
    have F1 : wrap64 ((a0.size : Int) + 5) = (a0.size : Int) + 5 := hw _ (by omega) (by omega)
    have F2 : decide ((fs.size : Int) < (a0.size : Int) + 5) = false := decide_eq_false B.2.2.2.2.2.2
    have F3 : wrap64 ((fs.size : Int) - (a0.size : Int)) = (D : Int) := by rw [← iD]; exact hw _ B.1 B.2.1
    have F4 : wrap64 ((D : Int) - 4) = (Q : Int) := by rw [← iQ]; exact hw _ B.2.2.1 B.2.2.2.1
    have F5 : wrap64 ((a0.size : Int) + 4) = (a0.size : Int) + 4 := hw _ (by omega) (by omega)
    have F6 : wrap64 ((Q : Int) + p) = (kN : Int) := by rw [← ik]; exact hw _ B.2.2.2.2.1 B.2.2.2.2.2.1
    have c1 : decide (2000 < (a0.size : Int)) = false := decide_eq_false (by clear F1 F2 F3 F4 F5 F6; omega)
    have c2 : decide (2000 < a0.size) = false := decide_eq_false (by clear F1 F2 F3 F4 F5 F6; omega)
    have hcv := fun w s => run_bytes_of_string (P := Try.prog) w 9 38 5 s Try.underlying9 Try.underlying38 Try.underlying5
    have HKL := Aside0.mk hkl
    have HQB := Aside0.mk (And.intro hq0 hq1)
    clear c hge iD iQ ik hsm hkl hw B hp0 hp1 hq0 hq1
    go_enter Try.func7, Try.ntmps7
    go_wp2_with (first | (go_at_call 9; (with_reducible refine (moultlaw5_shown.calls k true _ HSh.out).mono ?_); rintro e w1 ⟨rfl, hb1⟩; have HB1 := Aside0.mk hb1; clear hb1) | (go_at_call 10; (with_reducible refine (check_Frame.calls a0 fs 0 _ HFr.out).mono ?_); rintro e w2 ⟨rfl, hb2⟩; have HB2 := Aside0.mk (below_then HB1.out HB1.out.size hb2); clear hb2) | (go_at_call 14; go_loud ((with_reducible refine (moultlaw5_pick.calls a1 ((a0.size : Int) + 4) p _ HP.out).mono ?_); rintro e w' ⟨rfl, ⟨m, rfl⟩⟩)))
    obtain ⟨cap, hcap⟩ : ∃ cap, grownCap w2 fs.size 0 5 = cap := ⟨_, rfl⟩
    have hge := grownCap_ge w2 fs.size 0 5
    rw [hcap] at hge ⊢
    rw [F6]
    clear hcap hcv F1 F2 F3 F4 F5 F6 c1 c2
    have hbs := Ap.bytesRow_size fs cap hge
    have hsl : fs.data.toList.length = fs.size := by rw [Array.length_toList]; rfl
    have hkn := HKL.out
    obtain ⟨x, hx⟩ : ∃ x : UInt8, x = fs.data.toList.getD kN 0 := ⟨_, rfl⟩
    obtain ⟨g, hg⟩ : ∃ g, g = w2.heap.size := ⟨_, rfl⟩
    have hc3 : ∀ (j : Nat) (hj : j < fs.data.toList.length), ((w2.alloc (.cells (bytesRow fs cap) 5 ((bytesRow fs cap).size, (bytesRow fs cap).size + 1))).drewN (1 + m)).cell? ⟨g, j, none⟩ = some (.int .u8 (fs.data.toList[j].toNat : Int)) := fun j hj => by
      rw [World.cell?_drewN, hg]
      refine (World.cell?_alloc_mark w2 _ _ _ j).trans ?_
      rw [bytesRow_at fs cap j (by rw [Array.length_toList] at hj; exact hj)]
      simp
    have hf3 : ((w2.alloc (.cells (bytesRow fs cap) 5 ((bytesRow fs cap).size, (bytesRow fs cap).size + 1))).drewN (1 + m)).frozen? ⟨g, kN, none⟩ = false := by
      rw [World.frozen?_drewN, hg]
      refine (World.frozen?_alloc_mark w2 _ _ _ _ kN).trans ?_
      rw [decide_eq_false (show ¬ (bytesRow fs cap).size ≤ kN by omega), Bool.false_and]
    have hb3 : Below w.heap.size w ((w2.alloc (.cells (bytesRow fs cap) 5 ((bytesRow fs cap).size, (bytesRow fs cap).size + 1))).drewN (1 + m)) := pw_below_drewN (below_alloc HB2.out _) _
    rw [← hg]
    generalize (w2.alloc (.cells (bytesRow fs cap) 5 ((bytesRow fs cap).size, (bytesRow fs cap).size + 1))).drewN (1 + m) = w3 at hc3 hf3 hb3 ⊢
    have e3 := hc3 kN (by rw [hsl]; exact hkn)
    rw [show fs.data.toList[kN]'(by rw [hsl]; exact hkn) = x from by rw [hx]; simp [List.getD_eq_getElem?_getD, List.getElem?_eq_getElem (show kN < fs.data.toList.length by rw [hsl]; exact hkn)]] at e3
    have hk1 : (kN : Int) < (fs.size : Int) := by omega
    have hk2 : 0 ≤ (kN : Int) := by omega
    have hq0 := HQB.out.1
    have hq1 := HQB.out.2
    have HG : Aside0 (w.heap.size ≤ g) := ⟨by rw [hg]; exact HB2.out.size⟩
    have HC3 := Aside0.mk hc3
    have HX := Aside0.mk hx
    have HB3 := Aside0.mk hb3
    have HQ8 : Aside0 (q.toNat < 8) := ⟨by omega⟩
    have HKN : Aside0 (kN < fs.data.toList.length) := ⟨by rw [hsl]; exact hkn⟩
    clear hc3 hx hg hbs hsl hge hb3 hkn
    go_region_with (first | (go_at_call 14; go_loud ((with_reducible refine (moultlaw5_pick.calls a2 8 q _ HQ.out).mono ?_); rintro e w' ⟨rfl, ⟨m2, rfl⟩⟩)))
    all_goals have hcvt := fun n => turn_conv fs kN q.toNat g cap w3 n x HQ8.out HKN.out HX.out HC3.out
    all_goals clear e3 hf3
    all_goals go_wp2_with (first | (go_at_call 15; go_loud ((with_reducible refine (check_Unframe.calls k _ t rs er _ HU.out).mono ?_); rintro e w5 ⟨rfl, hb5⟩; have HB5 := Aside0.mk hb5; clear hb5)))
    all_goals go_ret
    all_goals exact ⟨by rw [← HR.out]; by_cases ht : t.toList = [] <;> by_cases he : er = 9 <;> simp_all, below_then ((pw_below_drewN HB3.out _).setCell HG.out _) ((pw_below_drewN HB3.out _).setCell (p := ⟨g, kN, none⟩) HG.out _).size HB5.out⟩
end Go.Proofs.Ytkdmjnmilmmnjaa.P
