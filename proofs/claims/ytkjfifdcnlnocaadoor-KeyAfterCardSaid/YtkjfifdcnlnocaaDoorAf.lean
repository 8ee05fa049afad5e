import Derived.Test.YtkjfifdcnlnocaaDoorPx0
import Derived.Test.YtkjfifdcnlnocaaDoorTx
import Derived.Test.YtkjfifdcnlnocaaDoorSb
import Derived.Test.YtkjfifdcnlnocaaDoorSh
import Derived.Deep.LoopGhost
import Derived.Lib.Hide
import Derived.Outline
import Derived.WalkKit
import Derived.RegionTactic
import Derived.Deep.RegionWith
import Derived.Deep.QuietTactic
import Derived.BigQuiet
import Derived.WalkSpells
-- Written by sprint.py (wip/tools) with the kit's print.py: a program's text, checked by Lean alone.
namespace Go.Proofs.YtkjfifdcnlnocaaDoor.P
open Go.RowKit Go.Proofs.YtkjfifdcnlnocaaDoorW.PrintWords Go.Proofs.YtkjfifdcnlnocaaDoorW.PrintLast Go.Proofs.YtkjfifdcnlnocaaDoorW.PrintMore
attribute [local go_sem] max2_int min2_int max_two min_two max_three min_three max_four min_four   -- for this text's walks alone
set_option linter.unusedVariables false
set_option linter.unusedSimpArgs false

def aftR : List UInt8 → Option (List UInt8)
  | [] => none
  | c :: r => if c = 255 then aftR r else some (r.reverse ++ [c + 1])
def aftL (l : List UInt8) : Option (List UInt8) := aftR l.reverse
theorem aftL_full (l : List UInt8) : aftL (l ++ [255]) = aftL l := by simp [aftL, aftR]
theorem aftL_less (l : List UInt8) (c : UInt8) (h : c ≠ 255) : aftL (l ++ [c]) = some (l ++ [c + 1]) := by simp [aftL, aftR, h]
def aftO (o : Option (List UInt8)) : ByteArray × Bool := match o with | some l => (⟨l.toArray⟩, true) | none => (⟨#[]⟩, false)
def key_After.f (a0 : ByteArray) : Option (ByteArray × Bool) := if a0.size ≤ 1099511627776 then some (aftO (aftL a0.data.toList)) else none
theorem bRow_size (s : ByteArray) (cap : Nat) (h : s.size ≤ cap) : (bytesRow s cap).size = cap := by
  have e : s.data.size = s.size := rfl
  simp only [bytesRow, Array.size_append, Array.size_map, Array.size_replicate, e]
  omega
theorem up_conv (l : List UInt8) (c d : UInt8) (g cap : Nat) (w3 : World) (s : ByteArray) (hs : s.data.toList = l ++ [c]) (hc : ∀ (j : Nat) (hj : j < s.data.toList.length), w3.cell? ⟨g, j, none⟩ = some (.int .u8 (s.data.toList[j].toNat : Int))) :
    (convert 46 9 (.slice (some ⟨g, 0, none⟩) (l.length + 1) cap)).run Tryd.prog (w3.setCell ⟨g, l.length, none⟩ (.int .u8 (d.toNat : Int))) = .ok (.string ⟨(l ++ [d]).toArray⟩) (w3.setCell ⟨g, l.length, none⟩ (.int .u8 (d.toNat : Int))) := by
  have hcells : ∀ (j : Nat) (hj : j < (l ++ [d]).length), (w3.setCell ⟨g, l.length, none⟩ (.int .u8 (d.toNat : Int))).cell? ((⟨g, 0, none⟩ : Addr).add j) = some (.int .u8 ((l ++ [d])[j].toNat : Int)) := by
    intro j hj
    have hlen : (l ++ [d]).length = l.length + 1 := by simp
    have hsl : s.data.toList.length = l.length + 1 := by rw [hs]; simp
    rw [Addr.add_lit, Nat.zero_add]
    by_cases e : j = l.length
    · subst e
      rw [World.cell?_setCell_same _ _ _ (hc l.length (by omega))]
      simp
    · rw [World.cell?_setCell_other _ _ _ _ (fun h => e (by injection h with _ h; exact h.symm)), hc j (by omega)]
      have hjl : j < l.length := by omega
      simp only [hs, List.getElem_append_left hjl]
  have h := run_convert_bytes_back (P := Tryd.prog) _ 46 9 5 ⟨g, 0, none⟩ cap (l ++ [d]) Tryd.underlying46 Tryd.underlying5 Tryd.underlying9 hcells
  rw [List.length_append] at h
  exact h
set_option maxHeartbeats 3200000 in
theorem key_After.calls (a0 : ByteArray) (r1 : ByteArray) (r2 : Bool) (w : World) (h : key_After.f a0 = some (r1, r2)) :
    Calls Tryd.prog 13 #[.string a0] w fun e w' => e = .returned (.tuple #[.string r1, .bool r2]) ∧ Below w.heap.size w w' := by
  unfold key_After.f at h
  split at h
  case isFalse => simp at h
  case isTrue hlim =>
  have HR := Aside0.mk (Option.some.inj h)
  clear h
  go_enter Tryd.func13, Tryd.ntmps13
  go_wp2_with fail
  go_loopg [4] (a0.size) (fun kq v4 w' => ∃ (n : Nat), v4 = .int .i64 (n : Int) ∧ Aside0 (kq = n) ∧ Aside0 (n ≤ a0.size) ∧ Aside0 (aftO (aftL (a0.data.toList.take n)) = (r1, r2)) ∧ w' = w)
  case atStart => exact ⟨a0.size, rfl, ⟨rfl⟩, ⟨Nat.le_refl _⟩, ⟨by rw [← data_length, List.take_length]; exact HR.out⟩, rfl⟩
  case round =>
    clear HR
    obtain ⟨n, rfl, HK, HN, HR, rfl⟩ := hrel
    cases n with
    | zero =>
      have hr := HR.out
      rw [List.take_zero] at hr
      simp only [aftL, aftR, List.reverse_nil, aftO, Prod.mk.injEq] at hr
      obtain ⟨rfl, rfl⟩ := hr
      go_wp2
      try rw [Exit.noGoto_ret]
      go_ret2
      exact ⟨rfl, Below.refl _ _⟩
    | succ m =>
      have hm : m < a0.data.toList.length := by rw [data_length]; have := HN.out; omega
      obtain ⟨c, hc⟩ : ∃ c, a0.data.toList[m] = c := ⟨_, rfl⟩
      have hr := HR.out
      rw [List.take_succ_eq_append_getElem hm, hc] at hr
      have hms : m < a0.size := by have := HN.out; omega
      have hb : ∀ h : m < a0.size, ((a0[m]'h).toNat : Int) = (c.toNat : Int) := fun h => by rw [← hc]; rfl
      have hp1 : ((m + 1 : Nat) : Int) - 1 = (m : Int) := by omega
      have hp0 : (0 : Int) < ((m + 1 : Nat) : Int) := by omega
      have hmi : (m : Int) < (a0.size : Int) := by omega
      by_cases hcf : c = 255
      · subst hcf
        rw [aftL_full] at hr
        have HR2 := Aside0.mk hr
        clear hr hm hc
        go_wp2
        go_roundg m
        case measure => have := HK.out; omega
        case rel => exact ⟨m, by go_num, ⟨rfl⟩, ⟨by omega⟩, HR2, rfl⟩
      · rw [aftL_less _ _ hcf] at hr
        simp only [aftO, Prod.mk.injEq] at hr
        obtain ⟨h1, rfl⟩ := hr
        obtain ⟨d, hd⟩ : ∃ d : UInt8, c + 1 = d := ⟨_, rfl⟩
        rw [hd] at h1
        have HR2 := Aside0.mk h1
        have hz : ((c.toNat : Int) == 255) = false := by
          simp only [beq_eq_false_iff_ne, ne_eq]
          intro e
          exact hcf (UInt8.toNat_inj.1 (by have : c.toNat = 255 := by omega
                                           simpa using this))
        have hm0 : (((m + 1 : Nat) : Int) == 0) = false := by simp; omega
        have hcv := fun w s => run_bytes_of_string (P := Tryd.prog) w 9 46 5 s Tryd.underlying9 Tryd.underlying46 Tryd.underlying5
        have hm1 : ((m + 1 : Nat) : Int) ≤ (a0.size : Int) := by omega
        have hmin : min (m + 1) a0.size = m + 1 := by omega
        obtain ⟨cap, hcap⟩ : ∃ cap, grownCap wr (m + 1) 0 5 = cap := ⟨_, rfl⟩
        have hge := grownCap_ge wr (m + 1) 0 5
        rw [hcap] at hge
        obtain ⟨s, hs⟩ : ∃ s, a0.extract 0 (m + 1) = s := ⟨_, rfl⟩
        have hsz : s.size = m + 1 := by rw [← hs, ByteArray.size_extract]; omega
        have hsd : s.data.toList = a0.data.toList.take m ++ [c] := by
          rw [← hs, Lib.extract_data, List.drop_zero, Nat.sub_zero, List.take_succ_eq_append_getElem hm, hc]
        have hbs := bRow_size s cap (by omega)
        have hc3 : ∀ (j : Nat) (hj : j < s.data.toList.length), ((wr.alloc (.cells (bytesRow s cap) 5 ((bytesRow s cap).size, (bytesRow s cap).size + 1))).drew).cell? ⟨wr.heap.size, j, none⟩ = some (.int .u8 (s.data.toList[j].toNat : Int)) := fun j hj => by
          rw [World.cell?_drew]
          refine (World.cell?_alloc_mark wr _ _ _ j).trans ?_
          rw [bytesRow_at s cap j (by rw [Array.length_toList] at hj; exact hj)]
          simp
        have hf3 : ((wr.alloc (.cells (bytesRow s cap) 5 ((bytesRow s cap).size, (bytesRow s cap).size + 1))).drew).frozen? ⟨wr.heap.size, m, none⟩ = false := by
          rw [World.frozen?_drew]
          refine (World.frozen?_alloc_mark wr _ _ _ _ m).trans ?_
          rw [decide_eq_false (show ¬ (bytesRow s cap).size ≤ m by omega), Bool.false_and]
        have htl : (a0.data.toList.take m).length = m := by rw [List.length_take]; omega
        have he3 := hc3 m (by rw [hsd]; simp [htl])
        rw [show s.data.toList[m]'(by rw [hsd]; simp [htl]) = c from by simp only [hsd]; rw [List.getElem_append_right (by omega)]; simp [htl]] at he3
        have hcn := up_conv (a0.data.toList.take m) c d wr.heap.size cap _ s hsd hc3
        rw [htl, World.setCell_drew] at hcn
        have hup : ((c.toNat : Int) + 1) % 256 = (d.toNat : Int) := by rw [← hd, UInt8.toNat_add]; simp
        have HBd : Aside0 (Below wr.heap.size wr ((wr.alloc (.cells (bytesRow s cap) 5 ((bytesRow s cap).size, (bytesRow s cap).size + 1))).drew)) := ⟨(below_alloc (Below.refl _ _) _).drew⟩
        have hk0 : (m : Int) < ((m + 1 : Nat) : Int) := by omega
        clear h1 hcf hc3 hbs hsd hge htl hc hm hd
        go_wp2
        try rw [Exit.noGoto_ret]
        go_ret2
        exact ⟨by rw [HR2.out]; rfl, HBd.out.setCell (Nat.le_refl _) _⟩
end Go.Proofs.YtkjfifdcnlnocaaDoor.P
