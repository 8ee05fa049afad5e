import Derived.Test.YtbhainkcdkgbbaaProg
import Derived.Below
import Derived.Deep.Draws
import Derived.Deep.AppendLies
import Derived.Maps.AppendAt
import Derived.OwnWalk
import Derived.Laws.BytesArg
import Derived.Laws.MakeOwn
import Derived.Laws.OwnMore
import Derived.Deep.OwnRows
import Derived.Tactics
import Derived.Lib.ConvBytes
import Derived.Laws.Slices
import Derived.WalkKit
import Derived.KernelRfl
import Derived.RowKit3
import Derived.Deep.LoopGhost
import Derived.Deep.QuietTactic
import Derived.BigQuiet
import Derived.WideLaws
import Derived.Deep.DeepCutAuto
import Derived.Deep.CutBlock
import Derived.Deep.RegionHeld3
import Derived.Laws.Rows
import Derived.Lib.AppendStr
import Derived.ArgAppend
import Derived.Laws.IdiomCopy
import Derived.OrdersHeld
import Derived.Laws.BitsLemmas
import Derived.RowKit
import Derived.Lib.Hide
import Derived.Laws.ShiftsVar
import Derived.Laws.ShiftsVarLaws
import Derived.Laws.BitsAllLaws
import Derived.Shelf.Strings.Builder1
import Derived.Laws.Strings
import Derived.Laws.StructEq
import Derived.WalkSpells
import Derived.Outline
import Derived.RegionTactic
import Derived.Deep.RegionWith
import Derived.StillTailTactics
import Derived.Deep.RegionLaw
import Derived.Test.YtbhainkcdkgbbaaQ0
import Derived.Test.YtbhainkcdkgbbaaQ1
import Derived.Test.YtbhainkcdkgbbaaQ2
import Derived.Test.YtbhainkcdkgbbaaQ4
namespace Go.Proofs.Ytbhainkcdkgbbaa.P
end Go.Proofs.Ytbhainkcdkgbbaa.P
namespace Go.Proofs.Ytbhainkcdkgbbaa.Sl
end Go.Proofs.Ytbhainkcdkgbbaa.Sl
namespace Go.Proofs.Ytbhainkcdkgbbaa.Vp
end Go.Proofs.Ytbhainkcdkgbbaa.Vp
namespace Go.Proofs.YtbhainkcdkgbbaaW.PrintLast
end Go.Proofs.YtbhainkcdkgbbaaW.PrintLast
namespace Go.Proofs.YtbhainkcdkgbbaaW.PrintMore
end Go.Proofs.YtbhainkcdkgbbaaW.PrintMore
namespace Go.Proofs.YtbhainkcdkgbbaaW.PrintWords
end Go.Proofs.YtbhainkcdkgbbaaW.PrintWords
section
namespace Go.Proofs.Ytbhainkcdkgbbaa.P
open Go.RowKit Go.Proofs.Ytbhainkcdkgbbaa.Vp Go.Proofs.Ytbhainkcdkgbbaa.Sl Go.Proofs.YtbhainkcdkgbbaaW.PrintWords Go.Proofs.YtbhainkcdkgbbaaW.PrintLast Go.Proofs.YtbhainkcdkgbbaaW.PrintMore
attribute [local go_sem] str_gtr str_leq str_geq max2_int min2_int max_two min_two max_three min_three max_four min_four
set_option linter.unusedVariables false
set_option linter.unusedSimpArgs false
def soB (from_ to_ : ByteArray) (p : S43) : Bool := (!(Op.bytesLess p.f0.toList from_.toList)) && ((to_.toList.isEmpty) || Op.bytesLess p.f0.toList to_.toList)
set_option maxHeartbeats 1600000 in
theorem between_clo (g g2 : Nat) (fr tt : ByteArray) (p : S43) (w : World) (hg : w.cell? ⟨g, 0, none⟩ = some (.string fr)) (hg2 : w.cell? ⟨g2, 0, none⟩ = some (.string tt)) :
    Calls Try.prog 31 #[.agg #[.string p.f0, .string p.f1], .pointer (some ⟨g, 0, none⟩), .pointer (some ⟨g2, 0, none⟩)] w fun e w' => e = .returned (.bool ((soB fr tt) p)) ∧ Below w.heap.size w w' := by
  obtain ⟨a, b⟩ := p
  have hso : soB fr tt (⟨a, b⟩ : S43) = ((!(Op.bytesLess a.toList fr.toList)) && ((tt.toList.isEmpty) || Op.bytesLess a.toList tt.toList)) := rfl
  rw [hso]
  clear hso
  have hg' : (w.alloc (.cells #[.string a, .string b] 43)).cell? ⟨g, 0, none⟩ = some (.string fr) := pw_cell_below (below_alloc (Below.refl _ _) _) hg
  have hg2' : (w.alloc (.cells #[.string a, .string b] 43)).cell? ⟨g2, 0, none⟩ = some (.string tt) := pw_cell_below (below_alloc (Below.refl _ _) _) hg2
  cases h1 : Op.bytesLess a.toList fr.toList with
  | true =>
    go_enter Try.func31, Try.ntmps31
    go_wp2
    go_ret
    exact ⟨rfl, below_alloc (Below.refl _ _) _⟩
  | false =>
    cases h2 : tt.toList.isEmpty with
    | true =>
      have h3 : tt.toList = [] := List.isEmpty_iff.1 h2
      go_enter Try.func31, Try.ntmps31
      go_wp2
      go_ret
      exact ⟨rfl, below_alloc (Below.refl _ _) _⟩
    | false =>
      have h3 : ¬ tt.toList = [] := fun e => by rw [e] at h2; cases h2
      go_enter Try.func31, Try.ntmps31
      go_wp2
      go_ret
      exact ⟨rfl, below_alloc (Below.refl _ _) _⟩
set_option maxHeartbeats 1600000 in
theorem between_which (k : Nat) (s : ByteArray) (g g2 : Nat) (fr tt : ByteArray) (l : List S43) (e2 : Int) (w : World) (h : block_Read.f k s = some (l, e2)) (hl : l.length < 4398046511104) (hg : w.cell? ⟨g, 0, none⟩ = some (.string fr)) (hg2 : w.cell? ⟨g2, 0, none⟩ = some (.string tt)) :
    Calls Try.prog 29 #[.string s, .func (.func 31) #[] #[.pointer (some ⟨g, 0, none⟩), .pointer (some ⟨g2, 0, none⟩)]] w fun e w' => ∃ v0_ : Value, e = .returned (.tuple #[v0_, .int .i64 e2]) ∧ Kd.R k43 43 w' w.heap.size (fun _ => True) v0_ (l.filter (soB fr tt)) ∧ Below w.heap.size w w' := by
  have HRd := Aside0.mk h
  have HL := Aside0.mk hl
  have HG := Aside0.mk hg
  have HG2 := Aside0.mk hg2
  clear hg hg2
  clear h hl
  go_enter Try.func29, Try.ntmps29
  go_wp2_with (first | (go_at_call 10; (with_reducible refine (block_Read.calls k s l e2 _ HRd.out).mono ?_); rintro e w4 ⟨v4, rfl, ho4, hb4⟩; have HO4 := Aside0.mk ho4; have HB4 := Aside0.mk hb4; clear ho4 hb4; obtain ⟨Ao, co, eo⟩ := Kd.R_slice HO4.out; subst eo))
  have HC4 := Aside0.mk (Kd.R_reads' HO4.out).2.2
  go_loopg [8, 18] (l.length) (fun kq v8 v18 w' => ∃ (m N cp : Nat) (A : Option Addr), v8 = .slice A N cp ∧ v18 = .int .i64 (m : Int) ∧ Aside0 (kq = l.length - m) ∧ Aside0 (m ≤ l.length) ∧ Aside0 (Kd.R k43 43 w' w4.heap.size (fun _ => True) (.slice A N cp) ((l.take m).filter (soB fr tt))) ∧ Aside0 (Below w4.heap.size w4 w'))
  case atStart => exact ⟨0, 0, 0, none, rfl, rfl, ⟨rfl⟩, ⟨by omega⟩, ⟨Kd.R_nil _ _ _ _ _⟩, ⟨Below.refl _ _⟩⟩
  case round =>
    obtain ⟨m, N, cp, A, rfl, rfl, HKQ, HM, HF, HB⟩ := hrel
    by_cases c : m < l.length
    · have c1 : decide ((m : Int) < (l.length : Int)) = true := by simp; exact c
      have hn0 : 0 ≤ (m : Int) := by omega
      have hm1 : (m : Int) < (l.length : Int) := by omega
      obtain ⟨ad, ead, hx0, hx1⟩ := at_T43 (Kd.C_below HC4.out HB.out) (m : Int) hn0 hm1
      subst ead
      obtain ⟨p, hp⟩ : ∃ p, rd_T43 l (m : Int) = p := ⟨_, rfl⟩
      have hpl : l[m] = p := by rw [← hp]; simp [rd_T43, List.getD_eq_getElem?_getD, c]
      rw [hp] at hx0 hx1
      simp only [Int.toNat_natCast] at hx0 hx1
      have hn1 : (m : Int) < 9223372036854775807 := by have := HL.out; omega
      have hnext : (l.take (m + 1)).filter (soB fr tt) = (l.take m).filter (soB fr tt) ++ [p].filter (soB fr tt) := by
        rw [List.take_succ_eq_append_getElem c, List.filter_append, hpl]
      have hfl : ((l.take m).filter (soB fr tt)).length < 4398046511104 := by
        have h1 := List.length_filter_le (soB fr tt) (l.take m)
        have h2 : (l.take m).length ≤ l.length := by rw [List.length_take]; omega
        have := HL.out
        omega
      have HNext := Aside0.mk hnext
      have HFl := Aside0.mk hfl
      have HPl := Aside0.mk hpl
      clear hp hpl hnext hfl
      obtain ⟨a, b⟩ := p
      have HBx : Aside0 (Below w4.heap.size w4 (wr.alloc (.cells #[.string a, .string b] 43))) := ⟨below_alloc HB.out _⟩
      cases hso : (soB fr tt) (⟨a, b⟩ : S43) with
      | true =>
        have Hso := Aside0.mk hso
        clear hso
        go_wp2_with (first | (go_at_call 31; go_must ((refine (between_clo g g2 fr tt (⟨a, b⟩ : S43) _ (pw_cell_below (below_then HB4.out HB4.out.size HBx.out) HG.out) (pw_cell_below (below_then HB4.out HB4.out.size HBx.out) HG2.out)).mono ?_); rintro e w5 ⟨rfl, hb5⟩; rw [Hso.out]; have HB5 := Aside0.mk (below_then HBx.out HBx.out.size hb5); have HF5 := Aside0.mk (Kd.R_below (Kd.R_alloc HF.out _) hb5); have hp5 : w5.heap[wr.heap.size]? = some (.cells #[.string a, .string b] 43 (0, 0)) := (hb5.block wr.heap.size (by simp)).trans (heap_alloc_new wr _); have hp50 := (blk_cell hp5 0).trans rfl; have hp51 := (blk_cell hp5 1).trans rfl; clear hb5 hp5)) | ((with_reducible refine gate_builtin (b := .append) (xs := #[.tmp 25, .tmp 27]) rfl ?_); at_builtin; refine Kd.R_append k43 (w0 := w4) w4.heap.size rfl (.tmp 25) (.tmp 27) 23 43 (.agg #[(.string ⟨#[]⟩), (.string ⟨#[]⟩)]) 32 rfl Try.underlying23 info43 rfl (by decide) (by omega) (.slice A N cp) ((l.take m).filter (soB fr tt)) (⟨a, b⟩ : S43) [.string a, .string b] (fun _ => True) (fun _ => False) rfl rfl (k43_mkM _ _ _ (⟨a, b⟩ : S43)) (fun _ hk => hk.elim) (fun _ _ => trivial) HF5.out HB5.out HB5.out.size (by have := HFl.out; omega) ?_; intro v7 w7 ho7 hb7 hg7 hat7; have HF7 := Aside0.mk ho7; have HB7 := Aside0.mk hb7; clear ho7 hb7 hg7 hat7; obtain ⟨A7, c7, e7⟩ := Kd.R_slice HF7.out; subst e7))
        go_roundg (l.length - (m + 1))
        case measure => have := HKQ.out; omega
        case rel => exact ⟨m + 1, _, c7, A7, rfl, by go_num, ⟨rfl⟩, ⟨by omega⟩, ⟨by rw [HNext.out, List.filter_cons_of_pos (by exact Hso.out), List.filter_nil]; have h := HF7.out; simp only [List.length_append, List.length_cons, List.length_nil, Nat.zero_add] at h; exact h⟩, HB7⟩
      | false =>
        have Hso := Aside0.mk hso
        clear hso
        go_wp2_with (first | (go_at_call 31; go_must ((refine (between_clo g g2 fr tt (⟨a, b⟩ : S43) _ (pw_cell_below (below_then HB4.out HB4.out.size HBx.out) HG.out) (pw_cell_below (below_then HB4.out HB4.out.size HBx.out) HG2.out)).mono ?_); rintro e w5 ⟨rfl, hb5⟩; rw [Hso.out]; have HB5 := Aside0.mk (below_then HBx.out HBx.out.size hb5); have HF5 := Aside0.mk (Kd.R_below (Kd.R_alloc HF.out _) hb5); clear hb5)))
        go_roundg (l.length - (m + 1))
        case measure => have := HKQ.out; omega
        case rel => exact ⟨m + 1, N, cp, A, rfl, by go_num, ⟨rfl⟩, ⟨by omega⟩, ⟨by rw [HNext.out, List.filter_cons_of_neg (by rw [Hso.out]; decide), List.filter_nil, List.append_nil]; exact HF5.out⟩, HB5⟩
    · have en : m = l.length := by have := HM.out; omega
      have c1 : decide ((m : Int) < (l.length : Int)) = false := by simp; omega
      have hfin : (l.take m).filter (soB fr tt) = l.filter (soB fr tt) := by rw [en, List.take_length]
      have Hfin := Aside0.mk hfin
      clear en hfin
      go_wp2
      go_ret2
      exact ⟨_, rfl, by rw [← Hfin.out]; exact Kd.R_lower HF.out HB4.out.size, below_then HB4.out HB4.out.size HB.out⟩
def block_Between.f (k : Nat) (a0 a1 a2 : ByteArray) : Option (List S43 × Int) := (block_Read.f k a0).bind fun r => if r.1.length < 4398046511104 then some (r.1.filter (soB a1 a2), r.2) else none
theorem block_Between.mono : ∀ a0 a1 a2 k, LeO (block_Between.f k a0 a1 a2) (block_Between.f (k + 1) a0 a1 a2) := by
  intro a0 a1 a2 k
  unfold block_Between.f
  exact LeO.bind (block_Read.mono _ _) (fun _ => LeO.refl _)
set_option maxHeartbeats 1600000 in
theorem block_Between.calls (k : Nat) (a0 a1 a2 : ByteArray) (r1 : List S43) (r2 : Int) (w : World) (h : block_Between.f k a0 a1 a2 = some (r1, r2)) :
    Calls Try.prog 14 #[.string a0, .string a1, .string a2] w fun e w' => ∃ v0_ : Value, e = .returned (.tuple #[v0_, .int .i64 r2]) ∧ Kd.R k43 43 w' w.heap.size (fun _ => True) v0_ r1 ∧ Below w.heap.size w w' := by
  unfold block_Between.f at h
  obtain ⟨⟨l, e2⟩, hr, h⟩ := Option.bind_eq_some_iff.1 h
  have HRd := Aside0.mk hr
  split at h
  case isFalse => cases h
  case isTrue hl =>
  have h2 := Option.some.inj h
  simp only [Prod.mk.injEq] at h2
  obtain ⟨rfl, rfl⟩ := h2
  have hg : ((w.alloc (.cells #[.string a1] 9)).alloc (.cells #[.string a2] 9)).cell? ⟨w.heap.size, 0, none⟩ = some (.string a1) := pw_cell_below (below_alloc (Below.refl _ _) _) ((blk_cell (heap_alloc_new w _) 0).trans rfl)
  have hg2 : ((w.alloc (.cells #[.string a1] 9)).alloc (.cells #[.string a2] 9)).cell? ⟨w.heap.size + 1, 0, none⟩ = some (.string a2) := (blk_cell (by simpa using heap_alloc_new (w.alloc (.cells #[.string a1] 9)) (.cells #[.string a2] 9)) 0).trans rfl
  have HG := Aside0.mk hg
  have HG2 := Aside0.mk hg2
  have HL := Aside0.mk hl
  have hmf : ∀ (fn : Fn) (first cap : Array Value) (w : World), (Instr.makeFunc fn first cap).run Try.prog w = .ok (.func fn first cap) w := fun _ _ _ _ => rfl
  clear hr hl hg hg2 h
  go_enter Try.func14, Try.ntmps14
  go_wp2_with (first | (go_at_call 29; go_must ((refine (between_which k a0 w.heap.size (w.heap.size + 1) a1 a2 l _ _ HRd.out HL.out HG.out HG2.out).mono ?_); rintro e w5 ⟨v5, rfl, ho5, hb5⟩; have HO5 := Aside0.mk (Kd.R_lower ho5 (show w.heap.size ≤ _ by simp; omega)); have HB5 := Aside0.mk (below_then (below_alloc (below_alloc (Below.refl w.heap.size w) _) _) (by simp; omega) hb5); obtain ⟨Ao, co, eo⟩ := Kd.R_slice HO5.out; subst eo; clear ho5 hb5)))
  go_ret2
  exact ⟨_, rfl, HO5.out, HB5.out⟩
end Go.Proofs.Ytbhainkcdkgbbaa.P

end
section
namespace Go.Proofs.Ytbhainkcdkgbbaa.P
open Go.RowKit Go.Proofs.Ytbhainkcdkgbbaa.Vp Go.Proofs.Ytbhainkcdkgbbaa.Sl Go.Proofs.YtbhainkcdkgbbaaW.PrintWords Go.Proofs.YtbhainkcdkgbbaaW.PrintLast Go.Proofs.YtbhainkcdkgbbaaW.PrintMore
attribute [local go_sem] str_gtr str_leq str_geq max2_int min2_int max_two min_two max_three min_three max_four min_four
set_option linter.unusedVariables false
set_option linter.unusedSimpArgs false
def soF (key : ByteArray) (p : S43) : Bool := p.f0.toList == key.toList
set_option maxHeartbeats 1600000 in
theorem find_clo (g : Nat) (key : ByteArray) (p : S43) (w : World) (hg : w.cell? ⟨g, 0, none⟩ = some (.string key)) :
    Calls Try.prog 30 #[.agg #[.string p.f0, .string p.f1], .pointer (some ⟨g, 0, none⟩)] w fun e w' => e = .returned (.bool ((soF key) p)) ∧ Below w.heap.size w w' := by
  obtain ⟨a, b⟩ := p
  have hso : soF key (⟨a, b⟩ : S43) = (a.toList == key.toList) := rfl
  rw [hso]
  clear hso
  have hg' : (w.alloc (.cells #[.string a, .string b] 43)).cell? ⟨g, 0, none⟩ = some (.string key) := pw_cell_below (below_alloc (Below.refl _ _) _) hg
  go_enter Try.func30, Try.ntmps30
  go_wp2
  go_ret
  exact ⟨rfl, below_alloc (Below.refl _ _) _⟩
set_option maxHeartbeats 1600000 in
theorem find_which (k : Nat) (s : ByteArray) (g : Nat) (key : ByteArray) (l : List S43) (e2 : Int) (w : World) (h : block_Read.f k s = some (l, e2)) (hl : l.length < 4398046511104) (hg : w.cell? ⟨g, 0, none⟩ = some (.string key)) :
    Calls Try.prog 29 #[.string s, .func (.func 30) #[] #[.pointer (some ⟨g, 0, none⟩)]] w fun e w' => ∃ v0_ : Value, e = .returned (.tuple #[v0_, .int .i64 e2]) ∧ Kd.R k43 43 w' w.heap.size (fun _ => True) v0_ (l.filter (soF key)) ∧ Below w.heap.size w w' := by
  have HRd := Aside0.mk h
  have HL := Aside0.mk hl
  have HG := Aside0.mk hg
  clear hg
  clear h hl
  go_enter Try.func29, Try.ntmps29
  go_wp2_with (first | (go_at_call 10; (with_reducible refine (block_Read.calls k s l e2 _ HRd.out).mono ?_); rintro e w4 ⟨v4, rfl, ho4, hb4⟩; have HO4 := Aside0.mk ho4; have HB4 := Aside0.mk hb4; clear ho4 hb4; obtain ⟨Ao, co, eo⟩ := Kd.R_slice HO4.out; subst eo))
  have HC4 := Aside0.mk (Kd.R_reads' HO4.out).2.2
  go_loopg [8, 18] (l.length) (fun kq v8 v18 w' => ∃ (m N cp : Nat) (A : Option Addr), v8 = .slice A N cp ∧ v18 = .int .i64 (m : Int) ∧ Aside0 (kq = l.length - m) ∧ Aside0 (m ≤ l.length) ∧ Aside0 (Kd.R k43 43 w' w4.heap.size (fun _ => True) (.slice A N cp) ((l.take m).filter (soF key))) ∧ Aside0 (Below w4.heap.size w4 w'))
  case atStart => exact ⟨0, 0, 0, none, rfl, rfl, ⟨rfl⟩, ⟨by omega⟩, ⟨Kd.R_nil _ _ _ _ _⟩, ⟨Below.refl _ _⟩⟩
  case round =>
    obtain ⟨m, N, cp, A, rfl, rfl, HKQ, HM, HF, HB⟩ := hrel
    by_cases c : m < l.length
    · have c1 : decide ((m : Int) < (l.length : Int)) = true := by simp; exact c
      have hn0 : 0 ≤ (m : Int) := by omega
      have hm1 : (m : Int) < (l.length : Int) := by omega
      obtain ⟨ad, ead, hx0, hx1⟩ := at_T43 (Kd.C_below HC4.out HB.out) (m : Int) hn0 hm1
      subst ead
      obtain ⟨p, hp⟩ : ∃ p, rd_T43 l (m : Int) = p := ⟨_, rfl⟩
      have hpl : l[m] = p := by rw [← hp]; simp [rd_T43, List.getD_eq_getElem?_getD, c]
      rw [hp] at hx0 hx1
      simp only [Int.toNat_natCast] at hx0 hx1
      have hn1 : (m : Int) < 9223372036854775807 := by have := HL.out; omega
      have hnext : (l.take (m + 1)).filter (soF key) = (l.take m).filter (soF key) ++ [p].filter (soF key) := by
        rw [List.take_succ_eq_append_getElem c, List.filter_append, hpl]
      have hfl : ((l.take m).filter (soF key)).length < 4398046511104 := by
        have h1 := List.length_filter_le (soF key) (l.take m)
        have h2 : (l.take m).length ≤ l.length := by rw [List.length_take]; omega
        have := HL.out
        omega
      have HNext := Aside0.mk hnext
      have HFl := Aside0.mk hfl
      have HPl := Aside0.mk hpl
      clear hp hpl hnext hfl
      obtain ⟨a, b⟩ := p
      have HBx : Aside0 (Below w4.heap.size w4 (wr.alloc (.cells #[.string a, .string b] 43))) := ⟨below_alloc HB.out _⟩
      cases hso : (soF key) (⟨a, b⟩ : S43) with
      | true =>
        have Hso := Aside0.mk hso
        clear hso
        go_wp2_with (first | (go_at_call 30; go_must ((refine (find_clo g key (⟨a, b⟩ : S43) _ (pw_cell_below (below_then HB4.out HB4.out.size HBx.out) HG.out)).mono ?_); rintro e w5 ⟨rfl, hb5⟩; rw [Hso.out]; have HB5 := Aside0.mk (below_then HBx.out HBx.out.size hb5); have HF5 := Aside0.mk (Kd.R_below (Kd.R_alloc HF.out _) hb5); have hp5 : w5.heap[wr.heap.size]? = some (.cells #[.string a, .string b] 43 (0, 0)) := (hb5.block wr.heap.size (by simp)).trans (heap_alloc_new wr _); have hp50 := (blk_cell hp5 0).trans rfl; have hp51 := (blk_cell hp5 1).trans rfl; clear hb5 hp5)) | ((with_reducible refine gate_builtin (b := .append) (xs := #[.tmp 25, .tmp 27]) rfl ?_); at_builtin; refine Kd.R_append k43 (w0 := w4) w4.heap.size rfl (.tmp 25) (.tmp 27) 23 43 (.agg #[(.string ⟨#[]⟩), (.string ⟨#[]⟩)]) 32 rfl Try.underlying23 info43 rfl (by decide) (by omega) (.slice A N cp) ((l.take m).filter (soF key)) (⟨a, b⟩ : S43) [.string a, .string b] (fun _ => True) (fun _ => False) rfl rfl (k43_mkM _ _ _ (⟨a, b⟩ : S43)) (fun _ hk => hk.elim) (fun _ _ => trivial) HF5.out HB5.out HB5.out.size (by have := HFl.out; omega) ?_; intro v7 w7 ho7 hb7 hg7 hat7; have HF7 := Aside0.mk ho7; have HB7 := Aside0.mk hb7; clear ho7 hb7 hg7 hat7; obtain ⟨A7, c7, e7⟩ := Kd.R_slice HF7.out; subst e7))
        go_roundg (l.length - (m + 1))
        case measure => have := HKQ.out; omega
        case rel => exact ⟨m + 1, _, c7, A7, rfl, by go_num, ⟨rfl⟩, ⟨by omega⟩, ⟨by rw [HNext.out, List.filter_cons_of_pos (by exact Hso.out), List.filter_nil]; have h := HF7.out; simp only [List.length_append, List.length_cons, List.length_nil, Nat.zero_add] at h; exact h⟩, HB7⟩
      | false =>
        have Hso := Aside0.mk hso
        clear hso
        go_wp2_with (first | (go_at_call 30; go_must ((refine (find_clo g key (⟨a, b⟩ : S43) _ (pw_cell_below (below_then HB4.out HB4.out.size HBx.out) HG.out)).mono ?_); rintro e w5 ⟨rfl, hb5⟩; rw [Hso.out]; have HB5 := Aside0.mk (below_then HBx.out HBx.out.size hb5); have HF5 := Aside0.mk (Kd.R_below (Kd.R_alloc HF.out _) hb5); clear hb5)))
        go_roundg (l.length - (m + 1))
        case measure => have := HKQ.out; omega
        case rel => exact ⟨m + 1, N, cp, A, rfl, by go_num, ⟨rfl⟩, ⟨by omega⟩, ⟨by rw [HNext.out, List.filter_cons_of_neg (by rw [Hso.out]; decide), List.filter_nil, List.append_nil]; exact HF5.out⟩, HB5⟩
    · have en : m = l.length := by have := HM.out; omega
      have c1 : decide ((m : Int) < (l.length : Int)) = false := by simp; omega
      have hfin : (l.take m).filter (soF key) = l.filter (soF key) := by rw [en, List.take_length]
      have Hfin := Aside0.mk hfin
      clear en hfin
      go_wp2
      go_ret2
      exact ⟨_, rfl, by rw [← Hfin.out]; exact Kd.R_lower HF.out HB4.out.size, below_then HB4.out HB4.out.size HB.out⟩
def block_Find.f (k : Nat) (a0 a1 : ByteArray) : Option (ByteArray × Bool × Int) := (block_Read.f k a0).bind fun r => if r.1.length < 4398046511104 then (match r.1.filter (soF a1) with | [] => some ((⟨#[]⟩ : ByteArray), false, r.2) | p :: _ => some (p.f1, true, 0)) else none
theorem block_Find.mono : ∀ a0 a1 k, LeO (block_Find.f k a0 a1) (block_Find.f (k + 1) a0 a1) := by
  intro a0 a1 k
  unfold block_Find.f
  exact LeO.bind (block_Read.mono _ _) (fun _ => LeO.refl _)
set_option maxHeartbeats 1600000 in
theorem block_Find.calls (k : Nat) (a0 a1 : ByteArray) (r1 : ByteArray) (r2 : Bool) (r3 : Int) (w : World) (h : block_Find.f k a0 a1 = some (r1, r2, r3)) :
    Calls Try.prog 12 #[.string a0, .string a1] w fun e w' => e = .returned (.tuple #[.string r1, .bool r2, .int .i64 r3]) ∧ Below w.heap.size w w' := by
  unfold block_Find.f at h
  obtain ⟨⟨l, e2⟩, hr, h⟩ := Option.bind_eq_some_iff.1 h
  have HRd := Aside0.mk hr
  split at h
  case isFalse => cases h
  case isTrue hl =>
  have hg : (w.alloc (.cells #[.string a1] 9)).cell? ⟨w.heap.size, 0, none⟩ = some (.string a1) := (blk_cell (heap_alloc_new w _) 0).trans rfl
  have HG := Aside0.mk hg
  have HL := Aside0.mk hl
  have hmf : ∀ (fn : Fn) (first cap : Array Value) (w : World), (Instr.makeFunc fn first cap).run Try.prog w = .ok (.func fn first cap) w := fun _ _ _ _ => rfl
  clear hr hl hg
  obtain ⟨l2, hl2⟩ : ∃ l2, l.filter (soF a1) = l2 := ⟨_, rfl⟩
  have HL2 := Aside0.mk hl2
  cases l2 with
  | nil =>
    dsimp only at h
    rw [hl2] at h
    have h2 := Option.some.inj h
    simp only [Prod.mk.injEq] at h2
    obtain ⟨rfl, rfl, rfl⟩ := h2
    clear h hl2
    go_enter Try.func12, Try.ntmps12
    go_wp2_with (first | (go_at_call 29; go_must ((refine (find_which k a0 w.heap.size a1 l _ _ HRd.out HL.out HG.out).mono ?_); rintro e w5 ⟨v5, rfl, ho5, hb5⟩; rw [HL2.out] at ho5; obtain ⟨Ao, co, eo⟩ := Kd.R_slice ho5; subst eo; have HB5 := Aside0.mk (below_then (below_alloc (Below.refl w.heap.size w) _) (by simp) hb5); clear ho5 hb5)))
    go_ret3
    exact ⟨rfl, HB5.out⟩
  | cons p rest =>
    dsimp only at h
    rw [hl2] at h
    have h2 := Option.some.inj h
    simp only [Prod.mk.injEq] at h2
    obtain ⟨rfl, rfl, rfl⟩ := h2
    clear h hl2
    go_enter Try.func12, Try.ntmps12
    go_wp2_with (first | (go_at_call 29; go_must ((refine (find_which k a0 w.heap.size a1 l _ _ HRd.out HL.out HG.out).mono ?_); rintro e w5 ⟨v5, rfl, ho5, hb5⟩; rw [HL2.out] at ho5; obtain ⟨Ao, co, eo⟩ := Kd.R_slice ho5; subst eo; have HB5 := Aside0.mk (below_then (below_alloc (Below.refl w.heap.size w) _) (by simp) hb5); obtain ⟨ad, ead, hx0, hx1⟩ := at_T43 (Kd.R_reads' ho5).2.2 0 (by omega) (by simp); have hx1' := hx1; simp [rd_T43, Addr.add_zero'] at hx1'; subst ead; have hlen : 0 < (p :: rest).length := (by simp); have hlen1 : (0 : Int) < ((p :: rest).length : Int) := (by first | (simp; done) | (simp; omega)); have hlen2 : (((p :: rest).length : Int) == 0) = false := (by simp; omega); generalize (p :: rest).length = N at hlen hlen1 hlen2 ⊢; clear ho5 hb5 hx0 hx1)))
    go_ret3
    exact ⟨rfl, HB5.out⟩
end Go.Proofs.Ytbhainkcdkgbbaa.P

end
section
namespace Go.Proofs.Ytbhainkcdkgbbaa.P
open Go.RowKit Go.Proofs.Ytbhainkcdkgbbaa.Vp Go.Proofs.Ytbhainkcdkgbbaa.Sl Go.Proofs.YtbhainkcdkgbbaaW.PrintWords Go.Proofs.YtbhainkcdkgbbaaW.PrintLast Go.Proofs.YtbhainkcdkgbbaaW.PrintMore
attribute [local go_sem] str_gtr str_leq str_geq max2_int min2_int max_two min_two max_three min_three max_four min_four
set_option linter.unusedVariables false
set_option linter.unusedSimpArgs false
def putB (n : Nat) : List UInt8 := (putP (n : Int)).data.toList
theorem putB_len (n : Nat) : (putB n).length ≤ 9 := by
  unfold putB; rw [data_length]; exact putP_size _
def putsU (l : List Nat) : List UInt8 := l.flatMap putB
set_option maxHeartbeats 1600000 in
theorem bput_calls (B b g : Nat) (pre : List UInt8) (l0 : List Nat) (w0 w : World) (hg : w.heap[g]? = some (.cells ((l0.map fun n : Nat => Value.int .i64 (n : Int)).toArray) 3 (0, 0))) (hgb : g ≠ b) (hn : l0.length ≤ 10) (hl : ∀ n ∈ l0, n < 9223372036854775808)
    (hpre : pre.length ≤ 140737488000000) (hb : Lib.IsBuilder 65 5 B b (Lib.byteCells pre) w) (hB : Below B w0 w) (hBw : B ≤ w.heap.size) (L c0 : Nat) (hL : l0.length = L) :
    Calls Try.prog 33 #[.pointer (some ⟨b, 0, none⟩), .slice (some ⟨g, 0, none⟩) L c0] w fun e w' => e = .returned (.tuple #[]) ∧ Lib.IsBuilder 65 5 B b (Lib.byteCells (pre ++ putsU l0)) w' ∧ Below B w0 w' ∧ Sb.Keeps b w w' := by
  subst hL
  have HG := Aside0.mk hg
  have HGB := Aside0.mk hgb
  have HL := Aside0.mk hl
  have HP := Aside0.mk hpre
  have HB0 : Aside0 (Lib.IsBuilder 65 5 B b (Lib.byteCells (pre ++ putsU (l0.take 0))) w) := ⟨by simpa [putsU] using hb⟩
  have HBel := Aside0.mk hB
  have HBw := Aside0.mk hBw
  clear hg hgb hl hpre hb hB hBw
  go_enter Try.func33, Try.ntmps33
  go_wp2_with fail
  go_loopg [8] (l0.length) (fun kq v8 w' => ∃ (m : Nat), v8 = .int .i64 (m : Int) ∧ Aside0 (kq = l0.length - m) ∧ Aside0 (m ≤ l0.length) ∧ Aside0 (Lib.IsBuilder 65 5 B b (Lib.byteCells (pre ++ putsU (l0.take m))) w') ∧ Aside0 (Below B w0 w') ∧ Aside0 (B ≤ w'.heap.size) ∧ Aside0 (Sb.Keeps b w w'))
  case atStart => exact ⟨0, rfl, ⟨rfl⟩, ⟨by omega⟩, HB0, HBel, HBw, ⟨Sb.Keeps.refl b w⟩⟩
  case round =>
    clear HB0 HBel HBw
    obtain ⟨m, rfl, HKQ, HM, HF, HB, HBw, HK⟩ := hrel
    by_cases c : m < l0.length
    · have c1 : decide ((m : Int) < (l0.length : Int)) = true := by simp; exact c
      have hn0 : 0 ≤ (m : Int) := by omega
      have hh := HK.out g _ _ _ HGB.out HG.out (by decide)
      obtain ⟨x, hxe⟩ : ∃ x : Nat, l0[m] = x := ⟨_, rfl⟩
      have hcell : wr.cell? ⟨g, m, none⟩ = some (.int .i64 (x : Int)) := by
        rw [blk_cell hh m, ← hxe]
        simp [c]
      have hks := HL.out _ (List.getElem_mem c)
      rw [hxe] at hks
      have hnext : pre ++ putsU (l0.take (m + 1)) = (pre ++ putsU (l0.take m)) ++ (putP (x : Int)).data.toList := by
        unfold putsU; rw [List.take_succ_eq_append_getElem c, List.flatMap_append, hxe]; simp [putB]
      have HPu := Aside0.mk (put_f (x : Int) (by omega) (by omega))
      have hps := putP_size (x : Int)
      have hl1 : (putsU (l0.take m)).length ≤ 9 * m := by
        have : ∀ l : List Nat, (putsU l).length ≤ 9 * l.length := by
          intro l
          induction l with
          | nil => simp [putsU]
          | cons n l ih => have := putB_len n; simp only [putsU, List.flatMap_cons, List.length_append, List.length_cons] at ih ⊢; omega
        have h2 := this (l0.take m)
        rw [List.length_take] at h2
        omega
      have hx1 : IntKind.u64.wrap (x : Int) = (x : Int) := by rw [IntKind.wrap_u64]; omega
      have HL2 : Aside0 ((pre ++ putsU (l0.take m)).length + (putP (x : Int)).size ≤ 140737488355328) := ⟨by rw [List.length_append]; have := HP.out; omega⟩
      have Hnext := Lib.hid hnext
      clear hxe hnext hl1 hps hks hh
      go_wp2_with (first | (go_at_call 42; (with_reducible refine (varint_Put.calls (x : Int) (putP (x : Int)) _ HPu.out).mono ?_); rintro e w6 ⟨rfl, hb5⟩; have HF6 := Aside0.mk (Sb.keep HF.out hb5); have HB6 := Aside0.mk (below_then HB.out HBw.out hb5); have HBw6 := Aside0.mk (Nat.le_trans HBw.out hb5.size); have HK6 := Aside0.mk (HK.out.trans (Sb.keeps_below hb5)); clear hb5) | (go_at_call 34; (with_reducible refine (Sb.wstrK B b _ _ w0 _ HF6.out HL2.out HB6.out HBw6.out).mono ?_); rintro e w7 ⟨rfl, hf7, hb7, hk7⟩; have HF7 := Aside0.mk hf7; have HB7 := Aside0.mk hb7; have HK7 := Aside0.mk (HK6.out.trans hk7); clear hf7 hb7 hk7))
      go_roundg (l0.length - (m + 1))
      case measure => have := HKQ.out; omega
      case rel => exact ⟨m + 1, by go_num, ⟨rfl⟩, ⟨by omega⟩, ⟨by rw [Hnext.out]; exact HF7.out⟩, HB7, ⟨by have := HF7.out; exact Nat.le_of_lt (Nat.lt_of_le_of_lt (Sb.isb_ge this) (Sb.isb_lt this))⟩, HK7⟩
    · have hn := HM.out
      have en : m = l0.length := by omega
      have c1 : decide ((m : Int) < (l0.length : Int)) = false := by simp; omega
      have hfin : pre ++ putsU (l0.take m) = pre ++ putsU l0 := by rw [en, List.take_length]
      have Hfin := Lib.hid hfin
      clear en hfin
      go_wp2
      go_end0
      exact ⟨rfl, by rw [← Hfin.out]; exact HF.out, HB.out, HK.out⟩
theorem ba_drop (s v : ByteArray) (n : Nat) : (s.extract n s.size ++ v).data.toList = s.data.toList.drop n ++ v.data.toList := by
  rw [ByteArray.data_append, Array.toList_append, ByteArray.data_extract, Array.toList_extract]
  congr 1
  simp only [List.extract]
  rw [List.take_of_length_le]
  rw [List.length_drop, data_length]
  exact Nat.le_refl _
def comL : List UInt8 → List UInt8 → Nat
  | x :: a, y :: b => if x = y then comL a b + 1 else 0
  | _, _ => 0
theorem comL_le : ∀ a b : List UInt8, comL a b ≤ a.length ∧ comL a b ≤ b.length
  | [], b => by unfold comL; simp
  | x :: a, [] => by unfold comL; simp
  | x :: a, y :: b => by
    have := comL_le a b
    unfold comL
    split
    · simp only [List.length_cons]; omega
    · simp
def comP (a b : ByteArray) : Nat := comL a.data.toList b.data.toList
theorem comP_le (a b : ByteArray) : comP a b ≤ a.size ∧ comP a b ≤ b.size := by
  have := comL_le a.data.toList b.data.toList
  rw [data_length, data_length] at this
  exact this
theorem bt_list (s : ByteArray) (i : Nat) (h : i < s.data.toList.length) : bt s (i : Int) = ((s.data.toList[i]).toNat : Int) := by
  rw [← rd_bytesOf]
  simp [rd, bytesOf, List.getD_eq_getElem?_getD, List.getElem?_eq_getElem h]
theorem common_l0 (a b : ByteArray) (ha : a.size < 4611686018427387904) : ∀ (d i k : Nat), min a.size b.size - i = d → i ≤ min a.size b.size → d < k → block_Common.l0 k a b (i : Int) = some ((i + comL (a.data.toList.drop i) (b.data.toList.drop i) : Nat) : Int) := by
  intro d
  induction d with
  | zero =>
    intro i k hd hi hk
    obtain ⟨k, rfl⟩ : ∃ m, k = m + 1 := ⟨k - 1, by omega⟩
    have hmn : ¬ ((i : Int) < mn (a.size : Int) (b.size : Int)) := by unfold mn; split <;> omega
    rw [block_Common.l0, if_neg hmn]
    have h0 : comL (a.data.toList.drop i) (b.data.toList.drop i) = 0 := by
      have := comL_le (a.data.toList.drop i) (b.data.toList.drop i)
      rw [List.length_drop, List.length_drop, data_length, data_length] at this
      omega
    rw [h0]; rfl
  | succ d ih =>
    intro i k hd hi hk
    obtain ⟨k, rfl⟩ : ∃ m, k = m + 1 := ⟨k - 1, by omega⟩
    have hmn : ((i : Int) < mn (a.size : Int) (b.size : Int)) := by unfold mn; split <;> omega
    have h1 : i < a.data.toList.length := by rw [data_length]; omega
    have h2 : i < b.data.toList.length := by rw [data_length]; omega
    rw [block_Common.l0, if_pos hmn, if_pos (by omega), if_pos (by omega), if_pos (by omega), bt_list a i h1, bt_list b i h2]
    rw [List.drop_eq_getElem_cons h1, List.drop_eq_getElem_cons h2, comL]
    by_cases e : a.data.toList[i] = b.data.toList[i]
    · rw [if_pos (by rw [e]), if_pos e]
      rw [show wrap64 ((i : Int) + 1) = ((i + 1 : Nat) : Int) by unfold wrap64; omega, ih (i + 1) k (by omega) (by omega) (by omega)]
      congr 2; omega
    · rw [if_neg (fun h => e (UInt8.toNat_inj.1 (by omega))), if_neg e]; rfl
theorem common_f (a b : ByteArray) (ha : a.size < 4611686018427387904) (k : Nat) (hk : a.size < k) : block_Common.f k a b = some (comP a b : Int) := by
  unfold block_Common.f
  have := common_l0 a b ha (min a.size b.size) 0 k (by omega) (by omega) (by omega)
  rw [show ((0 : Nat) : Int) = 0 from rfl] at this
  rw [this, List.drop_zero, List.drop_zero, Nat.zero_add]; rfl
def keyA (l : List S43) (i : Nat) : ByteArray := (rd_T43 l (i : Int)).f0
def valA (l : List S43) (i : Nat) : ByteArray := (rd_T43 l (i : Int)).f1
def lastA (l : List S43) : Nat → ByteArray
  | 0 => ⟨#[]⟩
  | i + 1 => keyA l i
def encA (last key val : ByteArray) : List UInt8 := putsU [comP last key, key.size - comP last key, val.size] ++ (key.data.toList.drop (comP last key) ++ val.data.toList)
def encTo (l : List S43) (m : Nat) : List UInt8 := (List.range m).flatMap fun i => encA (lastA l i) (keyA l i) (valA l i)
theorem encTo_succ (l : List S43) (m : Nat) : encTo l (m + 1) = encTo l m ++ encA (lastA l m) (keyA l m) (valA l m) := by
  unfold encTo; rw [List.range_succ, List.flatMap_append]; simp
def risesTo (l : List S43) (m : Nat) : Prop := ∀ i, i + 1 < m → Op.bytesLess (keyA l i).toList (keyA l (i + 1)).toList = true
def risesB (l : List S43) : Bool := (List.range (l.length - 1)).all fun i => Op.bytesLess (keyA l i).toList (keyA l (i + 1)).toList
theorem risesB_iff (l : List S43) : risesB l = true ↔ risesTo l l.length := by
  unfold risesB risesTo
  rw [List.all_eq_true]
  constructor
  · intro h i hi; exact h i (List.mem_range.2 (by omega))
  · intro h i hi; exact h i (by have := List.mem_range.1 hi; omega)
def buildP (l : List S43) : ByteArray × Int := if risesB l = true then (if (encTo l l.length).length > 40000 then ((⟨#[]⟩ : ByteArray), 10) else (⟨(encTo l l.length).toArray⟩, 0)) else ((⟨#[]⟩ : ByteArray), 1)
def smallP (l : List S43) : Prop := l.length ≤ 100000 ∧ ∀ i, i < l.length → (keyA l i).size ≤ 1000000 ∧ (valA l i).size ≤ 1000000
theorem encA_len (a b c : ByteArray) : (encA a b c).length ≤ 27 + b.size + c.size := by
  have h := putB_len
  have h1 := h (comP a b)
  have h2 := h (b.size - comP a b)
  have h3 := h c.size
  unfold encA putsU
  simp only [List.flatMap_cons, List.flatMap_nil, List.length_append, List.length_drop, List.length_nil, data_length]
  omega
theorem encTo_len (l : List S43) (h : ∀ i, i < l.length → (keyA l i).size ≤ 1000000 ∧ (valA l i).size ≤ 1000000) : ∀ m, m ≤ l.length → (encTo l m).length ≤ 2000027 * m := by
  intro m
  induction m with
  | zero => intro _; simp [encTo]
  | succ m ih =>
    intro hm
    have h1 := ih (by omega)
    have h2 := h m (by omega)
    have h3 := encA_len (lastA l m) (keyA l m) (valA l m)
    rw [encTo_succ, List.length_append]
    omega
instance (l : List S43) : Decidable (smallP l) := by unfold smallP; exact inferInstance
def block_Build.f (l0 : List S43) : Option (ByteArray × Int) := if smallP l0 then some (buildP l0) else none
set_option maxHeartbeats 4000000 in
theorem block_Build.calls (A0 : Option Addr) (c0 : Nat) (l0 : List S43) (r1 : ByteArray) (r2 : Int) (w : World) (hr0 : Kd.C k43 w A0 l0.length l0) (hc0 : l0.length ≤ c0) (h : block_Build.f l0 = some (r1, r2)) :
    Calls Try.prog 19 #[.slice A0 l0.length c0] w fun e w' => e = .returned (.tuple #[.string r1, .int .i64 r2]) ∧ Below w.heap.size w w' := by
  unfold block_Build.f at h
  split at h
  case isFalse => cases h
  case isTrue hsm =>
  have hR := Option.some.inj h
  have HR := Aside0.mk hR
  have HSM := Aside0.mk hsm
  have HR0 := Aside0.mk hr0
  have hlen := hsm.1
  clear h hR hsm hr0
  go_enter Try.func19, Try.ntmps19
  go_wp2_with fail
  have hb0 : Lib.IsBuilder 65 5 w.heap.size w.heap.size (Lib.byteCells (encTo l0 0)) (w.alloc (.cells #[.pointer none, .slice none 0 0] 65)) := by
    simpa [encTo, Lib.byteCells] using Lib.fresh_isBuilder 65 5 w
  have HB0 := Aside0.mk hb0
  clear hb0
  go_loopg [11] (l0.length) (fun kq v11 w' => ∃ (m : Nat), v11 = .int .i64 (m : Int) ∧ Aside0 (kq = l0.length - m) ∧ Aside0 (m ≤ l0.length) ∧ Aside0 (risesTo l0 m) ∧ Aside0 (Lib.IsBuilder 65 5 w.heap.size w.heap.size (Lib.byteCells (encTo l0 m)) w') ∧ Aside0 (Below w.heap.size w w'))
  case atStart => exact ⟨0, rfl, ⟨rfl⟩, ⟨by omega⟩, ⟨fun i hi => by omega⟩, HB0, ⟨below_alloc (Below.refl _ _) _⟩⟩
  case round =>
    clear HB0
    obtain ⟨m, rfl, HKQ, HM, HRi, HF, HB⟩ := hrel
    by_cases c : m < l0.length
    · have c1 : decide ((m : Int) < (l0.length : Int)) = true := by simp; exact c
      have hn0 : 0 ≤ (m : Int) := by omega
      obtain ⟨ad, ead, hx0, hx1⟩ := at_T43 HR0.out (m : Int) hn0 (by omega)
      cases ead
      have hk : (rd_T43 l0 (m : Int)).f0 = keyA l0 m := rfl
      have hv : (rd_T43 l0 (m : Int)).f1 = valA l0 m := rfl
      rw [hk] at hx0
      rw [hv] at hx1
      clear hk hv
      replace hx0 := pw_cell_below HB.out hx0
      replace hx1 := pw_cell_below HB.out hx1
      simp only [Int.toNat_natCast] at hx0 hx1
      obtain ⟨key, hkey⟩ : ∃ key, keyA l0 m = key := ⟨_, rfl⟩
      obtain ⟨val, hval⟩ : ∃ val, valA l0 m = val := ⟨_, rfl⟩
      obtain ⟨n, hn⟩ : ∃ n, comP (lastA l0 m) key = n := ⟨_, rfl⟩
      have hnle := (comP_le (lastA l0 m) key).2
      rw [hn] at hnle
      obtain ⟨d, hd⟩ : ∃ d, key.size - n = d := ⟨_, rfl⟩
      have hdi : (key.size : Int) - (n : Int) = (d : Int) := by omega
      have hszs := HSM.out.2 m c
      rw [hkey, hval] at hszs
      have hdw : wrap64 (d : Int) = (d : Int) := by unfold wrap64; omega
      have hnext : encTo l0 (m + 1) = (encTo l0 m ++ putsU [n, d, val.size]) ++ (key.extract n key.size ++ val).data.toList := by
        rw [encTo_succ, hkey, hval]
        unfold encA
        rw [hn, hd, ba_drop, List.append_assoc]
      have hel := encTo_len l0 HSM.out.2 m (by omega)
      have hpl : (putsU [n, d, val.size]).length ≤ 27 := by
        have h1 := putB_len n; have h2 := putB_len d; have h3 := putB_len val.size
        simp only [putsU, List.flatMap_cons, List.flatMap_nil, List.length_append, List.length_nil]; omega
      have hcs : (key.extract n key.size ++ val).size = d + val.size := by rw [ByteArray.size_append, ByteArray.size_extract]; omega
      have HL1 : Aside0 ((encTo l0 m).length ≤ 140737488000000) := ⟨by omega⟩
      have HL2 : Aside0 ((encTo l0 m ++ putsU [n, d, val.size]).length + (key.extract n key.size ++ val).size ≤ 140737488355328) := ⟨by rw [List.length_append, hcs]; omega⟩
      have HLn : Aside0 (∀ x ∈ [n, d, val.size], x < 9223372036854775808) := ⟨by intro x hx; simp only [List.mem_cons, List.not_mem_nil, or_false] at hx; omega⟩
      have HNext := Aside0.mk hnext
      have HL3 : Aside0 ([n, d, val.size].length ≤ 10 ∧ [n, d, val.size].length = 3) := ⟨by simp, rfl⟩
      have HGL : Aside0 (∀ W : World, (W.alloc (.cells #[.int .i64 (n : Int), .int .i64 (d : Int), .int .i64 (val.size : Int)] 3)).heap[W.heap.size]? = some (.cells (([n, d, val.size].map fun x : Nat => Value.int .i64 (x : Int)).toArray) 3 (0, 0))) := ⟨fun W => heap_alloc_new W _⟩
      have hnk : (n : Int) ≤ (key.size : Int) := by omega
      have hn1 : 0 ≤ (n : Int) := by omega
      have hks : decide (9223372036854775807 < d + val.size) = false := by simp; omega
      have hks2 : (9223372036854775807 < d + val.size) = False := eq_false (by omega)
      have hks3 : (9223372036854775807 < key.size - n + val.size) = False := eq_false (by omega)
      have HP0 : Aside0 ((wr.alloc (.cells #[.string key, .string val] 43)).heap[wr.heap.size]? = some (.cells #[.string key, .string val] 43 (0, 0))) := ⟨heap_alloc_new wr _⟩
      have HF0 : Aside0 (Lib.IsBuilder 65 5 w.heap.size w.heap.size (Lib.byteCells (encTo l0 m)) (wr.alloc (.cells #[.string key, .string val] 43))) := ⟨Sb.keep HF.out (below_alloc (Below.refl _ _) _)⟩
      have HB0 : Aside0 (Below w.heap.size w (wr.alloc (.cells #[.string key, .string val] 43))) := ⟨below_alloc HB.out _⟩
      have HNB : Aside0 (wr.heap.size ≠ w.heap.size) := ⟨fun e => by have := Sb.isb_lt HF.out; omega⟩
      rw [hkey] at hx0
      rw [hval] at hx1
      have Hn := Aside0.mk hn
      have Hkey := Aside0.mk hkey
      have hla : (lastA l0 m).size ≤ 1000000 := by
        cases m with
        | zero => exact (show (0 : Nat) ≤ 1000000 by omega)
        | succ j => exact (HSM.out.2 j (by omega)).1
      have HCm : Aside0 (block_Common.f 1000001 (lastA l0 m) key = some (n : Int)) := ⟨by rw [← hn]; exact common_f _ _ (by omega) _ (by omega)⟩
      clear hkey hval hn hd hnle hszs hnext hel hpl hcs hla
      by_cases hm0 : m = 0
      · have c2 : decide (0 < (m : Int)) = false := by simp; omega
        have c3 : decide (0 < m) = false := by simp; omega
        have HCm' := HCm
        rw [hm0] at HCm'
        have HCm : Aside0 (block_Common.f 1000001 ⟨#[]⟩ key = some (n : Int)) := HCm'
        have Hm0 := Aside0.mk hm0
        clear hm0 HCm'
        go_wp2_with (first | (go_at_call 25; (with_reducible refine (block_Common.calls 1000001 ⟨#[]⟩ key (n : Int) _ HCm.out).mono ?_); rintro e w5 ⟨rfl, hb5⟩; have HP5 := Aside0.mk (Sb.keeps_below (b := w.heap.size) hb5 _ _ _ _ HNB.out HP0.out (by decide)); have HF5 := Aside0.mk (Sb.keep HF0.out hb5); have HB5 := Aside0.mk (below_then HB0.out HB0.out.size hb5); have hp50 := (blk_cell HP5.out 0).trans rfl; have hp51 := (blk_cell HP5.out 1).trans rfl; have HG5 : Aside0 (w5.heap.size ≠ w.heap.size) := ⟨fun e => by have := Sb.isb_lt HF5.out; omega⟩; clear hb5) | (go_at_call 33; go_must ((refine (bput_calls w.heap.size w.heap.size w5.heap.size (encTo l0 m) [n, d, val.size] w _ (HGL.out w5) HG5.out HL3.out.1 HLn.out HL1.out (Sb.keep HF5.out (below_alloc (Below.refl _ _) _)) (below_alloc HB5.out _) (below_alloc HB5.out _).size 3 3 HL3.out.2).mono ?_); rintro e w6 ⟨rfl, hf6, hb6, hk6⟩; have HP6 := Aside0.mk (hk6 _ _ _ _ HNB.out (Sb.keeps_below (b := w.heap.size) (below_alloc (Below.refl w5.heap.size w5) _) _ _ _ _ HNB.out HP5.out (by decide)) (by decide)); have HF6 := Aside0.mk hf6; have HB6 := Aside0.mk hb6; clear hp50 hp51; have hp60 := (blk_cell HP6.out 0).trans rfl; have hp61 := (blk_cell HP6.out 1).trans rfl; clear hf6 hb6 hk6)))
        go_still_tail 7, (by kernel_rfl)
        all_goals go_wp2_with (first | (go_at_call 34; go_must ((refine (Sb.wstrK w.heap.size w.heap.size _ _ w _ (Sb.keepN HF6.out _) HL2.out (pw_below_drewN HB6.out _) (pw_below_drewN HB6.out _).size).mono ?_); rintro e w7 ⟨rfl, hf7, hb7, hk7⟩; have HF7 := Aside0.mk hf7; have HB7 := Aside0.mk hb7; clear hf7 hb7 hk7)))
        go_roundg (l0.length - (m + 1))
        case measure => have := HKQ.out; omega
        case rel => exact ⟨m + 1, by go_num, ⟨rfl⟩, ⟨by omega⟩, ⟨fun i hi => by have := Hm0.out; omega⟩, ⟨by rw [HNext.out]; exact HF7.out⟩, HB7⟩
      · obtain ⟨J, hJ⟩ : ∃ J, J + 1 = m := ⟨m - 1, by omega⟩
        have c2 : decide (0 < (m : Int)) = true := by simp; omega
        have c3 : decide (0 < m) = true := by simp; omega
        have hJ1 : (m : Int) - 1 = (J : Int) := by omega
        have hJ2 : wrap64 (J : Int) = (J : Int) := by unfold wrap64; omega
        have hJ3 : 0 ≤ (J : Int) := by omega
        have hJ4 : (J : Int) < (l0.length : Int) := by omega
        obtain ⟨ad2, ead2, hy0, hy1⟩ := at_T43 HR0.out (J : Int) hJ3 hJ4
        obtain rfl : ad = ad2 := by injection ead2
        obtain ⟨la, hla⟩ : ∃ la, (rd_T43 l0 (J : Int)).f0 = la := ⟨_, rfl⟩
        rw [hla] at hy0
        replace hy0 := pw_cell_below HB0.out hy0
        simp only [Int.toNat_natCast] at hy0
        have HCm' : Aside0 (block_Common.f 1000001 la key = some (n : Int)) := ⟨by
          have h := HCm.out
          rw [← hJ] at h
          have e : lastA l0 (J + 1) = la := hla
          rw [e] at h; exact h⟩
        clear HCm
        have HCm := HCm'
        have HLa : Aside0 (keyA l0 J = la) := ⟨hla⟩
        have HJ := Aside0.mk hJ
        clear HCm' hla hy1 ead2 hm0 hJ
        cases hbl : Op.bytesLess la.toList key.toList with
        | true =>
          have HBl := Aside0.mk hbl
          go_wp2_with (first | (go_at_call 25; (with_reducible refine (block_Common.calls 1000001 la key (n : Int) _ HCm.out).mono ?_); rintro e w5 ⟨rfl, hb5⟩; have HP5 := Aside0.mk (Sb.keeps_below (b := w.heap.size) hb5 _ _ _ _ HNB.out HP0.out (by decide)); have HF5 := Aside0.mk (Sb.keep HF0.out hb5); have HB5 := Aside0.mk (below_then HB0.out HB0.out.size hb5); have hp50 := (blk_cell HP5.out 0).trans rfl; have hp51 := (blk_cell HP5.out 1).trans rfl; have HG5 : Aside0 (w5.heap.size ≠ w.heap.size) := ⟨fun e => by have := Sb.isb_lt HF5.out; omega⟩; clear hb5) | (go_at_call 33; go_must ((refine (bput_calls w.heap.size w.heap.size w5.heap.size (encTo l0 m) [n, d, val.size] w _ (HGL.out w5) HG5.out HL3.out.1 HLn.out HL1.out (Sb.keep HF5.out (below_alloc (Below.refl _ _) _)) (below_alloc HB5.out _) (below_alloc HB5.out _).size 3 3 HL3.out.2).mono ?_); rintro e w6 ⟨rfl, hf6, hb6, hk6⟩; have HP6 := Aside0.mk (hk6 _ _ _ _ HNB.out (Sb.keeps_below (b := w.heap.size) (below_alloc (Below.refl w5.heap.size w5) _) _ _ _ _ HNB.out HP5.out (by decide)) (by decide)); have HF6 := Aside0.mk hf6; have HB6 := Aside0.mk hb6; clear hp50 hp51; have hp60 := (blk_cell HP6.out 0).trans rfl; have hp61 := (blk_cell HP6.out 1).trans rfl; clear hf6 hb6 hk6)))
          go_still_tail 7, (by kernel_rfl)
          all_goals go_wp2_with (first | (go_at_call 34; go_must ((refine (Sb.wstrK w.heap.size w.heap.size _ _ w _ (Sb.keepN HF6.out _) HL2.out (pw_below_drewN HB6.out _) (pw_below_drewN HB6.out _).size).mono ?_); rintro e w7 ⟨rfl, hf7, hb7, hk7⟩; have HF7 := Aside0.mk hf7; have HB7 := Aside0.mk hb7; clear hf7 hb7 hk7)))
          go_roundg (l0.length - (m + 1))
          case measure => have := HKQ.out; omega
          case rel => exact ⟨m + 1, by go_num, ⟨rfl⟩, ⟨by omega⟩, ⟨fun i hi => by
              have hj := HJ.out
              by_cases e : i + 1 < m
              · exact HRi.out i e
              · have ei : i = J := by omega
                subst ei
                rw [HLa.out, hj, Hkey.out]; exact HBl.out⟩, ⟨by rw [HNext.out]; exact HF7.out⟩, HB7⟩
        | false =>
          have hfin : buildP l0 = (⟨#[]⟩, 1) := by
            unfold buildP
            rw [if_neg]
            intro hr
            have := (risesB_iff l0).1 hr J (by have := HJ.out; omega)
            rw [HLa.out, HJ.out, Hkey.out, hbl] at this
            cases this
          have hf2 := HR.out
          rw [hfin] at hf2
          simp only [Prod.mk.injEq] at hf2
          obtain ⟨rfl, rfl⟩ := hf2
          clear hfin
          go_wp2
          go_ret2
          exact ⟨rfl, below_alloc HB.out _⟩
    · have hm : m = l0.length := by have := HM.out; omega
      have c1 : decide ((m : Int) < (l0.length : Int)) = false := by simp; omega
      have hri := HRi.out
      rw [hm] at hri
      have hrb := (risesB_iff l0).2 hri
      obtain ⟨T, hT⟩ : ∃ T, encTo l0 m = T := ⟨_, rfl⟩
      have hf := HF.out
      rw [hT] at hf
      have HF2 := Aside0.mk hf
      have hfin : buildP l0 = if T.length > 40000 then ((⟨#[]⟩ : ByteArray), 10) else (⟨T.toArray⟩, 0) := by
        unfold buildP; rw [if_pos hrb, ← hm, hT]
      have hlT : (Lib.byteCells T).length = T.length := Lib.byteCells_length T
      have hf2 := HR.out
      rw [hfin] at hf2
      have HlT := Aside0.mk hlT
      clear hfin hri hrb hm hT hf HF HRi hlT
      by_cases c4 : T.length > 40000
      · rw [if_pos c4] at hf2
        simp only [Prod.mk.injEq] at hf2
        obtain ⟨rfl, rfl⟩ := hf2
        have c5 : decide (40000 < (T.length : Int)) = true := decide_eq_true (by omega)
        have c6 : decide (40000 < T.length) = true := decide_eq_true (by omega)
        clear c4
        go_wp2_with (first | (go_at_call 35; (with_reducible refine (Sb.blen w.heap.size w.heap.size _ _ HF2.out).mono ?_); rintro e w7 ⟨rfl, rfl⟩; rw [HlT.out]))
        go_ret2
        exact ⟨rfl, HB.out⟩
      · rw [if_neg c4] at hf2
        simp only [Prod.mk.injEq] at hf2
        obtain ⟨hr1, rfl⟩ := hf2
        have c5 : decide (40000 < (T.length : Int)) = false := by simp; omega
        have c6 : decide (40000 < T.length) = false := by simp; omega
        have HR1 := Aside0.mk hr1
        clear c4 hr1
        go_wp2_with (first | (go_at_call 35; (with_reducible refine (Sb.blen w.heap.size w.heap.size _ _ HF2.out).mono ?_); rintro e w7 ⟨rfl, rfl⟩; rw [HlT.out]) | (go_at_call 36; (with_reducible refine (Sb.sout w.heap.size w.heap.size _ w _ HF2.out HB.out HB.out.size).mono ?_); rintro e w8 ⟨rfl, hb8⟩; have HB8 := Aside0.mk hb8; clear hb8))
        go_ret2
        exact ⟨by rw [HR1.out]; rfl, HB8.out⟩
end Go.Proofs.Ytbhainkcdkgbbaa.P

end
section
set_option linter.unusedVariables false
set_option linter.unusedSimpArgs false
namespace Go.Proofs.Ytbhainkcdkgbbaa.Pure
open Go.RowKit Go.Proofs.Ytbhainkcdkgbbaa.P Go.Proofs.Ytbhainkcdkgbbaa.Vp Go.Proofs.YtbhainkcdkgbbaaW.PrintWords Go.Proofs.YtbhainkcdkgbbaaW.PrintLast Go.Proofs.YtbhainkcdkgbbaaW.PrintMore
abbrev Pa := S43
end Go.Proofs.Ytbhainkcdkgbbaa.Pure

end
section
set_option linter.unusedVariables false
set_option linter.unusedSimpArgs false
namespace Go.Proofs.Ytbhainkcdkgbbaa.Pure
open Go.RowKit Go.Proofs.Ytbhainkcdkgbbaa.P Go.Proofs.Ytbhainkcdkgbbaa.Vp Go.Proofs.Ytbhainkcdkgbbaa.Sl Go.Proofs.YtbhainkcdkgbbaaW.PrintWords Go.Proofs.YtbhainkcdkgbbaaW.PrintLast Go.Proofs.YtbhainkcdkgbbaaW.PrintMore
theorem rd_get (l : List Pa) (i : Nat) (h : i < l.length) : rd_T43 l (i : Int) = l[i] := by
  simp [rd_T43, List.getD_eq_getElem?_getD, h]
end Go.Proofs.Ytbhainkcdkgbbaa.Pure

end
section
set_option linter.unusedVariables false
set_option linter.unusedSimpArgs false
namespace Go.Proofs.Ytbhainkcdkgbbaa.Pure
open Go.RowKit Go.Proofs.Ytbhainkcdkgbbaa.P Go.Proofs.Ytbhainkcdkgbbaa.Vp Go.Proofs.Ytbhainkcdkgbbaa.Sl Go.Proofs.YtbhainkcdkgbbaaW.PrintWords Go.Proofs.YtbhainkcdkgbbaaW.PrintLast Go.Proofs.YtbhainkcdkgbbaaW.PrintMore
abbrev Ra := S59
def toR (p : Pa) : Ra := ⟨p.f0, p.f1⟩
end Go.Proofs.Ytbhainkcdkgbbaa.Pure

end
section
set_option linter.unusedVariables false
set_option linter.unusedSimpArgs false
namespace Go.Proofs.Ytbhainkcdkgbbaa.Pure
open Go.RowKit Go.Proofs.Ytbhainkcdkgbbaa.P Go.Proofs.Ytbhainkcdkgbbaa.Vp Go.Proofs.Ytbhainkcdkgbbaa.Sl Go.Proofs.YtbhainkcdkgbbaaW.PrintWords Go.Proofs.YtbhainkcdkgbbaaW.PrintLast Go.Proofs.YtbhainkcdkgbbaaW.PrintMore
theorem wrap_s {m : Nat} (h : m < 9000000000000000000) : wrap64 ((m : Int) + 1) = ((m + 1 : Nat) : Int) := by unfold wrap64; omega
def Lim (l : List Pa) : Prop := l.length ≤ 100000 ∧ ∀ p ∈ l, p.f0.size ≤ 1000000 ∧ p.f1.size ≤ 1000000
end Go.Proofs.Ytbhainkcdkgbbaa.Pure

end
