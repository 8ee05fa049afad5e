import Derived.Test.YtbhainkcdkgbbaaProg
import Derived.Below
import Derived.Deep.Draws
import Derived.Deep.AppendLies
import Derived.Maps.AppendAt
import Derived.OwnWalk
import Derived.Laws.BytesArg
import Derived.Laws.MakeOwn
import Derived.Laws.OwnMore
import Derived.Deep.OwnRows
import Derived.Tactics
import Derived.Lib.ConvBytes
import Derived.Laws.Slices
import Derived.WalkKit
import Derived.KernelRfl
import Derived.RowKit3
import Derived.Deep.LoopGhost
import Derived.Deep.QuietTactic
import Derived.BigQuiet
import Derived.WideLaws
import Derived.Deep.DeepCutAuto
import Derived.Deep.CutBlock
import Derived.Deep.RegionHeld3
import Derived.Laws.Rows
import Derived.Lib.AppendStr
import Derived.ArgAppend
import Derived.Laws.IdiomCopy
import Derived.OrdersHeld
import Derived.Laws.BitsLemmas
import Derived.RowKit
import Derived.Lib.Hide
import Derived.Laws.ShiftsVar
import Derived.Laws.ShiftsVarLaws
import Derived.Laws.BitsAllLaws
import Derived.Shelf.Strings.Builder1
import Derived.Laws.Strings
import Derived.Laws.StructEq
import Derived.WalkSpells
import Derived.Outline
import Derived.RegionTactic
import Derived.Deep.RegionWith
import Derived.StillTailTactics
import Derived.Deep.RegionLaw
import Derived.Test.YtbhainkcdkgbbaaQ0
import Derived.Test.YtbhainkcdkgbbaaQ1
import Derived.Test.YtbhainkcdkgbbaaQ2
import Derived.Test.YtbhainkcdkgbbaaQ4
import Derived.Test.YtbhainkcdkgbbaaQ5
import Derived.Test.YtbhainkcdkgbbaaQ15
import Derived.Test.YtbhainkcdkgbbaaQ16
import Derived.Test.YtbhainkcdkgbbaaQ24
import Derived.Test.YtbhainkcdkgbbaaQ26
namespace Go.Proofs.Ytbhainkcdkgbbaa.P
end Go.Proofs.Ytbhainkcdkgbbaa.P
namespace Go.Proofs.Ytbhainkcdkgbbaa.Sl
end Go.Proofs.Ytbhainkcdkgbbaa.Sl
namespace Go.Proofs.Ytbhainkcdkgbbaa.Vp
end Go.Proofs.Ytbhainkcdkgbbaa.Vp
namespace Go.Proofs.YtbhainkcdkgbbaaW.PrintLast
end Go.Proofs.YtbhainkcdkgbbaaW.PrintLast
namespace Go.Proofs.YtbhainkcdkgbbaaW.PrintMore
end Go.Proofs.YtbhainkcdkgbbaaW.PrintMore
namespace Go.Proofs.YtbhainkcdkgbbaaW.PrintWords
end Go.Proofs.YtbhainkcdkgbbaaW.PrintWords
section
namespace Go.Proofs.Ytbhainkcdkgbbaa.P
open Go.RowKit Go.Proofs.Ytbhainkcdkgbbaa.Vp Go.Proofs.Ytbhainkcdkgbbaa.Sl Go.Proofs.YtbhainkcdkgbbaaW.PrintWords Go.Proofs.YtbhainkcdkgbbaaW.PrintLast Go.Proofs.YtbhainkcdkgbbaaW.PrintMore
attribute [local go_sem] str_gtr str_leq str_geq max2_int min2_int max_two min_two max_three min_three max_four min_four
set_option linter.unusedVariables false
set_option linter.unusedSimpArgs false
theorem rcommon_l0 (a b : ByteArray) (ha : a.size < 4611686018427387904) : ∀ (d i k : Nat), min a.size b.size - i = d → i ≤ min a.size b.size → d < k → moultref8_Common.l0 k a b (i : Int) = some ((i + comL (a.data.toList.drop i) (b.data.toList.drop i) : Nat) : Int) := by
  intro d
  induction d with
  | zero =>
    intro i k hd hi hk
    obtain ⟨k, rfl⟩ : ∃ m, k = m + 1 := ⟨k - 1, by omega⟩
    have h0 : comL (a.data.toList.drop i) (b.data.toList.drop i) = 0 := by
      have := comL_le (a.data.toList.drop i) (b.data.toList.drop i)
      rw [List.length_drop, List.length_drop, data_length, data_length] at this
      omega
    rw [h0, moultref8_Common.l0]
    split
    · rw [if_neg (by omega)]; rfl
    · rfl
  | succ d ih =>
    intro i k hd hi hk
    obtain ⟨k, rfl⟩ : ∃ m, k = m + 1 := ⟨k - 1, by omega⟩
    have h1 : i < a.data.toList.length := by rw [data_length]; omega
    have h2 : i < b.data.toList.length := by rw [data_length]; omega
    rw [moultref8_Common.l0, if_pos (by omega), if_pos (by omega), if_pos (by omega), bt_list a i h1, bt_list b i h2]
    rw [List.drop_eq_getElem_cons h1, List.drop_eq_getElem_cons h2, comL]
    by_cases e : a.data.toList[i] = b.data.toList[i]
    · rw [if_pos (by rw [e]), if_pos e]
      rw [show wrap64 ((i : Int) + 1) = ((i + 1 : Nat) : Int) by unfold wrap64; omega, ih (i + 1) k (by omega) (by omega) (by omega)]
      congr 2; omega
    · rw [if_neg (fun h => e (UInt8.toNat_inj.1 (by omega))), if_neg e]; rfl
theorem rcommon_f (a b : ByteArray) (ha : a.size < 4611686018427387904) (k : Nat) (hk : a.size < k) : moultref8_Common.f k a b = some (comP a b : Int) := by
  unfold moultref8_Common.f
  have := rcommon_l0 a b ha (min a.size b.size) 0 k (by omega) (by omega) (by omega)
  rw [show ((0 : Nat) : Int) = 0 from rfl] at this
  rw [this, List.drop_zero, List.drop_zero, Nat.zero_add]; rfl
theorem rsize_f (n : Nat) (h : n < 9223372036854775808) : moultref8_size.f 20 (n : Int) = some (putP (n : Int)) := by
  unfold moultref8_size.f
  rw [show IntKind.u64.wrap (n : Int) = (n : Int) by rw [IntKind.wrap_u64]; omega, Go.Proofs.Ytbhainkcdkgbbaa.Pure.rput_f _ (by omega) (by omega) 20 (by omega)]; rfl
def lastR (l : List S59) : Nat → ByteArray
  | 0 => ⟨#[]⟩
  | i + 1 => keyR l i
def encRTo (l : List S59) (m : Nat) : List UInt8 := (List.range m).flatMap fun i => encA (lastR l i) (keyR l i) (valR l i)
theorem encRTo_succ (l : List S59) (m : Nat) : encRTo l (m + 1) = encRTo l m ++ encA (lastR l m) (keyR l m) (valR l m) := by
  unfold encRTo; rw [List.range_succ, List.flatMap_append]; simp
theorem encRTo_len (l : List S59) (h : ∀ i, i < l.length → (keyR l i).size ≤ 1000000 ∧ (valR l i).size ≤ 1000000) : ∀ m, m ≤ l.length → (encRTo l m).length ≤ 2000027 * m := by
  intro m
  induction m with
  | zero => intro _; simp [encRTo]
  | succ m ih =>
    intro hm
    have h1 := ih (by omega)
    have h2 := h m (by omega)
    have h3 := encA_len (lastR l m) (keyR l m) (valR l m)
    rw [encRTo_succ, List.length_append]
    omega
def rbuildP (l : List S59) : ByteArray × Int := if (encRTo l l.length).length > 40000 then ((⟨#[]⟩ : ByteArray), 10) else (⟨(encRTo l l.length).toArray⟩, 0)
def moultref8_Build.f (k : Nat) (l0 : List S59) : Option (ByteArray × Int) :=
  (moultref8_Rises.f k l0).bind fun b => if b = true then (if smallR l0 then some (rbuildP l0) else none) else some ((⟨#[]⟩ : ByteArray), 1)
theorem moultref8_Build.mono : ∀ l0 k, LeO (moultref8_Build.f k l0) (moultref8_Build.f (k + 1) l0) := by
  intro l0 k
  unfold moultref8_Build.f
  exact LeO.bind (moultref8_Rises.mono _ _) (fun _ => LeO.refl _)
theorem info_u8 : ∃ i0, Try.prog.info? 5 = some i0 ∧ i0.zero = some (.int .u8 0) ∧ i0.size = 1 ∧ i0.bytes = 1 := by
  have h : (Try.prog.info? 5).map (fun i => (i.zero, i.size, i.bytes)) = some (some (.int .u8 0), 1, 1) := by kernel_rfl
  cases hq : Try.prog.info? 5 with
  | none => rw [hq] at h; cases h
  | some i =>
    rw [hq] at h
    have h2 := Option.some.inj h
    simp only [Prod.mk.injEq] at h2
    exact ⟨i, rfl, h2.1, h2.2.1, h2.2.2⟩
structure RowB (w0 W : World) (v : Value) (T : List UInt8) : Prop where
  own : W.ownsRow w0.heap.size 5 1 v T.length (Lib.byteCells T)
  below : Below w0.heap.size w0 W
theorem RowB.step {w0 W W1 : World} {v : Value} {T : List UInt8} (h : RowB w0 W v T) (hb : Below W.heap.size W W1) : RowB w0 W1 v T :=
  ⟨pw_own_below h.own hb, below_then h.below h.below.size hb⟩
theorem RowB.app {w0 W : World} {v : Value} {T : List UInt8} (h : RowB w0 W v T) (s : ByteArray) (hl : T.length + s.size ≤ 140737488355328) :
    ∃ v' W', (Builtin.append_ #[63, 9] 63 #[v, .string s]).run Try.prog W = .ok v' W' ∧ RowB w0 W' v' (T ++ s.data.toList) ∧ ∃ ao n c, v' = .slice ao n c := by
  obtain ⟨i0, hi, hz0, hz1, hz2⟩ := info_u8
  obtain ⟨v', w', hr, ho, hg, _⟩ := Lib.run_append_own_string (P := Try.prog) W w0.heap.size 63 9 63 5 i0 Try.underlying63 Try.underlying9 hi hz0 hz1 hz2 v T.length (Lib.byteCells T) h.own s (by unfold maxLen; omega) hl h.below.size
  have hs : s.data.toList.length = s.size := data_length s
  refine ⟨v', w', hr, ⟨?_, ?_⟩, ?_⟩
  · rw [← Sb.cells_of, List.length_append, hs]; exact ho
  · exact h.below.grown hg h.below.size (fun k hk => (h.own.lt k hk).1)
  · rcases ho.2 with ⟨hv, _⟩ | ⟨g, cap, cur, hv, _⟩
    · exact ⟨_, _, _, hv⟩
    · exact ⟨_, _, _, hv⟩
theorem RowB.drew {w0 W : World} {v : Value} {T : List UInt8} (h : RowB w0 W v T) : RowB w0 W.drew v T := h.step (below_drew1 (Below.refl _ _))
theorem RowB.drewN {w0 W : World} {v : Value} {T : List UInt8} (h : RowB w0 W v T) (n : Nat) : RowB w0 (W.drewN n) v T := h.step (pw_below_drewN (Below.refl _ _) n)
theorem RowB.form {w0 W : World} {v : Value} {T : List UInt8} (h : RowB w0 W v T) : ∃ ao N c, Aside0 (N = T.length) ∧ v = .slice ao N c := by
  rcases h.own.2 with ⟨hv, hz⟩ | ⟨g, cap, cur, hv, _⟩
  · exact ⟨none, _, 0, ⟨rfl⟩, by rw [hv, hz]⟩
  · exact ⟨_, _, _, ⟨rfl⟩, hv⟩
theorem RowB.str {w0 W : World} {v : Value} {T : List UInt8} (h : RowB w0 W v T) : (convert 63 9 v).run Try.prog W = .ok (.string ⟨T.toArray⟩) W := by
  have h1 := own_string (P := Try.prog) (w := W) (base := w0.heap.size) (n := T.length) (e' := 5) (v := v) (src := 63) (dst := 9) Try.underlying63 Try.underlying5 Try.underlying9 (xs := T.map fun b => (b.toNat : Int)) (by
    have e : nums .u8 (T.map fun b => (b.toNat : Int)) = Lib.byteCells T := by simp [nums, Lib.byteCells]
    rw [e]; exact h.own)
  have e2 : strOfNums (T.map fun b => (b.toNat : Int)) = ⟨T.toArray⟩ := by
    apply ByteArray.ext
    apply Array.toList_inj.1
    rw [strOfNums_data, List.map_map]
    exact (List.map_congr_left (fun b _ => by simp [Function.comp])).trans (List.map_id T)
  rw [e2] at h1
  exact h1
theorem wp_rowB {ops : Array Oper} {o : Oper} {a : Act} {K : Act → World → Prop} {Q : Exit → Act → World → Prop} {w0 W : World} {v : Value} {T : List UInt8} (sl x : Operand)
    (ho : o.op = .call { callee := .builtin .append, args := #[sl, x], argTypes := #[63, 9] }) (hty : o.type = 63) (s : ByteArray) (hs : a.eval sl = v) (hx : a.eval x = .string s)
    (h : RowB w0 W v T) (hl : T.length + s.size ≤ 140737488355328) (hK : ∀ v' w', RowB w0 w' v' (T ++ s.data.toList) → K (a.put o.dst v') w') : Oper.wp Try.prog o a W K Q := by
  obtain ⟨v', w', hr, h2, _⟩ := h.app s hl
  unfold Oper.wp execOp
  simp only [ho, resolve, invoke, builtin, Sem.run_bind, Sem.run_pure, Result.andThen_ok, List.map_toArray, List.map_cons, List.map_nil, hs, hx, hty, hr]
  exact hK _ _ h2
theorem wpList_rowB {ops : Array Oper} {rest : List Oper} {o : Oper} {a : Act} {Q : Exit → Act → World → Prop} {w0 W : World} {v : Value} {T : List UInt8} (hgd : o.guard = none) (sl x : Operand)
    (ho : o.op = .call { callee := .builtin .append, args := #[sl, x], argTypes := #[63, 9] }) (hty : o.type = 63) (s : ByteArray) (hs : a.eval sl = v) (hx : a.eval x = .string s)
    (h : RowB w0 W v T) (hl : T.length + s.size ≤ 140737488355328) (hK : ∀ v' w', RowB w0 w' v' (T ++ s.data.toList) → wpList Try.prog ops Q rest (a.put o.dst v') w') : wpList Try.prog ops Q (o :: rest) a W :=
  wpList_plain hgd fun K hk => wp_rowB (ops := ops) sl x ho hty s hs hx h hl (fun v' w' h' => hk _ _ (hK v' w' h'))
theorem step_rowB {ops : Array Oper} {o : Oper} {a : Act} {K : Act → World → Prop} {Q : Exit → Act → World → Prop} {E : Prop} {w0 W : World} {v : Value} {T : List UInt8} (hgd : o.guard = none) (sl x : Operand)
    (ho : o.op = .call { callee := .builtin .append, args := #[sl, x], argTypes := #[63, 9] }) (hty : o.type = 63) (s : ByteArray) (hs : a.eval sl = v) (hx : a.eval x = .string s)
    (h : RowB w0 W v T) (hl : T.length + s.size ≤ 140737488355328) (hK : ∀ v' w', RowB w0 w' v' (T ++ s.data.toList) → K (a.put o.dst v') w') : if Region.wanted o (yielded ops a.tmps) = true then Oper.wp Try.prog o a W K Q else E := by
  have hw : Region.wanted o (yielded ops a.tmps) = true := by simp [Region.wanted, hgd]
  rw [if_pos hw]
  exact wp_rowB (ops := ops) sl x ho hty s hs hx h hl hK
theorem ba_three (a b c : ByteArray) : (a ++ b ++ c).data.toList = a.data.toList ++ b.data.toList ++ c.data.toList := by
  rw [ByteArray.data_append, Array.toList_append, ByteArray.data_append, Array.toList_append]
theorem ba_tail (s : ByteArray) (n : Nat) : (s.extract n s.size).data.toList = s.data.toList.drop n := by
  rw [ByteArray.data_extract, Array.toList_extract]
  simp only [List.extract]
  rw [List.take_of_length_le]
  rw [List.length_drop, data_length]
  exact Nat.le_refl _
set_option maxHeartbeats 4000000 in
theorem moultref8_Build.calls (k : Nat) (A0 : Option Addr) (c0 : Nat) (l0 : List S59) (r1 : ByteArray) (r2 : Int) (w : World) (hr0 : Kd.C k59 w A0 l0.length l0) (hc0 : l0.length ≤ c0) (h : moultref8_Build.f k l0 = some (r1, r2)) :
    Calls Try.prog 22 #[.slice A0 l0.length c0] w fun e w' => e = .returned (.tuple #[.string r1, .int .i64 r2]) ∧ Below w.heap.size w w' := by
  unfold moultref8_Build.f at h
  obtain ⟨b, hb, h⟩ := Option.bind_eq_some_iff.1 h
  have HRs := Aside0.mk hb
  have HR0 := Aside0.mk hr0
  have HC0 := Aside0.mk hc0
  clear hb hr0 hc0
  cases b with
  | false =>
    rw [if_neg (by decide)] at h
    have h2 := Option.some.inj h
    simp only [Prod.mk.injEq] at h2
    obtain ⟨rfl, rfl⟩ := h2
    clear h
    go_enter Try.func22, Try.ntmps22
    go_wp2_with (first | (go_at_call 37; (with_reducible refine (moultref8_Rises.calls k A0 c0 l0 false _ HR0.out HC0.out HRs.out).mono ?_); rintro e w1 ⟨rfl, ⟨n1, rfl⟩⟩))
    go_ret2
    exact ⟨rfl, pw_below_drewN (Below.refl _ _) _⟩
  | true =>
    rw [if_pos rfl] at h
    split at h
    case isFalse => cases h
    case isTrue hsm =>
    have hR := Option.some.inj h
    have HR := Aside0.mk hR
    have HSM := Aside0.mk hsm
    have hlen := hsm.1
    clear h hR hsm
    go_enter Try.func22, Try.ntmps22
    go_wp2_with (first | (go_at_call 37; (with_reducible refine (moultref8_Rises.calls k A0 c0 l0 true _ HR0.out HC0.out HRs.out).mono ?_); rintro e w1 ⟨rfl, ⟨n1, rfl⟩⟩))
    have HRB : Aside0 (RowB w (w.drewN n1) (.slice none 0 0) (encRTo l0 0)) := ⟨⟨by simpa [encRTo, Lib.byteCells] using World.ownsRow_nil _ _ _ _, pw_below_drewN (Below.refl _ _) _⟩⟩
    go_loopg [5, 6, 7] (l0.length) (fun kq v5 v6 v7 w' => ∃ (m T : Nat) (ao : Option Addr) (cp : Nat), v5 = .slice ao T cp ∧ v6 = .string (lastR l0 m) ∧ v7 = .int .i64 (m : Int) ∧ Aside0 (kq = l0.length - m) ∧ Aside0 (m ≤ l0.length) ∧ Aside0 (T = (encRTo l0 m).length) ∧ Aside0 (RowB w w' (.slice ao T cp) (encRTo l0 m)))
    case atStart => exact ⟨0, 0, none, 0, rfl, rfl, rfl, ⟨rfl⟩, ⟨by omega⟩, ⟨by simp [encRTo]⟩, HRB⟩
    case round =>
      clear HRB
      obtain ⟨m, T, ao, cp, rfl, rfl, rfl, HKQ, HM, HT, HF⟩ := hrel
      by_cases c : m < l0.length
      · have c1 : decide ((m : Int) < (l0.length : Int)) = true := by simp; exact c
        have c1b : decide (m < l0.length) = true := by simp; exact c
        have hn0 : 0 ≤ (m : Int) := by omega
        have hm1 : (m : Int) < (l0.length : Int) := by omega
        obtain ⟨ad, ead, hx0, hx1⟩ := at_T59 HR0.out (m : Int) hn0 (by omega)
        cases ead
        have hk : (rd_T59 l0 (m : Int)).f0 = keyR l0 m := rfl
        have hv : (rd_T59 l0 (m : Int)).f1 = valR l0 m := rfl
        rw [hk] at hx0
        rw [hv] at hx1
        clear hk hv
        obtain ⟨key, hkey⟩ : ∃ key, keyR l0 m = key := ⟨_, rfl⟩
        obtain ⟨val, hval⟩ : ∃ val, valR l0 m = val := ⟨_, rfl⟩
        rw [hkey] at hx0
        rw [hval] at hx1
        simp only [Int.toNat_natCast] at hx0 hx1
        have HX0 := Aside0.mk hx0
        have HX1 := Aside0.mk hx1
        replace hx0 := pw_cell_below HF.out.below hx0
        replace hx1 := pw_cell_below HF.out.below hx1
        obtain ⟨la, hla⟩ : ∃ la, lastR l0 m = la := ⟨_, rfl⟩
        obtain ⟨n, hn⟩ : ∃ n, comP la key = n := ⟨_, rfl⟩
        have hnle := (comP_le la key).2
        rw [hn] at hnle
        obtain ⟨d, hd⟩ : ∃ d, key.size - n = d := ⟨_, rfl⟩
        have hdi : (key.size : Int) - (n : Int) = (d : Int) := by omega
        have hszs := HSM.out.2 m c
        rw [hkey, hval] at hszs
        have hdw : wrap64 (d : Int) = (d : Int) := by unfold wrap64; omega
        have hdw2 : IntKind.i64.wrap (d : Int) = (d : Int) := (i64_w _).trans hdw
        have hnext : encRTo l0 (m + 1) = encRTo l0 m ++ (putP (n : Int) ++ putP (d : Int) ++ putP (val.size : Int)).data.toList ++ (key.extract n key.size).data.toList ++ val.data.toList := by
          rw [encRTo_succ, hkey, hval, hla]
          unfold encA
          rw [hn, hd, ba_tail, ba_three]
          simp [putsU, putB, List.append_assoc]
        have hel := encRTo_len l0 HSM.out.2 m (by omega)
        have hp1 := putP_size (n : Int)
        have hp2 := putP_size (d : Int)
        have hp3 := putP_size (val.size : Int)
        have hs3 : (putP (n : Int) ++ putP (d : Int) ++ putP (val.size : Int)).size ≤ 27 := by rw [ByteArray.size_append, ByteArray.size_append]; omega
        have hd3 : (putP (n : Int) ++ putP (d : Int) ++ putP (val.size : Int)).data.toList.length ≤ 27 := by rw [data_length]; exact hs3
        have hds : (key.extract n key.size).data.toList.length ≤ key.size := by rw [data_length, ByteArray.size_extract]; omega
        have HL1 : Aside0 ((encRTo l0 m).length + (putP (n : Int) ++ putP (d : Int) ++ putP (val.size : Int)).size ≤ 140737488355328) := ⟨by omega⟩
        have HL2 : Aside0 ((encRTo l0 m ++ (putP (n : Int) ++ putP (d : Int) ++ putP (val.size : Int)).data.toList).length + (key.extract n key.size).size ≤ 140737488355328) := ⟨by rw [List.length_append, ByteArray.size_extract]; omega⟩
        have HL3 : Aside0 ((encRTo l0 m ++ (putP (n : Int) ++ putP (d : Int) ++ putP (val.size : Int)).data.toList ++ (key.extract n key.size).data.toList).length + val.size ≤ 140737488355328) := ⟨by rw [List.length_append, List.length_append]; omega⟩
        have HNext := Aside0.mk hnext
        have hnk : (n : Int) ≤ (key.size : Int) := by omega
        have hn1 : 0 ≤ (n : Int) := by omega
        have hla2 : la.size ≤ 1000000 := by
          rw [← hla]
          cases m with
          | zero => exact (show (0 : Nat) ≤ 1000000 by omega)
          | succ j => exact (HSM.out.2 j (by omega)).1
        have HCm : Aside0 (moultref8_Common.f 1000001 la key = some (n : Int)) := ⟨by rw [← hn]; exact rcommon_f _ _ (by omega) _ (by omega)⟩
        have HS1 := Aside0.mk (rsize_f n (by omega))
        have HS2 := Aside0.mk (rsize_f d (by omega))
        have HS3 := Aside0.mk (rsize_f val.size (by omega))
        have HP1 := Aside0.mk hp1
        have HP2 := Aside0.mk hp2
        have HP3 := Aside0.mk hp3
        have HKey : Aside0 (lastR l0 (m + 1) = key) := ⟨hkey⟩
        have HT2 := HT
        rw [hla]
        obtain ⟨q1, hq1⟩ : ∃ q1, putP (n : Int) = q1 := ⟨_, rfl⟩
        obtain ⟨q2, hq2⟩ : ∃ q2, putP (d : Int) = q2 := ⟨_, rfl⟩
        obtain ⟨q3, hq3⟩ : ∃ q3, putP (val.size : Int) = q3 := ⟨_, rfl⟩
        rw [hq1] at HS1 HP1 HL1 HL2 HL3 HNext
        rw [hq2] at HS2 HP2 HL1 HL2 HL3 HNext
        rw [hq3] at HS3 HP3 HL1 HL2 HL3 HNext
        have hz1 : (9223372036854775807 < q1.size + q2.size) = False := eq_false (by have := HP1.out; have := HP2.out; omega)
        have hz2 : (9223372036854775807 < q1.size + q2.size + q3.size) = False := eq_false (by have := HP1.out; have := HP2.out; have := HP3.out; omega)
        clear hkey hval hn hd hnle hszs hnext hel hla hla2 hp1 hp2 hp3 hs3 hd3 hds hq1 hq2 hq3
        go_wp2_with (first | (go_at_call 26; (with_reducible refine (moultref8_Common.calls 1000001 la key (n : Int) _ HCm.out).mono ?_); rintro e w5 ⟨rfl, ⟨n5, rfl⟩⟩))
        have HR1 := Aside0.mk (HF.out.drewN n5)
        have hy0 := pw_cell_below HR1.out.below HX0.out
        have hy1 := pw_cell_below HR1.out.below HX1.out
        clear hx0 hx1
        generalize wr.drewN n5 = w5 at HR1 hy0 hy1 ⊢
        go_region_law (first | (refine step_rowB (by rfl) (.tmp 26) (.tmp 46) (by rfl) (by rfl) (q1 ++ q2 ++ q3) (by rfl) (by rfl) HRW.out HL1.out ?_; intro v1 w9 hf9; have HF9 := Aside0.mk hf9; clear hf9) | (go_simp; go_at_call 38; (first | ((with_reducible refine (moultref8_size.calls 20 (n : Int) q1 _ HS1.out).mono ?_); rintro e w6 ⟨rfl, hb6⟩; have HRW := Aside0.mk (RowB.step (by repeat (first | exact HR1.out | apply RowB.drew | apply RowB.drewN)) hb6); have hy60 := pw_cell_below HRW.out.below HX0.out; have hy61 := pw_cell_below HRW.out.below HX1.out; clear hb6) | ((with_reducible refine (moultref8_size.calls 20 (d : Int) q2 _ HS2.out).mono ?_); rintro e w7 ⟨rfl, hb7⟩; have HRW2 := Aside0.mk (RowB.step (by repeat (first | exact HRW.out | apply RowB.drew | apply RowB.drewN)) hb7); clear HRW; have HRW := HRW2; clear HRW2; have hy70 := pw_cell_below HRW.out.below HX0.out; have hy71 := pw_cell_below HRW.out.below HX1.out; clear hb7) | ((with_reducible refine (moultref8_size.calls 20 (val.size : Int) q3 _ HS3.out).mono ?_); rintro e w8 ⟨rfl, hb8⟩; have HRW2 := Aside0.mk (RowB.step (by repeat (first | exact HRW.out | apply RowB.drew | apply RowB.drewN)) hb8); clear HRW; have HRW := HRW2; clear HRW2; have hy80 := pw_cell_below HRW.out.below HX0.out; have hy81 := pw_cell_below HRW.out.below HX1.out; clear hb8))))
        all_goals
          obtain ⟨ao9, N9, cp9, HN9, e9⟩ := HF9.out.form
          subst e9
          have hz0 := pw_cell_below HF9.out.below HX0.out
          have hz1' := pw_cell_below HF9.out.below HX1.out
          try clear hy0 hy1
          try clear hy60 hy61
          try clear hy70 hy71
          try clear hy80 hy81
          try clear HRW
          go_wp2_with (first | ((with_reducible refine gate_dst (N := 56) rfl ?_); go_must (refine wpList_rowB rfl (.tmp 48) (.tmp 55) rfl rfl (key.extract n key.size) rfl rfl HF9.out HL2.out ?_); intro v2 w10 hf10; obtain ⟨ao10, N10, cp10, HN10, e10⟩ := hf10.form; subst e10; have HF10 := Aside0.mk hf10; clear hf10 hz0 hz1'; have hz0 := pw_cell_below HF10.out.below HX0.out; have hz1' := pw_cell_below HF10.out.below HX1.out) | ((with_reducible refine gate_dst (N := 63) rfl ?_); refine wpList_rowB rfl (.tmp 57) (.tmp 62) rfl rfl val rfl rfl HF10.out HL3.out ?_; intro v3 w11 hf11; obtain ⟨ao11, N11, cp11, HN11, e11⟩ := hf11.form; subst e11; have HF11 := Aside0.mk hf11; clear hf11 hz0 hz1'; have hz0 := pw_cell_below HF11.out.below HX0.out; have hz1' := pw_cell_below HF11.out.below HX1.out))
          go_roundg (l0.length - (m + 1))
          case measure => have := HKQ.out; omega
          case rel => exact ⟨m + 1, N11, ao11, cp11, rfl, by rw [HKey.out], by go_num, ⟨rfl⟩, ⟨by omega⟩, ⟨by rw [HNext.out]; exact HN11.out⟩, ⟨by rw [HNext.out]; exact HF11.out⟩⟩
      · have hm : m = l0.length := by have := HM.out; omega
        have c1 : decide ((m : Int) < (l0.length : Int)) = false := by simp; omega
        have c1b : decide (m < l0.length) = false := by simp; omega
        obtain ⟨E, hE⟩ : ∃ E, encRTo l0 m = E := ⟨_, rfl⟩
        have hf := HF.out
        rw [hE] at hf
        have hT := HT.out
        rw [hE] at hT
        have hfin : rbuildP l0 = if E.length > 40000 then ((⟨#[]⟩ : ByteArray), 10) else (⟨E.toArray⟩, 0) := by
          unfold rbuildP; rw [← hm, hE]
        have hf2 := HR.out
        rw [hfin] at hf2
        have hcv := hf.str
        have HF2 := Aside0.mk hf
        have HT2 := Aside0.mk hT
        clear hfin hm hE hf HF HT hT
        by_cases c4 : E.length > 40000
        · rw [if_pos c4] at hf2
          simp only [Prod.mk.injEq] at hf2
          obtain ⟨rfl, rfl⟩ := hf2
          have c5 : decide (40000 < (T : Int)) = true := decide_eq_true (by have := HT2.out; omega)
          have c6 : decide (40000 < T) = true := decide_eq_true (by have := HT2.out; omega)
          clear c4
          go_wp2
          go_ret2
          exact ⟨rfl, HF2.out.below⟩
        · rw [if_neg c4] at hf2
          simp only [Prod.mk.injEq] at hf2
          obtain ⟨hr1, rfl⟩ := hf2
          have c5 : decide (40000 < (T : Int)) = false := by simp; have := HT2.out; omega
          have c6 : decide (40000 < T) = false := by simp; have := HT2.out; omega
          have HR1 := Aside0.mk hr1
          clear c4 hr1
          go_wp2
          go_ret2
          exact ⟨by rw [← HR1.out]; rfl, HF2.out.below⟩
end Go.Proofs.Ytbhainkcdkgbbaa.P

end
section
namespace Go.Proofs.Ytbhainkcdkgbbaa.P
open Go.RowKit Go.Proofs.Ytbhainkcdkgbbaa.Vp Go.Proofs.Ytbhainkcdkgbbaa.Sl Go.Proofs.YtbhainkcdkgbbaaW.PrintWords Go.Proofs.YtbhainkcdkgbbaaW.PrintLast Go.Proofs.YtbhainkcdkgbbaaW.PrintMore
attribute [local go_sem] str_gtr str_leq str_geq max2_int min2_int max_two min_two max_three min_three max_four min_four
set_option linter.unusedVariables false
set_option linter.unusedSimpArgs false
def moultref8_three.l0 : Nat → List Int → ByteArray → Int → Option (List Int × ByteArray × Bool)
  | 0, _, _, _ => none
  | k + 1, x5, x6, x7 => if x7 < 3 then ((moultref3_Take.f k x6).bind fun bt176 => (if bt176.2.2 = true then (if bt176.1 > 40000 then (some (([] : List Int), (⟨#[]⟩ : ByteArray), false)) else (if x5.length < 17592186044416 then (moultref8_three.l0 k (x5 ++ [wrap64 (bt176.1)]) bt176.2.1 (wrap64 (x7 + 1))) else (none))) else (some (([] : List Int), (⟨#[]⟩ : ByteArray), false)))) else (some (x5, x6, true))
def moultref8_three.f (k : Nat) (a0 : ByteArray) : Option (List Int × ByteArray × Bool) := moultref8_three.l0 k ([] : List Int) a0 0
theorem moultref8_three.mono_l : ∀ k, (∀ y0 y1 y2, LeO (moultref8_three.l0 k y0 y1 y2) (moultref8_three.l0 (k + 1) y0 y1 y2))
  | 0 => fun _ _ _ r h => by simp [moultref8_three.l0] at h
  | k + 1 => by
    have ih0 := moultref8_three.mono_l k
    · intro y0 y1 y2
      unfold moultref8_three.l0
      repeat' first
      | (with_reducible exact ih0 _ _ _)
      | (with_reducible exact moultref3_Take.mono _ _)
      | (with_reducible exact LeO.refl _)
      | (with_reducible exact LeO.none _)
      | (with_reducible refine LeO.ite ?_ ?_)
      | (with_reducible refine LeO.bind ?_ (fun _ => ?_))
      | exact ih0 _ _ _
      | exact moultref3_Take.mono _ _
      | exact LeO.none _
      | refine LeO.ite ?_ ?_
      | refine LeO.bind ?_ (fun _ => ?_)
theorem moultref8_three.mono : ∀ a0 k, LeO (moultref8_three.f k a0) (moultref8_three.f (k + 1) a0) := by
  intro a0 k
  have ih0 := moultref8_three.mono_l k
  unfold moultref8_three.f
  repeat' first
      | (with_reducible exact ih0 _ _ _)
      | (with_reducible exact moultref3_Take.mono _ _)
      | (with_reducible exact LeO.refl _)
      | (with_reducible exact LeO.none _)
      | (with_reducible refine LeO.ite ?_ ?_)
      | (with_reducible refine LeO.bind ?_ (fun _ => ?_))
      | exact ih0 _ _ _
      | exact moultref3_Take.mono _ _
      | exact LeO.none _
      | refine LeO.ite ?_ ?_
      | refine LeO.bind ?_ (fun _ => ?_)
end Go.Proofs.Ytbhainkcdkgbbaa.P

end
section
namespace Go.Proofs.Ytbhainkcdkgbbaa.P
open Go.RowKit Go.Proofs.Ytbhainkcdkgbbaa.Vp Go.Proofs.Ytbhainkcdkgbbaa.Sl Go.Proofs.YtbhainkcdkgbbaaW.PrintWords Go.Proofs.YtbhainkcdkgbbaaW.PrintLast Go.Proofs.YtbhainkcdkgbbaaW.PrintMore
attribute [local go_sem] str_gtr str_leq str_geq max2_int min2_int max_two min_two max_three min_three max_four min_four
set_option linter.unusedVariables false
set_option linter.unusedSimpArgs false
def moultref8_Read.l0 : Nat → ByteArray → List (S59) → ByteArray → ByteArray → Option ((List (S59)) × Int)
  | 0, _, _, _, _ => none
  | k + 1, x0, x4, x5, x6 => if x6.toList = ([] : List UInt8) then ((moultref8_Build.f k x4).bind fun bt182 => (if bt182.2 = 0 then (if bt182.1.toList = x0.toList then (some (x4, 0)) else (some (([] : List (S59)), 8))) else (some (([] : List (S59)), 8)))) else ((moultref8_three.f k x6).bind fun bt184 => (if bt184.2.2 = true then (if 0 < (bt184.1.length : Int) then (if (rd bt184.1 0) > (x5.size : Int) then (some (([] : List (S59)), 8)) else (if 1 < (bt184.1.length : Int) then (if 2 < (bt184.1.length : Int) then (if (wrap64 ((rd bt184.1 1) + (rd bt184.1 2))) > (bt184.2.1.size : Int) then (some (([] : List (S59)), 8)) else (if 0 ≤ (rd bt184.1 0) then (if (rd bt184.1 0) ≤ (x5.size : Int) then (if 0 ≤ (rd bt184.1 1) then (if (rd bt184.1 1) ≤ (bt184.2.1.size : Int) then (if (x5.extract 0 ((rd bt184.1 0) : Int).toNat).size + (bt184.2.1.extract 0 ((rd bt184.1 1) : Int).toNat).size ≤ 9223372036854775807 then (if (rd bt184.1 1) ≤ (wrap64 ((rd bt184.1 1) + (rd bt184.1 2))) then (if (wrap64 ((rd bt184.1 1) + (rd bt184.1 2))) ≤ (bt184.2.1.size : Int) then (if x4.length < 4398046511104 then (if 0 ≤ (wrap64 ((rd bt184.1 1) + (rd bt184.1 2))) then (moultref8_Read.l0 k x0 (x4 ++ [(⟨(x5.extract 0 ((rd bt184.1 0) : Int).toNat) ++ (bt184.2.1.extract 0 ((rd bt184.1 1) : Int).toNat), bt184.2.1.extract ((rd bt184.1 1) : Int).toNat ((wrap64 ((rd bt184.1 1) + (rd bt184.1 2))) : Int).toNat⟩ : S59)]) ((x5.extract 0 ((rd bt184.1 0) : Int).toNat) ++ (bt184.2.1.extract 0 ((rd bt184.1 1) : Int).toNat)) (bt184.2.1.extract ((wrap64 ((rd bt184.1 1) + (rd bt184.1 2))) : Int).toNat bt184.2.1.size)) else (none)) else (none)) else (none)) else (none)) else (none)) else (none)) else (none)) else (none)) else (none))) else (none)) else (none))) else (none)) else (some (([] : List (S59)), 8))))
def moultref8_Read.f (k : Nat) (a0 : ByteArray) : Option ((List (S59)) × Int) := moultref8_Read.l0 k a0 ([] : List (S59)) (⟨#[]⟩ : ByteArray) a0
theorem moultref8_Read.mono_l : ∀ k, (∀ y0 y1 y2 y3, LeO (moultref8_Read.l0 k y0 y1 y2 y3) (moultref8_Read.l0 (k + 1) y0 y1 y2 y3))
  | 0 => fun _ _ _ _ r h => by simp [moultref8_Read.l0] at h
  | k + 1 => by
    have ih0 := moultref8_Read.mono_l k
    · intro y0 y1 y2 y3
      unfold moultref8_Read.l0
      repeat' first
      | (with_reducible exact ih0 _ _ _ _)
      | (with_reducible exact moultref8_Build.mono _ _)
      | (with_reducible exact moultref8_three.mono _ _)
      | (with_reducible exact LeO.refl _)
      | (with_reducible exact LeO.none _)
      | (with_reducible refine LeO.ite ?_ ?_)
      | (with_reducible refine LeO.bind ?_ (fun _ => ?_))
      | exact ih0 _ _ _ _
      | exact moultref8_Build.mono _ _
      | exact moultref8_three.mono _ _
      | exact LeO.none _
      | refine LeO.ite ?_ ?_
      | refine LeO.bind ?_ (fun _ => ?_)
theorem moultref8_Read.mono : ∀ a0 k, LeO (moultref8_Read.f k a0) (moultref8_Read.f (k + 1) a0) := by
  intro a0 k
  have ih0 := moultref8_Read.mono_l k
  unfold moultref8_Read.f
  repeat' first
      | (with_reducible exact ih0 _ _ _ _)
      | (with_reducible exact moultref8_Build.mono _ _)
      | (with_reducible exact moultref8_three.mono _ _)
      | (with_reducible exact LeO.refl _)
      | (with_reducible exact LeO.none _)
      | (with_reducible refine LeO.ite ?_ ?_)
      | (with_reducible refine LeO.bind ?_ (fun _ => ?_))
      | exact ih0 _ _ _ _
      | exact moultref8_Build.mono _ _
      | exact moultref8_three.mono _ _
      | exact LeO.none _
      | refine LeO.ite ?_ ?_
      | refine LeO.bind ?_ (fun _ => ?_)
end Go.Proofs.Ytbhainkcdkgbbaa.P

end
section
namespace Go.Proofs.Ytbhainkcdkgbbaa.P
open Go.RowKit Go.Proofs.Ytbhainkcdkgbbaa.Vp Go.Proofs.Ytbhainkcdkgbbaa.Sl Go.Proofs.YtbhainkcdkgbbaaW.PrintWords Go.Proofs.YtbhainkcdkgbbaaW.PrintLast Go.Proofs.YtbhainkcdkgbbaaW.PrintMore
attribute [local go_sem] str_gtr str_leq str_geq max2_int min2_int max_two min_two max_three min_three max_four min_four
set_option linter.unusedVariables false
set_option linter.unusedSimpArgs false
def moultref8_Find.l0 : Nat → ByteArray → List (S59) → Int → Int → Option (ByteArray × Bool × Int)
  | 0, _, _, _, _ => none
  | k + 1, x1, x7, x8, x9 => if x9 < (x7.length : Int) then (if 0 ≤ x9 then (if ((rd_T59 x7 x9).f0).toList = x1.toList then (some ((rd_T59 x7 x9).f1, true, 0)) else (moultref8_Find.l0 k x1 x7 x8 (wrap64 (x9 + 1)))) else (none)) else (some ((⟨#[]⟩ : ByteArray), false, x8))
def moultref8_Find.f (k : Nat) (a0 : ByteArray) (a1 : ByteArray) : Option (ByteArray × Bool × Int) := (moultref8_Read.f k a0).bind fun bt203 => (moultref8_Find.l0 k a1 bt203.1 bt203.2 0)
theorem moultref8_Find.mono_l : ∀ k, (∀ y0 y1 y2 y3, LeO (moultref8_Find.l0 k y0 y1 y2 y3) (moultref8_Find.l0 (k + 1) y0 y1 y2 y3))
  | 0 => fun _ _ _ _ r h => by simp [moultref8_Find.l0] at h
  | k + 1 => by
    have ih0 := moultref8_Find.mono_l k
    · intro y0 y1 y2 y3
      unfold moultref8_Find.l0
      repeat' first
      | (with_reducible exact ih0 _ _ _ _)
      | (with_reducible exact moultref8_Read.mono _ _)
      | (with_reducible exact LeO.refl _)
      | (with_reducible exact LeO.none _)
      | (with_reducible refine LeO.ite ?_ ?_)
      | (with_reducible refine LeO.bind ?_ (fun _ => ?_))
      | exact ih0 _ _ _ _
      | exact moultref8_Read.mono _ _
      | exact LeO.none _
      | refine LeO.ite ?_ ?_
      | refine LeO.bind ?_ (fun _ => ?_)
theorem moultref8_Find.mono : ∀ a0 a1 k, LeO (moultref8_Find.f k a0 a1) (moultref8_Find.f (k + 1) a0 a1) := by
  intro a0 a1 k
  have ih0 := moultref8_Find.mono_l k
  unfold moultref8_Find.f
  repeat' first
      | (with_reducible exact ih0 _ _ _ _)
      | (with_reducible exact moultref8_Read.mono _ _)
      | (with_reducible exact LeO.refl _)
      | (with_reducible exact LeO.none _)
      | (with_reducible refine LeO.ite ?_ ?_)
      | (with_reducible refine LeO.bind ?_ (fun _ => ?_))
      | exact ih0 _ _ _ _
      | exact moultref8_Read.mono _ _
      | exact LeO.none _
      | refine LeO.ite ?_ ?_
      | refine LeO.bind ?_ (fun _ => ?_)
def moultref8_Between.l0 : Nat → ByteArray → ByteArray → List (S59) → Int → List (S59) → Int → Option ((List (S59)) × Int)
  | 0, _, _, _, _, _, _ => none
  | k + 1, x1, x2, x8, x9, x10, x11 => if x11 < (x8.length : Int) then (if 0 ≤ x11 then ((moultref1_Bytes.f k ((rd_T59 x8 x11).f0) x1).bind fun t214 => (if t214 ≥ 0 then (if x2.toList = ([] : List UInt8) then (if x10.length < 4398046511104 then (moultref8_Between.l0 k x1 x2 x8 x9 (x10 ++ [(⟨(rd_T59 x8 x11).f0, (rd_T59 x8 x11).f1⟩ : S59)]) (wrap64 (x11 + 1))) else (none)) else ((moultref1_Bytes.f k ((rd_T59 x8 x11).f0) x2).bind fun t220 => (if t220 < 0 then (if x10.length < 4398046511104 then (moultref8_Between.l0 k x1 x2 x8 x9 (x10 ++ [(⟨(rd_T59 x8 x11).f0, (rd_T59 x8 x11).f1⟩ : S59)]) (wrap64 (x11 + 1))) else (none)) else (moultref8_Between.l0 k x1 x2 x8 x9 x10 (wrap64 (x11 + 1)))))) else (moultref8_Between.l0 k x1 x2 x8 x9 x10 (wrap64 (x11 + 1))))) else (none)) else (some (x10, x9))
def moultref8_Between.f (k : Nat) (a0 : ByteArray) (a1 : ByteArray) (a2 : ByteArray) : Option ((List (S59)) × Int) := (moultref8_Read.f k a0).bind fun bt209 => (moultref8_Between.l0 k a1 a2 bt209.1 bt209.2 ([] : List (S59)) 0)
theorem moultref8_Between.mono_l : ∀ k, (∀ y0 y1 y2 y3 y4 y5, LeO (moultref8_Between.l0 k y0 y1 y2 y3 y4 y5) (moultref8_Between.l0 (k + 1) y0 y1 y2 y3 y4 y5))
  | 0 => fun _ _ _ _ _ _ r h => by simp [moultref8_Between.l0] at h
  | k + 1 => by
    have ih0 := moultref8_Between.mono_l k
    · intro y0 y1 y2 y3 y4 y5
      unfold moultref8_Between.l0
      repeat' first
      | (with_reducible exact ih0 _ _ _ _ _ _)
      | (with_reducible exact moultref1_Bytes.mono _ _ _)
      | (with_reducible exact moultref8_Read.mono _ _)
      | (with_reducible exact LeO.refl _)
      | (with_reducible exact LeO.none _)
      | (with_reducible refine LeO.ite ?_ ?_)
      | (with_reducible refine LeO.bind ?_ (fun _ => ?_))
      | exact ih0 _ _ _ _ _ _
      | exact moultref1_Bytes.mono _ _ _
      | exact moultref8_Read.mono _ _
      | exact LeO.none _
      | refine LeO.ite ?_ ?_
      | refine LeO.bind ?_ (fun _ => ?_)
theorem moultref8_Between.mono : ∀ a0 a1 a2 k, LeO (moultref8_Between.f k a0 a1 a2) (moultref8_Between.f (k + 1) a0 a1 a2) := by
  intro a0 a1 a2 k
  have ih0 := moultref8_Between.mono_l k
  unfold moultref8_Between.f
  repeat' first
      | (with_reducible exact ih0 _ _ _ _ _ _)
      | (with_reducible exact moultref1_Bytes.mono _ _ _)
      | (with_reducible exact moultref8_Read.mono _ _)
      | (with_reducible exact LeO.refl _)
      | (with_reducible exact LeO.none _)
      | (with_reducible refine LeO.ite ?_ ?_)
      | (with_reducible refine LeO.bind ?_ (fun _ => ?_))
      | exact ih0 _ _ _ _ _ _
      | exact moultref1_Bytes.mono _ _ _
      | exact moultref8_Read.mono _ _
      | exact LeO.none _
      | refine LeO.ite ?_ ?_
      | refine LeO.bind ?_ (fun _ => ?_)
def moultlaw8_alike.l0 : Nat → List (S43) → List (S59) → Int → Option (Bool)
  | 0, _, _, _ => none
  | k + 1, x0, x1, x5 => if x5 < (x0.length : Int) then (if 0 ≤ x5 then (if x5 < (x1.length : Int) then (if ((rd_T43 x0 x5).f0).toList = ((rd_T59 x1 x5).f0).toList then (if ((rd_T43 x0 x5).f1).toList = ((rd_T59 x1 x5).f1).toList then (moultlaw8_alike.l0 k x0 x1 (wrap64 (x5 + 1))) else (some false)) else (some false)) else (none)) else (none)) else (some true)
def moultlaw8_alike.f (k : Nat) (l0 : List (S43)) (l1 : List (S59)) : Option (Bool) := if (l0.length : Int) = (l1.length : Int) then (moultlaw8_alike.l0 k l0 l1 0) else (some false)
theorem moultlaw8_alike.mono_l : ∀ k, (∀ y0 y1 y2, LeO (moultlaw8_alike.l0 k y0 y1 y2) (moultlaw8_alike.l0 (k + 1) y0 y1 y2))
  | 0 => fun _ _ _ r h => by simp [moultlaw8_alike.l0] at h
  | k + 1 => by
    have ih0 := moultlaw8_alike.mono_l k
    · intro y0 y1 y2
      unfold moultlaw8_alike.l0
      repeat' first
      | (with_reducible exact ih0 _ _ _)
      | (with_reducible exact LeO.refl _)
      | (with_reducible exact LeO.none _)
      | (with_reducible refine LeO.ite ?_ ?_)
      | (with_reducible refine LeO.bind ?_ (fun _ => ?_))
      | exact ih0 _ _ _
      | exact LeO.none _
      | refine LeO.ite ?_ ?_
      | refine LeO.bind ?_ (fun _ => ?_)
theorem moultlaw8_alike.mono : ∀ a0 a1 k, LeO (moultlaw8_alike.f k a0 a1) (moultlaw8_alike.f (k + 1) a0 a1) := by
  intro a0 a1 k
  have ih0 := moultlaw8_alike.mono_l k
  unfold moultlaw8_alike.f
  repeat' first
      | (with_reducible exact ih0 _ _ _)
      | (with_reducible exact LeO.refl _)
      | (with_reducible exact LeO.none _)
      | (with_reducible refine LeO.ite ?_ ?_)
      | (with_reducible refine LeO.bind ?_ (fun _ => ?_))
      | exact ih0 _ _ _
      | exact LeO.none _
      | refine LeO.ite ?_ ?_
      | refine LeO.bind ?_ (fun _ => ?_)
set_option maxHeartbeats 8000000 in
set_option maxRecDepth 100000 in
theorem moultlaw8_alike.calls (k : Nat) (A0 : Option Addr) (c0 : Nat) (l0 : List (S43)) (A1 : Option Addr) (c1 : Nat) (l1 : List (S59)) (r : Bool) (w : World) (hr0 : Kd.C k43 w A0 l0.length l0) (hc0 : l0.length ≤ c0) (hr1 : Kd.C k59 w A1 l1.length l1) (hc1 : l1.length ≤ c1) (h : moultlaw8_alike.f k l0 l1 = some r) :
    Calls Try.prog 16 #[.slice A0 l0.length c0, .slice A1 l1.length c1] w fun e w' => e = .returned (.bool r) ∧ Drawn0 w w' := by
  have HR0 := Aside0.mk hr0
  have HC0 := Aside0.mk hc0
  clear hr0 hc0
  have HR1 := Aside0.mk hr1
  have HC1 := Aside0.mk hc1
  clear hr1 hc1
  have H : (if (l0.length : Int) = (l1.length : Int) then (moultlaw8_alike.l0 k l0 l1 0) else (some false)) = some r := h
  clear h
  by_cases c3 : (l0.length : Int) = (l1.length : Int)
  · rw [if_pos c3] at H
    have c3b0 : ((l0.length : Int) == (l1.length : Int)) = true := beq_iff_eq.mpr c3
    have c3b1 : ((l0.length : Int) != (l1.length : Int)) = false := bne_eq_false_iff_eq.mpr c3
    have c3b2 : (l0.length == l1.length) = true := by first | simpa using c3 | (simp at c3 ⊢; omega)
    clear c3
    have H' := Aside0.mk H
    clear H
    go_enter Try.func16, Try.ntmps16
    go_wp2
    repeat (go_quiet (fail); try go_wp2)
    go_loopg [5] k (fun kq v5 w' => ∃ (x5_1 : Int), v5 = .int .i64 x5_1 ∧ Aside0 (moultlaw8_alike.l0 kq l0 l1 x5_1 = some r) ∧ Aside0 (kq ≤ k) ∧ Drawn0 w w')
    case atStart => exact ⟨(0), (by first | rfl | (simp; done) | (simp [*]; done)), H', ⟨Nat.le_refl _⟩, by repeat (first | exact Drawn0.refl _ | apply Drawn0.step)⟩
    case round =>
      clear H'
      try clear c1
      try clear p2
      try clear c3
      try clear c3b0
      try clear c3b1
      try clear c3b2
      obtain ⟨x5_1, rfl, HA, HK1, ⟨m1, rfl⟩⟩ := hrel
      cases gk with
      | zero => exact absurd HA.out (by simp [moultlaw8_alike.l0])
      | succ k1 =>
        have H := HA.out
        clear HA
        simp only [moultlaw8_alike.l0] at H
        by_cases c4 : x5_1 < (l0.length : Int)
        · rw [if_pos c4] at H
          have c4b0 : decide (x5_1 < (l0.length : Int)) = true := decide_eq_true c4
          clear c4
          by_cases c5 : 0 ≤ x5_1
          · rw [if_pos c5] at H
            have c5b0 : decide (0 ≤ x5_1) = true := decide_eq_true c5
            clear c5
            by_cases c6 : x5_1 < (l1.length : Int)
            · rw [if_pos c6] at H
              have c6b0 : decide (x5_1 < (l1.length : Int)) = true := decide_eq_true c6
              clear c6
              by_cases c7 : ((rd_T43 l0 x5_1).f0).toList = ((rd_T59 l1 x5_1).f0).toList
              · rw [if_pos c7] at H
                have c7b0 : (((rd_T43 l0 x5_1).f0).toList == ((rd_T59 l1 x5_1).f0).toList) = true := beq_iff_eq.mpr c7
                have c7b1 : (((rd_T43 l0 x5_1).f0).toList != ((rd_T59 l1 x5_1).f0).toList) = false := bne_eq_false_iff_eq.mpr c7
                clear c7
                by_cases c8 : ((rd_T43 l0 x5_1).f1).toList = ((rd_T59 l1 x5_1).f1).toList
                · rw [if_pos c8] at H
                  have c8b0 : (((rd_T43 l0 x5_1).f1).toList == ((rd_T59 l1 x5_1).f1).toList) = true := beq_iff_eq.mpr c8
                  have c8b1 : (((rd_T43 l0 x5_1).f1).toList != ((rd_T59 l1 x5_1).f1).toList) = false := bne_eq_false_iff_eq.mpr c8
                  clear c8
                  have H' := Aside0.mk H
                  clear H
                  have p225 : 0 ≤ (x5_1 : Int) := of_decide_eq_true (by first | (with_reducible assumption) | assumption)
                  have q225 : x5_1 < (l0.length : Int) := of_decide_eq_true (by first | (with_reducible assumption) | assumption)
                  obtain ⟨ad225, e225, hx225_0, hx225_1⟩ := at_T43 HR0.out x5_1 p225 q225
                  cases e225
                  replace p225 := eq_true p225
                  replace q225 := eq_true q225
                  have p226 : 0 ≤ (x5_1 : Int) := of_decide_eq_true (by first | (with_reducible assumption) | assumption)
                  have q226 : x5_1 < (l1.length : Int) := of_decide_eq_true (by first | (with_reducible assumption) | assumption)
                  obtain ⟨ad226, e226, hx226_0, hx226_1⟩ := at_T59 HR1.out x5_1 p226 q226
                  cases e226
                  replace p226 := eq_true p226
                  replace q226 := eq_true q226
                  have p227 : 0 ≤ (x5_1 : Int) := of_decide_eq_true (by first | (with_reducible assumption) | assumption)
                  have q227 : x5_1 < (l0.length : Int) := of_decide_eq_true (by first | (with_reducible assumption) | assumption)
                  obtain ⟨ad227, e227, hx227_0, hx227_1⟩ := at_T43 HR0.out x5_1 p227 q227
                  obtain rfl : ad225 = ad227 := (by injection e227)
                  replace p227 := eq_true p227
                  replace q227 := eq_true q227
                  have p228 : 0 ≤ (x5_1 : Int) := of_decide_eq_true (by first | (with_reducible assumption) | assumption)
                  have q228 : x5_1 < (l1.length : Int) := of_decide_eq_true (by first | (with_reducible assumption) | assumption)
                  obtain ⟨ad228, e228, hx228_0, hx228_1⟩ := at_T59 HR1.out x5_1 p228 q228
                  obtain rfl : ad226 = ad228 := (by injection e228)
                  replace p228 := eq_true p228
                  replace q228 := eq_true q228
                  go_wp2
                  repeat (go_quiet (fail); try go_wp2)
                  go_roundg k1
                  case measure => have := HK1.out; omega
                  case rel => exact ⟨(wrap64 (x5_1 + 1)), (by first | rfl | (simp; done) | (simp [*]; done)), H', ⟨by have := HK1.out; omega⟩, by repeat (first | exact Drawn0.refl _ | apply Drawn0.step)⟩
                · rw [if_neg c8] at H
                  have c8b0 : (((rd_T43 l0 x5_1).f1).toList == ((rd_T59 l1 x5_1).f1).toList) = false := beq_eq_false_iff_ne.mpr c8
                  have c8b1 : (((rd_T43 l0 x5_1).f1).toList != ((rd_T59 l1 x5_1).f1).toList) = true := bne_iff_ne.mpr c8
                  obtain rfl := Option.some.inj H
                  have p225 : 0 ≤ (x5_1 : Int) := of_decide_eq_true (by first | (with_reducible assumption) | assumption)
                  have q225 : x5_1 < (l0.length : Int) := of_decide_eq_true (by first | (with_reducible assumption) | assumption)
                  obtain ⟨ad225, e225, hx225_0, hx225_1⟩ := at_T43 HR0.out x5_1 p225 q225
                  cases e225
                  replace p225 := eq_true p225
                  replace q225 := eq_true q225
                  have p226 : 0 ≤ (x5_1 : Int) := of_decide_eq_true (by first | (with_reducible assumption) | assumption)
                  have q226 : x5_1 < (l1.length : Int) := of_decide_eq_true (by first | (with_reducible assumption) | assumption)
                  obtain ⟨ad226, e226, hx226_0, hx226_1⟩ := at_T59 HR1.out x5_1 p226 q226
                  cases e226
                  replace p226 := eq_true p226
                  replace q226 := eq_true q226
                  have p227 : 0 ≤ (x5_1 : Int) := of_decide_eq_true (by first | (with_reducible assumption) | assumption)
                  have q227 : x5_1 < (l0.length : Int) := of_decide_eq_true (by first | (with_reducible assumption) | assumption)
                  obtain ⟨ad227, e227, hx227_0, hx227_1⟩ := at_T43 HR0.out x5_1 p227 q227
                  obtain rfl : ad225 = ad227 := (by injection e227)
                  replace p227 := eq_true p227
                  replace q227 := eq_true q227
                  have p228 : 0 ≤ (x5_1 : Int) := of_decide_eq_true (by first | (with_reducible assumption) | assumption)
                  have q228 : x5_1 < (l1.length : Int) := of_decide_eq_true (by first | (with_reducible assumption) | assumption)
                  obtain ⟨ad228, e228, hx228_0, hx228_1⟩ := at_T59 HR1.out x5_1 p228 q228
                  obtain rfl : ad226 = ad228 := (by injection e228)
                  replace p228 := eq_true p228
                  replace q228 := eq_true q228
                  go_wp2
                  repeat (go_quiet (fail); try go_wp2)
                  all_goals go_ret
                  all_goals exact ⟨by first | rfl | (simp; done) | (simp [*]; done), by repeat (first | exact Drawn0.refl _ | apply Drawn0.step)⟩
              · rw [if_neg c7] at H
                have c7b0 : (((rd_T43 l0 x5_1).f0).toList == ((rd_T59 l1 x5_1).f0).toList) = false := beq_eq_false_iff_ne.mpr c7
                have c7b1 : (((rd_T43 l0 x5_1).f0).toList != ((rd_T59 l1 x5_1).f0).toList) = true := bne_iff_ne.mpr c7
                obtain rfl := Option.some.inj H
                have p225 : 0 ≤ (x5_1 : Int) := of_decide_eq_true (by first | (with_reducible assumption) | assumption)
                have q225 : x5_1 < (l0.length : Int) := of_decide_eq_true (by first | (with_reducible assumption) | assumption)
                obtain ⟨ad225, e225, hx225_0, hx225_1⟩ := at_T43 HR0.out x5_1 p225 q225
                cases e225
                replace p225 := eq_true p225
                replace q225 := eq_true q225
                have p226 : 0 ≤ (x5_1 : Int) := of_decide_eq_true (by first | (with_reducible assumption) | assumption)
                have q226 : x5_1 < (l1.length : Int) := of_decide_eq_true (by first | (with_reducible assumption) | assumption)
                obtain ⟨ad226, e226, hx226_0, hx226_1⟩ := at_T59 HR1.out x5_1 p226 q226
                cases e226
                replace p226 := eq_true p226
                replace q226 := eq_true q226
                go_wp2
                repeat (go_quiet (fail); try go_wp2)
                all_goals go_ret
                all_goals exact ⟨by first | rfl | (simp; done) | (simp [*]; done), by repeat (first | exact Drawn0.refl _ | apply Drawn0.step)⟩
            · rw [if_neg c6] at H
              exact absurd H (by simp)
          · rw [if_neg c5] at H
            exact absurd H (by simp)
        · rw [if_neg c4] at H
          have c4b0 : decide (x5_1 < (l0.length : Int)) = false := decide_eq_false c4
          clear c4
          obtain rfl := Option.some.inj H
          go_wp2
          repeat (go_quiet (fail); try go_wp2)
          all_goals go_ret
          all_goals exact ⟨by first | rfl | (simp; done) | (simp [*]; done), by repeat (first | exact Drawn0.refl _ | apply Drawn0.step)⟩
  · rw [if_neg c3] at H
    have c3b0 : ((l0.length : Int) == (l1.length : Int)) = false := beq_eq_false_iff_ne.mpr c3
    have c3b1 : ((l0.length : Int) != (l1.length : Int)) = true := bne_iff_ne.mpr c3
    have c3b2 : (l0.length == l1.length) = false := by first | simpa using c3 | (simp at c3 ⊢; omega)
    obtain rfl := Option.some.inj H
    go_enter Try.func16, Try.ntmps16
    go_wp2
    repeat (go_quiet (fail); try go_wp2)
    all_goals go_ret
    all_goals exact ⟨by first | rfl | (simp; done) | (simp [*]; done), by repeat (first | exact Drawn0.refl _ | apply Drawn0.step)⟩
def moultlaw8_BlockReads.j0 : Nat → ByteArray → ByteArray → ByteArray → ByteArray → Bool → Bool → Option (Bool)
  | 0, _, _, _, _, _, _ => none
  | k + 1, x0, x1, x2, x3, x9, x46 => if x46 = true then (some x9) else ((block_Read.f k x0).bind fun bt230 => ((moultref8_Read.f k x0).bind fun bt234 => ((block_Find.f k x0 x1).bind fun bt238 => ((moultref8_Find.f k x0 x1).bind fun bt241 => ((block_Between.f k x0 x2 x3).bind fun bt244 => ((moultref8_Between.f k x0 x2 x3).bind fun bt248 => ((moultlaw8_alike.f k bt230.1 bt234.1).bind fun t252 => (if t252 = true then (if bt230.2 = bt234.2 then (if bt238.1.toList = bt241.1.toList then (if (bt238.2.1 == bt241.2.1) = true then (if bt238.2.2 = bt241.2.2 then ((moultlaw8_alike.f k bt244.1 bt248.1).bind fun t253 => (if t253 = true then (some (bt244.2 == bt248.2)) else (some false))) else (some false)) else (some false)) else (some false)) else (some false)) else (some false)))))))))
def moultlaw8_BlockReads.f (k : Nat) (a0 : ByteArray) (a1 : ByteArray) (a2 : ByteArray) (a3 : ByteArray) : Option (Bool) := (moultlaw8_shown.f k).bind fun t229 => (if t229 = true then (if (a0.size : Int) > 3000 then (moultlaw8_BlockReads.j0 k a0 a1 a2 a3 t229 true) else (if (a1.size : Int) > 300 then (moultlaw8_BlockReads.j0 k a0 a1 a2 a3 t229 true) else (if (a2.size : Int) > 300 then (moultlaw8_BlockReads.j0 k a0 a1 a2 a3 t229 true) else (moultlaw8_BlockReads.j0 k a0 a1 a2 a3 t229 (decide ((a3.size : Int) > 300)))))) else (moultlaw8_BlockReads.j0 k a0 a1 a2 a3 t229 true))
theorem moultlaw8_BlockReads.mono_l : ∀ k, (∀ y0 y1 y2 y3 y4 y5, LeO (moultlaw8_BlockReads.j0 k y0 y1 y2 y3 y4 y5) (moultlaw8_BlockReads.j0 (k + 1) y0 y1 y2 y3 y4 y5))
  | 0 => fun _ _ _ _ _ _ r h => by simp [moultlaw8_BlockReads.j0] at h
  | k + 1 => by
    have ih0 := moultlaw8_BlockReads.mono_l k
    · intro y0 y1 y2 y3 y4 y5
      unfold moultlaw8_BlockReads.j0
      repeat' first
      | (with_reducible exact ih0 _ _ _ _ _ _)
      | (with_reducible exact block_Between.mono _ _ _ _)
      | (with_reducible exact block_Find.mono _ _ _)
      | (with_reducible exact block_Read.mono _ _)
      | (with_reducible exact moultlaw8_alike.mono _ _ _)
      | (with_reducible exact moultlaw8_shown.mono _)
      | (with_reducible exact moultref8_Between.mono _ _ _ _)
      | (with_reducible exact moultref8_Find.mono _ _ _)
      | (with_reducible exact moultref8_Read.mono _ _)
      | (with_reducible exact LeO.refl _)
      | (with_reducible exact LeO.none _)
      | (with_reducible refine LeO.ite ?_ ?_)
      | (with_reducible refine LeO.bind ?_ (fun _ => ?_))
      | exact ih0 _ _ _ _ _ _
      | exact block_Between.mono _ _ _ _
      | exact block_Find.mono _ _ _
      | exact block_Read.mono _ _
      | exact moultlaw8_alike.mono _ _ _
      | exact moultlaw8_shown.mono _
      | exact moultref8_Between.mono _ _ _ _
      | exact moultref8_Find.mono _ _ _
      | exact moultref8_Read.mono _ _
      | exact LeO.none _
      | refine LeO.ite ?_ ?_
      | refine LeO.bind ?_ (fun _ => ?_)
theorem moultlaw8_BlockReads.mono : ∀ a0 a1 a2 a3 k, LeO (moultlaw8_BlockReads.f k a0 a1 a2 a3) (moultlaw8_BlockReads.f (k + 1) a0 a1 a2 a3) := by
  intro a0 a1 a2 a3 k
  have ih0 := moultlaw8_BlockReads.mono_l k
  unfold moultlaw8_BlockReads.f
  repeat' first
      | (with_reducible exact ih0 _ _ _ _ _ _)
      | (with_reducible exact block_Between.mono _ _ _ _)
      | (with_reducible exact block_Find.mono _ _ _)
      | (with_reducible exact block_Read.mono _ _)
      | (with_reducible exact moultlaw8_alike.mono _ _ _)
      | (with_reducible exact moultlaw8_shown.mono _)
      | (with_reducible exact moultref8_Between.mono _ _ _ _)
      | (with_reducible exact moultref8_Find.mono _ _ _)
      | (with_reducible exact moultref8_Read.mono _ _)
      | (with_reducible exact LeO.refl _)
      | (with_reducible exact LeO.none _)
      | (with_reducible refine LeO.ite ?_ ?_)
      | (with_reducible refine LeO.bind ?_ (fun _ => ?_))
      | exact ih0 _ _ _ _ _ _
      | exact block_Between.mono _ _ _ _
      | exact block_Find.mono _ _ _
      | exact block_Read.mono _ _
      | exact moultlaw8_alike.mono _ _ _
      | exact moultlaw8_shown.mono _
      | exact moultref8_Between.mono _ _ _ _
      | exact moultref8_Find.mono _ _ _
      | exact moultref8_Read.mono _ _
      | exact LeO.none _
      | refine LeO.ite ?_ ?_
      | refine LeO.bind ?_ (fun _ => ?_)
end Go.Proofs.Ytbhainkcdkgbbaa.P

end
section
set_option linter.unusedVariables false
set_option linter.unusedSimpArgs false
namespace Go.Proofs.Ytbhainkcdkgbbaa.Pure
open Go.RowKit Go.Proofs.Ytbhainkcdkgbbaa.P Go.Proofs.Ytbhainkcdkgbbaa.Vp Go.Proofs.Ytbhainkcdkgbbaa.Sl Go.Proofs.YtbhainkcdkgbbaaW.PrintWords Go.Proofs.YtbhainkcdkgbbaaW.PrintLast Go.Proofs.YtbhainkcdkgbbaaW.PrintMore
theorem rdR_get (l : List Ra) (i : Nat) (h : i < l.length) : rd_T59 l (i : Int) = l[i] := by
  simp [rd_T59, List.getD_eq_getElem?_getD, h]
theorem rdR_map (l : List Pa) (i : Nat) (h : i < l.length) : rd_T59 (l.map toR) (i : Int) = toR l[i] := by
  rw [rdR_get _ i (by rw [List.length_map]; exact h), List.getElem_map]
theorem cmp_less : ∀ a b : List UInt8, cmpL (a.map fun x => (x.toNat : Int)) (b.map fun x => (x.toNat : Int)) < 0 ↔ Op.bytesLess a b = true
  | [], [] => by simp [cmpL, Op.bytesLess]
  | [], y :: b => by simp [cmpL, Op.bytesLess]
  | x :: a, [] => by simp [cmpL, Op.bytesLess]
  | x :: a, y :: b => by
    have ih := cmp_less a b
    simp only [List.map_cons, cmpL, Op.bytesLess, Bool.or_eq_true, Bool.and_eq_true, decide_eq_true_eq, beq_iff_eq]
    have h1 : (x < y) ↔ x.toNat < y.toNat := UInt8.lt_iff_toNat_lt
    by_cases c : (x.toNat : Int) < (y.toNat : Int)
    · rw [if_pos c]
      exact ⟨fun _ => .inl (h1.2 (by omega)), fun _ => by omega⟩
    · rw [if_neg c]
      by_cases c2 : (x.toNat : Int) > (y.toNat : Int)
      · rw [if_pos c2]
        refine ⟨fun h => by omega, ?_⟩
        rintro (h | ⟨rfl, _⟩)
        · have := h1.1 h; omega
        · omega
      · rw [if_neg c2, ih]
        have e : x = y := UInt8.toNat_inj.1 (by omega)
        subst e
        refine ⟨fun h => .inr ⟨rfl, h⟩, ?_⟩
        rintro (h | ⟨_, h⟩)
        · have := h1.1 h; omega
        · exact h
theorem cmp_bytes (s t : ByteArray) : cmpL (bytesOf s) (bytesOf t) < 0 ↔ Op.bytesLess s.toList t.toList = true := by
  rw [ba_tl, ba_tl]; exact cmp_less _ _
theorem rises_l0 (l : List Pa) (hl : l.length ≤ 100000) (hz : ∀ p ∈ l, p.f0.size ≤ 1000000) : ∀ (d i k : Nat), i + d = l.length → 1 ≤ i → 3000000 + d < k →
    ∃ b : Bool, moultref8_Rises.l0 k (l.map toR) (i : Int) = some b ∧ (b = true ↔ ∀ j, j + 1 < l.length → i ≤ j + 1 → Op.bytesLess (keyA l j).toList (keyA l (j + 1)).toList = true) := by
  intro d
  induction d with
  | zero =>
    intro i k hi h1 hk
    obtain ⟨k, rfl⟩ : ∃ m, k = m + 1 := ⟨k - 1, by omega⟩
    rw [moultref8_Rises.l0, List.length_map, if_neg (by omega)]
    exact ⟨true, rfl, fun _ j h2 h3 => by omega, fun _ => rfl⟩
  | succ d ih =>
    intro i k hi h1 hk
    obtain ⟨k, rfl⟩ : ∃ m, k = m + 1 := ⟨k - 1, by omega⟩
    have w1 : wrap64 ((i : Int) - 1) = ((i - 1 : Nat) : Int) := by unfold wrap64; omega
    have w2 : wrap64 ((i : Int) + 1) = ((i + 1 : Nat) : Int) := by unfold wrap64; omega
    rw [moultref8_Rises.l0, List.length_map, if_pos (by omega), w1, if_pos (by omega), if_pos (by omega), if_pos (by omega), rdR_map l (i - 1) (by omega), rdR_map l i (by omega)]
    have z1 := hz _ (List.getElem_mem (show i - 1 < l.length by omega))
    have z2 := hz _ (List.getElem_mem (show i < l.length by omega))
    have hb : moultref1_Bytes.f k (toR l[i - 1]).f0 (toR l[i]).f0 = some (cmpL (bytesOf (toR l[i - 1]).f0) (bytesOf (toR l[i]).f0)) := bytes_f _ _ (by simp only [toR]; omega) (by simp only [toR]; omega) k (by simp only [toR]; omega)
    rw [hb, Option.bind_some]
    have hc := cmp_bytes (toR l[i - 1]).f0 (toR l[i]).f0
    have hk1 : keyA l (i - 1) = (toR l[i - 1]).f0 := by unfold keyA; rw [rd_get l (i - 1) (by omega)]; rfl
    have hk2 : keyA l i = (toR l[i]).f0 := by unfold keyA; rw [rd_get l i (by omega)]; rfl
    by_cases c : Op.bytesLess (toR l[i - 1]).f0.toList (toR l[i]).f0.toList = true
    · obtain ⟨b, g1, g2⟩ := ih (i + 1) k (by omega) (by omega) (by omega)
      have hneg := hc.2 c
      rw [if_neg (by omega), w2]
      refine ⟨b, g1, g2.trans ?_⟩
      constructor
      · intro h j h2 h3
        by_cases e : i + 1 ≤ j + 1
        · exact h j h2 e
        · obtain rfl : j = i - 1 := by omega
          rw [show i - 1 + 1 = i by omega, hk1, hk2]; exact c
      · intro h j h2 h3; exact h j h2 (by omega)
    · have hpos : ¬ cmpL (bytesOf (toR l[i - 1]).f0) (bytesOf (toR l[i]).f0) < 0 := fun h => c (hc.1 h)
      rw [if_pos (by omega)]
      refine ⟨false, rfl, fun h => (by cases h), fun h => ?_⟩
      have := h (i - 1) (by omega) (by omega)
      rw [show i - 1 + 1 = i by omega, hk1, hk2] at this
      exact absurd this c
theorem rrises_f (l : List Pa) (hl : l.length ≤ 100000) (hz : ∀ p ∈ l, p.f0.size ≤ 1000000) (k : Nat) (hk : 3200000 < k) : moultref8_Rises.f k (l.map toR) = some (risesB l) := by
  unfold moultref8_Rises.f
  cases l with
  | nil =>
    obtain ⟨k, rfl⟩ : ∃ m, k = m + 1 := ⟨k - 1, by omega⟩
    rw [moultref8_Rises.l0, if_neg (by simp)]
    rfl
  | cons p l =>
    obtain ⟨b, g1, g2⟩ := rises_l0 (p :: l) hl hz ((p :: l).length - 1) 1 k (by simp; omega) (by omega) (by omega)
    rw [show ((1 : Nat) : Int) = 1 from rfl] at g1
    rw [g1]
    congr 1
    rw [Bool.eq_iff_iff, risesB_iff, g2]
    exact ⟨fun h j h1 => h j h1 (by omega), fun h j h1 _ => h j h1⟩
theorem encR_map (l : List Pa) : ∀ m, m ≤ l.length → encRTo (l.map toR) m = encTo l m
  | 0, _ => by simp [encRTo, encTo]
  | m + 1, h => by
    rw [encRTo_succ, encTo_succ, encR_map l m (by omega)]
    have hk : ∀ i, i < l.length → keyR (l.map toR) i = keyA l i := fun i hi => by unfold keyR keyA; rw [rdR_map l i hi, rd_get l i hi]; rfl
    have hv : valR (l.map toR) m = valA l m := by unfold valR valA; rw [rdR_map l m (by omega), rd_get l m (by omega)]; rfl
    have hla : lastR (l.map toR) m = lastA l m := by
      cases m with
      | zero => rfl
      | succ j => exact hk j (by omega)
    rw [hk m (by omega), hv, hla]
theorem rbuild_f {l : List Pa} (h : smallP l) (k : Nat) (hk : 3200000 < k) : moultref8_Build.f k (l.map toR) = some (buildP l) := by
  unfold moultref8_Build.f
  have hz : ∀ p ∈ l, p.f0.size ≤ 1000000 := by
    intro p hp
    obtain ⟨i, hi, rfl⟩ := List.mem_iff_getElem.1 hp
    have := (h.2 i hi).1
    unfold keyA at this
    rw [rd_get l i hi] at this
    exact this
  rw [rrises_f l h.1 hz k hk, Option.bind_some]
  have hs : smallR (l.map toR) := by
    refine ⟨by rw [List.length_map]; exact h.1, fun i hi => ?_⟩
    rw [List.length_map] at hi
    have := h.2 i hi
    unfold keyA valA at this
    unfold keyR valR
    rw [rdR_map l i hi]
    rw [rd_get l i hi] at this
    exact this
  unfold buildP
  by_cases c : risesB l = true
  · rw [if_pos c, if_pos c, if_pos hs]
    unfold rbuildP
    rw [List.length_map, encR_map l l.length (Nat.le_refl _)]
  · rw [if_neg c, if_neg c]
end Go.Proofs.Ytbhainkcdkgbbaa.Pure

end
section
set_option linter.unusedVariables false
set_option linter.unusedSimpArgs false
namespace Go.Proofs.Ytbhainkcdkgbbaa.Pure
open Go.RowKit Go.Proofs.Ytbhainkcdkgbbaa.P Go.Proofs.Ytbhainkcdkgbbaa.Vp Go.Proofs.Ytbhainkcdkgbbaa.Sl Go.Proofs.YtbhainkcdkgbbaaW.PrintWords Go.Proofs.YtbhainkcdkgbbaaW.PrintLast Go.Proofs.YtbhainkcdkgbbaaW.PrintMore
theorem alike_l0 (l : List Pa) (hl : l.length ≤ 1000000) : ∀ (d i k : Nat), i + d = l.length → d < k → moultlaw8_alike.l0 k l (l.map toR) (i : Int) = some true := by
  intro d
  induction d with
  | zero =>
    intro i k hi hk
    obtain ⟨k, rfl⟩ : ∃ m, k = m + 1 := ⟨k - 1, by omega⟩
    rw [moultlaw8_alike.l0, if_neg (by omega)]
  | succ d ih =>
    intro i k hi hk
    obtain ⟨k, rfl⟩ : ∃ m, k = m + 1 := ⟨k - 1, by omega⟩
    rw [moultlaw8_alike.l0, if_pos (by omega), if_pos (by omega), List.length_map, if_pos (by omega), rdR_map l i (by omega), rd_get l i (by omega), if_pos (show l[i].f0.toList = (toR l[i]).f0.toList from rfl), if_pos (show l[i].f1.toList = (toR l[i]).f1.toList from rfl), wrap_s (by omega)]
    exact ih (i + 1) k (by omega) (by omega)
theorem alike_f (l : List Pa) (hl : l.length ≤ 1000000) (k : Nat) (hk : l.length < k) : moultlaw8_alike.f k l (l.map toR) = some true := by
  unfold moultlaw8_alike.f
  rw [List.length_map, if_pos rfl]
  have := alike_l0 l hl l.length 0 k (by omega) hk
  simpa using this
end Go.Proofs.Ytbhainkcdkgbbaa.Pure

end
