import Derived.Below
import Derived.Deep.Draws
import Derived.Deep.AppendLies
import Derived.Maps.AppendAt
import Derived.OwnWalk
import Derived.Laws.BytesArg
import Derived.Laws.MakeOwn
import Derived.Laws.OwnMore
import Derived.Deep.OwnRows
import Derived.Tactics
import Derived.Lib.ConvBytes
import Derived.Laws.Slices
import Derived.WalkKit
import Derived.KernelRfl
import Derived.RowKit3
import Derived.Deep.LoopGhost
import Derived.Deep.QuietTactic
import Derived.BigQuiet
import Derived.WideLaws
import Derived.Deep.DeepCutAuto
import Derived.Deep.CutBlock
import Derived.Deep.RegionHeld3
import Derived.Laws.Rows
import Derived.Lib.AppendStr
import Derived.ArgAppend
import Derived.Laws.IdiomCopy
import Derived.RowKit
import Derived.Test.YtbhainkcdkgbbaaProg
import Derived.OrdersHeld
import Derived.Laws.BitsLemmas
import Derived.Lib.Hide
import Derived.Laws.ShiftsVar
import Derived.Laws.ShiftsVarLaws
import Derived.Laws.BitsAllLaws
import Derived.Shelf.Strings.Builder1
import Derived.Laws.Strings
import Derived.Laws.StructEq
import Derived.WalkSpells
import Derived.Outline
import Derived.RegionTactic
import Derived.Deep.RegionWith
import Derived.StillTailTactics
import Derived.Deep.RegionLaw
import Derived.Test.YtbhainkcdkgbbaaQ0
import Derived.Test.YtbhainkcdkgbbaaQ1
import Derived.Test.YtbhainkcdkgbbaaQ4
import Derived.Test.YtbhainkcdkgbbaaQ5
import Derived.Test.YtbhainkcdkgbbaaQ6
import Derived.Test.YtbhainkcdkgbbaaQ7
import Derived.Test.YtbhainkcdkgbbaaQ15
import Derived.Test.YtbhainkcdkgbbaaQ16
import Derived.Test.YtbhainkcdkgbbaaQ24
import Derived.Test.YtbhainkcdkgbbaaQ25
import Derived.Test.YtbhainkcdkgbbaaQ26
import Derived.Test.YtbhainkcdkgbbaaQ27
import Derived.Test.YtbhainkcdkgbbaaQ28
import Derived.Test.YtbhainkcdkgbbaaQ29
namespace Go.Proofs.Ytbhainkcdkgbbaa.P
end Go.Proofs.Ytbhainkcdkgbbaa.P
namespace Go.Proofs.Ytbhainkcdkgbbaa.Sl
end Go.Proofs.Ytbhainkcdkgbbaa.Sl
namespace Go.Proofs.Ytbhainkcdkgbbaa.Vp
end Go.Proofs.Ytbhainkcdkgbbaa.Vp
namespace Go.Proofs.YtbhainkcdkgbbaaW.PrintLast
end Go.Proofs.YtbhainkcdkgbbaaW.PrintLast
namespace Go.Proofs.YtbhainkcdkgbbaaW.PrintMore
end Go.Proofs.YtbhainkcdkgbbaaW.PrintMore
namespace Go.Proofs.YtbhainkcdkgbbaaW.PrintWords
end Go.Proofs.YtbhainkcdkgbbaaW.PrintWords
section
set_option linter.unusedVariables false
set_option linter.unusedSimpArgs false
namespace Go.Proofs.YtbhainkcdkgbbaaW.PrintWords
open Go.RowKit
theorem ReadsInt.at_ {w : World} {k : IntKind} {A : Option Addr} {n : Nat} {xs : List Int} (h : ReadsInt w k A n xs) (i : Int) (h0 : 0 ≤ i) (h1 : i < n) : ∃ ad, A = some ad ∧ w.cell? (ad.add i.toNat) = some (.int k (rd xs i)) := by
  obtain ⟨ad, e, hc⟩ := h.2.2 (by omega)
  exact ⟨ad, e, hc _ (by omega)⟩
section
variable {α : Type} {enc : α → Value} {d : α}
theorem ReadsOf.at_ {w : World} {A : Option Addr} {n : Nat} {xs : List α} (h : ReadsOf enc d w A n xs) (i : Int) (h0 : 0 ≤ i) (h1 : i < n) : ∃ ad, A = some ad ∧ w.cell? (ad.add i.toNat) = some (enc (rdOf d xs i)) := by
  obtain ⟨ad, e, hc⟩ := h.2.2 (by omega)
  exact ⟨ad, e, hc _ (by omega)⟩
end
namespace Kd
section
variable {α : Type} {d : Kd α} {e : Nat} {w w1 : World} {base : Nat} {ok ok' : Nat → Prop} {v : Value} {xs : List α}
theorem R_types (h : d.R e w base ok v xs) {g t : Nat} {cells : Array Value} (hb : w.heap[g]? = some (.cells cells t (0, 0))) (ht : ∀ q, q ∈ e :: d.E → q ≠ t) : d.R e w base (fun k => ok k ∧ k ≠ g) v xs :=
  R_mono (R_bound h) (fun k hk => ⟨hk.1, by
    obtain ⟨_, _, _, q, hq, cells', hc⟩ := hk
    rintro rfl
    rw [hc] at hb
    injection hb with hb
    injection hb with _ hb
    exact ht q hq hb⟩)
end
theorem reads_of_C {α : Type} {enc : α → Value} {d : α} {h1 : ∀ x, (enc x).oneCell' = true} {w : World} {A : Option Addr} {n : Nat} {xs : List α} (h : (scalar enc h1).C w A n xs) : ReadsOf enc d w A n xs := by
  refine ⟨h.1, h.2.1, fun hn => ?_⟩
  obtain ⟨ad, e, hc⟩ := h.2.2 hn
  refine ⟨ad, e, fun j hj => ?_⟩
  have hl : j < xs.length := by have := h.1; omega
  obtain ⟨c, _, hK, hcell⟩ := hc j _ (List.getElem?_eq_getElem hl)
  have hK' : c = [enc xs[j]] := hK
  subst hK'
  have := hcell 0 _ rfl
  simpa [scalar, List.getD_eq_getElem?_getD, List.getElem?_eq_getElem hl] using this
end Kd
namespace Kd
section
variable {w W : World} {A : Option Addr} {n : Nat}
theorem at_int {k : IntKind} {xs : List Int} (h : (Kd.int k).C w A n xs) (i : Int) (h0 : 0 ≤ i) (h1 : i < n) : ∃ ad, A = some ad ∧ w.cell? (ad.add i.toNat) = some (.int k (rd xs i)) :=
  ReadsOf.at_ (reads_of_C (enc := Value.int k) (d := (0 : Int)) (h1 := fun _ => rfl) h) i h0 h1
end
end Kd
theorem own_blk {W : World} {base n c : Nat} {e : TypeId} {size g : Nat} {ad : Addr} {xs : List Value} (_ : W.ownsRow base e size (.slice (some ad) n c) n xs) (hne : some g ≠ (Value.slice (some ad) n c).ownBlock) : ad.block ≠ g := by
  rintro rfl
  exact hne (by simp [Value.ownBlock])
namespace Kd
section
variable {α β : Type} {d : Kd α} {d' : Kd β} {e e' base base' n : Nat} {ok ok' : Nat → Prop} {w W w1 W1 : World} {v u : Value} {xs : List α} {ys : List β} {A : Option Addr} {c : Nat}
theorem own_blk {ad : Addr} {g : Nat} (hne : some g ≠ (Value.slice (some ad) n c).ownBlock) : ad.block ≠ g := by
  rintro rfl
  exact hne (by simp [Value.ownBlock])
end
end Kd
end Go.Proofs.YtbhainkcdkgbbaaW.PrintWords

end
section
namespace Go.Proofs.Ytbhainkcdkgbbaa.P
open Go.RowKit Go.Proofs.Ytbhainkcdkgbbaa.Vp Go.Proofs.Ytbhainkcdkgbbaa.Sl Go.Proofs.YtbhainkcdkgbbaaW.PrintWords Go.Proofs.YtbhainkcdkgbbaaW.PrintLast Go.Proofs.YtbhainkcdkgbbaaW.PrintMore
attribute [local go_sem] str_gtr str_leq str_geq max2_int min2_int max_two min_two max_three min_three max_four min_four
set_option linter.unusedVariables false
set_option linter.unusedSimpArgs false
theorem info3 : (Try.prog.info? 3).map (fun i => (i.zero, i.size, i.bytes)) = some (some (.int .i64 0), 1, 8) := by kernel_rfl
end Go.Proofs.Ytbhainkcdkgbbaa.P

end
section
set_option linter.unusedVariables false
set_option linter.unusedSimpArgs false
namespace Go.Proofs.Ytbhainkcdkgbbaa.Vp
open Go.RowKit Go.Proofs.YtbhainkcdkgbbaaW.PrintWords Go.Proofs.YtbhainkcdkgbbaaW.PrintLast Go.Proofs.YtbhainkcdkgbbaaW.PrintMore
theorem bytesOf_take (s : ByteArray) (n : Nat) : bytesOf (s.extract 0 n) = (bytesOf s).take n := by
  unfold bytesOf
  rw [ByteArray.data_extract, Array.toList_extract, List.map_take]
  simp [List.extract]
theorem toList_iff {s t : ByteArray} : s.toList = t.toList ↔ s = t := by
  constructor
  · intro h
    rw [ByteArray.toList_eq, ByteArray.toList_eq] at h
    exact ByteArray.ext (Array.toList_inj.1 h)
  · rintro rfl; rfl
theorem sub_byte (x b : Int) (h0 : 0 ≤ x) (h1 : x < 72057594037927936) (hb : 0 ≤ b ∧ b < 256) : IntKind.u64.wrap (IntKind.u64.wrap (x * 256) + IntKind.u64.wrap b) = x * 256 + b := by
  rw [IntKind.wrap_u64, IntKind.wrap_u64, IntKind.wrap_u64]; omega
end Go.Proofs.Ytbhainkcdkgbbaa.Vp

end
section
set_option linter.unusedVariables false
set_option linter.unusedSimpArgs false
namespace Go.Proofs.Ytbhainkcdkgbbaa.Pure
open Go.RowKit Go.Proofs.Ytbhainkcdkgbbaa.P Go.Proofs.Ytbhainkcdkgbbaa.Vp Go.Proofs.YtbhainkcdkgbbaaW.PrintWords Go.Proofs.YtbhainkcdkgbbaaW.PrintLast Go.Proofs.YtbhainkcdkgbbaaW.PrintMore
theorem takeP_false {s : ByteArray} (h : (takeP s).2.2 = false) : takeP s = (0, ⟨#[]⟩, false) := by
  unfold takeP at h ⊢
  split
  · rename_i he; rw [he] at h; simp at h
  · rfl
end Go.Proofs.Ytbhainkcdkgbbaa.Pure

end
section
set_option linter.unusedVariables false
set_option linter.unusedSimpArgs false
namespace Go.Proofs.Ytbhainkcdkgbbaa.Pure
open Go.RowKit Go.Proofs.Ytbhainkcdkgbbaa.P Go.Proofs.Ytbhainkcdkgbbaa.Vp Go.Proofs.YtbhainkcdkgbbaaW.PrintWords Go.Proofs.YtbhainkcdkgbbaaW.PrintLast Go.Proofs.YtbhainkcdkgbbaaW.PrintMore
theorem fits_iff (s : ByteArray) (c : Int) (hc : 0 ≤ c ∧ c < 256) (K : Nat) (hK : K = kOf c) (hKs : K ≤ s.size) (hh : bt s 0 = c) (hne : 0 < s.size) (N : Int) (hN : N = rawN c (((bytesOf s).drop 1).take (K - 1))) (h0 : 0 ≤ N) :
    (putP N = s.extract 0 K ↔ sizeP N = K) := by
  have hbs : bytesOf s = c :: (bytesOf s).drop 1 := by
    have e0 := bt_get s 0 hne
    have e : bt s ((0 : Nat) : Int) = c := hh
    rw [e] at e0
    obtain ⟨y, ys, hy⟩ : ∃ y ys, bytesOf s = y :: ys := List.exists_cons_of_length_pos (by rw [size_bytesOf]; exact hne)
    rw [hy]
    simp only [hy, List.getElem_cons_zero] at e0
    rw [e0]; simp
  constructor
  · intro h
    have := congrArg ByteArray.size h
    rw [ByteArray.size_extract, ← size_bytesOf, putP_bytes h0] at this
    rw [← putL_length]; omega
  · intro h
    have ht : takeL (bytesOf s) = some (N, K) := by
      rw [hbs, takeL]
      rw [← hK, if_neg (by rw [List.length_drop, size_bytesOf]; omega), ← hN, if_pos h]
    obtain ⟨_, _, h2, h3⟩ := put_take (bytesOf_byt s) ht
    apply bytesOf_inj
    rw [bytesOf_take, putP_bytes h0, h3, h2, List.take_left]
theorem rtake_end (s : ByteArray) (hs : s.size < 4611686018427387904) (c : Int) (hc : 0 ≤ c ∧ c < 256) (K : Nat) (hK : K = kOf c) (hKs : K ≤ s.size) (hh : bt s 0 = c) (hne : 0 < s.size) (k : Nat) (hkk : 12 < k) :
    moultref3_Take.l0 (k + 1) s (K : Int) (beV (((bytesOf s).drop 1).take (K - 1))) (K : Int) = some (takeP s) := by
  have hk := kOf_range c hc.2
  have hkc := kOf_cases c
  have hr := beV_64 ((bytesOf s).drop 1) (fun x hx => bytesOf_byt s x (List.mem_of_mem_drop hx)) (K - 1) (by omega)
  have htk := take_end s hs c hc K hK hKs hh hne 12
  have hbs : bytesOf s = c :: (bytesOf s).drop 1 := by
    have e0 := bt_get s 0 hne
    have e : bt s ((0 : Nat) : Int) = c := hh
    rw [e] at e0
    obtain ⟨y, ys, hy⟩ : ∃ y ys, bytesOf s = y :: ys := List.exists_cons_of_length_pos (by rw [size_bytesOf]; exact hne)
    rw [hy]
    simp only [hy, List.getElem_cons_zero] at e0
    rw [e0]; simp
  have htp : takeP s = if sizeP (rawN c (((bytesOf s).drop 1).take (K - 1))) = K then (rawN c (((bytesOf s).drop 1).take (K - 1)), s.extract K s.size, true) else (0, ⟨#[]⟩, false) := by
    unfold takeP
    rw [hbs, takeL, List.drop_succ_cons, List.drop_zero, ← hK, if_neg (by rw [List.length_drop, size_bytesOf]; omega)]
    by_cases hz : sizeP (rawN c (((bytesOf s).drop 1).take (K - 1))) = (K : Int)
    · rw [if_pos hz, if_pos hz]
    · rw [if_neg hz, if_neg hz]
  obtain ⟨v, hv⟩ : ∃ v, beV (((bytesOf s).drop 1).take (K - 1)) = v := ⟨_, rfl⟩
  have hraw : rawN c (((bytesOf s).drop 1).take (K - 1)) = if K = 1 then c else if K = 2 then v + (240 + (c - 241) * 256) else if K = 3 then v + 2288 else v := by
    unfold rawN; rw [hv, ← hK]
  have hv2 : K = 2 → v < 256 := by
    intro h2
    rw [← hv, h2]
    have hl : 0 < ((bytesOf s).drop 1).length := by rw [List.length_drop, size_bytesOf]; omega
    rw [show 2 - 1 = 0 + 1 from rfl, beV_take_succ _ 0 hl]
    have := bytesOf_byt s _ (List.mem_of_mem_drop (List.getElem_mem hl))
    rw [List.take_zero, show beV [] = 0 from rfl]; omega
  have hv3 : K = 3 → v < 65536 := by
    intro h3
    have h1 := beL_beV (((bytesOf s).drop 1).take (K - 1)) (fun x hx => bytesOf_byt s x (List.mem_of_mem_drop (List.mem_of_mem_take hx)))
    rw [hv] at h1
    have hl : (((bytesOf s).drop 1).take (K - 1)).length = 2 := by rw [List.length_take, List.length_drop, size_bytesOf]; omega
    rw [hl] at h1
    have := (pw 0).2.1
    omega
  rw [hv] at hr ⊢
  have fits := fits_iff s c hc K hK hKs hh hne
  have fin : ∀ N : Int, N = rawN c (((bytesOf s).drop 1).take (K - 1)) → 0 ≤ N → N < 18446744073709551616 → ((moultref3_Put.f k N).bind fun t => (if 0 ≤ (K : Int) then (if (K : Int) ≤ (s.size : Int) then (if t.toList = (s.extract 0 (K : Int).toNat).toList then (some (N, s.extract (K : Int).toNat s.size, true)) else (some (0, (⟨#[]⟩ : ByteArray), false))) else (none)) else (none))) = some (takeP s) := by
    intro N hN h0 h1
    rw [rput_f N h0 h1 k hkk]
    simp only [Option.bind_some]
    rw [if_pos (show 0 ≤ (K : Int) by omega), if_pos (show (K : Int) ≤ (s.size : Int) by omega), Int.toNat_natCast, htp, ← hN]
    have hf := fits N hN h0
    by_cases hz : sizeP N = (K : Int)
    · rw [if_pos hz, if_pos (toList_iff.2 (hf.2 hz))]
    · rw [if_neg hz, if_neg (fun h => hz (hf.1 (toList_iff.1 h)))]
  simp only [moultref3_Take.l0]
  rw [if_neg (by omega)]
  rw [hh]
  by_cases k1 : K = 1
  · rw [if_pos (show (K : Int) = 1 by omega), if_pos (by omega)]
    have e : IntKind.u64.wrap c = c := by rw [IntKind.wrap_u64]; omega
    rw [e]
    exact fin c (by rw [hraw, if_pos k1]) (by omega) (by omega)
  · rw [if_neg (by omega)]
    by_cases k2 : K = 2
    · rw [if_pos (show (K : Int) = 2 by omega), if_pos (by omega)]
      have hv := hv2 k2
      have e : IntKind.u64.wrap (IntKind.u64.wrap (v + 240) + 256 * ((c - 241) % 256)) = v + (240 + (c - 241) * 256) := by rw [IntKind.wrap_u64, IntKind.wrap_u64]; omega
      rw [e]
      exact fin _ (by rw [hraw, if_neg k1, if_pos k2]) (by omega) (by omega)
    · rw [if_neg (by omega), if_pos (by omega)]
      by_cases k3 : K = 3
      · rw [if_pos (show c = 249 by omega)]
        have hv := hv3 k3
        have e : IntKind.u64.wrap (v + 2288) = v + 2288 := by rw [IntKind.wrap_u64]; omega
        rw [e]
        exact fin _ (by rw [hraw, if_neg k1, if_neg k2, if_pos k3]) (by omega) (by omega)
      · rw [if_neg (show ¬ c = 249 by omega)]
        exact fin v (by rw [hraw, if_neg k1, if_neg k2, if_neg k3]) hr.1 hr.2
theorem rtake_l0 (s : ByteArray) (hs : s.size < 4611686018427387904) (c : Int) (hc : 0 ≤ c ∧ c < 256) (K : Nat) (hK : K = kOf c) (hKs : K ≤ s.size) (hh : bt s 0 = c) (hne : 0 < s.size) :
    ∀ (d m k : Nat), m + d + 1 = K → d + 13 < k → moultref3_Take.l0 k s (K : Int) (beV (((bytesOf s).drop 1).take m)) ((m + 1 : Nat) : Int) = some (takeP s) := by
  have hk := kOf_range c hc.2
  intro d
  induction d with
  | zero =>
    intro m k hm hk
    obtain ⟨k, rfl⟩ : ∃ j, k = j + 1 := ⟨k - 1, by omega⟩
    have := rtake_end s hs c hc K hK hKs hh hne k (by omega)
    rw [show K - 1 = m by omega] at this
    rw [show ((m + 1 : Nat) : Int) = (K : Int) by omega]
    exact this
  | succ d ih =>
    intro m k hm hk
    obtain ⟨k, rfl⟩ : ∃ j, k = j + 1 := ⟨k - 1, by omega⟩
    obtain ⟨h1, h2⟩ := drop_one_take s m (by omega)
    have hb := beV_small ((bytesOf s).drop 1) (fun x hx => bytesOf_byt s x (List.mem_of_mem_drop hx)) m (by omega)
    have hbt := bt_range s ((m + 1 : Nat) : Int)
    simp only [moultref3_Take.l0]
    rw [if_pos (by omega), if_pos (by omega), if_pos (by omega), sub_byte _ _ hb.1 hb.2 ⟨hbt.1, by omega⟩, ← h2, ← beV_take_succ _ m h1]
    rw [wrap_succ (by omega)]
    exact ih (m + 1) k (by omega) (by omega)
theorem rtake_f (s : ByteArray) (hs : s.size < 4611686018427387904) (k : Nat) (hk : 30 < k) : moultref3_Take.f k s = some (takeP s) := by
  unfold moultref3_Take.f
  by_cases h0 : s.size = 0
  · rw [if_pos ((nil_iff s).2 h0)]
    unfold takeP
    have : bytesOf s = [] := List.eq_nil_of_length_eq_zero (by rw [size_bytesOf]; exact h0)
    rw [this]; rfl
  · rw [if_neg (fun h => h0 ((nil_iff s).1 h)), if_pos (by omega)]
    have hc := bt_range s 0
    obtain ⟨c, hcc⟩ : ∃ c, bt s 0 = c := ⟨_, rfl⟩
    rw [hcc] at hc ⊢
    have hkc := kOf_cases c
    have hj : ∀ K : Nat, K = kOf c → moultref3_Take.j0 k s (K : Int) = some (takeP s) := by
      intro K hK
      have hkr := kOf_range c (by omega)
      obtain ⟨k, rfl⟩ : ∃ j, k = j + 1 := ⟨k - 1, by omega⟩
      simp only [moultref3_Take.j0]
      by_cases hsz : (s.size : Int) < (K : Int)
      · rw [if_pos hsz, take_short s (by omega) (by rw [hcc]; omega)]
      · rw [if_neg hsz]
        exact rtake_l0 s hs c ⟨hc.1, by omega⟩ K hK (by omega) hcc (by omega) (K - 1) 0 k (by omega) (by omega)
    by_cases c1 : c ≥ 250
    · rw [if_pos c1, show wrap64 ((wrap64 c) - 246) = (((c - 246).toNat : Nat) : Int) from by unfold wrap64; omega]
      exact hj _ (by omega)
    · rw [if_neg c1]
      by_cases c2 : c = 249
      · rw [if_pos c2]; exact hj 3 (by omega)
      · rw [if_neg c2]
        by_cases c3 : c ≥ 241
        · rw [if_pos c3]; exact hj 2 (by omega)
        · rw [if_neg c3]; exact hj 1 (by omega)
end Go.Proofs.Ytbhainkcdkgbbaa.Pure

end
section
namespace Go.Proofs.Ytbhainkcdkgbbaa.P
open Go.RowKit Go.Proofs.Ytbhainkcdkgbbaa.Vp Go.Proofs.Ytbhainkcdkgbbaa.Sl Go.Proofs.YtbhainkcdkgbbaaW.PrintWords Go.Proofs.YtbhainkcdkgbbaaW.PrintLast Go.Proofs.YtbhainkcdkgbbaaW.PrintMore
attribute [local go_sem] str_gtr str_leq str_geq max2_int min2_int max_two min_two max_three min_three max_four min_four
set_option linter.unusedVariables false
set_option linter.unusedSimpArgs false
set_option maxHeartbeats 8000000 in
set_option maxRecDepth 100000 in
theorem moultref8_three.calls (k : Nat) (a0 : ByteArray) (r1 : List Int) (r2 : ByteArray) (r3 : Bool) (w : World) (h : moultref8_three.f k a0 = some (r1, r2, r3)) :
    Calls Try.prog 28 #[.string a0] w fun e w' => ∃ v0_ : Value, e = .returned (.tuple #[v0_, .string r2, .bool r3]) ∧ Kd.R (Kd.int .i64) 3 w' w.heap.size (fun _ => True) v0_ r1 ∧ Below w.heap.size w w' := by
  have HB := Aside0.mk (Below.refl w.heap.size w)
  have H : (moultref8_three.l0 k ([] : List Int) a0 0) = some (r1, r2, r3) := h
  clear h
  have H' := Aside0.mk H
  clear H
  go_enter Try.func28, Try.ntmps28
  go_wp2
  go_loopg [5, 6, 7] k (fun kq v5 v6 v7 w' => ∃ (x5_1 : List Int) (x6_1 : ByteArray) (x7_1 : Int), v6 = .string x6_1 ∧ v7 = .int .i64 x7_1 ∧ Aside0 (moultref8_three.l0 kq x5_1 x6_1 x7_1 = some (r1, r2, r3)) ∧ Aside0 (kq ≤ k) ∧ Aside0 (Kd.R (Kd.int .i64) 3 w' w.heap.size (fun _ => True) v5 x5_1) ∧ Aside0 (Below w.heap.size w w'))
  case atStart => exact ⟨(([] : List Int)), (a0), (0), (by first | rfl | (simp; done) | (simp [*]; done)), (by first | rfl | (simp; done) | (simp [*]; done)), H', ⟨Nat.le_refl _⟩, ⟨by first | exact Kd.R_nil _ _ _ _ _ | exact Kd.N_nil _ _ _ _ _ | exact Kd.V_nil _ _ _ _ _ | exact Kd.Q_nil _ _ _ _ _ | exact Kd.S_nil _ _ _ _ _⟩, ⟨by repeat (first | (with_reducible first | exact HB.out | apply below_alloc | apply pw_below_drewN | apply below_drew1) | exact HB.out)⟩⟩
  case round =>
    clear H'
    obtain ⟨x5_1, x6_1, x7_1, rfl, rfl, HA, HK1, HO_5, HB⟩ := hrel
    cases gk with
    | zero => exact absurd HA.out (by simp [moultref8_three.l0])
    | succ k1 =>
      have H := HA.out
      clear HA
      simp only [moultref8_three.l0] at H
      by_cases c2 : x7_1 < 3
      · rw [if_pos c2] at H
        have c2b0 : decide (x7_1 < 3) = true := decide_eq_true c2
        clear c2
        replace H := Option.bind_eq_some_iff.mp H
        obtain ⟨⟨t176, t177, t178⟩, A30, H⟩ := H
        replace H : (if t178 = true then (if t176 > 40000 then (some (([] : List Int), (⟨#[]⟩ : ByteArray), false)) else (if x5_1.length < 17592186044416 then (moultref8_three.l0 k1 (x5_1 ++ [wrap64 (t176)]) t177 (wrap64 (x7_1 + 1))) else (none))) else (some (([] : List Int), (⟨#[]⟩ : ByteArray), false))) = some (r1, r2, r3) := H
        have A3 := Aside0.mk A30
        clear A30
        by_cases c4 : t178 = true
        · subst c4
          have H1 : (if t176 > 40000 then (some (([] : List Int), (⟨#[]⟩ : ByteArray), false)) else (if x5_1.length < 17592186044416 then (moultref8_three.l0 k1 (x5_1 ++ [wrap64 (t176)]) t177 (wrap64 (x7_1 + 1))) else (none))) = some (r1, r2, r3) := by rw [if_pos rfl] at H; exact H
          clear H
          have H := H1
          clear H1
          by_cases c5 : t176 > 40000
          · rw [if_pos c5] at H
            have c5b0 : decide (40000 < t176) = true := decide_eq_true c5
            clear c5
            simp only [Option.some.injEq, Prod.mk.injEq] at H
            obtain ⟨rfl, rfl, rfl⟩ := H
            go_wp2_with (first | ((with_reducible refine gate_callee (f := 41) rfl ?_); refine goesL_ (some 18) rfl rfl Try.func41 (by kernel_rfl) rfl #[.string x6_1] rfl (by (try simp only [List.map_toArray, List.map_cons, List.map_nil]); first | done | rfl | (simp only [List.length_drop, List.length_take]; rfl)) ?_; (with_reducible refine (moultref3_Take.calls k1 x6_1 t176 t177 true _ A3.out).mono ?_); rintro e w6 ⟨rfl, hb⟩; refine ⟨_, rfl, ?_⟩; have n0_ := Aside0.mk (Kd.R_below (by (with_reducible repeat (first | apply Kd.R_alloc | apply Kd.R_drewN | apply Kd.R_drew)); exact HO_5.out) hb); have n1_ := Aside0.mk (below_step (by repeat (first | (with_reducible first | exact HB.out | apply below_alloc | apply pw_below_drewN | apply below_drew1) | exact HB.out)) hb); clear HO_5; clear HB; have HO_5 := n0_; have HB := n1_; clear n0_ n1_; (try clear hb); (try clear hb2); (try clear hk); (try clear hi)))
            all_goals go_ret3
            all_goals exact ⟨_, by first | rfl | (simp [errW_none, errW_some] <;> rfl) | (simp [*, errW_none, errW_some] <;> rfl), by first | exact Kd.R_nil _ _ _ _ _ | exact Kd.N_nil _ _ _ _ _ | exact Kd.V_nil _ _ _ _ _ | exact Kd.Q_nil _ _ _ _ _ | exact Kd.S_nil _ _ _ _ _, by repeat (first | (with_reducible first | exact HB.out | apply below_alloc | apply pw_below_drewN | apply below_drew1) | exact HB.out)⟩
          · rw [if_neg c5] at H
            have c5b0 : decide (40000 < t176) = false := decide_eq_false c5
            clear c5
            by_cases c7 : x5_1.length < 17592186044416
            · rw [if_pos c7] at H
              have LMc7 := Aside0.mk c7
              clear c7
              obtain ⟨y179, hy179⟩ : ∃ y_ : List Int, y_ = (x5_1 ++ [wrap64 (t176)]) := ⟨_, rfl⟩
              replace H : (moultref8_three.l0 k1 y179 t177 (wrap64 (x7_1 + 1))) = some (r1, r2, r3) := by first | (rw [hy179]; with_reducible exact H) | (have H2_ := (Option.bind_some _ _).symm.trans H; rw [hy179]; with_reducible exact H2_) | (have H2_ := (Option.bind_some _ _).symm.trans H; with_reducible exact H2_) | with_reducible exact H | (rw [hy179]; exact H) | exact H
              have Ny179 := Aside0.mk hy179
              clear hy179
              have H' := Aside0.mk H
              clear H
              go_wp2_with (first | ((with_reducible refine gate_callee (f := 41) rfl ?_); refine goesL_ (some 18) rfl rfl Try.func41 (by kernel_rfl) rfl #[.string x6_1] rfl (by (try simp only [List.map_toArray, List.map_cons, List.map_nil]); first | done | rfl | (simp only [List.length_drop, List.length_take]; rfl)) ?_; (with_reducible refine (moultref3_Take.calls k1 x6_1 t176 t177 true _ A3.out).mono ?_); rintro e w8 ⟨rfl, hb⟩; refine ⟨_, rfl, ?_⟩; have n0_ := Aside0.mk (Kd.R_below (by (with_reducible repeat (first | apply Kd.R_alloc | apply Kd.R_drewN | apply Kd.R_drew)); exact HO_5.out) hb); have n1_ := Aside0.mk (below_step (by repeat (first | (with_reducible first | exact HB.out | apply below_alloc | apply pw_below_drewN | apply below_drew1) | exact HB.out)) hb); clear HO_5; clear HB; have HO_5 := n0_; have HB := n1_; clear n0_ n1_; (try clear hb); (try clear hb2); (try clear hk); (try clear hi)) | ((with_reducible refine gate_builtin (b := .append) (xs := #[.tmp 28, .tmp 31]) rfl ?_); at_builtin; refine Kd.R_append (Kd.int .i64) (w0 := w) w.heap.size rfl (.tmp 28) (.tmp 31) 56 3 (.int .i64 0) 8 rfl Try.underlying56 info3 rfl (by decide) (by omega) u5 x5_1 (wrap64 (t176)) [.int .i64 (wrap64 (t176))] (fun _ => True) (fun _ => False) rfl rfl ?aP (fun _ hk => hk.elim) ?aF ?aO ?aB ?aS ?aL ?_; (case aP => exact rfl); (case aB => exact (by repeat (first | (with_reducible first | exact HB.out | apply below_alloc | apply pw_below_drewN | apply below_drew1) | exact HB.out))); (case aF => exact (fun _ _ => trivial)); (case aO => exact (by (with_reducible repeat (first | apply Kd.R_alloc | apply Kd.R_drewN | apply Kd.R_drew)); exact HO_5.out)); (case aS => exact (below_size (by repeat (first | (with_reducible first | exact HB.out | apply below_alloc | apply pw_below_drewN | apply below_drew1) | exact HB.out)))); (case aL => have := LMc7.out; omega); intro v180 w9 ho hb hg hat; rw [← Ny179.out] at ho; have n0_ := Aside0.mk (hb); have n1_ := Aside0.mk (ho); clear HB; clear HO_5; have HB := n0_; have HO181 := n1_; clear n0_ n1_; clear ho hb hg hat))
              go_roundg k1
              case measure => have := HK1.out; omega
              case rel => exact ⟨(y179), (t177), (wrap64 (x7_1 + 1)), (by first | rfl | (simp; done) | (simp [*]; done)), (by first | rfl | (simp; done) | (simp [*]; done)), H', ⟨by have := HK1.out; omega⟩, ⟨by (with_reducible repeat (first | apply Kd.R_alloc | apply Kd.R_drewN | apply Kd.R_drew)); exact HO181.out⟩, ⟨by repeat (first | (with_reducible first | exact HB.out | apply below_alloc | apply pw_below_drewN | apply below_drew1) | exact HB.out)⟩⟩
            · rw [if_neg c7] at H
              exact absurd H (by simp)
        · replace c4 := Bool.eq_false_iff.mpr c4
          subst c4
          have H1 : (some (([] : List Int), (⟨#[]⟩ : ByteArray), false)) = some (r1, r2, r3) := by rw [if_neg (show ¬ (false = true) by decide)] at H; exact H
          clear H
          have H := H1
          clear H1
          simp only [Option.some.injEq, Prod.mk.injEq] at H
          obtain ⟨rfl, rfl, rfl⟩ := H
          go_wp2_with (first | ((with_reducible refine gate_callee (f := 41) rfl ?_); refine goesL_ (some 18) rfl rfl Try.func41 (by kernel_rfl) rfl #[.string x6_1] rfl (by (try simp only [List.map_toArray, List.map_cons, List.map_nil]); first | done | rfl | (simp only [List.length_drop, List.length_take]; rfl)) ?_; (with_reducible refine (moultref3_Take.calls k1 x6_1 t176 t177 false _ A3.out).mono ?_); rintro e w10 ⟨rfl, hb⟩; refine ⟨_, rfl, ?_⟩; have n0_ := Aside0.mk (Kd.R_below (by (with_reducible repeat (first | apply Kd.R_alloc | apply Kd.R_drewN | apply Kd.R_drew)); exact HO_5.out) hb); have n1_ := Aside0.mk (below_step (by repeat (first | (with_reducible first | exact HB.out | apply below_alloc | apply pw_below_drewN | apply below_drew1) | exact HB.out)) hb); clear HO_5; clear HB; have HO_5 := n0_; have HB := n1_; clear n0_ n1_; (try clear hb); (try clear hb2); (try clear hk); (try clear hi)))
          all_goals go_ret3
          all_goals exact ⟨_, by first | rfl | (simp [errW_none, errW_some] <;> rfl) | (simp [*, errW_none, errW_some] <;> rfl), by first | exact Kd.R_nil _ _ _ _ _ | exact Kd.N_nil _ _ _ _ _ | exact Kd.V_nil _ _ _ _ _ | exact Kd.Q_nil _ _ _ _ _ | exact Kd.S_nil _ _ _ _ _, by repeat (first | (with_reducible first | exact HB.out | apply below_alloc | apply pw_below_drewN | apply below_drew1) | exact HB.out)⟩
      · rw [if_neg c2] at H
        have c2b0 : decide (x7_1 < 3) = false := decide_eq_false c2
        clear c2
        simp only [Option.some.injEq, Prod.mk.injEq] at H
        obtain ⟨rfl, rfl, rfl⟩ := H
        go_wp2
        all_goals go_ret3
        all_goals exact ⟨_, by first | rfl | (simp [errW_none, errW_some] <;> rfl) | (simp [*, errW_none, errW_some] <;> rfl), by (with_reducible repeat (first | apply Kd.R_alloc | apply Kd.R_drewN | apply Kd.R_drew)); exact HO_5.out, by repeat (first | (with_reducible first | exact HB.out | apply below_alloc | apply pw_below_drewN | apply below_drew1) | exact HB.out)⟩
end Go.Proofs.Ytbhainkcdkgbbaa.P

end
section
set_option linter.unusedVariables false
set_option linter.unusedSimpArgs false
namespace Go.Proofs.Ytbhainkcdkgbbaa.Pure
open Go.RowKit Go.Proofs.Ytbhainkcdkgbbaa.P Go.Proofs.Ytbhainkcdkgbbaa.Vp Go.Proofs.Ytbhainkcdkgbbaa.Sl Go.Proofs.YtbhainkcdkgbbaaW.PrintWords Go.Proofs.YtbhainkcdkgbbaaW.PrintLast Go.Proofs.YtbhainkcdkgbbaaW.PrintMore
theorem build_not {l : List Pa} (h : ¬ okFrom false ⟨#[]⟩ l) : buildP l = (⟨#[]⟩, 1) := by
  unfold buildP; rw [if_neg (fun e => h ((rises_all l).1 e))]
end Go.Proofs.Ytbhainkcdkgbbaa.Pure

end
section
set_option linter.unusedVariables false
set_option linter.unusedSimpArgs false
namespace Go.Proofs.Ytbhainkcdkgbbaa.Pure
open Go.RowKit Go.Proofs.Ytbhainkcdkgbbaa.P Go.Proofs.Ytbhainkcdkgbbaa.Vp Go.Proofs.Ytbhainkcdkgbbaa.Sl Go.Proofs.YtbhainkcdkgbbaaW.PrintWords Go.Proofs.YtbhainkcdkgbbaaW.PrintLast Go.Proofs.YtbhainkcdkgbbaaW.PrintMore
theorem three_some {s : ByteArray} {a b c : Nat} {r : ByteArray} (h : s.data.toList = putB a ++ (putB b ++ (putB c ++ r.data.toList))) (ha : a ≤ 40000) (hb : b ≤ 40000) (hc : c ≤ 40000) (hs : s.size < 1000000000) (k : Nat) (hk : 40 < k) :
    moultref8_three.f k s = some ([(a : Int), (b : Int), (c : Int)], r, true) := by
  obtain ⟨k, rfl⟩ : ∃ m, k = m + 4 := ⟨k - 4, by omega⟩
  obtain ⟨s2, h2⟩ : ∃ s2 : ByteArray, s2.data.toList = putB c ++ r.data.toList := ⟨⟨(putB c ++ r.data.toList).toArray⟩, ba_mk _⟩
  obtain ⟨s1, h1⟩ : ∃ s1 : ByteArray, s1.data.toList = putB b ++ s2.data.toList := ⟨⟨(putB b ++ s2.data.toList).toArray⟩, ba_mk _⟩
  have h0 : s.data.toList = putB a ++ s1.data.toList := by rw [h1, h2, h]
  have z1 : s1.size ≤ s.size := by rw [← ba_sz s, h0, List.length_append, ba_sz]; omega
  have z2 : s2.size ≤ s1.size := by rw [← ba_sz s1, h1, List.length_append, ba_sz]; omega
  have w : ∀ n : Nat, n ≤ 40000 → wrap64 (n : Int) = (n : Int) := fun n hn => by unfold wrap64; omega
  have w1 : wrap64 (0 + 1) = 1 := by unfold wrap64; omega
  have w2 : wrap64 (1 + 1) = 2 := by unfold wrap64; omega
  have w3 : wrap64 (2 + 1) = 3 := by unfold wrap64; omega
  unfold moultref8_three.f
  rw [show k + 4 = (k + 3) + 1 from rfl, moultref8_three.l0, if_pos (by decide), rtake_f s (by omega) _ (by omega), takeP_r h0 (by omega), Option.bind_some]
  dsimp only
  rw [if_pos rfl, if_neg (by omega), if_pos (by simp), w a ha, w1]
  rw [show k + 3 = (k + 2) + 1 from rfl, moultref8_three.l0, if_pos (by decide), rtake_f s1 (by omega) _ (by omega), takeP_r h1 (by omega), Option.bind_some]
  dsimp only
  rw [if_pos rfl, if_neg (by omega), if_pos (by simp), w b hb, w2]
  rw [show k + 2 = (k + 1) + 1 from rfl, moultref8_three.l0, if_pos (by decide), rtake_f s2 (by omega) _ (by omega), takeP_r h2 (by omega), Option.bind_some]
  dsimp only
  rw [if_pos rfl, if_neg (by omega), if_pos (by simp), w c hc, w3]
  rw [moultref8_three.l0, if_neg (by decide)]
  rfl
theorem three_any (s : ByteArray) (hs : s.size < 1000000000) (k : Nat) (hk : 40 < k) :
    (∃ (a b c : Nat) (r : ByteArray), s.data.toList = putB a ++ (putB b ++ (putB c ++ r.data.toList)) ∧ a ≤ 40000 ∧ b ≤ 40000 ∧ c ≤ 40000 ∧ moultref8_three.f k s = some ([(a : Int), (b : Int), (c : Int)], r, true)) ∨
    moultref8_three.f k s = some ([], ⟨#[]⟩, false) := by
  have hk2 := hk
  obtain ⟨k, rfl⟩ : ∃ m, k = m + 4 := ⟨k - 4, by omega⟩
  have key : ∀ (z : ByteArray), (∃ (j : Nat) (r : ByteArray), takeP z = ((j : Int), r, true) ∧ j ≤ 40000 ∧ z.data.toList = putB j ++ r.data.toList ∧ r.size ≤ z.size) ∨ (∀ (acc : List Int) (i : Int) (k : Nat), z.size < 1000000000 → i < 3 → 30 < k → moultref8_three.l0 (k + 1) acc z i = some ([], ⟨#[]⟩, false)) := by
    intro z
    by_cases c1 : (takeP z).2.2 = true
    · obtain ⟨n, r, hr⟩ : ∃ n r, takeP z = (n, r, true) := ⟨_, _, by rw [← c1]⟩
      obtain ⟨j, rfl, hj, e⟩ := takeP_l hr
      by_cases c2 : j ≤ 40000
      · exact .inl ⟨j, r, hr, c2, e, by rw [← ba_sz z, e, List.length_append, ba_sz]; omega⟩
      · refine .inr fun acc i k hz hi hk => ?_
        rw [moultref8_three.l0, if_pos hi, rtake_f z (by omega) k (by omega), hr, Option.bind_some]
        dsimp only
        rw [if_pos rfl, if_pos (by omega)]
    · refine .inr fun acc i k hz hi hk => ?_
      rw [moultref8_three.l0, if_pos hi, rtake_f z (by omega) k (by omega), takeP_false (by simpa using c1), Option.bind_some]
      dsimp only
      rw [if_neg (by decide)]
  have w : ∀ n : Nat, n ≤ 40000 → wrap64 (n : Int) = (n : Int) := fun n hn => by unfold wrap64; omega
  have w1 : wrap64 (0 + 1) = 1 := by unfold wrap64; omega
  have w2 : wrap64 (1 + 1) = 2 := by unfold wrap64; omega
  have w3 : wrap64 (2 + 1) = 3 := by unfold wrap64; omega
  rcases key s with ⟨a, s1, t1, ha, e1, z1⟩ | h
  · have step1 : moultref8_three.f (k + 4) s = moultref8_three.l0 (k + 3) [(a : Int)] s1 1 := by
      unfold moultref8_three.f
      rw [show k + 4 = (k + 3) + 1 from rfl, moultref8_three.l0, if_pos (by decide), rtake_f s (by omega) _ (by omega), t1, Option.bind_some]
      dsimp only
      rw [if_pos rfl, if_neg (by omega), if_pos (by simp), w a ha, w1]
      rfl
    rcases key s1 with ⟨b, s2, t2, hb, e2, z2⟩ | h
    · have step2 : moultref8_three.f (k + 4) s = moultref8_three.l0 (k + 2) [(a : Int), (b : Int)] s2 2 := by
        rw [step1, show k + 3 = (k + 2) + 1 from rfl, moultref8_three.l0, if_pos (by decide), rtake_f s1 (by omega) _ (by omega), t2, Option.bind_some]
        dsimp only
        rw [if_pos rfl, if_neg (by omega), if_pos (by simp), w b hb, w2]
        rfl
      rcases key s2 with ⟨c, r, t3, hc, e3, z3⟩ | h
      · exact .inl ⟨a, b, c, r, by rw [e1, e2, e3], ha, hb, hc, three_some (by rw [e1, e2, e3]) ha hb hc hs _ hk2⟩
      · exact .inr (by rw [step2]; exact h _ _ _ (by omega) (by decide) (by omega))
    · exact .inr (by rw [step1]; exact h _ _ _ (by omega) (by decide) (by omega))
  · exact .inr (by unfold moultref8_three.f; exact h _ _ _ (by omega) (by decide) (by omega))
end Go.Proofs.Ytbhainkcdkgbbaa.Pure

end
section
set_option linter.unusedVariables false
set_option linter.unusedSimpArgs false
namespace Go.Proofs.Ytbhainkcdkgbbaa.Pure
open Go.RowKit Go.Proofs.Ytbhainkcdkgbbaa.P Go.Proofs.Ytbhainkcdkgbbaa.Vp Go.Proofs.Ytbhainkcdkgbbaa.Sl Go.Proofs.YtbhainkcdkgbbaaW.PrintWords Go.Proofs.YtbhainkcdkgbbaaW.PrintLast Go.Proofs.YtbhainkcdkgbbaaW.PrintMore
def endP (x : ByteArray) (l : List Pa) : List Ra × Int := if (buildP l).2 = 0 then (if (buildP l).1.toList = x.toList then (l.map toR, 0) else ([], 8)) else ([], 8)
theorem endP_f (x s last : ByteArray) (l : List Pa) (hs : s.data.toList = []) (h : Lim l) (k : Nat) (hk : 3200000 < k) : moultref8_Read.l0 (k + 1) x (l.map toR) last s = some (endP x l) := by
  rw [moultref8_Read.l0, if_pos ((ba_isnil s).2 hs), rbuild_f h.small k hk, Option.bind_some]
  unfold endP
  split
  · split <;> rfl
  · rfl
theorem rstep {x s last left : ByteArray} {acc : List Pa} {a b c : Nat} (hs : s.data.toList ≠ []) (ht : s.data.toList = putB a ++ (putB b ++ (putB c ++ left.data.toList))) (ha : a ≤ 40000) (hb : b ≤ 40000) (hc : c ≤ 40000)
    (hz : s.size < 1000000000) (hl : last.size < 1000000000) (hacc : acc.length < 1000000) (k : Nat) (hk : 40 < k) :
    moultref8_Read.l0 (k + 1) x (acc.map toR) last s = if a ≤ last.size ∧ b + c ≤ left.size then moultref8_Read.l0 k x ((acc ++ [(⟨last.extract 0 a ++ left.extract 0 b, left.extract b (b + c)⟩ : Pa)]).map toR) (last.extract 0 a ++ left.extract 0 b) (left.extract (b + c) left.size) else some ([], 8) := by
  have hleft : left.size ≤ s.size := by
    rw [← ba_sz s, ht]; simp only [List.length_append, ba_sz]; omega
  have w : wrap64 ((b : Int) + (c : Int)) = ((b + c : Nat) : Int) := by unfold wrap64; omega
  have r0 : rd ([(a : Int), (b : Int), (c : Int)]) 0 = (a : Int) := rfl
  have r1 : rd ([(a : Int), (b : Int), (c : Int)]) 1 = (b : Int) := rfl
  have r2 : rd ([(a : Int), (b : Int), (c : Int)]) 2 = (c : Int) := rfl
  rw [moultref8_Read.l0, if_neg (fun e => hs ((ba_isnil s).1 e)), three_some ht ha hb hc hz k hk, Option.bind_some]
  dsimp only
  rw [if_pos rfl, if_pos (by simp), r0, r1, r2, w]
  by_cases c1 : a ≤ last.size
  · rw [if_neg (by omega), if_pos (by simp), if_pos (by simp)]
    by_cases c2 : b + c ≤ left.size
    · rw [if_neg (by omega), if_pos (by omega), if_pos (by omega), if_pos (by omega), if_pos (by omega), if_pos (by rw [ByteArray.size_extract, ByteArray.size_extract]; omega), if_pos (by omega), if_pos (by omega), if_pos (by rw [List.length_map]; omega), if_pos (by omega), if_pos ⟨c1, c2⟩]
      simp only [Int.toNat_natCast, List.map_append, List.map_cons, List.map_nil]
      rfl
    · rw [if_pos (by omega), if_neg (fun h => c2 h.2)]
  · rw [if_pos (by omega), if_neg (fun h => c1 h.1)]
theorem rstep_none {x s last : ByteArray} {acc : List Ra} (hs : s.data.toList ≠ []) (k : Nat) (h : moultref8_three.f k s = some ([], ⟨#[]⟩, false)) : moultref8_Read.l0 (k + 1) x acc last s = some ([], 8) := by
  rw [moultref8_Read.l0, if_neg (fun e => hs ((ba_isnil s).1 e)), h, Option.bind_some]
  dsimp only
  rw [if_neg (by decide)]
theorem rread_enc (x : ByteArray) : ∀ (l acc : List Pa) (last s : ByteArray) (k : Nat), s.data.toList = encFrom last l → last.size + s.size ≤ 40000 → Lim (acc ++ l) → 3300000 + l.length < k → moultref8_Read.l0 k x (acc.map toR) last s = some (endP x (acc ++ l))
  | [], acc, last, s, k, hs, hz, hlim, hk => by
    obtain ⟨k, rfl⟩ : ∃ m, k = m + 1 := ⟨k - 1, by omega⟩
    rw [List.append_nil] at hlim ⊢
    exact endP_f x s last acc hs hlim k (by omega)
  | p :: l, acc, last, s, k, hs, hz, hlim, hk => by
    obtain ⟨k, rfl⟩ : ∃ m, k = m + 1 := ⟨k - 1, by omega⟩
    have hcom := comP_le last p.f0
    have hge := encA_ge last p.f0 p.f1
    have hpos := encA_pos last p.f0 p.f1
    have hlen : s.size = (encA last p.f0 p.f1).length + (encFrom p.f0 l).length := by rw [← ba_sz, hs, encFrom, List.length_append]
    have hne : s.data.toList ≠ [] := by intro e; have := congrArg List.length e; rw [ba_sz, List.length_nil] at this; omega
    obtain ⟨left, hleft⟩ : ∃ left : ByteArray, left.data.toList = p.f0.data.toList.drop (comP last p.f0) ++ (p.f1.data.toList ++ encFrom p.f0 l) := ⟨⟨(p.f0.data.toList.drop (comP last p.f0) ++ (p.f1.data.toList ++ encFrom p.f0 l)).toArray⟩, ba_mk _⟩
    have ht : s.data.toList = putB (comP last p.f0) ++ (putB (p.f0.size - comP last p.f0) ++ (putB p.f1.size ++ left.data.toList)) := by
      rw [hs, hleft, encFrom, encA_eq]
      simp only [List.append_assoc]
    have hls : left.size = (p.f0.size - comP last p.f0) + (p.f1.size + (encFrom p.f0 l).length) := by
      rw [← ba_sz, hleft, List.length_append, List.length_append, List.length_drop, ba_sz, ba_sz]
    have hlz : left.size ≤ s.size := by rw [← ba_sz s, ht]; simp only [List.length_append, ba_sz]; omega
    have hct := comL_take last.data.toList p.f0.data.toList
    change last.data.toList.take (comP last p.f0) = p.f0.data.toList.take (comP last p.f0) at hct
    have hacc : acc.length < 1000000 := by have := hlim.1; rw [List.length_append] at this; omega
    rw [rstep hne ht (by omega) (by omega) (by omega) (by omega) (by omega) hacc k (by omega), if_pos ⟨hcom.1, by omega⟩]
    obtain ⟨n, hn⟩ : ∃ n, comP last p.f0 = n := ⟨_, rfl⟩
    rw [hn] at hcom hleft ht hls hct ⊢
    have hkey : last.extract 0 n ++ left.extract 0 (p.f0.size - n) = p.f0 := by
      apply ba_eq
      rw [ba_app, ba_ext_l, ba_ext_l, hleft, List.drop_zero, List.drop_zero, Nat.sub_zero, Nat.sub_zero, hct, List.take_append_of_le_length (by rw [List.length_drop, ba_sz]; omega)]
      rw [List.take_of_length_le (l := p.f0.data.toList.drop n) (by rw [List.length_drop, ba_sz]; omega), List.take_append_drop]
    have hval : left.extract (p.f0.size - n) (p.f0.size - n + p.f1.size) = p.f1 := by
      apply ba_eq
      rw [ba_ext_l, hleft, List.drop_append_of_le_length (by rw [List.length_drop, ba_sz]; omega), List.drop_of_length_le (l := p.f0.data.toList.drop n) (by rw [List.length_drop, ba_sz]; omega), List.nil_append]
      rw [show p.f0.size - n + p.f1.size - (p.f0.size - n) = p.f1.size by omega, List.take_append_of_le_length (by rw [ba_sz]; omega), List.take_of_length_le (by rw [ba_sz]; omega)]
    have hrest : (left.extract (p.f0.size - n + p.f1.size) left.size).data.toList = encFrom p.f0 l := by
      rw [ba_ext_l, hleft, ← List.append_assoc, List.drop_append, List.drop_of_length_le (by rw [List.length_append, List.length_drop, ba_sz, ba_sz]; omega), List.nil_append]
      rw [List.length_append, List.length_drop, ba_sz, ba_sz, Nat.sub_self, List.drop_zero, List.take_of_length_le (by omega)]
    rw [hkey, hval]
    have hrs : (left.extract (p.f0.size - n + p.f1.size) left.size).size = (encFrom p.f0 l).length := by rw [← ba_sz, hrest]
    have hz2 : p.f0.size + (encFrom p.f0 l).length ≤ 40000 := by omega
    have := rread_enc x l (acc ++ [p]) p.f0 (left.extract (p.f0.size - n + p.f1.size) left.size) k hrest (by omega) (by rw [List.append_assoc]; exact hlim) (by simp only [List.length_cons] at hk; omega)
    rw [List.append_assoc] at this
    exact this
theorem rread_any (x : ByteArray) : ∀ (N : Nat) (s last : ByteArray) (acc : List Pa) (k : Nat), s.size ≤ N → last.size + s.size ≤ 40000 → acc.length + s.size ≤ 100000 → (∀ p ∈ acc, p.f0.size ≤ 1000000 ∧ p.f1.size ≤ 1000000) → 3300000 + N < k →
    moultref8_Read.l0 k x (acc.map toR) last s = some ([], 8) ∨ ∃ l, Lim l ∧ moultref8_Read.l0 k x (acc.map toR) last s = some (endP x l) := by
  intro N
  induction N with
  | zero =>
    intro s last acc k h1 h2 h3 h4 hk
    obtain ⟨k, rfl⟩ : ∃ m, k = m + 1 := ⟨k - 1, by omega⟩
    have hz : s.data.toList = [] := List.eq_nil_of_length_eq_zero (by rw [ba_sz]; omega)
    exact .inr ⟨acc, ⟨by omega, h4⟩, endP_f x s last acc hz ⟨by omega, h4⟩ k (by omega)⟩
  | succ N ih =>
    intro s last acc k h1 h2 h3 h4 hk
    obtain ⟨k, rfl⟩ : ∃ m, k = m + 1 := ⟨k - 1, by omega⟩
    by_cases hz : s.data.toList = []
    · exact .inr ⟨acc, ⟨by omega, h4⟩, endP_f x s last acc hz ⟨by omega, h4⟩ k (by omega)⟩
    · rcases three_any s (by omega) k (by omega) with ⟨a, b, c, r, e, ha, hb, hc, _⟩ | h
      · have hp1 := putB_pos a
        have hls : r.size + 3 ≤ s.size := by
          have hp2 := putB_pos b; have hp3 := putB_pos c
          rw [← ba_sz s, e]; simp only [List.length_append, ba_sz]; omega
        rw [rstep hz e ha hb hc (by omega) (by omega) (by omega) k (by omega)]
        by_cases c1 : a ≤ last.size ∧ b + c ≤ r.size
        · rw [if_pos c1]
          have q1 : (last.extract 0 a ++ r.extract 0 b).size = a + b := by rw [ByteArray.size_append, ByteArray.size_extract, ByteArray.size_extract]; omega
          have q2 : (r.extract (b + c) r.size).size = r.size - (b + c) := by rw [ByteArray.size_extract]; omega
          have q3 : (r.extract b (b + c)).size ≤ 40000 := by rw [ByteArray.size_extract]; omega
          refine ih _ _ _ k (by omega) (by omega) (by rw [List.length_append, List.length_singleton]; omega) ?_ (by omega)
          intro p hp
          rcases List.mem_append.1 hp with hp | hp
          · exact h4 p hp
          · obtain rfl : p = _ := List.mem_singleton.1 hp
            exact ⟨by dsimp only; omega, by dsimp only; omega⟩
        · rw [if_neg c1]; exact .inl rfl
      · exact .inl (rstep_none hz k h)
theorem endP_ok {x : ByteArray} {l : List Pa} : endP x l = ([], 8) ∨ (endP x l = (l.map toR, 0) ∧ okFrom false ⟨#[]⟩ l ∧ x.data.toList = encFrom ⟨#[]⟩ l ∧ x.size ≤ 40000) := by
  unfold endP
  by_cases c1 : (buildP l).2 = 0
  · rw [if_pos c1]
    by_cases c2 : (buildP l).1.toList = x.toList
    · rw [if_pos c2]
      by_cases c3 : okFrom false ⟨#[]⟩ l
      · by_cases c4 : (encFrom ⟨#[]⟩ l).length ≤ 40000
        · rw [build_ok c3 c4, ba_tl, ba_tl, ba_mk] at c2
          exact .inr ⟨rfl, c3, c2.symm, by rw [← ba_sz, ← c2]; exact c4⟩
        · rw [build_long c3 (by omega)] at c1; exact absurd c1 (by decide)
      · rw [build_not c3] at c1; exact absurd c1 (by decide)
    · rw [if_neg c2]; exact .inl rfl
  · rw [if_neg c1]; exact .inl rfl
theorem rread_f (s : ByteArray) (hs : s.size ≤ 40000) (k : Nat) (hk : 3400000 < k) :
    (∃ l, s.data.toList = encFrom ⟨#[]⟩ l ∧ okFrom false ⟨#[]⟩ l ∧ block_Read.f k s = some (l, 0) ∧ moultref8_Read.f k s = some (l.map toR, 0)) ∨
    (block_Read.f k s = some ([], 8) ∧ moultref8_Read.f k s = some ([], 8)) := by
  have hz : (⟨#[]⟩ : ByteArray).size = 0 := rfl
  unfold moultref8_Read.f
  rcases read_f s k (by omega) with ⟨l, h0, h1, h2, h3⟩ | ⟨h1, h2⟩
  · refine .inl ⟨l, h1, h2, h3, ?_⟩
    have hle : (encFrom ⟨#[]⟩ l).length = s.size := by rw [← h1, ba_sz]
    have hsz := enc_sizes l ⟨#[]⟩
    have hlim : Lim l := ⟨by omega, fun p hp => by have := hsz.2 p hp; omega⟩
    have := rread_enc s l [] ⟨#[]⟩ s k h1 (by omega) (by simpa using hlim) (by omega)
    rw [List.map_nil, List.nil_append] at this
    rw [this]
    unfold endP
    rw [build_ok h2 (by omega), if_pos rfl, if_pos (by rw [ba_tl, ba_tl, ba_mk, h1])]
  · refine .inr ⟨h2, ?_⟩
    rcases rread_any s 40000 s ⟨#[]⟩ [] k hs (by omega) (by simp; omega) (by simp) (by omega) with h | ⟨l, _, h⟩
    · exact h
    · rw [List.map_nil] at h
      rw [h]
      rcases endP_ok (x := s) (l := l) with e | ⟨e, g1, g2, g3⟩
      · rw [e]
      · exact absurd ⟨l, g3, g2, g1⟩ h1
theorem rfind_l0 (key : ByteArray) (e : Int) (l : List Pa) (hl : l.length ≤ 100000) : ∀ (d i k : Nat), i + d = l.length → d < k →
    moultref8_Find.l0 k key (l.map toR) e (i : Int) = some (match (l.drop i).filter (soF key) with | [] => ((⟨#[]⟩ : ByteArray), false, e) | p :: _ => (p.f1, true, 0)) := by
  intro d
  induction d with
  | zero =>
    intro i k hi hk
    obtain ⟨k, rfl⟩ : ∃ m, k = m + 1 := ⟨k - 1, by omega⟩
    rw [moultref8_Find.l0, List.length_map, if_neg (by omega), List.drop_of_length_le (by omega)]; rfl
  | succ d ih =>
    intro i k hi hk
    obtain ⟨k, rfl⟩ : ∃ m, k = m + 1 := ⟨k - 1, by omega⟩
    rw [moultref8_Find.l0, List.length_map, if_pos (by omega), if_pos (by omega), rdR_map l i (by omega), List.drop_eq_getElem_cons (by omega), List.filter_cons]
    by_cases c : (toR l[i]).f0.toList = key.toList
    · have hs : soF key l[i] = true := by unfold soF; simp only [beq_iff_eq]; exact c
      rw [if_pos c, if_pos hs]; rfl
    · have hs : soF key l[i] = false := by
        cases h : soF key l[i] with
        | false => rfl
        | true => unfold soF at h; rw [beq_iff_eq] at h; exact absurd h c
      rw [if_neg c, hs, wrap_s (by omega), ih (i + 1) k (by omega) (by omega)]; rfl
theorem rfind_f (s key : ByteArray) (hs : s.size ≤ 40000) (k : Nat) (hk : 3400000 < k) : moultref8_Find.f k s key = block_Find.f k s key := by
  unfold moultref8_Find.f block_Find.f
  rcases rread_f s hs k hk with ⟨l, h1, h2, h3, h4⟩ | ⟨h3, h4⟩
  · have hle : (encFrom ⟨#[]⟩ l).length = s.size := by rw [← h1, ba_sz]
    have hsz := enc_sizes l ⟨#[]⟩
    rw [h3, h4, Option.bind_some, Option.bind_some]
    have := rfind_l0 key 0 l (by omega) l.length 0 k (by omega) (by omega)
    rw [show ((0 : Nat) : Int) = 0 from rfl, List.drop_zero] at this
    dsimp only
    rw [this, if_pos (by omega)]
    cases l.filter (soF key) <;> rfl
  · rw [h3, h4, Option.bind_some, Option.bind_some]
    have := rfind_l0 key 8 [] (by simp) 0 0 k (by simp) (by omega)
    rw [show ((0 : Nat) : Int) = 0 from rfl] at this
    dsimp only
    rw [List.map_nil] at this
    rw [this]; rfl
theorem rbetween_l0 (fr tt : ByteArray) (e : Int) (l : List Pa) (hl : l.length ≤ 100000) (hz : ∀ p ∈ l, p.f0.size ≤ 1000000) (hfr : fr.size ≤ 1000000) (htt : tt.size ≤ 1000000) : ∀ (d i k : Nat) (acc : List Pa), i + d = l.length → 3000000 + d < k → acc.length ≤ i →
    moultref8_Between.l0 k fr tt (l.map toR) e (acc.map toR) (i : Int) = some ((acc ++ (l.drop i).filter (soB fr tt)).map toR, e) := by
  intro d
  induction d with
  | zero =>
    intro i k acc hi hk ha
    obtain ⟨k, rfl⟩ : ∃ m, k = m + 1 := ⟨k - 1, by omega⟩
    rw [moultref8_Between.l0, List.length_map, if_neg (by omega), List.drop_of_length_le (by omega)]; simp
  | succ d ih =>
    intro i k acc hi hk ha
    obtain ⟨k, rfl⟩ : ∃ m, k = m + 1 := ⟨k - 1, by omega⟩
    have hzi := hz _ (List.getElem_mem (show i < l.length by omega))
    have hb : ∀ t : ByteArray, t.size ≤ 1000000 → moultref1_Bytes.f k (toR l[i]).f0 t = some (cmpL (bytesOf (toR l[i]).f0) (bytesOf t)) := fun t ht => bytes_f _ _ (by simp only [toR]; omega) (by omega) k (by simp only [toR]; omega)
    have c1 := cmp_bytes (toR l[i]).f0 fr
    have c2 := cmp_bytes (toR l[i]).f0 tt
    rw [moultref8_Between.l0, List.length_map, if_pos (by omega), if_pos (by omega), rdR_map l i (by omega), hb fr hfr, Option.bind_some, List.drop_eq_getElem_cons (by omega), List.filter_cons, List.length_map, wrap_s (by omega)]
    have yes : soB fr tt l[i] = true → moultref8_Between.l0 k fr tt (l.map toR) e ((acc.map toR) ++ [(⟨(toR l[i]).f0, (toR l[i]).f1⟩ : Ra)]) ((i + 1 : Nat) : Int) = some ((acc ++ if soB fr tt l[i] = true then l[i] :: (l.drop (i + 1)).filter (soB fr tt) else (l.drop (i + 1)).filter (soB fr tt)).map toR, e) := by
      intro h
      have := ih (i + 1) k (acc ++ [l[i]]) (by omega) (by omega) (by rw [List.length_append, List.length_singleton]; omega)
      rw [List.map_append] at this
      rw [if_pos h]
      simpa [toR] using this
    have no : soB fr tt l[i] = false → moultref8_Between.l0 k fr tt (l.map toR) e (acc.map toR) ((i + 1 : Nat) : Int) = some ((acc ++ if soB fr tt l[i] = true then l[i] :: (l.drop (i + 1)).filter (soB fr tt) else (l.drop (i + 1)).filter (soB fr tt)).map toR, e) := by
      intro h
      rw [if_neg (by rw [h]; decide)]
      exact ih (i + 1) k acc (by omega) (by omega) (by omega)
    have hso : soB fr tt l[i] = ((!(Op.bytesLess (toR l[i]).f0.toList fr.toList)) && ((tt.toList.isEmpty) || Op.bytesLess (toR l[i]).f0.toList tt.toList)) := rfl
    by_cases h1 : Op.bytesLess (toR l[i]).f0.toList fr.toList = true
    · have hn := c1.2 h1
      rw [if_neg (by omega)]
      exact no (by rw [hso, h1]; rfl)
    · have hn : ¬ cmpL (bytesOf (toR l[i]).f0) (bytesOf fr) < 0 := fun h => h1 (c1.1 h)
      have h1f : Op.bytesLess (toR l[i]).f0.toList fr.toList = false := by simpa using h1
      rw [if_pos (by omega)]
      by_cases h2 : tt.toList = []
      · rw [if_pos h2, if_pos (by omega)]
        exact yes (by rw [hso, h1f, h2]; rfl)
      · have h2f : tt.toList.isEmpty = false := by simpa using h2
        rw [if_neg h2, hb tt htt, Option.bind_some]
        by_cases h3 : Op.bytesLess (toR l[i]).f0.toList tt.toList = true
        · rw [if_pos (c2.2 h3), if_pos (by omega)]
          exact yes (by rw [hso, h1f, h2f, h3]; rfl)
        · rw [if_neg (fun h => h3 (c2.1 h))]
          exact no (by rw [hso, h1f, h2f]; simpa using h3)
theorem rbetween_f (s fr tt : ByteArray) (hs : s.size ≤ 40000) (hfr : fr.size ≤ 1000000) (htt : tt.size ≤ 1000000) (k : Nat) (hk : 3500000 < k) :
    ∃ l e, block_Between.f k s fr tt = some (l, e) ∧ moultref8_Between.f k s fr tt = some (l.map toR, e) ∧ l.length ≤ 40000 := by
  have hz : (⟨#[]⟩ : ByteArray).size = 0 := rfl
  unfold moultref8_Between.f
  rcases rread_f s hs k (by omega) with ⟨l, h1, h2, h3, h4⟩ | ⟨h3, h4⟩
  · have hle : (encFrom ⟨#[]⟩ l).length = s.size := by rw [← h1, ba_sz]
    have hsz := enc_sizes l ⟨#[]⟩
    refine ⟨_, _, between_f h3 (by omega), ?_, by have := List.length_filter_le (soB fr tt) l; omega⟩
    rw [h4, Option.bind_some]
    have := rbetween_l0 fr tt 0 l (by omega) (fun p hp => by have := hsz.2 p hp; omega) hfr htt l.length 0 k [] (by omega) (by omega) (by simp)
    rw [show ((0 : Nat) : Int) = 0 from rfl, List.drop_zero, List.map_nil, List.nil_append] at this
    exact this
  · refine ⟨_, _, between_f h3 (by simp), ?_, by simp⟩
    rw [h4, Option.bind_some]
    have := rbetween_l0 fr tt 8 [] (by simp) (by simp) hfr htt 0 0 k [] (by simp) (by omega) (by simp)
    rw [show ((0 : Nat) : Int) = 0 from rfl] at this
    simpa using this
end Go.Proofs.Ytbhainkcdkgbbaa.Pure

end
