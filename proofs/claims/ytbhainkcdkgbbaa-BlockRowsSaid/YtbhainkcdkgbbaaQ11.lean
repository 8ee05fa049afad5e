import Derived.Below
import Derived.Deep.Draws
import Derived.Deep.AppendLies
import Derived.Maps.AppendAt
import Derived.OwnWalk
import Derived.Laws.BytesArg
import Derived.Laws.MakeOwn
import Derived.Laws.OwnMore
import Derived.Deep.OwnRows
import Derived.Tactics
import Derived.Lib.ConvBytes
import Derived.Laws.Slices
import Derived.WalkKit
import Derived.KernelRfl
import Derived.RowKit3
import Derived.Deep.LoopGhost
import Derived.Deep.QuietTactic
import Derived.BigQuiet
import Derived.WideLaws
import Derived.Deep.DeepCutAuto
import Derived.Deep.CutBlock
import Derived.Deep.RegionHeld3
import Derived.Laws.Rows
import Derived.Lib.AppendStr
import Derived.ArgAppend
import Derived.Laws.IdiomCopy
import Derived.RowKit
import Derived.OrdersHeld
import Derived.Laws.BitsLemmas
import Derived.Test.YtbhainkcdkgbbaaProg
import Derived.Lib.Hide
import Derived.Laws.ShiftsVar
import Derived.Laws.ShiftsVarLaws
import Derived.Laws.BitsAllLaws
import Derived.Shelf.Strings.Builder1
import Derived.Laws.Strings
import Derived.Laws.StructEq
import Derived.WalkSpells
import Derived.Outline
import Derived.RegionTactic
import Derived.Deep.RegionWith
import Derived.StillTailTactics
import Derived.Test.YtbhainkcdkgbbaaQ0
import Derived.Test.YtbhainkcdkgbbaaQ1
import Derived.Test.YtbhainkcdkgbbaaQ8
import Derived.Test.YtbhainkcdkgbbaaQ9
import Derived.Test.YtbhainkcdkgbbaaQ10
namespace Go.Proofs.Ytbhainkcdkgbbaa.Sl
end Go.Proofs.Ytbhainkcdkgbbaa.Sl
namespace Go.Proofs.Ytbhainkcdkgbbaa.Vp
end Go.Proofs.Ytbhainkcdkgbbaa.Vp
namespace Go.Proofs.YtbhainkcdkgbbaaW.PrintLast
end Go.Proofs.YtbhainkcdkgbbaaW.PrintLast
namespace Go.Proofs.YtbhainkcdkgbbaaW.PrintMore
end Go.Proofs.YtbhainkcdkgbbaaW.PrintMore
namespace Go.Proofs.YtbhainkcdkgbbaaW.PrintWords
end Go.Proofs.YtbhainkcdkgbbaaW.PrintWords
section
set_option linter.unusedVariables false
set_option linter.unusedSimpArgs false
namespace Go.Proofs.YtbhainkcdkgbbaaW.PrintWords
open Go.RowKit
namespace Kd
theorem M_row {α : Type} {d : Kd α} {e base : Nat} {ok : Nat → Prop} {w : World} {v : Value} {xs : List α} (h : d.R e w base ok v xs) : (slice e d).M w base ok xs [v] := ⟨v, rfl, h⟩
end Kd
section
variable {w w1 : World} {base n size : Nat} {e : TypeId} {v : Value} {xs : List Value}
theorem add_at (g o j : Nat) : (⟨g, o, none⟩ : Addr).add j = ⟨g, o + j, none⟩ := by unfold Addr.add; split <;> simp_all
end
namespace Kd
section
variable {α : Type} {d : Kd α} {e e' : Nat} {w w1 W : World} {base : Nat} {ok : Nat → Prop} {u v : Value} {xs : List α}
theorem R_apart' (h : d.R e W base ok u xs) (hty : ∀ k, v.ownBlock = some k → ∃ cells, W.heap[k]? = some (.cells cells e' (0, 0))) (ht : ∀ q, q ∈ e :: d.E → q ≠ e') : d.R e W base (fun k => ok k ∧ some k ≠ v.ownBlock) u xs := by
  refine R_mono (R_bound h) (fun k hk => ⟨hk.1, fun he => ?_⟩)
  obtain ⟨_, _, _, q, hq, cells, hc⟩ := hk
  obtain ⟨cells', hc'⟩ := hty k he.symm
  rw [hc] at hc'
  injection hc' with hc'
  injection hc' with _ hc'
  exact ht q hq hc'
end
end Kd
namespace Kd
section
variable {α : Type} {d : Kd α} {e base g n cap : Nat} {ok okp : Nat → Prop} {W : World} {xs : List α}
theorem R_elem (h : d.R e W base ok (.slice (some ⟨g, 0, none⟩) n cap) xs) (z : α) (i : Int) (h0 : 0 ≤ i) (h1 : i < n) :
    ∃ c, c.length = d.sz ∧ d.M W base (fun k => ok k ∧ k ≠ g) (xs.getD i.toNat z) c ∧ (∀ j u, c[j]? = some u → W.cell? ⟨g, i.toNat * d.sz + j, none⟩ = some u) ∧ ∀ j, W.frozen? ⟨g, i.toNat * d.sz + j, none⟩ = false := by
  obtain ⟨hn, hnc, hC⟩ := R_reads' h
  obtain ⟨_, inner, ho, hr⟩ := h
  have hil : i.toNat < xs.length := by omega
  have hseg : i.toNat * d.sz + d.sz ≤ inner.length := by rw [hr.1, ← Nat.succ_mul]; exact Nat.mul_le_mul_right _ hil
  have hM := hr.2 i.toNat _ (List.getElem?_eq_getElem hil)
  refine ⟨(inner.drop (i.toNat * d.sz)).take d.sz, by rw [List.length_take, List.length_drop]; omega, ?_, fun j u hu => ?_, fun j => ?_⟩
  · rw [List.getD_eq_getElem?_getD, List.getElem?_eq_getElem hil]
    exact d.M_mono (fun k hk => ⟨hk.1, fun he => hk.2 (by rw [he]; simp [Value.ownBlock])⟩) hM
  · rw [List.getElem?_take] at hu
    split at hu
    · rw [List.getElem?_drop] at hu
      have := ho.cells (g := g) (by simp [Value.ownBlock]) _ u hu
      rwa [add_plain] at this
    · cases hu
  · obtain ⟨cells, hc⟩ := own_typed ho g (by simp [Value.ownBlock])
    exact blk_frozen hc _
end
end Kd
namespace Kd
section
variable {α : Type} {k : Kd α} {w : World} {A : Option Addr} {xs : List α} {m c : Nat}
theorem C_mid {lo hi : Nat} (h : k.C w A xs.length xs) (h1 : lo ≤ hi) (h2 : hi ≤ xs.length) (hc : xs.length ≤ c) : k.C w (if c = lo then A else A.map (·.add (lo * k.sz))) ((xs.take hi).drop lo).length ((xs.take hi).drop lo) := by
  have hl : (xs.take hi).length = hi := by rw [List.length_take]; omega
  exact C_drop (C_take h h2) (by omega) (by omega)
end
end Kd
section
variable {P : Program}
theorem cut_mid (t e : TypeId) (kl kh : IntKind) {i : TypeInfo} (ht : P.underlying t = some (.slice e)) (hi : P.info? e = some i) (size : Nat) (hsz : i.size = size) (A : Option Addr) (n c : Nat) (lo hi' : Int) (h0 : 0 ≤ lo) (h1 : lo ≤ hi') (h2 : hi' ≤ n) (hc : n ≤ c) :
    ∀ W : World, (Instr.slice t (.slice A n c) (some (.int kl lo)) (some (.int kh hi')) none).run P W = .ok (.slice (if c = lo.toNat then A else A.map (·.add (lo.toNat * size))) (hi'.toNat - lo.toNat) (c - lo.toNat)) W := by
  intro W
  have hel : P.elem t = e := by simp [Program.elem, ht]
  have hu : P.underlying t = some (.slice (P.elem t)) := by rw [hel]; exact ht
  rw [run_slice_lh W t A n c hu kl kh lo hi' h0 h1 (by omega), hel]
  simp [sizeOf, typeInfo, hi, hsz, sliced, Result.andThen]
end
namespace Kd
section
variable {α : Type} {d : Kd α} {e base g : Nat} {ok : Nat → Prop} {w w1 : World} {v : Value} {xs : List α} {o : Obj}
theorem R_newB (h : d.R e w1 w.heap.size ok v xs) (hb : w.heap[g]? = some o) : d.R e w1 w.heap.size (fun k => ok k ∧ k ≠ g) v xs := R_mono (R_bound h) (fun k hk => ⟨hk.1, by have := blk_lt hb; have := hk.2.1; omega⟩)
end
end Kd
section
variable {P : Program} {ops : Array Oper} {rest : List Oper} {o : Oper} {a : Act} {Q : Exit → Act → World → Prop}
theorem store_event {W w1 : World} (hgd : o.guard = none) {t : TypeId} {p : Tmp} {v : Operand} (_ho : o.op = .store t (.tmp p) v) (hN : o.dst = none)
    (hrun : (execOp a.eval o).run P W = .ok .skip w1) (h : ∀ w', w' = w1 → wpList P ops Q rest a w') : wpList P ops Q (o :: rest) a W := by
  refine wpList_plain hgd fun K hK => ?_
  unfold Oper.wp
  rw [hrun]
  show K (a.put o.dst undef) w1
  rw [hN]
  exact hK _ _ (h _ rfl)
end
section
variable {P : Program} {ops : Array Oper} {rest : List Oper} {o : Oper} {a : Act} {Q : Exit → Act → World → Prop} {W : World}
theorem gate_store {t : TypeId} {p : Tmp} {v : Operand} (_ho : o.op = .store t (.tmp p) v) (h : wpList P ops Q (o :: rest) a W) : wpList P ops Q (o :: rest) a W := h
end
end Go.Proofs.YtbhainkcdkgbbaaW.PrintWords

end
section
namespace Go.Proofs.YtbhainkcdkgbbaaW.PrintWords
open Go.RowKit
namespace Kd
section
variable {α β : Type} {d : Kd α} {d' : Kd β} {e e' : Nat} {w w1 W : World} {base b : Nat} {ok ok' okv oku : Nat → Prop} {u v : Value} {xs : List α} {ys : List β}
theorem zip_at {xs : List α} {j : Nat} {p : α} (h : xs[j]? = some p) : xs.zipIdx[j]? = some (p, j) := by rw [List.getElem?_zipIdx, h, Nat.zero_add]; rfl
theorem S_R (h : S d e w base ok v xs) : d.R e w base ok v xs := by
  obtain ⟨f, h0, inner, ho, hr⟩ := h
  rw [List.length_zipIdx] at ho
  exact ⟨h0, inner, ho, by have := hr.1; rw [List.length_zipIdx] at this; exact this, fun j p hj => d.M_mono (fun _ hk => hk.1) (hr.2 j (p, j) (zip_at hj))⟩
theorem R_head {ad : Addr} {n cap : Nat} (h : d.R e w base ok (.slice (some ad) n cap) xs) : ∃ g, ad = ⟨g, 0, none⟩ := by
  obtain ⟨_, inner, ho, hr⟩ := h
  rcases ho.2 with ⟨hv, _⟩ | ⟨g, cap', cur, hv, _⟩
  · cases hv
  · injection hv with ha _ _
    injection ha with ha
    exact ⟨g, ha⟩
theorem R_tight (hE : d.E = []) (h : d.R e w base ok v xs) : d.R e w base (fun k => some k = v.ownBlock) v xs := by
  obtain ⟨h0, inner, ho, hr⟩ := h
  refine ⟨fun k hk => hk.symm, inner, ho, hr.imp_ (fun p c hp => d.M_mono (fun k hk => ?_) (d.M_bound hp))⟩
  obtain ⟨_, _, _, q, hq, _⟩ := hk
  rw [hE] at hq
  cases hq
theorem S_mono (h : S d e w base ok v xs) (hok : ∀ k, ok k → ok' k) : S d e w base ok' v xs := by
  obtain ⟨f, h⟩ := h
  exact ⟨f, R_mono h hok⟩
theorem S_bound (h : S d e w base ok v xs) : S d e w base (fun k => ok k ∧ base ≤ k ∧ k < w.heap.size ∧ ∃ q, q ∈ e :: d.E ∧ ∃ cells, w.heap[k]? = some (.cells cells q (0, 0))) v xs := by
  obtain ⟨f, h⟩ := h
  exact ⟨f, R_bound h⟩
theorem S_move (h : S d e w base ok v xs) (hm : ∀ k, ok k → w1.heap[k]? = w.heap[k]?) : S d e w1 base ok v xs := by
  obtain ⟨f, h⟩ := h
  exact ⟨f, R_move h hm⟩
theorem S_step (h : S d e w base ok v xs) (hm : ∀ k, ok k → k < w.heap.size → w1.heap[k]? = w.heap[k]?) : S d e w1 base ok v xs :=
  S_mono (S_move (S_bound h) (fun k hk => hm k hk.1 hk.2.2.1)) (fun _ hk => hk.1)
theorem S_below (h : S d e w base ok v xs) (hb : Below w.heap.size w w1) : S d e w1 base ok v xs := S_step h (fun k _ hk => hb.block k hk)
theorem S_alloc (h : S d e w base ok v xs) (o : Obj) : S d e (w.alloc o) base ok v xs := S_below h (below_alloc (Below.refl _ _) o)
theorem S_drew (h : S d e w base ok v xs) : S d e w.drew base ok v xs := S_below h (below_drew (Below.refl _ _))
theorem S_drewN (h : S d e w base ok v xs) (m : Nat) : S d e (w.drewN m) base ok v xs := S_below h (pw_below_drewN (Below.refl _ _) m)
theorem S_far (h : S d e w base ok v xs) {p : Addr} (hok : ∀ k, ok k → k ≠ p.block) (u : Value) : S d e (w.setCell p u) base ok v xs := S_step h (fun k ho _ => Below.heap_setCell w p u k (hok k ho))
theorem S_typed (h : S d e w base ok v xs) : ∀ k, v.ownBlock = some k → ∃ cells, w.heap[k]? = some (.cells cells e (0, 0)) := R_typed (S_R h)
theorem S_elder' (h : S d e W base ok u xs) (hbase : ∀ k, v.ownBlock = some k → W.heap.size ≤ k) (hb : Below W.heap.size W w1) : S d e w1 base (fun k => ok k ∧ some k ≠ v.ownBlock) u xs := by
  obtain ⟨f, h⟩ := h
  exact ⟨f, R_elder' h hbase hb⟩
theorem R_tag {f f' : Nat → Nat} {zs : List (α × Nat)} (h : (tag f d).R e w base ok v zs) (hf : ∀ k, ok k → k < w.heap.size → f' k = f k) : (tag f' d).R e w base ok v zs := by
  obtain ⟨h0, inner, ho, hr⟩ := R_bound h
  exact ⟨fun k hk => (h0 k hk).1, inner, ho, hr.1, fun j p hj => d.M_mono (fun k hk => ⟨⟨hk.1.1.1, hk.1.2⟩, (hf k hk.1.1.1 hk.1.1.2.2.1).trans hk.2⟩) (hr.2 j p hj)⟩
end
section
variable {α β : Type} {d : Kd α} {d' : Kd β} {e e' g : Nat} {w w1 W : World} {base b : Nat} {ok ok' okv oku : Nat → Prop} {u v : Value} {xs : List α} {ys : List β}
theorem S_ne (h : S d e w base ok v xs) {t : Nat} {cells : Array Value} (hb : w.heap[g]? = some (.cells cells t (0, 0))) (ht : e ≠ t) : some g ≠ v.ownBlock := R_ne (S_R h) hb ht
theorem S_elderB (h : S d e w base ok v xs) (a : Nat) (ha : w.heap.size ≤ a) : S d e w base (fun k => ok k ∧ k ≠ a) v xs := S_mono (S_bound h) (fun k hk => ⟨hk.1, by have := hk.2.2.1; omega⟩)
theorem zip_snoc (xs : List α) (p : α) : (xs ++ [p]).zipIdx = xs.zipIdx ++ [(p, xs.length)] := by rw [List.zipIdx_append]; simp
end
section
open Classical in
theorem S_tag {α : Type} {d : Kd α} {e base : Nat} {okv : Nat → Prop} {w : World} {v : Value} {xs : List α} (h : S d e w base okv v xs) (m : Nat) (okp : Nat → Prop) (hap : ∀ k, okp k → ¬ okv k) : ∃ f, (∀ k, okp k → f k = m) ∧ (tag f d).R e w base okv v xs.zipIdx := by
  obtain ⟨f, h⟩ := h
  exact ⟨fun k => if okp k then m else f k, fun k hk => if_pos hk, R_tag h (fun k hk _ => if_neg (fun h2 => hap k h2 hk))⟩
variable {P : Program} {ops : Array Oper} {rest : List Oper} {o : Oper} {a : Act} {Q : Exit → Act → World → Prop} {Kc : Act → World → Prop} {α : Type}
theorem S_append (d : Kd α) {w0 W : World} (base : Nat) (hgd : o.guard = none) (s x : Operand) (t e : TypeId) (z : Value) (bytes : Nat)
    (ho : o.op = .call { callee := .builtin .append, args := #[s, x], argTypes := #[t, t] })
    (ht : P.underlying t = some (.slice e)) (hinfo : (P.info? e).map (fun i => (i.zero, i.size, i.bytes)) = some (some z, d.sz, bytes)) (hz : z.cells.size = d.sz) (hs0 : 0 < d.sz) (hb0 : 0 < bytes)
    (v : Value) (xs : List α) (p : α) (cs : List Value) (ok okp : Nat → Prop) (hs : a.eval s = v) (hx : a.eval x = .slice (some ⟨W.heap.size, 0, none⟩) 1 1) (hp : d.M W base okp p cs) (hokp : ∀ k, okp k → ok k ∧ some k ≠ v.ownBlock) (hfresh : ∀ k, W.heap.size ≤ k → ok k)
    (HO : S d e W base (fun k => ok k ∧ ¬ okp k) v xs) (HB : Below base w0 W) (hbase : base ≤ W.heap.size) (hl : (xs.length + 1) * bytes ≤ 140737488355328)
    (h : ∀ v1 w1, S d e w1 base ok v1 (xs ++ [p]) → Below base w0 w1 → W.grownBy w1 v.ownBlock → (v1.ownBlock = v.ownBlock ∨ ∃ b, v1.ownBlock = some b ∧ W.heap.size ≤ b) → wpList P ops Q rest (a.put o.dst v1) w1) :
    wpList P ops Q (o :: rest) a (W.alloc (.cells cs.toArray e)) := by
  obtain ⟨f, hf, hR⟩ := S_tag HO xs.length okp (fun _ hk h2 => h2.2 hk)
  refine R_append (tag f d) base hgd s x t e z bytes ho ht hinfo hz hs0 hb0 v xs.zipIdx (p, xs.length) cs ok okp hs hx (d.M_mono (fun k hk => ⟨hk, hf k hk⟩) hp) hokp hfresh (R_mono hR (fun _ hk => hk.1)) HB hbase (by rw [List.length_zipIdx]; exact hl) ?_
  intro v1 w1 hr
  rw [← zip_snoc] at hr
  exact h v1 w1 ⟨f, hr⟩
end
end Kd
end Go.Proofs.YtbhainkcdkgbbaaW.PrintWords

end
section
namespace Go.Proofs.Ytbhainkcdkgbbaa.P
open Go.RowKit Go.Proofs.Ytbhainkcdkgbbaa.Vp Go.Proofs.Ytbhainkcdkgbbaa.Sl Go.Proofs.YtbhainkcdkgbbaaW.PrintWords Go.Proofs.YtbhainkcdkgbbaaW.PrintLast Go.Proofs.YtbhainkcdkgbbaaW.PrintMore
attribute [local go_sem] str_gtr str_leq str_geq max2_int min2_int max_two min_two max_three min_three max_four min_four
set_option linter.unusedVariables false
set_option linter.unusedSimpArgs false
theorem info23 : (Try.prog.info? 23).map (fun i => (i.zero, i.size, i.bytes)) = some (some (.slice none 0 0), 1, 24) := by kernel_rfl
def rd_L5 (xs : List (List S43)) (i : Int) : (List S43) := xs.getD i.toNat ([] : List S43)
theorem at_L5 {w : World} {A : Option Addr} {n : Nat} {xs : List (List S43)} (h : Kd.C (Kd.slice 43 k43) w A n xs) (i : Int) (h0 : 0 ≤ i) (h1 : i < n) : ∃ ad A0 c0, A = some ad ∧ w.cell? (ad.add i.toNat) = some (.slice A0 (rd_L5 xs i).length c0) ∧ (rd_L5 xs i).length ≤ c0 ∧ k43.C w A0 (rd_L5 xs i).length (rd_L5 xs i) := by
  obtain ⟨ad, c, e, _, hK, hc0⟩ := Kd.C_get h ([] : List S43) i h0 h1
  have hc : ∀ j u, c[j]? = some u → w.cell? (ad.add (i.toNat * 1 + j)) = some u := hc0
  obtain ⟨A0, c0, rfl, l0, g0⟩ := hK
  exact ⟨ad, A0, c0, e, by have hq := hc 0 _ rfl; rwa [Nat.mul_one, Nat.add_zero] at hq, l0, g0⟩
end Go.Proofs.Ytbhainkcdkgbbaa.P

end
section
namespace Go.Proofs.Ytbhainkcdkgbbaa.P
open Go.RowKit Go.Proofs.Ytbhainkcdkgbbaa.Vp Go.Proofs.Ytbhainkcdkgbbaa.Sl Go.Proofs.YtbhainkcdkgbbaaW.PrintWords Go.Proofs.YtbhainkcdkgbbaaW.PrintLast Go.Proofs.YtbhainkcdkgbbaaW.PrintMore
attribute [local go_sem] str_gtr str_leq str_geq max2_int min2_int max_two min_two max_three min_three max_four min_four
set_option linter.unusedVariables false
set_option linter.unusedSimpArgs false
theorem k43_KM (W W1 : World) (b : Nat) (ok : Nat → Prop) (x : S43) (cs : List Value) (hp : Kd.K k43 W x cs) : Kd.M k43 W1 b ok x cs := by
  obtain rfl := k43_open hp
  exact k43_mkM _ _ _ x
def block_Pair.f (l0 : List S43) : Option (List S43) := if l0.length < 4398046511104 then some l0 else none
set_option maxHeartbeats 1600000 in
theorem block_Pair.calls (A0 : Option Addr) (c0 : Nat) (l0 : List S43) (r : List S43) (w : World) (hr0 : Kd.C k43 w A0 l0.length l0) (hc0 : l0.length ≤ c0) (h : block_Pair.f l0 = some r) :
    Calls Try.prog 39 #[.slice A0 l0.length c0] w fun e w' => ∃ v0_ : Value, e = .returned (v0_) ∧ Kd.R k43 43 w' w.heap.size (fun _ => True) v0_ r ∧ Below w.heap.size w w' := by
  unfold block_Pair.f at h
  split at h
  case isFalse => cases h
  case isTrue hl =>
  obtain rfl := Option.some.inj h
  clear h
  have hnil := fun (W : World) (a : Option Addr) (n c : Nat) => Lib.run_eql_slice_nil (P := Try.prog) W 23 43 a n c 0 0 Try.underlying23
  cases A0 with
  | none =>
    have hz : l0 = [] := by
      rcases Nat.eq_zero_or_pos l0.length with h0 | h0
      · exact List.eq_nil_of_length_eq_zero h0
      · obtain ⟨ad, h1, _⟩ := hr0.2.2 h0
        cases h1
    subst hz
    go_enter Try.func39, Try.ntmps39
    go_wp2
    go_ret
    exact ⟨_, rfl, Kd.R_nil _ _ _ _ _, Below.refl _ _⟩
  | some ad =>
    have HR0 := Aside0.mk hr0
    have HL := Aside0.mk hl
    clear hr0 hl
    go_enter Try.func39, Try.ntmps39
    go_wp2_with (first | ((with_reducible refine gate_dst (N := 5) rfl ?_); refine Kd.R_lit k43 (w0 := w) w.heap.size 43 rfl (N := 5) rfl (xs := ([] : List S43)) (inner := []) (ok := fun _ => True) (okp := fun _ => True) (by first | (go_simp; done) | (go_simp; rfl)) (Reps.none _ _) (fun _ hk => hk) trivial (Below.refl _ _) (Nat.le_refl _) (by simp) ?_; intro v1 w1 ho1 hb1 hg1 hnew; have HO1 := Aside0.mk ho1; have HB1 := Aside0.mk hb1; clear ho1 hb1 hg1 hnew) | ((with_reducible refine gate_dst (N := 7) rfl ?_); refine Kd.R_append_rows k43 (Rr := Kd.K k43 w1) (w0 := w) w.heap.size rfl (.tmp 5) (.tmp 6) 23 43 (.agg #[(.string ⟨#[]⟩), (.string ⟨#[]⟩)]) 32 rfl Try.underlying23 info43 rfl (by decide) (by omega) v1 [] l0 (some ad) l0.length c0 (fun _ => True) (fun _ => False) rfl rfl HO1.out (Kd.C_below HR0.out HB1.out) (k43_KM w1 _ _ _) (fun _ h => h.elim) (fun _ _ => trivial) HB1.out HB1.out.size (by have := HL.out; simp; omega) ?_; intro v2 w2 ho2 hb2 hg2 hat))
    go_wp2
    go_ret
    exact ⟨_, rfl, ho2, hb2⟩
end Go.Proofs.Ytbhainkcdkgbbaa.P

end
section
namespace Go.Proofs.Ytbhainkcdkgbbaa.P
open Go.RowKit Go.Proofs.Ytbhainkcdkgbbaa.Vp Go.Proofs.Ytbhainkcdkgbbaa.Sl Go.Proofs.YtbhainkcdkgbbaaW.PrintWords Go.Proofs.YtbhainkcdkgbbaaW.PrintLast Go.Proofs.YtbhainkcdkgbbaaW.PrintMore
attribute [local go_sem] str_gtr str_leq str_geq max2_int min2_int max_two min_two max_three min_three max_four min_four
set_option linter.unusedVariables false
set_option linter.unusedSimpArgs false
def block_Split.l0 : Nat → List (S43) → Int → List (List (S43)) → Int → Int → List (S43) → Int → Int → Option ((List (List (S43))))
  | 0, _, _, _, _, _, _, _, _ => none
  | k + 1, x0, x1, x5, x6, x7, x10, x11, x12 => if x12 < x11 then (if 0 ≤ x12 then (if x12 < (x10.length : Int) then (if (wrap64 (x7 + (wrap64 ((((rd_T43 x10 x12).f0).size : Int) + (((rd_T43 x10 x12).f1).size : Int))))) ≥ x1 then (if 0 ≤ x6 then (if x6 ≤ (wrap64 (x12 + 1)) then (if (wrap64 (x12 + 1)) ≤ (x0.length : Int) then ((block_Pair.f ((x0.take ((wrap64 (x12 + 1)) : Int).toNat).drop (x6 : Int).toNat)).bind fun t372 => (if x5.length < 5864062014805 then (block_Split.l0 k x0 x1 (x5 ++ [t372]) (wrap64 (x12 + 1)) 0 x10 x11 (wrap64 (x12 + 1))) else (none))) else (none)) else (none)) else (none)) else (if x12 = (wrap64 ((x0.length : Int) - 1)) then (if 0 ≤ x6 then (if x6 ≤ (wrap64 (x12 + 1)) then (if (wrap64 (x12 + 1)) ≤ (x0.length : Int) then ((block_Pair.f ((x0.take ((wrap64 (x12 + 1)) : Int).toNat).drop (x6 : Int).toNat)).bind fun t382 => (if x5.length < 5864062014805 then (block_Split.l0 k x0 x1 (x5 ++ [t382]) (wrap64 (x12 + 1)) 0 x10 x11 (wrap64 (x12 + 1))) else (none))) else (none)) else (none)) else (none)) else (block_Split.l0 k x0 x1 x5 x6 (wrap64 (x7 + (wrap64 ((((rd_T43 x10 x12).f0).size : Int) + (((rd_T43 x10 x12).f1).size : Int))))) x10 x11 (wrap64 (x12 + 1))))) else (none)) else (none)) else (some x5)
def block_Split.f (k : Nat) (l0 : List (S43)) (a1 : Int) : Option ((List (List (S43)))) := block_Split.l0 k l0 a1 ([] : List (List (S43))) 0 0 l0 (l0.length : Int) 0
theorem block_Split.mono_l : ∀ k, (∀ y0 y1 y2 y3 y4 y5 y6 y7, LeO (block_Split.l0 k y0 y1 y2 y3 y4 y5 y6 y7) (block_Split.l0 (k + 1) y0 y1 y2 y3 y4 y5 y6 y7))
  | 0 => fun _ _ _ _ _ _ _ _ r h => by simp [block_Split.l0] at h
  | k + 1 => by
    have ih0 := block_Split.mono_l k
    · intro y0 y1 y2 y3 y4 y5 y6 y7
      unfold block_Split.l0
      repeat' first
      | (with_reducible exact ih0 _ _ _ _ _ _ _ _)
      | (with_reducible exact LeO.refl _)
      | (with_reducible exact LeO.none _)
      | (with_reducible refine LeO.ite ?_ ?_)
      | (with_reducible refine LeO.bind ?_ (fun _ => ?_))
      | exact ih0 _ _ _ _ _ _ _ _
      | exact LeO.none _
      | refine LeO.ite ?_ ?_
      | refine LeO.bind ?_ (fun _ => ?_)
theorem block_Split.mono : ∀ a0 a1 k, LeO (block_Split.f k a0 a1) (block_Split.f (k + 1) a0 a1) := by
  intro a0 a1 k
  have ih0 := block_Split.mono_l k
  unfold block_Split.f
  repeat' first
      | (with_reducible exact ih0 _ _ _ _ _ _ _ _)
      | (with_reducible exact LeO.refl _)
      | (with_reducible exact LeO.none _)
      | (with_reducible refine LeO.ite ?_ ?_)
      | (with_reducible refine LeO.bind ?_ (fun _ => ?_))
      | exact ih0 _ _ _ _ _ _ _ _
      | exact LeO.none _
      | refine LeO.ite ?_ ?_
      | refine LeO.bind ?_ (fun _ => ?_)
set_option maxHeartbeats 8000000 in
set_option maxRecDepth 100000 in
theorem block_Split.calls (k : Nat) (A0 : Option Addr) (c0 : Nat) (l0 : List (S43)) (a1 : Int) (r : List (List (S43))) (w : World) (hr0 : Kd.C k43 w A0 l0.length l0) (hc0 : l0.length ≤ c0) (h : block_Split.f k l0 a1 = some r) :
    Calls Try.prog 23 #[.slice A0 l0.length c0, .int .i64 a1] w fun e w' => ∃ v0_ : Value, e = .returned (v0_) ∧ Kd.S (Kd.slice 43 k43) 23 w' w.heap.size (fun _ => True) v0_ r ∧ Below w.heap.size w w' := by
  have hu43 := Try.underlying43
  have HR0 := Aside0.mk hr0
  have HC0 := Aside0.mk hc0
  clear hr0 hc0
  have HB := Aside0.mk (Below.refl w.heap.size w)
  have H : (block_Split.l0 k l0 a1 ([] : List (List (S43))) 0 0 l0 (l0.length : Int) 0) = some r := h
  clear h
  have H' := Aside0.mk H
  clear H
  go_enter Try.func23, Try.ntmps23
  go_wp2
  go_loopg [5, 6, 7, 12] k (fun kq v5 v6 v7 v12 w' => ∃ (x5_1 : List (List (S43))) (x6_1 : Int) (x7_1 : Int) (x12_1 : Int), v6 = .int .i64 x6_1 ∧ v7 = .int .i64 x7_1 ∧ v12 = .int .i64 x12_1 ∧ Aside0 (block_Split.l0 kq l0 a1 x5_1 x6_1 x7_1 l0 (l0.length : Int) x12_1 = some r) ∧ Aside0 (kq ≤ k) ∧ Aside0 (Kd.S (Kd.slice 43 k43) 23 w' w.heap.size (fun _ => True) v5 x5_1) ∧ Aside0 (Below w.heap.size w w'))
  case atStart => exact ⟨(([] : List (List (S43)))), (0), (0), (0), (by first | rfl | (simp; done) | (simp [*]; done)), (by first | rfl | (simp; done) | (simp [*]; done)), (by first | rfl | (simp; done) | (simp [*]; done)), H', ⟨Nat.le_refl _⟩, ⟨by first | exact Kd.S_nil _ _ _ _ _ | exact Kd.N_nil _ _ _ _ _ | exact Kd.V_nil _ _ _ _ _ | exact Kd.Q_nil _ _ _ _ _ | exact Kd.R_nil _ _ _ _ _⟩, ⟨by repeat (first | (with_reducible first | exact HB.out | apply below_alloc | apply pw_below_drewN | apply below_drew1) | exact HB.out)⟩⟩
  case round =>
    clear H'
    try clear c2
    try clear p2
    obtain ⟨x5_1, x6_1, x7_1, x12_1, rfl, rfl, rfl, HA, HK1, HO_5, HB⟩ := hrel
    cases gk with
    | zero => exact absurd HA.out (by simp [block_Split.l0])
    | succ k1 =>
      have H := HA.out
      clear HA
      simp only [block_Split.l0] at H
      by_cases c3 : x12_1 < (l0.length : Int)
      · rw [if_pos c3] at H
        have c3b0 : decide (x12_1 < (l0.length : Int)) = true := decide_eq_true c3
        clear c3
        by_cases c4 : 0 ≤ x12_1
        · rw [if_pos c4] at H
          have c4b0 : decide (0 ≤ x12_1) = true := decide_eq_true c4
          clear c4
          by_cases c5 : x12_1 < (l0.length : Int)
          · rw [if_pos c5] at H
            have c5b0 : decide (x12_1 < (l0.length : Int)) = true := decide_eq_true c5
            clear c5
            by_cases c6 : (wrap64 (x7_1 + (wrap64 ((((rd_T43 l0 x12_1).f0).size : Int) + (((rd_T43 l0 x12_1).f1).size : Int))))) ≥ a1
            · rw [if_pos c6] at H
              have c6b0 : decide (a1 ≤ (wrap64 (x7_1 + (wrap64 ((((rd_T43 l0 x12_1).f0).size : Int) + (((rd_T43 l0 x12_1).f1).size : Int)))))) = true := decide_eq_true c6
              clear c6
              by_cases c7 : 0 ≤ x6_1
              · rw [if_pos c7] at H
                have c7b0 := eq_true c7
                have c7b1 : decide (0 ≤ x6_1) = true := decide_eq_true c7
                clear c7
                by_cases c8 : x6_1 ≤ (wrap64 (x12_1 + 1))
                · rw [if_pos c8] at H
                  have c8b0 := eq_true c8
                  have c8b1 : decide (x6_1 ≤ (wrap64 (x12_1 + 1))) = true := decide_eq_true c8
                  by_cases c9 : (wrap64 (x12_1 + 1)) ≤ (l0.length : Int)
                  · rw [if_pos c9] at H
                    have c9b0 := eq_true c9
                    have c9b1 : decide ((wrap64 (x12_1 + 1)) ≤ (l0.length : Int)) = true := decide_eq_true c9
                    obtain ⟨y368, hy368⟩ : ∃ y_ : List (S43), y_ = ((l0.take ((wrap64 (x12_1 + 1)) : Int).toNat).drop (x6_1 : Int).toNat) := ⟨_, rfl⟩
                    replace H : ((block_Pair.f y368).bind fun t372 => (if x5_1.length < 5864062014805 then (block_Split.l0 k1 l0 a1 (x5_1 ++ [t372]) (wrap64 (x12_1 + 1)) 0 l0 (l0.length : Int) (wrap64 (x12_1 + 1))) else (none))) = some r := by first | (rw [hy368]; with_reducible exact H) | (have H2_ := (Option.bind_some _ _).symm.trans H; rw [hy368]; with_reducible exact H2_) | (have H2_ := (Option.bind_some _ _).symm.trans H; with_reducible exact H2_) | with_reducible exact H | (rw [hy368]; exact H) | exact H
                    have Ny368 := Aside0.mk hy368
                    clear hy368
                    replace H := Option.bind_eq_some_iff.mp H
                    obtain ⟨t372, A100, H⟩ := H
                    replace H : (if x5_1.length < 5864062014805 then (block_Split.l0 k1 l0 a1 (x5_1 ++ [t372]) (wrap64 (x12_1 + 1)) 0 l0 (l0.length : Int) (wrap64 (x12_1 + 1))) else (none)) = some r := H
                    have A10 := Aside0.mk A100
                    clear A100
                    by_cases c11 : x5_1.length < 5864062014805
                    · rw [if_pos c11] at H
                      have LMc11 := Aside0.mk c11
                      clear c11
                      obtain ⟨y375, hy375⟩ : ∃ y_ : List (List (S43)), y_ = (x5_1 ++ [t372]) := ⟨_, rfl⟩
                      replace H : (block_Split.l0 k1 l0 a1 y375 (wrap64 (x12_1 + 1)) 0 l0 (l0.length : Int) (wrap64 (x12_1 + 1))) = some r := by first | (rw [hy375]; with_reducible exact H) | (have H2_ := (Option.bind_some _ _).symm.trans H; rw [hy375]; with_reducible exact H2_) | (have H2_ := (Option.bind_some _ _).symm.trans H; with_reducible exact H2_) | with_reducible exact H | (rw [hy375]; exact H) | exact H
                      have Ny375 := Aside0.mk hy375
                      clear hy375
                      have H' := Aside0.mk H
                      clear H
                      have p366 : 0 ≤ (x12_1 : Int) := of_decide_eq_true (by first | (with_reducible assumption) | assumption)
                      have q366 : x12_1 < (l0.length : Int) := of_decide_eq_true (by first | (with_reducible assumption) | assumption)
                      obtain ⟨ad366, e366, hx366_0, hx366_1⟩ := at_T43 HR0.out x12_1 p366 q366
                      cases e366
                      replace hx366_0 := (HB.out.cell (World.block_lt_of_cell? w _ hx366_0)).trans hx366_0
                      replace hx366_1 := (HB.out.cell (World.block_lt_of_cell? w _ hx366_1)).trans hx366_1
                      replace p366 := eq_true p366
                      replace q366 := eq_true q366
                      go_wp2_with (first | ((with_reducible refine gate_dst (N := 9) rfl ?_); (try (refine gate_guard (by rfl) ?_; dsimp only)); refine box_event ?hg (N := 9) ?hd (cs := #[.string (⟨#[]⟩ : ByteArray), .string (⟨#[]⟩ : ByteArray)]) (t := 43) ?hr ?_; (case hd => rfl); (case hg => rfl); (case hr => first | (go_simp; done) | (go_simp; rfl)); intro gb367 hg w12 hbox hb; have n0_ := Aside0.mk (Kd.S_below (Kd.S_elderB (by (with_reducible repeat (first | apply Kd.S_alloc | apply Kd.S_drewN | apply Kd.S_drew)); exact HO_5.out) gb367 (Nat.le_of_eq hg.symm)) hb); have n1_ := Aside0.mk (below_step (by repeat (first | (with_reducible first | exact HB.out | apply below_alloc | apply pw_below_drewN | apply below_drew1) | exact HB.out)) hb); have n2_ := Aside0.mk (hbox); have n3_ := Aside0.mk ((by rw [hg]; exact (below_size (by repeat (first | (with_reducible first | exact HB.out | apply below_alloc | apply pw_below_drewN | apply below_drew1) | exact HB.out))) : w.heap.size ≤ gb367)); have n4_ := Aside0.mk ((by rw [hg]; exact (below_size (by repeat (first | (with_reducible first | exact HB.out | apply below_alloc | apply pw_below_drewN | apply below_drew1) | exact HB.out))) : w.heap.size ≤ gb367)); clear HO_5; clear HB; have HO_5 := n0_; have HB := n1_; have BK367 := n2_; have GW367 := n3_; have GE367 := n4_; clear n0_ n1_ n2_ n3_ n4_; clear hb hbox hg; have hcz13_0 : w12.cell? ⟨gb367, 0, none⟩ = some (.string (⟨#[]⟩ : ByteArray)) := (blk_cell BK367.out 0).trans rfl; have hcz13_1 : w12.cell? ⟨gb367, 1, none⟩ = some (.string (⟨#[]⟩ : ByteArray)) := (blk_cell BK367.out 1).trans rfl; have hfz13_0 := blk_frozen BK367.out 0; have hfz13_1 := blk_frozen BK367.out 1) | ((with_reducible refine gate_store (t := 43) (p := 9) rfl ?_); refine store_event (t := 43) (p := 9) (v := ?vo_w14) (w1 := ((w12.setCell ⟨gb367, 0, none⟩ (.string ((rd_T43 l0 x12_1).f0))).setCell ⟨gb367, 1, none⟩ (.string ((rd_T43 l0 x12_1).f1)))) ?hg ?ho ?hn ?hr ?_; (case ho => rfl); (case hg => rfl); (case hn => rfl); (case hr => first | (go_simp; done) | (go_simp; rfl)); intro w14 hw; have n0_ : Aside0 (Kd.S (Kd.slice 43 k43) 23 w14 w.heap.size (fun k_ => k_ ≠ gb367) u5 x5_1) := ⟨(by rw [hw]; exact (by (with_reducible repeat (first | apply Kd.S_alloc | apply Kd.S_drewN | apply Kd.S_drew)); exact Kd.S_mono (Kd.S_far (p := ⟨gb367, 1, none⟩) (Kd.S_far (p := ⟨gb367, 0, none⟩) (Kd.S_mono HO_5.out (fun k_ hk => (⟨hk, hk.2⟩ : _ ∧ k_ ≠ gb367))) (fun _ hk => hk.2) (.string ((rd_T43 l0 x12_1).f0))) (fun _ hk => hk.2) (.string ((rd_T43 l0 x12_1).f1))) (fun _ hk => hk.1.2)))⟩; have n1_ : Aside0 (w14.heap[gb367]? = some (.cells #[.string ((rd_T43 l0 x12_1).f0), .string ((rd_T43 l0 x12_1).f1)] 43 (0, 0))) := ⟨(by rw [hw]; exact (by (with_reducible repeat (first | refine blk_drewN ?_ _ | refine blk_drew ?_ | refine blk_alloc ?_ _)); refine blk_put (cs := #[.string ((rd_T43 l0 x12_1).f0), .string (⟨#[]⟩ : ByteArray)]) ?_ 1 _ rfl; (with_reducible repeat (first | refine blk_drewN ?_ _ | refine blk_drew ?_ | refine blk_alloc ?_ _)); refine blk_put (cs := #[.string (⟨#[]⟩ : ByteArray), .string (⟨#[]⟩ : ByteArray)]) ?_ 0 _ rfl; (with_reducible repeat (first | refine blk_drewN ?_ _ | refine blk_drew ?_ | refine blk_alloc ?_ _)); exact BK367.out))⟩; have n2_ : Aside0 (Below w.heap.size w w14) := ⟨(by rw [hw]; exact (by repeat (first | (with_reducible first | exact HB.out | apply below_alloc | apply pw_below_drewN | apply below_drew1 | refine below_set ?_ GE367.out) | exact HB.out)))⟩; clear hw; clear HO_5; clear BK367; clear HB; have HO_5 := n0_; have BK367 := n1_; have HB := n2_; clear n0_ n1_ n2_; have hcz15_0 : w14.cell? ⟨gb367, 0, none⟩ = some (.string ((rd_T43 l0 x12_1).f0)) := (blk_cell BK367.out 0).trans rfl; have hcz15_1 : w14.cell? ⟨gb367, 1, none⟩ = some (.string ((rd_T43 l0 x12_1).f1)) := (blk_cell BK367.out 1).trans rfl; have hfz15_0 := blk_frozen BK367.out 0; have hfz15_1 := blk_frozen BK367.out 1; have q16 : ((wrap64 (x12_1 + 1)) : Int) ≤ ((l0.length : Int) : Int) := of_decide_eq_true (by first | (with_reducible assumption) | assumption); obtain ⟨i016, hi016, _, hsz16, _⟩ := info_parts info43; have hroom16 : l0.length ≤ c0 := HC0.out; have hC16 : Kd.C k43 _ (some ad366) l0.length l0 := HR0.out; have ql16 : (x6_1 : Int) ≤ ((wrap64 (x12_1 + 1)) : Int) := of_decide_eq_true (by first | (with_reducible assumption) | assumption); have q016 : (0 : Int) ≤ (x6_1 : Int) := of_decide_eq_true (by first | (with_reducible assumption) | assumption); have hcut16 := cut_mid (P := Try.prog) 23 43 .i64 .i64 Try.underlying23 hi016 2 hsz16 (some ad366) l0.length c0 x6_1 (wrap64 (x12_1 + 1)) q016 ql16 q16 hroom16; have hr16 := Kd.C_mid (lo := (x6_1 : Int).toNat) (hi := ((wrap64 (x12_1 + 1)) : Int).toNat) (c := c0) hC16 (by omega) (by omega) hroom16; obtain ⟨A16, hA16⟩ : ∃ A1, A1 = (if c0 = (x6_1 : Int).toNat then (some ad366) else ((some ad366) : Option Addr).map (·.add ((x6_1 : Int).toNat * 2))) := ⟨_, rfl⟩; obtain ⟨c16, hc16⟩ : ∃ c1, c1 = c0 - (x6_1 : Int).toNat := ⟨_, rfl⟩; have hy16 : y368.length = ((wrap64 (x12_1 + 1)) : Int).toNat - (x6_1 : Int).toNat := (by rw [Ny368.out, List.length_drop, List.length_take] <;> omega); rw [show ((l0).take ((wrap64 (x12_1 + 1)) : Int).toNat).drop (x6_1 : Int).toNat = y368 from Ny368.out.symm] at hr16; replace hr16 : Kd.C k43 _ A16 y368.length y368 := (by rw [hA16]; exact hr16); rw [← hy16, ← hA16, ← hc16] at hcut16; have HR371 := Aside0.mk hr16; have HC371 := Aside0.mk (show y368.length ≤ c16 from by rw [hy16, hc16]; exact Nat.sub_le_sub_right (Nat.le_trans (by omega) hroom16) _); clear hr16 hC16 hroom16 hi016 hsz16 hc16; have KY16 := Aside0.mk hy16; have KA16 := Aside0.mk hA16; clear hy16 hA16; replace q16 := eq_true q16) | ((with_reducible refine gate_callee (f := 39) rfl ?_); refine goesL_ (some 42) rfl rfl Try.func39 (by kernel_rfl) rfl #[.slice A16 y368.length c16] rfl (by (try simp only [List.map_toArray, List.map_cons, List.map_nil]); first | done | rfl | (simp only [List.length_drop, List.length_take]; rfl)) ?_; (with_reducible refine (block_Pair.calls _ _ y368 t372 _ ?side1 ?side2 A10.out).mono ?_); (case side1 => repeat (first | exact (Kd.C_below HR371.out HB.out) | (with_reducible refine Kd.C_alloc ?_ _) | (with_reducible refine Kd.C_drewN ?_ _) | (with_reducible refine Kd.C_drew ?_))); (case side2 => exact HC371.out); rintro e w17 ⟨v373, rfl, ho0, hb⟩; refine ⟨_, rfl, ?_⟩; have n0_ := Aside0.mk (Kd.S_elder' (by (with_reducible repeat (first | apply Kd.S_alloc | apply Kd.S_drewN | apply Kd.S_drew)); exact HO_5.out) (Kd.R_base ho0) hb); have n1_ := Aside0.mk (Kd.R_lower (Kd.R_newB ho0 (g := gb367) (o := .cells #[.string ((rd_T43 l0 x12_1).f0), .string ((rd_T43 l0 x12_1).f1)] 43 (0, 0)) (by (with_reducible repeat (first | refine blk_drewN ?_ _ | refine blk_drew ?_ | refine blk_alloc ?_ _)); exact BK367.out)) (below_size (by repeat (first | (with_reducible first | exact HB.out | apply below_alloc | apply pw_below_drewN | apply below_drew1 | refine below_set ?_ GE367.out) | exact HB.out)))); have n2_ := Aside0.mk (blk_below (g := gb367) (o := .cells #[.string ((rd_T43 l0 x12_1).f0), .string ((rd_T43 l0 x12_1).f1)] 43 (0, 0)) (by (with_reducible repeat (first | refine blk_drewN ?_ _ | refine blk_drew ?_ | refine blk_alloc ?_ _)); exact BK367.out) hb); have n3_ := Aside0.mk (below_step (by repeat (first | (with_reducible first | exact HB.out | apply below_alloc | apply pw_below_drewN | apply below_drew1 | refine below_set ?_ GE367.out) | exact HB.out)) hb); clear HO_5; clear BK367; clear HB; have HO_5 := n0_; have HO374 := n1_; have BK367 := n2_; have HB := n3_; clear n0_ n1_ n2_ n3_; (try clear hb); (try clear hb2); (try clear hk); (try clear hi); (try clear ho0); obtain ⟨Ao19, co19, eo19⟩ := Kd.R_slice HO374.out; subst eo19) | ((with_reducible refine gate_builtin (b := .append) (xs := #[.tmp 36, .tmp 43]) rfl ?_); (try (refine gate_guard (by rfl) ?_; dsimp only)); at_builtin; refine Kd.S_append (Kd.slice 43 k43) (w0 := w) w.heap.size rfl (.tmp 36) (.tmp 43) 48 23 (.slice none 0 0) 24 rfl Try.underlying48 info23 rfl (by decide) (by omega) u5 x5_1 t372 [.slice Ao19 t372.length co19] (fun k_ => k_ ≠ gb367) (fun k_ => some k_ = (.slice Ao19 t372.length co19 : Value).ownBlock) rfl rfl ?aP (fun k_ hk_ => ((Kd.R_mono (ok' := fun k_ => ((fun k_ => k_ ≠ gb367)) k_ ∧ some k_ ≠ (u5 : Value).ownBlock) (Kd.R_apart' (HO374.out) (Kd.S_typed HO_5.out) (by decide)) (fun k_ hk => ⟨hk.1.2, hk.2⟩))).1 k_ hk_.symm) ?aF ?aO ?aB ?aS ?aL ?_; (case aP => exact Kd.M_row (Kd.R_mono (Kd.R_tight rfl (Kd.R_mono (ok' := fun k_ => ((fun k_ => k_ ≠ gb367)) k_ ∧ some k_ ≠ (u5 : Value).ownBlock) (Kd.R_apart' (HO374.out) (Kd.S_typed HO_5.out) (by decide)) (fun k_ hk => ⟨hk.1.2, hk.2⟩))) (fun _ h_ => h_))); (case aB => exact (by repeat (first | (with_reducible first | exact HB.out | apply below_alloc | apply pw_below_drewN | apply below_drew1 | refine below_set ?_ GE367.out) | exact HB.out))); (case aF => exact (fun k_ hk => Kd.freshB (g := gb367) (o := .cells #[.string ((rd_T43 l0 x12_1).f0), .string ((rd_T43 l0 x12_1).f1)] 43 (0, 0)) (by (with_reducible repeat (first | refine blk_drewN ?_ _ | refine blk_drew ?_ | refine blk_alloc ?_ _)); exact BK367.out) k_ hk)); (case aO => exact (by (with_reducible repeat (first | apply Kd.S_alloc | apply Kd.S_drewN | apply Kd.S_drew)); exact Kd.S_mono HO_5.out (fun k_ hk => ⟨hk.1, fun e_ => hk.2 e_⟩))); (case aS => exact (below_size (by repeat (first | (with_reducible first | exact HB.out | apply below_alloc | apply pw_below_drewN | apply below_drew1 | refine below_set ?_ GE367.out) | exact HB.out)))); (case aL => have := LMc11.out; omega); intro v376 w18 ho hb hg hat; rw [← Ny375.out] at ho; have n0_ := Aside0.mk (blk_grown (g := gb367) (o := .cells #[.string ((rd_T43 l0 x12_1).f0), .string ((rd_T43 l0 x12_1).f1)] 43 (0, 0)) (by (with_reducible repeat (first | refine blk_drewN ?_ _ | refine blk_drew ?_ | refine blk_alloc ?_ _)); exact BK367.out) hg (Kd.S_ne HO_5.out BK367.out (by decide))); have n1_ := Aside0.mk (hb); have n2_ := Aside0.mk (ho); clear BK367; clear HB; clear HO_5; clear HO374; have BK367 := n0_; have HB := n1_; have HO377 := n2_; clear n0_ n1_ n2_; clear ho hb hg hat))
                      go_roundg k1
                      case measure => have := HK1.out; omega
                      case rel => exact ⟨(y375), (wrap64 (x12_1 + 1)), (0), (wrap64 (x12_1 + 1)), (by first | rfl | (simp; done) | (simp [*]; done)), (by first | rfl | (simp; done) | (simp [*]; done)), (by first | rfl | (simp; done) | (simp [*]; done)), H', ⟨by have := HK1.out; omega⟩, ⟨by (with_reducible repeat (first | apply Kd.S_alloc | apply Kd.S_drewN | apply Kd.S_drew)); exact Kd.S_mono HO377.out (fun _ hk => trivial)⟩, ⟨by repeat (first | (with_reducible first | exact HB.out | apply below_alloc | apply pw_below_drewN | apply below_drew1 | refine below_set ?_ GE367.out) | exact HB.out)⟩⟩
                    · rw [if_neg c11] at H
                      exact absurd H (by simp)
                  · rw [if_neg c9] at H
                    exact absurd H (by simp)
                · rw [if_neg c8] at H
                  exact absurd H (by simp)
              · rw [if_neg c7] at H
                exact absurd H (by simp)
            · rw [if_neg c6] at H
              have c6b0 : decide (a1 ≤ (wrap64 (x7_1 + (wrap64 ((((rd_T43 l0 x12_1).f0).size : Int) + (((rd_T43 l0 x12_1).f1).size : Int)))))) = false := decide_eq_false c6
              clear c6
              by_cases c20 : x12_1 = (wrap64 ((l0.length : Int) - 1))
              · rw [if_pos c20] at H
                have c20b0 : (x12_1 == (wrap64 ((l0.length : Int) - 1))) = true := beq_iff_eq.mpr c20
                have c20b1 : (x12_1 != (wrap64 ((l0.length : Int) - 1))) = false := bne_eq_false_iff_eq.mpr c20
                clear c20
                by_cases c21 : 0 ≤ x6_1
                · rw [if_pos c21] at H
                  have c21b0 := eq_true c21
                  have c21b1 : decide (0 ≤ x6_1) = true := decide_eq_true c21
                  clear c21
                  by_cases c22 : x6_1 ≤ (wrap64 (x12_1 + 1))
                  · rw [if_pos c22] at H
                    have c22b0 := eq_true c22
                    have c22b1 : decide (x6_1 ≤ (wrap64 (x12_1 + 1))) = true := decide_eq_true c22
                    by_cases c23 : (wrap64 (x12_1 + 1)) ≤ (l0.length : Int)
                    · rw [if_pos c23] at H
                      have c23b0 := eq_true c23
                      have c23b1 : decide ((wrap64 (x12_1 + 1)) ≤ (l0.length : Int)) = true := decide_eq_true c23
                      obtain ⟨y378, hy378⟩ : ∃ y_ : List (S43), y_ = ((l0.take ((wrap64 (x12_1 + 1)) : Int).toNat).drop (x6_1 : Int).toNat) := ⟨_, rfl⟩
                      replace H : ((block_Pair.f y378).bind fun t382 => (if x5_1.length < 5864062014805 then (block_Split.l0 k1 l0 a1 (x5_1 ++ [t382]) (wrap64 (x12_1 + 1)) 0 l0 (l0.length : Int) (wrap64 (x12_1 + 1))) else (none))) = some r := by first | (rw [hy378]; with_reducible exact H) | (have H2_ := (Option.bind_some _ _).symm.trans H; rw [hy378]; with_reducible exact H2_) | (have H2_ := (Option.bind_some _ _).symm.trans H; with_reducible exact H2_) | with_reducible exact H | (rw [hy378]; exact H) | exact H
                      have Ny378 := Aside0.mk hy378
                      clear hy378
                      replace H := Option.bind_eq_some_iff.mp H
                      obtain ⟨t382, A240, H⟩ := H
                      replace H : (if x5_1.length < 5864062014805 then (block_Split.l0 k1 l0 a1 (x5_1 ++ [t382]) (wrap64 (x12_1 + 1)) 0 l0 (l0.length : Int) (wrap64 (x12_1 + 1))) else (none)) = some r := H
                      have A24 := Aside0.mk A240
                      clear A240
                      by_cases c25 : x5_1.length < 5864062014805
                      · rw [if_pos c25] at H
                        have LMc25 := Aside0.mk c25
                        clear c25
                        obtain ⟨y385, hy385⟩ : ∃ y_ : List (List (S43)), y_ = (x5_1 ++ [t382]) := ⟨_, rfl⟩
                        replace H : (block_Split.l0 k1 l0 a1 y385 (wrap64 (x12_1 + 1)) 0 l0 (l0.length : Int) (wrap64 (x12_1 + 1))) = some r := by first | (rw [hy385]; with_reducible exact H) | (have H2_ := (Option.bind_some _ _).symm.trans H; rw [hy385]; with_reducible exact H2_) | (have H2_ := (Option.bind_some _ _).symm.trans H; with_reducible exact H2_) | with_reducible exact H | (rw [hy385]; exact H) | exact H
                        have Ny385 := Aside0.mk hy385
                        clear hy385
                        have H' := Aside0.mk H
                        clear H
                        have p366 : 0 ≤ (x12_1 : Int) := of_decide_eq_true (by first | (with_reducible assumption) | assumption)
                        have q366 : x12_1 < (l0.length : Int) := of_decide_eq_true (by first | (with_reducible assumption) | assumption)
                        obtain ⟨ad366, e366, hx366_0, hx366_1⟩ := at_T43 HR0.out x12_1 p366 q366
                        cases e366
                        replace hx366_0 := (HB.out.cell (World.block_lt_of_cell? w _ hx366_0)).trans hx366_0
                        replace hx366_1 := (HB.out.cell (World.block_lt_of_cell? w _ hx366_1)).trans hx366_1
                        replace p366 := eq_true p366
                        replace q366 := eq_true q366
                        go_wp2_with (first | ((with_reducible refine gate_dst (N := 9) rfl ?_); (try (refine gate_guard (by rfl) ?_; dsimp only)); refine box_event ?hg (N := 9) ?hd (cs := #[.string (⟨#[]⟩ : ByteArray), .string (⟨#[]⟩ : ByteArray)]) (t := 43) ?hr ?_; (case hd => rfl); (case hg => rfl); (case hr => first | (go_simp; done) | (go_simp; rfl)); intro gb367 hg w26 hbox hb; have n0_ := Aside0.mk (Kd.S_below (Kd.S_elderB (by (with_reducible repeat (first | apply Kd.S_alloc | apply Kd.S_drewN | apply Kd.S_drew)); exact HO_5.out) gb367 (Nat.le_of_eq hg.symm)) hb); have n1_ := Aside0.mk (below_step (by repeat (first | (with_reducible first | exact HB.out | apply below_alloc | apply pw_below_drewN | apply below_drew1) | exact HB.out)) hb); have n2_ := Aside0.mk (hbox); have n3_ := Aside0.mk ((by rw [hg]; exact (below_size (by repeat (first | (with_reducible first | exact HB.out | apply below_alloc | apply pw_below_drewN | apply below_drew1) | exact HB.out))) : w.heap.size ≤ gb367)); have n4_ := Aside0.mk ((by rw [hg]; exact (below_size (by repeat (first | (with_reducible first | exact HB.out | apply below_alloc | apply pw_below_drewN | apply below_drew1) | exact HB.out))) : w.heap.size ≤ gb367)); clear HO_5; clear HB; have HO_5 := n0_; have HB := n1_; have BK367 := n2_; have GW367 := n3_; have GE367 := n4_; clear n0_ n1_ n2_ n3_ n4_; clear hb hbox hg; have hcz27_0 : w26.cell? ⟨gb367, 0, none⟩ = some (.string (⟨#[]⟩ : ByteArray)) := (blk_cell BK367.out 0).trans rfl; have hcz27_1 : w26.cell? ⟨gb367, 1, none⟩ = some (.string (⟨#[]⟩ : ByteArray)) := (blk_cell BK367.out 1).trans rfl; have hfz27_0 := blk_frozen BK367.out 0; have hfz27_1 := blk_frozen BK367.out 1) | ((with_reducible refine gate_store (t := 43) (p := 9) rfl ?_); refine store_event (t := 43) (p := 9) (v := ?vo_w28) (w1 := ((w26.setCell ⟨gb367, 0, none⟩ (.string ((rd_T43 l0 x12_1).f0))).setCell ⟨gb367, 1, none⟩ (.string ((rd_T43 l0 x12_1).f1)))) ?hg ?ho ?hn ?hr ?_; (case ho => rfl); (case hg => rfl); (case hn => rfl); (case hr => first | (go_simp; done) | (go_simp; rfl)); intro w28 hw; have n0_ : Aside0 (Kd.S (Kd.slice 43 k43) 23 w28 w.heap.size (fun k_ => k_ ≠ gb367) u5 x5_1) := ⟨(by rw [hw]; exact (by (with_reducible repeat (first | apply Kd.S_alloc | apply Kd.S_drewN | apply Kd.S_drew)); exact Kd.S_mono (Kd.S_far (p := ⟨gb367, 1, none⟩) (Kd.S_far (p := ⟨gb367, 0, none⟩) (Kd.S_mono HO_5.out (fun k_ hk => (⟨hk, hk.2⟩ : _ ∧ k_ ≠ gb367))) (fun _ hk => hk.2) (.string ((rd_T43 l0 x12_1).f0))) (fun _ hk => hk.2) (.string ((rd_T43 l0 x12_1).f1))) (fun _ hk => hk.1.2)))⟩; have n1_ : Aside0 (w28.heap[gb367]? = some (.cells #[.string ((rd_T43 l0 x12_1).f0), .string ((rd_T43 l0 x12_1).f1)] 43 (0, 0))) := ⟨(by rw [hw]; exact (by (with_reducible repeat (first | refine blk_drewN ?_ _ | refine blk_drew ?_ | refine blk_alloc ?_ _)); refine blk_put (cs := #[.string ((rd_T43 l0 x12_1).f0), .string (⟨#[]⟩ : ByteArray)]) ?_ 1 _ rfl; (with_reducible repeat (first | refine blk_drewN ?_ _ | refine blk_drew ?_ | refine blk_alloc ?_ _)); refine blk_put (cs := #[.string (⟨#[]⟩ : ByteArray), .string (⟨#[]⟩ : ByteArray)]) ?_ 0 _ rfl; (with_reducible repeat (first | refine blk_drewN ?_ _ | refine blk_drew ?_ | refine blk_alloc ?_ _)); exact BK367.out))⟩; have n2_ : Aside0 (Below w.heap.size w w28) := ⟨(by rw [hw]; exact (by repeat (first | (with_reducible first | exact HB.out | apply below_alloc | apply pw_below_drewN | apply below_drew1 | refine below_set ?_ GE367.out) | exact HB.out)))⟩; clear hw; clear HO_5; clear BK367; clear HB; have HO_5 := n0_; have BK367 := n1_; have HB := n2_; clear n0_ n1_ n2_; have hcz29_0 : w28.cell? ⟨gb367, 0, none⟩ = some (.string ((rd_T43 l0 x12_1).f0)) := (blk_cell BK367.out 0).trans rfl; have hcz29_1 : w28.cell? ⟨gb367, 1, none⟩ = some (.string ((rd_T43 l0 x12_1).f1)) := (blk_cell BK367.out 1).trans rfl; have hfz29_0 := blk_frozen BK367.out 0; have hfz29_1 := blk_frozen BK367.out 1; have q30 : ((wrap64 (x12_1 + 1)) : Int) ≤ ((l0.length : Int) : Int) := of_decide_eq_true (by first | (with_reducible assumption) | assumption); obtain ⟨i030, hi030, _, hsz30, _⟩ := info_parts info43; have hroom30 : l0.length ≤ c0 := HC0.out; have hC30 : Kd.C k43 _ (some ad366) l0.length l0 := HR0.out; have ql30 : (x6_1 : Int) ≤ ((wrap64 (x12_1 + 1)) : Int) := of_decide_eq_true (by first | (with_reducible assumption) | assumption); have q030 : (0 : Int) ≤ (x6_1 : Int) := of_decide_eq_true (by first | (with_reducible assumption) | assumption); have hcut30 := cut_mid (P := Try.prog) 23 43 .i64 .i64 Try.underlying23 hi030 2 hsz30 (some ad366) l0.length c0 x6_1 (wrap64 (x12_1 + 1)) q030 ql30 q30 hroom30; have hr30 := Kd.C_mid (lo := (x6_1 : Int).toNat) (hi := ((wrap64 (x12_1 + 1)) : Int).toNat) (c := c0) hC30 (by omega) (by omega) hroom30; obtain ⟨A30, hA30⟩ : ∃ A1, A1 = (if c0 = (x6_1 : Int).toNat then (some ad366) else ((some ad366) : Option Addr).map (·.add ((x6_1 : Int).toNat * 2))) := ⟨_, rfl⟩; obtain ⟨c30, hc30⟩ : ∃ c1, c1 = c0 - (x6_1 : Int).toNat := ⟨_, rfl⟩; have hy30 : y378.length = ((wrap64 (x12_1 + 1)) : Int).toNat - (x6_1 : Int).toNat := (by rw [Ny378.out, List.length_drop, List.length_take] <;> omega); rw [show ((l0).take ((wrap64 (x12_1 + 1)) : Int).toNat).drop (x6_1 : Int).toNat = y378 from Ny378.out.symm] at hr30; replace hr30 : Kd.C k43 _ A30 y378.length y378 := (by rw [hA30]; exact hr30); rw [← hy30, ← hA30, ← hc30] at hcut30; have HR381 := Aside0.mk hr30; have HC381 := Aside0.mk (show y378.length ≤ c30 from by rw [hy30, hc30]; exact Nat.sub_le_sub_right (Nat.le_trans (by omega) hroom30) _); clear hr30 hC30 hroom30 hi030 hsz30 hc30; have KY30 := Aside0.mk hy30; have KA30 := Aside0.mk hA30; clear hy30 hA30; replace q30 := eq_true q30) | ((with_reducible refine gate_callee (f := 39) rfl ?_); refine goesL_ (some 42) rfl rfl Try.func39 (by kernel_rfl) rfl #[.slice A30 y378.length c30] rfl (by (try simp only [List.map_toArray, List.map_cons, List.map_nil]); first | done | rfl | (simp only [List.length_drop, List.length_take]; rfl)) ?_; (with_reducible refine (block_Pair.calls _ _ y378 t382 _ ?side1 ?side2 A24.out).mono ?_); (case side1 => repeat (first | exact (Kd.C_below HR381.out HB.out) | (with_reducible refine Kd.C_alloc ?_ _) | (with_reducible refine Kd.C_drewN ?_ _) | (with_reducible refine Kd.C_drew ?_))); (case side2 => exact HC381.out); rintro e w31 ⟨v383, rfl, ho0, hb⟩; refine ⟨_, rfl, ?_⟩; have n0_ := Aside0.mk (Kd.S_elder' (by (with_reducible repeat (first | apply Kd.S_alloc | apply Kd.S_drewN | apply Kd.S_drew)); exact HO_5.out) (Kd.R_base ho0) hb); have n1_ := Aside0.mk (Kd.R_lower (Kd.R_newB ho0 (g := gb367) (o := .cells #[.string ((rd_T43 l0 x12_1).f0), .string ((rd_T43 l0 x12_1).f1)] 43 (0, 0)) (by (with_reducible repeat (first | refine blk_drewN ?_ _ | refine blk_drew ?_ | refine blk_alloc ?_ _)); exact BK367.out)) (below_size (by repeat (first | (with_reducible first | exact HB.out | apply below_alloc | apply pw_below_drewN | apply below_drew1 | refine below_set ?_ GE367.out) | exact HB.out)))); have n2_ := Aside0.mk (blk_below (g := gb367) (o := .cells #[.string ((rd_T43 l0 x12_1).f0), .string ((rd_T43 l0 x12_1).f1)] 43 (0, 0)) (by (with_reducible repeat (first | refine blk_drewN ?_ _ | refine blk_drew ?_ | refine blk_alloc ?_ _)); exact BK367.out) hb); have n3_ := Aside0.mk (below_step (by repeat (first | (with_reducible first | exact HB.out | apply below_alloc | apply pw_below_drewN | apply below_drew1 | refine below_set ?_ GE367.out) | exact HB.out)) hb); clear HO_5; clear BK367; clear HB; have HO_5 := n0_; have HO384 := n1_; have BK367 := n2_; have HB := n3_; clear n0_ n1_ n2_ n3_; (try clear hb); (try clear hb2); (try clear hk); (try clear hi); (try clear ho0); obtain ⟨Ao33, co33, eo33⟩ := Kd.R_slice HO384.out; subst eo33) | ((with_reducible refine gate_builtin (b := .append) (xs := #[.tmp 36, .tmp 43]) rfl ?_); (try (refine gate_guard (by rfl) ?_; dsimp only)); at_builtin; refine Kd.S_append (Kd.slice 43 k43) (w0 := w) w.heap.size rfl (.tmp 36) (.tmp 43) 48 23 (.slice none 0 0) 24 rfl Try.underlying48 info23 rfl (by decide) (by omega) u5 x5_1 t382 [.slice Ao33 t382.length co33] (fun k_ => k_ ≠ gb367) (fun k_ => some k_ = (.slice Ao33 t382.length co33 : Value).ownBlock) rfl rfl ?aP (fun k_ hk_ => ((Kd.R_mono (ok' := fun k_ => ((fun k_ => k_ ≠ gb367)) k_ ∧ some k_ ≠ (u5 : Value).ownBlock) (Kd.R_apart' (HO384.out) (Kd.S_typed HO_5.out) (by decide)) (fun k_ hk => ⟨hk.1.2, hk.2⟩))).1 k_ hk_.symm) ?aF ?aO ?aB ?aS ?aL ?_; (case aP => exact Kd.M_row (Kd.R_mono (Kd.R_tight rfl (Kd.R_mono (ok' := fun k_ => ((fun k_ => k_ ≠ gb367)) k_ ∧ some k_ ≠ (u5 : Value).ownBlock) (Kd.R_apart' (HO384.out) (Kd.S_typed HO_5.out) (by decide)) (fun k_ hk => ⟨hk.1.2, hk.2⟩))) (fun _ h_ => h_))); (case aB => exact (by repeat (first | (with_reducible first | exact HB.out | apply below_alloc | apply pw_below_drewN | apply below_drew1 | refine below_set ?_ GE367.out) | exact HB.out))); (case aF => exact (fun k_ hk => Kd.freshB (g := gb367) (o := .cells #[.string ((rd_T43 l0 x12_1).f0), .string ((rd_T43 l0 x12_1).f1)] 43 (0, 0)) (by (with_reducible repeat (first | refine blk_drewN ?_ _ | refine blk_drew ?_ | refine blk_alloc ?_ _)); exact BK367.out) k_ hk)); (case aO => exact (by (with_reducible repeat (first | apply Kd.S_alloc | apply Kd.S_drewN | apply Kd.S_drew)); exact Kd.S_mono HO_5.out (fun k_ hk => ⟨hk.1, fun e_ => hk.2 e_⟩))); (case aS => exact (below_size (by repeat (first | (with_reducible first | exact HB.out | apply below_alloc | apply pw_below_drewN | apply below_drew1 | refine below_set ?_ GE367.out) | exact HB.out)))); (case aL => have := LMc25.out; omega); intro v386 w32 ho hb hg hat; rw [← Ny385.out] at ho; have n0_ := Aside0.mk (blk_grown (g := gb367) (o := .cells #[.string ((rd_T43 l0 x12_1).f0), .string ((rd_T43 l0 x12_1).f1)] 43 (0, 0)) (by (with_reducible repeat (first | refine blk_drewN ?_ _ | refine blk_drew ?_ | refine blk_alloc ?_ _)); exact BK367.out) hg (Kd.S_ne HO_5.out BK367.out (by decide))); have n1_ := Aside0.mk (hb); have n2_ := Aside0.mk (ho); clear BK367; clear HB; clear HO_5; clear HO384; have BK367 := n0_; have HB := n1_; have HO387 := n2_; clear n0_ n1_ n2_; clear ho hb hg hat))
                        go_roundg k1
                        case measure => have := HK1.out; omega
                        case rel => exact ⟨(y385), (wrap64 (x12_1 + 1)), (0), (wrap64 (x12_1 + 1)), (by first | rfl | (simp; done) | (simp [*]; done)), (by first | rfl | (simp; done) | (simp [*]; done)), (by first | rfl | (simp; done) | (simp [*]; done)), H', ⟨by have := HK1.out; omega⟩, ⟨by (with_reducible repeat (first | apply Kd.S_alloc | apply Kd.S_drewN | apply Kd.S_drew)); exact Kd.S_mono HO387.out (fun _ hk => trivial)⟩, ⟨by repeat (first | (with_reducible first | exact HB.out | apply below_alloc | apply pw_below_drewN | apply below_drew1 | refine below_set ?_ GE367.out) | exact HB.out)⟩⟩
                      · rw [if_neg c25] at H
                        exact absurd H (by simp)
                    · rw [if_neg c23] at H
                      exact absurd H (by simp)
                  · rw [if_neg c22] at H
                    exact absurd H (by simp)
                · rw [if_neg c21] at H
                  exact absurd H (by simp)
              · rw [if_neg c20] at H
                have c20b0 : (x12_1 == (wrap64 ((l0.length : Int) - 1))) = false := beq_eq_false_iff_ne.mpr c20
                have c20b1 : (x12_1 != (wrap64 ((l0.length : Int) - 1))) = true := bne_iff_ne.mpr c20
                have H' := Aside0.mk H
                clear H
                have p366 : 0 ≤ (x12_1 : Int) := of_decide_eq_true (by first | (with_reducible assumption) | assumption)
                have q366 : x12_1 < (l0.length : Int) := of_decide_eq_true (by first | (with_reducible assumption) | assumption)
                obtain ⟨ad366, e366, hx366_0, hx366_1⟩ := at_T43 HR0.out x12_1 p366 q366
                cases e366
                replace hx366_0 := (HB.out.cell (World.block_lt_of_cell? w _ hx366_0)).trans hx366_0
                replace hx366_1 := (HB.out.cell (World.block_lt_of_cell? w _ hx366_1)).trans hx366_1
                replace p366 := eq_true p366
                replace q366 := eq_true q366
                go_wp2_with (first | ((with_reducible refine gate_dst (N := 9) rfl ?_); (try (refine gate_guard (by rfl) ?_; dsimp only)); refine box_event ?hg (N := 9) ?hd (cs := #[.string (⟨#[]⟩ : ByteArray), .string (⟨#[]⟩ : ByteArray)]) (t := 43) ?hr ?_; (case hd => rfl); (case hg => rfl); (case hr => first | (go_simp; done) | (go_simp; rfl)); intro gb367 hg w34 hbox hb; have n0_ := Aside0.mk (Kd.S_below (Kd.S_elderB (by (with_reducible repeat (first | apply Kd.S_alloc | apply Kd.S_drewN | apply Kd.S_drew)); exact HO_5.out) gb367 (Nat.le_of_eq hg.symm)) hb); have n1_ := Aside0.mk (below_step (by repeat (first | (with_reducible first | exact HB.out | apply below_alloc | apply pw_below_drewN | apply below_drew1) | exact HB.out)) hb); have n2_ := Aside0.mk (hbox); have n3_ := Aside0.mk ((by rw [hg]; exact (below_size (by repeat (first | (with_reducible first | exact HB.out | apply below_alloc | apply pw_below_drewN | apply below_drew1) | exact HB.out))) : w.heap.size ≤ gb367)); have n4_ := Aside0.mk ((by rw [hg]; exact (below_size (by repeat (first | (with_reducible first | exact HB.out | apply below_alloc | apply pw_below_drewN | apply below_drew1) | exact HB.out))) : w.heap.size ≤ gb367)); clear HO_5; clear HB; have HO_5 := n0_; have HB := n1_; have BK367 := n2_; have GW367 := n3_; have GE367 := n4_; clear n0_ n1_ n2_ n3_ n4_; clear hb hbox hg; have hcz35_0 : w34.cell? ⟨gb367, 0, none⟩ = some (.string (⟨#[]⟩ : ByteArray)) := (blk_cell BK367.out 0).trans rfl; have hcz35_1 : w34.cell? ⟨gb367, 1, none⟩ = some (.string (⟨#[]⟩ : ByteArray)) := (blk_cell BK367.out 1).trans rfl; have hfz35_0 := blk_frozen BK367.out 0; have hfz35_1 := blk_frozen BK367.out 1))
                go_roundg k1
                case measure => have := HK1.out; omega
                case rel => exact ⟨(x5_1), (x6_1), (wrap64 (x7_1 + (wrap64 ((((rd_T43 l0 x12_1).f0).size : Int) + (((rd_T43 l0 x12_1).f1).size : Int))))), (wrap64 (x12_1 + 1)), (by first | rfl | (simp; done) | (simp [*]; done)), (by first | rfl | (simp; done) | (simp [*]; done)), (by first | rfl | (simp; done) | (simp [*]; done)), H', ⟨by have := HK1.out; omega⟩, ⟨by (with_reducible repeat (first | apply Kd.S_alloc | apply Kd.S_drewN | apply Kd.S_drew)); exact Kd.S_mono (Kd.S_far (p := ⟨gb367, 1, none⟩) (Kd.S_far (p := ⟨gb367, 0, none⟩) (Kd.S_mono HO_5.out (fun k_ hk => (⟨hk, hk.2⟩ : _ ∧ k_ ≠ gb367))) (fun _ hk => hk.2) (.string ((rd_T43 l0 x12_1).f0))) (fun _ hk => hk.2) (.string ((rd_T43 l0 x12_1).f1))) (fun _ hk => trivial)⟩, ⟨by repeat (first | (with_reducible first | exact HB.out | apply below_alloc | apply pw_below_drewN | apply below_drew1 | refine below_set ?_ GE367.out) | exact HB.out)⟩⟩
          · rw [if_neg c5] at H
            exact absurd H (by simp)
        · rw [if_neg c4] at H
          exact absurd H (by simp)
      · rw [if_neg c3] at H
        have c3b0 : decide (x12_1 < (l0.length : Int)) = false := decide_eq_false c3
        clear c3
        obtain rfl := Option.some.inj H
        go_wp2
        all_goals go_ret
        all_goals exact ⟨_, by first | rfl | (simp [errW_none, errW_some] <;> rfl) | (simp [*, errW_none, errW_some] <;> rfl), by (with_reducible repeat (first | apply Kd.S_alloc | apply Kd.S_drewN | apply Kd.S_drew)); exact HO_5.out, by repeat (first | (with_reducible first | exact HB.out | apply below_alloc | apply pw_below_drewN | apply below_drew1) | exact HB.out)⟩
end Go.Proofs.Ytbhainkcdkgbbaa.P

end
