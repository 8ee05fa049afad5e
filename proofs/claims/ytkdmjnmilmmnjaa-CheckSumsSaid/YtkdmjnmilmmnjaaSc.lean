import Derived.Test.YtkdmjnmilmmnjaaPx0
import Derived.Test.YtkdmjnmilmmnjaaRf
import Derived.OwnWalkIn
import Derived.OwnWalk
import Derived.RangeFuncLeaves
import Derived.RangeFuncCalls
import Derived.Shelf.Abstract
import Derived.WalkKit
import Derived.TacticsIn
import Derived.RegionIn
import Derived.Shelf.Lay
import Derived.BigFrameIn
import Derived.Deep.LoopGhost
import Derived.Outline
import Derived.Test.YtkdmjnmilmmnjaaPx5
-- Written by sprint.py (wip/tools) with the kit's print.py: a program's text, checked by Lean alone.
namespace Go.Proofs.Ytkdmjnmilmmnjaa.P
open Go.RowKit Go.Proofs.Ytkdmjnmilmmnjaa.Vp Go.Proofs.Ytkdmjnmilmmnjaa.Cp Go.Proofs.YtkdmjnmilmmnjaaW.PrintWords Go.Proofs.YtkdmjnmilmmnjaaW.PrintLast Go.Proofs.YtkdmjnmilmmnjaaW.PrintMore Go.Shelf
attribute [local go_sem] max2_int min2_int max_two min_two max_three min_three max_four min_four   -- for this text's walks alone
set_option linter.unusedVariables false
set_option linter.unusedSimpArgs false

def check_Scan.l : Nat → List ByteArray → ByteArray → Option (List ByteArray × ByteArray × Int)
  | 0, _, _ => none
  | j + 1, acc, s => if s.toList = ([] : List UInt8) then some (acc, s, 0) else (check_Unframe.f 40 s).bind fun t => if t.2.2 = 0 then (if acc.length < 8796093022208 then check_Scan.l j (acc ++ [t.1]) t.2.1 else none) else some (acc, s, t.2.2)
def check_Scan.f (a0 : ByteArray) : Option (List ByteArray × Int × Int) := (check_Scan.l (a0.size + 1) [] a0).bind fun t => some (t.1, wrap64 ((a0.size : Int) - (t.2.1.size : Int)), t.2.2)
set_option maxHeartbeats 4000000 in
theorem frames1_in (l bs bp be : Nat) (J : List ByteArray → ByteArray → World → Prop) (hne1 : bs ≠ be) (hne2 : bp ≠ be) (hne3 : bp ≠ bs)
    (hJ : ∀ acc s W W' row, J acc s W → W.grownBy W' row → (∀ r, row = some r → r = bs ∨ r = be) → J acc s W')
    (hY : ∀ acc s t rest W, Aside0 (J acc s W) → Boxed W bs 9 (.string s) → Boxed W bp 51 (.pointer (some ⟨be, 0, none⟩)) → Boxed W be 23 (.int .i64 0) → acc.length < 8796093022208 →
      YieldAt Fence.wide 3 Try.prog l #[.string t, .string rest] W (fun e W' => e = .returned (.bool true) ∧ J (acc ++ [t]) rest W' ∧ Boxed W' bs 9 (.string s) ∧ Boxed W' bp 51 (.pointer (some ⟨be, 0, none⟩)) ∧ Boxed W' be 23 (.int .i64 0)))
    (k : Nat) (s : ByteArray) (r : List ByteArray × ByteArray × Int) (hr : check_Scan.l k [] s = some r) (W : World) (h0 : J [] s W) (h1 : Boxed W bs 9 (.string s)) (h2 : Boxed W bp 51 (.pointer (some ⟨be, 0, none⟩))) (h3 : Boxed W be 23 (.int .i64 0)) :
    CallsIn Fence.wide 4 Try.prog 31 #[.func (.yield l) #[] #[], .pointer (some ⟨bs, 0, none⟩), .pointer (some ⟨bp, 0, none⟩)] W
      (fun e W' => ∃ v, e = .returned v ∧ J r.1 r.2.1 W' ∧ Boxed W' be 23 (.int .i64 r.2.2)) := by
  have HR := Aside0.mk hr
  have HY := Aside0.mk hY
  have HJ := Aside0.mk hJ
  have H0 := Aside0.mk h0
  clear hr hY hJ h0
  refine callsIn_of_wp Try.func31 rfl trivial ?_ rfl
  simp only [Try.ntmps31, List.size_toArray, List.length_cons, List.length_nil, Nat.reduceAdd, Nat.reduceSub, Array.replicate_succ, Array.replicate_zero, List.push_toArray, List.append_toArray, List.nil_append, List.cons_append]
  refine wpIn_block ?_
  refine Rf.wpIn_loop_n (fun j a w' => ∃ acc s' x3 x4 x5 x6 x7 x8 x9 x10 x11 x12 x13 x14 x15 x16 x17 x18 x19 x20 x21 x22 x23 x24 x25 x26 x27,
    a = { tmps := #[.func (.yield l) #[] #[], .pointer (some ⟨bs, 0, none⟩), .pointer (some ⟨bp, 0, none⟩), x3, x4, x5, x6, x7, x8, x9, x10, x11, x12, x13, x14, x15, x16, x17, x18, x19, x20, x21, x22, x23, x24, x25, x26, x27], defers := [] } ∧
    Aside0 (check_Scan.l j acc s' = some r) ∧ Aside0 (J acc s' w') ∧ Boxed w' bs 9 (.string s') ∧ Boxed w' bp 51 (.pointer (some ⟨be, 0, none⟩)) ∧ Boxed w' be 23 (.int .i64 0)) k
    ⟨[], s, _, _, _, _, _, _, _, _, _, _, _, _, _, _, _, _, _, _, _, _, _, _, _, _, _, rfl, HR, H0, h1, h2, h3⟩ ?_
  clear HR H0 h1 h2 h3
  rintro j a w' ⟨acc, s', x3, x4, x5, x6, x7, x8, x9, x10, x11, x12, x13, x14, x15, x16, x17, x18, x19, x20, x21, x22, x23, x24, x25, x26, x27, rfl, HR, H0, h1, h2, h3⟩
  have e1 := h1.cell
  have f1 := h1.frozen
  obtain ⟨j, rfl⟩ : ∃ i, j = i + 1 := by
    cases j with
    | zero => have := HR.out; simp [check_Scan.l] at this
    | succ i => exact ⟨i, rfl⟩
  have hr := HR.out
  clear HR
  rw [check_Scan.l] at hr
  by_cases c : s'.toList = ([] : List UInt8)
  · rw [if_pos c] at hr
    obtain rfl := Option.some.inj hr
    have c0 : (s'.toList == ([] : List UInt8)) = true := beq_iff_eq.mpr c
    have c1 : (s'.toList != ([] : List UInt8)) = false := bne_eq_false_iff_eq.mpr c
    clear c hr
    gi_wp2
    go_end0
    exact ⟨_, rfl, H0.out, h3⟩
  · rw [if_neg c] at hr
    obtain ⟨⟨t, rest, e⟩, hu, hr⟩ := Option.bind_eq_some_iff.1 hr
    have c0 : (s'.toList == ([] : List UInt8)) = false := beq_eq_false_iff_ne.mpr c
    have c1 : (s'.toList != ([] : List UInt8)) = true := bne_iff_ne.mpr c
    have HU := Aside0.mk hu
    clear c hu
    by_cases he : e = 0
    · subst he
      rw [if_pos rfl] at hr
      split at hr
      case isFalse => simp at hr
      case isTrue hlen =>
      have HR := Aside0.mk hr
      have HL := Aside0.mk hlen
      clear hr hlen
      gi_wp2_with (refine ⟨trivial, ?_⟩; gi_at_call 15; refine (callsIn_wide.2 (check_Unframe.calls 40 s' t rest 0 _ HU.out)).mono ?_; rintro e w1 ⟨rfl, hb1⟩; have g1 := Rf.grown_of_below hb1; have H1 := h1.kept g1 (by simp); have H2 := h2.kept g1 (by simp); have H3 := h3.kept g1 (by simp); have HJ1 := Aside0.mk (HJ.out _ _ _ _ none H0.out g1 (by simp)); have e2 := H2.cell; have e3 := H3.cell; have f3 := H3.frozen; have gs := grownBy_setCell' w1 be (.int .i64 0); obtain ⟨fy, ty, ay, by_, hy, hRd⟩ := HY.out acc s' t rest _ (Aside0.mk (HJ.out _ _ _ _ _ HJ1.out gs (by intro r hr; cases hr; exact Or.inr rfl))) (H1.kept gs (by simp [hne1])) (H2.kept gs (by simp [hne2])) (H3.set _) HL.out; clear hb1 g1 gs h1 h2 h3 HJ1)
      refine hRd.mono ?_
      rintro e W2 ⟨rfl, hJ2, G1, G2, G3⟩
      have e1 := G1.cell
      have f1 := G1.frozen
      have gs := grownBy_setCell' W2 bs (.string rest)
      have HJ2 := Aside0.mk (HJ.out _ _ _ _ _ hJ2 gs (by intro r hr; cases hr; exact Or.inl rfl))
      have G1' := G1.set (.string rest)
      have G2' := G2.kept gs (by simp [hne3])
      have G3' := G3.kept gs (by simp [hne1.symm])
      clear hJ2 gs
      gi_wp2
      exact ⟨j, by omega, acc ++ [t], rest, _, _, _, _, _, _, _, _, _, _, _, _, _, _, _, _, _, _, _, _, _, _, _, _, _, rfl, HR, HJ2, G1', G2', G3'⟩
    · rw [if_neg he] at hr
      obtain rfl := Option.some.inj hr
      clear hr
      have he0 : (e == 0) = false := beq_eq_false_iff_ne.mpr he
      have he1 : (e != 0) = true := bne_iff_ne.mpr he
      gi_wp2_with (refine ⟨trivial, ?_⟩; gi_at_call 15; refine (callsIn_wide.2 (check_Unframe.calls 40 s' t rest e _ HU.out)).mono ?_; rintro e_ w1 ⟨rfl, hb1⟩; have g1 := Rf.grown_of_below hb1; have H2 := h2.kept g1 (by simp); have H3 := h3.kept g1 (by simp); have HJ1 := Aside0.mk (HJ.out _ _ _ _ none H0.out g1 (by simp)); have e2 := H2.cell; have e3 := H3.cell; have f3 := H3.frozen; have gs := grownBy_setCell' w1 be (.int .i64 e); have HJ2 := Aside0.mk (HJ.out _ _ _ _ _ HJ1.out gs (by intro r hr; cases hr; exact Or.inr rfl)); have H3' := H3.set (.int .i64 e); clear hb1 g1 gs h1 h2 h3 HJ1)
      refine ⟨(fun f hf => nomatch hf), ?_⟩
      gi_wp2
      refine bodyPost_ret (results_none rfl _ _ _) rfl ?_
      exact ⟨_, rfl, HJ2.out, H3'⟩
theorem infoS : ∃ i0, Try.prog.info? 9 = some i0 ∧ i0.zero = some (.string ⟨#[]⟩) ∧ i0.size = 1 ∧ i0.bytes = 16 := by
  have h : (Try.prog.info? 9).map (fun i => (i.zero, i.size, i.bytes)) = some (some (.string ⟨#[]⟩), 1, 16) := by kernel_rfl
  cases hq : Try.prog.info? 9 with
  | none => rw [hq] at h; cases h
  | some i =>
    rw [hq] at h
    have h2 := Option.some.inj h
    simp only [Prod.mk.injEq] at h2
    exact ⟨i, rfl, h2.1, h2.2.1, h2.2.2⟩
/-- What check.Scan holds between two rounds. -/
def ScanJ (w : World) (n : Nat) (rec : Loop) (acc : List ByteArray) (s : ByteArray) (W : World) : Prop :=
  ∃ v, Boxed W n 32 v ∧ W.ownsRow (n + 7) 9 1 v acc.length (encs Value.string acc) ∧ Boxed W (n + 2) 9 (.string s) ∧ W.heap[n + 6]? = some (.loop rec) ∧ W.heap[n + 5]? = some (.deferred (some [])) ∧ Below n w W
theorem own_apart {W : World} {base e : Nat} {v : Value} {k : Nat} {xs : List Value} (h : W.ownsRow base e 1 v k xs) {j : Nat} (hj : j < base) : some j ≠ v.ownBlock := fun he => by
  have := (h.lt j he.symm).1
  omega
theorem ScanJ.abides {w : World} {n : Nat} {rec : Loop} {acc : List ByteArray} {s : ByteArray} {W W' : World} {row : Option Nat} (hJ : ScanJ w n rec acc s W) (hg : W.grownBy W' row) (hrow : ∀ r, row = some r → r = n + 3 ∨ r = n + 1) (hn : n = w.heap.size) : ScanJ w n rec acc s W' := by
  obtain ⟨v, h1, h2, h3, h4, h5, h6⟩ := hJ
  have ne : ∀ k, k ≠ n + 3 → k ≠ n + 1 → some k ≠ row := fun k k1 k2 he => by rcases hrow k he.symm with h | h <;> omega
  have hs := (Array.getElem?_eq_some_iff.1 h4).1
  refine ⟨v, h1.kept hg (ne _ (by omega) (by omega)), h2.kept hg ?_, h3.kept hg (ne _ (by omega) (by omega)), (hg.block _ hs (ne _ (by omega) (by omega))).trans h4, (hg.block _ (by omega) (ne _ (by omega) (by omega))).trans h5, h6.grown hg (by omega) (fun k hk => ?_)⟩
  · cases hv : v.ownBlock with
    | none => exact Or.inl rfl
    | some g =>
      refine Or.inr fun he => ?_
      have := (h2.lt g hv).1
      rcases hrow g he.symm with h | h <;> omega
  · rcases hrow k hk with h | h <;> omega
theorem cell_new1 (W : World) (e : Nat) (x : Value) : ∀ (j : Nat) (u : Value), [x][j]? = some u → (W.alloc (.cells #[x] e)).cell? ((⟨W.heap.size, 0, none⟩ : Addr).add j) = some u := by
  intro j u h
  cases j with
  | zero =>
    simp only [List.getElem?_cons_zero, Option.some.injEq] at h
    subst h
    rw [Addr.add_lit, Nat.add_zero]
    exact (Boxed.new W e x).cell
  | succ j => simp at h
set_option maxHeartbeats 1600000 in
theorem frames_calls (a0 : ByteArray) (ad : Addr) (w : World) :
    Calls Try.prog 27 #[.string a0, .pointer (some ad)] w fun e w' => e = .returned (.func (.func 31) #[] #[.pointer (some ⟨w.heap.size, 0, none⟩), .pointer (some ⟨w.heap.size + 1, 0, none⟩)]) ∧ w' = (w.alloc (.cells #[.string a0] 9)).alloc (.cells #[.pointer (some ad)] 51) := by
  go_enter Try.func27, Try.ntmps27
  go_wp2
  go_ret
  exact ⟨by simp, rfl⟩
attribute [local go_sem] Oper.semAt_some in
set_option maxHeartbeats 4000000 in
theorem check_Scan.calls (a0 : ByteArray) (r1 : List ByteArray) (r2 r3 : Int) (w : World) (h : check_Scan.f a0 = some (r1, r2, r3)) :
    Calls Try.prog 17 #[.string a0] w fun e w' => ∃ v0_ : Value, e = .returned (.tuple #[v0_, .int .i64 r2, .int .i64 r3]) ∧ Kd.R Kd.string 9 w' w.heap.size (fun _ => True) v0_ r1 ∧ Below w.heap.size w w' := by
  have H := Aside0.mk h
  clear h
  refine (callsIn_wide (n := 5)).1 ?_
  refine callsIn_of_wp_marks Try.func17 rfl trivial ?_ rfl
  simp only [Try.ntmps17, List.size_toArray, List.length_cons, List.length_nil, Nat.reduceAdd, Nat.reduceSub, Array.replicate_succ, Array.replicate_zero, List.push_toArray, List.append_toArray, List.nil_append, List.cons_append]
  gi_wp2_with (refine ⟨trivial, ?_⟩; gi_at_call 27; refine (callsIn_wide.2 (frames_calls a0 _ _)).mono ?_; rintro e w' ⟨rfl, rfl⟩)
  obtain ⟨n, hn⟩ : ∃ n, n = w.heap.size := ⟨_, rfl⟩
  refine Rf.wpIn_rangeFunc_at rfl (by decide) (gf := 31) rfl trivial (enters_of Try.func31 (by kernel_rfl) rfl) ?_
  intro fn _ rec hrec
  simp only [World.size_alloc, ← hn, Nat.add_assoc, Nat.reduceAdd] at hrec ⊢
  have HN := Aside0.mk hn
  clear hn
  have hY : ∀ (acc : List ByteArray) (s t rest : ByteArray) (W : World), Aside0 (ScanJ w n rec acc s W) → Boxed W (n + 3) 9 (.string s) → Boxed W (n + 4) 51 (.pointer (some ⟨n + 1, 0, none⟩)) → Boxed W (n + 1) 23 (.int .i64 0) → acc.length < 8796093022208 →
      YieldAt Fence.wide 3 Try.prog (n + 6) #[.string t, .string rest] W (fun e W' => e = .returned (.bool true) ∧ ScanJ w n rec (acc ++ [t]) rest W' ∧ Boxed W' (n + 3) 9 (.string s) ∧ Boxed W' (n + 4) 51 (.pointer (some ⟨n + 1, 0, none⟩)) ∧ Boxed W' (n + 1) 23 (.int .i64 0)) := by
      intro acc s t rest W hJ b1 b2 b3 hlen
      obtain ⟨v, h1, h2, h3, h4, h5, h6⟩ := hJ.out
      have HL := Aside0.mk hlen
      clear hlen hJ
      have hsz := (Array.getElem?_eq_some_iff.1 h4).1
      have hz : ∀ k o, k ≠ n + 6 → W.heap[k]? = some o → (W.putObj (n + 6) (.loop { rec with state := .busy })).heap[k]? = some o := fun k o hk h => (World.putObj_heap_other hk).trans h
      have hg0 := grownBy_putObj' W (n + 6) (.loop { rec with state := .busy })
      have k1 : Boxed (W.putObj (n + 6) (.loop { rec with state := .busy })) n 32 v := hz _ _ (by omega) h1
      have k3 : Boxed (W.putObj (n + 6) (.loop { rec with state := .busy })) (n + 2) 9 (.string s) := hz _ _ (by omega) h3
      have k2 := ownsRow_putObj h2 (.loop { rec with state := .busy }) h4 rfl
      have m1 : Boxed (W.putObj (n + 6) (.loop { rec with state := .busy })) (n + 3) 9 (.string s) := hz _ _ (by omega) b1
      have m2 : Boxed (W.putObj (n + 6) (.loop { rec with state := .busy })) (n + 4) 51 (.pointer (some ⟨n + 1, 0, none⟩)) := hz _ _ (by omega) b2
      have m3 : Boxed (W.putObj (n + 6) (.loop { rec with state := .busy })) (n + 1) 23 (.int .i64 0) := hz _ _ (by omega) b3
      have k5 := hz _ _ (by omega) h5
      have k4 : (W.putObj (n + 6) (.loop { rec with state := .busy })).heap[n + 6]? = some (.loop { rec with state := .busy }) := World.putObj_heap_same hsz
      have k6 : Below n w (W.putObj (n + 6) (.loop { rec with state := .busy })) := h6.grown hg0 (by omega) (fun k hk => by cases hk; omega)
      have hs2 : (W.putObj (n + 6) (.loop { rec with state := .busy })).heap.size = W.heap.size := World.putObj_size
      refine Rf.yieldAt_stays (r := rec) (R := fun W' => ScanJ w n rec (acc ++ [t]) rest W' ∧ Boxed W' (n + 3) 9 (.string s) ∧ Boxed W' (n + 4) 51 (.pointer (some ⟨n + 1, 0, none⟩)) ∧ Boxed W' (n + 1) 23 (.int .i64 0)) h4 (by rw [hrec]) (by rw [hrec]) (by rw [hrec]; rfl) trivial
        { tmps := #[.string a0, undef, .slice none 0 0, .int .i64 0, .int .i64 0, .pointer (some ⟨n, 0, none⟩), .pointer (some ⟨n + 1, 0, none⟩), .pointer (some ⟨n + 2, 0, none⟩), .string t, .string rest, .string a0, .string a0, .func (.func 31) #[] #[.pointer (some ⟨n + 3, 0, none⟩), .pointer (some ⟨n + 4, 0, none⟩)], .string t, .string rest, undef, undef, undef, undef, undef, undef, undef, undef, undef, undef, undef, undef], defers := [] } ?assign ?body
      case assign =>
        intro K hK
        rw [hrec]
        clear h1 h2 h3 h4 h5 h6 b1 b2 b3 k1 k2 k3 k4 k5 k6 m1 m2 m3 hz hg0 hs2 hrec
        gi_wp2
        exact hK
      case body =>
        generalize hW2 : W.putObj (n + 6) (.loop { rec with state := .busy }) = W2 at k1 k2 k3 k4 k5 k6 m1 m2 m3 hs2 ⊢
        have HX := Aside0.mk (And.intro k1 (And.intro k2 (And.intro k3 (And.intro k4 (And.intro k5 (And.intro k6 (And.intro m1 (And.intro m2 m3))))))))
        have e1 := k1.cell
        have f1 := k1.frozen
        have e3 := k3.cell
        have f3 := k3.frozen
        obtain ⟨i0, hi0, hz0, hz1, hz2⟩ := infoS
        have hb7 : n + 7 ≤ W2.heap.size := by have := (Array.getElem?_eq_some_iff.1 k4).1; omega
        have hbd := congrArg Loop.body hrec
        dsimp only at hbd
        rw [hbd]
        have HRec := Aside0.mk hrec
        clear h1 h2 h3 h4 h5 h6 b1 b2 b3 k1 k3 k4 k5 k6 m1 m2 m3 hz hg0 hs2 hrec hbd hW2 hsz
        gi_wp2_with (gi_at_builtin; refine wpListIn_append_own _ rfl _ _ 32 rfl (n + 7) 9 i0 (.string ⟨#[]⟩) 1 16 Try.underlying32 hi0 hz0 hz1 hz2 rfl (by decide) _ _ _ rfl (k2.alloc _) ⟨W2.heap.size, 0, none⟩ 1 1 [.string t] rfl rfl (cell_new1 _ _ _) (by simp [Value.oneCell']) (by have := HL.out; simp only [maxLen]; omega) (by have := HL.out; omega) (by rw [World.size_alloc]; omega) ?_; intro v' w3 hown' hg3 hnil3; obtain ⟨g', cap', rfl⟩ := ownsRow_succ hown'; have HO3 := Aside0.mk hown'; have HG3 := Aside0.mk hg3; have ne3 : ∀ k, k < n + 7 → w3.heap[k]? = W2.heap[k]? := (fun k hk => (hg3.block k (by rw [World.size_alloc]; omega) (own_apart k2 hk)).trans (Below.heap_alloc _ _ k (by omega))); have q1 : Boxed w3 n 32 v := (ne3 n (by omega)).trans HX.out.1; have q3 : Boxed w3 (n + 2) 9 (.string s) := (ne3 (n + 2) (by omega)).trans HX.out.2.2.1; have NE3 := Aside0.mk ne3; clear hown' hg3 hnil3 ne3; have e4 := q1.cell; have f4 := q1.frozen; have q5 := q3.kept (grownBy_setCell' w3 n (.slice (some ⟨g', 0, none⟩) (acc.length + 1) cap')) (by simp); have e5 := q5.cell; have f5 := q5.frozen; clear q3 q5)
        obtain ⟨k1, _, k3, k4, k5, k6, m1, m2, m3⟩ := HX.out
        obtain ⟨W5, hW5⟩ : ∃ W5, W5 = (w3.setCell ⟨n, 0, none⟩ (.slice (some ⟨g', 0, none⟩) (acc.length + 1) cap')).setCell ⟨n + 2, 0, none⟩ (.string rest) := ⟨_, rfl⟩
        have hk5 : ∀ k, k < n + 7 → k ≠ n → k ≠ n + 2 → W5.heap[k]? = W2.heap[k]? := fun k z1 z2 z3 => by rw [hW5]; exact (Below.heap_setCell _ _ _ k z3).trans ((Below.heap_setCell _ _ _ k z2).trans (NE3.out k z1))
        have q1 : Boxed w3 n 32 v := (NE3.out n (by omega)).trans k1
        have q3 : Boxed w3 (n + 2) 9 (.string s) := (NE3.out (n + 2) (by omega)).trans k3
        have p1 : Boxed W5 n 32 (.slice (some ⟨g', 0, none⟩) (acc.length + 1) cap') := by rw [hW5]; exact (q1.set _).kept (grownBy_setCell' _ _ _) (by simp)
        have p3 : Boxed W5 (n + 2) 9 (.string rest) := by rw [hW5]; exact (q3.kept (grownBy_setCell' w3 n _) (by simp)).set _
        have p2 : W5.ownsRow (n + 7) 9 1 (.slice (some ⟨g', 0, none⟩) (acc.length + 1) cap') (acc.length + 1) (encs Value.string acc ++ [.string t]) := by
          rw [hW5]
          exact (HO3.out.kept (grownBy_setCell' _ _ _) (Or.inr fun he => own_apart HO3.out (by omega) he.symm)).kept (grownBy_setCell' _ _ _) (Or.inr fun he => own_apart HO3.out (by omega) he.symm)
        have p4 := (hk5 (n + 6) (by omega) (by omega) (by omega)).trans k4
        have hb5 : Below n w W5 := by
          rw [hW5]
          exact (((k6.alloc (by omega) _).grown HG3.out (by rw [World.size_alloc]; omega) (fun k hk => by have := (k2.lt k hk).1; omega)).setCell (Nat.le_refl _) _).setCell (by show n ≤ n + 2; omega) _
        have hk6 : ∀ k o, k ≠ n + 6 → W5.heap[k]? = some o → (W5.putObj (n + 6) (.loop rec)).heap[k]? = some o := fun k o hk h => (World.putObj_heap_other hk).trans h
        have hlt5 := (Array.getElem?_eq_some_iff.1 p4).1
        rw [← hW5]
        refine ⟨p4, ⟨_, hk6 _ _ (by omega) p1, ?_, hk6 _ _ (by omega) p3, World.putObj_heap_same hlt5, hk6 _ _ (by omega) ((hk5 _ (by omega) (by omega) (by omega)).trans k5), hb5.grown (grownBy_putObj' _ _ _) (by omega) (fun k hk => by cases hk; omega)⟩,
          hk6 _ _ (by omega) ((hk5 _ (by omega) (by omega) (by omega)).trans m1), hk6 _ _ (by omega) ((hk5 _ (by omega) (by omega) (by omega)).trans m2), hk6 _ _ (by omega) ((hk5 _ (by omega) (by omega) (by omega)).trans m3)⟩
        have p5 := ownsRow_putObj p2 (.loop rec) p4 rfl
        rw [List.length_append, List.length_singleton, show encs Value.string (acc ++ [t]) = encs Value.string acc ++ [.string t] from by simp [encs]]
        exact p5
  have hH := H.out
  unfold check_Scan.f at hH
  obtain ⟨⟨ts, left, er⟩, hl, hH⟩ := Option.bind_eq_some_iff.1 hH
  simp only [Option.some.injEq, Prod.mk.injEq] at hH
  obtain ⟨rfl, rfl, rfl⟩ := hH
  refine CallsIn.mono (frames1_in (n + 6) (n + 3) (n + 4) (n + 1) (ScanJ w n rec) (by omega) (by omega) (by omega) (fun acc s W W' row hJ hg hr => hJ.abides hg hr HN.out) (fun acc s t rest W hJ b1 b2 b3 hlen => hY acc s t rest W hJ b1 b2 b3 hlen) (a0.size + 1) a0 _ hl _ ?_ ?_ ?_ ?_) ?_
  · have hn := HN.out
    subst hn
    refine ⟨.slice none 0 0, (((((((Boxed.new w _ _).alloc _).alloc _).alloc _).alloc _).alloc _).alloc _), World.ownsRow_nil _ _ _ _, ?_, ?_, ?_, ?_⟩
    · have h := ((((Boxed.new ((w.alloc (.cells #[.slice none 0 0] 32)).alloc (.cells #[.int .i64 0] 23)) 9 (.string a0)).alloc (.cells #[.string a0] 9)).alloc (.cells #[.pointer (some ⟨w.heap.size + 1, 0, none⟩)] 51)).alloc (.deferred (some []))).alloc (.loop rec)
      simpa only [World.size_alloc, Nat.add_assoc, Nat.reduceAdd] using h
    · have h := World.alloc_heap_new ((((((w.alloc (.cells #[.slice none 0 0] 32)).alloc (.cells #[.int .i64 0] 23)).alloc (.cells #[.string a0] 9)).alloc (.cells #[.string a0] 9)).alloc (.cells #[.pointer (some ⟨w.heap.size + 1, 0, none⟩)] 51)).alloc (.deferred (some []))) (.loop rec)
      simpa only [World.size_alloc, Nat.add_assoc, Nat.reduceAdd] using h
    · have h := World.alloc_heap_new (((((w.alloc (.cells #[.slice none 0 0] 32)).alloc (.cells #[.int .i64 0] 23)).alloc (.cells #[.string a0] 9)).alloc (.cells #[.string a0] 9)).alloc (.cells #[.pointer (some ⟨w.heap.size + 1, 0, none⟩)] 51)) (.deferred (some []))
      simp only [World.size_alloc, Nat.add_assoc, Nat.reduceAdd] at h
      exact (Below.heap_alloc _ _ _ (by simp only [World.size_alloc]; omega)).trans h
    · refine (((((((Below.refl _ w).alloc ?_ _).alloc ?_ _).alloc ?_ _).alloc ?_ _).alloc ?_ _).alloc ?_ _).alloc ?_ _ <;> (try simp only [World.size_alloc]) <;> omega
  · have hn := HN.out
    subst hn
    have h := (((Boxed.new (((w.alloc (.cells #[.slice none 0 0] 32)).alloc (.cells #[.int .i64 0] 23)).alloc (.cells #[.string a0] 9)) 9 (.string a0)).alloc (.cells #[.pointer (some ⟨w.heap.size + 1, 0, none⟩)] 51)).alloc (.deferred (some []))).alloc (.loop rec)
    simpa only [World.size_alloc, Nat.add_assoc, Nat.reduceAdd] using h
  · have hn := HN.out
    subst hn
    have h := ((Boxed.new ((((w.alloc (.cells #[.slice none 0 0] 32)).alloc (.cells #[.int .i64 0] 23)).alloc (.cells #[.string a0] 9)).alloc (.cells #[.string a0] 9)) 51 (.pointer (some ⟨w.heap.size + 1, 0, none⟩))).alloc (.deferred (some []))).alloc (.loop rec)
    simpa only [World.size_alloc, Nat.add_assoc, Nat.reduceAdd] using h
  · have hn := HN.out
    subst hn
    have h := (((((Boxed.new (w.alloc (.cells #[.slice none 0 0] 32)) 23 (.int .i64 0)).alloc (.cells #[.string a0] 9)).alloc (.cells #[.string a0] 9)).alloc (.cells #[.pointer (some ⟨w.heap.size + 1, 0, none⟩)] 51)).alloc (.deferred (some []))).alloc (.loop rec)
    simpa only [World.size_alloc, Nat.add_assoc, Nat.reduceAdd] using h
  · rintro e W' ⟨v, rfl, hJ, hbe⟩
    obtain ⟨v, h1, h2, h3, h4, h5, h6⟩ := hJ
    refine ⟨_, rec, rfl, h4, by rw [hrec]; simp, by rw [hrec], ?_⟩
    have hlt := (Array.getElem?_eq_some_iff.1 h4).1
    have hx : ∀ k o, k ≠ n + 6 → W'.heap[k]? = some o → (W'.putObj (n + 6) (.loop { rec with state := .exhausted })).heap[k]? = some o := fun k o hk h => (World.putObj_heap_other hk).trans h
    have k1 : Boxed (W'.putObj (n + 6) (.loop { rec with state := .exhausted })) n 32 v := hx _ _ (by omega) h1
    have k3 : Boxed (W'.putObj (n + 6) (.loop { rec with state := .exhausted })) (n + 2) 9 (.string left) := hx _ _ (by omega) h3
    have ke : Boxed (W'.putObj (n + 6) (.loop { rec with state := .exhausted })) (n + 1) 23 (.int .i64 er) := hx _ _ (by omega) hbe
    have k5 : (W'.putObj (n + 6) (.loop { rec with state := .exhausted })).heap[n + 5]? = some (.deferred (some [])) := hx _ _ (by omega) h5
    have k2 := ownsRow_putObj h2 (.loop { rec with state := .exhausted }) h4 rfl
    have k6 := h6.grown (grownBy_putObj' W' (n + 6) (.loop { rec with state := .exhausted })) (by omega) (fun k hk => by cases hk; omega)
    clear hx h1 h2 h3 h4 h5 h6 hbe hrec hlt hl H hY
    generalize W'.putObj (n + 6) (.loop { rec with state := .exhausted }) = W5 at k1 k2 k3 k5 k6 ke ⊢
    have e1 := k1.cell
    have e2 := k3.cell
    have e3 := ke.cell
    have hmx : Try.prog.follows .mixedOrders = true := by kernel_rfl
    gi_wp2
    gi_region
    have hn := HN.out
    clear HN
    gi_wp2
    refine ⟨by simp, .inl ⟨_, _, rfl, run_takeDeferred (show W5.drew.heap[n + 5]? = _ from k5), ?_⟩⟩
    refine ⟨_, results_tmp3 rfl _ _ _, ?_⟩
    rw [← hn]
    have k7 := ownsRow_putObj (show W5.drew.ownsRow (n + 7) 9 1 v ts.length (encs Value.string ts) from k2) (.deferred none) (show W5.drew.heap[n + 5]? = _ from k5) rfl
    exact ⟨v, rfl, Kd.R_of_own ⟨k7.1, k7.2.imp id (fun ⟨g, cap, cur, e, hb, r⟩ => ⟨g, cap, cur, e, by omega, r⟩)⟩ (fun _ _ => trivial), k6.drew.grown (grownBy_putObj' _ _ _) (by show n ≤ W5.heap.size; have := k6.size; omega) (fun k hk => by cases hk; omega)⟩
end Go.Proofs.Ytkdmjnmilmmnjaa.P
