-- Written by sprint.py (wip/tools) with the kit's print.py: a program's text, checked by Lean alone.
import Derived.Test.YtaolidjfbgpccaaPx0
namespace Go.Proofs.Ytaolidjfbgpccaa.P
open Go.RowKit Go.Proofs.Ytaolidjfbgpccaa.Vp Go.Proofs.YtaolidjfbgpccaaW.PrintWords Go.Proofs.YtaolidjfbgpccaaW.PrintLast Go.Proofs.YtaolidjfbgpccaaW.PrintMore
attribute [local go_sem] max2_int min2_int max_two min_two max_three min_three max_four min_four   -- for this text's walks alone
set_option linter.unusedVariables false
set_option linter.unusedSimpArgs false

/-! ### varint_width: function 27 -/
def varint_width.f (a0 : Int) : Option Int := if 0 ≤ a0 ∧ a0 < 18446744073709551616 then some (widthP a0) else none
set_option maxHeartbeats 1600000 in
theorem varint_width.calls (a0 : Int) (r : Int) (w : World) (h : varint_width.f a0 = some r) :
    Calls Try.prog 27 #[.int .u64 a0] w fun e w' => e = .returned (.int .i64 r) ∧ Drawn0 w w' := by
  unfold varint_width.f at h
  split at h
  case isFalse => simp at h
  case isTrue hh =>
  obtain ⟨h0, h1⟩ := hh
  obtain rfl := Option.some.inj h
  clear h
  have hw : 3 ≤ widthP a0 ∧ widthP a0 ≤ 8 := by unfold widthP; repeat' split <;> omega
  have hlt : ∀ j : Int, 3 ≤ j → j < widthP a0 → (j = 3 ∧ 16777216 ≤ a0) ∨ (j = 4 ∧ 4294967296 ≤ a0) ∨ (j = 5 ∧ 1099511627776 ≤ a0) ∨ (j = 6 ∧ 281474976710656 ≤ a0) ∨ (j = 7 ∧ 72057594037927936 ≤ a0) := by
    intro j hj hj2
    unfold widthP at hj2
    repeat' split at hj2
    all_goals omega
  have heq : (widthP a0 = 3 ∧ a0 < 16777216) ∨ (widthP a0 = 4 ∧ a0 < 4294967296) ∨ (widthP a0 = 5 ∧ a0 < 1099511627776) ∨ (widthP a0 = 6 ∧ a0 < 281474976710656) ∨ (widthP a0 = 7 ∧ a0 < 72057594037927936) ∨ widthP a0 = 8 := by
    unfold widthP
    repeat' split
    all_goals omega
  obtain ⟨W, hW⟩ : ∃ W, widthP a0 = W := ⟨_, rfl⟩
  rw [hW] at hw hlt heq ⊢
  have HLT := Aside0.mk hlt
  have HEQ := Aside0.mk heq
  have HWR := Aside0.mk hw
  clear hlt heq hw hW
  go_enter Try.func27, Try.ntmps27
  go_wp2
  go_step3
  go_wp2
  go_step3
  go_wp2
  go_loopg [3] 5 (fun kq v3 w' => ∃ j : Int, v3 = .int .i64 j ∧ Aside0 (3 ≤ j) ∧ Aside0 (j ≤ W) ∧ Aside0 ((kq : Int) = 8 - j) ∧ Drawn0 w w')
  case atStart => exact ⟨3, rfl, ⟨by omega⟩, ⟨HWR.out.1⟩, ⟨by decide⟩, Drawn0.refl _⟩
  case round =>
    obtain ⟨j, rfl, H3, HJ, HK, ⟨m1, rfl⟩⟩ := hrel
    by_cases hjw : j < W
    · rcases HLT.out j H3.out hjw with ⟨rfl, hn⟩ | ⟨rfl, hn⟩ | ⟨rfl, hn⟩ | ⟨rfl, hn⟩ | ⟨rfl, hn⟩
      all_goals
        have hz1 : ((a0 / 16777216) == 0) = false := by simp; omega
        try have hz2 : ((a0 / 4294967296) == 0) = false := by simp; omega
        try have hz3 : ((a0 / 1099511627776) == 0) = false := by simp; omega
        try have hz4 : ((a0 / 281474976710656) == 0) = false := by simp; omega
        try have hz5 : ((a0 / 72057594037927936) == 0) = false := by simp; omega
        go_wp2
        go_roundg (gk - 1)
        case measure => have := HK.out; omega
        case rel => exact ⟨_, rfl, ⟨by omega⟩, ⟨by have := hjw; omega⟩, ⟨by have := HK.out; omega⟩, ⟨⟨m1, rfl⟩⟩⟩
    · have hjw2 : j = W := by have := HJ.out; omega
      subst hjw2
      rcases HEQ.out with ⟨rfl, hn⟩ | ⟨rfl, hn⟩ | ⟨rfl, hn⟩ | ⟨rfl, hn⟩ | ⟨rfl, hn⟩ | rfl
      all_goals
        try have hz1 : ((a0 / 16777216) == 0) = true := by simp; omega
        try have hz2 : ((a0 / 4294967296) == 0) = true := by simp; omega
        try have hz3 : ((a0 / 1099511627776) == 0) = true := by simp; omega
        try have hz4 : ((a0 / 281474976710656) == 0) = true := by simp; omega
        try have hz5 : ((a0 / 72057594037927936) == 0) = true := by simp; omega
        go_wp2
        try rw [Exit.noGoto_ret]
        go_ret
        exact ⟨rfl, ⟨⟨m1, rfl⟩⟩⟩


/-! ### varint_Size: function 12 -/
def varint_Size.f (a0 : Int) : Option (Int) := if a0 ≤ 240 then (some 1) else (if a0 ≤ 2287 then (some 2) else (if a0 ≤ 67823 then (some 3) else ((varint_width.f a0).bind fun t101 => (some (wrap64 (t101 + 1))))))
set_option maxHeartbeats 8000000 in
set_option maxRecDepth 100000 in
theorem varint_Size.calls (a0 : Int) (r : Int) (w : World) (h : varint_Size.f a0 = some r) :
    Calls Try.prog 12 #[.int .u64 a0] w fun e w' => e = .returned (.int .i64 r) ∧ Drawn0 w w' := by
  have H : (if a0 ≤ 240 then (some 1) else (if a0 ≤ 2287 then (some 2) else (if a0 ≤ 67823 then (some 3) else ((varint_width.f a0).bind fun t101 => (some (wrap64 (t101 + 1))))))) = some r := h
  clear h
  by_cases c2 : a0 ≤ 240
  · rw [if_pos c2] at H
    have c2b0 : decide (a0 ≤ 240) = true := decide_eq_true c2
    clear c2
    obtain rfl := Option.some.inj H
    go_enter Try.func12, Try.ntmps12
    go_wp2
    all_goals go_ret
    all_goals exact ⟨by first | rfl | (simp; done) | (simp [*]; done), by repeat (first | exact Drawn0.refl _ | apply Drawn0.step)⟩
  · rw [if_neg c2] at H
    have c2b0 : decide (a0 ≤ 240) = false := decide_eq_false c2
    clear c2
    by_cases c3 : a0 ≤ 2287
    · rw [if_pos c3] at H
      have c3b0 : decide (a0 ≤ 2287) = true := decide_eq_true c3
      clear c3
      obtain rfl := Option.some.inj H
      go_enter Try.func12, Try.ntmps12
      go_wp2
      all_goals go_ret
      all_goals exact ⟨by first | rfl | (simp; done) | (simp [*]; done), by repeat (first | exact Drawn0.refl _ | apply Drawn0.step)⟩
    · rw [if_neg c3] at H
      have c3b0 : decide (a0 ≤ 2287) = false := decide_eq_false c3
      clear c3
      by_cases c4 : a0 ≤ 67823
      · rw [if_pos c4] at H
        have c4b0 : decide (a0 ≤ 67823) = true := decide_eq_true c4
        clear c4
        obtain rfl := Option.some.inj H
        go_enter Try.func12, Try.ntmps12
        go_wp2
        all_goals go_ret
        all_goals exact ⟨by first | rfl | (simp; done) | (simp [*]; done), by repeat (first | exact Drawn0.refl _ | apply Drawn0.step)⟩
      · rw [if_neg c4] at H
        have c4b0 : decide (a0 ≤ 67823) = false := decide_eq_false c4
        clear c4
        replace H := Option.bind_eq_some_iff.mp H
        obtain ⟨t101, A50, H⟩ := H
        replace H : (some (wrap64 (t101 + 1))) = some r := H
        have A5 := Aside0.mk A50
        clear A50
        obtain rfl := Option.some.inj H
        go_enter Try.func12, Try.ntmps12
        go_wp2_with (first | ((with_reducible refine gate_callee (f := 27) rfl ?_); refine goesL_ (some 13) rfl rfl Try.func27 (by kernel_rfl) rfl #[.int .u64 a0] rfl (by (try simp only [List.map_toArray, List.map_cons, List.map_nil]); first | done | rfl | (simp only [List.length_drop, List.length_take]; rfl)) ?_; (with_reducible refine (varint_width.calls a0 t101 _ A5.out).mono ?_); rintro e w' ⟨rfl, ⟨nd, rfl⟩⟩; refine ⟨_, rfl, ?_⟩))
        all_goals go_ret
        all_goals exact ⟨by first | rfl | (simp; done) | (simp [*]; done), by repeat (first | exact Drawn0.refl _ | apply Drawn0.step)⟩

/-! ### varint_Put: function 10 -/
theorem size_f (n : Int) (h0 : 0 ≤ n) (h1 : n < 18446744073709551616) : varint_Size.f n = some (sizeP n) := by
  unfold varint_Size.f sizeP varint_width.f
  split
  · rfl
  · split
    · rfl
    · split
      · rfl
      · rw [if_pos ⟨h0, h1⟩]
        have := widthP_range n
        simp only [Option.bind_some]
        rw [show wrap64 (widthP n + 1) = widthP n + 1 from by unfold wrap64; omega]
/-- Nine cells: the first byte, and what of the number's bytes has been written from behind. -/
theorem arr_row (w : World) (c : Int) : Kd.R (Kd.int .u8) 42 (w.alloc (.cells #[.int .u8 c, .int .u8 0, .int .u8 0, .int .u8 0, .int .u8 0, .int .u8 0, .int .u8 0, .int .u8 0, .int .u8 0] 42)) w.heap.size (fun _ => True) (.slice (some ⟨w.heap.size, 0, none⟩) 9 9) [c, 0, 0, 0, 0, 0, 0, 0, 0] :=
  Kd.R_of_own (by
    have h := World.ownsRow_lit (base := w.heap.size) (e := 42) (size := 1) w #[.int .u8 c, .int .u8 0, .int .u8 0, .int .u8 0, .int .u8 0, .int .u8 0, .int .u8 0, .int .u8 0, .int .u8 0] 9 (Nat.le_refl _) (by decide) (by simp)
    exact h) (fun _ _ => trivial)
theorem own_nums {e : Nat} {W : World} {base : Nat} {ok : Nat → Prop} {v : Value} {l : List Int} (h : Kd.R (Kd.int .u8) e W base ok v l) : W.ownsRow base e 1 v l.length (nums .u8 l) := Kd.own_of_R h
/-- The row while the loop runs: what stands behind index m is written: the number's lowest bytes. -/
structure Fill (c x0 x : Int) (m k : Nat) (xs : List Int) : Prop where
  len : xs.length = 9
  lt : m < k
  k9 : k ≤ 9
  head : xs.take 1 = [c]
  rest : (xs.take k).drop (m + 1) = beL x0 (k - 1 - m)
  left : x = x0 / 256 ^ (k - 1 - m)
theorem Fill.step {c x0 x : Int} {m k : Nat} {xs : List Int} (h : Fill c x0 x (m + 1) k xs) : Fill c x0 (x / 256) m k (xs.set (m + 1) (x % 256)) := by
  have h1 := h.len
  have h2 := h.lt
  have h3 := h.k9
  have e : k - 1 - m = (k - 1 - (m + 1)) + 1 := by omega
  refine ⟨by rw [List.length_set, h1], by omega, h3, ?_, ?_, ?_⟩
  · rw [← h.head, List.take_set_of_le (by omega)]
  · rw [e, beL_succ, ← h.left, ← h.rest]
    rw [List.take_set, List.drop_eq_getElem_cons (by simp; omega), List.getElem_set_self]
    rw [List.drop_set_of_lt (by omega)]
  · rw [e, h.left, Int.ediv_ediv_of_nonneg (Int.pow_nonneg (by decide)), Int.pow_succ]
theorem Fill.out {c x0 x : Int} {k : Nat} {xs : List Int} (h : Fill c x0 x 0 k xs) : xs.take k = c :: beL x0 (k - 1) := by
  have h1 := h.len
  have h2 := h.lt
  have h3 := h.rest
  rw [Nat.sub_zero, Nat.zero_add] at h3
  rw [← h3]
  have h4 := h.head
  obtain ⟨y, ys, rfl⟩ : ∃ y ys, xs = y :: ys := List.exists_cons_of_length_pos (by omega)
  simp only [List.take_succ_cons, List.take_zero, List.cons.injEq, and_true] at h4
  subst h4
  obtain ⟨k, rfl⟩ : ∃ j, k = j + 1 := ⟨k - 1, by omega⟩
  simp
theorem Fill.start (c x0 : Int) (k : Nat) (h1 : 0 < k) (h9 : k ≤ 9) : Fill c x0 x0 (k - 1) k [c, 0, 0, 0, 0, 0, 0, 0, 0] := by
  refine ⟨rfl, by omega, h9, rfl, ?_, ?_⟩
  · rw [show k - 1 - (k - 1) = 0 by omega, show k - 1 + 1 = k by omega, List.drop_of_length_le (by simp; omega)]; rfl
  · rw [show k - 1 - (k - 1) = 0 by omega]; simp
set_option maxHeartbeats 1600000 in
/-- Of one byte. -/
theorem put_one (a0 : Int) (w : World) (h0 : 0 ≤ a0) (h1 : a0 ≤ 240) :
    Calls Try.prog 10 #[.int .u64 a0] w fun e w' => e = .returned (.string (putP a0)) ∧ Below w.heap.size w w' := by
  have hs := size_f a0 h0 (by omega)
  have hsz : sizeP a0 = 1 := by unfold sizeP; rw [if_pos h1]
  rw [hsz] at hs
  have hfin : putP a0 = strOfNums [a0] := by
    unfold putP putL
    rw [if_pos h1]
  have HS := Aside0.mk hs
  have HF := Lib.hid hfin
  have hstr : ∀ w1 : World, (convert 43 9 (.slice (some ⟨w1.heap.size, 0, none⟩) 1 9)).run Try.prog (w1.alloc (.cells #[.int .u8 a0, .int .u8 0, .int .u8 0, .int .u8 0, .int .u8 0, .int .u8 0, .int .u8 0, .int .u8 0, .int .u8 0] 42)) = .ok (.string (putP a0)) (w1.alloc (.cells #[.int .u8 a0, .int .u8 0, .int .u8 0, .int .u8 0, .int .u8 0, .int .u8 0, .int .u8 0, .int .u8 0, .int .u8 0] 42)) := by
    intro w1
    have hown := own_nums (Kd.R_take (arr_row w1 a0) (m := 1) (by simp))
    rw [hfin]
    exact own_string (P := Try.prog) (src := 43) (dst := 9) Try.underlying43 Try.underlying5 Try.underlying9 hown
  clear hs hsz hfin
  go_enter Try.func10, Try.ntmps10
  go_wp2_with (first | (go_at_call 12; (with_reducible refine (varint_Size.calls a0 _ _ HS.out).mono ?_); rintro e w1 ⟨rfl, hd⟩; have HD := Aside0.mk hd.below; clear hd))
  go_ret
  exact ⟨rfl, below_then HD.out HD.out.size (below_alloc (Below.refl _ _) _)⟩
set_option maxHeartbeats 3200000 in
/-- Of two bytes. -/
theorem put_two (a0 : Int) (w : World) (h1 : 240 < a0) (h2 : a0 ≤ 2287) :
    Calls Try.prog 10 #[.int .u64 a0] w fun e w' => e = .returned (.string (putP a0)) ∧ Below w.heap.size w w' := by
  have h0 : 0 ≤ a0 := by omega
  have hs := size_f a0 h0 (by omega)
  have hsz : sizeP a0 = 2 := by unfold sizeP; rw [if_neg (by omega), if_pos (by omega)]
  rw [hsz] at hs
  have hfin : putP a0 = strOfNums ((241 + (a0 - 240) / 256) :: beL (a0 - 240) 1) := by
    unfold putP putL
    rw [if_neg (by omega), if_pos (by omega)]; rfl
  have HS := Aside0.mk hs
  have HF := Lib.hid hfin
  clear hs hsz hfin
  go_enter Try.func10, Try.ntmps10
  go_wp2_with (first | (go_at_call 12; (with_reducible refine (varint_Size.calls a0 _ _ HS.out).mono ?_); rintro e w1 ⟨rfl, hd⟩; have HD := Aside0.mk hd.below; clear hd))
  have HR := Aside0.mk (arr_row w1 (241 + (a0 - 240) / 256))
  have hst := Fill.start (241 + (a0 - 240) / 256) (a0 - 240) 2 (by omega) (by omega)
  have HST := Aside0.mk hst
  clear hst
  go_loopg [0, 5] 1 (fun kq v0 v5 w' => ∃ (x : Int) (m : Nat) (xs : List Int), v0 = .int .u64 x ∧ v5 = .int .i64 (m : Int) ∧ Aside0 (kq = m) ∧ Aside0 (0 ≤ x ∧ x < 18446744073709551616) ∧ Aside0 (Fill (241 + (a0 - 240) / 256) (a0 - 240) x m 2 xs) ∧ Aside0 (Kd.R (Kd.int .u8) 42 w' w1.heap.size (fun _ => True) (.slice (some ⟨w1.heap.size, 0, none⟩) 9 9) xs) ∧ Aside0 (Below w1.heap.size w1 w'))
  case atStart => exact ⟨a0 - 240, 1, _, rfl, by first | rfl | go_num, ⟨rfl⟩, ⟨by omega⟩, HST, HR, ⟨below_alloc (Below.refl _ _) _⟩⟩
  case round =>
    clear HR HST
    obtain ⟨x, m, xs, rfl, rfl, HK, HX, HFL, HR, HB⟩ := hrel
    have hx0 := HX.out.1
    have hx1 := HX.out.2
    have hmk := HFL.out.lt
    cases m with
    | zero =>
      have hown := own_nums (Kd.R_take HR.out (m := 2) (by rw [HFL.out.len]; omega))
      have hout := HFL.out.out
      have hlen : (xs.take 2).length = 2 := by rw [List.length_take, HFL.out.len]; omega
      rw [hlen] at hown
      have hstr := own_string (P := Try.prog) (src := 43) (dst := 9) Try.underlying43 Try.underlying5 Try.underlying9 hown
      rw [hout] at hstr
      have hstr2 := hstr.trans (by rw [← HF.out])
      clear hstr
      have hstr := hstr2
      clear hstr2 hown hout hlen
      go_wp2
      go_ret
      exact ⟨rfl, below_then HD.out HD.out.size HB.out⟩
    | succ m =>
      obtain ⟨hc, hf⟩ := Kd.R_celln 0 HR.out ((m + 1 : Nat) : Int) (by omega) (by omega)
      rw [Int.toNat_natCast] at hc hf
      obtain ⟨hput, hg⟩ := Kd.R_putg HR.out ((m + 1 : Nat) : Int) (x % 256)
      have hstep := HFL.out.step
      rw [Int.toNat_natCast] at hput hg
      have hbge : w1.heap.size ≤ w1.heap.size := Nat.le_refl _
      have HP := Aside0.mk hput
      have HST := Aside0.mk hstep
      have HB2 : Below w1.heap.size w1 (wr.setCell ⟨w1.heap.size, m + 1, none⟩ (.int .u8 (x % 256))) := HB.out.setCell (Nat.le_refl _) _
      have HBB := Aside0.mk HB2
      clear hput hg hstep HB2 hbge
      have hq : Kd.R (Kd.int .u8) 42 wr w1.heap.size (fun _ => True) (.slice (some ⟨w1.heap.size, 0, none⟩) 9 9) xs := HR.out
      clear hq
      have hm8 : (m : Int) + 1 < 9 := by omega
      go_wp2
      go_roundg m
      case measure => have := HK.out; omega
      case rel => exact ⟨_, m, _, rfl, rfl, ⟨rfl⟩, ⟨by omega⟩, HST, HP, HBB⟩
set_option maxHeartbeats 3200000 in
/-- Of three bytes. -/
theorem put_three (a0 : Int) (w : World) (h1 : 2287 < a0) (h2 : a0 ≤ 67823) :
    Calls Try.prog 10 #[.int .u64 a0] w fun e w' => e = .returned (.string (putP a0)) ∧ Below w.heap.size w w' := by
  have h0 : 0 ≤ a0 := by omega
  have hs := size_f a0 h0 (by omega)
  have hsz : sizeP a0 = 3 := by unfold sizeP; rw [if_neg (by omega), if_neg (by omega), if_pos (by omega)]
  rw [hsz] at hs
  have hfin : putP a0 = strOfNums (249 :: beL (a0 - 2288) 2) := by
    unfold putP putL
    rw [if_neg (by omega), if_neg (by omega), if_pos (by omega)]
  have HS := Aside0.mk hs
  have HF := Lib.hid hfin
  clear hs hsz hfin
  go_enter Try.func10, Try.ntmps10
  go_wp2_with (first | (go_at_call 12; (with_reducible refine (varint_Size.calls a0 _ _ HS.out).mono ?_); rintro e w1 ⟨rfl, hd⟩; have HD := Aside0.mk hd.below; clear hd))
  have HR := Aside0.mk (arr_row w1 (249))
  have hst := Fill.start (249) (a0 - 2288) 3 (by omega) (by omega)
  have HST := Aside0.mk hst
  clear hst
  go_loopg [0, 5] 2 (fun kq v0 v5 w' => ∃ (x : Int) (m : Nat) (xs : List Int), v0 = .int .u64 x ∧ v5 = .int .i64 (m : Int) ∧ Aside0 (kq = m) ∧ Aside0 (0 ≤ x ∧ x < 18446744073709551616) ∧ Aside0 (Fill (249) (a0 - 2288) x m 3 xs) ∧ Aside0 (Kd.R (Kd.int .u8) 42 w' w1.heap.size (fun _ => True) (.slice (some ⟨w1.heap.size, 0, none⟩) 9 9) xs) ∧ Aside0 (Below w1.heap.size w1 w'))
  case atStart => exact ⟨a0 - 2288, 2, _, rfl, by first | rfl | go_num, ⟨rfl⟩, ⟨by omega⟩, HST, HR, ⟨below_alloc (Below.refl _ _) _⟩⟩
  case round =>
    clear HR HST
    obtain ⟨x, m, xs, rfl, rfl, HK, HX, HFL, HR, HB⟩ := hrel
    have hx0 := HX.out.1
    have hx1 := HX.out.2
    have hmk := HFL.out.lt
    cases m with
    | zero =>
      have hown := own_nums (Kd.R_take HR.out (m := 3) (by rw [HFL.out.len]; omega))
      have hout := HFL.out.out
      have hlen : (xs.take 3).length = 3 := by rw [List.length_take, HFL.out.len]; omega
      rw [hlen] at hown
      have hstr := own_string (P := Try.prog) (src := 43) (dst := 9) Try.underlying43 Try.underlying5 Try.underlying9 hown
      rw [hout] at hstr
      have hstr2 := hstr.trans (by rw [← HF.out])
      clear hstr
      have hstr := hstr2
      clear hstr2 hown hout hlen
      go_wp2
      go_ret
      exact ⟨rfl, below_then HD.out HD.out.size HB.out⟩
    | succ m =>
      obtain ⟨hc, hf⟩ := Kd.R_celln 0 HR.out ((m + 1 : Nat) : Int) (by omega) (by omega)
      rw [Int.toNat_natCast] at hc hf
      obtain ⟨hput, hg⟩ := Kd.R_putg HR.out ((m + 1 : Nat) : Int) (x % 256)
      have hstep := HFL.out.step
      rw [Int.toNat_natCast] at hput hg
      have hbge : w1.heap.size ≤ w1.heap.size := Nat.le_refl _
      have HP := Aside0.mk hput
      have HST := Aside0.mk hstep
      have HB2 : Below w1.heap.size w1 (wr.setCell ⟨w1.heap.size, m + 1, none⟩ (.int .u8 (x % 256))) := HB.out.setCell (Nat.le_refl _) _
      have HBB := Aside0.mk HB2
      clear hput hg hstep HB2 hbge
      have hq : Kd.R (Kd.int .u8) 42 wr w1.heap.size (fun _ => True) (.slice (some ⟨w1.heap.size, 0, none⟩) 9 9) xs := HR.out
      clear hq
      have hm8 : (m : Int) + 1 < 9 := by omega
      go_wp2
      go_roundg m
      case measure => have := HK.out; omega
      case rel => exact ⟨_, m, _, rfl, rfl, ⟨rfl⟩, ⟨by omega⟩, HST, HP, HBB⟩
set_option maxHeartbeats 3200000 in
/-- Of more than three bytes. -/
theorem put_more (a0 : Int) (w : World) (h0 : 0 ≤ a0) (h1 : 67823 < a0) (h2 : a0 < 18446744073709551616) :
    Calls Try.prog 10 #[.int .u64 a0] w fun e w' => e = .returned (.string (putP a0)) ∧ Below w.heap.size w w' := by
  have hs := size_f a0 h0 h2
  have hsz : sizeP a0 = widthP a0 + 1 := by unfold sizeP; rw [if_neg (by omega), if_neg (by omega), if_neg (by omega)]
  have hw := widthP_range a0
  rw [hsz] at hs
  obtain ⟨W, hW⟩ : ∃ W : Nat, widthP a0 = W := ⟨(widthP a0).toNat, by omega⟩
  have hfin : putP a0 = strOfNums ((247 + (W : Int)) :: beL a0 W) := by
    unfold putP putL
    rw [if_neg (by omega), if_neg (by omega), if_neg (by omega), hW, Int.toNat_natCast]
  rw [hW] at hs hw
  have HS := Aside0.mk hs
  have HF := Lib.hid hfin
  have e1 : ((W : Int) + 1 == 1) = false := by simp; omega
  have e2 : ((W : Int) + 1 == 2) = false := by simp; omega
  have e3 : ((W : Int) + 1 == 3) = false := by simp; omega
  have hw1 := hw.1
  have hw2 := hw.2
  clear hs hsz hW hfin hw
  go_enter Try.func10, Try.ntmps10
  go_wp2_with (first | (go_at_call 12; (with_reducible refine (varint_Size.calls a0 _ _ HS.out).mono ?_); rintro e w1 ⟨rfl, hd⟩; have HD := Aside0.mk hd.below; clear hd))
  have HR := Aside0.mk (arr_row w1 (249 + ((W : Int) + 1) - 3))
  have hst := Fill.start (249 + ((W : Int) + 1) - 3) a0 (W + 1) (by omega) (by omega)
  rw [Nat.add_sub_cancel] at hst
  have HST := Aside0.mk hst
  clear hst
  go_loopg [0, 5] W (fun kq v0 v5 w' => ∃ (x : Int) (m : Nat) (xs : List Int), v0 = .int .u64 x ∧ v5 = .int .i64 (m : Int) ∧ Aside0 (kq = m) ∧ Aside0 (0 ≤ x ∧ x < 18446744073709551616) ∧ Aside0 (Fill (249 + ((W : Int) + 1) - 3) a0 x m (W + 1) xs) ∧ Aside0 (Kd.R (Kd.int .u8) 42 w' w1.heap.size (fun _ => True) (.slice (some ⟨w1.heap.size, 0, none⟩) 9 9) xs) ∧ Aside0 (Below w1.heap.size w1 w'))
  case atStart => exact ⟨a0, W, _, rfl, by first | rfl | go_num, ⟨rfl⟩, ⟨h0, h2⟩, HST, HR, ⟨below_alloc (Below.refl _ _) _⟩⟩
  case round =>
    clear HR HST
    obtain ⟨x, m, xs, rfl, rfl, HK, HX, HFL, HR, HB⟩ := hrel
    have hx0 := HX.out.1
    have hx1 := HX.out.2
    have hmk := HFL.out.lt
    cases m with
    | zero =>
      have hown := own_nums (Kd.R_take HR.out (m := W + 1) (by rw [HFL.out.len]; omega))
      have hout := HFL.out.out
      rw [Nat.add_sub_cancel] at hout
      have hlen : (xs.take (W + 1)).length = W + 1 := by rw [List.length_take, HFL.out.len]; omega
      rw [hlen] at hown
      have hstr := own_string (P := Try.prog) (src := 43) (dst := 9) Try.underlying43 Try.underlying5 Try.underlying9 hown
      rw [hout] at hstr
      have e249 : 249 + ((W : Int) + 1) - 3 = 247 + (W : Int) := by omega
      rw [e249, ← HF.out] at hstr
      clear hown hout hlen e249
      have hal : Try.prog.arrayLen 42 = 9 := by kernel_rfl
      have hsl : ∀ Z : World, (Instr.sliceAt 42 (.pointer (some ⟨w1.heap.size, 0, none⟩)) none (some (.int .i64 ((W : Int) + 1))) none).run Try.prog Z = .ok (.slice (some ⟨w1.heap.size, 0, none⟩) (W + 1) 9) Z := by
        intro Z
        rw [run_sliceAt_array_h (P := Try.prog) (h := (W : Int) + 1) (ht := Try.underlying42) (h0 := by omega) (h2 := by rw [hal]; omega), hal]
        rfl
      go_wp2
      go_ret
      exact ⟨rfl, below_then HD.out HD.out.size HB.out⟩
    | succ m =>
      obtain ⟨hc, hf⟩ := Kd.R_celln 0 HR.out ((m + 1 : Nat) : Int) (by omega) (by omega)
      rw [Int.toNat_natCast] at hc hf
      obtain ⟨hput, hg⟩ := Kd.R_putg HR.out ((m + 1 : Nat) : Int) (x % 256)
      have hstep := HFL.out.step
      rw [Int.toNat_natCast] at hput hg
      have hbge : w1.heap.size ≤ w1.heap.size := Nat.le_refl _
      have HP := Aside0.mk hput
      have HST := Aside0.mk hstep
      have HB2 : Below w1.heap.size w1 (wr.setCell ⟨w1.heap.size, m + 1, none⟩ (.int .u8 (x % 256))) := HB.out.setCell (Nat.le_refl _) _
      have HBB := Aside0.mk HB2
      clear hput hg hstep HB2 hbge
      have hq : Kd.R (Kd.int .u8) 42 wr w1.heap.size (fun _ => True) (.slice (some ⟨w1.heap.size, 0, none⟩) 9 9) xs := HR.out
      clear hq
      have hm8 : (m : Int) + 1 < 9 := by omega
      go_wp2
      go_roundg m
      case measure => have := HK.out; omega
      case rel => exact ⟨_, m, _, rfl, rfl, ⟨rfl⟩, ⟨by omega⟩, HST, HP, HBB⟩
def varint_Put.f (a0 : Int) : Option ByteArray := if 0 ≤ a0 ∧ a0 < 18446744073709551616 then some (putP a0) else none
theorem varint_Put.calls (a0 : Int) (r : ByteArray) (w : World) (h : varint_Put.f a0 = some r) :
    Calls Try.prog 10 #[.int .u64 a0] w fun e w' => e = .returned (.string r) ∧ Below w.heap.size w w' := by
  unfold varint_Put.f at h
  split at h
  case isFalse => simp at h
  case isTrue hh =>
  obtain rfl := Option.some.inj h
  by_cases h1 : a0 ≤ 240
  · exact put_one a0 w hh.1 h1
  · by_cases h2 : a0 ≤ 2287
    · exact put_two a0 w (by omega) h2
    · by_cases h3 : a0 ≤ 67823
      · exact put_three a0 w (by omega) h3
      · exact put_more a0 w hh.1 (by omega) hh.2
theorem put_f (n : Int) (h0 : 0 ≤ n) (h1 : n < 18446744073709551616) : varint_Put.f n = some (putP n) := by
  unfold varint_Put.f; rw [if_pos ⟨h0, h1⟩]
theorem putP_size (n : Int) : (putP n).size ≤ 9 := by
  unfold putP; rw [strOfNums_size]; exact (putL_len n).2


/-! ### varint_Take: function 13 -/
mutual
def varint_Take.j0 : Nat → ByteArray → Int → Int → Option (Int × ByteArray × Bool)
  | 0, _, _, _ => none
  | k + 1, x0, x5, x6 => if (x0.size : Int) < x6 then (some (0, (⟨#[]⟩ : ByteArray), false)) else (varint_Take.l0 k x0 x5 x6 0 1)
def varint_Take.l0 : Nat → ByteArray → Int → Int → Int → Int → Option (Int × ByteArray × Bool)
  | 0, _, _, _, _, _ => none
  | k + 1, x0, x5, x6, x7, x8 => if x8 < x6 then (if 0 ≤ x8 then (if x8 < (x0.size : Int) then (varint_Take.l0 k x0 x5 x6 (Go.bits .or .u64 (IntKind.u64.wrap (x7 * 256)) (IntKind.u64.wrap (bt x0 x8))) (wrap64 (x8 + 1))) else (none)) else (none)) else (if x6 = 1 then ((varint_Size.f (IntKind.u64.wrap (x5))).bind fun t102 => (if t102 = x6 then (if 0 ≤ x6 then (if x6 ≤ (x0.size : Int) then (some (IntKind.u64.wrap (x5), x0.extract (x6 : Int).toNat x0.size, true)) else (none)) else (none)) else (some (0, (⟨#[]⟩ : ByteArray), false)))) else (if x6 = 2 then ((varint_Size.f (IntKind.u64.wrap (x7 + (240 + (((x5 - 240 - 1) % 256) * 256))))).bind fun t103 => (if t103 = x6 then (if 0 ≤ x6 then (if x6 ≤ (x0.size : Int) then (some (IntKind.u64.wrap (x7 + (240 + (((x5 - 240 - 1) % 256) * 256))), x0.extract (x6 : Int).toNat x0.size, true)) else (none)) else (none)) else (some (0, (⟨#[]⟩ : ByteArray), false)))) else (if x6 = 3 then ((varint_Size.f (IntKind.u64.wrap (x7 + 2288))).bind fun t104 => (if t104 = x6 then (if 0 ≤ x6 then (if x6 ≤ (x0.size : Int) then (some (IntKind.u64.wrap (x7 + 2288), x0.extract (x6 : Int).toNat x0.size, true)) else (none)) else (none)) else (some (0, (⟨#[]⟩ : ByteArray), false)))) else ((varint_Size.f x7).bind fun t105 => (if t105 = x6 then (if 0 ≤ x6 then (if x6 ≤ (x0.size : Int) then (some (x7, x0.extract (x6 : Int).toNat x0.size, true)) else (none)) else (none)) else (some (0, (⟨#[]⟩ : ByteArray), false)))))))
end
def varint_Take.f (k : Nat) (a0 : ByteArray) : Option (Int × ByteArray × Bool) := if a0.toList = ([] : List UInt8) then (some (0, (⟨#[]⟩ : ByteArray), false)) else (if 0 < (a0.size : Int) then (if (bt a0 0) > 249 then (varint_Take.j0 k a0 (bt a0 0) (wrap64 ((wrap64 ((wrap64 (bt a0 0)) - 249)) + 3))) else (if (bt a0 0) = 249 then (varint_Take.j0 k a0 (bt a0 0) 3) else (if (bt a0 0) > 240 then (varint_Take.j0 k a0 (bt a0 0) 2) else (varint_Take.j0 k a0 (bt a0 0) 1)))) else (none))
theorem varint_Take.mono_l : ∀ k, (∀ y0 y1 y2, LeO (varint_Take.j0 k y0 y1 y2) (varint_Take.j0 (k + 1) y0 y1 y2)) ∧ (∀ y0 y1 y2 y3 y4, LeO (varint_Take.l0 k y0 y1 y2 y3 y4) (varint_Take.l0 (k + 1) y0 y1 y2 y3 y4))
  | 0 => ⟨fun _ _ _ r h => by simp [varint_Take.j0] at h, fun _ _ _ _ _ r h => by simp [varint_Take.l0] at h⟩
  | k + 1 => by
    obtain ⟨ih0, ih1⟩ := varint_Take.mono_l k
    refine ⟨?_, ?_⟩
    · intro y0 y1 y2
      unfold varint_Take.j0
      repeat' first
      | (with_reducible exact ih0 _ _ _)
      | (with_reducible exact ih1 _ _ _ _ _)
      | (with_reducible exact LeO.refl _)
      | (with_reducible exact LeO.none _)
      | (with_reducible refine LeO.ite ?_ ?_)
      | (with_reducible refine LeO.bind ?_ (fun _ => ?_))
      | exact ih0 _ _ _
      | exact ih1 _ _ _ _ _
      | exact LeO.none _
      | refine LeO.ite ?_ ?_
      | refine LeO.bind ?_ (fun _ => ?_)
    · intro y0 y1 y2 y3 y4
      unfold varint_Take.l0
      repeat' first
      | (with_reducible exact ih0 _ _ _)
      | (with_reducible exact ih1 _ _ _ _ _)
      | (with_reducible exact LeO.refl _)
      | (with_reducible exact LeO.none _)
      | (with_reducible refine LeO.ite ?_ ?_)
      | (with_reducible refine LeO.bind ?_ (fun _ => ?_))
      | exact ih0 _ _ _
      | exact ih1 _ _ _ _ _
      | exact LeO.none _
      | refine LeO.ite ?_ ?_
      | refine LeO.bind ?_ (fun _ => ?_)
theorem varint_Take.mono : ∀ a0 k, LeO (varint_Take.f k a0) (varint_Take.f (k + 1) a0) := by
  intro a0 k
  obtain ⟨ih0, ih1⟩ := varint_Take.mono_l k
  unfold varint_Take.f
  repeat' first
      | (with_reducible exact ih0 _ _ _)
      | (with_reducible exact ih1 _ _ _ _ _)
      | (with_reducible exact LeO.refl _)
      | (with_reducible exact LeO.none _)
      | (with_reducible refine LeO.ite ?_ ?_)
      | (with_reducible refine LeO.bind ?_ (fun _ => ?_))
      | exact ih0 _ _ _
      | exact ih1 _ _ _ _ _
      | exact LeO.none _
      | refine LeO.ite ?_ ?_
      | refine LeO.bind ?_ (fun _ => ?_)
set_option maxHeartbeats 8000000 in
set_option maxRecDepth 100000 in
theorem varint_Take.calls (k : Nat) (a0 : ByteArray) (r1 : Int) (r2 : ByteArray) (r3 : Bool) (w : World) (h : varint_Take.f k a0 = some (r1, r2, r3)) :
    Calls Try.prog 13 #[.string a0] w fun e w' => e = .returned (.tuple #[.int .u64 r1, .string r2, .bool r3]) ∧ Drawn0 w w' := by
  have H : (if a0.toList = ([] : List UInt8) then (some (0, (⟨#[]⟩ : ByteArray), false)) else (if 0 < (a0.size : Int) then (if (bt a0 0) > 249 then (varint_Take.j0 k a0 (bt a0 0) (wrap64 ((wrap64 ((wrap64 (bt a0 0)) - 249)) + 3))) else (if (bt a0 0) = 249 then (varint_Take.j0 k a0 (bt a0 0) 3) else (if (bt a0 0) > 240 then (varint_Take.j0 k a0 (bt a0 0) 2) else (varint_Take.j0 k a0 (bt a0 0) 1)))) else (none))) = some (r1, r2, r3) := h
  clear h
  by_cases c2 : a0.toList = ([] : List UInt8)
  · rw [if_pos c2] at H
    have c2b0 : (a0.toList == ([] : List UInt8)) = true := beq_iff_eq.mpr c2
    have c2b1 : (a0.toList != ([] : List UInt8)) = false := bne_eq_false_iff_eq.mpr c2
    clear c2
    simp only [Option.some.injEq, Prod.mk.injEq] at H
    obtain ⟨rfl, rfl, rfl⟩ := H
    go_enter Try.func13, Try.ntmps13
    go_wp2
    repeat (go_quiet (fail); try go_wp2)
    all_goals go_ret3
    all_goals exact ⟨by first | rfl | (simp; done) | (simp [*]; done), by repeat (first | exact Drawn0.refl _ | apply Drawn0.step)⟩
  · rw [if_neg c2] at H
    have c2b0 : (a0.toList == ([] : List UInt8)) = false := beq_eq_false_iff_ne.mpr c2
    have c2b1 : (a0.toList != ([] : List UInt8)) = true := bne_iff_ne.mpr c2
    by_cases c3 : 0 < (a0.size : Int)
    · rw [if_pos c3] at H
      have c3b0 : decide (0 < (a0.size : Int)) = true := decide_eq_true c3
      have c3b1 : decide (0 < a0.size) = true := decide_eq_true (by omega)
      clear c3
      have HC5 := Aside0.mk H
      clear H
      have p4 : 0 ≤ (0 : Int) := (by omega)
      have q4 : 0 < a0.size := (by have : (0 : Int) < (a0.size : Int) := of_decide_eq_true (by first | (with_reducible assumption) | assumption); omega)
      have hx4 : ∀ h : 0 < a0.size, ((a0[0]'h).toNat : Int) = bt a0 0 := bt_at a0 0
      clear p4
      have qi4 : (0 < (a0.size : Int)) = True := eq_true (of_decide_eq_true (by first | (with_reducible assumption) | assumption))
      replace q4 := eq_true q4
      go_enter Try.func13, Try.ntmps13
      go_upto_block 0 with (fail)
      repeat (go_quiet (fail); go_upto_block 0 with (fail))
      go_cut [6] (fun v6 wc => ∃ (kq : Nat) (x6_4 : Int), v6 = .int .i64 x6_4 ∧ Aside0 (varint_Take.j0 kq a0 (bt a0 0) x6_4 = some (r1, r2, r3)) ∧ Aside0 (kq ≤ k) ∧ Drawn0 w wc)
      case first =>
        have H := HC5.out
        clear HC5
        by_cases c6 : (bt a0 0) > 249
        · rw [if_pos c6] at H
          have c6b0 : decide (249 < (bt a0 0)) = true := decide_eq_true c6
          clear c6
          (first | rw [c6b0] | (simp only [i64_w, i32_w]; rw [c6b0]) | skip)
          have H' := Aside0.mk H
          clear H
          go_wp2
          repeat (go_quiet (fail); try go_wp2)
          go_meet
          case rel => exact ⟨_, (wrap64 ((wrap64 ((wrap64 (bt a0 0)) - 249)) + 3)), (by first | rfl | (simp; done) | (simp [*]; done)), H', ⟨by first | omega | exact Nat.le_refl _⟩, by repeat (first | exact Drawn0.refl _ | apply Drawn0.step)⟩
        · rw [if_neg c6] at H
          have c6b0 : decide (249 < (bt a0 0)) = false := decide_eq_false c6
          clear c6
          (first | rw [c6b0] | (simp only [i64_w, i32_w]; rw [c6b0]) | skip)
          by_cases c7 : (bt a0 0) = 249
          · rw [if_pos c7] at H
            have c7b0 : ((bt a0 0) == 249) = true := beq_iff_eq.mpr c7
            have c7b1 : ((bt a0 0) != 249) = false := bne_eq_false_iff_eq.mpr c7
            clear c7
            have H' := Aside0.mk H
            clear H
            go_wp2
            repeat (go_quiet (fail); try go_wp2)
            go_meet
            case rel => exact ⟨_, (3), (by first | rfl | (simp; done) | (simp [*]; done)), H', ⟨by first | omega | exact Nat.le_refl _⟩, by repeat (first | exact Drawn0.refl _ | apply Drawn0.step)⟩
          · rw [if_neg c7] at H
            have c7b0 : ((bt a0 0) == 249) = false := beq_eq_false_iff_ne.mpr c7
            have c7b1 : ((bt a0 0) != 249) = true := bne_iff_ne.mpr c7
            by_cases c8 : (bt a0 0) > 240
            · rw [if_pos c8] at H
              have c8b0 : decide (240 < (bt a0 0)) = true := decide_eq_true c8
              clear c8
              have H' := Aside0.mk H
              clear H
              go_wp2
              repeat (go_quiet (fail); try go_wp2)
              go_meet
              case rel => exact ⟨_, (2), (by first | rfl | (simp; done) | (simp [*]; done)), H', ⟨by first | omega | exact Nat.le_refl _⟩, by repeat (first | exact Drawn0.refl _ | apply Drawn0.step)⟩
            · rw [if_neg c8] at H
              have c8b0 : decide (240 < (bt a0 0)) = false := decide_eq_false c8
              clear c8
              have H' := Aside0.mk H
              clear H
              go_wp2
              repeat (go_quiet (fail); try go_wp2)
              go_meet
              case rel => exact ⟨_, (1), (by first | rfl | (simp; done) | (simp [*]; done)), H', ⟨by first | omega | exact Nat.le_refl _⟩, by repeat (first | exact Drawn0.refl _ | apply Drawn0.step)⟩
      case rest =>
        clear HC5
        try clear c1
        try clear c2
        try clear c2b0
        try clear c2b1
        try clear p2
        try clear c3
        try clear c3b0
        try clear c3b1
        try clear p4
        try clear q4
        try clear hx4
        try clear qi4
        try clear c6
        try clear c6b0
        try clear p6
        try clear c7
        try clear c7b0
        try clear c7b1
        try clear c8
        try clear c8b0
        try clear p4
        try clear q4
        obtain ⟨kq, x6_4, rfl, HA, HJ4, ⟨mc4, rfl⟩⟩ := hcut
        cases kq with
        | zero => exact absurd HA.out (by simp [varint_Take.j0])
        | succ kj4 =>
          have H := HA.out
          clear HA
          simp only [varint_Take.j0] at H
          by_cases c9 : (a0.size : Int) < x6_4
          · rw [if_pos c9] at H
            have c9b0 : decide ((a0.size : Int) < x6_4) = true := decide_eq_true c9
            clear c9
            simp only [Option.some.injEq, Prod.mk.injEq] at H
            obtain ⟨rfl, rfl, rfl⟩ := H
            go_wp2
            repeat (go_quiet (fail); try go_wp2)
            all_goals go_ret3
            all_goals exact ⟨by first | rfl | (simp; done) | (simp [*]; done), by repeat (first | exact Drawn0.refl _ | apply Drawn0.step)⟩
          · rw [if_neg c9] at H
            have c9b0 : decide ((a0.size : Int) < x6_4) = false := decide_eq_false c9
            clear c9
            have H' := Aside0.mk H
            clear H
            go_wp2
            repeat (go_quiet (fail); try go_wp2)
            go_loopg [7, 8] kj4 (fun kq v7 v8 w' => ∃ (x7_2 : Int) (x8_2 : Int), v7 = .int .u64 x7_2 ∧ v8 = .int .i64 x8_2 ∧ Aside0 (varint_Take.l0 kq a0 (bt a0 0) x6_4 x7_2 x8_2 = some (r1, r2, r3)) ∧ Aside0 (kq ≤ kj4) ∧ Drawn0 w w')
            case atStart => exact ⟨(0), (1), (by first | rfl | (simp; done) | (simp [*]; done)), (by first | rfl | (simp; done) | (simp [*]; done)), H', ⟨Nat.le_refl _⟩, by repeat (first | exact Drawn0.refl _ | apply Drawn0.step)⟩
            case round =>
              clear H'
              try clear c1
              try clear c2
              try clear c2b0
              try clear c2b1
              try clear p2
              try clear c3
              try clear c3b0
              try clear c3b1
              try clear c4
              try clear p4
              try clear q4
              try clear hx4
              try clear qi4
              try clear c6
              try clear c6b0
              try clear p6
              try clear c7
              try clear c7b0
              try clear c7b1
              try clear c8
              try clear c8b0
              try clear c9
              try clear c9b0
              try clear p2
              try clear p4
              try clear p6
              try clear q4
              obtain ⟨x7_2, x8_2, rfl, rfl, HA, HK2, ⟨m2, rfl⟩⟩ := hrel
              cases gk with
              | zero => exact absurd HA.out (by simp [varint_Take.l0])
              | succ k2 =>
                have H := HA.out
                clear HA
                simp only [varint_Take.l0] at H
                by_cases c10 : x8_2 < x6_4
                · rw [if_pos c10] at H
                  have c10b0 : decide (x8_2 < x6_4) = true := decide_eq_true c10
                  clear c10
                  by_cases c11 : 0 ≤ x8_2
                  · rw [if_pos c11] at H
                    have c11b0 : decide (0 ≤ x8_2) = true := decide_eq_true c11
                    clear c11
                    by_cases c12 : x8_2 < (a0.size : Int)
                    · rw [if_pos c12] at H
                      have c12b0 : decide (x8_2 < (a0.size : Int)) = true := decide_eq_true c12
                      clear c12
                      have H' := Aside0.mk H
                      clear H
                      have p13 : 0 ≤ (x8_2 : Int) := of_decide_eq_true (by first | (with_reducible assumption) | assumption)
                      have q13 : x8_2 < (a0.size : Int) := of_decide_eq_true (by first | (with_reducible assumption) | assumption)
                      have hx13 := bt_at a0 x8_2
                      replace p13 := eq_true p13
                      replace q13 := eq_true q13
                      go_wp2
                      repeat (go_quiet (fail); try go_wp2)
                      go_roundg k2
                      case measure => have := HJ4.out; have := HK2.out; omega
                      case rel => exact ⟨(Go.bits .or .u64 (IntKind.u64.wrap (x7_2 * 256)) (IntKind.u64.wrap (bt a0 x8_2))), (wrap64 (x8_2 + 1)), (by first | rfl | (simp; done) | (simp [*]; done)), (by first | rfl | (simp; done) | (simp [*]; done)), H', ⟨by have := HJ4.out; have := HK2.out; omega⟩, by repeat (first | exact Drawn0.refl _ | apply Drawn0.step)⟩
                    · rw [if_neg c12] at H
                      exact absurd H (by simp)
                  · rw [if_neg c11] at H
                    exact absurd H (by simp)
                · rw [if_neg c10] at H
                  have c10b0 : decide (x8_2 < x6_4) = false := decide_eq_false c10
                  clear c10
                  by_cases c14 : x6_4 = 1
                  · rw [if_pos c14] at H
                    have c14b0 : (x6_4 == 1) = true := beq_iff_eq.mpr c14
                    have c14b1 : (x6_4 != 1) = false := bne_eq_false_iff_eq.mpr c14
                    clear c14
                    replace H := Option.bind_eq_some_iff.mp H
                    obtain ⟨t102, A150, H⟩ := H
                    replace H : (if t102 = x6_4 then (if 0 ≤ x6_4 then (if x6_4 ≤ (a0.size : Int) then (some (IntKind.u64.wrap ((bt a0 0)), a0.extract (x6_4 : Int).toNat a0.size, true)) else (none)) else (none)) else (some (0, (⟨#[]⟩ : ByteArray), false))) = some (r1, r2, r3) := H
                    have A15 := Aside0.mk A150
                    clear A150
                    by_cases c16 : t102 = x6_4
                    · rw [if_pos c16] at H
                      have c16b0 : (t102 == x6_4) = true := beq_iff_eq.mpr c16
                      have c16b1 : (t102 != x6_4) = false := bne_eq_false_iff_eq.mpr c16
                      clear c16
                      by_cases c17 : 0 ≤ x6_4
                      · rw [if_pos c17] at H
                        have c17b0 := eq_true c17
                        have c17b1 : decide (0 ≤ x6_4) = true := decide_eq_true c17
                        clear c17
                        by_cases c18 : x6_4 ≤ (a0.size : Int)
                        · rw [if_pos c18] at H
                          have c18b0 := eq_true c18
                          have c18b1 : decide (x6_4 ≤ (a0.size : Int)) = true := decide_eq_true c18
                          clear c18
                          simp only [Option.some.injEq, Prod.mk.injEq] at H
                          obtain ⟨rfl, rfl, rfl⟩ := H
                          go_wp2_with (first | (go_at_call 12; (with_reducible refine (varint_Size.calls (IntKind.u64.wrap ((bt a0 0))) t102 _ A15.out).mono ?_); rintro e w' ⟨rfl, ⟨nd, rfl⟩⟩; (try first | exact ⟨rfl, _, World.drewN_drewN _ _ _⟩ | exact ⟨rfl, _, Eq.trans (World.drewN_drewN _ _ _) (congrArg (World.drewN _) (Nat.add_assoc _ _ _))⟩)))
                          repeat (go_quiet (first | (go_at_call 12; (with_reducible refine (varint_Size.calls (IntKind.u64.wrap ((bt a0 0))) t102 _ A15.out).mono ?_); rintro e w' ⟨rfl, ⟨nd, rfl⟩⟩; (try first | exact ⟨rfl, _, World.drewN_drewN _ _ _⟩ | exact ⟨rfl, _, Eq.trans (World.drewN_drewN _ _ _) (congrArg (World.drewN _) (Nat.add_assoc _ _ _))⟩))); try go_wp2_with (first | (go_at_call 12; (with_reducible refine (varint_Size.calls (IntKind.u64.wrap ((bt a0 0))) t102 _ A15.out).mono ?_); rintro e w' ⟨rfl, ⟨nd, rfl⟩⟩; (try first | exact ⟨rfl, _, World.drewN_drewN _ _ _⟩ | exact ⟨rfl, _, Eq.trans (World.drewN_drewN _ _ _) (congrArg (World.drewN _) (Nat.add_assoc _ _ _))⟩))))
                          all_goals go_ret3
                          all_goals exact ⟨by first | rfl | (simp; done) | (simp [*]; done), by repeat (first | exact Drawn0.refl _ | apply Drawn0.step)⟩
                        · rw [if_neg c18] at H
                          exact absurd H (by simp)
                      · rw [if_neg c17] at H
                        exact absurd H (by simp)
                    · rw [if_neg c16] at H
                      have c16b0 : (t102 == x6_4) = false := beq_eq_false_iff_ne.mpr c16
                      have c16b1 : (t102 != x6_4) = true := bne_iff_ne.mpr c16
                      simp only [Option.some.injEq, Prod.mk.injEq] at H
                      obtain ⟨rfl, rfl, rfl⟩ := H
                      go_wp2_with (first | (go_at_call 12; (with_reducible refine (varint_Size.calls (IntKind.u64.wrap ((bt a0 0))) t102 _ A15.out).mono ?_); rintro e w' ⟨rfl, ⟨nd, rfl⟩⟩; (try first | exact ⟨rfl, _, World.drewN_drewN _ _ _⟩ | exact ⟨rfl, _, Eq.trans (World.drewN_drewN _ _ _) (congrArg (World.drewN _) (Nat.add_assoc _ _ _))⟩)))
                      repeat (go_quiet (first | (go_at_call 12; (with_reducible refine (varint_Size.calls (IntKind.u64.wrap ((bt a0 0))) t102 _ A15.out).mono ?_); rintro e w' ⟨rfl, ⟨nd, rfl⟩⟩; (try first | exact ⟨rfl, _, World.drewN_drewN _ _ _⟩ | exact ⟨rfl, _, Eq.trans (World.drewN_drewN _ _ _) (congrArg (World.drewN _) (Nat.add_assoc _ _ _))⟩))); try go_wp2_with (first | (go_at_call 12; (with_reducible refine (varint_Size.calls (IntKind.u64.wrap ((bt a0 0))) t102 _ A15.out).mono ?_); rintro e w' ⟨rfl, ⟨nd, rfl⟩⟩; (try first | exact ⟨rfl, _, World.drewN_drewN _ _ _⟩ | exact ⟨rfl, _, Eq.trans (World.drewN_drewN _ _ _) (congrArg (World.drewN _) (Nat.add_assoc _ _ _))⟩))))
                      all_goals go_ret3
                      all_goals exact ⟨by first | rfl | (simp; done) | (simp [*]; done), by repeat (first | exact Drawn0.refl _ | apply Drawn0.step)⟩
                  · rw [if_neg c14] at H
                    have c14b0 : (x6_4 == 1) = false := beq_eq_false_iff_ne.mpr c14
                    have c14b1 : (x6_4 != 1) = true := bne_iff_ne.mpr c14
                    by_cases c19 : x6_4 = 2
                    · rw [if_pos c19] at H
                      have c19b0 : (x6_4 == 2) = true := beq_iff_eq.mpr c19
                      have c19b1 : (x6_4 != 2) = false := bne_eq_false_iff_eq.mpr c19
                      clear c19
                      replace H := Option.bind_eq_some_iff.mp H
                      obtain ⟨t103, A200, H⟩ := H
                      replace H : (if t103 = x6_4 then (if 0 ≤ x6_4 then (if x6_4 ≤ (a0.size : Int) then (some (IntKind.u64.wrap (x7_2 + (240 + ((((bt a0 0) - 240 - 1) % 256) * 256))), a0.extract (x6_4 : Int).toNat a0.size, true)) else (none)) else (none)) else (some (0, (⟨#[]⟩ : ByteArray), false))) = some (r1, r2, r3) := H
                      have A20 := Aside0.mk A200
                      clear A200
                      by_cases c21 : t103 = x6_4
                      · rw [if_pos c21] at H
                        have c21b0 : (t103 == x6_4) = true := beq_iff_eq.mpr c21
                        have c21b1 : (t103 != x6_4) = false := bne_eq_false_iff_eq.mpr c21
                        clear c21
                        by_cases c22 : 0 ≤ x6_4
                        · rw [if_pos c22] at H
                          have c22b0 := eq_true c22
                          have c22b1 : decide (0 ≤ x6_4) = true := decide_eq_true c22
                          clear c22
                          by_cases c23 : x6_4 ≤ (a0.size : Int)
                          · rw [if_pos c23] at H
                            have c23b0 := eq_true c23
                            have c23b1 : decide (x6_4 ≤ (a0.size : Int)) = true := decide_eq_true c23
                            clear c23
                            simp only [Option.some.injEq, Prod.mk.injEq] at H
                            obtain ⟨rfl, rfl, rfl⟩ := H
                            go_wp2_with (first | (go_at_call 12; (with_reducible refine (varint_Size.calls (IntKind.u64.wrap (x7_2 + (240 + ((((bt a0 0) - 240 - 1) % 256) * 256)))) t103 _ A20.out).mono ?_); rintro e w' ⟨rfl, ⟨nd, rfl⟩⟩; (try first | exact ⟨rfl, _, World.drewN_drewN _ _ _⟩ | exact ⟨rfl, _, Eq.trans (World.drewN_drewN _ _ _) (congrArg (World.drewN _) (Nat.add_assoc _ _ _))⟩)))
                            repeat (go_quiet (first | (go_at_call 12; (with_reducible refine (varint_Size.calls (IntKind.u64.wrap (x7_2 + (240 + ((((bt a0 0) - 240 - 1) % 256) * 256)))) t103 _ A20.out).mono ?_); rintro e w' ⟨rfl, ⟨nd, rfl⟩⟩; (try first | exact ⟨rfl, _, World.drewN_drewN _ _ _⟩ | exact ⟨rfl, _, Eq.trans (World.drewN_drewN _ _ _) (congrArg (World.drewN _) (Nat.add_assoc _ _ _))⟩))); try go_wp2_with (first | (go_at_call 12; (with_reducible refine (varint_Size.calls (IntKind.u64.wrap (x7_2 + (240 + ((((bt a0 0) - 240 - 1) % 256) * 256)))) t103 _ A20.out).mono ?_); rintro e w' ⟨rfl, ⟨nd, rfl⟩⟩; (try first | exact ⟨rfl, _, World.drewN_drewN _ _ _⟩ | exact ⟨rfl, _, Eq.trans (World.drewN_drewN _ _ _) (congrArg (World.drewN _) (Nat.add_assoc _ _ _))⟩))))
                            all_goals go_ret3
                            all_goals exact ⟨by first | rfl | (simp; done) | (simp [*]; done), by repeat (first | exact Drawn0.refl _ | apply Drawn0.step)⟩
                          · rw [if_neg c23] at H
                            exact absurd H (by simp)
                        · rw [if_neg c22] at H
                          exact absurd H (by simp)
                      · rw [if_neg c21] at H
                        have c21b0 : (t103 == x6_4) = false := beq_eq_false_iff_ne.mpr c21
                        have c21b1 : (t103 != x6_4) = true := bne_iff_ne.mpr c21
                        simp only [Option.some.injEq, Prod.mk.injEq] at H
                        obtain ⟨rfl, rfl, rfl⟩ := H
                        go_wp2_with (first | (go_at_call 12; (with_reducible refine (varint_Size.calls (IntKind.u64.wrap (x7_2 + (240 + ((((bt a0 0) - 240 - 1) % 256) * 256)))) t103 _ A20.out).mono ?_); rintro e w' ⟨rfl, ⟨nd, rfl⟩⟩; (try first | exact ⟨rfl, _, World.drewN_drewN _ _ _⟩ | exact ⟨rfl, _, Eq.trans (World.drewN_drewN _ _ _) (congrArg (World.drewN _) (Nat.add_assoc _ _ _))⟩)))
                        repeat (go_quiet (first | (go_at_call 12; (with_reducible refine (varint_Size.calls (IntKind.u64.wrap (x7_2 + (240 + ((((bt a0 0) - 240 - 1) % 256) * 256)))) t103 _ A20.out).mono ?_); rintro e w' ⟨rfl, ⟨nd, rfl⟩⟩; (try first | exact ⟨rfl, _, World.drewN_drewN _ _ _⟩ | exact ⟨rfl, _, Eq.trans (World.drewN_drewN _ _ _) (congrArg (World.drewN _) (Nat.add_assoc _ _ _))⟩))); try go_wp2_with (first | (go_at_call 12; (with_reducible refine (varint_Size.calls (IntKind.u64.wrap (x7_2 + (240 + ((((bt a0 0) - 240 - 1) % 256) * 256)))) t103 _ A20.out).mono ?_); rintro e w' ⟨rfl, ⟨nd, rfl⟩⟩; (try first | exact ⟨rfl, _, World.drewN_drewN _ _ _⟩ | exact ⟨rfl, _, Eq.trans (World.drewN_drewN _ _ _) (congrArg (World.drewN _) (Nat.add_assoc _ _ _))⟩))))
                        all_goals go_ret3
                        all_goals exact ⟨by first | rfl | (simp; done) | (simp [*]; done), by repeat (first | exact Drawn0.refl _ | apply Drawn0.step)⟩
                    · rw [if_neg c19] at H
                      have c19b0 : (x6_4 == 2) = false := beq_eq_false_iff_ne.mpr c19
                      have c19b1 : (x6_4 != 2) = true := bne_iff_ne.mpr c19
                      by_cases c24 : x6_4 = 3
                      · rw [if_pos c24] at H
                        have c24b0 : (x6_4 == 3) = true := beq_iff_eq.mpr c24
                        have c24b1 : (x6_4 != 3) = false := bne_eq_false_iff_eq.mpr c24
                        clear c24
                        replace H := Option.bind_eq_some_iff.mp H
                        obtain ⟨t104, A250, H⟩ := H
                        replace H : (if t104 = x6_4 then (if 0 ≤ x6_4 then (if x6_4 ≤ (a0.size : Int) then (some (IntKind.u64.wrap (x7_2 + 2288), a0.extract (x6_4 : Int).toNat a0.size, true)) else (none)) else (none)) else (some (0, (⟨#[]⟩ : ByteArray), false))) = some (r1, r2, r3) := H
                        have A25 := Aside0.mk A250
                        clear A250
                        by_cases c26 : t104 = x6_4
                        · rw [if_pos c26] at H
                          have c26b0 : (t104 == x6_4) = true := beq_iff_eq.mpr c26
                          have c26b1 : (t104 != x6_4) = false := bne_eq_false_iff_eq.mpr c26
                          clear c26
                          by_cases c27 : 0 ≤ x6_4
                          · rw [if_pos c27] at H
                            have c27b0 := eq_true c27
                            have c27b1 : decide (0 ≤ x6_4) = true := decide_eq_true c27
                            clear c27
                            by_cases c28 : x6_4 ≤ (a0.size : Int)
                            · rw [if_pos c28] at H
                              have c28b0 := eq_true c28
                              have c28b1 : decide (x6_4 ≤ (a0.size : Int)) = true := decide_eq_true c28
                              clear c28
                              simp only [Option.some.injEq, Prod.mk.injEq] at H
                              obtain ⟨rfl, rfl, rfl⟩ := H
                              go_wp2_with (first | (go_at_call 12; (with_reducible refine (varint_Size.calls (IntKind.u64.wrap (x7_2 + 2288)) t104 _ A25.out).mono ?_); rintro e w' ⟨rfl, ⟨nd, rfl⟩⟩; (try first | exact ⟨rfl, _, World.drewN_drewN _ _ _⟩ | exact ⟨rfl, _, Eq.trans (World.drewN_drewN _ _ _) (congrArg (World.drewN _) (Nat.add_assoc _ _ _))⟩)))
                              repeat (go_quiet (first | (go_at_call 12; (with_reducible refine (varint_Size.calls (IntKind.u64.wrap (x7_2 + 2288)) t104 _ A25.out).mono ?_); rintro e w' ⟨rfl, ⟨nd, rfl⟩⟩; (try first | exact ⟨rfl, _, World.drewN_drewN _ _ _⟩ | exact ⟨rfl, _, Eq.trans (World.drewN_drewN _ _ _) (congrArg (World.drewN _) (Nat.add_assoc _ _ _))⟩))); try go_wp2_with (first | (go_at_call 12; (with_reducible refine (varint_Size.calls (IntKind.u64.wrap (x7_2 + 2288)) t104 _ A25.out).mono ?_); rintro e w' ⟨rfl, ⟨nd, rfl⟩⟩; (try first | exact ⟨rfl, _, World.drewN_drewN _ _ _⟩ | exact ⟨rfl, _, Eq.trans (World.drewN_drewN _ _ _) (congrArg (World.drewN _) (Nat.add_assoc _ _ _))⟩))))
                              all_goals go_ret3
                              all_goals exact ⟨by first | rfl | (simp; done) | (simp [*]; done), by repeat (first | exact Drawn0.refl _ | apply Drawn0.step)⟩
                            · rw [if_neg c28] at H
                              exact absurd H (by simp)
                          · rw [if_neg c27] at H
                            exact absurd H (by simp)
                        · rw [if_neg c26] at H
                          have c26b0 : (t104 == x6_4) = false := beq_eq_false_iff_ne.mpr c26
                          have c26b1 : (t104 != x6_4) = true := bne_iff_ne.mpr c26
                          simp only [Option.some.injEq, Prod.mk.injEq] at H
                          obtain ⟨rfl, rfl, rfl⟩ := H
                          go_wp2_with (first | (go_at_call 12; (with_reducible refine (varint_Size.calls (IntKind.u64.wrap (x7_2 + 2288)) t104 _ A25.out).mono ?_); rintro e w' ⟨rfl, ⟨nd, rfl⟩⟩; (try first | exact ⟨rfl, _, World.drewN_drewN _ _ _⟩ | exact ⟨rfl, _, Eq.trans (World.drewN_drewN _ _ _) (congrArg (World.drewN _) (Nat.add_assoc _ _ _))⟩)))
                          repeat (go_quiet (first | (go_at_call 12; (with_reducible refine (varint_Size.calls (IntKind.u64.wrap (x7_2 + 2288)) t104 _ A25.out).mono ?_); rintro e w' ⟨rfl, ⟨nd, rfl⟩⟩; (try first | exact ⟨rfl, _, World.drewN_drewN _ _ _⟩ | exact ⟨rfl, _, Eq.trans (World.drewN_drewN _ _ _) (congrArg (World.drewN _) (Nat.add_assoc _ _ _))⟩))); try go_wp2_with (first | (go_at_call 12; (with_reducible refine (varint_Size.calls (IntKind.u64.wrap (x7_2 + 2288)) t104 _ A25.out).mono ?_); rintro e w' ⟨rfl, ⟨nd, rfl⟩⟩; (try first | exact ⟨rfl, _, World.drewN_drewN _ _ _⟩ | exact ⟨rfl, _, Eq.trans (World.drewN_drewN _ _ _) (congrArg (World.drewN _) (Nat.add_assoc _ _ _))⟩))))
                          all_goals go_ret3
                          all_goals exact ⟨by first | rfl | (simp; done) | (simp [*]; done), by repeat (first | exact Drawn0.refl _ | apply Drawn0.step)⟩
                      · rw [if_neg c24] at H
                        have c24b0 : (x6_4 == 3) = false := beq_eq_false_iff_ne.mpr c24
                        have c24b1 : (x6_4 != 3) = true := bne_iff_ne.mpr c24
                        replace H := Option.bind_eq_some_iff.mp H
                        obtain ⟨t105, A290, H⟩ := H
                        replace H : (if t105 = x6_4 then (if 0 ≤ x6_4 then (if x6_4 ≤ (a0.size : Int) then (some (x7_2, a0.extract (x6_4 : Int).toNat a0.size, true)) else (none)) else (none)) else (some (0, (⟨#[]⟩ : ByteArray), false))) = some (r1, r2, r3) := H
                        have A29 := Aside0.mk A290
                        clear A290
                        by_cases c30 : t105 = x6_4
                        · rw [if_pos c30] at H
                          have c30b0 : (t105 == x6_4) = true := beq_iff_eq.mpr c30
                          have c30b1 : (t105 != x6_4) = false := bne_eq_false_iff_eq.mpr c30
                          clear c30
                          by_cases c31 : 0 ≤ x6_4
                          · rw [if_pos c31] at H
                            have c31b0 := eq_true c31
                            have c31b1 : decide (0 ≤ x6_4) = true := decide_eq_true c31
                            clear c31
                            by_cases c32 : x6_4 ≤ (a0.size : Int)
                            · rw [if_pos c32] at H
                              have c32b0 := eq_true c32
                              have c32b1 : decide (x6_4 ≤ (a0.size : Int)) = true := decide_eq_true c32
                              clear c32
                              simp only [Option.some.injEq, Prod.mk.injEq] at H
                              obtain ⟨rfl, rfl, rfl⟩ := H
                              go_wp2_with (first | (go_at_call 12; (with_reducible refine (varint_Size.calls x7_2 t105 _ A29.out).mono ?_); rintro e w' ⟨rfl, ⟨nd, rfl⟩⟩; (try first | exact ⟨rfl, _, World.drewN_drewN _ _ _⟩ | exact ⟨rfl, _, Eq.trans (World.drewN_drewN _ _ _) (congrArg (World.drewN _) (Nat.add_assoc _ _ _))⟩)))
                              repeat (go_quiet (first | (go_at_call 12; (with_reducible refine (varint_Size.calls x7_2 t105 _ A29.out).mono ?_); rintro e w' ⟨rfl, ⟨nd, rfl⟩⟩; (try first | exact ⟨rfl, _, World.drewN_drewN _ _ _⟩ | exact ⟨rfl, _, Eq.trans (World.drewN_drewN _ _ _) (congrArg (World.drewN _) (Nat.add_assoc _ _ _))⟩))); try go_wp2_with (first | (go_at_call 12; (with_reducible refine (varint_Size.calls x7_2 t105 _ A29.out).mono ?_); rintro e w' ⟨rfl, ⟨nd, rfl⟩⟩; (try first | exact ⟨rfl, _, World.drewN_drewN _ _ _⟩ | exact ⟨rfl, _, Eq.trans (World.drewN_drewN _ _ _) (congrArg (World.drewN _) (Nat.add_assoc _ _ _))⟩))))
                              all_goals go_ret3
                              all_goals exact ⟨by first | rfl | (simp; done) | (simp [*]; done), by repeat (first | exact Drawn0.refl _ | apply Drawn0.step)⟩
                            · rw [if_neg c32] at H
                              exact absurd H (by simp)
                          · rw [if_neg c31] at H
                            exact absurd H (by simp)
                        · rw [if_neg c30] at H
                          have c30b0 : (t105 == x6_4) = false := beq_eq_false_iff_ne.mpr c30
                          have c30b1 : (t105 != x6_4) = true := bne_iff_ne.mpr c30
                          simp only [Option.some.injEq, Prod.mk.injEq] at H
                          obtain ⟨rfl, rfl, rfl⟩ := H
                          go_wp2_with (first | (go_at_call 12; (with_reducible refine (varint_Size.calls x7_2 t105 _ A29.out).mono ?_); rintro e w' ⟨rfl, ⟨nd, rfl⟩⟩; (try first | exact ⟨rfl, _, World.drewN_drewN _ _ _⟩ | exact ⟨rfl, _, Eq.trans (World.drewN_drewN _ _ _) (congrArg (World.drewN _) (Nat.add_assoc _ _ _))⟩)))
                          repeat (go_quiet (first | (go_at_call 12; (with_reducible refine (varint_Size.calls x7_2 t105 _ A29.out).mono ?_); rintro e w' ⟨rfl, ⟨nd, rfl⟩⟩; (try first | exact ⟨rfl, _, World.drewN_drewN _ _ _⟩ | exact ⟨rfl, _, Eq.trans (World.drewN_drewN _ _ _) (congrArg (World.drewN _) (Nat.add_assoc _ _ _))⟩))); try go_wp2_with (first | (go_at_call 12; (with_reducible refine (varint_Size.calls x7_2 t105 _ A29.out).mono ?_); rintro e w' ⟨rfl, ⟨nd, rfl⟩⟩; (try first | exact ⟨rfl, _, World.drewN_drewN _ _ _⟩ | exact ⟨rfl, _, Eq.trans (World.drewN_drewN _ _ _) (congrArg (World.drewN _) (Nat.add_assoc _ _ _))⟩))))
                          all_goals go_ret3
                          all_goals exact ⟨by first | rfl | (simp; done) | (simp [*]; done), by repeat (first | exact Drawn0.refl _ | apply Drawn0.step)⟩
    · rw [if_neg c3] at H
      exact absurd H (by simp)

/-! ### varint_Fold: function 17 -/
def varint_Fold.f (a0 : Int) : Option (Int) := some (Go.bits .xor .u64 (IntKind.u64.wrap ((IntKind.u64.wrap (a0)) * 2)) (IntKind.u64.wrap (a0 / 9223372036854775808)))
set_option maxHeartbeats 8000000 in
set_option maxRecDepth 100000 in
theorem varint_Fold.calls (a0 : Int) (r : Int) (w : World) (h : varint_Fold.f a0 = some r) :
    Calls Try.prog 17 #[.int .i64 a0] w fun e w' => e = .returned (.int .u64 r) ∧ Drawn0 w w' := by
  have H : (some (Go.bits .xor .u64 (IntKind.u64.wrap ((IntKind.u64.wrap (a0)) * 2)) (IntKind.u64.wrap (a0 / 9223372036854775808)))) = some r := h
  clear h
  obtain rfl := Option.some.inj H
  go_enter Try.func17, Try.ntmps17
  go_wp2
  all_goals go_ret
  all_goals exact ⟨by first | rfl | (simp; done) | (simp [*]; done), by repeat (first | exact Drawn0.refl _ | apply Drawn0.step)⟩

end Go.Proofs.Ytaolidjfbgpccaa.P
