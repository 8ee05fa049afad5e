-- Written by sprint.py (wip/tools) with the kit's print.py: a program's text, checked by Lean alone.
import Derived.Test.YtkdmjnmilmmnjaaPx0
namespace Go.Proofs.Ytkdmjnmilmmnjaa.P
open Go.RowKit Go.Proofs.Ytkdmjnmilmmnjaa.Vp Go.Proofs.Ytkdmjnmilmmnjaa.Cp Go.Proofs.YtkdmjnmilmmnjaaW.PrintWords Go.Proofs.YtkdmjnmilmmnjaaW.PrintLast Go.Proofs.YtkdmjnmilmmnjaaW.PrintMore
attribute [local go_sem] max2_int min2_int max_two min_two max_three min_three max_four min_four   -- for this text's walks alone
set_option linter.unusedVariables false
set_option linter.unusedSimpArgs false

/-! ### check_Sum: function 12 -/
def check_Sum.f (a0 : ByteArray) : Option Int := if a0.size < 9223372036854775807 then some (sumN a0 : Int) else none
set_option maxHeartbeats 1600000 in
theorem check_Sum.calls (a0 : ByteArray) (r : Int) (w : World) (h : check_Sum.f a0 = some r) :
    Calls Try.prog 12 #[.string a0] w fun e w' => e = .returned (.int .u32 r) ∧ Drawn0 w w' := by
  unfold check_Sum.f at h
  split at h
  case isFalse => simp at h
  case isTrue hs =>
  obtain rfl := Option.some.inj h
  clear h
  go_enter Try.func12, Try.ntmps12
  go_wp2
  go_loopg [3, 7] (a0.size) (fun kq v3 v7 w' => ∃ (m x : Nat), v3 = .int .u32 (x : Int) ∧ v7 = .int .i64 (m : Int) ∧ Aside0 (kq = a0.size - m) ∧ Aside0 (m ≤ a0.size) ∧ Aside0 (x = regF (byteN a0) 4294967295 m ∧ x < 4294967296) ∧ Drawn0 w w')
  case atStart => exact ⟨0, 4294967295, rfl, rfl, ⟨rfl⟩, ⟨by omega⟩, ⟨rfl, by omega⟩, Drawn0.refl _⟩
  case round =>
    obtain ⟨m, x, rfl, rfl, HK, HM, HX, ⟨m1, rfl⟩⟩ := hrel
    by_cases c : m < a0.size
    · have c1 : decide ((m : Int) < (a0.size : Int)) = true := by simp; exact c
      have hx1 := HX.out.2
      have hb : (a0[m]).toNat = byteN a0 m := by
        unfold byteN
        rw [← bt_at a0 (m : Int) (by rw [Int.toNat_natCast]; exact c)]
        simp
      have hmix := mix_eq x (byteN a0 m) hx1 (byteN_lt a0 m)
      rw [← hb] at hmix
      have hlt : x ^^^ (a0[m]).toNat < 4294967296 := by rw [hb]; exact xor_lt hx1 (by have := byteN_lt a0 m; omega)
      obtain ⟨y, hy⟩ : ∃ y, x ^^^ (a0[m]).toNat = y := ⟨_, rfl⟩
      rw [hy] at hmix hlt
      have hreg : regF (byteN a0) 4294967295 (m + 1) = trns 8 y := by rw [regF, ← HX.out.1, ← hy, hb]
      have Hreg := Lib.hid hreg
      clear hb hy hreg
      go_wp2
      try rw [hmix]
      go_loopg [3, 16] 8 (fun kq v3 v16 w' => ∃ (j z : Nat), v3 = .int .u32 (z : Int) ∧ v16 = .int .i64 (j : Int) ∧ Aside0 (kq = 8 - j) ∧ Aside0 (j ≤ 8) ∧ Aside0 (z = trns j y ∧ z < 4294967296) ∧ Drawn0 (w.drewN m1) w')
      case atStart => exact ⟨0, y, rfl, rfl, ⟨rfl⟩, ⟨by omega⟩, ⟨rfl, hlt⟩, Drawn0.refl _⟩
      case round =>
        obtain ⟨j, z, rfl, rfl, HJ, HJ8, HZ, ⟨m2, rfl⟩⟩ := hrel
        by_cases c8 : j < 8
        · have c81 : decide ((j : Int) < 8) = true := by simp; omega
          have htr := trnG_eq z HZ.out.2
          unfold trnG at htr
          have hz0 : 0 ≤ (z : Int) := by omega
          have Htr := Lib.hid htr
          clear htr hmix
          go_wp2
          rw [Htr.out]
          go_roundg (8 - (j + 1))
          case measure => have := HJ.out; omega
          case rel => exact ⟨j + 1, trn z, by first | rfl | go_num, by go_num, ⟨rfl⟩, ⟨by omega⟩, ⟨by rw [trns, ← HZ.out.1], trn_lt HZ.out.2⟩, ⟨⟨m2, (World.drewN_drewN ..).symm⟩⟩⟩
        · have c81 : decide ((j : Int) < 8) = false := by simp; omega
          have hj8 : j = 8 := by have := HJ8.out; omega
          clear hmix
          go_wp2
          go_roundg (a0.size - (m + 1))
          case measure => have := HK.out; omega
          case rel => exact ⟨m + 1, z, rfl, by go_num, ⟨rfl⟩, ⟨by omega⟩, ⟨by rw [Hreg.out, HZ.out.1, hj8], HZ.out.2⟩, ⟨⟨_, rfl⟩⟩⟩
    · have c1 : decide ((m : Int) < (a0.size : Int)) = false := by simp; omega
      have hm : m = a0.size := by have := HM.out; omega
      have hn := not_eq x HX.out.2
      have hfin : 4294967295 ^^^ x = sumN a0 := by unfold sumN; rw [← hm, ← HX.out.1]
      have Hfin := Lib.hid hfin
      have Hn := Lib.hid hn
      clear hfin hn hm
      go_wp2
      rw [Hn.out]
      go_ret
      exact ⟨by rw [Hfin.out]; rfl, ⟨⟨_, rfl⟩⟩⟩


/-! ### varint_width: function 32 -/
def varint_width.f (a0 : Int) : Option Int := if 0 ≤ a0 ∧ a0 < 18446744073709551616 then some (widthP a0) else none
set_option maxHeartbeats 1600000 in
theorem varint_width.calls (a0 : Int) (r : Int) (w : World) (h : varint_width.f a0 = some r) :
    Calls Try.prog 32 #[.int .u64 a0] w fun e w' => e = .returned (.int .i64 r) ∧ Drawn0 w w' := by
  unfold varint_width.f at h
  split at h
  case isFalse => simp at h
  case isTrue hh =>
  obtain ⟨h0, h1⟩ := hh
  obtain rfl := Option.some.inj h
  clear h
  have hw : 3 ≤ widthP a0 ∧ widthP a0 ≤ 8 := by unfold widthP; repeat' split <;> omega
  have hlt : ∀ j : Int, 3 ≤ j → j < widthP a0 → (j = 3 ∧ 16777216 ≤ a0) ∨ (j = 4 ∧ 4294967296 ≤ a0) ∨ (j = 5 ∧ 1099511627776 ≤ a0) ∨ (j = 6 ∧ 281474976710656 ≤ a0) ∨ (j = 7 ∧ 72057594037927936 ≤ a0) := by
    intro j hj hj2
    unfold widthP at hj2
    repeat' split at hj2
    all_goals omega
  have heq : (widthP a0 = 3 ∧ a0 < 16777216) ∨ (widthP a0 = 4 ∧ a0 < 4294967296) ∨ (widthP a0 = 5 ∧ a0 < 1099511627776) ∨ (widthP a0 = 6 ∧ a0 < 281474976710656) ∨ (widthP a0 = 7 ∧ a0 < 72057594037927936) ∨ widthP a0 = 8 := by
    unfold widthP
    repeat' split
    all_goals omega
  obtain ⟨W, hW⟩ : ∃ W, widthP a0 = W := ⟨_, rfl⟩
  rw [hW] at hw hlt heq ⊢
  have HLT := Aside0.mk hlt
  have HEQ := Aside0.mk heq
  have HWR := Aside0.mk hw
  clear hlt heq hw hW
  go_enter Try.func32, Try.ntmps32
  go_wp2
  go_step3
  go_wp2
  go_step3
  go_wp2
  go_loopg [3] 5 (fun kq v3 w' => ∃ j : Int, v3 = .int .i64 j ∧ Aside0 (3 ≤ j) ∧ Aside0 (j ≤ W) ∧ Aside0 ((kq : Int) = 8 - j) ∧ Drawn0 w w')
  case atStart => exact ⟨3, rfl, ⟨by omega⟩, ⟨HWR.out.1⟩, ⟨by decide⟩, Drawn0.refl _⟩
  case round =>
    obtain ⟨j, rfl, H3, HJ, HK, ⟨m1, rfl⟩⟩ := hrel
    by_cases hjw : j < W
    · rcases HLT.out j H3.out hjw with ⟨rfl, hn⟩ | ⟨rfl, hn⟩ | ⟨rfl, hn⟩ | ⟨rfl, hn⟩ | ⟨rfl, hn⟩
      all_goals
        have hz1 : ((a0 / 16777216) == 0) = false := by simp; omega
        try have hz2 : ((a0 / 4294967296) == 0) = false := by simp; omega
        try have hz3 : ((a0 / 1099511627776) == 0) = false := by simp; omega
        try have hz4 : ((a0 / 281474976710656) == 0) = false := by simp; omega
        try have hz5 : ((a0 / 72057594037927936) == 0) = false := by simp; omega
        go_wp2
        go_roundg (gk - 1)
        case measure => have := HK.out; omega
        case rel => exact ⟨_, rfl, ⟨by omega⟩, ⟨by have := hjw; omega⟩, ⟨by have := HK.out; omega⟩, ⟨⟨m1, rfl⟩⟩⟩
    · have hjw2 : j = W := by have := HJ.out; omega
      subst hjw2
      rcases HEQ.out with ⟨rfl, hn⟩ | ⟨rfl, hn⟩ | ⟨rfl, hn⟩ | ⟨rfl, hn⟩ | ⟨rfl, hn⟩ | rfl
      all_goals
        try have hz1 : ((a0 / 16777216) == 0) = true := by simp; omega
        try have hz2 : ((a0 / 4294967296) == 0) = true := by simp; omega
        try have hz3 : ((a0 / 1099511627776) == 0) = true := by simp; omega
        try have hz4 : ((a0 / 281474976710656) == 0) = true := by simp; omega
        try have hz5 : ((a0 / 72057594037927936) == 0) = true := by simp; omega
        go_wp2
        try rw [Exit.noGoto_ret]
        go_ret
        exact ⟨rfl, ⟨⟨m1, rfl⟩⟩⟩


/-! ### varint_Size: function 28 -/
def varint_Size.f (a0 : Int) : Option (Int) := if a0 ≤ 240 then (some 1) else (if a0 ≤ 2287 then (some 2) else (if a0 ≤ 67823 then (some 3) else ((varint_width.f a0).bind fun t101 => (some (wrap64 (t101 + 1))))))
set_option maxHeartbeats 8000000 in
set_option maxRecDepth 100000 in
theorem varint_Size.calls (a0 : Int) (r : Int) (w : World) (h : varint_Size.f a0 = some r) :
    Calls Try.prog 28 #[.int .u64 a0] w fun e w' => e = .returned (.int .i64 r) ∧ Drawn0 w w' := by
  have H : (if a0 ≤ 240 then (some 1) else (if a0 ≤ 2287 then (some 2) else (if a0 ≤ 67823 then (some 3) else ((varint_width.f a0).bind fun t101 => (some (wrap64 (t101 + 1))))))) = some r := h
  clear h
  by_cases c2 : a0 ≤ 240
  · rw [if_pos c2] at H
    have c2b0 : decide (a0 ≤ 240) = true := decide_eq_true c2
    clear c2
    obtain rfl := Option.some.inj H
    go_enter Try.func28, Try.ntmps28
    go_wp2
    all_goals go_ret
    all_goals exact ⟨by first | rfl | (simp; done) | (simp [*]; done), by repeat (first | exact Drawn0.refl _ | apply Drawn0.step)⟩
  · rw [if_neg c2] at H
    have c2b0 : decide (a0 ≤ 240) = false := decide_eq_false c2
    clear c2
    by_cases c3 : a0 ≤ 2287
    · rw [if_pos c3] at H
      have c3b0 : decide (a0 ≤ 2287) = true := decide_eq_true c3
      clear c3
      obtain rfl := Option.some.inj H
      go_enter Try.func28, Try.ntmps28
      go_wp2
      all_goals go_ret
      all_goals exact ⟨by first | rfl | (simp; done) | (simp [*]; done), by repeat (first | exact Drawn0.refl _ | apply Drawn0.step)⟩
    · rw [if_neg c3] at H
      have c3b0 : decide (a0 ≤ 2287) = false := decide_eq_false c3
      clear c3
      by_cases c4 : a0 ≤ 67823
      · rw [if_pos c4] at H
        have c4b0 : decide (a0 ≤ 67823) = true := decide_eq_true c4
        clear c4
        obtain rfl := Option.some.inj H
        go_enter Try.func28, Try.ntmps28
        go_wp2
        all_goals go_ret
        all_goals exact ⟨by first | rfl | (simp; done) | (simp [*]; done), by repeat (first | exact Drawn0.refl _ | apply Drawn0.step)⟩
      · rw [if_neg c4] at H
        have c4b0 : decide (a0 ≤ 67823) = false := decide_eq_false c4
        clear c4
        replace H := Option.bind_eq_some_iff.mp H
        obtain ⟨t101, A50, H⟩ := H
        replace H : (some (wrap64 (t101 + 1))) = some r := H
        have A5 := Aside0.mk A50
        clear A50
        obtain rfl := Option.some.inj H
        go_enter Try.func28, Try.ntmps28
        go_wp2_with (first | ((with_reducible refine gate_callee (f := 32) rfl ?_); refine goesL_ (some 13) rfl rfl Try.func32 (by kernel_rfl) rfl #[.int .u64 a0] rfl (by (try simp only [List.map_toArray, List.map_cons, List.map_nil]); first | done | rfl | (simp only [List.length_drop, List.length_take]; rfl)) ?_; (with_reducible refine (varint_width.calls a0 t101 _ A5.out).mono ?_); rintro e w' ⟨rfl, ⟨nd, rfl⟩⟩; refine ⟨_, rfl, ?_⟩))
        all_goals go_ret
        all_goals exact ⟨by first | rfl | (simp; done) | (simp [*]; done), by repeat (first | exact Drawn0.refl _ | apply Drawn0.step)⟩

/-! ### varint_Put: function 20 -/
theorem size_f (n : Int) (h0 : 0 ≤ n) (h1 : n < 18446744073709551616) : varint_Size.f n = some (sizeP n) := by
  unfold varint_Size.f sizeP varint_width.f
  split
  · rfl
  · split
    · rfl
    · split
      · rfl
      · rw [if_pos ⟨h0, h1⟩]
        have := widthP_range n
        simp only [Option.bind_some]
        rw [show wrap64 (widthP n + 1) = widthP n + 1 from by unfold wrap64; omega]
/-- Nine cells: the first byte, and what of the number's bytes has been written from behind. -/
theorem arr_row (w : World) (c : Int) : Kd.R (Kd.int .u8) 53 (w.alloc (.cells #[.int .u8 c, .int .u8 0, .int .u8 0, .int .u8 0, .int .u8 0, .int .u8 0, .int .u8 0, .int .u8 0, .int .u8 0] 53)) w.heap.size (fun _ => True) (.slice (some ⟨w.heap.size, 0, none⟩) 9 9) [c, 0, 0, 0, 0, 0, 0, 0, 0] :=
  Kd.R_of_own (by
    have h := World.ownsRow_lit (base := w.heap.size) (e := 53) (size := 1) w #[.int .u8 c, .int .u8 0, .int .u8 0, .int .u8 0, .int .u8 0, .int .u8 0, .int .u8 0, .int .u8 0, .int .u8 0] 9 (Nat.le_refl _) (by decide) (by simp)
    exact h) (fun _ _ => trivial)
theorem own_nums {e : Nat} {W : World} {base : Nat} {ok : Nat → Prop} {v : Value} {l : List Int} (h : Kd.R (Kd.int .u8) e W base ok v l) : W.ownsRow base e 1 v l.length (nums .u8 l) := Kd.own_of_R h
/-- The row while the loop runs: what stands behind index m is written: the number's lowest bytes. -/
structure Fill (c x0 x : Int) (m k : Nat) (xs : List Int) : Prop where
  len : xs.length = 9
  lt : m < k
  k9 : k ≤ 9
  head : xs.take 1 = [c]
  rest : (xs.take k).drop (m + 1) = beL x0 (k - 1 - m)
  left : x = x0 / 256 ^ (k - 1 - m)
theorem Fill.step {c x0 x : Int} {m k : Nat} {xs : List Int} (h : Fill c x0 x (m + 1) k xs) : Fill c x0 (x / 256) m k (xs.set (m + 1) (x % 256)) := by
  have h1 := h.len
  have h2 := h.lt
  have h3 := h.k9
  have e : k - 1 - m = (k - 1 - (m + 1)) + 1 := by omega
  refine ⟨by rw [List.length_set, h1], by omega, h3, ?_, ?_, ?_⟩
  · rw [← h.head, List.take_set_of_le (by omega)]
  · rw [e, beL_succ, ← h.left, ← h.rest]
    rw [List.take_set, List.drop_eq_getElem_cons (by simp; omega), List.getElem_set_self]
    rw [List.drop_set_of_lt (by omega)]
  · rw [e, h.left, Int.ediv_ediv_of_nonneg (Int.pow_nonneg (by decide)), Int.pow_succ]
theorem Fill.out {c x0 x : Int} {k : Nat} {xs : List Int} (h : Fill c x0 x 0 k xs) : xs.take k = c :: beL x0 (k - 1) := by
  have h1 := h.len
  have h2 := h.lt
  have h3 := h.rest
  rw [Nat.sub_zero, Nat.zero_add] at h3
  rw [← h3]
  have h4 := h.head
  obtain ⟨y, ys, rfl⟩ : ∃ y ys, xs = y :: ys := List.exists_cons_of_length_pos (by omega)
  simp only [List.take_succ_cons, List.take_zero, List.cons.injEq, and_true] at h4
  subst h4
  obtain ⟨k, rfl⟩ : ∃ j, k = j + 1 := ⟨k - 1, by omega⟩
  simp
theorem Fill.start (c x0 : Int) (k : Nat) (h1 : 0 < k) (h9 : k ≤ 9) : Fill c x0 x0 (k - 1) k [c, 0, 0, 0, 0, 0, 0, 0, 0] := by
  refine ⟨rfl, by omega, h9, rfl, ?_, ?_⟩
  · rw [show k - 1 - (k - 1) = 0 by omega, show k - 1 + 1 = k by omega, List.drop_of_length_le (by simp; omega)]; rfl
  · rw [show k - 1 - (k - 1) = 0 by omega]; simp
set_option maxHeartbeats 1600000 in
/-- Of one byte. -/
theorem put_one (a0 : Int) (w : World) (h0 : 0 ≤ a0) (h1 : a0 ≤ 240) :
    Calls Try.prog 20 #[.int .u64 a0] w fun e w' => e = .returned (.string (putP a0)) ∧ Below w.heap.size w w' := by
  have hs := size_f a0 h0 (by omega)
  have hsz : sizeP a0 = 1 := by unfold sizeP; rw [if_pos h1]
  rw [hsz] at hs
  have hfin : putP a0 = strOfNums [a0] := by
    unfold putP putL
    rw [if_pos h1]
  have HS := Aside0.mk hs
  have HF := Lib.hid hfin
  have hstr : ∀ w1 : World, (convert 38 9 (.slice (some ⟨w1.heap.size, 0, none⟩) 1 9)).run Try.prog (w1.alloc (.cells #[.int .u8 a0, .int .u8 0, .int .u8 0, .int .u8 0, .int .u8 0, .int .u8 0, .int .u8 0, .int .u8 0, .int .u8 0] 53)) = .ok (.string (putP a0)) (w1.alloc (.cells #[.int .u8 a0, .int .u8 0, .int .u8 0, .int .u8 0, .int .u8 0, .int .u8 0, .int .u8 0, .int .u8 0, .int .u8 0] 53)) := by
    intro w1
    have hown := own_nums (Kd.R_take (arr_row w1 a0) (m := 1) (by simp))
    rw [hfin]
    exact own_string (P := Try.prog) (src := 38) (dst := 9) Try.underlying38 Try.underlying5 Try.underlying9 hown
  clear hs hsz hfin
  go_enter Try.func20, Try.ntmps20
  go_wp2_with (first | (go_at_call 28; (with_reducible refine (varint_Size.calls a0 _ _ HS.out).mono ?_); rintro e w1 ⟨rfl, hd⟩; have HD := Aside0.mk hd.below; clear hd))
  go_ret
  exact ⟨rfl, below_then HD.out HD.out.size (below_alloc (Below.refl _ _) _)⟩
set_option maxHeartbeats 3200000 in
/-- Of two bytes. -/
theorem put_two (a0 : Int) (w : World) (h1 : 240 < a0) (h2 : a0 ≤ 2287) :
    Calls Try.prog 20 #[.int .u64 a0] w fun e w' => e = .returned (.string (putP a0)) ∧ Below w.heap.size w w' := by
  have h0 : 0 ≤ a0 := by omega
  have hs := size_f a0 h0 (by omega)
  have hsz : sizeP a0 = 2 := by unfold sizeP; rw [if_neg (by omega), if_pos (by omega)]
  rw [hsz] at hs
  have hfin : putP a0 = strOfNums ((241 + (a0 - 240) / 256) :: beL (a0 - 240) 1) := by
    unfold putP putL
    rw [if_neg (by omega), if_pos (by omega)]; rfl
  have HS := Aside0.mk hs
  have HF := Lib.hid hfin
  clear hs hsz hfin
  go_enter Try.func20, Try.ntmps20
  go_wp2_with (first | (go_at_call 28; (with_reducible refine (varint_Size.calls a0 _ _ HS.out).mono ?_); rintro e w1 ⟨rfl, hd⟩; have HD := Aside0.mk hd.below; clear hd))
  have HR := Aside0.mk (arr_row w1 (241 + (a0 - 240) / 256))
  have hst := Fill.start (241 + (a0 - 240) / 256) (a0 - 240) 2 (by omega) (by omega)
  have HST := Aside0.mk hst
  clear hst
  go_loopg [0, 5] 1 (fun kq v0 v5 w' => ∃ (x : Int) (m : Nat) (xs : List Int), v0 = .int .u64 x ∧ v5 = .int .i64 (m : Int) ∧ Aside0 (kq = m) ∧ Aside0 (0 ≤ x ∧ x < 18446744073709551616) ∧ Aside0 (Fill (241 + (a0 - 240) / 256) (a0 - 240) x m 2 xs) ∧ Aside0 (Kd.R (Kd.int .u8) 53 w' w1.heap.size (fun _ => True) (.slice (some ⟨w1.heap.size, 0, none⟩) 9 9) xs) ∧ Aside0 (Below w1.heap.size w1 w'))
  case atStart => exact ⟨a0 - 240, 1, _, rfl, by first | rfl | go_num, ⟨rfl⟩, ⟨by omega⟩, HST, HR, ⟨below_alloc (Below.refl _ _) _⟩⟩
  case round =>
    clear HR HST
    obtain ⟨x, m, xs, rfl, rfl, HK, HX, HFL, HR, HB⟩ := hrel
    have hx0 := HX.out.1
    have hx1 := HX.out.2
    have hmk := HFL.out.lt
    cases m with
    | zero =>
      have hown := own_nums (Kd.R_take HR.out (m := 2) (by rw [HFL.out.len]; omega))
      have hout := HFL.out.out
      have hlen : (xs.take 2).length = 2 := by rw [List.length_take, HFL.out.len]; omega
      rw [hlen] at hown
      have hstr := own_string (P := Try.prog) (src := 38) (dst := 9) Try.underlying38 Try.underlying5 Try.underlying9 hown
      rw [hout] at hstr
      have hstr2 := hstr.trans (by rw [← HF.out])
      clear hstr
      have hstr := hstr2
      clear hstr2 hown hout hlen
      go_wp2
      go_ret
      exact ⟨rfl, below_then HD.out HD.out.size HB.out⟩
    | succ m =>
      obtain ⟨hc, hf⟩ := Kd.R_celln 0 HR.out ((m + 1 : Nat) : Int) (by omega) (by omega)
      rw [Int.toNat_natCast] at hc hf
      obtain ⟨hput, hg⟩ := Kd.R_putg HR.out ((m + 1 : Nat) : Int) (x % 256)
      have hstep := HFL.out.step
      rw [Int.toNat_natCast] at hput hg
      have hbge : w1.heap.size ≤ w1.heap.size := Nat.le_refl _
      have HP := Aside0.mk hput
      have HST := Aside0.mk hstep
      have HB2 : Below w1.heap.size w1 (wr.setCell ⟨w1.heap.size, m + 1, none⟩ (.int .u8 (x % 256))) := HB.out.setCell (Nat.le_refl _) _
      have HBB := Aside0.mk HB2
      clear hput hg hstep HB2 hbge
      have hq : Kd.R (Kd.int .u8) 53 wr w1.heap.size (fun _ => True) (.slice (some ⟨w1.heap.size, 0, none⟩) 9 9) xs := HR.out
      clear hq
      have hm8 : (m : Int) + 1 < 9 := by omega
      go_wp2
      go_roundg m
      case measure => have := HK.out; omega
      case rel => exact ⟨_, m, _, rfl, rfl, ⟨rfl⟩, ⟨by omega⟩, HST, HP, HBB⟩
set_option maxHeartbeats 3200000 in
/-- Of three bytes. -/
theorem put_three (a0 : Int) (w : World) (h1 : 2287 < a0) (h2 : a0 ≤ 67823) :
    Calls Try.prog 20 #[.int .u64 a0] w fun e w' => e = .returned (.string (putP a0)) ∧ Below w.heap.size w w' := by
  have h0 : 0 ≤ a0 := by omega
  have hs := size_f a0 h0 (by omega)
  have hsz : sizeP a0 = 3 := by unfold sizeP; rw [if_neg (by omega), if_neg (by omega), if_pos (by omega)]
  rw [hsz] at hs
  have hfin : putP a0 = strOfNums (249 :: beL (a0 - 2288) 2) := by
    unfold putP putL
    rw [if_neg (by omega), if_neg (by omega), if_pos (by omega)]
  have HS := Aside0.mk hs
  have HF := Lib.hid hfin
  clear hs hsz hfin
  go_enter Try.func20, Try.ntmps20
  go_wp2_with (first | (go_at_call 28; (with_reducible refine (varint_Size.calls a0 _ _ HS.out).mono ?_); rintro e w1 ⟨rfl, hd⟩; have HD := Aside0.mk hd.below; clear hd))
  have HR := Aside0.mk (arr_row w1 (249))
  have hst := Fill.start (249) (a0 - 2288) 3 (by omega) (by omega)
  have HST := Aside0.mk hst
  clear hst
  go_loopg [0, 5] 2 (fun kq v0 v5 w' => ∃ (x : Int) (m : Nat) (xs : List Int), v0 = .int .u64 x ∧ v5 = .int .i64 (m : Int) ∧ Aside0 (kq = m) ∧ Aside0 (0 ≤ x ∧ x < 18446744073709551616) ∧ Aside0 (Fill (249) (a0 - 2288) x m 3 xs) ∧ Aside0 (Kd.R (Kd.int .u8) 53 w' w1.heap.size (fun _ => True) (.slice (some ⟨w1.heap.size, 0, none⟩) 9 9) xs) ∧ Aside0 (Below w1.heap.size w1 w'))
  case atStart => exact ⟨a0 - 2288, 2, _, rfl, by first | rfl | go_num, ⟨rfl⟩, ⟨by omega⟩, HST, HR, ⟨below_alloc (Below.refl _ _) _⟩⟩
  case round =>
    clear HR HST
    obtain ⟨x, m, xs, rfl, rfl, HK, HX, HFL, HR, HB⟩ := hrel
    have hx0 := HX.out.1
    have hx1 := HX.out.2
    have hmk := HFL.out.lt
    cases m with
    | zero =>
      have hown := own_nums (Kd.R_take HR.out (m := 3) (by rw [HFL.out.len]; omega))
      have hout := HFL.out.out
      have hlen : (xs.take 3).length = 3 := by rw [List.length_take, HFL.out.len]; omega
      rw [hlen] at hown
      have hstr := own_string (P := Try.prog) (src := 38) (dst := 9) Try.underlying38 Try.underlying5 Try.underlying9 hown
      rw [hout] at hstr
      have hstr2 := hstr.trans (by rw [← HF.out])
      clear hstr
      have hstr := hstr2
      clear hstr2 hown hout hlen
      go_wp2
      go_ret
      exact ⟨rfl, below_then HD.out HD.out.size HB.out⟩
    | succ m =>
      obtain ⟨hc, hf⟩ := Kd.R_celln 0 HR.out ((m + 1 : Nat) : Int) (by omega) (by omega)
      rw [Int.toNat_natCast] at hc hf
      obtain ⟨hput, hg⟩ := Kd.R_putg HR.out ((m + 1 : Nat) : Int) (x % 256)
      have hstep := HFL.out.step
      rw [Int.toNat_natCast] at hput hg
      have hbge : w1.heap.size ≤ w1.heap.size := Nat.le_refl _
      have HP := Aside0.mk hput
      have HST := Aside0.mk hstep
      have HB2 : Below w1.heap.size w1 (wr.setCell ⟨w1.heap.size, m + 1, none⟩ (.int .u8 (x % 256))) := HB.out.setCell (Nat.le_refl _) _
      have HBB := Aside0.mk HB2
      clear hput hg hstep HB2 hbge
      have hq : Kd.R (Kd.int .u8) 53 wr w1.heap.size (fun _ => True) (.slice (some ⟨w1.heap.size, 0, none⟩) 9 9) xs := HR.out
      clear hq
      have hm8 : (m : Int) + 1 < 9 := by omega
      go_wp2
      go_roundg m
      case measure => have := HK.out; omega
      case rel => exact ⟨_, m, _, rfl, rfl, ⟨rfl⟩, ⟨by omega⟩, HST, HP, HBB⟩
set_option maxHeartbeats 3200000 in
/-- Of more than three bytes. -/
theorem put_more (a0 : Int) (w : World) (h0 : 0 ≤ a0) (h1 : 67823 < a0) (h2 : a0 < 18446744073709551616) :
    Calls Try.prog 20 #[.int .u64 a0] w fun e w' => e = .returned (.string (putP a0)) ∧ Below w.heap.size w w' := by
  have hs := size_f a0 h0 h2
  have hsz : sizeP a0 = widthP a0 + 1 := by unfold sizeP; rw [if_neg (by omega), if_neg (by omega), if_neg (by omega)]
  have hw := widthP_range a0
  rw [hsz] at hs
  obtain ⟨W, hW⟩ : ∃ W : Nat, widthP a0 = W := ⟨(widthP a0).toNat, by omega⟩
  have hfin : putP a0 = strOfNums ((247 + (W : Int)) :: beL a0 W) := by
    unfold putP putL
    rw [if_neg (by omega), if_neg (by omega), if_neg (by omega), hW, Int.toNat_natCast]
  rw [hW] at hs hw
  have HS := Aside0.mk hs
  have HF := Lib.hid hfin
  have e1 : ((W : Int) + 1 == 1) = false := by simp; omega
  have e2 : ((W : Int) + 1 == 2) = false := by simp; omega
  have e3 : ((W : Int) + 1 == 3) = false := by simp; omega
  have hw1 := hw.1
  have hw2 := hw.2
  clear hs hsz hW hfin hw
  go_enter Try.func20, Try.ntmps20
  go_wp2_with (first | (go_at_call 28; (with_reducible refine (varint_Size.calls a0 _ _ HS.out).mono ?_); rintro e w1 ⟨rfl, hd⟩; have HD := Aside0.mk hd.below; clear hd))
  have HR := Aside0.mk (arr_row w1 (249 + ((W : Int) + 1) - 3))
  have hst := Fill.start (249 + ((W : Int) + 1) - 3) a0 (W + 1) (by omega) (by omega)
  rw [Nat.add_sub_cancel] at hst
  have HST := Aside0.mk hst
  clear hst
  go_loopg [0, 5] W (fun kq v0 v5 w' => ∃ (x : Int) (m : Nat) (xs : List Int), v0 = .int .u64 x ∧ v5 = .int .i64 (m : Int) ∧ Aside0 (kq = m) ∧ Aside0 (0 ≤ x ∧ x < 18446744073709551616) ∧ Aside0 (Fill (249 + ((W : Int) + 1) - 3) a0 x m (W + 1) xs) ∧ Aside0 (Kd.R (Kd.int .u8) 53 w' w1.heap.size (fun _ => True) (.slice (some ⟨w1.heap.size, 0, none⟩) 9 9) xs) ∧ Aside0 (Below w1.heap.size w1 w'))
  case atStart => exact ⟨a0, W, _, rfl, by first | rfl | go_num, ⟨rfl⟩, ⟨h0, h2⟩, HST, HR, ⟨below_alloc (Below.refl _ _) _⟩⟩
  case round =>
    clear HR HST
    obtain ⟨x, m, xs, rfl, rfl, HK, HX, HFL, HR, HB⟩ := hrel
    have hx0 := HX.out.1
    have hx1 := HX.out.2
    have hmk := HFL.out.lt
    cases m with
    | zero =>
      have hown := own_nums (Kd.R_take HR.out (m := W + 1) (by rw [HFL.out.len]; omega))
      have hout := HFL.out.out
      rw [Nat.add_sub_cancel] at hout
      have hlen : (xs.take (W + 1)).length = W + 1 := by rw [List.length_take, HFL.out.len]; omega
      rw [hlen] at hown
      have hstr := own_string (P := Try.prog) (src := 38) (dst := 9) Try.underlying38 Try.underlying5 Try.underlying9 hown
      rw [hout] at hstr
      have e249 : 249 + ((W : Int) + 1) - 3 = 247 + (W : Int) := by omega
      rw [e249, ← HF.out] at hstr
      clear hown hout hlen e249
      have hal : Try.prog.arrayLen 53 = 9 := by kernel_rfl
      have hsl : ∀ Z : World, (Instr.sliceAt 53 (.pointer (some ⟨w1.heap.size, 0, none⟩)) none (some (.int .i64 ((W : Int) + 1))) none).run Try.prog Z = .ok (.slice (some ⟨w1.heap.size, 0, none⟩) (W + 1) 9) Z := by
        intro Z
        rw [run_sliceAt_array_h (P := Try.prog) (h := (W : Int) + 1) (ht := Try.underlying53) (h0 := by omega) (h2 := by rw [hal]; omega), hal]
        rfl
      go_wp2
      go_ret
      exact ⟨rfl, below_then HD.out HD.out.size HB.out⟩
    | succ m =>
      obtain ⟨hc, hf⟩ := Kd.R_celln 0 HR.out ((m + 1 : Nat) : Int) (by omega) (by omega)
      rw [Int.toNat_natCast] at hc hf
      obtain ⟨hput, hg⟩ := Kd.R_putg HR.out ((m + 1 : Nat) : Int) (x % 256)
      have hstep := HFL.out.step
      rw [Int.toNat_natCast] at hput hg
      have hbge : w1.heap.size ≤ w1.heap.size := Nat.le_refl _
      have HP := Aside0.mk hput
      have HST := Aside0.mk hstep
      have HB2 : Below w1.heap.size w1 (wr.setCell ⟨w1.heap.size, m + 1, none⟩ (.int .u8 (x % 256))) := HB.out.setCell (Nat.le_refl _) _
      have HBB := Aside0.mk HB2
      clear hput hg hstep HB2 hbge
      have hq : Kd.R (Kd.int .u8) 53 wr w1.heap.size (fun _ => True) (.slice (some ⟨w1.heap.size, 0, none⟩) 9 9) xs := HR.out
      clear hq
      have hm8 : (m : Int) + 1 < 9 := by omega
      go_wp2
      go_roundg m
      case measure => have := HK.out; omega
      case rel => exact ⟨_, m, _, rfl, rfl, ⟨rfl⟩, ⟨by omega⟩, HST, HP, HBB⟩
def varint_Put.f (a0 : Int) : Option ByteArray := if 0 ≤ a0 ∧ a0 < 18446744073709551616 then some (putP a0) else none
theorem varint_Put.calls (a0 : Int) (r : ByteArray) (w : World) (h : varint_Put.f a0 = some r) :
    Calls Try.prog 20 #[.int .u64 a0] w fun e w' => e = .returned (.string r) ∧ Below w.heap.size w w' := by
  unfold varint_Put.f at h
  split at h
  case isFalse => simp at h
  case isTrue hh =>
  obtain rfl := Option.some.inj h
  by_cases h1 : a0 ≤ 240
  · exact put_one a0 w hh.1 h1
  · by_cases h2 : a0 ≤ 2287
    · exact put_two a0 w (by omega) h2
    · by_cases h3 : a0 ≤ 67823
      · exact put_three a0 w (by omega) h3
      · exact put_more a0 w hh.1 (by omega) hh.2
theorem put_f (n : Int) (h0 : 0 ≤ n) (h1 : n < 18446744073709551616) : varint_Put.f n = some (putP n) := by
  unfold varint_Put.f; rw [if_pos ⟨h0, h1⟩]
theorem putP_size (n : Int) : (putP n).size ≤ 9 := by
  unfold putP; rw [strOfNums_size]; exact (putL_len n).2


/-! ### check_four: function 21 -/
def check_four.f (a0 : Int) : Option (ByteArray) := some (strOfNums (([(a0 / 16777216) % 256, (a0 / 65536) % 256, (a0 / 256) % 256, (a0) % 256] : List Int)))
set_option maxHeartbeats 8000000 in
set_option maxRecDepth 100000 in
theorem check_four.calls (a0 : Int) (r : ByteArray) (w : World) (h : check_four.f a0 = some r) :
    Calls Try.prog 21 #[.int .u32 a0] w fun e w' => e = .returned (.string r) ∧ Below w.heap.size w w' := by
  have HB := Aside0.mk (Below.refl w.heap.size w)
  have H : (some (strOfNums (([(a0 / 16777216) % 256, (a0 / 65536) % 256, (a0 / 256) % 256, (a0) % 256] : List Int)))) = some r := h
  clear h
  obtain ⟨y102, hy102⟩ : ∃ y_ : List Int, y_ = (([(a0 / 16777216) % 256, (a0 / 65536) % 256, (a0 / 256) % 256, (a0) % 256] : List Int)) := ⟨_, rfl⟩
  replace H : (some (strOfNums y102)) = some r := by first | (rw [hy102]; with_reducible exact H) | (have H2_ := (Option.bind_some _ _).symm.trans H; rw [hy102]; with_reducible exact H2_) | (have H2_ := (Option.bind_some _ _).symm.trans H; with_reducible exact H2_) | with_reducible exact H | (rw [hy102]; exact H) | exact H
  have Ny102 := Aside0.mk hy102
  clear hy102
  obtain rfl := Option.some.inj H
  go_enter Try.func21, Try.ntmps21
  go_wp2_with (first | ((with_reducible refine gate_dst (N := 14) rfl ?_); refine Kd.R_lit (Kd.int .u8) _ 5 ?hg (N := 14) ?hd (xs := ([(a0 / 16777216) % 256, (a0 / 65536) % 256, (a0 / 256) % 256, (a0) % 256] : List Int)) (inner := [.int .u8 ((a0 / 16777216) % 256), .int .u8 ((a0 / 65536) % 256), .int .u8 ((a0 / 256) % 256), .int .u8 ((a0) % 256)]) (ok := fun _ => True) (okp := fun _ => True) ?hr ?hp (fun _ hk => hk) trivial (Below.refl _ _) (Nat.le_refl _) (by simp) ?_; (case hd => rfl); (case hg => rfl); (case hr => first | (go_simp; done) | (go_simp; rfl)); (case hp => exact (Reps.one (show Kd.M (Kd.int .u8) _ _ _ ((a0 / 16777216) % 256) [.int .u8 ((a0 / 16777216) % 256)] from rfl) (Reps.one (show Kd.M (Kd.int .u8) _ _ _ ((a0 / 65536) % 256) [.int .u8 ((a0 / 65536) % 256)] from rfl) (Reps.one (show Kd.M (Kd.int .u8) _ _ _ ((a0 / 256) % 256) [.int .u8 ((a0 / 256) % 256)] from rfl) (Reps.one (show Kd.M (Kd.int .u8) _ _ _ ((a0) % 256) [.int .u8 ((a0) % 256)] from rfl) (Reps.none _ _)))))); intro v103 w2 ho3 hb hg_ hnew_; clear hg_ hnew_; (first | rw [← Ny102.out] at ho3 | (simp only [Int.reduceToNat] at ho3; rw [← Ny102.out] at ho3)); have n0_ := Aside0.mk (Kd.R_lower ho3 (below_size (by repeat (first | (with_reducible first | exact HB.out | apply below_alloc | apply pw_below_drewN | apply below_drew1) | exact HB.out)))); have n1_ := Aside0.mk (below_step (by repeat (first | (with_reducible first | exact HB.out | apply below_alloc | apply pw_below_drewN | apply below_drew1) | exact HB.out)) hb); clear HB; have HO104 := n0_; have HB := n1_; clear n0_ n1_; clear hb ho3; have hcv4 := own_string (P := Try.prog) Try.underlying38 Try.underlying5 Try.underlying9 (Kd.own_of_R HO104.out); have hcv4n := fun (m_ : Nat) => own_string (P := Try.prog) Try.underlying38 Try.underlying5 Try.underlying9 (Kd.own_of_R (Kd.R_drewN HO104.out m_))))
  all_goals go_ret
  all_goals exact ⟨by first | rfl | (simp [errW_none, errW_some] <;> rfl) | (simp [*, errW_none, errW_some] <;> rfl), by repeat (first | (with_reducible first | exact HB.out | apply below_alloc | apply pw_below_drewN | apply below_drew1) | exact HB.out)⟩

/-! ### check_Frame: function 10 -/
-- in a module of its own


-- NOT PRINTED: function 27 (check_frames)

/-! ### check_Scan: function 17 -/
-- in a module of its own


/-! ### moultlaw5_same: function 19 -/
def moultlaw5_same.l0 : Nat → List ByteArray → List ByteArray → Int → Option (Bool)
  | 0, _, _, _ => none
  | k + 1, x0, x1, x5 => if x5 < (x0.length : Int) then (if 0 ≤ x5 then (if x5 < (x1.length : Int) then (if (rdOf ByteArray.empty x0 x5).toList = (rdOf ByteArray.empty x1 x5).toList then (moultlaw5_same.l0 k x0 x1 (wrap64 (x5 + 1))) else (some false)) else (none)) else (none)) else (some true)
def moultlaw5_same.f (k : Nat) (l0 : List ByteArray) (l1 : List ByteArray) : Option (Bool) := if (l0.length : Int) = (l1.length : Int) then (moultlaw5_same.l0 k l0 l1 0) else (some false)
theorem moultlaw5_same.mono_l : ∀ k, (∀ y0 y1 y2, LeO (moultlaw5_same.l0 k y0 y1 y2) (moultlaw5_same.l0 (k + 1) y0 y1 y2))
  | 0 => fun _ _ _ r h => by simp [moultlaw5_same.l0] at h
  | k + 1 => by
    have ih0 := moultlaw5_same.mono_l k
    · intro y0 y1 y2
      unfold moultlaw5_same.l0
      repeat' first
      | (with_reducible exact ih0 _ _ _)
      | (with_reducible exact LeO.refl _)
      | (with_reducible exact LeO.none _)
      | (with_reducible refine LeO.ite ?_ ?_)
      | (with_reducible refine LeO.bind ?_ (fun _ => ?_))
      | exact ih0 _ _ _
      | exact LeO.none _
      | refine LeO.ite ?_ ?_
      | refine LeO.bind ?_ (fun _ => ?_)
theorem moultlaw5_same.mono : ∀ a0 a1 k, LeO (moultlaw5_same.f k a0 a1) (moultlaw5_same.f (k + 1) a0 a1) := by
  intro a0 a1 k
  have ih0 := moultlaw5_same.mono_l k
  unfold moultlaw5_same.f
  repeat' first
      | (with_reducible exact ih0 _ _ _)
      | (with_reducible exact LeO.refl _)
      | (with_reducible exact LeO.none _)
      | (with_reducible refine LeO.ite ?_ ?_)
      | (with_reducible refine LeO.bind ?_ (fun _ => ?_))
      | exact ih0 _ _ _
      | exact LeO.none _
      | refine LeO.ite ?_ ?_
      | refine LeO.bind ?_ (fun _ => ?_)
set_option maxHeartbeats 8000000 in
set_option maxRecDepth 100000 in
theorem moultlaw5_same.calls (k : Nat) (A0 : Option Addr) (c0 : Nat) (l0 : List ByteArray) (A1 : Option Addr) (c1 : Nat) (l1 : List ByteArray) (r : Bool) (w : World) (hr0 : Kd.C Kd.string w A0 l0.length l0) (hc0 : l0.length ≤ c0) (hr1 : Kd.C Kd.string w A1 l1.length l1) (hc1 : l1.length ≤ c1) (h : moultlaw5_same.f k l0 l1 = some r) :
    Calls Try.prog 19 #[.slice A0 l0.length c0, .slice A1 l1.length c1] w fun e w' => e = .returned (.bool r) ∧ Drawn0 w w' := by
  have HR0 := Aside0.mk hr0
  have HC0 := Aside0.mk hc0
  clear hr0 hc0
  have HR1 := Aside0.mk hr1
  have HC1 := Aside0.mk hc1
  clear hr1 hc1
  have H : (if (l0.length : Int) = (l1.length : Int) then (moultlaw5_same.l0 k l0 l1 0) else (some false)) = some r := h
  clear h
  by_cases c3 : (l0.length : Int) = (l1.length : Int)
  · rw [if_pos c3] at H
    have c3b0 : ((l0.length : Int) == (l1.length : Int)) = true := beq_iff_eq.mpr c3
    have c3b1 : ((l0.length : Int) != (l1.length : Int)) = false := bne_eq_false_iff_eq.mpr c3
    have c3b2 : (l0.length == l1.length) = true := by first | simpa using c3 | (simp at c3 ⊢; omega)
    clear c3
    have H' := Aside0.mk H
    clear H
    go_enter Try.func19, Try.ntmps19
    go_wp2
    repeat (go_quiet (fail); try go_wp2)
    go_loopg [5] k (fun kq v5 w' => ∃ (x5_1 : Int), v5 = .int .i64 x5_1 ∧ Aside0 (moultlaw5_same.l0 kq l0 l1 x5_1 = some r) ∧ Aside0 (kq ≤ k) ∧ Drawn0 w w')
    case atStart => exact ⟨(0), (by first | rfl | (simp; done) | (simp [*]; done)), H', ⟨Nat.le_refl _⟩, by repeat (first | exact Drawn0.refl _ | apply Drawn0.step)⟩
    case round =>
      clear H'
      try clear c1
      try clear p2
      try clear c3
      try clear c3b0
      try clear c3b1
      try clear c3b2
      obtain ⟨x5_1, rfl, HA, HK1, ⟨m1, rfl⟩⟩ := hrel
      cases gk with
      | zero => exact absurd HA.out (by simp [moultlaw5_same.l0])
      | succ k1 =>
        have H := HA.out
        clear HA
        simp only [moultlaw5_same.l0] at H
        by_cases c4 : x5_1 < (l0.length : Int)
        · rw [if_pos c4] at H
          have c4b0 : decide (x5_1 < (l0.length : Int)) = true := decide_eq_true c4
          clear c4
          by_cases c5 : 0 ≤ x5_1
          · rw [if_pos c5] at H
            have c5b0 : decide (0 ≤ x5_1) = true := decide_eq_true c5
            clear c5
            by_cases c6 : x5_1 < (l1.length : Int)
            · rw [if_pos c6] at H
              have c6b0 : decide (x5_1 < (l1.length : Int)) = true := decide_eq_true c6
              clear c6
              by_cases c7 : (rdOf ByteArray.empty l0 x5_1).toList = (rdOf ByteArray.empty l1 x5_1).toList
              · rw [if_pos c7] at H
                have c7b0 : ((rdOf ByteArray.empty l0 x5_1).toList == (rdOf ByteArray.empty l1 x5_1).toList) = true := beq_iff_eq.mpr c7
                have c7b1 : ((rdOf ByteArray.empty l0 x5_1).toList != (rdOf ByteArray.empty l1 x5_1).toList) = false := bne_eq_false_iff_eq.mpr c7
                clear c7
                have H' := Aside0.mk H
                clear H
                have p105 : 0 ≤ (x5_1 : Int) := of_decide_eq_true (by first | (with_reducible assumption) | assumption)
                have q105 : x5_1 < (l0.length : Int) := of_decide_eq_true (by first | (with_reducible assumption) | assumption)
                obtain ⟨ad105, e105, hx105_0⟩ := Kd.at_string HR0.out x5_1 p105 q105
                cases e105
                replace p105 := eq_true p105
                replace q105 := eq_true q105
                have p106 : 0 ≤ (x5_1 : Int) := of_decide_eq_true (by first | (with_reducible assumption) | assumption)
                have q106 : x5_1 < (l1.length : Int) := of_decide_eq_true (by first | (with_reducible assumption) | assumption)
                obtain ⟨ad106, e106, hx106_0⟩ := Kd.at_string HR1.out x5_1 p106 q106
                cases e106
                replace p106 := eq_true p106
                replace q106 := eq_true q106
                go_wp2
                repeat (go_quiet (fail); try go_wp2)
                go_roundg k1
                case measure => have := HK1.out; omega
                case rel => exact ⟨(wrap64 (x5_1 + 1)), (by first | rfl | (simp; done) | (simp [*]; done)), H', ⟨by have := HK1.out; omega⟩, by repeat (first | exact Drawn0.refl _ | apply Drawn0.step)⟩
              · rw [if_neg c7] at H
                have c7b0 : ((rdOf ByteArray.empty l0 x5_1).toList == (rdOf ByteArray.empty l1 x5_1).toList) = false := beq_eq_false_iff_ne.mpr c7
                have c7b1 : ((rdOf ByteArray.empty l0 x5_1).toList != (rdOf ByteArray.empty l1 x5_1).toList) = true := bne_iff_ne.mpr c7
                obtain rfl := Option.some.inj H
                have p105 : 0 ≤ (x5_1 : Int) := of_decide_eq_true (by first | (with_reducible assumption) | assumption)
                have q105 : x5_1 < (l0.length : Int) := of_decide_eq_true (by first | (with_reducible assumption) | assumption)
                obtain ⟨ad105, e105, hx105_0⟩ := Kd.at_string HR0.out x5_1 p105 q105
                cases e105
                replace p105 := eq_true p105
                replace q105 := eq_true q105
                have p106 : 0 ≤ (x5_1 : Int) := of_decide_eq_true (by first | (with_reducible assumption) | assumption)
                have q106 : x5_1 < (l1.length : Int) := of_decide_eq_true (by first | (with_reducible assumption) | assumption)
                obtain ⟨ad106, e106, hx106_0⟩ := Kd.at_string HR1.out x5_1 p106 q106
                cases e106
                replace p106 := eq_true p106
                replace q106 := eq_true q106
                go_wp2
                repeat (go_quiet (fail); try go_wp2)
                all_goals go_ret
                all_goals exact ⟨by first | rfl | (simp; done) | (simp [*]; done), by repeat (first | exact Drawn0.refl _ | apply Drawn0.step)⟩
            · rw [if_neg c6] at H
              exact absurd H (by simp)
          · rw [if_neg c5] at H
            exact absurd H (by simp)
        · rw [if_neg c4] at H
          have c4b0 : decide (x5_1 < (l0.length : Int)) = false := decide_eq_false c4
          clear c4
          obtain rfl := Option.some.inj H
          go_wp2
          repeat (go_quiet (fail); try go_wp2)
          all_goals go_ret
          all_goals exact ⟨by first | rfl | (simp; done) | (simp [*]; done), by repeat (first | exact Drawn0.refl _ | apply Drawn0.step)⟩
  · rw [if_neg c3] at H
    have c3b0 : ((l0.length : Int) == (l1.length : Int)) = false := beq_eq_false_iff_ne.mpr c3
    have c3b1 : ((l0.length : Int) != (l1.length : Int)) = true := bne_iff_ne.mpr c3
    have c3b2 : (l0.length == l1.length) = false := by first | simpa using c3 | (simp at c3 ⊢; omega)
    obtain rfl := Option.some.inj H
    go_enter Try.func19, Try.ntmps19
    go_wp2
    repeat (go_quiet (fail); try go_wp2)
    all_goals go_ret
    all_goals exact ⟨by first | rfl | (simp; done) | (simp [*]; done), by repeat (first | exact Drawn0.refl _ | apply Drawn0.step)⟩

/-! ### moultref5_turn: function 24 -/
def moultref5_turn.f (a0 : Int) : Option (Int) := if (Int.tmod a0 2) = 1 then (some (Go.bits .xor .u32 ((Int.tdiv a0 2) % 4294967296) 3988292384)) else (some ((Int.tdiv a0 2) % 4294967296))
set_option maxHeartbeats 8000000 in
set_option maxRecDepth 100000 in
theorem moultref5_turn.calls (a0 : Int) (r : Int) (w : World) (h : moultref5_turn.f a0 = some r) :
    Calls Try.prog 24 #[.int .u32 a0] w fun e w' => e = .returned (.int .u32 r) ∧ Drawn0 w w' := by
  have H : (if (Int.tmod a0 2) = 1 then (some (Go.bits .xor .u32 ((Int.tdiv a0 2) % 4294967296) 3988292384)) else (some ((Int.tdiv a0 2) % 4294967296))) = some r := h
  clear h
  by_cases c2 : (Int.tmod a0 2) = 1
  · rw [if_pos c2] at H
    have c2b0 : ((Int.tmod a0 2) == 1) = true := beq_iff_eq.mpr c2
    have c2b1 : ((Int.tmod a0 2) != 1) = false := bne_eq_false_iff_eq.mpr c2
    clear c2
    obtain rfl := Option.some.inj H
    go_enter Try.func24, Try.ntmps24
    go_wp2
    all_goals go_ret
    all_goals exact ⟨by first | rfl | (simp; done) | (simp [*]; done), by repeat (first | exact Drawn0.refl _ | apply Drawn0.step)⟩
  · rw [if_neg c2] at H
    have c2b0 : ((Int.tmod a0 2) == 1) = false := beq_eq_false_iff_ne.mpr c2
    have c2b1 : ((Int.tmod a0 2) != 1) = true := bne_iff_ne.mpr c2
    obtain rfl := Option.some.inj H
    go_enter Try.func24, Try.ntmps24
    go_wp2
    all_goals go_ret
    all_goals exact ⟨by first | rfl | (simp; done) | (simp [*]; done), by repeat (first | exact Drawn0.refl _ | apply Drawn0.step)⟩

end Go.Proofs.Ytkdmjnmilmmnjaa.P
