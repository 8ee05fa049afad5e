/- A range over a function whose iterator writes blocks of its own or its caller's: the statement, and one round of it, at what lies there. (The kit's contracts for iterators hold the caller's blocks fast; check.frames writes its caller's error.) -/
import Derived.RangeFuncBox
import Derived.ControlIn
import Derived.Deep.LoopGhost
set_option linter.unusedVariables false
namespace Go.Proofs.Ytkdmjnmilmmnjaa.Rf
open Go.RowKit
variable {F : Fence} {n m : Nat} {P : Program}
/-- A round's body comes to its end: the record is still busy; of what then lies there R is told. -/
def StaysP (l : Nat) (r : Loop) (R : World → Prop) : Exit → Act → World → Prop
  | .normal, _, W3 => W3.heap[l]? = some (.loop { r with state := .busy }) ∧ R (W3.putObj l (.loop r))
  | _, _, _ => False
theorem yieldAt_stays {l : Nat} {r : Loop} {args : Array Value} {W : World} {R : World → Prop}
    (hl : W.heap[l]? = some (.loop r)) (hst : r.state = .ready) (hpe : r.pending = none) (hs : args.size = r.params.size) (hF : F.fn r.fn)
    (a₁ : Act) (hassign : ∀ K : Act → World → Prop, K a₁ W → r.assign.wpIn (F.inRound l) m P (Exit.then K (fun _ _ _ => False)) { tmps := (r.params.zip args).foldl (fun t (p, v) => t.setIfInBounds p v) r.tmps, defers := [] } W)
    (hbody : r.body.wpIn (F.inRound l) m P (StaysP l r R) a₁ (W.putObj l (.loop { r with state := .busy }))) :
    YieldAt F m P l args W (fun e W' => e = .returned (.bool true) ∧ R W') := by
  refine ⟨r.fn, _, r.assign, r.body, run_yield hl hs, roundIn_of_wpIn hF (hassign _ ⟨_, run_beginRound hl hst, wpIn_mono hbody ?_⟩)⟩
  intro e a W3 hp
  cases e with
  | normal =>
      obtain ⟨hl3, hR⟩ := hp
      refine ⟨_, _, run_endRound none hl3, rfl, ?_⟩
      have er : ({ ({ r with state := .busy } : Loop) with state := if (none : Option Code).isNone then .ready else .done, pending := none } : Loop) = r := by
        cases r; simp only at hst hpe; subst hst hpe; rfl
      rw [er]; exact hR
  | ret => exact hp.elim
  | exit id => exact hp.elim
  | goto t => exact hp.elim
  | panic c => exact hp
  | outgrown => exact hp
/-- The statement: the iterator's own walk, at the blocks that are laid for it; no jump pends. -/
theorem wpIn_rangeFunc_at {g : Operand} {ps : Array Tmp} {assign body : Code} {Q : Exit → Act → World → Prop} {a : Act} {w : World}
    (hro : F.round = none) (h1 : 1 ≤ n) {gf : Nat} {lb : Array Value} (hg : a.eval g = .func (.func gf) #[] lb) (hFg : F.fn gf) (eg : ∀ args w, (callFunc gf args).run P w = .ok (.enter gf args) w)
    (h : ∀ fn, F.fn fn → ∀ rec : Loop, rec = { state := .ready, pending := none, fn := fn, tmps := a.tmps, params := ps, assign := assign, body := body, defers := w.heap.size } → CallsIn F (n - 1) P gf (#[.func (.yield (w.heap.size + 1)) #[] #[]] ++ lb)
      ((w.alloc (.deferred (some []))).alloc (.loop rec))
      (fun e W2 => ∃ v r, e = .returned v ∧ W2.heap[w.heap.size + 1]? = some (.loop r) ∧ r.state ≠ .busy ∧ r.pending = none ∧
        Q .normal { a with defers := { target := .collected w.heap.size, args := #[] } :: a.defers } (W2.putObj (w.heap.size + 1) (.loop { r with state := .exhausted })))) :
    (Code.rangeFunc g ps assign body).wpIn F n P Q a w := by
  refine wpIn_rangeFunc fun fn hfn => ?_
  rw [hro]
  have h2 := h fn hfn _ rfl
  have hen := run_enterLoop_outer (P := P) (w := w) fn a.tmps ps assign body
  generalize (w.alloc (.deferred (some []))).alloc (.loop { state := .ready, pending := none, fn := fn, tmps := a.tmps, params := ps, assign := assign, body := body, defers := w.heap.size }) = W1 at h2 hen
  refine ⟨w.heap.size + 1, [{ target := .collected w.heap.size, args := #[] }], W1, { target := .fn (.func gf) lb, args := #[.func (.yield (w.heap.size + 1)) #[] #[]] }, W1, gf,
    #[.func (.yield (w.heap.size + 1)) #[] #[]] ++ lb, W1, hen, ?_, ?_, ?_, fun _ => h1, ?_⟩
  · simp only [resolve, hg]
    simp [go_sem]
  · intro f' hf'; simp [Target.leads] at hf'; subst hf'; exact hFg
  · simp only [invoke, go_sem, eg]
  · refine CallsIn.mono h2 ?_
    rintro e W2 ⟨v, r, rfl, hl, hb, hp, hQ⟩
    have he := run_endLoop (P := P) hl hb
    rw [hp] at he hQ
    exact ⟨none, _, he, hQ⟩
/-- A loop inside a fence, with a number that every round lowers. -/
theorem wpIn_loop_n {Q : Exit → Act → World → Prop} {a : Act} {w : World} {c : Code} (I : Nat → Act → World → Prop) (k₀ : Nat) (h₀ : I k₀ a w)
    (round : ∀ k a w, I k a w → c.wpIn F n P (Exit.then (fun a' w' => ∃ k', k' < k ∧ I k' a' w') Q) a w) : (Code.loop c).wpIn F n P Q a w := by
  refine wpIn_loop (fun a w => ∃ k, I k a w) (fun a w => leastOf fun k => I k a w) ⟨k₀, h₀⟩ fun a w hI => wpIn_mono (round _ a w (leastOf_spec hI).1) fun e a' w' hq => ?_
  cases e with
  | normal =>
    obtain ⟨k', hlt, hI'⟩ := hq
    exact ⟨⟨k', hI'⟩, Nat.lt_of_le_of_lt ((leastOf_spec ⟨k', hI'⟩).2 k' hI') hlt⟩
  | exit id => exact hq
  | goto l => exact hq
  | ret => exact hq
  | panic ch => exact hq
  | outgrown => exact hq
theorem grown_of_below {W W' : World} (h : Below W.heap.size W W') : W.grownBy W' none := ⟨h.os, h.tape, h.output, h.size, fun k hk _ => h.block k hk⟩
end Go.Proofs.Ytkdmjnmilmmnjaa.Rf
