/- append([]byte(p), s...): the new bytes stand behind p's, in the row that '[]byte(p)' laid or in a new one. -/
import Derived.Lib.AppendStr
import Derived.Laws.IdiomStrings
import Derived.Laws.IdiomCopy
import Derived.Below
set_option linter.unusedVariables false
namespace Go.Proofs.Ytkdmjnmilmmnjaa.Ap
open Go.RowKit Go.Lib
variable {P : Program}
theorem below_setCells {B b : Nat} (hB : B ≤ b) {w0 : World} : ∀ (vs : List Value) (o : Nat) (w : World), Below B w0 w → Below B w0 (w.setCells b o vs)
  | [], _, _, h => h
  | v :: r, o, w, h => below_setCells hB r (o + 1) _ (h.setCell (p := ⟨b, o, none⟩) hB v)
theorem strCells_get (s : ByteArray) (j : Nat) (h : j < s.data.toList.length) : (strCells s)[j]? = some (.int .u8 (s.data.toList[j].toNat : Int)) := by
  simp only [strCells, List.getElem?_map, List.getElem?_eq_getElem h, Option.map_some]
theorem bytesRow_size (s : ByteArray) (cap : Nat) (h : s.size ≤ cap) : (bytesRow s cap).size = cap := by
  have e : s.data.size = s.size := rfl
  simp only [bytesRow, Array.size_append, Array.size_map, Array.size_replicate, e]
  omega
theorem app_toList (p s : ByteArray) : (p ++ s).data.toList = p.data.toList ++ s.data.toList := by simp
theorem run_append_bytes_string (W0 : World) (t u ty e : TypeId) (i : TypeInfo) (ht : P.underlying t = some (.slice e)) (hu : P.underlying u = some .string) (hi : P.info? e = some i) (hz : i.zero = some (.int .u8 0)) (hsize : i.size = 1) (hby : i.bytes = 1)
    (p s : ByteArray) (hlen : p.size + s.size ≤ 140737488355328) :
    ∃ (a' : Addr) (cap' : Nat) (w' : World), (Builtin.append_ #[t, u] ty #[.slice (some ⟨W0.heap.size, 0, none⟩) p.size (grownCap W0 p.size 0 e), .string s]).run P
        (W0.alloc (.cells (bytesRow p (grownCap W0 p.size 0 e)) e ((bytesRow p (grownCap W0 p.size 0 e)).size, (bytesRow p (grownCap W0 p.size 0 e)).size + 1))).drew = .ok (.slice (some a') (p.size + s.size) cap') w' ∧
      (∀ (j : Nat) (hj : j < (p ++ s).data.toList.length), w'.cell? (a'.add j) = some (.int .u8 ((p ++ s).data.toList[j].toNat : Int))) ∧ Below W0.heap.size W0 w' := by
  have hdr : ∀ o : Obj, (W0.alloc o).drew = W0.drew.alloc o := fun _ => rfl
  rw [hdr]
  have hge := grownCap_ge W0 p.size 0 e
  generalize grownCap W0 p.size 0 e = cap at hge ⊢
  have hbs := bytesRow_size p cap hge
  obtain ⟨C, hC⟩ : ∃ C, bytesRow p cap = C := ⟨_, rfl⟩
  obtain ⟨W1, hW1⟩ : ∃ W1, W0.drew.alloc (.cells C e (C.size, C.size + 1)) = W1 := ⟨_, rfl⟩
  have hsz0 : W0.drew.heap.size = W0.heap.size := rfl
  have hcell : ∀ j, W1.cell? ⟨W0.heap.size, j, none⟩ = C[j]? := fun j => by rw [← hW1]; exact World.cell?_alloc_mark W0.drew C e _ j
  have hfro : ∀ j, j < C.size → W1.frozen? ⟨W0.heap.size, j, none⟩ = false := fun j hj => by
    rw [← hW1]
    refine (World.frozen?_alloc_mark W0.drew C e _ _ j).trans ?_
    rw [decide_eq_false (by omega : ¬ C.size ≤ j), Bool.false_and]
  have hb1 : Below W0.heap.size W0 W1 := by rw [← hW1]; exact (Below.refl _ W0).drew.alloc (Nat.le_refl _) _
  have hps : p.data.toList.length = p.size := by rw [Array.length_toList]; rfl
  have hss : s.data.toList.length = s.size := by rw [Array.length_toList]; rfl
  have hCat : ∀ j (hj : j < p.data.toList.length), C[j]? = some (.int .u8 (p.data.toList[j].toNat : Int)) := fun j hj => by
    rw [← hC, bytesRow_at p cap j (by rw [Array.length_toList] at hj; exact hj)]
    simp
  rw [hC, hW1]
  by_cases hroom : p.size + s.size ≤ cap
  · have hst := run_storeCells_cells (P := P) W0.heap.size p.size (strCells s) 0 W1 (fun j hj => by
        rw [strCells_length] at hj
        rw [hcell, Array.getElem?_eq_getElem (by rw [← hC, hbs]; omega)]; rfl) (fun j hj => by
        rw [strCells_length] at hj
        exact hfro _ (by rw [← hC, hbs]; omega)) (strCells_oneCell s)
    have hf := run_firstCells_string (P := P) W1 1 s
    refine ⟨⟨W0.heap.size, 0, none⟩, cap, W1.setCells W0.heap.size p.size (strCells s), ?_, ?_, below_setCells (Nat.le_refl _) _ _ _ hb1⟩
    · simp [Builtin.append_, run_underlying ht, run_underlying hu, sizeOf, typeInfo, hi, hsize, Builtin.lenOf, hroom, hf, Addr.add_lit, hst]
    · intro j hj
      rw [Addr.add_lit, Nat.zero_add]
      simp only [app_toList, List.length_append] at hj ⊢
      by_cases hjp : j < p.data.toList.length
      · rw [List.getElem_append_left hjp, World.cell?_setCells_out _ _ _ _ _ (fun _ _ => Or.inl (by rw [← hps]; exact hjp)), hcell]
        exact hCat j hjp
      · have hin := World.cell?_setCells_in W0.heap.size (strCells s) p.size W1 (fun k hk => by
          rw [strCells_length] at hk
          rw [hcell, Array.getElem?_eq_getElem (by rw [← hC, hbs]; omega)]; rfl) (j - p.size) (by rw [strCells_length]; omega)
        rw [show p.size + (j - p.size) = j from by omega] at hin
        rw [hin, List.getElem_append_right (by omega)]
        have hg := strCells_get s (j - p.size) (by omega)
        rw [List.getElem?_eq_getElem (by rw [strCells_length]; omega)] at hg
        rw [hg]
        simp [hps]
  · have hr := run_append_grow_string (P := P) W1 t u ty e i (.int .u8 0) ht hu hi hz ⟨W0.heap.size, 0, none⟩ p.size cap (strCells p) (by rw [strCells_length, hsize, Nat.mul_one]) (fun j v hj => by
      have hj2 : j < p.data.toList.length := by
        have := (List.getElem?_eq_some_iff.1 hj).1
        rw [strCells_length] at this; omega
      rw [strCells_get p j hj2] at hj
      rw [Addr.add_lit, Nat.zero_add, hcell, hCat j hj2, hj]) s (by omega) (by omega) (by rw [hby]; have := nextslicecap_le (show cap < p.size + s.size by omega); omega)
    refine ⟨_, _, _, hr, ?_, ?_⟩
    · intro j hj
      rw [Addr.add_lit, Nat.zero_add]
      refine (World.cell?_alloc_mark W1.drew _ e (0, 0) j).trans ?_
      simp only [app_toList] at hj ⊢
      rw [Array.getElem?_append_left (by simp [strCells_length]; simp [hps, hss] at hj; omega)]
      have hg := strCells_get (p ++ s) j (by rw [app_toList]; exact hj)
      simp only [app_toList] at hg
      rw [← hg]
      simp [strCells]
    · have hs1 : W0.heap.size ≤ W1.drew.heap.size := hb1.size
      exact hb1.drew.alloc hs1 _
theorem wpList_append_run {ops : Array Oper} {rest : List Oper} {o : Oper} {a : Act} {Q : Exit → Act → World → Prop} {W w' : World} {v xs v' : Value} (hgd : o.guard = none) (sl x : Operand) (t u : TypeId)
    (ho : o.op = .call { callee := .builtin .append, args := #[sl, x], argTypes := #[t, u] }) (hs : a.eval sl = v) (hx : a.eval x = xs)
    (hr : (Builtin.append_ #[t, u] o.type #[v, xs]).run P W = .ok v' w') (h : wpList P ops Q rest (a.put o.dst v') w') : wpList P ops Q (o :: rest) a W := by
  refine wpList_plain hgd fun K hK => ?_
  unfold Oper.wp execOp
  simp only [ho, resolve, invoke, builtin, Sem.run_bind, Sem.run_pure, Result.andThen_ok, List.map_toArray, List.map_cons, List.map_nil, hs, hx, hr]
  exact hK _ _ h
end Go.Proofs.Ytkdmjnmilmmnjaa.Ap
