/- 'make' and 'copy' of a slice whose elements take several cells. -/
import Derived.Test.YtajhchfjoeblgaaCells
import Derived.Test.YtajhchfjoeblgaaInts
import Derived.Laws.CopyRow
import Derived.Laws.CopyOwn
import Derived.Laws.OwnMore
namespace Go.Proofs.Ytajhchfjoeblgaa
open Go.RowKit
/-- A slice at the head of a block whose cells are known. -/
theorem RSl.of_block {α : Type} {R : Enc α} {size : Nat} {w : World} {ok : Nat → Prop} {B : Nat} {e : TypeId} {fr : Nat × Nat} {rows : List (List Value)} {xs : List α} (g : Good R size) (hb : w.heap[B]? = some (.cells rows.flatten.toArray e fr)) (hr : Rows R w ok xs rows) (hok : ok B) (hlen : xs.length ≤ maxLen) :
    RSl R size w ok (.slice (some ⟨B, 0, none⟩) xs.length xs.length) xs := by
  refine ⟨_, _, rfl, Nat.le_refl _, hlen, (fun h => by cases h), fun _ => ⟨B, 0, rfl, hok, fun i hi => ?_⟩⟩
  have hri : i < rows.length := by rw [hr.1]; exact hi
  refine ⟨rows[i], hr.2 i _ _ (List.getElem?_eq_getElem hi) (List.getElem?_eq_getElem hri), fun j u hj => ?_⟩
  rw [cell_of hb]
  have := flatten_get (hr.len g) (List.getElem?_eq_getElem hri) hj
  simpa using this
/-- The copy of a whole slice into a block of its size. -/
theorem copy_made {α : Type} {R : Enc α} {size : Nat} (g : Good R size) {P : Program} {T e : TypeId} {w : World} {ok : Nat → Prop} {sv : Value} {xs : List α} (h : RSl R size w ok sv xs)
    (h1 : ∀ (w : World) (ok : Nat → Prop) (x : α) (row : List Value), R w ok x row → ∀ u ∈ row, u.oneCell' = true) (hu : P.underlying T = some (.slice e)) (hs : (P.info? e).map (·.size) = some size)
    {B : Nat} {cur : Array Value} {t : TypeId} (hB : w.heap[B]? = some (.cells cur t (0, 0))) (hc : cur.size = xs.length * size) (ty : TypeId) (cap : Nat) :
    ∃ w' rows, (Builtin.copy_ #[T, T] ty #[.slice (some ⟨B, 0, none⟩) xs.length cap, sv]).run P w = .ok (goInt xs.length) w' ∧ Rows R w ok xs rows ∧ w'.heap[B]? = some (.cells rows.flatten.toArray t (0, 0)) ∧ Below B w w' := by
  cases hq : P.info? e with
  | none => simp [hq] at hs
  | some i =>
    have hi : i.size = size := by simpa [hq] using hs
    have key : ∀ (a : Addr) (sCap : Nat) (rows : List (List Value)), sv = .slice (some a) xs.length sCap → Rows R w ok xs rows → (∀ j u, rows.flatten[j]? = some u → w.cell? (a.add j) = some u) →
        ∃ w' rows, (Builtin.copy_ #[T, T] ty #[.slice (some ⟨B, 0, none⟩) xs.length cap, sv]).run P w = .ok (goInt xs.length) w' ∧ Rows R w ok xs rows ∧ w'.heap[B]? = some (.cells rows.flatten.toArray t (0, 0)) ∧ Below B w w' := by
      rintro a sCap rows rfl hr hsrc
      have hfl : rows.flatten.length = xs.length * size := by rw [flatten_len (hr.len g), hr.1]
      have hone : ∀ u ∈ rows.flatten, u.oneCell' = true := by
        intro u hu
        obtain ⟨row, hr', hu⟩ := List.mem_flatten.1 hu
        obtain ⟨i, hi⟩ := List.getElem?_of_mem hr'
        have hlt : i < xs.length := by rw [← hr.1]; exact (List.getElem?_eq_some_iff.1 hi).1
        exact h1 _ _ _ _ (hr.2 i _ row (List.getElem?_eq_getElem hlt) hi) u hu
      have hl := run_loadCells_list (P := P) w a rows.flatten hsrc
      have hst := run_storeCells_at P B 0 t rows.flatten 0 cur w hB (by omega) hone
      rw [hfl] at hl
      refine ⟨w.setRow B rows.flatten.toArray, rows, ?_, hr, setRow_heap w B _ _ t _ hB, below_setRow (Below.refl _ _) (Nat.le_refl _) _⟩
      have e1 : List.take 0 cur.toList ++ rows.flatten ++ List.drop (xs.length * size) cur.toList = rows.flatten := by
        rw [List.take_zero, List.nil_append, List.drop_eq_nil_of_le (by simp; omega), List.append_nil]
      simp only [Nat.add_zero, Nat.zero_add, hfl, e1] at hst
      simp [Builtin.copy_, run_underlying hu, Builtin.lenOf, Builtin.firstCells, sizeOf, typeInfo, hq, hi, hl, hst]
    by_cases hp : 0 < xs.length
    · obtain ⟨b, off, c', rows, rfl, _, hr, hx⟩ := h.rows g hp
      exact key ⟨b, off, none⟩ c' rows rfl hr (fun j u hj => by rw [addr_add]; exact hx j u hj)
    · have hx : xs = [] := List.length_eq_zero_iff.1 (by omega)
      subst hx
      obtain ⟨ao, c', rfl, _, _, hnil, _⟩ := h
      cases ao with
      | some a => exact key a c' [] rfl (Rows.nil _ _ _) (fun j u hj => by simp at hj)
      | none =>
        have h0 : cur = #[] := Array.eq_empty_of_size_eq_zero (by simpa using hc)
        subst h0
        refine ⟨w, [], ?_, Rows.nil _ _ _, by simpa using hB, Below.refl _ _⟩
        simp [Builtin.copy_, run_underlying hu, Builtin.lenOf, Builtin.firstCells, sizeOf, typeInfo, hq, storeCells]
/-- The built-in copy, at the operation, its run known. -/
theorem wpList_copy_run {P : Program} {w : World} {ops : Array Oper} {rest : List Oper} {o : Oper} {a : Act} {Q : Exit → Act → World → Prop} (hgd : o.guard = none) (d s : Operand) (t : TypeId)
    (ho : o.op = .call { callee := .builtin .copy, args := #[d, s], argTypes := #[t, t] }) (v xv : Value) (hd : a.eval d = v) (hs : a.eval s = xv) (v' : Value) (w' : World)
    (hr : (Builtin.copy_ #[t, t] o.type #[v, xv]).run P w = .ok v' w') (h : wpList P ops Q rest (a.put o.dst v') w') : wpList P ops Q (o :: rest) a w := by
  refine wpList_plain hgd fun K hK => ?_
  unfold Oper.wp execOp
  simp only [ho, resolve, invoke, builtin, Sem.run_bind, Sem.run_pure, Result.andThen_ok, List.map_toArray, List.map_cons, List.map_nil, hd, hs, hr]
  exact hK _ _ h
/-- 'make([]T, n)': the world it leaves, written out. -/
theorem wpList_make_run {P : Program} {w : World} {ops : Array Oper} {rest : List Oper} {o : Oper} {a : Act} {Q : Exit → Act → World → Prop} (hg : o.guard = none) (l c : Operand) (t : TypeId) (hop : o.op = Op.makeSlice t l c)
    (e : TypeId) {z : Value} {size bytes : Nat} (h1 : P.underlying t = some (.slice e)) (h2 : (P.info? e).map (fun i => (i.zero, i.size, i.bytes)) = some (some z, size, bytes))
    (n : Nat) (hl : a.eval l = .int .i64 n) (hc : a.eval c = .int .i64 n) (b2 : bytes * n ≤ 281474976710656) (b3 : n ≤ maxLen)
    (hK : wpList P ops Q rest (a.put o.dst (.slice (some ⟨w.heap.size, 0, none⟩) n n)) (w.alloc (.cells (madeCells z.cells (n * size)) e))) :
    wpList P ops Q (o :: rest) a w := by
  refine wpList_plain hg fun K hK' => ?_
  obtain ⟨i, hi, hz, hs, hby⟩ := info_parts h2
  have hb : (i.bytes : Int) * n ≤ 281474976710656 := by
    have h : ((i.bytes * n : Nat) : Int) ≤ 281474976710656 := by rw [hby]; omega
    rwa [Int.natCast_mul] at h
  have hrun := run_make (P := P) w t e i z h1 hi hz .i64 .i64 n n (by omega) (Int.le_refl _) hb (by unfold maxLen at b3; omega)
  simp only [Int.toNat_natCast, hs] at hrun
  unfold Oper.wp
  simp [execOp, hop, hl, hc, hrun, Result.andThen]
  exact hK' _ _ hK
/-- Rows, one of them another one. -/
theorem Rows.set {α : Type} {R : Enc α} {w : World} {ok : Nat → Prop} {xs : List α} {rows : List (List Value)} (h : Rows R w ok xs rows) {k : Nat} {x : α} {row : List Value} (hr : R w ok x row) : Rows R w ok (xs.set k x) (rows.set k row) := by
  refine ⟨by rw [List.length_set, List.length_set, h.1], fun i y r hy hr' => ?_⟩
  by_cases e : k = i
  · subst e
    have h1 := (List.getElem?_eq_some_iff.1 hy).1
    have h2 := (List.getElem?_eq_some_iff.1 hr').1
    rw [List.length_set] at h1 h2
    rw [List.getElem?_set_self h1] at hy
    rw [List.getElem?_set_self h2] at hr'
    cases hy; cases hr'; exact hr
  · rw [List.getElem?_set_ne e] at hy hr'
    exact h.2 i y r hy hr'
theorem flatten_set {rows : List (List Value)} {size : Nat} (hl : ∀ (i : Nat) (row : List Value), rows[i]? = some row → row.length = size) {k : Nat} {row : List Value} (hk : k < rows.length) (hrow : row.length = size) :
    (rows.set k row).flatten = rows.flatten.take (k * size) ++ row ++ rows.flatten.drop (k * size + size) := by
  induction rows generalizing k with
  | nil => simp at hk
  | cons r rs ih =>
    have h0 := hl 0 r rfl
    cases k with
    | zero => simp [List.flatten_cons, List.drop_append, h0]
    | succ k =>
      rw [List.set_cons_succ, List.flatten_cons, List.flatten_cons, ih (fun i x hx => hl (i + 1) x (by simpa using hx)) (by simpa using hk)]
      have e1 : (k + 1) * size = r.length + k * size := by rw [h0, Nat.succ_mul]; omega
      rw [e1, List.take_append, List.drop_append]
      simp [Nat.add_assoc]
      rw [List.take_of_length_le (show r.length ≤ r.length + k * size by omega), List.drop_eq_nil_of_le (show r.length ≤ r.length + (k * size + size) by omega), List.nil_append]
theorem list_set4 (l : List Value) (o : Nat) (h : o + 4 ≤ l.length) (a b c d : Value) : (((l.set o a).set (o + 1) b).set (o + 2) c).set (o + 3) d = l.take o ++ [a, b, c, d] ++ l.drop (o + 4) := by
  induction o generalizing l with
  | zero => match l, h with
    | _ :: _ :: _ :: _ :: r, _ => simp
  | succ o ih => match l, h with
    | x :: l, h =>
      have := ih l (by simp at h; omega)
      simp only [List.set_cons_succ, show o + 1 + 1 = (o + 1) + 1 from rfl, show o + 1 + 2 = (o + 2) + 1 by omega, show o + 1 + 3 = (o + 3) + 1 by omega, show o + 1 + 4 = (o + 4) + 1 by omega, List.take_succ_cons, List.drop_succ_cons, List.cons_append, this]
theorem array_set4 (l : List Value) (o : Nat) (h : o + 4 ≤ l.length) (a b c d : Value) : (((l.toArray.setIfInBounds o a).setIfInBounds (o + 1) b).setIfInBounds (o + 2) c).setIfInBounds (o + 3) d = (l.take o ++ [a, b, c, d] ++ l.drop (o + 4)).toArray := by
  simp only [List.setIfInBounds_toArray, list_set4 l o h]
theorem list_set2 (l : List Value) (o : Nat) (h : o + 2 ≤ l.length) (a b : Value) : (l.set o a).set (o + 1) b = l.take o ++ [a, b] ++ l.drop (o + 2) := by
  induction o generalizing l with
  | zero => match l, h with
    | _ :: _ :: r, _ => simp
  | succ o ih => match l, h with
    | x :: l, h =>
      have := ih l (by simp at h; omega)
      simp only [List.set_cons_succ, show o + 1 + 1 = (o + 1) + 1 from rfl, show o + 1 + 2 = (o + 2) + 1 by omega, List.take_succ_cons, List.drop_succ_cons, List.cons_append, this]
theorem array_set2 (l : List Value) (o : Nat) (h : o + 2 ≤ l.length) (a b : Value) : (l.toArray.setIfInBounds o a).setIfInBounds (o + 1) b = (l.take o ++ [a, b] ++ l.drop (o + 2)).toArray := by
  simp only [List.setIfInBounds_toArray, list_set2 l o h]
end Go.Proofs.Ytajhchfjoeblgaa
