/- A slice that the call itself makes and appends to: it reads as a list of elements; what append makes of it. -/
import Derived.Test.YtajhchfjoeblgaaLib
import Derived.Maps.AppendAt
import Derived.OwnWalk
import Derived.Deep.RegionHeld3
namespace Go.Proofs.Ytajhchfjoeblgaa
open Go.RowKit

theorem flatten_get {rows : List (List Value)} {size : Nat} (hl : ∀ (i : Nat) (row : List Value), rows[i]? = some row → row.length = size) {i j : Nat} {row : List Value} {u : Value} (hi : rows[i]? = some row) (hj : row[j]? = some u) :
    rows.flatten[i * size + j]? = some u := by
  induction rows generalizing i with
  | nil => simp at hi
  | cons r rs ih =>
    have h0 := hl 0 r rfl
    cases i with
    | zero =>
      simp at hi; subst hi
      rw [List.flatten_cons, Nat.zero_mul, Nat.zero_add, List.getElem?_append_left (List.getElem?_eq_some_iff.1 hj).1]
      exact hj
    | succ i =>
      rw [List.flatten_cons, List.getElem?_append_right (by rw [h0, Nat.succ_mul]; omega), show (i + 1) * size + j - r.length = i * size + j by rw [h0, Nat.succ_mul]; omega]
      exact ih (fun k row hk => hl (k + 1) row (by simpa using hk)) (by simpa using hi)
theorem flatten_len {rows : List (List Value)} {size : Nat} (hl : ∀ (i : Nat) (row : List Value), rows[i]? = some row → row.length = size) : rows.flatten.length = rows.length * size := by
  induction rows with
  | nil => simp
  | cons r rs ih =>
    rw [List.flatten_cons, List.length_append, hl 0 r rfl, ih (fun k row hk => hl (k + 1) row (by simpa using hk)), List.length_cons, Nat.succ_mul]; omega

/-- The rows of a list's elements. -/
def Rows {α : Type} (R : Enc α) (w : World) (ok : Nat → Prop) (xs : List α) (rows : List (List Value)) : Prop :=
  rows.length = xs.length ∧ ∀ (i : Nat) (x : α) (row : List Value), xs[i]? = some x → rows[i]? = some row → R w ok x row
theorem Rows.nil {α : Type} (R : Enc α) (w : World) (ok : Nat → Prop) : Rows R w ok [] [] := ⟨rfl, fun i x row h => by simp at h⟩
theorem Rows.one {α : Type} {R : Enc α} {w : World} {ok : Nat → Prop} {x : α} {row : List Value} (h : R w ok x row) : Rows R w ok [x] [row] :=
  ⟨rfl, fun i y r hy hr => by cases i with
    | zero => simp at hy hr; subst hy; subst hr; exact h
    | succ i => simp at hy⟩
theorem Rows.append {α : Type} {R : Enc α} {w : World} {ok : Nat → Prop} {xs ys : List α} {r s : List (List Value)} (h : Rows R w ok xs r) (k : Rows R w ok ys s) : Rows R w ok (xs ++ ys) (r ++ s) := by
  refine ⟨by rw [List.length_append, List.length_append, h.1, k.1], fun i x row hx hr => ?_⟩
  by_cases hi : i < xs.length
  · rw [List.getElem?_append_left hi] at hx
    rw [List.getElem?_append_left (by rw [h.1]; exact hi)] at hr
    exact h.2 i x row hx hr
  · rw [List.getElem?_append_right (by omega)] at hx
    rw [List.getElem?_append_right (by rw [h.1]; omega), h.1] at hr
    exact k.2 _ x row hx hr
theorem Rows.len {α : Type} {R : Enc α} {size : Nat} (g : Good R size) {w : World} {ok : Nat → Prop} {xs : List α} {rows : List (List Value)} (h : Rows R w ok xs rows) : ∀ (i : Nat) (row : List Value), rows[i]? = some row → row.length = size := fun i row hr => by
  have hi : i < xs.length := by rw [← h.1]; exact (List.getElem?_eq_some_iff.1 hr).1
  exact g.len _ _ _ _ (h.2 i _ row (List.getElem?_eq_getElem hi) hr)
theorem Rows.keep {α : Type} {R : Enc α} {size : Nat} (g : Good R size) {w w' : World} {ok : Nat → Prop} {xs : List α} {rows : List (List Value)} (h : Rows R w ok xs rows) (hs : Same ok w w') : Rows R w' ok xs rows :=
  ⟨h.1, fun i x row hx hr => g.keep _ _ _ _ _ hs (h.2 i x row hx hr)⟩
theorem Rows.weak {α : Type} {R : Enc α} {size : Nat} (g : Good R size) {w : World} {ok ok' : Nat → Prop} {xs : List α} {rows : List (List Value)} (h : Rows R w ok xs rows) (hs : ∀ b, b < w.heap.size → ok b → ok' b) : Rows R w ok' xs rows :=
  ⟨h.1, fun i x row hx hr => g.weak _ _ _ _ _ hs (h.2 i x row hx hr)⟩
/-- A slice that came in, as rows. -/
theorem RSl.rows {α : Type} {R : Enc α} {size : Nat} {w : World} {ok : Nat → Prop} {v : Value} {xs : List α} (h : RSl R size w ok v xs) (g : Good R size) (hz : 0 < xs.length) :
    ∃ b off cap rows, v = .slice (some ⟨b, off, none⟩) xs.length cap ∧ ok b ∧ Rows R w ok xs rows ∧ ∀ j u, rows.flatten[j]? = some u → w.cell? ⟨b, off + j, none⟩ = some u := by
  obtain ⟨ao, cap, rfl, _, _, _, h4⟩ := h
  obtain ⟨b, off, rfl, hb, hc⟩ := h4 hz
  have : ∀ n, n ≤ xs.length → ∃ rows, Rows R w ok (xs.take n) rows ∧ ∀ j u, rows.flatten[j]? = some u → w.cell? ⟨b, off + j, none⟩ = some u := by
    intro n
    induction n with
    | zero => intro _; exact ⟨[], by simpa using Rows.nil R w ok, fun j u h => by simp at h⟩
    | succ n ih =>
      intro hn
      obtain ⟨rows, hr, hu⟩ := ih (by omega)
      obtain ⟨row, hR, hcell⟩ := hc n (by omega)
      refine ⟨rows ++ [row], ?_, fun j u hj => ?_⟩
      · rw [List.take_succ_eq_append_getElem (by omega)]
        exact hr.append (Rows.one hR)
      · have hfl := flatten_len (hr.len g)
        have hrl : rows.length = n := by rw [hr.1, List.length_take]; omega
        rw [List.flatten_append, List.flatten_cons, List.flatten_nil, List.append_nil] at hj
        by_cases hlt : j < rows.flatten.length
        · rw [List.getElem?_append_left hlt] at hj; exact hu j u hj
        · rw [List.getElem?_append_right (by omega)] at hj
          have := hcell _ u hj
          rw [hfl, hrl] at this
          rw [hfl, hrl] at hlt
          rw [show off + j = off + n * size + (j - n * size) by omega]; exact this
  obtain ⟨rows, hr, hu⟩ := this xs.length (Nat.le_refl _)
  rw [List.take_length] at hr
  exact ⟨b, off, cap, rows, rfl, hb, hr, hu⟩

/-- v is the call's own slice of type e's elements, from block 'base' on: it reads as xs; its elements lead nowhere into its own row. -/
def OSl {α : Type} (R : Enc α) (size : Nat) (e : TypeId) (base : Nat) (w : World) (ok : Nat → Prop) (v : Value) (xs : List α) : Prop :=
  ∃ rows, Rows R w (fun b => ok b ∧ some b ≠ v.ownBlock) xs rows ∧ w.ownsRow base e size v xs.length rows.flatten
theorem OSl.nil {α : Type} (R : Enc α) (size : Nat) (e : TypeId) (base : Nat) (w : World) (ok : Nat → Prop) : OSl R size e base w ok (.slice none 0 0) [] :=
  ⟨[], Rows.nil _ _ _, by simp, .inl ⟨rfl, rfl⟩⟩
theorem OSl.weak {α : Type} {R : Enc α} {size : Nat} (g : Good R size) {e : TypeId} {base : Nat} {w : World} {ok ok' : Nat → Prop} {v : Value} {xs : List α} (h : OSl R size e base w ok v xs) (hs : ∀ b, b < w.heap.size → ok b → ok' b) : OSl R size e base w ok' v xs := by
  obtain ⟨rows, hr, hown⟩ := h
  exact ⟨rows, hr.weak g (fun b hb h => ⟨hs b hb h.1, h.2⟩), hown⟩
theorem ownsRow_keep {w w' : World} {base : Nat} {e : TypeId} {size : Nat} {v : Value} {n : Nat} {xs : List Value} (h : w.ownsRow base e size v n xs)
    (hs : ∀ b, v.ownBlock = some b → w'.heap[b]? = w.heap[b]?) : w'.ownsRow base e size v n xs := by
  obtain ⟨h1, h2⟩ := h
  refine ⟨h1, ?_⟩
  rcases h2 with h2 | ⟨g, cap, cur, hv, hg, hh, r⟩
  · exact .inl h2
  · exact .inr ⟨g, cap, cur, hv, hg, by rw [hs g (by rw [hv]; rfl)]; exact hh, r⟩
theorem ownsRow_lt {w : World} {base : Nat} {e : TypeId} {size : Nat} {v : Value} {n : Nat} {xs : List Value} (h : w.ownsRow base e size v n xs) : ∀ b, v.ownBlock = some b → base ≤ b ∧ ∃ c, w.heap[b]? = some (.cells c e (0, 0)) := by
  intro b hb
  rcases h.2 with ⟨rfl, _⟩ | ⟨g, cap, cur, rfl, hg, hh, _⟩
  · cases hb
  · cases hb; exact ⟨hg, cur, hh⟩
theorem OSl.lt {α : Type} {R : Enc α} {size : Nat} {e : TypeId} {base : Nat} {w : World} {ok : Nat → Prop} {v : Value} {xs : List α} (h : OSl R size e base w ok v xs) : ∀ b, v.ownBlock = some b → base ≤ b ∧ ∃ c, w.heap[b]? = some (.cells c e (0, 0)) := by
  obtain ⟨rows, _, hown⟩ := h; exact ownsRow_lt hown
theorem OSl.keep {α : Type} {R : Enc α} {size : Nat} (g : Good R size) {e : TypeId} {base : Nat} {w w' : World} {ok : Nat → Prop} {v : Value} {xs : List α} (h : OSl R size e base w ok v xs)
    (hs : Same (fun b => ok b ∨ some b = v.ownBlock) w w') : OSl R size e base w' ok v xs := by
  obtain ⟨rows, hr, hown⟩ := h
  refine ⟨rows, hr.keep g (fun b c e fr hb => hs b c e fr (.inl hb.1)), ownsRow_keep hown fun b hb => ?_⟩
  obtain ⟨_, c, hc⟩ := ownsRow_lt hown b hb
  rw [hc, hs b _ _ _ (.inr hb.symm) hc]
theorem OSl.below {α : Type} {R : Enc α} {size : Nat} (g : Good R size) {e : TypeId} {base : Nat} {w w' : World} {ok : Nat → Prop} {v : Value} {xs : List α} (h : OSl R size e base w ok v xs) (hs : Below w.heap.size w w') : OSl R size e base w' ok v xs :=
  h.keep g (Same.of_below hs)
/-- Its elements may be read off it. -/
theorem OSl.rsl {α : Type} {R : Enc α} {size : Nat} (g : Good R size) {e : TypeId} {base : Nat} {w : World} {ok : Nat → Prop} {v : Value} {xs : List α} (h : OSl R size e base w ok v xs) (ok' : Nat → Prop) (h1 : ∀ b, b < w.heap.size → base ≤ b → ok' b) (h2 : ∀ b, b < w.heap.size → ok b → ok' b) : RSl R size w ok' v xs := by
  obtain ⟨rows, hr, hown⟩ := h
  rcases hown.2 with ⟨rfl, hn⟩ | ⟨g', cap, cur, rfl, hg, hh, hn, hm, hsz, htk⟩
  · have : xs = [] := List.length_eq_zero_iff.1 hn
    subst this; exact RSl.nil _ _ _ _
  · refine ⟨_, cap, rfl, hn, hm, (fun h => by cases h), fun hpos => ⟨g', 0, rfl, h1 g' (lt_of_some hh) hg, fun i hi => ?_⟩⟩
    have hri : i < rows.length := by rw [hr.1]; exact hi
    refine ⟨rows[i], g.weak _ _ _ _ _ (fun b hb h => h2 b hb h.1) (hr.2 i _ _ (List.getElem?_eq_getElem hi) (List.getElem?_eq_getElem hri)), fun j u hj => ?_⟩
    have hf := flatten_get (hr.len g) (List.getElem?_eq_getElem hri) hj
    rw [← htk] at hf
    have hlt := (List.getElem?_eq_some_iff.1 hf).1
    rw [List.length_take] at hlt
    rw [List.getElem?_take_of_lt (by omega)] at hf
    rw [Nat.zero_add]
    simp only [World.cell?, hh]
    simpa using hf
/-- APPEND. -/
theorem OSl.append {α : Type} {R : Enc α} {size : Nat} (g : Good R size) (hsz : 0 < size) {P : Program} {e : TypeId} {base : Nat} {w : World} {ok : Nat → Prop} {v : Value} {xs : List α} (h : OSl R size e base w ok v xs)
    (t ty : TypeId) (z : Value) (bytes : Nat) (ht : P.underlying t = some (.slice e)) (hinfo : (P.info? e).map (fun i => (i.zero, i.size, i.bytes)) = some (some z, size, bytes)) (hzs : z.cells.size = size)
    (ad : Addr) (c : Nat) (ys : List α) (rows' : List (List Value)) (hr' : Rows R w (fun b => ok b ∧ some b ≠ v.ownBlock) ys rows')
    (hnews : ∀ j u, rows'.flatten[j]? = some u → w.cell? (ad.add j) = some u) (h1 : ∀ u ∈ rows'.flatten, u.oneCell' = true)
    (h63 : xs.length + ys.length ≤ maxLen) (hbytes : (xs.length + ys.length) * bytes ≤ 140737488355328) (hbase : base ≤ w.heap.size) :
    ∃ v' w', (Builtin.append_ #[t, t] ty #[v, .slice (some ad) ys.length c]).run P w = .ok v' w' ∧ OSl R size e base w' ok v' (xs ++ ys) ∧ w.grownBy w' v.ownBlock ∧
      (v'.ownBlock = v.ownBlock ∨ v'.ownBlock = some w.heap.size) ∧ (v' = .slice none 0 0 ↔ v = .slice none 0 0 ∧ ys.length = 0) := by
  obtain ⟨rows, hr, hown⟩ := h
  obtain ⟨i, hi, hz, hs, hb⟩ := info_parts hinfo
  obtain ⟨v', w', hrun, hown', hg, hnil, hloc⟩ := run_append_own_at (P := P) w base t ty e i z size bytes ht hi hz hs hb hzs hsz v xs.length rows.flatten hown ad ys.length c rows'.flatten
    (by rw [flatten_len (hr'.len g), hr'.1]) hnews h1 h63 hbytes hbase
  refine ⟨v', w', hrun, ⟨rows ++ rows', ?_, ?_⟩, hg, hloc, hnil⟩
  · have hw : ∀ b, b < w.heap.size → (ok b ∧ some b ≠ v.ownBlock) → ((ok b ∧ some b ≠ v.ownBlock) ∧ some b ≠ v'.ownBlock) := fun b hb h => ⟨h, fun e => by
      rcases hloc with hl | hl
      · rw [hl] at e; exact h.2 e
      · rw [hl] at e; cases e; omega⟩
    have all := ((hr.append hr').weak g hw).keep g (w' := w') (Same.of_grown hg fun r he => .inl fun h => h.1.2 he.symm)
    exact all.weak g fun b _ h => ⟨h.1.1, h.2⟩
  · rw [List.flatten_append, List.length_append]; exact hown'

/-- The built-in append, at the operation, its run known. -/
theorem wpList_append_run {P : Program} {w : World} {ops : Array Oper} {rest : List Oper} {o : Oper} {a : Act} {Q : Exit → Act → World → Prop} (hgd : o.guard = none) (s x : Operand) (t : TypeId)
    (ho : o.op = .call { callee := .builtin .append, args := #[s, x], argTypes := #[t, t] }) (v xv : Value) (hs : a.eval s = v) (hx : a.eval x = xv) (v' : Value) (w' : World)
    (hr : (Builtin.append_ #[t, t] o.type #[v, xv]).run P w = .ok v' w') (h : wpList P ops Q rest (a.put o.dst v') w') : wpList P ops Q (o :: rest) a w := by
  refine wpList_plain hgd fun K hK => ?_
  unfold Oper.wp execOp
  simp only [ho, resolve, invoke, builtin, Sem.run_bind, Sem.run_pure, Result.andThen_ok, List.map_toArray, List.map_cons, List.map_nil, hs, hx, hr]
  exact hK _ _ h
theorem wpListIn_append_run {F : Fence} {n : Nat} {P : Program} {w : World} {ops : Array Oper} {rest : List Oper} {o : Oper} {a : Act} {Q : Exit → Act → World → Prop} (hgd : o.guard = none) (s x : Operand) (t : TypeId)
    (ho : o.op = .call { callee := .builtin .append, args := #[s, x], argTypes := #[t, t] }) (v xv : Value) (hs : a.eval s = v) (hx : a.eval x = xv) (v' : Value) (w' : World)
    (hr : (Builtin.append_ #[t, t] o.type #[v, xv]).run P w = .ok v' w') (h : wpListIn F n P ops Q rest (a.put o.dst v') w') : wpListIn F n P ops Q (o :: rest) a w := by
  refine wpListIn_plain hgd fun K hK => ?_
  unfold Oper.wpIn
  refine ⟨?_, ?_⟩
  · simp [Oper.about, ho, resolve, Target.leads, Sem.run_pure]
  · rw [Oper.semAt_plain F _ _ (by rw [ho]; intro c hc'; cases hc')]
    simp [execOp, ho, resolve, invoke, builtin, hs, hx, hr, Result.andThen]
    exact hK _ _ h
theorem eql_nil {P : Program} (w : World) (t e : TypeId) (a : Option Addr) (n c : Nat) (h : P.underlying t = some (.slice e)) :
    (binOp .eql t (.slice a n c) (.slice none 0 0)).run P w = .ok (.bool a.isNone) w := by
  simp only [binOp]
  simp [Op.equal, Op.maxDepth, Lib.run_equalIn_slice_nil w 9999 t e a n c 0 0 h]
theorem heap_one (w : World) (o1 o2 : Obj) : ((w.alloc o1).alloc o2).heap[w.heap.size]? = some o1 :=
  (Below.heap_alloc _ _ _ (by simp)).trans (World.alloc_heap_new w o1)
theorem heap_two (w : World) (o1 o2 : Obj) : ((w.alloc o1).alloc o2).heap[w.heap.size + 1]? = some o2 := by
  have := World.alloc_heap_new (w.alloc o1) o2; rwa [World.size_alloc] at this
theorem cell_of {w : World} {b i : Nat} {c : Array Value} {e : TypeId} {fr : Nat × Nat} (h : w.heap[b]? = some (.cells c e fr)) : w.cell? ⟨b, i, none⟩ = c[i]? := by
  simp only [World.cell?, h]; rfl
theorem free_of {w : World} {b i : Nat} {c : Array Value} {e : TypeId} (h : w.heap[b]? = some (.cells c e (0, 0))) : w.frozen? ⟨b, i, none⟩ = false := by
  simp only [World.frozen?, h]; simp
theorem Same.setCell {ok : Nat → Prop} {w w' : World} (h : Same ok w w') {a : Addr} (v : Value) (ha : ¬ ok a.block) : Same ok w (w'.setCell a v) := fun b c e fr hb hc => by
  rw [Below.heap_setCell _ _ _ _ (fun e => ha (e ▸ hb))]; exact h b c e fr hb hc
theorem Same.refl (ok : Nat → Prop) (w : World) : Same ok w w := fun _ _ _ _ _ h => h
theorem set_cell {w : World} {b i : Nat} {u u0 : Value} (h : w.cell? ⟨b, i, none⟩ = some u0) : (w.setCell ⟨b, i, none⟩ u).cell? ⟨b, i, none⟩ = some u :=
  World.cell?_setCell_same' _ _ _ (by rw [h]; rfl)
theorem set_other {w : World} {b i j : Nat} {u v : Value} (h : w.cell? ⟨b, i, none⟩ = some u) (hij : i ≠ j) : (w.setCell ⟨b, j, none⟩ v).cell? ⟨b, i, none⟩ = some u := by
  obtain ⟨c, e, fr, hb⟩ := cells_of h
  have h' := h
  simp only [World.cell?, hb] at h'
  simp only [World.setCell, World.cell?, Array.getElem?_modify, hb]
  simp at h' ⊢
  rw [Array.getElem?_setIfInBounds_ne (by omega)]; exact h'
theorem set_far {w : World} {a b : Addr} {v : Value} (h : b.block ≠ a.block) : (w.setCell b v).cell? a = w.cell? a := World.cell?_setCell_far _ _ _ _ h
end Go.Proofs.Ytajhchfjoeblgaa
