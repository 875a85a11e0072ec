/- An append to a slice cut to its length: a new row; whatever the elements. -/
import Derived.Test.YtlaebhgmkiiniaaCopy
import Derived.Deep.AppendSrc
namespace Go.Proofs.Ytlaebhgmkiiniaa
open Go.RowKit Go.Shelf Go.Maps
theorem cell_new (A : World) (row : List Value) (e : TypeId) : ∀ j u, row[j]? = some u → (A.alloc (.cells row.toArray e)).cell? ((⟨A.heap.size, 0, none⟩ : Addr).add j) = some u := fun j u hj => by
  rw [addr_add, Nat.zero_add, cell_of (World.alloc_heap_new _ _)]; simpa using hj
theorem append_clipped {α : Type} {R : Enc α} {size : Nat} (g : Good R size) (hsz : 0 < size) {P : Program} {T e : TypeId} {z : Value} {bytes : Nat} (ht : P.underlying T = some (.slice e)) (hinfo : (P.info? e).map (fun i => (i.zero, i.size, i.bytes)) = some (some z, size, bytes)) (hzs : z.cells.size = size) (hby : bytes ≤ 1000)
    {A : World} {ok : Nat → Prop} {av : Option Addr} {cv : Nat} {xs : List α} (h : RSl R size A ok (.slice av xs.length cv) xs) (hn : xs.length ≤ 1000000) {x : α} {row : List Value} (hx : R A ok x row) (hone : ∀ u ∈ row, u.oneCell' = true) :
    ∃ v' w3, (Builtin.append_ #[T, T] T #[.slice av xs.length xs.length, .slice (some ⟨A.heap.size, 0, none⟩) 1 1]).run P (A.alloc (.cells row.toArray e)) = .ok v' w3 ∧
      RSl R size w3 (fun b => ok b ∨ A.heap.size ≤ b) v' (xs ++ [x]) ∧ Below A.heap.size A w3 := by
  have hrl : row.length = size := g.len _ _ _ _ hx
  have hb := (Below.refl A.heap.size A).alloc (Nat.le_refl _) (.cells row.toArray e)
  obtain ⟨i, hi, hz, hs, hbb⟩ := info_parts hinfo
  have key : ∃ rows, Rows R A ok xs rows ∧ (Builtin.firstCells i.size xs.length (.slice av xs.length xs.length)).run P (A.alloc (.cells row.toArray e)).drew = .ok rows.flatten.toArray (A.alloc (.cells row.toArray e)).drew := by
    by_cases hp : 0 < xs.length
    · obtain ⟨b, off, cap, rows, hv, _, hr, hu⟩ := h.rows g hp
      cases hv
      refine ⟨rows, hr, ?_⟩
      refine run_firstCells_some _ i.size xs.length ⟨b, off, none⟩ xs.length xs.length _ (by rw [flatten_len (hr.len g), hr.1, hs]) (fun j u hj => ?_)
      have hc := hu j u hj
      rw [addr_add, World.cell?_drew, hb.cell (World.block_lt_of_cell? A _ hc)]; exact hc
    · have hx : xs = [] := List.length_eq_zero_iff.1 (by omega)
      subst hx
      refine ⟨[], Rows.nil _ _ _, ?_⟩
      cases av with
      | none => simpa using run_firstCells_none _ i.size 0 0 0
      | some a => exact run_firstCells_some _ i.size 0 a 0 0 [] (by simp) (fun j u hj => by simp at hj)
  obtain ⟨rows, hr, hold⟩ := key
  have hsrc : Src P i.size T (.slice (some ⟨A.heap.size, 0, none⟩) 1 1) 1 row (A.alloc (.cells row.toArray e)) :=
    Src.ofSlice _ ht _ 1 1 _ (by rw [hs, hrl, Nat.one_mul]) (fun j u hj => cell_new A row e j u hj) hone
  have hrun := run_append_grow_src (P := P) _ T T T e i _ ht hi hz av xs.length xs.length rows.flatten hold _ 1 _ hsrc (by omega) (by omega) (growslice_fits (by omega) (by rw [hbb]; have := Nat.mul_le_mul (show xs.length + 1 ≤ 1000001 by omega) hby; omega))
  have hge := grownCap_ge (A.alloc (.cells row.toArray e)) (xs.length + 1) xs.length e
  have hcm := grownCap_le_maxLen (A.alloc (.cells row.toArray e)) (xs.length + 1) xs.length e (by simp [maxLen]; omega)
  generalize grownCap (A.alloc (.cells row.toArray e)) (xs.length + 1) xs.length e = G at hrun hge hcm
  have hfl : rows.flatten.length = xs.length * size := by rw [flatten_len (hr.len g), hr.1]
  have hl : (rows.flatten ++ row).length = (xs.length + 1) * size := by rw [List.length_append, hfl, hrl, Nat.succ_mul]
  have hGs : (xs.length + 1) * size ≤ G * size := Nat.mul_le_mul_right _ hge
  have hsz2 : (((rows.flatten ++ row).toArray ++ Builtin.zeroCells z.cells (G - (xs.length + 1)))).size = G * size := by
    rw [Array.size_append, size_zeroCells, hzs]
    have : (G - (xs.length + 1)) * size = G * size - (xs.length + 1) * size := Nat.sub_mul _ _ _
    simp only [List.size_toArray, hl, this]; omega
  have htk : ((rows.flatten ++ row).toArray ++ Builtin.zeroCells z.cells (G - (xs.length + 1))).toList.take ((xs.length + 1) * size) = rows.flatten ++ row := by
    rw [Array.toList_append, ← hl]
    exact List.take_left
  generalize ((rows.flatten ++ row).toArray ++ Builtin.zeroCells z.cells (G - (xs.length + 1))) = C at hrun hsz2 htk
  have hbel := (hb.drew).alloc (by simp) (.cells C e)
  refine ⟨_, _, hrun, ?_, hbel⟩
  have hrows : Rows R A (fun b => ok b ∧ b < A.heap.size) (xs ++ [x]) (rows ++ [row]) :=
    (hr.append (Rows.one hx)).weak g (fun b hb' h => ⟨h, hb'⟩)
  have hsize : (A.alloc (.cells row.toArray e)).heap.size = A.heap.size + 1 := by simp
  have hnew := World.alloc_heap_new (A.alloc (.cells row.toArray e)).drew (.cells C e)
  rw [show (A.alloc (.cells row.toArray e)).drew.heap.size = A.heap.size + 1 from hsize] at hnew
  rw [hsize]
  have hO : OSl R size e (A.heap.size + 1) ((A.alloc (.cells row.toArray e)).drew.alloc (.cells C e)) (fun b => ok b ∧ b < A.heap.size) (.slice (some ⟨A.heap.size + 1, 0, none⟩) (xs.length + 1) G) (xs ++ [x]) := by
    refine ⟨rows ++ [row], (hrows.keep g (Same.of_below hbel)).weak g (fun b _ hb' => ⟨hb', fun e => by cases e; exact Nat.not_succ_le_self A.heap.size (Nat.le_of_succ_le hb'.2)⟩), ?_⟩
    refine ⟨by simp only [List.flatten_append, List.flatten_cons, List.flatten_nil, List.append_nil, List.length_append, List.length_cons, List.length_nil]; rw [← List.length_append, hl], .inr ⟨A.heap.size + 1, G, C, by rw [List.length_append]; rfl, Nat.le_refl _, hnew, by rw [List.length_append]; exact hge, hcm, hsz2, ?_⟩⟩
    simpa using htk
  exact hO.rsl g (fun b => ok b ∨ A.heap.size ≤ b) (fun b _ h => .inr (Nat.le_of_succ_le h)) (fun b _ h => .inl h.1)
end Go.Proofs.Ytlaebhgmkiiniaa
