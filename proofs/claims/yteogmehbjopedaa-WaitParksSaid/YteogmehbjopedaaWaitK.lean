/- An append to a slice cut to its length: a new row. -/
import Derived.Test.YteogmehbjopedaaWaitI
import Derived.Deep.AppendSrc
namespace Go.Proofs.Yteogmehbjopedaa
open Go.RowKit Go.Shelf Go.Maps
attribute [local go_sem] Oper.semAt_some
/-- A slice that came in, cut to its length: an append lays a new row. -/
theorem appendClipped {A : World} {ok : Nat → Prop} {av : Option Addr} {cv : Nat} {xs : List W} (h : WSl A ok (.slice av xs.length cv) xs) (hn : xs.length ≤ 1000000) {x : W} {sa : Option Addr} {sc : Nat} (hin : In x.1) (hsl : ISl A (fun _ => True) (.slice sa x.2.length sc) x.2) :
    ∃ v' w3, (Builtin.append_ #[22, 22] 22 #[.slice av xs.length xs.length, .slice (some ⟨A.heap.size, 0, none⟩) 1 1]).run Try.prog (A.alloc (.cells #[.int .i64 x.1, .slice sa x.2.length sc] 40)) = .ok v' w3 ∧
      WSl w3 (fun _ => True) v' (xs ++ [x]) ∧ Below A.heap.size A w3 := by
  have hb := (Below.refl A.heap.size A).alloc (Nat.le_refl _) (.cells #[.int .i64 x.1, .slice sa x.2.length sc] 40)
  obtain ⟨i, hi, hz, hs, hby⟩ := info_parts info_waiter
  have key : ∃ rows, Rows WaiterE A (fun _ => True) xs rows ∧ (Builtin.firstCells i.size xs.length (.slice av xs.length xs.length)).run Try.prog (A.alloc (.cells #[.int .i64 x.1, .slice sa x.2.length sc] 40)).drew = .ok rows.flatten.toArray (A.alloc (.cells #[.int .i64 x.1, .slice sa x.2.length sc] 40)).drew := by
    by_cases hp : 0 < xs.length
    · obtain ⟨b, off, cap, rows, hv, _, hr, hu⟩ := h.rows waiterGood hp
      cases hv
      refine ⟨rows, hr.weak waiterGood (fun _ _ _ => trivial), ?_⟩
      refine run_firstCells_some _ i.size xs.length ⟨b, off, none⟩ xs.length xs.length _ (by rw [flatten_len (hr.len waiterGood), hr.1, hs]) (fun j u hj => ?_)
      have hc := hu j u hj
      rw [addr_add, World.cell?_drew, hb.cell (World.block_lt_of_cell? A _ hc)]; exact hc
    · have hx : xs = [] := List.length_eq_zero_iff.1 (by omega)
      subst hx
      refine ⟨[], Rows.nil _ _ _, ?_⟩
      cases av with
      | none => simpa using run_firstCells_none _ i.size 0 0 0
      | some a => exact run_firstCells_some _ i.size 0 a 0 0 [] (by simp) (fun j u hj => by simp at hj)
  obtain ⟨rows, hr, hold⟩ := key
  have hsrc : Src Try.prog i.size 22 (.slice (some ⟨A.heap.size, 0, none⟩) 1 1) 1 [.int .i64 x.1, .slice sa x.2.length sc] (A.alloc (.cells #[.int .i64 x.1, .slice sa x.2.length sc] 40)) :=
    Src.ofSlice _ Try.underlying22 _ 1 1 _ (by rw [hs]; rfl) (fun j u hj => cell_two_new A _ _ _ j u hj) (by simp [Value.oneCell'])
  have hrun := run_append_grow_src (P := Try.prog) _ 22 22 22 40 i _ Try.underlying22 hi hz av xs.length xs.length rows.flatten hold _ 1 _ hsrc (by omega) (by omega) (growslice_fits (by omega) (by rw [hby]; omega))
  have hge := grownCap_ge (A.alloc (.cells #[.int .i64 x.1, .slice sa x.2.length sc] 40)) (xs.length + 1) xs.length 40
  have hcm := grownCap_le_maxLen (A.alloc (.cells #[.int .i64 x.1, .slice sa x.2.length sc] 40)) (xs.length + 1) xs.length 40 (by simp [maxLen]; omega)
  generalize grownCap (A.alloc (.cells #[.int .i64 x.1, .slice sa x.2.length sc] 40)) (xs.length + 1) xs.length 40 = G at hrun hge hcm
  have hfl : rows.flatten.length = xs.length * 2 := by rw [flatten_len (hr.len waiterGood), hr.1]
  have hsz : (((rows.flatten ++ [Value.int .i64 x.1, .slice sa x.2.length sc]).toArray ++ Builtin.zeroCells (Value.agg #[.int .i64 0, .slice none 0 0]).cells (G - (xs.length + 1)))).size = G * 2 := by
    rw [Array.size_append, size_zeroCells]; simp [hfl, Value.cells]; omega
  have htk : ((rows.flatten ++ [Value.int .i64 x.1, .slice sa x.2.length sc]).toArray ++ Builtin.zeroCells (Value.agg #[.int .i64 0, .slice none 0 0]).cells (G - (xs.length + 1))).toList.take ((xs.length + 1) * 2) = rows.flatten ++ [Value.int .i64 x.1, .slice sa x.2.length sc] := by
    have hl : (rows.flatten ++ [Value.int .i64 x.1, .slice sa x.2.length sc]).length = (xs.length + 1) * 2 := by simp [hfl]; omega
    rw [Array.toList_append, ← hl]
    exact List.take_left
  generalize ((rows.flatten ++ [Value.int .i64 x.1, .slice sa x.2.length sc]).toArray ++ Builtin.zeroCells (Value.agg #[.int .i64 0, .slice none 0 0]).cells (G - (xs.length + 1))) = C at hrun hsz htk
  have hbel := (hb.drew).alloc (by simp) (.cells C 40)
  refine ⟨_, _, hrun, ?_, hbel⟩
  have hrows : Rows WaiterE A (fun b => b < A.heap.size) (xs ++ [x]) (rows ++ [[.int .i64 x.1, .slice sa x.2.length sc]]) :=
    (hr.append (Rows.one ⟨_, rfl, hin, hsl⟩)).weak waiterGood (fun b hb' _ => hb')
  have hsize : (A.alloc (.cells #[.int .i64 x.1, .slice sa x.2.length sc] 40)).heap.size = A.heap.size + 1 := by simp
  have hnew := World.alloc_heap_new (A.alloc (.cells #[.int .i64 x.1, .slice sa x.2.length sc] 40)).drew (.cells C 40)
  rw [show (A.alloc (.cells #[.int .i64 x.1, .slice sa x.2.length sc] 40)).drew.heap.size = A.heap.size + 1 from hsize] at hnew
  rw [hsize]
  have hO : OSl WaiterE 2 40 (A.heap.size + 1) ((A.alloc (.cells #[.int .i64 x.1, .slice sa x.2.length sc] 40)).drew.alloc (.cells C 40)) (fun b => b < A.heap.size) (.slice (some ⟨A.heap.size + 1, 0, none⟩) (xs.length + 1) G) (xs ++ [x]) := by
    refine ⟨rows ++ [[.int .i64 x.1, .slice sa x.2.length sc]], (hrows.keep waiterGood (Same.of_below hbel)).weak waiterGood (fun b _ hb' => ⟨hb', fun e => by cases e; exact Nat.not_succ_le_self A.heap.size (Nat.le_of_succ_le hb')⟩), ?_⟩
    refine ⟨by simp [hfl]; omega, .inr ⟨A.heap.size + 1, G, C, by rw [List.length_append]; rfl, Nat.le_refl _, hnew, by rw [List.length_append]; exact hge, hcm, hsz, ?_⟩⟩
    simpa using htk
  exact hO.rsl waiterGood (fun _ => True) (fun _ _ _ => trivial) (fun _ _ _ => trivial)
end Go.Proofs.Yteogmehbjopedaa
