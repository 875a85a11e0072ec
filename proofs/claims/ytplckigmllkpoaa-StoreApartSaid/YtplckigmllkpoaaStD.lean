/- store.own; few, meets of the statements; the reference's Valid, Same: what each returns. -/
import Derived.Test.YtplckigmllkpoaaStC
import Derived.Test.YtplckigmllkpoaaCopy
namespace Go.Proofs.Ytplckigmllkpoaa
open Go.RowKit Go.Shelf Go.Maps
attribute [local go_sem] Oper.semAt_some
theorem infoC : (Try.prog.info? 52).map (fun i => (i.zero, i.size, i.bytes)) = some (some (.agg #[.int .i64 0, .int .i64 0]), 2, 16) := by kernel_rfl
theorem neqC (W : World) (a b c d : Int) : (binOp .neq 52 (.agg #[.int .i64 a, .int .i64 b]) (.agg #[.int .i64 c, .int .i64 d])).run Try.prog W = .ok (.bool (!(a == c && b == d))) W := by
  have u3 := Try.underlying3
  have hS : Try.prog.underlying 52 = some (.struct (Try.prog.fieldsOf 52)) := by kernel_rfl
  have hp : Try.prog.stoodInHeld 52 = false := by kernel_rfl
  rw [run_neq_struct, show (10000 : Nat) = 9999 + 1 from rfl, run_equalIn_agg W 9999 52 _ _ hS hp]
  simp only [Program.fieldsOf, Try.underlying52]
  go_simp
  by_cases h1 : a = c <;> by_cases h2 : b = d <;> simp [h1, h2]
theorem pr_cells (w : World) (ok : Nat → Prop) (x : Pr) (row : List Value) (h : PairE w ok x row) : ∀ u ∈ row, u.oneCell' = true := by
  obtain ⟨rfl, _⟩ := h
  intro u hu; simp at hu; rcases hu with rfl | rfl <;> rfl
/-- A slice at the head of a block of its own. -/
theorem OSl.of_block {α : Type} {R : Enc α} {size : Nat} {w : World} {ok : Nat → Prop} {base B : Nat} {e : TypeId} {rows : List (List Value)} {xs : List α} (g : Good R size) (hb : w.heap[B]? = some (.cells rows.flatten.toArray e (0, 0))) (hr : Rows R w (fun b => ok b ∧ some b ≠ some B) xs rows) (hB : base ≤ B) (hlen : xs.length ≤ maxLen) :
    OSl R size e base w ok (.slice (some ⟨B, 0, none⟩) xs.length xs.length) xs := by
  have hl : rows.flatten.length = xs.length * size := by rw [flatten_len (hr.len g), hr.1]
  exact ⟨rows, hr, hl, .inr ⟨B, xs.length, rows.flatten.toArray, rfl, hB, hb, Nat.le_refl _, hlen, by simpa using hl, by show rows.flatten.toArray.toList.take _ = _; rw [← hl]; exact List.take_length⟩⟩
set_option maxHeartbeats 2000000 in
theorem sown_any (w : World) (ok : Nat → Prop) (v : Value) (s : St) (hh : SVal w ok v s) (hlen : s.cells.length ≤ 1000000) :
    Calls Try.prog 32 #[v] w fun e w' => ∃ oa oc, e = .returned (.slice oa s.cells.length oc) ∧ OSl PairE 2 52 w.heap.size w' (fun _ => False) (.slice oa s.cells.length oc) s.cells ∧ Below w.heap.size w w' := by
  have hh0 := hh
  obtain ⟨sa, sc, rfl, hi, hs⟩ := hh
  obtain ⟨_, _, e, l1, _⟩ := hs.shape
  cases e
  obtain ⟨W0, hW0⟩ : ∃ W0, w.alloc (Obj.cells #[.slice sa s.cells.length sc, .int .i64 s.ver] 24) = W0 := ⟨_, rfl⟩
  have K : Hid (BSt w W0 w.heap.size sa sc s) := by have h := BSt.new (Below.refl _ w) hh0; rw [hW0] at h; exact h
  have HW := hid hW0
  clear hW0 hs hh0
  go_enter Try.func32, Try.ntmps32
  go_upto_region 1 with (fail)
  rw [HW.out]
  clear HW
  have c0 : W0.cell? ⟨w.heap.size, 0, none⟩ = some (.slice sa s.cells.length sc) := K.out.c0
  go_upto_region 2 with (at_make; refine wpList_make_run rfl _ _ 22 rfl 52 Try.underlying22 infoC s.cells.length rfl rfl (by omega) (by unfold maxLen; omega) ?_)
  clear c0
  have hlt0 := lt_of_some K.out.box
  obtain ⟨Z, hZ⟩ : ∃ Z, madeCells #[Value.int IntKind.i64 0, Value.int IntKind.i64 0] (s.cells.length * 2) = Z := ⟨_, rfl⟩
  have hZs : Z.size = s.cells.length * 2 := by rw [← hZ]; exact size_madeCells _ _
  obtain ⟨w2, hw2⟩ : ∃ w2, W0.alloc (Obj.cells Z 52) = w2 := ⟨_, rfl⟩
  have b2 : Below W0.heap.size W0 w2 := by rw [← hw2]; exact (Below.refl _ _).alloc (Nat.le_refl _) _
  have hB : w2.heap[W0.heap.size]? = some (Obj.cells Z 52) := by rw [← hw2]; exact World.alloc_heap_new _ _
  obtain ⟨B, hBe⟩ : ∃ B, B = W0.heap.size := ⟨_, rfl⟩
  rw [hZ, hw2, ← hBe]
  rw [← hBe] at hB
  replace K := hid (K.out.more b2)
  have hBw : w.heap.size < B := by rw [hBe]; exact hlt0
  obtain ⟨w3, rows, hcopy, hrows, hB3, b3⟩ := copy_made (P := Try.prog) pairGood K.out.cells pr_cells Try.underlying22 (by kernel_rfl) hB hZs 3 s.cells.length
  have c0 : w2.cell? ⟨w.heap.size, 0, none⟩ = some (.slice sa s.cells.length sc) := K.out.c0
  have HC := hid hcopy
  have HO := hid (OSl.of_block (base := w.heap.size) (ok := fun _ => False) pairGood hB3 ⟨hrows.1, fun i x row hx hr => hrows.2 i x row hx hr⟩ (by omega) (by unfold maxLen; omega))
  have HF := hid (K.out.bel.trans (b3.mono (by omega)))
  clear hcopy hrows hB3 b3 hB b2 hZ hZs hw2
  go_upto_region 3 with (refine wpList_copy_run rfl _ _ _ rfl _ _ rfl rfl _ _ HC.out ?_)
  go_wp2_with fail
  go_ret
  exact ⟨_, _, rfl, hBe ▸ HO.out, HF.out⟩
set_option maxHeartbeats 2000000 in
theorem sfew_any (w : World) (ok ok2 : Nat → Prop) (v v2 : Value) (s : St) (l : Lg) (hh : SVal w ok v s) (hg : GVal w ok2 v2 l) : Calls Try.prog 9 #[v, v2] w (Bb (decide (s.cells.length ≤ 300) && fewG l) w) := by
  have hh0 := hh
  obtain ⟨sa, sc, rfl, hi, hs⟩ := hh
  obtain ⟨_, _, e, l1, _⟩ := hs.shape
  cases e
  obtain ⟨W0, hW0⟩ : ∃ W0, w.alloc (Obj.cells #[.slice sa s.cells.length sc, .int .i64 s.ver] 24) = W0 := ⟨_, rfl⟩
  have K : Hid (BSt w W0 w.heap.size sa sc s) := by have h := BSt.new (Below.refl _ w) hh0; rw [hW0] at h; exact h
  clear hs hh0
  have hbl : Below w.heap.size w W0 := K.out.bel
  have hg1 := hg.more hbl
  obtain ⟨ra, rc, la, lc, rfl, hr, hl⟩ := hg
  obtain ⟨_, _, e, l2, _⟩ := hr.shape
  cases e
  obtain ⟨_, _, e, l3, _⟩ := hl.shape
  cases e
  obtain ⟨W1, hW1⟩ : ∃ W1, W0.alloc (Obj.cells #[.slice ra l.reads.length rc, .slice la l.levels.length lc] 28) = W1 := ⟨_, rfl⟩
  have hb1 : Below W0.heap.size W0 W1 := by rw [← hW1]; exact (Below.refl _ _).alloc (Nat.le_refl _) _
  have h1 : W1.heap[w.heap.size + 1]? = some (.cells #[.slice ra l.reads.length rc, .slice la l.levels.length lc] 28) := by rw [← hW1, ← hW0]; exact heap_two _ _ _
  have hW := hW1
  rw [← hW0] at hW
  have HW := hid hW
  have HL := hid (hg1.more hb1)
  have HR := hid ((hr.more hbl).more hb1)
  replace K := hid (K.out.more hb1)
  have H1 := hid h1
  clear hW0 hW1 hW hb1 h1 hg1 hr hl hbl
  obtain ⟨p, hp⟩ : ∃ p, p = fewG l := ⟨_, rfl⟩
  have HP := hid hp
  go_enter Try.func9, Try.ntmps9
  go_upto_region 1 with (fail)
  rw [HW.out]
  clear HW
  have c0 : W1.cell? ⟨w.heap.size, 0, none⟩ = some (.slice sa s.cells.length sc) := K.out.c0
  by_cases h3 : s.cells.length ≤ 300
  · have f1 : decide ((s.cells.length : Int) ≤ 300) = true := by simp; omega
    have d0 : W1.cell? ⟨w.heap.size + 1, 0, none⟩ = some (.slice ra l.reads.length rc) := cell_of H1.out
    have d1 : W1.cell? ⟨w.heap.size + 1, 1, none⟩ = some (.slice la l.levels.length lc) := cell_of H1.out
    have P := hid (few_any W1 _ _ l HL.out)
    rw [← hp] at P
    clear hp
    go_wp2_with fail
    refine P.out.mono ?_
    rintro e w1 ⟨rfl, b⟩
    clear P c0 d0 d1
    replace K := hid (K.out.more b)
    clear b
    go_wp2_with fail
    go_ret
    exact Bb.fin (by rw [← HP.out, decide_eq_true h3]; rfl) K.out.bel
  · have f1 : decide ((s.cells.length : Int) ≤ 300) = false := by simp; omega
    go_wp2_with fail
    go_ret
    exact Bb.fin (by rw [decide_eq_false h3]; rfl) K.out.bel
set_option maxHeartbeats 4000000 in
theorem meets_any (w : World) (ok ok2 : Nat → Prop) (v v2 : Value) (l : Lg) (ys : List Int) (hg : GVal w ok v l) (hy : ISl w ok2 v2 ys) : Calls Try.prog 27 #[v, v2] w (Bb (l.reads.any (fun x => ys.contains x.1)) w) := by
  obtain ⟨ra, rc, la, lc, rfl, hr, hl⟩ := hg
  obtain ⟨_, _, e, l2, _⟩ := hr.shape
  cases e
  obtain ⟨_, _, e, l3, _⟩ := hl.shape
  cases e
  obtain ⟨ya, yc, rfl, l4, _⟩ := hy.shape
  obtain ⟨W0, hW0⟩ : ∃ W0, w.alloc (Obj.cells #[.slice ra l.reads.length rc, .slice la l.levels.length lc] 28) = W0 := ⟨_, rfl⟩
  have hb0 : Below w.heap.size w W0 := by rw [← hW0]; exact (Below.refl _ _).alloc (Nat.le_refl _) _
  have h0 : W0.heap[w.heap.size]? = some (.cells #[.slice ra l.reads.length rc, .slice la l.levels.length lc] 28) := by rw [← hW0]; exact World.alloc_heap_new _ _
  have HH := hid (And.intro (hr.more hb0) (And.intro (RSl.below intGood hy hb0) (And.intro hb0 h0)))
  have HW := hid hW0
  clear hr hl hb0 h0 hW0 hy
  obtain ⟨R, hR⟩ : ∃ R, R = l.reads.any (fun x => ys.contains x.1) := ⟨_, rfl⟩
  rw [← hR]
  have HRR := hid hR
  clear hR
  go_enter Try.func27, Try.ntmps27
  go_upto_region 1 with (fail)
  rw [HW.out]
  clear HW
  go_wp2_with fail
  go_loopw [5] (fun i wr => ∃ k : Nat, k ≤ l.reads.length ∧ i = .int .i64 k ∧ Hid (∀ (j : Nat) (x : Pr), j < k → l.reads[j]? = some x → ys.contains x.1 = false) ∧ Below W0.heap.size W0 wr) (fun i _ => l.reads.length - (intOf i).toNat)
  case atStart => exact ⟨0, Nat.zero_le _, rfl, fun j y hj => absurd hj (by omega), Below.refl _ _⟩
  case round =>
    obtain ⟨k, hk, rfl, HA, hb⟩ := hrel
    have c0 : wr.cell? ⟨w.heap.size, 0, none⟩ = some (.slice ra l.reads.length rc) := cell_of ((hb.block _ (lt_of_some HH.out.2.2.2)).trans HH.out.2.2.2)
    by_cases hlt : k < l.reads.length
    · obtain ⟨x, hx⟩ : ∃ x, l.reads[k]? = some x := ⟨_, List.getElem?_eq_getElem hlt⟩
      have HX := hid hx
      clear hx
      go_upto_region 4 with (fail)
      go_wp2_with fail
      clear c0
      go_loopw [6] (fun i wr' => ∃ m : Nat, m ≤ ys.length ∧ i = .int .i64 m ∧ Hid (∀ (j : Nat) (y : Int), j < m → ys[j]? = some y → (x.1 == y) = false) ∧ Below W0.heap.size W0 wr') (fun i _ => ys.length - (intOf i).toNat)
      case atStart => exact ⟨0, Nat.zero_le _, rfl, fun j y hj => absurd hj (by omega), hb⟩
      case round =>
        obtain ⟨m, hm, rfl, HB, hb'⟩ := hrel
        clear hb
        have c0 : wr.cell? ⟨w.heap.size, 0, none⟩ = some (.slice ra l.reads.length rc) := cell_of ((hb'.block _ (lt_of_some HH.out.2.2.2)).trans HH.out.2.2.2)
        by_cases hlm : m < ys.length
        · obtain ⟨b1, o1, c1', hv1, _, _, e1, _⟩ := HH.out.1.pick hb' HX.out
          cases hv1
          obtain ⟨b2, o2, c2', y, hv2, hy, _, e2⟩ := ISl.at HH.out.2.1 hb' hlm
          cases hv2
          have HY := hid hy
          clear hy
          cases hq : x.1 == y
          · go_wp2_with fail
            go_quiet (fail)
            go_wp2_with fail
            go_roundw
            case rel =>
              refine ⟨m + 1, by omega, by go_num, fun j z hj hz => ?_, below_drewN hb' _⟩
              by_cases e : j = m
              · subst e; rw [HY.out] at hz; cases hz; exact hq
              · exact HB.out j z (by omega) hz
            case measure => simp [intOf]; omega
          · have HQ := hid hq
            go_wp2_with fail
            go_quiet (fail)
            go_wp2_with fail
            go_ret
            exact Bb.fin (by rw [HRR.out, any_true_of HX.out (by rw [List.contains_iff_mem, show x.1 = y by simpa using HQ.out]; exact List.mem_of_getElem? HY.out)]) (HH.out.2.2.1.trans ((below_drewN hb' _).mono HH.out.2.2.1.size))
        · obtain rfl : m = ys.length := by omega
          go_wp2_with fail
          go_roundw
          case rel =>
            refine ⟨k + 1, by omega, by go_num, fun j z hj hz => ?_, hb'⟩
            by_cases e : j = k
            · subst e; rw [HX.out] at hz; cases hz
              rw [← Bool.not_eq_true, List.contains_iff_mem]
              intro hm2
              obtain ⟨i, hi⟩ := List.getElem?_of_mem hm2
              have := HB.out i _ (List.getElem?_eq_some_iff.1 hi).1 hi
              simp at this
            · exact HA.out j z (by omega) hz
          case measure => simp [intOf]; omega
    · obtain rfl : k = l.reads.length := by omega
      go_wp2_with fail
      go_ret
      exact Bb.fin (by rw [HRR.out, any_false_of (fun i x hx => HA.out i x (List.getElem?_eq_some_iff.1 hx).1 hx)]) (HH.out.2.2.1.trans (hb.mono HH.out.2.2.1.size))
end Go.Proofs.Ytplckigmllkpoaa
