/- The reference of tlog: Few, Writes, Same: what each returns. -/
import Derived.Test.YtplckigmllkpoaaTlM
import Derived.Laws.StructEq
namespace Go.Proofs.Ytplckigmllkpoaa
open Go.RowKit Go.Shelf Go.Maps
attribute [local go_sem] Oper.semAt_some
theorem neqW (W : World) (a b c d : Int) : (binOp .neq 63 (.agg #[.int .i64 a, .int .i64 b]) (.agg #[.int .i64 c, .int .i64 d])).run Try.prog W = .ok (.bool (!(a == c && b == d))) W := by
  have u3 := Try.underlying3
  have hS : Try.prog.underlying 63 = some (.struct (Try.prog.fieldsOf 63)) := by kernel_rfl
  have hp : Try.prog.stoodInHeld 63 = false := by kernel_rfl
  rw [run_neq_struct, show (10000 : Nat) = 9999 + 1 from rfl, run_equalIn_agg W 9999 63 _ _ hS hp]
  simp only [Program.fieldsOf, Try.underlying63]
  go_simp
  by_cases h1 : a = c <;> by_cases h2 : b = d <;> simp [h1, h2]
theorem neqR (W : World) (a b c d : Int) : (binOp .neq 48 (.agg #[.int .i64 a, .int .i64 b]) (.agg #[.int .i64 c, .int .i64 d])).run Try.prog W = .ok (.bool (!(a == c && b == d))) W := by
  have u3 := Try.underlying3
  have hS : Try.prog.underlying 48 = some (.struct (Try.prog.fieldsOf 48)) := by kernel_rfl
  have hp : Try.prog.stoodInHeld 48 = false := by kernel_rfl
  rw [run_neq_struct, show (10000 : Nat) = 9999 + 1 from rfl, run_equalIn_agg W 9999 48 _ _ hS hp]
  simp only [Program.fieldsOf, Try.underlying48]
  go_simp
  by_cases h1 : a = c <;> by_cases h2 : b = d <;> simp [h1, h2]
def fewG (l : Lg) : Bool := decide (l.reads.length ≤ 100) && decide (l.levels.length ≤ 100) && l.levels.all (fun x => decide (x.length ≤ 100))
theorem fewG_ok {l : Lg} (h : fewG l = true) : Okl l 100 := by
  simp only [fewG, Bool.and_eq_true, decide_eq_true_eq, List.all_eq_true] at h
  exact ⟨h.1.1, h.1.2, h.2⟩
theorem Okl.mono {l : Lg} {m n : Nat} (h : Okl l m) (hm : m ≤ n) : Okl l n := ⟨by have := h.1; omega, by have := h.2.1; omega, fun x hx => by have := h.2.2 x hx; omega⟩
set_option maxRecDepth 100000 in
set_option maxHeartbeats 4000000 in
theorem few_any (w : World) (ok : Nat → Prop) (v : Value) (l : Lg) (h : GVal w ok v l) : Calls Try.prog 26 #[v] w (Bb (fewG l) w) := by
  obtain ⟨ra, rc, la, lc, rfl, hr, hl⟩ := h
  obtain ⟨_, _, e, l1, _⟩ := hr.shape
  cases e
  obtain ⟨_, _, e, l2, _⟩ := hl.shape
  cases e
  obtain ⟨W0, hW0⟩ : ∃ W0, w.alloc (Obj.cells #[.slice ra l.reads.length rc, .slice la l.levels.length lc] 28) = W0 := ⟨_, rfl⟩
  have hb0 : Below w.heap.size w W0 := by rw [← hW0]; exact (Below.refl _ _).alloc (Nat.le_refl _) _
  have h0 : W0.heap[w.heap.size]? = some (.cells #[.slice ra l.reads.length rc, .slice la l.levels.length lc] 28) := by rw [← hW0]; exact World.alloc_heap_new _ _
  have HH := hid (And.intro hr (And.intro hl (And.intro hb0 h0)))
  have HW := hid hW0
  clear hr hl hb0 h0 hW0
  go_enter Try.func26, Try.ntmps26
  go_upto_region 1 with (fail)
  rw [HW.out]
  clear HW
  have c0 : W0.cell? ⟨w.heap.size, 0, none⟩ = some (.slice ra l.reads.length rc) := cell_of HH.out.2.2.2
  have c1 : W0.cell? ⟨w.heap.size, 1, none⟩ = some (.slice la l.levels.length lc) := cell_of HH.out.2.2.2
  by_cases hz : l.reads.length ≤ 100
  · have f0 : decide ((l.reads.length : Int) > 100) = false := by simp; omega
    by_cases hy : l.levels.length ≤ 100
    · have f1 : decide ((l.levels.length : Int) > 100) = false := by simp; omega
      go_upto_region 4 with (fail)
      clear c0 c1
      go_loopw [3] (fun i wr => ∃ n : Nat, n ≤ l.levels.length ∧ i = .int .i64 n ∧ Hid (∀ (j : Nat) (y : List Pr), j < n → l.levels[j]? = some y → y.length ≤ 100) ∧ Below W0.heap.size W0 wr) (fun i _ => l.levels.length - (intOf i).toNat)
      case atStart => exact ⟨0, Nat.zero_le _, rfl, fun j y hj => absurd hj (by omega), Below.refl _ _⟩
      case round =>
        obtain ⟨n, hn, rfl, HL, hb⟩ := hrel
        have c1 : wr.cell? ⟨w.heap.size, 1, none⟩ = some (.slice la l.levels.length lc) := (hb.cell (lt_of_some HH.out.2.2.2)).trans (cell_of HH.out.2.2.2)
        have HB := hid (HH.out.2.2.1.trans (hb.mono HH.out.2.2.1.size))
        by_cases hln : n < l.levels.length
        · obtain ⟨b1, o1, cc1, lv, sa, sc, hv1, hlv, hs, e1⟩ := (HH.out.2.1.more HH.out.2.2.1).at hb hln
          cases hv1
          obtain ⟨_, _, e, l3, _⟩ := hs.shape
          cases e
          have HS := hid hlv
          clear hlv hs
          by_cases hx : lv.length ≤ 100
          · have f2 : decide ((lv.length : Int) > 100) = false := by simp; omega
            have HX := hid hx
            go_wp2
            go_roundw
            case rel =>
              refine ⟨n + 1, by omega, by go_num, fun j y hj hy => ?_, hb⟩
              by_cases e : j = n
              · subst e; rw [HS.out] at hy; cases hy; exact HX.out
              · exact HL.out j y (by omega) hy
            case measure => simp [intOf]; omega
          · have f2 : decide ((lv.length : Int) > 100) = true := by simp; omega
            have HX := hid hx
            go_wp2
            go_ret
            exact Bb.fin (by rw [fewG, show l.levels.all (fun x => decide (x.length ≤ 100)) = false by rw [List.all_eq_false]; exact ⟨lv, List.mem_of_getElem? HS.out, by simpa using HX.out⟩]; simp) HB.out
        · obtain rfl : n = l.levels.length := by omega
          go_wp2
          go_ret
          exact Bb.fin (by rw [fewG, show l.levels.all (fun x => decide (x.length ≤ 100)) = true by
            rw [List.all_eq_true]; intro y hy
            obtain ⟨j, hj⟩ := List.getElem?_of_mem hy
            have := HL.out j y (List.getElem?_eq_some_iff.1 hj).1 hj
            simpa using this, decide_eq_true hz, decide_eq_true hy]; rfl) HB.out
    · have f1 : decide ((l.levels.length : Int) > 100) = true := by simp; omega
      go_wp2
      go_ret
      exact Bb.fin (by rw [fewG, decide_eq_false hy]; simp) HH.out.2.2.1
  · have f0 : decide ((l.reads.length : Int) > 100) = true := by simp; omega
    go_wp2
    go_ret
    exact Bb.fin (by rw [fewG, decide_eq_false hz]; rfl) HH.out.2.2.1
theorem bne_pr (x y : Pr) : (!(x.1 == y.1 && x.2 == y.2)) = !(x == y) := by
  obtain ⟨a, b⟩ := x; obtain ⟨c, d⟩ := y; rfl
theorem beqP_false {α : Type} [BEq α] [LawfulBEq α] {xs ys : List α} {k : Nat} (h : xs[k]? ≠ ys[k]?) : (xs == ys) = false := by
  apply beq_eq_false_iff_ne.2
  intro e; rw [e] at h; exact h rfl
theorem beqP_true {α : Type} [BEq α] [LawfulBEq α] {xs ys : List α} (hl : xs.length = ys.length) (h : ∀ i, i < xs.length → xs[i]? = ys[i]?) : (xs == ys) = true := by
  rw [beq_iff_eq]
  apply List.ext_getElem?
  intro i
  by_cases hi : i < xs.length
  · exact h i hi
  · rw [List.getElem?_eq_none (by omega), List.getElem?_eq_none (by omega)]
end Go.Proofs.Ytplckigmllkpoaa
