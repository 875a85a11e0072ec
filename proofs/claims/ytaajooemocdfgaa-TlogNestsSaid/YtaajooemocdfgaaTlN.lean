/- The reference of tlog: Few, Writes, Same: what each returns. -/
import Derived.Test.YtaajooemocdfgaaTlM
import Derived.Laws.StructEq
namespace Go.Proofs.Ytaajooemocdfgaa
open Go.RowKit Go.Shelf Go.Maps
attribute [local go_sem] Oper.semAt_some
theorem neqW (W : World) (a b c d : Int) : (binOp .neq 41 (.agg #[.int .i64 a, .int .i64 b]) (.agg #[.int .i64 c, .int .i64 d])).run Try.prog W = .ok (.bool (!(a == c && b == d))) W := by
  have u3 := Try.underlying3
  have hS : Try.prog.underlying 41 = some (.struct (Try.prog.fieldsOf 41)) := by kernel_rfl
  have hp : Try.prog.stoodInHeld 41 = false := by kernel_rfl
  rw [run_neq_struct, show (10000 : Nat) = 9999 + 1 from rfl, run_equalIn_agg W 9999 41 _ _ hS hp]
  simp only [Program.fieldsOf, Try.underlying41]
  go_simp
  by_cases h1 : a = c <;> by_cases h2 : b = d <;> simp [h1, h2]
theorem neqR (W : World) (a b c d : Int) : (binOp .neq 39 (.agg #[.int .i64 a, .int .i64 b]) (.agg #[.int .i64 c, .int .i64 d])).run Try.prog W = .ok (.bool (!(a == c && b == d))) W := by
  have u3 := Try.underlying3
  have hS : Try.prog.underlying 39 = some (.struct (Try.prog.fieldsOf 39)) := by kernel_rfl
  have hp : Try.prog.stoodInHeld 39 = false := by kernel_rfl
  rw [run_neq_struct, show (10000 : Nat) = 9999 + 1 from rfl, run_equalIn_agg W 9999 39 _ _ hS hp]
  simp only [Program.fieldsOf, Try.underlying39]
  go_simp
  by_cases h1 : a = c <;> by_cases h2 : b = d <;> simp [h1, h2]
def fewG (l : Lg) : Bool := decide (l.reads.length ≤ 100) && decide (l.levels.length ≤ 100) && l.levels.all (fun x => decide (x.length ≤ 100))
theorem fewG_ok {l : Lg} (h : fewG l = true) : Okl l 100 := by
  simp only [fewG, Bool.and_eq_true, decide_eq_true_eq, List.all_eq_true] at h
  exact ⟨h.1.1, h.1.2, h.2⟩
theorem Okl.mono {l : Lg} {m n : Nat} (h : Okl l m) (hm : m ≤ n) : Okl l n := ⟨by have := h.1; omega, by have := h.2.1; omega, fun x hx => by have := h.2.2 x hx; omega⟩
set_option maxRecDepth 100000 in
set_option maxHeartbeats 4000000 in
theorem few_any (w : World) (ok : Nat → Prop) (v : Value) (l : Lg) (h : GVal w ok v l) : Calls Try.prog 9 #[v] w (Bb (fewG l) w) := by
  obtain ⟨ra, rc, la, lc, rfl, hr, hl⟩ := h
  obtain ⟨_, _, e, l1, _⟩ := hr.shape
  cases e
  obtain ⟨_, _, e, l2, _⟩ := hl.shape
  cases e
  obtain ⟨W0, hW0⟩ : ∃ W0, w.alloc (Obj.cells #[.slice ra l.reads.length rc, .slice la l.levels.length lc] 25) = W0 := ⟨_, rfl⟩
  have hb0 : Below w.heap.size w W0 := by rw [← hW0]; exact (Below.refl _ _).alloc (Nat.le_refl _) _
  have h0 : W0.heap[w.heap.size]? = some (.cells #[.slice ra l.reads.length rc, .slice la l.levels.length lc] 25) := by rw [← hW0]; exact World.alloc_heap_new _ _
  have HH := hid (And.intro hr (And.intro hl (And.intro hb0 h0)))
  have HW := hid hW0
  clear hr hl hb0 h0 hW0
  go_enter Try.func9, Try.ntmps9
  go_upto_region 1 with (fail)
  rw [HW.out]
  clear HW
  have c0 : W0.cell? ⟨w.heap.size, 0, none⟩ = some (.slice ra l.reads.length rc) := cell_of HH.out.2.2.2
  have c1 : W0.cell? ⟨w.heap.size, 1, none⟩ = some (.slice la l.levels.length lc) := cell_of HH.out.2.2.2
  by_cases hz : l.reads.length ≤ 100
  · have f0 : decide ((l.reads.length : Int) > 100) = false := by simp; omega
    by_cases hy : l.levels.length ≤ 100
    · have f1 : decide ((l.levels.length : Int) > 100) = false := by simp; omega
      go_upto_region 4 with (fail)
      clear c0 c1
      go_loopw [3] (fun i wr => ∃ n : Nat, n ≤ l.levels.length ∧ i = .int .i64 n ∧ Hid (∀ (j : Nat) (y : List Pr), j < n → l.levels[j]? = some y → y.length ≤ 100) ∧ Below W0.heap.size W0 wr) (fun i _ => l.levels.length - (intOf i).toNat)
      case atStart => exact ⟨0, Nat.zero_le _, rfl, fun j y hj => absurd hj (by omega), Below.refl _ _⟩
      case round =>
        obtain ⟨n, hn, rfl, HL, hb⟩ := hrel
        have c1 : wr.cell? ⟨w.heap.size, 1, none⟩ = some (.slice la l.levels.length lc) := (hb.cell (lt_of_some HH.out.2.2.2)).trans (cell_of HH.out.2.2.2)
        have HB := hid (HH.out.2.2.1.trans (hb.mono HH.out.2.2.1.size))
        by_cases hln : n < l.levels.length
        · obtain ⟨b1, o1, cc1, lv, sa, sc, hv1, hlv, hs, e1⟩ := (HH.out.2.1.more HH.out.2.2.1).at hb hln
          cases hv1
          obtain ⟨_, _, e, l3, _⟩ := hs.shape
          cases e
          have HS := hid hlv
          clear hlv hs
          by_cases hx : lv.length ≤ 100
          · have f2 : decide ((lv.length : Int) > 100) = false := by simp; omega
            have HX := hid hx
            go_wp2
            go_roundw
            case rel =>
              refine ⟨n + 1, by omega, by go_num, fun j y hj hy => ?_, hb⟩
              by_cases e : j = n
              · subst e; rw [HS.out] at hy; cases hy; exact HX.out
              · exact HL.out j y (by omega) hy
            case measure => simp [intOf]; omega
          · have f2 : decide ((lv.length : Int) > 100) = true := by simp; omega
            have HX := hid hx
            go_wp2
            go_ret
            exact Bb.fin (by rw [fewG, show l.levels.all (fun x => decide (x.length ≤ 100)) = false by rw [List.all_eq_false]; exact ⟨lv, List.mem_of_getElem? HS.out, by simpa using HX.out⟩]; simp) HB.out
        · obtain rfl : n = l.levels.length := by omega
          go_wp2
          go_ret
          exact Bb.fin (by rw [fewG, show l.levels.all (fun x => decide (x.length ≤ 100)) = true by
            rw [List.all_eq_true]; intro y hy
            obtain ⟨j, hj⟩ := List.getElem?_of_mem hy
            have := HL.out j y (List.getElem?_eq_some_iff.1 hj).1 hj
            simpa using this, decide_eq_true hz, decide_eq_true hy]; rfl) HB.out
    · have f1 : decide ((l.levels.length : Int) > 100) = true := by simp; omega
      go_wp2
      go_ret
      exact Bb.fin (by rw [fewG, decide_eq_false hy]; simp) HH.out.2.2.1
  · have f0 : decide ((l.reads.length : Int) > 100) = true := by simp; omega
    go_wp2
    go_ret
    exact Bb.fin (by rw [fewG, decide_eq_false hz]; rfl) HH.out.2.2.1
theorem bne_pr (x y : Pr) : (!(x.1 == y.1 && x.2 == y.2)) = !(x == y) := by
  obtain ⟨a, b⟩ := x; obtain ⟨c, d⟩ := y; rfl
theorem beqP_false {α : Type} [BEq α] [LawfulBEq α] {xs ys : List α} {k : Nat} (h : xs[k]? ≠ ys[k]?) : (xs == ys) = false := by
  apply beq_eq_false_iff_ne.2
  intro e; rw [e] at h; exact h rfl
theorem beqP_true {α : Type} [BEq α] [LawfulBEq α] {xs ys : List α} (hl : xs.length = ys.length) (h : ∀ i, i < xs.length → xs[i]? = ys[i]?) : (xs == ys) = true := by
  rw [beq_iff_eq]
  apply List.ext_getElem?
  intro i
  by_cases hi : i < xs.length
  · exact h i hi
  · rw [List.getElem?_eq_none (by omega), List.getElem?_eq_none (by omega)]
set_option maxHeartbeats 1000000 in
theorem writes_any (w : World) (ok ok' : Nat → Prop) (v1 v2 : Value) (xs ys : List Pr) (h1 : PSl w ok v1 xs) (h2 : PSl w ok' v2 ys) :
    Calls Try.prog 29 #[v1, v2] w (Bb (xs == ys) w) := by
  obtain ⟨a1, c1, rfl, l1, _⟩ := h1.shape
  obtain ⟨a2, c2, rfl, l2, _⟩ := h2.shape
  by_cases hl : xs.length = ys.length
  · have hle : ((xs.length : Int) != ys.length) = false := by simp [hl]
    have HE : xs.length = ys.length → ∀ n, n = xs.length → (∀ i, i < n → xs[i]? = ys[i]?) → (xs == ys) = true := fun h n hn hh => beqP_true h (fun i hi => hh i (by omega))
    have HL := hid (HE hl)
    clear HE
    have HXL := hid hl
    rw [hl]
    clear hl
    go_enter Try.func29, Try.ntmps29
    go_wp2
    go_loopw [5] (fun i wr => ∃ k : Nat, k ≤ ys.length ∧ i = .int .i64 k ∧ Hid (∀ j, j < k → xs[j]? = ys[j]?) ∧ Below w.heap.size w wr) (fun i _ => ys.length - (intOf i).toNat)
    case atStart => exact ⟨0, Nat.zero_le _, rfl, fun j hj => absurd hj (by omega), Below.refl _ _⟩
    case round =>
      obtain ⟨k, hk, rfl, HA, hb⟩ := hrel
      by_cases hlt : k < ys.length
      · obtain ⟨b1, o1, c1', x, hv1, hx, _, _, e1, e1'⟩ := h1.at hb (k := k) (by have := HXL.out; omega)
        obtain ⟨b2, o2, c2', y, hv2, hy, _, _, e2, e2'⟩ := h2.at hb (k := k) hlt
        cases hv1; cases hv2
        have HF := hid (And.intro hx hy)
        have hne := fun W => neqW W x.1 x.2 y.1 y.2
        clear hx hy h1 h2
        cases hxy : !(x.1 == y.1 && x.2 == y.2)
        · rw [hxy] at hne
          have HX := hid hxy
          clear hxy
          go_wp2
          go_quiet (fail)
          go_wp2
          go_roundw
          case rel =>
            exact ⟨k + 1, by omega, by go_num, fun j hj => by
              by_cases h : j = k
              · subst h; rw [HF.out.1, HF.out.2]; have := HX.out; rw [bne_pr] at this; simp at this; rw [this]
              · exact HA.out j (by omega), below_drewN hb _⟩
          case measure => simp [intOf]; omega
        · rw [hxy] at hne
          have HX := hid hxy
          clear hxy
          go_wp2
          go_quiet (fail)
          go_wp2
          go_ret
          exact Bb.fin (beqP_false (k := k) (by rw [HF.out.1, HF.out.2]; have := HX.out; rw [bne_pr] at this; simp at this; simpa using this)).symm (below_drewN hb _)
      · obtain rfl : k = ys.length := by omega
        go_wp2
        go_ret
        exact Bb.fin (HL.out _ HXL.out.symm HA.out).symm hb
  · have hle : ((xs.length : Int) != ys.length) = true := by simp; omega
    go_enter Try.func29, Try.ntmps29
    go_wp2
    go_ret
    refine Bb.fin (Eq.symm (beq_eq_false_iff_ne.2 ?_)) (Below.refl _ _)
    intro e; rw [e] at hl; exact hl rfl
end Go.Proofs.Ytaajooemocdfgaa
