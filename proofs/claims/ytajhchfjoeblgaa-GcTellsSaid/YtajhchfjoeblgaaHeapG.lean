/- The reference of heap: Node, Few: what each returns. -/
import Derived.Test.YtajhchfjoeblgaaHeapD
namespace Go.Proofs.Ytajhchfjoeblgaa
open Go.RowKit Go.Shelf
attribute [local go_sem] Oper.semAt_some
theorem bytes_inj {x y : ByteArray} : x.toList = y.toList ↔ x = y :=
  ⟨fun h => by rw [ByteArray.toList_eq, ByteArray.toList_eq] at h; exact ByteArray.ext (Array.toList_inj.1 h), fun h => by rw [h]⟩
theorem nd_eq (x y : Nd) : decide (x = y) = (x.kind == y.kind && x.num == y.num && (x.name.toList == y.name.toList) && (x.kids == y.kids)) := by
  rw [Bool.eq_iff_iff]
  cases x; cases y; simp [and_assoc, bytes_inj]
set_option maxHeartbeats 2000000 in
theorem node_any (w : World) (ok ok' : Nat → Prop) (v v' : Value) (x y : Nd) (h : NVal w ok v x) (h' : NVal w ok' v' y) :
    Calls Try.prog 22 #[v, v'] w (Bb (decide (x = y)) w) := by
  obtain ⟨sa, sc, rfl, _, _, hs⟩ := h
  obtain ⟨sb, sd, rfl, _, _, hs'⟩ := h'
  obtain ⟨_, _, e, l1, _⟩ := hs.shape
  cases e
  obtain ⟨_, _, e, l2, _⟩ := hs'.shape
  cases e
  obtain ⟨W0, hW0⟩ : ∃ W0, (w.alloc (Obj.cells #[.int .i64 x.kind, .int .i64 x.num, .string x.name, .slice sa x.kids.length sc] 37)).alloc (Obj.cells #[.int .i64 y.kind, .int .i64 y.num, .string y.name, .slice sb y.kids.length sd] 37) = W0 := ⟨_, rfl⟩
  have hb0 : Below w.heap.size w W0 := by rw [← hW0]; exact ((Below.refl _ _).alloc (Nat.le_refl _) _).alloc (by simp) _
  have h1 := heap_one w (Obj.cells #[.int .i64 x.kind, .int .i64 x.num, .string x.name, .slice sa x.kids.length sc] 37) (Obj.cells #[.int .i64 y.kind, .int .i64 y.num, .string y.name, .slice sb y.kids.length sd] 37)
  have h2 := heap_two w (Obj.cells #[.int .i64 x.kind, .int .i64 x.num, .string x.name, .slice sa x.kids.length sc] 37) (Obj.cells #[.int .i64 y.kind, .int .i64 y.num, .string y.name, .slice sb y.kids.length sd] 37)
  rw [hW0] at h1 h2
  have p0 : W0.cell? ⟨w.heap.size, 0, none⟩ = some (.int .i64 x.kind) := cell_of h1
  have p1 : W0.cell? ⟨w.heap.size, 1, none⟩ = some (.int .i64 x.num) := cell_of h1
  have p2 : W0.cell? ⟨w.heap.size, 2, none⟩ = some (.string x.name) := cell_of h1
  have p3 : W0.cell? ⟨w.heap.size, 3, none⟩ = some (.slice sa x.kids.length sc) := cell_of h1
  have q0 : W0.cell? ⟨w.heap.size + 1, 0, none⟩ = some (.int .i64 y.kind) := cell_of h2
  have q1 : W0.cell? ⟨w.heap.size + 1, 1, none⟩ = some (.int .i64 y.num) := cell_of h2
  have q2 : W0.cell? ⟨w.heap.size + 1, 2, none⟩ = some (.string y.name) := cell_of h2
  have q3 : W0.cell? ⟨w.heap.size + 1, 3, none⟩ = some (.slice sb y.kids.length sd) := cell_of h2
  have HC := hid (numbers_any W0 _ _ _ _ _ _ (hs.below intGood hb0) (hs'.below intGood hb0))
  have HW := hid hW0
  have HB := hid hb0
  clear hs hs' h1 h2 hW0 hb0
  have heq := nd_eq x y
  cases r1 : x.kind == y.kind
  · have HE : Hid (decide (x = y) = false) := by show _ = _; rw [heq, r1]; rfl
    clear heq
    go_enter Try.func22, Try.ntmps22
    go_upto_region 1 with (fail)
    rw [HW.out]
    go_wp2_with fail
    go_ret
    exact Bb.fin HE.out.symm HB.out
  cases r2 : x.num == y.num
  · have HE : Hid (decide (x = y) = false) := by show _ = _; rw [heq, r1, r2]; rfl
    clear heq
    go_enter Try.func22, Try.ntmps22
    go_upto_region 1 with (fail)
    rw [HW.out]
    go_wp2_with fail
    go_ret
    exact Bb.fin HE.out.symm HB.out
  cases r3 : x.name.toList == y.name.toList
  · have HE : Hid (decide (x = y) = false) := by show _ = _; rw [heq, r1, r2, r3]; rfl
    clear heq
    go_enter Try.func22, Try.ntmps22
    go_upto_region 1 with (fail)
    rw [HW.out]
    go_wp2_with fail
    go_ret
    exact Bb.fin HE.out.symm HB.out
  · have HE : Hid (decide (x = y) = (x.kids == y.kids)) := by show _ = _; rw [heq, r1, r2, r3]; rfl
    rw [HE.out]
    clear heq
    go_enter Try.func22, Try.ntmps22
    go_upto_region 1 with (fail)
    rw [HW.out]
    go_wp2_with fail
    refine HC.out.mono ?_
    rintro e w2 ⟨rfl, b2⟩
    have BB := hid (HB.out.trans (b2.mono HB.out.size))
    clear b2 HC HB
    go_wp2_with fail
    go_ret
    exact Bb.fin rfl BB.out
def fewH (h : Hp) : Bool := decide (h.nodes.length ≤ 300) && h.nodes.all fun x => decide (x.kids.length ≤ 100) && decide (x.name.size ≤ 100)
theorem few_fits {h : Hp} (hf : fewH h = true) : h.nodes.length ≤ 300 ∧ ∀ x ∈ h.nodes, x.kids.length ≤ 100 ∧ x.name.size ≤ 100 := by
  simp only [fewH, Bool.and_eq_true, decide_eq_true_eq, List.all_eq_true] at hf
  exact hf
set_option maxHeartbeats 2000000 in
theorem few_any (w : World) (ok : Nat → Prop) (v : Value) (h : Hp) (hh : HVal w ok v h) : Calls Try.prog 9 #[v] w (Bb (fewH h) w) := by
  obtain ⟨sa, sc, rfl, hi, hs⟩ := hh
  obtain ⟨ns, most⟩ := h
  simp only at hi hs ⊢
  obtain ⟨_, _, e, l1, _⟩ := hs.shape
  cases e
  obtain ⟨W0, hW0⟩ : ∃ W0, w.alloc (Obj.cells #[.slice sa ns.length sc, .int .i64 most] 24) = W0 := ⟨_, rfl⟩
  have hb0 : Below w.heap.size w W0 := by rw [← hW0]; exact (Below.refl _ _).alloc (Nat.le_refl _) _
  have h1 : W0.heap[w.heap.size]? = some (Obj.cells #[.slice sa ns.length sc, .int .i64 most] 24) := by rw [← hW0]; exact World.alloc_heap_new _ _
  have c0 : W0.cell? ⟨w.heap.size, 0, none⟩ = some (.slice sa ns.length sc) := cell_of h1
  have HW := hid hW0
  have HB := hid (And.intro hb0 h1)
  have hs0 := hs.below hb0
  clear hW0 hb0 h1 hs
  go_enter Try.func9, Try.ntmps9
  go_upto_region 1 with (fail)
  rw [HW.out]
  by_cases hl : ns.length ≤ 300
  · have hl' : decide ((ns.length : Int) > 300) = false := by simp; omega
    go_wp2_with fail
    go_loopw [3] (fun i wr => ∃ k : Nat, k ≤ ns.length ∧ i = .int .i64 k ∧ Hid (∀ j x, j < k → ns[j]? = some x → x.kids.length ≤ 100 ∧ x.name.size ≤ 100) ∧ wr = W0) (fun i _ => ns.length - (intOf i).toNat)
    case atStart => exact ⟨0, Nat.zero_le _, rfl, fun j x hj => absurd hj (by omega), rfl⟩
    case round =>
      obtain ⟨k, hk, rfl, HA, rfl⟩ := hrel
      by_cases hlt : k < ns.length
      · obtain ⟨b1, o1, c1', x, sx, cx, hv1, hx, _, _, hsx, d0, d1, d2, d3⟩ := hs0.at (Below.refl _ _) (k := k) hlt
        cases hv1
        obtain ⟨_, _, e, lx, _⟩ := hsx.shape
        cases e
        have HX := hid hx
        clear hx hsx hs0 d0 d1
        by_cases hq : x.kids.length ≤ 100
        · have hq' : decide ((x.kids.length : Int) > 100) = false := by simp; omega
          by_cases hr : x.name.size ≤ 100
          · have hr' : decide ((x.name.size : Int) > 100) = false := by simp; omega
            go_wp2_with fail
            go_roundw
            case rel =>
              refine ⟨k + 1, by omega, by go_num, fun j y hj hy => ?_, trivial⟩
              by_cases e : j = k
              · subst e; rw [HX.out] at hy; cases hy; exact ⟨hq, hr⟩
              · exact HA.out j y (by omega) hy
            case measure => simp [intOf]; omega
          · have hr' : decide ((x.name.size : Int) > 100) = true := by simp; omega
            go_wp2_with fail
            go_ret
            refine Bb.fin (Eq.symm ?_) HB.out.1
            cases hf : fewH ⟨ns, most⟩
            · rfl
            · exact absurd ((few_fits hf).2 x (List.mem_of_getElem? HX.out)).2 hr
        · have hq' : decide ((x.kids.length : Int) > 100) = true := by simp; omega
          go_wp2_with fail
          go_ret
          refine Bb.fin (Eq.symm ?_) HB.out.1
          cases hf : fewH ⟨ns, most⟩
          · rfl
          · exact absurd ((few_fits hf).2 x (List.mem_of_getElem? HX.out)).1 hq
      · obtain rfl : k = ns.length := by omega
        clear hs0
        go_wp2_with fail
        go_ret
        refine Bb.fin (Eq.symm ?_) HB.out.1
        simp only [fewH, hl, decide_true, Bool.true_and, List.all_eq_true, Bool.and_eq_true, decide_eq_true_eq]
        intro x hx
        obtain ⟨i, hi⟩ := List.getElem?_of_mem hx
        exact HA.out i x (List.getElem?_eq_some_iff.1 hi).1 hi
  · have hl' : decide ((ns.length : Int) > 300) = true := by simp; omega
    go_wp2_with fail
    go_ret
    exact Bb.fin (by simp [fewH, hl]) HB.out.1
end Go.Proofs.Ytajhchfjoeblgaa
