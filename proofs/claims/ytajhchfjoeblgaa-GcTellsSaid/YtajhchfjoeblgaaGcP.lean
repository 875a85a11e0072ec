/- The reference of heap: At; of gc: place. -/
import Derived.Test.YtajhchfjoeblgaaKept
namespace Go.Proofs.Ytajhchfjoeblgaa
open Go.RowKit Go.Shelf
attribute [local go_sem] Oper.semAt_some
theorem zero_box {w W : World} {B : Nat} (h2 : W.heap[B]? = some (Obj.cells #[.int .i64 0, .int .i64 0, .string ⟨#[]⟩, .slice none 0 0] 37)) (hB : w.heap.size ≤ B) (hb : Below w.heap.size w W) (k n : Int) (s : ByteArray) (v : Value) :
    ((((W.setCell ⟨B, 0, none⟩ (.int .i64 k)).setCell ⟨B, 1, none⟩ (.int .i64 n)).setCell ⟨B, 2, none⟩ (.string s)).setCell ⟨B, 3, none⟩ v).heap[B]? = some (Obj.cells #[.int .i64 k, .int .i64 n, .string s, v] 37) ∧
    Below w.heap.size w ((((W.setCell ⟨B, 0, none⟩ (.int .i64 k)).setCell ⟨B, 1, none⟩ (.int .i64 n)).setCell ⟨B, 2, none⟩ (.string s)).setCell ⟨B, 3, none⟩ v) :=
  ⟨heap_set (i := 3) (heap_set (i := 2) (heap_set (i := 1) (heap_set (i := 0) h2))), (((hb.setCell (p := ⟨B, 0, none⟩) hB _).setCell (p := ⟨B, 1, none⟩) hB _).setCell (p := ⟨B, 2, none⟩) hB _).setCell (p := ⟨B, 3, none⟩) hB _⟩
set_option maxRecDepth 100000 in
set_option maxHeartbeats 8000000 in
theorem rat_any (w : World) (ok : Nat → Prop) (v : Value) (h : Hp) (p : Int) (hh : HVal w ok v h) (hp : In p) (hn : h.nodes.length ≤ 1000000) :
    Calls Try.prog 31 #[v, .int .i64 p] w (AtPost w (atN h.nodes p)) := by
  obtain ⟨sa, sc, rfl, hi, hs⟩ := hh
  obtain ⟨ns, most⟩ := h
  simp only at hi hs hn ⊢
  obtain ⟨_, _, e, l1, _⟩ := hs.shape
  cases e
  obtain ⟨W0, hW0⟩ : ∃ W0, (w.alloc (Obj.cells #[.slice sa ns.length sc, .int .i64 most] 24)).alloc (Obj.cells #[.int .i64 0, .int .i64 0, .string ⟨#[]⟩, .slice none 0 0] 37) = W0 := ⟨_, rfl⟩
  have hb0 : Below w.heap.size w W0 := by rw [← hW0]; exact ((Below.refl _ _).alloc (Nat.le_refl _) _).alloc (by simp) _
  have h1 := heap_one w (Obj.cells #[.slice sa ns.length sc, .int .i64 most] 24) (Obj.cells #[.int .i64 0, .int .i64 0, .string ⟨#[]⟩, .slice none 0 0] 37)
  have h2 := heap_two w (Obj.cells #[.slice sa ns.length sc, .int .i64 most] 24) (Obj.cells #[.int .i64 0, .int .i64 0, .string ⟨#[]⟩, .slice none 0 0] 37)
  rw [hW0] at h1 h2
  have HI := hid hs
  have HB := hid (And.intro hb0 (And.intro h1 h2))
  have HW := hid hW0
  clear hs hi hb0 h1 h2 hW0
  go_enter Try.func31, Try.ntmps31
  go_upto_region 1 with (fail)
  rw [HW.out]
  clear HW
  go_upto_region 2 with (fail)
  go_loopw [7, 1] (fun u7 u1 wr => ∃ (k : Nat) (q : Int), k ≤ ns.length + 1 ∧ u7 = .int .i64 k ∧ u1 = .int .i64 q ∧ Hid (In q ∧ follow ns (ns.length + 1 - k) q = atN ns p ∧ Below W0.heap.size W0 wr)) (fun u7 _ _ => ns.length + 1 - (intOf u7).toNat)
  case atStart => exact ⟨0, p, Nat.zero_le _, rfl, rfl, hid (And.intro hp (And.intro rfl (Below.refl _ _)))⟩
  case round =>
    obtain ⟨k, q, hk, rfl, rfl, HR⟩ := hrel
    have h1 := (HR.out.2.2.block _ (lt_of_some HB.out.2.1)).trans HB.out.2.1
    have h2 := (HR.out.2.2.block _ (lt_of_some HB.out.2.2)).trans HB.out.2.2
    have bw := HB.out.1.trans (HR.out.2.2.mono HB.out.1.size)
    have c0 : wr.cell? ⟨w.heap.size, 0, none⟩ = some (.slice sa ns.length sc) := cell_of h1
    have q0 : wr.cell? ⟨w.heap.size + 1, 0, none⟩ = some (.int .i64 0) := cell_of h2
    have q1 : wr.cell? ⟨w.heap.size + 1, 1, none⟩ = some (.int .i64 0) := cell_of h2
    have q2 : wr.cell? ⟨w.heap.size + 1, 2, none⟩ = some (.string ⟨#[]⟩) := cell_of h2
    have q3 : wr.cell? ⟨w.heap.size + 1, 3, none⟩ = some (.slice none 0 0) := cell_of h2
    have hf2 : ∀ i, wr.frozen? ⟨w.heap.size + 1, i, none⟩ = false := fun i => free_of h2
    have Z := hid (zero_box h2 (by simp) bw 0 0 ⟨#[]⟩ (.slice none 0 0))
    have K := hid (And.intro h1 (And.intro h2 bw))
    clear h1 h2 bw
    by_cases e0 : k ≤ ns.length
    · have f0 : decide ((k : Int) ≤ ns.length) = true := by simp; omega
      by_cases e1 : q < 0
      · have f1 : decide (q < 0) = true := by simp; omega
        have hnone : Hid (atN ns p = none) := by
          show _ = _; rw [← HR.out.2.1]; cases ns.length + 1 - k <;> simp [follow, e1]
        go_wp2_with fail
        have t0 := cell_at (i := 0) (v := .int .i64 0) Z.out.1 rfl
        have t1 := cell_at (i := 1) (v := .int .i64 0) Z.out.1 rfl
        have t2 := cell_at (i := 2) (v := .string ⟨#[]⟩) Z.out.1 rfl
        have t3 := cell_at (i := 3) (v := .slice none 0 0) Z.out.1 rfl
        exact bodyPost_ret (v := .tuple #[.agg #[.int .i64 0, .int .i64 0, .string ⟨#[]⟩, .slice none 0 0], .int .i64 0, .int .i64 140]) (by simp [results, Try.results31, go_sem, t0, t1, t2, t3]) rfl (by rw [hnone.out]; exact ⟨rfl, Z.out.2⟩)
      · have f1 : decide (q < 0) = false := by simp; omega
        obtain ⟨qn, rfl⟩ : ∃ m : Nat, q = m := ⟨q.toNat, by omega⟩
        by_cases e2 : qn < ns.length
        · have f2 : decide ((qn : Int) ≥ ns.length) = false := by simp; omega
          obtain ⟨b1, o1, c1', x, sx, cx, hv1, hx, hik, hin, hsx, d0, d1, d2, d3⟩ := HI.out.at K.out.2.2 (k := qn) e2
          cases hv1
          have hfol2 : (if x.kind = 6 then (match x.kids with | [z] => follow ns (ns.length - k) z | _ => none) else some (x, (qn : Int))) = atN ns p := by
            have hh : follow ns ((ns.length - k) + 1) (qn : Int) = (if x.kind = 6 then (match x.kids with | [z] => follow ns (ns.length - k) z | _ => none) else some (x, (qn : Int))) := by
              rw [follow]
              simp only [e1, if_false, Int.toNat_natCast, hx]
              rfl
            rw [← hh, ← HR.out.2.1, show ns.length + 1 - k = (ns.length - k) + 1 by omega]
          have HSX : Hid (ISl w ok (.slice sx x.kids.length cx) x.kids) := by
            obtain ⟨_, _, _, x', sx', cx', hv', hx', _, _, hsx', _, _, _, d3'⟩ := HI.out.at (Below.refl _ _) (k := qn) e2
            cases hv'
            rw [hx] at hx'; cases hx'
            have h9 := later_cell K.out.2.2 d3'
            rw [d3] at h9; cases h9
            exact hsx'
          go_upto_region 7 with (fail)
          clear Z hf2 q0 q1 q2 q3 c0 d0 d1 d2 d3
          obtain ⟨W2, hW2⟩ : ∃ W2, wr.alloc (Obj.cells #[.int .i64 x.kind, .int .i64 x.num, .string x.name, .slice sx x.kids.length cx] 37) = W2 := ⟨_, rfl⟩
          have b12 : Below wr.heap.size wr W2 := by rw [← hW2]; exact (Below.refl _ _).alloc (Nat.le_refl _) _
          have h3 : W2.heap[wr.heap.size]? = some (Obj.cells #[.int .i64 x.kind, .int .i64 x.num, .string x.name, .slice sx x.kids.length cx] 37) := by rw [← hW2]; exact World.alloc_heap_new _ _
          have h1 := (b12.block _ (lt_of_some K.out.1)).trans K.out.1
          have h2 := (b12.block _ (lt_of_some K.out.2.1)).trans K.out.2.1
          have bw2 := K.out.2.2.trans (b12.mono K.out.2.2.size)
          rw [hW2]
          have q0 : W2.cell? ⟨w.heap.size + 1, 0, none⟩ = some (.int .i64 0) := cell_of h2
          have q1 : W2.cell? ⟨w.heap.size + 1, 1, none⟩ = some (.int .i64 0) := cell_of h2
          have q2 : W2.cell? ⟨w.heap.size + 1, 2, none⟩ = some (.string ⟨#[]⟩) := cell_of h2
          have q3 : W2.cell? ⟨w.heap.size + 1, 3, none⟩ = some (.slice none 0 0) := cell_of h2
          have hf2 : ∀ i, W2.frozen? ⟨w.heap.size + 1, i, none⟩ = false := fun i => free_of h2
          have r0 : W2.cell? ⟨wr.heap.size, 0, none⟩ = some (.int .i64 x.kind) := cell_of h3
          have r1 : W2.cell? ⟨wr.heap.size, 1, none⟩ = some (.int .i64 x.num) := cell_of h3
          have r2 : W2.cell? ⟨wr.heap.size, 2, none⟩ = some (.string x.name) := cell_of h3
          have r3 : W2.cell? ⟨wr.heap.size, 3, none⟩ = some (.slice sx x.kids.length cx) := cell_of h3
          have HX := hid (And.intro h2 (And.intro bw2 (And.intro (hsx.below intGood b12) (And.intro hik (And.intro hin (HR.out.2.2.trans (b12.mono HR.out.2.2.size)))))))
          have Z := hid (zero_box h2 (by simp) bw2 0 0 ⟨#[]⟩ (.slice none 0 0))
          have Y := hid (zero_box h2 (by simp) bw2 x.kind x.num x.name (.slice sx x.kids.length cx))
          have HF := hid hfol2
          have hqin := HR.out.1
          obtain ⟨_, _, e, lx, _⟩ := hsx.shape
          cases e
          have HXX := hid hx
          clear h1 h2 h3 hW2 b12 hsx hik hin bw2 hfol2 hx HR
          by_cases e4 : x.kind = 6
          · have f4 : (x.kind != 6) = false := by simpa using e4
            by_cases e5 : x.kids.length = 1
            · obtain ⟨z, hz⟩ : ∃ z, x.kids = [z] := List.length_eq_one_iff.1 e5
              have hfol3 : follow ns (ns.length - k) z = atN ns p := by have h := HF.out; rw [if_pos e4, hz] at h; exact h
              obtain ⟨b2, o2, c2', z', hv2, hz2, hinz, e2'⟩ := ISl.at HX.out.2.2.1 (Below.refl _ _) (k := 0) (by omega)
              cases hv2
              obtain rfl : z = z' := by rw [hz] at hz2; simpa using hz2
              replace e2' : W2.cell? ⟨b2, o2, none⟩ = some (.int .i64 z) := by simpa using e2'
              have f5 : ((x.kids.length : Int) != 1) = false := by simp [e5]
              have HG := hid (And.intro hinz hfol3)
              clear hinz hfol3 hz hz2
              go_wp2_with fail
              go_roundw
              case rel => exact ⟨k + 1, z, by omega, by go_num, rfl, hid (And.intro HG.out.1 (And.intro (by rw [show ns.length + 1 - (k + 1) = ns.length - k by omega]; exact HG.out.2) HX.out.2.2.2.2.2))⟩
              case measure => simp [intOf]; omega
            · have f5 : ((x.kids.length : Int) != 1) = true := by simp; omega
              have hnone : Hid (atN ns p = none) := by
                show _ = _
                rw [← HF.out, if_pos e4]
                match hk : x.kids with
                | [] => rfl
                | [_] => rw [hk] at e5; exact absurd rfl e5
                | _ :: _ :: _ => rfl
              go_wp2_with fail
              have t0 := cell_at (i := 0) (v := .int .i64 0) Z.out.1 rfl
              have t1 := cell_at (i := 1) (v := .int .i64 0) Z.out.1 rfl
              have t2 := cell_at (i := 2) (v := .string ⟨#[]⟩) Z.out.1 rfl
              have t3 := cell_at (i := 3) (v := .slice none 0 0) Z.out.1 rfl
              exact bodyPost_ret (v := .tuple #[.agg #[.int .i64 0, .int .i64 0, .string ⟨#[]⟩, .slice none 0 0], .int .i64 0, .int .i64 140]) (by simp [results, Try.results31, go_sem, t0, t1, t2, t3]) rfl (by rw [hnone.out]; exact ⟨rfl, Z.out.2⟩)
          · have f4 : (x.kind != 6) = true := by simpa using e4
            have hsome : Hid (atN ns p = some (x, (qn : Int))) := by show _ = _; rw [← HF.out, if_neg e4]
            go_wp2_with fail
            have t0 := cell_at (i := 0) (v := .int .i64 x.kind) Y.out.1 rfl
            have t1 := cell_at (i := 1) (v := .int .i64 x.num) Y.out.1 rfl
            have t2 := cell_at (i := 2) (v := .string x.name) Y.out.1 rfl
            have t3 := cell_at (i := 3) (v := .slice sx x.kids.length cx) Y.out.1 rfl
            refine bodyPost_ret (v := .tuple #[.agg #[.int .i64 x.kind, .int .i64 x.num, .string x.name, .slice sx x.kids.length cx], .int .i64 qn, .int .i64 0]) (by simp [results, Try.results31, go_sem, t0, t1, t2, t3]) rfl ?_
            rw [hsome.out]
            refine ⟨_, rfl, ⟨_, _, rfl, HX.out.2.2.2.1, HX.out.2.2.2.2.1, ?_⟩, Y.out.2⟩
            exact ISl.all (RSl.below intGood HSX.out Y.out.2)
        · have f2 : decide ((qn : Int) ≥ ns.length) = true := by simp; omega
          have hnone : Hid (atN ns p = none) := by
            show _ = _; rw [← HR.out.2.1, show ns.length + 1 - k = (ns.length - k) + 1 by omega, follow, Int.toNat_natCast, List.getElem?_eq_none (by omega)]; simp
          go_wp2_with fail
          have t0 := cell_at (i := 0) (v := .int .i64 0) Z.out.1 rfl
          have t1 := cell_at (i := 1) (v := .int .i64 0) Z.out.1 rfl
          have t2 := cell_at (i := 2) (v := .string ⟨#[]⟩) Z.out.1 rfl
          have t3 := cell_at (i := 3) (v := .slice none 0 0) Z.out.1 rfl
          exact bodyPost_ret (v := .tuple #[.agg #[.int .i64 0, .int .i64 0, .string ⟨#[]⟩, .slice none 0 0], .int .i64 0, .int .i64 140]) (by simp [results, Try.results31, go_sem, t0, t1, t2, t3]) rfl (by rw [hnone.out]; exact ⟨rfl, Z.out.2⟩)
    · have f0 : decide ((k : Int) ≤ ns.length) = false := by simp; omega
      have hnone : Hid (atN ns p = none) := by
        show _ = _; rw [← HR.out.2.1, show ns.length + 1 - k = 0 by omega]; rfl
      go_wp2_with fail
      have t0 := cell_at (i := 0) (v := .int .i64 0) Z.out.1 rfl
      have t1 := cell_at (i := 1) (v := .int .i64 0) Z.out.1 rfl
      have t2 := cell_at (i := 2) (v := .string ⟨#[]⟩) Z.out.1 rfl
      have t3 := cell_at (i := 3) (v := .slice none 0 0) Z.out.1 rfl
      exact bodyPost_ret (v := .tuple #[.agg #[.int .i64 0, .int .i64 0, .string ⟨#[]⟩, .slice none 0 0], .int .i64 0, .int .i64 140]) (by simp [results, Try.results31, go_sem, t0, t1, t2, t3]) rfl (by rw [hnone.out]; exact ⟨rfl, Z.out.2⟩)
end Go.Proofs.Ytajhchfjoeblgaa
