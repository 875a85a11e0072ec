/- gc.Live; the calls whose answers the document fixes: awake answers true. -/
import Derived.Test.YtajhchfjoeblgaaGcG
namespace Go.Proofs.Ytajhchfjoeblgaa
open Go.RowKit Go.Shelf
attribute [local go_sem] Oper.semAt_some
set_option maxHeartbeats 2000000 in
theorem live_any (w : World) (ok ok2 : Nat → Prop) (v lv : Value) (h : Hp) (roots : List Int) (hh : HVal w ok v h) (hr : ISl w ok2 lv roots) (hn : h.nodes.length ≤ 1000) (hkb : ∀ x ∈ h.nodes, x.kids.length ≤ 1000) (hrl : roots.length ≤ 1000) :
    Calls Try.prog 14 #[v, lv] w (Ib (liveH h roots) w) := by
  have hh0 := hh
  obtain ⟨sa, sc, rfl, hi, hs⟩ := hh
  obtain ⟨_, _, e, l1, _⟩ := hs.shape
  cases e
  obtain ⟨W0, hW0⟩ : ∃ W0, w.alloc (Obj.cells #[.slice sa h.nodes.length sc, .int .i64 h.most] 24) = W0 := ⟨_, rfl⟩
  have hb0 : Below w.heap.size w W0 := by rw [← hW0]; exact (Below.refl _ _).alloc (Nat.le_refl _) _
  have h1 : W0.heap[w.heap.size]? = some (Obj.cells #[.slice sa h.nodes.length sc, .int .i64 h.most] 24) := by rw [← hW0]; exact World.alloc_heap_new _ _
  have HC := hid (coll_any W0 _ _ _ lv h roots (hh0.below hb0) (hr.below intGood hb0) hn hkb hrl)
  have HB := hid hb0
  have HW := hid hW0
  have c0 : W0.cell? ⟨w.heap.size, 0, none⟩ = some (.slice sa h.nodes.length sc) := cell_of h1
  have c1 : W0.cell? ⟨w.heap.size, 1, none⟩ = some (.int .i64 h.most) := cell_of h1
  clear hh0 hr hs hi hW0 hb0 h1 hkb
  go_enter Try.func14, Try.ntmps14
  go_upto_region 1 with (fail)
  rw [HW.out]
  clear HW
  go_wp2_with fail
  refine HC.out.mono ?_
  intro e w2 hpost
  clear c0 c1 HC
  cases hc : collH h roots with
  | none =>
    rw [CollPost, hc] at hpost
    obtain ⟨rfl, b2⟩ := hpost
    have BB := hid (HB.out.trans (b2.mono HB.out.size))
    have HL : Hid (liveH h roots = 0) := by show liveH h roots = 0; rw [liveH, hc]
    clear b2 hc HB
    go_wp2_with fail
    go_ret
    exact Ib.fin (by rw [HL.out]; rfl) (BB.out.alloc BB.out.size _)
  | some r =>
    obtain ⟨h', l⟩ := r
    rw [CollPost, hc] at hpost
    obtain ⟨a, c, lv', rfl, hv, hl, b2⟩ := hpost
    have BB := hid (HB.out.trans (b2.mono HB.out.size))
    have HL : Hid (liveH h roots = h'.nodes.length) := by show liveH h roots = _; rw [liveH, hc]
    clear b2 hc HB hv hl
    go_wp2_with fail
    go_ret
    exact Ib.fin (by rw [HL.out]) (BB.out.alloc BB.out.size _)
theorem emp_nil : emp ⟨#[]⟩ = true := by rw [emp, ByteArray.toList_eq]; rfl
theorem in_small {z : Int} (h : -1000 ≤ z) (k : z ≤ 1000) : In z := ⟨by omega, by omega⟩
theorem isl_new (w : World) (t : TypeId) (xs : List Int) (hin : ∀ x ∈ xs, In x) (hl : xs.length ≤ 1000) :
    ISl (w.alloc (.cells (xs.map (.int .i64)).toArray t)) (fun _ => True) (.slice (some ⟨w.heap.size, 0, none⟩) xs.length xs.length) xs := by
  refine ⟨_, _, rfl, Nat.le_refl _, by simp [maxLen]; omega, (fun h => by cases h), fun _ => ⟨_, 0, rfl, trivial, fun i hi => ⟨[.int .i64 xs[i]], ⟨rfl, hin _ (List.getElem_mem hi)⟩, fun j u hj => ?_⟩⟩⟩
  rw [cell_of (World.alloc_heap_new w _)]
  match j, hj with
  | 0, hj => simp at hj; simp [hi, hj]
  | j + 1, hj => simp at hj
def nInd (k : Int) : Nd := ⟨6, 0, ⟨#[]⟩, [k]⟩
def nNum (n : Int) : Nd := ⟨1, n, ⟨#[]⟩, []⟩
theorem may_ind {k many : Int} (h : 0 ≤ k) (h' : k < many) : mayN (nInd k) many = true := by
  simp [mayN, nInd, kidsIn, kindOk, emp_nil]; omega
theorem may_num {n many : Int} : mayN (nNum n) many = true := by simp [mayN, nNum, kidsIn, kindOk, emp_nil]
def aw : Hp := ⟨[nNum 5, nInd 0, nNum 6], 3⟩
theorem aw_chk : chkH aw = true := chkH_yes (by decide) (by decide) (by decide) fun k x hk hx => by
  match k, hx with
  | 0, hx => cases hx; exact may_num
  | 1, hx => cases hx; exact may_ind (by decide) (by decide)
  | 2, hx => cases hx; exact may_num
  | k + 3, hx => cases hx
theorem aw_one : collH aw [1] = some (⟨[nNum 5], 3⟩, [0]) := by rw [collH, aw_chk]; rfl
theorem aw_none : collH aw [3] = none := by rw [collH, aw_chk]; rfl
theorem aw_two : liveH aw [2, 1] = 2 := by rw [liveH, collH, aw_chk]; rfl
theorem aw_val (w w2 : World) (b1 b2 : Nat) (h1 : ISl w2 (fun _ => True) (.slice (some ⟨b1, 0, none⟩) 1 1) [0])
    (h2 : w2.heap[b2]? = some (.cells #[.int .i64 1, .int .i64 5, .string ⟨#[]⟩, .slice none 0 0, .int .i64 6, .int .i64 0, .string ⟨#[]⟩, .slice (some ⟨b1, 0, none⟩) 1 1, .int .i64 1, .int .i64 6, .string ⟨#[]⟩, .slice none 0 0] 37)) :
    HVal w2 (fun _ => True) (.agg #[.slice (some ⟨b2, 0, none⟩) 3 3, .int .i64 3]) aw := by
  have r1 : NodeE w2 (fun _ => True) (nNum 5) [.int .i64 1, .int .i64 5, .string ⟨#[]⟩, .slice none 0 0] := ⟨_, rfl, in_small (z := 1) (by decide) (by decide), in_small (z := 5) (by decide) (by decide), RSl.nil _ _ _ _⟩
  have r2 : NodeE w2 (fun _ => True) (nInd 0) [.int .i64 6, .int .i64 0, .string ⟨#[]⟩, .slice (some ⟨b1, 0, none⟩) 1 1] := ⟨_, rfl, in_small (z := 6) (by decide) (by decide), in_small (z := 0) (by decide) (by decide), h1⟩
  have r3 : NodeE w2 (fun _ => True) (nNum 6) [.int .i64 1, .int .i64 6, .string ⟨#[]⟩, .slice none 0 0] := ⟨_, rfl, in_small (z := 1) (by decide) (by decide), in_small (z := 6) (by decide) (by decide), RSl.nil _ _ _ _⟩
  have hrows := (Rows.one r1).append ((Rows.one r2).append (Rows.one r3))
  obtain ⟨rows, hR⟩ : ∃ rows : List (List Value), rows = [[.int .i64 1, .int .i64 5, .string ⟨#[]⟩, .slice none 0 0]] ++ ([[.int .i64 6, .int .i64 0, .string ⟨#[]⟩, .slice (some ⟨b1, 0, none⟩) 1 1]] ++ [[.int .i64 1, .int .i64 6, .string ⟨#[]⟩, .slice none 0 0]]) := ⟨_, rfl⟩
  rw [← hR] at hrows
  have h2' : w2.heap[b2]? = some (.cells rows.flatten.toArray 37) := by rw [h2, hR]; rfl
  exact ⟨_, _, rfl, in_small (z := 3) (by decide) (by decide), RSl.of_block nodeGood h2' hrows trivial (by decide)⟩
theorem aw_kids : ∀ x ∈ aw.nodes, x.kids.length ≤ 1000 := fun x hx => by
  simp [aw] at hx; rcases hx with rfl | rfl | rfl <;> simp [nNum, nInd]
theorem aw_coll1 (w : World) (v : Value) (h : HVal w (fun _ => True) v aw) : Calls Try.prog 10 #[v, .slice (some ⟨w.heap.size, 0, none⟩) 1 1] (w.alloc (.cells #[.int .i64 1] 3)) fun e w' => ∃ a c la lc, e = .returned (.tuple #[.agg #[.slice a 1 c, .int .i64 3], .slice la 1 lc, .int .i64 0]) ∧
    NSl w' (fun _ => True) (.slice a 1 c) [nNum 5] ∧ ISl w' (fun _ => True) (.slice la 1 lc) [0] ∧ Below w.heap.size w w' := by
  have hb := (Below.refl w.heap.size w).alloc (Nat.le_refl _) (.cells #[.int .i64 1] 3)
  refine (coll_any _ _ _ v _ aw [1] (h.below hb) (isl_new w 3 [1] (fun x hx => by simp at hx; subst hx; exact in_small (by decide) (by decide)) (by simp)) (by decide) aw_kids (by decide)).mono fun e w' hp => ?_
  rw [CollPost, aw_one] at hp
  obtain ⟨a, c, lv, rfl, hv, hl, hb'⟩ := hp
  obtain ⟨la, lc, rfl, _⟩ := hl.shape
  obtain ⟨_, _, e, _, hs⟩ := hv
  cases e
  exact ⟨_, _, _, _, rfl, hs.all, hl.all, hb.trans (hb'.mono hb.size)⟩
theorem aw_coll3 (w : World) (v : Value) (h : HVal w (fun _ => True) v aw) : Calls Try.prog 10 #[v, .slice (some ⟨w.heap.size, 0, none⟩) 1 1] (w.alloc (.cells #[.int .i64 3] 3)) fun e w' => e = .returned (.tuple #[v, .slice none 0 0, .int .i64 140]) ∧ Below w.heap.size w w' := by
  have hb := (Below.refl w.heap.size w).alloc (Nat.le_refl _) (.cells #[.int .i64 3] 3)
  refine (coll_any _ _ _ v _ aw [3] (h.below hb) (isl_new w 3 [3] (fun x hx => by simp at hx; subst hx; exact in_small (by decide) (by decide)) (by simp)) (by decide) aw_kids (by decide)).mono fun e w' hp => ?_
  rw [CollPost, aw_none] at hp
  exact ⟨hp.1, hb.trans (hp.2.mono hb.size)⟩
theorem aw_live (w : World) (v : Value) (h : HVal w (fun _ => True) v aw) : Calls Try.prog 14 #[v, .slice (some ⟨w.heap.size, 0, none⟩) 2 2] (w.alloc (.cells #[.int .i64 2, .int .i64 1] 3)) fun e w' => e = .returned (.int .i64 2) ∧ Below w.heap.size w w' := by
  have hb := (Below.refl w.heap.size w).alloc (Nat.le_refl _) (.cells #[.int .i64 2, .int .i64 1] 3)
  refine (live_any _ _ _ v _ aw [2, 1] (h.below hb) (isl_new w 3 [2, 1] (fun x hx => by simp at hx; rcases hx with rfl | rfl <;> exact in_small (by decide) (by decide)) (by simp)) (by decide) aw_kids (by decide)).mono fun e w' hp => ?_
  rw [aw_two] at hp
  exact ⟨hp.1, hb.trans (hp.2.mono hb.size)⟩
set_option maxRecDepth 100000 in
set_option maxHeartbeats 4000000 in
theorem awake_any (w : World) : Calls Try.prog 8 #[] w (Bb true w) := by
  go_enter Try.func8, Try.ntmps8
  go_upto_region 2 with (fail)
  obtain ⟨w3, hw3⟩ : ∃ z, ((w.alloc (Obj.cells #[.int .i64 0] 3)).alloc (Obj.cells #[.int .i64 1, .int .i64 5, .string ⟨#[]⟩, .slice none 0 0, .int .i64 6, .int .i64 0, .string ⟨#[]⟩, .slice (some ⟨w.heap.size, 0, none⟩) 1 1, .int .i64 1, .int .i64 6, .string ⟨#[]⟩, .slice none 0 0] 37)).alloc (Obj.cells #[.slice (some ⟨w.heap.size + 1, 0, none⟩) 3 3, .int .i64 3] 24) = z := ⟨_, rfl⟩
  have b3 : Below w.heap.size w w3 := by rw [← hw3]; exact (((Below.refl _ _).alloc (Nat.le_refl _) _).alloc (by simp) _).alloc (by simp; omega) _
  have h1 : w3.heap[w.heap.size]? = some (Obj.cells #[.int .i64 0] 3) := by rw [← hw3]; exact heap_old (heap_one _ _ _) _
  have h2 : w3.heap[w.heap.size + 1]? = some (Obj.cells #[.int .i64 1, .int .i64 5, .string ⟨#[]⟩, .slice none 0 0, .int .i64 6, .int .i64 0, .string ⟨#[]⟩, .slice (some ⟨w.heap.size, 0, none⟩) 1 1, .int .i64 1, .int .i64 6, .string ⟨#[]⟩, .slice none 0 0] 37) := by rw [← hw3]; exact heap_old (heap_two _ _ _) _
  have h3 : w3.heap[w.heap.size + 1 + 1]? = some (Obj.cells #[.slice (some ⟨w.heap.size + 1, 0, none⟩) 3 3, .int .i64 3] 24) := by
    rw [← hw3]; have := World.alloc_heap_new ((w.alloc (Obj.cells #[.int .i64 0] 3)).alloc (Obj.cells #[.int .i64 1, .int .i64 5, .string ⟨#[]⟩, .slice none 0 0, .int .i64 6, .int .i64 0, .string ⟨#[]⟩, .slice (some ⟨w.heap.size, 0, none⟩) 1 1, .int .i64 1, .int .i64 6, .string ⟨#[]⟩, .slice none 0 0] 37)) (Obj.cells #[.slice (some ⟨w.heap.size + 1, 0, none⟩) 3 3, .int .i64 3] 24)
    simpa using this
  have hi1 : ISl w3 (fun _ => True) (.slice (some ⟨w.heap.size, 0, none⟩) 1 1) [0] := RSl.of_block (xs := [(0 : Int)]) intGood (rows := [[.int .i64 0]]) h1 (Rows.one ⟨rfl, in_small (by decide) (by decide)⟩) trivial (by decide)
  have V3 := hid (aw_val w w3 _ _ hi1 h2)
  have K3 := hid (And.intro b3 h3)
  rw [hw3]
  obtain ⟨Bx, hBx⟩ : ∃ z, z = w.heap.size + 1 + 1 := ⟨_, rfl⟩
  rw [← hBx] at K3 ⊢
  clear hw3 b3 h1 h2 h3 hi1 hBx
  have c0 : w3.cell? ⟨Bx, 0, none⟩ = some (.slice (some ⟨w.heap.size + 1, 0, none⟩) 3 3) := cell_of K3.out.2
  have c1 : w3.cell? ⟨Bx, 1, none⟩ = some (.int .i64 3) := cell_of K3.out.2
  have P1 := hid (aw_coll1 w3 _ V3.out)
  go_wp2_with fail
  refine P1.out.mono ?_
  rintro e w4 ⟨a, c, la, lc, rfl, hn4, hl4, b4⟩
  clear c0 c1 P1
  go_upto_region 3 with (fail)
  obtain ⟨w5, hw5⟩ : ∃ z, w4.alloc (Obj.cells #[.slice a 1 c, .int .i64 3] 24) = z := ⟨_, rfl⟩
  have b45 : Below w4.heap.size w4 w5 := by rw [← hw5]; exact (Below.refl _ _).alloc (Nat.le_refl _) _
  have b35 := b4.trans (b45.mono b4.size)
  obtain ⟨Bc, hBc⟩ : ∃ z, w4.heap.size = z := ⟨_, rfl⟩
  have hc5 : w5.heap[Bc]? = some (Obj.cells #[.slice a 1 c, .int .i64 3] 24) := by rw [← hw5, ← hBc]; exact World.alloc_heap_new _ _
  rw [hw5, hBc]
  have V5 := hid (V3.out.below b35)
  have K5 := hid (And.intro (K3.out.1.trans (b35.mono K3.out.1.size)) (And.intro ((b35.block _ (lt_of_some K3.out.2)).trans K3.out.2) (And.intro hc5 (And.intro (hn4.below b45) (hl4.below intGood b45)))))
  clear hw5 hBc hc5 hn4 hl4 b4 b45 b35 K3 V3
  have c0 : w5.cell? ⟨Bx, 0, none⟩ = some (.slice (some ⟨w.heap.size + 1, 0, none⟩) 3 3) := cell_of K5.out.2.1
  have c1 : w5.cell? ⟨Bx, 1, none⟩ = some (.int .i64 3) := cell_of K5.out.2.1
  have P2 := hid (aw_coll3 w5 _ V5.out)
  go_wp2_with fail
  refine P2.out.mono ?_
  rintro e w6 ⟨rfl, b6⟩
  clear c0 c1 P2
  go_upto_region 4 with (fail)
  obtain ⟨w7, hw7⟩ : ∃ z, w6.alloc (Obj.cells #[.slice (some ⟨w.heap.size + 1, 0, none⟩) 3 3, .int .i64 3] 24) = z := ⟨_, rfl⟩
  have b67 : Below w6.heap.size w6 w7 := by rw [← hw7]; exact (Below.refl _ _).alloc (Nat.le_refl _) _
  have b57 := b6.trans (b67.mono b6.size)
  rw [hw7]
  have V7 := hid (V5.out.below b57)
  have K7 := hid (And.intro (K5.out.1.trans (b57.mono K5.out.1.size)) ((b57.block _ (lt_of_some K5.out.2.1)).trans K5.out.2.1))
  have c0 : w7.cell? ⟨Bx, 0, none⟩ = some (.slice (some ⟨w.heap.size + 1, 0, none⟩) 3 3) := cell_of K7.out.2
  have c1 : w7.cell? ⟨Bx, 1, none⟩ = some (.int .i64 3) := cell_of K7.out.2
  have d0 : w7.cell? ⟨Bc, 0, none⟩ = some (.slice a 1 c) := cell_of ((b57.block _ (lt_of_some K5.out.2.2.1)).trans K5.out.2.2.1)
  have d1 : w7.cell? ⟨Bc, 1, none⟩ = some (.int .i64 3) := cell_of ((b57.block _ (lt_of_some K5.out.2.2.1)).trans K5.out.2.2.1)
  obtain ⟨bn, on, cn, x, sx, cx, hv, hx, _, _, _, _, n1, _, _⟩ := K5.out.2.2.2.1.at b57 (k := 0) (by decide)
  cases hv
  obtain ⟨bl, ol, cl, z, hv, hz, _, l1⟩ := ISl.at K5.out.2.2.2.2 b57 (k := 0) (by decide)
  cases hv
  cases hx
  cases hz
  replace n1 : w7.cell? ⟨bn, on + 1, none⟩ = some (.int .i64 5) := by simpa [nNum] using n1
  replace l1 : w7.cell? ⟨bl, ol, none⟩ = some (.int .i64 0) := by simpa using l1
  have P3 := hid (aw_live w7 _ V7.out)
  clear hw7 b6 b67 b57 K5 V5
  go_wp2_with fail
  refine P3.out.mono ?_
  rintro e w8 ⟨rfl, b8⟩
  have BB := hid (K7.out.1.trans (b8.mono K7.out.1.size))
  clear c0 c1 d0 d1 n1 l1 P3 b8
  go_wp2_with fail
  go_ret
  exact Bb.fin rfl BB.out
end Go.Proofs.Ytajhchfjoeblgaa
