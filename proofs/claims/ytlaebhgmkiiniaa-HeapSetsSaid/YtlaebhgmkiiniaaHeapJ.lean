/- The calls whose answers the document fixes: awake answers true. -/
import Derived.Test.YtlaebhgmkiiniaaHeapI
namespace Go.Proofs.Ytlaebhgmkiiniaa
open Go.RowKit Go.Shelf
attribute [local go_sem] Oper.semAt_some
theorem emp_nil : emp ⟨#[]⟩ = true := by rw [emp, ByteArray.toList_eq]; rfl
theorem in_small {z : Int} (h : -1000 ≤ z) (k : z ≤ 1000) : In z := ⟨by omega, by omega⟩
/-- A slice of numbers just laid. -/
theorem isl_new (w : World) (t : TypeId) (xs : List Int) (hin : ∀ x ∈ xs, In x) (hl : xs.length ≤ 1000) :
    ISl (w.alloc (.cells (xs.map (.int .i64)).toArray t)) (fun _ => True) (.slice (some ⟨w.heap.size, 0, none⟩) xs.length xs.length) xs := by
  refine ⟨_, _, rfl, Nat.le_refl _, by simp [maxLen]; omega, (fun h => by cases h), fun _ => ⟨_, 0, rfl, trivial, fun i hi => ⟨[.int .i64 xs[i]], ⟨rfl, hin _ (List.getElem_mem hi)⟩, fun j u hj => ?_⟩⟩⟩
  rw [cell_of (World.alloc_heap_new w _)]
  match j, hj with
  | 0, hj => simp at hj; simp [hi, hj]
  | j + 1, hj => simp at hj
def nInd (k : Int) : Nd := ⟨6, 0, ⟨#[]⟩, [k]⟩
def nNum (n : Int) : Nd := ⟨1, n, ⟨#[]⟩, []⟩
theorem may_ind {k many : Int} (h : 0 ≤ k) (h' : k < many) : mayN (nInd k) many = true := by
  simp [mayN, nInd, kidsIn, kindOk, emp_nil]; omega
theorem may_num {n many : Int} : mayN (nNum n) many = true := by simp [mayN, nNum, kidsIn, kindOk, emp_nil]
theorem nval_ind (w : World) (k : Int) (h : -1000 ≤ k) (h' : k ≤ 1000) : NVal (w.alloc (.cells #[.int .i64 k] 3)) (fun _ => True) (.agg #[.int .i64 6, .int .i64 0, .string ⟨#[]⟩, .slice (some ⟨w.heap.size, 0, none⟩) 1 1]) (nInd k) :=
  ⟨_, _, rfl, in_small (z := 6) (by decide) (by decide), in_small (z := 0) (by decide) (by decide), isl_new w 3 [k] (fun x hx => by simp at hx; subst hx; exact in_small h h') (by simp)⟩
theorem nval_num (w : World) (n : Int) (h : -1000 ≤ n) (h' : n ≤ 1000) : NVal w (fun _ => True) (.agg #[.int .i64 1, .int .i64 n, .string ⟨#[]⟩, .slice none 0 0]) (nNum n) :=
  ⟨none, 0, rfl, in_small (z := 1) (by decide) (by decide), in_small h h', RSl.nil _ _ _ _⟩
theorem hval_nil (w : World) (m : Int) (h : -1000 ≤ m) (h' : m ≤ 1000) : HVal w (fun _ => False) (.agg #[.slice none 0 0, .int .i64 m]) ⟨[], m⟩ :=
  ⟨none, 0, rfl, in_small h h', RSl.nil _ _ _ _⟩
theorem alloc_ok {h : Hp} {x : Nd} (h1 : ¬ h.most ≤ h.nodes.length) (h2 : mayN x (h.nodes.length + 1) = true) : allocE h x = 0 := by rw [allocE, if_neg h1, if_pos h2]
/-- An Alloc that fits. -/
theorem alloc_fits (w : World) (ok ok' : Nat → Prop) (v nv : Value) (ns : List Nd) (m : Int) (x : Nd) (hh : HVal w ok v ⟨ns, m⟩) (hx : NVal w ok' nv x) (hn : ns.length ≤ 1000000) (hkb : x.kids.length ≤ 1000000000) (h1 : ¬ m ≤ ns.length) (h2 : mayN x (ns.length + 1) = true) :
    Calls Try.prog 9 #[v, nv] w fun e w' => ∃ a c, e = .returned (.tuple #[.agg #[.slice a (ns.length + 1) c, .int .i64 m], .int .i64 ns.length, .int .i64 0]) ∧ HVal w' (fun b => ok b ∨ w.heap.size ≤ b) (.agg #[.slice a (ns.length + 1) c, .int .i64 m]) ⟨ns ++ [x], m⟩ ∧ Below w.heap.size w w' := by
  refine (alloc_any w ok ok' v nv ⟨ns, m⟩ x hh hx hn hkb).mono ?_
  rintro e w' ⟨v', rfl, hv, hb⟩
  have hE : allocE ⟨ns, m⟩ x = 0 := alloc_ok h1 h2
  rw [allocH, hE] at hv
  simp only [if_true] at hv
  obtain ⟨a, c, rfl, h3, h4⟩ := hv
  simp only [List.length_append, List.length_cons, List.length_nil, Nat.zero_add] at h4 ⊢
  exact ⟨a, c, by rw [allocP, hE]; rfl, ⟨a, c, by simp, h3, by simpa using h4⟩, hb⟩
theorem box_put {w0 w : World} {B : Nat} {s0 m0 s m : Value} {t : TypeId} {h : Hp} {ok : Nat → Prop} (hb : Below w0.heap.size w0 w) (hB : w0.heap.size ≤ B) (hh : w.heap[B]? = some (.cells #[s0, m0] t)) (hv : HVal w ok (.agg #[s, m]) h) (hok : ∀ b, b < w.heap.size → ok b → B < b) :
    ((w.setCell ⟨B, 0, none⟩ s).setCell ⟨B, 1, none⟩ m).heap[B]? = some (.cells #[s, m] t) ∧ HVal ((w.setCell ⟨B, 0, none⟩ s).setCell ⟨B, 1, none⟩ m) (fun b => B < b) (.agg #[s, m]) h ∧ Below w0.heap.size w0 ((w.setCell ⟨B, 0, none⟩ s).setCell ⟨B, 1, none⟩ m) := by
  refine ⟨heap_set (heap_set hh), ?_, (hb.setCell hB _).setCell hB _⟩
  obtain ⟨sa, sc, e, i, sl⟩ := hv
  exact ⟨sa, sc, e, i, RSl.keep nodeGood (sl.weak nodeGood (by decide) hok) (((Same.refl _ _).setCell (a := ⟨B, 0, none⟩) s (by simp)).setCell (a := ⟨B, 1, none⟩) m (by simp))⟩
theorem HVal.shape {w : World} {ok : Nat → Prop} {v : Value} {h : Hp} (hv : HVal w ok v h) : ∃ a c, v = .agg #[.slice a h.nodes.length c, .int .i64 h.most] := by
  obtain ⟨sa, sc, e, _⟩ := hv; exact ⟨sa, sc, e⟩
set_option maxRecDepth 100000 in
set_option maxHeartbeats 4000000 in
theorem awake_any (w : World) : Calls Try.prog 6 #[] w (Bb true w) := by
  have P1 : Hid (Calls Try.prog 14 #[.int .i64 2] w fun e w' => e = .returned (.tuple #[.agg #[.slice none 0 0, .int .i64 2], .int .i64 0]) ∧ Below w.heap.size w w') := new_any w 2 (in_small (by decide) (by decide))
  go_enter Try.func6, Try.ntmps6
  go_wp2_with fail
  refine P1.out.mono ?_
  rintro e w1 ⟨rfl, b1⟩
  go_upto_region 2 with (fail)
  obtain ⟨w2, hw2⟩ : ∃ w2, w1.alloc (Obj.cells #[.slice none 0 0, .int .i64 2] 24) = w2 := ⟨_, rfl⟩
  have b2 : Below w1.heap.size w1 w2 := by rw [← hw2]; exact (Below.refl _ _).alloc (Nat.le_refl _) _
  have h2 : w2.heap[w1.heap.size]? = some (Obj.cells #[.slice none 0 0, .int .i64 2] 24) := by rw [← hw2]; exact World.alloc_heap_new _ _
  obtain ⟨B, hB⟩ : ∃ B, w1.heap.size = B := ⟨_, rfl⟩
  rw [hw2, hB]
  have hwB : w.heap.size ≤ B := by rw [← hB]; exact b1.size
  rw [hB] at h2
  have B2 := hid (And.intro (b1.trans (b2.mono b1.size)) h2)
  clear b1 b2 h2 hw2 hB P1
  have c0 : w2.cell? ⟨B, 0, none⟩ = some (.slice none 0 0) := cell_of B2.out.2
  have c1 : w2.cell? ⟨B, 1, none⟩ = some (.int .i64 2) := cell_of B2.out.2
  have hA := (Below.refl w2.heap.size w2).alloc (Nat.le_refl _) (.cells #[.int .i64 0] 3)
  have P2 : Hid (Calls Try.prog 9 #[.agg #[.slice none 0 0, .int .i64 2], .agg #[.int .i64 6, .int .i64 0, .string ⟨#[]⟩, .slice (some ⟨w2.heap.size, 0, none⟩) 1 1]] (w2.alloc (.cells #[.int .i64 0] 3)) fun e w' => ∃ a c, e = .returned (.tuple #[.agg #[.slice a 1 c, .int .i64 2], .int .i64 0, .int .i64 0]) ∧ HVal w' (fun b => False ∨ (w2.alloc (.cells #[.int .i64 0] 3)).heap.size ≤ b) (.agg #[.slice a 1 c, .int .i64 2]) ⟨[nInd 0], 2⟩ ∧ Below (w2.alloc (.cells #[.int .i64 0] 3)).heap.size (w2.alloc (.cells #[.int .i64 0] 3)) w') := (alloc_fits (w2.alloc (.cells #[.int .i64 0] 3)) _ _ _ _ [] 2 (nInd 0) (hval_nil _ 2 (by decide) (by decide)) (nval_ind w2 0 (by decide) (by decide)) (by decide) (by decide) (by decide) (may_ind (by decide) (by decide)))
  have HA := hid hA
  clear hA
  go_wp2_with fail
  refine P2.out.mono ?_
  rintro e w3 ⟨a3, c3, rfl, hv3, b3⟩
  have hltB := lt_of_some B2.out.2
  have b23 := HA.out.trans (b3.mono HA.out.size)
  have h3 := (b23.block _ hltB).trans B2.out.2
  have F4 := box_put (B2.out.1.trans (b23.mono B2.out.1.size)) hwB h3 hv3 (fun b _ h => by rcases h with h | h; exact h.elim; simp at h; omega)
  have c0 : w3.cell? ⟨B, 0, none⟩ = some (.slice none 0 0) := cell_of h3
  have c1 : w3.cell? ⟨B, 1, none⟩ = some (.int .i64 2) := cell_of h3
  have hf : ∀ i, w3.frozen? ⟨B, i, none⟩ = false := fun i => free_of h3
  have HF4 := hid F4
  clear F4 h3 hv3 b3 b23 HA P2 hltB
  go_upto_region 3 with (fail)
  clear c0 c1 hf
  obtain ⟨w4, hw4⟩ : ∃ w4, (w3.setCell ⟨B, 0, none⟩ (.slice a3 1 c3)).setCell ⟨B, 1, none⟩ (.int .i64 2) = w4 := ⟨_, rfl⟩
  rw [hw4] at HF4 ⊢
  clear hw4 w3 B2
  have c0 : w4.cell? ⟨B, 0, none⟩ = some (.slice a3 1 c3) := cell_of HF4.out.1
  have c1 : w4.cell? ⟨B, 1, none⟩ = some (.int .i64 2) := cell_of HF4.out.1
  have P3 : Hid (Calls Try.prog 9 #[.agg #[.slice a3 1 c3, .int .i64 2], .agg #[.int .i64 1, .int .i64 7, .string ⟨#[]⟩, .slice none 0 0]] w4 fun e w' => ∃ a c, e = .returned (.tuple #[.agg #[.slice a 2 c, .int .i64 2], .int .i64 1, .int .i64 0]) ∧ HVal w' (fun b => B < b ∨ w4.heap.size ≤ b) (.agg #[.slice a 2 c, .int .i64 2]) ⟨[nInd 0, nNum 7], 2⟩ ∧ Below w4.heap.size w4 w') := (alloc_fits w4 _ _ _ _ [nInd 0] 2 (nNum 7) HF4.out.2.1 (nval_num w4 7 (by decide) (by decide)) (by simp) (by decide) (by simp) may_num)
  go_wp2_with fail
  refine P3.out.mono ?_
  rintro e w5 ⟨a5, c5, rfl, hv5, b5⟩
  have hltB := lt_of_some HF4.out.1
  have h5 := (b5.block _ hltB).trans HF4.out.1
  have F6 := box_put (HF4.out.2.2.trans (b5.mono HF4.out.2.2.size)) hwB h5 hv5 (fun b _ h => by rcases h with h | h; exact h; omega)
  have c0 : w5.cell? ⟨B, 0, none⟩ = some (.slice a3 1 c3) := cell_of h5
  have c1 : w5.cell? ⟨B, 1, none⟩ = some (.int .i64 2) := cell_of h5
  have hf : ∀ i, w5.frozen? ⟨B, i, none⟩ = false := fun i => free_of h5
  have HF6 := hid F6
  clear F6 h5 hv5 b5 P3 hltB
  go_upto_region 4 with (fail)
  clear c0 c1 hf
  obtain ⟨w6, hw6⟩ : ∃ w6, (w5.setCell ⟨B, 0, none⟩ (.slice a5 2 c5)).setCell ⟨B, 1, none⟩ (.int .i64 2) = w6 := ⟨_, rfl⟩
  rw [hw6] at HF6 ⊢
  clear hw6 w5 HF4
  have c0 : w6.cell? ⟨B, 0, none⟩ = some (.slice a5 2 c5) := cell_of HF6.out.1
  have c1 : w6.cell? ⟨B, 1, none⟩ = some (.int .i64 2) := cell_of HF6.out.1
  have P4 : Hid (Calls Try.prog 9 #[.agg #[.slice a5 2 c5, .int .i64 2], .agg #[.int .i64 1, .int .i64 0, .string ⟨#[]⟩, .slice none 0 0]] w6 fun e w' => ∃ a c, e = .returned (.tuple #[.agg #[.slice a 2 c, .int .i64 2], .int .i64 0, .int .i64 130]) ∧ Below w6.heap.size w6 w') := by
    refine (alloc_any w6 _ _ _ _ ⟨[nInd 0, nNum 7], 2⟩ (nNum 0) HF6.out.2.1 (nval_num w6 0 (by decide) (by decide)) (by simp) (by decide)).mono ?_
    rintro e w7 ⟨v7, rfl, hv7, b7⟩
    have hE : allocE ⟨[nInd 0, nNum 7], 2⟩ (nNum 0) = 130 := by simp [allocE]
    have hH : allocH ⟨[nInd 0, nNum 7], 2⟩ (nNum 0) = ⟨[nInd 0, nNum 7], 2⟩ := by rw [allocH, hE]; rfl
    rw [hH] at hv7
    obtain ⟨a7, c7, rfl⟩ := hv7.shape
    exact ⟨a7, c7, by rw [allocP, hE]; rfl, b7⟩
  go_wp2_with fail
  refine P4.out.mono ?_
  rintro e w7 ⟨a7, c7, rfl, b7⟩
  clear c0 c1
  go_upto_region 5 with (fail)
  obtain ⟨w8, hw8⟩ : ∃ w8, w7.alloc (Obj.cells #[.slice a7 2 c7, .int .i64 2] 24) = w8 := ⟨_, rfl⟩
  have b68 : Below w6.heap.size w6 w8 := by rw [← hw8]; exact b7.alloc b7.size _
  have F8 := And.intro ((b68.block _ (lt_of_some HF6.out.1)).trans HF6.out.1) (And.intro (HF6.out.2.1.below b68) (HF6.out.2.2.trans (b68.mono HF6.out.2.2.size)))
  have HF8 := hid F8
  rw [hw8]
  clear F8 b68 b7 P4 HF6 hw8
  have c0 : w8.cell? ⟨B, 0, none⟩ = some (.slice a5 2 c5) := cell_of HF8.out.1
  have c1 : w8.cell? ⟨B, 1, none⟩ = some (.int .i64 2) := cell_of HF8.out.1
  have P5 : Hid (Calls Try.prog 12 #[.agg #[.slice a5 2 c5, .int .i64 2], .int .i64 0] w8 (AtPost w8 none)) := at_any w8 _ (.agg #[.slice a5 2 c5, .int .i64 2]) ⟨[nInd 0, nNum 7], 2⟩ 0 HF8.out.2.1 (in_small (by decide) (by decide)) (by simp) (by simp [nInd, nNum])
  go_wp2_with fail
  refine P5.out.mono ?_
  rintro e w9 ⟨rfl, b9⟩
  clear c0 c1
  go_upto_region 6 with (fail)
  obtain ⟨w10, hw10⟩ : ∃ w10, w9.alloc (Obj.cells #[.int .i64 0, .int .i64 0, .string ⟨#[]⟩, .slice none 0 0] 27) = w10 := ⟨_, rfl⟩
  have b810 : Below w8.heap.size w8 w10 := by rw [← hw10]; exact b9.alloc b9.size _
  have F10 := And.intro ((b810.block _ (lt_of_some HF8.out.1)).trans HF8.out.1) (And.intro (HF8.out.2.1.below b810) (HF8.out.2.2.trans (b810.mono HF8.out.2.2.size)))
  have HF10 := hid F10
  rw [hw10]
  clear F10 b810 b9 P5 HF8 hw10
  have c0 : w10.cell? ⟨B, 0, none⟩ = some (.slice a5 2 c5) := cell_of HF10.out.1
  have c1 : w10.cell? ⟨B, 1, none⟩ = some (.int .i64 2) := cell_of HF10.out.1
  have hA := (Below.refl w10.heap.size w10).alloc (Nat.le_refl _) (.cells #[.int .i64 1] 3)
  have P6 : Hid (Calls Try.prog 10 #[.agg #[.slice a5 2 c5, .int .i64 2], .int .i64 0, .agg #[.int .i64 6, .int .i64 0, .string ⟨#[]⟩, .slice (some ⟨w10.heap.size, 0, none⟩) 1 1]] (w10.alloc (.cells #[.int .i64 1] 3)) fun e w' => ∃ a c, e = .returned (.tuple #[.agg #[.slice a 2 c, .int .i64 2], .int .i64 0]) ∧ HVal w' (fun _ => True) (.agg #[.slice a 2 c, .int .i64 2]) ⟨[nInd 1, nNum 7], 2⟩ ∧ Below (w10.alloc (.cells #[.int .i64 1] 3)).heap.size (w10.alloc (.cells #[.int .i64 1] 3)) w') := by
    refine (set_any _ _ _ _ _ ⟨[nInd 0, nNum 7], 2⟩ 0 (nInd 1) (HF10.out.2.1.below hA) (in_small (by decide) (by decide)) (nval_ind w10 1 (by decide) (by decide)) (by simp) (by decide)).mono ?_
    rintro e w7 ⟨v7, rfl, hv7, b7⟩
    have hm : mayN (nInd 1) 2 = true := may_ind (by decide) (by decide)
    have hE : setBad ⟨[nInd 0, nNum 7], 2⟩ 0 (nInd 1) = false := by
      show (decide ((0 : Int) < 0) || decide ((2 : Int) ≤ 0) || !mayN (nInd 1) 2) = false
      rw [hm]; rfl
    have hH : setH ⟨[nInd 0, nNum 7], 2⟩ 0 (nInd 1) = ⟨[nInd 1, nNum 7], 2⟩ := by rw [setH, hE]; rfl
    rw [hH] at hv7
    obtain ⟨a7, c7, rfl⟩ := hv7.shape
    exact ⟨a7, c7, by rw [setE, hE]; rfl, hv7.all, b7⟩
  have HA := hid hA
  clear hA
  go_wp2_with fail
  refine P6.out.mono ?_
  rintro e w11 ⟨a11, c11, rfl, hv11, b11⟩
  clear c0 c1
  go_upto_region 7 with (fail)
  obtain ⟨w12, hw12⟩ : ∃ w12, w11.alloc (Obj.cells #[.slice a11 2 c11, .int .i64 2] 24) = w12 := ⟨_, rfl⟩
  have b112 : Below w11.heap.size w11 w12 := by rw [← hw12]; exact (Below.refl _ _).alloc (Nat.le_refl _) _
  have hK : w12.heap[w11.heap.size]? = some (Obj.cells #[.slice a11 2 c11, .int .i64 2] 24) := by rw [← hw12]; exact World.alloc_heap_new _ _
  obtain ⟨K, hKe⟩ : ∃ K, w11.heap.size = K := ⟨_, rfl⟩
  have b1011 := HA.out.trans (b11.mono HA.out.size)
  have bw11 := HF10.out.2.2.trans (b1011.mono HF10.out.2.2.size)
  have F12 := And.intro (hKe ▸ hK) (And.intro (hv11.below b112) (bw11.trans (b112.mono bw11.size)))
  have HF12 := hid F12
  rw [hw12, hKe]
  clear F12 hv11 b11 b112 b1011 bw11 hK HA P6 HF10 hw12 hKe
  have c0 : w12.cell? ⟨K, 0, none⟩ = some (.slice a11 2 c11) := cell_of HF12.out.1
  have c1 : w12.cell? ⟨K, 1, none⟩ = some (.int .i64 2) := cell_of HF12.out.1
  have P7 : Hid (Calls Try.prog 12 #[.agg #[.slice a11 2 c11, .int .i64 2], .int .i64 0] w12 (AtPost w12 (some (nNum 7, 1)))) := at_any w12 _ (.agg #[.slice a11 2 c11, .int .i64 2]) ⟨[nInd 1, nNum 7], 2⟩ 0 HF12.out.2.1 (in_small (by decide) (by decide)) (by simp) (by simp [nInd, nNum])
  go_wp2_with fail
  refine P7.out.mono ?_
  rintro e w13 ⟨v13, rfl, ⟨sx, cx, rfl, _, _, _⟩, b13⟩
  clear c0 c1
  go_upto_region 8 with (fail)
  obtain ⟨w14, hw14⟩ : ∃ w14, w13.alloc (Obj.cells #[.int .i64 (nNum 7).kind, .int .i64 (nNum 7).num, .string (nNum 7).name, .slice sx (nNum 7).kids.length cx] 27) = w14 := ⟨_, rfl⟩
  have hN : w14.heap[w13.heap.size]? = some (Obj.cells #[.int .i64 (nNum 7).kind, .int .i64 (nNum 7).num, .string (nNum 7).name, .slice sx (nNum 7).kids.length cx] 27) := by rw [← hw14]; exact World.alloc_heap_new _ _
  obtain ⟨N, hNe⟩ : ∃ N, w13.heap.size = N := ⟨_, rfl⟩
  rw [hNe] at hN
  have b1214 : Below w12.heap.size w12 w14 := by rw [← hw14]; exact b13.alloc b13.size _
  have HF14 := hid (And.intro ((b1214.block _ (lt_of_some HF12.out.1)).trans HF12.out.1) (And.intro (HF12.out.2.1.below b1214) (And.intro (HF12.out.2.2.trans (b1214.mono HF12.out.2.2.size)) hN)))
  rw [hw14, hNe]
  clear b1214 b13 P7 HF12 hw14 hN hNe
  have P8 : Hid (Calls Try.prog 14 #[.int .i64 (-1)] w14 fun e w' => e = .returned (.tuple #[.agg #[.slice none 0 0, .int .i64 0], .int .i64 1]) ∧ Below w14.heap.size w14 w') := new_any w14 (-1) (in_small (by decide) (by decide))
  go_wp2_with fail
  refine P8.out.mono ?_
  rintro e w15 ⟨rfl, b15⟩
  have bA := b15.alloc b15.size (.cells #[.slice none 0 0, .int .i64 0] 24)
  have HK16 := (bA.block _ (lt_of_some HF14.out.1)).trans HF14.out.1
  have HN16 := (bA.block _ (lt_of_some HF14.out.2.2.2)).trans HF14.out.2.2.2
  have hv16 := HF14.out.2.1.below bA
  have bw16 := HF14.out.2.2.1.trans (bA.mono HF14.out.2.2.1.size)
  have k0 : (w15.alloc (.cells #[.slice none 0 0, .int .i64 0] 24)).cell? ⟨K, 0, none⟩ = some (.slice a11 2 c11) := cell_of HK16
  have k1 : (w15.alloc (.cells #[.slice none 0 0, .int .i64 0] 24)).cell? ⟨K, 1, none⟩ = some (.int .i64 2) := cell_of HK16
  have n1 : (w15.alloc (.cells #[.slice none 0 0, .int .i64 0] 24)).cell? ⟨N, 1, none⟩ = some (.int .i64 7) := cell_of HN16
  have hck : chkH ⟨[nInd 1, nNum 7], 2⟩ = true := by simp [chkH, may_ind, may_num]
  have P9' := check_any _ _ _ _ hv16
  rw [hck] at P9'
  have P9 := hid P9'
  have HF16 := hid (And.intro HK16 (And.intro hv16 bw16))
  clear P9' HK16 HN16 hv16 bw16 bA b15 P8 HF14
  go_wp2_with fail
  refine P9.out.mono ?_
  rintro e w17 ⟨rfl, b17⟩
  have HF17 := hid (And.intro ((b17.block _ (lt_of_some HF16.out.1)).trans HF16.out.1) (And.intro (HF16.out.2.1.below b17) (HF16.out.2.2.trans (b17.mono HF16.out.2.2.size))))
  have P10' := check_any w17 _ (.agg #[.slice none 0 0, .int .i64 (-1)]) ⟨[], -1⟩ (hval_nil w17 (-1) (by decide) (by decide))
  rw [show chkH ⟨[], -1⟩ = false from by simp [chkH]] at P10'
  have P10 := hid P10'
  clear P10' b17 P9 HF16 k0 k1 n1
  go_wp2_with fail
  refine P10.out.mono ?_
  rintro e w18 ⟨rfl, b18⟩
  have HF18 := hid (And.intro (HF17.out.2.1.below b18) (HF17.out.2.2.trans (b18.mono HF17.out.2.2.size)))
  have hK := (b18.block _ (lt_of_some HF17.out.1)).trans HF17.out.1
  have k0 : w18.cell? ⟨K, 0, none⟩ = some (.slice a11 2 c11) := cell_of hK
  have k1 : w18.cell? ⟨K, 1, none⟩ = some (.int .i64 2) := cell_of hK
  have P11' := rcheck_any w18 _ _ _ HF18.out.1
  rw [hck] at P11'
  have P11 := hid P11'
  clear P11' b18 P10 HF17 hK hck
  go_wp2_with fail
  refine P11.out.mono ?_
  rintro e w19 ⟨rfl, b19⟩
  have BB := hid (HF18.out.2.trans (b19.mono HF18.out.2.size))
  clear b19 P11 HF18 k0 k1
  go_wp2_with fail
  go_ret
  exact Bb.fin rfl BB.out
end Go.Proofs.Ytlaebhgmkiiniaa
