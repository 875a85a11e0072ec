/- heap.Set: what it returns. -/
import Derived.Test.YtlaebhgmkiiniaaHeapD
import Derived.Test.YtlaebhgmkiiniaaCopy
namespace Go.Proofs.Ytlaebhgmkiiniaa
open Go.RowKit Go.Shelf
def setBad (h : Hp) (p : Int) (x : Nd) : Bool := decide (p < 0) || decide ((h.nodes.length : Int) ≤ p) || !mayN x h.nodes.length
def setH (h : Hp) (p : Int) (x : Nd) : Hp := if setBad h p x then h else { h with nodes := h.nodes.set p.toNat x }
def setE (h : Hp) (p : Int) (x : Nd) : Int := if setBad h p x then 140 else 0
theorem HVal.weak {w : World} {ok ok' : Nat → Prop} {v : Value} {x : Hp} (h : HVal w ok v x) (hw : ∀ b, b < w.heap.size → ok b → ok' b) : HVal w ok' v x := by
  obtain ⟨sa, sc, e, i, s⟩ := h; exact ⟨sa, sc, e, i, RSl.weak nodeGood (by decide) s hw⟩
def SetPost (ok : Nat → Prop) (w : World) (h : Hp) (p : Int) (x : Nd) (e : Ending) (w' : World) : Prop :=
  ∃ v, e = .returned (.tuple #[v, .int .i64 (setE h p x)]) ∧ HVal w' (fun b => ok b ∨ w.heap.size ≤ b) v (setH h p x) ∧ Below w.heap.size w w'
theorem info_node : (Try.prog.info? 27).map (fun i => (i.zero, i.size, i.bytes)) = some (some (.agg #[.int .i64 0, .int .i64 0, .string ⟨#[]⟩, .slice none 0 0]), 4, 56) := by kernel_rfl
theorem node_cells : ∀ (w : World) (ok : Nat → Prop) (x : Nd) (row : List Value), NodeE w ok x row → ∀ u ∈ row, u.oneCell' = true := by
  rintro w ok x row ⟨sv, rfl, _, _, hs⟩ u hu
  obtain ⟨a, c, rfl, _⟩ := hs.shape
  simp at hu; rcases hu with rfl | rfl | rfl | rfl <;> rfl
theorem set_bad {w w' : World} {h : Hp} {p : Int} {x : Nd} {ok : Nat → Prop} {v : Value} (hb : setBad h p x = true) (hv : HVal w ok v h) (hw : Below w.heap.size w w') : SetPost ok w h p x (.returned (.tuple #[v, .int .i64 140])) w' :=
  ⟨v, by rw [setE, hb]; rfl, by rw [setH, hb]; exact (hv.below hw).weak (fun b _ h => .inl h), hw⟩
set_option maxHeartbeats 4000000 in
theorem set_any (w : World) (ok ok' : Nat → Prop) (v nv : Value) (h : Hp) (p : Int) (x : Nd) (hh : HVal w ok v h) (hp : In p) (hx : NVal w ok' nv x) (hn : h.nodes.length ≤ 1000000) (hkb : x.kids.length ≤ 1000000000) :
    Calls Try.prog 10 #[v, .int .i64 p, nv] w (SetPost ok w h p x) := by
  have hh0 := hh
  obtain ⟨sa, sc, rfl, hi, hs0⟩ := hh
  have hs : NSl w (fun b => ok b ∧ b < w.heap.size) (.slice sa h.nodes.length sc) h.nodes := hs0.weak nodeGood (by decide) (fun _ hb h => ⟨h, hb⟩)
  clear hs0
  obtain ⟨sk, ck, rfl, hik, hin, hsk⟩ := hx.all
  obtain ⟨ns, most⟩ := h
  simp only at hi hs hn ⊢
  obtain ⟨_, _, e, l1, _⟩ := hs.shape
  cases e
  obtain ⟨_, _, e, l2, _⟩ := hsk.shape
  cases e
  obtain ⟨W0, hW0⟩ : ∃ W0, ((w.alloc (Obj.cells #[.slice sa ns.length sc, .int .i64 most] 24)).alloc (Obj.cells #[.int .i64 x.kind, .int .i64 x.num, .string x.name, .slice sk x.kids.length ck] 27)).alloc (Obj.cells #[.slice none 0 0, .int .i64 0] 24) = W0 := ⟨_, rfl⟩
  have hb0 : Below w.heap.size w W0 := by rw [← hW0]; exact (((Below.refl _ _).alloc (Nat.le_refl _) _).alloc (by simp) _).alloc (by simp; omega) _
  have hz0 : W0.heap.size = w.heap.size + 3 := by rw [← hW0]; simp
  have h1 : W0.heap[w.heap.size]? = some (Obj.cells #[.slice sa ns.length sc, .int .i64 most] 24) := by rw [← hW0]; exact heap_old (heap_one _ _ _) _
  have h2 : W0.heap[w.heap.size + 1]? = some (Obj.cells #[.int .i64 x.kind, .int .i64 x.num, .string x.name, .slice sk x.kids.length ck] 27) := by rw [← hW0]; exact heap_old (heap_two _ _ _) _
  have h3 : W0.heap[w.heap.size + 2]? = some (Obj.cells #[.slice none 0 0, .int .i64 0] 24) := by
    rw [← hW0]; have := World.alloc_heap_new ((w.alloc (Obj.cells #[.slice sa ns.length sc, .int .i64 most] 24)).alloc (Obj.cells #[.int .i64 x.kind, .int .i64 x.num, .string x.name, .slice sk x.kids.length ck] 27)) (Obj.cells #[.slice none 0 0, .int .i64 0] 24)
    simpa using this
  have HM := hid (may_any W0 _ x ns.length ⟨sk, ck, rfl, hik, hin, hsk.below intGood hb0⟩ ⟨by omega, by omega⟩)
  have HI := hid (And.intro hh0 (And.intro hs (And.intro hsk (And.intro hik (And.intro hin hi)))))
  have HB := hid (And.intro hb0 (And.intro h1 (And.intro h2 h3)))
  have HW := hid hW0
  have HZ := hid hz0
  clear hs hi hb0 h1 h2 h3 hW0 hz0 hsk hik hin hh0 hx
  go_enter Try.func10, Try.ntmps10
  by_cases e1 : p < 0
  · have f1 : decide (p < 0) = true := by simp; omega
    go_upto_region 1 with (fail)
    rw [HW.out]
    have h1 := HB.out.2.1
    have h3 := HB.out.2.2.2
    have c0 : W0.cell? ⟨w.heap.size, 0, none⟩ = some (.slice sa ns.length sc) := cell_of h1
    have c1 : W0.cell? ⟨w.heap.size, 1, none⟩ = some (.int .i64 most) := cell_of h1
    have q0 : W0.cell? ⟨w.heap.size + 2, 0, none⟩ = some (.slice none 0 0) := cell_of h3
    have q1 : W0.cell? ⟨w.heap.size + 2, 1, none⟩ = some (.int .i64 0) := cell_of h3
    have hf : ∀ i, W0.frozen? ⟨w.heap.size + 2, i, none⟩ = false := fun i => free_of h3
    have hlt := lt_of_some h3
    have HH3 := hid h3
    clear h1 h3
    go_wp2_with fail
    have g := heap_set (i := 1) (v := .int .i64 most) (heap_set (i := 0) (v := .slice sa ns.length sc) HH3.out)
    have t0 := cell_at (i := 0) (v := .slice sa ns.length sc) g rfl
    have t1 := cell_at (i := 1) (v := .int .i64 most) g rfl
    have hbw := HB.out.1
    exact bodyPost_ret (v := .tuple #[.agg #[.slice sa ns.length sc, .int .i64 most], .int .i64 140]) (by simp [results, Try.results10, go_sem, t0, t1]) rfl (set_bad (by simp [setBad, e1]) HI.out.1 (by go_grown))
  have f1 : decide (p < 0) = false := by simp; omega
  obtain ⟨k, rfl⟩ : ∃ k : Nat, p = k := ⟨p.toNat, by omega⟩
  by_cases e2 : k < ns.length
  · have f2 : decide ((k : Int) ≥ ns.length) = false := by simp; omega
    go_upto_region 1 with (fail)
    rw [HW.out]
    have h1 := HB.out.2.1
    have h3 := HB.out.2.2.2
    have c0 : W0.cell? ⟨w.heap.size, 0, none⟩ = some (.slice sa ns.length sc) := cell_of h1
    have c1 : W0.cell? ⟨w.heap.size, 1, none⟩ = some (.int .i64 most) := cell_of h1
    have q0 : W0.cell? ⟨w.heap.size + 2, 0, none⟩ = some (.slice none 0 0) := cell_of h3
    have q1 : W0.cell? ⟨w.heap.size + 2, 1, none⟩ = some (.int .i64 0) := cell_of h3
    have hf : ∀ i, W0.frozen? ⟨w.heap.size + 2, i, none⟩ = false := fun i => free_of h3
    have hlt := lt_of_some h3
    have HH3 := hid h3
    clear h1 h3
    have h2 := HB.out.2.2.1
    have n0 : W0.cell? ⟨w.heap.size + 1, 0, none⟩ = some (.int .i64 x.kind) := cell_of h2
    have n1 : W0.cell? ⟨w.heap.size + 1, 1, none⟩ = some (.int .i64 x.num) := cell_of h2
    have n2 : W0.cell? ⟨w.heap.size + 1, 2, none⟩ = some (.string x.name) := cell_of h2
    have n3 : W0.cell? ⟨w.heap.size + 1, 3, none⟩ = some (.slice sk x.kids.length ck) := cell_of h2
    clear h2
    go_wp2_with fail
    refine HM.out.mono ?_
    rintro e w1 ⟨rfl, b1⟩
    clear c0 c1 q0 q1 hf hlt HH3 n0 n1 n2 n3
    have BB := hid (And.intro (HB.out.1.trans (b1.mono HB.out.1.size)) (And.intro ((b1.block _ (lt_of_some HB.out.2.1)).trans HB.out.2.1) (And.intro ((b1.block _ (lt_of_some HB.out.2.2.1)).trans HB.out.2.2.1) ((b1.block _ (lt_of_some HB.out.2.2.2)).trans HB.out.2.2.2))))
    clear b1 HB HM HW
    cases hm : mayN x ns.length
    · have h1 := BB.out.2.1
      have h3 := BB.out.2.2.2
      have c0 : w1.cell? ⟨w.heap.size, 0, none⟩ = some (.slice sa ns.length sc) := cell_of h1
      have c1 : w1.cell? ⟨w.heap.size, 1, none⟩ = some (.int .i64 most) := cell_of h1
      have q0 : w1.cell? ⟨w.heap.size + 2, 0, none⟩ = some (.slice none 0 0) := cell_of h3
      have q1 : w1.cell? ⟨w.heap.size + 2, 1, none⟩ = some (.int .i64 0) := cell_of h3
      have hf : ∀ i, w1.frozen? ⟨w.heap.size + 2, i, none⟩ = false := fun i => free_of h3
      have hlt := lt_of_some h3
      have HH3 := hid h3
      clear h1 h3
      go_wp2_with fail
      have g := heap_set (i := 1) (v := .int .i64 most) (heap_set (i := 0) (v := .slice sa ns.length sc) HH3.out)
      have t0 := cell_at (i := 0) (v := .slice sa ns.length sc) g rfl
      have t1 := cell_at (i := 1) (v := .int .i64 most) g rfl
      have hbw := BB.out.1
      exact bodyPost_ret (v := .tuple #[.agg #[.slice sa ns.length sc, .int .i64 most], .int .i64 140]) (by simp [results, Try.results10, go_sem, t0, t1]) rfl (set_bad (by simp [setBad, hm]) HI.out.1 (by go_grown))
    · have h1 := BB.out.2.1
      have c0 : w1.cell? ⟨w.heap.size, 0, none⟩ = some (.slice sa ns.length sc) := cell_of h1
      clear h1
      go_upto_region 4 with (at_make; refine wpList_make_run rfl _ _ 22 rfl 27 Try.underlying22 info_node ns.length rfl rfl (by omega) (by unfold maxLen; omega) ?_)
      have l3 := hn
      obtain ⟨Z, hZ⟩ : ∃ Z, madeCells #[Value.int IntKind.i64 0, Value.int IntKind.i64 0, Value.string { data := #[] }, Value.slice none 0 0] (ns.length * 4) = Z := ⟨_, rfl⟩
      have hZs : Z.size = ns.length * 4 := by rw [← hZ]; exact size_madeCells _ _
      obtain ⟨w2, hw2⟩ : ∃ w2, w1.alloc (Obj.cells Z 27) = w2 := ⟨_, rfl⟩
      have b2 : Below w1.heap.size w1 w2 := by rw [← hw2]; exact (Below.refl _ _).alloc (Nat.le_refl _) _
      have hB : w2.heap[w1.heap.size]? = some (Obj.cells Z 27) := by rw [← hw2]; exact World.alloc_heap_new _ _
      obtain ⟨B, hBe⟩ : ∃ B, B = w1.heap.size := ⟨_, rfl⟩
      rw [hZ, hw2, ← hBe]
      rw [← hBe] at hB b2
      have hBw : w.heap.size + 2 < B := by rw [hBe]; exact lt_of_some BB.out.2.2.2
      have b02 := BB.out.1.trans (b2.mono (by rw [hBe]; exact BB.out.1.size))
      obtain ⟨w3, rows, hcopy, hrows, hB3, b3⟩ := copy_made nodeGood (HI.out.2.1.below b02) node_cells Try.underlying22 (by kernel_rfl) hB hZs 3 ns.length
      have b13 := b2.trans b3
      have h1 := (b13.block _ (by rw [← hBe] at *; omega)).trans BB.out.2.1
      have h2 := (b13.block _ (by omega)).trans BB.out.2.2.1
      have h3 := (b13.block _ (by omega)).trans BB.out.2.2.2
      have c0 : w2.cell? ⟨w.heap.size, 0, none⟩ = some (.slice sa ns.length sc) := cell_of ((b2.block _ (by omega)).trans BB.out.2.1)
      obtain ⟨row, hrow⟩ : ∃ row, rows[k]? = some row := ⟨_, List.getElem?_eq_getElem (by rw [hrows.1]; exact e2)⟩
      have hlen := hrows.len nodeGood
      obtain ⟨_, rfl, _⟩ := hrows.2 k _ row (List.getElem?_eq_getElem e2) hrow
      have hfl : k * 4 + 4 ≤ rows.flatten.length := by rw [flatten_len hlen, hrows.1]; omega
      have m0 := flatten_get hlen hrow (j := 0) rfl
      have m1 := flatten_get hlen hrow (j := 1) rfl
      have m2 := flatten_get hlen hrow (j := 2) rfl
      have m3 := flatten_get hlen hrow (j := 3) rfl
      have HO := hid (own_any w3 _ x ⟨sk, ck, rfl, HI.out.2.2.2.1, HI.out.2.2.2.2.1, RSl.below intGood HI.out.2.2.1 (b02.trans (b3.mono (by omega)))⟩ hkb)
      have HC := hid hcopy
      have HR := hid (And.intro hrows (And.intro hlen (And.intro hfl hrow)))
      have HM4 := hid (And.intro m0 (And.intro m1 (And.intro m2 m3)))
      have HX := hid (And.intro hB3 (And.intro h1 (And.intro h2 (And.intro h3 (And.intro (b02.trans (b3.mono (by omega))) b3)))))
      have HB2 := hid b02
      have HBe := hid hBe
      have HZ2 := hid (And.intro hZ hw2)
      clear hBe hZ hw2
      clear hcopy hrows hlen hfl hrow m0 m1 m2 m3 hB3 h1 h2 h3 b02 b13 b3 b2 hB
      go_upto_region 5 with (refine wpList_copy_run rfl _ _ _ rfl _ _ rfl rfl _ _ HC.out ?_)
      have h2 := HX.out.2.2.1
      have n0 : w3.cell? ⟨w.heap.size + 1, 0, none⟩ = some (.int .i64 x.kind) := cell_of h2
      have n1 : w3.cell? ⟨w.heap.size + 1, 1, none⟩ = some (.int .i64 x.num) := cell_of h2
      have n2 : w3.cell? ⟨w.heap.size + 1, 2, none⟩ = some (.string x.name) := cell_of h2
      have n3 : w3.cell? ⟨w.heap.size + 1, 3, none⟩ = some (.slice sk x.kids.length ck) := cell_of h2
      clear h2
      go_wp2_with fail
      refine HO.out.mono ?_
      rintro e w4 ⟨v4, rfl, ⟨sa4, sc4, rfl, _, _, hs4⟩, b4⟩
      clear n0 n1 n2 n3
      have hB4 := (b4.block _ (lt_of_some HX.out.1)).trans HX.out.1
      have h1 := (b4.block _ (lt_of_some HX.out.2.1)).trans HX.out.2.1
      have h3 := (b4.block _ (lt_of_some HX.out.2.2.2.1)).trans HX.out.2.2.2.1
      have c0 : w4.cell? ⟨w.heap.size, 0, none⟩ = some (.slice sa ns.length sc) := cell_of h1
      have c1 : w4.cell? ⟨w.heap.size, 1, none⟩ = some (.int .i64 most) := cell_of h1
      have q0 : w4.cell? ⟨w.heap.size + 2, 0, none⟩ = some (.slice none 0 0) := cell_of h3
      have q1 : w4.cell? ⟨w.heap.size + 2, 1, none⟩ = some (.int .i64 0) := cell_of h3
      have d0 := cell_at (i := k * 4) hB4 (by have := HM4.out.1; simpa using this)
      have d1 := cell_at (i := k * 4 + 1) hB4 (by have := HM4.out.2.1; simpa using this)
      have d2 := cell_at (i := k * 4 + 2) hB4 (by have := HM4.out.2.2.1; simpa using this)
      have d3 := cell_at (i := k * 4 + 3) hB4 (by have := HM4.out.2.2.2; simpa using this)
      have hf1 : ∀ i, w4.frozen? ⟨w.heap.size, i, none⟩ = false := fun i => free_of h1
      have hf3 : ∀ i, w4.frozen? ⟨w.heap.size + 2, i, none⟩ = false := fun i => free_of h3
      have hfB : ∀ i, w4.frozen? ⟨B, i, none⟩ = false := fun i => free_of hB4
      have HY := hid (And.intro hB4 (And.intro h1 (And.intro h3 (And.intro hs4 (And.intro (HX.out.2.2.2.2.1.trans (b4.mono HX.out.2.2.2.2.1.size)) b4)))))
      clear hB4 h1 h3 hs4 b4 HO
      clear hf1 hf3 c1 q0 q1
      go_upto_region 6 with (fail)
      have hBlt := lt_of_some HX.out.1
      obtain ⟨w5, hw5⟩ : ∃ w5, (((w4.setCell ⟨B, k * 4, none⟩ (.int .i64 x.kind)).setCell ⟨B, k * 4 + 1, none⟩ (.int .i64 x.num)).setCell ⟨B, k * 4 + 2, none⟩ (.string x.name)).setCell ⟨B, k * 4 + 3, none⟩ (.slice sa4 x.kids.length sc4) = w5 := ⟨_, rfl⟩
      have hB5 : w5.heap[B]? = some (.cells ((rows.set k [.int .i64 x.kind, .int .i64 x.num, .string x.name, .slice sa4 x.kids.length sc4]).flatten.toArray) 27) := by
        rw [← hw5, heap_set (heap_set (heap_set (heap_set HY.out.1))), array_set4 _ _ HR.out.2.2.1, flatten_set HR.out.2.1 (List.getElem?_eq_some_iff.1 HR.out.2.2.2).1 rfl]
      have h1 : w5.heap[w.heap.size]? = some (Obj.cells #[.slice sa ns.length sc, .int .i64 most] 24) := by
        rw [← hw5]; refine heap_far (heap_far (heap_far (heap_far HY.out.2.1 ?_) ?_) ?_) ?_ <;> (simp; omega)
      have h3 : w5.heap[w.heap.size + 2]? = some (Obj.cells #[.slice none 0 0, .int .i64 0] 24) := by
        rw [← hw5]; refine heap_far (heap_far (heap_far (heap_far HY.out.2.2.1 ?_) ?_) ?_) ?_ <;> (simp; omega)
      have hb5 : Below w.heap.size w w5 := by
        rw [← hw5]; have hbw := HY.out.2.2.2.2.1; refine (((hbw.setCell ?_ _).setCell ?_ _).setCell ?_ _).setCell ?_ _ <;> (simp; omega)
      have hs5 : ISl w5 (fun b => w3.heap.size ≤ b) (.slice sa4 x.kids.length sc4) x.kids := by
        rw [← hw5]; refine RSl.keep intGood HY.out.2.2.2.1 (((((Same.refl _ _).setCell _ ?_).setCell _ ?_).setCell _ ?_).setCell _ ?_) <;> (simp; omega)
      have hrow5 : NodeE w5 (fun b => (ok b ∨ w.heap.size ≤ b) ∧ b ≠ w.heap.size ∧ b ≠ w.heap.size + 2) x [.int .i64 x.kind, .int .i64 x.num, .string x.name, .slice sa4 x.kids.length sc4] :=
        ⟨_, rfl, HI.out.2.2.2.1, HI.out.2.2.2.2.1, hs5.weak intGood (by decide) (fun b _ h => ⟨.inr (by omega), by omega, by omega⟩)⟩
      have hrows5 : Rows NodeE w5 (fun b => (ok b ∨ w.heap.size ≤ b) ∧ b ≠ w.heap.size ∧ b ≠ w.heap.size + 2) ns rows :=
        (HR.out.1.keep nodeGood (w' := w5) (fun b c e fr hb hc => by rw [hb5.block b hb.2, ← HB2.out.block b hb.2]; exact hc)).weak nodeGood (fun b _ h => ⟨.inl h.1, by omega, by omega⟩)
      have hfin5 := RSl.of_block nodeGood hB5 (hrows5.set (k := k) hrow5) ⟨.inr (by omega), by omega, by omega⟩ (by rw [List.length_set]; unfold maxLen; omega)
      rw [List.length_set] at hfin5
      have c0 : w5.cell? ⟨w.heap.size, 0, none⟩ = some (.slice sa ns.length sc) := cell_of h1
      have c1 : w5.cell? ⟨w.heap.size, 1, none⟩ = some (.int .i64 most) := cell_of h1
      have q0 : w5.cell? ⟨w.heap.size + 2, 0, none⟩ = some (.slice none 0 0) := cell_of h3
      have q1 : w5.cell? ⟨w.heap.size + 2, 1, none⟩ = some (.int .i64 0) := cell_of h3
      have hf1 : ∀ i, w5.frozen? ⟨w.heap.size, i, none⟩ = false := fun i => free_of h1
      have hf3 : ∀ i, w5.frozen? ⟨w.heap.size + 2, i, none⟩ = false := fun i => free_of h3
      rw [hw5]
      have HN := hid (And.intro hfin5 (And.intro h3 hb5))
      clear hw5 hB5 h1 h3 hb5 hs5 hrow5 hrows5 hfin5 d0 d1 d2 d3 hfB hBlt HM4 hZs
      go_wp2_with fail
      have g := heap_set (i := 1) (v := .int .i64 most) (heap_set (i := 0) (v := .slice (some ⟨B, 0, none⟩) ns.length ns.length) (heap_far (a := ⟨w.heap.size, 0, none⟩) (v := .slice (some ⟨B, 0, none⟩) ns.length ns.length) HN.out.2.1 (by simp)))
      have t0 := cell_at (i := 0) (v := .slice (some ⟨B, 0, none⟩) ns.length ns.length) g rfl
      have t1 := cell_at (i := 1) (v := .int .i64 most) g rfl
      have hbw := HN.out.2.2
      have hbad : setBad ⟨ns, most⟩ k x = false := by simp [setBad, hm]; omega
      refine bodyPost_ret (v := .tuple #[.agg #[.slice (some ⟨B, 0, none⟩) ns.length ns.length, .int .i64 most], .int .i64 0]) (by simp [results, Try.results10, go_sem, t0, t1]) rfl ⟨_, by rw [setE, hbad]; rfl, ?_, by go_grown⟩
      rw [setH, hbad]
      have hfin := (RSl.keep nodeGood HN.out.1 ((((Same.refl _ _).setCell (a := ⟨w.heap.size, 0, none⟩) (.slice (some ⟨B, 0, none⟩) ns.length ns.length) (by simp)).setCell (a := ⟨w.heap.size + 1 + 1, 0, none⟩) (.slice (some ⟨B, 0, none⟩) ns.length ns.length) (by simp)).setCell (a := ⟨w.heap.size + 1 + 1, 1, none⟩) (.int .i64 most) (by simp)))
      exact ⟨some ⟨B, 0, none⟩, ns.length, by simp, HI.out.2.2.2.2.2, by have := RSl.weak nodeGood (by decide) (ok' := fun b => ok b ∨ w.heap.size ≤ b) hfin (fun b _ h => h.1); simpa using this⟩
  · have f2 : decide ((k : Int) ≥ ns.length) = true := by simp; omega
    go_upto_region 1 with (fail)
    rw [HW.out]
    have h1 := HB.out.2.1
    have h3 := HB.out.2.2.2
    have c0 : W0.cell? ⟨w.heap.size, 0, none⟩ = some (.slice sa ns.length sc) := cell_of h1
    have c1 : W0.cell? ⟨w.heap.size, 1, none⟩ = some (.int .i64 most) := cell_of h1
    have q0 : W0.cell? ⟨w.heap.size + 2, 0, none⟩ = some (.slice none 0 0) := cell_of h3
    have q1 : W0.cell? ⟨w.heap.size + 2, 1, none⟩ = some (.int .i64 0) := cell_of h3
    have hf : ∀ i, W0.frozen? ⟨w.heap.size + 2, i, none⟩ = false := fun i => free_of h3
    have hlt := lt_of_some h3
    have HH3 := hid h3
    clear h1 h3
    go_wp2_with fail
    have g := heap_set (i := 1) (v := .int .i64 most) (heap_set (i := 0) (v := .slice sa ns.length sc) HH3.out)
    have t0 := cell_at (i := 0) (v := .slice sa ns.length sc) g rfl
    have t1 := cell_at (i := 1) (v := .int .i64 most) g rfl
    have hbw := HB.out.1
    exact bodyPost_ret (v := .tuple #[.agg #[.slice sa ns.length sc, .int .i64 most], .int .i64 140]) (by simp [results, Try.results10, go_sem, t0, t1]) rfl (set_bad (by simp [setBad]; omega) HI.out.1 (by go_grown))
end Go.Proofs.Ytlaebhgmkiiniaa
