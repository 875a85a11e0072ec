/- heap.Alloc: what it returns. -/
import Derived.Test.YtlaebhgmkiiniaaHeapE
import Derived.Test.YtlaebhgmkiiniaaClip
namespace Go.Proofs.Ytlaebhgmkiiniaa
open Go.RowKit Go.Shelf
attribute [local go_sem] Oper.semAt_some
def allocE (h : Hp) (x : Nd) : Int := if h.most ≤ h.nodes.length then 130 else if mayN x (h.nodes.length + 1) then 0 else 140
def allocH (h : Hp) (x : Nd) : Hp := if allocE h x = 0 then { h with nodes := h.nodes ++ [x] } else h
def allocP (h : Hp) (x : Nd) : Int := if allocE h x = 0 then h.nodes.length else 0
def AllocPost (ok : Nat → Prop) (w : World) (h : Hp) (x : Nd) (e : Ending) (w' : World) : Prop :=
  ∃ v, e = .returned (.tuple #[v, .int .i64 (allocP h x), .int .i64 (allocE h x)]) ∧ HVal w' (fun b => ok b ∨ w.heap.size ≤ b) v (allocH h x) ∧ Below w.heap.size w w'
theorem alloc_bad {w w' : World} {h : Hp} {x : Nd} {ok : Nat → Prop} {v : Value} {z : Int} (hb : allocE h x = z ∧ z ≠ 0) (hv : HVal w ok v h) (hw : Below w.heap.size w w') : AllocPost ok w h x (.returned (.tuple #[v, .int .i64 0, .int .i64 z])) w' :=
  ⟨v, by rw [allocP, hb.1, if_neg hb.2], by rw [allocH, hb.1, if_neg hb.2]; exact (hv.below hw).weak (fun b _ h => .inl h), hw⟩
theorem NSl.shape4 {w : World} {ok : Nat → Prop} {v : Value} {xs : List Nd} (h : NSl w ok v xs) : ∃ ao cap, v = .slice ao xs.length cap ∧ xs.length ≤ cap ∧ cap ≤ 9223372036854775807 ∧ (ao = none → cap = 0) := by
  obtain ⟨ao, cap, rfl, h1, h2, h3, _⟩ := h
  unfold maxLen at h2
  exact ⟨ao, cap, rfl, h1, by omega, h3⟩
set_option maxHeartbeats 1000000 in
theorem clip_any (w : World) (a : Option Addr) (n c : Nat) (h : n ≤ c) (hc : c ≤ 9223372036854775807) (h0 : a = none → c = 0) :
    Calls Try.prog 19 #[.slice a n c] w fun e w' => e = .returned (.slice a n n) ∧ w' = w := by
  cases a with
  | none =>
    obtain rfl := h0 rfl
    obtain rfl : n = 0 := by omega
    go_enter Try.func19, Try.ntmps19
    go_wp2
    go_ret
    exact ⟨rfl, rfl⟩
  | some p =>
    go_enter Try.func19, Try.ntmps19
    go_wp2
    go_ret
    exact ⟨rfl, rfl⟩
set_option maxHeartbeats 4000000 in
theorem alloc_any (w : World) (ok ok' : Nat → Prop) (v nv : Value) (h : Hp) (x : Nd) (hh : HVal w ok v h) (hx : NVal w ok' nv x) (hn : h.nodes.length ≤ 1000000) (hkb : x.kids.length ≤ 1000000000) :
    Calls Try.prog 9 #[v, nv] w (AllocPost ok w h x) := by
  have hh0 := hh
  obtain ⟨sa, sc, rfl, hi, hs0⟩ := hh
  have hs : NSl w (fun b => ok b ∧ b < w.heap.size) (.slice sa h.nodes.length sc) h.nodes := hs0.weak nodeGood (by decide) (fun _ hb h => ⟨h, hb⟩)
  clear hs0
  obtain ⟨sk, ck, rfl, hik, hin, hsk⟩ := hx.all
  obtain ⟨ns, most⟩ := h
  simp only at hi hs hn ⊢
  obtain ⟨_, _, e, l1, l1', n1⟩ := hs.shape4
  cases e
  obtain ⟨_, _, e, l2, _⟩ := hsk.shape
  cases e
  obtain ⟨W0, hW0⟩ : ∃ W0, ((w.alloc (Obj.cells #[.slice sa ns.length sc, .int .i64 most] 24)).alloc (Obj.cells #[.int .i64 x.kind, .int .i64 x.num, .string x.name, .slice sk x.kids.length ck] 27)).alloc (Obj.cells #[.slice none 0 0, .int .i64 0] 24) = W0 := ⟨_, rfl⟩
  have hb0 : Below w.heap.size w W0 := by rw [← hW0]; exact (((Below.refl _ _).alloc (Nat.le_refl _) _).alloc (by simp) _).alloc (by simp; omega) _
  have hz0 : W0.heap.size = w.heap.size + 3 := by rw [← hW0]; simp
  have h1 : W0.heap[w.heap.size]? = some (Obj.cells #[.slice sa ns.length sc, .int .i64 most] 24) := by rw [← hW0]; exact heap_old (heap_one _ _ _) _
  have h2 : W0.heap[w.heap.size + 1]? = some (Obj.cells #[.int .i64 x.kind, .int .i64 x.num, .string x.name, .slice sk x.kids.length ck] 27) := by rw [← hW0]; exact heap_old (heap_two _ _ _) _
  have h3 : W0.heap[w.heap.size + 2]? = some (Obj.cells #[.slice none 0 0, .int .i64 0] 24) := by
    rw [← hW0]; have := World.alloc_heap_new ((w.alloc (Obj.cells #[.slice sa ns.length sc, .int .i64 most] 24)).alloc (Obj.cells #[.int .i64 x.kind, .int .i64 x.num, .string x.name, .slice sk x.kids.length ck] 27)) (Obj.cells #[.slice none 0 0, .int .i64 0] 24)
    simpa using this
  have HM := hid (may_any W0 _ x (ns.length + 1) ⟨sk, ck, rfl, hik, hin, hsk.below intGood hb0⟩ ⟨by omega, by omega⟩)
  have HI := hid (And.intro hh0 (And.intro hs (And.intro hsk (And.intro hik (And.intro hin (And.intro hi (And.intro l1 (And.intro l1' n1))))))))
  have HB := hid (And.intro hb0 (And.intro h1 (And.intro h2 h3)))
  have HW := hid hW0
  have HZ := hid hz0
  have l0 : ns.length ≤ 9223372036854775807 := by omega
  clear hs hi hb0 h1 h2 h3 hW0 hz0 hsk hik hin hh0 hx l1 l1' n1
  go_enter Try.func9, Try.ntmps9
  by_cases e1 : most ≤ ns.length
  · have f1 : decide ((ns.length : Int) ≥ most) = true := by simp; omega
    have hE : allocE ⟨ns, most⟩ x = 130 := by simp [allocE, e1]
    go_upto_region 1 with (fail)
    rw [HW.out]
    have h1 := HB.out.2.1
    have h3 := HB.out.2.2.2
    have c0 : W0.cell? ⟨w.heap.size, 0, none⟩ = some (.slice sa ns.length sc) := cell_of h1
    have c1 : W0.cell? ⟨w.heap.size, 1, none⟩ = some (.int .i64 most) := cell_of h1
    have q0 : W0.cell? ⟨w.heap.size + 2, 0, none⟩ = some (.slice none 0 0) := cell_of h3
    have q1 : W0.cell? ⟨w.heap.size + 2, 1, none⟩ = some (.int .i64 0) := cell_of h3
    have hf : ∀ i, W0.frozen? ⟨w.heap.size + 2, i, none⟩ = false := fun i => free_of h3
    have hlt := lt_of_some h3
    have HH3 := hid h3
    clear h1 h3
    go_wp2_with fail
    have g := heap_set (i := 1) (v := .int .i64 most) (heap_set (i := 0) (v := .slice sa ns.length sc) HH3.out)
    have t0 := cell_at (i := 0) (v := .slice sa ns.length sc) g rfl
    have t1 := cell_at (i := 1) (v := .int .i64 most) g rfl
    have hbw := HB.out.1
    exact bodyPost_ret (v := .tuple #[.agg #[.slice sa ns.length sc, .int .i64 most], .int .i64 0, .int .i64 130]) (by simp [results, Try.results9, go_sem, t0, t1]) rfl (alloc_bad ⟨hE, by decide⟩ HI.out.1 (by go_grown))
  have f1 : decide ((ns.length : Int) ≥ most) = false := by simp; omega
  go_upto_region 1 with (fail)
  rw [HW.out]
  have h1 := HB.out.2.1
  have h3 := HB.out.2.2.2
  have c0 : W0.cell? ⟨w.heap.size, 0, none⟩ = some (.slice sa ns.length sc) := cell_of h1
  have c1 : W0.cell? ⟨w.heap.size, 1, none⟩ = some (.int .i64 most) := cell_of h1
  have q0 : W0.cell? ⟨w.heap.size + 2, 0, none⟩ = some (.slice none 0 0) := cell_of h3
  have q1 : W0.cell? ⟨w.heap.size + 2, 1, none⟩ = some (.int .i64 0) := cell_of h3
  have hf : ∀ i, W0.frozen? ⟨w.heap.size + 2, i, none⟩ = false := fun i => free_of h3
  have hlt := lt_of_some h3
  have HH3 := hid h3
  clear h1 h3
  have h2 := HB.out.2.2.1
  have n0 : W0.cell? ⟨w.heap.size + 1, 0, none⟩ = some (.int .i64 x.kind) := cell_of h2
  have n1 : W0.cell? ⟨w.heap.size + 1, 1, none⟩ = some (.int .i64 x.num) := cell_of h2
  have n2 : W0.cell? ⟨w.heap.size + 1, 2, none⟩ = some (.string x.name) := cell_of h2
  have n3 : W0.cell? ⟨w.heap.size + 1, 3, none⟩ = some (.slice sk x.kids.length ck) := cell_of h2
  clear h2
  go_wp2_with fail
  refine HM.out.mono ?_
  rintro e w1 ⟨rfl, b1⟩
  clear c0 c1 q0 q1 hf hlt HH3 n0 n1 n2 n3
  have BB := hid (And.intro (HB.out.1.trans (b1.mono HB.out.1.size)) (And.intro ((b1.block _ (lt_of_some HB.out.2.1)).trans HB.out.2.1) (And.intro ((b1.block _ (lt_of_some HB.out.2.2.1)).trans HB.out.2.2.1) ((b1.block _ (lt_of_some HB.out.2.2.2)).trans HB.out.2.2.2))))
  clear b1 HB HM HW
  cases hm : mayN x (ns.length + 1)
  · have hE : allocE ⟨ns, most⟩ x = 140 := by simp [allocE, e1, hm]
    have h1 := BB.out.2.1
    have h3 := BB.out.2.2.2
    have c0 : w1.cell? ⟨w.heap.size, 0, none⟩ = some (.slice sa ns.length sc) := cell_of h1
    have c1 : w1.cell? ⟨w.heap.size, 1, none⟩ = some (.int .i64 most) := cell_of h1
    have q0 : w1.cell? ⟨w.heap.size + 2, 0, none⟩ = some (.slice none 0 0) := cell_of h3
    have q1 : w1.cell? ⟨w.heap.size + 2, 1, none⟩ = some (.int .i64 0) := cell_of h3
    have hf : ∀ i, w1.frozen? ⟨w.heap.size + 2, i, none⟩ = false := fun i => free_of h3
    have hlt := lt_of_some h3
    have HH3 := hid h3
    clear h1 h3
    go_wp2_with fail
    have g := heap_set (i := 1) (v := .int .i64 most) (heap_set (i := 0) (v := .slice sa ns.length sc) HH3.out)
    have t0 := cell_at (i := 0) (v := .slice sa ns.length sc) g rfl
    have t1 := cell_at (i := 1) (v := .int .i64 most) g rfl
    have hbw := BB.out.1
    exact bodyPost_ret (v := .tuple #[.agg #[.slice sa ns.length sc, .int .i64 most], .int .i64 0, .int .i64 140]) (by simp [results, Try.results9, go_sem, t0, t1]) rfl (alloc_bad ⟨hE, by decide⟩ HI.out.1 (by go_grown))
  · have hE : allocE ⟨ns, most⟩ x = 0 := by simp [allocE, e1, hm]
    go_upto_region 6 with (fail)
    have hclip := fun W => clip_any W sa ns.length sc HI.out.2.2.2.2.2.2.1 HI.out.2.2.2.2.2.2.2.1 HI.out.2.2.2.2.2.2.2.2
    have HO := hid hclip
    clear hclip
    refine (wpIn_wide (n := 9)).1 ?_
    refine wpIn_region_held (fun W => W.heap[w.heap.size + 1]? = some (Obj.cells #[.int .i64 x.kind, .int .i64 x.num, .string x.name, .slice sk x.kids.length ck] 27)) (by kernel_rfl) ?_
    obtain ⟨w5, hw5⟩ : ∃ w5, w1.drew = w5 := ⟨_, rfl⟩
    rw [hw5]
    have b5 : Below w.heap.size w w5 := by rw [← hw5]; exact BB.out.1.drew
    have h51 : w5.heap[w.heap.size]? = some (Obj.cells #[.slice sa ns.length sc, .int .i64 most] 24) := by rw [← hw5]; exact BB.out.2.1
    have h52 : w5.heap[w.heap.size + 1]? = some (Obj.cells #[.int .i64 x.kind, .int .i64 x.num, .string x.name, .slice sk x.kids.length ck] 27) := by rw [← hw5]; exact BB.out.2.2.1
    have h53 : w5.heap[w.heap.size + 2]? = some (Obj.cells #[.slice none 0 0, .int .i64 0] 24) := by rw [← hw5]; exact BB.out.2.2.2
    clear hw5
    have c5 : w5.cell? ⟨w.heap.size, 0, none⟩ = some (.slice sa ns.length sc) := cell_of h51
    have hown := own_any w5 (.agg #[.int .i64 x.kind, .int .i64 x.num, .string x.name, .slice sk x.kids.length ck]) x ⟨sk, ck, rfl, HI.out.2.2.2.1, HI.out.2.2.2.2.1, RSl.below intGood HI.out.2.2.1 b5⟩ hkb
    have hlt5 := lt_of_some h53
    have HOwn := hid hown
    have HB5 := hid b5
    have H51 := hid h51
    have H53 := hid h53
    clear hown b5 h51 h53
    refine wpAnyHF_takeD (i := 0) 24 (v := .pointer (some ⟨w.heap.size, 0, none⟩)) rfl rfl rfl (by kernel_rfl) (by kernel_rfl) (by kernel_rfl) (fun _ _ _ h => h) ⟨.inl ⟨rfl, fun W hW => by simp [execOp, go_sem]⟩, fun W => rfl⟩ h52 ?_
    refine wpAnyHF_takeD (i := 3) 27 (v := .agg #[.int .i64 x.kind, .int .i64 x.num, .string x.name, .slice sk x.kids.length ck]) rfl rfl rfl (by kernel_rfl) (by kernel_rfl) (by kernel_rfl) (fun _ _ _ h => h) ⟨.inl ⟨rfl, fun W hW => by
      have m0 := cell_at (i := 0) (v := .int .i64 x.kind) hW rfl
      have m1 := cell_at (i := 1) (v := .int .i64 x.num) hW rfl
      have m2 := cell_at (i := 2) (v := .string x.name) hW rfl
      have m3 := cell_at (i := 3) (v := .slice sk x.kids.length ck) hW rfl
      simp [execOp, go_sem, m0, m1, m2, m3]⟩, fun W => rfl⟩ h52 ?_
    simp only [Act.put, List.setIfInBounds_toArray, List.set_cons_zero, List.set_cons_succ]
    refine wpAnyHF_one (i := 1) (by kernel_rfl) rfl rfl ?_
    refine wpIn_valueD 25 rfl (w' := w5) (v := .slice sa ns.length sc) (by simp [execOp, go_sem, c5]) ⟨h52, ?_⟩
    simp only [Act.put, List.setIfInBounds_toArray, List.set_cons_zero, List.set_cons_succ]
    refine wpAnyHF_one (i := 2) (by kernel_rfl) rfl rfl ?_
    refine wpIn_callD 26 rfl (P := Try.prog) (f := 19) (args := #[.slice sa ns.length sc]) (by simp [execOp, resolve, invoke, go_sem]) ?_
    refine (HO.out _).mono ?_
    rintro e W ⟨rfl, hWe⟩
    rw [hWe]
    clear hWe W
    refine ⟨_, rfl, h52, ?_⟩
    simp only [Act.put, List.setIfInBounds_toArray, List.set_cons_zero, List.set_cons_succ]
    refine wpAnyHF_one (i := 4) (by kernel_rfl) rfl rfl ?_
    refine wpIn_callD 28 rfl (P := Try.prog) (f := 20) (args := #[.agg #[.int .i64 x.kind, .int .i64 x.num, .string x.name, .slice sk x.kids.length ck]]) (by simp [execOp, resolve, invoke, go_sem]) ?_
    refine HOwn.out.mono ?_
    rintro e w6 ⟨v6, rfl, ⟨sa4, sc4, rfl, _, _, hs4⟩, b6⟩
    have h62 := (b6.block _ (lt_of_some h52)).trans h52
    have h61 := (b6.block _ (lt_of_some H51.out)).trans H51.out
    have H6 := hid (And.intro hs4 (And.intro b6 (And.intro h61 ((b6.block _ (lt_of_some H53.out)).trans H53.out))))
    clear hs4 b6 h61
    refine ⟨_, rfl, h62, ?_⟩
    simp only [Act.put, List.setIfInBounds_toArray, List.set_cons_zero, List.set_cons_succ]
    have h72 : (w6.alloc (.cells #[.int .i64 x.kind, .int .i64 x.num, .string x.name, .slice sa4 x.kids.length sc4] 27)).heap[w.heap.size + 1]? = some (Obj.cells #[.int .i64 x.kind, .int .i64 x.num, .string x.name, .slice sk x.kids.length ck] 27) := heap_old h62 _
    refine wpAnyHF_one (i := 5) (by kernel_rfl) rfl rfl ?_
    refine wpIn_valueD 29 rfl (w' := w6.alloc (.cells #[.int .i64 x.kind, .int .i64 x.num, .string x.name, .slice sa4 x.kids.length sc4] 27)) (v := .slice (some ⟨w6.heap.size, 0, none⟩) 1 1) (by simp [execOp, go_sem]) ⟨h72, ?_⟩
    simp only [Act.put, List.setIfInBounds_toArray, List.set_cons_zero, List.set_cons_succ]
    obtain ⟨v8, w8, hrun8, hfin, hb8⟩ := append_clipped (x := x) (row := [.int .i64 x.kind, .int .i64 x.num, .string x.name, .slice sa4 x.kids.length sc4]) nodeGood (by decide) Try.underlying22 info_node rfl (by decide) ((RSl.below nodeGood HI.out.2.1 (HB5.out.trans (H6.out.2.1.mono HB5.out.size))).weak nodeGood (by decide) (ok' := fun b => (ok b ∨ w.heap.size ≤ b) ∧ b ≠ w.heap.size ∧ b ≠ w.heap.size + 2) (fun b _ h => ⟨.inl h.1, by omega, by omega⟩)) hn ⟨_, rfl, HI.out.2.2.2.1, HI.out.2.2.2.2.1, H6.out.1.weak intGood (by decide) (fun b _ h => ⟨.inr (by have := HB5.out.size; omega), by omega, by omega⟩)⟩ (by simp [Value.oneCell'])
    have shp : ∃ a c, v8 = .slice a (ns.length + 1) c := by obtain ⟨a, c, h, _⟩ := hfin; exact ⟨a, c, by rw [h, List.length_append]; rfl⟩
    obtain ⟨a8, k8, rfl⟩ := shp
    have h82 := (hb8.block _ (lt_of_some h62)).trans h62
    have h81 := (hb8.block _ (lt_of_some H6.out.2.2.1)).trans H6.out.2.2.1
    have h83 := (hb8.block _ (lt_of_some H6.out.2.2.2)).trans H6.out.2.2.2
    have c8 : w8.cell? ⟨w.heap.size, 0, none⟩ = some (.slice sa ns.length sc) := cell_of h81
    have f8 : w8.frozen? ⟨w.heap.size, 0, none⟩ = false := free_of h81
    refine wpAnyHF_one (i := 6) (by kernel_rfl) rfl rfl ?_
    refine wpIn_valueD 30 rfl (w' := w8) (v := .slice a8 (ns.length + 1) k8) (run_append_op (.tmp 26) (.tmp 29) 22 rfl rfl (v := .slice sa ns.length ns.length) (xv := .slice (some ⟨w6.heap.size, 0, none⟩) 1 1) (by simp [go_sem]) (by simp [go_sem]) hrun8) ⟨h82, ?_⟩
    refine wpAnyHF_takeD (i := 7) 31 (v := .pointer (some ⟨w.heap.size, 0, none⟩)) rfl rfl rfl (by kernel_rfl) (by kernel_rfl) (by kernel_rfl) (fun _ _ _ h => h) ⟨.inl ⟨rfl, fun W hW => by simp [execOp, go_sem]⟩, fun W => rfl⟩ h82 ?_
    simp only [Act.put, List.setIfInBounds_toArray, List.set_cons_zero, List.set_cons_succ]
    refine wpAnyHF_one (i := 8) (by kernel_rfl) rfl rfl ?_
    refine wpIn_skip rfl (w' := w8.setCell ⟨w.heap.size, 0, none⟩ (.slice a8 (ns.length + 1) k8)) (by simp [execOp, go_sem, c8, f8]) ⟨heap_far h82 (by simp), ?_⟩
    refine wpAnyHF_done (by kernel_rfl) ?_ _
    have HN := hid (And.intro hfin (And.intro hb8 (And.intro h81 h83)))
    clear hfin hb8 h81 h83 hrun8 c8 f8
    have hlt6 := lt_of_some H6.out.2.2.2
    obtain ⟨w9, hw9⟩ : ∃ w9, w8.setCell ⟨w.heap.size, 0, none⟩ (.slice a8 (ns.length + 1) k8) = w9 := ⟨_, rfl⟩
    have h91 : w9.heap[w.heap.size]? = some (Obj.cells #[.slice a8 (ns.length + 1) k8, .int .i64 most] 24) := by rw [← hw9]; exact heap_set HN.out.2.2.1
    have h93 : w9.heap[w.heap.size + 2]? = some (Obj.cells #[.slice none 0 0, .int .i64 0] 24) := by rw [← hw9]; exact heap_far HN.out.2.2.2 (by simp)
    have hb9 : Below w.heap.size w w9 := by
      rw [← hw9]; have hbw := HB5.out.trans ((H6.out.2.1.mono HB5.out.size).trans (HN.out.2.1.mono (Nat.le_trans HB5.out.size H6.out.2.1.size))); go_grown
    have hs9 : NSl w9 (fun b => (ok b ∨ w.heap.size ≤ b) ∧ b ≠ w.heap.size ∧ b ≠ w.heap.size + 2) (.slice a8 (ns.length + 1) k8) (ns ++ [x]) := by
      rw [← hw9]
      have h := HN.out.1.weak nodeGood (by decide) (ok' := fun b => (ok b ∨ w.heap.size ≤ b) ∧ b ≠ w.heap.size ∧ b ≠ w.heap.size + 2) (fun b _ h => by rcases h with h | h; exact h; exact ⟨.inr (by omega), by omega, by omega⟩)
      exact RSl.keep nodeGood h ((Same.refl _ _).setCell (a := ⟨w.heap.size, 0, none⟩) _ (by simp))
    rw [hw9]
    have HF := hid (And.intro hs9 (And.intro hb9 h93))
    have c0 : w9.cell? ⟨w.heap.size, 0, none⟩ = some (.slice a8 (ns.length + 1) k8) := cell_of h91
    have c1 : w9.cell? ⟨w.heap.size, 1, none⟩ = some (.int .i64 most) := cell_of h91
    have q0 : w9.cell? ⟨w.heap.size + 2, 0, none⟩ = some (.slice none 0 0) := cell_of h93
    have q1 : w9.cell? ⟨w.heap.size + 2, 1, none⟩ = some (.int .i64 0) := cell_of h93
    have hf : ∀ i, w9.frozen? ⟨w.heap.size + 2, i, none⟩ = false := fun i => free_of h93
    have hlt := lt_of_some h93
    clear hw9 h91 h93 hb9 hs9 h52 h62 h72 h82 c5
    gi_wp2
    go_wp2_with fail
    have g := heap_set (i := 1) (v := .int .i64 most) (heap_set (i := 0) (v := .slice a8 (ns.length + 1) k8) HF.out.2.2)
    have t0 := cell_at (i := 0) (v := .slice a8 (ns.length + 1) k8) g rfl
    have t1 := cell_at (i := 1) (v := .int .i64 most) g rfl
    have hbw := HF.out.2.1
    refine bodyPost_ret (v := .tuple #[.agg #[.slice a8 (ns.length + 1) k8, .int .i64 most], .int .i64 ns.length, .int .i64 0]) (by simp [results, Try.results9, go_sem, t0, t1]) rfl ⟨_, by rw [allocP, hE]; rfl, ?_, by go_grown⟩
    rw [allocH, hE]
    have hfin := (RSl.keep nodeGood HF.out.1 (((Same.refl _ _).setCell (a := ⟨w.heap.size + 1 + 1, 0, none⟩) (.slice a8 (ns.length + 1) k8) (by simp)).setCell (a := ⟨w.heap.size + 1 + 1, 1, none⟩) (.int .i64 most) (by simp)))
    exact ⟨a8, k8, by simp, HI.out.2.2.2.2.2.1, by have := RSl.weak nodeGood (by decide) (ok' := fun b => ok b ∨ w.heap.size ≤ b) hfin (fun b _ h => h.1); simpa using this⟩
end Go.Proofs.Ytlaebhgmkiiniaa
