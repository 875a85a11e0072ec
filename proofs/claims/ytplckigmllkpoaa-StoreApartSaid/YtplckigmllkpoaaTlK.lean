/- tlog.Note. -/
import Derived.Test.YtplckigmllkpoaaTlJ
namespace Go.Proofs.Ytplckigmllkpoaa
open Go.RowKit Go.Shelf Go.Maps
attribute [local go_sem] Oper.semAt_some
def noteRs (R : List Pr) (x : Pr) : List Pr := if R.any (hasV x.1) then R else R ++ [x]
def noteG (l : Lg) (v ver : Int) : Lg × Int := if putOk l v then (⟨noteRs l.reads (v, ver), l.levels⟩, 0) else (l, 170)
theorem idx_any (xs : List Pr) (p : Pr → Bool) : decide (0 ≤ idxP xs p) = xs.any p := by
  unfold idxP
  cases hf : xs.findIdx? p with
  | none => rw [List.findIdx?_eq_none_iff] at hf; rw [eq_comm]; show xs.any p = _; rw [any_false_of (fun i x hx => by have := hf x (List.mem_of_getElem? hx); simpa using this)]; rfl
  | some i =>
    obtain ⟨h1, h2, _⟩ := List.findIdx?_eq_some_iff_getElem.1 hf
    rw [any_true_of (List.getElem?_eq_getElem h1) h2]; simp
/-- One Read more. -/
theorem OwnIn.read {w : World} {B2 B3 : Nat} {R : List Pr} {L : List (List Pr)} {rv sv : Value} {W : World} {x : Pr} (h : OwnIn w B2 B3 R L rv sv W) (hB3 : w.heap.size ≤ B3) (h1 : In x.1) (h2 : In x.2) (hR : R.length ≤ 1000000) (hne : B2 ≠ B3) :
    ∃ v8 w8, (Builtin.append_ #[25, 25] 25 #[rv, .slice (some ⟨W.heap.size, 0, none⟩) 1 1]).run Try.prog (W.alloc (.cells #[.int .i64 x.1, .int .i64 x.2] 48)) = .ok v8 w8 ∧
      w8.heap[B3]? = some (.cells #[rv, sv] 28) ∧ OwnIn w B2 B3 (R ++ [x]) L v8 sv (w8.setCell ⟨B3, 0, none⟩ v8) := by
  obtain ⟨W2, hW2⟩ : ∃ W2, W.alloc (.cells #[.int .i64 x.1, .int .i64 x.2] 48) = W2 := ⟨_, rfl⟩
  have hn2 : W2.heap[W.heap.size]? = some (.cells #[.int .i64 x.1, .int .i64 x.2] 48) := by rw [← hW2]; exact World.alloc_heap_new _ _
  have bW2 : Below W.heap.size W W2 := by rw [← hW2]; exact (Below.refl _ _).alloc (Nat.le_refl _) _
  rw [hW2]
  have hrlt : ∀ b, rv.ownBlock = some b → b < W.heap.size := fun b hb => by obtain ⟨_, c, hc⟩ := h.fr.hr.lt b hb; exact lt_of_some hc
  have h2lt := lt_of_some h.h2
  have h3lt := lt_of_some h.h3
  have hwW := h.bel.size
  have f2 := h.fr.below bW2
  obtain ⟨v', w', hrun, hO, hg, hloc, _⟩ := OSl.append (P := Try.prog) pairGood (by decide) f2.hr 25 25 (.agg #[.int .i64 0, .int .i64 0]) 16 Try.underlying25 infoR rfl ⟨W.heap.size, 0, none⟩ 1 [x] [[.int .i64 x.1, .int .i64 x.2]]
    (Rows.one ⟨rfl, h1, h2⟩) (fun j u hj => by rw [addr_add, Nat.zero_add, cell_of hn2]; simpa using hj) (by simp [Value.oneCell']) (by simp [maxLen]; omega) (by simp; omega) (by have := bW2.size; omega)
  have hfar := h.far
  have k2 : w'.heap[B2]? = _ := (hg.block B2 (by have := bW2.size; omega) (fun e => (hfar.1 B2 e.symm).1 rfl)).trans ((bW2.block _ h2lt).trans h.h2)
  have k3 : w'.heap[B3]? = _ := (hg.block B3 (by have := bW2.size; omega) (fun e => (hfar.1 B3 e.symm).2 rfl)).trans ((bW2.block _ h3lt).trans h.h3)
  have hbel : Below w.heap.size w w' := (h.bel.trans (bW2.mono h.bel.size)).grown hg (by have := bW2.size; omega) (fun k hk => (h.fr.hr.lt k hk).1)
  have hv3 : ∀ b, v'.ownBlock = some b → b ≠ B3 := fun b hb => by
    rcases hloc with e | e
    · rw [e] at hb; exact (hfar.1 b hb).2
    · rw [e] at hb; cases hb; have := bW2.size; omega
  refine ⟨v', w', hrun, k3, hbel.setCell hB3 _, heap_far k2 hne, heap_set k3, ⟨?_, ?_⟩⟩
  · refine hO.keep pairGood ((Same.refl _ _).setCell _ ?_)
    rintro (hb | hb)
    · exact hb
    · exact hv3 B3 hb.symm rfl
  · have g1 := f2.hl.weak levGood (ok' := fun b => w.heap.size ≤ b ∧ some b ≠ rv.ownBlock ∧ ¬ (b = B2 ∨ b = B3) ∧ some b ≠ v'.ownBlock) (fun b hb h' => ⟨h'.1, h'.2.1, h'.2.2, fun e => by
      rcases hloc with e' | e'
      · rw [e'] at e; exact h'.2.1 e
      · rw [e'] at e; cases e; omega⟩)
    have g2 := g1.keep levGood (Same.of_grown hg (fun r hr => .inl fun hb => by
      rcases hb with hb | hb
      · exact hb.2.1 hr.symm
      · exact h.fr.ne r hb.symm hr))
    have g3 := g2.keep levGood ((Same.refl _ _).setCell (a := ⟨B3, 0, none⟩) v' (by
      rintro (hb | hb)
      · exact hb.2.2.1 (.inr rfl)
      · exact (hfar.2 B3 hb.symm).2 rfl))
    exact g3.weak levGood (fun b _ h' => ⟨h'.1, h'.2.2.2, h'.2.2.1⟩)
set_option maxHeartbeats 8000000 in
theorem note_any (w : World) (ok : Nat → Prop) (v : Value) (l : Lg) (z ver : Int) (h : GVal w ok v l) (hz : In z) (ha : In ver) (hs : Okl l 100000) : Calls Try.prog 31 #[v, .int .i64 z, .int .i64 ver] w (LP ok (noteG l z ver) w) := by
  have hG := h
  obtain ⟨ra, rc, la, lc, rfl, hr, hl⟩ := h
  obtain ⟨_, _, e, l1, _⟩ := hr.shape
  cases e
  obtain ⟨_, _, e, l2, _⟩ := hl.shape
  cases e
  clear hr hl
  obtain ⟨W0, hW0⟩ : ∃ W0, ((w.alloc (Obj.cells #[.slice ra l.reads.length rc, .slice la l.levels.length lc] 28)).alloc (Obj.cells #[.int .i64 z] 3)).alloc (Obj.cells #[.slice none 0 0, .slice none 0 0] 28) = W0 := ⟨_, rfl⟩
  have hb0 : Below w.heap.size w W0 := by rw [← hW0]; exact (((Below.refl _ _).alloc (Nat.le_refl _) _).alloc (by simp) _).alloc (by simp; omega) _
  have h0 : W0.heap[w.heap.size]? = some (.cells #[.slice ra l.reads.length rc, .slice la l.levels.length lc] 28) := by rw [← hW0]; exact heap_old (heap_one _ _ _) _
  have hv0 : W0.heap[w.heap.size + 1]? = some (.cells #[.int .i64 z] 3) := by rw [← hW0]; exact heap_old (heap_two _ _ _) _
  have h1 : W0.heap[w.heap.size + 1 + 1]? = some (.cells #[.slice none 0 0, .slice none 0 0] 28) := by rw [← hW0]; have := World.alloc_heap_new ((w.alloc (Obj.cells #[.slice ra l.reads.length rc, .slice la l.levels.length lc] 28)).alloc (Obj.cells #[.int .i64 z] 3)) (Obj.cells #[.slice none 0 0, .slice none 0 0] 28); rw [World.size_alloc, World.size_alloc] at this; exact this
  obtain ⟨q, hq⟩ : ∃ q, q = chkG l := ⟨_, rfl⟩
  have HC := hid (check_any W0 _ _ l (hG.more hb0))
  rw [← hq] at HC
  have HH := hid (And.intro hG (And.intro hb0 (And.intro h0 (And.intro h1 (And.intro hq (And.intro hs hv0))))))
  have HW := hid hW0
  clear hG hb0 h0 h1 hW0 hq hs hv0
  go_enter Try.func31, Try.ntmps31
  go_upto_region 1 with (fail)
  rw [HW.out]
  clear HW
  have c0 : W0.cell? ⟨w.heap.size, 0, none⟩ = some (.slice ra l.reads.length rc) := cell_of HH.out.2.2.1
  have c1 : W0.cell? ⟨w.heap.size, 1, none⟩ = some (.slice la l.levels.length lc) := cell_of HH.out.2.2.1
  go_wp2_with fail
  refine HC.out.mono ?_
  rintro e w1 ⟨rfl, b1⟩
  clear c0 c1 HC
  have k0 := (b1.block _ (lt_of_some HH.out.2.2.1)).trans HH.out.2.2.1
  have k1 := (b1.block _ (lt_of_some HH.out.2.2.2.1)).trans HH.out.2.2.2.1
  have kv := (b1.block _ (lt_of_some HH.out.2.2.2.2.2.2)).trans HH.out.2.2.2.2.2.2
  have bw1 := HH.out.2.1.trans (b1.mono HH.out.2.1.size)
  have c0 : w1.cell? ⟨w.heap.size, 0, none⟩ = some (.slice ra l.reads.length rc) := cell_of k0
  have c1 : w1.cell? ⟨w.heap.size, 1, none⟩ = some (.slice la l.levels.length lc) := cell_of k0
  have cv : w1.cell? ⟨w.heap.size + 1, 0, none⟩ = some (.int .i64 z) := cell_of kv
  have K := hid (And.intro k0 (And.intro k1 (And.intro bw1 kv)))
  clear k0 k1 bw1 b1 kv
  by_cases hd : putOk l z = true
  · obtain rfl : q = true := by rw [HH.out.2.2.2.2.1]; simp [putOk] at hd; exact hd.1
    have f1 : decide (z < 0) = false := by rw [decide_eq_false_iff_not]; simp [putOk] at hd; omega
    have HM := hid hd
    clear hd
    have HO := hid (own_any w1 _ _ l (HH.out.1.more K.out.2.2.1) HH.out.2.2.2.2.2.1.1 HH.out.2.2.2.2.2.1.2.1 HH.out.2.2.2.2.2.1.2.2)
    go_wp2_with fail
    refine HO.out.mono ?_
    rintro e w2 ⟨oa, oc, sa, sc, rfl, hfr, b2⟩
    clear c0 c1 HO cv
    have hlt2 : w.heap.size + 1 + 1 < w2.heap.size := by have := b2.size; have := lt_of_some K.out.2.1; omega
    have kv2 := heap_old ((b2.block _ (lt_of_some K.out.2.2.2)).trans K.out.2.2.2) (Obj.cells #[.slice oa l.reads.length oc, .slice sa l.levels.length sc] 28)
    have hI := OwnIn.make K.out.2.2.1 K.out.2.1 hfr b2
    have HI := hid (And.intro hI kv2)
    clear hfr b2 hI kv2
    go_upto_region 4 with (fail)
    obtain ⟨w3, hw3⟩ : ∃ w3, w2.alloc (Obj.cells #[.slice oa l.reads.length oc, .slice sa l.levels.length sc] 28) = w3 := ⟨_, rfl⟩
    obtain ⟨B3, hB3⟩ : ∃ B3, w2.heap.size = B3 := ⟨_, rfl⟩
    rw [hw3, hB3] at HI
    rw [hw3, hB3]
    have hB : w.heap.size + 1 + 1 < B3 := by omega
    clear hw3 hB3
    have hRl : PSl w3 (fun _ => True) (.slice oa l.reads.length oc) l.reads := HI.out.1.fr.hr.rsl pairGood _ (fun _ _ _ => trivial) (fun _ _ _ => trivial)
    obtain ⟨t, ht⟩ : ∃ t, t = l.reads.any (hasV z) := ⟨_, rfl⟩
    have hcon := containsR 45 #[.pointer (some ⟨w.heap.size + 1, 0, none⟩)] (enters_of Try.func45 (by kernel_rfl) rfl) w3 _ _ l.reads _ hRl (note1_pred w3 (w.heap.size + 1) z (cell_of HI.out.2))
    rw [idx_any, ← ht] at hcon
    have HC := hid hcon
    have HT := hid ht
    have d0 : w3.cell? ⟨B3, 0, none⟩ = some (.slice oa l.reads.length oc) := cell_of HI.out.1.h3
    clear hcon ht hRl
    go_wp2_with fail
    refine HC.out.mono ?_
    rintro e w4 ⟨rfl, b4⟩
    have hI4 := HI.out.1.grow b4
    have kv4 := (b4.block _ (lt_of_some HI.out.2)).trans HI.out.2
    have H4 := hid (And.intro hI4 kv4)
    clear hI4 kv4 b4 HC d0 HI
    cases t
    · obtain ⟨v8, w8, hrun8, k3, hI8⟩ := H4.out.1.read (x := (z, ver)) (by omega) hz ha (by have := HH.out.2.2.2.2.2.1.1; omega) (by omega)
      obtain ⟨a8, c8, rfl⟩ := hI8.fr.hr.shape2
      have hn8 : (l.reads ++ [(z, ver)]).length = l.reads.length + 1 := by simp
      rw [hn8] at hI8 hrun8
      have c4 : w4.cell? ⟨B3, 0, none⟩ = some (.slice oa l.reads.length oc) := cell_of H4.out.1.h3
      have cv : w4.cell? ⟨w.heap.size + 1, 0, none⟩ = some (.int .i64 z) := cell_of H4.out.2
      have f8 : w8.frozen? ⟨B3, 0, none⟩ = false := free_of k3
      have d8 : w8.cell? ⟨B3, 0, none⟩ = some (.slice oa l.reads.length oc) := cell_of k3
      have H8 := hid hI8
      have HR8 := hid hrun8
      have HN := hid hn8
      clear hI8 hrun8 k3 hn8
      go_upto_region 6 with (at_builtin; refine wpList_append_run rfl _ _ _ rfl _ _ rfl rfl _ _ HR8.out ?_)
      obtain ⟨w9, hw9⟩ : ∃ w9, w8.setCell ⟨B3, 0, none⟩ (.slice a8 (l.reads.length + 1) c8) = w9 := ⟨_, rfl⟩
      rw [hw9] at H8
      rw [hw9]
      clear hw9 HR8 d8 f8 c4 cv
      have d0 : w9.cell? ⟨B3, 0, none⟩ = some (.slice a8 (l.reads.length + 1) c8) := cell_of H8.out.h3
      have d1 : w9.cell? ⟨B3, 1, none⟩ = some (.slice sa l.levels.length sc) := cell_of H8.out.h3
      have q0 : w9.cell? ⟨w.heap.size + 1 + 1, 0, none⟩ = some (.slice none 0 0) := cell_of H8.out.h2
      have q1 : w9.cell? ⟨w.heap.size + 1 + 1, 1, none⟩ = some (.slice none 0 0) := cell_of H8.out.h2
      have hf : ∀ i, w9.frozen? ⟨w.heap.size + 1 + 1, i, none⟩ = false := fun i => free_of H8.out.h2
      go_wp2_with fail
      have F := OwnIn.out (R := l.reads ++ [(z, ver)]) (ra := a8) (rc := c8) (by rw [HN.out]; exact H8.out) (by omega)
      rw [HN.out] at F
      have t0 := cell_at (i := 0) (v := .slice a8 (l.reads.length + 1) c8) F.1 rfl
      have t1 := cell_at (i := 1) (v := .slice sa l.levels.length sc) F.1 rfl
      refine bodyPost_ret (v := .tuple #[.agg #[.slice a8 (l.reads.length + 1) c8, .slice sa l.levels.length sc], .int .i64 0]) (by simp [results, Try.results31, go_sem, t0, t1]) rfl ?_
      rw [noteG, if_pos HM.out, noteRs, if_neg (by rw [← HT.out]; simp)]
      rw [← HN.out] at F ⊢
      exact ⟨_, _, _, _, rfl, F.2.1.gval, F.2.2⟩
    · have d0 : w4.cell? ⟨B3, 0, none⟩ = some (.slice oa l.reads.length oc) := cell_of H4.out.1.h3
      have d1 : w4.cell? ⟨B3, 1, none⟩ = some (.slice sa l.levels.length sc) := cell_of H4.out.1.h3
      have q0 : w4.cell? ⟨w.heap.size + 1 + 1, 0, none⟩ = some (.slice none 0 0) := cell_of H4.out.1.h2
      have q1 : w4.cell? ⟨w.heap.size + 1 + 1, 1, none⟩ = some (.slice none 0 0) := cell_of H4.out.1.h2
      have hf : ∀ i, w4.frozen? ⟨w.heap.size + 1 + 1, i, none⟩ = false := fun i => free_of H4.out.1.h2
      go_wp2_with fail
      have F := OwnIn.out (R := l.reads) (ra := oa) (rc := oc) (by exact H4.out.1) (by omega)
      skip
      have t0 := cell_at (i := 0) (v := .slice oa l.reads.length oc) F.1 rfl
      have t1 := cell_at (i := 1) (v := .slice sa l.levels.length sc) F.1 rfl
      refine bodyPost_ret (v := .tuple #[.agg #[.slice oa l.reads.length oc, .slice sa l.levels.length sc], .int .i64 0]) (by simp [results, Try.results31, go_sem, t0, t1]) rfl ?_
      rw [noteG, if_pos HM.out, noteRs, if_pos HT.out.symm]
      exact LP.of (r := ⟨l.reads, l.levels⟩) rfl F.2.1 F.2.2
  · have HD := hid hd
    have hq2 : q = true → z < 0 := fun e => by have h := HH.out.2.2.2.2.1; simp [putOk, ← h, e] at hd; omega
    have q0 : w1.cell? ⟨w.heap.size + 1 + 1, 0, none⟩ = some (.slice none 0 0) := cell_of K.out.2.1
    have q1 : w1.cell? ⟨w.heap.size + 1 + 1, 1, none⟩ = some (.slice none 0 0) := cell_of K.out.2.1
    have hf : ∀ i, w1.frozen? ⟨w.heap.size + 1 + 1, i, none⟩ = false := fun i => free_of K.out.2.1
    clear hd
    cases q
    · clear hq2
      go_wp2_with fail
      have F := back_out K.out.2.1 (by omega) K.out.2.2.1 HH.out.1
      have t0 := cell_at (i := 0) (v := .slice ra l.reads.length rc) F.1 rfl
      have t1 := cell_at (i := 1) (v := .slice la l.levels.length lc) F.1 rfl
      refine bodyPost_ret (v := .tuple #[.agg #[.slice ra l.reads.length rc, .slice la l.levels.length lc], .int .i64 170]) (by simp [results, Try.results31, go_sem, t0, t1]) rfl ?_
      rw [noteG, if_neg HD.out]
      exact ⟨_, _, _, _, rfl, F.2.1, F.2.2⟩
    · have f1 : decide (z < 0) = true := by rw [decide_eq_true_iff]; exact hq2 rfl
      clear hq2
      go_wp2_with fail
      have F := back_out K.out.2.1 (by omega) K.out.2.2.1 HH.out.1
      have t0 := cell_at (i := 0) (v := .slice ra l.reads.length rc) F.1 rfl
      have t1 := cell_at (i := 1) (v := .slice la l.levels.length lc) F.1 rfl
      refine bodyPost_ret (v := .tuple #[.agg #[.slice ra l.reads.length rc, .slice la l.levels.length lc], .int .i64 170]) (by simp [results, Try.results31, go_sem, t0, t1]) rfl ?_
      rw [noteG, if_neg HD.out]
      exact ⟨_, _, _, _, rfl, F.2.1, F.2.2⟩
end Go.Proofs.Ytplckigmllkpoaa
