/- store.Commit: what it returns. -/
import Derived.Test.YtplckigmllkpoaaStG
import Derived.WalkMore
namespace Go.Proofs.Ytplckigmllkpoaa
open Go.RowKit Go.Shelf Go.Maps
attribute [local go_sem] Oper.semAt_some
def wput (ver : Int) (c : List Pr) (x : Pr) : List Pr := c.set x.1.toNat (x.2, ver)
theorem wput_len (ver : Int) : ∀ (xs : List Pr) (c : List Pr), (xs.foldl (wput ver) c).length = c.length
  | [], _ => rfl
  | x :: xs, c => by rw [List.foldl_cons, wput_len ver xs]; simp [wput]
def commitS (s : St) (l : Lg) : St × List Int × Int :=
  if !chkS s || s.ver == 1099511627776 then (s, [], 181)
  else if !chkG l || !(l.levels.length == 1) then (s, [], 170)
  else if (l.levels.getD 0 []).any (fun x => !thereS s x.1) then (s, [], 170)
  else if !validS s l then (s, [], 180)
  else if (l.levels.getD 0 []).length = 0 then (s, [], 0)
  else (⟨(l.levels.getD 0 []).foldl (wput (s.ver + 1)) s.cells, s.ver + 1⟩, (l.levels.getD 0 []).map (·.1), 0)
theorem com1 {s : St} {l : Lg} (h : chkS s = false) : commitS s l = (s, [], 181) := by simp [commitS, h]
theorem com2 {s : St} {l : Lg} (h : s.ver = 1099511627776) : commitS s l = (s, [], 181) := by simp [commitS, h]
theorem com3 {s : St} {l : Lg} (hq : chkS s = true) (hv : s.ver ≠ 1099511627776) (h : chkG l = false) : commitS s l = (s, [], 170) := by simp [commitS, hq, hv, h]
theorem com3b {s : St} {l : Lg} (hq : chkS s = true) (hv : s.ver ≠ 1099511627776) (h : l.levels.length ≠ 1) : commitS s l = (s, [], 170) := by simp [commitS, hq, hv, h]
structure ComOk (s : St) (l : Lg) (x : List Pr) : Prop where
  q : chkS s = true
  v : s.ver ≠ 1099511627776
  p : chkG l = true
  l1 : l.levels = [x]
theorem ComOk.low {s : St} {l : Lg} {x : List Pr} (h : ComOk s l x) : commitS s l = if x.any (fun x => !thereS s x.1) then (s, [], 170) else if !validS s l then (s, [], 180) else if x.length = 0 then (s, [], 0)
    else (⟨x.foldl (wput (s.ver + 1)) s.cells, s.ver + 1⟩, x.map (·.1), 0) := by
  have e : l.levels.getD 0 [] = x := by rw [h.l1]; rfl
  rw [commitS, e, if_neg (by simp [h.q, h.v]), if_neg (by simp [h.p, h.l1])]
theorem ComOk.bad {s : St} {l : Lg} {x : List Pr} (h : ComOk s l x) {k : Nat} {y : Pr} (hy : x[k]? = some y) (ht : thereS s y.1 = false) : commitS s l = (s, [], 170) := by
  rw [h.low, if_pos (any_true_of hy (by simp [ht]))]
theorem ComOk.all {s : St} {l : Lg} {x : List Pr} (h : ComOk s l x) (ha : ∀ (j : Nat) (y : Pr), j < x.length → x[j]? = some y → thereS s y.1 = true) : commitS s l = if !validS s l then (s, [], 180) else if x.length = 0 then (s, [], 0)
    else (⟨x.foldl (wput (s.ver + 1)) s.cells, s.ver + 1⟩, x.map (·.1), 0) := by
  rw [h.low, if_neg]
  rw [any_false_of (fun i y hy => by rw [ha i y (List.getElem?_eq_some_iff.1 hy).1 hy]; rfl)]; simp
def ComP (ok : Nat → Prop) (r : St × List Int × Int) (w : World) (e : Ending) (w' : World) : Prop := ∃ ra rc va vc, e = .returned (.tuple #[.agg #[.slice ra r.1.cells.length rc, .int .i64 r.1.ver], .slice va r.2.1.length vc, .int .i64 r.2.2]) ∧
  SVal w' (fun b => ok b ∨ w.heap.size ≤ b) (.agg #[.slice ra r.1.cells.length rc, .int .i64 r.1.ver]) r.1 ∧ ISl w' (fun b => w.heap.size ≤ b) (.slice va r.2.1.length vc) r.2.1 ∧ Below w.heap.size w w'
theorem ComP.nil {ok : Nat → Prop} {r : St × List Int × Int} {w w' : World} {t : St} {b : Int} {ra : Option Addr} {rc : Nat} (h : r = (t, [], b)) (h1 : SVal w' (fun b => ok b ∨ w.heap.size ≤ b) (.agg #[.slice ra t.cells.length rc, .int .i64 t.ver]) t) (h2 : Below w.heap.size w w') :
    ComP ok r w (.returned (.tuple #[.agg #[.slice ra t.cells.length rc, .int .i64 t.ver], .slice none 0 0, .int .i64 b])) w' := by subst h; exact ⟨ra, rc, none, 0, rfl, h1, RSl.nil _ _ _ _, h2⟩
theorem ComP.of {ok : Nat → Prop} {r : St × List Int × Int} {w w' : World} {t : St} {vs : List Int} {b : Int} {n : Nat} {ra va : Option Addr} {rc vc : Nat} (h : r = (t, vs, b)) (hn : vs.length = n) (h1 : SVal w' (fun b => ok b ∨ w.heap.size ≤ b) (.agg #[.slice ra t.cells.length rc, .int .i64 t.ver]) t) (h3 : ISl w' (fun b => w.heap.size ≤ b) (.slice va n vc) vs) (h2 : Below w.heap.size w w') :
    ComP ok r w (.returned (.tuple #[.agg #[.slice ra t.cells.length rc, .int .i64 t.ver], .slice va n vc, .int .i64 b])) w' := by subst h hn; exact ⟨ra, rc, va, vc, rfl, h1, h3, h2⟩
theorem OSl.type_ne {α : Type} {R : Enc α} {size : Nat} {e e2 : TypeId} {base : Nat} {w : World} {ok : Nat → Prop} {v : Value} {xs : List α} {Z : Nat} {c : Array Value} {fr : Nat × Nat} (h : OSl R size e base w ok v xs) (hZ : w.heap[Z]? = some (.cells c e2 fr)) (hne : e ≠ e2) : some Z ≠ v.ownBlock := fun h2 => by
  obtain ⟨_, c', hc⟩ := h.lt Z h2.symm
  rw [hZ] at hc; cases hc; exact hne rfl
theorem OSl.far {α : Type} {R : Enc α} {size : Nat} (g : Good R size) {e : TypeId} {base : Nat} {w : World} {v : Value} {xs : List α} (h : OSl R size e base w (fun _ => False) v xs) {Z i : Nat} (u : Value) (hn : some Z ≠ v.ownBlock) : OSl R size e base (w.setCell ⟨Z, i, none⟩ u) (fun _ => False) v xs :=
  h.keep g ((Same.refl _ _).setCell (a := ⟨Z, i, none⟩) u (fun h => h.elim (fun f => f) hn))
theorem OSl.grow {α : Type} {R : Enc α} {size : Nat} (g : Good R size) {e : TypeId} {base : Nat} {w w' : World} {v : Value} {xs : List α} (h : OSl R size e base w (fun _ => False) v xs) {row : Option Nat} (hg : w.grownBy w' row) (hn : ∀ r, row = some r → some r ≠ v.ownBlock) : OSl R size e base w' (fun _ => False) v xs :=
  h.keep g (Same.of_grown hg (fun r hr => .inl (fun h => h.elim (fun f => f) (hn r hr))))
theorem heap_grow {w w' : World} {row : Option Nat} {Z : Nat} {o : Obj} (hg : w.grownBy w' row) (hn : row ≠ some Z) (h : w.heap[Z]? = some o) : w'.heap[Z]? = some o := (hg.block _ (lt_of_some h) (fun e => hn e.symm)).trans h
theorem append_int1g {base : Nat} {w : World} {v : Value} {xs : List Int} {z : Int} (hO : OSl IntE 1 3 base w (fun _ => False) v xs) (hz : In z) (hl : xs.length ≤ 100000) (hb : base ≤ w.heap.size) :
    ∃ a c w', (Builtin.append_ #[29, 29] 29 #[v, .slice (some ⟨w.heap.size, 0, none⟩) 1 1]).run Try.prog (w.alloc (.cells #[.int .i64 z] 3)) = .ok (.slice a (xs.length + 1) c) w' ∧ OSl IntE 1 3 base w' (fun _ => False) (.slice a (xs.length + 1) c) (xs ++ [z]) ∧ (w.alloc (.cells #[.int .i64 z] 3)).grownBy w' v.ownBlock := by
  have hba := (Below.refl w.heap.size w).alloc (Nat.le_refl _) (.cells #[.int .i64 z] 3)
  obtain ⟨v', w', hrun, hO', hg, _, _⟩ := OSl.append (P := Try.prog) intGood (by decide) (hO.below intGood hba) 29 29 (.int .i64 0) 8 Try.underlying29 info_int rfl ⟨w.heap.size, 0, none⟩ 1 [z] [[.int .i64 z]] (Rows.one ⟨rfl, hz⟩)
    (fun j u hj => by rw [addr_add, Nat.zero_add, cell_of (World.alloc_heap_new _ _)]; simpa using hj) (by simp [Value.oneCell']) (by simp [maxLen]; omega) (by simp; omega) (Nat.le_trans hb hba.size)
  obtain ⟨a', c', rfl⟩ := hO'.shape2
  rw [List.length_append] at hrun hO'
  exact ⟨a', c', w', hrun, hO', hg⟩
theorem wrap_in {n : Int} (h : In n) : IntKind.i64.wrap n = n := by
  obtain ⟨h1, h2⟩ := h
  rw [IntKind.wrap_i64]; omega
theorem fold_more' {f : List Pr → Pr → List Pr} {a : List Pr} {xs : List Pr} {k : Nat} {x : Pr} (h : xs[k]? = some x) : (xs.take (k + 1)).foldl f a = f ((xs.take k).foldl f a) x := by
  rw [take_more h, List.foldl_append]; rfl
set_option maxRecDepth 100000 in
set_option maxHeartbeats 8000000 in
theorem commit_any (w : World) (ok ok2 : Nat → Prop) (v v2 : Value) (s : St) (l : Lg) (hh : SVal w ok v s) (hg : GVal w ok2 v2 l) (hlen : s.cells.length ≤ 100000) (hll : ∀ x ∈ l.levels, x.length ≤ 100000) : Calls Try.prog 10 #[v, v2] w (ComP ok (commitS s l) w) := by
  have hh0 := hh
  obtain ⟨sa, sc, rfl, hi, hs⟩ := hh
  obtain ⟨_, _, e, l1, _⟩ := hs.shape
  cases e
  have hg0 := hg
  obtain ⟨ra, rc, la, lc, rfl, hr, hl⟩ := hg
  obtain ⟨_, _, e, l2, _⟩ := hr.shape
  cases e
  obtain ⟨_, _, e, l3, _⟩ := hl.shape
  cases e
  obtain ⟨W0, hW0⟩ : ∃ W0, w.alloc (Obj.cells #[.slice sa s.cells.length sc, .int .i64 s.ver] 24) = W0 := ⟨_, rfl⟩
  have K : Hid (BSt w W0 w.heap.size sa sc s) := by have h := BSt.new (Below.refl _ w) hh0; rw [hW0] at h; exact h
  obtain ⟨W2, hW2⟩ : ∃ W1, W0.alloc (Obj.cells #[.slice ra l.reads.length rc, .slice la l.levels.length lc] 28) = W1 := ⟨_, rfl⟩
  have hs0 : W0.heap.size = w.heap.size + 1 := by rw [← hW0]; simp
  have hs2 : W2.heap.size = w.heap.size + 2 := by rw [← hW2]; simp [hs0]
  have hb1 : Below W0.heap.size W0 W2 := by rw [← hW2]; exact (Below.refl _ _).alloc (Nat.le_refl _) _
  have h1 : W2.heap[w.heap.size + 1]? = some (.cells #[.slice ra l.reads.length rc, .slice la l.levels.length lc] 28) := by rw [← hW2, ← hs0]; exact World.alloc_heap_new _ _
  obtain ⟨W1, hW1⟩ : ∃ W1, W2.alloc (Obj.cells #[.slice none 0 0, .int .i64 0] 24) = W1 := ⟨_, rfl⟩
  have hb2 : Below W2.heap.size W2 W1 := by rw [← hW1]; exact (Below.refl _ _).alloc (Nat.le_refl _) _
  have H2 : Hid (W1.heap[w.heap.size + 2]? = some (.cells #[.slice none 0 0, .int .i64 0] 24)) := by rw [← hW1, ← hs2]; exact World.alloc_heap_new _ _
  have hs1 : W1.heap.size = w.heap.size + 3 := by rw [← hW1]; simp [hs2]
  have hW := hW1
  rw [← hW2, ← hW0] at hW
  have HW := hid hW
  have HI := hid hi
  have HV0 := hid hh0
  have bw1 : Below w.heap.size w W1 := K.out.bel.trans ((hb1.trans (hb2.mono hb1.size)).mono K.out.bel.size)
  replace K := hid ((K.out.more hb1).more hb2)
  have HG := hid (hg0.more bw1)
  have H1 := hid ((hb2.block _ (lt_of_some h1)).trans h1)
  clear hW0 hW1 hW2 hW hb1 hb2 hs hh0 hi hg0 hr hl h1 hs0 hs2 bw1
  obtain ⟨vv, hvv⟩ : ∃ z, IntKind.i64.wrap (s.ver + 1) = z := ⟨_, rfl⟩
  have hvin : In vv := by rw [← hvv, IntKind.wrap_i64]; unfold In; omega
  go_enter Try.func10, Try.ntmps10
  go_upto_region 1 with (fail)
  rw [HW.out]
  clear HW
  go_step3
  have K0 := K
  have G0 := HG
  have H20 := H2
  have H10 := H1
  have B00 : Hid (Below W1.heap.size W1 W1) := Below.refl _ _
  go_upto_region 3 with (fail)
  go_cut [9] (fun s9 wx => ∃ (Z : Nat) (oa : Option Addr) (oc : Nat), s9 = .pointer (some ⟨Z, 0, none⟩) ∧ Hid (wx.heap[Z]? = some (.cells #[.slice oa s.cells.length oc, .int .i64 vv] 24)) ∧ Hid (OSl PairE 2 52 W1.heap.size wx (fun _ => False) (.slice oa s.cells.length oc) s.cells) ∧ Hid (Below W1.heap.size W1 wx) ∧ W1.heap.size ≤ Z)
  case first =>
    obtain ⟨w5, hw5⟩ : ∃ z, W1.drew = z := ⟨_, rfl⟩
    have hlen' : s.cells.length ≤ 1000000 := by omega
    have bd : Below W1.heap.size W1 w5 := by rw [← hw5]; exact (Below.refl _ _).drew
    have hs5 : w5.heap.size = W1.heap.size := by rw [← hw5]; rfl
    have K5 := hid (K.out.more bd)
    have KV := hid K5.out.val
    have C0 : Hid (w5.cell? ⟨w.heap.size, 0, none⟩ = some (.slice sa s.cells.length sc)) := K5.out.c0
    have C1 : Hid (w5.cell? ⟨w.heap.size, 1, none⟩ = some (.int .i64 s.ver)) := K5.out.c1
    have BD := hid bd
    clear bd
    refine (wpIn_wide (n := 9)).1 ?_
    refine wpIn_region_held (fun W => Below w5.heap.size w5 W) (by kernel_rfl) ?_
    rw [hw5]
    clear hw5
    refine wpAnyHF_takeD (i := 0) 12 (v := .agg #[.slice sa s.cells.length sc, .int .i64 s.ver]) rfl rfl rfl (by kernel_rfl) (by kernel_rfl) (by kernel_rfl) (fun _ _ _ h => h) ⟨.inl ⟨rfl, fun W hW => by have m0 := later_cell hW C0.out; have m1 := later_cell hW C1.out; simp [execOp, go_sem, m0, m1]⟩, fun W => rfl⟩ (Below.refl _ _) ?_
    refine wpAnyHF_takeD (i := 2) 14 (v := .pointer (some ⟨w.heap.size, 1, none⟩)) rfl rfl rfl (by kernel_rfl) (by kernel_rfl) (by kernel_rfl) (fun _ _ _ h => h) ⟨.inl ⟨rfl, fun W hW => by simp [execOp, go_sem]⟩, fun W => rfl⟩ (Below.refl _ _) ?_
    refine wpAnyHF_takeD (i := 3) 15 (v := .int .i64 s.ver) rfl rfl rfl (by kernel_rfl) (by kernel_rfl) (by kernel_rfl) (fun _ _ _ h => h) ⟨.inl ⟨rfl, fun W hW => by have m0 := later_cell hW C1.out; simp [execOp, go_sem, m0]⟩, fun W => rfl⟩ (Below.refl _ _) ?_
    simp only [Act.put, List.setIfInBounds_toArray, List.set_cons_zero, List.set_cons_succ]
    refine wpAnyHF_takeD (i := 4) 16 (v := .int .i64 vv) rfl rfl rfl (by kernel_rfl) (by kernel_rfl) (by kernel_rfl) (fun _ _ _ h => h) ⟨.inl ⟨rfl, fun W hW => by simp [execOp, go_sem, hvv]⟩, fun W => rfl⟩ (Below.refl _ _) ?_
    simp only [Act.put, List.setIfInBounds_toArray, List.set_cons_zero, List.set_cons_succ]
    refine wpAnyHF_two (i := 1) (j := 6) (by kernel_rfl) rfl rfl rfl rfl ?_ ?_
    · refine wpIn_callD 13 rfl (P := Try.prog) (f := 32) (args := #[.agg #[.slice sa s.cells.length sc, .int .i64 s.ver]]) (by simp [execOp, resolve, invoke, go_sem]) ?_
      refine (sown_any w5 _ _ s KV.out hlen').mono ?_
      rintro e w6 ⟨oa, oc, rfl, hO0, b6'⟩
      have hO := OSl.base hO0 (base' := W1.heap.size) (by rw [← hs5]; exact Nat.le_refl _)
      have b6 : Below w5.heap.size w5 w6 := b6'
      refine ⟨_, rfl, b6, ?_⟩
      simp only [Act.put, List.setIfInBounds_toArray, List.set_cons_zero, List.set_cons_succ]
      refine wpAnyHF_takeD (i := 5) 17 (v := .agg #[.slice oa s.cells.length oc, .int .i64 vv]) rfl rfl rfl (by kernel_rfl) (by kernel_rfl) (by kernel_rfl) (fun _ _ _ h => h) ⟨.inl ⟨rfl, fun W hW => by simp [execOp, go_sem]⟩, fun W => rfl⟩ b6 ?_
      simp only [Act.put, List.setIfInBounds_toArray, List.set_cons_zero, List.set_cons_succ]
      have hs6 := b6.size
      refine wpAnyHF_one (i := 6) (by kernel_rfl) rfl rfl ?_
      obtain ⟨w7, hw7⟩ : ∃ z, w6.alloc (.cells #[.slice none 0 0, .int .i64 0] 24) = z := ⟨_, rfl⟩
      have b7' : Below w6.heap.size w6 w7 := by rw [← hw7]; exact (Below.refl _ _).alloc (Nat.le_refl _) _
      have hZ : w7.heap[w6.heap.size]? = some (.cells #[.slice none 0 0, .int .i64 0] 24) := by rw [← hw7]; exact World.alloc_heap_new _ _
      have b7 : Below w5.heap.size w5 w7 := b6.trans (b7'.mono b6.size)
      refine wpIn_valueD 9 rfl (w' := w7) (v := .pointer (some ⟨w6.heap.size, 0, none⟩)) (by rw [← hw7]; simp [execOp, go_sem]) ⟨b7, ?_⟩
      simp only [Act.put, List.setIfInBounds_toArray, List.set_cons_zero, List.set_cons_succ]
      replace hO := hO.below pairGood b7'
      have z0 : w7.cell? ⟨w6.heap.size, 0, none⟩ = some (.slice none 0 0) := cell_of hZ
      have z1 : w7.cell? ⟨w6.heap.size, 1, none⟩ = some (.int .i64 0) := cell_of hZ
      have zf : ∀ i, w7.frozen? ⟨w6.heap.size, i, none⟩ = false := fun i => free_of hZ
      have hne : some w6.heap.size ≠ (Value.slice oa s.cells.length oc).ownBlock := hO.type_ne hZ (by decide)
      obtain ⟨w9, hw9⟩ : ∃ z, (w7.setCell ⟨w6.heap.size, 0, none⟩ (.slice oa s.cells.length oc)).setCell ⟨w6.heap.size, 1, none⟩ (.int .i64 vv) = z := ⟨_, rfl⟩
      have hO9 : OSl PairE 2 52 W1.heap.size w9 (fun _ => False) (.slice oa s.cells.length oc) s.cells := by rw [← hw9]; exact (hO.far pairGood _ hne).far pairGood _ hne
      have hZ9 : w9.heap[w6.heap.size]? = some (.cells #[.slice oa s.cells.length oc, .int .i64 vv] 24) := by rw [← hw9]; exact heap_set (i := 1) (heap_set (i := 0) hZ)
      have b9 : Below w5.heap.size w5 w9 := by rw [← hw9]; exact (b7.setCell (p := ⟨w6.heap.size, 0, none⟩) (by simp only; omega) _).setCell (p := ⟨w6.heap.size, 1, none⟩) (by simp only; omega) _
      have hZs : W1.heap.size ≤ w6.heap.size := by omega
      refine wpAnyHF_one (i := 7) (by kernel_rfl) rfl rfl ?_
      refine wpIn_skip rfl (w' := w9) (by rw [← hw9]; simp [execOp, go_sem, z0, z1, zf]) ⟨b9, ?_⟩
      refine wpAnyHF_done (by kernel_rfl) ?_ _
      have HO9 := hid hO9
      have HZ9 := hid hZ9
      have HB9 := hid (BD.out.trans (b9.mono BD.out.size))
      clear z0 z1 zf hne hw9 hO9 hZ9 b9 hZ hO hO0
      gi_wp2
      go_wp2_with fail
      go_meet
      case rel => exact ⟨_, oa, oc, rfl, HZ9, HO9, HB9, hZs⟩
    · obtain ⟨w6, hw6⟩ : ∃ z, w5.alloc (.cells #[.slice none 0 0, .int .i64 0] 24) = z := ⟨_, rfl⟩
      have b6' : Below w5.heap.size w5 w6 := by rw [← hw6]; exact (Below.refl _ _).alloc (Nat.le_refl _) _
      have hZ : w6.heap[w5.heap.size]? = some (.cells #[.slice none 0 0, .int .i64 0] 24) := by rw [← hw6]; exact World.alloc_heap_new _ _
      have b6 : Below w5.heap.size w5 w6 := b6'
      refine wpIn_valueD 9 rfl (w' := w6) (v := .pointer (some ⟨w5.heap.size, 0, none⟩)) (by rw [← hw6]; simp [execOp, go_sem]) ⟨b6, ?_⟩
      simp only [Act.put, List.setIfInBounds_toArray, List.set_cons_zero, List.set_cons_succ]
      have hs6 := b6.size
      refine wpAnyHF_one (i := 1) (by kernel_rfl) rfl rfl ?_
      refine wpIn_callD 13 rfl (P := Try.prog) (f := 32) (args := #[.agg #[.slice sa s.cells.length sc, .int .i64 s.ver]]) (by simp [execOp, resolve, invoke, go_sem]) ?_
      refine (sown_any w6 _ _ s (KV.out.more b6) hlen').mono ?_
      rintro e w7 ⟨oa, oc, rfl, hO0, b7'⟩
      have hO := OSl.base hO0 (base' := W1.heap.size) (by rw [← hs5]; exact b6.size)
      have b7 : Below w5.heap.size w5 w7 := b6.trans (b7'.mono b6.size)
      refine ⟨_, rfl, b7, ?_⟩
      simp only [Act.put, List.setIfInBounds_toArray, List.set_cons_zero, List.set_cons_succ]
      replace hZ := (b7'.block _ (lt_of_some hZ)).trans hZ
      refine wpAnyHF_takeD (i := 5) 17 (v := .agg #[.slice oa s.cells.length oc, .int .i64 vv]) rfl rfl rfl (by kernel_rfl) (by kernel_rfl) (by kernel_rfl) (fun _ _ _ h => h) ⟨.inl ⟨rfl, fun W hW => by simp [execOp, go_sem]⟩, fun W => rfl⟩ b7 ?_
      simp only [Act.put, List.setIfInBounds_toArray, List.set_cons_zero, List.set_cons_succ]
      have z0 : w7.cell? ⟨w5.heap.size, 0, none⟩ = some (.slice none 0 0) := cell_of hZ
      have z1 : w7.cell? ⟨w5.heap.size, 1, none⟩ = some (.int .i64 0) := cell_of hZ
      have zf : ∀ i, w7.frozen? ⟨w5.heap.size, i, none⟩ = false := fun i => free_of hZ
      have hne : some w5.heap.size ≠ (Value.slice oa s.cells.length oc).ownBlock := hO.type_ne hZ (by decide)
      obtain ⟨w9, hw9⟩ : ∃ z, (w7.setCell ⟨w5.heap.size, 0, none⟩ (.slice oa s.cells.length oc)).setCell ⟨w5.heap.size, 1, none⟩ (.int .i64 vv) = z := ⟨_, rfl⟩
      have hO9 : OSl PairE 2 52 W1.heap.size w9 (fun _ => False) (.slice oa s.cells.length oc) s.cells := by rw [← hw9]; exact (hO.far pairGood _ hne).far pairGood _ hne
      have hZ9 : w9.heap[w5.heap.size]? = some (.cells #[.slice oa s.cells.length oc, .int .i64 vv] 24) := by rw [← hw9]; exact heap_set (i := 1) (heap_set (i := 0) hZ)
      have b9 : Below w5.heap.size w5 w9 := by rw [← hw9]; exact (b7.setCell (p := ⟨w5.heap.size, 0, none⟩) (by simp only; omega) _).setCell (p := ⟨w5.heap.size, 1, none⟩) (by simp only; omega) _
      have hZs : W1.heap.size ≤ w5.heap.size := by omega
      refine wpAnyHF_one (i := 7) (by kernel_rfl) rfl rfl ?_
      refine wpIn_skip rfl (w' := w9) (by rw [← hw9]; simp [execOp, go_sem, z0, z1, zf]) ⟨b9, ?_⟩
      refine wpAnyHF_done (by kernel_rfl) ?_ _
      have HO9 := hid hO9
      have HZ9 := hid hZ9
      have HB9 := hid (BD.out.trans (b9.mono BD.out.size))
      clear z0 z1 zf hne hw9 hO9 hZ9 b9 hZ hO hO0
      gi_wp2
      go_wp2_with fail
      go_meet
      case rel => exact ⟨_, oa, oc, rfl, HZ9, HO9, HB9, hZs⟩
  case rest =>
    obtain ⟨Z, oa, oc, rfl, HZ, HO, HB, hZs⟩ := hcut
    obtain ⟨w2, hw6⟩ : ∃ z, z = wc := ⟨_, rfl⟩
    subst hw6
    have B0 : Hid (Below W1.heap.size W1 w2) := HB
    have b := HB.out
    replace K := hid (K.out.more b)
    replace H2 := hid ((b.block _ (lt_of_some H2.out)).trans H2.out)
    replace HG := hid (HG.out.more b)
    replace H1 := hid ((b.block _ (lt_of_some H1.out)).trans H1.out)
    clear b HB
    obtain ⟨q, hq⟩ : ∃ q, q = chkS s := ⟨_, rfl⟩
    have HQ := hid hq
    have c0 : w2.cell? ⟨w.heap.size, 0, none⟩ = some (.slice sa s.cells.length sc) := K.out.c0
    have c1 : w2.cell? ⟨w.heap.size, 1, none⟩ = some (.int .i64 s.ver) := K.out.c1
    have P := hid (scheck_any w2 _ _ s K.out.val)
    rw [← hq] at P
    clear hq
    go_wp2_with fail
    go_step3
    go_wp2_with fail
    refine P.out.mono ?_
    rintro e w3 ⟨rfl, b⟩
    replace B0 : Hid (Below W1.heap.size W1 w3) := B0.out.trans (b.mono B0.out.size)
    clear P c0 c1
    replace K := hid (K.out.more b)
    replace H2 := hid ((b.block _ (lt_of_some H2.out)).trans H2.out)
    replace HG := hid (HG.out.more b)
    replace H1 := hid ((b.block _ (lt_of_some H1.out)).trans H1.out)
    replace HO := hid (HO.out.below pairGood b)
    replace HZ := hid ((b.block _ (lt_of_some HZ.out)).trans HZ.out)
    have hb1s := H2.out
    have hlt2 := lt_of_some H2.out
    clear hb1s b
    cases q
    · have c0 : w3.cell? ⟨w.heap.size, 0, none⟩ = some (.slice sa s.cells.length sc) := K.out.c0
      have c1 : w3.cell? ⟨w.heap.size, 1, none⟩ = some (.int .i64 s.ver) := K.out.c1
      have q0 : w3.cell? ⟨w.heap.size + 2, 0, none⟩ = some (.slice none 0 0) := cell_of H2.out
      have q1 : w3.cell? ⟨w.heap.size + 2, 1, none⟩ = some (.int .i64 0) := cell_of H2.out
      have qf : ∀ i, w3.frozen? ⟨w.heap.size + 2, i, none⟩ = false := fun i => free_of H2.out
      go_wp2_with fail
      have F := sput_out (w := w) (s := s) (ok := ok) H2.out (by omega) K.out.bel (sback (by omega) HV0.out K.out.bel)
      have t0 := cell_at (i := 0) (v := .slice sa s.cells.length sc) F.1 rfl
      have t1 := cell_at (i := 1) (v := .int .i64 s.ver) F.1 rfl
      exact bodyPost_ret (v := .tuple #[.agg #[.slice sa s.cells.length sc, .int .i64 s.ver], .slice none 0 0, .int .i64 181]) (by simp [results, Try.results10, go_sem, t0, t1]) rfl (ComP.nil (com1 HQ.out.symm) F.2.1 F.2.2)
    by_cases hvl : s.ver = 1099511627776
    · have f1 : (s.ver == 1099511627776) = true := by rw [hvl]; rfl
      have HVL := hid hvl
      clear hvl
      have c0 : w3.cell? ⟨w.heap.size, 0, none⟩ = some (.slice sa s.cells.length sc) := K.out.c0
      have c1 : w3.cell? ⟨w.heap.size, 1, none⟩ = some (.int .i64 s.ver) := K.out.c1
      have q0 : w3.cell? ⟨w.heap.size + 2, 0, none⟩ = some (.slice none 0 0) := cell_of H2.out
      have q1 : w3.cell? ⟨w.heap.size + 2, 1, none⟩ = some (.int .i64 0) := cell_of H2.out
      have qf : ∀ i, w3.frozen? ⟨w.heap.size + 2, i, none⟩ = false := fun i => free_of H2.out
      go_wp2_with fail
      have F := sput_out (w := w) (s := s) (ok := ok) H2.out (by omega) K.out.bel (sback (by omega) HV0.out K.out.bel)
      have t0 := cell_at (i := 0) (v := .slice sa s.cells.length sc) F.1 rfl
      have t1 := cell_at (i := 1) (v := .int .i64 s.ver) F.1 rfl
      exact bodyPost_ret (v := .tuple #[.agg #[.slice sa s.cells.length sc, .int .i64 s.ver], .slice none 0 0, .int .i64 181]) (by simp [results, Try.results10, go_sem, t0, t1]) rfl (ComP.nil (com2 HVL.out) F.2.1 F.2.2)
    have f1 : (s.ver == 1099511627776) = false := by simpa using hvl
    obtain ⟨p, hp⟩ : ∃ p, p = chkG l := ⟨_, rfl⟩
    have HP := hid hp
    have c0 : w3.cell? ⟨w.heap.size, 0, none⟩ = some (.slice sa s.cells.length sc) := K.out.c0
    have c1 : w3.cell? ⟨w.heap.size, 1, none⟩ = some (.int .i64 s.ver) := K.out.c1
    have d0 : w3.cell? ⟨w.heap.size + 1, 0, none⟩ = some (.slice ra l.reads.length rc) := cell_of H1.out
    have d1 : w3.cell? ⟨w.heap.size + 1, 1, none⟩ = some (.slice la l.levels.length lc) := cell_of H1.out
    have P := hid (check_any w3 _ _ l HG.out)
    rw [← hp] at P
    clear hp
    go_wp2_with fail
    refine P.out.mono ?_
    rintro e w4 ⟨rfl, b⟩
    replace B0 : Hid (Below W1.heap.size W1 w4) := B0.out.trans (b.mono B0.out.size)
    clear P c0 c1 d0 d1
    replace K := hid (K.out.more b)
    replace H2 := hid ((b.block _ (lt_of_some H2.out)).trans H2.out)
    replace HG := hid (HG.out.more b)
    replace H1 := hid ((b.block _ (lt_of_some H1.out)).trans H1.out)
    replace HO := hid (HO.out.below pairGood b)
    replace HZ := hid ((b.block _ (lt_of_some HZ.out)).trans HZ.out)
    clear b
    cases p
    · have c0 : w4.cell? ⟨w.heap.size, 0, none⟩ = some (.slice sa s.cells.length sc) := K.out.c0
      have c1 : w4.cell? ⟨w.heap.size, 1, none⟩ = some (.int .i64 s.ver) := K.out.c1
      have q0 : w4.cell? ⟨w.heap.size + 2, 0, none⟩ = some (.slice none 0 0) := cell_of H2.out
      have q1 : w4.cell? ⟨w.heap.size + 2, 1, none⟩ = some (.int .i64 0) := cell_of H2.out
      have qf : ∀ i, w4.frozen? ⟨w.heap.size + 2, i, none⟩ = false := fun i => free_of H2.out
      go_wp2_with fail
      have F := sput_out (w := w) (s := s) (ok := ok) H2.out (by omega) K.out.bel (sback (by omega) HV0.out K.out.bel)
      have t0 := cell_at (i := 0) (v := .slice sa s.cells.length sc) F.1 rfl
      have t1 := cell_at (i := 1) (v := .int .i64 s.ver) F.1 rfl
      exact bodyPost_ret (v := .tuple #[.agg #[.slice sa s.cells.length sc, .int .i64 s.ver], .slice none 0 0, .int .i64 170]) (by simp [results, Try.results10, go_sem, t0, t1]) rfl (ComP.nil (com3 HQ.out.symm hvl HP.out.symm) F.2.1 F.2.2)
    by_cases hl1 : l.levels.length = 1
    · obtain ⟨xs, hxs⟩ := List.length_eq_one_iff.1 hl1
      have HC : Hid (ComOk s l xs) := hid ⟨HQ.out.symm, hvl, HP.out.symm, hxs⟩
      have f2 : ((l.levels.length : Int) != 1) = false := by simp [hl1]
      have f6 : 0 < l.levels.length := by omega
      have hxl := hll xs (by rw [hxs]; simp)
      have hv1 : vv = s.ver + 1 := by have h := HQ.out; simp [chkS] at h; rw [← hvv]; exact wrap_in ⟨by omega, by omega⟩
      have HV1 := hid hv1
      clear hv1
      obtain ⟨_, _, _, _, ev, hrr, hls⟩ := G0.out
      cases ev
      obtain ⟨b4, o4, c4, y4, xa, xc, hv4, hy4, hs4, e4⟩ := hls.at (Below.refl _ _) (k := 0) f6
      cases hv4
      rw [Nat.add_zero] at e4
      obtain rfl : y4 = xs := by rw [hxs] at hy4; simp at hy4; exact hy4.symm
      obtain ⟨_, _, e, l4, _⟩ := hs4.shape
      cases e
      have HXS := hid hs4
      clear hrr hls hy4 hs4 hxs hl1
      have e4 := (B0.out.cell (World.block_lt_of_cell? _ _ e4)).trans e4
      have d1 : w4.cell? ⟨w.heap.size + 1, 1, none⟩ = some (.slice (some ⟨b4, o4, none⟩) l.levels.length lc) := cell_of H1.out
      go_wp2_with fail
      clear d1 e4 f1 f2
      have HO1 : Hid (OSl PairE 2 52 W1.heap.size w4 (fun _ => False) (.slice oa s.cells.length oc) ((y4.take 0).foldl (wput vv) s.cells)) := HO
      have hs4s := K.out.bel.size
      have hW4 : W1.heap.size ≤ w4.heap.size := by have := lt_of_some HZ.out; omega
      go_loopw [7, 8, 23] (fun es vs i wr => ∃ (k : Nat) (va : Option Addr) (vc : Nat), es = .int .i64 0 ∧ k ≤ y4.length ∧ i = .int .i64 k ∧ vs = .slice va k vc ∧ Hid (∀ (j : Nat) (y : Pr), j < k → y4[j]? = some y → thereS s y.1 = true) ∧ Hid (wr.heap[Z]? = some (.cells #[.slice oa s.cells.length oc, .int .i64 vv] 24)) ∧ Hid (OSl PairE 2 52 W1.heap.size wr (fun _ => False) (.slice oa s.cells.length oc) ((y4.take k).foldl (wput vv) s.cells)) ∧ Hid (OSl IntE 1 3 w4.heap.size wr (fun _ => False) (.slice va k vc) ((y4.take k).map (·.1))) ∧ Hid (Below W1.heap.size w4 wr)) (fun _ _ i _ => y4.length - (intOf i).toNat)
      case atStart => exact ⟨0, none, 0, rfl, Nat.zero_le _, rfl, rfl, fun j y hj => absurd hj (by omega), HZ, HO1, OSl.nil _ _ _ _ _ _, Below.refl _ _⟩
      case round =>
        obtain ⟨k, va, vc, rfl, hk, rfl, rfl, HA, HZ1, HOk, HVk, HB⟩ := hrel
        clear HO HO1 HZ
        have hbs := HB.out.size
        have K1 : Hid (BSt w wr w.heap.size sa sc s) := hid (K0.out.more (B0.out.trans HB.out))
        have G1 : Hid (GVal wr ok2 (.agg #[.slice ra l.reads.length rc, .slice (some ⟨b4, o4, none⟩) l.levels.length lc]) l) := hid (G0.out.more (B0.out.trans HB.out))
        have H21 := hid (((B0.out.trans HB.out).block _ (lt_of_some H20.out)).trans H20.out)
        have H11 := hid (((B0.out.trans HB.out).block _ (lt_of_some H10.out)).trans H10.out)
        by_cases hlt : k < y4.length
        · have HB1 := hid (B0.out.trans HB.out)
          obtain ⟨b5, o5, c5, x, hv5, hx, hi1, hi2, e1, e2⟩ := PSl.at HXS.out (Below.refl _ _) hlt
          cases hv5
          replace e1 := (HB1.out.cell (World.block_lt_of_cell? _ _ e1)).trans e1
          replace e2 := (HB1.out.cell (World.block_lt_of_cell? _ _ e2)).trans e2
          have HX := hid hx
          clear hx
          go_upto_region 7 with (fail)
          obtain ⟨w6, hw6⟩ : ∃ z, wr.alloc (Obj.cells #[.int .i64 x.1, .int .i64 x.2] 63) = z := ⟨_, rfl⟩
          have b6 : Below wr.heap.size wr w6 := by rw [← hw6]; exact (Below.refl _ _).alloc (Nat.le_refl _) _
          have h6 : w6.heap[wr.heap.size]? = some (Obj.cells #[.int .i64 x.1, .int .i64 x.2] 63) := by rw [← hw6]; exact World.alloc_heap_new _ _
          rw [hw6]
          clear e1 e2 hw6
          obtain ⟨B6, hB6⟩ : ∃ z, wr.heap.size = z := ⟨_, rfl⟩
          rw [hB6] at h6 ⊢
          replace K1 := hid (K1.out.more b6)
          replace G1 := hid (G1.out.more b6)
          replace H21 := hid ((b6.block _ (lt_of_some H21.out)).trans H21.out)
          replace H11 := hid ((b6.block _ (lt_of_some H11.out)).trans H11.out)
          replace HZ1 := hid ((b6.block _ (lt_of_some HZ1.out)).trans HZ1.out)
          replace HOk := hid (HOk.out.below pairGood b6)
          replace HVk := hid (HVk.out.below intGood b6)
          replace HB := hid (HB.out.trans (b6.mono (Nat.le_trans hW4 hbs)))
          have H6 := hid h6
          clear h6 b6
          obtain ⟨t, ht⟩ : ∃ t, t = thereS s x.1 := ⟨_, rfl⟩
          have HT := hid ht
          have c0 : w6.cell? ⟨w.heap.size, 0, none⟩ = some (.slice sa s.cells.length sc) := K1.out.c0
          have c1 : w6.cell? ⟨w.heap.size, 1, none⟩ = some (.int .i64 s.ver) := K1.out.c1
          have x0 : w6.cell? ⟨B6, 0, none⟩ = some (.int .i64 x.1) := cell_of H6.out
          have P := hid (there_any w6 _ _ s x.1 K1.out.val)
          rw [← ht] at P
          clear ht
          go_wp2_with fail
          refine P.out.mono ?_
          rintro e w7 ⟨rfl, b⟩
          clear P c0 c1 x0
          replace K1 := hid (K1.out.more b)
          replace G1 := hid (G1.out.more b)
          replace H21 := hid ((b.block _ (lt_of_some H21.out)).trans H21.out)
          replace HZ1 := hid ((b.block _ (lt_of_some HZ1.out)).trans HZ1.out)
          replace H6 := hid ((b.block _ (lt_of_some H6.out)).trans H6.out)
          replace HOk := hid (HOk.out.below pairGood b)
          replace HVk := hid (HVk.out.below intGood b)
          have hs7 := HB.out.size
          replace HB := hid (HB.out.trans (b.mono (Nat.le_trans hW4 hs7)))
          clear b hs7
          cases t
          · have c0 : w7.cell? ⟨w.heap.size, 0, none⟩ = some (.slice sa s.cells.length sc) := K1.out.c0
            have c1 : w7.cell? ⟨w.heap.size, 1, none⟩ = some (.int .i64 s.ver) := K1.out.c1
            have q0 : w7.cell? ⟨w.heap.size + 2, 0, none⟩ = some (.slice none 0 0) := cell_of H21.out
            have q1 : w7.cell? ⟨w.heap.size + 2, 1, none⟩ = some (.int .i64 0) := cell_of H21.out
            have qf : ∀ i, w7.frozen? ⟨w.heap.size + 2, i, none⟩ = false := fun i => free_of H21.out
            go_wp2_with fail
            have F := sput_out (w := w) (s := s) (ok := ok) H21.out (by omega) K1.out.bel (sback (by omega) HV0.out K1.out.bel)
            have t0 := cell_at (i := 0) (v := .slice sa s.cells.length sc) F.1 rfl
            have t1 := cell_at (i := 1) (v := .int .i64 s.ver) F.1 rfl
            exact bodyPost_ret (v := .tuple #[.agg #[.slice sa s.cells.length sc, .int .i64 s.ver], .slice none 0 0, .int .i64 170]) (by simp [results, Try.results10, go_sem, t0, t1]) rfl (ComP.nil (HC.out.bad HX.out HT.out.symm) F.2.1 F.2.2)
          · obtain ⟨j, hj, hjn⟩ := there_nat HT.out.symm
            have hcl := wput_len vv (y4.take k) s.cells
            obtain ⟨y, hy⟩ : ∃ y, ((y4.take k).foldl (wput vv) s.cells)[j]? = some y := ⟨_, List.getElem?_eq_getElem (by omega)⟩
            obtain ⟨O, oc1, hv, hOb, hfz, ⟨u0, hu0⟩, hO3⟩ := OSl.setCell pairGood HOk.out (x' := (x.2, y.2)) hy (j := 0) (by decide) (.int .i64 x.2) (fun row hr => ⟨by rw [hr.1]; rfl, hi2, hr.2.2⟩)
            rw [hcl] at hv
            obtain ⟨rfl, rfl⟩ : oa = some ⟨O, 0, none⟩ ∧ oc = oc1 := by cases hv; exact ⟨rfl, rfl⟩
            obtain ⟨O2, oc2, hv2, _, _, ⟨u1, hu1⟩, hO4⟩ := OSl.setCell pairGood hO3 (x' := (x.2, vv)) (k := j) (by rw [List.getElem?_set_self (by omega)]) (j := 1) (by decide) (.int .i64 vv) (fun row hr => ⟨by rw [hr.1]; rfl, hi2, hvin⟩)
            rw [List.length_set, hcl] at hv2
            obtain ⟨rfl, rfl⟩ : O = O2 ∧ oc = oc2 := by cases hv2; exact ⟨rfl, rfl⟩
            rw [List.set_set, show ((y4.take k).foldl (wput vv) s.cells).set j (x.2, vv) = (y4.take (k + 1)).foldl (wput vv) s.cells by rw [fold_more' HX.out, wput, hj]; rfl] at hO4
            simp only [Nat.add_zero] at hu0 hu1 hO4
            have hu1' : w7.cell? ⟨O, j * 2 + 1, none⟩ = some u1 := by
              obtain ⟨_, c, hc⟩ := HOk.out.lt O rfl
              rw [← hu1, cell_of hc, cell_of (heap_set hc), Array.getElem?_setIfInBounds_ne (by omega)]
            have hZO : some Z ≠ (Value.slice (some ⟨O, 0, none⟩) s.cells.length oc).ownBlock := HOk.out.type_ne HZ1.out (by decide)
            have hVO : some O ≠ (Value.slice va k vc).ownBlock := by
              obtain ⟨_, c, hc⟩ := HOk.out.lt O rfl
              exact HVk.out.type_ne hc (by decide)
            have z0 : w7.cell? ⟨Z, 0, none⟩ = some (.slice (some ⟨O, 0, none⟩) s.cells.length oc) := cell_of HZ1.out
            have z1 : w7.cell? ⟨Z, 1, none⟩ = some (.int .i64 vv) := cell_of HZ1.out
            have x0 : w7.cell? ⟨B6, 0, none⟩ = some (.int .i64 x.1) := cell_of H6.out
            have x1 : w7.cell? ⟨B6, 1, none⟩ = some (.int .i64 x.2) := cell_of H6.out
            have hZO' : Z ≠ O := fun e => hZO (by rw [e]; rfl)
            have hBO : B6 ≠ O := fun e => HOk.out.type_ne H6.out (by decide) (by rw [e]; rfl)
            obtain ⟨w8, hw8⟩ : ∃ z, (w7.setCell ⟨O, j * 2, none⟩ (.int .i64 x.2)).setCell ⟨O, j * 2 + 1, none⟩ (.int .i64 vv) = z := ⟨_, rfl⟩
            rw [hw8] at hO4
            have HO8 := hid hO4
            have HZ8 : Hid (w8.heap[Z]? = some (.cells #[.slice (some ⟨O, 0, none⟩) s.cells.length oc, .int .i64 vv] 24)) := by show _ = _; rw [← hw8]; exact heap_far (heap_far HZ1.out hZO') hZO'
            have H68 : Hid (w8.heap[B6]? = some (.cells #[.int .i64 x.1, .int .i64 x.2] 63)) := by show _ = _; rw [← hw8]; exact heap_far (heap_far H6.out hBO) hBO
            have HV8 : Hid (OSl IntE 1 3 w4.heap.size w8 (fun _ => False) (.slice va k vc) ((y4.take k).map (·.1))) := by show OSl _ _ _ _ _ _ _ _; rw [← hw8]; exact (HVk.out.far intGood _ hVO).far intGood _ hVO
            have HB8 : Hid (Below W1.heap.size w4 w8) := by show Below _ _ _; rw [← hw8]; exact (HB.out.setCell (p := ⟨O, j * 2, none⟩) hOb _).setCell (p := ⟨O, j * 2 + 1, none⟩) hOb _
            clear hO3 hO4 hy hv hv2 hu1 HOk HVk HZ1 H6 hZO hVO hZO' hBO hcl K1 G1 H21 H11 HB1 HB
            have HW8 := hid hw8
            clear hw8
            go_upto_region 10 with (fail)
            rw [HW8.out]
            clear HW8 z0 z1 x0 x1 hu0 hu1' hfz
            have x0 : w8.cell? ⟨B6, 0, none⟩ = some (.int .i64 x.1) := cell_of H68.out
            have hs8 := HB8.out.size
            obtain ⟨na, nc, w9, hrun, hV9, hg⟩ := append_int1g (z := x.1) HV8.out hi1 (by simp; omega) (by omega)
            rw [← map_take_more HX.out] at hV9
            have hmin : min k y4.length = k := by omega
            simp only [List.length_map, List.length_take, hmin] at hrun hV9
            have b8a : Below w8.heap.size w8 (w8.alloc (.cells #[.int .i64 x.1] 3)) := (Below.refl _ _).alloc (Nat.le_refl _) _
            have hV8a := HV8.out.below intGood b8a
            have HZ9 := hid (heap_grow hg (fun e => hV8a.type_ne ((b8a.block _ (lt_of_some HZ8.out)).trans HZ8.out) (by decide) e.symm) ((b8a.block _ (lt_of_some HZ8.out)).trans HZ8.out))
            have HO9 := hid ((HO8.out.below pairGood b8a).grow pairGood hg (fun r hr e => by
              obtain ⟨_, c, hc⟩ := (HO8.out.below pairGood b8a).lt r e.symm
              exact hV8a.type_ne hc (by decide) hr.symm))
            have HB9 : Hid (Below W1.heap.size w4 w9) := (HB8.out.trans (b8a.mono (by omega))).grown hg (by have := b8a.size; omega) (fun r hr => by have := (hV8a.lt r hr).1; omega)
            rw [hj] at hrun
            have HR := hid hrun
            have HV9 := hid hV9
            have HA2 : Hid (∀ (j : Nat) (y : Pr), j < k + 1 → y4[j]? = some y → thereS s y.1 = true) := fun i z hi hz => by
              by_cases e : i = k
              · subst e; rw [HX.out] at hz; cases hz; exact HT.out.symm
              · exact HA.out i z (by omega) hz
            clear hrun hV9 hg b8a hV8a HV8 HO8 HZ8 HB8 H68 HA
            go_wp2_with (at_builtin; refine wpList_append_run rfl _ _ _ rfl _ _ rfl rfl _ _ HR.out ?_)
            go_roundw
            case rel => exact ⟨k + 1, na, nc, rfl, by omega, by go_num, rfl, HA2, HZ9, HO9, HV9, HB9⟩
            case measure => simp [intOf]; omega
        · obtain rfl : k = y4.length := by omega
          rw [List.take_length] at HOk HVk
          obtain ⟨m, hm⟩ : ∃ m, m = validS s l := ⟨_, rfl⟩
          have HM := hid hm
          have c0 : wr.cell? ⟨w.heap.size, 0, none⟩ = some (.slice sa s.cells.length sc) := K1.out.c0
          have c1 : wr.cell? ⟨w.heap.size, 1, none⟩ = some (.int .i64 s.ver) := K1.out.c1
          have d0 : wr.cell? ⟨w.heap.size + 1, 0, none⟩ = some (.slice ra l.reads.length rc) := cell_of H11.out
          have d1 : wr.cell? ⟨w.heap.size + 1, 1, none⟩ = some (.slice (some ⟨b4, o4, none⟩) l.levels.length lc) := cell_of H11.out
          have P := hid (svalid_any wr _ _ _ _ s l K1.out.val G1.out)
          rw [← hm] at P
          clear hm
          go_wp2_with fail
          refine P.out.mono ?_
          rintro e w7 ⟨rfl, b⟩
          clear P c0 c1 d0 d1
          replace K1 := hid (K1.out.more b)
          replace H21 := hid ((b.block _ (lt_of_some H21.out)).trans H21.out)
          replace HZ1 := hid ((b.block _ (lt_of_some HZ1.out)).trans HZ1.out)
          replace HOk := hid (HOk.out.below pairGood b)
          replace HVk := hid (HVk.out.below intGood b)
          clear b G1
          have HALL := hid (HC.out.all HA.out)
          cases m
          · have c0 : w7.cell? ⟨w.heap.size, 0, none⟩ = some (.slice sa s.cells.length sc) := K1.out.c0
            have c1 : w7.cell? ⟨w.heap.size, 1, none⟩ = some (.int .i64 s.ver) := K1.out.c1
            have q0 : w7.cell? ⟨w.heap.size + 2, 0, none⟩ = some (.slice none 0 0) := cell_of H21.out
            have q1 : w7.cell? ⟨w.heap.size + 2, 1, none⟩ = some (.int .i64 0) := cell_of H21.out
            have qf : ∀ i, w7.frozen? ⟨w.heap.size + 2, i, none⟩ = false := fun i => free_of H21.out
            go_wp2_with fail
            have F := sput_out (w := w) (s := s) (ok := ok) H21.out (by omega) K1.out.bel (sback (by omega) HV0.out K1.out.bel)
            have t0 := cell_at (i := 0) (v := .slice sa s.cells.length sc) F.1 rfl
            have t1 := cell_at (i := 1) (v := .int .i64 s.ver) F.1 rfl
            exact bodyPost_ret (v := .tuple #[.agg #[.slice sa s.cells.length sc, .int .i64 s.ver], .slice none 0 0, .int .i64 180]) (by simp [results, Try.results10, go_sem, t0, t1]) rfl (ComP.nil (by rw [HALL.out, ← HM.out]; rfl) F.2.1 F.2.2)
          by_cases hy0 : y4.length = 0
          · have f9 : ((y4.length : Int) == 0) = true := by simp [hy0]
            have HY0 := hid hy0
            clear hy0
            have c0 : w7.cell? ⟨w.heap.size, 0, none⟩ = some (.slice sa s.cells.length sc) := K1.out.c0
            have c1 : w7.cell? ⟨w.heap.size, 1, none⟩ = some (.int .i64 s.ver) := K1.out.c1
            have q0 : w7.cell? ⟨w.heap.size + 2, 0, none⟩ = some (.slice none 0 0) := cell_of H21.out
            have q1 : w7.cell? ⟨w.heap.size + 2, 1, none⟩ = some (.int .i64 0) := cell_of H21.out
            have qf : ∀ i, w7.frozen? ⟨w.heap.size + 2, i, none⟩ = false := fun i => free_of H21.out
            go_wp2_with fail
            have F := sput_out (w := w) (s := s) (ok := ok) H21.out (by omega) K1.out.bel (sback (by omega) HV0.out K1.out.bel)
            have t0 := cell_at (i := 0) (v := .slice sa s.cells.length sc) F.1 rfl
            have t1 := cell_at (i := 1) (v := .int .i64 s.ver) F.1 rfl
            exact bodyPost_ret (v := .tuple #[.agg #[.slice sa s.cells.length sc, .int .i64 s.ver], .slice none 0 0, .int .i64 0]) (by simp [results, Try.results10, go_sem, t0, t1]) rfl (ComP.nil (by rw [HALL.out, ← HM.out, if_neg (by simp), if_pos HY0.out]) F.2.1 F.2.2)
          have f9 : ((y4.length : Int) == 0) = false := by rw [beq_eq_false_iff_ne]; omega
          have HY0 := hid hy0
          clear hy0
          have z0 : w7.cell? ⟨Z, 0, none⟩ = some (.slice oa s.cells.length oc) := cell_of HZ1.out
          have z1 : w7.cell? ⟨Z, 1, none⟩ = some (.int .i64 vv) := cell_of HZ1.out
          have q0 : w7.cell? ⟨w.heap.size + 2, 0, none⟩ = some (.slice none 0 0) := cell_of H21.out
          have q1 : w7.cell? ⟨w.heap.size + 2, 1, none⟩ = some (.int .i64 0) := cell_of H21.out
          have qf : ∀ i, w7.frozen? ⟨w.heap.size + 2, i, none⟩ = false := fun i => free_of H21.out
          go_wp2_with fail
          obtain ⟨C, hC⟩ : ∃ C, C = y4.foldl (wput vv) s.cells := ⟨_, rfl⟩
          have hCl : s.cells.length = C.length := by rw [hC, wput_len]
          have hO := HOk.out
          rw [← hC, hCl] at hO
          rw [hCl]
          have F := sput_out (w := w) (s := ⟨C, vv⟩) (ok := ok) H21.out (by omega) K1.out.bel (show SVal w7 _ (.agg #[.slice oa C.length oc, .int .i64 vv]) ⟨C, vv⟩ from ⟨_, _, rfl, hvin, hO.rsl pairGood _ (fun b _ h => ⟨by omega, .inr (by omega)⟩) (fun _ _ h => h.elim)⟩)
          have hVV := ((HVk.out.far intGood (i := 0) (Z := w.heap.size + 2) (.slice oa C.length oc) (fun e => by have := (HVk.out.lt _ e.symm).1; omega)).far intGood (i := 1) (Z := w.heap.size + 2) (.int .i64 vv) (fun e => by have := (HVk.out.lt _ e.symm).1; omega)).rsl intGood (fun b => w.heap.size ≤ b) (fun b _ h => by omega) (fun _ _ h => h.elim)
          have t0 := cell_at (i := 0) (v := .slice oa C.length oc) F.1 rfl
          have t1 := cell_at (i := 1) (v := .int .i64 vv) F.1 rfl
          exact bodyPost_ret (v := .tuple #[.agg #[.slice oa C.length oc, .int .i64 vv], .slice va y4.length vc, .int .i64 0]) (by simp [results, Try.results10, go_sem, t0, t1]) rfl (ComP.of (t := ⟨C, vv⟩) (vs := y4.map (·.1)) (by rw [HALL.out, ← HM.out, if_neg (by simp), if_neg HY0.out, hC, ← HV1.out]) (by simp) F.2.1 hVV F.2.2)
    · have f2 : ((l.levels.length : Int) != 1) = true := by simp; omega
      have d1 : w4.cell? ⟨w.heap.size + 1, 1, none⟩ = some (.slice la l.levels.length lc) := cell_of H1.out
      have c0 : w4.cell? ⟨w.heap.size, 0, none⟩ = some (.slice sa s.cells.length sc) := K.out.c0
      have c1 : w4.cell? ⟨w.heap.size, 1, none⟩ = some (.int .i64 s.ver) := K.out.c1
      have q0 : w4.cell? ⟨w.heap.size + 2, 0, none⟩ = some (.slice none 0 0) := cell_of H2.out
      have q1 : w4.cell? ⟨w.heap.size + 2, 1, none⟩ = some (.int .i64 0) := cell_of H2.out
      have qf : ∀ i, w4.frozen? ⟨w.heap.size + 2, i, none⟩ = false := fun i => free_of H2.out
      go_wp2_with fail
      have F := sput_out (w := w) (s := s) (ok := ok) H2.out (by omega) K.out.bel (sback (by omega) HV0.out K.out.bel)
      have t0 := cell_at (i := 0) (v := .slice sa s.cells.length sc) F.1 rfl
      have t1 := cell_at (i := 1) (v := .int .i64 s.ver) F.1 rfl
      exact bodyPost_ret (v := .tuple #[.agg #[.slice sa s.cells.length sc, .int .i64 s.ver], .slice none 0 0, .int .i64 170]) (by simp [results, Try.results10, go_sem, t0, t1]) rfl (ComP.nil (com3b HQ.out.symm hvl hl1) F.2.1 F.2.2)
end Go.Proofs.Ytplckigmllkpoaa
