/- slices.Backward over levels; tlog.Get. -/
import Derived.Test.YtplckigmllkpoaaTlK
namespace Go.Proofs.Ytplckigmllkpoaa
open Go.RowKit Go.Shelf Go.Maps
attribute [local go_sem] Oper.semAt_some
/-- What Backward hands over: a level. -/
def backE (_W0 W' : World) (x : List Pr) (args : Array Value) : Prop := ∃ (i : Int) (sa : Option Addr) (sc : Nat), args = #[.int .i64 i, .slice sa x.length sc] ∧ PSl W' (fun _ => True) (.slice sa x.length sc) x
set_option maxHeartbeats 400000 in
theorem back_any (w : World) (lv : Value) (h1 : ∃ a n c, lv = .slice a n c) :
    Calls Try.prog 41 #[lv] w fun e w' => e = .returned (.func (.func 55) #[] #[.pointer (some ⟨w.heap.size, 0, none⟩)]) ∧
      w' = w.alloc (.cells #[lv] 26) := by
  obtain ⟨a, n, c, rfl⟩ := h1
  go_enter Try.func41, Try.ntmps41
  go_wp2
  go_ret
  exact ⟨rfl, rfl⟩
set_option maxHeartbeats 2000000 in
theorem back_seq (n : Nat) (w : World) (bl : Nat) (lv : Value) (xs : List (List Pr)) (h : LSl w (fun _ => True) lv xs) :
    SeqW n Try.prog 55 #[.pointer (some ⟨bl, 0, none⟩)] backE xs.reverse
      (fun W => Below w.heap.size w W ∧ W.heap[bl]? = some (.cells #[lv] 26)) := by
  intro l J Jx W0 hJ hJx hK hKx hY h0
  obtain ⟨a1, c1, rfl, l1, _⟩ := h.shape
  obtain ⟨k0, k1⟩ := hK _ _ h0
  have e1 : W0.cell? ⟨bl, 0, none⟩ = some (.slice a1 xs.length c1) := cell_of k1
  refine callsIn_of_wp Try.func55 rfl trivial ?_ rfl
  simp only [Try.ntmps55, List.size_toArray, List.length_cons, List.length_nil, Nat.reduceAdd, Nat.reduceSub, Array.replicate_succ, Array.replicate_zero, List.push_toArray, List.append_toArray, List.nil_append, List.cons_append]
  gi_wp2
  gi_loopw [3] (fun i wr => ∃ (m : Nat) (z : Int), m ≤ xs.length ∧ i = .int .i64 z ∧ z = (m : Int) - 1 ∧ J (xs.reverse.take (xs.length - m)) wr) (fun i wr => (intOf i + 1).toNat)
  case atStart => exact ⟨xs.length, _, Nat.le_refl _, rfl, by go_num, by simpa using h0⟩
  case round =>
    obtain ⟨m, z, hm, rfl, hz, hJk⟩ := hrel
    cases m with
    | succ k =>
      obtain rfl : z = (k : Int) := by omega
      have hlt : k < xs.length := by omega
      obtain ⟨m0, m1⟩ := hK _ _ hJk
      obtain ⟨b1, o1, c1', x, sa, sc, hv1, hx, hs, e2⟩ := h.at m0 (k := k) hlt
      cases hv1
      have e3 : wr.cell? ⟨bl, 0, none⟩ = some (.slice (some ⟨b1, o1, none⟩) xs.length c1) := cell_of m1
      have hrev : xs.reverse[xs.length - (k + 1)]? = some x := by
        rw [List.getElem?_reverse (by omega), show xs.length - 1 - (xs.length - (k + 1)) = k by omega]; exact hx
      have htk : xs.reverse.take (xs.length - (k + 1)) ++ [x] = xs.reverse.take (xs.length - k) := by
        rw [show xs.length - k = xs.length - (k + 1) + 1 by omega, List.take_succ_eq_append_getElem (by simp; omega), (List.getElem?_eq_some_iff.1 hrev).2]
      have hpre : xs.reverse.take (xs.length - (k + 1)) ++ [x] <+: xs.reverse := by rw [htk]; exact List.take_prefix _ _
      obtain ⟨fn, tmps, assign, body, hy, hR⟩ := hY (xs.reverse.take (xs.length - (k + 1))) x #[.int .i64 k, .slice sa x.length sc] wr wr hJk (Below.refl _ _) hpre ⟨_, _, _, rfl, hs⟩
      have HY := hid (And.intro hy hR)
      have HTK := hid (And.intro htk hpre)
      have hkb : (k : Int) ≤ 9223372036854775807 := by omega
      clear hy hR hY htk hpre hrev hx hs h hz
      gi_wp2_with fail
      rw [HY.out.1]
      simp only [Oper.uponIn]
      refine ⟨(fun h => by cases h), RoundIn.mono HY.out.2 ?_⟩
      rintro e W4 ⟨hmid, hend⟩
      rcases hend with ⟨rfl, hJ4⟩ | ⟨rfl, hJ4⟩
      · rw [HTK.out.1] at hJ4
        have HJ := hid hJ4
        clear hJ4 hmid HY hJk
        gi_wp2_with fail
        go_roundw
        case rel => exact ⟨k, _, by omega, rfl, by go_num, HJ.out⟩
        case measure => simp [intOf]
      · have HJ := hid (And.intro HTK.out.2 hJ4)
        clear hJ4 hmid HY hJk
        gi_wp2_with fail
        refine bodyPost_ret (results_none rfl _ _ _) rfl ?_
        exact ⟨⟨_, rfl⟩, .inr ⟨_, HJ.out.1, HJ.out.2⟩⟩
    | zero =>
      obtain rfl : z = -1 := by omega
      clear hz hm
      rw [Nat.sub_zero, show xs.length = xs.reverse.length by simp, List.take_length] at hJk
      have HJ := hid hJk
      clear hJk h hK hKx hY hJ hJx h0 k0 k1 e1
      gi_wp2
      go_end0
      exact ⟨⟨_, rfl⟩, .inl HJ.out⟩
def lastW (L : List (List Pr)) (v : Int) : Option Pr := L.reverse.findSome? (fun x => x.find? (hasV v))
def getG (l : Lg) (v : Int) : Int × Bool := if chkG l then (match lastW l.levels v with | some y => (y.2, true) | none => (0, false)) else (0, false)
theorem idx_find (xs : List Pr) (v : Int) : (idxP xs (hasV v) = -1 ∧ xs.find? (hasV v) = none) ∨ ∃ (i : Nat) (y : Pr), idxP xs (hasV v) = i ∧ xs[i]? = some y ∧ xs.find? (hasV v) = some y := by
  cases hf : xs.findIdx? (hasV v) with
  | none =>
    left
    refine ⟨by rw [idxP, hf], ?_⟩
    rw [List.findIdx?_eq_none_iff] at hf
    rw [List.find?_eq_none]
    intro x hx; simp [hf x hx]
  | some i =>
    right
    obtain ⟨h1, h2, h3⟩ := List.findIdx?_eq_some_iff_getElem.1 hf
    refine ⟨i, xs[i], by rw [idxP, hf], List.getElem?_eq_getElem h1, ?_⟩
    rw [List.find?_eq_some_iff_getElem]
    exact ⟨h2, i, h1, rfl, fun j hj => by have := h3 j hj; simpa using this⟩
structure GInv (w : World) (B : Nat) (v : Int) (lv : Value) (pre : List (List Pr)) (W : World) : Prop where
  bv : W.heap[w.heap.size + 1]? = some (.cells #[.int .i64 v] 3)
  r1 : W.heap[w.heap.size + 1 + 1]? = some (.cells #[.int .i64 0] 3)
  r2 : W.heap[w.heap.size + 1 + 1 + 1]? = some (.cells #[.bool false] 4)
  bl : W.heap[B]? = some (.cells #[lv] 26)
  no : ∀ x ∈ pre, x.find? (hasV v) = none
  bel : Below w.heap.size w W
structure GGot (w : World) (B : Nat) (y : Pr) (lv : Value) (W : World) : Prop where
  r1 : W.heap[w.heap.size + 1 + 1]? = some (.cells #[.int .i64 y.2] 3)
  r2 : W.heap[w.heap.size + 1 + 1 + 1]? = some (.cells #[.bool true] 4)
  bl : W.heap[B]? = some (.cells #[lv] 26)
  bel : Below w.heap.size w W
def tmGet (S : Nat) (z : Int) (ra la : Option Addr) (rn rc ln lc B : Nat) (i : Int) (sv : Value) : Array Value :=
  #[.agg #[.slice ra rn rc, .slice la ln lc], .int .i64 z, .pointer (some ⟨S, 0, none⟩), .pointer (some ⟨S + 1, 0, none⟩), .pointer (some ⟨S + 1 + 1, 0, none⟩), .pointer (some ⟨S + 1 + 1 + 1, 0, none⟩), undef, sv, undef,
    .agg #[.slice ra rn rc, .slice la ln lc], .bool true, .bool false, .pointer (some ⟨S, 1, none⟩), .slice la ln lc, .func (.func 55) #[] #[.pointer (some ⟨B, 0, none⟩)], .int .i64 i, sv, undef, undef, undef, undef, undef, undef, undef, undef, undef, undef]
def GAx (w : World) (B : Nat) (z : Int) (ra la : Option Addr) (rn rc ln lc : Nat) (_M _N : Nat) (pre : List (List Pr)) (x : List Pr) (a : Act) (W : World) : Prop :=
  GInv w B z (.slice la ln lc) pre W ∧ ∃ (i : Int) (sa : Option Addr) (sc : Nat), PSl W (fun _ => True) (.slice sa x.length sc) x ∧ a = { tmps := tmGet w.heap.size z ra la rn rc ln lc B i (.slice sa x.length sc), defers := [] }
theorem GInv.grown {w : World} {B : Nat} {v : Int} {lv : Value} {pre : List (List Pr)} {A A' : World} {row : Option Nat} {m : Nat} (h : GInv w B v lv pre A) (hg : A.grownBy A' row) (hr : ∀ r, row = some r → m ≤ r) (hB : B < m) (hw : w.heap.size + 1 + 1 + 1 < B) : GInv w B v lv pre A' := by
  have hne : ∀ b, b < m → some b ≠ row := fun b hb e => by have := hr b e.symm; omega
  exact ⟨(hg.block _ (lt_of_some h.bv) (hne _ (by omega))).trans h.bv, (hg.block _ (lt_of_some h.r1) (hne _ (by omega))).trans h.r1, (hg.block _ (lt_of_some h.r2) (hne _ (by omega))).trans h.r2, (hg.block _ (lt_of_some h.bl) (hne _ (by omega))).trans h.bl, h.no, h.bel.grown hg h.bel.size (fun k hk => by have := hr k hk; omega)⟩
theorem GGot.grown {w : World} {B : Nat} {v : Pr} {lv : Value} {A A' : World} {row : Option Nat} {m : Nat} (h : GGot w B v lv A) (hg : A.grownBy A' row) (hr : ∀ r, row = some r → m ≤ r) (hB : B < m) (hw : w.heap.size + 1 + 1 + 1 < B) : GGot w B v lv A' := by
  have hne : ∀ b, b < m → some b ≠ row := fun b hb e => by have := hr b e.symm; omega
  exact ⟨(hg.block _ (lt_of_some h.r1) (hne _ (by omega))).trans h.r1, (hg.block _ (lt_of_some h.r2) (hne _ (by omega))).trans h.r2, (hg.block _ (lt_of_some h.bl) (hne _ (by omega))).trans h.bl, h.bel.grown hg h.bel.size (fun k hk => by have := hr k hk; omega)⟩
theorem lastW_none {L : List (List Pr)} {z : Int} (h : ∀ x ∈ L.reverse, x.find? (hasV z) = none) : lastW L z = none := by
  rw [lastW, List.findSome?_eq_none_iff]; exact h
theorem lastW_some {L pre : List (List Pr)} {x : List Pr} {y : Pr} {z : Int} (hp : pre ++ [x] <+: L.reverse) (h : ∀ x ∈ pre, x.find? (hasV z) = none) (hx : x.find? (hasV z) = some y) : lastW L z = some y := by
  obtain ⟨t, ht⟩ := hp
  rw [lastW, ← ht, List.append_assoc, List.findSome?_append, List.findSome?_eq_none_iff.2 h]
  simp [hx]
set_option maxHeartbeats 4000000 in
theorem get_any (w : World) (ok : Nat → Prop) (v : Value) (l : Lg) (z : Int) (h : GVal w ok v l) (hz : In z) (hs : Okl l 100000) :
    Calls Try.prog 28 #[v, .int .i64 z] w fun e w' => e = .returned (.tuple #[.int .i64 (getG l z).1, .bool (getG l z).2]) ∧ Below w.heap.size w w' := by
  have hG := h
  obtain ⟨ra, rc, la, lc, rfl, hr, hl⟩ := h
  obtain ⟨_, _, e, l1, _⟩ := hr.shape
  cases e
  obtain ⟨_, _, e, l2, _⟩ := hl.shape
  cases e
  obtain ⟨W0, hW0⟩ : ∃ W0, (((w.alloc (Obj.cells #[.slice ra l.reads.length rc, .slice la l.levels.length lc] 28)).alloc (Obj.cells #[.int .i64 z] 3)).alloc (Obj.cells #[.int .i64 0] 3)).alloc (Obj.cells #[.bool false] 4) = W0 := ⟨_, rfl⟩
  have hb0 : Below w.heap.size w W0 := by rw [← hW0]; exact ((((Below.refl _ _).alloc (Nat.le_refl _) _).alloc (by simp) _).alloc (by simp <;> omega) _).alloc (by simp <;> omega) _
  have h0 : W0.heap[w.heap.size]? = some (.cells #[.slice ra l.reads.length rc, .slice la l.levels.length lc] 28) := by rw [← hW0]; exact heap_old (heap_old (heap_one _ _ _) _) _
  have hv0 : W0.heap[w.heap.size + 1]? = some (.cells #[.int .i64 z] 3) := by rw [← hW0]; exact heap_old (heap_old (heap_two _ _ _) _) _
  have hr1 : W0.heap[w.heap.size + 1 + 1]? = some (.cells #[.int .i64 0] 3) := by rw [← hW0]; refine heap_old ?_ _; have := World.alloc_heap_new ((w.alloc (Obj.cells #[.slice ra l.reads.length rc, .slice la l.levels.length lc] 28)).alloc (Obj.cells #[.int .i64 z] 3)) (Obj.cells #[.int .i64 0] 3); rw [World.size_alloc, World.size_alloc] at this; exact this
  have hr2 : W0.heap[w.heap.size + 1 + 1 + 1]? = some (.cells #[.bool false] 4) := by rw [← hW0]; have := World.alloc_heap_new (((w.alloc (Obj.cells #[.slice ra l.reads.length rc, .slice la l.levels.length lc] 28)).alloc (Obj.cells #[.int .i64 z] 3)).alloc (Obj.cells #[.int .i64 0] 3)) (Obj.cells #[.bool false] 4); rw [World.size_alloc, World.size_alloc, World.size_alloc] at this; exact this
  obtain ⟨q, hq⟩ : ∃ q, q = chkG l := ⟨_, rfl⟩
  have HC := hid (check_any W0 _ _ l (hG.more hb0))
  rw [← hq] at HC
  have HH := hid (And.intro hl (And.intro hb0 (And.intro h0 (And.intro hv0 (And.intro hr1 (And.intro hr2 (And.intro hq hs)))))))
  have HW := hid hW0
  clear hG hb0 h0 hv0 hr1 hr2 hW0 hq hs hl hr
  refine (callsIn_wide (n := 9)).1 ?_
  refine callsIn_of_wp_marks Try.func28 rfl trivial ?_ rfl
  simp only [Try.ntmps28, List.size_toArray, List.length_cons, List.length_nil, Nat.reduceAdd, Nat.reduceSub, Array.replicate_succ, Array.replicate_zero, List.push_toArray, List.append_toArray, List.nil_append, List.cons_append]
  gi_wp2_with fail
  rw [HW.out]
  clear HW
  refine ⟨trivial, CallsIn.mono (callsIn_wide.2 HC.out) ?_⟩
  rintro e w1 ⟨rfl, b1⟩
  clear HC
  have k0 := (b1.block _ (lt_of_some HH.out.2.2.1)).trans HH.out.2.2.1
  have kv := (b1.block _ (lt_of_some HH.out.2.2.2.1)).trans HH.out.2.2.2.1
  have k1 := (b1.block _ (lt_of_some HH.out.2.2.2.2.1)).trans HH.out.2.2.2.2.1
  have k2 := (b1.block _ (lt_of_some HH.out.2.2.2.2.2.1)).trans HH.out.2.2.2.2.2.1
  have bw1 := HH.out.2.1.trans (b1.mono HH.out.2.1.size)
  have K := hid (And.intro k0 (And.intro kv (And.intro k1 (And.intro k2 bw1))))
  clear k0 kv k1 k2 bw1 b1
  cases q
  · have q1 : w1.cell? ⟨w.heap.size + 1 + 1, 0, none⟩ = some (.int .i64 0) := cell_of K.out.2.2.1
    have q2 : w1.cell? ⟨w.heap.size + 1 + 1 + 1, 0, none⟩ = some (.bool false) := cell_of K.out.2.2.2.1
    have f1 : w1.frozen? ⟨w.heap.size + 1 + 1, 0, none⟩ = false := free_of K.out.2.2.1
    have f2 : w1.frozen? ⟨w.heap.size + 1 + 1 + 1, 0, none⟩ = false := free_of K.out.2.2.2.1
    gi_wp2_with fail
    have HB := hid ((K.out.2.2.2.2.setCell (p := ⟨w.heap.size + 1 + 1, 0, none⟩) (by simp; omega) (.int .i64 0)).setCell (p := ⟨w.heap.size + 1 + 1 + 1, 0, none⟩) (by simp; omega) (.bool false))
    have g1 := heap_far (a := ⟨w.heap.size + 1 + 1 + 1, 0, none⟩) (v := .bool false) (heap_set (i := 0) (v := .int .i64 0) K.out.2.2.1) (by simp)
    have g2 := heap_set (i := 0) (v := .bool false) (heap_far (a := ⟨w.heap.size + 1 + 1, 0, none⟩) (v := .int .i64 0) K.out.2.2.2.1 (by simp))
    have t0 := cell_at (i := 0) (v := .int .i64 0) g1 rfl
    have t1 := cell_at (i := 0) (v := .bool false) g2 rfl
    exact ⟨.tuple #[.int .i64 0, .bool false], by simp [results, Try.results28, go_sem, t0, t1], by rw [getG, ← HH.out.2.2.2.2.2.2.1]; rfl, HB.out⟩
  · have c1 : w1.cell? ⟨w.heap.size, 1, none⟩ = some (.slice la l.levels.length lc) := cell_of K.out.1
    gi_wp2_with fail
    refine ⟨trivial, CallsIn.mono (callsIn_wide.2 (back_any w1 _ ⟨_, _, _, rfl⟩)) ?_⟩
    rintro e w2 ⟨rfl, hw2⟩
    have b2 : Below w1.heap.size w1 w2 := by rw [hw2]; exact (Below.refl _ _).alloc (Nat.le_refl _) _
    have kb : w2.heap[w1.heap.size]? = some (.cells #[.slice la l.levels.length lc] 26) := by rw [hw2]; exact World.alloc_heap_new _ _
    have hI : GInv w w1.heap.size z (.slice la l.levels.length lc) [] w2 :=
      ⟨(b2.block _ (lt_of_some K.out.2.1)).trans K.out.2.1, (b2.block _ (lt_of_some K.out.2.2.1)).trans K.out.2.2.1, (b2.block _ (lt_of_some K.out.2.2.2.1)).trans K.out.2.2.2.1, kb, by simp, K.out.2.2.2.2.trans (b2.mono K.out.2.2.2.2.size)⟩
    have hzB : w.heap.size + 1 + 1 + 1 < w1.heap.size := lt_of_some K.out.2.2.2.1
    have hz2 : w1.heap.size < w2.heap.size := by rw [hw2]; simp
    have HI := hid (And.intro hI (And.intro hzB hz2))
    obtain ⟨B, hB⟩ : ∃ B, w1.heap.size = B := ⟨_, rfl⟩
    rw [hB] at HI ⊢
    clear hI kb b2 hw2 c1 hzB hz2 hB K
    gi_wp2_with fail
    refine wpIn_range (by decide) (gf := 55) (lb := #[.pointer (some ⟨B, 0, none⟩)]) rfl (enters_of Try.func55 (by kernel_rfl) rfl)
      (back_seq 8 w B (.slice la l.levels.length lc) l.levels HH.out.1.all) (fun _ _ _ _ ⟨_, _, _, e, _⟩ => by rw [e]; rfl)
      (fun pre W => GInv w B z (.slice la l.levels.length lc) pre W) (fun c _ W => c = .ret ∧ ∃ y, lastW l.levels z = some y ∧ GGot w B y (.slice la l.levels.length lc) W) (GAx w B z ra la l.reads.length rc l.levels.length lc)
      ?hI ?hIx ?hAx ?hIk ?hIxk HI.out.1 ?assign ?body ?done ?stop
    case hI =>
      rintro pre A A' row h hg hr
      exact h.grown hg (fun r e => (hr r e).1) HI.out.2.2 HI.out.2.1
    case hIx =>
      rintro c pre A A' row ⟨hc, y, hy, h⟩ hg hr
      exact ⟨hc, y, hy, h.grown hg (fun r e => (hr r e).1) HI.out.2.2 HI.out.2.1⟩
    case hAx =>
      rintro M N pre x a₁ _ A A' row ⟨h, i, sa, sc, hs, e⟩ hg hr
      exact ⟨h.grown hg (fun r e => (hr r e).1) HI.out.2.2 HI.out.2.1, i, sa, sc, RSl.keep pairGood hs (Same.of_grown hg fun r e => .inr (hr r e).2), e⟩
    case hIk => exact fun pre W h => ⟨h.bel, h.bl⟩
    case hIxk => exact fun c pre W ⟨_, _, _, h⟩ => ⟨h.bel, h.bl⟩
    case assign =>
      rintro l' pre x args Wa W h hlt hb hpre ⟨i, sa, sc, rfl, hs⟩
      have HF : Hid (GAx w B z ra la l.reads.length rc l.levels.length lc Wa.heap.size W.heap.size pre x { tmps := tmGet w.heap.size z ra la l.reads.length rc l.levels.length lc B i (.slice sa x.length sc), defers := [] } W) :=
        ⟨h.grown (grown_of_below hb) (fun _ e => by cases e) (Nat.lt_succ_self B) HI.out.2.1, i, sa, sc, hs, rfl⟩
      clear h hb hs
      gi_wp2
      exact ⟨KeepsFrom.refl _ _, fun b _ h2 => rfl, HF.out⟩
    case body =>
      rintro l' M N pre x a₁ W hM1 hM2 hM3 ⟨h, i, sa, sc, hs, rfl⟩ hpre
      have cv : W.cell? ⟨w.heap.size + 1, 0, none⟩ = some (.int .i64 z) := cell_of h.bv
      have hxl : x.length ≤ 100000 := HH.out.2.2.2.2.2.2.2.2.2 x (by
        obtain ⟨t, ht⟩ := hpre
        have : x ∈ l.levels.reverse := by rw [← ht]; simp
        simpa using this)
      have HP := hid (place_any W _ _ x z hs)
      have HX := hid (And.intro h (And.intro hs (And.intro hpre hxl)))
      obtain ⟨t, ht⟩ : ∃ t, t = idxP x (hasV z) := ⟨_, rfl⟩
      rw [← ht] at HP
      have HT := hid ht
      clear h hs hpre hxl ht
      unfold tmGet
      gi_wp2_with fail
      refine ⟨trivial, CallsIn.inRound l' (CallsIn.mono (callsIn_wide.2 HP.out) ?_)⟩
      rintro e W2 ⟨rfl, b2⟩
      clear HP cv
      have hI2 : GInv w B z (.slice la l.levels.length lc) pre W2 := HX.out.1.grown (grown_of_below b2) (fun _ e => by cases e) (Nat.lt_succ_self B) HI.out.2.1
      have hk2 : KeepsOthers W W2 := ⟨b2.size, fun k o hk ho => (b2.block k (lt_of_some hk)).trans hk⟩
      have hm2 : Mid M N W W2 := fun b _ h2 => b2.block b (by omega)
      rcases idx_find x z with ⟨e1, e2⟩ | ⟨j, y, e1, e2, e3⟩
      · rw [e1] at HT
        obtain rfl : t = -1 := HT.out
        have HF := hid (And.intro (hk2.from w2.heap.size) (And.intro hm2 (show GInv w B z (.slice la l.levels.length lc) (pre ++ [x]) W2 from ⟨hI2.bv, hI2.r1, hI2.r2, hI2.bl, fun x' hx' => by
          rcases List.mem_append.1 hx' with h1 | h1
          · exact hI2.no x' h1
          · simp at h1; subst h1; exact e2, hI2.bel⟩)))
        clear hI2 hk2 hm2 b2 e1 e2
        gi_wp2_with fail
        exact HF.out
      · rw [e1] at HT
        obtain rfl : t = (j : Int) := HT.out
        have hjl : j < x.length := (List.getElem?_eq_some_iff.1 e2).1
        obtain ⟨b5, o5, c5, y', hv5, hy', _, _, _, d5⟩ := HX.out.2.1.at b2 hjl
        cases hv5
        obtain rfl : y' = y := by rw [e2] at hy'; cases hy'; rfl
        have q1 : W2.cell? ⟨w.heap.size + 1 + 1, 0, none⟩ = some (.int .i64 0) := cell_of hI2.r1
        have q2 : W2.cell? ⟨w.heap.size + 1 + 1 + 1, 0, none⟩ = some (.bool false) := cell_of hI2.r2
        have f1 : W2.frozen? ⟨w.heap.size + 1 + 1, 0, none⟩ = false := free_of hI2.r1
        have f2 : W2.frozen? ⟨w.heap.size + 1 + 1 + 1, 0, none⟩ = false := free_of hI2.r2
        have hsz := HI.out.2
        have hjb : (j : Int) ≤ 100000 := by have := HX.out.2.2.2; omega
        have HF := hid (show rPost w2.heap.size M N (fun pre W => GInv w B z (.slice la l.levels.length lc) pre W) (fun c _ W => c = .ret ∧ ∃ y, lastW l.levels z = some y ∧ GGot w B y (.slice la l.levels.length lc) W) (pre ++ [x]) W .ret { tmps := #[], defers := [] } ((W2.setCell ⟨w.heap.size + 1 + 1, 0, none⟩ (.int .i64 y'.2)).setCell ⟨w.heap.size + 1 + 1 + 1, 0, none⟩ (.bool true)) from
          ⟨((hk2.trans (KeepsOthers.setCell _ _ _)).trans (KeepsOthers.setCell _ _ _)).from _, fun b h1 h2 => by
            rw [Below.heap_setCell _ _ _ _ (by simp; omega), Below.heap_setCell _ _ _ _ (by simp; omega)]; exact hm2 b h1 h2, rfl, y', lastW_some HX.out.2.2.1 HX.out.1.no e3,
            heap_far (heap_set (i := 0) hI2.r1) (by simp), heap_set (i := 0) (heap_far hI2.r2 (by simp)), heap_far (heap_far hI2.bl (by simp; omega)) (by simp; omega),
            (hI2.bel.setCell (p := ⟨w.heap.size + 1 + 1, 0, none⟩) (by simp; omega) _).setCell (p := ⟨w.heap.size + 1 + 1 + 1, 0, none⟩) (by simp; omega) _⟩)
        clear hI2 hk2 hm2 b2 e1 e2 e3 hy'
        gi_wp2_with fail
        exact HF.out
    case done =>
      rintro D W hD h hK
      have q1 : W.cell? ⟨w.heap.size + 1 + 1, 0, none⟩ = some (.int .i64 0) := cell_of h.r1
      have q2 : W.cell? ⟨w.heap.size + 1 + 1 + 1, 0, none⟩ = some (.bool false) := cell_of h.r2
      have f1 : W.frozen? ⟨w.heap.size + 1 + 1, 0, none⟩ = false := free_of h.r1
      have f2 : W.frozen? ⟨w.heap.size + 1 + 1 + 1, 0, none⟩ = false := free_of h.r2
      have hsz := HI.out.2
      have hK2 : ((W.setCell ⟨w.heap.size + 1 + 1, 0, none⟩ (.int .i64 0)).setCell ⟨w.heap.size + 1 + 1 + 1, 0, none⟩ (.bool false)).heap[D]? = some (.deferred (some [])) := heap_far (heap_far hK (by simp; omega)) (by simp; omega)
      have g1 := heap_far (a := ⟨w.heap.size + 1 + 1 + 1, 0, none⟩) (v := .bool false) (heap_set (i := 0) (v := .int .i64 0) h.r1) (by simp)
      have g2 := heap_set (i := 0) (v := .bool false) (heap_far (a := ⟨w.heap.size + 1 + 1, 0, none⟩) (v := .int .i64 0) h.r2 (by simp))
      have g1' : (((W.setCell ⟨w.heap.size + 1 + 1, 0, none⟩ (.int .i64 0)).setCell ⟨w.heap.size + 1 + 1 + 1, 0, none⟩ (.bool false)).putObj D (.deferred none)).heap[w.heap.size + 1 + 1]? = _ := (World.putObj_heap_other (by omega)).trans g1
      have g2' : (((W.setCell ⟨w.heap.size + 1 + 1, 0, none⟩ (.int .i64 0)).setCell ⟨w.heap.size + 1 + 1 + 1, 0, none⟩ (.bool false)).putObj D (.deferred none)).heap[w.heap.size + 1 + 1 + 1]? = _ := (World.putObj_heap_other (by omega)).trans g2
      have hbel := ((h.bel.setCell (p := ⟨w.heap.size + 1 + 1, 0, none⟩) (by simp; omega) (.int .i64 0)).setCell (p := ⟨w.heap.size + 1 + 1 + 1, 0, none⟩) (by simp; omega) (.bool false)).grown (grownBy_putObj' _ D (.deferred none)) (by have := h.bel.size; simpa using this) (fun k hk => by cases hk; omega)
      have HF := hid (And.intro g1' (And.intro g2' (And.intro hbel (lastW_none (fun x hx => h.no x hx)))))
      have HK2 := hid hK2
      clear g1 g2 g1' g2' hbel hK2 hK h
      gi_wp2
      refine ⟨by simp, .inl ⟨_, _, rfl, run_takeDeferred HK2.out, ?_⟩⟩
      have t0 := cell_at (i := 0) (v := .int .i64 0) HF.out.1 rfl
      have t1 := cell_at (i := 0) (v := .bool false) HF.out.2.1 rfl
      exact ⟨.tuple #[.int .i64 0, .bool false], by simp [results, Try.results28, go_sem, t0, t1], by rw [getG, if_pos HH.out.2.2.2.2.2.2.1.symm, HF.out.2.2.2], HF.out.2.2.1⟩
    case stop =>
      rintro D c pre W hD _ ⟨rfl, y, hy, h⟩ hK
      have hsz := HI.out.2
      have g1' : (W.putObj D (.deferred none)).heap[w.heap.size + 1 + 1]? = _ := (World.putObj_heap_other (by omega)).trans h.r1
      have g2' : (W.putObj D (.deferred none)).heap[w.heap.size + 1 + 1 + 1]? = _ := (World.putObj_heap_other (by omega)).trans h.r2
      have hbel := h.bel.grown (grownBy_putObj' _ D (.deferred none)) (by have := h.bel.size; simpa using this) (fun k hk => by cases hk; omega)
      have HF := hid (And.intro g1' (And.intro g2' (And.intro hbel hy)))
      have HK2 := hid hK
      clear g1' g2' hbel hK h
      gi_wp2
      refine ⟨by simp, .inl ⟨_, _, rfl, run_takeDeferred HK2.out, ?_⟩⟩
      have t0 := cell_at (i := 0) (v := .int .i64 y.2) HF.out.1 rfl
      have t1 := cell_at (i := 0) (v := .bool true) HF.out.2.1 rfl
      exact ⟨.tuple #[.int .i64 y.2, .bool true], by simp [results, Try.results28, go_sem, t0, t1], by rw [getG, if_pos HH.out.2.2.2.2.2.2.1.symm, HF.out.2.2.2], HF.out.2.2.1⟩
end Go.Proofs.Ytplckigmllkpoaa
