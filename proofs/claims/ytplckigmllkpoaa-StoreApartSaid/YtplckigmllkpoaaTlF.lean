/- tlog.own: a log in memory of its own. -/
import Derived.Test.YtplckigmllkpoaaTlE
namespace Go.Proofs.Ytplckigmllkpoaa
open Go.RowKit Go.Shelf Go.Maps
attribute [local go_sem] Oper.semAt_some
theorem infoL : (Try.prog.info? 54).map (fun i => (i.zero, i.size, i.bytes)) = some (some (.slice none 0 0), 1, 24) := by kernel_rfl
/-- A log just made: its reads and its levels, each in a block that nobody else holds. -/
structure Fresh (base : Nat) (w : World) (rv sv : Value) (no : Nat → Prop) (R : List Pr) (L : List (List Pr)) : Prop where
  hr : OSl PairE 2 48 base w (fun _ => False) rv R
  hl : OSl LevE 1 54 base w (fun b => base ≤ b ∧ some b ≠ rv.ownBlock ∧ ¬ no b) sv L
theorem Fresh.keep {base : Nat} {w w' : World} {rv sv : Value} {no : Nat → Prop} {R : List Pr} {L : List (List Pr)} (h : Fresh base w rv sv no R L) (hs : Same (fun b => base ≤ b ∧ ¬ no b) w w')
    (h1 : ∀ b, rv.ownBlock = some b → ¬ no b) (h2 : ∀ b, sv.ownBlock = some b → ¬ no b) : Fresh base w' rv sv no R L :=
  ⟨h.hr.keep pairGood (fun b c e fr hb => hs b c e fr (by rcases hb with hb | hb; exact hb.elim; exact ⟨(h.hr.lt b hb.symm).1, h1 b hb.symm⟩)),
   h.hl.keep levGood (fun b c e fr hb => hs b c e fr (by rcases hb with hb | hb; exact ⟨hb.1, hb.2.2⟩; exact ⟨(h.hl.lt b hb.symm).1, h2 b hb.symm⟩))⟩
theorem Fresh.below {base : Nat} {w w' : World} {rv sv : Value} {no : Nat → Prop} {R : List Pr} {L : List (List Pr)} (h : Fresh base w rv sv no R L) (b : Below w.heap.size w w') : Fresh base w' rv sv no R L :=
  ⟨h.hr.below pairGood b, h.hl.below levGood b⟩
theorem Fresh.ne {base : Nat} {w : World} {rv sv : Value} {no : Nat → Prop} {R : List Pr} {L : List (List Pr)} (h : Fresh base w rv sv no R L) : ∀ b, sv.ownBlock = some b → rv.ownBlock ≠ some b := fun b h1 h2 => by
  obtain ⟨_, c, hc⟩ := h.hr.lt b h2
  obtain ⟨_, c', hc'⟩ := h.hl.lt b h1
  rw [hc] at hc'; cases hc'
theorem OSl.base {α : Type} {R : Enc α} {size : Nat} {e : TypeId} {base base' : Nat} {w : World} {ok : Nat → Prop} {v : Value} {xs : List α} (h : OSl R size e base w ok v xs) (hb : base' ≤ base) : OSl R size e base' w ok v xs := by
  obtain ⟨rows, hr, hl, hown⟩ := h
  refine ⟨rows, hr, hl, ?_⟩
  rcases hown with h | ⟨g, cap, cur, hv, hg, r⟩
  · exact .inl h
  · exact .inr ⟨g, cap, cur, hv, by omega, r⟩
/-- What own hands back. -/
def OwnPost (w : World) (l : Lg) (e : Ending) (w' : World) : Prop := ∃ ra rc la lc, e = .returned (.agg #[.slice ra l.reads.length rc, .slice la l.levels.length lc]) ∧
  Fresh w.heap.size w' (.slice ra l.reads.length rc) (.slice la l.levels.length lc) (fun _ => False) l.reads l.levels ∧ Below w.heap.size w w'
structure OwnIn (w : World) (B2 B3 : Nat) (R : List Pr) (L : List (List Pr)) (rv sv : Value) (W : World) : Prop where
  bel : Below w.heap.size w W
  h2 : W.heap[B2]? = some (.cells #[.slice none 0 0, .slice none 0 0] 28)
  h3 : W.heap[B3]? = some (.cells #[rv, sv] 28)
  fr : Fresh w.heap.size W rv sv (fun b => b = B2 ∨ b = B3) R L
theorem OwnIn.far {w : World} {B2 B3 : Nat} {R : List Pr} {L : List (List Pr)} {rv sv : Value} {W : World} (h : OwnIn w B2 B3 R L rv sv W) : (∀ b, rv.ownBlock = some b → b ≠ B2 ∧ b ≠ B3) ∧ ∀ b, sv.ownBlock = some b → b ≠ B2 ∧ b ≠ B3 := by
  constructor
  · intro b hb
    obtain ⟨_, c, hc⟩ := h.fr.hr.lt b hb
    constructor
    · rintro rfl; rw [h.h2] at hc; cases hc
    · rintro rfl; rw [h.h3] at hc; cases hc
  · intro b hb
    obtain ⟨_, c, hc⟩ := h.fr.hl.lt b hb
    constructor
    · rintro rfl; rw [h.h2] at hc; cases hc
    · rintro rfl; rw [h.h3] at hc; cases hc
/-- One level more. -/
theorem OwnIn.step {w : World} {B2 B3 : Nat} {R : List Pr} {L : List (List Pr)} {rv sv : Value} {W W1 : World} {cv : Value} {x : List Pr} (h : OwnIn w B2 B3 R L rv sv W) (hB2 : w.heap.size ≤ B2) (hB3 : w.heap.size ≤ B3) (b1 : Below W.heap.size W W1)
    (hc : OSl PairE 2 63 W.heap.size W1 (fun _ => False) cv x) (hL : L.length ≤ 1000000) (hne : B2 ≠ B3) :
    ∃ v8 w8, (Builtin.append_ #[26, 26] 26 #[sv, .slice (some ⟨W1.heap.size, 0, none⟩) 1 1]).run Try.prog (W1.alloc (.cells #[cv] 54)) = .ok v8 w8 ∧
      w8.heap[B3]? = some (.cells #[rv, sv] 28) ∧ OwnIn w B2 B3 R (L ++ [x]) rv v8 (w8.setCell ⟨B3, 1, none⟩ v8) := by
  obtain ⟨W2, hW2⟩ : ∃ W2, W1.alloc (.cells #[cv] 54) = W2 := ⟨_, rfl⟩
  have hn2 : W2.heap[W1.heap.size]? = some (.cells #[cv] 54) := by rw [← hW2]; exact World.alloc_heap_new _ _
  have b2 : Below W1.heap.size W1 W2 := by rw [← hW2]; exact (Below.refl _ _).alloc (Nat.le_refl _) _
  have bW2 : Below W.heap.size W W2 := b1.trans (b2.mono b1.size)
  rw [hW2]
  have hrlt : ∀ b, rv.ownBlock = some b → b < W.heap.size := fun b hb => by obtain ⟨_, c, hc⟩ := h.fr.hr.lt b hb; exact lt_of_some hc
  have hslt : ∀ b, sv.ownBlock = some b → b < W.heap.size := fun b hb => by obtain ⟨_, c, hc⟩ := h.fr.hl.lt b hb; exact lt_of_some hc
  have h2lt := lt_of_some h.h2
  have h3lt := lt_of_some h.h3
  have hwW := h.bel.size
  have hx : PSl W2 (fun b => (w.heap.size ≤ b ∧ some b ≠ rv.ownBlock ∧ ¬ (b = B2 ∨ b = B3)) ∧ some b ≠ sv.ownBlock) cv x := (hc.below pairGood b2).rsl pairGood _ (fun b _ hb => ⟨⟨by omega, fun e => by have := hrlt b e.symm; omega, by omega⟩, fun e => by have := hslt b e.symm; omega⟩) (fun _ _ hb => hb.elim)
  have f2 := h.fr.below bW2
  obtain ⟨v', w', hrun, hO, hg, hloc, _⟩ := OSl.append (P := Try.prog) levGood (by decide) f2.hl 26 26 (.slice none 0 0) 24 Try.underlying26 infoL rfl ⟨W1.heap.size, 0, none⟩ 1 [x] [[cv]]
    (Rows.one ⟨cv, rfl, hx⟩) (fun j u hj => by rw [addr_add, Nat.zero_add, cell_of hn2]; simpa using hj) (by obtain ⟨_, _, rfl, _⟩ := hx.shape; simp [Value.oneCell']) (by simp [maxLen]; omega) (by simp; omega) (by have := bW2.size; omega)
  have hfar := h.far
  have k2 : w'.heap[B2]? = _ := (hg.block B2 (by have := bW2.size; omega) (fun e => (hfar.2 B2 e.symm).1 rfl)).trans ((bW2.block _ h2lt).trans h.h2)
  have k3 : w'.heap[B3]? = _ := (hg.block B3 (by have := bW2.size; omega) (fun e => (hfar.2 B3 e.symm).2 rfl)).trans ((bW2.block _ h3lt).trans h.h3)
  have hbel : Below w.heap.size w w' := (h.bel.trans (bW2.mono h.bel.size)).grown hg (by have := bW2.size; omega) (fun k hk => (h.fr.hl.lt k hk).1)
  have hv3 : ∀ b, v'.ownBlock = some b → b ≠ B3 := fun b hb => by
    rcases hloc with e | e
    · rw [e] at hb; exact (hfar.2 b hb).2
    · rw [e] at hb; cases hb; have := bW2.size; omega
  refine ⟨v', w', hrun, k3, hbel.setCell hB3 _, heap_far k2 hne, heap_set k3, ⟨?_, ?_⟩⟩
  · refine (f2.hr.keep pairGood (Same.of_grown hg (fun r hr => .inl fun hb => ?_))).keep pairGood ((Same.refl _ _).setCell _ ?_)
    · rcases hb with hb | hb
      · exact hb
      · exact h.fr.ne r hr hb.symm
    · rintro (hb | hb)
      · exact hb
      · exact (hfar.1 B3 hb.symm).2 rfl
  · refine hO.keep levGood ((Same.refl _ _).setCell _ ?_)
    rintro (hb | hb)
    · exact hb.2.2 (.inr rfl)
    · exact hv3 B3 hb.symm rfl
set_option maxHeartbeats 4000000 in
theorem own_any (w : World) (ok : Nat → Prop) (v : Value) (l : Lg) (h : GVal w ok v l) (hr1 : l.reads.length ≤ 100000) (hl1 : l.levels.length ≤ 100000) (hw1 : ∀ x ∈ l.levels, x.length ≤ 100000) :
    Calls Try.prog 43 #[v] w (OwnPost w l) := by
  obtain ⟨ra, rc, la, lc, rfl, hr, hl⟩ := h
  obtain ⟨_, _, e, l1, _⟩ := hr.shape
  cases e
  obtain ⟨_, _, e, l2, _⟩ := hl.shape
  cases e
  obtain ⟨W0, hW0⟩ : ∃ W0, (w.alloc (Obj.cells #[.slice ra l.reads.length rc, .slice la l.levels.length lc] 28)).alloc (Obj.cells #[.slice none 0 0, .slice none 0 0] 28) = W0 := ⟨_, rfl⟩
  have hb0 : Below w.heap.size w W0 := by rw [← hW0]; exact ((Below.refl _ _).alloc (Nat.le_refl _) _).alloc (by simp) _
  have h0 : W0.heap[w.heap.size]? = some (.cells #[.slice ra l.reads.length rc, .slice la l.levels.length lc] 28) := by rw [← hW0]; exact heap_one _ _ _
  have h1 : W0.heap[w.heap.size + 1]? = some (.cells #[.slice none 0 0, .slice none 0 0] 28) := by rw [← hW0]; exact heap_two _ _ _
  have hz : W0.heap.size = w.heap.size + 2 := by rw [← hW0]; simp
  have HC := hid (cloneR W0 _ _ l.reads (hr.more hb0) (by omega))
  have HH := hid (And.intro hr (And.intro hl (And.intro hb0 (And.intro h0 (And.intro h1 hz)))))
  have HL := hid (And.intro hr1 (And.intro hl1 hw1))
  have HW := hid hW0
  clear hr hl hb0 h0 h1 hz hr1 hl1 hw1 hW0
  go_enter Try.func43, Try.ntmps43
  go_upto_region 1 with (fail)
  rw [HW.out]
  clear HW
  have c0 : W0.cell? ⟨w.heap.size, 0, none⟩ = some (.slice ra l.reads.length rc) := cell_of HH.out.2.2.2.1
  go_wp2_with fail
  refine HC.out.mono ?_
  rintro e w1 ⟨rv, rfl, hO1, b1⟩
  clear c0 HC
  obtain ⟨oa, oc, rfl⟩ := hO1.shape2
  have k0 := (b1.block _ (lt_of_some HH.out.2.2.2.1)).trans HH.out.2.2.2.1
  have k1 := (b1.block _ (lt_of_some HH.out.2.2.2.2.1)).trans HH.out.2.2.2.2.1
  have hbw := HH.out.2.2.1.trans (b1.mono HH.out.2.2.1.size)
  have hz1 : w.heap.size + 2 ≤ w1.heap.size := by have := b1.size; have := HH.out.2.2.2.2.2; omega
  have c1 : w1.cell? ⟨w.heap.size, 1, none⟩ = some (.slice la l.levels.length lc) := cell_of k0
  have K := hid (And.intro hO1 (And.intro k0 (And.intro k1 hbw)))
  clear hO1 k0 k1 hbw b1
  go_upto_region 2 with (fail)
  obtain ⟨w2, hw2⟩ : ∃ w2, w1.alloc (Obj.cells #[.slice oa l.reads.length oc, .slice none 0 0] 28) = w2 := ⟨_, rfl⟩
  rw [hw2]
  have b2 : Below w1.heap.size w1 w2 := by rw [← hw2]; exact (Below.refl _ _).alloc (Nat.le_refl _) _
  have c1 : w2.cell? ⟨w.heap.size, 1, none⟩ = some (.slice la l.levels.length lc) := cell_of ((b2.block _ (lt_of_some K.out.2.1)).trans K.out.2.1)
  have hI : OwnIn w (w.heap.size + 1) w1.heap.size l.reads [] (.slice oa l.reads.length oc) (.slice none 0 0) w2 :=
    ⟨K.out.2.2.2.trans (b2.mono K.out.2.2.2.size), (b2.block _ (lt_of_some K.out.2.2.1)).trans K.out.2.2.1, by rw [← hw2]; exact World.alloc_heap_new _ _,
      (K.out.1.below pairGood b2).base (by have := HH.out.2.2.2.2.2; omega), OSl.nil _ _ _ _ _ _⟩
  have HI := hid hI
  clear K hw2 b2 hI
  go_upto_region 3 with (fail)
  clear c1
  go_loopw [13] (fun i wr => ∃ (k : Nat) (sv : Value), k ≤ l.levels.length ∧ i = .int .i64 k ∧ Hid (OwnIn w (w.heap.size + 1) w1.heap.size l.reads (l.levels.take k) (.slice oa l.reads.length oc) sv wr)) (fun i _ => l.levels.length - (intOf i).toNat)
  case atStart => exact ⟨0, _, Nat.zero_le _, rfl, by simpa using HI⟩
  case round =>
    obtain ⟨k, sv, hk, rfl, HR⟩ := hrel
    by_cases hlt : k < l.levels.length
    · obtain ⟨b1, o1, cc1, x, xa, xc, hv1, hx, hs, e1⟩ := HH.out.2.1.at HR.out.bel (k := k) hlt
      cases hv1
      have hxlen : x.length ≤ 100000 := HL.out.2.2 x (List.mem_of_getElem? hx)
      have hcl := hid (fun W (hb : Below wr.heap.size wr W) => cloneW W _ _ x (hs.more hb) (by omega))
      have HT := hid (show l.levels.take (k + 1) = l.levels.take k ++ [x] by rw [List.take_succ_eq_append_getElem hlt, (List.getElem?_eq_some_iff.1 hx).2])
      clear hs hx
      obtain ⟨sa, sn, sc, rfl⟩ : ∃ a n c, sv = .slice a n c := by obtain ⟨a, c, h⟩ := HR.out.fr.hl.shape2; exact ⟨a, _, c, h⟩
      have c3 : wr.cell? ⟨w1.heap.size, 1, none⟩ = some (.slice sa sn sc) := cell_of HR.out.h3
      go_upto_region 5 with (fail)
      have HD := hid (Below.refl wr.heap.size wr).drew
      have c5 : wr.drew.cell? ⟨w1.heap.size, 1, none⟩ = some (.slice sa sn sc) := c3
      have hI5 : OwnIn w (w.heap.size + 1) w1.heap.size l.reads (l.levels.take k) (.slice oa l.reads.length oc) (.slice sa sn sc) wr.drew := ⟨HR.out.bel.drew, HR.out.h2, HR.out.h3, HR.out.fr.below HD.out⟩
      have HI5 := hid hI5
      refine (wpIn_wide (n := 9)).1 ?_
      refine wpIn_region_held (fun _ => True) (by kernel_rfl) ?_
      clear c3 hI5
      generalize hw5 : wr.drew = w5 at *
      have hs5 : w5.heap.size = wr.heap.size := by rw [← hw5]; rfl
      refine wpAnyHF_takeD (i := 0) 17 (v := .pointer (some ⟨w1.heap.size, 1, none⟩)) rfl rfl rfl (by kernel_rfl) (by kernel_rfl) (by kernel_rfl) (fun _ _ _ h => h) ⟨.inl ⟨rfl, fun W hW => by simp [execOp, go_sem]⟩, fun W => rfl⟩ trivial ?_
      refine wpAnyHF_takeD (i := 2) 19 (v := .slice xa x.length xc) rfl rfl rfl (by kernel_rfl) (by kernel_rfl) (by kernel_rfl) (fun _ _ _ h => h) ⟨.inl ⟨rfl, fun W hW => by simp [execOp, go_sem]⟩, fun W => rfl⟩ trivial ?_
      simp only [Act.put, List.setIfInBounds_toArray, List.set_cons_zero, List.set_cons_succ]
      refine wpAnyHF_two (i := 1) (j := 3) (by kernel_rfl) rfl rfl rfl rfl ?_ ?_
      · refine wpIn_valueD 18 rfl (w' := w5) (v := .slice sa sn sc) (by simp [execOp, go_sem, c5]) ⟨trivial, ?_⟩
        simp only [Act.put, List.setIfInBounds_toArray, List.set_cons_zero, List.set_cons_succ]
        refine wpAnyHF_one (i := 3) (by kernel_rfl) rfl rfl ?_
        refine wpIn_callD 20 rfl (P := Try.prog) (f := 59) (args := #[.slice xa x.length xc]) (by simp [execOp, resolve, invoke, go_sem]) ?_
        refine (hcl.out w5 HD.out).mono ?_
        rintro e w6 ⟨cv, rfl, hO6, b6⟩
        obtain ⟨v8, w8, hrun8, k3, hI8⟩ := HI5.out.step (by omega) (by omega) b6 hO6 (by have := HL.out.2.1; simp; omega) (by omega)
        obtain ⟨a8, n8, c8, rfl⟩ : ∃ a n c, v8 = .slice a n c := by obtain ⟨a, c, h⟩ := hI8.fr.hl.shape2; exact ⟨a, _, c, h⟩
        obtain ⟨ca, cc, rfl⟩ := hO6.shape2
        have q8 : w8.cell? ⟨w1.heap.size, 1, none⟩ = some (.slice sa sn sc) := cell_of k3
        have f8 : w8.frozen? ⟨w1.heap.size, 1, none⟩ = false := free_of k3
        have H8 := hid hI8
        clear hI8 k3 hO6 b6
        refine ⟨_, rfl, trivial, ?_⟩
        simp only [Act.put, List.setIfInBounds_toArray, List.set_cons_zero, List.set_cons_succ]
        refine wpAnyHF_one (i := 4) (by kernel_rfl) rfl rfl ?_
        refine wpIn_valueD 21 rfl (w' := w6.alloc (.cells #[.slice ca x.length cc] 54)) (v := .slice (some ⟨w6.heap.size, 0, none⟩) 1 1) (by simp [execOp, go_sem]) ⟨trivial, ?_⟩
        simp only [Act.put, List.setIfInBounds_toArray, List.set_cons_zero, List.set_cons_succ]
        refine wpAnyHF_one (i := 5) (by kernel_rfl) rfl rfl ?_
        refine wpIn_valueD 22 rfl (w' := w8) (v := .slice a8 n8 c8) (run_append_op (.tmp 18) (.tmp 21) 26 rfl rfl (v := .slice sa sn sc) (xv := .slice (some ⟨w6.heap.size, 0, none⟩) 1 1) (by simp [go_sem]) (by simp [go_sem]) hrun8) ⟨trivial, ?_⟩
        refine wpAnyHF_takeD (i := 6) 23 (v := .pointer (some ⟨w1.heap.size, 1, none⟩)) rfl rfl rfl (by kernel_rfl) (by kernel_rfl) (by kernel_rfl) (fun _ _ _ h => h) ⟨.inl ⟨rfl, fun W hW => by simp [execOp, go_sem]⟩, fun W => rfl⟩ trivial ?_
        simp only [Act.put, List.setIfInBounds_toArray, List.set_cons_zero, List.set_cons_succ]
        refine wpAnyHF_one (i := 7) (by kernel_rfl) rfl rfl ?_
        refine wpIn_skip rfl (w' := w8.setCell ⟨w1.heap.size, 1, none⟩ (.slice a8 n8 c8)) (by simp [execOp, go_sem, q8, f8]) ⟨trivial, ?_⟩
        refine wpAnyHF_done (by kernel_rfl) ?_ _
        clear q8 f8 hrun8
        gi_wp2
        go_wp2_with fail
        go_roundw
        case rel => exact ⟨k + 1, _, by omega, by go_num, by rw [HT.out]; exact H8⟩
        case measure => simp [intOf]; omega
      · refine wpIn_callD 20 rfl (P := Try.prog) (f := 59) (args := #[.slice xa x.length xc]) (by simp [execOp, resolve, invoke, go_sem]) ?_
        refine (hcl.out w5 HD.out).mono ?_
        rintro e w6 ⟨cv, rfl, hO6, b6⟩
        obtain ⟨v8, w8, hrun8, k3, hI8⟩ := HI5.out.step (by omega) (by omega) b6 hO6 (by have := HL.out.2.1; simp; omega) (by omega)
        obtain ⟨a8, n8, c8, rfl⟩ : ∃ a n c, v8 = .slice a n c := by obtain ⟨a, c, h⟩ := hI8.fr.hl.shape2; exact ⟨a, _, c, h⟩
        obtain ⟨ca, cc, rfl⟩ := hO6.shape2
        have q8 : w8.cell? ⟨w1.heap.size, 1, none⟩ = some (.slice sa sn sc) := cell_of k3
        have f8 : w8.frozen? ⟨w1.heap.size, 1, none⟩ = false := free_of k3
        have H8 := hid hI8
        have p6 : w6.cell? ⟨w1.heap.size, 1, none⟩ = some (.slice sa sn sc) := (b6.cell (World.block_lt_of_cell? w5 _ c5)).trans c5
        have p7 : (w6.alloc (.cells #[.slice ca x.length cc] 54)).cell? ⟨w1.heap.size, 1, none⟩ = some (.slice sa sn sc) := (((Below.refl w6.heap.size w6).alloc (Nat.le_refl _) _).cell (World.block_lt_of_cell? w6 _ p6)).trans p6
        clear hI8 k3 hO6 b6
        refine ⟨_, rfl, trivial, ?_⟩
        simp only [Act.put, List.setIfInBounds_toArray, List.set_cons_zero, List.set_cons_succ]
        refine wpAnyHF_two (i := 1) (j := 4) (by kernel_rfl) rfl rfl rfl rfl ?_ ?_
        · refine wpIn_valueD 18 rfl (w' := w6) (v := .slice sa sn sc) (by simp [execOp, go_sem, p6]) ⟨trivial, ?_⟩
          simp only [Act.put, List.setIfInBounds_toArray, List.set_cons_zero, List.set_cons_succ]
          refine wpAnyHF_one (i := 4) (by kernel_rfl) rfl rfl ?_
          refine wpIn_valueD 21 rfl (w' := w6.alloc (.cells #[.slice ca x.length cc] 54)) (v := .slice (some ⟨w6.heap.size, 0, none⟩) 1 1) (by simp [execOp, go_sem]) ⟨trivial, ?_⟩
          simp only [Act.put, List.setIfInBounds_toArray, List.set_cons_zero, List.set_cons_succ]
          refine wpAnyHF_one (i := 5) (by kernel_rfl) rfl rfl ?_
          refine wpIn_valueD 22 rfl (w' := w8) (v := .slice a8 n8 c8) (run_append_op (.tmp 18) (.tmp 21) 26 rfl rfl (v := .slice sa sn sc) (xv := .slice (some ⟨w6.heap.size, 0, none⟩) 1 1) (by simp [go_sem]) (by simp [go_sem]) hrun8) ⟨trivial, ?_⟩
          refine wpAnyHF_takeD (i := 6) 23 (v := .pointer (some ⟨w1.heap.size, 1, none⟩)) rfl rfl rfl (by kernel_rfl) (by kernel_rfl) (by kernel_rfl) (fun _ _ _ h => h) ⟨.inl ⟨rfl, fun W hW => by simp [execOp, go_sem]⟩, fun W => rfl⟩ trivial ?_
          simp only [Act.put, List.setIfInBounds_toArray, List.set_cons_zero, List.set_cons_succ]
          refine wpAnyHF_one (i := 7) (by kernel_rfl) rfl rfl ?_
          refine wpIn_skip rfl (w' := w8.setCell ⟨w1.heap.size, 1, none⟩ (.slice a8 n8 c8)) (by simp [execOp, go_sem, q8, f8]) ⟨trivial, ?_⟩
          refine wpAnyHF_done (by kernel_rfl) ?_ _
          clear q8 f8 hrun8
          gi_wp2
          go_wp2_with fail
          go_roundw
          case rel => exact ⟨k + 1, _, by omega, by go_num, by rw [HT.out]; exact H8⟩
          case measure => simp [intOf]; omega
        · refine wpIn_valueD 21 rfl (w' := w6.alloc (.cells #[.slice ca x.length cc] 54)) (v := .slice (some ⟨w6.heap.size, 0, none⟩) 1 1) (by simp [execOp, go_sem]) ⟨trivial, ?_⟩
          simp only [Act.put, List.setIfInBounds_toArray, List.set_cons_zero, List.set_cons_succ]
          refine wpAnyHF_one (i := 1) (by kernel_rfl) rfl rfl ?_
          refine wpIn_valueD 18 rfl (w' := w6.alloc (.cells #[.slice ca x.length cc] 54)) (v := .slice sa sn sc) (by simp [execOp, go_sem, p7]) ⟨trivial, ?_⟩
          simp only [Act.put, List.setIfInBounds_toArray, List.set_cons_zero, List.set_cons_succ]
          refine wpAnyHF_one (i := 5) (by kernel_rfl) rfl rfl ?_
          refine wpIn_valueD 22 rfl (w' := w8) (v := .slice a8 n8 c8) (run_append_op (.tmp 18) (.tmp 21) 26 rfl rfl (v := .slice sa sn sc) (xv := .slice (some ⟨w6.heap.size, 0, none⟩) 1 1) (by simp [go_sem]) (by simp [go_sem]) hrun8) ⟨trivial, ?_⟩
          refine wpAnyHF_takeD (i := 6) 23 (v := .pointer (some ⟨w1.heap.size, 1, none⟩)) rfl rfl rfl (by kernel_rfl) (by kernel_rfl) (by kernel_rfl) (fun _ _ _ h => h) ⟨.inl ⟨rfl, fun W hW => by simp [execOp, go_sem]⟩, fun W => rfl⟩ trivial ?_
          simp only [Act.put, List.setIfInBounds_toArray, List.set_cons_zero, List.set_cons_succ]
          refine wpAnyHF_one (i := 7) (by kernel_rfl) rfl rfl ?_
          refine wpIn_skip rfl (w' := w8.setCell ⟨w1.heap.size, 1, none⟩ (.slice a8 n8 c8)) (by simp [execOp, go_sem, q8, f8]) ⟨trivial, ?_⟩
          refine wpAnyHF_done (by kernel_rfl) ?_ _
          clear q8 f8 hrun8
          gi_wp2
          go_wp2_with fail
          go_roundw
          case rel => exact ⟨k + 1, _, by omega, by go_num, by rw [HT.out]; exact H8⟩
          case measure => simp [intOf]; omega
    · obtain rfl : k = l.levels.length := by omega
      have hE := HR.out
      rw [List.take_length] at hE
      have hshape : ∃ a c, sv = .slice a l.levels.length c := by obtain ⟨a, c, h⟩ := hE.fr.hl.shape2; exact ⟨a, c, h⟩
      obtain ⟨sa, sc, rfl⟩ := hshape
      have d0 : wr.cell? ⟨w1.heap.size, 0, none⟩ = some (.slice oa l.reads.length oc) := cell_of hE.h3
      have d1 : wr.cell? ⟨w1.heap.size, 1, none⟩ = some (.slice sa l.levels.length sc) := cell_of hE.h3
      have q0 : wr.cell? ⟨w.heap.size + 1, 0, none⟩ = some (.slice none 0 0) := cell_of hE.h2
      have q1 : wr.cell? ⟨w.heap.size + 1, 1, none⟩ = some (.slice none 0 0) := cell_of hE.h2
      have hf : ∀ i, wr.frozen? ⟨w.heap.size + 1, i, none⟩ = false := fun i => free_of hE.h2
      have HE := hid hE
      clear hE HR
      go_wp2_with fail
      have g := heap_set (i := 1) (v := .slice sa l.levels.length sc) (heap_set (i := 0) (v := .slice oa l.reads.length oc) HE.out.h2)
      have t0 := cell_at (i := 0) (v := .slice oa l.reads.length oc) g rfl
      have t1 := cell_at (i := 1) (v := .slice sa l.levels.length sc) g rfl
      have hfr := HE.out.fr.keep (((Same.refl _ _).setCell (a := ⟨w.heap.size + 1, 0, none⟩) (.slice oa l.reads.length oc) (fun h => h.2 (.inl rfl))).setCell (a := ⟨w.heap.size + 1, 1, none⟩) (.slice sa l.levels.length sc) (fun h => h.2 (.inl rfl)))
        (fun b hb h => h.elim (HE.out.far.1 b hb).1 (HE.out.far.1 b hb).2) (fun b hb h => h.elim (HE.out.far.2 b hb).1 (HE.out.far.2 b hb).2)
      refine bodyPost_ret (v := .agg #[.slice oa l.reads.length oc, .slice sa l.levels.length sc]) (by simp [results, Try.results43, go_sem, t0, t1]) rfl ⟨_, _, _, _, rfl, ⟨hfr.hr, hfr.hl.weak levGood (fun b _ h => ⟨h.1, h.2.1, fun h => h⟩)⟩, (HE.out.bel.setCell (by simp) _).setCell (by simp) _⟩
end Go.Proofs.Ytplckigmllkpoaa
