/- tlog.Merge. -/
import Derived.Test.YtaajooemocdfgaaTlH
namespace Go.Proofs.Ytaajooemocdfgaa
open Go.RowKit Go.Shelf Go.Maps
attribute [local go_sem] Oper.semAt_some
theorem OwnIn.grow {w : World} {B2 B3 : Nat} {R : List Pr} {L : List (List Pr)} {rv sv : Value} {W W' : World} (h : OwnIn w B2 B3 R L rv sv W) (b : Below W.heap.size W W') : OwnIn w B2 B3 R L rv sv W' :=
  ⟨h.bel.trans (b.mono h.bel.size), (b.block _ (lt_of_some h.h2)).trans h.h2, (b.block _ (lt_of_some h.h3)).trans h.h3, h.fr.below b⟩
/-- Where a level of it may lie. -/
def okL (w : World) (B2 B3 : Nat) (rv sv : Value) (b : Nat) : Prop := (w.heap.size ≤ b ∧ some b ≠ rv.ownBlock ∧ ¬ (b = B2 ∨ b = B3)) ∧ some b ≠ sv.ownBlock
theorem OwnIn.old {w : World} {B2 B3 : Nat} {R : List Pr} {L : List (List Pr)} {rv sv : Value} {W : World} (h : OwnIn w B2 B3 R L rv sv W) {b : Nat} (hb : W.heap.size ≤ b) : okL w B2 B3 rv sv b := by
  have h1 := h.bel.size
  have h2 := lt_of_some h.h2
  have h3 := lt_of_some h.h3
  refine ⟨⟨by omega, fun e => ?_, by omega⟩, fun e => ?_⟩
  · obtain ⟨_, c, hc⟩ := h.fr.hr.lt b e.symm; have := lt_of_some hc; omega
  · obtain ⟨_, c, hc⟩ := h.fr.hl.lt b e.symm; have := lt_of_some hc; omega
/-- A level of it is put anew. -/
theorem OwnIn.put {w : World} {B2 B3 : Nat} {R : List Pr} {L : List (List Pr)} {rv : Value} {a : Option Addr} {c N : Nat} {W : World} (hN : L.length = N) (h : OwnIn w B2 B3 R L rv (.slice a N c) W) {n : Nat} {x x' : List Pr} (hk : L[n]? = some x) {u : Value} (hu : PSl W (okL w B2 B3 rv (.slice a N c)) u x') :
    ∃ b, a = some ⟨b, 0, none⟩ ∧ W.frozen? ⟨b, n, none⟩ = false ∧ (∃ u0, W.cell? ⟨b, n, none⟩ = some u0) ∧ OwnIn w B2 B3 R (L.set n x') rv (.slice a N c) (W.setCell ⟨b, n, none⟩ u) := by
  subst hN
  obtain ⟨b, cap, hv, hb, hf, hu0, hO⟩ := OSl.setCell levGood h.fr.hl (x' := x') hk (j := 0) (by decide) u (fun row hr => by obtain ⟨sv, e, _⟩ := hr; subst e; exact ⟨u, rfl, hu⟩)
  cases hv
  simp only [Nat.mul_one, Nat.add_zero] at hu0 hO
  have hb23 := h.far.2 b rfl
  refine ⟨b, rfl, hf n, hu0, h.bel.setCell hb _, heap_far h.h2 (fun e => hb23.1 e.symm), heap_far h.h3 (fun e => hb23.2 e.symm), h.fr.hr.keep pairGood ((Same.refl _ _).setCell _ ?_), ?_⟩
  · rintro (h1 | h1)
    · exact h1
    · exact h.fr.ne b rfl h1.symm
  · exact hO
def mergeL (L : List (List Pr)) (m : Nat) : List (List Pr) := (L.take m).set (m - 1) ((L.getD m []).foldl putL (L.getD (m - 1) []))
def mergeG (l : Lg) : Lg × Int := if dropOk l then (⟨l.reads, mergeL l.levels (l.levels.length - 1)⟩, 0) else (l, 170)
theorem putL_length (l : List Pr) (x : Pr) : (putL l x).length ≤ l.length + 1 := by
  unfold putL
  split <;> simp
theorem foldl_put_length (ys : List Pr) : ∀ (l : List Pr), (ys.foldl putL l).length ≤ l.length + ys.length := by
  induction ys with
  | nil => intro l; simp
  | cons y ys ih => intro l; have h1 := ih (putL l y); have h2 := putL_length l y; simp only [List.foldl_cons, List.length_cons]; omega
set_option maxHeartbeats 4000000 in
theorem merge_any (w : World) (ok : Nat → Prop) (v : Value) (l : Lg) (h : GVal w ok v l) (hs : Okl l 100000) : Calls Try.prog 13 #[v] w (LP ok (mergeG l) w) := by
  have hG := h
  obtain ⟨ra, rc, la, lc, rfl, hr, hl⟩ := h
  obtain ⟨_, _, e, l1, _⟩ := hr.shape
  cases e
  obtain ⟨_, _, e, l2, _⟩ := hl.shape
  cases e
  clear hr hl
  obtain ⟨W0, hW0⟩ : ∃ W0, (w.alloc (Obj.cells #[.slice ra l.reads.length rc, .slice la l.levels.length lc] 25)).alloc (Obj.cells #[.slice none 0 0, .slice none 0 0] 25) = W0 := ⟨_, rfl⟩
  have hb0 : Below w.heap.size w W0 := by rw [← hW0]; exact ((Below.refl _ _).alloc (Nat.le_refl _) _).alloc (by simp) _
  have h0 : W0.heap[w.heap.size]? = some (.cells #[.slice ra l.reads.length rc, .slice la l.levels.length lc] 25) := by rw [← hW0]; exact heap_one _ _ _
  have h1 : W0.heap[w.heap.size + 1]? = some (.cells #[.slice none 0 0, .slice none 0 0] 25) := by rw [← hW0]; exact heap_two _ _ _
  have HC := hid (ended_any W0 _ _ l (hG.more hb0) hs)
  have HH := hid (And.intro hG (And.intro hb0 (And.intro h0 (And.intro h1 hs))))
  have HW := hid hW0
  clear hG hb0 h0 h1 hW0 hs
  go_enter Try.func13, Try.ntmps13
  go_upto_region 1 with (fail)
  rw [HW.out]
  clear HW
  have c0 : W0.cell? ⟨w.heap.size, 0, none⟩ = some (.slice ra l.reads.length rc) := cell_of HH.out.2.2.1
  have c1 : W0.cell? ⟨w.heap.size, 1, none⟩ = some (.slice la l.levels.length lc) := cell_of HH.out.2.2.1
  by_cases hd : dropOk l = true
  · have hc : Hid (Calls Try.prog 30 #[.agg #[.slice ra l.reads.length rc, .slice la l.levels.length lc]] W0 fun e w' => ∃ oa oc sa sc xa xc x, l.levels[l.levels.length - 1]? = some x ∧ e = .returned (.tuple #[.agg #[.slice oa l.reads.length oc, .slice sa (l.levels.length - 1) sc], .slice xa (List.length x) xc, .bool true]) ∧
        Fresh W0.heap.size w' (.slice oa l.reads.length oc) (.slice sa (l.levels.length - 1) sc) (fun _ => False) l.reads (l.levels.take (l.levels.length - 1)) ∧ PSl w' (fun _ => True) (.slice xa x.length xc) x ∧ Below W0.heap.size W0 w') := HC.out.mono (fun e w' h => by rw [EndP, if_pos hd] at h; exact h)
    have hm1 : 2 ≤ l.levels.length := by simp [dropOk] at hd; exact hd.2
    obtain ⟨m, hm⟩ : ∃ m, l.levels.length - 1 = m := ⟨_, rfl⟩
    rw [hm] at hc
    have HM := hid (And.intro hd (And.intro hm hm1))
    clear hd hm hm1 HC
    go_wp2_with fail
    refine hc.out.mono ?_
    rintro e w1 ⟨oa, oc, sa, sc, xa, xc, x, hx, rfl, hfr, hxs, b1⟩
    clear c0 c1 hc
    have k1 := (b1.block _ (lt_of_some HH.out.2.2.2.1)).trans HH.out.2.2.2.1
    have hlt2 : w.heap.size + 1 < w1.heap.size := lt_of_some k1
    have HI := hid (OwnIn.make HH.out.2.1 HH.out.2.2.2.1 hfr b1)
    have HXS := hid (And.intro hx (And.intro hxs b1.size))
    clear hfr b1 k1 hx hxs
    go_upto_region 2 with (fail)
    obtain ⟨w3, hw3⟩ : ∃ w3, w1.alloc (Obj.cells #[.slice oa l.reads.length oc, .slice sa m sc] 25) = w3 := ⟨_, rfl⟩
    obtain ⟨B3, hB3⟩ : ∃ B3, w1.heap.size = B3 := ⟨_, rfl⟩
    rw [hw3, hB3] at HI
    rw [hw3, hB3]
    have hB : w.heap.size + 1 < B3 := by omega
    have hxs3 : PSl w3 (fun _ => True) (.slice xa x.length xc) x := HXS.out.2.1.more (by rw [← hw3]; exact (Below.refl _ _).alloc (Nat.le_refl _) _)
    have hxl : x.length ≤ 100000 := HH.out.2.2.2.2.2.2 x (List.mem_of_getElem? HXS.out.1)
    obtain ⟨n, hn⟩ : ∃ n, m = n + 1 := ⟨m - 1, by have := HM.out.2; omega⟩
    subst hn
    have hLl : (l.levels.take (n + 1)).length = n + 1 := by simp; have := HM.out.2; omega
    obtain ⟨y, hy⟩ : ∃ y, (l.levels.take (n + 1))[n]? = some y := ⟨_, List.getElem?_eq_getElem (by omega)⟩
    have hyl : y.length ≤ 100000 := HH.out.2.2.2.2.2.2 y (List.mem_of_mem_take (List.mem_of_getElem? hy))
    obtain ⟨b4, c4, ya, yc, hv4, _, hcap, _, e4, hys⟩ := HI.out.fr.hl.lev_at hy
    rw [hLl] at hv4 hcap
    cases hv4
    have d1 : w3.cell? ⟨B3, 1, none⟩ = some (.slice (some ⟨b4, 0, none⟩) (n + 1) sc) := cell_of HI.out.h3
    have HY := hid (And.intro hy (And.intro hys (And.intro hxs3 (And.intro hxl (And.intro hyl hLl)))))
    have hi : (((n + 1 : Nat) : Int) - 1) = (n : Int) := by omega
    have hnb : n ≤ 100000 := by have := HM.out.2; have := HH.out.2.2.2.2.2.1; omega
    clear hw3 hB3 hy hys hxs3 hxl hyl hLl hi
    go_upto_region 7 with (fail)
    go_loopw [32, 8] (fun i u8 wr => ∃ (k : Nat) (aa : Option Addr) (ac : Nat), k ≤ x.length ∧ i = .int .i64 k ∧ u8 = .slice aa ((x.take k).foldl putL y).length ac ∧ Hid (OwnIn w (w.heap.size + 1) B3 l.reads (l.levels.take (n + 1)) (.slice oa l.reads.length oc) (.slice (some ⟨b4, 0, none⟩) (n + 1) sc) wr ∧ Below w3.heap.size w3 wr ∧
      PSl wr (okL w (w.heap.size + 1) B3 (.slice oa l.reads.length oc) (.slice (some ⟨b4, 0, none⟩) (n + 1) sc)) (.slice aa ((x.take k).foldl putL y).length ac) ((x.take k).foldl putL y))) (fun i _ _ => x.length - (intOf i).toNat)
    case atStart => exact ⟨0, ya, yc, Nat.zero_le _, rfl, by simp, hid (And.intro HI.out (And.intro (Below.refl _ _) (by
      have := HY.out.2.1
      simp only [List.take_zero, List.foldl_nil]
      exact this.weak pairGood (by decide) (fun b _ hb => ⟨hb.1, fun e => hb.2 (by cases e; rfl)⟩))))⟩
    case round =>
      obtain ⟨k, aa, ac, hk, rfl, rfl, HR⟩ := hrel
      by_cases hlt : k < x.length
      · have hxb := HY.out.2.2.2.1
        have hln := foldl_put_length (x.take k) y
        have hlnb : ((x.take k).foldl putL y).length ≤ 300000 := by have := HY.out.2.2.2.1; have := HY.out.2.2.2.2.1; rw [List.length_take] at hln; omega
        have hstep : ∀ z, x[k]? = some z → (x.take (k + 1)).foldl putL y = putL ((x.take k).foldl putL y) z := fun z hz => by
          rw [List.take_succ_eq_append_getElem hlt, (List.getElem?_eq_some_iff.1 hz).2, List.foldl_append]; rfl
        obtain ⟨lw, hlw⟩ : ∃ lw, lw = (x.take k).foldl putL y := ⟨_, rfl⟩
        rw [← hlw] at HR hlnb hstep ⊢
        obtain ⟨b5, o5, c5, z, hv5, hz, hz1, hz2, e5, e6⟩ := HY.out.2.2.1.at HR.out.2.1 hlt
        cases hv5
        have hbz := (Below.refl wr.heap.size wr).alloc (Nat.le_refl _) (Obj.cells #[.int .i64 z.1, .int .i64 z.2] 41)
        have hnz := World.alloc_heap_new wr (Obj.cells #[.int .i64 z.1, .int .i64 z.2] 41)
        have hput := put_any (wr.alloc (.cells #[.int .i64 z.1, .int .i64 z.2] 41)) _ (.slice aa lw.length ac) lw z (HR.out.2.2.more hbz) hz1 hz2 (by omega)
        have p0 : (wr.alloc (.cells #[.int .i64 z.1, .int .i64 z.2] 41)).cell? ⟨wr.heap.size, 0, none⟩ = some (.int .i64 z.1) := cell_of hnz
        have p1 : (wr.alloc (.cells #[.int .i64 z.1, .int .i64 z.2] 41)).cell? ⟨wr.heap.size, 1, none⟩ = some (.int .i64 z.2) := cell_of hnz
        have HP := hid (And.intro hput (And.intro hbz (hstep z hz)))
        clear hput hbz hnz hz hz1 hz2 hstep hln hlnb hlw
        go_upto_region 10 with (fail)
        go_wp2_with fail
        refine HP.out.1.mono ?_
        rintro e w5 ⟨pv, rfl, hO5, b5'⟩
        obtain ⟨pa, pc, rfl⟩ := hO5.shape2
        have bb := HP.out.2.1.trans (b5'.mono HP.out.2.1.size)
        have hsz := HP.out.2.1.size
        have HN := hid (And.intro (HR.out.1.grow bb) (And.intro (HR.out.2.1.trans (bb.mono HR.out.2.1.size)) (hO5.rsl pairGood (okL w (w.heap.size + 1) B3 (.slice oa l.reads.length oc) (.slice (some ⟨b4, 0, none⟩) (n + 1) sc)) (fun b _ hb => HR.out.1.old (by omega)) (fun _ _ hb => hb.elim))))
        rw [← HP.out.2.2] at HN
        have hlen : (putL lw z).length = ((x.take (k + 1)).foldl putL y).length := by rw [HP.out.2.2]
        rw [hlen]
        clear hO5 b5' bb hsz hlen e5 e6 p0 p1
        go_wp2_with fail
        go_roundw
        case rel => exact ⟨k + 1, pa, pc, by omega, by go_num, rfl, HN⟩
        case measure => simp [intOf]; omega
      · obtain rfl : k = x.length := by omega
        rw [List.take_length] at HR ⊢
        obtain ⟨lw, hlw⟩ : ∃ lw, lw = x.foldl putL y := ⟨_, rfl⟩
        rw [← hlw] at HR ⊢
        obtain ⟨b6, hb6, f6, ⟨u6, c6⟩, hI6⟩ := HR.out.1.put HY.out.2.2.2.2.2 HY.out.1 HR.out.2.2
        obtain rfl : b4 = b6 := by cases hb6; rfl
        have d1 : wr.cell? ⟨B3, 1, none⟩ = some (.slice (some ⟨b4, 0, none⟩) (n + 1) sc) := cell_of HR.out.1.h3
        have H6 := hid (And.intro hI6 hlw)
        clear hI6 hlw hlt
        go_upto_region 13 with (fail)
        obtain ⟨w7, hw7⟩ : ∃ w7, wr.setCell ⟨b4, n, none⟩ (.slice aa lw.length ac) = w7 := ⟨_, rfl⟩
        rw [hw7] at H6
        rw [hw7]
        clear hw7 c6 f6 d1
        have d0 : w7.cell? ⟨B3, 0, none⟩ = some (.slice oa l.reads.length oc) := cell_of H6.out.1.h3
        have d1 : w7.cell? ⟨B3, 1, none⟩ = some (.slice (some ⟨b4, 0, none⟩) (n + 1) sc) := cell_of H6.out.1.h3
        have q0 : w7.cell? ⟨w.heap.size + 1, 0, none⟩ = some (.slice none 0 0) := cell_of H6.out.1.h2
        have q1 : w7.cell? ⟨w.heap.size + 1, 1, none⟩ = some (.slice none 0 0) := cell_of H6.out.1.h2
        have hf : ∀ i, w7.frozen? ⟨w.heap.size + 1, i, none⟩ = false := fun i => free_of H6.out.1.h2
        have HT := hid (show ((l.levels.take (n + 1)).set n lw).length = n + 1 by rw [List.length_set]; exact HY.out.2.2.2.2.2)
        go_wp2_with fail
        have F := OwnIn.out (L := (l.levels.take (n + 1)).set n lw) (la := some ⟨b4, 0, none⟩) (lc := sc) (by rw [HT.out]; exact H6.out.1) (by simp)
        rw [HT.out] at F
        have t0 := cell_at (i := 0) (v := .slice oa l.reads.length oc) F.1 rfl
        have t1 := cell_at (i := 1) (v := .slice (some ⟨b4, 0, none⟩) (n + 1) sc) F.1 rfl
        refine bodyPost_ret (v := .tuple #[.agg #[.slice oa l.reads.length oc, .slice (some ⟨b4, 0, none⟩) (n + 1) sc], .int .i64 0]) (by simp [results, Try.results13, go_sem, t0, t1]) rfl ?_
        rw [mergeG, if_pos HM.out.1, HM.out.2.1, mergeL, Nat.add_sub_cancel]
        rw [show l.levels.getD (n + 1) [] = x by rw [List.getD_eq_getElem?_getD, HXS.out.1]; rfl, show l.levels.getD n [] = y by
          have h1 := HY.out.1
          rw [List.getElem?_take_of_lt (by omega)] at h1
          rw [List.getD_eq_getElem?_getD, h1]; rfl, ← H6.out.2]
        exact LP.of (r := ⟨l.reads, (l.levels.take (n + 1)).set n lw⟩) HT.out F.2.1 F.2.2
  · have hc : Hid (Calls Try.prog 30 #[.agg #[.slice ra l.reads.length rc, .slice la l.levels.length lc]] W0 fun e w' => e = .returned (.tuple #[.agg #[.slice ra l.reads.length rc, .slice la l.levels.length lc], .slice none 0 0, .bool false]) ∧ Below W0.heap.size W0 w') := HC.out.mono (fun e w' h => by rw [EndP, if_neg hd] at h; exact h)
    have HD := hid hd
    clear hd HC
    go_wp2_with fail
    refine hc.out.mono ?_
    rintro e w1 ⟨rfl, b1⟩
    clear c0 c1 hc
    have k0 := (b1.block _ (lt_of_some HH.out.2.2.1)).trans HH.out.2.2.1
    have k1 := (b1.block _ (lt_of_some HH.out.2.2.2.1)).trans HH.out.2.2.2.1
    have bw1 := HH.out.2.1.trans (b1.mono HH.out.2.1.size)
    have hlt2 : w.heap.size + 1 < w1.heap.size := lt_of_some k1
    have K := hid (And.intro k0 (And.intro k1 bw1))
    clear k0 k1 bw1 b1
    go_upto_region 2 with (fail)
    obtain ⟨w3, hw3⟩ : ∃ w3, w1.alloc (Obj.cells #[.slice ra l.reads.length rc, .slice la l.levels.length lc] 25) = w3 := ⟨_, rfl⟩
    have b3 : Below w1.heap.size w1 w3 := by rw [← hw3]; exact (Below.refl _ _).alloc (Nat.le_refl _) _
    have k0 := (b3.block _ (lt_of_some K.out.1)).trans K.out.1
    have k1 := (b3.block _ (lt_of_some K.out.2.1)).trans K.out.2.1
    have bw3 := K.out.2.2.trans (b3.mono K.out.2.2.size)
    rw [hw3]
    have K3 := hid (And.intro k0 (And.intro k1 bw3))
    have c0 : w3.cell? ⟨w.heap.size, 0, none⟩ = some (.slice ra l.reads.length rc) := cell_of k0
    have c1 : w3.cell? ⟨w.heap.size, 1, none⟩ = some (.slice la l.levels.length lc) := cell_of k0
    have q0 : w3.cell? ⟨w.heap.size + 1, 0, none⟩ = some (.slice none 0 0) := cell_of k1
    have q1 : w3.cell? ⟨w.heap.size + 1, 1, none⟩ = some (.slice none 0 0) := cell_of k1
    have hf : ∀ i, w3.frozen? ⟨w.heap.size + 1, i, none⟩ = false := fun i => free_of K3.out.2.1
    clear k0 k1 bw3 b3 hw3 K
    go_wp2_with fail
    have F := back_out K3.out.2.1 (by simp) K3.out.2.2 HH.out.1
    have t0 := cell_at (i := 0) (v := .slice ra l.reads.length rc) F.1 rfl
    have t1 := cell_at (i := 1) (v := .slice la l.levels.length lc) F.1 rfl
    refine bodyPost_ret (v := .tuple #[.agg #[.slice ra l.reads.length rc, .slice la l.levels.length lc], .int .i64 170]) (by simp [results, Try.results13, go_sem, t0, t1]) rfl ?_
    rw [mergeG, if_neg HD.out]
    exact ⟨_, _, _, _, rfl, F.2.1, F.2.2⟩
end Go.Proofs.Ytaajooemocdfgaa
