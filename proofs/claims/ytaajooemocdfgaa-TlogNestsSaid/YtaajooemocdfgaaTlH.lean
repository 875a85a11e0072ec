/- tlog.ended, Drop. -/
import Derived.Test.YtaajooemocdfgaaTlG
namespace Go.Proofs.Ytaajooemocdfgaa
open Go.RowKit Go.Shelf Go.Maps
attribute [local go_sem] Oper.semAt_some
theorem flatten_take {size : Nat} : ∀ (rows : List (List Value)) (k : Nat), (∀ (i : Nat) (row : List Value), rows[i]? = some row → row.length = size) → (rows.take k).flatten = rows.flatten.take (k * size)
  | [], k, _ => by simp
  | r :: rs, 0, _ => by simp
  | r :: rs, k + 1, h => by
    have h0 := h 0 r rfl
    rw [List.take_succ_cons, List.flatten_cons, List.flatten_cons, flatten_take rs k (fun i row hi => h (i + 1) row (by simpa using hi)), List.take_append, List.take_of_length_le (l := r) (by rw [h0, Nat.succ_mul]; omega), show (k + 1) * size - r.length = k * size by rw [h0, Nat.succ_mul]; omega]
theorem OSl.take {α : Type} {R : Enc α} {size : Nat} (g : Good R size) {e : TypeId} {base : Nat} {w : World} {ok : Nat → Prop} {a : Option Addr} {c : Nat} {xs : List α} (h : OSl R size e base w ok (.slice a xs.length c) xs) {k : Nat} (hk : k ≤ xs.length) :
    OSl R size e base w ok (.slice a k c) (xs.take k) := by
  obtain ⟨rows, hr, hl, hown⟩ := h
  have hlen := hr.len g
  have ob : (Value.slice a k c).ownBlock = (Value.slice a xs.length c).ownBlock := by cases a <;> rfl
  refine ⟨rows.take k, ⟨by rw [List.length_take, List.length_take, hr.1], fun i x row hx hrow => ?_⟩, ?_, ?_⟩
  · rw [ob]
    rw [List.getElem?_take] at hx hrow
    split at hx
    · rw [if_pos (by assumption)] at hrow
      exact hr.2 i x row hx hrow
    · cases hx
  · rw [flatten_take rows k hlen, List.length_take, flatten_len hlen, hr.1, List.length_take]
    rw [Nat.min_eq_left hk, Nat.min_eq_left (Nat.mul_le_mul_right _ hk)]
  · rw [List.length_take, Nat.min_eq_left hk]
    rcases hown with ⟨h1, h2⟩ | ⟨b, cap, cur, hv, hb, hh, h1, h2, h3, h4⟩
    · rw [h2] at h1
      cases h1
      exact .inl ⟨by rw [show k = 0 by omega], by omega⟩
    · cases hv
      exact .inr ⟨b, c, cur, rfl, hb, hh, by omega, h2, h3, by rw [flatten_take rows k hlen, ← h4, List.take_take, Nat.min_eq_left (Nat.mul_le_mul_right _ hk)]⟩
theorem OSl.lev_at {e : TypeId} {base : Nat} {w : World} {ok : Nat → Prop} {v : Value} {xs : List (List Pr)} (h : OSl LevE 1 e base w ok v xs) {k : Nat} {x : List Pr} (hk : xs[k]? = some x) :
    ∃ b cap xa xc, v = .slice (some ⟨b, 0, none⟩) xs.length cap ∧ base ≤ b ∧ xs.length ≤ cap ∧ (∃ c, w.heap[b]? = some (.cells c e (0, 0))) ∧ w.cell? ⟨b, k, none⟩ = some (.slice xa x.length xc) ∧ PSl w (fun b' => ok b' ∧ b' ≠ b) (.slice xa x.length xc) x := by
  have hlt : k < xs.length := (List.getElem?_eq_some_iff.1 hk).1
  obtain ⟨b1, o1, c1, x1, xa, xc, hv1, hx1, _, e1⟩ := LSl.at (h.rsl levGood (fun _ => True) (fun _ _ _ => trivial) (fun _ _ _ => trivial)) (Below.refl _ _) hlt
  rw [hk] at hx1; cases hx1
  obtain ⟨rows, hr, hl, hown⟩ := h
  rcases hown with ⟨_, h0⟩ | ⟨b, cap, cur, hv, hb, hh, g1, g2, g3, g4⟩
  · omega
  · rw [hv1] at hv
    cases hv
    have hkr : k < rows.length := by rw [hr.1]; exact hlt
    have hlen := hr.len levGood
    obtain ⟨sv, hrow, hs⟩ := hr.2 k x _ hk (List.getElem?_eq_getElem hkr)
    have hf := flatten_get hlen (List.getElem?_eq_getElem hkr) (j := 0) (u := sv) (by rw [hrow]; rfl)
    rw [← g4] at hf
    have hlt' := (List.getElem?_eq_some_iff.1 hf).1
    rw [List.length_take] at hlt'
    rw [List.getElem?_take_of_lt (by omega)] at hf
    rw [Nat.zero_add, cell_of hh] at e1
    have : sv = .slice xa x.length xc := by
      have h2 : cur[k]? = some sv := by simpa using hf
      rw [h2] at e1; cases e1; rfl
    subst this
    refine ⟨b1, c1, xa, xc, hv1, hb, g1, ⟨cur, hh⟩, by rw [cell_of hh]; exact e1, hs.weak pairGood (by decide) (fun b' _ hb' => ⟨hb'.1, fun e => hb'.2 (by rw [hv1, e]; rfl)⟩)⟩
theorem OwnIn.cut {w : World} {B2 B3 : Nat} {R : List Pr} {L : List (List Pr)} {rv : Value} {a : Option Addr} {c : Nat} {W : World} (h : OwnIn w B2 B3 R L rv (.slice a L.length c) W) (hB3 : w.heap.size ≤ B3) (hne : B2 ≠ B3) {k : Nat} (hk : k ≤ L.length) :
    OwnIn w B2 B3 R (L.take k) rv (.slice a k c) (W.setCell ⟨B3, 1, none⟩ (.slice a k c)) := by
  have ob : (Value.slice a k c).ownBlock = (Value.slice a L.length c).ownBlock := by cases a <;> rfl
  refine ⟨h.bel.setCell hB3 _, heap_far h.h2 hne, heap_set h.h3, h.fr.hr.keep pairGood ((Same.refl _ _).setCell _ ?_), ((h.fr.hl.take levGood hk).keep levGood ((Same.refl _ _).setCell _ ?_))⟩
  · rintro (hb | hb)
    · exact hb
    · exact (h.far.1 B3 hb.symm).2 rfl
  · rintro (hb | hb)
    · exact hb.2.2 (.inr rfl)
    · rw [ob] at hb
      exact (h.far.2 B3 hb.symm).2 rfl
def dropOk (l : Lg) : Bool := chkG l && decide (2 ≤ l.levels.length)
def EndP (l : Lg) (v : Value) (w : World) (e : Ending) (w' : World) : Prop :=
  if dropOk l = true then ∃ ra rc la lc xa xc x, l.levels[l.levels.length - 1]? = some x ∧ e = .returned (.tuple #[.agg #[.slice ra l.reads.length rc, .slice la (l.levels.length - 1) lc], .slice xa x.length xc, .bool true]) ∧
    Fresh w.heap.size w' (.slice ra l.reads.length rc) (.slice la (l.levels.length - 1) lc) (fun _ => False) l.reads (l.levels.take (l.levels.length - 1)) ∧ PSl w' (fun _ => True) (.slice xa x.length xc) x ∧ Below w.heap.size w w'
  else e = .returned (.tuple #[v, .slice none 0 0, .bool false]) ∧ Below w.heap.size w w'
set_option maxHeartbeats 4000000 in
theorem ended_any (w : World) (ok : Nat → Prop) (v : Value) (l : Lg) (h : GVal w ok v l) (hs : Okl l 100000) : Calls Try.prog 30 #[v] w (EndP l v w) := by
  have hG := h
  obtain ⟨ra, rc, la, lc, rfl, hr, hl⟩ := h
  obtain ⟨_, _, e, l1, _⟩ := hr.shape
  cases e
  obtain ⟨_, _, e, l2, _⟩ := hl.shape
  cases e
  clear hr hl
  obtain ⟨W0, hW0⟩ : ∃ W0, (w.alloc (Obj.cells #[.slice ra l.reads.length rc, .slice la l.levels.length lc] 25)).alloc (Obj.cells #[.slice none 0 0, .slice none 0 0] 25) = W0 := ⟨_, rfl⟩
  have hb0 : Below w.heap.size w W0 := by rw [← hW0]; exact ((Below.refl _ _).alloc (Nat.le_refl _) _).alloc (by simp) _
  have h0 : W0.heap[w.heap.size]? = some (.cells #[.slice ra l.reads.length rc, .slice la l.levels.length lc] 25) := by rw [← hW0]; exact heap_one _ _ _
  have h1 : W0.heap[w.heap.size + 1]? = some (.cells #[.slice none 0 0, .slice none 0 0] 25) := by rw [← hW0]; exact heap_two _ _ _
  obtain ⟨q, hq⟩ : ∃ q, q = chkG l := ⟨_, rfl⟩
  have HC := hid (check_any W0 _ _ l (hG.more hb0))
  rw [← hq] at HC
  have hlev : l.levels.length ≤ 100000 := hs.2.1
  have HH := hid (And.intro hG (And.intro hb0 (And.intro h0 (And.intro h1 (And.intro hq hs)))))
  have HW := hid hW0
  clear hG hb0 h0 h1 hW0 hq hs
  go_enter Try.func30, Try.ntmps30
  go_upto_region 1 with (fail)
  rw [HW.out]
  clear HW
  have c0 : W0.cell? ⟨w.heap.size, 0, none⟩ = some (.slice ra l.reads.length rc) := cell_of HH.out.2.2.1
  have c1 : W0.cell? ⟨w.heap.size, 1, none⟩ = some (.slice la l.levels.length lc) := cell_of HH.out.2.2.1
  go_upto_region 2 with (fail)
  go_wp2_with fail
  refine HC.out.mono ?_
  rintro e w1 ⟨rfl, b1⟩
  clear c0 c1 HC
  have k0 := (b1.block _ (lt_of_some HH.out.2.2.1)).trans HH.out.2.2.1
  have k1 := (b1.block _ (lt_of_some HH.out.2.2.2.1)).trans HH.out.2.2.2.1
  have bw1 := HH.out.2.1.trans (b1.mono HH.out.2.1.size)
  have c0 : w1.cell? ⟨w.heap.size, 0, none⟩ = some (.slice ra l.reads.length rc) := cell_of k0
  have c1 : w1.cell? ⟨w.heap.size, 1, none⟩ = some (.slice la l.levels.length lc) := cell_of k0
  have K := hid (And.intro k0 (And.intro k1 bw1))
  clear k0 k1 bw1 b1
  by_cases hd : dropOk l = true
  · obtain ⟨m, hm⟩ : ∃ m, l.levels.length = m + 1 := ⟨l.levels.length - 1, by simp [dropOk] at hd; omega⟩
    obtain rfl : q = true := by rw [HH.out.2.2.2.2.1]; simp [dropOk] at hd; exact hd.1
    have hm1 : 1 ≤ m := by simp [dropOk] at hd; omega
    have hi : ((l.levels.length : Int) - 1) = (m : Int) := by omega
    rw [hi]
    have HM := hid (And.intro hd (And.intro hm hi))
    clear hi hm hd
    have f1 : decide ((m : Int) < 1) = false := by rw [decide_eq_false_iff_not]; omega
    have HO := hid (own_any w1 _ _ l (HH.out.1.more K.out.2.2) HH.out.2.2.2.2.2.1 HH.out.2.2.2.2.2.2.1 HH.out.2.2.2.2.2.2.2)
    go_wp2_with fail
    refine HO.out.mono ?_
    rintro e w2 ⟨oa, oc, sa, sc, rfl, hfr, b2⟩
    clear c0 c1 HO
    have hlt2 : w.heap.size + 1 < w2.heap.size := by have := b2.size; have := lt_of_some K.out.2.1; omega
    have HI := hid (OwnIn.make K.out.2.2 K.out.2.1 hfr b2)
    clear hfr b2
    go_upto_region 5 with (fail)
    obtain ⟨w3, hw3⟩ : ∃ w3, w2.alloc (Obj.cells #[.slice oa l.reads.length oc, .slice sa l.levels.length sc] 25) = w3 := ⟨_, rfl⟩
    obtain ⟨B3, hB3⟩ : ∃ B3, w2.heap.size = B3 := ⟨_, rfl⟩
    rw [hw3, hB3] at HI
    rw [hw3, hB3]
    have hB : w.heap.size + 1 < B3 := by omega
    have hml : m < l.levels.length := by have := HM.out.2.1; omega
    obtain ⟨x, hx⟩ : ∃ x, l.levels[m]? = some x := ⟨_, List.getElem?_eq_getElem hml⟩
    obtain ⟨b4, c4, xa, xc, hv4, _, hcap, _, e4, hxs⟩ := HI.out.fr.hl.lev_at hx
    cases hv4
    have hI4 := HI.out.cut (by omega) (by omega) (k := m) (by omega)
    have c3 : w3.cell? ⟨B3, 1, none⟩ = some (.slice (some ⟨b4, 0, none⟩) l.levels.length sc) := cell_of HI.out.h3
    have f3 : w3.frozen? ⟨B3, 1, none⟩ = false := free_of HI.out.h3
    have HX := hid (And.intro hx (And.intro hxs hI4))
    have hmc : m ≤ sc := by omega
    clear hx hxs hI4 hw3 hB3 hcap
    go_upto_region 7 with (fail)
    obtain ⟨w5, hw5⟩ : ∃ w5, w3.setCell ⟨B3, 1, none⟩ (.slice (some ⟨b4, 0, none⟩) m sc) = w5 := ⟨_, rfl⟩
    have hxs5 : PSl w5 (fun b => b ≠ w.heap.size + 1) (.slice xa x.length xc) x := by
      rw [← hw5]
      exact (RSl.keep pairGood HX.out.2.1 ((Same.refl _ _).setCell (a := ⟨B3, 1, none⟩) _ (fun h => h.1.2.2 (.inr rfl)))).weak pairGood (by decide) (fun b _ hb e => hb.1.2.2 (.inl e))
    have hi5 := HX.out.2.2
    have hx5 := HX.out.1
    rw [hw5] at hi5
    rw [hw5]
    have H5 := hid (And.intro hi5 (And.intro hxs5 hx5))
    clear hw5 hxs5 hi5 hx5 HX HI c3 f3 e4
    have d0 : w5.cell? ⟨B3, 0, none⟩ = some (.slice oa l.reads.length oc) := cell_of H5.out.1.h3
    have d1 : w5.cell? ⟨B3, 1, none⟩ = some (.slice (some ⟨b4, 0, none⟩) m sc) := cell_of H5.out.1.h3
    have q0 : w5.cell? ⟨w.heap.size + 1, 0, none⟩ = some (.slice none 0 0) := cell_of H5.out.1.h2
    have q1 : w5.cell? ⟨w.heap.size + 1, 1, none⟩ = some (.slice none 0 0) := cell_of H5.out.1.h2
    have hf : ∀ i, w5.frozen? ⟨w.heap.size + 1, i, none⟩ = false := fun i => free_of H5.out.1.h2
    have HT := hid (show (l.levels.take m).length = m by simp; omega)
    go_wp2_with fail
    have F := OwnIn.out (L := l.levels.take m) (la := some ⟨b4, 0, none⟩) (lc := sc) (by rw [HT.out]; exact H5.out.1) (by simp)
    rw [HT.out] at F
    have t0 := cell_at (i := 0) (v := .slice oa l.reads.length oc) F.1 rfl
    have t1 := cell_at (i := 1) (v := .slice (some ⟨b4, 0, none⟩) m sc) F.1 rfl
    refine bodyPost_ret (v := .tuple #[.agg #[.slice oa l.reads.length oc, .slice (some ⟨b4, 0, none⟩) m sc], .slice xa x.length xc, .bool true]) (by simp [results, Try.results30, go_sem, t0, t1]) rfl ?_
    rw [EndP, if_pos HM.out.1, show l.levels.length - 1 = m by have := HM.out.2.1; omega]
    exact ⟨_, _, _, _, xa, xc, x, H5.out.2.2, rfl, F.2.1, PSl.all (RSl.keep pairGood H5.out.2.1 (((Same.refl _ _).setCell (a := ⟨w.heap.size + 1, 0, none⟩) _ (fun h => h rfl)).setCell (a := ⟨w.heap.size + 1, 1, none⟩) _ (fun h => h rfl))), F.2.2⟩
  · have q0 : w1.cell? ⟨w.heap.size + 1, 0, none⟩ = some (.slice none 0 0) := cell_of K.out.2.1
    have q1 : w1.cell? ⟨w.heap.size + 1, 1, none⟩ = some (.slice none 0 0) := cell_of K.out.2.1
    have hf : ∀ i, w1.frozen? ⟨w.heap.size + 1, i, none⟩ = false := fun i => free_of K.out.2.1
    have HD := hid hd
    have fin : ∀ w', w' = (w1.setCell ⟨w.heap.size + 1, 0, none⟩ (.slice ra l.reads.length rc)).setCell ⟨w.heap.size + 1, 1, none⟩ (.slice la l.levels.length lc) → w'.cell? ⟨w.heap.size + 1, 0, none⟩ = some (.slice ra l.reads.length rc) ∧ w'.cell? ⟨w.heap.size + 1, 1, none⟩ = some (.slice la l.levels.length lc) ∧ EndP l (.agg #[.slice ra l.reads.length rc, .slice la l.levels.length lc]) w (.returned (.tuple #[.agg #[.slice ra l.reads.length rc, .slice la l.levels.length lc], .slice none 0 0, .bool false])) w' := by
      rintro w' rfl
      have F := back_out K.out.2.1 (by simp) K.out.2.2 HH.out.1
      refine ⟨cell_at F.1 rfl, cell_at F.1 rfl, ?_⟩
      rw [EndP, if_neg hd]
      exact ⟨rfl, F.2.2⟩
    have HF := hid fin
    clear fin
    cases q
    · clear hd
      go_wp2_with fail
      have F := HF.out _ rfl
      have t0 := F.1
      have t1 := F.2.1
      exact bodyPost_ret (v := .tuple #[.agg #[.slice ra l.reads.length rc, .slice la l.levels.length lc], .slice none 0 0, .bool false]) (by simp [results, Try.results30, go_sem, t0, t1]) rfl F.2.2
    · have f1 : decide ((l.levels.length : Int) - 1 < 1) = true := by rw [decide_eq_true_iff]; have := HH.out.2.2.2.2.1; simp [dropOk, ← this] at hd; omega
      clear hd
      go_wp2_with fail
      have F := HF.out _ rfl
      have t0 := F.1
      have t1 := F.2.1
      exact bodyPost_ret (v := .tuple #[.agg #[.slice ra l.reads.length rc, .slice la l.levels.length lc], .slice none 0 0, .bool false]) (by simp [results, Try.results30, go_sem, t0, t1]) rfl F.2.2
theorem LP.of {r : Lg} {c : Int} {n : Nat} {w w' : World} {no ok : Nat → Prop} {ra la : Option Addr} {rc lc : Nat} (hn : r.levels.length = n) (F : Fresh w.heap.size w' (.slice ra r.reads.length rc) (.slice la n lc) no r.reads r.levels) (b : Below w.heap.size w w') :
    LP ok (r, c) w (.returned (.tuple #[.agg #[.slice ra r.reads.length rc, .slice la n lc], .int .i64 c])) w' := by
  subst hn; exact ⟨_, _, _, _, rfl, F.gval, b⟩
def dropG (l : Lg) : Lg × Int := if dropOk l then (⟨l.reads, l.levels.take (l.levels.length - 1)⟩, 0) else (l, 170)
set_option maxHeartbeats 4000000 in
theorem drop_any (w : World) (ok : Nat → Prop) (v : Value) (l : Lg) (h : GVal w ok v l) (hs : Okl l 100000) : Calls Try.prog 15 #[v] w (LP ok (dropG l) w) := by
  have hG := h
  obtain ⟨ra, rc, la, lc, rfl, hr, hl⟩ := h
  obtain ⟨_, _, e, l1, _⟩ := hr.shape
  cases e
  obtain ⟨_, _, e, l2, _⟩ := hl.shape
  cases e
  clear hr hl
  obtain ⟨W0, hW0⟩ : ∃ W0, (w.alloc (Obj.cells #[.slice ra l.reads.length rc, .slice la l.levels.length lc] 25)).alloc (Obj.cells #[.slice none 0 0, .slice none 0 0] 25) = W0 := ⟨_, rfl⟩
  have hb0 : Below w.heap.size w W0 := by rw [← hW0]; exact ((Below.refl _ _).alloc (Nat.le_refl _) _).alloc (by simp) _
  have h0 : W0.heap[w.heap.size]? = some (.cells #[.slice ra l.reads.length rc, .slice la l.levels.length lc] 25) := by rw [← hW0]; exact heap_one _ _ _
  have h1 : W0.heap[w.heap.size + 1]? = some (.cells #[.slice none 0 0, .slice none 0 0] 25) := by rw [← hW0]; exact heap_two _ _ _
  have HC := hid (ended_any W0 _ _ l (hG.more hb0) hs)
  have HH := hid (And.intro hG (And.intro hb0 (And.intro h0 (And.intro h1 hs))))
  have HW := hid hW0
  clear hG hb0 h0 h1 hW0 hs
  go_enter Try.func15, Try.ntmps15
  go_upto_region 1 with (fail)
  rw [HW.out]
  clear HW
  have c0 : W0.cell? ⟨w.heap.size, 0, none⟩ = some (.slice ra l.reads.length rc) := cell_of HH.out.2.2.1
  have c1 : W0.cell? ⟨w.heap.size, 1, none⟩ = some (.slice la l.levels.length lc) := cell_of HH.out.2.2.1
  by_cases hd : dropOk l = true
  · have hc : Hid (Calls Try.prog 30 #[.agg #[.slice ra l.reads.length rc, .slice la l.levels.length lc]] W0 fun e w' => ∃ oa oc sa sc xa xc x, l.levels[l.levels.length - 1]? = some x ∧ e = .returned (.tuple #[.agg #[.slice oa l.reads.length oc, .slice sa (l.levels.length - 1) sc], .slice xa (List.length x) xc, .bool true]) ∧
        Fresh W0.heap.size w' (.slice oa l.reads.length oc) (.slice sa (l.levels.length - 1) sc) (fun _ => False) l.reads (l.levels.take (l.levels.length - 1)) ∧ PSl w' (fun _ => True) (.slice xa x.length xc) x ∧ Below W0.heap.size W0 w') := HC.out.mono (fun e w' h => by rw [EndP, if_pos hd] at h; exact h)
    have hm1 : 2 ≤ l.levels.length := by simp [dropOk] at hd; exact hd.2
    obtain ⟨m, hm⟩ : ∃ m, l.levels.length - 1 = m := ⟨_, rfl⟩
    rw [hm] at hc
    have HM := hid (And.intro hd (And.intro hm hm1))
    clear hd hm hm1 HC
    go_wp2_with fail
    refine hc.out.mono ?_
    rintro e w1 ⟨oa, oc, sa, sc, xa, xc, x, hx, rfl, hfr, hxs, b1⟩
    clear c0 c1 hc hx hxs
    have k1 := (b1.block _ (lt_of_some HH.out.2.2.2.1)).trans HH.out.2.2.2.1
    have hlt2 : w.heap.size + 1 < w1.heap.size := lt_of_some k1
    have HI := hid (OwnIn.make HH.out.2.1 HH.out.2.2.2.1 hfr b1)
    clear hfr b1 k1
    go_upto_region 2 with (fail)
    obtain ⟨w3, hw3⟩ : ∃ w3, w1.alloc (Obj.cells #[.slice oa l.reads.length oc, .slice sa m sc] 25) = w3 := ⟨_, rfl⟩
    obtain ⟨B3, hB3⟩ : ∃ B3, w1.heap.size = B3 := ⟨_, rfl⟩
    rw [hw3, hB3] at HI
    rw [hw3, hB3]
    have hB : w.heap.size + 1 < B3 := by omega
    clear hw3 hB3
    have d0 : w3.cell? ⟨B3, 0, none⟩ = some (.slice oa l.reads.length oc) := cell_of HI.out.h3
    have d1 : w3.cell? ⟨B3, 1, none⟩ = some (.slice sa m sc) := cell_of HI.out.h3
    have q0 : w3.cell? ⟨w.heap.size + 1, 0, none⟩ = some (.slice none 0 0) := cell_of HI.out.h2
    have q1 : w3.cell? ⟨w.heap.size + 1, 1, none⟩ = some (.slice none 0 0) := cell_of HI.out.h2
    have hf : ∀ i, w3.frozen? ⟨w.heap.size + 1, i, none⟩ = false := fun i => free_of HI.out.h2
    have HT := hid (show (l.levels.take m).length = m by simp; have := HM.out.2.1; omega)
    go_wp2_with fail
    have F := OwnIn.out (L := l.levels.take m) (la := sa) (lc := sc) (by rw [HT.out]; exact HI.out) (by simp)
    rw [HT.out] at F
    have t0 := cell_at (i := 0) (v := .slice oa l.reads.length oc) F.1 rfl
    have t1 := cell_at (i := 1) (v := .slice sa m sc) F.1 rfl
    refine bodyPost_ret (v := .tuple #[.agg #[.slice oa l.reads.length oc, .slice sa m sc], .int .i64 0]) (by simp [results, Try.results15, go_sem, t0, t1]) rfl ?_
    rw [dropG, if_pos HM.out.1, HM.out.2.1]
    exact LP.of (r := ⟨l.reads, l.levels.take m⟩) HT.out F.2.1 F.2.2
  · have hc : Hid (Calls Try.prog 30 #[.agg #[.slice ra l.reads.length rc, .slice la l.levels.length lc]] W0 fun e w' => e = .returned (.tuple #[.agg #[.slice ra l.reads.length rc, .slice la l.levels.length lc], .slice none 0 0, .bool false]) ∧ Below W0.heap.size W0 w') := HC.out.mono (fun e w' h => by rw [EndP, if_neg hd] at h; exact h)
    have HD := hid hd
    clear hd HC
    go_wp2_with fail
    refine hc.out.mono ?_
    rintro e w1 ⟨rfl, b1⟩
    clear c0 c1 hc
    have k0 := (b1.block _ (lt_of_some HH.out.2.2.1)).trans HH.out.2.2.1
    have k1 := (b1.block _ (lt_of_some HH.out.2.2.2.1)).trans HH.out.2.2.2.1
    have bw1 := HH.out.2.1.trans (b1.mono HH.out.2.1.size)
    have hlt2 : w.heap.size + 1 < w1.heap.size := lt_of_some k1
    have K := hid (And.intro k0 (And.intro k1 bw1))
    clear k0 k1 bw1 b1
    go_upto_region 2 with (fail)
    obtain ⟨w3, hw3⟩ : ∃ w3, w1.alloc (Obj.cells #[.slice ra l.reads.length rc, .slice la l.levels.length lc] 25) = w3 := ⟨_, rfl⟩
    have b3 : Below w1.heap.size w1 w3 := by rw [← hw3]; exact (Below.refl _ _).alloc (Nat.le_refl _) _
    have k0 := (b3.block _ (lt_of_some K.out.1)).trans K.out.1
    have k1 := (b3.block _ (lt_of_some K.out.2.1)).trans K.out.2.1
    have bw3 := K.out.2.2.trans (b3.mono K.out.2.2.size)
    rw [hw3]
    have K3 := hid (And.intro k0 (And.intro k1 bw3))
    have c0 : w3.cell? ⟨w.heap.size, 0, none⟩ = some (.slice ra l.reads.length rc) := cell_of k0
    have c1 : w3.cell? ⟨w.heap.size, 1, none⟩ = some (.slice la l.levels.length lc) := cell_of k0
    have q0 : w3.cell? ⟨w.heap.size + 1, 0, none⟩ = some (.slice none 0 0) := cell_of k1
    have q1 : w3.cell? ⟨w.heap.size + 1, 1, none⟩ = some (.slice none 0 0) := cell_of k1
    have hf : ∀ i, w3.frozen? ⟨w.heap.size + 1, i, none⟩ = false := fun i => free_of K3.out.2.1
    clear k0 k1 bw3 b3 hw3 K
    go_wp2_with fail
    have F := back_out K3.out.2.1 (by simp) K3.out.2.2 HH.out.1
    have t0 := cell_at (i := 0) (v := .slice ra l.reads.length rc) F.1 rfl
    have t1 := cell_at (i := 1) (v := .slice la l.levels.length lc) F.1 rfl
    refine bodyPost_ret (v := .tuple #[.agg #[.slice ra l.reads.length rc, .slice la l.levels.length lc], .int .i64 170]) (by simp [results, Try.results15, go_sem, t0, t1]) rfl ?_
    rw [dropG, if_neg HD.out]
    exact ⟨_, _, _, _, rfl, F.2.1, F.2.2⟩
end Go.Proofs.Ytaajooemocdfgaa
