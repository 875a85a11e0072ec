/- The reference of tlog: New, put, Get. -/
import Derived.Test.YtaajooemocdfgaaTlQ
import Derived.Test.YtaajooemocdfgaaCopy
namespace Go.Proofs.Ytaajooemocdfgaa
open Go.RowKit Go.Shelf Go.Maps
attribute [local go_sem] Oper.semAt_some
theorem putL_hit {xs : List Pr} {k : Nat} {x y : Pr} (hy : xs[k]? = some y) (he : (y.1 == x.1) = true) (hn : ∀ (j : Nat) (z : Pr), j < k → xs[j]? = some z → (z.1 == x.1) = false) : putL xs x = xs.set k x := by
  have : xs.findIdx? (hasV x.1) = some k := by
    rw [List.findIdx?_eq_some_iff_getElem]
    obtain ⟨hk, rfl⟩ := List.getElem?_eq_some_iff.1 hy
    exact ⟨hk, he, fun j hj => by have := hn j _ hj (List.getElem?_eq_getElem (by omega)); simpa [hasV] using this⟩
  rw [putL, this]
theorem putL_end {xs : List Pr} {x : Pr} (hn : ∀ (j : Nat) (z : Pr), j < xs.length → xs[j]? = some z → (z.1 == x.1) = false) : putL xs x = xs ++ [x] := by
  have : xs.findIdx? (hasV x.1) = none := by
    rw [List.findIdx?_eq_none_iff]
    intro y hy
    obtain ⟨j, hj⟩ := List.getElem?_of_mem hy
    exact hn j y (List.getElem?_eq_some_iff.1 hj).1 hj
  rw [putL, this]
set_option maxHeartbeats 4000000 in
theorem rput_any (w : World) (ok : Nat → Prop) (v : Value) (xs : List Pr) (x : Pr) (h : PSl w ok v xs) (h1 : In x.1) (h2 : In x.2) (hlen : xs.length ≤ 1000000) :
    Calls Try.prog 32 #[v, .agg #[.int .i64 x.1, .int .i64 x.2]] w fun e w' => ∃ v', e = .returned v' ∧ OSl PairE 2 41 w.heap.size w' (fun _ => False) v' (putL xs x) ∧ Below w.heap.size w w' := by
  obtain ⟨a1, c1, rfl, l1, _⟩ := h.shape
  obtain ⟨W0, hW0⟩ : ∃ W0, w.alloc (Obj.cells #[.int .i64 x.1, .int .i64 x.2] 41) = W0 := ⟨_, rfl⟩
  have hb0 : Below w.heap.size w W0 := by rw [← hW0]; exact (Below.refl _ _).alloc (Nat.le_refl _) _
  have hz0 : W0.heap.size = w.heap.size + 1 := by rw [← hW0]; simp
  have hx0 : W0.heap[w.heap.size]? = some (Obj.cells #[.int .i64 x.1, .int .i64 x.2] 41) := by rw [← hW0]; exact World.alloc_heap_new _ _
  obtain ⟨W1, hW1⟩ : ∃ W1, W0.alloc (Obj.cells #[] 41) = W1 := ⟨_, rfl⟩
  have hb1 : Below W0.heap.size W0 W1 := by rw [← hW1]; exact (Below.refl _ _).alloc (Nat.le_refl _) _
  have hm1 : W1.heap[W0.heap.size]? = some (.cells #[] 41) := by rw [← hW1]; exact World.alloc_heap_new _ _
  have hs0 : PSl W0 (fun b => b < W0.heap.size) (.slice a1 xs.length c1) xs := RSl.weak pairGood (by decide) (h.more hb0) (fun b hb _ => hb)
  have hsrc : PSl W1 (fun b => b < W0.heap.size) (.slice a1 xs.length c1) xs := hs0.more hb1
  obtain ⟨v', w', hrun, hO, hbw, hkeep⟩ := append_fresh (w := W0) (ok := fun b => b < W0.heap.size) pairGood (by decide) (P := Try.prog) Try.underlying37 infoW rfl (by decide) hsrc (fun x row h => pr_one x row h) hlen (E := W0.heap.size) (Nat.le_refl _) hm1 hb1 (fun b hb => by omega)
  obtain ⟨oa, oc, rfl⟩ := hO.shape2
  have hO' : OSl PairE 2 41 W0.heap.size w' (fun _ => False) (.slice oa xs.length oc) xs := by
    obtain ⟨rows, hr, hown⟩ := hO
    exact ⟨rows, ⟨hr.1, fun i x row hx hrow => hr.2 i x row hx hrow⟩, hown⟩
  have hx2 := hkeep _ _ ((hb1.block _ (lt_of_some hx0)).trans hx0) (by have := lt_of_some hx0; omega)
  have HR := hid hrun
  have H0 := hid (And.intro hO' (And.intro hx2 (And.intro (hb0.trans (hbw.mono hb0.size)) (And.intro hz0 (And.intro h1 h2)))))
  have HW := hid (And.intro hW0 hW1)
  clear h hW0 hb0 hz0 hx0 h1 h2 hrun hO hO' hbw hkeep hx2 hsrc hs0 hm1 hb1 hW1
  go_enter Try.func32, Try.ntmps32
  go_upto_region 1 with (fail)
  rw [HW.out.1]
  go_upto_region 3 with (first | rw [HW.out.2] | (at_builtin; refine wpList_append_run rfl _ _ _ rfl _ _ rfl rfl _ _ HR.out ?_))
  clear HR HW
  go_loopw [6] (fun i wr => ∃ k : Nat, k ≤ xs.length ∧ i = .int .i64 k ∧ Hid (∀ (j : Nat) (y : Pr), j < k → xs[j]? = some y → (y.1 == x.1) = false) ∧ Below w'.heap.size w' wr) (fun i _ => xs.length - (intOf i).toNat)
  case atStart => exact ⟨0, Nat.zero_le _, rfl, fun j y hj => absurd hj (by omega), Below.refl _ _⟩
  case round =>
    obtain ⟨k, hk, rfl, HA, hb⟩ := hrel
    have hxr := (hb.block _ (lt_of_some H0.out.2.1)).trans H0.out.2.1
    have hOr := H0.out.1.below pairGood hb
    have hbr := H0.out.2.2.1.trans (hb.mono H0.out.2.2.1.size)
    have q0 : wr.cell? ⟨w.heap.size, 0, none⟩ = some (.int .i64 x.1) := cell_of hxr
    have q1 : wr.cell? ⟨w.heap.size, 1, none⟩ = some (.int .i64 x.2) := cell_of hxr
    by_cases hlt : k < xs.length
    · obtain ⟨y, hy⟩ : ∃ y, xs[k]? = some y := ⟨_, List.getElem?_eq_getElem hlt⟩
      obtain ⟨O, oc', hv, hOb, hfz, ⟨u0, hu0⟩, _⟩ := OSl.setCell pairGood hOr (x' := (x.1, y.2)) hy (j := 0) (by decide) (.int .i64 x.1) (fun row hr => ⟨by rw [hr.1]; rfl, H0.out.2.2.2.2.1, hr.2.2⟩)
      obtain ⟨rfl, rfl⟩ : oa = some ⟨O, 0, none⟩ ∧ oc = oc' := by cases hv; exact ⟨rfl, rfl⟩
      obtain ⟨_, _, _, hv4, _, _, e1, _⟩ := PSl.pick (hOr.rsl pairGood (fun _ => True) (fun _ _ _ => trivial) (fun _ _ _ => trivial)) (Below.refl _ _) hy
      cases hv4
      rw [Nat.zero_add] at e1
      have HY := hid hy
      have hxb : xs.length ≤ 9223372036854775807 := by omega
      clear hv hu0 hfz hOr hbr hxr hy
      cases hq : y.1 == x.1
      · have HQ := hid hq
        clear q1
        go_wp2
        go_quiet (fail)
        go_wp2
        go_roundw
        case rel =>
          refine ⟨k + 1, by omega, by go_num, fun j z hj hz => ?_, below_drewN hb _⟩
          by_cases e : j = k
          · subst e; rw [HY.out] at hz; cases hz; exact HQ.out
          · exact HA.out j z (by omega) hz
        case measure => simp [intOf]; omega
      · have HQ := hid hq
        go_upto_region 5 with (fail)
        go_quiet (fail)
        go_upto_region 6 with (fail)
        have hb2 := below_drewN hb nq
        generalize wr.drewN nq = w2 at hb2
        clear q0 q1 e1 hb
        have hx2 := (hb2.block _ (lt_of_some H0.out.2.1)).trans H0.out.2.1
        have hO2 := H0.out.1.below pairGood hb2
        have bw2 := H0.out.2.2.1.trans (hb2.mono H0.out.2.2.1.size)
        obtain ⟨O1, oc1, hv, _, hfz, ⟨u0, hu0⟩, hO3⟩ := OSl.setCell pairGood hO2 (x' := (x.1, y.2)) HY.out (j := 0) (by decide) (.int .i64 x.1) (fun row hr => ⟨by rw [hr.1]; rfl, H0.out.2.2.2.2.1, hr.2.2⟩)
        obtain ⟨rfl, rfl⟩ : O = O1 ∧ oc = oc1 := by cases hv; exact ⟨rfl, rfl⟩
        obtain ⟨O2, oc2, hv2, _, _, ⟨u1, hu1⟩, hO4⟩ := OSl.setCell pairGood hO3 (x' := (x.1, x.2)) (k := k) (by rw [List.getElem?_set_self hlt]) (j := 1) (by decide) (.int .i64 x.2) (fun row hr => ⟨by rw [hr.1]; rfl, H0.out.2.2.2.2.1, H0.out.2.2.2.2.2⟩)
        rw [List.length_set] at hv2
        obtain ⟨rfl, rfl⟩ : O = O2 ∧ oc = oc2 := by cases hv2; exact ⟨rfl, rfl⟩
        rw [List.set_set] at hO4
        have c0 : w2.cell? ⟨w.heap.size, 0, none⟩ = some (.int .i64 x.1) := cell_of hx2
        have c1 : w2.cell? ⟨w.heap.size, 1, none⟩ = some (.int .i64 x.2) := cell_of hx2
        simp only [Nat.add_zero] at hu0 hu1 hO4
        have hu1' : w2.cell? ⟨O, k * 2 + 1, none⟩ = some u1 := by
          obtain ⟨_, c, hc⟩ := hO2.lt O rfl
          rw [← hu1, cell_of hc, cell_of (heap_set hc), Array.getElem?_setIfInBounds_ne (by omega)]
        have hOw : w.heap.size ≤ O := by have := H0.out.2.2.2.1; omega
        have HF := hid (And.intro (show OSl PairE 2 41 w.heap.size ((w2.setCell ⟨O, k * 2, none⟩ (.int .i64 x.1)).setCell ⟨O, k * 2 + 1, none⟩ (.int .i64 x.2)) (fun _ => False) (.slice (some ⟨O, 0, none⟩) xs.length oc) (putL xs x) from by
          rw [putL_hit HY.out HQ.out HA.out]
          exact hO4.base (by have := H0.out.2.2.2.1; omega))
          ((bw2.setCell (p := ⟨O, k * 2, none⟩) hOw (.int .i64 x.1)).setCell (p := ⟨O, k * 2 + 1, none⟩) hOw (.int .i64 x.2)))
        clear hO4 hO3 hO2 bw2 hx2 hv hv2 hu1 hb2 hq HA
        go_wp2_with fail
        go_ret
        exact ⟨_, rfl, HF.out.1, HF.out.2⟩
    · obtain rfl : k = xs.length := by omega
      have hput := putL_end HA.out
      have hba := (Below.refl wr.heap.size wr).alloc (Nat.le_refl _) (.cells #[.int .i64 x.1, .int .i64 x.2] 41)
      obtain ⟨v', w3, hrun, hO3, hg, _, _⟩ := OSl.append (P := Try.prog) pairGood (by decide) (hOr.below pairGood hba) 37 37 (.agg #[.int .i64 0, .int .i64 0]) 16 Try.underlying37 infoW rfl ⟨wr.heap.size, 0, none⟩ 1 [x] [[.int .i64 x.1, .int .i64 x.2]]
        (Rows.one ⟨rfl, H0.out.2.2.2.2.1, H0.out.2.2.2.2.2⟩) (fun j u hj => by rw [addr_add, Nat.zero_add, cell_of (World.alloc_heap_new _ _)]; simpa using hj) (by simp [Value.oneCell']) (by simp [maxLen]; omega) (by simp; omega) (by have := hb.size; have := H0.out.2.1; have := lt_of_some H0.out.2.1; have := H0.out.2.2.2.1; have := hba.size; omega)
      have HR := hid hrun
      have hlt3 : ∀ b, (Value.slice oa xs.length oc).ownBlock = some b → W0.heap.size ≤ b := fun b hb => (hOr.lt b hb).1
      have HF := hid (And.intro (show OSl PairE 2 41 w.heap.size w3 (fun _ => False) v' (putL xs x) from by
        rw [hput]; exact hO3.base (by have := H0.out.2.2.2.1; omega))
        ((hbr.trans (hba.mono hbr.size)).grown hg (by have := hba.size; have := hbr.size; omega) (fun k hk => by have := hlt3 k hk; have := H0.out.2.2.2.1; omega)))
      clear hrun hO3 hg hba hOr hbr hxr hput hlt3 HA
      go_wp2_with (at_builtin; refine wpList_append_run rfl _ _ _ rfl _ _ rfl rfl _ _ HR.out ?_)
      go_ret
      exact ⟨_, rfl, HF.out.1, HF.out.2⟩
set_option maxHeartbeats 1000000 in
theorem rnew_any (w : World) : Calls Try.prog 26 #[] w fun e w' => ∃ la lc, e = .returned (.agg #[.slice none 0 0, .slice la 1 lc]) ∧ GVal w' (fun b => w.heap.size ≤ b) (.agg #[.slice none 0 0, .slice la 1 lc]) ⟨[], [[]]⟩ ∧ Below w.heap.size w w' := by
  obtain ⟨W0, hW0⟩ : ∃ W0, w.alloc (Obj.cells #[.slice none 0 0, .slice none 0 0] 25) = W0 := ⟨_, rfl⟩
  have hb0 : Below w.heap.size w W0 := by rw [← hW0]; exact (Below.refl _ _).alloc (Nat.le_refl _) _
  have h0 : W0.heap[w.heap.size]? = some (.cells #[.slice none 0 0, .slice none 0 0] 25) := by rw [← hW0]; exact World.alloc_heap_new _ _
  obtain ⟨W1, hW1⟩ : ∃ W1, W0.alloc (.cells (madeCells (Value.slice none 0 0).cells (1 * 1)) 37) = W1 := ⟨_, rfl⟩
  have hb1 : Below w.heap.size w W1 := by rw [← hW1]; exact hb0.alloc hb0.size _
  have h01 : W1.heap[w.heap.size]? = some (.cells #[.slice none 0 0, .slice none 0 0] 25) := by rw [← hW1]; exact heap_old h0 _
  have h1 : W1.heap[W0.heap.size]? = some (.cells #[.slice none 0 0] 37) := by
    rw [← hW1, World.alloc_heap_new, show madeCells (Value.slice none 0 0).cells (1 * 1) = #[.slice none 0 0] by kernel_rfl]
  have hne : W0.heap.size ≠ w.heap.size := by have := lt_of_some h0; omega
  have hgv : GVal W1 (fun b => b ≠ w.heap.size ∧ (False ∨ w.heap.size ≤ b)) (.agg #[.slice none 0 0, .slice (some ⟨W0.heap.size, 0, none⟩) 1 1]) ⟨[], [[]]⟩ := by
    refine ⟨none, 0, _, 1, rfl, RSl.nil _ _ _ _, ⟨_, _, rfl, by simp, by simp [maxLen], (fun h => by cases h), fun _ => ⟨_, 0, rfl, ⟨hne, .inr hb0.size⟩, fun i hi => ⟨[.slice none 0 0], ⟨_, rfl, ?_⟩, fun j u hj => ?_⟩⟩⟩⟩
    · have : i = 0 := by simpa using hi
      subst this
      exact RSl.nil _ _ _ _
    · have hi' : i = 0 := by simpa using hi
      subst hi'
      rw [cell_of h1]
      cases j with
      | zero => simp at hj; subst hj; rfl
      | succ j => simp at hj
  have F := hid (put_out (w := w) (B2 := w.heap.size) (l := ⟨[], [[]]⟩) (ra := none) (rc := 0) (la := some ⟨W0.heap.size, 0, none⟩) (lc := 1) h01 (Nat.le_refl _) hb1 hgv)
  have q0 : W1.cell? ⟨w.heap.size, 0, none⟩ = some (.slice none 0 0) := cell_of h01
  have q1 : W1.cell? ⟨w.heap.size, 1, none⟩ = some (.slice none 0 0) := cell_of h01
  have hf : ∀ i, W1.frozen? ⟨w.heap.size, i, none⟩ = false := fun i => free_of h01
  have HW := hid (And.intro hW0 hW1)
  clear hW0 hW1 hb0 hb1 h0 h01 h1 hgv
  go_enter Try.func26, Try.ntmps26
  go_upto_region 1 with (fail)
  rw [HW.out.1]
  go_wp2_with (first | rw [HW.out.2] | (at_make; refine wpList_make_run rfl _ _ 23 rfl 37 Try.underlying23 infoL 1 rfl rfl (by omega) (by unfold maxLen; omega) ?_))
  have t0 := cell_at (i := 0) (v := .slice none 0 0) F.out.1 rfl
  have t1 := cell_at (i := 1) (v := .slice (some ⟨W0.heap.size, 0, none⟩) 1 1) F.out.1 rfl
  simp only [List.length_nil, List.length_cons, Nat.zero_add] at t0 t1
  refine bodyPost_ret (v := .agg #[.slice none 0 0, .slice (some ⟨W0.heap.size, 0, none⟩) 1 1]) (by simp [results, Try.results26, go_sem, t0, t1]) rfl ⟨_, _, rfl, F.out.2.1.weak (fun b _ h => h.elim False.elim id), F.out.2.2⟩
theorem lastW_at {L : List (List Pr)} {n : Nat} {lv : List Pr} {y : Pr} {z : Int} (hn : L[n]? = some lv) (hy : lv.find? (hasV z) = some y) (hno : ∀ (j : Nat) (x : List Pr), n < j → L[j]? = some x → x.find? (hasV z) = none) : lastW L z = some y := by
  have hlt := (List.getElem?_eq_some_iff.1 hn).1
  have hr : L.reverse[L.length - 1 - n]? = some lv := by
    rw [List.getElem?_reverse (by omega), show L.length - 1 - (L.length - 1 - n) = n by omega]; exact hn
  refine lastW_some (pre := L.reverse.take (L.length - 1 - n)) (x := lv) ?_ (fun x hx => ?_) hy
  · rw [← take_more hr]; exact List.take_prefix _ _
  · obtain ⟨i, hi⟩ := List.getElem?_of_mem hx
    rw [List.getElem?_take] at hi
    split at hi
    · rw [List.getElem?_reverse (by omega)] at hi
      exact hno _ x (by omega) hi
    · cases hi
theorem lastW_no {L : List (List Pr)} {z : Int} (hno : ∀ (j : Nat) (x : List Pr), L[j]? = some x → x.find? (hasV z) = none) : lastW L z = none :=
  lastW_none (fun x hx => by
    obtain ⟨j, hj⟩ := List.getElem?_of_mem (List.mem_reverse.1 hx)
    exact hno j x hj)
theorem find_hit {xs : List Pr} {k : Nat} {y : Pr} {z : Int} (hy : xs[k]? = some y) (he : (y.1 == z) = true) (hn : ∀ (j : Nat) (x : Pr), j < k → xs[j]? = some x → (x.1 == z) = false) : xs.find? (hasV z) = some y := by
  obtain ⟨hk, rfl⟩ := List.getElem?_eq_some_iff.1 hy
  rw [List.find?_eq_some_iff_getElem]
  exact ⟨he, k, hk, rfl, fun j hj => by have := hn j _ hj (List.getElem?_eq_getElem (by omega)); simpa [hasV] using this⟩
theorem find_no {xs : List Pr} {z : Int} (hn : ∀ (j : Nat) (x : Pr), j < xs.length → xs[j]? = some x → (x.1 == z) = false) : xs.find? (hasV z) = none := by
  rw [List.find?_eq_none]
  intro x hx
  obtain ⟨j, hj⟩ := List.getElem?_of_mem hx
  have := hn j x (List.getElem?_eq_some_iff.1 hj).1 hj
  simpa [hasV] using this
set_option maxRecDepth 100000 in
set_option maxHeartbeats 8000000 in
theorem rget_any (w : World) (ok : Nat → Prop) (v : Value) (l : Lg) (z : Int) (h : GVal w ok v l) (hz : In z) :
    Calls Try.prog 22 #[v, .int .i64 z] w fun e w' => e = .returned (.tuple #[.int .i64 (getG l z).1, .bool (getG l z).2]) ∧ Below w.heap.size w w' := by
  have hG := h
  obtain ⟨ra, rc, la, lc, rfl, hr, hl⟩ := h
  obtain ⟨_, _, e, l1, _⟩ := hr.shape
  cases e
  obtain ⟨_, _, e, l2, _⟩ := hl.shape
  cases e
  obtain ⟨W0, hW0⟩ : ∃ W0, w.alloc (Obj.cells #[.slice ra l.reads.length rc, .slice la l.levels.length lc] 25) = W0 := ⟨_, rfl⟩
  have hb0 : Below w.heap.size w W0 := by rw [← hW0]; exact (Below.refl _ _).alloc (Nat.le_refl _) _
  have h0 : W0.heap[w.heap.size]? = some (.cells #[.slice ra l.reads.length rc, .slice la l.levels.length lc] 25) := by rw [← hW0]; exact World.alloc_heap_new _ _
  obtain ⟨q, hq⟩ : ∃ q, q = chkG l := ⟨_, rfl⟩
  have HC := hid (rcheckg_any W0 _ _ l (hG.more hb0))
  rw [← hq] at HC
  have HH := hid (And.intro hl (And.intro hb0 (And.intro h0 hq)))
  have HW := hid hW0
  clear hG hb0 h0 hW0 hq hl hr
  go_enter Try.func22, Try.ntmps22
  go_upto_region 1 with (fail)
  rw [HW.out]
  clear HW
  have c0 : W0.cell? ⟨w.heap.size, 0, none⟩ = some (.slice ra l.reads.length rc) := cell_of HH.out.2.2.1
  have c1 : W0.cell? ⟨w.heap.size, 1, none⟩ = some (.slice la l.levels.length lc) := cell_of HH.out.2.2.1
  go_wp2_with fail
  refine HC.out.mono ?_
  rintro e w1 ⟨rfl, b1⟩
  clear c0 c1 HC
  have k0 := (b1.block _ (lt_of_some HH.out.2.2.1)).trans HH.out.2.2.1
  have bw1 := HH.out.2.1.trans (b1.mono HH.out.2.1.size)
  have K := hid (And.intro k0 bw1)
  cases q
  · go_wp2_with fail
    go_ret2
    exact ⟨by rw [getG, ← HH.out.2.2.2]; rfl, K.out.2⟩
  · have c1 : w1.cell? ⟨w.heap.size, 1, none⟩ = some (.slice la l.levels.length lc) := cell_of K.out.1
    clear k0 bw1 b1
    go_upto_region 5 with (fail)
    clear c1
    go_loopw [7] (fun i wr => ∃ (m : Nat) (y : Int), m ≤ l.levels.length ∧ i = .int .i64 y ∧ y = (m : Int) - 1 ∧ Hid (∀ (j : Nat) (x : List Pr), m ≤ j → l.levels[j]? = some x → x.find? (hasV z) = none) ∧ Below w1.heap.size w1 wr) (fun i wr => (intOf i + 1).toNat)
    case atStart => exact ⟨l.levels.length, _, Nat.le_refl _, rfl, by go_num, fun j x hj hx => absurd (List.getElem?_eq_some_iff.1 hx).1 (by omega), Below.refl _ _⟩
    case round =>
      obtain ⟨m, y, hm, rfl, hy, HA, hb⟩ := hrel
      have hbw := K.out.2.trans (hb.mono K.out.2.size)
      have HBW := hid hbw
      clear hbw
      cases m with
      | succ n =>
        obtain rfl : y = (n : Int) := by omega
        clear hy
        have hnl : n < l.levels.length := by omega
        obtain ⟨b1, o1, cc1, lv, xa, xc, hv1, hlv, hs, e1⟩ := HH.out.1.at HBW.out hnl
        cases hv1
        obtain ⟨_, _, e, l3, _⟩ := hs.shape
        cases e
        have HS := hid (And.intro hlv (And.intro hs e1))
        have hnb : (n : Int) ≤ 9223372036854775807 := by omega
        obtain ⟨wo, hwo⟩ : ∃ wo : World, wo = wr := ⟨_, rfl⟩
        rw [← hwo] at HS hb
        have HBO := hid hb
        have hbo : Below wo.heap.size wo wr := by rw [hwo]; exact Below.refl _ _
        clear hs hlv e1 hb hwo HBW
        go_upto_region 8 with (fail)
        go_loopw [8] (fun i wr => ∃ k : Nat, k ≤ lv.length ∧ i = .int .i64 k ∧ Hid (∀ (j : Nat) (y : Pr), j < k → lv[j]? = some y → (y.1 == z) = false) ∧ Below wo.heap.size wo wr) (fun i _ => lv.length - (intOf i).toNat)
        case atStart => exact ⟨0, Nat.zero_le _, rfl, fun j y hj => absurd hj (by omega), hbo⟩
        case round =>
          clear hbo
          obtain ⟨k, hk, rfl, HK, hb⟩ := hrel
          have k0 := ((HBO.out.trans (hb.mono HBO.out.size)).block _ (lt_of_some K.out.1)).trans K.out.1
          have c1 : wr.cell? ⟨w.heap.size, 1, none⟩ = some (.slice (some ⟨b1, o1, none⟩) l.levels.length lc) := cell_of k0
          have e1 : wr.cell? ⟨b1, o1 + n, none⟩ = some (.slice xa lv.length xc) := (hb.cell (World.block_lt_of_cell? wo _ HS.out.2.2)).trans HS.out.2.2
          have HBW := hid (K.out.2.trans ((HBO.out.trans (hb.mono HBO.out.size)).mono K.out.2.size))
          by_cases hlt : k < lv.length
          · obtain ⟨b2, o2, c2', x, hv2, hx, hin, _, e2, e3⟩ := HS.out.2.1.at hb hlt
            cases hv2
            have HX := hid hx
            clear hx hin k0
            cases hq : x.1 == z
            · have HQ := hid hq
              go_wp2
              go_roundw
              case rel =>
                refine ⟨k + 1, by omega, by go_num, fun j y hj hy => ?_, hb⟩
                by_cases e : j = k
                · subst e; rw [HX.out] at hy; cases hy; exact HQ.out
                · exact HK.out j y (by omega) hy
              case measure => simp [intOf]; omega
            · have HF := hid (find_hit HX.out hq HK.out)
              go_wp2
              go_ret2
              exact ⟨by rw [getG, ← HH.out.2.2.2, if_pos rfl, lastW_at HS.out.1 HF.out (fun j y hj hy => HA.out j y (by omega) hy)]; rfl, HBW.out⟩
          · obtain rfl : k = lv.length := by omega
            have HF := hid (find_no HK.out)
            go_wp2
            go_roundw
            case rel =>
              refine ⟨n, _, by omega, rfl, by go_num, fun j x hj hx => ?_, HBO.out.trans (hb.mono HBO.out.size)⟩
              by_cases e : j = n
              · subst e; rw [HS.out.1] at hx; cases hx; exact HF.out
              · exact HA.out j x (by omega) hx
            case measure => simp [intOf]
      | zero =>
        obtain rfl : y = -1 := by omega
        clear hy hm
        go_wp2
        go_ret2
        exact ⟨by rw [getG, ← HH.out.2.2.2, if_pos rfl, lastW_no (fun j x hx => HA.out j x (Nat.zero_le _) hx)]; rfl, HBW.out⟩
end Go.Proofs.Ytaajooemocdfgaa
