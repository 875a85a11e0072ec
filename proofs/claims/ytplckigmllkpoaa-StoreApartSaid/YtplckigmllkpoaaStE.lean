/- store.Roots; the reference's Roots, Valid, Same: what each returns. -/
import Derived.Test.YtplckigmllkpoaaStD
import Derived.Laws.OwnMore
namespace Go.Proofs.Ytplckigmllkpoaa
open Go.RowKit Go.Shelf Go.Maps
attribute [local go_sem] Oper.semAt_some
theorem isl_new (w : World) (t : TypeId) (xs : List Int) (hin : ∀ x ∈ xs, In x) (hl : xs.length ≤ 1000) :
    ISl (w.alloc (.cells (xs.map (.int .i64)).toArray t)) (fun _ => True) (.slice (some ⟨w.heap.size, 0, none⟩) xs.length xs.length) xs := by
  refine ⟨_, _, rfl, Nat.le_refl _, by simp [maxLen]; omega, (fun h => by cases h), fun _ => ⟨_, 0, rfl, trivial, fun i hi => ⟨[.int .i64 xs[i]], ⟨rfl, hin _ (List.getElem_mem hi)⟩, fun j u hj => ?_⟩⟩⟩
  rw [cell_of (World.alloc_heap_new w _)]
  match j, hj with
  | 0, hj => simp at hj; simp [hi, hj]
  | j + 1, hj => simp at hj
theorem append_ints {ok : Nat → Prop} {base : Nat} {w : World} {v lv : Value} {xs ys : List Int} (hO : OSl IntE 1 3 base w (fun _ => False) v xs) (hy : ISl w ok lv ys) (hl : xs.length + ys.length ≤ 100000) (hb : base ≤ w.heap.size) :
    ∃ a c w', (Builtin.append_ #[29, 29] 29 #[v, lv]).run Try.prog w = .ok (.slice a (xs.length + ys.length) c) w' ∧ OSl IntE 1 3 base w' (fun _ => False) (.slice a (xs.length + ys.length) c) (xs ++ ys) ∧ Below base w w' := by
  obtain ⟨ao, cap, rfl, l1, l2, l3, _⟩ := hy.open
  cases ao with
  | none =>
    obtain rfl := l3 rfl
    have hz : ys.length = 0 := by omega
    have hy0 : ys = [] := List.length_eq_zero_iff.1 hz
    subst hy0
    obtain ⟨i, hi, hz', hs, hbb⟩ := info_parts info_int
    have hO0 := hO
    obtain ⟨rows, hr, hown⟩ := hO
    have hrun := run_append_owned_none (P := Try.prog) w base 29 29 3 i 1 Try.underlying29 hi v _ _ hown
    obtain ⟨a, c, rfl⟩ := hO0.shape2
    exact ⟨a, c, w, by simpa using hrun, by simpa using hO0, Below.refl _ _⟩
  | some a =>
    have hrow : ∃ rows ad, a = ad ∧ Rows IntE w (fun b => False ∧ some b ≠ v.ownBlock) ys rows ∧ ∀ j u, rows.flatten[j]? = some u → w.cell? (ad.add j) = some u := by
      by_cases hp : 0 < ys.length
      · obtain ⟨b, off, cap, rows, hv, _, hr, hu⟩ := hy.rows intGood hp
        cases hv
        exact ⟨rows, _, rfl, ⟨hr.1, fun i x row hx hr' => hr.2 i x row hx hr'⟩, fun j u hj => by rw [addr_add]; exact hu j u hj⟩
      · have hx : ys = [] := List.length_eq_zero_iff.1 (by omega)
        subst hx
        exact ⟨[], a, rfl, Rows.nil _ _ _, fun j u h => by simp at h⟩
    obtain ⟨rows, ad, rfl, hr, hu⟩ := hrow
    obtain ⟨v', w', hrun, hO', hg, _, _⟩ := OSl.append (P := Try.prog) intGood (by decide) hO 29 29 (.int .i64 0) 8 Try.underlying29 info_int rfl a cap ys rows hr hu (ints_cells hr) (by simp [maxLen]; omega) (by omega) hb
    obtain ⟨a', c', rfl⟩ := hO'.shape2
    rw [List.length_append] at hrun hO'
    exact ⟨a', c', w', hrun, hO', (Below.refl _ _).grown hg hb (fun k hk => (hO.lt k hk).1)⟩
theorem append_int1 {base : Nat} {w : World} {v : Value} {xs : List Int} {z : Int} (hO : OSl IntE 1 3 base w (fun _ => False) v xs) (hz : In z) (hl : xs.length ≤ 10000) (hb : base ≤ w.heap.size) :
    ∃ a c w', (Builtin.append_ #[29, 29] 29 #[v, .slice (some ⟨w.heap.size, 0, none⟩) 1 1]).run Try.prog (w.alloc (.cells #[.int .i64 z] 3)) = .ok (.slice a (xs.length + 1) c) w' ∧ OSl IntE 1 3 base w' (fun _ => False) (.slice a (xs.length + 1) c) (xs ++ [z]) ∧ Below base w w' := by
  have hba := (Below.refl w.heap.size w).alloc (Nat.le_refl _) (.cells #[.int .i64 z] 3)
  obtain ⟨a, c, w', h1, h2, h3⟩ := append_ints (hO.below intGood hba) (isl_new w 3 [z] (fun x hx => by simp at hx; subst hx; exact hz) (by simp)) (by simp; omega) (Nat.le_trans hb hba.size)
  exact ⟨a, c, w', h1, h2, (hba.mono hb).trans h3⟩
def RootsP (s : St) (w : World) (e : Ending) (w' : World) : Prop := ∃ va vc, e = .returned (.slice va s.cells.length vc) ∧ ISl w' (fun b => w.heap.size ≤ b) (.slice va s.cells.length vc) (s.cells.map (·.1)) ∧ Below w.heap.size w w'
theorem map_take_more {xs : List Pr} {k : Nat} {x : Pr} (h : xs[k]? = some x) : (xs.take (k + 1)).map (·.1) = (xs.take k).map (·.1) ++ [x.1] := by rw [take_more h, List.map_append]; rfl
set_option maxHeartbeats 2000000 in
theorem roots_any (w : World) (ok : Nat → Prop) (v : Value) (s : St) (hh : SVal w ok v s) (hlen : s.cells.length ≤ 5000) : Calls Try.prog 20 #[v] w (RootsP s w) := by
  have hh0 := hh
  obtain ⟨sa, sc, rfl, hi, hs⟩ := hh
  obtain ⟨_, _, e, l1, _⟩ := hs.shape
  cases e
  obtain ⟨W0, hW0⟩ : ∃ W0, w.alloc (Obj.cells #[.slice sa s.cells.length sc, .int .i64 s.ver] 24) = W0 := ⟨_, rfl⟩
  have K : Hid (BSt w W0 w.heap.size sa sc s) := by have h := BSt.new (Below.refl _ w) hh0; rw [hW0] at h; exact h
  have HW := hid hW0
  clear hW0 hs hh0
  go_enter Try.func20, Try.ntmps20
  go_upto_region 1 with (fail)
  rw [HW.out]
  clear HW
  have c0 : W0.cell? ⟨w.heap.size, 0, none⟩ = some (.slice sa s.cells.length sc) := K.out.c0
  go_wp2_with fail
  clear c0
  go_loopw [8, 2] (fun i o wr => ∃ (k : Nat) (oa : Option Addr) (oc : Nat), k ≤ s.cells.length ∧ i = .int .i64 k ∧ o = .slice oa k oc ∧ Hid (OSl IntE 1 3 W0.heap.size wr (fun _ => False) (.slice oa k oc) ((s.cells.take k).map (·.1))) ∧ Hid (Below W0.heap.size W0 wr)) (fun i _ _ => s.cells.length - (intOf i).toNat)
  case atStart => exact ⟨0, none, 0, Nat.zero_le _, rfl, rfl, OSl.nil _ _ _ _ _ _, Below.refl _ _⟩
  case round =>
    obtain ⟨k, oa, oc, hk, rfl, rfl, HO, HB⟩ := hrel
    by_cases hlt : k < s.cells.length
    · have K1 := hid (K.out.more HB.out)
      obtain ⟨b1, o1, x, hsa, hx, _, hi1, hi2, e1, e2⟩ := K1.out.pick hlt
      subst hsa
      have c0 : wr.cell? ⟨w.heap.size, 0, none⟩ = some (.slice (some ⟨b1, o1, none⟩) s.cells.length sc) := K1.out.c0
      have HX := hid hx
      clear hx
      go_upto_region 4 with (fail)
      obtain ⟨w2, hw2⟩ : ∃ z, wr.alloc (Obj.cells #[.int .i64 x.1, .int .i64 x.2] 52) = z := ⟨_, rfl⟩
      have b2 : Below wr.heap.size wr w2 := by rw [← hw2]; exact (Below.refl _ _).alloc (Nat.le_refl _) _
      have h2 : w2.heap[wr.heap.size]? = some (Obj.cells #[.int .i64 x.1, .int .i64 x.2] 52) := by rw [← hw2]; exact World.alloc_heap_new _ _
      have q0 : w2.cell? ⟨wr.heap.size, 0, none⟩ = some (.int .i64 x.1) := cell_of h2
      have HO2 := hid (HO.out.below intGood b2)
      have HB2 := hid (HB.out.trans (b2.mono HB.out.size))
      have HBs := hid HB2.out.size
      rw [hw2]
      clear hw2 b2 h2
      obtain ⟨na, nc, w3, hrun, hO3, hb3⟩ := append_int1 (z := x.1) HO2.out hi1 (by simp; omega) HBs.out
      rw [← map_take_more HX.out] at hO3
      have hmin : min k s.cells.length = k := by omega
      simp only [List.length_map, List.length_take, hmin] at hrun hO3
      have HR := hid hrun
      have HO3 := hid hO3
      have HB3 := hid (HB2.out.trans hb3)
      clear hrun hO3 hb3 HO HB
      go_wp2_with (at_builtin; refine wpList_append_run rfl _ _ _ rfl _ _ rfl rfl _ _ HR.out ?_)
      go_roundw
      case rel => exact ⟨k + 1, na, nc, by omega, by go_num, rfl, HO3, HB3⟩
      case measure => simp [intOf]; omega
    · obtain rfl : k = s.cells.length := by omega
      have c0 : wr.cell? ⟨w.heap.size, 0, none⟩ = some (.slice sa s.cells.length sc) := (K.out.more HB.out).c0
      rw [List.take_length] at HO
      go_wp2_with fail
      go_ret
      exact ⟨_, _, rfl, HO.out.rsl intGood _ (fun b _ h => Nat.le_trans K.out.bel.size h) (fun b _ h => h.elim), K.out.bel.trans (HB.out.mono K.out.bel.size)⟩
set_option maxHeartbeats 2000000 in
theorem rroots_any (w : World) (ok : Nat → Prop) (v : Value) (s : St) (hh : SVal w ok v s) (hlen : s.cells.length ≤ 5000) : Calls Try.prog 21 #[v] w (RootsP s w) := by
  have hh0 := hh
  obtain ⟨sa, sc, rfl, hi, hs⟩ := hh
  obtain ⟨_, _, e, l1, _⟩ := hs.shape
  cases e
  obtain ⟨W0, hW0⟩ : ∃ W0, w.alloc (Obj.cells #[.slice sa s.cells.length sc, .int .i64 s.ver] 24) = W0 := ⟨_, rfl⟩
  have K : Hid (BSt w W0 w.heap.size sa sc s) := by have h := BSt.new (Below.refl _ w) hh0; rw [hW0] at h; exact h
  have HW := hid hW0
  clear hW0 hs hh0
  go_enter Try.func21, Try.ntmps21
  go_upto_region 1 with (fail)
  rw [HW.out]
  clear HW
  have c0 : W0.cell? ⟨w.heap.size, 0, none⟩ = some (.slice sa s.cells.length sc) := K.out.c0
  go_wp2_with fail
  clear c0
  go_loopw [4, 3] (fun i o wr => ∃ (k : Nat) (oa : Option Addr) (oc : Nat), k ≤ s.cells.length ∧ i = .int .i64 k ∧ o = .slice oa k oc ∧ Hid (OSl IntE 1 3 W0.heap.size wr (fun _ => False) (.slice oa k oc) ((s.cells.take k).map (·.1))) ∧ Hid (Below W0.heap.size W0 wr)) (fun i _ _ => s.cells.length - (intOf i).toNat)
  case atStart => exact ⟨0, none, 0, Nat.zero_le _, rfl, rfl, OSl.nil _ _ _ _ _ _, Below.refl _ _⟩
  case round =>
    obtain ⟨k, oa, oc, hk, rfl, rfl, HO, HB⟩ := hrel
    by_cases hlt : k < s.cells.length
    · have K1 := hid (K.out.more HB.out)
      obtain ⟨b1, o1, x, hsa, hx, _, hi1, hi2, e1, e2⟩ := K1.out.pick hlt
      subst hsa
      have c0 : wr.cell? ⟨w.heap.size, 0, none⟩ = some (.slice (some ⟨b1, o1, none⟩) s.cells.length sc) := K1.out.c0
      have HX := hid hx
      clear hx
      have HO2 := hid HO.out
      have HB2 := hid HB.out
      have HBs := hid HB2.out.size
      obtain ⟨na, nc, w3, hrun, hO3, hb3⟩ := append_int1 (z := x.1) HO2.out hi1 (by simp; omega) HBs.out
      rw [← map_take_more HX.out] at hO3
      have hmin : min k s.cells.length = k := by omega
      simp only [List.length_map, List.length_take, hmin] at hrun hO3
      have HR := hid hrun
      have HO3 := hid hO3
      have HB3 := hid (HB2.out.trans hb3)
      clear hrun hO3 hb3 HO HB
      go_wp2_with (at_builtin; refine wpList_append_run rfl _ _ _ rfl _ _ rfl rfl _ _ HR.out ?_)
      go_roundw
      case rel => exact ⟨k + 1, na, nc, by omega, by go_num, rfl, HO3, HB3⟩
      case measure => simp [intOf]; omega
    · obtain rfl : k = s.cells.length := by omega
      have c0 : wr.cell? ⟨w.heap.size, 0, none⟩ = some (.slice sa s.cells.length sc) := (K.out.more HB.out).c0
      rw [List.take_length] at HO
      go_wp2_with fail
      go_ret
      exact ⟨_, _, rfl, HO.out.rsl intGood _ (fun b _ h => Nat.le_trans K.out.bel.size h) (fun b _ h => h.elim), K.out.bel.trans (HB.out.mono K.out.bel.size)⟩
set_option maxHeartbeats 4000000 in
theorem ssame_any (w : World) (ok ok2 : Nat → Prop) (v v2 : Value) (s t : St) (hh : SVal w ok v s) (hh2 : SVal w ok2 v2 t) : Calls Try.prog 18 #[v, v2] w (Bb (decide (s = t)) w) := by
  have hh0 := hh
  obtain ⟨sa, sc, rfl, hi, hs⟩ := hh
  obtain ⟨_, _, e, l1, _⟩ := hs.shape
  cases e
  obtain ⟨W0, hW0⟩ : ∃ W0, w.alloc (Obj.cells #[.slice sa s.cells.length sc, .int .i64 s.ver] 24) = W0 := ⟨_, rfl⟩
  have K : Hid (BSt w W0 w.heap.size sa sc s) := by have h := BSt.new (Below.refl _ w) hh0; rw [hW0] at h; exact h
  clear hs hh0
  have hh3 := hh2.more K.out.bel
  obtain ⟨ta, tc, rfl, hj, ht⟩ := hh2
  obtain ⟨_, _, e, l2, _⟩ := ht.shape
  cases e
  obtain ⟨W1, hW1⟩ : ∃ W1, W0.alloc (Obj.cells #[.slice ta t.cells.length tc, .int .i64 t.ver] 24) = W1 := ⟨_, rfl⟩
  have L : Hid (BSt w W1 (w.heap.size + 1) ta tc t) := by
    have h := BSt.new K.out.bel hh3
    rw [hW1] at h
    have e : W0.heap.size = w.heap.size + 1 := by rw [← hW0]; simp
    rw [e] at h; exact h
  have hb1 : Below W0.heap.size W0 W1 := by rw [← hW1]; exact (Below.refl _ _).alloc (Nat.le_refl _) _
  have hW := hW1
  rw [← hW0] at hW
  have HW := hid hW
  replace K := hid (K.out.more hb1)
  clear hW0 hW1 hW hb1 hh3 ht
  obtain ⟨q, hq⟩ : ∃ q, q = decide (s = t) := ⟨_, rfl⟩
  rw [← hq]
  have HQ := hid hq
  clear hq
  go_enter Try.func18, Try.ntmps18
  go_upto_region 1 with (fail)
  rw [HW.out]
  clear HW
  have c0 : W1.cell? ⟨w.heap.size, 0, none⟩ = some (.slice sa s.cells.length sc) := K.out.c0
  have c1 : W1.cell? ⟨w.heap.size, 1, none⟩ = some (.int .i64 s.ver) := K.out.c1
  have d0 : W1.cell? ⟨w.heap.size + 1, 0, none⟩ = some (.slice ta t.cells.length tc) := L.out.c0
  have d1 : W1.cell? ⟨w.heap.size + 1, 1, none⟩ = some (.int .i64 t.ver) := L.out.c1
  by_cases e1 : s.ver = t.ver
  · have f1 : (s.ver != t.ver) = false := by simp [e1]
    by_cases e2 : s.cells.length = t.cells.length
    · have f2 : ((s.cells.length : Int) != t.cells.length) = false := by simp; omega
      have HE := hid (And.intro e1 e2)
      go_upto_region 4 with (fail)
      clear c0 c1 d0 d1 f1 f2 e1 e2
      go_loopw [5] (fun i wr => ∃ k : Nat, k ≤ s.cells.length ∧ i = .int .i64 k ∧ Hid (∀ j, j < k → s.cells[j]? = t.cells[j]?) ∧ Hid (Below W1.heap.size W1 wr)) (fun i _ => s.cells.length - (intOf i).toNat)
      case atStart => exact ⟨0, Nat.zero_le _, rfl, fun j hj => absurd hj (by omega), Below.refl _ _⟩
      case round =>
        obtain ⟨k, hk, rfl, HA, HB⟩ := hrel
        have K1 := hid (K.out.more HB.out)
        have L1 := hid (L.out.more HB.out)
        by_cases hlt : k < s.cells.length
        · have hlt2 : k < t.cells.length := by have := HE.out.2; omega
          obtain ⟨b1, o1, x, hsa, hx, _, _, _, q1, q2⟩ := K1.out.pick hlt
          obtain ⟨b2, o2, y, hta, hy, _, _, _, p1, p2⟩ := L1.out.pick hlt2
          subst hsa
          subst hta
          have c0 : wr.cell? ⟨w.heap.size, 0, none⟩ = some (.slice (some ⟨b1, o1, none⟩) s.cells.length sc) := K1.out.c0
          have d0 : wr.cell? ⟨w.heap.size + 1, 0, none⟩ = some (.slice (some ⟨b2, o2, none⟩) t.cells.length tc) := L1.out.c0
          have HF := hid (And.intro hx hy)
          have hne := fun W => neqC W x.1 x.2 y.1 y.2
          clear hx hy
          cases hxy : !(x.1 == y.1 && x.2 == y.2)
          · rw [hxy] at hne
            have HX := hid hxy
            clear hxy
            go_wp2
            go_quiet (fail)
            go_wp2
            go_roundw
            case rel =>
              exact ⟨k + 1, by omega, by go_num, fun j hj => by
                by_cases h : j = k
                · subst h; rw [HF.out.1, HF.out.2]; have := HX.out; rw [bne_pr] at this; simp at this; rw [this]
                · exact HA.out j (by omega), below_drewN HB.out _⟩
            case measure => simp [intOf]; omega
          · rw [hxy] at hne
            have HX := hid hxy
            clear hxy
            go_wp2
            go_quiet (fail)
            go_wp2
            go_ret
            refine Bb.fin (HQ.out.trans (decide_eq_false ?_)).symm (K.out.bel.trans ((below_drewN HB.out _).mono K.out.bel.size))
            intro e; cases e
            have h1 := HF.out.1; have h2 := HF.out.2
            rw [h1] at h2; cases h2
            have := HX.out; simp at this
        · obtain rfl : k = s.cells.length := by omega
          have c0 : wr.cell? ⟨w.heap.size, 0, none⟩ = some (.slice sa s.cells.length sc) := K1.out.c0
          go_wp2
          go_ret
          refine Bb.fin (HQ.out.trans (decide_eq_true ?_)).symm K1.out.bel
          have h := beqP_true HE.out.2 HA.out
          have h' : s.cells = t.cells := by simpa using h
          have h1 := HE.out.1
          cases s; cases t; simp only at h' h1; rw [h', h1]
    · have f2 : ((s.cells.length : Int) != t.cells.length) = true := by simp; omega
      go_wp2
      go_ret
      exact Bb.fin (HQ.out.trans (decide_eq_false (fun e => e2 (by rw [e])))).symm K.out.bel
  · have f1 : (s.ver != t.ver) = true := by simpa using e1
    go_wp2
    go_ret
    exact Bb.fin (HQ.out.trans (decide_eq_false (fun e => e1 (by rw [e])))).symm K.out.bel
set_option maxRecDepth 100000 in
set_option maxHeartbeats 8000000 in
theorem rvalid_any (w : World) (ok ok2 : Nat → Prop) (v v2 : Value) (s : St) (l : Lg) (hh : SVal w ok v s) (hg : GVal w ok2 v2 l) : Calls Try.prog 25 #[v, v2] w (Bb (validS s l) w) := by
  have hh0 := hh
  obtain ⟨sa, sc, rfl, hi, hs⟩ := hh
  obtain ⟨_, _, e, l1, _⟩ := hs.shape
  cases e
  obtain ⟨W0, hW0⟩ : ∃ W0, w.alloc (Obj.cells #[.slice sa s.cells.length sc, .int .i64 s.ver] 24) = W0 := ⟨_, rfl⟩
  have K : Hid (BSt w W0 w.heap.size sa sc s) := by have h := BSt.new (Below.refl _ w) hh0; rw [hW0] at h; exact h
  clear hs hh0
  have hbl : Below w.heap.size w W0 := K.out.bel
  have hg1 := hg.more hbl
  obtain ⟨ra, rc, la, lc, rfl, hr, hl⟩ := hg
  obtain ⟨_, _, e, l2, _⟩ := hr.shape
  cases e
  obtain ⟨_, _, e, l3, _⟩ := hl.shape
  cases e
  obtain ⟨W1, hW1⟩ : ∃ W1, W0.alloc (Obj.cells #[.slice ra l.reads.length rc, .slice la l.levels.length lc] 28) = W1 := ⟨_, rfl⟩
  have hb1 : Below W0.heap.size W0 W1 := by rw [← hW1]; exact (Below.refl _ _).alloc (Nat.le_refl _) _
  have h1 : W1.heap[w.heap.size + 1]? = some (.cells #[.slice ra l.reads.length rc, .slice la l.levels.length lc] 28) := by rw [← hW1, ← hW0]; exact heap_two _ _ _
  have hW := hW1
  rw [← hW0] at hW
  have HW := hid hW
  have HL := hid (hg1.more hb1)
  have HR := hid ((hr.more hbl).more hb1)
  replace K := hid (K.out.more hb1)
  have H1 := hid h1
  clear hW0 hW1 hW hb1 h1 hg1 hr hl hbl
  obtain ⟨q, hq⟩ : ∃ q, q = chkS s := ⟨_, rfl⟩
  obtain ⟨p, hp⟩ : ∃ p, p = chkG l := ⟨_, rfl⟩
  have HQ := hid hq
  have HP := hid hp
  go_enter Try.func25, Try.ntmps25
  go_upto_region 1 with (fail)
  rw [HW.out]
  clear HW
  have c0 : W1.cell? ⟨w.heap.size, 0, none⟩ = some (.slice sa s.cells.length sc) := K.out.c0
  have c1 : W1.cell? ⟨w.heap.size, 1, none⟩ = some (.int .i64 s.ver) := K.out.c1
  have P := hid (rscheck_any W1 _ _ s K.out.val)
  rw [← hq] at P
  clear hq
  go_wp2_with fail
  refine P.out.mono ?_
  rintro e w1 ⟨rfl, b⟩
  clear P c0 c1
  replace K := hid (K.out.more b)
  replace H1 := hid ((b.block _ (lt_of_some H1.out)).trans H1.out)
  replace HL := hid (HL.out.more b)
  replace HR := hid (HR.out.more b)
  clear b
  have d0 : w1.cell? ⟨w.heap.size + 1, 0, none⟩ = some (.slice ra l.reads.length rc) := cell_of H1.out
  have d1 : w1.cell? ⟨w.heap.size + 1, 1, none⟩ = some (.slice la l.levels.length lc) := cell_of H1.out
  have P := hid (rcheckg_any w1 _ _ l HL.out)
  rw [← hp] at P
  clear hp
  go_wp2_with fail
  refine P.out.mono ?_
  rintro e w2 ⟨rfl, b⟩
  clear P d0 d1
  replace K := hid (K.out.more b)
  replace H1 := hid ((b.block _ (lt_of_some H1.out)).trans H1.out)
  replace HR := hid (HR.out.more b)
  clear b HL
  cases q
  · go_wp2_with fail
    go_ret
    exact Bb.fin (by rw [validS, ← HQ.out]; rfl) K.out.bel
  cases p
  · go_wp2_with fail
    go_ret
    exact Bb.fin (by rw [validS, ← HP.out]; simp) K.out.bel
  have HV := hid (show validS s l = !(l.reads.any (oldS s)) by rw [validS, ← HQ.out, ← HP.out]; rfl)
  go_upto_region 6 with (fail)
  go_loopw [7] (fun i wr => ∃ k : Nat, k ≤ l.reads.length ∧ i = .int .i64 k ∧ Hid (∀ (j : Nat) (y : Pr), j < k → l.reads[j]? = some y → oldS s y = false) ∧ Hid (Below w2.heap.size w2 wr)) (fun i _ => l.reads.length - (intOf i).toNat)
  case atStart => exact ⟨0, Nat.zero_le _, rfl, fun j y hj => absurd hj (by omega), Below.refl _ _⟩
  case round =>
    obtain ⟨n, hk, rfl, HA, HB⟩ := hrel
    have d0 : wr.cell? ⟨w.heap.size + 1, 0, none⟩ = some (.slice ra l.reads.length rc) := cell_of ((HB.out.block _ (lt_of_some H1.out)).trans H1.out)
    by_cases hlr : n < l.reads.length
    · obtain ⟨b3, o3, c3, x, hv3, hx, _, _, r1, r2⟩ := HR.out.at HB.out hlr
      cases hv3
      have HX := hid hx
      clear hx
      go_upto_region 9 with (fail)
      obtain ⟨w4, hw4⟩ : ∃ z, wr.alloc (Obj.cells #[.int .i64 x.1, .int .i64 x.2] 48) = z := ⟨_, rfl⟩
      have b4 : Below wr.heap.size wr w4 := by rw [← hw4]; exact (Below.refl _ _).alloc (Nat.le_refl _) _
      have h4 : w4.heap[wr.heap.size]? = some (Obj.cells #[.int .i64 x.1, .int .i64 x.2] 48) := by rw [← hw4]; exact World.alloc_heap_new _ _
      rw [hw4]
      have bd := (Below.refl w4.heap.size w4).drew
      obtain ⟨w5, hw5⟩ : ∃ z, w4.drew = z := ⟨_, rfl⟩
      have H5 := hid hw5
      rw [hw5] at bd
      have X0 : Hid (w5.cell? ⟨wr.heap.size, 0, none⟩ = some (.int .i64 x.1)) := later_cell bd (cell_of h4)
      have X1 : Hid (w5.cell? ⟨wr.heap.size, 1, none⟩ = some (.int .i64 x.2)) := later_cell bd (cell_of h4)
      have HB5 := hid (HB.out.trans ((b4.trans (bd.mono b4.size)).mono HB.out.size))
      have K5 := hid (K.out.more HB5.out)
      have KV := hid K5.out.val
      obtain ⟨t, ht⟩ : ∃ t, t = thereS s x.1 := ⟨_, rfl⟩
      have HT : Hid (thereS s x.1 = t) := ht.symm
      clear hw4 b4 h4 bd hw5 ht d0 r1 r2
      cases t
      · have C0 : Hid (w5.cell? ⟨w.heap.size, 0, none⟩ = some (.slice sa s.cells.length sc)) := K5.out.c0
        have C1 : Hid (w5.cell? ⟨w.heap.size, 1, none⟩ = some (.int .i64 s.ver)) := K5.out.c1
        refine (wpIn_wide (n := 9)).1 ?_
        refine wpIn_region_held (fun W => Below w5.heap.size w5 W) (by kernel_rfl) ?_
        rw [H5.out]
        refine wpAnyHF_takeD (i := 0) 31 (v := .agg #[.slice sa s.cells.length sc, .int .i64 s.ver]) rfl rfl rfl (by kernel_rfl) (by kernel_rfl) (by kernel_rfl) (fun _ _ _ h => h) ⟨.inl ⟨rfl, fun W hW => by have m0 := later_cell hW C0.out; have m1 := later_cell hW C1.out; simp [execOp, go_sem, m0, m1]⟩, fun W => rfl⟩ (Below.refl _ _) ?_
        refine wpAnyHF_takeD (i := 1) 32 (v := .pointer (some ⟨wr.heap.size, 0, none⟩)) rfl rfl rfl (by kernel_rfl) (by kernel_rfl) (by kernel_rfl) (fun _ _ _ h => h) ⟨.inl ⟨rfl, fun W hW => by simp [execOp, go_sem]⟩, fun W => rfl⟩ (Below.refl _ _) ?_
        refine wpAnyHF_takeD (i := 2) 33 (v := .int .i64 x.1) rfl rfl rfl (by kernel_rfl) (by kernel_rfl) (by kernel_rfl) (fun _ _ _ h => h) ⟨.inl ⟨rfl, fun W hW => by have m0 := later_cell hW X0.out; simp [execOp, go_sem, m0]⟩, fun W => rfl⟩ (Below.refl _ _) ?_
        simp only [Act.put, List.setIfInBounds_toArray, List.set_cons_zero, List.set_cons_succ]
        refine wpAnyHF_one (i := 3) (by kernel_rfl) rfl rfl ?_
        refine wpIn_callD 34 rfl (P := Try.prog) (f := 36) (args := #[.agg #[.slice sa s.cells.length sc, .int .i64 s.ver], .int .i64 x.1]) (by simp [execOp, resolve, invoke, go_sem]) ?_
        refine (HT.out ▸ rthere_any w5 _ _ s x.1 KV.out : Calls _ _ _ _ (Bb false w5)).mono ?_
        rintro e w6 ⟨rfl, b6⟩
        refine ⟨_, rfl, b6, ?_⟩
        simp only [Act.put, List.setIfInBounds_toArray, List.set_cons_zero, List.set_cons_succ]
        refine wpAnyHF_takeD (i := 4) 35 (v := .bool true) rfl rfl rfl (by kernel_rfl) (by kernel_rfl) (by kernel_rfl) (fun _ _ _ h => h) ⟨.inl ⟨rfl, fun W hW => by simp [execOp, go_sem]⟩, fun W => rfl⟩ b6 ?_
        refine wpAnyHF_takeD (i := 5) 36 (v := .bool true) rfl rfl rfl (by kernel_rfl) (by kernel_rfl) (by kernel_rfl) (fun _ _ _ h => h) ⟨.inl ⟨rfl, fun W hW => by simp [execOp, go_sem]⟩, fun W => rfl⟩ b6 ?_
        refine wpAnyHF_takeD (i := 6) 37 (v := undef) rfl rfl rfl (by kernel_rfl) (by kernel_rfl) (by kernel_rfl) (fun _ _ _ h => h) ⟨.inr ⟨rfl, rfl⟩, fun W => rfl⟩ b6 ?_
        simp only [Act.put, List.setIfInBounds_toArray, List.set_cons_zero, List.set_cons_succ]
        refine wpAnyHF_takeD (i := 7) 38 (v := undef) rfl rfl rfl (by kernel_rfl) (by kernel_rfl) (by kernel_rfl) (fun _ _ _ h => h) ⟨.inr ⟨rfl, rfl⟩, fun W => rfl⟩ b6 ?_
        refine wpAnyHF_takeD (i := 8) 39 (v := undef) rfl rfl rfl (by kernel_rfl) (by kernel_rfl) (by kernel_rfl) (fun _ _ _ h => h) ⟨.inr ⟨rfl, rfl⟩, fun W => rfl⟩ b6 ?_
        refine wpAnyHF_takeD (i := 9) 40 (v := undef) rfl rfl rfl (by kernel_rfl) (by kernel_rfl) (by kernel_rfl) (fun _ _ _ h => h) ⟨.inr ⟨rfl, rfl⟩, fun W => rfl⟩ b6 ?_
        simp only [Act.put, List.setIfInBounds_toArray, List.set_cons_zero, List.set_cons_succ]
        refine wpAnyHF_takeD (i := 10) 41 (v := undef) rfl rfl rfl (by kernel_rfl) (by kernel_rfl) (by kernel_rfl) (fun _ _ _ h => h) ⟨.inr ⟨rfl, rfl⟩, fun W => rfl⟩ b6 ?_
        refine wpAnyHF_takeD (i := 11) 42 (v := undef) rfl rfl rfl (by kernel_rfl) (by kernel_rfl) (by kernel_rfl) (fun _ _ _ h => h) ⟨.inr ⟨rfl, rfl⟩, fun W => rfl⟩ b6 ?_
        refine wpAnyHF_takeD (i := 12) 43 (v := undef) rfl rfl rfl (by kernel_rfl) (by kernel_rfl) (by kernel_rfl) (fun _ _ _ h => h) ⟨.inr ⟨rfl, rfl⟩, fun W => rfl⟩ b6 ?_
        simp only [Act.put, List.setIfInBounds_toArray, List.set_cons_zero, List.set_cons_succ]
        refine wpAnyHF_takeD (i := 13) 44 (v := undef) rfl rfl rfl (by kernel_rfl) (by kernel_rfl) (by kernel_rfl) (fun _ _ _ h => h) ⟨.inr ⟨rfl, rfl⟩, fun W => rfl⟩ b6 ?_
        refine wpAnyHF_takeD (i := 14) 45 (v := undef) rfl rfl rfl (by kernel_rfl) (by kernel_rfl) (by kernel_rfl) (fun _ _ _ h => h) ⟨.inr ⟨rfl, rfl⟩, fun W => rfl⟩ b6 ?_
        refine wpAnyHF_takeD (i := 15) 46 (v := undef) rfl rfl rfl (by kernel_rfl) (by kernel_rfl) (by kernel_rfl) (fun _ _ _ h => h) ⟨.inr ⟨rfl, rfl⟩, fun W => rfl⟩ b6 ?_
        simp only [Act.put, List.setIfInBounds_toArray, List.set_cons_zero, List.set_cons_succ]
        refine wpAnyHF_takeD (i := 16) 47 (v := .bool true) rfl rfl rfl (by kernel_rfl) (by kernel_rfl) (by kernel_rfl) (fun _ _ _ h => h) ⟨.inl ⟨rfl, fun W hW => by simp [execOp, go_sem]⟩, fun W => rfl⟩ b6 ?_
        simp only [Act.put, List.setIfInBounds_toArray, List.set_cons_zero, List.set_cons_succ]
        refine wpAnyHF_done (by kernel_rfl) ?_ _
        have HB6 := hid (HB5.out.trans (b6.mono HB5.out.size))
        clear b6
        gi_wp2
        go_wp2_with fail
        go_ret
        exact Bb.fin (by rw [HV.out, any_true_of HX.out (old_no HT.out)]; rfl) (K.out.more HB6.out).bel
      · obtain ⟨k, hxk, hlt⟩ := there_nat HT.out
        obtain ⟨b1, o1, y, hsa, hy, hcy, _, _, _, e2⟩ := K5.out.pick hlt
        subst hsa
        have Y1 : Hid (w5.cell? ⟨b1, o1 + k * 2 + 1, none⟩ = some (.int .i64 y.2)) := e2
        have C0 : Hid (w5.cell? ⟨w.heap.size, 0, none⟩ = some (.slice (some ⟨b1, o1, none⟩) s.cells.length sc)) := K5.out.c0
        have C1 : Hid (w5.cell? ⟨w.heap.size, 1, none⟩ = some (.int .i64 s.ver)) := K5.out.c1
        have HY := hid (old_yes HT.out (show cellS s x.1 = y by rw [hxk]; exact hcy))
        clear e2 hy hcy
        refine (wpIn_wide (n := 9)).1 ?_
        refine wpIn_region_held (fun W => Below w5.heap.size w5 W) (by kernel_rfl) ?_
        rw [H5.out]
        cases hq : y.2 == x.2
        · have hqq : ¬ y.2 = x.2 := by simpa using hq
          refine wpAnyHF_takeD (i := 0) 31 (v := .agg #[.slice (some ⟨b1, o1, none⟩) s.cells.length sc, .int .i64 s.ver]) rfl rfl rfl (by kernel_rfl) (by kernel_rfl) (by kernel_rfl) (fun _ _ _ h => h) ⟨.inl ⟨rfl, fun W hW => by have m0 := later_cell hW C0.out; have m1 := later_cell hW C1.out; simp [execOp, go_sem, m0, m1]⟩, fun W => rfl⟩ (Below.refl _ _) ?_
          refine wpAnyHF_takeD (i := 1) 32 (v := .pointer (some ⟨wr.heap.size, 0, none⟩)) rfl rfl rfl (by kernel_rfl) (by kernel_rfl) (by kernel_rfl) (fun _ _ _ h => h) ⟨.inl ⟨rfl, fun W hW => by simp [execOp, go_sem]⟩, fun W => rfl⟩ (Below.refl _ _) ?_
          refine wpAnyHF_takeD (i := 2) 33 (v := .int .i64 x.1) rfl rfl rfl (by kernel_rfl) (by kernel_rfl) (by kernel_rfl) (fun _ _ _ h => h) ⟨.inl ⟨rfl, fun W hW => by have m0 := later_cell hW X0.out; simp [execOp, go_sem, m0]⟩, fun W => rfl⟩ (Below.refl _ _) ?_
          simp only [Act.put, List.setIfInBounds_toArray, List.set_cons_zero, List.set_cons_succ]
          refine wpAnyHF_one (i := 3) (by kernel_rfl) rfl rfl ?_
          refine wpIn_callD 34 rfl (P := Try.prog) (f := 36) (args := #[.agg #[.slice (some ⟨b1, o1, none⟩) s.cells.length sc, .int .i64 s.ver], .int .i64 x.1]) (by simp [execOp, resolve, invoke, go_sem]) ?_
          refine (HT.out ▸ rthere_any w5 _ _ s x.1 KV.out : Calls _ _ _ _ (Bb true w5)).mono ?_
          rintro e w6 ⟨rfl, b6⟩
          refine ⟨_, rfl, b6, ?_⟩
          simp only [Act.put, List.setIfInBounds_toArray, List.set_cons_zero, List.set_cons_succ]
          refine wpAnyHF_takeD (i := 4) 35 (v := .bool false) rfl rfl rfl (by kernel_rfl) (by kernel_rfl) (by kernel_rfl) (fun _ _ _ h => h) ⟨.inl ⟨rfl, fun W hW => by simp [execOp, go_sem]⟩, fun W => rfl⟩ b6 ?_
          refine wpAnyHF_takeD (i := 5) 36 (v := .bool false) rfl rfl rfl (by kernel_rfl) (by kernel_rfl) (by kernel_rfl) (fun _ _ _ h => h) ⟨.inl ⟨rfl, fun W hW => by simp [execOp, go_sem]⟩, fun W => rfl⟩ b6 ?_
          refine wpAnyHF_takeD (i := 6) 37 (v := .pointer (some ⟨w.heap.size, 0, none⟩)) rfl rfl rfl (by kernel_rfl) (by kernel_rfl) (by kernel_rfl) (fun _ _ _ h => h) ⟨.inl ⟨rfl, fun W hW => by simp [execOp, go_sem]⟩, fun W => rfl⟩ b6 ?_
          simp only [Act.put, List.setIfInBounds_toArray, List.set_cons_zero, List.set_cons_succ]
          refine wpAnyHF_takeD (i := 7) 38 (v := .slice (some ⟨b1, o1, none⟩) s.cells.length sc) rfl rfl rfl (by kernel_rfl) (by kernel_rfl) (by kernel_rfl) (fun _ _ _ h => h) ⟨.inl ⟨rfl, fun W hW => by have m0 := later_cell hW C0.out; simp [execOp, go_sem, m0]⟩, fun W => rfl⟩ b6 ?_
          refine wpAnyHF_takeD (i := 8) 39 (v := .pointer (some ⟨wr.heap.size, 0, none⟩)) rfl rfl rfl (by kernel_rfl) (by kernel_rfl) (by kernel_rfl) (fun _ _ _ h => h) ⟨.inl ⟨rfl, fun W hW => by simp [execOp, go_sem]⟩, fun W => rfl⟩ b6 ?_
          refine wpAnyHF_takeD (i := 9) 40 (v := .int .i64 x.1) rfl rfl rfl (by kernel_rfl) (by kernel_rfl) (by kernel_rfl) (fun _ _ _ h => h) ⟨.inl ⟨rfl, fun W hW => by have m0 := later_cell hW X0.out; simp [execOp, go_sem, m0]⟩, fun W => rfl⟩ b6 ?_
          simp only [Act.put, List.setIfInBounds_toArray, List.set_cons_zero, List.set_cons_succ]
          refine wpAnyHF_takeD (i := 10) 41 (v := .pointer (some ⟨b1, o1 + k * 2, none⟩)) rfl rfl rfl (by kernel_rfl) (by kernel_rfl) (by kernel_rfl) (fun _ _ _ h => h) ⟨.inl ⟨rfl, fun W hW => by simp [execOp, go_sem, hxk, hlt]⟩, fun W => rfl⟩ b6 ?_
          refine wpAnyHF_takeD (i := 11) 42 (v := .pointer (some ⟨b1, o1 + k * 2 + 1, none⟩)) rfl rfl rfl (by kernel_rfl) (by kernel_rfl) (by kernel_rfl) (fun _ _ _ h => h) ⟨.inl ⟨rfl, fun W hW => by simp [execOp, go_sem]⟩, fun W => rfl⟩ b6 ?_
          refine wpAnyHF_takeD (i := 12) 43 (v := .int .i64 y.2) rfl rfl rfl (by kernel_rfl) (by kernel_rfl) (by kernel_rfl) (fun _ _ _ h => h) ⟨.inl ⟨rfl, fun W hW => by have m0 := later_cell hW Y1.out; simp [execOp, go_sem, m0]⟩, fun W => rfl⟩ b6 ?_
          simp only [Act.put, List.setIfInBounds_toArray, List.set_cons_zero, List.set_cons_succ]
          refine wpAnyHF_takeD (i := 13) 44 (v := .pointer (some ⟨wr.heap.size, 1, none⟩)) rfl rfl rfl (by kernel_rfl) (by kernel_rfl) (by kernel_rfl) (fun _ _ _ h => h) ⟨.inl ⟨rfl, fun W hW => by simp [execOp, go_sem]⟩, fun W => rfl⟩ b6 ?_
          refine wpAnyHF_takeD (i := 14) 45 (v := .int .i64 x.2) rfl rfl rfl (by kernel_rfl) (by kernel_rfl) (by kernel_rfl) (fun _ _ _ h => h) ⟨.inl ⟨rfl, fun W hW => by have m0 := later_cell hW X1.out; simp [execOp, go_sem, m0]⟩, fun W => rfl⟩ b6 ?_
          refine wpAnyHF_takeD (i := 15) 46 (v := .bool true) rfl rfl rfl (by kernel_rfl) (by kernel_rfl) (by kernel_rfl) (fun _ _ _ h => h) ⟨.inl ⟨rfl, fun W hW => by simp [execOp, go_sem, hqq]⟩, fun W => rfl⟩ b6 ?_
          simp only [Act.put, List.setIfInBounds_toArray, List.set_cons_zero, List.set_cons_succ]
          refine wpAnyHF_takeD (i := 16) 47 (v := .bool true) rfl rfl rfl (by kernel_rfl) (by kernel_rfl) (by kernel_rfl) (fun _ _ _ h => h) ⟨.inl ⟨rfl, fun W hW => by simp [execOp, go_sem]⟩, fun W => rfl⟩ b6 ?_
          simp only [Act.put, List.setIfInBounds_toArray, List.set_cons_zero, List.set_cons_succ]
          refine wpAnyHF_done (by kernel_rfl) ?_ _
          have HB6 := hid (HB5.out.trans (b6.mono HB5.out.size))
          clear b6
          gi_wp2
          go_wp2_with fail
          go_ret
          exact Bb.fin (by rw [HV.out, any_true_of HX.out (by rw [HY.out, hq]; rfl)]; rfl) (K.out.more HB6.out).bel
        · have hqq : y.2 = x.2 := by simpa using hq
          refine wpAnyHF_takeD (i := 0) 31 (v := .agg #[.slice (some ⟨b1, o1, none⟩) s.cells.length sc, .int .i64 s.ver]) rfl rfl rfl (by kernel_rfl) (by kernel_rfl) (by kernel_rfl) (fun _ _ _ h => h) ⟨.inl ⟨rfl, fun W hW => by have m0 := later_cell hW C0.out; have m1 := later_cell hW C1.out; simp [execOp, go_sem, m0, m1]⟩, fun W => rfl⟩ (Below.refl _ _) ?_
          refine wpAnyHF_takeD (i := 1) 32 (v := .pointer (some ⟨wr.heap.size, 0, none⟩)) rfl rfl rfl (by kernel_rfl) (by kernel_rfl) (by kernel_rfl) (fun _ _ _ h => h) ⟨.inl ⟨rfl, fun W hW => by simp [execOp, go_sem]⟩, fun W => rfl⟩ (Below.refl _ _) ?_
          refine wpAnyHF_takeD (i := 2) 33 (v := .int .i64 x.1) rfl rfl rfl (by kernel_rfl) (by kernel_rfl) (by kernel_rfl) (fun _ _ _ h => h) ⟨.inl ⟨rfl, fun W hW => by have m0 := later_cell hW X0.out; simp [execOp, go_sem, m0]⟩, fun W => rfl⟩ (Below.refl _ _) ?_
          simp only [Act.put, List.setIfInBounds_toArray, List.set_cons_zero, List.set_cons_succ]
          refine wpAnyHF_one (i := 3) (by kernel_rfl) rfl rfl ?_
          refine wpIn_callD 34 rfl (P := Try.prog) (f := 36) (args := #[.agg #[.slice (some ⟨b1, o1, none⟩) s.cells.length sc, .int .i64 s.ver], .int .i64 x.1]) (by simp [execOp, resolve, invoke, go_sem]) ?_
          refine (HT.out ▸ rthere_any w5 _ _ s x.1 KV.out : Calls _ _ _ _ (Bb true w5)).mono ?_
          rintro e w6 ⟨rfl, b6⟩
          refine ⟨_, rfl, b6, ?_⟩
          simp only [Act.put, List.setIfInBounds_toArray, List.set_cons_zero, List.set_cons_succ]
          refine wpAnyHF_takeD (i := 4) 35 (v := .bool false) rfl rfl rfl (by kernel_rfl) (by kernel_rfl) (by kernel_rfl) (fun _ _ _ h => h) ⟨.inl ⟨rfl, fun W hW => by simp [execOp, go_sem]⟩, fun W => rfl⟩ b6 ?_
          refine wpAnyHF_takeD (i := 5) 36 (v := .bool false) rfl rfl rfl (by kernel_rfl) (by kernel_rfl) (by kernel_rfl) (fun _ _ _ h => h) ⟨.inl ⟨rfl, fun W hW => by simp [execOp, go_sem]⟩, fun W => rfl⟩ b6 ?_
          refine wpAnyHF_takeD (i := 6) 37 (v := .pointer (some ⟨w.heap.size, 0, none⟩)) rfl rfl rfl (by kernel_rfl) (by kernel_rfl) (by kernel_rfl) (fun _ _ _ h => h) ⟨.inl ⟨rfl, fun W hW => by simp [execOp, go_sem]⟩, fun W => rfl⟩ b6 ?_
          simp only [Act.put, List.setIfInBounds_toArray, List.set_cons_zero, List.set_cons_succ]
          refine wpAnyHF_takeD (i := 7) 38 (v := .slice (some ⟨b1, o1, none⟩) s.cells.length sc) rfl rfl rfl (by kernel_rfl) (by kernel_rfl) (by kernel_rfl) (fun _ _ _ h => h) ⟨.inl ⟨rfl, fun W hW => by have m0 := later_cell hW C0.out; simp [execOp, go_sem, m0]⟩, fun W => rfl⟩ b6 ?_
          refine wpAnyHF_takeD (i := 8) 39 (v := .pointer (some ⟨wr.heap.size, 0, none⟩)) rfl rfl rfl (by kernel_rfl) (by kernel_rfl) (by kernel_rfl) (fun _ _ _ h => h) ⟨.inl ⟨rfl, fun W hW => by simp [execOp, go_sem]⟩, fun W => rfl⟩ b6 ?_
          refine wpAnyHF_takeD (i := 9) 40 (v := .int .i64 x.1) rfl rfl rfl (by kernel_rfl) (by kernel_rfl) (by kernel_rfl) (fun _ _ _ h => h) ⟨.inl ⟨rfl, fun W hW => by have m0 := later_cell hW X0.out; simp [execOp, go_sem, m0]⟩, fun W => rfl⟩ b6 ?_
          simp only [Act.put, List.setIfInBounds_toArray, List.set_cons_zero, List.set_cons_succ]
          refine wpAnyHF_takeD (i := 10) 41 (v := .pointer (some ⟨b1, o1 + k * 2, none⟩)) rfl rfl rfl (by kernel_rfl) (by kernel_rfl) (by kernel_rfl) (fun _ _ _ h => h) ⟨.inl ⟨rfl, fun W hW => by simp [execOp, go_sem, hxk, hlt]⟩, fun W => rfl⟩ b6 ?_
          refine wpAnyHF_takeD (i := 11) 42 (v := .pointer (some ⟨b1, o1 + k * 2 + 1, none⟩)) rfl rfl rfl (by kernel_rfl) (by kernel_rfl) (by kernel_rfl) (fun _ _ _ h => h) ⟨.inl ⟨rfl, fun W hW => by simp [execOp, go_sem]⟩, fun W => rfl⟩ b6 ?_
          refine wpAnyHF_takeD (i := 12) 43 (v := .int .i64 y.2) rfl rfl rfl (by kernel_rfl) (by kernel_rfl) (by kernel_rfl) (fun _ _ _ h => h) ⟨.inl ⟨rfl, fun W hW => by have m0 := later_cell hW Y1.out; simp [execOp, go_sem, m0]⟩, fun W => rfl⟩ b6 ?_
          simp only [Act.put, List.setIfInBounds_toArray, List.set_cons_zero, List.set_cons_succ]
          refine wpAnyHF_takeD (i := 13) 44 (v := .pointer (some ⟨wr.heap.size, 1, none⟩)) rfl rfl rfl (by kernel_rfl) (by kernel_rfl) (by kernel_rfl) (fun _ _ _ h => h) ⟨.inl ⟨rfl, fun W hW => by simp [execOp, go_sem]⟩, fun W => rfl⟩ b6 ?_
          refine wpAnyHF_takeD (i := 14) 45 (v := .int .i64 x.2) rfl rfl rfl (by kernel_rfl) (by kernel_rfl) (by kernel_rfl) (fun _ _ _ h => h) ⟨.inl ⟨rfl, fun W hW => by have m0 := later_cell hW X1.out; simp [execOp, go_sem, m0]⟩, fun W => rfl⟩ b6 ?_
          refine wpAnyHF_takeD (i := 15) 46 (v := .bool false) rfl rfl rfl (by kernel_rfl) (by kernel_rfl) (by kernel_rfl) (fun _ _ _ h => h) ⟨.inl ⟨rfl, fun W hW => by simp [execOp, go_sem, hqq]⟩, fun W => rfl⟩ b6 ?_
          simp only [Act.put, List.setIfInBounds_toArray, List.set_cons_zero, List.set_cons_succ]
          refine wpAnyHF_takeD (i := 16) 47 (v := .bool false) rfl rfl rfl (by kernel_rfl) (by kernel_rfl) (by kernel_rfl) (fun _ _ _ h => h) ⟨.inl ⟨rfl, fun W hW => by simp [execOp, go_sem]⟩, fun W => rfl⟩ b6 ?_
          simp only [Act.put, List.setIfInBounds_toArray, List.set_cons_zero, List.set_cons_succ]
          refine wpAnyHF_done (by kernel_rfl) ?_ _
          have HB6 := hid (HB5.out.trans (b6.mono HB5.out.size))
          clear b6
          gi_wp2
          go_wp2_with fail
          go_roundw
          case rel =>
            refine ⟨n + 1, by omega, by go_num, fun j z hj hz => ?_, HB6⟩
            by_cases e : j = n
            · subst e; rw [HX.out] at hz; cases hz; rw [HY.out, hq]; rfl
            · exact HA.out j z (by omega) hz
          case measure => simp [intOf]; omega
    · obtain rfl : n = l.reads.length := by omega
      go_wp2_with fail
      go_ret
      exact Bb.fin (by rw [HV.out, any_false_of (fun i x hx => HA.out i x (List.getElem?_eq_some_iff.1 hx).1 hx)]; rfl) (K.out.more HB.out).bel
end Go.Proofs.Ytplckigmllkpoaa
