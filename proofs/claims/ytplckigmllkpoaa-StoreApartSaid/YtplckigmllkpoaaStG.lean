/- store.Move and the reference's: what each returns. -/
import Derived.Test.YtplckigmllkpoaaStF
namespace Go.Proofs.Ytplckigmllkpoaa
open Go.RowKit Go.Shelf Go.Maps
attribute [local go_sem] Oper.semAt_some
def MoveP (ok : Nat → Prop) (r : St × Int) (w : World) (e : Ending) (w' : World) : Prop := ∃ ra rc, e = .returned (.tuple #[.agg #[.slice ra r.1.cells.length rc, .int .i64 r.1.ver], .int .i64 r.2]) ∧ SVal w' (fun b => ok b ∨ w.heap.size ≤ b) (.agg #[.slice ra r.1.cells.length rc, .int .i64 r.1.ver]) r.1 ∧ Below w.heap.size w w'
theorem MoveP.of {ok : Nat → Prop} {r : St × Int} {w w' : World} {t : St} {b : Int} {ra : Option Addr} {rc : Nat} (h : r = (t, b)) (h1 : SVal w' (fun b => ok b ∨ w.heap.size ≤ b) (.agg #[.slice ra t.cells.length rc, .int .i64 t.ver]) t) (h2 : Below w.heap.size w w') :
    MoveP ok r w (.returned (.tuple #[.agg #[.slice ra t.cells.length rc, .int .i64 t.ver], .int .i64 b])) w' := by subst h; exact ⟨ra, rc, rfl, h1, h2⟩
def mvZ (ats : List Int) (cs : List Pr) : List Pr := List.zipWith (fun a c => (a, c.2)) ats cs
def moveS (s : St) (ats : List Int) : St × Int := if ats.length = s.cells.length then (⟨mvZ ats s.cells, s.ver⟩, 0) else (s, 181)
theorem mvZ_len {ats : List Int} {cs : List Pr} (h : ats.length = cs.length) : (mvZ ats cs).length = cs.length := by simp [mvZ, h]
theorem mvZ_more {ats : List Int} {cs : List Pr} {k : Nat} {a : Int} {c : Pr} (h1 : ats[k]? = some a) (h2 : cs[k]? = some c) : mvZ (ats.take (k + 1)) (cs.take (k + 1)) = mvZ (ats.take k) (cs.take k) ++ [(a, c.2)] := by
  rw [take_more h1, take_more h2, mvZ, List.zipWith_append (by
    have e1 := (List.getElem?_eq_some_iff.1 h1).1; have e2 := (List.getElem?_eq_some_iff.1 h2).1
    simp; omega)]
  rfl
def mvK (ats : List Int) (cs : List Pr) (k : Nat) : List Pr := mvZ (ats.take k) (cs.take k) ++ cs.drop k
theorem mvK_len {ats : List Int} {cs : List Pr} (k : Nat) (h : ats.length = cs.length) : (mvK ats cs k).length = cs.length := by simp [mvK, mvZ, h]; omega
theorem mvK_zero (ats : List Int) (cs : List Pr) : mvK ats cs 0 = cs := by simp [mvK, mvZ]
theorem mvK_all {ats : List Int} {cs : List Pr} (h : ats.length = cs.length) : mvK ats cs cs.length = mvZ ats cs := by
  have e : ats.take cs.length = ats := by rw [← h]; exact List.take_length
  simp [mvK, e]
theorem mvZ_tk {ats : List Int} {cs : List Pr} {k : Nat} (h : ats.length = cs.length) (hk : k ≤ cs.length) : (mvZ (ats.take k) (cs.take k)).length = k := by simp [mvZ, h]; omega
theorem mvK_at {ats : List Int} {cs : List Pr} {k : Nat} {c : Pr} (h : ats.length = cs.length) (hc : cs[k]? = some c) : (mvK ats cs k)[k]? = some c := by
  have hk := (List.getElem?_eq_some_iff.1 hc).1
  rw [mvK, List.getElem?_append_right (by rw [mvZ_tk h (by omega)]; omega), mvZ_tk h (by omega), Nat.sub_self, List.getElem?_drop, Nat.add_zero, hc]
theorem mvK_more {ats : List Int} {cs : List Pr} {k : Nat} {a : Int} {c : Pr} (h : ats.length = cs.length) (h1 : ats[k]? = some a) (h2 : cs[k]? = some c) : (mvK ats cs k).set k (a, c.2) = mvK ats cs (k + 1) := by
  have hk := (List.getElem?_eq_some_iff.1 h2).1
  rw [mvK, mvK, mvZ_more h1 h2, List.set_append_right _ _ (by rw [mvZ_tk h (by omega)]; omega), mvZ_tk h (by omega), Nat.sub_self, List.drop_eq_getElem_cons hk, List.set_cons_zero, List.append_assoc]
  rfl
set_option maxRecDepth 100000 in
set_option maxHeartbeats 4000000 in
theorem move_any (w : World) (ok ok2 : Nat → Prop) (v v2 : Value) (s : St) (ats : List Int) (hh : SVal w ok v s) (ha : ISl w ok2 v2 ats) (hlen : s.cells.length ≤ 100000) : Calls Try.prog 16 #[v, v2] w (MoveP ok (moveS s ats) w) := by
  have hh0 := hh
  obtain ⟨sa, sc, rfl, hi, hs⟩ := hh
  obtain ⟨_, _, e, l1, _⟩ := hs.shape
  cases e
  obtain ⟨W0, hW0⟩ : ∃ W0, w.alloc (Obj.cells #[.slice sa s.cells.length sc, .int .i64 s.ver] 24) = W0 := ⟨_, rfl⟩
  have K : Hid (BSt w W0 w.heap.size sa sc s) := by have h := BSt.new (Below.refl _ w) hh0; rw [hW0] at h; exact h
  obtain ⟨W1, hW1⟩ : ∃ W1, W0.alloc (Obj.cells #[.slice none 0 0, .int .i64 0] 24) = W1 := ⟨_, rfl⟩
  have hb1 : Below W0.heap.size W0 W1 := by rw [← hW1]; exact (Below.refl _ _).alloc (Nat.le_refl _) _
  have H2 : Hid (W1.heap[w.heap.size + 1]? = some (.cells #[.slice none 0 0, .int .i64 0] 24)) := by rw [← hW1, ← hW0]; exact heap_two _ _ _
  have hW := hW1
  rw [← hW0] at hW
  have HW := hid hW
  have HI := hid hi
  have HV0 := hid hh0
  replace K := hid (K.out.more hb1)
  clear hW0 hW1 hW hb1 hs hh0 hi
  obtain ⟨aa, ac, rfl, la1, _⟩ := ha.shape
  have HA := hid (RSl.below intGood ha K.out.bel)
  clear ha
  go_enter Try.func16, Try.ntmps16
  go_upto_region 1 with (fail)
  rw [HW.out]
  clear HW
  have c0 : W1.cell? ⟨w.heap.size, 0, none⟩ = some (.slice sa s.cells.length sc) := K.out.c0
  by_cases hne : ats.length = s.cells.length
  · have f1 : ((ats.length : Int) != s.cells.length) = false := by simp; omega
    have hlA : ats.length ≤ 9223372036854775807 := la1
    have c1 : W1.cell? ⟨w.heap.size, 1, none⟩ = some (.int .i64 s.ver) := K.out.c1
    have P := hid (sown_any W1 _ _ s K.out.val (by omega))
    go_wp2_with fail
    refine P.out.mono ?_
    rintro e w2 ⟨oa, oc, rfl, hO, b⟩
    clear P c0 c1
    have hlt2 := lt_of_some H2.out
    have HZ : Hid (OSl PairE 2 52 W1.heap.size w2 (fun _ => False) (.slice oa s.cells.length oc) (mvK ats s.cells 0)) := by show OSl _ _ _ _ _ _ _ _; rw [mvK_zero]; exact hO
    have HB := hid b
    clear hO b
    go_wp2_with fail
    go_loopw [20] (fun i wr => ∃ k : Nat, k ≤ ats.length ∧ i = .int .i64 k ∧ Hid (OSl PairE 2 52 W1.heap.size wr (fun _ => False) (.slice oa s.cells.length oc) (mvK ats s.cells k)) ∧ Hid (Below W1.heap.size W1 wr)) (fun i _ => ats.length - (intOf i).toNat)
    case atStart => exact ⟨0, Nat.zero_le _, rfl, HZ, HB⟩
    case round =>
      obtain ⟨k, hk, rfl, HO, HB1⟩ := hrel
      clear HZ HB
      by_cases hlt : k < ats.length
      · obtain ⟨b1, o1, c1', a, hv1, hx, hin, e1⟩ := ISl.at HA.out HB1.out hlt
        cases hv1
        obtain ⟨c, hc⟩ : ∃ c, s.cells[k]? = some c := ⟨_, List.getElem?_eq_getElem (by omega)⟩
        have hlc : k < s.cells.length := by omega
        obtain ⟨O1, oc1, hv, hbO, hfz, ⟨u0, hu0⟩, hO3⟩ := OSl.setCell pairGood HO.out (x' := (a, c.2)) (mvK_at hne hc) (j := 0) (by decide) (.int .i64 a) (fun row hr => ⟨by rw [hr.1]; rfl, hin, hr.2.2⟩)
        rw [mvK_len k hne] at hv
        obtain ⟨rfl, rfl⟩ : oa = some ⟨O1, 0, none⟩ ∧ oc = oc1 := by cases hv; exact ⟨rfl, rfl⟩
        rw [mvK_more hne hx hc] at hO3
        simp only [Nat.add_zero] at hu0 hO3
        have HO3 := hid hO3
        have HB3 := hid (HB1.out.setCell (p := ⟨O1, k * 2, none⟩) hbO (.int .i64 a))
        clear hO3 hv hx hc HO HB1
        go_wp2_with fail
        go_roundw
        case rel => exact ⟨k + 1, by omega, by go_num, HO3, HB3⟩
        case measure => simp [intOf]; omega
      · obtain rfl : k = ats.length := by omega
        rw [hne, mvK_all hne] at HO
        have K1 := hid (K.out.more HB1.out)
        have c1 : wr.cell? ⟨w.heap.size, 1, none⟩ = some (.int .i64 s.ver) := K1.out.c1
        have h2 := (HB1.out.block _ hlt2).trans H2.out
        have q0 : wr.cell? ⟨w.heap.size + 1, 0, none⟩ = some (.slice none 0 0) := cell_of h2
        have q1 : wr.cell? ⟨w.heap.size + 1, 1, none⟩ = some (.int .i64 0) := cell_of h2
        have qf : ∀ i, wr.frozen? ⟨w.heap.size + 1, i, none⟩ = false := fun i => free_of h2
        have HH2 := hid h2
        clear h2
        go_wp2_with fail
        obtain ⟨C, hC⟩ : ∃ C, C = mvZ ats s.cells := ⟨_, rfl⟩
        have hCl : s.cells.length = C.length := by rw [hC, mvZ_len hne]
        have hO := HO.out
        rw [← hC, hCl] at hO
        rw [hCl]
        have F := sput_out (w := w) (s := ⟨C, s.ver⟩) (ok := ok) HH2.out (by omega) K1.out.bel (show SVal wr _ (.agg #[.slice oa C.length oc, .int .i64 s.ver]) ⟨C, s.ver⟩ from ⟨_, _, rfl, HI.out, hO.rsl pairGood _ (fun b _ h => ⟨by omega, .inr (by omega)⟩) (fun _ _ h => h.elim)⟩)
        have t0 := cell_at (i := 0) (v := .slice oa C.length oc) F.1 rfl
        have t1 := cell_at (i := 1) (v := .int .i64 s.ver) F.1 rfl
        exact bodyPost_ret (v := .tuple #[.agg #[.slice oa C.length oc, .int .i64 s.ver], .int .i64 0]) (by simp [results, Try.results16, go_sem, t0, t1]) rfl (MoveP.of (t := ⟨C, s.ver⟩) (by rw [moveS, if_pos hne, ← hC]) F.2.1 F.2.2)
  · have f1 : ((ats.length : Int) != s.cells.length) = true := by simp; omega
    clear c0
    obtain ⟨w1, hw1⟩ : ∃ z, z = W1 := ⟨_, rfl⟩
    subst hw1
    have c0 : w1.cell? ⟨w.heap.size, 0, none⟩ = some (.slice sa s.cells.length sc) := K.out.c0
    have c1 : w1.cell? ⟨w.heap.size, 1, none⟩ = some (.int .i64 s.ver) := K.out.c1
    have q0 : w1.cell? ⟨w.heap.size + 1, 0, none⟩ = some (.slice none 0 0) := cell_of H2.out
    have q1 : w1.cell? ⟨w.heap.size + 1, 1, none⟩ = some (.int .i64 0) := cell_of H2.out
    have qf : ∀ i, w1.frozen? ⟨w.heap.size + 1, i, none⟩ = false := fun i => free_of H2.out
    go_wp2_with fail
    have F := sput_out (w := w) (s := s) (ok := ok) H2.out (by omega) K.out.bel (sback (by omega) HV0.out K.out.bel)
    have t0 := cell_at (i := 0) (v := .slice sa s.cells.length sc) F.1 rfl
    have t1 := cell_at (i := 1) (v := .int .i64 s.ver) F.1 rfl
    exact bodyPost_ret (v := .tuple #[.agg #[.slice sa s.cells.length sc, .int .i64 s.ver], .int .i64 181]) (by simp [results, Try.results16, go_sem, t0, t1]) rfl (MoveP.of (by rw [moveS, if_neg hne]) F.2.1 F.2.2)
set_option maxRecDepth 100000 in
set_option maxHeartbeats 4000000 in
theorem rmove_any (w : World) (ok ok2 : Nat → Prop) (v v2 : Value) (s : St) (ats : List Int) (hh : SVal w ok v s) (ha : ISl w ok2 v2 ats) (hlen : s.cells.length ≤ 100000) : Calls Try.prog 17 #[v, v2] w (MoveP ok (moveS s ats) w) := by
  have hh0 := hh
  obtain ⟨sa, sc, rfl, hi, hs⟩ := hh
  obtain ⟨_, _, e, l1, _⟩ := hs.shape
  cases e
  obtain ⟨W0, hW0⟩ : ∃ W0, w.alloc (Obj.cells #[.slice sa s.cells.length sc, .int .i64 s.ver] 24) = W0 := ⟨_, rfl⟩
  have K : Hid (BSt w W0 w.heap.size sa sc s) := by have h := BSt.new (Below.refl _ w) hh0; rw [hW0] at h; exact h
  obtain ⟨W1, hW1⟩ : ∃ W1, W0.alloc (Obj.cells #[.slice none 0 0, .int .i64 0] 24) = W1 := ⟨_, rfl⟩
  have hb1 : Below W0.heap.size W0 W1 := by rw [← hW1]; exact (Below.refl _ _).alloc (Nat.le_refl _) _
  have H2 : Hid (W1.heap[w.heap.size + 1]? = some (.cells #[.slice none 0 0, .int .i64 0] 24)) := by rw [← hW1, ← hW0]; exact heap_two _ _ _
  have hW := hW1
  rw [← hW0] at hW
  have HW := hid hW
  have HI := hid hi
  have HV0 := hid hh0
  replace K := hid (K.out.more hb1)
  clear hW0 hW1 hW hb1 hs hh0 hi
  obtain ⟨aa, ac, rfl, la1, _⟩ := ha.shape
  have HA := hid (RSl.below intGood ha K.out.bel)
  clear ha
  go_enter Try.func17, Try.ntmps17
  go_upto_region 1 with (fail)
  rw [HW.out]
  clear HW
  have c0 : W1.cell? ⟨w.heap.size, 0, none⟩ = some (.slice sa s.cells.length sc) := K.out.c0
  by_cases hne : ats.length = s.cells.length
  · have f1 : ((ats.length : Int) != s.cells.length) = false := by simp; omega
    have hlA : ats.length ≤ 9223372036854775807 := la1
    have c1 : W1.cell? ⟨w.heap.size, 1, none⟩ = some (.int .i64 s.ver) := K.out.c1
    go_upto_region 4 with (fail)
    clear c0 c1 f1
    have hlt2 := lt_of_some H2.out
    obtain ⟨W2, hW2⟩ : ∃ z, W1.alloc (Obj.cells #[.slice none 0 0, .int .i64 s.ver] 24) = z := ⟨_, rfl⟩
    have hb2 : Below W1.heap.size W1 W2 := by rw [← hW2]; exact (Below.refl _ _).alloc (Nat.le_refl _) _
    have h6 : W2.heap[W1.heap.size]? = some (.cells #[.slice none 0 0, .int .i64 s.ver] 24) := by rw [← hW2]; exact World.alloc_heap_new _ _
    have hs6 := lt_of_some h6
    have H60 := hid h6
    rw [hW2]
    clear hW2 h6
    go_wp2_with fail
    go_loopw [7] (fun i wr => ∃ (k : Nat) (oa : Option Addr) (oc : Nat), k ≤ ats.length ∧ i = .int .i64 k ∧ Hid (wr.heap[W1.heap.size]? = some (.cells #[.slice oa k oc, .int .i64 s.ver] 24)) ∧ Hid (OSl PairE 2 52 W2.heap.size wr (fun _ => False) (.slice oa k oc) (mvZ (ats.take k) (s.cells.take k))) ∧ Hid (Below W1.heap.size W2 wr)) (fun i _ => ats.length - (intOf i).toNat)
    case atStart => exact ⟨0, none, 0, Nat.zero_le _, rfl, H60, OSl.nil _ _ _ _ _ _, Below.refl _ _⟩
    case round =>
      obtain ⟨k, oa, oc, hk, rfl, H6, HO, HB0⟩ := hrel
      have HB1 := hid (hb2.trans (HB0.out.mono (Nat.le_refl _)))
      have K1 := hid (K.out.more HB1.out)
      by_cases hlt : k < ats.length
      · have hlc : k < s.cells.length := by omega
        obtain ⟨b1, o1, c1', a, hv1, hx, hin, e1⟩ := ISl.at HA.out HB1.out hlt
        cases hv1
        obtain ⟨b2, o2, c, hsa, hc, _, _, hi2, e2, e3⟩ := K1.out.pick hlc
        have hA1 : b1 < W1.heap.size := by
          obtain ⟨b1', o1', _, _, hv', _, _, e'⟩ := ISl.at HA.out (Below.refl _ _) hlt
          cases hv'; exact World.block_lt_of_cell? _ _ e'
        have hA2 : b2 < W1.heap.size := by
          obtain ⟨b2', o2', _, hv', _, _, _, _, e', _⟩ := K.out.pick hlc
          rw [hsa] at hv'; cases hv'; exact World.block_lt_of_cell? _ _ e'
        subst hsa
        go_upto_region 7 with (fail)
        obtain ⟨w5, hw5⟩ : ∃ z, wr.drew = z := ⟨_, rfl⟩
        have bd : Below wr.heap.size wr w5 := by rw [← hw5]; exact (Below.refl _ _).drew
        have HB5 := hid (HB0.out.trans (bd.mono (by have := HB0.out.size; omega)))
        have K5 := hid (K1.out.more bd)
        have HO5 := hid (HO.out.below pairGood bd)
        have H65 := hid ((bd.block _ (lt_of_some H6.out)).trans H6.out)
        have C6 : Hid (w5.cell? ⟨W1.heap.size, 0, none⟩ = some (.slice oa k oc)) := cell_of H65.out
        have CA : Hid (w5.cell? ⟨b1, o1 + k, none⟩ = some (.int .i64 a)) := later_cell bd e1
        have C0 : Hid (w5.cell? ⟨w.heap.size, 0, none⟩ = some (.slice (some ⟨b2, o2, none⟩) s.cells.length sc)) := K5.out.c0
        have CV : Hid (w5.cell? ⟨b2, o2 + k * 2 + 1, none⟩ = some (.int .i64 c.2)) := later_cell bd e3
        have hs5 := HB5.out.size
        have HXC := hid (And.intro hx hc)
        clear bd e1 e2 e3 hx hc HB0 HB1 K1 H6 HO
        refine (wpIn_wide (n := 9)).1 ?_
        refine wpIn_region_held (fun W => Below W1.heap.size w5 W) (by kernel_rfl) ?_
        rw [hw5]
        clear hw5
        refine wpAnyHF_takeD (i := 0) 24 (v := .pointer (some ⟨W1.heap.size, 0, none⟩)) rfl rfl rfl (by kernel_rfl) (by kernel_rfl) (by kernel_rfl) (fun _ _ _ h => h) ⟨.inl ⟨rfl, fun W hW => by simp [execOp, go_sem]⟩, fun W => rfl⟩ (Below.refl _ _) ?_
        refine wpAnyHF_takeD (i := 2) 26 (v := .slice (some ⟨b1, o1, none⟩) ats.length ac) rfl rfl rfl (by kernel_rfl) (by kernel_rfl) (by kernel_rfl) (fun _ _ _ h => h) ⟨.inl ⟨rfl, fun W hW => by simp [execOp, go_sem]⟩, fun W => rfl⟩ (Below.refl _ _) ?_
        refine wpAnyHF_takeD (i := 3) 27 (v := .int .i64 k) rfl rfl rfl (by kernel_rfl) (by kernel_rfl) (by kernel_rfl) (fun _ _ _ h => h) ⟨.inl ⟨rfl, fun W hW => by simp [execOp, go_sem]⟩, fun W => rfl⟩ (Below.refl _ _) ?_
        simp only [Act.put, List.setIfInBounds_toArray, List.set_cons_zero, List.set_cons_succ]
        refine wpAnyHF_takeD (i := 4) 28 (v := .pointer (some ⟨b1, o1 + k, none⟩)) rfl rfl rfl (by kernel_rfl) (by kernel_rfl) (by kernel_rfl) (fun _ _ _ h => h) ⟨.inl ⟨rfl, fun W hW => by simp [execOp, go_sem, hlt]⟩, fun W => rfl⟩ (Below.refl _ _) ?_
        refine wpAnyHF_takeD (i := 5) 29 (v := .int .i64 a) rfl rfl rfl (by kernel_rfl) (by kernel_rfl) (by kernel_rfl) (fun _ _ _ h => h) ⟨.inl ⟨rfl, fun W hW => by have m0 := (hW.cell (show b1 < W1.heap.size by omega)).trans CA.out; simp [execOp, go_sem, m0]⟩, fun W => rfl⟩ (Below.refl _ _) ?_
        refine wpAnyHF_takeD (i := 6) 30 (v := .pointer (some ⟨w.heap.size, 0, none⟩)) rfl rfl rfl (by kernel_rfl) (by kernel_rfl) (by kernel_rfl) (fun _ _ _ h => h) ⟨.inl ⟨rfl, fun W hW => by simp [execOp, go_sem]⟩, fun W => rfl⟩ (Below.refl _ _) ?_
        simp only [Act.put, List.setIfInBounds_toArray, List.set_cons_zero, List.set_cons_succ]
        refine wpAnyHF_takeD (i := 7) 31 (v := .slice (some ⟨b2, o2, none⟩) s.cells.length sc) rfl rfl rfl (by kernel_rfl) (by kernel_rfl) (by kernel_rfl) (fun _ _ _ h => h) ⟨.inl ⟨rfl, fun W hW => by have m0 := (hW.cell (show w.heap.size < W1.heap.size by omega)).trans C0.out; simp [execOp, go_sem, m0]⟩, fun W => rfl⟩ (Below.refl _ _) ?_
        refine wpAnyHF_takeD (i := 8) 32 (v := .int .i64 k) rfl rfl rfl (by kernel_rfl) (by kernel_rfl) (by kernel_rfl) (fun _ _ _ h => h) ⟨.inl ⟨rfl, fun W hW => by simp [execOp, go_sem]⟩, fun W => rfl⟩ (Below.refl _ _) ?_
        simp only [Act.put, List.setIfInBounds_toArray, List.set_cons_zero, List.set_cons_succ]
        refine wpAnyHF_takeD (i := 9) 33 (v := .pointer (some ⟨b2, o2 + k * 2, none⟩)) rfl rfl rfl (by kernel_rfl) (by kernel_rfl) (by kernel_rfl) (fun _ _ _ h => h) ⟨.inl ⟨rfl, fun W hW => by simp [execOp, go_sem, hlc]⟩, fun W => rfl⟩ (Below.refl _ _) ?_
        refine wpAnyHF_takeD (i := 10) 34 (v := .pointer (some ⟨b2, o2 + k * 2 + 1, none⟩)) rfl rfl rfl (by kernel_rfl) (by kernel_rfl) (by kernel_rfl) (fun _ _ _ h => h) ⟨.inl ⟨rfl, fun W hW => by simp [execOp, go_sem]⟩, fun W => rfl⟩ (Below.refl _ _) ?_
        simp only [Act.put, List.setIfInBounds_toArray, List.set_cons_zero, List.set_cons_succ]
        refine wpAnyHF_takeD (i := 11) 35 (v := .int .i64 c.2) rfl rfl rfl (by kernel_rfl) (by kernel_rfl) (by kernel_rfl) (fun _ _ _ h => h) ⟨.inl ⟨rfl, fun W hW => by have m0 := (hW.cell (show b2 < W1.heap.size by omega)).trans CV.out; simp [execOp, go_sem, m0]⟩, fun W => rfl⟩ (Below.refl _ _) ?_
        refine wpAnyHF_takeD (i := 12) 36 (v := .agg #[.int .i64 a, .int .i64 c.2]) rfl rfl rfl (by kernel_rfl) (by kernel_rfl) (by kernel_rfl) (fun _ _ _ h => h) ⟨.inl ⟨rfl, fun W hW => by simp [execOp, go_sem]⟩, fun W => rfl⟩ (Below.refl _ _) ?_
        simp only [Act.put, List.setIfInBounds_toArray, List.set_cons_zero, List.set_cons_succ]
        refine wpAnyHF_two (i := 1) (j := 13) (by kernel_rfl) rfl rfl rfl rfl ?_ ?_
        · have q6 := C6.out
          refine wpIn_valueD 25 rfl (w' := w5) (v := .slice oa k oc) (by simp [execOp, go_sem, q6]) ⟨Below.refl _ _, ?_⟩
          simp only [Act.put, List.setIfInBounds_toArray, List.set_cons_zero, List.set_cons_succ]
          refine wpAnyHF_one (i := 13) (by kernel_rfl) rfl rfl ?_
          obtain ⟨w6, hw6⟩ : ∃ q, w5.alloc (.cells #[.int .i64 a, .int .i64 c.2] 52) = q := ⟨_, rfl⟩
          have bX : Below w5.heap.size w5 w6 := by rw [← hw6]; exact (Below.refl _ _).alloc (Nat.le_refl _) _
          have hX : w6.heap[w5.heap.size]? = some (.cells #[.int .i64 a, .int .i64 c.2] 52) := by rw [← hw6]; exact World.alloc_heap_new _ _
          refine wpIn_valueD 37 rfl (w' := w6) (v := .slice (some ⟨w5.heap.size, 0, none⟩) 1 1) (by rw [← hw6]; simp [execOp, go_sem]) ⟨bX.mono (by omega), ?_⟩
          simp only [Act.put, List.setIfInBounds_toArray, List.set_cons_zero, List.set_cons_succ]
          clear q6
          have hO6 := HO5.out.below pairGood bX
          have hszX := bX.size
          obtain ⟨v2, w8, hrun2, hO2, hg, _, _⟩ := OSl.append (P := Try.prog) pairGood (by decide) hO6 22 22 (.agg #[.int .i64 0, .int .i64 0]) 16 Try.underlying22 infoC rfl ⟨w5.heap.size, 0, none⟩ 1 [(a, c.2)] [[.int .i64 a, .int .i64 c.2]] (Rows.one ⟨rfl, hin, hi2⟩) (fun j u hj => by rw [addr_add, Nat.zero_add, cell_of hX]; simpa using hj) (by simp [Value.oneCell']) (by rw [mvZ_tk hne (by omega)]; simp [maxLen]; omega) (by rw [mvZ_tk hne (by omega)]; simp; omega) (by omega)
          rw [← mvZ_more HXC.out.1 HXC.out.2] at hO2
          obtain ⟨a8, c8, rfl⟩ := hO2.shape2
          have hl8 : (mvZ (ats.take (k + 1)) (s.cells.take (k + 1))).length = k + 1 := mvZ_tk hne (by omega)
          rw [hl8] at hrun2 hO2
          have bw8 : Below W1.heap.size w5 w8 := (bX.mono (by omega)).grown hg (by omega) (fun k hk => by have := (hO6.lt k hk).1; omega)
          have h68 : w8.heap[W1.heap.size]? = some (.cells #[.slice oa k oc, .int .i64 s.ver] 24) := (hg.block _ (by have := lt_of_some H65.out; omega) (fun e => by have := (hO6.lt _ e.symm).1; omega)).trans ((bX.block _ (lt_of_some H65.out)).trans H65.out)
          refine wpAnyHF_one (i := 14) (by kernel_rfl) rfl rfl ?_
          refine wpIn_valueD 38 rfl (w' := w8) (v := .slice a8 (k + 1) c8) (run_append_op (.tmp 25) (.tmp 37) 22 rfl rfl (v := .slice oa k oc) (xv := .slice (some ⟨w5.heap.size, 0, none⟩) 1 1) (by simp [go_sem]) (by simp [go_sem]) (by have e : (mvZ (ats.take k) (s.cells.take k)).length = k := mvZ_tk hne (by omega); exact hrun2)) ⟨bw8, ?_⟩
          simp only [Act.put, List.setIfInBounds_toArray, List.set_cons_zero, List.set_cons_succ]
          refine wpAnyHF_takeD (i := 15) 39 (v := .pointer (some ⟨W1.heap.size, 0, none⟩)) rfl rfl rfl (by kernel_rfl) (by kernel_rfl) (by kernel_rfl) (fun _ _ _ h => h) ⟨.inl ⟨rfl, fun W hW => by simp [execOp, go_sem]⟩, fun W => rfl⟩ bw8 ?_
          simp only [Act.put, List.setIfInBounds_toArray, List.set_cons_zero, List.set_cons_succ]
          have q8 : w8.cell? ⟨W1.heap.size, 0, none⟩ = some (.slice oa k oc) := cell_of h68
          have f8 : ∀ i, w8.frozen? ⟨W1.heap.size, i, none⟩ = false := fun i => free_of h68
          obtain ⟨w9, hw9⟩ : ∃ z, w8.setCell ⟨W1.heap.size, 0, none⟩ (.slice a8 (k + 1) c8) = z := ⟨_, rfl⟩
          have b9 : Below W1.heap.size w5 w9 := by rw [← hw9]; exact bw8.setCell (p := ⟨W1.heap.size, 0, none⟩) (Nat.le_refl _) _
          have h69 : w9.heap[W1.heap.size]? = some (.cells #[.slice a8 (k + 1) c8, .int .i64 s.ver] 24) := by rw [← hw9]; exact heap_set (i := 0) h68
          have HO9 : Hid (OSl PairE 2 52 W2.heap.size w9 (fun _ => False) (.slice a8 (k + 1) c8) (mvZ (ats.take (k + 1)) (s.cells.take (k + 1)))) := by rw [← hw9]; exact hO2.keep pairGood ((Same.refl _ _).setCell (a := ⟨W1.heap.size, 0, none⟩) _ (fun h => h.elim (fun f => f) (fun e => by have h1 := (hO2.lt _ e.symm).1; simp only at h1; omega)))
          refine wpAnyHF_one (i := 16) (by kernel_rfl) rfl rfl ?_
          refine wpIn_skip rfl (w' := w9) (by rw [← hw9]; simp [execOp, go_sem, q8, f8]) ⟨b9, ?_⟩
          refine wpAnyHF_done (by kernel_rfl) ?_ _
          have H69 := hid h69
          have HB9 := hid (HB5.out.trans b9)
          clear q8 f8 hw9 h69 h68 hrun2 hO2 hg hO6 hX bX bw8 b9 hl8
          gi_wp2
          go_wp2_with fail
          go_roundw
          case rel => exact ⟨k + 1, a8, c8, by omega, by go_num, H69, HO9, HB9⟩
          case measure => simp [intOf]; omega
        · obtain ⟨w6, hw6⟩ : ∃ q, w5.alloc (.cells #[.int .i64 a, .int .i64 c.2] 52) = q := ⟨_, rfl⟩
          have bX : Below w5.heap.size w5 w6 := by rw [← hw6]; exact (Below.refl _ _).alloc (Nat.le_refl _) _
          have hX : w6.heap[w5.heap.size]? = some (.cells #[.int .i64 a, .int .i64 c.2] 52) := by rw [← hw6]; exact World.alloc_heap_new _ _
          refine wpIn_valueD 37 rfl (w' := w6) (v := .slice (some ⟨w5.heap.size, 0, none⟩) 1 1) (by rw [← hw6]; simp [execOp, go_sem]) ⟨bX.mono (by omega), ?_⟩
          simp only [Act.put, List.setIfInBounds_toArray, List.set_cons_zero, List.set_cons_succ]
          refine wpAnyHF_one (i := 1) (by kernel_rfl) rfl rfl ?_
          have q6 : w6.cell? ⟨W1.heap.size, 0, none⟩ = some (.slice oa k oc) := later_cell bX C6.out
          refine wpIn_valueD 25 rfl (w' := w6) (v := .slice oa k oc) (by simp [execOp, go_sem, q6]) ⟨bX.mono (by omega), ?_⟩
          simp only [Act.put, List.setIfInBounds_toArray, List.set_cons_zero, List.set_cons_succ]
          clear q6
          have hO6 := HO5.out.below pairGood bX
          have hszX := bX.size
          obtain ⟨v2, w8, hrun2, hO2, hg, _, _⟩ := OSl.append (P := Try.prog) pairGood (by decide) hO6 22 22 (.agg #[.int .i64 0, .int .i64 0]) 16 Try.underlying22 infoC rfl ⟨w5.heap.size, 0, none⟩ 1 [(a, c.2)] [[.int .i64 a, .int .i64 c.2]] (Rows.one ⟨rfl, hin, hi2⟩) (fun j u hj => by rw [addr_add, Nat.zero_add, cell_of hX]; simpa using hj) (by simp [Value.oneCell']) (by rw [mvZ_tk hne (by omega)]; simp [maxLen]; omega) (by rw [mvZ_tk hne (by omega)]; simp; omega) (by omega)
          rw [← mvZ_more HXC.out.1 HXC.out.2] at hO2
          obtain ⟨a8, c8, rfl⟩ := hO2.shape2
          have hl8 : (mvZ (ats.take (k + 1)) (s.cells.take (k + 1))).length = k + 1 := mvZ_tk hne (by omega)
          rw [hl8] at hrun2 hO2
          have bw8 : Below W1.heap.size w5 w8 := (bX.mono (by omega)).grown hg (by omega) (fun k hk => by have := (hO6.lt k hk).1; omega)
          have h68 : w8.heap[W1.heap.size]? = some (.cells #[.slice oa k oc, .int .i64 s.ver] 24) := (hg.block _ (by have := lt_of_some H65.out; omega) (fun e => by have := (hO6.lt _ e.symm).1; omega)).trans ((bX.block _ (lt_of_some H65.out)).trans H65.out)
          refine wpAnyHF_one (i := 14) (by kernel_rfl) rfl rfl ?_
          refine wpIn_valueD 38 rfl (w' := w8) (v := .slice a8 (k + 1) c8) (run_append_op (.tmp 25) (.tmp 37) 22 rfl rfl (v := .slice oa k oc) (xv := .slice (some ⟨w5.heap.size, 0, none⟩) 1 1) (by simp [go_sem]) (by simp [go_sem]) (by have e : (mvZ (ats.take k) (s.cells.take k)).length = k := mvZ_tk hne (by omega); exact hrun2)) ⟨bw8, ?_⟩
          simp only [Act.put, List.setIfInBounds_toArray, List.set_cons_zero, List.set_cons_succ]
          refine wpAnyHF_takeD (i := 15) 39 (v := .pointer (some ⟨W1.heap.size, 0, none⟩)) rfl rfl rfl (by kernel_rfl) (by kernel_rfl) (by kernel_rfl) (fun _ _ _ h => h) ⟨.inl ⟨rfl, fun W hW => by simp [execOp, go_sem]⟩, fun W => rfl⟩ bw8 ?_
          simp only [Act.put, List.setIfInBounds_toArray, List.set_cons_zero, List.set_cons_succ]
          have q8 : w8.cell? ⟨W1.heap.size, 0, none⟩ = some (.slice oa k oc) := cell_of h68
          have f8 : ∀ i, w8.frozen? ⟨W1.heap.size, i, none⟩ = false := fun i => free_of h68
          obtain ⟨w9, hw9⟩ : ∃ z, w8.setCell ⟨W1.heap.size, 0, none⟩ (.slice a8 (k + 1) c8) = z := ⟨_, rfl⟩
          have b9 : Below W1.heap.size w5 w9 := by rw [← hw9]; exact bw8.setCell (p := ⟨W1.heap.size, 0, none⟩) (Nat.le_refl _) _
          have h69 : w9.heap[W1.heap.size]? = some (.cells #[.slice a8 (k + 1) c8, .int .i64 s.ver] 24) := by rw [← hw9]; exact heap_set (i := 0) h68
          have HO9 : Hid (OSl PairE 2 52 W2.heap.size w9 (fun _ => False) (.slice a8 (k + 1) c8) (mvZ (ats.take (k + 1)) (s.cells.take (k + 1)))) := by rw [← hw9]; exact hO2.keep pairGood ((Same.refl _ _).setCell (a := ⟨W1.heap.size, 0, none⟩) _ (fun h => h.elim (fun f => f) (fun e => by have h1 := (hO2.lt _ e.symm).1; simp only at h1; omega)))
          refine wpAnyHF_one (i := 16) (by kernel_rfl) rfl rfl ?_
          refine wpIn_skip rfl (w' := w9) (by rw [← hw9]; simp [execOp, go_sem, q8, f8]) ⟨b9, ?_⟩
          refine wpAnyHF_done (by kernel_rfl) ?_ _
          have H69 := hid h69
          have HB9 := hid (HB5.out.trans b9)
          clear q8 f8 hw9 h69 h68 hrun2 hO2 hg hO6 hX bX bw8 b9 hl8
          gi_wp2
          go_wp2_with fail
          go_roundw
          case rel => exact ⟨k + 1, a8, c8, by omega, by go_num, H69, HO9, HB9⟩
          case measure => simp [intOf]; omega
      · obtain rfl : k = ats.length := by omega
        have hO := HO.out
        have h2 := (HB1.out.block _ hlt2).trans H2.out
        have c0 : wr.cell? ⟨W1.heap.size, 0, none⟩ = some (.slice oa ats.length oc) := cell_of H6.out
        have c1 : wr.cell? ⟨W1.heap.size, 1, none⟩ = some (.int .i64 s.ver) := cell_of H6.out
        have q0 : wr.cell? ⟨w.heap.size + 1, 0, none⟩ = some (.slice none 0 0) := cell_of h2
        have q1 : wr.cell? ⟨w.heap.size + 1, 1, none⟩ = some (.int .i64 0) := cell_of h2
        have qf : ∀ i, wr.frozen? ⟨w.heap.size + 1, i, none⟩ = false := fun i => free_of h2
        rw [List.take_length, show s.cells.take ats.length = s.cells by rw [hne]; exact List.take_length] at hO
        have HH2 := hid h2
        have HOO := hid hO
        clear h2 hO
        go_wp2_with fail
        obtain ⟨C, hC⟩ : ∃ C, C = mvZ ats s.cells := ⟨_, rfl⟩
        have hCl : s.cells.length = C.length := by rw [hC, mvZ_len hne]
        have hO := HOO.out
        rw [← hC, hne, hCl] at hO
        rw [hCl]
        have F := sput_out (w := w) (s := ⟨C, s.ver⟩) (ok := ok) HH2.out (by omega) K1.out.bel (show SVal wr _ (.agg #[.slice oa C.length oc, .int .i64 s.ver]) ⟨C, s.ver⟩ from ⟨_, _, rfl, HI.out, hO.rsl pairGood _ (fun b _ h => ⟨by omega, .inr (by omega)⟩) (fun _ _ h => h.elim)⟩)
        have t0 := cell_at (i := 0) (v := .slice oa C.length oc) F.1 rfl
        have t1 := cell_at (i := 1) (v := .int .i64 s.ver) F.1 rfl
        exact bodyPost_ret (v := .tuple #[.agg #[.slice oa C.length oc, .int .i64 s.ver], .int .i64 0]) (by simp [results, Try.results17, go_sem, t0, t1]) rfl (MoveP.of (t := ⟨C, s.ver⟩) (by rw [moveS, if_pos hne, ← hC]) F.2.1 F.2.2)
  · have f1 : ((ats.length : Int) != s.cells.length) = true := by simp; omega
    clear c0
    obtain ⟨w1, hw1⟩ : ∃ z, z = W1 := ⟨_, rfl⟩
    subst hw1
    have c0 : w1.cell? ⟨w.heap.size, 0, none⟩ = some (.slice sa s.cells.length sc) := K.out.c0
    have c1 : w1.cell? ⟨w.heap.size, 1, none⟩ = some (.int .i64 s.ver) := K.out.c1
    have q0 : w1.cell? ⟨w.heap.size + 1, 0, none⟩ = some (.slice none 0 0) := cell_of H2.out
    have q1 : w1.cell? ⟨w.heap.size + 1, 1, none⟩ = some (.int .i64 0) := cell_of H2.out
    have qf : ∀ i, w1.frozen? ⟨w.heap.size + 1, i, none⟩ = false := fun i => free_of H2.out
    go_wp2_with fail
    have F := sput_out (w := w) (s := s) (ok := ok) H2.out (by omega) K.out.bel (sback (by omega) HV0.out K.out.bel)
    have t0 := cell_at (i := 0) (v := .slice sa s.cells.length sc) F.1 rfl
    have t1 := cell_at (i := 1) (v := .int .i64 s.ver) F.1 rfl
    exact bodyPost_ret (v := .tuple #[.agg #[.slice sa s.cells.length sc, .int .i64 s.ver], .int .i64 181]) (by simp [results, Try.results17, go_sem, t0, t1]) rfl (MoveP.of (by rw [moveS, if_neg hne]) F.2.1 F.2.2)
end Go.Proofs.Ytplckigmllkpoaa
