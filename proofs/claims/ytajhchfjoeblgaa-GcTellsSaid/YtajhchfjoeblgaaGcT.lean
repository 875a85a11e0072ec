/- The reference of gc: moved. -/
import Derived.Test.YtajhchfjoeblgaaGcR
import Derived.Test.YtajhchfjoeblgaaGcH
namespace Go.Proofs.Ytajhchfjoeblgaa
open Go.RowKit Go.Shelf
attribute [local go_sem] Oper.semAt_some
theorem append_ints {ok : Nat → Prop} {base : Nat} {w : World} {v lv : Value} {xs ys : List Int} (hO : OSl IntE 1 3 base w (fun _ => False) v xs) (hy : ISl w ok lv ys) (hl : xs.length + ys.length ≤ 100000) (hb : base ≤ w.heap.size) :
    ∃ a c w', (Builtin.append_ #[25, 25] 25 #[v, lv]).run Try.prog w = .ok (.slice a (xs.length + ys.length) c) w' ∧ OSl IntE 1 3 base w' (fun _ => False) (.slice a (xs.length + ys.length) c) (xs ++ ys) ∧ Below base w w' := by
  obtain ⟨ao, cap, rfl, l1, l2, l3, _⟩ := hy.open
  cases ao with
  | none =>
    obtain rfl := l3 rfl
    have hz : ys.length = 0 := by omega
    have hy0 : ys = [] := List.length_eq_zero_iff.1 hz
    subst hy0
    obtain ⟨i, hi, hz', hs, hbb⟩ := info_parts info_int
    have hO0 := hO
    obtain ⟨rows, hr, hown⟩ := hO
    have hrun := run_append_owned_none (P := Try.prog) w base 25 25 3 i 1 Try.underlying25 hi v _ _ hown
    obtain ⟨a, c, rfl⟩ := hO0.shape2
    exact ⟨a, c, w, by simpa using hrun, by simpa using hO0, Below.refl _ _⟩
  | some a =>
    have hrow : ∃ rows ad, a = ad ∧ Rows IntE w (fun b => False ∧ some b ≠ v.ownBlock) ys rows ∧ ∀ j u, rows.flatten[j]? = some u → w.cell? (ad.add j) = some u := by
      by_cases hp : 0 < ys.length
      · obtain ⟨b, off, cap, rows, hv, _, hr, hu⟩ := hy.rows intGood hp
        cases hv
        exact ⟨rows, _, rfl, ⟨hr.1, fun i x row hx hr' => hr.2 i x row hx hr'⟩, fun j u hj => by rw [addr_add]; exact hu j u hj⟩
      · have hx : ys = [] := List.length_eq_zero_iff.1 (by omega)
        subst hx
        exact ⟨[], a, rfl, Rows.nil _ _ _, fun j u h => by simp at h⟩
    obtain ⟨rows, ad, rfl, hr, hu⟩ := hrow
    obtain ⟨v', w', hrun, hO', hg, _, _⟩ := OSl.append (P := Try.prog) intGood (by decide) hO 25 25 (.int .i64 0) 8 Try.underlying25 info_int rfl a cap ys rows hr hu (ints_cells hr) (by simp [maxLen]; omega) (by omega) hb
    obtain ⟨a', c', rfl⟩ := hO'.shape2
    rw [List.length_append] at hrun hO'
    exact ⟨a', c', w', hrun, hO', (Below.refl _ _).grown hg hb (fun k hk => (hO.lt k hk).1)⟩
theorem append_int1 {base : Nat} {w : World} {v : Value} {xs : List Int} {z : Int} (hO : OSl IntE 1 3 base w (fun _ => False) v xs) (hz : In z) (hl : xs.length ≤ 10000) (hb : base ≤ w.heap.size) :
    ∃ a c w', (Builtin.append_ #[25, 25] 25 #[v, .slice (some ⟨w.heap.size, 0, none⟩) 1 1]).run Try.prog (w.alloc (.cells #[.int .i64 z] 3)) = .ok (.slice a (xs.length + 1) c) w' ∧ OSl IntE 1 3 base w' (fun _ => False) (.slice a (xs.length + 1) c) (xs ++ [z]) ∧ Below base w w' := by
  have hba := (Below.refl w.heap.size w).alloc (Nat.le_refl _) (.cells #[.int .i64 z] 3)
  obtain ⟨a, c, w', h1, h2, h3⟩ := append_ints (hO.below intGood hba) (isl_new w 3 [z] (fun x hx => by simp at hx; subst hx; exact hz) (by simp)) (by simp; omega) (Nat.le_trans hb hba.size)
  exact ⟨a, c, w', h1, h2, (hba.mono hb).trans h3⟩
def mvd (ns : List Nd) (S old : List Int) : List Int := old.map fun p => plc S (atP ns p)
theorem take_moreI {xs : List Int} {k : Nat} {x : Int} (h : xs[k]? = some x) : xs.take (k + 1) = xs.take k ++ [x] := by
  rw [List.take_add_one, h]; rfl
theorem mvd_more {ns : List Nd} {S old : List Int} {k : Nat} {p : Int} (h : old[k]? = some p) : mvd ns S (old.take (k + 1)) = mvd ns S (old.take k) ++ [plc S (atP ns p)] := by rw [mvd, take_moreI h, List.map_append]; rfl
theorem plc_in {S : List Int} {q : Int} (h : S.length ≤ 1000) : In (plc S q) := by
  unfold plc
  split
  · rename_i hc
    have := pl_lt (List.contains_iff_mem.1 hc)
    exact ⟨by omega, by omega⟩
  · exact ⟨by omega, by omega⟩
def MvdPost (w : World) (ns : List Nd) (S old : List Int) (e : Ending) (w' : World) : Prop := ∃ a c, e = .returned (.slice a old.length c) ∧ ISl w' (fun b => w.heap.size ≤ b) (.slice a old.length c) (mvd ns S old) ∧ Below w.heap.size w w'
set_option maxRecDepth 100000 in
set_option maxHeartbeats 8000000 in
theorem rmoved_any (w : World) (ok ok2 ok3 : Nat → Prop) (v v1 v2 : Value) (h : Hp) (S ps : List Int) (hh : HVal w ok v h) (h1 : ISl w ok2 v1 S) (h2 : ISl w ok3 v2 ps) (hn : h.nodes.length ≤ 1000) (hS : S.length ≤ 1000) (hps : ps.length ≤ 1000) :
    Calls Try.prog 21 #[v, v1, v2] w (MvdPost w h.nodes S ps) := by
  have hh0 := hh
  obtain ⟨sa, sc, rfl, _, hs⟩ := hh
  obtain ⟨_, _, e, l1, _⟩ := hs.shape
  cases e
  obtain ⟨aS, cS, rfl, lS, _⟩ := h1.shape
  obtain ⟨aP, cP, rfl, lP, _⟩ := h2.shape
  obtain ⟨W0, hW0⟩ : ∃ W0, w.alloc (Obj.cells #[.slice sa h.nodes.length sc, .int .i64 h.most] 24) = W0 := ⟨_, rfl⟩
  have hb0 : Below w.heap.size w W0 := by rw [← hW0]; exact (Below.refl _ _).alloc (Nat.le_refl _) _
  have hbox : W0.heap[w.heap.size]? = some (.cells #[.slice sa h.nodes.length sc, .int .i64 h.most] 24) := by rw [← hW0]; exact World.alloc_heap_new _ _
  have HH := hid (And.intro hh0 (And.intro h1 (And.intro h2 (And.intro hb0 hbox))))
  have HW := hid hW0
  have hsz := hb0.size
  clear hh0 hs h1 h2 hb0 hbox hW0
  go_enter Try.func21, Try.ntmps21
  go_upto_region 1 with (fail)
  rw [HW.out]
  clear HW
  go_upto_region 3 with (fail)
  go_loopw [7, 8] (fun u i wr => ∃ (k : Nat) (a : Option Addr) (c : Nat), k ≤ ps.length ∧ i = .int .i64 k ∧ u = .slice a k c ∧ Hid (OSl IntE 1 3 W0.heap.size wr (fun _ => False) (.slice a k c) (mvd h.nodes S (ps.take k))) ∧ Hid (Below W0.heap.size W0 wr)) (fun _ i _ => ps.length - (intOf i).toNat)
  case atStart => exact ⟨0, none, 0, Nat.zero_le _, rfl, rfl, OSl.nil _ _ _ _ _ _, Below.refl _ _⟩
  case round =>
    obtain ⟨k, a, c, hk, rfl, rfl, HO, HR⟩ := hrel
    have hbox := (HR.out.block _ (lt_of_some HH.out.2.2.2.2)).trans HH.out.2.2.2.2
    have bw := HH.out.2.2.2.1.trans (HR.out.mono HH.out.2.2.2.1.size)
    have hsr := HR.out.size
    have K := hid (And.intro hbox bw)
    clear hbox bw
    by_cases hlt : k < ps.length
    · obtain ⟨bP, oP, cP', p, hvP, hp, hpin, eP⟩ := HH.out.2.2.1.at K.out.2 hlt
      cases hvP
      have HP := hid hp
      have EP := hid eP
      have KV : Hid (HVal wr ok (.agg #[.slice sa h.nodes.length sc, .int .i64 h.most]) h) := HH.out.1.below K.out.2
      have C0 : Hid (wr.cell? ⟨w.heap.size, 0, none⟩ = some (.slice sa h.nodes.length sc)) := cell_of K.out.1
      have C1 : Hid (wr.cell? ⟨w.heap.size, 1, none⟩ = some (.int .i64 h.most)) := cell_of K.out.1
      clear hp eP
      go_upto_region 5 with (fail)
      obtain ⟨w5, hw5⟩ : ∃ z, wr.drew = z := ⟨_, rfl⟩
      have BD : Hid (Below wr.heap.size wr w5) := by show Below _ _ _; rw [← hw5]; exact (Below.refl _ _).drew
      have A0 : Hid (w5.cell? ⟨w.heap.size, 0, none⟩ = some (.slice sa h.nodes.length sc)) := by show _ = _; rw [← hw5]; exact C0.out
      have A1 : Hid (w5.cell? ⟨w.heap.size, 1, none⟩ = some (.int .i64 h.most)) := by show _ = _; rw [← hw5]; exact C1.out
      have LC : Hid (w5.cell? ⟨bP, oP + k, none⟩ = some (.int .i64 p)) := by show _ = _; rw [← hw5]; exact EP.out
      have KV5 := hid (KV.out.below BD.out)
      refine (wpIn_wide (n := 9)).1 ?_
      refine wpIn_region_held (fun W => Below w5.heap.size w5 W) (by kernel_rfl) ?_
      rw [hw5]
      clear hw5
      refine wpAnyHF_takeD (i := 0) 19 (v := .agg #[.slice sa h.nodes.length sc, .int .i64 h.most]) rfl rfl rfl (by kernel_rfl) (by kernel_rfl) (by kernel_rfl) (fun _ _ _ h => h) ⟨.inl ⟨rfl, fun W hW => by have m0 := later_cell hW A0.out; have m1 := later_cell hW A1.out; simp [execOp, go_sem, m0, m1]⟩, fun W => rfl⟩ (Below.refl _ _) ?_
      refine wpAnyHF_takeD (i := 1) 20 (v := .slice (some ⟨bP, oP, none⟩) ps.length cP) rfl rfl rfl (by kernel_rfl) (by kernel_rfl) (by kernel_rfl) (fun _ _ _ h => h) ⟨.inl ⟨rfl, fun W hW => by simp [execOp, go_sem]⟩, fun W => rfl⟩ (Below.refl _ _) ?_
      refine wpAnyHF_takeD (i := 2) 21 (v := .int .i64 k) rfl rfl rfl (by kernel_rfl) (by kernel_rfl) (by kernel_rfl) (fun _ _ _ h => h) ⟨.inl ⟨rfl, fun W hW => by simp [execOp, go_sem]⟩, fun W => rfl⟩ (Below.refl _ _) ?_
      simp only [Act.put, List.setIfInBounds_toArray, List.set_cons_zero, List.set_cons_succ]
      refine wpAnyHF_takeD (i := 3) 22 (v := .pointer (some ⟨bP, oP + k, none⟩)) rfl rfl rfl (by kernel_rfl) (by kernel_rfl) (by kernel_rfl) (fun _ _ _ h => h) ⟨.inl ⟨rfl, fun W hW => by simp [execOp, go_sem, hlt]⟩, fun W => rfl⟩ (Below.refl _ _) ?_
      simp only [Act.put, List.setIfInBounds_toArray, List.set_cons_zero, List.set_cons_succ]
      refine wpAnyHF_takeD (i := 4) 23 (v := .int .i64 p) rfl rfl rfl (by kernel_rfl) (by kernel_rfl) (by kernel_rfl) (fun _ _ _ h => h) ⟨.inl ⟨rfl, fun W hW => by have m0 := later_cell hW LC.out; simp [execOp, go_sem, m0]⟩, fun W => rfl⟩ (Below.refl _ _) ?_
      simp only [Act.put, List.setIfInBounds_toArray, List.set_cons_zero, List.set_cons_succ]
      refine wpAnyHF_two (i := 5) (j := 10) (by kernel_rfl) rfl rfl rfl rfl ?_ ?_
      · refine wpIn_callD 24 rfl (P := Try.prog) (f := 31) (args := #[.agg #[.slice sa h.nodes.length sc, .int .i64 h.most], .int .i64 p]) (by simp [execOp, resolve, invoke, go_sem]) ?_
        refine (rat_gen _ _ _ h p (KV5.out.below (Below.refl _ _)) hpin (by omega)).mono ?_
        rintro e wy ⟨nk, nn, nm, na, nl, nc, rfl, by1⟩
        refine ⟨_, rfl, by1, ?_⟩
        simp only [Act.put, List.setIfInBounds_toArray, List.set_cons_zero, List.set_cons_succ]
        refine wpAnyHF_takeD (i := 6) 18 (v := .tuple #[.agg #[.int .i64 nk, .int .i64 nn, .string nm, .slice na nl nc], .int .i64 (atP h.nodes p), .int .i64 (erP h.nodes p)]) rfl rfl rfl (by kernel_rfl) (by kernel_rfl) (by kernel_rfl) (fun _ _ _ h => h) ⟨.inl ⟨rfl, fun W hW => by simp [execOp, go_sem]⟩, fun W => rfl⟩ by1 ?_
        simp only [Act.put, List.setIfInBounds_toArray, List.set_cons_zero, List.set_cons_succ]
        refine wpAnyHF_takeD (i := 7) 25 (v := .agg #[.int .i64 nk, .int .i64 nn, .string nm, .slice na nl nc]) rfl rfl rfl (by kernel_rfl) (by kernel_rfl) (by kernel_rfl) (fun _ _ _ h => h) ⟨.inl ⟨rfl, fun W hW => by simp [execOp, go_sem]⟩, fun W => rfl⟩ by1 ?_
        refine wpAnyHF_takeD (i := 8) 26 (v := .int .i64 (atP h.nodes p)) rfl rfl rfl (by kernel_rfl) (by kernel_rfl) (by kernel_rfl) (fun _ _ _ h => h) ⟨.inl ⟨rfl, fun W hW => by simp [execOp, go_sem]⟩, fun W => rfl⟩ by1 ?_
        simp only [Act.put, List.setIfInBounds_toArray, List.set_cons_zero, List.set_cons_succ]
        refine wpAnyHF_takeD (i := 9) 27 (v := .int .i64 (erP h.nodes p)) rfl rfl rfl (by kernel_rfl) (by kernel_rfl) (by kernel_rfl) (fun _ _ _ h => h) ⟨.inl ⟨rfl, fun W hW => by simp [execOp, go_sem]⟩, fun W => rfl⟩ by1 ?_
        simp only [Act.put, List.setIfInBounds_toArray, List.set_cons_zero, List.set_cons_succ]
        have bz : Below w5.heap.size w5 (wy.alloc (.cells #[.int .i64 0, .int .i64 0, .string ⟨#[]⟩, .slice none 0 0] 37)) := by1.alloc by1.size _
        refine wpAnyHF_one (i := 10) (by kernel_rfl) rfl rfl ?_
        refine wpIn_valueD 9 rfl (w' := wy.alloc (.cells #[.int .i64 0, .int .i64 0, .string ⟨#[]⟩, .slice none 0 0] 37)) (v := .pointer (some ⟨wy.heap.size, 0, none⟩)) (by simp [execOp, go_sem]) ⟨bz, ?_⟩
        simp only [Act.put, List.setIfInBounds_toArray, List.set_cons_zero, List.set_cons_succ]
        have hZ : (wy.alloc (.cells #[.int .i64 0, .int .i64 0, .string ⟨#[]⟩, .slice none 0 0] 37)).heap[wy.heap.size]? = some (.cells #[.int .i64 0, .int .i64 0, .string ⟨#[]⟩, .slice none 0 0] 37) := World.alloc_heap_new _ _
        have hZ5 : w5.heap.size ≤ wy.heap.size := by1.size
        obtain ⟨wz, hwz⟩ : ∃ z, wy.alloc (.cells #[.int .i64 0, .int .i64 0, .string ⟨#[]⟩, .slice none 0 0] 37) = z := ⟨_, rfl⟩
        obtain ⟨Z, hZe⟩ : ∃ z, wy.heap.size = z := ⟨_, rfl⟩
        rw [hwz] at bz hZ ⊢
        rw [hZe] at hZ hZ5 ⊢
        clear hwz hZe by1
        have z0 : wz.cell? ⟨Z, 0, none⟩ = some (.int .i64 0) := cell_of hZ
        have z1 : wz.cell? ⟨Z, 1, none⟩ = some (.int .i64 0) := cell_of hZ
        have z2 : wz.cell? ⟨Z, 2, none⟩ = some (.string ⟨#[]⟩) := cell_of hZ
        have z3 : wz.cell? ⟨Z, 3, none⟩ = some (.slice none 0 0) := cell_of hZ
        have hfz : ∀ i, wz.frozen? ⟨Z, i, none⟩ = false := fun i => free_of hZ
        obtain ⟨wf, hwf⟩ : ∃ z, (((wz.setCell ⟨Z, 0, none⟩ (.int .i64 nk)).setCell ⟨Z, 1, none⟩ (.int .i64 nn)).setCell ⟨Z, 2, none⟩ (.string nm)).setCell ⟨Z, 3, none⟩ (.slice na nl nc) = z := ⟨_, rfl⟩
        have bs : Below w5.heap.size w5 wf := by rw [← hwf]; exact (((bz.setCell hZ5 _).setCell hZ5 _).setCell hZ5 _).setCell hZ5 _
        refine wpAnyHF_one (i := 11) (by kernel_rfl) rfl rfl ?_
        refine wpIn_skip rfl (w' := wf) (by rw [← hwf]; simp [execOp, go_sem, z0, z1, z2, z3, hfz]) ⟨bs, ?_⟩
        refine wpAnyHF_takeD (i := 12) 10 (v := .int .i64 (atP h.nodes p)) rfl rfl rfl (by kernel_rfl) (by kernel_rfl) (by kernel_rfl) (fun _ _ _ h => h) ⟨.inl ⟨rfl, fun W hW => by simp [execOp, go_sem]⟩, fun W => rfl⟩ bs ?_
        refine wpAnyHF_takeD (i := 13) 11 (v := .int .i64 (erP h.nodes p)) rfl rfl rfl (by kernel_rfl) (by kernel_rfl) (by kernel_rfl) (fun _ _ _ h => h) ⟨.inl ⟨rfl, fun W hW => by simp [execOp, go_sem]⟩, fun W => rfl⟩ bs ?_
        simp only [Act.put, List.setIfInBounds_toArray, List.set_cons_zero, List.set_cons_succ]
        refine wpAnyHF_done (by kernel_rfl) ?_ _
        have BS := hid (BD.out.trans (bs.mono BD.out.size))
        clear z0 z1 z2 z3 hfz bs bz hZ hZ5 hwf
        gi_wp2
        have hS0 : ISl wf ok2 (.slice aS S.length cS) S := RSl.below intGood (RSl.below intGood HH.out.2.1 K.out.2) BS.out
        obtain ⟨pq, hpq⟩ : ∃ z, z = plc S (atP h.nodes p) := ⟨_, rfl⟩
        have PL := hid (place_any wf _ (.slice aS S.length cS) S (atP h.nodes p) hS0)
        rw [← hpq] at PL
        have HPQ := hid hpq
        have HPI := hid (show In pq by rw [hpq]; exact plc_in hS)
        clear hS0 hpq
        go_wp2_with fail
        refine PL.out.mono ?_
        rintro e wg ⟨rfl, b8⟩
        clear PL
        have BG := hid (BS.out.trans (b8.mono BS.out.size))
        have hsg := BG.out.size
        have hOg := HO.out.below intGood BG.out
        have hml : (mvd h.nodes S (ps.take k)).length = k := by simp [mvd]; omega
        obtain ⟨na, nc, w9, hrun, hO9, b9⟩ := append_int1 (z := pq) hOg HPI.out (by omega) (by omega)
        rw [hml] at hrun hO9
        rw [HPQ.out, ← mvd_more HP.out] at hO9
        have HR9 := hid hrun
        have HO9 := hid hO9
        have HB9 := hid (HR.out.trans ((BG.out.mono hsr).trans b9))
        clear hrun hO9 b9 hOg b8
        go_wp2_with (at_builtin; refine wpList_append_run rfl _ _ _ rfl _ _ rfl rfl _ _ HR9.out ?_)
        go_roundw
        case rel => exact ⟨k + 1, na, nc, by omega, by go_num, rfl, HO9, HB9⟩
        case measure => simp [intOf]; omega
      · have bx : Below w5.heap.size w5 (w5.alloc (.cells #[.int .i64 0, .int .i64 0, .string ⟨#[]⟩, .slice none 0 0] 37)) := (Below.refl _ _).alloc (Nat.le_refl _) _
        refine wpIn_valueD 9 rfl (w' := w5.alloc (.cells #[.int .i64 0, .int .i64 0, .string ⟨#[]⟩, .slice none 0 0] 37)) (v := .pointer (some ⟨w5.heap.size, 0, none⟩)) (by simp [execOp, go_sem]) ⟨bx, ?_⟩
        simp only [Act.put, List.setIfInBounds_toArray, List.set_cons_zero, List.set_cons_succ]
        refine wpAnyHF_one (i := 5) (by kernel_rfl) rfl rfl ?_
        refine wpIn_callD 24 rfl (P := Try.prog) (f := 31) (args := #[.agg #[.slice sa h.nodes.length sc, .int .i64 h.most], .int .i64 p]) (by simp [execOp, resolve, invoke, go_sem]) ?_
        refine (rat_gen _ _ _ h p (KV5.out.below bx) hpin (by omega)).mono ?_
        rintro e wz ⟨nk, nn, nm, na, nl, nc, rfl, by1⟩
        have bz := bx.trans (by1.mono bx.size)
        refine ⟨_, rfl, bz, ?_⟩
        simp only [Act.put, List.setIfInBounds_toArray, List.set_cons_zero, List.set_cons_succ]
        refine wpAnyHF_takeD (i := 6) 18 (v := .tuple #[.agg #[.int .i64 nk, .int .i64 nn, .string nm, .slice na nl nc], .int .i64 (atP h.nodes p), .int .i64 (erP h.nodes p)]) rfl rfl rfl (by kernel_rfl) (by kernel_rfl) (by kernel_rfl) (fun _ _ _ h => h) ⟨.inl ⟨rfl, fun W hW => by simp [execOp, go_sem]⟩, fun W => rfl⟩ bz ?_
        simp only [Act.put, List.setIfInBounds_toArray, List.set_cons_zero, List.set_cons_succ]
        refine wpAnyHF_takeD (i := 7) 25 (v := .agg #[.int .i64 nk, .int .i64 nn, .string nm, .slice na nl nc]) rfl rfl rfl (by kernel_rfl) (by kernel_rfl) (by kernel_rfl) (fun _ _ _ h => h) ⟨.inl ⟨rfl, fun W hW => by simp [execOp, go_sem]⟩, fun W => rfl⟩ bz ?_
        refine wpAnyHF_takeD (i := 8) 26 (v := .int .i64 (atP h.nodes p)) rfl rfl rfl (by kernel_rfl) (by kernel_rfl) (by kernel_rfl) (fun _ _ _ h => h) ⟨.inl ⟨rfl, fun W hW => by simp [execOp, go_sem]⟩, fun W => rfl⟩ bz ?_
        simp only [Act.put, List.setIfInBounds_toArray, List.set_cons_zero, List.set_cons_succ]
        refine wpAnyHF_takeD (i := 9) 27 (v := .int .i64 (erP h.nodes p)) rfl rfl rfl (by kernel_rfl) (by kernel_rfl) (by kernel_rfl) (fun _ _ _ h => h) ⟨.inl ⟨rfl, fun W hW => by simp [execOp, go_sem]⟩, fun W => rfl⟩ bz ?_
        simp only [Act.put, List.setIfInBounds_toArray, List.set_cons_zero, List.set_cons_succ]
        have hZ : wz.heap[w5.heap.size]? = some (.cells #[.int .i64 0, .int .i64 0, .string ⟨#[]⟩, .slice none 0 0] 37) := (by1.block _ (by simp)).trans (World.alloc_heap_new _ _)
        have hZ5 : w5.heap.size ≤ w5.heap.size := Nat.le_refl _
        clear by1 bx
        have z0 : wz.cell? ⟨w5.heap.size, 0, none⟩ = some (.int .i64 0) := cell_of hZ
        have z1 : wz.cell? ⟨w5.heap.size, 1, none⟩ = some (.int .i64 0) := cell_of hZ
        have z2 : wz.cell? ⟨w5.heap.size, 2, none⟩ = some (.string ⟨#[]⟩) := cell_of hZ
        have z3 : wz.cell? ⟨w5.heap.size, 3, none⟩ = some (.slice none 0 0) := cell_of hZ
        have hfz : ∀ i, wz.frozen? ⟨w5.heap.size, i, none⟩ = false := fun i => free_of hZ
        obtain ⟨wf, hwf⟩ : ∃ z, (((wz.setCell ⟨w5.heap.size, 0, none⟩ (.int .i64 nk)).setCell ⟨w5.heap.size, 1, none⟩ (.int .i64 nn)).setCell ⟨w5.heap.size, 2, none⟩ (.string nm)).setCell ⟨w5.heap.size, 3, none⟩ (.slice na nl nc) = z := ⟨_, rfl⟩
        have bs : Below w5.heap.size w5 wf := by rw [← hwf]; exact (((bz.setCell hZ5 _).setCell hZ5 _).setCell hZ5 _).setCell hZ5 _
        refine wpAnyHF_one (i := 11) (by kernel_rfl) rfl rfl ?_
        refine wpIn_skip rfl (w' := wf) (by rw [← hwf]; simp [execOp, go_sem, z0, z1, z2, z3, hfz]) ⟨bs, ?_⟩
        refine wpAnyHF_takeD (i := 12) 10 (v := .int .i64 (atP h.nodes p)) rfl rfl rfl (by kernel_rfl) (by kernel_rfl) (by kernel_rfl) (fun _ _ _ h => h) ⟨.inl ⟨rfl, fun W hW => by simp [execOp, go_sem]⟩, fun W => rfl⟩ bs ?_
        refine wpAnyHF_takeD (i := 13) 11 (v := .int .i64 (erP h.nodes p)) rfl rfl rfl (by kernel_rfl) (by kernel_rfl) (by kernel_rfl) (fun _ _ _ h => h) ⟨.inl ⟨rfl, fun W hW => by simp [execOp, go_sem]⟩, fun W => rfl⟩ bs ?_
        simp only [Act.put, List.setIfInBounds_toArray, List.set_cons_zero, List.set_cons_succ]
        refine wpAnyHF_done (by kernel_rfl) ?_ _
        have BS := hid (BD.out.trans (bs.mono BD.out.size))
        clear z0 z1 z2 z3 hfz bs bz hZ hZ5 hwf
        gi_wp2
        have hS0 : ISl wf ok2 (.slice aS S.length cS) S := RSl.below intGood (RSl.below intGood HH.out.2.1 K.out.2) BS.out
        obtain ⟨pq, hpq⟩ : ∃ z, z = plc S (atP h.nodes p) := ⟨_, rfl⟩
        have PL := hid (place_any wf _ (.slice aS S.length cS) S (atP h.nodes p) hS0)
        rw [← hpq] at PL
        have HPQ := hid hpq
        have HPI := hid (show In pq by rw [hpq]; exact plc_in hS)
        clear hS0 hpq
        go_wp2_with fail
        refine PL.out.mono ?_
        rintro e wg ⟨rfl, b8⟩
        clear PL
        have BG := hid (BS.out.trans (b8.mono BS.out.size))
        have hsg := BG.out.size
        have hOg := HO.out.below intGood BG.out
        have hml : (mvd h.nodes S (ps.take k)).length = k := by simp [mvd]; omega
        obtain ⟨na, nc, w9, hrun, hO9, b9⟩ := append_int1 (z := pq) hOg HPI.out (by omega) (by omega)
        rw [hml] at hrun hO9
        rw [HPQ.out, ← mvd_more HP.out] at hO9
        have HR9 := hid hrun
        have HO9 := hid hO9
        have HB9 := hid (HR.out.trans ((BG.out.mono hsr).trans b9))
        clear hrun hO9 b9 hOg b8
        go_wp2_with (at_builtin; refine wpList_append_run rfl _ _ _ rfl _ _ rfl rfl _ _ HR9.out ?_)
        go_roundw
        case rel => exact ⟨k + 1, na, nc, by omega, by go_num, rfl, HO9, HB9⟩
        case measure => simp [intOf]; omega
    · obtain rfl : k = ps.length := by omega
      rw [List.take_length] at HO
      go_wp2_with fail
      go_ret
      exact ⟨_, _, rfl, HO.out.rsl intGood _ (fun b _ _ => by omega) (fun _ _ h => h.elim), K.out.2⟩
end Go.Proofs.Ytajhchfjoeblgaa
