/- TlogStacks: the walk. -/
import Derived.Test.YtaajooemocdfgaaTlBx
namespace Go.Proofs.Ytaajooemocdfgaa
open Go.RowKit Go.Shelf Go.Maps
attribute [local go_sem] Oper.semAt_some
theorem isl_more {w w' : World} {v : Value} {xs : List Int} (h : ISl w (fun _ => True) v xs) (b : Below w.heap.size w w') : ISl w' (fun _ => True) v xs := RSl.below intGood h b
set_option maxRecDepth 100000 in
set_option maxHeartbeats 32000000 in
theorem stacks_way (v : Int) (v1 : Value) (w : World) (hv : 0 ≤ v ∧ v ≤ 65535) (h1 : ∃ xs, ISl w (fun _ => True) v1 xs) :
    Calls Try.prog 6 #[.int .u16 v, v1] w (Bb true w) := by
  obtain ⟨xs, hi⟩ := h1
  obtain ⟨sa, sc, rfl, l1, hz⟩ := hi.shape
  have HIw : Hid (ISl w (fun _ => True) (.slice sa xs.length sc) xs) := hi
  have hv0 : In v := by obtain ⟨h1, h2⟩ := hv; constructor <;> omega
  have hvs : In (v + 1) := by obtain ⟨h1, h2⟩ := hv; constructor <;> omega
  have HV := hid (show 0 ≤ v from hv.1)
  have hvw : IntKind.i64.wrap (v + 1) = v + 1 := wrap_in hvs
  have hvz : IntKind.i64.wrap v = v := wrap_in hv0
  clear hi hz hv
  go_enter Try.func6, Try.ntmps6
  go_wp2_with fail
  refine (awake_any w).mono ?_
  rintro e w1 ⟨rfl, b⟩
  have hB1 : Below w.heap.size w w1 := b
  clear b
  have HB : Hid (Below w.heap.size w w1) := hB1
  have HS : Hid (∀ x ∈ ([] : List Nat), x < w1.heap.size) := fun x hx => by simp at hx
  clear hB1
  by_cases h0 : xs.length = 0
  · have f1 : ((xs.length : Int) == 0) = true := by simp [h0]
    go_wp2_with fail
    go_ret
    exact Bb.fin rfl HB.out
  have f1 : ((xs.length : Int) == 0) = false := by rw [beq_eq_false_iff_ne]; omega
  by_cases h60 : 60 < xs.length
  · have f2 : decide ((xs.length : Int) > 60) = true := by simp; omega
    go_wp2_with fail
    go_ret
    exact Bb.fin rfl HB.out
  have f2 : decide ((xs.length : Int) > 60) = false := by simp; omega
  have hn : 0 < xs.length ∧ xs.length ≤ 60 := ⟨by omega, by omega⟩
  have hI := isl_more HIw.out HB.out
  obtain ⟨b1, o1, sc', x0, hsl, hx0, hi0, e0⟩ := ISl.at hI (Below.refl _ _) (k := 0) (by omega)
  cases hsl
  rw [Nat.add_zero] at e0
  have h00 : (0 : Nat) < xs.length := hn.1
  obtain ⟨rp, hrp⟩ : ∃ r, r = putG (⟨[], [[]]⟩ : Lg) v x0 := ⟨_, rfl⟩
  obtain ⟨lp, ep⟩ := rp
  have HRp := hid hrp
  have hkp : putG (⟨[], [[]]⟩ : Lg) v x0 = ((stk v [x0] : Lg), (0 : Int)) := stk_new x0 HV.out
  have hhp := HRp.out.trans hkp
  obtain rfl : ep = 0 := by cases hhp; rfl
  have HLp : Hid (lp = stk v [x0]) := by cases hhp; rfl
  clear hkp hhp HRp
  go_upto_region 4 with (fail)
  clear f1 f2 h60 h0
  go_cut [6, 7] (fun sb se wx => ∃ (Z : Nat) (ra : Option Addr) (rc : Nat) (la : Option Addr) (lc : Nat), sb = .pointer (some ⟨Z, 0, none⟩) ∧ se = .int .i64 0 ∧ w1.heap.size ≤ Z ∧ Hid (BG (nin (Z :: [])) w1 wx Z ra la rc lc lp))
  case first =>
    obtain ⟨w5, hw5⟩ : ∃ z, w1.drew = z := ⟨_, rfl⟩
    have bd : Below w1.heap.size w1 w5 := by rw [← hw5]; exact (Below.refl _ _).drew
    have BD := hid bd
    have LX : Hid (w5.cell? ⟨b1, o1, none⟩ = some (.int .i64 x0)) := later_cell bd e0
    have PC : Hid (∀ (ok : Nat → Prop) (W : World) (na : Option Addr) (nc : Nat), GVal W ok (.agg #[.slice none 0 0, .slice na 1 nc]) (⟨[], [[]]⟩ : Lg) → Calls Try.prog 17 #[.agg #[.slice none 0 0, .slice na 1 nc], .int .i64 v, .int .i64 x0] W (fun e w' => ∃ ra rc la lc, e = .returned (.tuple #[.agg #[.slice ra lp.reads.length rc, .slice la lp.levels.length lc], .int .i64 0]) ∧ GVal w' (fun b => ok b ∨ W.heap.size ≤ b) (.agg #[.slice ra lp.reads.length rc, .slice la lp.levels.length lc]) lp ∧ Below W.heap.size W w')) := fun ok W na nc h => by
      have h := putg_any W ok _ _ v x0 h hv0 hi0 ⟨by decide, by decide, by decide⟩
      rw [← hrp] at h; exact h
    clear bd
    refine (wpIn_wide (n := 9)).1 ?_
    refine wpIn_region_held (fun W => Below w5.heap.size w5 W) (by kernel_rfl) ?_
    rw [hw5]
    clear hw5
    refine wpAnyHF_takeD (i := 1) 36 (v := .int .u16 v) rfl rfl rfl (by kernel_rfl) (by kernel_rfl) (by kernel_rfl) (fun _ _ _ h => h) ⟨.inl ⟨rfl, fun W hW => by simp [execOp, go_sem]⟩, fun W => rfl⟩ (Below.refl _ _) ?_
    refine wpAnyHF_takeD (i := 2) 37 (v := .int .i64 v) rfl rfl rfl (by kernel_rfl) (by kernel_rfl) (by kernel_rfl) (fun _ _ _ h => h) ⟨.inl ⟨rfl, fun W hW => by simp [execOp, go_sem, hvz]⟩, fun W => rfl⟩ (Below.refl _ _) ?_
    refine wpAnyHF_takeD (i := 3) 38 (v := .slice (some ⟨b1, o1, none⟩) xs.length sc) rfl rfl rfl (by kernel_rfl) (by kernel_rfl) (by kernel_rfl) (fun _ _ _ h => h) ⟨.inl ⟨rfl, fun W hW => by simp [execOp, go_sem]⟩, fun W => rfl⟩ (Below.refl _ _) ?_
    simp only [Act.put, List.setIfInBounds_toArray, List.set_cons_zero, List.set_cons_succ]
    refine wpAnyHF_takeD (i := 4) 39 (v := .pointer (some ⟨b1, o1, none⟩)) rfl rfl rfl (by kernel_rfl) (by kernel_rfl) (by kernel_rfl) (fun _ _ _ h => h) ⟨.inl ⟨rfl, fun W hW => by simp [execOp, go_sem, h00]⟩, fun W => rfl⟩ (Below.refl _ _) ?_
    refine wpAnyHF_takeD (i := 5) 40 (v := .int .i64 x0) rfl rfl rfl (by kernel_rfl) (by kernel_rfl) (by kernel_rfl) (fun _ _ _ h => h) ⟨.inl ⟨rfl, fun W hW => by have m0 := later_cell hW LX.out; simp [execOp, go_sem, m0]⟩, fun W => rfl⟩ (Below.refl _ _) ?_
    simp only [Act.put, List.setIfInBounds_toArray, List.set_cons_zero, List.set_cons_succ]
    refine wpAnyHF_two (i := 0) (j := 10) (by kernel_rfl) rfl rfl rfl rfl ?_ ?_
    · refine wpIn_callD 35 rfl (P := Try.prog) (f := 25) (args := #[]) (by simp [execOp, resolve, invoke, go_sem]) ?_
      refine (new_any w5).mono ?_
      rintro e wa ⟨na, nc, rfl, hN, ba⟩
      refine ⟨_, rfl, ba, ?_⟩
      simp only [Act.put, List.setIfInBounds_toArray, List.set_cons_zero, List.set_cons_succ]
      refine wpAnyHF_two (i := 6) (j := 10) (by kernel_rfl) rfl rfl rfl rfl ?_ ?_
      · refine wpIn_callD 41 rfl (P := Try.prog) (f := 17) (args := #[.agg #[.slice none 0 0, .slice na 1 nc], .int .i64 v, .int .i64 x0]) (by simp [execOp, resolve, invoke, go_sem]) ?_
        refine (PC.out (fun b => w5.heap.size ≤ b) wa na nc hN).mono ?_
        rintro e wy ⟨ra, rc, la, lc, rfl, hv, by0⟩
        have by1 := ba.trans (by0.mono ba.size)
        refine ⟨_, rfl, by1, ?_⟩
        simp only [Act.put, List.setIfInBounds_toArray, List.set_cons_zero, List.set_cons_succ]
        refine wpAnyHF_takeD (i := 7) 34 (v := .tuple #[.agg #[.slice ra lp.reads.length rc, .slice la lp.levels.length lc], .int .i64 0]) rfl rfl rfl (by kernel_rfl) (by kernel_rfl) (by kernel_rfl) (fun _ _ _ h => h) ⟨.inl ⟨rfl, fun W hW => by simp [execOp, go_sem]⟩, fun W => rfl⟩ by1 ?_
        refine wpAnyHF_takeD (i := 8) 42 (v := .agg #[.slice ra lp.reads.length rc, .slice la lp.levels.length lc]) rfl rfl rfl (by kernel_rfl) (by kernel_rfl) (by kernel_rfl) (fun _ _ _ h => h) ⟨.inl ⟨rfl, fun W hW => by simp [execOp, go_sem]⟩, fun W => rfl⟩ by1 ?_
        refine wpAnyHF_takeD (i := 9) 43 (v := .int .i64 0) rfl rfl rfl (by kernel_rfl) (by kernel_rfl) (by kernel_rfl) (fun _ _ _ h => h) ⟨.inl ⟨rfl, fun W hW => by simp [execOp, go_sem]⟩, fun W => rfl⟩ by1 ?_
        simp only [Act.put, List.setIfInBounds_toArray, List.set_cons_zero, List.set_cons_succ]
        have bz : Below w5.heap.size w5 (wy.alloc (.cells #[.slice none 0 0, .slice none 0 0] 25)) := by1.alloc by1.size _
        refine wpAnyHF_one (i := 10) (by kernel_rfl) rfl rfl ?_
        refine wpIn_valueD 6 rfl (w' := wy.alloc (.cells #[.slice none 0 0, .slice none 0 0] 25)) (v := .pointer (some ⟨wy.heap.size, 0, none⟩)) (by simp [execOp, go_sem]) ⟨bz, ?_⟩
        simp only [Act.put, List.setIfInBounds_toArray, List.set_cons_zero, List.set_cons_succ]
        have hZ : (wy.alloc (.cells #[.slice none 0 0, .slice none 0 0] 25)).heap[wy.heap.size]? = some (.cells #[.slice none 0 0, .slice none 0 0] 25) := World.alloc_heap_new _ _
        have hZ5 : w5.heap.size ≤ wy.heap.size := by1.size
        replace hv := (hv.weak (ok' := fun b => b < wy.heap.size) (fun b h1 _ => h1)).more ((Below.refl wy.heap.size wy).alloc (Nat.le_refl _) (.cells #[.slice none 0 0, .slice none 0 0] 25))
        clear by1 by0
        obtain ⟨Z, hZe⟩ : ∃ z, wy.heap.size = z := ⟨_, rfl⟩
        obtain ⟨wz, hwz⟩ : ∃ z, wy.alloc (.cells #[.slice none 0 0, .slice none 0 0] 25) = z := ⟨_, rfl⟩
        rw [hwz] at bz hZ hv ⊢
        rw [hZe] at hZ hZ5 hv ⊢
        clear hwz hZe
        have z0 : wz.cell? ⟨Z, 0, none⟩ = some (.slice none 0 0) := cell_of hZ
        have z1 : wz.cell? ⟨Z, 1, none⟩ = some (.slice none 0 0) := cell_of hZ
        have hfz : ∀ i, wz.frozen? ⟨Z, i, none⟩ = false := fun i => free_of hZ
        have bs : Below w5.heap.size w5 ((wz.setCell ⟨Z, 0, none⟩ (.slice ra lp.reads.length rc)).setCell ⟨Z, 1, none⟩ (.slice la lp.levels.length lc)) := (bz.setCell hZ5 _).setCell hZ5 _
        have KF := hid (box_fill (S := []) BD.out bz hZ hZ5 hv (fun b _ h => ⟨Nat.ne_of_lt h, by simp [nin]⟩))
        refine wpAnyHF_one (i := 11) (by kernel_rfl) rfl rfl ?_
        refine wpIn_skip rfl (w' := (wz.setCell ⟨Z, 0, none⟩ (.slice ra lp.reads.length rc)).setCell ⟨Z, 1, none⟩ (.slice la lp.levels.length lc)) (by simp [execOp, go_sem, z0, z1, hfz]) ⟨bs, ?_⟩
        refine wpAnyHF_takeD (i := 12) 7 (v := .int .i64 0) rfl rfl rfl (by kernel_rfl) (by kernel_rfl) (by kernel_rfl) (fun _ _ _ h => h) ⟨.inl ⟨rfl, fun W hW => by simp [execOp, go_sem]⟩, fun W => rfl⟩ bs ?_
        simp only [Act.put, List.setIfInBounds_toArray, List.set_cons_zero, List.set_cons_succ]
        have HZ := hid (Nat.le_trans BD.out.size hZ5)
        refine wpAnyHF_done (by kernel_rfl) ?_ _
        clear z0 z1 hfz bs bz hZ hZ5 hv
        gi_wp2
        go_wp2_with fail
        go_meet
        case rel => exact ⟨_, ra, rc, la, lc, rfl, rfl, HZ.out, KF.out⟩
      · have bz : Below w5.heap.size w5 (wa.alloc (.cells #[.slice none 0 0, .slice none 0 0] 25)) := ba.alloc ba.size _
        refine wpIn_valueD 6 rfl (w' := wa.alloc (.cells #[.slice none 0 0, .slice none 0 0] 25)) (v := .pointer (some ⟨wa.heap.size, 0, none⟩)) (by simp [execOp, go_sem]) ⟨bz, ?_⟩
        simp only [Act.put, List.setIfInBounds_toArray, List.set_cons_zero, List.set_cons_succ]
        refine wpAnyHF_one (i := 6) (by kernel_rfl) rfl rfl ?_
        refine wpIn_callD 41 rfl (P := Try.prog) (f := 17) (args := #[.agg #[.slice none 0 0, .slice na 1 nc], .int .i64 v, .int .i64 x0]) (by simp [execOp, resolve, invoke, go_sem]) ?_
        refine (PC.out (fun b => b < wa.heap.size) _ na nc ((hN.weak (fun b h1 _ => h1)).more ((Below.refl wa.heap.size wa).alloc (Nat.le_refl _) _))).mono ?_
        rintro e wz ⟨ra, rc, la, lc, rfl, hv, by0⟩
        have hZ : wz.heap[wa.heap.size]? = some (.cells #[.slice none 0 0, .slice none 0 0] 25) := (by0.block _ (by simp)).trans (World.alloc_heap_new _ _)
        replace bz := bz.trans (by0.mono bz.size)
        refine ⟨_, rfl, bz, ?_⟩
        simp only [Act.put, List.setIfInBounds_toArray, List.set_cons_zero, List.set_cons_succ]
        refine wpAnyHF_takeD (i := 7) 34 (v := .tuple #[.agg #[.slice ra lp.reads.length rc, .slice la lp.levels.length lc], .int .i64 0]) rfl rfl rfl (by kernel_rfl) (by kernel_rfl) (by kernel_rfl) (fun _ _ _ h => h) ⟨.inl ⟨rfl, fun W hW => by simp [execOp, go_sem]⟩, fun W => rfl⟩ bz ?_
        refine wpAnyHF_takeD (i := 8) 42 (v := .agg #[.slice ra lp.reads.length rc, .slice la lp.levels.length lc]) rfl rfl rfl (by kernel_rfl) (by kernel_rfl) (by kernel_rfl) (fun _ _ _ h => h) ⟨.inl ⟨rfl, fun W hW => by simp [execOp, go_sem]⟩, fun W => rfl⟩ bz ?_
        refine wpAnyHF_takeD (i := 9) 43 (v := .int .i64 0) rfl rfl rfl (by kernel_rfl) (by kernel_rfl) (by kernel_rfl) (fun _ _ _ h => h) ⟨.inl ⟨rfl, fun W hW => by simp [execOp, go_sem]⟩, fun W => rfl⟩ bz ?_
        simp only [Act.put, List.setIfInBounds_toArray, List.set_cons_zero, List.set_cons_succ]
        have hZ5 : w5.heap.size ≤ wa.heap.size := ba.size
        clear by0
        have z0 : wz.cell? ⟨wa.heap.size, 0, none⟩ = some (.slice none 0 0) := cell_of hZ
        have z1 : wz.cell? ⟨wa.heap.size, 1, none⟩ = some (.slice none 0 0) := cell_of hZ
        have hfz : ∀ i, wz.frozen? ⟨wa.heap.size, i, none⟩ = false := fun i => free_of hZ
        have bs : Below w5.heap.size w5 ((wz.setCell ⟨wa.heap.size, 0, none⟩ (.slice ra lp.reads.length rc)).setCell ⟨wa.heap.size, 1, none⟩ (.slice la lp.levels.length lc)) := (bz.setCell hZ5 _).setCell hZ5 _
        have KF := hid (box_fill (S := []) BD.out bz hZ hZ5 hv (fun b _ h => ⟨h.elim (fun h => Nat.ne_of_lt h) (fun h => by simp at h; omega), by simp [nin]⟩))
        refine wpAnyHF_one (i := 11) (by kernel_rfl) rfl rfl ?_
        refine wpIn_skip rfl (w' := (wz.setCell ⟨wa.heap.size, 0, none⟩ (.slice ra lp.reads.length rc)).setCell ⟨wa.heap.size, 1, none⟩ (.slice la lp.levels.length lc)) (by simp [execOp, go_sem, z0, z1, hfz]) ⟨bs, ?_⟩
        refine wpAnyHF_takeD (i := 12) 7 (v := .int .i64 0) rfl rfl rfl (by kernel_rfl) (by kernel_rfl) (by kernel_rfl) (fun _ _ _ h => h) ⟨.inl ⟨rfl, fun W hW => by simp [execOp, go_sem]⟩, fun W => rfl⟩ bs ?_
        simp only [Act.put, List.setIfInBounds_toArray, List.set_cons_zero, List.set_cons_succ]
        have HZ := hid (Nat.le_trans BD.out.size hZ5)
        refine wpAnyHF_done (by kernel_rfl) ?_ _
        clear z0 z1 hfz bs bz hZ hZ5 hv
        gi_wp2
        go_wp2_with fail
        go_meet
        case rel => exact ⟨_, ra, rc, la, lc, rfl, rfl, HZ.out, KF.out⟩
    · have bx : Below w5.heap.size w5 (w5.alloc (.cells #[.slice none 0 0, .slice none 0 0] 25)) := (Below.refl _ _).alloc (Nat.le_refl _) _
      refine wpIn_valueD 6 rfl (w' := w5.alloc (.cells #[.slice none 0 0, .slice none 0 0] 25)) (v := .pointer (some ⟨w5.heap.size, 0, none⟩)) (by simp [execOp, go_sem]) ⟨bx, ?_⟩
      simp only [Act.put, List.setIfInBounds_toArray, List.set_cons_zero, List.set_cons_succ]
      refine wpAnyHF_one (i := 0) (by kernel_rfl) rfl rfl ?_
      refine wpIn_callD 35 rfl (P := Try.prog) (f := 25) (args := #[]) (by simp [execOp, resolve, invoke, go_sem]) ?_
      refine (new_any (w5.alloc (.cells #[.slice none 0 0, .slice none 0 0] 25))).mono ?_
      rintro e wa ⟨na, nc, rfl, hN, ba⟩
      have by0 := bx.trans (ba.mono bx.size)
      refine ⟨_, rfl, by0, ?_⟩
      simp only [Act.put, List.setIfInBounds_toArray, List.set_cons_zero, List.set_cons_succ]
      refine wpAnyHF_one (i := 6) (by kernel_rfl) rfl rfl ?_
      refine wpIn_callD 41 rfl (P := Try.prog) (f := 17) (args := #[.agg #[.slice none 0 0, .slice na 1 nc], .int .i64 v, .int .i64 x0]) (by simp [execOp, resolve, invoke, go_sem]) ?_
      refine (PC.out _ wa na nc hN).mono ?_
      rintro e wz ⟨ra, rc, la, lc, rfl, hv, by1⟩
      have hZ : wz.heap[w5.heap.size]? = some (.cells #[.slice none 0 0, .slice none 0 0] 25) := (by1.block _ (Nat.lt_of_lt_of_le (by simp) ba.size)).trans ((ba.block _ (by simp)).trans (World.alloc_heap_new _ _))
      have hsz := ba.size
      have bz := by0.trans (by1.mono by0.size)
      refine ⟨_, rfl, bz, ?_⟩
      simp only [Act.put, List.setIfInBounds_toArray, List.set_cons_zero, List.set_cons_succ]
      refine wpAnyHF_takeD (i := 7) 34 (v := .tuple #[.agg #[.slice ra lp.reads.length rc, .slice la lp.levels.length lc], .int .i64 0]) rfl rfl rfl (by kernel_rfl) (by kernel_rfl) (by kernel_rfl) (fun _ _ _ h => h) ⟨.inl ⟨rfl, fun W hW => by simp [execOp, go_sem]⟩, fun W => rfl⟩ bz ?_
      refine wpAnyHF_takeD (i := 8) 42 (v := .agg #[.slice ra lp.reads.length rc, .slice la lp.levels.length lc]) rfl rfl rfl (by kernel_rfl) (by kernel_rfl) (by kernel_rfl) (fun _ _ _ h => h) ⟨.inl ⟨rfl, fun W hW => by simp [execOp, go_sem]⟩, fun W => rfl⟩ bz ?_
      refine wpAnyHF_takeD (i := 9) 43 (v := .int .i64 0) rfl rfl rfl (by kernel_rfl) (by kernel_rfl) (by kernel_rfl) (fun _ _ _ h => h) ⟨.inl ⟨rfl, fun W hW => by simp [execOp, go_sem]⟩, fun W => rfl⟩ bz ?_
      simp only [Act.put, List.setIfInBounds_toArray, List.set_cons_zero, List.set_cons_succ]
      have hZ5 : w5.heap.size ≤ w5.heap.size := Nat.le_refl _
      clear by0 bx by1 ba
      have z0 : wz.cell? ⟨w5.heap.size, 0, none⟩ = some (.slice none 0 0) := cell_of hZ
      have z1 : wz.cell? ⟨w5.heap.size, 1, none⟩ = some (.slice none 0 0) := cell_of hZ
      have hfz : ∀ i, wz.frozen? ⟨w5.heap.size, i, none⟩ = false := fun i => free_of hZ
      have bs : Below w5.heap.size w5 ((wz.setCell ⟨w5.heap.size, 0, none⟩ (.slice ra lp.reads.length rc)).setCell ⟨w5.heap.size, 1, none⟩ (.slice la lp.levels.length lc)) := (bz.setCell hZ5 _).setCell hZ5 _
      have KF := hid (box_fill (S := []) BD.out bz hZ hZ5 hv (fun b _ h => ⟨by simp at hsz; exact h.elim (fun h => by simp at h; omega) (fun h => by omega), by simp [nin]⟩))
      refine wpAnyHF_one (i := 11) (by kernel_rfl) rfl rfl ?_
      refine wpIn_skip rfl (w' := (wz.setCell ⟨w5.heap.size, 0, none⟩ (.slice ra lp.reads.length rc)).setCell ⟨w5.heap.size, 1, none⟩ (.slice la lp.levels.length lc)) (by simp [execOp, go_sem, z0, z1, hfz]) ⟨bs, ?_⟩
      refine wpAnyHF_takeD (i := 12) 7 (v := .int .i64 0) rfl rfl rfl (by kernel_rfl) (by kernel_rfl) (by kernel_rfl) (fun _ _ _ h => h) ⟨.inl ⟨rfl, fun W hW => by simp [execOp, go_sem]⟩, fun W => rfl⟩ bs ?_
      simp only [Act.put, List.setIfInBounds_toArray, List.set_cons_zero, List.set_cons_succ]
      have HZ := hid (Nat.le_trans BD.out.size hZ5)
      refine wpAnyHF_done (by kernel_rfl) ?_ _
      clear z0 z1 hfz bs bz hZ hZ5 hv
      gi_wp2
      go_wp2_with fail
      go_meet
      case rel => exact ⟨_, ra, rc, la, lc, rfl, rfl, HZ.out, KF.out⟩
  case rest =>
    obtain ⟨Bp, rap, rcp, lap, lcp, rfl, rfl, hZ, KB⟩ := hcut
    obtain ⟨w11, hw6⟩ : ∃ z, z = wc := ⟨_, rfl⟩
    subst hw6
    have hBwp : w.heap.size ≤ Bp := Nat.le_trans HB.out.size hZ
    have b := KB.out.bel
    have Kp := hid (KB.out.back HB.out)
    replace HS : Hid (∀ x ∈ (Bp :: [] : List Nat), x < w11.heap.size) := fun x hx => by
      rcases List.mem_cons.1 hx with rfl | h1
      · exact KB.out.lt
      · exact Nat.lt_of_lt_of_le (HS.out x h1) b.size
    replace HB : Hid (Below w.heap.size w w11) := HB.out.trans (b.mono HB.out.size)
    clear KB b hZ hrp
    have hx0' := hx0
    clear e0 hx0 hI
    have HX0 : Hid (lp = stk v (xs.take 1)) := by
      show lp = _
      rw [HLp.out, take_more hx0', List.take_zero]; rfl
    clear HLp
    go_wp2_with fail
    go_loopw [8] (fun i wr => ∃ (k : Nat) (l : Lg) (ra : Option Addr) (rc : Nat) (la : Option Addr) (lc : Nat), 1 ≤ k ∧ k ≤ xs.length ∧ i = .int .i64 k ∧ Hid (l = stk v (xs.take k)) ∧ Hid (BG (nin [Bp]) w wr Bp ra la rc lc l)) (fun i _ => xs.length - (intOf i).toNat)
    case atStart => exact ⟨1, lp, rap, rcp, lap, lcp, Nat.le_refl _, hn.1, rfl, HX0, Kp⟩
    case round =>
      obtain ⟨k, ll, ral, rcl, lal, lcl, hk1, hk, rfl, HLl, Kl⟩ := hrel
      clear Kp HB HS HX0
      obtain ⟨wo, rfl⟩ : ∃ wo : World, wo = wr := ⟨_, rfl⟩
      have HB : Hid (Below w.heap.size w wo) := Kl.out.bel
      have HS : Hid (∀ x ∈ ([Bp] : List Nat), x < wo.heap.size) := fun x hx => by simp at hx; subst hx; exact Kl.out.lt
      by_cases hlt : k < xs.length
      · -- a round
        obtain ⟨rm, hrm⟩ : ∃ r, r = pushG ll := ⟨_, rfl⟩
        obtain ⟨lm, em⟩ := rm
        have HRm := hid hrm
        have hkm : pushG ll = ((⟨[], (xs.take k).map (fun a => [(v, a)]) ++ [[]]⟩ : Lg), (0 : Int)) := by rw [HLl.out]; exact stk_push HV.out (by simp; omega)
        have hhm := HRm.out.trans hkm
        obtain rfl : em = 0 := by cases hhm; rfl
        have HLm : Hid (lm = ⟨[], (xs.take k).map (fun a => [(v, a)]) ++ [[]]⟩) := by cases hhm; rfl
        clear hkm hhm HRm
        have cl0 : wo.cell? ⟨Bp, 0, none⟩ = some (.slice ral ll.reads.length rcl) := Kl.out.c0
        have cl1 : wo.cell? ⟨Bp, 1, none⟩ = some (.slice lal ll.levels.length lcl) := Kl.out.c1
        have P := hid (push_any wo _ (.agg #[.slice ral ll.reads.length rcl, .slice lal ll.levels.length lcl]) ll Kl.out.val  (by rw [HLl.out]; exact (stk_okl (n := 60) (by simp; omega) (by decide)).mono (by decide)))
        rw [← hrm] at P
        clear hrm
        go_wp2_with fail
        refine P.out.mono ?_
        rintro e w12 ⟨ram, rcm, lam, lcm, rfl, hv, b⟩
        clear P
        clear cl0 cl1
        have hvm : GVal w12 (nin [Bp]) (.agg #[.slice ram lm.reads.length rcm, .slice lam lm.levels.length lcm]) lm := GVal.weak hv (fun b _ h => nin_res HS.out h)
        clear hv
        replace Kl := hid (Kl.out.more b)
        replace HB : Hid (Below w.heap.size w _) := HB.out.trans (b.mono HB.out.size)
        replace HS : Hid (∀ x ∈ ([Bp] : List Nat), x < _) := fun x hx => Nat.lt_of_lt_of_le (HS.out x hx) b.size
        clear b
        go_upto_region 9 with (fail)
        have hnelm := Kl.out.lt
        have Km : Hid (BG (nin [Bp]) w (w12.alloc (.cells #[.slice ram lm.reads.length rcm, .slice lam lm.levels.length lcm] 25)) w12.heap.size ram lam rcm lcm lm) := hid ((BG.new (nb := (nin [Bp])) (l := lm) HB.out hvm).weak (nb' := (nin [Bp])) (fun b _ h => h.2))
        have bb := (Below.refl w12.heap.size w12).alloc (Nat.le_refl _) (.cells #[.slice ram lm.reads.length rcm, .slice lam lm.levels.length lcm] 25)
        have hBwm := HB.out.size
        obtain ⟨w13, hw⟩ : ∃ z, w12.alloc (.cells #[.slice ram lm.reads.length rcm, .slice lam lm.levels.length lcm] 25) = z := ⟨_, rfl⟩
        rw [hw] at bb ⊢
        rw [hw] at Km
        obtain ⟨Bm, hBm⟩ : ∃ z, w12.heap.size = z := ⟨_, rfl⟩
        rw [hBm] at Km hBwm ⊢
        rw [hBm] at hnelm
        replace hnelm : Bp ≠ Bm := Nat.ne_of_lt hnelm
        replace Kl := hid (Kl.out.more bb)
        replace HB : Hid (Below w.heap.size w w13) := HB.out.trans (bb.mono HB.out.size)
        replace HS : Hid (∀ x ∈ ([Bp] : List Nat), x < w13.heap.size) := fun x hx => Nat.lt_of_lt_of_le (HS.out x hx) bb.size
        clear bb hw hvm hBm
        have hI := isl_more HIw.out HB.out
        obtain ⟨b2, o2, sc2, xk, hsl, hxk, hik, e1⟩ := ISl.at hI (Below.refl _ _) (k := k) hlt
        cases hsl
        obtain ⟨rn, hrn⟩ : ∃ r, r = putG lm v xk := ⟨_, rfl⟩
        obtain ⟨ln, en⟩ := rn
        have HRn := hid hrn
        have hkn : putG lm v xk = ((stk v (xs.take (k + 1)) : Lg), (0 : Int)) := by rw [HLm.out, take_more hxk]; exact stk_put xk HV.out (by simp; omega)
        have hhn := HRn.out.trans hkn
        obtain rfl : en = 0 := by cases hhn; rfl
        have HLn : Hid (ln = stk v (xs.take (k + 1))) := by cases hhn; rfl
        clear hkn hhn HRn
        go_upto_region 9 with (fail)
        go_cut [11, 12] (fun sb se wx => ∃ (Z : Nat) (ra : Option Addr) (rc : Nat) (la : Option Addr) (lc : Nat), sb = .pointer (some ⟨Z, 0, none⟩) ∧ se = .int .i64 (0) ∧ w13.heap.size ≤ Z ∧ Hid (BG (nin (Z :: [Bp])) w13 wx Z ra la rc lc ln))
        case first =>
          obtain ⟨w5, hw5⟩ : ∃ z, w13.drew = z := ⟨_, rfl⟩
          have bd : Below w13.heap.size w13 w5 := by rw [← hw5]; exact (Below.refl _ _).drew
          have BD := hid bd
          have KV := hid (Km.out.val.more bd)
          have C0 : Hid (w5.cell? ⟨Bm, 0, none⟩ = some (.slice ram lm.reads.length rcm)) := (Km.out.more bd).c0
          have C1 : Hid (w5.cell? ⟨Bm, 1, none⟩ = some (.slice lam lm.levels.length lcm)) := (Km.out.more bd).c1
          have HS5 : Hid (∀ x ∈ ([Bp] : List Nat), x < w5.heap.size) := fun x hx => Nat.lt_of_lt_of_le (HS.out x hx) bd.size
          have LX : Hid (w5.cell? ⟨b1, o1 + k, none⟩ = some (.int .i64 xk)) := later_cell bd e1
          have PC : Hid (∀ (ok : Nat → Prop) (W : World), GVal W ok (.agg #[.slice ram lm.reads.length rcm, .slice lam lm.levels.length lcm]) lm → Calls Try.prog 17 #[.agg #[.slice ram lm.reads.length rcm, .slice lam lm.levels.length lcm], .int .i64 v, .int .i64 xk] W (fun e w' => ∃ ra rc la lc, e = .returned (.tuple #[.agg #[.slice ra ln.reads.length rc, .slice la ln.levels.length lc], .int .i64 (0)]) ∧ GVal w' (fun b => ok b ∨ W.heap.size ≤ b) (.agg #[.slice ra ln.reads.length rc, .slice la ln.levels.length lc]) ln ∧ Below W.heap.size W w')) := fun ok W h => by
            have h := putg_any W ok _ _ v xk h hv0 hik (by rw [HLm.out]; exact (stk_okl2 (n := 61) (by simp; omega)).mono (by decide))
            rw [← hrn] at h; exact h
          clear bd
          refine (wpIn_wide (n := 9)).1 ?_
          refine wpIn_region_held (fun W => Below w5.heap.size w5 W) (by kernel_rfl) ?_
          rw [hw5]
          clear hw5
          refine wpAnyHF_takeD (i := 0) 56 (v := .agg #[.slice ram lm.reads.length rcm, .slice lam lm.levels.length lcm]) rfl rfl rfl (by kernel_rfl) (by kernel_rfl) (by kernel_rfl) (fun _ _ _ h => h) ⟨.inl ⟨rfl, fun W hW => by have m0 := later_cell hW C0.out; have m1 := later_cell hW C1.out; simp [execOp, go_sem, m0, m1]⟩, fun W => rfl⟩ (Below.refl _ _) ?_
          refine wpAnyHF_takeD (i := 1) 57 (v := .int .u16 v) rfl rfl rfl (by kernel_rfl) (by kernel_rfl) (by kernel_rfl) (fun _ _ _ h => h) ⟨.inl ⟨rfl, fun W hW => by simp [execOp, go_sem]⟩, fun W => rfl⟩ (Below.refl _ _) ?_
          refine wpAnyHF_takeD (i := 2) 58 (v := .int .i64 v) rfl rfl rfl (by kernel_rfl) (by kernel_rfl) (by kernel_rfl) (fun _ _ _ h => h) ⟨.inl ⟨rfl, fun W hW => by simp [execOp, go_sem, hvz]⟩, fun W => rfl⟩ (Below.refl _ _) ?_
          simp only [Act.put, List.setIfInBounds_toArray, List.set_cons_zero, List.set_cons_succ]
          refine wpAnyHF_takeD (i := 3) 59 (v := .slice (some ⟨b1, o1, none⟩) xs.length sc) rfl rfl rfl (by kernel_rfl) (by kernel_rfl) (by kernel_rfl) (fun _ _ _ h => h) ⟨.inl ⟨rfl, fun W hW => by simp [execOp, go_sem]⟩, fun W => rfl⟩ (Below.refl _ _) ?_
          refine wpAnyHF_takeD (i := 4) 60 (v := .int .i64 k) rfl rfl rfl (by kernel_rfl) (by kernel_rfl) (by kernel_rfl) (fun _ _ _ h => h) ⟨.inl ⟨rfl, fun W hW => by simp [execOp, go_sem]⟩, fun W => rfl⟩ (Below.refl _ _) ?_
          refine wpAnyHF_takeD (i := 5) 61 (v := .pointer (some ⟨b1, o1 + k, none⟩)) rfl rfl rfl (by kernel_rfl) (by kernel_rfl) (by kernel_rfl) (fun _ _ _ h => h) ⟨.inl ⟨rfl, fun W hW => by simp [execOp, go_sem, hlt]⟩, fun W => rfl⟩ (Below.refl _ _) ?_
          simp only [Act.put, List.setIfInBounds_toArray, List.set_cons_zero, List.set_cons_succ]
          refine wpAnyHF_takeD (i := 6) 62 (v := .int .i64 xk) rfl rfl rfl (by kernel_rfl) (by kernel_rfl) (by kernel_rfl) (fun _ _ _ h => h) ⟨.inl ⟨rfl, fun W hW => by have m0 := later_cell hW LX.out; simp [execOp, go_sem, m0]⟩, fun W => rfl⟩ (Below.refl _ _) ?_
          simp only [Act.put, List.setIfInBounds_toArray, List.set_cons_zero, List.set_cons_succ]
          refine wpAnyHF_two (i := 7) (j := 11) (by kernel_rfl) rfl rfl rfl rfl ?_ ?_
          · refine wpIn_callD 63 rfl (P := Try.prog) (f := 17) (args := #[.agg #[.slice ram lm.reads.length rcm, .slice lam lm.levels.length lcm], .int .i64 v, .int .i64 xk]) (by simp [execOp, resolve, invoke, go_sem]) ?_
            refine (PC.out (nin [Bp]) w5 KV.out).mono ?_
            rintro e wy ⟨ra, rc, la, lc, rfl, hv, by1⟩
            refine ⟨_, rfl, by1, ?_⟩
            simp only [Act.put, List.setIfInBounds_toArray, List.set_cons_zero, List.set_cons_succ]
            refine wpAnyHF_takeD (i := 8) 55 (v := .tuple #[.agg #[.slice ra ln.reads.length rc, .slice la ln.levels.length lc], .int .i64 (0)]) rfl rfl rfl (by kernel_rfl) (by kernel_rfl) (by kernel_rfl) (fun _ _ _ h => h) ⟨.inl ⟨rfl, fun W hW => by simp [execOp, go_sem]⟩, fun W => rfl⟩ by1 ?_
            refine wpAnyHF_takeD (i := 9) 64 (v := .agg #[.slice ra ln.reads.length rc, .slice la ln.levels.length lc]) rfl rfl rfl (by kernel_rfl) (by kernel_rfl) (by kernel_rfl) (fun _ _ _ h => h) ⟨.inl ⟨rfl, fun W hW => by simp [execOp, go_sem]⟩, fun W => rfl⟩ by1 ?_
            refine wpAnyHF_takeD (i := 10) 65 (v := .int .i64 (0)) rfl rfl rfl (by kernel_rfl) (by kernel_rfl) (by kernel_rfl) (fun _ _ _ h => h) ⟨.inl ⟨rfl, fun W hW => by simp [execOp, go_sem]⟩, fun W => rfl⟩ by1 ?_
            simp only [Act.put, List.setIfInBounds_toArray, List.set_cons_zero, List.set_cons_succ]
            have bz : Below w5.heap.size w5 (wy.alloc (.cells #[.slice none 0 0, .slice none 0 0] 25)) := by1.alloc by1.size _
            refine wpAnyHF_one (i := 11) (by kernel_rfl) rfl rfl ?_
            refine wpIn_valueD 11 rfl (w' := wy.alloc (.cells #[.slice none 0 0, .slice none 0 0] 25)) (v := .pointer (some ⟨wy.heap.size, 0, none⟩)) (by simp [execOp, go_sem]) ⟨bz, ?_⟩
            simp only [Act.put, List.setIfInBounds_toArray, List.set_cons_zero, List.set_cons_succ]
            have hZ : (wy.alloc (.cells #[.slice none 0 0, .slice none 0 0] 25)).heap[wy.heap.size]? = some (.cells #[.slice none 0 0, .slice none 0 0] 25) := World.alloc_heap_new _ _
            have hZ5 : w5.heap.size ≤ wy.heap.size := by1.size
            replace hv := fill_ok1 (o := (.cells #[.slice none 0 0, .slice none 0 0] 25)) HS5.out hv
            clear by1
            obtain ⟨Z, hZe⟩ : ∃ z, wy.heap.size = z := ⟨_, rfl⟩
            obtain ⟨wz, hwz⟩ : ∃ z, wy.alloc (.cells #[.slice none 0 0, .slice none 0 0] 25) = z := ⟨_, rfl⟩
            rw [hwz] at bz hZ hv ⊢
            rw [hZe] at hZ hZ5 hv ⊢
            clear hwz hZe
            have z0 : wz.cell? ⟨Z, 0, none⟩ = some (.slice none 0 0) := cell_of hZ
            have z1 : wz.cell? ⟨Z, 1, none⟩ = some (.slice none 0 0) := cell_of hZ
            have hfz : ∀ i, wz.frozen? ⟨Z, i, none⟩ = false := fun i => free_of hZ
            have bs : Below w5.heap.size w5 ((wz.setCell ⟨Z, 0, none⟩ (.slice ra ln.reads.length rc)).setCell ⟨Z, 1, none⟩ (.slice la ln.levels.length lc)) := (bz.setCell hZ5 _).setCell hZ5 _
            have KF := hid (box_fill (S := [Bp]) BD.out bz hZ hZ5 hv (fun b _ h => ⟨Nat.ne_of_lt h.1, h.2⟩))
            refine wpAnyHF_one (i := 12) (by kernel_rfl) rfl rfl ?_
            refine wpIn_skip rfl (w' := (wz.setCell ⟨Z, 0, none⟩ (.slice ra ln.reads.length rc)).setCell ⟨Z, 1, none⟩ (.slice la ln.levels.length lc)) (by simp [execOp, go_sem, z0, z1, hfz]) ⟨bs, ?_⟩
            refine wpAnyHF_takeD (i := 13) 12 (v := .int .i64 (0)) rfl rfl rfl (by kernel_rfl) (by kernel_rfl) (by kernel_rfl) (fun _ _ _ h => h) ⟨.inl ⟨rfl, fun W hW => by simp [execOp, go_sem]⟩, fun W => rfl⟩ bs ?_
            simp only [Act.put, List.setIfInBounds_toArray, List.set_cons_zero, List.set_cons_succ]
            have HZ := hid (Nat.le_trans BD.out.size hZ5)
            refine wpAnyHF_done (by kernel_rfl) ?_ _
            clear z0 z1 hfz bs bz hZ hZ5 hv
            gi_wp2
            go_wp2_with fail
            go_meet
            case rel => exact ⟨_, ra, rc, la, lc, rfl, rfl, HZ.out, KF.out⟩
          · have bx : Below w5.heap.size w5 (w5.alloc (.cells #[.slice none 0 0, .slice none 0 0] 25)) := (Below.refl _ _).alloc (Nat.le_refl _) _
            refine wpIn_valueD 11 rfl (w' := w5.alloc (.cells #[.slice none 0 0, .slice none 0 0] 25)) (v := .pointer (some ⟨w5.heap.size, 0, none⟩)) (by simp [execOp, go_sem]) ⟨bx, ?_⟩
            simp only [Act.put, List.setIfInBounds_toArray, List.set_cons_zero, List.set_cons_succ]
            refine wpAnyHF_one (i := 7) (by kernel_rfl) rfl rfl ?_
            refine wpIn_callD 63 rfl (P := Try.prog) (f := 17) (args := #[.agg #[.slice ram lm.reads.length rcm, .slice lam lm.levels.length lcm], .int .i64 v, .int .i64 xk]) (by simp [execOp, resolve, invoke, go_sem]) ?_
            refine (PC.out (fun b => b < w5.heap.size ∧ nin [Bp] b) _ ((KV.out.weak (fun b h1 h2 => ⟨h1, h2⟩)).more bx)).mono ?_
            rintro e wz ⟨ra, rc, la, lc, rfl, hv, by1⟩
            have bz := bx.trans (by1.mono bx.size)
            refine ⟨_, rfl, bz, ?_⟩
            simp only [Act.put, List.setIfInBounds_toArray, List.set_cons_zero, List.set_cons_succ]
            refine wpAnyHF_takeD (i := 8) 55 (v := .tuple #[.agg #[.slice ra ln.reads.length rc, .slice la ln.levels.length lc], .int .i64 (0)]) rfl rfl rfl (by kernel_rfl) (by kernel_rfl) (by kernel_rfl) (fun _ _ _ h => h) ⟨.inl ⟨rfl, fun W hW => by simp [execOp, go_sem]⟩, fun W => rfl⟩ bz ?_
            refine wpAnyHF_takeD (i := 9) 64 (v := .agg #[.slice ra ln.reads.length rc, .slice la ln.levels.length lc]) rfl rfl rfl (by kernel_rfl) (by kernel_rfl) (by kernel_rfl) (fun _ _ _ h => h) ⟨.inl ⟨rfl, fun W hW => by simp [execOp, go_sem]⟩, fun W => rfl⟩ bz ?_
            refine wpAnyHF_takeD (i := 10) 65 (v := .int .i64 (0)) rfl rfl rfl (by kernel_rfl) (by kernel_rfl) (by kernel_rfl) (fun _ _ _ h => h) ⟨.inl ⟨rfl, fun W hW => by simp [execOp, go_sem]⟩, fun W => rfl⟩ bz ?_
            simp only [Act.put, List.setIfInBounds_toArray, List.set_cons_zero, List.set_cons_succ]
            have hZ : wz.heap[w5.heap.size]? = some (.cells #[.slice none 0 0, .slice none 0 0] 25) := (by1.block _ (by simp)).trans (World.alloc_heap_new _ _)
            have hZ5 : w5.heap.size ≤ w5.heap.size := Nat.le_refl _
            clear by1 bx
            have z0 : wz.cell? ⟨w5.heap.size, 0, none⟩ = some (.slice none 0 0) := cell_of hZ
            have z1 : wz.cell? ⟨w5.heap.size, 1, none⟩ = some (.slice none 0 0) := cell_of hZ
            have hfz : ∀ i, wz.frozen? ⟨w5.heap.size, i, none⟩ = false := fun i => free_of hZ
            have bs : Below w5.heap.size w5 ((wz.setCell ⟨w5.heap.size, 0, none⟩ (.slice ra ln.reads.length rc)).setCell ⟨w5.heap.size, 1, none⟩ (.slice la ln.levels.length lc)) := (bz.setCell hZ5 _).setCell hZ5 _
            have KF := hid (box_fill (S := [Bp]) BD.out bz hZ hZ5 hv (fun b _ h => fill_ok2 (ok := fun b => b < w5.heap.size ∧ nin [Bp] b) (n := (w5.alloc (.cells #[.slice none 0 0, .slice none 0 0] 25)).heap.size) HS5.out (by simp) (fun h => h) h))
            refine wpAnyHF_one (i := 12) (by kernel_rfl) rfl rfl ?_
            refine wpIn_skip rfl (w' := (wz.setCell ⟨w5.heap.size, 0, none⟩ (.slice ra ln.reads.length rc)).setCell ⟨w5.heap.size, 1, none⟩ (.slice la ln.levels.length lc)) (by simp [execOp, go_sem, z0, z1, hfz]) ⟨bs, ?_⟩
            refine wpAnyHF_takeD (i := 13) 12 (v := .int .i64 (0)) rfl rfl rfl (by kernel_rfl) (by kernel_rfl) (by kernel_rfl) (fun _ _ _ h => h) ⟨.inl ⟨rfl, fun W hW => by simp [execOp, go_sem]⟩, fun W => rfl⟩ bs ?_
            simp only [Act.put, List.setIfInBounds_toArray, List.set_cons_zero, List.set_cons_succ]
            have HZ := hid (Nat.le_trans BD.out.size hZ5)
            refine wpAnyHF_done (by kernel_rfl) ?_ _
            clear z0 z1 hfz bs bz hZ hZ5 hv
            gi_wp2
            go_wp2_with fail
            go_meet
            case rel => exact ⟨_, ra, rc, la, lc, rfl, rfl, HZ.out, KF.out⟩
        case rest =>
          obtain ⟨Bn, ran, rcn, lan, lcn, rfl, rfl, hZ, KB⟩ := hcut
          obtain ⟨w14, hw6⟩ : ∃ z, z = wc := ⟨_, rfl⟩
          subst hw6
          have hBwn : w.heap.size ≤ Bn := Nat.le_trans HB.out.size hZ
          have hneln : Bp ≠ Bn := Nat.ne_of_lt (Nat.lt_of_lt_of_le Kl.out.lt hZ)
          have hnemn : Bm ≠ Bn := Nat.ne_of_lt (Nat.lt_of_lt_of_le Km.out.lt hZ)
          have b := KB.out.bel
          replace Kl := hid (Kl.out.more b)
          replace Km := hid (Km.out.more b)
          have Kn := hid ((KB.out.back HB.out).weak (nb' := nin [Bp]) (fun _ _ h => nin_tail h))
          replace HS : Hid (∀ x ∈ ([Bp] : List Nat), x < w14.heap.size) := fun x hx => Nat.lt_of_lt_of_le (HS.out x hx) b.size
          replace HB : Hid (Below w.heap.size w w14) := HB.out.trans (b.mono HB.out.size)
          clear KB b hZ hrn
          clear e1 hI hxk HLm
          have q0 : w14.cell? ⟨Bp, 0, none⟩ = some (.slice ral ll.reads.length rcl) := Kl.out.c0
          have q1 : w14.cell? ⟨Bp, 1, none⟩ = some (.slice lal ll.levels.length lcl) := Kl.out.c1
          have qf : ∀ i, w14.frozen? ⟨Bp, i, none⟩ = false := Kl.out.fz
          have p0 : w14.cell? ⟨Bn, 0, none⟩ = some (.slice ran ln.reads.length rcn) := Kn.out.c0
          have p1 : w14.cell? ⟨Bn, 1, none⟩ = some (.slice lan ln.levels.length lcn) := Kn.out.c1
          go_upto_region 7 with (fail)
          clear q0 q1 qf p0 p1
          have KNEW := hid (Kl.out.put hBwp (fun b h => nin_ne h (by simp)) Kn.out.val)
          have bs := (HB.out.setCell (p := ⟨Bp, 0, none⟩) hBwp (.slice ran ln.reads.length rcn)).setCell (p := ⟨Bp, 1, none⟩) hBwp (.slice lan ln.levels.length lcn)
          replace Km := hid (Km.out.other hBwp (by first | assumption | exact Ne.symm (by assumption)) (fun b h => nin_ne h (by simp)) (.slice ran ln.reads.length rcn) (.slice lan ln.levels.length lcn))
          replace Kn := hid (Kn.out.other hBwp (by first | assumption | exact Ne.symm (by assumption)) (fun b h => nin_ne h (by simp)) (.slice ran ln.reads.length rcn) (.slice lan ln.levels.length lcn))
          replace HS : Hid (∀ x ∈ ([Bp] : List Nat), x < ((w14.setCell ⟨Bp, 0, none⟩ (.slice ran ln.reads.length rcn)).setCell ⟨Bp, 1, none⟩ (.slice lan ln.levels.length lcn)).heap.size) := fun x hx => by rw [size_set2]; exact HS.out x hx
          obtain ⟨w15, hw⟩ : ∃ z, (w14.setCell ⟨Bp, 0, none⟩ (.slice ran ln.reads.length rcn)).setCell ⟨Bp, 1, none⟩ (.slice lan ln.levels.length lcn) = z := ⟨_, rfl⟩
          rw [hw] at Km Kn KNEW HS bs ⊢
          replace HB := hid bs
          clear hw Kl bs
          have Kl := KNEW
          clear KNEW
          go_wp2_with fail
          go_roundw
          case rel => exact ⟨k + 1, ln, ran, rcn, lan, lcn, by omega, by omega, by go_num, HLn, Kl⟩
          case measure => simp [intOf]; omega
      obtain rfl : k = xs.length := by omega
      rw [List.take_length] at HLl
      clear hlt hk hk1
      have cl0 : wo.cell? ⟨Bp, 0, none⟩ = some (.slice ral ll.reads.length rcl) := Kl.out.c0
      have cl1 : wo.cell? ⟨Bp, 1, none⟩ = some (.slice lal ll.levels.length lcl) := Kl.out.c1
      have hvh := Kl.out.val
      go_upto_region 14 with (fail)
      have hnelh := Kl.out.lt
      replace Kl := hid (Kl.out.weak (nb' := nin (wo.heap.size :: [Bp])) (fun b hb h => nin_new hb h))
      have Kh : Hid (BG (nin (wo.heap.size :: [Bp])) w (wo.alloc (.cells #[.slice ral ll.reads.length rcl, .slice lal ll.levels.length lcl] 25)) wo.heap.size ral lal rcl lcl ll) := hid ((BG.new (nb := (nin [Bp])) (l := ll) HB.out hvh).weak (nb' := nin (wo.heap.size :: [Bp])) (fun b _ h => nin_new h.1 h.2))
      have bb := (Below.refl wo.heap.size wo).alloc (Nat.le_refl _) (.cells #[.slice ral ll.reads.length rcl, .slice lal ll.levels.length lcl] 25)
      have hBwh := HB.out.size
      obtain ⟨w16, hw⟩ : ∃ z, wo.alloc (.cells #[.slice ral ll.reads.length rcl, .slice lal ll.levels.length lcl] 25) = z := ⟨_, rfl⟩
      rw [hw] at bb ⊢
      rw [hw] at Kh
      obtain ⟨Bh, hBh⟩ : ∃ z, wo.heap.size = z := ⟨_, rfl⟩
      rw [hBh] at Kh hBwh ⊢
      rw [hBh] at hnelh
      replace hnelh : Bp ≠ Bh := Nat.ne_of_lt hnelh
      rw [hBh] at Kl
      replace HS : Hid (∀ x ∈ ([Bh, Bp] : List Nat), x < w16.heap.size) := lt_more hBh Kh.out.lt HS.out
      replace Kl := hid (Kl.out.more bb)
      replace HB : Hid (Below w.heap.size w w16) := HB.out.trans (bb.mono HB.out.size)
      clear bb hw hvh hBh
      clear cl0 cl1
      go_wp2_with fail
      have HLa : Hid (ll = stk v (xs.take (max xs.length 1))) := by show ll = _; rw [HLl.out, Nat.max_eq_left (by omega), List.take_length]
      go_loopw [14] (fun i wr => ∃ (k : Nat) (l : Lg) (ra : Option Addr) (rc : Nat) (la : Option Addr) (lc : Nat), k ≤ xs.length ∧ i = .int .i64 ((k : Int) - 1) ∧ Hid (l = stk v (xs.take (max k 1))) ∧ Hid (BG (nin [Bh, Bp]) w wr Bp ra la rc lc l) ∧ Hid (BG (nin [Bh, Bp]) w wr Bh ral lal rcl lcl ll)) (fun i _ => (intOf i + 1).toNat)
      case atStart => exact ⟨xs.length, ll, ral, rcl, lal, lcl, Nat.le_refl _, by go_num, HLa, Kl, Kh⟩
      case round =>
        obtain ⟨k, lz, raz, rcz, laz, lcz, hk, rfl, HLz, Kz, Kg⟩ := hrel
        clear Kl Kh HB HS HLa
        obtain ⟨wo, rfl⟩ : ∃ wo : World, wo = wr := ⟨_, rfl⟩
        have HB : Hid (Below w.heap.size w wo) := Kz.out.bel
        have HS : Hid (∀ x ∈ ([Bh, Bp] : List Nat), x < wo.heap.size) := fun x hx => by
          simp at hx
          rcases hx with rfl | rfl
          · exact Kg.out.lt
          · exact Kz.out.lt
        by_cases hp : 0 < k
        · obtain ⟨j, rfl⟩ : ∃ j, k = j + 1 := ⟨k - 1, by omega⟩
          have hij : ((j + 1 : Nat) : Int) - 1 = j := by omega
          rw [hij]
          have hj : j < xs.length := by omega
          obtain ⟨xj, hxj⟩ : ∃ x, xs[j]? = some x := ⟨_, List.getElem?_eq_getElem hj⟩
          rw [Nat.max_eq_left (by omega)] at HLz
          have hlev : (lz.levels.length : Int) = (j : Int) + 1 := by rw [HLz.out]; simp [stk]; omega
          have f0 : decide ((j : Int) ≥ 0) = true := by simp
          have cz0 : wo.cell? ⟨Bp, 0, none⟩ = some (.slice raz lz.reads.length rcz) := Kz.out.c0
          have cz1 : wo.cell? ⟨Bp, 1, none⟩ = some (.slice laz lz.levels.length lcz) := Kz.out.c1
          have P := hid (get_any wo _ (.agg #[.slice raz lz.reads.length rcz, .slice laz lz.levels.length lcz]) lz v Kz.out.val hv0 (by rw [HLz.out]; exact (stk_okl (n := 60) (by simp; omega) (by decide)).mono (by decide)))
          have hg : getG lz v = (xj, true) := by rw [HLz.out, take_more hxj]; exact stk_get xj HV.out
          rw [hg] at P
          clear hg
          go_wp2_with fail
          refine P.out.mono ?_
          rintro e w17 ⟨rfl, b⟩
          clear P
          clear cz0 cz1
          replace Kz := hid (Kz.out.more b)
          replace Kg := hid (Kg.out.more b)
          replace HB : Hid (Below w.heap.size w _) := HB.out.trans (b.mono HB.out.size)
          replace HS : Hid (∀ x ∈ ([Bh, Bp] : List Nat), x < _) := fun x hx => Nat.lt_of_lt_of_le (HS.out x hx) b.size
          clear b
          have hI := isl_more HIw.out HB.out
          obtain ⟨b2, o2, sc2, xi, hsl, hxi, hij2, e1⟩ := ISl.at hI (Below.refl _ _) (k := j) hj
          cases hsl
          obtain rfl : xi = xj := by rw [hxj] at hxi; cases hxi; rfl
          have f3 : ((lz.levels.length : Int) == (j : Int) + 1) = true := by rw [hlev]; simp
          clear hI hxi hlev
          have cz0 : w17.cell? ⟨Bp, 0, none⟩ = some (.slice raz lz.reads.length rcz) := Kz.out.c0
          have cz1 : w17.cell? ⟨Bp, 1, none⟩ = some (.slice laz lz.levels.length lcz) := Kz.out.c1
          go_upto_region 20 with (fail)
          clear cz0 cz1 e1 f3
          obtain ⟨ry, hry⟩ : ∃ r, r = dropG lz := ⟨_, rfl⟩
          obtain ⟨ly, ey⟩ := ry
          have HRy := hid hry
          have HLy : Hid (ly = stk v (xs.take (max j 1))) := by
            have h := congrArg Prod.fst HRy.out
            exact h.trans (by rw [HLz.out]; exact stk_dropped HV.out hj)
          clear HRy
          have cz0 : w17.cell? ⟨Bp, 0, none⟩ = some (.slice raz lz.reads.length rcz) := Kz.out.c0
          have cz1 : w17.cell? ⟨Bp, 1, none⟩ = some (.slice laz lz.levels.length lcz) := Kz.out.c1
          have P := hid (drop_any w17 _ (.agg #[.slice raz lz.reads.length rcz, .slice laz lz.levels.length lcz]) lz Kz.out.val  (by rw [HLz.out]; exact (stk_okl (n := 60) (by simp; omega) (by decide)).mono (by decide)))
          rw [← hry] at P
          clear hry
          go_wp2_with fail
          refine P.out.mono ?_
          rintro e w18 ⟨ray, rcy, lay, lcy, rfl, hv, b⟩
          clear P
          clear cz0 cz1
          have hvy : GVal w18 (nin [Bh, Bp]) (.agg #[.slice ray ly.reads.length rcy, .slice lay ly.levels.length lcy]) ly := GVal.weak hv (fun b _ h => nin_res HS.out h)
          clear hv
          replace Kz := hid (Kz.out.more b)
          replace Kg := hid (Kg.out.more b)
          replace HB : Hid (Below w.heap.size w _) := HB.out.trans (b.mono HB.out.size)
          replace HS : Hid (∀ x ∈ ([Bh, Bp] : List Nat), x < _) := fun x hx => Nat.lt_of_lt_of_le (HS.out x hx) b.size
          clear b
          have q0 : w18.cell? ⟨Bp, 0, none⟩ = some (.slice raz lz.reads.length rcz) := Kz.out.c0
          have q1 : w18.cell? ⟨Bp, 1, none⟩ = some (.slice laz lz.levels.length lcz) := Kz.out.c1
          have qf : ∀ i, w18.frozen? ⟨Bp, i, none⟩ = false := Kz.out.fz
          go_upto_region 16 with (fail)
          clear q0 q1 qf
          have Kn := hid (Kz.out.put hBwp (fun b h => nin_ne h (by simp)) hvy)
          have bs := (HB.out.setCell (p := ⟨Bp, 0, none⟩) hBwp (.slice ray ly.reads.length rcy)).setCell (p := ⟨Bp, 1, none⟩) hBwp (.slice lay ly.levels.length lcy)
          replace Kg := hid (Kg.out.other hBwp (by first | assumption | exact Ne.symm (by assumption)) (fun b h => nin_ne h (by simp)) (.slice ray ly.reads.length rcy) (.slice lay ly.levels.length lcy))
          replace HS : Hid (∀ x ∈ ([Bh, Bp] : List Nat), x < ((w18.setCell ⟨Bp, 0, none⟩ (.slice ray ly.reads.length rcy)).setCell ⟨Bp, 1, none⟩ (.slice lay ly.levels.length lcy)).heap.size) := fun x hx => by rw [size_set2]; exact HS.out x hx
          obtain ⟨w19, hw⟩ : ∃ z, (w18.setCell ⟨Bp, 0, none⟩ (.slice ray ly.reads.length rcy)).setCell ⟨Bp, 1, none⟩ (.slice lay ly.levels.length lcy) = z := ⟨_, rfl⟩
          rw [hw] at Kg Kn HS bs ⊢
          replace HB := hid bs
          clear hw hvy Kz bs
          have Ky := Kn
          clear Kn
          go_wp2_with fail
          go_roundw
          case rel => exact ⟨j, ly, ray, rcy, lay, lcy, by omega, by go_num, HLy, Ky, Kg⟩
          case measure => simp [intOf]
        obtain rfl : k = 0 := by omega
        rw [show ((0 : Nat) : Int) - 1 = -1 from rfl]
        have HX1 : Hid (∃ xl, xs[xs.length - 1]? = some xl) := ⟨_, List.getElem?_eq_getElem (by omega)⟩
        obtain ⟨xl, hxl⟩ := HX1.out
        have HXL : Hid (ll = stk v (xs.take (xs.length - 1) ++ [xl])) := by
          show ll = _
          rw [← take_more hxl, show xs.length - 1 + 1 = xs.length by omega, List.take_length]; exact HLl.out
        have HXl := hid hxl
        clear hxl HX1 Kz HLz hp hk
        go_wp2_with fail
        go_loopw [17] (fun i wr => ∃ (k : Nat) (l : Lg) (ra : Option Addr) (rc : Nat) (la : Option Addr) (lc : Nat), 1 ≤ k ∧ k ≤ xs.length ∧ i = .int .i64 k ∧ Hid (l = stk v (xs.take (xs.length - k) ++ [xl])) ∧ Hid (BG (nin [Bh]) w wr Bh ra la rc lc l)) (fun i _ => xs.length - (intOf i).toNat)
        case atStart => exact ⟨1, ll, ral, rcl, lal, lcl, Nat.le_refl _, hn.1, rfl, HXL, hid (Kg.out.weak (fun b _ h hm => h (List.mem_cons.2 (.inl (List.mem_singleton.1 hm)))))⟩
        case round =>
          obtain ⟨k, ld, rad, rcd, lad, lcd, hk1, hk, rfl, HLd, Kd⟩ := hrel
          clear HB HXL HS
          obtain ⟨wp, rfl⟩ : ∃ wo : World, wo = wr := ⟨_, rfl⟩
          have HB : Hid (Below w.heap.size w wp) := Kd.out.bel
          have HS : Hid (∀ x ∈ ([Bh] : List Nat), x < wp.heap.size) := fun x hx => by
            simp at hx
            subst hx
            exact Kd.out.lt
          by_cases hlt : k < xs.length
          · -- a round
            obtain ⟨rq, hrq⟩ : ∃ r, r = mergeG ld := ⟨_, rfl⟩
            obtain ⟨lq, eq⟩ := rq
            have HRq := hid hrq
            have hkq : mergeG ld = ((stk v (xs.take (xs.length - (k + 1)) ++ [xl]) : Lg), (0 : Int)) := by rw [HLd.out]; have h := stk_merged (a := xl) (xs := xs) (k := xs.length - (k + 1)) HV.out (by omega); rw [show xs.length - (k + 1) + 1 = xs.length - k by omega] at h; exact h
            have hhq := HRq.out.trans hkq
            obtain rfl : eq = 0 := by cases hhq; rfl
            have HLq : Hid (lq = stk v (xs.take (xs.length - (k + 1)) ++ [xl])) := by cases hhq; rfl
            clear hkq hhq HRq
            have cd0 : wp.cell? ⟨Bh, 0, none⟩ = some (.slice rad ld.reads.length rcd) := Kd.out.c0
            have cd1 : wp.cell? ⟨Bh, 1, none⟩ = some (.slice lad ld.levels.length lcd) := Kd.out.c1
            have P := hid (merge_any wp _ (.agg #[.slice rad ld.reads.length rcd, .slice lad ld.levels.length lcd]) ld Kd.out.val  (by rw [HLd.out]; exact (stk_okl (n := 61) (by simp; omega) (by decide)).mono (by decide)))
            rw [← hrq] at P
            clear hrq
            go_wp2_with fail
            refine P.out.mono ?_
            rintro e w20 ⟨raq, rcq, laq, lcq, rfl, hv, b⟩
            clear P
            clear cd0 cd1
            have hvq : GVal w20 (nin [Bh]) (.agg #[.slice raq lq.reads.length rcq, .slice laq lq.levels.length lcq]) lq := GVal.weak hv (fun b _ h => nin_res HS.out h)
            clear hv
            replace Kd := hid (Kd.out.more b)
            replace HB : Hid (Below w.heap.size w _) := HB.out.trans (b.mono HB.out.size)
            replace HS : Hid (∀ x ∈ ([Bh] : List Nat), x < _) := fun x hx => Nat.lt_of_lt_of_le (HS.out x hx) b.size
            clear b
            go_upto_region 25 with (fail)
            have hnedq := Kd.out.lt
            have Kq : Hid (BG (nin [Bh]) w (w20.alloc (.cells #[.slice raq lq.reads.length rcq, .slice laq lq.levels.length lcq] 25)) w20.heap.size raq laq rcq lcq lq) := hid ((BG.new (nb := (nin [Bh])) (l := lq) HB.out hvq).weak (nb' := (nin [Bh])) (fun b _ h => h.2))
            have bb := (Below.refl w20.heap.size w20).alloc (Nat.le_refl _) (.cells #[.slice raq lq.reads.length rcq, .slice laq lq.levels.length lcq] 25)
            have hBwq := HB.out.size
            obtain ⟨w21, hw⟩ : ∃ z, w20.alloc (.cells #[.slice raq lq.reads.length rcq, .slice laq lq.levels.length lcq] 25) = z := ⟨_, rfl⟩
            rw [hw] at bb ⊢
            rw [hw] at Kq
            obtain ⟨Bq, hBq⟩ : ∃ z, w20.heap.size = z := ⟨_, rfl⟩
            rw [hBq] at Kq hBwq ⊢
            rw [hBq] at hnedq
            replace hnedq : Bh ≠ Bq := Nat.ne_of_lt hnedq
            replace Kd := hid (Kd.out.more bb)
            replace HB : Hid (Below w.heap.size w w21) := HB.out.trans (bb.mono HB.out.size)
            replace HS : Hid (∀ x ∈ ([Bh] : List Nat), x < w21.heap.size) := fun x hx => Nat.lt_of_lt_of_le (HS.out x hx) bb.size
            clear bb hw hvq hBq
            have q0 : w21.cell? ⟨Bh, 0, none⟩ = some (.slice rad ld.reads.length rcd) := Kd.out.c0
            have q1 : w21.cell? ⟨Bh, 1, none⟩ = some (.slice lad ld.levels.length lcd) := Kd.out.c1
            have qf : ∀ i, w21.frozen? ⟨Bh, i, none⟩ = false := Kd.out.fz
            have p0 : w21.cell? ⟨Bq, 0, none⟩ = some (.slice raq lq.reads.length rcq) := Kq.out.c0
            have p1 : w21.cell? ⟨Bq, 1, none⟩ = some (.slice laq lq.levels.length lcq) := Kq.out.c1
            go_upto_region 23 with (fail)
            clear q0 q1 qf p0 p1
            have KNEW := hid (Kd.out.put hBwh (fun b h => nin_ne h (by simp)) Kq.out.val)
            have bs := (HB.out.setCell (p := ⟨Bh, 0, none⟩) hBwh (.slice raq lq.reads.length rcq)).setCell (p := ⟨Bh, 1, none⟩) hBwh (.slice laq lq.levels.length lcq)
            replace Kq := hid (Kq.out.other hBwh (by first | assumption | exact Ne.symm (by assumption)) (fun b h => nin_ne h (by simp)) (.slice raq lq.reads.length rcq) (.slice laq lq.levels.length lcq))
            replace HS : Hid (∀ x ∈ ([Bh] : List Nat), x < ((w21.setCell ⟨Bh, 0, none⟩ (.slice raq lq.reads.length rcq)).setCell ⟨Bh, 1, none⟩ (.slice laq lq.levels.length lcq)).heap.size) := fun x hx => by rw [size_set2]; exact HS.out x hx
            obtain ⟨w22, hw⟩ : ∃ z, (w21.setCell ⟨Bh, 0, none⟩ (.slice raq lq.reads.length rcq)).setCell ⟨Bh, 1, none⟩ (.slice laq lq.levels.length lcq) = z := ⟨_, rfl⟩
            rw [hw] at Kq KNEW HS bs ⊢
            replace HB := hid bs
            clear hw Kd bs
            have Kd := KNEW
            clear KNEW
            go_wp2_with fail
            go_roundw
            case rel => exact ⟨k + 1, lq, raq, rcq, laq, lcq, by omega, by omega, by go_num, HLq, Kd⟩
            case measure => simp [intOf]; omega
          obtain rfl : k = xs.length := by omega
          rw [Nat.sub_self, List.take_zero, List.nil_append] at HLd
          clear hlt hk hk1
          have cd0 : wp.cell? ⟨Bh, 0, none⟩ = some (.slice rad ld.reads.length rcd) := Kd.out.c0
          have cd1 : wp.cell? ⟨Bh, 1, none⟩ = some (.slice lad ld.levels.length lcd) := Kd.out.c1
          have P := hid (get_any wp _ (.agg #[.slice rad ld.reads.length rcd, .slice lad ld.levels.length lcd]) ld v Kd.out.val hv0 (by rw [HLd.out]; exact (stk_okl (n := 1) (by simp) (by decide)).mono (by decide)))
          have hg : getG ld v = (xl, true) := by rw [HLd.out]; exact stk_get (xs := []) xl HV.out
          rw [hg] at P
          clear hg
          go_wp2_with fail
          refine P.out.mono ?_
          rintro e w23 ⟨rfl, b⟩
          clear P
          clear cd0 cd1
          replace Kd := hid (Kd.out.more b)
          replace HB : Hid (Below w.heap.size w _) := HB.out.trans (b.mono HB.out.size)
          replace HS : Hid (∀ x ∈ ([Bh] : List Nat), x < _) := fun x hx => Nat.lt_of_lt_of_le (HS.out x hx) b.size
          clear b
          go_upto_region 29 with (fail)
          have cd0 : w23.cell? ⟨Bh, 0, none⟩ = some (.slice rad ld.reads.length rcd) := Kd.out.c0
          have cd1 : w23.cell? ⟨Bh, 1, none⟩ = some (.slice lad ld.levels.length lcd) := Kd.out.c1
          have P := hid (get_any w23 _ (.agg #[.slice rad ld.reads.length rcd, .slice lad ld.levels.length lcd]) ld (v + 1) Kd.out.val hvs (by rw [HLd.out]; exact (stk_okl (n := 1) (by simp) (by decide)).mono (by decide)))
          have hg : getG ld (v + 1) = (0, false) := by rw [HLd.out]; exact stk_none xl _ HV.out (by omega)
          rw [hg] at P
          clear hg
          go_wp2_with fail
          refine P.out.mono ?_
          rintro e w24 ⟨rfl, b⟩
          clear P
          clear cd0 cd1
          replace Kd := hid (Kd.out.more b)
          replace HB : Hid (Below w.heap.size w _) := HB.out.trans (b.mono HB.out.size)
          replace HS : Hid (∀ x ∈ ([Bh] : List Nat), x < _) := fun x hx => Nat.lt_of_lt_of_le (HS.out x hx) b.size
          clear b
          go_upto_region 30 with (fail)
          have hI := isl_more HIw.out HB.out
          obtain ⟨b2, o2, sc2, xi, hsl, hxi, hij2, e1⟩ := ISl.at hI (Below.refl _ _) (k := xs.length - 1) (by omega)
          cases hsl
          obtain rfl : xi = xl := by rw [HXl.out] at hxi; cases hxi; rfl
          have hnm : (xs.length : Int) - 1 = ((xs.length - 1 : Nat) : Int) := by omega
          have hlast : xs.length - 1 < xs.length := by omega
          have hl1 : ld.levels.length = 1 := by rw [HLd.out]; rfl
          have f5 : ((ld.levels.length : Int) == 1) = true := by rw [hl1]; rfl
          have f6 : 0 < ld.levels.length := by omega
          have cd0 : w24.cell? ⟨Bh, 0, none⟩ = some (.slice rad ld.reads.length rcd) := Kd.out.c0
          have cd1 : w24.cell? ⟨Bh, 1, none⟩ = some (.slice lad ld.levels.length lcd) := Kd.out.c1
          obtain ⟨_, _, _, _, ev, _, hls⟩ := Kd.out.val
          cases ev
          obtain ⟨b4, o4, c4, y4, sa4, sc4, hv4, hy4, hs4, e4⟩ := hls.at (Below.refl _ _) (k := 0) f6
          cases hv4
          rw [Nat.add_zero] at e4
          obtain rfl : y4 = [(v, xi)] := by rw [HLd.out] at hy4; simp [stk] at hy4; exact hy4.symm
          clear hI hxi hls hs4 hy4 hij2
          go_wp2_with fail
          go_ret
          exact Bb.fin rfl HB.out
end Go.Proofs.Ytaajooemocdfgaa
