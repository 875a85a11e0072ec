/- wait.Park: what it returns. -/
import Derived.Test.YteogmehbjopedaaWaitK
import Derived.Test.YteogmehbjopedaaHeldB
namespace Go.Proofs.Yteogmehbjopedaa
open Go.RowKit Go.Shelf Go.Maps
attribute [local go_sem] Oper.semAt_some
set_option maxHeartbeats 2000000 in
theorem park_any (w : World) (ok ok' : Nat → Prop) (lv vv : Value) (t : Int) (xs : List W) (vars : List Int) (h : WSl w ok lv xs) (h' : ISl w ok' vv vars) (ht : In t) (hn : xs.length ≤ 1000) (hv : vars.length ≤ 1000) :
    Calls Try.prog 9 #[lv, .int .i64 t, vv] w (ParkPost w xs t vars) := by
  obtain ⟨a1, c1, rfl, l1, l1', n1⟩ := h.shape4
  obtain ⟨a2, c2, rfl, l2, _⟩ := h'.shape
  have hb0 := (Below.refl w.heap.size w).alloc (Nat.le_refl _) (.cells #[.int .i64 t] 3)
  have hh := World.alloc_heap_new w (.cells #[.int .i64 t] 3)
  have hc := check_any _ _ _ xs (h.below waiterGood hb0) (by omega)
  have HC := hid hc
  have HH := hid (And.intro h (And.intro h' (And.intro hb0 hh)))
  have hbad : ∀ b1 b2 b3 b4, chk xs = b1 → decide (t < 0) = b2 → (vars.any fun v => decide (v < 0)) = b3 → (xs.any fun x => x.1 == t) = b4 → parkBad xs t vars = (!b1 || b2 || b3 || b4) := fun b1 b2 b3 b4 e1 e2 e3 e4 => by rw [parkBad, e1, e2, e3, e4]
  have HB := hid hbad
  clear hc h h' hb0 hh hbad
  go_enter Try.func9, Try.ntmps9
  go_wp2_with fail
  refine HC.out.mono ?_
  rintro e w1 ⟨rfl, hb1⟩
  have hb1' := HH.out.2.2.1.trans (hb1.mono HH.out.2.2.1.size)
  have hx1 := (hb1.block _ (lt_of_some HH.out.2.2.2)).trans HH.out.2.2.2
  have p1 : w1.cell? ⟨w.heap.size, 0, none⟩ = some (.int .i64 t) := cell_of hx1
  have H1 := hid (And.intro hb1' hx1)
  clear hb1 hb1' hx1
  cases q1 : chk xs
  · have HQ : Hid (parkBad xs t vars = true) := by show _ = true; rw [parkBad, q1]; simp
    go_wp2_with fail
    go_ret2
    exact park_bad HQ.out HH.out.1 H1.out.1
  · go_wp2_with fail
    refine (low_any w1 t).mono ?_
    rintro e w2 ⟨rfl, hb2⟩
    have hb2' := H1.out.1.trans (hb2.mono H1.out.1.size)
    have hx2 := (hb2.block _ (lt_of_some H1.out.2)).trans H1.out.2
    have p2 : w2.cell? ⟨w.heap.size, 0, none⟩ = some (.int .i64 t) := cell_of hx2
    have H2 := hid (And.intro hb2' hx2)
    clear hb2 hb2' hx2 p1
    cases q2 : decide (t < 0)
    · have hcf := containsFuncI _ #[] enters_low w2 _ _ vars _ (HH.out.2.1.below intGood H2.out.1) (low_pred w2)
      have HF := hid hcf
      clear hcf
      go_wp2_with fail
      refine HF.out.mono ?_
      rintro e w3 ⟨rfl, hb3⟩
      have hb3' := H2.out.1.trans (hb3.mono H2.out.1.size)
      have hx3 := (hb3.block _ (lt_of_some H2.out.2)).trans H2.out.2
      have p3 : w3.cell? ⟨w.heap.size, 0, none⟩ = some (.int .i64 t) := cell_of hx3
      have H3 := hid (And.intro hb3' hx3)
      clear hb3 hb3' hx3 p2
      cases q3 : vars.any fun v => decide (v < 0)
      · have hcw := containsFuncW _ _ (enters_of Try.func21 (by kernel_rfl) rfl) w3 _ _ xs _ (HH.out.1.below waiterGood H3.out.1) (park1_pred w3 w.heap.size t p3)
        have HW := hid hcw
        clear hcw
        go_wp2_with fail
        refine HW.out.mono ?_
        rintro e w4 ⟨rfl, hb4⟩
        have hb4' := H3.out.1.trans (hb4.mono H3.out.1.size)
        have hx4 := (hb4.block _ (lt_of_some H3.out.2)).trans H3.out.2
        have p4 : w4.cell? ⟨w.heap.size, 0, none⟩ = some (.int .i64 t) := cell_of hx4
        have H4 := hid (And.intro hb4' hx4)
        clear hb4 hb4' hx4 p3
        cases q4 : xs.any fun x => x.1 == t
        · have HQ : Hid (parkBad xs t vars = false) := by show _ = false; rw [HB.out _ _ _ _ q1 q2 q3 q4]; rfl
          go_wp2_with fail
          have hclip := fun W => clip_any W a1 xs.length c1 l1 l1' n1
          have HO := hid hclip
          have HD := hid H4.out.1.drew
          clear hclip
          have p5 : w4.drew.cell? ⟨w.heap.size, 0, none⟩ = some (.int .i64 t) := p4
          refine (wpIn_wide (n := 9)).1 ?_
          refine wpIn_region_held (fun W => W.cell? ⟨w.heap.size, 0, none⟩ = some (.int .i64 t)) (by kernel_rfl) ?_
          generalize hw5 : w4.drew = w5 at *
          refine wpAnyHF_takeD (i := 0) 27 (v := .slice a1 xs.length c1) rfl rfl rfl (by kernel_rfl) (by kernel_rfl) (by kernel_rfl) (fun _ _ _ h => h) ⟨.inl ⟨rfl, fun W hW => by simp [execOp, go_sem]⟩, fun W => rfl⟩ p5 ?_
          refine wpAnyHF_takeD (i := 2) 29 (v := .int .i64 t) rfl rfl rfl (by kernel_rfl) (by kernel_rfl) (by kernel_rfl) (fun _ _ _ h => h) ⟨.inl ⟨rfl, fun W hW => by simp [execOp, go_sem, hW]⟩, fun W => rfl⟩ p5 ?_
          refine wpAnyHF_takeD (i := 3) 30 (v := .slice a2 vars.length c2) rfl rfl rfl (by kernel_rfl) (by kernel_rfl) (by kernel_rfl) (fun _ _ _ h => h) ⟨.inl ⟨rfl, fun W hW => by simp [execOp, go_sem]⟩, fun W => rfl⟩ p5 ?_
          refine wpAnyHF_takeD (i := 4) 31 (v := .agg #[.int .i64 t, .slice a2 vars.length c2]) rfl rfl rfl (by kernel_rfl) (by kernel_rfl) (by kernel_rfl) (fun _ _ _ h => h) ⟨.inl ⟨rfl, fun W hW => by simp [execOp, go_sem]⟩, fun W => rfl⟩ p5 ?_
          refine wpAnyHF_one (i := 1) (by kernel_rfl) rfl rfl ?_
          refine wpIn_callD 28 rfl (P := Try.prog) (f := 25) (args := #[.slice a1 xs.length c1]) ?hrun1 ?_
          case hrun1 => simp [execOp, resolve, invoke, go_sem]
          refine (HO.out _).mono ?_
          rintro e W6 ⟨rfl, rfl⟩
          refine ⟨_, rfl, p5, ?_⟩
          refine wpAnyHF_one (i := 5) (by kernel_rfl) rfl rfl ?_
          have hown := own_any W6 (.agg #[.int .i64 t, .slice a2 vars.length c2]) (t, vars) ⟨_, rfl, ht, (RSl.below intGood HH.out.2.1 HD.out).weak intGood (by decide) (fun _ _ _ => trivial)⟩ (by simp; omega)
          refine wpIn_callD 32 rfl (P := Try.prog) (f := 26) (args := #[.agg #[.int .i64 t, .slice a2 vars.length c2]]) ?hrun2 ?_
          case hrun2 => simp [execOp, resolve, invoke, go_sem]
          refine hown.mono ?_
          rintro e w7 ⟨v2, rfl, ⟨sv2, rfl, _, hs2⟩, hb7⟩
          have hb57 := HD.out.trans (hb7.mono HD.out.size)
          have p7 : w7.cell? ⟨w.heap.size, 0, none⟩ = some (.int .i64 t) := (hb7.cell (World.block_lt_of_cell? W6 _ p5)).trans p5
          obtain ⟨sa, sc, rfl, _⟩ := hs2.shape
          obtain ⟨v8, w8, hrun8, hfin, hb8⟩ := appendClipped (x := (t, vars)) (RSl.below waiterGood HH.out.1 hb57) (by omega) ht (hs2.weak intGood (by decide) (fun _ _ _ => trivial))
          refine ⟨_, rfl, p7, ?_⟩
          have q8 : (w7.alloc (.cells #[.int .i64 t, .slice sa vars.length sc] 40)).cell? ⟨w.heap.size, 0, none⟩ = some (.int .i64 t) := (((Below.refl w7.heap.size w7).alloc (Nat.le_refl _) _).cell (World.block_lt_of_cell? w7 _ p7)).trans p7
          have p8 : w8.cell? ⟨w.heap.size, 0, none⟩ = some (.int .i64 t) := (hb8.cell (World.block_lt_of_cell? w7 _ p7)).trans p7
          refine wpAnyHF_one (i := 6) (by kernel_rfl) rfl rfl ?_
          refine wpIn_valueD 33 rfl (w' := w7.alloc (.cells #[.int .i64 t, .slice sa vars.length sc] 40)) (v := .slice (some ⟨w7.heap.size, 0, none⟩) 1 1) ?hrun3 ⟨q8, ?_⟩
          case hrun3 => simp [execOp, go_sem]
          refine wpAnyHF_one (i := 7) (by kernel_rfl) rfl rfl ?_
          refine wpIn_valueD 34 rfl (w' := w8) (v := v8) ?hrun4 ⟨p8, ?_⟩
          case hrun4 => exact run_append_op (.tmp 28) (.tmp 33) 22 rfl rfl (by simp [go_sem]) (by simp [go_sem]) hrun8
          have shp : ∃ a c, v8 = .slice a (xs.length + 1) c := by obtain ⟨a, c, h, _⟩ := hfin; exact ⟨a, c, by rw [h, List.length_append]; rfl⟩
          obtain ⟨a8, c8, rfl⟩ := shp
          refine wpAnyHF_takeD (i := 8) 6 (v := .slice a8 (xs.length + 1) c8) rfl rfl rfl (by kernel_rfl) (by kernel_rfl) (by kernel_rfl) (fun _ _ _ h => h) ⟨.inl ⟨rfl, fun W hW => by simp [execOp, go_sem]; try rfl⟩, fun W => rfl⟩ p8 ?_
          refine wpAnyHF_takeD (i := 9) 7 (v := .int .i64 0) rfl rfl rfl (by kernel_rfl) (by kernel_rfl) (by kernel_rfl) (fun _ _ _ h => h) ⟨.inl ⟨rfl, fun W hW => by simp [execOp, go_sem]; try rfl⟩, fun W => rfl⟩ p8 ?_
          refine wpAnyHF_done (by kernel_rfl) ?_ _
          have HQ2 := hid (And.intro hfin (hb57.trans (hb8.mono hb57.size)))
          clear hfin hb8 hb57 hb7 hs2 hown p5 p7 p8 q8 hrun8 HO HB HC HW HF HD
          simp only [Act.put, List.setIfInBounds_toArray, List.set_cons_zero, List.set_cons_succ]
          gi_wp2
          go_wp2_with fail
          go_ret2
          exact park_good HQ.out HQ2.out.1 HQ2.out.2
        · have HQ : Hid (parkBad xs t vars = true) := by show _ = true; rw [HB.out _ _ _ _ q1 q2 q3 q4]; rfl
          go_wp2_with fail
          go_ret2
          exact park_bad HQ.out HH.out.1 H4.out.1
      · have HQ : Hid (parkBad xs t vars = true) := by show _ = true; rw [parkBad, q3]; simp
        go_wp2_with fail
        go_ret2
        exact park_bad HQ.out HH.out.1 H3.out.1
    · have HQ : Hid (parkBad xs t vars = true) := by show _ = true; rw [parkBad, q2]; simp
      go_wp2_with fail
      go_ret2
      exact park_bad HQ.out HH.out.1 H2.out.1
end Go.Proofs.Yteogmehbjopedaa
