/- store.Valid, the reference's Valid; few and meets of the statements: what each returns. -/
import Derived.Test.YtplckigmllkpoaaStB
import Derived.Test.YtplckigmllkpoaaTlO
namespace Go.Proofs.Ytplckigmllkpoaa
open Go.RowKit Go.Shelf
attribute [local go_sem] Oper.semAt_some
def oldS (s : St) (x : Pr) : Bool := !thereS s x.1 || !((cellS s x.1).2 == x.2)
def validS (s : St) (l : Lg) : Bool := chkS s && chkG l && !(l.reads.any (oldS s))
theorem old_no {s : St} {x : Pr} (h : thereS s x.1 = false) : oldS s x = true := by simp [oldS, h]
theorem old_yes {s : St} {x y : Pr} (h : thereS s x.1 = true) (hy : cellS s x.1 = y) : oldS s x = !(y.2 == x.2) := by simp [oldS, h, hy]
set_option maxHeartbeats 4000000 in
theorem valid1_pred (w : World) (w0 : World) (B : Nat) (sa : Option Addr) (sc : Nat) (s : St) (K0 : BSt w0 w B sa sc s) : PredP 39 #[.pointer (some ⟨B, 0, none⟩)] (oldS s) w := by
  rintro w' x hb hx hx2
  have K := hid (K0.more hb)
  clear hb K0
  simp only [List.append_toArray, List.cons_append, List.nil_append]
  obtain ⟨W0, hW0⟩ : ∃ W0, w'.alloc (Obj.cells #[.int .i64 x.1, .int .i64 x.2] 48) = W0 := ⟨_, rfl⟩
  have hb0 : Below w'.heap.size w' W0 := by rw [← hW0]; exact (Below.refl _ _).alloc (Nat.le_refl _) _
  have h0 : W0.heap[w'.heap.size]? = some (.cells #[.int .i64 x.1, .int .i64 x.2] 48) := by rw [← hW0]; exact World.alloc_heap_new _ _
  replace K := hid (K.out.more hb0)
  have bd := (Below.refl W0.heap.size W0).drew
  have HB := hid (hb0.trans (bd.mono hb0.size))
  have HW := hid hW0
  obtain ⟨t, ht⟩ : ∃ t, t = thereS s x.1 := ⟨_, rfl⟩
  have HT : Hid (thereS s x.1 = t) := ht.symm
  obtain ⟨w5, hw5⟩ : ∃ z, W0.drew = z := ⟨_, rfl⟩
  rw [hw5] at bd HB
  have X0 : Hid (w5.cell? ⟨w'.heap.size, 0, none⟩ = some (.int .i64 x.1)) := later_cell bd (cell_of h0)
  have X1 : Hid (w5.cell? ⟨w'.heap.size, 1, none⟩ = some (.int .i64 x.2)) := later_cell bd (cell_of h0)
  replace K := hid (K.out.more bd)
  have KV := hid K.out.val
  have H5 := hid hw5
  clear hb0 h0 hW0 ht bd hw5
  go_enter Try.func39, Try.ntmps39
  go_upto_region 1 with (fail)
  rw [HW.out]
  clear HW
  cases t
  · have C0 : Hid (w5.cell? ⟨B, 0, none⟩ = some (.slice sa s.cells.length sc)) := K.out.c0
    have C1 : Hid (w5.cell? ⟨B, 1, none⟩ = some (.int .i64 s.ver)) := K.out.c1
    refine (wpIn_wide (n := 9)).1 ?_
    refine wpIn_region_held (fun W => Below w5.heap.size w5 W) (by kernel_rfl) ?_
    rw [H5.out]
    refine wpAnyHF_takeD (i := 0) 4 (v := .agg #[.slice sa s.cells.length sc, .int .i64 s.ver]) rfl rfl rfl (by kernel_rfl) (by kernel_rfl) (by kernel_rfl) (fun _ _ _ h => h) ⟨.inl ⟨rfl, fun W hW => by have m0 := later_cell hW C0.out; have m1 := later_cell hW C1.out; simp [execOp, go_sem, m0, m1]⟩, fun W => rfl⟩ (Below.refl _ _) ?_
    refine wpAnyHF_takeD (i := 1) 5 (v := .pointer (some ⟨w'.heap.size, 0, none⟩)) rfl rfl rfl (by kernel_rfl) (by kernel_rfl) (by kernel_rfl) (fun _ _ _ h => h) ⟨.inl ⟨rfl, fun W hW => by simp [execOp, go_sem]⟩, fun W => rfl⟩ (Below.refl _ _) ?_
    refine wpAnyHF_takeD (i := 2) 6 (v := .int .i64 x.1) rfl rfl rfl (by kernel_rfl) (by kernel_rfl) (by kernel_rfl) (fun _ _ _ h => h) ⟨.inl ⟨rfl, fun W hW => by have m0 := later_cell hW X0.out; simp [execOp, go_sem, m0]⟩, fun W => rfl⟩ (Below.refl _ _) ?_
    simp only [Act.put, List.setIfInBounds_toArray, List.set_cons_zero, List.set_cons_succ]
    refine wpAnyHF_one (i := 3) (by kernel_rfl) rfl rfl ?_
    refine wpIn_callD 7 rfl (P := Try.prog) (f := 34) (args := #[.agg #[.slice sa s.cells.length sc, .int .i64 s.ver], .int .i64 x.1]) (by simp [execOp, resolve, invoke, go_sem]) ?_
    refine (HT.out ▸ there_any w5 _ _ s x.1 KV.out : Calls _ _ _ _ (Bb false w5)).mono ?_
    rintro e w6 ⟨rfl, b6⟩
    refine ⟨_, rfl, b6, ?_⟩
    simp only [Act.put, List.setIfInBounds_toArray, List.set_cons_zero, List.set_cons_succ]
    refine wpAnyHF_takeD (i := 4) 8 (v := .bool true) rfl rfl rfl (by kernel_rfl) (by kernel_rfl) (by kernel_rfl) (fun _ _ _ h => h) ⟨.inl ⟨rfl, fun W hW => by simp [execOp, go_sem]⟩, fun W => rfl⟩ b6 ?_
    refine wpAnyHF_takeD (i := 5) 9 (v := .bool true) rfl rfl rfl (by kernel_rfl) (by kernel_rfl) (by kernel_rfl) (fun _ _ _ h => h) ⟨.inl ⟨rfl, fun W hW => by simp [execOp, go_sem]⟩, fun W => rfl⟩ b6 ?_
    refine wpAnyHF_takeD (i := 6) 10 (v := undef) rfl rfl rfl (by kernel_rfl) (by kernel_rfl) (by kernel_rfl) (fun _ _ _ h => h) ⟨.inr ⟨rfl, rfl⟩, fun W => rfl⟩ b6 ?_
    simp only [Act.put, List.setIfInBounds_toArray, List.set_cons_zero, List.set_cons_succ]
    refine wpAnyHF_takeD (i := 7) 11 (v := undef) rfl rfl rfl (by kernel_rfl) (by kernel_rfl) (by kernel_rfl) (fun _ _ _ h => h) ⟨.inr ⟨rfl, rfl⟩, fun W => rfl⟩ b6 ?_
    refine wpAnyHF_takeD (i := 8) 12 (v := undef) rfl rfl rfl (by kernel_rfl) (by kernel_rfl) (by kernel_rfl) (fun _ _ _ h => h) ⟨.inr ⟨rfl, rfl⟩, fun W => rfl⟩ b6 ?_
    refine wpAnyHF_takeD (i := 9) 13 (v := undef) rfl rfl rfl (by kernel_rfl) (by kernel_rfl) (by kernel_rfl) (fun _ _ _ h => h) ⟨.inr ⟨rfl, rfl⟩, fun W => rfl⟩ b6 ?_
    simp only [Act.put, List.setIfInBounds_toArray, List.set_cons_zero, List.set_cons_succ]
    refine wpAnyHF_takeD (i := 10) 14 (v := undef) rfl rfl rfl (by kernel_rfl) (by kernel_rfl) (by kernel_rfl) (fun _ _ _ h => h) ⟨.inr ⟨rfl, rfl⟩, fun W => rfl⟩ b6 ?_
    refine wpAnyHF_takeD (i := 11) 15 (v := undef) rfl rfl rfl (by kernel_rfl) (by kernel_rfl) (by kernel_rfl) (fun _ _ _ h => h) ⟨.inr ⟨rfl, rfl⟩, fun W => rfl⟩ b6 ?_
    refine wpAnyHF_takeD (i := 12) 16 (v := undef) rfl rfl rfl (by kernel_rfl) (by kernel_rfl) (by kernel_rfl) (fun _ _ _ h => h) ⟨.inr ⟨rfl, rfl⟩, fun W => rfl⟩ b6 ?_
    simp only [Act.put, List.setIfInBounds_toArray, List.set_cons_zero, List.set_cons_succ]
    refine wpAnyHF_takeD (i := 13) 17 (v := undef) rfl rfl rfl (by kernel_rfl) (by kernel_rfl) (by kernel_rfl) (fun _ _ _ h => h) ⟨.inr ⟨rfl, rfl⟩, fun W => rfl⟩ b6 ?_
    refine wpAnyHF_takeD (i := 14) 18 (v := undef) rfl rfl rfl (by kernel_rfl) (by kernel_rfl) (by kernel_rfl) (fun _ _ _ h => h) ⟨.inr ⟨rfl, rfl⟩, fun W => rfl⟩ b6 ?_
    refine wpAnyHF_takeD (i := 15) 19 (v := undef) rfl rfl rfl (by kernel_rfl) (by kernel_rfl) (by kernel_rfl) (fun _ _ _ h => h) ⟨.inr ⟨rfl, rfl⟩, fun W => rfl⟩ b6 ?_
    simp only [Act.put, List.setIfInBounds_toArray, List.set_cons_zero, List.set_cons_succ]
    refine wpAnyHF_takeD (i := 16) 20 (v := .bool true) rfl rfl rfl (by kernel_rfl) (by kernel_rfl) (by kernel_rfl) (fun _ _ _ h => h) ⟨.inl ⟨rfl, fun W hW => by simp [execOp, go_sem]⟩, fun W => rfl⟩ b6 ?_
    refine wpAnyHF_takeD (i := 17) 3 (v := .bool true) rfl rfl rfl (by kernel_rfl) (by kernel_rfl) (by kernel_rfl) (fun _ _ _ h => h) ⟨.inl ⟨rfl, fun W hW => by simp [execOp, go_sem]⟩, fun W => rfl⟩ b6 ?_
    simp only [Act.put, List.setIfInBounds_toArray, List.set_cons_zero, List.set_cons_succ]
    refine wpAnyHF_done (by kernel_rfl) ?_ _
    have HB6 := hid (HB.out.trans (b6.mono HB.out.size))
    clear b6
    gi_wp2
    go_wp2_with fail
    go_ret
    exact Bb.fin ((old_no HT.out).symm) HB6.out
  · obtain ⟨k, hxk, hlt⟩ := there_nat HT.out
    obtain ⟨b1, o1, y, hsa, hy, hcy, _, _, _, e2⟩ := K.out.pick hlt
    subst hsa
    have Y1 : Hid (w5.cell? ⟨b1, o1 + k * 2 + 1, none⟩ = some (.int .i64 y.2)) := e2
    have C0 : Hid (w5.cell? ⟨B, 0, none⟩ = some (.slice (some ⟨b1, o1, none⟩) s.cells.length sc)) := K.out.c0
    have C1 : Hid (w5.cell? ⟨B, 1, none⟩ = some (.int .i64 s.ver)) := K.out.c1
    have HY := hid (old_yes HT.out (show cellS s x.1 = y by rw [hxk]; exact hcy))
    clear e2 hy hcy
    refine (wpIn_wide (n := 9)).1 ?_
    refine wpIn_region_held (fun W => Below w5.heap.size w5 W) (by kernel_rfl) ?_
    rw [H5.out]
    cases hq : y.2 == x.2
    · have hqq : ¬ y.2 = x.2 := by simpa using hq
      refine wpAnyHF_takeD (i := 0) 4 (v := .agg #[.slice (some ⟨b1, o1, none⟩) s.cells.length sc, .int .i64 s.ver]) rfl rfl rfl (by kernel_rfl) (by kernel_rfl) (by kernel_rfl) (fun _ _ _ h => h) ⟨.inl ⟨rfl, fun W hW => by have m0 := later_cell hW C0.out; have m1 := later_cell hW C1.out; simp [execOp, go_sem, m0, m1]⟩, fun W => rfl⟩ (Below.refl _ _) ?_
      refine wpAnyHF_takeD (i := 1) 5 (v := .pointer (some ⟨w'.heap.size, 0, none⟩)) rfl rfl rfl (by kernel_rfl) (by kernel_rfl) (by kernel_rfl) (fun _ _ _ h => h) ⟨.inl ⟨rfl, fun W hW => by simp [execOp, go_sem]⟩, fun W => rfl⟩ (Below.refl _ _) ?_
      refine wpAnyHF_takeD (i := 2) 6 (v := .int .i64 x.1) rfl rfl rfl (by kernel_rfl) (by kernel_rfl) (by kernel_rfl) (fun _ _ _ h => h) ⟨.inl ⟨rfl, fun W hW => by have m0 := later_cell hW X0.out; simp [execOp, go_sem, m0]⟩, fun W => rfl⟩ (Below.refl _ _) ?_
      simp only [Act.put, List.setIfInBounds_toArray, List.set_cons_zero, List.set_cons_succ]
      refine wpAnyHF_one (i := 3) (by kernel_rfl) rfl rfl ?_
      refine wpIn_callD 7 rfl (P := Try.prog) (f := 34) (args := #[.agg #[.slice (some ⟨b1, o1, none⟩) s.cells.length sc, .int .i64 s.ver], .int .i64 x.1]) (by simp [execOp, resolve, invoke, go_sem]) ?_
      refine (HT.out ▸ there_any w5 _ _ s x.1 KV.out : Calls _ _ _ _ (Bb true w5)).mono ?_
      rintro e w6 ⟨rfl, b6⟩
      refine ⟨_, rfl, b6, ?_⟩
      simp only [Act.put, List.setIfInBounds_toArray, List.set_cons_zero, List.set_cons_succ]
      refine wpAnyHF_takeD (i := 4) 8 (v := .bool false) rfl rfl rfl (by kernel_rfl) (by kernel_rfl) (by kernel_rfl) (fun _ _ _ h => h) ⟨.inl ⟨rfl, fun W hW => by simp [execOp, go_sem]⟩, fun W => rfl⟩ b6 ?_
      refine wpAnyHF_takeD (i := 5) 9 (v := .bool false) rfl rfl rfl (by kernel_rfl) (by kernel_rfl) (by kernel_rfl) (fun _ _ _ h => h) ⟨.inl ⟨rfl, fun W hW => by simp [execOp, go_sem]⟩, fun W => rfl⟩ b6 ?_
      refine wpAnyHF_takeD (i := 6) 10 (v := .pointer (some ⟨B, 0, none⟩)) rfl rfl rfl (by kernel_rfl) (by kernel_rfl) (by kernel_rfl) (fun _ _ _ h => h) ⟨.inl ⟨rfl, fun W hW => by simp [execOp, go_sem]⟩, fun W => rfl⟩ b6 ?_
      simp only [Act.put, List.setIfInBounds_toArray, List.set_cons_zero, List.set_cons_succ]
      refine wpAnyHF_takeD (i := 7) 11 (v := .slice (some ⟨b1, o1, none⟩) s.cells.length sc) rfl rfl rfl (by kernel_rfl) (by kernel_rfl) (by kernel_rfl) (fun _ _ _ h => h) ⟨.inl ⟨rfl, fun W hW => by have m0 := later_cell hW C0.out; simp [execOp, go_sem, m0]⟩, fun W => rfl⟩ b6 ?_
      refine wpAnyHF_takeD (i := 8) 12 (v := .pointer (some ⟨w'.heap.size, 0, none⟩)) rfl rfl rfl (by kernel_rfl) (by kernel_rfl) (by kernel_rfl) (fun _ _ _ h => h) ⟨.inl ⟨rfl, fun W hW => by simp [execOp, go_sem]⟩, fun W => rfl⟩ b6 ?_
      refine wpAnyHF_takeD (i := 9) 13 (v := .int .i64 x.1) rfl rfl rfl (by kernel_rfl) (by kernel_rfl) (by kernel_rfl) (fun _ _ _ h => h) ⟨.inl ⟨rfl, fun W hW => by have m0 := later_cell hW X0.out; simp [execOp, go_sem, m0]⟩, fun W => rfl⟩ b6 ?_
      simp only [Act.put, List.setIfInBounds_toArray, List.set_cons_zero, List.set_cons_succ]
      refine wpAnyHF_takeD (i := 10) 14 (v := .pointer (some ⟨b1, o1 + k * 2, none⟩)) rfl rfl rfl (by kernel_rfl) (by kernel_rfl) (by kernel_rfl) (fun _ _ _ h => h) ⟨.inl ⟨rfl, fun W hW => by simp [execOp, go_sem, hxk, hlt]⟩, fun W => rfl⟩ b6 ?_
      refine wpAnyHF_takeD (i := 11) 15 (v := .pointer (some ⟨b1, o1 + k * 2 + 1, none⟩)) rfl rfl rfl (by kernel_rfl) (by kernel_rfl) (by kernel_rfl) (fun _ _ _ h => h) ⟨.inl ⟨rfl, fun W hW => by simp [execOp, go_sem]⟩, fun W => rfl⟩ b6 ?_
      refine wpAnyHF_takeD (i := 12) 16 (v := .int .i64 y.2) rfl rfl rfl (by kernel_rfl) (by kernel_rfl) (by kernel_rfl) (fun _ _ _ h => h) ⟨.inl ⟨rfl, fun W hW => by have m0 := later_cell hW Y1.out; simp [execOp, go_sem, m0]⟩, fun W => rfl⟩ b6 ?_
      simp only [Act.put, List.setIfInBounds_toArray, List.set_cons_zero, List.set_cons_succ]
      refine wpAnyHF_takeD (i := 13) 17 (v := .pointer (some ⟨w'.heap.size, 1, none⟩)) rfl rfl rfl (by kernel_rfl) (by kernel_rfl) (by kernel_rfl) (fun _ _ _ h => h) ⟨.inl ⟨rfl, fun W hW => by simp [execOp, go_sem]⟩, fun W => rfl⟩ b6 ?_
      refine wpAnyHF_takeD (i := 14) 18 (v := .int .i64 x.2) rfl rfl rfl (by kernel_rfl) (by kernel_rfl) (by kernel_rfl) (fun _ _ _ h => h) ⟨.inl ⟨rfl, fun W hW => by have m0 := later_cell hW X1.out; simp [execOp, go_sem, m0]⟩, fun W => rfl⟩ b6 ?_
      refine wpAnyHF_takeD (i := 15) 19 (v := .bool true) rfl rfl rfl (by kernel_rfl) (by kernel_rfl) (by kernel_rfl) (fun _ _ _ h => h) ⟨.inl ⟨rfl, fun W hW => by simp [execOp, go_sem, hqq]⟩, fun W => rfl⟩ b6 ?_
      simp only [Act.put, List.setIfInBounds_toArray, List.set_cons_zero, List.set_cons_succ]
      refine wpAnyHF_takeD (i := 16) 20 (v := .bool true) rfl rfl rfl (by kernel_rfl) (by kernel_rfl) (by kernel_rfl) (fun _ _ _ h => h) ⟨.inl ⟨rfl, fun W hW => by simp [execOp, go_sem]⟩, fun W => rfl⟩ b6 ?_
      refine wpAnyHF_takeD (i := 17) 3 (v := .bool true) rfl rfl rfl (by kernel_rfl) (by kernel_rfl) (by kernel_rfl) (fun _ _ _ h => h) ⟨.inl ⟨rfl, fun W hW => by simp [execOp, go_sem]⟩, fun W => rfl⟩ b6 ?_
      simp only [Act.put, List.setIfInBounds_toArray, List.set_cons_zero, List.set_cons_succ]
      refine wpAnyHF_done (by kernel_rfl) ?_ _
      have HB6 := hid (HB.out.trans (b6.mono HB.out.size))
      clear b6
      gi_wp2
      go_wp2_with fail
      go_ret
      exact Bb.fin (by rw [HY.out, hq]; rfl) HB6.out
    · have hqq : y.2 = x.2 := by simpa using hq
      refine wpAnyHF_takeD (i := 0) 4 (v := .agg #[.slice (some ⟨b1, o1, none⟩) s.cells.length sc, .int .i64 s.ver]) rfl rfl rfl (by kernel_rfl) (by kernel_rfl) (by kernel_rfl) (fun _ _ _ h => h) ⟨.inl ⟨rfl, fun W hW => by have m0 := later_cell hW C0.out; have m1 := later_cell hW C1.out; simp [execOp, go_sem, m0, m1]⟩, fun W => rfl⟩ (Below.refl _ _) ?_
      refine wpAnyHF_takeD (i := 1) 5 (v := .pointer (some ⟨w'.heap.size, 0, none⟩)) rfl rfl rfl (by kernel_rfl) (by kernel_rfl) (by kernel_rfl) (fun _ _ _ h => h) ⟨.inl ⟨rfl, fun W hW => by simp [execOp, go_sem]⟩, fun W => rfl⟩ (Below.refl _ _) ?_
      refine wpAnyHF_takeD (i := 2) 6 (v := .int .i64 x.1) rfl rfl rfl (by kernel_rfl) (by kernel_rfl) (by kernel_rfl) (fun _ _ _ h => h) ⟨.inl ⟨rfl, fun W hW => by have m0 := later_cell hW X0.out; simp [execOp, go_sem, m0]⟩, fun W => rfl⟩ (Below.refl _ _) ?_
      simp only [Act.put, List.setIfInBounds_toArray, List.set_cons_zero, List.set_cons_succ]
      refine wpAnyHF_one (i := 3) (by kernel_rfl) rfl rfl ?_
      refine wpIn_callD 7 rfl (P := Try.prog) (f := 34) (args := #[.agg #[.slice (some ⟨b1, o1, none⟩) s.cells.length sc, .int .i64 s.ver], .int .i64 x.1]) (by simp [execOp, resolve, invoke, go_sem]) ?_
      refine (HT.out ▸ there_any w5 _ _ s x.1 KV.out : Calls _ _ _ _ (Bb true w5)).mono ?_
      rintro e w6 ⟨rfl, b6⟩
      refine ⟨_, rfl, b6, ?_⟩
      simp only [Act.put, List.setIfInBounds_toArray, List.set_cons_zero, List.set_cons_succ]
      refine wpAnyHF_takeD (i := 4) 8 (v := .bool false) rfl rfl rfl (by kernel_rfl) (by kernel_rfl) (by kernel_rfl) (fun _ _ _ h => h) ⟨.inl ⟨rfl, fun W hW => by simp [execOp, go_sem]⟩, fun W => rfl⟩ b6 ?_
      refine wpAnyHF_takeD (i := 5) 9 (v := .bool false) rfl rfl rfl (by kernel_rfl) (by kernel_rfl) (by kernel_rfl) (fun _ _ _ h => h) ⟨.inl ⟨rfl, fun W hW => by simp [execOp, go_sem]⟩, fun W => rfl⟩ b6 ?_
      refine wpAnyHF_takeD (i := 6) 10 (v := .pointer (some ⟨B, 0, none⟩)) rfl rfl rfl (by kernel_rfl) (by kernel_rfl) (by kernel_rfl) (fun _ _ _ h => h) ⟨.inl ⟨rfl, fun W hW => by simp [execOp, go_sem]⟩, fun W => rfl⟩ b6 ?_
      simp only [Act.put, List.setIfInBounds_toArray, List.set_cons_zero, List.set_cons_succ]
      refine wpAnyHF_takeD (i := 7) 11 (v := .slice (some ⟨b1, o1, none⟩) s.cells.length sc) rfl rfl rfl (by kernel_rfl) (by kernel_rfl) (by kernel_rfl) (fun _ _ _ h => h) ⟨.inl ⟨rfl, fun W hW => by have m0 := later_cell hW C0.out; simp [execOp, go_sem, m0]⟩, fun W => rfl⟩ b6 ?_
      refine wpAnyHF_takeD (i := 8) 12 (v := .pointer (some ⟨w'.heap.size, 0, none⟩)) rfl rfl rfl (by kernel_rfl) (by kernel_rfl) (by kernel_rfl) (fun _ _ _ h => h) ⟨.inl ⟨rfl, fun W hW => by simp [execOp, go_sem]⟩, fun W => rfl⟩ b6 ?_
      refine wpAnyHF_takeD (i := 9) 13 (v := .int .i64 x.1) rfl rfl rfl (by kernel_rfl) (by kernel_rfl) (by kernel_rfl) (fun _ _ _ h => h) ⟨.inl ⟨rfl, fun W hW => by have m0 := later_cell hW X0.out; simp [execOp, go_sem, m0]⟩, fun W => rfl⟩ b6 ?_
      simp only [Act.put, List.setIfInBounds_toArray, List.set_cons_zero, List.set_cons_succ]
      refine wpAnyHF_takeD (i := 10) 14 (v := .pointer (some ⟨b1, o1 + k * 2, none⟩)) rfl rfl rfl (by kernel_rfl) (by kernel_rfl) (by kernel_rfl) (fun _ _ _ h => h) ⟨.inl ⟨rfl, fun W hW => by simp [execOp, go_sem, hxk, hlt]⟩, fun W => rfl⟩ b6 ?_
      refine wpAnyHF_takeD (i := 11) 15 (v := .pointer (some ⟨b1, o1 + k * 2 + 1, none⟩)) rfl rfl rfl (by kernel_rfl) (by kernel_rfl) (by kernel_rfl) (fun _ _ _ h => h) ⟨.inl ⟨rfl, fun W hW => by simp [execOp, go_sem]⟩, fun W => rfl⟩ b6 ?_
      refine wpAnyHF_takeD (i := 12) 16 (v := .int .i64 y.2) rfl rfl rfl (by kernel_rfl) (by kernel_rfl) (by kernel_rfl) (fun _ _ _ h => h) ⟨.inl ⟨rfl, fun W hW => by have m0 := later_cell hW Y1.out; simp [execOp, go_sem, m0]⟩, fun W => rfl⟩ b6 ?_
      simp only [Act.put, List.setIfInBounds_toArray, List.set_cons_zero, List.set_cons_succ]
      refine wpAnyHF_takeD (i := 13) 17 (v := .pointer (some ⟨w'.heap.size, 1, none⟩)) rfl rfl rfl (by kernel_rfl) (by kernel_rfl) (by kernel_rfl) (fun _ _ _ h => h) ⟨.inl ⟨rfl, fun W hW => by simp [execOp, go_sem]⟩, fun W => rfl⟩ b6 ?_
      refine wpAnyHF_takeD (i := 14) 18 (v := .int .i64 x.2) rfl rfl rfl (by kernel_rfl) (by kernel_rfl) (by kernel_rfl) (fun _ _ _ h => h) ⟨.inl ⟨rfl, fun W hW => by have m0 := later_cell hW X1.out; simp [execOp, go_sem, m0]⟩, fun W => rfl⟩ b6 ?_
      refine wpAnyHF_takeD (i := 15) 19 (v := .bool false) rfl rfl rfl (by kernel_rfl) (by kernel_rfl) (by kernel_rfl) (fun _ _ _ h => h) ⟨.inl ⟨rfl, fun W hW => by simp [execOp, go_sem, hqq]⟩, fun W => rfl⟩ b6 ?_
      simp only [Act.put, List.setIfInBounds_toArray, List.set_cons_zero, List.set_cons_succ]
      refine wpAnyHF_takeD (i := 16) 20 (v := .bool false) rfl rfl rfl (by kernel_rfl) (by kernel_rfl) (by kernel_rfl) (fun _ _ _ h => h) ⟨.inl ⟨rfl, fun W hW => by simp [execOp, go_sem]⟩, fun W => rfl⟩ b6 ?_
      refine wpAnyHF_takeD (i := 17) 3 (v := .bool false) rfl rfl rfl (by kernel_rfl) (by kernel_rfl) (by kernel_rfl) (fun _ _ _ h => h) ⟨.inl ⟨rfl, fun W hW => by simp [execOp, go_sem]⟩, fun W => rfl⟩ b6 ?_
      simp only [Act.put, List.setIfInBounds_toArray, List.set_cons_zero, List.set_cons_succ]
      refine wpAnyHF_done (by kernel_rfl) ?_ _
      have HB6 := hid (HB.out.trans (b6.mono HB.out.size))
      clear b6
      gi_wp2
      go_wp2_with fail
      go_ret
      exact Bb.fin (by rw [HY.out, hq]; rfl) HB6.out
set_option maxHeartbeats 4000000 in
theorem svalid_any (w : World) (ok ok2 : Nat → Prop) (v v2 : Value) (s : St) (l : Lg) (hh : SVal w ok v s) (hg : GVal w ok2 v2 l) : Calls Try.prog 24 #[v, v2] w (Bb (validS s l) w) := by
  have hh0 := hh
  obtain ⟨sa, sc, rfl, hi, hs⟩ := hh
  obtain ⟨_, _, e, l1, _⟩ := hs.shape
  cases e
  obtain ⟨W0, hW0⟩ : ∃ W0, w.alloc (Obj.cells #[.slice sa s.cells.length sc, .int .i64 s.ver] 24) = W0 := ⟨_, rfl⟩
  have K : Hid (BSt w W0 w.heap.size sa sc s) := by have h := BSt.new (Below.refl _ w) hh0; rw [hW0] at h; exact h
  clear hs hh0
  have hbl : Below w.heap.size w W0 := K.out.bel
  have hg1 := hg.more hbl
  obtain ⟨ra, rc, la, lc, rfl, hr, hl⟩ := hg
  obtain ⟨_, _, e, l2, _⟩ := hr.shape
  cases e
  obtain ⟨_, _, e, l3, _⟩ := hl.shape
  cases e
  obtain ⟨W1, hW1⟩ : ∃ W1, W0.alloc (Obj.cells #[.slice ra l.reads.length rc, .slice la l.levels.length lc] 28) = W1 := ⟨_, rfl⟩
  have hb1 : Below W0.heap.size W0 W1 := by rw [← hW1]; exact (Below.refl _ _).alloc (Nat.le_refl _) _
  have h1 : W1.heap[W0.heap.size]? = some (.cells #[.slice ra l.reads.length rc, .slice la l.levels.length lc] 28) := by rw [← hW1]; exact World.alloc_heap_new _ _
  obtain ⟨B1, hB1⟩ : ∃ B, B = W0.heap.size := ⟨_, rfl⟩
  have hW := hW1
  rw [← hW0] at hW
  have HW := hid hW
  have HL := hid (hg1.more hb1)
  have HR := hid ((hr.more hbl).more hb1)
  replace K := hid (K.out.more hb1)
  rw [← hB1] at h1
  have H1 := hid h1
  have hb10 : B1 = w.heap.size + 1 := by rw [hB1, ← hW0]; simp
  have HB1 := hid hb10
  clear hW0 hW1 hW hb1 h1 hg1 hr hl hbl hB1 hb10
  obtain ⟨q, hq⟩ : ∃ q, q = chkS s := ⟨_, rfl⟩
  obtain ⟨p, hp⟩ : ∃ p, p = chkG l := ⟨_, rfl⟩
  have HQ := hid hq
  have HP := hid hp
  go_enter Try.func24, Try.ntmps24
  go_upto_region 1 with (fail)
  rw [HW.out, ← HB1.out]
  clear HW
  have c0 : W1.cell? ⟨w.heap.size, 0, none⟩ = some (.slice sa s.cells.length sc) := K.out.c0
  have c1 : W1.cell? ⟨w.heap.size, 1, none⟩ = some (.int .i64 s.ver) := K.out.c1
  have P := hid (scheck_any W1 _ _ s K.out.val)
  rw [← hq] at P
  clear hq
  go_wp2_with fail
  refine P.out.mono ?_
  rintro e w1 ⟨rfl, b⟩
  clear P c0 c1
  replace K := hid (K.out.more b)
  replace H1 := hid ((b.block _ (lt_of_some H1.out)).trans H1.out)
  replace HL := hid (HL.out.more b)
  replace HR := hid (HR.out.more b)
  clear b
  cases q
  · go_wp2_with fail
    go_ret
    exact Bb.fin (by rw [validS, ← HQ.out]; rfl) K.out.bel
  have d0 : w1.cell? ⟨B1, 0, none⟩ = some (.slice ra l.reads.length rc) := cell_of H1.out
  have d1 : w1.cell? ⟨B1, 1, none⟩ = some (.slice la l.levels.length lc) := cell_of H1.out
  have P := hid (check_any w1 _ _ l HL.out)
  rw [← hp] at P
  clear hp
  go_wp2_with fail
  refine P.out.mono ?_
  rintro e w2 ⟨rfl, b⟩
  clear P d0 d1
  replace K := hid (K.out.more b)
  replace H1 := hid ((b.block _ (lt_of_some H1.out)).trans H1.out)
  replace HR := hid (HR.out.more b)
  clear b HL
  cases p
  · go_wp2_with fail
    go_ret
    exact Bb.fin (by rw [validS, ← HP.out]; simp) K.out.bel
  have d0 : w2.cell? ⟨B1, 0, none⟩ = some (.slice ra l.reads.length rc) := cell_of H1.out
  have P := hid (containsR 39 #[.pointer (some ⟨w.heap.size, 0, none⟩)] (enters_of Try.func39 (by kernel_rfl) rfl) w2 _ _ l.reads _ HR.out (valid1_pred w2 w w.heap.size sa sc s K.out))
  rw [idx_has] at P
  obtain ⟨t, ht⟩ : ∃ t, t = l.reads.any (oldS s) := ⟨_, rfl⟩
  rw [← ht] at P
  have HT := hid ht
  clear ht
  go_wp2_with fail
  refine P.out.mono ?_
  rintro e w3 ⟨rfl, b⟩
  clear P d0
  replace K := hid (K.out.more b)
  clear b
  go_wp2_with fail
  go_ret
  exact Bb.fin (by rw [validS, ← HQ.out, ← HP.out, HT.out]; rfl) K.out.bel
end Go.Proofs.Ytplckigmllkpoaa
