/- wait.own, and the closures of Wake. -/
import Derived.Test.YteogmehbjopedaaWaitA
import Derived.Test.YteogmehbjopedaaMapB
import Derived.Deep.RegionHeld3
namespace Go.Proofs.Yteogmehbjopedaa
open Go.RowKit Go.Shelf
set_option maxHeartbeats 1000000 in
theorem own_any (w : World) (v : Value) (x : W) (h : WVal w (fun _ => True) v x) (hlen : x.2.length ≤ 1000000000) :
    Calls Try.prog 26 #[v] w fun e w' => ∃ v', e = .returned v' ∧ WVal w' (fun b => w.heap.size ≤ b) v' x ∧ Below w.heap.size w w' := by
  obtain ⟨sv, rfl, hi, hs⟩ := h
  obtain ⟨sa, sc, rfl, _⟩ := hs.shape
  have hcl := fun W hW => cloneI W _ _ x.2 (hs.below (w' := W) intGood hW) hlen
  have HC := hid hcl
  have HI := hid hi
  clear hs hcl hi
  go_enter Try.func26, Try.ntmps26
  go_wp2_with fail
  obtain ⟨W0, hW0⟩ : ∃ W0, (w.alloc (Obj.cells #[.int .i64 x.1, .slice sa x.2.length sc] 40)).alloc (Obj.cells #[.int .i64 0, .slice none 0 0] 40) = W0 := ⟨_, rfl⟩
  have hb0 : Below w.heap.size w W0 := by rw [← hW0]; exact ((Below.refl _ _).alloc (Nat.le_refl _) _).alloc (by simp) _
  have hz0 : W0.heap.size = w.heap.size + 2 := by rw [← hW0]; simp
  have h1 := heap_one w (Obj.cells #[.int .i64 x.1, .slice sa x.2.length sc] 40) (Obj.cells #[.int .i64 0, .slice none 0 0] 40)
  have h2 := heap_two w (Obj.cells #[.int .i64 x.1, .slice sa x.2.length sc] 40) (Obj.cells #[.int .i64 0, .slice none 0 0] 40)
  rw [hW0] at h1 h2
  have p0 : W0.cell? ⟨w.heap.size, 0, none⟩ = some (.int .i64 x.1) := cell_of h1
  have p1 : W0.cell? ⟨w.heap.size, 1, none⟩ = some (.slice sa x.2.length sc) := cell_of h1
  have q0 : W0.cell? ⟨w.heap.size + 1, 0, none⟩ = some (.int .i64 0) := cell_of h2
  have q1 : W0.cell? ⟨w.heap.size + 1, 1, none⟩ = some (.slice none 0 0) := cell_of h2
  have hfz : ∀ i, W0.frozen? ⟨w.heap.size + 1, i, none⟩ = false := fun i => free_of h2
  rw [hW0]
  have HCL : ∀ W, Below W0.heap.size W0 W → Calls Try.prog 38 #[.slice sa x.2.length sc] W fun e w' => ∃ v', e = .returned v' ∧ ISl w' (fun b => W.heap.size ≤ b) v' x.2 ∧ Below W.heap.size W w' := fun W hW => HC.out W (hb0.trans (hW.mono hb0.size))
  clear hb0 HC
  have hlt0 : w.heap.size < W0.heap.size := by omega
  have hlt1 : w.heap.size + 1 < W0.heap.size := by omega
  have hb0 : Below w.heap.size w W0 := by rw [← hW0]; exact ((Below.refl _ _).alloc (Nat.le_refl _) _).alloc (by simp) _
  have HH := hid (And.intro hz0 hb0)
  clear hz0 hb0 hW0 h1 h2
  go_region_held3 (fun W => W.cell? ⟨w.heap.size, 0, none⟩ = some (.int .i64 x.1) ∧ W.cell? ⟨w.heap.size, 1, none⟩ = some (.slice sa x.2.length sc)) ((refine ⟨?_, ?_⟩ <;> (repeat rw [World.cell?_setCell_far _ _ _ _ (by simp)]) <;> assumption)) (first | (go_at_call 38; refine (HCL _ (Below.refl _ _).drew).mono ?_; rintro e w2 ⟨sv', rfl, hs2, hb2⟩; obtain ⟨sa', sc', rfl, _⟩ := hs2.shape; have r0 := (hb2.cell (p := ⟨w.heap.size, 0, none⟩) hlt0).trans p0; have r1 := (hb2.cell (p := ⟨w.heap.size, 1, none⟩) hlt0).trans p1; have s0 := (hb2.cell (p := ⟨w.heap.size + 1, 0, none⟩) hlt1).trans q0; have s1 := (hb2.cell (p := ⟨w.heap.size + 1, 1, none⟩) hlt1).trans q1; have f0 := (hb2.frozen (p := ⟨w.heap.size + 1, 0, none⟩) hlt1).trans (hfz 0); have f1 := (hb2.frozen (p := ⟨w.heap.size + 1, 1, none⟩) hlt1).trans (hfz 1)))
  have t0 := set_other (v := .slice sa' x.2.length sc') (set_cell (u := .int .i64 x.1) s0) (by decide : (0 : Nat) ≠ 1)
  have t1 := set_cell (u := .slice sa' x.2.length sc') (set_other (v := .int .i64 x.1) s1 (by decide : (1 : Nat) ≠ 0))
  have hsz : W0.drew.heap.size = w.heap.size + 2 := HH.out.1
  have hfin : ISl ((w2.setCell ⟨w.heap.size + 1, 0, none⟩ (.int .i64 x.1)).setCell ⟨w.heap.size + 1, 1, none⟩ (.slice sa' x.2.length sc')) (fun b => w.heap.size ≤ b) (.slice sa' x.2.length sc') x.2 := by
    rw [hsz] at hs2
    exact (hs2.keep intGood (((Same.refl _ _).setCell _ (by simp)).setCell _ (by simp))).weak intGood (by decide) (fun b _ h => by omega)
  have hbel : Below w.heap.size w ((w2.setCell ⟨w.heap.size + 1, 0, none⟩ (.int .i64 x.1)).setCell ⟨w.heap.size + 1, 1, none⟩ (.slice sa' x.2.length sc')) :=
    (((HH.out.2.drew).trans (hb2.mono (by rw [hsz]; omega))).setCell (by simp) _).setCell (by simp) _
  have HF := hid (And.intro hfin hbel)
  clear hfin hbel hs2 hb2 hsz r0 r1 s0 s1 f0 f1 p0 p1 q0 q1 hfz HCL
  go_wp2
  exact bodyPost_ret (v := .agg #[.int .i64 x.1, .slice sa' x.2.length sc']) (by simp [results, Try.results26, go_sem, t0, t1]) rfl ⟨_, rfl, ⟨_, rfl, HI.out, HF.out.1⟩, HF.out.2⟩
set_option maxHeartbeats 400000 in
/-- 'in[v]', the map captured. -/
theorem wake11_pred (w : World) (B m n : Nat) (S : List Int) (hB : w.cell? ⟨B, 0, none⟩ = some (.map (some m))) (hm : MapB w m n S) : PredI 31 #[.pointer (some ⟨B, 0, none⟩)] (fun x => S.contains x) w := by
  rintro w' x hb hi
  have hc : w'.cell? ⟨B, 0, none⟩ = some (.map (some m)) := (hb.cell (World.block_lt_of_cell? w _ hB)).trans hB
  have hl := (hm.below hb).look hi
  clear hB hm hb
  simp only [List.append_toArray, List.cons_append, List.nil_append]
  obtain ⟨q, hq⟩ : ∃ q, q = S.contains x := ⟨_, rfl⟩
  rw [← hq] at hl ⊢
  clear hq
  go_enter Try.func31, Try.ntmps31
  go_wp2
  go_ret
  exact Bb.fin rfl (Below.refl _ _)
theorem enters_wake11 : ∀ args w, (callFunc 31 args).run Try.prog w = .ok (.enter 31 args) w := enters_of Try.func31 (by kernel_rfl) rfl
set_option maxHeartbeats 400000 in
theorem wake1_pred (w : World) (B m n : Nat) (S : List Int) (hB : w.cell? ⟨B, 0, none⟩ = some (.map (some m))) (hm : MapB w m n S) : PredW 30 #[.pointer (some ⟨B, 0, none⟩)] (fun x => x.2.any fun v => S.contains v) w := by
  rintro w' x v hb ⟨sv, rfl, hi, hs⟩
  have hp := fun (W : World) (hW : Below w'.heap.size w' W) => containsFuncI _ _ enters_wake11 W _ _ x.2 _ (hs.below (w' := W) intGood hW) ((wake11_pred w B m n S hB hm).below (bthen hb hW))
  obtain ⟨sa, sc, rfl, _⟩ := hs.shape
  show Calls _ _ _ _ (Bb (x.2.any fun v => S.contains v) w')
  obtain ⟨q, hq⟩ : ∃ q, q = x.2.any fun v => S.contains v := ⟨_, rfl⟩
  rw [← hq] at hp ⊢
  have HP := hid hp
  clear hB hm hb hp hs hq
  simp only [List.append_toArray, List.cons_append, List.nil_append]
  go_enter Try.func30, Try.ntmps30
  go_wp2_with fail
  refine (HP.out _ ((Below.refl _ _).alloc (Nat.le_refl _) _)).mono ?_
  rintro e w2 ⟨rfl, hb2⟩
  go_wp2_with fail
  go_ret
  exact Bb.fin rfl (((Below.refl _ _).alloc (Nat.le_refl _) _).trans (hb2.mono (by simp)))
end Go.Proofs.Yteogmehbjopedaa
