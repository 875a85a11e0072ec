/- TlogTells: the walk. -/
import Derived.Test.YtaajooemocdfgaaTlV
namespace Go.Proofs.Ytaajooemocdfgaa
open Go.RowKit Go.Shelf Go.Maps
attribute [local go_sem] Oper.semAt_some
set_option maxRecDepth 100000 in
set_option maxHeartbeats 32000000 in
theorem tells_way (v0 : Value) (z n : Int) (w : World) (h0 : ∃ l, GVal w (fun _ => True) v0 l) (hz : In z) (hn : In n) :
    Calls Try.prog 3 #[v0, .int .i64 z, .int .i64 n] w (Bb true w) := by
  obtain ⟨l, hg⟩ := h0
  have hg0 := hg
  obtain ⟨ra, rc, la, lc, rfl, hr, hl⟩ := hg
  obtain ⟨_, _, e, l1, _⟩ := hr.shape
  cases e
  obtain ⟨_, _, e, l2, _⟩ := hl.shape
  cases e
  clear hr hl
  obtain ⟨W0, hW0⟩ : ∃ W0, w.alloc (Obj.cells #[.slice ra l.reads.length rc, .slice la l.levels.length lc] 25) = W0 := ⟨_, rfl⟩
  have Kl : Hid (BG (nin []) w W0 w.heap.size ra la rc lc l) := by
    have h := (BG.new (Below.refl _ w) hg0).weak (nb' := nin []) (fun _ _ _ hm => by cases hm)
    rw [hW0] at h; exact h
  have HW := hid hW0
  have hBl : Below w.heap.size w W0 := by rw [← hW0]; exact (Below.refl _ _).alloc (Nat.le_refl _) _
  clear hW0 hg0
  go_enter Try.func3, Try.ntmps3
  go_upto_region 1 with (fail)
  rw [HW.out]
  clear HW
  have HB : Hid (Below w.heap.size w W0) := hBl
  have HS : Hid (∀ x ∈ ([] : List Nat), x < W0.heap.size) := fun x hx => by simp at hx
  clear hBl
  have P := hid (awake_any W0)
  go_wp2_with fail
  refine P.out.mono ?_
  rintro e w11 ⟨rfl, b⟩
  clear P
  replace Kl := hid (Kl.out.more b)
  replace HB : Hid (Below w.heap.size w _) := HB.out.trans (b.mono HB.out.size)
  replace HS : Hid (∀ x ∈ ([] : List Nat), x < _) := fun x hx => Nat.lt_of_lt_of_le (HS.out x hx) b.size
  clear b
  obtain ⟨q, hq⟩ : ∃ q, q = fewG l := ⟨_, rfl⟩
  have cl0 : w11.cell? ⟨w.heap.size, 0, none⟩ = some (.slice ra l.reads.length rc) := Kl.out.c0
  have cl1 : w11.cell? ⟨w.heap.size, 1, none⟩ = some (.slice la l.levels.length lc) := Kl.out.c1
  have P := hid (few_any w11 _ (.agg #[.slice ra l.reads.length rc, .slice la l.levels.length lc]) l Kl.out.val)
  rw [← hq] at P
  have HQ := hid hq
  clear hq
  go_wp2_with fail
  refine P.out.mono ?_
  rintro e w12 ⟨rfl, b⟩
  clear P
  clear cl0 cl1
  replace Kl := hid (Kl.out.more b)
  replace HB : Hid (Below w.heap.size w _) := HB.out.trans (b.mono HB.out.size)
  replace HS : Hid (∀ x ∈ ([] : List Nat), x < _) := fun x hx => Nat.lt_of_lt_of_le (HS.out x hx) b.size
  clear b
  cases q
  · go_wp2_with fail
    go_ret
    exact Bb.fin rfl HB.out
  have HF := hid ((fewG_ok HQ.out.symm).mono (show 100 ≤ 100000 by decide))
  go_upto_region 4 with (fail)
  obtain ⟨rapush, hrapush⟩ : ∃ r, r = pushG l := ⟨_, rfl⟩
  obtain ⟨lapush, eapush⟩ := rapush
  have HRapush := hid hrapush
  have cl0 : w12.cell? ⟨w.heap.size, 0, none⟩ = some (.slice ra l.reads.length rc) := Kl.out.c0
  have cl1 : w12.cell? ⟨w.heap.size, 1, none⟩ = some (.slice la l.levels.length lc) := Kl.out.c1
  have P := hid (push_any w12 _ (.agg #[.slice ra l.reads.length rc, .slice la l.levels.length lc]) l Kl.out.val HF.out)
  rw [← hrapush] at P
  clear hrapush
  go_wp2_with fail
  refine P.out.mono ?_
  rintro e w13 ⟨raapush, rcapush, laapush, lcapush, rfl, hv, b⟩
  clear P
  clear cl0 cl1
  have hvapush : GVal w13 (nin []) (.agg #[.slice raapush lapush.reads.length rcapush, .slice laapush lapush.levels.length lcapush]) lapush := GVal.weak hv (fun b _ h => nin_res HS.out h)
  clear hv
  replace Kl := hid (Kl.out.more b)
  replace HB : Hid (Below w.heap.size w _) := HB.out.trans (b.mono HB.out.size)
  replace HS : Hid (∀ x ∈ ([] : List Nat), x < _) := fun x hx => Nat.lt_of_lt_of_le (HS.out x hx) b.size
  clear b
  go_upto_region 5 with (fail)
  have hnelapush := Kl.out.lt
  replace Kl := hid (Kl.out.weak (nb' := nin (w13.heap.size :: [])) (fun b hb h => nin_new hb h))
  have Kapush : Hid (BG (nin (w13.heap.size :: [])) w (w13.alloc (.cells #[.slice raapush lapush.reads.length rcapush, .slice laapush lapush.levels.length lcapush] 25)) w13.heap.size raapush laapush rcapush lcapush lapush) := hid ((BG.new (nb := (nin [])) (l := lapush) HB.out hvapush).weak (nb' := nin (w13.heap.size :: [])) (fun b _ h => nin_new h.1 h.2))
  have bb := (Below.refl w13.heap.size w13).alloc (Nat.le_refl _) (.cells #[.slice raapush lapush.reads.length rcapush, .slice laapush lapush.levels.length lcapush] 25)
  have hBwapush := HB.out.size
  obtain ⟨w14, hw⟩ : ∃ z, w13.alloc (.cells #[.slice raapush lapush.reads.length rcapush, .slice laapush lapush.levels.length lcapush] 25) = z := ⟨_, rfl⟩
  rw [hw] at bb ⊢
  rw [hw] at Kapush
  obtain ⟨Bapush, hBapush⟩ : ∃ z, w13.heap.size = z := ⟨_, rfl⟩
  rw [hBapush] at Kapush hBwapush ⊢
  rw [hBapush] at hnelapush
  replace hnelapush : w.heap.size ≠ Bapush := Nat.ne_of_lt hnelapush
  rw [hBapush] at Kl
  replace HS : Hid (∀ x ∈ ([Bapush] : List Nat), x < w14.heap.size) := lt_more hBapush Kapush.out.lt HS.out
  replace Kl := hid (Kl.out.more bb)
  replace HB : Hid (Below w.heap.size w w14) := HB.out.trans (bb.mono HB.out.size)
  clear bb hw hvapush hBapush
  have cl0 : w14.cell? ⟨w.heap.size, 0, none⟩ = some (.slice ra l.reads.length rc) := Kl.out.c0
  have cl1 : w14.cell? ⟨w.heap.size, 1, none⟩ = some (.slice la l.levels.length lc) := Kl.out.c1
  have P := hid (rpush_any w14 _ (.agg #[.slice ra l.reads.length rc, .slice la l.levels.length lc]) l Kl.out.val HF.out)
  rw [← HRapush.out] at P
  go_wp2_with fail
  refine P.out.mono ?_
  rintro e w15 ⟨rabpush, rcbpush, labpush, lcbpush, rfl, hv, b⟩
  clear P
  clear cl0 cl1
  have hvbpush : GVal w15 (nin [Bapush]) (.agg #[.slice rabpush lapush.reads.length rcbpush, .slice labpush lapush.levels.length lcbpush]) lapush := GVal.weak hv (fun b _ h => nin_res HS.out h)
  clear hv
  replace Kl := hid (Kl.out.more b)
  replace Kapush := hid (Kapush.out.more b)
  replace HB : Hid (Below w.heap.size w _) := HB.out.trans (b.mono HB.out.size)
  replace HS : Hid (∀ x ∈ ([Bapush] : List Nat), x < _) := fun x hx => Nat.lt_of_lt_of_le (HS.out x hx) b.size
  clear b
  go_upto_region 6 with (fail)
  have hnelbpush := Kl.out.lt
  have hneapushbpush := Kapush.out.lt
  replace Kl := hid (Kl.out.weak (nb' := nin (w15.heap.size :: [Bapush])) (fun b hb h => nin_new hb h))
  replace Kapush := hid (Kapush.out.weak (nb' := nin (w15.heap.size :: [Bapush])) (fun b hb h => nin_new hb h))
  have Kbpush : Hid (BG (nin (w15.heap.size :: [Bapush])) w (w15.alloc (.cells #[.slice rabpush lapush.reads.length rcbpush, .slice labpush lapush.levels.length lcbpush] 25)) w15.heap.size rabpush labpush rcbpush lcbpush lapush) := hid ((BG.new (nb := (nin [Bapush])) (l := lapush) HB.out hvbpush).weak (nb' := nin (w15.heap.size :: [Bapush])) (fun b _ h => nin_new h.1 h.2))
  have bb := (Below.refl w15.heap.size w15).alloc (Nat.le_refl _) (.cells #[.slice rabpush lapush.reads.length rcbpush, .slice labpush lapush.levels.length lcbpush] 25)
  have hBwbpush := HB.out.size
  obtain ⟨w16, hw⟩ : ∃ z, w15.alloc (.cells #[.slice rabpush lapush.reads.length rcbpush, .slice labpush lapush.levels.length lcbpush] 25) = z := ⟨_, rfl⟩
  rw [hw] at bb ⊢
  rw [hw] at Kbpush
  obtain ⟨Bbpush, hBbpush⟩ : ∃ z, w15.heap.size = z := ⟨_, rfl⟩
  rw [hBbpush] at Kbpush hBwbpush ⊢
  rw [hBbpush] at hnelbpush
  replace hnelbpush : w.heap.size ≠ Bbpush := Nat.ne_of_lt hnelbpush
  rw [hBbpush] at hneapushbpush
  replace hneapushbpush : Bapush ≠ Bbpush := Nat.ne_of_lt hneapushbpush
  rw [hBbpush] at Kl
  rw [hBbpush] at Kapush
  replace HS : Hid (∀ x ∈ ([Bbpush, Bapush] : List Nat), x < w16.heap.size) := lt_more hBbpush Kbpush.out.lt HS.out
  replace Kl := hid (Kl.out.more bb)
  replace Kapush := hid (Kapush.out.more bb)
  replace HB : Hid (Below w.heap.size w w16) := HB.out.trans (bb.mono HB.out.size)
  clear bb hw hvbpush hBbpush
  have hs : decide (lapush = lapush) = true := by simp
  have capush0 : w16.cell? ⟨Bapush, 0, none⟩ = some (.slice raapush lapush.reads.length rcapush) := Kapush.out.c0
  have capush1 : w16.cell? ⟨Bapush, 1, none⟩ = some (.slice laapush lapush.levels.length lcapush) := Kapush.out.c1
  have cbpush0 : w16.cell? ⟨Bbpush, 0, none⟩ = some (.slice rabpush lapush.reads.length rcbpush) := Kbpush.out.c0
  have cbpush1 : w16.cell? ⟨Bbpush, 1, none⟩ = some (.slice labpush lapush.levels.length lcbpush) := Kbpush.out.c1
  have P := hid (same_any w16 _ _ (.agg #[.slice raapush lapush.reads.length rcapush, .slice laapush lapush.levels.length lcapush]) (.agg #[.slice rabpush lapush.reads.length rcbpush, .slice labpush lapush.levels.length lcbpush]) lapush lapush Kapush.out.val Kbpush.out.val)
  rw [hs] at P
  clear hs
  go_wp2_with fail
  refine P.out.mono ?_
  rintro e w17 ⟨rfl, b⟩
  clear P
  clear capush0 capush1 cbpush0 cbpush1
  replace Kl := hid (Kl.out.more b)
  replace Kapush := hid (Kapush.out.more b)
  replace Kbpush := hid (Kbpush.out.more b)
  replace HB : Hid (Below w.heap.size w _) := HB.out.trans (b.mono HB.out.size)
  replace HS : Hid (∀ x ∈ ([Bbpush, Bapush] : List Nat), x < _) := fun x hx => Nat.lt_of_lt_of_le (HS.out x hx) b.size
  clear b
  go_upto_region 7 with (fail)
  obtain ⟨ramerge, hramerge⟩ : ∃ r, r = mergeG l := ⟨_, rfl⟩
  obtain ⟨lamerge, eamerge⟩ := ramerge
  have HRamerge := hid hramerge
  have cl0 : w17.cell? ⟨w.heap.size, 0, none⟩ = some (.slice ra l.reads.length rc) := Kl.out.c0
  have cl1 : w17.cell? ⟨w.heap.size, 1, none⟩ = some (.slice la l.levels.length lc) := Kl.out.c1
  have P := hid (merge_any w17 _ (.agg #[.slice ra l.reads.length rc, .slice la l.levels.length lc]) l Kl.out.val HF.out)
  rw [← hramerge] at P
  clear hramerge
  go_wp2_with fail
  refine P.out.mono ?_
  rintro e w18 ⟨raamerge, rcamerge, laamerge, lcamerge, rfl, hv, b⟩
  clear P
  clear cl0 cl1
  have hvamerge : GVal w18 (nin [Bbpush, Bapush]) (.agg #[.slice raamerge lamerge.reads.length rcamerge, .slice laamerge lamerge.levels.length lcamerge]) lamerge := GVal.weak hv (fun b _ h => nin_res HS.out h)
  clear hv
  replace Kl := hid (Kl.out.more b)
  replace Kapush := hid (Kapush.out.more b)
  replace Kbpush := hid (Kbpush.out.more b)
  replace HB : Hid (Below w.heap.size w _) := HB.out.trans (b.mono HB.out.size)
  replace HS : Hid (∀ x ∈ ([Bbpush, Bapush] : List Nat), x < _) := fun x hx => Nat.lt_of_lt_of_le (HS.out x hx) b.size
  clear b
  have q0 : w18.cell? ⟨Bapush, 0, none⟩ = some (.slice raapush lapush.reads.length rcapush) := Kapush.out.c0
  have q1 : w18.cell? ⟨Bapush, 1, none⟩ = some (.slice laapush lapush.levels.length lcapush) := Kapush.out.c1
  have qf : ∀ i, w18.frozen? ⟨Bapush, i, none⟩ = false := Kapush.out.fz
  go_upto_region 8 with (fail)
  clear q0 q1 qf
  have Kn := hid (Kapush.out.put hBwapush (fun b h => nin_ne h (by simp)) hvamerge)
  have bs := (HB.out.setCell (p := ⟨Bapush, 0, none⟩) hBwapush (.slice raamerge lamerge.reads.length rcamerge)).setCell (p := ⟨Bapush, 1, none⟩) hBwapush (.slice laamerge lamerge.levels.length lcamerge)
  replace Kl := hid (Kl.out.other hBwapush (by first | assumption | exact Ne.symm (by assumption)) (fun b h => nin_ne h (by simp)) (.slice raamerge lamerge.reads.length rcamerge) (.slice laamerge lamerge.levels.length lcamerge))
  replace Kbpush := hid (Kbpush.out.other hBwapush (by first | assumption | exact Ne.symm (by assumption)) (fun b h => nin_ne h (by simp)) (.slice raamerge lamerge.reads.length rcamerge) (.slice laamerge lamerge.levels.length lcamerge))
  replace HS : Hid (∀ x ∈ ([Bbpush, Bapush] : List Nat), x < ((w18.setCell ⟨Bapush, 0, none⟩ (.slice raamerge lamerge.reads.length rcamerge)).setCell ⟨Bapush, 1, none⟩ (.slice laamerge lamerge.levels.length lcamerge)).heap.size) := fun x hx => by rw [size_set2]; exact HS.out x hx
  obtain ⟨w19, hw⟩ : ∃ z, (w18.setCell ⟨Bapush, 0, none⟩ (.slice raamerge lamerge.reads.length rcamerge)).setCell ⟨Bapush, 1, none⟩ (.slice laamerge lamerge.levels.length lcamerge) = z := ⟨_, rfl⟩
  rw [hw] at Kl Kbpush Kn HS bs ⊢
  replace HB := hid bs
  clear hw hvamerge Kapush bs
  have Kamerge := Kn
  clear Kn
  have cl0 : w19.cell? ⟨w.heap.size, 0, none⟩ = some (.slice ra l.reads.length rc) := Kl.out.c0
  have cl1 : w19.cell? ⟨w.heap.size, 1, none⟩ = some (.slice la l.levels.length lc) := Kl.out.c1
  have P := hid (rmerge_any w19 _ (.agg #[.slice ra l.reads.length rc, .slice la l.levels.length lc]) l Kl.out.val HF.out)
  rw [← HRamerge.out] at P
  go_wp2_with fail
  refine P.out.mono ?_
  rintro e w20 ⟨rabmerge, rcbmerge, labmerge, lcbmerge, rfl, hv, b⟩
  clear P
  clear cl0 cl1
  have hvbmerge : GVal w20 (nin [Bbpush, Bapush]) (.agg #[.slice rabmerge lamerge.reads.length rcbmerge, .slice labmerge lamerge.levels.length lcbmerge]) lamerge := GVal.weak hv (fun b _ h => nin_res HS.out h)
  clear hv
  replace Kl := hid (Kl.out.more b)
  replace Kbpush := hid (Kbpush.out.more b)
  replace Kamerge := hid (Kamerge.out.more b)
  replace HB : Hid (Below w.heap.size w _) := HB.out.trans (b.mono HB.out.size)
  replace HS : Hid (∀ x ∈ ([Bbpush, Bapush] : List Nat), x < _) := fun x hx => Nat.lt_of_lt_of_le (HS.out x hx) b.size
  clear b
  have q0 : w20.cell? ⟨Bbpush, 0, none⟩ = some (.slice rabpush lapush.reads.length rcbpush) := Kbpush.out.c0
  have q1 : w20.cell? ⟨Bbpush, 1, none⟩ = some (.slice labpush lapush.levels.length lcbpush) := Kbpush.out.c1
  have qf : ∀ i, w20.frozen? ⟨Bbpush, i, none⟩ = false := Kbpush.out.fz
  go_upto_region 9 with (fail)
  clear q0 q1 qf
  have Kn := hid (Kbpush.out.put hBwbpush (fun b h => nin_ne h (by simp)) hvbmerge)
  have bs := (HB.out.setCell (p := ⟨Bbpush, 0, none⟩) hBwbpush (.slice rabmerge lamerge.reads.length rcbmerge)).setCell (p := ⟨Bbpush, 1, none⟩) hBwbpush (.slice labmerge lamerge.levels.length lcbmerge)
  replace Kl := hid (Kl.out.other hBwbpush (by first | assumption | exact Ne.symm (by assumption)) (fun b h => nin_ne h (by simp)) (.slice rabmerge lamerge.reads.length rcbmerge) (.slice labmerge lamerge.levels.length lcbmerge))
  replace Kamerge := hid (Kamerge.out.other hBwbpush (by first | assumption | exact Ne.symm (by assumption)) (fun b h => nin_ne h (by simp)) (.slice rabmerge lamerge.reads.length rcbmerge) (.slice labmerge lamerge.levels.length lcbmerge))
  replace HS : Hid (∀ x ∈ ([Bbpush, Bapush] : List Nat), x < ((w20.setCell ⟨Bbpush, 0, none⟩ (.slice rabmerge lamerge.reads.length rcbmerge)).setCell ⟨Bbpush, 1, none⟩ (.slice labmerge lamerge.levels.length lcbmerge)).heap.size) := fun x hx => by rw [size_set2]; exact HS.out x hx
  obtain ⟨w21, hw⟩ : ∃ z, (w20.setCell ⟨Bbpush, 0, none⟩ (.slice rabmerge lamerge.reads.length rcbmerge)).setCell ⟨Bbpush, 1, none⟩ (.slice labmerge lamerge.levels.length lcbmerge) = z := ⟨_, rfl⟩
  rw [hw] at Kl Kamerge Kn HS bs ⊢
  replace HB := hid bs
  clear hw hvbmerge Kbpush bs
  have Kbmerge := Kn
  clear Kn
  have hs : decide (lamerge = lamerge) = true := by simp
  have camerge0 : w21.cell? ⟨Bapush, 0, none⟩ = some (.slice raamerge lamerge.reads.length rcamerge) := Kamerge.out.c0
  have camerge1 : w21.cell? ⟨Bapush, 1, none⟩ = some (.slice laamerge lamerge.levels.length lcamerge) := Kamerge.out.c1
  have cbmerge0 : w21.cell? ⟨Bbpush, 0, none⟩ = some (.slice rabmerge lamerge.reads.length rcbmerge) := Kbmerge.out.c0
  have cbmerge1 : w21.cell? ⟨Bbpush, 1, none⟩ = some (.slice labmerge lamerge.levels.length lcbmerge) := Kbmerge.out.c1
  have P := hid (same_any w21 _ _ (.agg #[.slice raamerge lamerge.reads.length rcamerge, .slice laamerge lamerge.levels.length lcamerge]) (.agg #[.slice rabmerge lamerge.reads.length rcbmerge, .slice labmerge lamerge.levels.length lcbmerge]) lamerge lamerge Kamerge.out.val Kbmerge.out.val)
  rw [hs] at P
  clear hs
  go_wp2_with fail
  refine P.out.mono ?_
  rintro e w22 ⟨rfl, b⟩
  clear P
  clear camerge0 camerge1 cbmerge0 cbmerge1
  replace Kl := hid (Kl.out.more b)
  replace Kamerge := hid (Kamerge.out.more b)
  replace Kbmerge := hid (Kbmerge.out.more b)
  replace HB : Hid (Below w.heap.size w _) := HB.out.trans (b.mono HB.out.size)
  replace HS : Hid (∀ x ∈ ([Bbpush, Bapush] : List Nat), x < _) := fun x hx => Nat.lt_of_lt_of_le (HS.out x hx) b.size
  clear b
  go_upto_region 10 with (fail)
  obtain ⟨radrop, hradrop⟩ : ∃ r, r = dropG l := ⟨_, rfl⟩
  obtain ⟨ladrop, eadrop⟩ := radrop
  have HRadrop := hid hradrop
  have cl0 : w22.cell? ⟨w.heap.size, 0, none⟩ = some (.slice ra l.reads.length rc) := Kl.out.c0
  have cl1 : w22.cell? ⟨w.heap.size, 1, none⟩ = some (.slice la l.levels.length lc) := Kl.out.c1
  have P := hid (drop_any w22 _ (.agg #[.slice ra l.reads.length rc, .slice la l.levels.length lc]) l Kl.out.val HF.out)
  rw [← hradrop] at P
  clear hradrop
  go_wp2_with fail
  refine P.out.mono ?_
  rintro e w23 ⟨raadrop, rcadrop, laadrop, lcadrop, rfl, hv, b⟩
  clear P
  clear cl0 cl1
  have hvadrop : GVal w23 (nin [Bbpush, Bapush]) (.agg #[.slice raadrop ladrop.reads.length rcadrop, .slice laadrop ladrop.levels.length lcadrop]) ladrop := GVal.weak hv (fun b _ h => nin_res HS.out h)
  clear hv
  replace Kl := hid (Kl.out.more b)
  replace Kamerge := hid (Kamerge.out.more b)
  replace Kbmerge := hid (Kbmerge.out.more b)
  replace HB : Hid (Below w.heap.size w _) := HB.out.trans (b.mono HB.out.size)
  replace HS : Hid (∀ x ∈ ([Bbpush, Bapush] : List Nat), x < _) := fun x hx => Nat.lt_of_lt_of_le (HS.out x hx) b.size
  clear b
  have q0 : w23.cell? ⟨Bapush, 0, none⟩ = some (.slice raamerge lamerge.reads.length rcamerge) := Kamerge.out.c0
  have q1 : w23.cell? ⟨Bapush, 1, none⟩ = some (.slice laamerge lamerge.levels.length lcamerge) := Kamerge.out.c1
  have qf : ∀ i, w23.frozen? ⟨Bapush, i, none⟩ = false := Kamerge.out.fz
  go_upto_region 11 with (fail)
  clear q0 q1 qf
  have Kn := hid (Kamerge.out.put hBwapush (fun b h => nin_ne h (by simp)) hvadrop)
  have bs := (HB.out.setCell (p := ⟨Bapush, 0, none⟩) hBwapush (.slice raadrop ladrop.reads.length rcadrop)).setCell (p := ⟨Bapush, 1, none⟩) hBwapush (.slice laadrop ladrop.levels.length lcadrop)
  replace Kl := hid (Kl.out.other hBwapush (by first | assumption | exact Ne.symm (by assumption)) (fun b h => nin_ne h (by simp)) (.slice raadrop ladrop.reads.length rcadrop) (.slice laadrop ladrop.levels.length lcadrop))
  replace Kbmerge := hid (Kbmerge.out.other hBwapush (by first | assumption | exact Ne.symm (by assumption)) (fun b h => nin_ne h (by simp)) (.slice raadrop ladrop.reads.length rcadrop) (.slice laadrop ladrop.levels.length lcadrop))
  replace HS : Hid (∀ x ∈ ([Bbpush, Bapush] : List Nat), x < ((w23.setCell ⟨Bapush, 0, none⟩ (.slice raadrop ladrop.reads.length rcadrop)).setCell ⟨Bapush, 1, none⟩ (.slice laadrop ladrop.levels.length lcadrop)).heap.size) := fun x hx => by rw [size_set2]; exact HS.out x hx
  obtain ⟨w24, hw⟩ : ∃ z, (w23.setCell ⟨Bapush, 0, none⟩ (.slice raadrop ladrop.reads.length rcadrop)).setCell ⟨Bapush, 1, none⟩ (.slice laadrop ladrop.levels.length lcadrop) = z := ⟨_, rfl⟩
  rw [hw] at Kl Kbmerge Kn HS bs ⊢
  replace HB := hid bs
  clear hw hvadrop Kamerge bs
  have Kadrop := Kn
  clear Kn
  have cl0 : w24.cell? ⟨w.heap.size, 0, none⟩ = some (.slice ra l.reads.length rc) := Kl.out.c0
  have cl1 : w24.cell? ⟨w.heap.size, 1, none⟩ = some (.slice la l.levels.length lc) := Kl.out.c1
  have P := hid (rdrop_any w24 _ (.agg #[.slice ra l.reads.length rc, .slice la l.levels.length lc]) l Kl.out.val HF.out)
  rw [← HRadrop.out] at P
  go_wp2_with fail
  refine P.out.mono ?_
  rintro e w25 ⟨rabdrop, rcbdrop, labdrop, lcbdrop, rfl, hv, b⟩
  clear P
  clear cl0 cl1
  have hvbdrop : GVal w25 (nin [Bbpush, Bapush]) (.agg #[.slice rabdrop ladrop.reads.length rcbdrop, .slice labdrop ladrop.levels.length lcbdrop]) ladrop := GVal.weak hv (fun b _ h => nin_res HS.out h)
  clear hv
  replace Kl := hid (Kl.out.more b)
  replace Kbmerge := hid (Kbmerge.out.more b)
  replace Kadrop := hid (Kadrop.out.more b)
  replace HB : Hid (Below w.heap.size w _) := HB.out.trans (b.mono HB.out.size)
  replace HS : Hid (∀ x ∈ ([Bbpush, Bapush] : List Nat), x < _) := fun x hx => Nat.lt_of_lt_of_le (HS.out x hx) b.size
  clear b
  have q0 : w25.cell? ⟨Bbpush, 0, none⟩ = some (.slice rabmerge lamerge.reads.length rcbmerge) := Kbmerge.out.c0
  have q1 : w25.cell? ⟨Bbpush, 1, none⟩ = some (.slice labmerge lamerge.levels.length lcbmerge) := Kbmerge.out.c1
  have qf : ∀ i, w25.frozen? ⟨Bbpush, i, none⟩ = false := Kbmerge.out.fz
  go_upto_region 12 with (fail)
  clear q0 q1 qf
  have Kn := hid (Kbmerge.out.put hBwbpush (fun b h => nin_ne h (by simp)) hvbdrop)
  have bs := (HB.out.setCell (p := ⟨Bbpush, 0, none⟩) hBwbpush (.slice rabdrop ladrop.reads.length rcbdrop)).setCell (p := ⟨Bbpush, 1, none⟩) hBwbpush (.slice labdrop ladrop.levels.length lcbdrop)
  replace Kl := hid (Kl.out.other hBwbpush (by first | assumption | exact Ne.symm (by assumption)) (fun b h => nin_ne h (by simp)) (.slice rabdrop ladrop.reads.length rcbdrop) (.slice labdrop ladrop.levels.length lcbdrop))
  replace Kadrop := hid (Kadrop.out.other hBwbpush (by first | assumption | exact Ne.symm (by assumption)) (fun b h => nin_ne h (by simp)) (.slice rabdrop ladrop.reads.length rcbdrop) (.slice labdrop ladrop.levels.length lcbdrop))
  replace HS : Hid (∀ x ∈ ([Bbpush, Bapush] : List Nat), x < ((w25.setCell ⟨Bbpush, 0, none⟩ (.slice rabdrop ladrop.reads.length rcbdrop)).setCell ⟨Bbpush, 1, none⟩ (.slice labdrop ladrop.levels.length lcbdrop)).heap.size) := fun x hx => by rw [size_set2]; exact HS.out x hx
  obtain ⟨w26, hw⟩ : ∃ z, (w25.setCell ⟨Bbpush, 0, none⟩ (.slice rabdrop ladrop.reads.length rcbdrop)).setCell ⟨Bbpush, 1, none⟩ (.slice labdrop ladrop.levels.length lcbdrop) = z := ⟨_, rfl⟩
  rw [hw] at Kl Kadrop Kn HS bs ⊢
  replace HB := hid bs
  clear hw hvbdrop Kbmerge bs
  have Kbdrop := Kn
  clear Kn
  have hs : decide (ladrop = ladrop) = true := by simp
  have cadrop0 : w26.cell? ⟨Bapush, 0, none⟩ = some (.slice raadrop ladrop.reads.length rcadrop) := Kadrop.out.c0
  have cadrop1 : w26.cell? ⟨Bapush, 1, none⟩ = some (.slice laadrop ladrop.levels.length lcadrop) := Kadrop.out.c1
  have cbdrop0 : w26.cell? ⟨Bbpush, 0, none⟩ = some (.slice rabdrop ladrop.reads.length rcbdrop) := Kbdrop.out.c0
  have cbdrop1 : w26.cell? ⟨Bbpush, 1, none⟩ = some (.slice labdrop ladrop.levels.length lcbdrop) := Kbdrop.out.c1
  have P := hid (same_any w26 _ _ (.agg #[.slice raadrop ladrop.reads.length rcadrop, .slice laadrop ladrop.levels.length lcadrop]) (.agg #[.slice rabdrop ladrop.reads.length rcbdrop, .slice labdrop ladrop.levels.length lcbdrop]) ladrop ladrop Kadrop.out.val Kbdrop.out.val)
  rw [hs] at P
  clear hs
  go_wp2_with fail
  refine P.out.mono ?_
  rintro e w27 ⟨rfl, b⟩
  clear P
  clear cadrop0 cadrop1 cbdrop0 cbdrop1
  replace Kl := hid (Kl.out.more b)
  replace Kadrop := hid (Kadrop.out.more b)
  replace Kbdrop := hid (Kbdrop.out.more b)
  replace HB : Hid (Below w.heap.size w _) := HB.out.trans (b.mono HB.out.size)
  replace HS : Hid (∀ x ∈ ([Bbpush, Bapush] : List Nat), x < _) := fun x hx => Nat.lt_of_lt_of_le (HS.out x hx) b.size
  clear b
  go_upto_region 13 with (fail)
  obtain ⟨raputg, hraputg⟩ : ∃ r, r = putG l z n := ⟨_, rfl⟩
  obtain ⟨laputg, eaputg⟩ := raputg
  have HRaputg := hid hraputg
  have cl0 : w27.cell? ⟨w.heap.size, 0, none⟩ = some (.slice ra l.reads.length rc) := Kl.out.c0
  have cl1 : w27.cell? ⟨w.heap.size, 1, none⟩ = some (.slice la l.levels.length lc) := Kl.out.c1
  have P := hid (putg_any w27 _ (.agg #[.slice ra l.reads.length rc, .slice la l.levels.length lc]) l z n Kl.out.val hz hn HF.out)
  rw [← hraputg] at P
  clear hraputg
  go_wp2_with fail
  refine P.out.mono ?_
  rintro e w28 ⟨raaputg, rcaputg, laaputg, lcaputg, rfl, hv, b⟩
  clear P
  clear cl0 cl1
  have hvaputg : GVal w28 (nin [Bbpush, Bapush]) (.agg #[.slice raaputg laputg.reads.length rcaputg, .slice laaputg laputg.levels.length lcaputg]) laputg := GVal.weak hv (fun b _ h => nin_res HS.out h)
  clear hv
  replace Kl := hid (Kl.out.more b)
  replace Kadrop := hid (Kadrop.out.more b)
  replace Kbdrop := hid (Kbdrop.out.more b)
  replace HB : Hid (Below w.heap.size w _) := HB.out.trans (b.mono HB.out.size)
  replace HS : Hid (∀ x ∈ ([Bbpush, Bapush] : List Nat), x < _) := fun x hx => Nat.lt_of_lt_of_le (HS.out x hx) b.size
  clear b
  have q0 : w28.cell? ⟨Bapush, 0, none⟩ = some (.slice raadrop ladrop.reads.length rcadrop) := Kadrop.out.c0
  have q1 : w28.cell? ⟨Bapush, 1, none⟩ = some (.slice laadrop ladrop.levels.length lcadrop) := Kadrop.out.c1
  have qf : ∀ i, w28.frozen? ⟨Bapush, i, none⟩ = false := Kadrop.out.fz
  go_upto_region 14 with (fail)
  clear q0 q1 qf
  have Kn := hid (Kadrop.out.put hBwapush (fun b h => nin_ne h (by simp)) hvaputg)
  have bs := (HB.out.setCell (p := ⟨Bapush, 0, none⟩) hBwapush (.slice raaputg laputg.reads.length rcaputg)).setCell (p := ⟨Bapush, 1, none⟩) hBwapush (.slice laaputg laputg.levels.length lcaputg)
  replace Kl := hid (Kl.out.other hBwapush (by first | assumption | exact Ne.symm (by assumption)) (fun b h => nin_ne h (by simp)) (.slice raaputg laputg.reads.length rcaputg) (.slice laaputg laputg.levels.length lcaputg))
  replace Kbdrop := hid (Kbdrop.out.other hBwapush (by first | assumption | exact Ne.symm (by assumption)) (fun b h => nin_ne h (by simp)) (.slice raaputg laputg.reads.length rcaputg) (.slice laaputg laputg.levels.length lcaputg))
  replace HS : Hid (∀ x ∈ ([Bbpush, Bapush] : List Nat), x < ((w28.setCell ⟨Bapush, 0, none⟩ (.slice raaputg laputg.reads.length rcaputg)).setCell ⟨Bapush, 1, none⟩ (.slice laaputg laputg.levels.length lcaputg)).heap.size) := fun x hx => by rw [size_set2]; exact HS.out x hx
  obtain ⟨w29, hw⟩ : ∃ z, (w28.setCell ⟨Bapush, 0, none⟩ (.slice raaputg laputg.reads.length rcaputg)).setCell ⟨Bapush, 1, none⟩ (.slice laaputg laputg.levels.length lcaputg) = z := ⟨_, rfl⟩
  rw [hw] at Kl Kbdrop Kn HS bs ⊢
  replace HB := hid bs
  clear hw hvaputg Kadrop bs
  have Kaputg := Kn
  clear Kn
  have cl0 : w29.cell? ⟨w.heap.size, 0, none⟩ = some (.slice ra l.reads.length rc) := Kl.out.c0
  have cl1 : w29.cell? ⟨w.heap.size, 1, none⟩ = some (.slice la l.levels.length lc) := Kl.out.c1
  have P := hid (rputg_any w29 _ (.agg #[.slice ra l.reads.length rc, .slice la l.levels.length lc]) l z n Kl.out.val hz hn HF.out)
  rw [← HRaputg.out] at P
  go_wp2_with fail
  refine P.out.mono ?_
  rintro e w30 ⟨rabputg, rcbputg, labputg, lcbputg, rfl, hv, b⟩
  clear P
  clear cl0 cl1
  have hvbputg : GVal w30 (nin [Bbpush, Bapush]) (.agg #[.slice rabputg laputg.reads.length rcbputg, .slice labputg laputg.levels.length lcbputg]) laputg := GVal.weak hv (fun b _ h => nin_res HS.out h)
  clear hv
  replace Kl := hid (Kl.out.more b)
  replace Kbdrop := hid (Kbdrop.out.more b)
  replace Kaputg := hid (Kaputg.out.more b)
  replace HB : Hid (Below w.heap.size w _) := HB.out.trans (b.mono HB.out.size)
  replace HS : Hid (∀ x ∈ ([Bbpush, Bapush] : List Nat), x < _) := fun x hx => Nat.lt_of_lt_of_le (HS.out x hx) b.size
  clear b
  have q0 : w30.cell? ⟨Bbpush, 0, none⟩ = some (.slice rabdrop ladrop.reads.length rcbdrop) := Kbdrop.out.c0
  have q1 : w30.cell? ⟨Bbpush, 1, none⟩ = some (.slice labdrop ladrop.levels.length lcbdrop) := Kbdrop.out.c1
  have qf : ∀ i, w30.frozen? ⟨Bbpush, i, none⟩ = false := Kbdrop.out.fz
  go_upto_region 15 with (fail)
  clear q0 q1 qf
  have Kn := hid (Kbdrop.out.put hBwbpush (fun b h => nin_ne h (by simp)) hvbputg)
  have bs := (HB.out.setCell (p := ⟨Bbpush, 0, none⟩) hBwbpush (.slice rabputg laputg.reads.length rcbputg)).setCell (p := ⟨Bbpush, 1, none⟩) hBwbpush (.slice labputg laputg.levels.length lcbputg)
  replace Kl := hid (Kl.out.other hBwbpush (by first | assumption | exact Ne.symm (by assumption)) (fun b h => nin_ne h (by simp)) (.slice rabputg laputg.reads.length rcbputg) (.slice labputg laputg.levels.length lcbputg))
  replace Kaputg := hid (Kaputg.out.other hBwbpush (by first | assumption | exact Ne.symm (by assumption)) (fun b h => nin_ne h (by simp)) (.slice rabputg laputg.reads.length rcbputg) (.slice labputg laputg.levels.length lcbputg))
  replace HS : Hid (∀ x ∈ ([Bbpush, Bapush] : List Nat), x < ((w30.setCell ⟨Bbpush, 0, none⟩ (.slice rabputg laputg.reads.length rcbputg)).setCell ⟨Bbpush, 1, none⟩ (.slice labputg laputg.levels.length lcbputg)).heap.size) := fun x hx => by rw [size_set2]; exact HS.out x hx
  obtain ⟨w31, hw⟩ : ∃ z, (w30.setCell ⟨Bbpush, 0, none⟩ (.slice rabputg laputg.reads.length rcbputg)).setCell ⟨Bbpush, 1, none⟩ (.slice labputg laputg.levels.length lcbputg) = z := ⟨_, rfl⟩
  rw [hw] at Kl Kaputg Kn HS bs ⊢
  replace HB := hid bs
  clear hw hvbputg Kbdrop bs
  have Kbputg := Kn
  clear Kn
  have hs : decide (laputg = laputg) = true := by simp
  have caputg0 : w31.cell? ⟨Bapush, 0, none⟩ = some (.slice raaputg laputg.reads.length rcaputg) := Kaputg.out.c0
  have caputg1 : w31.cell? ⟨Bapush, 1, none⟩ = some (.slice laaputg laputg.levels.length lcaputg) := Kaputg.out.c1
  have cbputg0 : w31.cell? ⟨Bbpush, 0, none⟩ = some (.slice rabputg laputg.reads.length rcbputg) := Kbputg.out.c0
  have cbputg1 : w31.cell? ⟨Bbpush, 1, none⟩ = some (.slice labputg laputg.levels.length lcbputg) := Kbputg.out.c1
  have P := hid (same_any w31 _ _ (.agg #[.slice raaputg laputg.reads.length rcaputg, .slice laaputg laputg.levels.length lcaputg]) (.agg #[.slice rabputg laputg.reads.length rcbputg, .slice labputg laputg.levels.length lcbputg]) laputg laputg Kaputg.out.val Kbputg.out.val)
  rw [hs] at P
  clear hs
  go_wp2_with fail
  refine P.out.mono ?_
  rintro e w32 ⟨rfl, b⟩
  clear P
  clear caputg0 caputg1 cbputg0 cbputg1
  replace Kl := hid (Kl.out.more b)
  replace Kaputg := hid (Kaputg.out.more b)
  replace Kbputg := hid (Kbputg.out.more b)
  replace HB : Hid (Below w.heap.size w _) := HB.out.trans (b.mono HB.out.size)
  replace HS : Hid (∀ x ∈ ([Bbpush, Bapush] : List Nat), x < _) := fun x hx => Nat.lt_of_lt_of_le (HS.out x hx) b.size
  clear b
  go_upto_region 16 with (fail)
  obtain ⟨ranote, hranote⟩ : ∃ r, r = noteG l z n := ⟨_, rfl⟩
  obtain ⟨lanote, eanote⟩ := ranote
  have HRanote := hid hranote
  have cl0 : w32.cell? ⟨w.heap.size, 0, none⟩ = some (.slice ra l.reads.length rc) := Kl.out.c0
  have cl1 : w32.cell? ⟨w.heap.size, 1, none⟩ = some (.slice la l.levels.length lc) := Kl.out.c1
  have P := hid (note_any w32 _ (.agg #[.slice ra l.reads.length rc, .slice la l.levels.length lc]) l z n Kl.out.val hz hn HF.out)
  rw [← hranote] at P
  clear hranote
  go_wp2_with fail
  refine P.out.mono ?_
  rintro e w33 ⟨raanote, rcanote, laanote, lcanote, rfl, hv, b⟩
  clear P
  clear cl0 cl1
  have hvanote : GVal w33 (nin [Bbpush, Bapush]) (.agg #[.slice raanote lanote.reads.length rcanote, .slice laanote lanote.levels.length lcanote]) lanote := GVal.weak hv (fun b _ h => nin_res HS.out h)
  clear hv
  replace Kl := hid (Kl.out.more b)
  replace Kaputg := hid (Kaputg.out.more b)
  replace Kbputg := hid (Kbputg.out.more b)
  replace HB : Hid (Below w.heap.size w _) := HB.out.trans (b.mono HB.out.size)
  replace HS : Hid (∀ x ∈ ([Bbpush, Bapush] : List Nat), x < _) := fun x hx => Nat.lt_of_lt_of_le (HS.out x hx) b.size
  clear b
  have q0 : w33.cell? ⟨Bapush, 0, none⟩ = some (.slice raaputg laputg.reads.length rcaputg) := Kaputg.out.c0
  have q1 : w33.cell? ⟨Bapush, 1, none⟩ = some (.slice laaputg laputg.levels.length lcaputg) := Kaputg.out.c1
  have qf : ∀ i, w33.frozen? ⟨Bapush, i, none⟩ = false := Kaputg.out.fz
  go_upto_region 17 with (fail)
  clear q0 q1 qf
  have Kn := hid (Kaputg.out.put hBwapush (fun b h => nin_ne h (by simp)) hvanote)
  have bs := (HB.out.setCell (p := ⟨Bapush, 0, none⟩) hBwapush (.slice raanote lanote.reads.length rcanote)).setCell (p := ⟨Bapush, 1, none⟩) hBwapush (.slice laanote lanote.levels.length lcanote)
  replace Kl := hid (Kl.out.other hBwapush (by first | assumption | exact Ne.symm (by assumption)) (fun b h => nin_ne h (by simp)) (.slice raanote lanote.reads.length rcanote) (.slice laanote lanote.levels.length lcanote))
  replace Kbputg := hid (Kbputg.out.other hBwapush (by first | assumption | exact Ne.symm (by assumption)) (fun b h => nin_ne h (by simp)) (.slice raanote lanote.reads.length rcanote) (.slice laanote lanote.levels.length lcanote))
  replace HS : Hid (∀ x ∈ ([Bbpush, Bapush] : List Nat), x < ((w33.setCell ⟨Bapush, 0, none⟩ (.slice raanote lanote.reads.length rcanote)).setCell ⟨Bapush, 1, none⟩ (.slice laanote lanote.levels.length lcanote)).heap.size) := fun x hx => by rw [size_set2]; exact HS.out x hx
  obtain ⟨w34, hw⟩ : ∃ z, (w33.setCell ⟨Bapush, 0, none⟩ (.slice raanote lanote.reads.length rcanote)).setCell ⟨Bapush, 1, none⟩ (.slice laanote lanote.levels.length lcanote) = z := ⟨_, rfl⟩
  rw [hw] at Kl Kbputg Kn HS bs ⊢
  replace HB := hid bs
  clear hw hvanote Kaputg bs
  have Kanote := Kn
  clear Kn
  have cl0 : w34.cell? ⟨w.heap.size, 0, none⟩ = some (.slice ra l.reads.length rc) := Kl.out.c0
  have cl1 : w34.cell? ⟨w.heap.size, 1, none⟩ = some (.slice la l.levels.length lc) := Kl.out.c1
  have P := hid (rnote_any w34 _ (.agg #[.slice ra l.reads.length rc, .slice la l.levels.length lc]) l z n Kl.out.val hz hn HF.out)
  rw [← HRanote.out] at P
  go_wp2_with fail
  refine P.out.mono ?_
  rintro e w35 ⟨rabnote, rcbnote, labnote, lcbnote, rfl, hv, b⟩
  clear P
  clear cl0 cl1
  have hvbnote : GVal w35 (nin [Bbpush, Bapush]) (.agg #[.slice rabnote lanote.reads.length rcbnote, .slice labnote lanote.levels.length lcbnote]) lanote := GVal.weak hv (fun b _ h => nin_res HS.out h)
  clear hv
  replace Kl := hid (Kl.out.more b)
  replace Kbputg := hid (Kbputg.out.more b)
  replace Kanote := hid (Kanote.out.more b)
  replace HB : Hid (Below w.heap.size w _) := HB.out.trans (b.mono HB.out.size)
  replace HS : Hid (∀ x ∈ ([Bbpush, Bapush] : List Nat), x < _) := fun x hx => Nat.lt_of_lt_of_le (HS.out x hx) b.size
  clear b
  have q0 : w35.cell? ⟨Bbpush, 0, none⟩ = some (.slice rabputg laputg.reads.length rcbputg) := Kbputg.out.c0
  have q1 : w35.cell? ⟨Bbpush, 1, none⟩ = some (.slice labputg laputg.levels.length lcbputg) := Kbputg.out.c1
  have qf : ∀ i, w35.frozen? ⟨Bbpush, i, none⟩ = false := Kbputg.out.fz
  go_upto_region 18 with (fail)
  clear q0 q1 qf
  have Kn := hid (Kbputg.out.put hBwbpush (fun b h => nin_ne h (by simp)) hvbnote)
  have bs := (HB.out.setCell (p := ⟨Bbpush, 0, none⟩) hBwbpush (.slice rabnote lanote.reads.length rcbnote)).setCell (p := ⟨Bbpush, 1, none⟩) hBwbpush (.slice labnote lanote.levels.length lcbnote)
  replace Kl := hid (Kl.out.other hBwbpush (by first | assumption | exact Ne.symm (by assumption)) (fun b h => nin_ne h (by simp)) (.slice rabnote lanote.reads.length rcbnote) (.slice labnote lanote.levels.length lcbnote))
  replace Kanote := hid (Kanote.out.other hBwbpush (by first | assumption | exact Ne.symm (by assumption)) (fun b h => nin_ne h (by simp)) (.slice rabnote lanote.reads.length rcbnote) (.slice labnote lanote.levels.length lcbnote))
  replace HS : Hid (∀ x ∈ ([Bbpush, Bapush] : List Nat), x < ((w35.setCell ⟨Bbpush, 0, none⟩ (.slice rabnote lanote.reads.length rcbnote)).setCell ⟨Bbpush, 1, none⟩ (.slice labnote lanote.levels.length lcbnote)).heap.size) := fun x hx => by rw [size_set2]; exact HS.out x hx
  obtain ⟨w36, hw⟩ : ∃ z, (w35.setCell ⟨Bbpush, 0, none⟩ (.slice rabnote lanote.reads.length rcbnote)).setCell ⟨Bbpush, 1, none⟩ (.slice labnote lanote.levels.length lcbnote) = z := ⟨_, rfl⟩
  rw [hw] at Kl Kanote Kn HS bs ⊢
  replace HB := hid bs
  clear hw hvbnote Kbputg bs
  have Kbnote := Kn
  clear Kn
  have hs : decide (lanote = lanote) = true := by simp
  have canote0 : w36.cell? ⟨Bapush, 0, none⟩ = some (.slice raanote lanote.reads.length rcanote) := Kanote.out.c0
  have canote1 : w36.cell? ⟨Bapush, 1, none⟩ = some (.slice laanote lanote.levels.length lcanote) := Kanote.out.c1
  have cbnote0 : w36.cell? ⟨Bbpush, 0, none⟩ = some (.slice rabnote lanote.reads.length rcbnote) := Kbnote.out.c0
  have cbnote1 : w36.cell? ⟨Bbpush, 1, none⟩ = some (.slice labnote lanote.levels.length lcbnote) := Kbnote.out.c1
  have P := hid (same_any w36 _ _ (.agg #[.slice raanote lanote.reads.length rcanote, .slice laanote lanote.levels.length lcanote]) (.agg #[.slice rabnote lanote.reads.length rcbnote, .slice labnote lanote.levels.length lcbnote]) lanote lanote Kanote.out.val Kbnote.out.val)
  rw [hs] at P
  clear hs
  go_wp2_with fail
  refine P.out.mono ?_
  rintro e w37 ⟨rfl, b⟩
  clear P
  clear canote0 canote1 cbnote0 cbnote1
  replace Kl := hid (Kl.out.more b)
  replace Kanote := hid (Kanote.out.more b)
  replace Kbnote := hid (Kbnote.out.more b)
  replace HB : Hid (Below w.heap.size w _) := HB.out.trans (b.mono HB.out.size)
  replace HS : Hid (∀ x ∈ ([Bbpush, Bapush] : List Nat), x < _) := fun x hx => Nat.lt_of_lt_of_le (HS.out x hx) b.size
  clear b
  go_upto_region 19 with (fail)
  obtain ⟨rg, hrg⟩ : ∃ r, r = getG l z := ⟨_, rfl⟩
  obtain ⟨gx, gi⟩ := rg
  have HRG := hid hrg
  clear hrg
  have cl0 : w37.cell? ⟨w.heap.size, 0, none⟩ = some (.slice ra l.reads.length rc) := Kl.out.c0
  have cl1 : w37.cell? ⟨w.heap.size, 1, none⟩ = some (.slice la l.levels.length lc) := Kl.out.c1
  have P := hid (get_any w37 _ (.agg #[.slice ra l.reads.length rc, .slice la l.levels.length lc]) l z Kl.out.val hz HF.out)
  rw [← HRG.out] at P
  go_wp2_with fail
  refine P.out.mono ?_
  rintro e w38 ⟨rfl, b⟩
  clear P
  clear cl0 cl1
  replace Kl := hid (Kl.out.more b)
  replace Kanote := hid (Kanote.out.more b)
  replace Kbnote := hid (Kbnote.out.more b)
  replace HB : Hid (Below w.heap.size w _) := HB.out.trans (b.mono HB.out.size)
  replace HS : Hid (∀ x ∈ ([Bbpush, Bapush] : List Nat), x < _) := fun x hx => Nat.lt_of_lt_of_le (HS.out x hx) b.size
  clear b
  go_upto_region 20 with (fail)
  have cl0 : w38.cell? ⟨w.heap.size, 0, none⟩ = some (.slice ra l.reads.length rc) := Kl.out.c0
  have cl1 : w38.cell? ⟨w.heap.size, 1, none⟩ = some (.slice la l.levels.length lc) := Kl.out.c1
  have P := hid (rget_any w38 _ (.agg #[.slice ra l.reads.length rc, .slice la l.levels.length lc]) l z Kl.out.val hz)
  rw [← HRG.out] at P
  go_wp2_with fail
  refine P.out.mono ?_
  rintro e w39 ⟨rfl, b⟩
  clear P
  clear cl0 cl1
  replace Kl := hid (Kl.out.more b)
  replace Kanote := hid (Kanote.out.more b)
  replace Kbnote := hid (Kbnote.out.more b)
  replace HB : Hid (Below w.heap.size w _) := HB.out.trans (b.mono HB.out.size)
  replace HS : Hid (∀ x ∈ ([Bbpush, Bapush] : List Nat), x < _) := fun x hx => Nat.lt_of_lt_of_le (HS.out x hx) b.size
  clear b
  go_upto_region 21 with (fail)
  have C0 : Hid (w39.cell? ⟨w.heap.size, 0, none⟩ = some (.slice ra l.reads.length rc)) := Kl.out.c0
  have C1 : Hid (w39.cell? ⟨w.heap.size, 1, none⟩ = some (.slice la l.levels.length lc)) := Kl.out.c1
  have KV := hid (Kl.out.val.more (Below.refl w39.heap.size w39).drew)
  replace C0 : Hid (w39.drew.cell? ⟨w.heap.size, 0, none⟩ = some (.slice ra l.reads.length rc)) := C0
  replace C1 : Hid (w39.drew.cell? ⟨w.heap.size, 1, none⟩ = some (.slice la l.levels.length lc)) := C1
  obtain ⟨ck, hck⟩ : ∃ c, chkG l = c := ⟨_, rfl⟩
  have HCK := hid hck
  clear hck
  have HBD := hid (HB.out.trans ((Below.refl w39.heap.size w39).drew.mono HB.out.size))
  refine (wpIn_wide (n := 9)).1 ?_
  refine wpIn_region_held (fun W => Below w39.drew.heap.size w39.drew W) (by kernel_rfl) ?_
  obtain ⟨w5, hw5⟩ : ∃ w5, w39.drew = w5 := ⟨_, rfl⟩
  rw [hw5] at KV C0 C1 HBD ⊢
  clear hw5
  refine wpAnyHF_takeD (i := 0) 136 (v := .bool true) rfl rfl rfl (by kernel_rfl) (by kernel_rfl) (by kernel_rfl) (fun _ _ _ h => h) ⟨.inl ⟨rfl, fun W hW => by simp [execOp, go_sem]⟩, fun W => rfl⟩ (Below.refl _ _) ?_
  refine wpAnyHF_takeD (i := 1) 137 (v := .bool true) rfl rfl rfl (by kernel_rfl) (by kernel_rfl) (by kernel_rfl) (fun _ _ _ h => h) ⟨.inl ⟨rfl, fun W hW => by simp [execOp, go_sem]⟩, fun W => rfl⟩ (Below.refl _ _) ?_
  refine wpAnyHF_takeD (i := 2) 138 (v := .bool true) rfl rfl rfl (by kernel_rfl) (by kernel_rfl) (by kernel_rfl) (fun _ _ _ h => h) ⟨.inl ⟨rfl, fun W hW => by simp [execOp, go_sem]⟩, fun W => rfl⟩ (Below.refl _ _) ?_
  simp only [Act.put, List.setIfInBounds_toArray, List.set_cons_zero, List.set_cons_succ]
  refine wpAnyHF_takeD (i := 3) 139 (v := .bool true) rfl rfl rfl (by kernel_rfl) (by kernel_rfl) (by kernel_rfl) (fun _ _ _ h => h) ⟨.inl ⟨rfl, fun W hW => by simp [execOp, go_sem]⟩, fun W => rfl⟩ (Below.refl _ _) ?_
  refine wpAnyHF_takeD (i := 4) 140 (v := .bool true) rfl rfl rfl (by kernel_rfl) (by kernel_rfl) (by kernel_rfl) (fun _ _ _ h => h) ⟨.inl ⟨rfl, fun W hW => by simp [execOp, go_sem]⟩, fun W => rfl⟩ (Below.refl _ _) ?_
  refine wpAnyHF_takeD (i := 5) 141 (v := .bool true) rfl rfl rfl (by kernel_rfl) (by kernel_rfl) (by kernel_rfl) (fun _ _ _ h => h) ⟨.inl ⟨rfl, fun W hW => by simp [execOp, go_sem]⟩, fun W => rfl⟩ (Below.refl _ _) ?_
  simp only [Act.put, List.setIfInBounds_toArray, List.set_cons_zero, List.set_cons_succ]
  refine wpAnyHF_takeD (i := 6) 142 (v := .bool true) rfl rfl rfl (by kernel_rfl) (by kernel_rfl) (by kernel_rfl) (fun _ _ _ h => h) ⟨.inl ⟨rfl, fun W hW => by simp [execOp, go_sem]⟩, fun W => rfl⟩ (Below.refl _ _) ?_
  refine wpAnyHF_takeD (i := 7) 143 (v := .bool true) rfl rfl rfl (by kernel_rfl) (by kernel_rfl) (by kernel_rfl) (fun _ _ _ h => h) ⟨.inl ⟨rfl, fun W hW => by simp [execOp, go_sem]⟩, fun W => rfl⟩ (Below.refl _ _) ?_
  refine wpAnyHF_takeD (i := 8) 144 (v := .bool true) rfl rfl rfl (by kernel_rfl) (by kernel_rfl) (by kernel_rfl) (fun _ _ _ h => h) ⟨.inl ⟨rfl, fun W hW => by simp [execOp, go_sem]⟩, fun W => rfl⟩ (Below.refl _ _) ?_
  simp only [Act.put, List.setIfInBounds_toArray, List.set_cons_zero, List.set_cons_succ]
  refine wpAnyHF_takeD (i := 9) 145 (v := .bool true) rfl rfl rfl (by kernel_rfl) (by kernel_rfl) (by kernel_rfl) (fun _ _ _ h => h) ⟨.inl ⟨rfl, fun W hW => by simp [execOp, go_sem]⟩, fun W => rfl⟩ (Below.refl _ _) ?_
  refine wpAnyHF_takeD (i := 10) 146 (v := .bool true) rfl rfl rfl (by kernel_rfl) (by kernel_rfl) (by kernel_rfl) (fun _ _ _ h => h) ⟨.inl ⟨rfl, fun W hW => by simp [execOp, go_sem]⟩, fun W => rfl⟩ (Below.refl _ _) ?_
  refine wpAnyHF_takeD (i := 11) 147 (v := .bool true) rfl rfl rfl (by kernel_rfl) (by kernel_rfl) (by kernel_rfl) (fun _ _ _ h => h) ⟨.inl ⟨rfl, fun W hW => by simp [execOp, go_sem]⟩, fun W => rfl⟩ (Below.refl _ _) ?_
  simp only [Act.put, List.setIfInBounds_toArray, List.set_cons_zero, List.set_cons_succ]
  refine wpAnyHF_takeD (i := 12) 148 (v := .bool true) rfl rfl rfl (by kernel_rfl) (by kernel_rfl) (by kernel_rfl) (fun _ _ _ h => h) ⟨.inl ⟨rfl, fun W hW => by simp [execOp, go_sem]⟩, fun W => rfl⟩ (Below.refl _ _) ?_
  refine wpAnyHF_takeD (i := 13) 149 (v := .bool true) rfl rfl rfl (by kernel_rfl) (by kernel_rfl) (by kernel_rfl) (fun _ _ _ h => h) ⟨.inl ⟨rfl, fun W hW => by simp [execOp, go_sem]⟩, fun W => rfl⟩ (Below.refl _ _) ?_
  refine wpAnyHF_takeD (i := 14) 150 (v := .bool true) rfl rfl rfl (by kernel_rfl) (by kernel_rfl) (by kernel_rfl) (fun _ _ _ h => h) ⟨.inl ⟨rfl, fun W hW => by simp [execOp, go_sem]⟩, fun W => rfl⟩ (Below.refl _ _) ?_
  simp only [Act.put, List.setIfInBounds_toArray, List.set_cons_zero, List.set_cons_succ]
  refine wpAnyHF_takeD (i := 15) 151 (v := .bool true) rfl rfl rfl (by kernel_rfl) (by kernel_rfl) (by kernel_rfl) (fun _ _ _ h => h) ⟨.inl ⟨rfl, fun W hW => by simp [execOp, go_sem]⟩, fun W => rfl⟩ (Below.refl _ _) ?_
  refine wpAnyHF_takeD (i := 16) 152 (v := .bool true) rfl rfl rfl (by kernel_rfl) (by kernel_rfl) (by kernel_rfl) (fun _ _ _ h => h) ⟨.inl ⟨rfl, fun W hW => by simp [execOp, go_sem]⟩, fun W => rfl⟩ (Below.refl _ _) ?_
  refine wpAnyHF_takeD (i := 17) 153 (v := .int .i64 gx) rfl rfl rfl (by kernel_rfl) (by kernel_rfl) (by kernel_rfl) (fun _ _ _ h => h) ⟨.inl ⟨rfl, fun W hW => by simp [execOp, go_sem]⟩, fun W => rfl⟩ (Below.refl _ _) ?_
  simp only [Act.put, List.setIfInBounds_toArray, List.set_cons_zero, List.set_cons_succ]
  refine wpAnyHF_takeD (i := 18) 154 (v := .int .i64 gx) rfl rfl rfl (by kernel_rfl) (by kernel_rfl) (by kernel_rfl) (fun _ _ _ h => h) ⟨.inl ⟨rfl, fun W hW => by simp [execOp, go_sem]⟩, fun W => rfl⟩ (Below.refl _ _) ?_
  refine wpAnyHF_takeD (i := 19) 155 (v := .bool true) rfl rfl rfl (by kernel_rfl) (by kernel_rfl) (by kernel_rfl) (fun _ _ _ h => h) ⟨.inl ⟨rfl, fun W hW => by simp [execOp, go_sem]⟩, fun W => rfl⟩ (Below.refl _ _) ?_
  refine wpAnyHF_takeD (i := 20) 156 (v := .bool true) rfl rfl rfl (by kernel_rfl) (by kernel_rfl) (by kernel_rfl) (fun _ _ _ h => h) ⟨.inl ⟨rfl, fun W hW => by simp [execOp, go_sem]⟩, fun W => rfl⟩ (Below.refl _ _) ?_
  simp only [Act.put, List.setIfInBounds_toArray, List.set_cons_zero, List.set_cons_succ]
  refine wpAnyHF_takeD (i := 21) 157 (v := .bool true) rfl rfl rfl (by kernel_rfl) (by kernel_rfl) (by kernel_rfl) (fun _ _ _ h => h) ⟨.inl ⟨rfl, fun W hW => by simp [execOp, go_sem]⟩, fun W => rfl⟩ (Below.refl _ _) ?_
  refine wpAnyHF_takeD (i := 22) 158 (v := .bool gi) rfl rfl rfl (by kernel_rfl) (by kernel_rfl) (by kernel_rfl) (fun _ _ _ h => h) ⟨.inl ⟨rfl, fun W hW => by simp [execOp, go_sem]⟩, fun W => rfl⟩ (Below.refl _ _) ?_
  refine wpAnyHF_takeD (i := 23) 159 (v := .bool gi) rfl rfl rfl (by kernel_rfl) (by kernel_rfl) (by kernel_rfl) (fun _ _ _ h => h) ⟨.inl ⟨rfl, fun W hW => by simp [execOp, go_sem]⟩, fun W => rfl⟩ (Below.refl _ _) ?_
  simp only [Act.put, List.setIfInBounds_toArray, List.set_cons_zero, List.set_cons_succ]
  refine wpAnyHF_takeD (i := 24) 160 (v := .bool true) rfl rfl rfl (by kernel_rfl) (by kernel_rfl) (by kernel_rfl) (fun _ _ _ h => h) ⟨.inl ⟨rfl, fun W hW => by simp [execOp, go_sem]⟩, fun W => rfl⟩ (Below.refl _ _) ?_
  refine wpAnyHF_takeD (i := 25) 161 (v := .bool true) rfl rfl rfl (by kernel_rfl) (by kernel_rfl) (by kernel_rfl) (fun _ _ _ h => h) ⟨.inl ⟨rfl, fun W hW => by simp [execOp, go_sem]⟩, fun W => rfl⟩ (Below.refl _ _) ?_
  refine wpAnyHF_takeD (i := 26) 162 (v := .bool true) rfl rfl rfl (by kernel_rfl) (by kernel_rfl) (by kernel_rfl) (fun _ _ _ h => h) ⟨.inl ⟨rfl, fun W hW => by simp [execOp, go_sem]⟩, fun W => rfl⟩ (Below.refl _ _) ?_
  simp only [Act.put, List.setIfInBounds_toArray, List.set_cons_zero, List.set_cons_succ]
  refine wpAnyHF_takeD (i := 27) 163 (v := .agg #[.slice ra l.reads.length rc, .slice la l.levels.length lc]) rfl rfl rfl (by kernel_rfl) (by kernel_rfl) (by kernel_rfl) (fun _ _ _ h => h) ⟨.inl ⟨rfl, fun W hW => by have m0 := later_cell hW C0.out; have m1 := later_cell hW C1.out; simp [execOp, go_sem, m0, m1]⟩, fun W => rfl⟩ (Below.refl _ _) ?_
  refine wpAnyHF_takeD (i := 29) 165 (v := .agg #[.slice ra l.reads.length rc, .slice la l.levels.length lc]) rfl rfl rfl (by kernel_rfl) (by kernel_rfl) (by kernel_rfl) (fun _ _ _ h => h) ⟨.inl ⟨rfl, fun W hW => by have m0 := later_cell hW C0.out; have m1 := later_cell hW C1.out; simp [execOp, go_sem, m0, m1]⟩, fun W => rfl⟩ (Below.refl _ _) ?_
  refine wpAnyHF_one (i := 28) (by kernel_rfl) rfl rfl ?_
  refine wpIn_callD 164 rfl (P := Try.prog) (f := 23) (args := #[.agg #[.slice ra l.reads.length rc, .slice la l.levels.length lc]]) (by simp [execOp, resolve, invoke, go_sem]) ?_
  refine (HCK.out ▸ check_any _ _ _ l (KV.out.more (Below.refl _ _))).mono ?_
  rintro e x1 ⟨rfl, bx1'⟩
  have bx1 := bx1'
  refine ⟨_, rfl, bx1, ?_⟩
  simp only [Act.put, List.setIfInBounds_toArray, List.set_cons_zero, List.set_cons_succ]
  refine wpAnyHF_one (i := 30) (by kernel_rfl) rfl rfl ?_
  refine wpIn_callD 166 rfl (P := Try.prog) (f := 24) (args := #[.agg #[.slice ra l.reads.length rc, .slice la l.levels.length lc]]) (by simp [execOp, resolve, invoke, go_sem]) ?_
  refine (HCK.out ▸ rcheckg_any _ _ _ l (KV.out.more bx1)).mono ?_
  rintro e x2 ⟨rfl, bx2'⟩
  have bx2 := bx1.trans (bx2'.mono bx1.size)
  refine ⟨_, rfl, bx2, ?_⟩
  simp only [Act.put, List.setIfInBounds_toArray, List.set_cons_zero, List.set_cons_succ]
  refine wpAnyHF_takeD (i := 31) 167 (v := .bool true) rfl rfl rfl (by kernel_rfl) (by kernel_rfl) (by kernel_rfl) (fun _ _ _ h => h) ⟨.inl ⟨rfl, fun W hW => by simp [execOp, go_sem]⟩, fun W => rfl⟩ bx2 ?_
  refine wpAnyHF_takeD (i := 32) 168 (v := .bool true) rfl rfl rfl (by kernel_rfl) (by kernel_rfl) (by kernel_rfl) (fun _ _ _ h => h) ⟨.inl ⟨rfl, fun W hW => by simp [execOp, go_sem]⟩, fun W => rfl⟩ bx2 ?_
  refine wpAnyHF_takeD (i := 33) 169 (v := .bool true) rfl rfl rfl (by kernel_rfl) (by kernel_rfl) (by kernel_rfl) (fun _ _ _ h => h) ⟨.inl ⟨rfl, fun W hW => by simp [execOp, go_sem]⟩, fun W => rfl⟩ bx2 ?_
  simp only [Act.put, List.setIfInBounds_toArray, List.set_cons_zero, List.set_cons_succ]
  refine wpAnyHF_one (i := 34) (by kernel_rfl) rfl rfl ?_
  refine wpIn_callD 170 rfl (P := Try.prog) (f := 25) (args := #[]) (by simp [execOp, resolve, invoke, go_sem]) ?_
  refine (new_any _).mono ?_
  rintro e x3 ⟨na, nc, rfl, hN1, bx3'⟩
  have bx3 := bx2.trans (bx3'.mono bx2.size)
  refine ⟨_, rfl, bx3, ?_⟩
  simp only [Act.put, List.setIfInBounds_toArray, List.set_cons_zero, List.set_cons_succ]
  refine wpAnyHF_one (i := 35) (by kernel_rfl) rfl rfl ?_
  refine wpIn_callD 171 rfl (P := Try.prog) (f := 26) (args := #[]) (by simp [execOp, resolve, invoke, go_sem]) ?_
  refine (rnew_any _).mono ?_
  rintro e x4 ⟨ma, mc, rfl, hN2, bx4'⟩
  have bx4 := bx3.trans (bx4'.mono bx3.size)
  refine ⟨_, rfl, bx4, ?_⟩
  simp only [Act.put, List.setIfInBounds_toArray, List.set_cons_zero, List.set_cons_succ]
  refine wpAnyHF_one (i := 36) (by kernel_rfl) rfl rfl ?_
  refine wpIn_callD 172 rfl (P := Try.prog) (f := 12) (args := #[.agg #[.slice none 0 0, .slice na 1 nc], .agg #[.slice none 0 0, .slice ma 1 mc]]) (by simp [execOp, resolve, invoke, go_sem]) ?_
  refine (same_any _ _ _ _ _ (⟨[], [[]]⟩ : Lg) (⟨[], [[]]⟩ : Lg) (hN1.more bx4') hN2).mono ?_
  rintro e x5 ⟨rfl, bx5'⟩
  have bx5 := bx4.trans (bx5'.mono bx4.size)
  refine ⟨_, rfl, bx5, ?_⟩
  simp only [Act.put, List.setIfInBounds_toArray, List.set_cons_zero, List.set_cons_succ]
  refine wpAnyHF_takeD (i := 37) 173 (v := .bool true) rfl rfl rfl (by kernel_rfl) (by kernel_rfl) (by kernel_rfl) (fun _ _ _ h => h) ⟨.inl ⟨rfl, fun W hW => by simp [execOp, go_sem]⟩, fun W => rfl⟩ bx5 ?_
  refine wpAnyHF_takeD (i := 38) 6 (v := .bool true) rfl rfl rfl (by kernel_rfl) (by kernel_rfl) (by kernel_rfl) (fun _ _ _ h => h) ⟨.inl ⟨rfl, fun W hW => by simp [execOp, go_sem]⟩, fun W => rfl⟩ bx5 ?_
  simp only [Act.put, List.setIfInBounds_toArray, List.set_cons_zero, List.set_cons_succ]
  refine wpAnyHF_done (by kernel_rfl) ?_ _
  have HBF := hid (HBD.out.trans (bx5.mono HBD.out.size))
  clear bx1 bx2 bx3 bx4 bx5
  gi_wp2
  go_wp2_with fail
  go_ret
  exact Bb.fin rfl HBF.out
end Go.Proofs.Ytaajooemocdfgaa
