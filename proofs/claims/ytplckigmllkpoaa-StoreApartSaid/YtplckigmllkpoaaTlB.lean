/- tlog.place, put; the predicates of tlog. -/
import Derived.Test.YtplckigmllkpoaaTlA
namespace Go.Proofs.Ytplckigmllkpoaa
open Go.RowKit Go.Shelf
attribute [local go_sem] Oper.semAt_some
def hasV (t : Int) (x : Pr) : Bool := x.1 == t
def putL (l : List Pr) (x : Pr) : List Pr := match l.findIdx? (hasV x.1) with | some i => l.set i x | none => l ++ [x]
set_option maxHeartbeats 1000000 in
theorem containsR (g : Nat) (lb : Array Value) (eg : ∀ args w, (callFunc g args).run Try.prog w = .ok (.enter g args) w) (w : World) (ok : Nat → Prop) (v : Value) (xs : List Pr) (p : Pr → Bool)
    (h : PSl w ok v xs) (hp : PredP g lb p w) : Calls Try.prog 40 #[v, .func (.func g) #[] lb] w (Bb (decide (0 ≤ idxP xs p)) w) := by
  obtain ⟨z, hz⟩ : ∃ z, z = idxP xs p := ⟨_, rfl⟩
  have P := indexR g lb eg w ok v xs p h hp
  rw [← hz] at P ⊢
  have HP := hid P
  clear P h hp hz
  go_enter Try.func40, Try.ntmps40
  go_wp2_with fail
  refine HP.out.mono ?_
  rintro e w' ⟨rfl, hb⟩
  go_wp2_with fail
  go_ret
  exact Bb.fin rfl hb
set_option maxHeartbeats 1000000 in
theorem place1_pred (w : World) (B : Nat) (t : Int) (hB : w.cell? ⟨B, 0, none⟩ = some (.int .i64 t)) : PredP 57 #[.pointer (some ⟨B, 0, none⟩)] (hasV t) w := by
  rintro w' x hb hx hx2
  have hc : w'.cell? ⟨B, 0, none⟩ = some (.int .i64 t) := (hb.cell (World.block_lt_of_cell? w _ hB)).trans hB
  have hlt := World.block_lt_of_cell? w' _ hc
  simp only at hlt
  clear hB hb
  simp only [List.append_toArray, List.cons_append, List.nil_append]
  go_enter Try.func57, Try.ntmps57
  go_wp2
  go_ret
  exact Bb.fin rfl ((Below.refl _ _).alloc (Nat.le_refl _) _)
set_option maxHeartbeats 1000000 in
theorem note1_pred (w : World) (B : Nat) (t : Int) (hB : w.cell? ⟨B, 0, none⟩ = some (.int .i64 t)) : PredP 45 #[.pointer (some ⟨B, 0, none⟩)] (hasV t) w := by
  rintro w' x hb hx hx2
  have hc : w'.cell? ⟨B, 0, none⟩ = some (.int .i64 t) := (hb.cell (World.block_lt_of_cell? w _ hB)).trans hB
  have hlt := World.block_lt_of_cell? w' _ hc
  simp only at hlt
  clear hB hb
  simp only [List.append_toArray, List.cons_append, List.nil_append]
  go_enter Try.func45, Try.ntmps45
  go_wp2
  go_ret
  exact Bb.fin rfl ((Below.refl _ _).alloc (Nat.le_refl _) _)
set_option maxHeartbeats 1000000 in
theorem place_any (w : World) (ok : Nat → Prop) (v : Value) (xs : List Pr) (t : Int) (h : PSl w ok v xs) :
    Calls Try.prog 42 #[v, .int .i64 t] w (Ib (idxP xs (hasV t)) w) := by
  obtain ⟨a1, c1, rfl, l1, _⟩ := h.shape
  have hb0 : Below w.heap.size w (w.alloc (.cells #[.int .i64 t] 3)) := (Below.refl _ _).alloc (Nat.le_refl _) _
  have hc : (w.alloc (.cells #[.int .i64 t] 3)).cell? ⟨w.heap.size, 0, none⟩ = some (.int .i64 t) := cell_of (World.alloc_heap_new w _)
  obtain ⟨z, hz⟩ : ∃ z, z = idxP xs (hasV t) := ⟨_, rfl⟩
  have P := indexV 57 #[.pointer (some ⟨w.heap.size, 0, none⟩)] (enters_of Try.func57 (by kernel_rfl) rfl) _ _ _ xs _ (h.more hb0) (place1_pred _ w.heap.size t hc)
  rw [← hz] at P ⊢
  have HP := hid P
  have HB := hid hb0
  clear P h hz hb0 hc
  go_enter Try.func42, Try.ntmps42
  go_wp2_with fail
  refine HP.out.mono ?_
  rintro e w' ⟨rfl, hb⟩
  have BB := hid (HB.out.trans (hb.mono HB.out.size))
  clear HB hb HP
  go_wp2_with fail
  go_ret
  exact Ib.fin rfl BB.out
theorem idx_in (xs : List Pr) (p : Pr → Bool) (h : xs.length ≤ 1000000000) : In (idxP xs p) := by
  unfold idxP
  cases hf : xs.findIdx? p with
  | none => show In (-1); exact ⟨by omega, by omega⟩
  | some i => have := (List.findIdx?_eq_some_iff_getElem.1 hf).1; show In (i : Int); exact ⟨by omega, by omega⟩
set_option maxHeartbeats 2000000 in
theorem put_any (w : World) (ok : Nat → Prop) (v : Value) (xs : List Pr) (x : Pr) (h : PSl w ok v xs) (h1 : In x.1) (h2 : In x.2) (hlen : xs.length ≤ 1000000) :
    Calls Try.prog 44 #[v, .agg #[.int .i64 x.1, .int .i64 x.2]] w fun e w' => ∃ v', e = .returned v' ∧ OSl PairE 2 63 w.heap.size w' (fun _ => False) v' (putL xs x) ∧ Below w.heap.size w w' := by
  obtain ⟨a1, c1, rfl, l1, _⟩ := h.shape
  obtain ⟨W0, hW0⟩ : ∃ W0, w.alloc (Obj.cells #[.int .i64 x.1, .int .i64 x.2] 63) = W0 := ⟨_, rfl⟩
  have hb0 : Below w.heap.size w W0 := by rw [← hW0]; exact (Below.refl _ _).alloc (Nat.le_refl _) _
  have hz0 : W0.heap.size = w.heap.size + 1 := by rw [← hW0]; simp
  have hx0 : W0.heap[w.heap.size]? = some (Obj.cells #[.int .i64 x.1, .int .i64 x.2] 63) := by rw [← hW0]; exact World.alloc_heap_new _ _
  have HC := hid (cloneV W0 _ _ xs (h.more hb0) (by omega))
  have H0 := hid (And.intro hb0 (And.intro hz0 (And.intro hx0 (And.intro h1 h2))))
  have HW := hid hW0
  clear h hW0 hb0 hz0 hx0 h1 h2
  go_enter Try.func44, Try.ntmps44
  go_upto_region 1 with (fail)
  rw [HW.out]
  clear HW
  go_wp2_with fail
  refine HC.out.mono ?_
  rintro e w1 ⟨v1, rfl, hO1, b1⟩
  obtain ⟨oa, oc, rfl⟩ := hO1.shape2
  have hx1 := (b1.block _ (lt_of_some H0.out.2.2.1)).trans H0.out.2.2.1
  have hP1 : PSl w1 (fun _ => True) (.slice oa xs.length oc) xs := hO1.rsl pairGood _ (fun _ _ _ => trivial) (fun _ _ _ => trivial)
  have HP := hid (place_any w1 _ _ xs x.1 hP1)
  have H1 := hid (And.intro hO1 (And.intro hx1 (H0.out.1.trans (b1.mono H0.out.1.size))))
  have q0 : w1.cell? ⟨w.heap.size, 0, none⟩ = some (.int .i64 x.1) := cell_of hx1
  clear hO1 hx1 hP1 b1 HC
  obtain ⟨z, hz⟩ : ∃ z, z = idxP xs (hasV x.1) := ⟨_, rfl⟩
  rw [← hz] at HP
  have HZ := hid hz
  clear hz
  go_wp2_with fail
  refine HP.out.mono ?_
  rintro e w2 ⟨rfl, b2⟩
  clear q0 HP
  have hx2 := (b2.block _ (lt_of_some H1.out.2.1)).trans H1.out.2.1
  have hO2 := H1.out.1.below pairGood b2
  have bw2 := H1.out.2.2.trans (b2.mono H1.out.2.2.size)
  have hbase : W0.heap.size ≤ w2.heap.size := by have := lt_of_some hx2; have := H0.out.2.1; omega
  cases hf : xs.findIdx? (hasV x.1) with
  | none =>
    have hz : z = -1 := by rw [HZ.out, idxP, hf]
    subst hz
    have hput : putL xs x = xs ++ [x] := by rw [putL, hf]
    have hba := (Below.refl w2.heap.size w2).alloc (Nat.le_refl _) (.cells #[.int .i64 x.1, .int .i64 x.2] 63)
    obtain ⟨v', w3, hrun, hO3, hg, _, _⟩ := OSl.append (P := Try.prog) pairGood (by decide) (hO2.below pairGood hba) 72 72 (.agg #[.int .i64 0, .int .i64 0]) 16 Try.underlying72 infoV rfl ⟨w2.heap.size, 0, none⟩ 1 [x] [[.int .i64 x.1, .int .i64 x.2]]
      (Rows.one ⟨rfl, H0.out.2.2.2.1, H0.out.2.2.2.2⟩) (fun j u hj => by rw [addr_add, Nat.zero_add, cell_of (World.alloc_heap_new _ _)]; simpa using hj) (by simp [Value.oneCell']) (by simp [maxLen]; omega) (by simp; omega) (by simp; omega)
    have HR := hid hrun
    have hlt3 : ∀ b, (Value.slice oa xs.length oc).ownBlock = some b → W0.heap.size ≤ b := fun b hb => (hO2.lt b hb).1
    have HF := hid (And.intro (show OSl PairE 2 63 w.heap.size w3 (fun _ => False) v' (putL xs x) from by
      rw [hput]
      obtain ⟨rows, hr, hl, hown⟩ := hO3
      exact ⟨rows, hr, hl, by
        rcases hown with h | ⟨g, cap, cur, hv, hg, r⟩
        · exact .inl h
        · exact .inr ⟨g, cap, cur, hv, by have := H0.out.2.1; omega, r⟩⟩)
      ((bw2.trans (hba.mono bw2.size)).grown hg (by have := hba.size; have := bw2.size; omega) (fun k hk => by have := hlt3 k hk; have := H0.out.2.1; omega)))
    have c0 : w2.cell? ⟨w.heap.size, 0, none⟩ = some (.int .i64 x.1) := cell_of hx2
    have c1 : w2.cell? ⟨w.heap.size, 1, none⟩ = some (.int .i64 x.2) := cell_of hx2
    clear hrun hO3 hg hba hO2 bw2 hx2 b2 hput hf hlt3 H1
    go_wp2_with (at_builtin; refine wpList_append_run rfl _ _ _ rfl _ _ rfl rfl _ _ HR.out ?_)
    go_ret
    exact ⟨_, rfl, HF.out.1, HF.out.2⟩
  | some i =>
    have hz : z = (i : Int) := by rw [HZ.out, idxP, hf]
    subst hz
    have hput : putL xs x = xs.set i x := by rw [putL, hf]
    have hi : i < xs.length := (List.findIdx?_eq_some_iff_getElem.1 hf).1
    obtain ⟨y, hy⟩ : ∃ y, xs[i]? = some y := ⟨_, List.getElem?_eq_getElem hi⟩
    obtain ⟨O, oc', hv, hOb, hfz, ⟨u0, hu0⟩, hO3⟩ := OSl.setCell pairGood hO2 (x' := (x.1, y.2)) hy (j := 0) (by decide) (.int .i64 x.1) (fun row hr => ⟨by rw [hr.1]; rfl, H0.out.2.2.2.1, hr.2.2⟩)
    obtain ⟨rfl, rfl⟩ : oa = some ⟨O, 0, none⟩ ∧ oc = oc' := by cases hv; exact ⟨rfl, rfl⟩
    obtain ⟨O2, oc2, hv2, _, _, ⟨u1, hu1⟩, hO4⟩ := OSl.setCell pairGood hO3 (x' := (x.1, x.2)) (k := i) (by rw [List.getElem?_set_self hi]) (j := 1) (by decide) (.int .i64 x.2) (fun row hr => ⟨by rw [hr.1]; rfl, H0.out.2.2.2.1, H0.out.2.2.2.2⟩)
    rw [List.length_set] at hv2
    obtain ⟨rfl, rfl⟩ : O = O2 ∧ oc = oc2 := by cases hv2; exact ⟨rfl, rfl⟩
    rw [List.set_set] at hO4
    have c0 : w2.cell? ⟨w.heap.size, 0, none⟩ = some (.int .i64 x.1) := cell_of hx2
    have c1 : w2.cell? ⟨w.heap.size, 1, none⟩ = some (.int .i64 x.2) := cell_of hx2
    simp only [Nat.add_zero] at hu0 hu1 hO4
    have hu1' : w2.cell? ⟨O, i * 2 + 1, none⟩ = some u1 := by
      obtain ⟨_, c, hc⟩ := hO2.lt O rfl
      rw [← hu1, cell_of hc, cell_of (heap_set hc), Array.getElem?_setIfInBounds_ne (by omega)]
    have hOw : w.heap.size ≤ O := by have := H0.out.2.1; omega
    have HF := hid (And.intro (show OSl PairE 2 63 w.heap.size ((w2.setCell ⟨O, i * 2, none⟩ (.int .i64 x.1)).setCell ⟨O, i * 2 + 1, none⟩ (.int .i64 x.2)) (fun _ => False) (.slice (some ⟨O, 0, none⟩) xs.length oc) (putL xs x) from by
      rw [hput]
      obtain ⟨rows, hr, hl, hown⟩ := hO4
      exact ⟨rows, hr, hl, by
        rcases hown with h | ⟨g, cap, cur, hv, hg, r⟩
        · exact .inl h
        · exact .inr ⟨g, cap, cur, hv, by have := H0.out.2.1; omega, r⟩⟩)
      ((bw2.setCell (p := ⟨O, i * 2, none⟩) hOw (.int .i64 x.1)).setCell (p := ⟨O, i * 2 + 1, none⟩) hOw (.int .i64 x.2)))
    clear hO4 hO3 hO2 bw2 hx2 b2 hput hf hv hv2 hu1 H1 hy hOb
    go_wp2_with fail
    go_ret
    exact ⟨_, rfl, HF.out.1, HF.out.2⟩
end Go.Proofs.Ytplckigmllkpoaa
