/- wait.Check, and the reference's Check, Few, waits, Same: what each returns. -/
import Derived.Test.YteogmehbjopedaaWaitE
namespace Go.Proofs.Yteogmehbjopedaa
open Go.RowKit Go.Shelf Go.Maps
def okAtB (xs : List W) (i : Nat) (x : W) : Bool := !decide (x.1 < 0) && !((xs.take i).map (·.1)).contains x.1 && !(x.2.any fun v => decide (v < 0))
def chk (xs : List W) : Bool := (List.range xs.length).all fun i => match xs[i]? with | some x => okAtB xs i x | none => true
theorem chk_no {xs : List W} {k : Nat} {x : W} (h : xs[k]? = some x) (k' : okAtB xs k x = false) : chk xs = false := by
  rw [chk, List.all_eq_false]
  exact ⟨k, by rw [List.mem_range]; exact (List.getElem?_eq_some_iff.1 h).1, by rw [h]; simp [k']⟩
theorem chk_yes {xs : List W} (h : ∀ (k : Nat) (x : W), xs[k]? = some x → okAtB xs k x = true) : chk xs = true := by
  rw [chk, List.all_eq_true]
  intro i hi
  rw [List.mem_range] at hi
  rw [List.getElem?_eq_getElem hi]; exact h i _ (List.getElem?_eq_getElem hi)
theorem enters_low : ∀ args w, (callFunc 22 args).run Try.prog w = .ok (.enter 22 args) w := enters_of Try.func22 (by kernel_rfl) rfl
set_option maxHeartbeats 1000000 in
theorem check_any (w : World) (ok : Nat → Prop) (lv : Value) (xs : List W) (h : WSl w ok lv xs) (hn : xs.length ≤ 1000000) :
    Calls Try.prog 15 #[lv] w (Bb (chk xs) w) := by
  have hmm := @run_makeMap Try.prog
  obtain ⟨a1, c1, rfl, l1, _⟩ := h.shape
  have hb0 := (Below.refl w.heap.size w).alloc (Nat.le_refl _) (.map #[] 0)
  have hm0 := MapB.made w
  have H0 := hid (And.intro hb0 hm0)
  clear hb0 hm0
  go_enter Try.func15, Try.ntmps15
  go_wp2
  go_loopw [9] (fun i wr => ∃ k : Nat, k ≤ xs.length ∧ i = .int .i64 k ∧ MapB wr w.heap.size k ((xs.take k).map (·.1)) ∧ Hid (∀ j x, j < k → xs[j]? = some x → okAtB xs j x = true) ∧ Below w.heap.size w wr) (fun i _ => xs.length - (intOf i).toNat)
  case atStart => exact ⟨0, Nat.zero_le _, rfl, by simpa using H0.out.2, fun j x hj => absurd hj (by omega), H0.out.1⟩
  case round =>
    obtain ⟨k, hk, rfl, hm, HA, hb⟩ := hrel
    by_cases hlt : k < xs.length
    · obtain ⟨b1, o1, c1', x, sv, hv1, hx, hin, hs, e1, e2⟩ := h.at hb (k := k) hlt
      cases hv1
      obtain ⟨sa, sc, rfl, _⟩ := hs.shape
      have HX := hid hx
      have hbx := (Below.refl wr.heap.size wr).alloc (Nat.le_refl _) (Obj.cells #[.int .i64 x.1, .slice sa x.2.length sc] 40)
      have hhx := World.alloc_heap_new wr (Obj.cells #[.int .i64 x.1, .slice sa x.2.length sc] 40)
      have HB := hid (And.intro hbx hhx)
      clear hx hbx hhx h
      go_wp2_with fail
      obtain ⟨W1, hW1⟩ : ∃ W1, wr.alloc (Obj.cells #[.int .i64 x.1, .slice sa x.2.length sc] 40) = W1 := ⟨_, rfl⟩
      have HB' := HB.out
      rw [hW1] at HB' ⊢
      clear HB hW1
      have hlow := low_any W1 x.1
      refine hlow.mono ?_
      rintro e w2 ⟨rfl, hb2⟩
      have hbw2 : Below wr.heap.size wr w2 := HB'.1.trans (hb2.mono HB'.1.size)
      have hbx2 := (hb2.block _ (lt_of_some HB'.2)).trans HB'.2
      have q0 : w2.cell? ⟨wr.heap.size, 0, none⟩ = some (.int .i64 x.1) := cell_of hbx2
      have q1 : w2.cell? ⟨wr.heap.size, 1, none⟩ = some (.slice sa x.2.length sc) := cell_of hbx2
      have hm2 := hm.below hbw2
      have hlook := hm2.look hin
      have hsl2 := hs.below intGood hbw2
      have hbel2 := hb.trans (hbw2.mono hb.size)
      have hcf := containsFuncI _ #[] enters_low w2 _ _ x.2 _ hsl2 (low_pred w2)
      have HC := hid hcf
      have HM := hid (And.intro hm2 (And.intro hbel2 hbx2))
      clear hb2 hlow hcf HB' hbw2 hbx2 hsl2 hs hm hm2 hbel2 e1 e2
      cases hc1 : decide (x.1 < 0)
      · cases hc2 : ((xs.take k).map (·.1)).contains x.1
        · rw [hc2] at hlook
          cases hc3 : x.2.any fun v => decide (v < 0)
          · rw [hc3] at HC
            have HO : Hid (okAtB xs k x = true) := by show okAtB xs k x = true; rw [okAtB, hc1, hc2, hc3]; rfl
            clear hc1 hc2 hc3
            go_wp2_with fail
            refine HC.out.mono ?_
            rintro e w3 ⟨rfl, hb3⟩
            have hm3 := HM.out.1.below hb3
            have r0 : w3.cell? ⟨wr.heap.size, 0, none⟩ = some (.int .i64 x.1) := (hb3.cell (World.block_lt_of_cell? w2 _ q0)).trans q0
            have hbel3 := HM.out.2.1.trans (hb3.mono HM.out.2.1.size)
            obtain ⟨D, hown, hmap, hk'⟩ := hm3.opened
            have HK := hid (And.intro hmap (And.intro hk' hbel3))
            clear hm3 hb3 hbel3 hmap hk' q0 q1 hlook
            go_wp2_with (at_mapUpdate; refine wpList_mapUpdate_own _ rfl _ _ _ 49 rfl 3 4 keyedInt Try.underlying49 _ w.heap.size k _ rfl hown (by unfold maxLen; omega) _ _ _ rfl rfl (keyInt hin) _ [] (plainElem_bool Try.underlying4 true) ?_; intro w4 hown4 hgrow4)
            go_roundw
            case rel =>
              refine ⟨k + 1, by omega, by go_num, ?_, fun j y hj hy => ?_, HK.out.2.2.grown hgrow4 HK.out.2.2.size (fun j e => by cases e; exact Nat.le_refl _)⟩
              · rw [List.take_succ_eq_append_getElem hlt, (List.getElem?_eq_some_iff.1 HX.out).2, List.map_append]
                exact MapB.put hin hown4 HK.out.1 HK.out.2.1
              · by_cases e : j = k
                · subst e; rw [HX.out] at hy; cases hy; exact HO.out
                · exact HA.out j y (by omega) hy
            case measure => simp [intOf]; omega
          · rw [hc3] at HC
            have HO : Hid (okAtB xs k x = false) := by show okAtB xs k x = false; rw [okAtB, hc1, hc2, hc3]; rfl
            clear hc1 hc2 hc3
            go_wp2_with fail
            refine HC.out.mono ?_
            rintro e w3 ⟨rfl, hb3⟩
            go_wp2_with fail
            go_ret
            exact Bb.fin (chk_no HX.out HO.out).symm (HM.out.2.1.trans (hb3.mono HM.out.2.1.size))
        · rw [hc2] at hlook
          have HO : Hid (okAtB xs k x = false) := by show okAtB xs k x = false; rw [okAtB, hc1, hc2]; rfl
          clear hc1 hc2
          go_wp2_with fail
          go_ret
          exact Bb.fin (chk_no HX.out HO.out).symm HM.out.2.1
      · have HO : Hid (okAtB xs k x = false) := by show okAtB xs k x = false; rw [okAtB, hc1]; rfl
        clear hc1
        go_wp2_with fail
        go_ret
        exact Bb.fin (chk_no HX.out HO.out).symm HM.out.2.1
    · obtain rfl : k = xs.length := by omega
      clear hm h
      go_wp2
      go_ret
      exact Bb.fin (chk_yes (fun i x hx => HA.out i x (List.getElem?_eq_some_iff.1 hx).1 hx)).symm hb
end Go.Proofs.Yteogmehbjopedaa
