/- wait.Leave, Queue, Wake: what each returns. -/
import Derived.Test.YteogmehbjopedaaWaitD
namespace Go.Proofs.Yteogmehbjopedaa
open Go.RowKit Go.Shelf Go.Maps
def okOf (w : World) : Nat → Prop := fun b => w.heap.size ≤ b
structure Fits (xs : List W) : Prop where
  each : ∀ x ∈ xs, x.2.length ≤ 1000000000
  all : xs.length ≤ 1000000
set_option maxHeartbeats 1000000 in
theorem leave_any (w : World) (ok : Nat → Prop) (lv : Value) (t : Int) (xs : List W) (h : WSl w ok lv xs) (hf : Fits xs) :
    Calls Try.prog 17 #[lv, .int .i64 t] w fun e w' => ∃ vr, e = .returned vr ∧ WSl w' (okOf w) vr (rests (fun x => x.1 == t) xs) ∧ Below w.heap.size w w' := by
  have hb := (Below.refl w.heap.size w).alloc (Nat.le_refl _) (.cells #[.int .i64 t] 3)
  have hall := (h.below waiterGood hb).weak waiterGood (by decide) (ok' := fun _ => True) (fun _ _ _ => trivial)
  have hp := part_any (w.alloc (.cells #[.int .i64 t] 3)) lv 33 #[.pointer (some ⟨w.heap.size, 0, none⟩)] xs (fun x => x.1 == t) hall
    (leave1_pred _ w.heap.size t (by rw [cell_of (World.alloc_heap_new w _)]; rfl)) (enters_of Try.func33 (by kernel_rfl) rfl) hf.each hf.all
  obtain ⟨a1, c1, rfl, l1, _⟩ := h.shape
  have HP := hid hp
  clear hp hall h hf
  go_enter Try.func17, Try.ntmps17
  go_wp2_with fail
  refine HP.out.mono ?_
  rintro e w2 ⟨vo, vr, rfl, _, hr, hb2⟩
  have HR := hid hr
  clear hr
  go_wp2_with fail
  go_ret
  exact ⟨_, rfl, HR.out.weak waiterGood (by decide) (fun b _ hb' => by simp at hb'; unfold okOf; omega), hb.trans (hb2.mono (by simp))⟩
set_option maxHeartbeats 1000000 in
theorem queue_any (w : World) (ok : Nat → Prop) (lv : Value) (t : Int) (xs : List W) (h : WSl w ok lv xs) (hf : Fits xs) :
    Calls Try.prog 19 #[lv, .int .i64 t] w fun e w' => ∃ vo, e = .returned vo ∧ ISl w' (okOf w) vo (outs (fun x => x.2.contains t) xs) ∧ Below w.heap.size w w' := by
  have hb := (Below.refl w.heap.size w).alloc (Nat.le_refl _) (.cells #[.int .i64 t] 3)
  have hall := (h.below waiterGood hb).weak waiterGood (by decide) (ok' := fun _ => True) (fun _ _ _ => trivial)
  have hp := part_any (w.alloc (.cells #[.int .i64 t] 3)) lv 34 #[.pointer (some ⟨w.heap.size, 0, none⟩)] xs (fun x => x.2.contains t) hall
    (queue1_pred _ w.heap.size t (by rw [cell_of (World.alloc_heap_new w _)]; rfl)) (enters_of Try.func34 (by kernel_rfl) rfl) hf.each hf.all
  obtain ⟨a1, c1, rfl, l1, _⟩ := h.shape
  have HP := hid hp
  clear hp hall h hf
  go_enter Try.func19, Try.ntmps19
  go_wp2_with fail
  refine HP.out.mono ?_
  rintro e w2 ⟨vo, vr, rfl, hr, _, hb2⟩
  have HR := hid hr
  clear hr
  go_wp2_with fail
  go_ret
  exact ⟨_, rfl, HR.out.weak intGood (by decide) (fun b _ hb' => by simp at hb'; unfold okOf; omega), hb.trans (hb2.mono (by simp))⟩
set_option maxHeartbeats 1000000 in
theorem wake_any (w : World) (ok ok' : Nat → Prop) (lv vv : Value) (xs : List W) (vars : List Int) (h : WSl w ok lv xs) (h' : ISl w ok' vv vars) (hf : Fits xs) (hv : vars.length ≤ 1000000) :
    Calls Try.prog 11 #[lv, vv] w fun e w' => ∃ vo vr, e = .returned (.tuple #[vo, vr]) ∧ ISl w' (okOf w) vo (outs (fun x => x.2.any fun v => vars.contains v) xs) ∧ WSl w' (okOf w) vr (rests (fun x => x.2.any fun v => vars.contains v) xs) ∧ Below w.heap.size w w' := by
  have hmm := @run_makeMap Try.prog
  obtain ⟨a1, c1, rfl, l1, _⟩ := h.shape
  obtain ⟨a2, c2, rfl, l2, _⟩ := h'.shape
  have hsz : ((w.alloc (.map #[] 0)).alloc (.cells #[.map (some w.heap.size)] 49)).heap.size = w.heap.size + 2 := by simp
  have hb0 := ((Below.refl w.heap.size w).alloc (Nat.le_refl _) (.map #[] 0)).alloc (by simp) (.cells #[.map (some w.heap.size)] 49)
  have hm0 := (MapB.made w).below ((Below.refl _ _).alloc (Nat.le_refl _) (.cells #[.map (some w.heap.size)] 49))
  have hx0 := heap_two w (.map #[] 0) (.cells #[.map (some w.heap.size)] 49)
  have H0 := hid (And.intro hsz (And.intro hb0 (And.intro hm0 hx0)))
  clear hsz hb0 hm0 hx0
  go_enter Try.func11, Try.ntmps11
  go_wp2
  go_loopw [12] (fun i wr => ∃ k : Nat, k ≤ vars.length ∧ i = .int .i64 k ∧ MapB wr w.heap.size k (vars.take k) ∧ wr.heap[w.heap.size + 1]? = some (.cells #[.map (some w.heap.size)] 49) ∧ Below w.heap.size w wr) (fun i _ => vars.length - (intOf i).toNat)
  case atStart => exact ⟨0, Nat.zero_le _, rfl, by simpa using H0.out.2.2.1, H0.out.2.2.2, H0.out.2.1⟩
  case round =>
    obtain ⟨k, hk, rfl, hm, hbox, hb⟩ := hrel
    by_cases hlt : k < vars.length
    · obtain ⟨b1, o1, c1', x, hv1, hx, hin, e1⟩ := h'.at hb (k := k) hlt
      cases hv1
      obtain ⟨D, hown, hmap, hk'⟩ := hm.opened
      have e2 : wr.cell? ⟨w.heap.size + 1, 0, none⟩ = some (.map (some w.heap.size)) := cell_of hbox
      have HX := hid (And.intro hx (And.intro hbox (And.intro hmap hk')))
      have hb' := hb
      clear hx hbox hmap hk' hm h h'
      go_wp2_with (at_mapUpdate; refine wpList_mapUpdate_own _ rfl _ _ _ 49 rfl 3 4 keyedInt Try.underlying49 _ w.heap.size k _ rfl hown (by unfold maxLen; omega) _ _ _ rfl rfl (keyInt hin) _ [] (plainElem_bool Try.underlying4 true) ?_; intro w1 hown1 hgrow1)
      go_roundw
      case rel =>
        refine ⟨k + 1, by omega, by go_num, ?_, ?_, hb'.grown hgrow1 hb'.size (fun j e => by cases e; exact Nat.le_refl _)⟩
        · rw [List.take_succ_eq_append_getElem hlt, (List.getElem?_eq_some_iff.1 HX.out.1).2]
          exact MapB.put hin hown1 HX.out.2.2.1 HX.out.2.2.2
        · rw [hgrow1.block _ (lt_of_some HX.out.2.1) (by simp)]; exact HX.out.2.1
      case measure => simp [intOf]; omega
    · obtain rfl : k = vars.length := by omega
      rw [List.take_length] at hm
      have hp := part_any wr _ 30 #[.pointer (some ⟨w.heap.size + 1, 0, none⟩)] xs _ ((h.below waiterGood hb).weak waiterGood (by decide) (ok' := fun _ => True) (fun _ _ _ => trivial))
        (wake1_pred wr (w.heap.size + 1) w.heap.size vars.length vars (by rw [cell_of hbox]; rfl) hm) (enters_of Try.func30 (by kernel_rfl) rfl) hf.each hf.all
      have HP := hid hp
      clear hp h h' hm hbox hf
      go_wp2_with fail
      refine HP.out.mono ?_
      rintro e w2 ⟨vo, vr, rfl, ho, hr, hb2⟩
      have HR := hid (And.intro ho hr)
      clear ho hr
      go_wp2_with fail
      go_ret2
      have hwk : ∀ b, b < w2.heap.size → wr.heap.size ≤ b → okOf w b := fun b _ hb' => by have := hb.size; unfold okOf; omega
      exact ⟨_, _, rfl, HR.out.1.weak intGood (by decide) hwk, HR.out.2.weak waiterGood (by decide) hwk, hb.trans (hb2.mono hb.size)⟩
end Go.Proofs.Yteogmehbjopedaa
