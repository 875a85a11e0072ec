/- The reference of wait: Leave, Wake, Queue: what each returns. -/
import Derived.Test.YteogmehbjopedaaWaitG
namespace Go.Proofs.Yteogmehbjopedaa
open Go.RowKit Go.Shelf Go.Maps
theorem OSl.pushI {S : Nat} {A : World} {ok : Nat → Prop} {vo : Value} {ys : List Int} (h : OSl IntE 1 3 S A ok vo ys) {x : Int} (hin : In x) (hn : ys.length ≤ 1000000) (hS : S ≤ A.heap.size) :
    ∃ v' w3, (Builtin.append_ #[23, 23] 23 #[vo, .slice (some ⟨A.heap.size, 0, none⟩) 1 1]).run Try.prog (A.alloc (.cells #[.int .i64 x] 3)) = .ok v' w3 ∧ OSl IntE 1 3 S w3 ok v' (ys ++ [x]) ∧ Below S A w3 ∧
      (A.alloc (.cells #[.int .i64 x] 3)).grownBy w3 vo.ownBlock := by
  have hb2 := (Below.refl A.heap.size A).alloc (Nat.le_refl _) (.cells #[.int .i64 x] 3)
  have h2 := h.below intGood hb2
  obtain ⟨v', w3, hrun, hO, hg, hloc, _⟩ := OSl.append (P := Try.prog) intGood (by decide) h2 23 23 (.int .i64 0) 8 Try.underlying23 info_int rfl ⟨A.heap.size, 0, none⟩ 1 [x] [[.int .i64 x]]
    (Rows.one ⟨rfl, hin⟩) (cell_one_new A (.int .i64 x) 3) (by simp [Value.oneCell']) (by simp [maxLen]; omega) (by simp; omega) (by simp; omega)
  refine ⟨v', w3, hrun, hO, ?_, hg⟩
  exact ((Below.refl S A).alloc hS _).grown hg (by simp; omega) (fun k hk => (h2.lt k hk).1)
theorem OSl.pushW {S : Nat} {A : World} {ok : Nat → Prop} {vr : Value} {ys : List W} (h : OSl WaiterE 2 40 S A ok vr ys) {x : W} {sa : Option Addr} {sc : Nat} (hin : In x.1) (hsl : ISl A (fun b => ok b ∧ some b ≠ vr.ownBlock) (.slice sa x.2.length sc) x.2) (hn : ys.length ≤ 1000000) (hS : S ≤ A.heap.size) :
    ∃ v' w3, (Builtin.append_ #[22, 22] 22 #[vr, .slice (some ⟨A.heap.size, 0, none⟩) 1 1]).run Try.prog (A.alloc (.cells #[.int .i64 x.1, .slice sa x.2.length sc] 40)) = .ok v' w3 ∧ OSl WaiterE 2 40 S w3 ok v' (ys ++ [x]) ∧ Below S A w3 ∧
      (A.alloc (.cells #[.int .i64 x.1, .slice sa x.2.length sc] 40)).grownBy w3 vr.ownBlock := by
  have hb2 := (Below.refl A.heap.size A).alloc (Nat.le_refl _) (.cells #[.int .i64 x.1, .slice sa x.2.length sc] 40)
  have h2 := h.below waiterGood hb2
  obtain ⟨v', w3, hrun, hO, hg, hloc, _⟩ := OSl.append (P := Try.prog) waiterGood (by decide) h2 22 22 (.agg #[.int .i64 0, .slice none 0 0]) 32 Try.underlying22 info_waiter rfl ⟨A.heap.size, 0, none⟩ 1 [x] [[.int .i64 x.1, .slice sa x.2.length sc]]
    (Rows.one ⟨_, rfl, hin, hsl.below intGood hb2⟩) (by intro j u hj; exact cell_two_new A _ _ _ j u hj) (by simp [Value.oneCell']) (by simp [maxLen]; omega) (by simp; omega) (by simp; omega)
  refine ⟨v', w3, hrun, hO, ?_, hg⟩
  exact ((Below.refl S A).alloc hS _).grown hg (by simp; omega) (fun k hk => (h2.lt k hk).1)
theorem take_snoc {xs : List W} {k : Nat} {x : W} (h : xs[k]? = some x) : xs.take (k + 1) = xs.take k ++ [x] := by
  rw [List.take_succ_eq_append_getElem (List.getElem?_eq_some_iff.1 h).1, (List.getElem?_eq_some_iff.1 h).2]
def oldB (w : World) : Nat → Prop := fun b => b < w.heap.size
theorem WSl.old {w : World} {ok : Nat → Prop} {v : Value} {xs : List W} (h : WSl w ok v xs) : WSl w (oldB w) v xs := h.weak waiterGood (by decide) (fun _ hb _ => hb)
set_option maxHeartbeats 1000000 in
theorem rleave_any (w : World) (ok : Nat → Prop) (lv : Value) (t : Int) (xs : List W) (h0 : WSl w ok lv xs) (hn : xs.length ≤ 1000000) :
    Calls Try.prog 18 #[lv, .int .i64 t] w fun e w' => ∃ vr, e = .returned vr ∧ WSl w' (fun _ => True) vr (rests (fun x => x.1 == t) xs) ∧ Below w.heap.size w w' := by
  have h := h0.old
  clear h0
  obtain ⟨a1, c1, rfl, l1, _⟩ := h.shape
  go_enter Try.func18, Try.ntmps18
  go_wp2
  go_loopw [6, 5] (fun i v wr => ∃ k : Nat, k ≤ xs.length ∧ i = .int .i64 k ∧ OSl WaiterE 2 40 w.heap.size wr (oldB w) v (rests (fun x => x.1 == t) (xs.take k)) ∧ Below w.heap.size w wr) (fun i _ _ => xs.length - (intOf i).toNat)
  case atStart => exact ⟨0, Nat.zero_le _, rfl, OSl.nil _ _ _ _ _ _, Below.refl _ _⟩
  case round =>
    obtain ⟨k, hk, rfl, hO, hb⟩ := hrel
    obtain ⟨av, cv, hv⟩ := hO.shape
    subst hv
    by_cases hlt : k < xs.length
    · obtain ⟨b1, o1, c1', x, sv, hv1, hx, hin, hs, e1, e2⟩ := h.at hb (k := k) hlt
      cases hv1
      obtain ⟨sa, sc, rfl, _⟩ := hs.shape
      have hlk : (rests (fun x => x.1 == t) (xs.take k)).length ≤ 1000000 := by have := rests_len (fun x : W => x.1 == t) (xs.take k); rw [List.length_take] at this; omega
      have HX := hid hx
      cases hq : x.1 == t
      · obtain ⟨v', w3, hrun, hO3, hb3, hg3⟩ := hO.pushW hin (hs.weak intGood (by decide) (fun b _ hb' => ⟨hb', fun e => by have := (hO.lt b e.symm).1; unfold oldB at hb'; omega⟩)) hlk hb.size
        obtain ⟨av', cv', hv'⟩ := hO3.shape
        subst hv'
        have hne : (x.1 != t) = true := by rw [bne, hq]; rfl
        have HR := hid hrun
        have HF := hid (And.intro hO3 (hb.trans hb3))
        have HQ := hid hq
        clear hrun hO3 hb3 hg3 hq hO h hs hx hlk
        go_wp2_with (at_builtin; refine wpList_append_run rfl _ _ _ rfl _ _ rfl rfl _ _ HR.out ?_)
        go_roundw
        case rel => exact ⟨k + 1, by omega, by go_num, by rw [take_snoc HX.out, rests_no HQ.out]; have h := HF.out.1; rw [List.length_append] at h; exact h, HF.out.2⟩
        case measure => simp [intOf]; omega
      · have hne : (x.1 != t) = false := by rw [bne, hq]; rfl
        have HF := hid (And.intro hO hb)
        have HQ := hid hq
        clear hq hO h hs hx hlk
        go_wp2
        go_roundw
        case rel => exact ⟨k + 1, by omega, by go_num, by rw [take_snoc HX.out, rests_yes HQ.out]; exact HF.out.1, HF.out.2⟩
        case measure => simp [intOf]; omega
    · obtain rfl : k = xs.length := by omega
      have HF := hid hO
      clear h hO
      go_wp2
      go_ret
      exact ⟨_, rfl, by have h := HF.out.rsl waiterGood (fun _ => True) (fun _ _ _ => trivial) (fun _ _ _ => trivial); rw [List.take_length] at h ⊢; exact h, hb⟩
set_option maxHeartbeats 2000000 in
theorem rwake_any (w : World) (ok ok' : Nat → Prop) (lv vv : Value) (xs : List W) (vars : List Int) (h0 : WSl w ok lv xs) (h' : ISl w ok' vv vars) (hn : xs.length ≤ 1000000) :
    Calls Try.prog 12 #[lv, vv] w fun e w' => ∃ vo vr, e = .returned (.tuple #[vo, vr]) ∧ ISl w' (fun _ => True) vo (outs (fun x => x.2.any fun v => vars.contains v) xs) ∧ WSl w' (fun _ => True) vr (rests (fun x => x.2.any fun v => vars.contains v) xs) ∧ Below w.heap.size w w' := by
  have h := h0.old
  clear h0
  obtain ⟨p, hp⟩ : ∃ p : W → Bool, p = fun x => x.2.any fun v => vars.contains v := ⟨_, rfl⟩
  rw [← hp]
  obtain ⟨a1, c1, rfl, l1, _⟩ := h.shape
  obtain ⟨a2, c2, rfl, l2, _⟩ := h'.shape
  have HP := hid hp
  clear hp
  go_enter Try.func12, Try.ntmps12
  go_wp2
  go_loopw [8, 6, 7] (fun i vo vr wr => ∃ k : Nat, k ≤ xs.length ∧ i = .int .i64 k ∧ OSl IntE 1 3 w.heap.size wr (fun _ => False) vo (outs p (xs.take k)) ∧ OSl WaiterE 2 40 w.heap.size wr (oldB w) vr (rests p (xs.take k)) ∧ Below w.heap.size w wr) (fun i _ _ _ => xs.length - (intOf i).toNat)
  case atStart => exact ⟨0, Nat.zero_le _, rfl, OSl.nil _ _ _ _ _ _, OSl.nil _ _ _ _ _ _, Below.refl _ _⟩
  case round =>
    obtain ⟨k, hk, rfl, hI, hO, hb⟩ := hrel
    obtain ⟨av, cv, hv⟩ := hO.shape
    subst hv
    obtain ⟨ai, ci, hi⟩ := hI.shape
    subst hi
    by_cases hlt : k < xs.length
    · obtain ⟨b1, o1, c1', x, sv, hv1, hx, hin, hs, e1, e2⟩ := h.at hb (k := k) hlt
      cases hv1
      have hmeet := meet_any wr _ _ sv _ x.2 vars hs (h'.below intGood hb)
      have hpx : p x = x.2.any fun v => vars.contains v := by rw [HP.out]
      rw [← hpx] at hmeet
      obtain ⟨sa, sc, rfl, _⟩ := hs.shape
      have hlk : (rests p (xs.take k)).length ≤ 1000000 := by have := rests_len p (xs.take k); rw [List.length_take] at this; omega
      have hlo : (outs p (xs.take k)).length ≤ 1000000 := by have := outs_len p (xs.take k); rw [List.length_take] at this; omega
      have HX := hid hx
      have HM := hid hmeet
      clear hmeet hpx hx
      go_wp2_with fail
      refine HM.out.mono ?_
      rintro e w2 ⟨rfl, hb2⟩
      have hbw := hb.trans (hb2.mono hb.size)
      have hO2 := hO.below waiterGood hb2
      have hI2 := hI.below intGood hb2
      have hs2 := hs.below intGood hb2
      have f1 := (hb2.cell (World.block_lt_of_cell? wr _ e1)).trans e1
      have f2 := (hb2.cell (World.block_lt_of_cell? wr _ e2)).trans e2
      have sep : ∀ b, (Value.slice ai (outs p (xs.take k)).length ci).ownBlock = some b → (Value.slice av (rests p (xs.take k)).length cv).ownBlock ≠ some b := fun b h1 h2 => by
        obtain ⟨_, c, hc⟩ := hI2.lt b h1; obtain ⟨_, c', hc'⟩ := hO2.lt b h2; rw [hc] at hc'; cases hc'
      clear hb2 hO hI hs e1 e2 HM h h' hb
      cases hq : p x
      · obtain ⟨v', w3, hrun, hO3, hb3, hg3⟩ := hO2.pushW hin (hs2.weak intGood (by decide) (fun b _ hb' => ⟨hb', fun e => by have := (hO2.lt b e.symm).1; unfold oldB at hb'; omega⟩)) hlk hbw.size
        have hI3 : OSl IntE 1 3 w.heap.size w3 (fun _ => False) (.slice ai (outs p (xs.take k)).length ci) (outs p (xs.take k)) :=
          (hI2.below intGood ((Below.refl _ _).alloc (Nat.le_refl _) _)).keep intGood (Same.of_grown hg3 fun r e => .inl fun h => by
            rcases h with h | h
            · exact h
            · exact sep r h.symm e)
        obtain ⟨av', cv', hv'⟩ := hO3.shape
        subst hv'
        have HR := hid hrun
        have HF := hid (And.intro hO3 (And.intro hI3 (hbw.trans hb3)))
        have HQ := hid hq
        clear hrun hO3 hb3 hg3 hI3 hO2 hI2 hs2 hlk hlo sep hbw hq
        have hq := HQ.out
        go_wp2_with (at_builtin; refine wpList_append_run rfl _ _ _ rfl _ _ rfl rfl _ _ HR.out ?_)
        go_roundw
        case rel => exact ⟨k + 1, by omega, by go_num, by rw [take_snoc HX.out, outs_no HQ.out]; exact HF.out.2.1, by rw [take_snoc HX.out, rests_no HQ.out]; have h := HF.out.1; rw [List.length_append] at h; exact h, HF.out.2.2⟩
        case measure => simp [intOf]; omega
      · obtain ⟨v', w3, hrun, hI3, hb3, hg3⟩ := hI2.pushI hin hlo hbw.size
        have hO3 : OSl WaiterE 2 40 w.heap.size w3 (oldB w) (.slice av (rests p (xs.take k)).length cv) (rests p (xs.take k)) :=
          (hO2.below waiterGood ((Below.refl _ _).alloc (Nat.le_refl _) _)).keep waiterGood (Same.of_grown hg3 fun r e => .inl fun h => by
            rcases h with h | h
            · have := (hI2.lt r e).1; unfold oldB at h; omega
            · exact sep r e h.symm)
        obtain ⟨av', cv', hv'⟩ := hI3.shape
        subst hv'
        have HR := hid hrun
        have HF := hid (And.intro hO3 (And.intro hI3 (hbw.trans hb3)))
        have HQ := hid hq
        clear hrun hO3 hb3 hg3 hI3 hO2 hI2 hs2 hlk hlo sep hbw hq
        have hq := HQ.out
        go_wp2_with (at_builtin; refine wpList_append_run rfl _ _ _ rfl _ _ rfl rfl _ _ HR.out ?_)
        go_roundw
        case rel => exact ⟨k + 1, by omega, by go_num, by rw [take_snoc HX.out, outs_yes HQ.out]; have h := HF.out.2.1; rw [List.length_append] at h; exact h, by rw [take_snoc HX.out, rests_yes HQ.out]; exact HF.out.1, HF.out.2.2⟩
        case measure => simp [intOf]; omega
    · obtain rfl : k = xs.length := by omega
      have HF := hid (And.intro hO hI)
      clear h h' hO hI
      go_wp2
      go_ret2
      exact ⟨_, _, rfl, by have h := HF.out.2.rsl intGood (fun _ => True) (fun _ _ _ => trivial) (fun _ _ _ => trivial); rw [List.take_length] at h ⊢; exact h, by have h := HF.out.1.rsl waiterGood (fun _ => True) (fun _ _ _ => trivial) (fun _ _ _ => trivial); rw [List.take_length] at h ⊢; exact h, hb⟩
set_option maxHeartbeats 1000000 in
theorem rqueue_any (w : World) (ok : Nat → Prop) (lv : Value) (t : Int) (xs : List W) (h : WSl w ok lv xs) (ht : In t) (hn : xs.length ≤ 1000000) :
    Calls Try.prog 20 #[lv, .int .i64 t] w fun e w' => ∃ vo, e = .returned vo ∧ ISl w' (fun _ => True) vo (outs (fun x => x.2.contains t) xs) ∧ Below w.heap.size w w' := by
  have hb := (Below.refl w.heap.size w).alloc (Nat.le_refl _) (.cells #[.int .i64 t] 3)
  have hh := World.alloc_heap_new w (.cells #[.int .i64 t] 3)
  have hi : ISl (w.alloc (.cells #[.int .i64 t] 3)) (fun _ => True) (.slice (some ⟨w.heap.size, 0, none⟩) 1 1) [t] :=
    ⟨_, 1, rfl, by simp, by simp [maxLen], (fun h => by cases h), fun _ => ⟨_, 0, rfl, trivial, fun i hi => by
      simp at hi; subst hi
      exact ⟨[.int .i64 t], ⟨rfl, ht⟩, fun j u hj => by rw [cell_of hh]; match j, hj with
        | 0, hj => simpa using hj
        | j + 1, hj => simp at hj⟩⟩⟩
  have hw := rwake_any _ _ _ lv _ xs [t] (h.below waiterGood hb) hi hn
  have hp : (fun x : W => x.2.any fun v => [t].contains v) = fun x => x.2.contains t := by
    funext x; rw [List.contains_eq_any_beq]; congr 1; funext v; simp only [List.contains_cons, List.contains_nil, Bool.or_false]; exact Bool.beq_comm
  rw [hp] at hw
  have HW := hid hw
  obtain ⟨a1, c1, rfl, l1, _⟩ := h.shape
  clear hw hi hp h hh
  go_enter Try.func20, Try.ntmps20
  go_wp2_with fail
  refine HW.out.mono ?_
  rintro e w2 ⟨vo, vr, rfl, hr, _, hb2⟩
  have HR := hid hr
  clear hr
  go_wp2_with fail
  go_ret
  exact ⟨_, rfl, HR.out, hb.trans (hb2.mono (by simp))⟩
end Go.Proofs.Yteogmehbjopedaa
