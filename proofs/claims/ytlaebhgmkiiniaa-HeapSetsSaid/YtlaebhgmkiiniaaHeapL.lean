/- HeapFollows: the walk. -/
import Derived.Test.YtlaebhgmkiiniaaHeapK
namespace Go.Proofs.Ytlaebhgmkiiniaa
open Go.RowKit Go.Shelf
attribute [local go_sem] Oper.semAt_some
/-- The box of a heap, and what it reads as, in a later world. -/
structure Kept (w wk : World) (B : Nat) (t : TypeId) (sa : Option Addr) (sc : Nat) (h : Hp) : Prop where
  bel : Below w.heap.size w wk
  box : wk.heap[B]? = some (.cells #[.slice sa h.nodes.length sc, .int .i64 h.most] t)
  val : HVal wk (fun _ => True) (.agg #[.slice sa h.nodes.length sc, .int .i64 h.most]) h
theorem Kept.more {w wk wl : World} {B : Nat} {t : TypeId} {sa : Option Addr} {sc : Nat} {h : Hp} (k : Kept w wk B t sa sc h) (b : Below wk.heap.size wk wl) : Kept w wl B t sa sc h :=
  ⟨k.bel.trans (b.mono k.bel.size), (b.block _ (lt_of_some k.box)).trans k.box, k.val.below b⟩
theorem Kept.c0 {w wk : World} {B : Nat} {t : TypeId} {sa : Option Addr} {sc : Nat} {h : Hp} (k : Kept w wk B t sa sc h) : wk.cell? ⟨B, 0, none⟩ = some (.slice sa h.nodes.length sc) := cell_of k.box
theorem Kept.c1 {w wk : World} {B : Nat} {t : TypeId} {sa : Option Addr} {sc : Nat} {h : Hp} (k : Kept w wk B t sa sc h) : wk.cell? ⟨B, 1, none⟩ = some (.int .i64 h.most) := cell_of k.box
set_option maxRecDepth 100000 in
set_option maxHeartbeats 8000000 in
theorem follows_any (v0 : Value) (p : Int) (w : World) (h0 : ∃ h, HVal w (fun _ => True) v0 h) (hp : In p) : Calls Try.prog 4 #[v0, .int .i64 p] w (Bb true w) := by
  obtain ⟨⟨ns, most⟩, hh⟩ := h0
  have hh0 := hh
  obtain ⟨sa, sc, rfl, hi, hs⟩ := hh
  obtain ⟨_, _, e, l1, _⟩ := hs.shape
  cases e
  simp only at hi hs l1 hh0 ⊢
  obtain ⟨W0, hW0⟩ : ∃ W0, w.alloc (Obj.cells #[.slice sa ns.length sc, .int .i64 most] 24) = W0 := ⟨_, rfl⟩
  have hb0 : Below w.heap.size w W0 := by rw [← hW0]; exact (Below.refl _ _).alloc (Nat.le_refl _) _
  have K0 : Kept w W0 w.heap.size 24 sa sc ⟨ns, most⟩ := ⟨hb0, by rw [← hW0]; exact World.alloc_heap_new _ _, hh0.below hb0⟩
  have HW := hid hW0
  have HK0 := hid K0
  clear hW0 hb0 K0 hh0 hi hs
  go_enter Try.func4, Try.ntmps4
  go_upto_region 1 with (fail)
  rw [HW.out]
  clear HW
  go_wp2_with fail
  refine (awake_any W0).mono ?_
  rintro e w1 ⟨rfl, b1⟩
  have HK1 := hid (HK0.out.more b1)
  clear b1 HK0
  have c0 : w1.cell? ⟨w.heap.size, 0, none⟩ = some (.slice sa ns.length sc) := HK1.out.c0
  have c1 : w1.cell? ⟨w.heap.size, 1, none⟩ = some (.int .i64 most) := HK1.out.c1
  have P2 := hid (few_any w1 _ _ _ HK1.out.val)
  go_wp2_with fail
  refine P2.out.mono ?_
  rintro e w2 ⟨rfl, b2⟩
  have HK2 := hid (HK1.out.more b2)
  clear b2 HK1 c0 c1 P2
  cases hq : fewH ⟨ns, most⟩
  · go_wp2_with fail
    go_ret
    exact Bb.fin rfl HK2.out.bel
  have HF := hid (few_fits hq)
  have hkb : Hid (∀ x ∈ (⟨ns, most⟩ : Hp).nodes, x.kids.length ≤ 1000000000) := fun x hx => Nat.le_trans (HF.out.2 x hx).1 (by decide)
  have c0 : w2.cell? ⟨w.heap.size, 0, none⟩ = some (.slice sa ns.length sc) := HK2.out.c0
  have c1 : w2.cell? ⟨w.heap.size, 1, none⟩ = some (.int .i64 most) := HK2.out.c1
  have hn3 := HF.out.1
  simp only at hn3
  have P3 := hid (at_any w2 _ _ ⟨ns, most⟩ p HK2.out.val hp (show ns.length ≤ 1000000 by omega) hkb.out)
  go_wp2_with fail
  refine P3.out.mono ?_
  intro e w3 hpost
  clear c0 c1 P3
  cases hat : atN ns p with
  | none =>
    have hpost' : AtPost w2 none e w3 := by rw [← hat]; exact hpost
    obtain ⟨rfl, b3⟩ := hpost'
    have BB := hid (HK2.out.bel.trans (b3.mono HK2.out.bel.size))
    clear b3 HK2 hpost
    go_wp2_with fail
    go_ret
    exact Bb.fin rfl (BB.out.alloc BB.out.size _)
  | some r =>
    obtain ⟨x, q⟩ := r
    have hpost' : AtPost w2 (some (x, q)) e w3 := by rw [← hat]; exact hpost
    obtain ⟨v3, rfl, ⟨sx, cx, rfl, hxk, hxn, hsx⟩, b3⟩ := hpost'
    clear hpost
    obtain ⟨hk6', hq0', hqn', hxq⟩ := follow_some _ _ hat
    obtain ⟨q, rfl⟩ : ∃ qn : Nat, q = qn := ⟨q.toNat, by omega⟩
    rw [Int.toNat_natCast] at hxq
    go_upto_region 5 with (fail)
    obtain ⟨w4, hw4⟩ : ∃ w4, w3.alloc (Obj.cells #[.int .i64 x.kind, .int .i64 x.num, .string x.name, .slice sx x.kids.length cx] 27) = w4 := ⟨_, rfl⟩
    have b34 : Below w3.heap.size w3 w4 := by rw [← hw4]; exact (Below.refl _ _).alloc (Nat.le_refl _) _
    have hN : w4.heap[w3.heap.size]? = some (Obj.cells #[.int .i64 x.kind, .int .i64 x.num, .string x.name, .slice sx x.kids.length cx] 27) := by rw [← hw4]; exact World.alloc_heap_new _ _
    obtain ⟨N, hNe⟩ : ∃ N, w3.heap.size = N := ⟨_, rfl⟩
    rw [hNe] at hN
    have HK4 := hid ((HK2.out.more b3).more b34)
    have HN4 := hid (And.intro hN (And.intro (hsx.below intGood b34) (And.intro hxk hxn)))
    rw [hw4, hNe]
    have hk6 : (x.kind == 6) = false := by simpa using hk6'
    have hq0 : decide ((q : Int) < 0) = false := by simp
    have hqlt : q < ns.length := by omega
    have hqn : decide ((q : Int) ≥ ns.length) = false := by simp; omega
    have HXQ := hid (And.intro hxq hat)
    clear hN hsx b34 b3 hw4 hNe HK2 hxk hxn hk6' hq0' hqn' hxq hat
    go_wp2_with fail
    obtain ⟨b1, o1, c1', x', sy, cy, hv1, hx', hyk, hyn, hsy, d0, d1, d2, d3⟩ := (show NSl w4 (fun _ => True) (.slice sa ns.length sc) ns from by obtain ⟨a, c, e, _, h⟩ := HK4.out.val; cases e; exact h).at (Below.refl _ _) (k := q) hqlt
    cases hv1
    obtain rfl : x = x' := by have := HXQ.out.1; rw [this] at hx'; cases hx'; rfl
    obtain ⟨w5, hw5⟩ : ∃ w5, w4.drew = w5 := ⟨_, rfl⟩
    have bd : Below w4.heap.size w4 w5 := by rw [← hw5]; exact (Below.refl _ _).drew
    have HK5 := hid (HK4.out.more bd)
    have HN5 := hid (And.intro ((bd.block _ (lt_of_some HN4.out.1)).trans HN4.out.1) (HN4.out.2.1.below intGood bd))
    have N0 : Hid (w5.cell? ⟨N, 0, none⟩ = some (.int .i64 x.kind)) := cell_of HN5.out.1
    have N1 : Hid (w5.cell? ⟨N, 1, none⟩ = some (.int .i64 x.num)) := cell_of HN5.out.1
    have N2 : Hid (w5.cell? ⟨N, 2, none⟩ = some (.string x.name)) := cell_of HN5.out.1
    have N3 : Hid (w5.cell? ⟨N, 3, none⟩ = some (.slice sx x.kids.length cx)) := cell_of HN5.out.1
    have C0 : Hid (w5.cell? ⟨w.heap.size, 0, none⟩ = some (.slice (some ⟨b1, o1, none⟩) ns.length sc)) := HK5.out.c0
    have D0 : Hid (w5.cell? ⟨b1, o1 + q * 4, none⟩ = some (.int .i64 x.kind)) := later_cell bd d0
    have D1 : Hid (w5.cell? ⟨b1, o1 + q * 4 + 1, none⟩ = some (.int .i64 x.num)) := later_cell bd d1
    have D2 : Hid (w5.cell? ⟨b1, o1 + q * 4 + 2, none⟩ = some (.string x.name)) := later_cell bd d2
    have D3 : Hid (w5.cell? ⟨b1, o1 + q * 4 + 3, none⟩ = some (.slice sy x.kids.length cy)) := later_cell bd d3
    have hnd := node_any w5 _ _ (.agg #[.int .i64 x.kind, .int .i64 x.num, .string x.name, .slice sy x.kids.length cy]) (.agg #[.int .i64 x.kind, .int .i64 x.num, .string x.name, .slice sx x.kids.length cx]) x x ⟨sy, cy, rfl, hyk, hyn, hsy.below intGood bd⟩ ⟨sx, cx, rfl, HN4.out.2.2.1, HN4.out.2.2.2, HN5.out.2⟩
    rw [decide_eq_true rfl] at hnd
    have HND := hid hnd
    clear hnd d0 d1 d2 d3 hsy hyk hyn hx' bd HK4
    refine (wpIn_wide (n := 9)).1 ?_
    refine wpIn_region_held (fun W => Below w5.heap.size w5 W) (by kernel_rfl) ?_
    rw [hw5]
    clear hw5
    refine wpAnyHF_takeD (i := 0) 38 (v := .pointer (some ⟨N, 0, none⟩)) rfl rfl rfl (by kernel_rfl) (by kernel_rfl) (by kernel_rfl) (fun _ _ _ h => h) ⟨.inl ⟨rfl, fun W hW => by simp [execOp, go_sem]⟩, fun W => rfl⟩ (Below.refl _ _) ?_
    refine wpAnyHF_takeD (i := 1) 39 (v := .int .i64 x.kind) rfl rfl rfl (by kernel_rfl) (by kernel_rfl) (by kernel_rfl) (fun _ _ _ h => h) ⟨.inl ⟨rfl, fun W hW => by have m0 := later_cell hW N0.out; simp [execOp, go_sem, m0]⟩, fun W => rfl⟩ (Below.refl _ _) ?_
    refine wpAnyHF_takeD (i := 2) 40 (v := .bool false) rfl rfl rfl (by kernel_rfl) (by kernel_rfl) (by kernel_rfl) (fun _ _ _ h => h) ⟨.inl ⟨rfl, fun W hW => by simp [execOp, go_sem, hk6]⟩, fun W => rfl⟩ (Below.refl _ _) ?_
    simp only [Act.put, List.setIfInBounds_toArray, List.set_cons_zero, List.set_cons_succ]
    refine wpAnyHF_takeD (i := 3) 41 (v := .bool false) rfl rfl rfl (by kernel_rfl) (by kernel_rfl) (by kernel_rfl) (fun _ _ _ h => h) ⟨.inl ⟨rfl, fun W hW => by simp [execOp, go_sem]⟩, fun W => rfl⟩ (Below.refl _ _) ?_
    refine wpAnyHF_takeD (i := 4) 42 (v := .int .i64 q) rfl rfl rfl (by kernel_rfl) (by kernel_rfl) (by kernel_rfl) (fun _ _ _ h => h) ⟨.inl ⟨rfl, fun W hW => by simp [execOp, go_sem]⟩, fun W => rfl⟩ (Below.refl _ _) ?_
    refine wpAnyHF_takeD (i := 5) 43 (v := .bool false) rfl rfl rfl (by kernel_rfl) (by kernel_rfl) (by kernel_rfl) (fun _ _ _ h => h) ⟨.inl ⟨rfl, fun W hW => by simp [execOp, go_sem, hq0]⟩, fun W => rfl⟩ (Below.refl _ _) ?_
    simp only [Act.put, List.setIfInBounds_toArray, List.set_cons_zero, List.set_cons_succ]
    refine wpAnyHF_takeD (i := 6) 44 (v := .bool false) rfl rfl rfl (by kernel_rfl) (by kernel_rfl) (by kernel_rfl) (fun _ _ _ h => h) ⟨.inl ⟨rfl, fun W hW => by simp [execOp, go_sem]⟩, fun W => rfl⟩ (Below.refl _ _) ?_
    refine wpAnyHF_takeD (i := 7) 45 (v := .bool false) rfl rfl rfl (by kernel_rfl) (by kernel_rfl) (by kernel_rfl) (fun _ _ _ h => h) ⟨.inl ⟨rfl, fun W hW => by simp [execOp, go_sem]⟩, fun W => rfl⟩ (Below.refl _ _) ?_
    refine wpAnyHF_takeD (i := 8) 46 (v := .int .i64 q) rfl rfl rfl (by kernel_rfl) (by kernel_rfl) (by kernel_rfl) (fun _ _ _ h => h) ⟨.inl ⟨rfl, fun W hW => by simp [execOp, go_sem]⟩, fun W => rfl⟩ (Below.refl _ _) ?_
    simp only [Act.put, List.setIfInBounds_toArray, List.set_cons_zero, List.set_cons_succ]
    refine wpAnyHF_takeD (i := 9) 47 (v := .pointer (some ⟨w.heap.size, 0, none⟩)) rfl rfl rfl (by kernel_rfl) (by kernel_rfl) (by kernel_rfl) (fun _ _ _ h => h) ⟨.inl ⟨rfl, fun W hW => by simp [execOp, go_sem]⟩, fun W => rfl⟩ (Below.refl _ _) ?_
    refine wpAnyHF_takeD (i := 10) 48 (v := .slice (some ⟨b1, o1, none⟩) ns.length sc) rfl rfl rfl (by kernel_rfl) (by kernel_rfl) (by kernel_rfl) (fun _ _ _ h => h) ⟨.inl ⟨rfl, fun W hW => by have m0 := later_cell hW C0.out; simp [execOp, go_sem, m0]⟩, fun W => rfl⟩ (Below.refl _ _) ?_
    refine wpAnyHF_takeD (i := 11) 49 (v := .int .i64 ns.length) rfl rfl rfl (by kernel_rfl) (by kernel_rfl) (by kernel_rfl) (fun _ _ _ h => h) ⟨.inl ⟨rfl, fun W hW => by simp [execOp, go_sem, resolve, invoke, builtin]⟩, fun W => rfl⟩ (Below.refl _ _) ?_
    simp only [Act.put, List.setIfInBounds_toArray, List.set_cons_zero, List.set_cons_succ]
    refine wpAnyHF_takeD (i := 12) 50 (v := .bool false) rfl rfl rfl (by kernel_rfl) (by kernel_rfl) (by kernel_rfl) (fun _ _ _ h => h) ⟨.inl ⟨rfl, fun W hW => by simp [execOp, go_sem, hqlt]⟩, fun W => rfl⟩ (Below.refl _ _) ?_
    refine wpAnyHF_takeD (i := 13) 51 (v := .bool false) rfl rfl rfl (by kernel_rfl) (by kernel_rfl) (by kernel_rfl) (fun _ _ _ h => h) ⟨.inl ⟨rfl, fun W hW => by simp [execOp, go_sem]⟩, fun W => rfl⟩ (Below.refl _ _) ?_
    refine wpAnyHF_takeD (i := 14) 52 (v := .bool false) rfl rfl rfl (by kernel_rfl) (by kernel_rfl) (by kernel_rfl) (fun _ _ _ h => h) ⟨.inl ⟨rfl, fun W hW => by simp [execOp, go_sem]⟩, fun W => rfl⟩ (Below.refl _ _) ?_
    simp only [Act.put, List.setIfInBounds_toArray, List.set_cons_zero, List.set_cons_succ]
    refine wpAnyHF_takeD (i := 15) 53 (v := .pointer (some ⟨w.heap.size, 0, none⟩)) rfl rfl rfl (by kernel_rfl) (by kernel_rfl) (by kernel_rfl) (fun _ _ _ h => h) ⟨.inl ⟨rfl, fun W hW => by simp [execOp, go_sem]⟩, fun W => rfl⟩ (Below.refl _ _) ?_
    refine wpAnyHF_takeD (i := 16) 54 (v := .slice (some ⟨b1, o1, none⟩) ns.length sc) rfl rfl rfl (by kernel_rfl) (by kernel_rfl) (by kernel_rfl) (fun _ _ _ h => h) ⟨.inl ⟨rfl, fun W hW => by have m0 := later_cell hW C0.out; simp [execOp, go_sem, m0]⟩, fun W => rfl⟩ (Below.refl _ _) ?_
    refine wpAnyHF_takeD (i := 17) 55 (v := .int .i64 q) rfl rfl rfl (by kernel_rfl) (by kernel_rfl) (by kernel_rfl) (fun _ _ _ h => h) ⟨.inl ⟨rfl, fun W hW => by simp [execOp, go_sem]⟩, fun W => rfl⟩ (Below.refl _ _) ?_
    simp only [Act.put, List.setIfInBounds_toArray, List.set_cons_zero, List.set_cons_succ]
    refine wpAnyHF_takeD (i := 18) 56 (v := .pointer (some ⟨b1, o1 + q * 4, none⟩)) rfl rfl rfl (by kernel_rfl) (by kernel_rfl) (by kernel_rfl) (fun _ _ _ h => h) ⟨.inl ⟨rfl, fun W hW => by simp [execOp, go_sem, hqlt]⟩, fun W => rfl⟩ (Below.refl _ _) ?_
    refine wpAnyHF_takeD (i := 19) 57 (v := .agg #[.int .i64 x.kind, .int .i64 x.num, .string x.name, .slice sy x.kids.length cy]) rfl rfl rfl (by kernel_rfl) (by kernel_rfl) (by kernel_rfl) (fun _ _ _ h => h) ⟨.inl ⟨rfl, fun W hW => by have m0 := later_cell hW D0.out; have m1 := later_cell hW D1.out; have m2 := later_cell hW D2.out; have m3 := later_cell hW D3.out; simp [execOp, go_sem, m0, m1, m2, m3]⟩, fun W => rfl⟩ (Below.refl _ _) ?_
    refine wpAnyHF_takeD (i := 20) 58 (v := .agg #[.int .i64 x.kind, .int .i64 x.num, .string x.name, .slice sx x.kids.length cx]) rfl rfl rfl (by kernel_rfl) (by kernel_rfl) (by kernel_rfl) (fun _ _ _ h => h) ⟨.inl ⟨rfl, fun W hW => by have m0 := later_cell hW N0.out; have m1 := later_cell hW N1.out; have m2 := later_cell hW N2.out; have m3 := later_cell hW N3.out; simp [execOp, go_sem, m0, m1, m2, m3]⟩, fun W => rfl⟩ (Below.refl _ _) ?_
    simp only [Act.put, List.setIfInBounds_toArray, List.set_cons_zero, List.set_cons_succ]
    refine wpAnyHF_one (i := 21) (by kernel_rfl) rfl rfl ?_
    refine wpIn_callD 59 rfl (P := Try.prog) (f := 11) (args := #[.agg #[.int .i64 x.kind, .int .i64 x.num, .string x.name, .slice sy x.kids.length cy], .agg #[.int .i64 x.kind, .int .i64 x.num, .string x.name, .slice sx x.kids.length cx]]) (by simp [execOp, resolve, invoke, go_sem]) ?_
    refine HND.out.mono ?_
    rintro e w6 ⟨rfl, b6⟩
    refine ⟨_, rfl, b6, ?_⟩
    simp only [Act.put, List.setIfInBounds_toArray, List.set_cons_zero, List.set_cons_succ]
    refine wpAnyHF_takeD (i := 22) 60 (v := .bool false) rfl rfl rfl (by kernel_rfl) (by kernel_rfl) (by kernel_rfl) (fun _ _ _ h => h) ⟨.inl ⟨rfl, fun W hW => by simp [execOp, go_sem]⟩, fun W => rfl⟩ b6 ?_
    refine wpAnyHF_takeD (i := 23) 61 (v := .bool false) rfl rfl rfl (by kernel_rfl) (by kernel_rfl) (by kernel_rfl) (fun _ _ _ h => h) ⟨.inl ⟨rfl, fun W hW => by simp [execOp, go_sem]⟩, fun W => rfl⟩ b6 ?_
    simp only [Act.put, List.setIfInBounds_toArray, List.set_cons_zero, List.set_cons_succ]
    refine wpAnyHF_done (by kernel_rfl) ?_ _
    have HK6 := hid (HK5.out.more b6)
    clear b6 HK5 HN5 HN4 N0 N1 N2 N3 C0 D0 D1 D2 D3 HND hk6 hq0 hqn
    gi_wp2
    go_wp2_with fail
    go_loopw [9] (fun i wr => ∃ k : Nat, k ≤ ns.length ∧ i = .int .i64 k ∧ Kept w wr w.heap.size 24 (some ⟨b1, o1, none⟩) sc ⟨ns, most⟩) (fun i _ => ns.length - (intOf i).toNat)
    case atStart => exact ⟨0, Nat.zero_le _, rfl, HK6.out⟩
    case round =>
      obtain ⟨k, hk, rfl, KP⟩ := hrel
      obtain ⟨wo, rfl⟩ : ∃ wo : World, wo = wr := ⟨_, rfl⟩
      have HKP := hid KP
      clear KP HK6
      have c0 : wo.cell? ⟨w.heap.size, 0, none⟩ = some (.slice (some ⟨b1, o1, none⟩) ns.length sc) := HKP.out.c0
      by_cases hlt : k < ns.length
      · obtain ⟨b2, o2, c2', y, sz, cz, hv1, hy, hyk, hyn, hsz, d0, d1, d2, d3⟩ := (show NSl wo (fun _ => True) (.slice (some ⟨b1, o1, none⟩) ns.length sc) ns from by obtain ⟨a, c, e, _, h⟩ := HKP.out.val; cases e; exact h).at (Below.refl _ _) (k := k) hlt
        cases hv1
        obtain ⟨_, _, e, lz, _⟩ := hsz.shape
        cases e
        have HY := hid (And.intro hy hsz)
        clear hy hsz hyk hyn
        go_upto_region 13 with (fail)
        obtain ⟨w7, hw7⟩ : ∃ w7, wo.alloc (Obj.cells #[.int .i64 y.kind, .int .i64 y.num, .string y.name, .slice sz y.kids.length cz] 27) = w7 := ⟨_, rfl⟩
        have b7 : Below wo.heap.size wo w7 := by rw [← hw7]; exact (Below.refl _ _).alloc (Nat.le_refl _) _
        have hM : w7.heap[wo.heap.size]? = some (Obj.cells #[.int .i64 y.kind, .int .i64 y.num, .string y.name, .slice sz y.kids.length cz] 27) := by rw [← hw7]; exact World.alloc_heap_new _ _
        obtain ⟨M, hMe⟩ : ∃ M, wo.heap.size = M := ⟨_, rfl⟩
        rw [hMe] at hM
        have r0 : w7.cell? ⟨M, 0, none⟩ = some (.int .i64 y.kind) := cell_of hM
        have r3 : w7.cell? ⟨M, 3, none⟩ = some (.slice sz y.kids.length cz) := cell_of hM
        have HK7 := hid (HKP.out.more b7)
        have HY7 := hid (HY.out.2.below intGood b7)
        rw [hw7, hMe]
        clear hw7 hMe b7 hM d0 d1 d2 d3 c0
        cases e1 : y.kind == 6
        · go_wp2_with fail
          go_roundw
          case rel => exact ⟨k + 1, by omega, by go_num, HK7.out⟩
          case measure => simp [intOf]; omega
        cases e2 : ((y.kids.length : Int) == 1)
        · go_wp2_with fail
          go_roundw
          case rel => exact ⟨k + 1, by omega, by go_num, HK7.out⟩
          case measure => simp [intOf]; omega
        have hlen : y.kids.length = 1 := by simp at e2; omega
        obtain ⟨z, hz⟩ : ∃ z, y.kids = [z] := List.length_eq_one_iff.1 hlen
        obtain ⟨b3, o3, c3', z', hv3, hz2, hinz, e3⟩ := ISl.at HY7.out (Below.refl _ _) (k := 0) (by omega)
        cases hv3
        obtain rfl : z = z' := by rw [hz] at hz2; simpa using hz2
        replace e3 : w7.cell? ⟨b3, o3, none⟩ = some (.int .i64 z) := by simpa using e3
        have HZ := hid hz
        have hl1 : 0 < y.kids.length := by omega
        clear hz hz2 hinz
        cases e4 : z == p
        · go_wp2_with fail
          go_roundw
          case rel => exact ⟨k + 1, by omega, by go_num, HK7.out⟩
          case measure => simp [intOf]; omega
        · have hat : atN ns k = some (x, (q : Int)) := at_ind HXQ.out.2 HY.out.1 (by simpa using e1) (by rw [HZ.out, (by simpa using e4 : z = p)])
          have hpk := at_any w7 _ _ ⟨ns, most⟩ k HK7.out.val ⟨by omega, by omega⟩ (show ns.length ≤ 1000000 by omega) hkb.out
          rw [show atN (⟨ns, most⟩ : Hp).nodes k = some (x, (q : Int)) from hat] at hpk
          have HPK := hid hpk
          clear hat hpk
          have c0 : w7.cell? ⟨w.heap.size, 0, none⟩ = some (.slice (some ⟨b1, o1, none⟩) ns.length sc) := HK7.out.c0
          have c1 : w7.cell? ⟨w.heap.size, 1, none⟩ = some (.int .i64 most) := HK7.out.c1
          go_wp2_with fail
          refine HPK.out.mono ?_
          rintro e w8 ⟨v8, rfl, ⟨s8, k8, rfl, _, _, _⟩, b8⟩
          have b9 := b8.alloc b8.size (.cells #[.int .i64 x.kind, .int .i64 x.num, .string x.name, .slice s8 x.kids.length k8] 27)
          have HK9 := hid (HK7.out.more b9)
          clear c0 c1 r0 r3 e3 b8 b9 HPK HK7 HY7
          go_wp2_with fail
          go_roundw
          case rel => exact ⟨k + 1, by omega, by go_num, HK9.out⟩
          case measure => simp [intOf]; omega
      · obtain rfl : k = ns.length := by omega
        go_wp2_with fail
        go_ret
        exact Bb.fin rfl HKP.out.bel
end Go.Proofs.Ytlaebhgmkiiniaa
