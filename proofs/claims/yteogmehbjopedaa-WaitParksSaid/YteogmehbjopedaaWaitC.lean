/- wait.those: the iterator over waiters. -/
import Derived.Test.YteogmehbjopedaaWaitB
import Derived.Test.YteogmehbjopedaaRange
import Derived.Test.YteogmehbjopedaaHeld
namespace Go.Proofs.Yteogmehbjopedaa
open Go.RowKit Go.Shelf
set_option maxHeartbeats 400000 in
theorem those_any (w : World) (lv fv : Value) (h1 : ∃ a n c, lv = .slice a n c) (h2 : ∃ g lb, fv = .func (.func g) #[] lb) :
    Calls Try.prog 39 #[lv, fv] w fun e w' => e = .returned (.func (.func 41) #[] #[.pointer (some ⟨w.heap.size, 0, none⟩), .pointer (some ⟨w.heap.size + 1, 0, none⟩)]) ∧
      w' = (w.alloc (.cells #[lv] 22)).alloc (.cells #[fv] 41) := by
  obtain ⟨a, n, c, rfl⟩ := h1
  obtain ⟨g, lb, rfl⟩ := h2
  go_enter Try.func39, Try.ntmps39
  go_wp2
  go_ret
  exact ⟨rfl, rfl⟩
structure ThoseS (B bi : Nat) (t : Int) (sv fv : Value) (W : World) : Prop where
  b0 : W.cell? ⟨B, 0, none⟩ = some (.int .i64 t)
  b1 : W.cell? ⟨B, 1, none⟩ = some sv
  bi : W.cell? ⟨bi, 0, none⟩ = some fv
/-- What those hands over: a waiter of the call's own, and whether it holds. -/
def thoseE (p : W → Bool) (W0 W' : World) (x : W) (args : Array Value) : Prop := ∃ v, args = #[v, .bool (p x)] ∧ WVal W' (fun b => W0.heap.size ≤ b) v x
set_option maxHeartbeats 2000000 in
theorem those1_seq (n : Nat) (w : World) (bl bi : Nat) (lv : Value) (g : Nat) (lb : Array Value) (xs : List W) (p : W → Bool) (h : WSl w (fun _ => True) lv xs) (hp : PredW g lb p w)
    (eg : ∀ args w, (callFunc g args).run Try.prog w = .ok (.enter g args) w) (hlen : ∀ x ∈ xs, x.2.length ≤ 1000000000) :
    SeqW n Try.prog 41 #[.pointer (some ⟨bl, 0, none⟩), .pointer (some ⟨bi, 0, none⟩)] (thoseE p) xs
      (fun W => Below w.heap.size w W ∧ W.heap[bl]? = some (.cells #[lv] 22) ∧ W.heap[bi]? = some (.cells #[.func (.func g) #[] lb] 41)) := by
  intro l J Jx W0 hJ hJx hK hKx hY h0
  obtain ⟨a1, c1, rfl, l1, _⟩ := h.shape
  obtain ⟨k0, k1, k2⟩ := hK _ _ h0
  have e1 : W0.cell? ⟨bl, 0, none⟩ = some (.slice a1 xs.length c1) := cell_of k1
  refine callsIn_of_wp Try.func41 rfl trivial ?_ rfl
  simp only [Try.ntmps41, List.size_toArray, List.length_cons, List.length_nil, Nat.reduceAdd, Nat.reduceSub, Array.replicate_succ, Array.replicate_zero, List.push_toArray, List.append_toArray, List.nil_append, List.cons_append]
  gi_wp2
  gi_loopw [8] (fun i wr => ∃ k : Nat, k ≤ xs.length ∧ i = .int .i64 k ∧ J (xs.take k) wr) (fun i wr => xs.length - (intOf i).toNat)
  case atStart => exact ⟨0, Nat.zero_le _, rfl, by simpa using h0⟩
  case round =>
    obtain ⟨k, hk, rfl, hJk⟩ := hrel
    by_cases hlt : k < xs.length
    · obtain ⟨m0, m1, m2⟩ := hK _ _ hJk
      obtain ⟨b1, o1, c1', x, sv, hv1, hx, hin, hs, e1, e2⟩ := h.at m0 (k := k) hlt
      cases hv1
      obtain ⟨sa, sc, rfl, _⟩ := hs.shape
      have hxm := List.mem_of_getElem? hx
      have hlen1 := hlen x hxm
      gi_wp2
      have hh := World.alloc_heap_new wr (Obj.cells #[.int .i64 x.1, .slice sa x.2.length sc] 40)
      have hbx := (Below.refl wr.heap.size wr).alloc (Nat.le_refl _) (Obj.cells #[.int .i64 x.1, .slice sa x.2.length sc] 40)
      have hzx : (wr.alloc (Obj.cells #[.int .i64 x.1, .slice sa x.2.length sc] 40)).heap.size = wr.heap.size + 1 := World.size_alloc _ _
      have n2 := (hbx.block bi (lt_of_some m2)).trans m2
      have hsx := hs.below intGood hbx
      have hm0x := m0.trans (hbx.mono m0.size)
      generalize wr.alloc (Obj.cells #[.int .i64 x.1, .slice sa x.2.length sc] 40) = W1 at *
      have b0 : W1.cell? ⟨wr.heap.size, 0, none⟩ = some (.int .i64 x.1) := cell_of hh
      have b1' : W1.cell? ⟨wr.heap.size, 1, none⟩ = some (.slice sa x.2.length sc) := cell_of hh
      have bi' : W1.cell? ⟨bi, 0, none⟩ = some (.func (.func g) #[] lb) := cell_of n2
      have hS : ThoseS wr.heap.size bi x.1 (.slice sa x.2.length sc) (.func (.func g) #[] lb) W1.drew := ⟨b0, b1', bi'⟩
      refine wpIn_region_held (ThoseS wr.heap.size bi x.1 (.slice sa x.2.length sc) (.func (.func g) #[] lb)) (by kernel_rfl) ?_
      refine wpAnyHF_take (i := 0) rfl rfl (by kernel_rfl) (by kernel_rfl) (by kernel_rfl) (fun _ _ _ h => h) ⟨.inl ⟨rfl, fun W hW => by simp [execOp, go_sem]; rfl⟩, fun W => rfl⟩ hS ?_
      refine wpAnyHF_take (i := 1) (v := .agg #[.int .i64 x.1, .slice sa x.2.length sc]) rfl rfl (by kernel_rfl) (by kernel_rfl) (by kernel_rfl) (fun _ _ _ h => h) ⟨.inl ⟨rfl, fun W hW => by simp [execOp, go_sem, hW.b0, hW.b1]⟩, fun W => rfl⟩ hS ?_
      refine wpAnyHF_take (i := 3) (v := .func (.func g) #[] lb) rfl rfl (by kernel_rfl) (by kernel_rfl) (by kernel_rfl) (fun _ _ _ h => h) ⟨.inl ⟨rfl, fun W hW => by simp [execOp, go_sem, hW.bi]⟩, fun W => rfl⟩ hS ?_
      refine wpAnyHF_take (i := 4) (v := .agg #[.int .i64 x.1, .slice sa x.2.length sc]) rfl rfl (by kernel_rfl) (by kernel_rfl) (by kernel_rfl) (fun _ _ _ h => h) ⟨.inl ⟨rfl, fun W hW => by simp [execOp, go_sem, hW.b0, hW.b1]⟩, fun W => rfl⟩ hS ?_
      refine wpAnyHF_one (i := 2) (by kernel_rfl) rfl rfl ?_
      have hd1 := (Below.refl W1.heap.size W1).drew
      have hown := own_any W1.drew (.agg #[.int .i64 x.1, .slice sa x.2.length sc]) x ⟨_, rfl, hin, hsx.below intGood hd1⟩ hlen1
      refine wpIn_call (P := Try.prog) (f := 26) (args := #[.agg #[.int .i64 x.1, .slice sa x.2.length sc]]) ?hrun1 ?_
      case hrun1 => simp [execOp, resolve, invoke, go_sem]
      refine hown.mono ?_
      rintro e W2 ⟨v2, rfl, hv2, hb2⟩
      have hb12 : Below W1.heap.size W1 W2 := hd1.trans hb2
      have hS2 : ThoseS wr.heap.size bi x.1 (.slice sa x.2.length sc) (.func (.func g) #[] lb) W2 := ⟨(hb12.cell (World.block_lt_of_cell? W1 _ b0)).trans b0, (hb12.cell (World.block_lt_of_cell? W1 _ b1')).trans b1', (hb12.cell (World.block_lt_of_cell? W1 _ bi')).trans bi'⟩
      refine ⟨_, rfl, hS2, ?_⟩
      refine wpAnyHF_one (i := 5) (by kernel_rfl) rfl rfl ?_
      have hcall := hp W2 x (.agg #[.int .i64 x.1, .slice sa x.2.length sc]) (hm0x.trans (hb12.mono hm0x.size)) ⟨_, rfl, hin, hsx.below intGood hb12⟩
      refine wpIn_call (P := Try.prog) (f := g) (args := #[.agg #[.int .i64 x.1, .slice sa x.2.length sc]] ++ lb) ?hrun2 ?_
      case hrun2 => simp [execOp, resolve, invoke, go_sem, eg]
      refine hcall.mono ?_
      rintro e W3 ⟨rfl, hb3⟩
      have hb13 : Below W1.heap.size W1 W3 := hb12.trans (hb3.mono hb12.size)
      have hS3 : ThoseS wr.heap.size bi x.1 (.slice sa x.2.length sc) (.func (.func g) #[] lb) W3 := ⟨(hb13.cell (World.block_lt_of_cell? W1 _ b0)).trans b0, (hb13.cell (World.block_lt_of_cell? W1 _ b1')).trans b1', (hb13.cell (World.block_lt_of_cell? W1 _ bi')).trans bi'⟩
      refine ⟨_, rfl, hS3, ?_⟩
      refine wpAnyHF_one (i := 6) (by kernel_rfl) rfl rfl ?_
      have hbr3 : Below wr.heap.size wr W3 := hbx.trans (hb13.mono hbx.size)
      have hpre : xs.take k ++ [x] <+: xs := by
        have : xs.take k ++ [x] = xs.take (k + 1) := by
          rw [List.take_succ_eq_append_getElem hlt, (List.getElem?_eq_some_iff.1 hx).2]
        rw [this]; exact List.take_prefix _ _
      have htk : xs.take k ++ [x] = xs.take (k + 1) := by
        rw [List.take_succ_eq_append_getElem hlt, (List.getElem?_eq_some_iff.1 hx).2]
      obtain ⟨fn, tmps, assign, body, hy, hR⟩ := hY (xs.take k) x #[v2, .bool (p x)] wr W3 hJk hbr3 hpre ⟨v2, rfl, by
        obtain ⟨sv2, rfl, h1, h2⟩ := hv2
        exact ⟨sv2, rfl, h1, (h2.below intGood hb3).weak intGood (by decide) (fun b _ hb => by have : W1.drew.heap.size = wr.heap.size + 1 := hzx; omega)⟩⟩
      refine wpIn_yield (P := Try.prog) (l := l) (fn := fn) (tmps := tmps) (assign := assign) (body := body) ?hrun3 (hR.mono ?_)
      case hrun3 => simp [execOp, resolve, invoke, go_sem, hy]
      rintro e W4 ⟨hmid, hend⟩
      have mS : ∀ i, W4.cell? ⟨wr.heap.size, i, none⟩ = W3.cell? ⟨wr.heap.size, i, none⟩ := fun i => World.cell?_of_block (hmid _ (Nat.le_refl _) (by show wr.heap.size < W3.heap.size; have := hb13.size; omega))
      rcases hend with ⟨rfl, hJ4⟩ | ⟨rfl, hJ4⟩
      · have hS4 : ThoseS wr.heap.size bi x.1 (.slice sa x.2.length sc) (.func (.func g) #[] lb) W4 := ⟨(mS 0).trans hS3.b0, (mS 1).trans hS3.b1, cell_of (hK _ _ hJ4).2.2⟩
        refine ⟨_, rfl, hS4, ?_⟩
        refine wpAnyHF_one (i := 7) (by kernel_rfl) rfl rfl ?_
        refine wpIn_value (by simp [execOp, go_sem]; rfl) ⟨hS4, ?_⟩
        refine wpAnyHF_done (by kernel_rfl) ?_ _
        change Exit.then _ _ Exit.normal { tmps := #[.func (.yield l) #[] #[], .pointer (some ⟨bl, 0, none⟩), .pointer (some ⟨bi, 0, none⟩), undef, undef, .pointer (some ⟨wr.heap.size, 0, none⟩), .slice (some ⟨b1, o1, none⟩) xs.length c1, .int .i64 xs.length, .int .i64 k, .bool true, .pointer (some ⟨b1, o1 + k * 2, none⟩), .agg #[.int .i64 x.1, .slice sa x.2.length sc], .func (.yield l) #[] #[], .agg #[.int .i64 x.1, .slice sa x.2.length sc], v2, .func (.func g) #[] lb, .agg #[.int .i64 x.1, .slice sa x.2.length sc], .bool (p x), .bool true, .bool false, u20], defers := [] } W4
        rw [htk] at hJ4
        have HJ := hid hJ4
        clear hJ4 hS4 hS3 hS2 hS hmid hR hy hcall hown hp h hs hsx hh hbx n2 hm0x b0 b1' bi' mS hb2 hb3 hb12 hb13 hbr3 hpre htk hd1 e1 e2 m0 m1 m2 k0 k1 k2 hv2
        gi_wp2
        go_roundw
        case rel => exact ⟨k + 1, by omega, by go_num, HJ.out⟩
        case measure => simp [intOf]; omega
      · have hS4 : ThoseS wr.heap.size bi x.1 (.slice sa x.2.length sc) (.func (.func g) #[] lb) W4 := ⟨(mS 0).trans hS3.b0, (mS 1).trans hS3.b1, cell_of (hKx _ _ hJ4).2.2⟩
        refine ⟨_, rfl, hS4, ?_⟩
        refine wpAnyHF_one (i := 7) (by kernel_rfl) rfl rfl ?_
        refine wpIn_value (by simp [execOp, go_sem]; rfl) ⟨hS4, ?_⟩
        refine wpAnyHF_done (by kernel_rfl) ?_ _
        change Exit.then _ _ Exit.normal { tmps := #[.func (.yield l) #[] #[], .pointer (some ⟨bl, 0, none⟩), .pointer (some ⟨bi, 0, none⟩), undef, undef, .pointer (some ⟨wr.heap.size, 0, none⟩), .slice (some ⟨b1, o1, none⟩) xs.length c1, .int .i64 xs.length, .int .i64 k, .bool true, .pointer (some ⟨b1, o1 + k * 2, none⟩), .agg #[.int .i64 x.1, .slice sa x.2.length sc], .func (.yield l) #[] #[], .agg #[.int .i64 x.1, .slice sa x.2.length sc], v2, .func (.func g) #[] lb, .agg #[.int .i64 x.1, .slice sa x.2.length sc], .bool (p x), .bool false, .bool true, u20], defers := [] } W4
        have HJ := hid (And.intro hpre hJ4)
        clear hJ4 hS4 hS3 hS2 hS hmid hR hy hcall hown hp h hs hsx hh hbx n2 hm0x b0 b1' bi' mS hb2 hb3 hb12 hb13 hbr3 hpre htk hd1 e1 e2 m0 m1 m2 k0 k1 k2 hv2
        gi_wp2
        refine bodyPost_ret (results_none rfl _ _ _) rfl ?_
        exact ⟨⟨_, rfl⟩, .inr ⟨_, HJ.out.1, HJ.out.2⟩⟩
    · obtain rfl : k = xs.length := by omega
      rw [List.take_length] at hJk
      have HJ := hid hJk
      clear hJk h hp hK hKx hY hJ hJx h0 k0 k1 k2 e1
      gi_wp2
      go_end0
      exact ⟨⟨_, rfl⟩, .inl HJ.out⟩
end Go.Proofs.Yteogmehbjopedaa
