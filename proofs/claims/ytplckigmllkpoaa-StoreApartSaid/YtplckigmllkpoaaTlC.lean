/- tlog.vars: the iterators over variables; once. -/
import Derived.Test.YtplckigmllkpoaaTlB
import Derived.Test.YtplckigmllkpoaaRange
import Derived.Test.YtplckigmllkpoaaMapB
import Derived.BigRegionIn
namespace Go.Proofs.Ytplckigmllkpoaa
open Go.RowKit Go.Shelf Go.Maps
attribute [local go_sem] Oper.semAt_some
theorem wpListIn_yield {n : Nat} {P : Program} {w : World} {ops : Array Oper} {rest : List Oper} {o : Oper} {a : Act} {Q : Exit → Act → World → Prop} (hgd : o.guard = none) {l : Nat} {fn : FuncId} {tmps : Array Value} {assign body : Code} (hrun : (execOp a.eval o).run P w = .ok (.round l fn tmps assign body) w)
    (h : RoundIn Fence.wide (n - 1) P l fn tmps assign body w fun e w' => ∃ v, e = .returned v ∧ wpListIn Fence.wide n P ops Q rest (a.put o.dst v) w') : wpListIn Fence.wide n P ops Q (o :: rest) a w := by
  refine wpListIn_plain hgd fun K hK => ?_
  exact wpIn_yield hrun (RoundIn.mono h fun e w' ⟨v, he, hk⟩ => ⟨v, he, hK _ _ hk⟩)
theorem wpListIn_calls {n : Nat} {P : Program} {w : World} {ops : Array Oper} {rest : List Oper} {o : Oper} {a : Act} {Q : Exit → Act → World → Prop} (hgd : o.guard = none) {f : FuncId} {args : Array Value} (hrun : (execOp a.eval o).run P w = .ok (.enter f args) w)
    (h : Calls P f args w fun e w' => ∃ v, e = .returned v ∧ wpListIn Fence.wide n P ops Q rest (a.put o.dst v) w') : wpListIn Fence.wide n P ops Q (o :: rest) a w := by
  refine wpListIn_plain hgd fun K hK => ?_
  exact wpIn_call hrun (h.mono fun e w' ⟨v, he, hk⟩ => ⟨v, he, hK _ _ hk⟩)
set_option maxHeartbeats 400000 in
theorem varsW_any (w : World) (lv fv : Value) (h1 : ∃ a n c, lv = .slice a n c) (h2 : ∃ g lb, fv = .func (.func g) #[] lb) :
    Calls Try.prog 48 #[lv, fv] w fun e w' => e = .returned (.func (.func 61) #[] #[.pointer (some ⟨w.heap.size, 0, none⟩), .pointer (some ⟨w.heap.size + 1, 0, none⟩)]) ∧
      w' = (w.alloc (.cells #[lv] 54)).alloc (.cells #[fv] 80) := by
  obtain ⟨a, n, c, rfl⟩ := h1
  obtain ⟨g, lb, rfl⟩ := h2
  go_enter Try.func48, Try.ntmps48
  go_wp2
  go_ret
  exact ⟨rfl, rfl⟩
/-- What vars hands over: a variable. -/
def varE (_W0 _W' : World) (x : Pr) (args : Array Value) : Prop := args = #[.int .i64 x.1] ∧ In x.1
/-- A function that takes a pair's first part. -/
def Firsts (g : Nat) (lb : Array Value) : Prop := ∀ (W : World) (x : Pr), Calls Try.prog g (#[.agg #[.int .i64 x.1, .int .i64 x.2]] ++ lb) W (Ib x.1 W)
set_option maxHeartbeats 400000 in
theorem firstW : Firsts 49 #[] := by
  intro W x
  simp only [List.append_toArray, List.append_nil]
  go_enter Try.func49, Try.ntmps49
  go_wp2
  go_ret
  exact Ib.fin rfl ((Below.refl _ _).alloc (Nat.le_refl _) _)
set_option maxHeartbeats 2000000 in
theorem varsW_seq (n : Nat) (w : World) (bl bi : Nat) (lv : Value) (g : Nat) (lb : Array Value) (xs : List Pr) (h : PSl w (fun _ => True) lv xs) (hp : Firsts g lb)
    (eg : ∀ args w, (callFunc g args).run Try.prog w = .ok (.enter g args) w) :
    SeqW n Try.prog 61 #[.pointer (some ⟨bl, 0, none⟩), .pointer (some ⟨bi, 0, none⟩)] varE xs
      (fun W => Below w.heap.size w W ∧ W.heap[bl]? = some (.cells #[lv] 54) ∧ W.heap[bi]? = some (.cells #[.func (.func g) #[] lb] 80)) := by
  intro l J Jx W0 hJ hJx hK hKx hY h0
  obtain ⟨a1, c1, rfl, l1, _⟩ := h.shape
  obtain ⟨k0, k1, k2⟩ := hK _ _ h0
  have e1 : W0.cell? ⟨bl, 0, none⟩ = some (.slice a1 xs.length c1) := cell_of k1
  refine callsIn_of_wp Try.func61 rfl trivial ?_ rfl
  simp only [Try.ntmps61, List.size_toArray, List.length_cons, List.length_nil, Nat.reduceAdd, Nat.reduceSub, Array.replicate_succ, Array.replicate_zero, List.push_toArray, List.append_toArray, List.nil_append, List.cons_append]
  gi_wp2
  gi_loopw [8] (fun i wr => ∃ k : Nat, k ≤ xs.length ∧ i = .int .i64 k ∧ J (xs.take k) wr) (fun i wr => xs.length - (intOf i).toNat)
  case atStart => exact ⟨0, Nat.zero_le _, rfl, by simpa using h0⟩
  case round =>
    obtain ⟨k, hk, rfl, hJk⟩ := hrel
    by_cases hlt : k < xs.length
    · obtain ⟨m0, m1, m2⟩ := hK _ _ hJk
      obtain ⟨b1, o1, c1', x, hv1, hx, hin, hin2, e1, e2⟩ := h.at m0 (k := k) hlt
      cases hv1
      have hbx := (Below.refl wr.heap.size wr).alloc (Nat.le_refl _) (Obj.cells #[.int .i64 x.1, .int .i64 x.2] 63)
      have n2 := (hbx.block bi (lt_of_some m2)).trans m2
      have c2 : (wr.alloc (Obj.cells #[.int .i64 x.1, .int .i64 x.2] 63)).cell? ⟨bi, 0, none⟩ = some (.func (.func g) #[] lb) := cell_of n2
      have hcall := hid (hp (wr.alloc (Obj.cells #[.int .i64 x.1, .int .i64 x.2] 63)) x)
      have HX := hid (And.intro hx hin)
      have HB := hid hbx
      clear hx hin hbx n2 hp h
      have hbi := lt_of_some m2
      gi_wp2_with fail
      refine ⟨trivial, (fun h => by cases h), CallsIn.mono (callsIn_wide.2 hcall.out) ?_⟩
      rintro e w2 ⟨rfl, b2⟩
      have hb2 := HB.out.trans (b2.mono HB.out.size)
      have hpre : xs.take k ++ [x] <+: xs := by
        rw [show xs.take k ++ [x] = xs.take (k + 1) by rw [List.take_succ_eq_append_getElem hlt, (List.getElem?_eq_some_iff.1 HX.out.1).2]]
        exact List.take_prefix _ _
      obtain ⟨fn, tmps, assign, body, hy, hR⟩ := hY (xs.take k) x #[.int .i64 x.1] wr w2 hJk hb2 hpre ⟨rfl, HX.out.2⟩
      have HY := hid (And.intro hy hR)
      clear hy hR hb2 b2 hcall hY e1 e2 c2
      gi_wp2_with fail
      rw [HY.out.1]
      simp only [Oper.uponIn]
      refine ⟨(fun h => by cases h), RoundIn.mono HY.out.2 ?_⟩
      have htk : xs.take k ++ [x] = xs.take (k + 1) := by rw [List.take_succ_eq_append_getElem hlt, (List.getElem?_eq_some_iff.1 HX.out.1).2]
      have HTK := hid htk
      clear htk
      rintro e W4 ⟨hmid, hend⟩
      rcases hend with ⟨rfl, hJ4⟩ | ⟨rfl, hJ4⟩
      · rw [HTK.out] at hJ4
        have HJ := hid hJ4
        clear hJ4 hmid HY hJk hpre
        gi_wp2_with fail
        go_roundw
        case rel => exact ⟨k + 1, by omega, by go_num, HJ.out⟩
        case measure => simp [intOf]; omega
      · have HJ := hid (And.intro hpre hJ4)
        clear hJ4 hmid HY hJk hpre
        gi_wp2_with fail
        refine bodyPost_ret (results_none rfl _ _ _) rfl ?_
        exact ⟨⟨_, rfl⟩, .inr ⟨_, HJ.out.1, HJ.out.2⟩⟩
    · obtain rfl : k = xs.length := by omega
      rw [List.take_length] at hJk
      have HJ := hid hJk
      clear hJk h hp hK hKx hY hJ hJx h0 k0 k1 k2 e1
      gi_wp2
      go_end0
      exact ⟨⟨_, rfl⟩, .inl HJ.out⟩
set_option maxHeartbeats 400000 in
theorem varsR_any (w : World) (lv fv : Value) (h1 : ∃ a n c, lv = .slice a n c) (h2 : ∃ g lb, fv = .func (.func g) #[] lb) :
    Calls Try.prog 50 #[lv, fv] w fun e w' => e = .returned (.func (.func 62) #[] #[.pointer (some ⟨w.heap.size, 0, none⟩), .pointer (some ⟨w.heap.size + 1, 0, none⟩)]) ∧
      w' = (w.alloc (.cells #[lv] 25)).alloc (.cells #[fv] 83) := by
  obtain ⟨a, n, c, rfl⟩ := h1
  obtain ⟨g, lb, rfl⟩ := h2
  go_enter Try.func50, Try.ntmps50
  go_wp2
  go_ret
  exact ⟨rfl, rfl⟩
set_option maxHeartbeats 400000 in
theorem firstR : Firsts 51 #[] := by
  intro W x
  simp only [List.append_toArray, List.append_nil]
  go_enter Try.func51, Try.ntmps51
  go_wp2
  go_ret
  exact Ib.fin rfl ((Below.refl _ _).alloc (Nat.le_refl _) _)
set_option maxHeartbeats 2000000 in
theorem varsR_seq (n : Nat) (w : World) (bl bi : Nat) (lv : Value) (g : Nat) (lb : Array Value) (xs : List Pr) (h : PSl w (fun _ => True) lv xs) (hp : Firsts g lb)
    (eg : ∀ args w, (callFunc g args).run Try.prog w = .ok (.enter g args) w) :
    SeqW n Try.prog 62 #[.pointer (some ⟨bl, 0, none⟩), .pointer (some ⟨bi, 0, none⟩)] varE xs
      (fun W => Below w.heap.size w W ∧ W.heap[bl]? = some (.cells #[lv] 25) ∧ W.heap[bi]? = some (.cells #[.func (.func g) #[] lb] 83)) := by
  intro l J Jx W0 hJ hJx hK hKx hY h0
  obtain ⟨a1, c1, rfl, l1, _⟩ := h.shape
  obtain ⟨k0, k1, k2⟩ := hK _ _ h0
  have e1 : W0.cell? ⟨bl, 0, none⟩ = some (.slice a1 xs.length c1) := cell_of k1
  refine callsIn_of_wp Try.func62 rfl trivial ?_ rfl
  simp only [Try.ntmps62, List.size_toArray, List.length_cons, List.length_nil, Nat.reduceAdd, Nat.reduceSub, Array.replicate_succ, Array.replicate_zero, List.push_toArray, List.append_toArray, List.nil_append, List.cons_append]
  gi_wp2
  gi_loopw [8] (fun i wr => ∃ k : Nat, k ≤ xs.length ∧ i = .int .i64 k ∧ J (xs.take k) wr) (fun i wr => xs.length - (intOf i).toNat)
  case atStart => exact ⟨0, Nat.zero_le _, rfl, by simpa using h0⟩
  case round =>
    obtain ⟨k, hk, rfl, hJk⟩ := hrel
    by_cases hlt : k < xs.length
    · obtain ⟨m0, m1, m2⟩ := hK _ _ hJk
      obtain ⟨b1, o1, c1', x, hv1, hx, hin, hin2, e1, e2⟩ := h.at m0 (k := k) hlt
      cases hv1
      have hbx := (Below.refl wr.heap.size wr).alloc (Nat.le_refl _) (Obj.cells #[.int .i64 x.1, .int .i64 x.2] 48)
      have n2 := (hbx.block bi (lt_of_some m2)).trans m2
      have c2 : (wr.alloc (Obj.cells #[.int .i64 x.1, .int .i64 x.2] 48)).cell? ⟨bi, 0, none⟩ = some (.func (.func g) #[] lb) := cell_of n2
      have hcall := hid (hp (wr.alloc (Obj.cells #[.int .i64 x.1, .int .i64 x.2] 48)) x)
      have HX := hid (And.intro hx hin)
      have HB := hid hbx
      clear hx hin hbx n2 hp h
      have hbi := lt_of_some m2
      gi_wp2_with fail
      refine ⟨trivial, (fun h => by cases h), CallsIn.mono (callsIn_wide.2 hcall.out) ?_⟩
      rintro e w2 ⟨rfl, b2⟩
      have hb2 := HB.out.trans (b2.mono HB.out.size)
      have hpre : xs.take k ++ [x] <+: xs := by
        rw [show xs.take k ++ [x] = xs.take (k + 1) by rw [List.take_succ_eq_append_getElem hlt, (List.getElem?_eq_some_iff.1 HX.out.1).2]]
        exact List.take_prefix _ _
      obtain ⟨fn, tmps, assign, body, hy, hR⟩ := hY (xs.take k) x #[.int .i64 x.1] wr w2 hJk hb2 hpre ⟨rfl, HX.out.2⟩
      have HY := hid (And.intro hy hR)
      clear hy hR hb2 b2 hcall hY e1 e2 c2
      gi_wp2_with fail
      rw [HY.out.1]
      simp only [Oper.uponIn]
      refine ⟨(fun h => by cases h), RoundIn.mono HY.out.2 ?_⟩
      have htk : xs.take k ++ [x] = xs.take (k + 1) := by rw [List.take_succ_eq_append_getElem hlt, (List.getElem?_eq_some_iff.1 HX.out.1).2]
      have HTK := hid htk
      clear htk
      rintro e W4 ⟨hmid, hend⟩
      rcases hend with ⟨rfl, hJ4⟩ | ⟨rfl, hJ4⟩
      · rw [HTK.out] at hJ4
        have HJ := hid hJ4
        clear hJ4 hmid HY hJk hpre
        gi_wp2_with fail
        go_roundw
        case rel => exact ⟨k + 1, by omega, by go_num, HJ.out⟩
        case measure => simp [intOf]; omega
      · have HJ := hid (And.intro hpre hJ4)
        clear hJ4 hmid HY hJk hpre
        gi_wp2_with fail
        refine bodyPost_ret (results_none rfl _ _ _) rfl ?_
        exact ⟨⟨_, rfl⟩, .inr ⟨_, HJ.out.1, HJ.out.2⟩⟩
    · obtain rfl : k = xs.length := by omega
      rw [List.take_length] at hJk
      have HJ := hid hJk
      clear hJk h hp hK hKx hY hJ hJx h0 k0 k1 k2 e1
      gi_wp2
      go_end0
      exact ⟨⟨_, rfl⟩, .inl HJ.out⟩
end Go.Proofs.Ytplckigmllkpoaa
