/- A part of the proof of TopLoops: VxTyF, VxTyG, VxTypes, VxTop, VxTT0, VxTT1, VxTT2, VxTT3, VxTopZ. -/
import Derived.Test.YtedmegjkcgidlaaGreatDoorVbo
import Derived.Test.YtedmegjkcgidlaaGreatDoorVbr
set_option linter.all false
set_option linter.unusedVariables false
set_option linter.unusedSimpArgs false
noncomputable section
open Go Go.RowKit Go.Proofs
namespace Go.Vx.Tab
set_option maxRecDepth 1000000
variable {g g' g'' g0 : G} {σ σ' σ'' : H} {w w' w'' w0 w7 : World} {β β' β'' : Nat → Option Nat} {lo lo' : Lo} {fr fr' F F' : List V} {A A' : Act} {b b3 : Nat} {T : Array Value} {D : List Deferred} {l : List UInt8} {φ : Nat → Nat → Option Value}
def oper48 : Oper := { dst := some 48, op := .call { callee := .value (.func 16), args := #[.tmp 10, .tmp 47], argTypes := #[75, 9] }, type := 85, pos := "run.go:89", after := #[{ on := 8, ground := Ground.data }, { on := 6, ground := Ground.chain }], guard := none }
theorem h11 : ops11[9]? = some oper48 := by kernel_rfl
theorem idles : ∀ q ∈ Hn0.idle, IdleF Tryz.prog q := fun q hq => by
  have : q = 155 := by simpa [Hn0] using hq
  subst this; exact idle155
theorem slot (h : Rf_ g β F A.tmps) (hl : F.length = 52) (t : Nat) (ht : t < 52) : A.tmps[t]? = some (A.eval (.tmp t)) ∧ Rs g β (lget F t) (A.eval (.tmp t)) := by
  have hsz : A.tmps.size = 52 := by rw [← h.size]; exact hl
  have hx : A.tmps[t]? = some (A.eval (.tmp t)) := by simp [Act.eval, Array.getD, hsz, ht]
  exact ⟨hx, h.at hx⟩
theorem ptr_of {n : Nat} {x : Value} (h : Rs g β (.hptr n 0) x) {c m : Nat} (hr : g.ρ n = some (c, m)) : x = .pointer (some ⟨c, 0, none⟩) := by
  cases h with
  | hptr off h => rw [hr] at h; cases h; rfl
theorem int_of7 {k : IntKind} {n : Int} {x : Value} (h : Rs g β (.int k n) x) : x = .int k n := by cases h; rfl
theorem str_of7 {ns : List Nat} {x : Value} (h : Rs g β (.str ns) x) : ∃ s : ByteArray, x = .string s ∧ s.data.toList.map UInt8.toNat = ns := by
  cases h with
  | str bs => exact ⟨bs, rfl, rfl⟩

theorem stage11 (hw0 : Rw Tryz.prog (cCode Tryz.prog Hn0) g0 emp w0) (t : Stp g0 (fun _ => none) emp w0 g β (hpOf o10) w) (hs : Sc Tryz.prog (cCode Tryz.prog Hn0) w0.heap.size g β (hpOf o10) (loOf o10) (frOf o10) A w) (t7 : Stp ⟨rr b b3, φ⟩ (fun _ => none) ⟨2, .leaf⟩ w7 g β (hpOf o10) w) (h3 : w0.heap.size ≤ b3) (h3b : b3 < b) (hbw : b < w7.heap.size) (hφb : ∀ o, φ b o = none) (hφ3 : ∀ o, φ b3 o = none)
    (hB : w7.heap[b]? = some (.cells #[.pointer none, .slice none 0 0] 75 (0, 0))) (hbx : Box2 b3 w7) (hD : ∀ d ∈ A.defers, ∀ r, d.target = .collected r → r < b) : c11.wpIn (Fw none) 0 Tryz.prog (Exit.inBlock 1 (Exit.then (c12.wpIn (Fw none) 0 Tryz.prog (Q3 g0 w0)) (Q3 g0 w0))) A w := by
  rw [c11_eq]
  have hn : runIs ihB (flatten in11 pl11) (frOf o10) (loOf o10) (hpOf o10) = .norm (frOf o11) (loOf o11) (hpOf o11) := norm_of o11_n
  refine draws_last (D := A.defers) (e := 9) (l := pl11) (f := 7) (β := β) (g := g) mixes idles sndB p11a p11b (by intro h; have := p11c; rw [h] at this; cases this) p11d (by rw [p11e]; decide) p11f (fun i hi hne => ?_) (fun i hi => ?_) (by simp) hs kk11 rfl (by rw [hn]; simp) ?_
  · rw [p11e] at hi
    have := p11g
    rw [List.all_eq_true] at this
    exact this i (List.mem_range.2 (by omega))
  · rw [p11e] at hi
    have := p11h
    rw [List.all_eq_true] at this
    have := this i (List.mem_range.2 hi)
    intro hc
    have hc' : cl11 i = 3 := hc
    rw [hc'] at this
    cases this
  · intro g' β' lo' σ' Gr A' w' K hrun hs' t11 hD' hQ
    rw [hn] at hrun
    cases hrun
    have tt := t7.trans t11
    have hb0 : g'.ρ 0 = some (b, 2) := tt.le.ρ 0 _ rfl
    have hb1 : g'.ρ 1 = some (b3, 2) := tt.le.ρ 1 _ rfl
    have keep : ∀ k, k < w7.heap.size → (∀ o, φ k o = none) → w'.heap[k]? = w7.heap[k]? := fun k hk hp => tt.frm.block k hk leaf_live (fun ⟨_, h⟩ => (by cases h)) hp
    obtain ⟨q10, r10⟩ := slot hs'.s.f o11_l 10 (by decide)
    obtain ⟨q47, r47⟩ := slot hs'.s.f o11_l 47 (by decide)
    obtain ⟨q34, r34⟩ := slot hs'.s.f o11_l 34 (by decide)
    obtain ⟨q35, r35⟩ := slot hs'.s.f o11_l 35 (by decide)
    obtain ⟨q3, r3⟩ := slot hs'.s.f o11_l 3 (by decide)
    rw [o11_10] at r10
    rw [o11_47] at r47
    rw [o11_34] at r34
    rw [o11_35] at r35
    rw [o11_3] at r3
    have e10 := ptr_of r10 hb0
    have e3 := ptr_of r3 hb1
    have e34 := int_of7 r34
    have e35 := int_of7 r35
    obtain ⟨s, e47, hsl⟩ := str_of7 r47
    rw [e10] at q10
    rw [e3] at q3
    rw [e34] at q34
    rw [e35] at q35
    obtain ⟨bd, hbd⟩ := body16
    refine wpOp_call h11 rfl rfl rfl Tryz.func16 hbd name16 ?_
    have hargs : (#[Operand.tmp 10, .tmp 47] : Array Operand).map A'.eval = #[.pointer (some ⟨b, 0, none⟩), .string s] := by simp [e10, e47]
    rw [hargs]
    have hbw' : b < w'.heap.size := Nat.lt_of_lt_of_le hbw tt.frm.size
    have hsz : s.size = 14 := by
      have := congrArg List.length hsl
      simpa using this
    refine Calls.mono (Go.Proofs.YtedmegjkcgidlaaGreatDoor.bld.write b b [] s w' (.inl ⟨Nat.le_refl _, _, (keep b hbw hφb).trans hB, ⟨rfl, .inl ⟨rfl, rfl⟩⟩, by simp [Value.ownBlock]⟩) (by simp [hsz]) (by omega)) fun e w'' he => ?_
    obtain ⟨rfl, hbA, hbl⟩ := he
    refine ⟨_, rfl, hQ _ _ ?_⟩
    obtain ⟨hrw, hst⟩ := rebase hw0 (t.trans t11) hs' hbl (by omega) (Nat.lt_of_lt_of_le hbw' hbl.size) h3b
    have hdf : ∀ d ∈ A'.defers, ∀ r, d.target = .collected r → r < b := by rw [hD']; exact hD
    have put_ne : ∀ (v : Value) (t : Nat) (x : Value), t ≠ 48 → A'.tmps[t]? = some x → ∀ y, (A'.put oper48.dst v).tmps[t]? = some y → y = x := by
      intro v t x hne hx y hy
      have : (A'.put oper48.dst v).tmps = A'.tmps.setIfInBounds 48 v := rfl
      rw [this, Array.getElem?_setIfInBounds, if_neg (fun h => hne h.symm), hx] at hy
      cases hy; rfl
    refine stage12 (l := s.data.toList) hw0 hst ⟨⟨?_, .nobox, hrw⟩, ?_, Nat.le_trans (t.trans t11).frm.size hbl.size⟩ h3 h3b ?_ hsl ((hbx.same (keep b3 (by omega) hφ3)).same (hbl.block b3 h3b)) (by rw [put_defers]; exact hdf)
    · refine Rf_.put1 (Rf_.put1 (Rf_.put1 (Rf_.put1 (Rf_.undefs 52 ?_) 34 fun x hx => ?_) 35 fun x hx => ?_) 10 fun x hx => ?_) 3 fun x hx => ?_
      · have : (A'.put oper48.dst (.tuple #[.int .i64 s.size, .nilIface])).tmps = A'.tmps.setIfInBounds 48 (.tuple #[.int .i64 s.size, .nilIface]) := rfl
        rw [this]
        have := hs'.s.f.size
        rw [o11_l] at this
        simp [← this]
      · rw [put_ne _ 34 _ (by decide) q34 x hx]; exact .of_rv (.int _ _)
      · rw [put_ne _ 35 _ (by decide) q35 x hx]; exact .of_rv (.int _ _)
      · rw [put_ne _ 10 _ (by decide) q10 x hx]; exact .of_rv (.hptr 0 rfl)
      · rw [put_ne _ 3 _ (by decide) q3 x hx]; exact .of_rv (.hptr 0 rfl)
    · rw [put_defers]; exact Df.low hbl hdf hs'.d
    · exact .inr (by simpa [Lib.strCells, Lib.byteCells] using hbA)
theorem stage7 (hw0 : Rw Tryz.prog (cCode Tryz.prog Hn0) g0 emp w0) (t : Stp g0 (fun _ => none) emp w0 ⟨rr b b3, φ⟩ (fun _ => none) ⟨2, .leaf⟩ w7) (hs : Sc Tryz.prog (cCode Tryz.prog Hn0) w0.heap.size ⟨rr b b3, φ⟩ (fun _ => none) ⟨2, .leaf⟩ [] F7 A w7) (h3 : w0.heap.size ≤ b3) (h3b : b3 < b) (hbw : b < w7.heap.size) (hφb : ∀ o, φ b o = none) (hφ3 : ∀ o, φ b3 o = none)
    (hB : w7.heap[b]? = some (.cells #[.pointer none, .slice none 0 0] 75 (0, 0))) (hbx : Box2 b3 w7) (hD : ∀ d ∈ A.defers, ∀ r, d.target = .collected r → r < b) : (Code.seq (.seq c8 (.block 0 (.loop L7))) (.seq c13 .ret)).wpIn (Fw none) 0 Tryz.prog (Q0 g0 w0) A w7 := by
  refine wpIn_seq (wpIn_seq ?_)
  refine reg (o := o8) sndB c8_eq rfl o8_n kk8 hs fun g1 β1 A1 w1 s1 t1 d1 => ?_
  refine wpIn_block ?_
  show (Code.loop L7).wpIn (Fw none) 0 Tryz.prog (Q2 g0 w0) A1 w1
  refine wpIn_loop_unroll noQ2 (wpIn_seq ?_)
  refine reg (o := o9) sndB c9_eq rfl o9_n kk9 s1 fun g2 β2 A2 w2 s2 t2 d2 => ?_
  refine wpIn_seq ?_
  refine cond_ok (t := true) s2.s rfl o9_c ?_
  rw [if_pos rfl]
  refine wpIn_skip (wpIn_seq (wpIn_block (wpIn_seq ?_)))
  refine reg (o := o10) sndB c10_eq rfl o10_n kk10 s2 fun g3 β3 A3 w3 s3 t3 d3 => ?_
  have tt := (t1.trans t2).trans t3
  exact stage11 hw0 (t.trans tt) s3 tt h3 h3b hbw hφb hφ3 hB hbx (by rw [d3, d2, d1]; exact hD)
end Go.Vx.Tab
end
noncomputable section
open Go Go.RowKit Go.Proofs
namespace Go.Vx
theorem alloc_size (w : World) (o : Go.Obj) : (w.alloc o).heap.size = w.heap.size + 1 := by simp
theorem one_step' {P : Program} {o : Oper} {Q : Exit → Act → World → Prop} {a : Act} {w w' : World} {v : Value} (hg : o.guard = none) (hnd : ∀ c, o.op ≠ .defer c) (hr : (execOp a.eval o).run P w = .ok (.value v) w') (h : Q .normal (a.put o.dst v) w') : wpOpsIn (Fw none) 0 P #[o] Q (List.range 1) a w := by
  have h1 : List.range 1 = [0] := rfl
  have h2 : (#[o] : Array Oper)[0]? = some o := rfl
  rw [h1]
  unfold wpOpsIn
  rw [h2]
  dsimp only
  rw [if_pos (by simp [Region.wanted, hg])]
  refine ⟨fun _ _ => trivial, ?_⟩
  have hse : (o.semAt (Fw none).round a.eval) = execOp a.eval o := Oper.semAt_eq _ _ _ hnd
  rw [hse, hr, Oper.uponIn_value]
  exact h
end Go.Vx
namespace Go.Vx.Tab
set_option maxRecDepth 1000000
variable {g g' g'' g0 : G} {σ σ' σ'' : H} {w w' w'' w0 w7 : World} {β β' β'' : Nat → Option Nat} {lo lo' : Lo} {fr fr' F F' : List V} {A A' : Act} {b b3 : Nat} {T : Array Value} {D : List Deferred} {l : List UInt8} {φ : Nat → Nat → Option Value}
def oper10 : Oper := { dst := some 10, op := .alloc 75, type := 0, pos := "run.go:87", after := #[], guard := none }
theorem c7_eq : c7 = .region 7 #[oper10] false := by kernel_rfl
theorem alloc10 (a : Act) (w : World) : (execOp a.eval oper10).run Tryz.prog w = .ok (.value (.pointer (some ⟨w.heap.size, 0, none⟩))) (w.alloc (.cells #[.pointer none, .slice none 0 0] 75 (0, 0))) := by
  have hz : (zeroValue 75).run Tryz.prog w = .ok _ w := Tryz.zeroValue75 w
  simp only [execOp, oper10, Instr.alloc, Sem.run_bind, hz, Result.andThen, newVar, newRow, run_newObj_alloc, Sem.run_pure]
  try rfl
theorem start (hargs : Rvs g0 aT T.toList) (hw0 : Rw Tryz.prog (cCode Tryz.prog Hn0) g0 emp w0) : (Code.seq c0 (.seq c1 (.seq cA2 (.seq c4 (.seq cA5 (.seq c7 (.seq (.seq c8 (.block 0 (.loop L7))) (.seq c13 .ret)))))))).wpIn (Fw none) 0 Tryz.prog (Q0 g0 w0) { tmps := T ++ Array.replicate (52 - T.size) undef, defers := [] } w0 := by
  have hsc : Sc Tryz.prog (cCode Tryz.prog Hn0) w0.heap.size g0 (fun _ => none) emp [] (pad 52 aT) { tmps := T ++ Array.replicate (52 - T.size) undef, defers := [] } w0 :=
    ⟨⟨frame_ok hargs _, .nobox, hw0⟩, trivial, Nat.le_refl _⟩
  refine wpIn_seq (code_piece (o := o0) sndB rfl (norm_of o0_n) hsc fun g1 β1 A1 w1 s1 t1 => ?_)
  refine wpIn_seq (code_piece (o := o1) sndB rfl (norm_of o1_n) s1 fun g2 β2 A2 w2 s2 t2 => ?_)
  refine wpIn_seq (code_piece (o := o2) sndB rfl (norm_of o2_n) s2 fun g3 β3 A3 w3 s3 t3 => ?_)
  refine wpIn_seq (code_piece (o := o4) sndB rfl (norm_of o4_n) s3 fun g4 β4 A4 w4 s4 t4 => ?_)
  refine wpIn_seq (code_piece (o := oP) sndB rfl (norm_of oP_n) s4 fun g5 β5 A5 w5 s5 t5 => ?_)
  have t := (((t1.trans t2).trans t3).trans t4).trans t5
  refine wpIn_seq ?_
  rw [c7_eq]
  refine wpIn_region (one_step' rfl (fun c h => by cases h) (alloc10 A5 w5) ?_)
  obtain ⟨q3, r3⟩ := slot s5.s.f oP_l 3 (by decide)
  rw [oP_3] at r3
  obtain ⟨b3, hβ, e3⟩ := r3
  obtain ⟨cs, c, ty, k1, k2, k3, k4⟩ := s5.s.b.boxes 3 b3 hβ
  rw [oP_3b] at k1
  cases k1
  obtain ⟨hl3, hp3⟩ := s5.s.b.apart 3 b3 hβ
  have hlt3 : b3 < w5.heap.size := (Array.getElem?_eq_some_iff.1 k2).1
  have h03 : w0.heap.size ≤ b3 := by
    rcases Nat.lt_or_ge b3 w0.heap.size with h | h
    · obtain ⟨u, hu⟩ := t.box 3 b3 hβ h; cases hu
    · exact h
  obtain ⟨q8, r8⟩ := slot s5.s.f oP_l 8 (by decide)
  have r8' : Rv g5 v8 (A5.eval (.tmp 8)) := r8.rv fun u o e => by
    have e' : v8 = .lptr u o := e
    have := v8_l
    rw [e'] at this
    cases this
  have hg5 : ∀ i, g5.ρ i = none := fun i => (s5.s.w.fresh i (by rw [oP_h]; exact Nat.zero_le _)).1
  have hle5 : g5.le ⟨rr w5.heap.size b3, g5.φ⟩ := ⟨fun i x h => (by rw [hg5] at h; cases h), fun _ _ _ h => h⟩
  have hwa := s5.s.w.alloc (.cells #[.pointer none, .slice none 0 0] 75 (0, 0))
  have hold : ∀ k, k < w5.heap.size → (w5.alloc (.cells #[.pointer none, .slice none 0 0] 75 (0, 0))).heap[k]? = w5.heap[k]? := fun k hk => Below.heap_alloc w5 _ k hk
  have hsz : (w5.alloc (.cells #[.pointer none, .slice none 0 0] 75 (0, 0))).heap.size = w5.heap.size + 1 := alloc_size _ _
  have hst7 : Stp g0 (fun _ => none) emp w0 ⟨rr w5.heap.size b3, g5.φ⟩ (fun _ => none) ⟨2, .leaf⟩ (w5.alloc (.cells #[.pointer none, .slice none 0 0] 75 (0, 0))) :=
    ⟨t.le.trans hle5, ⟨t.frm.os, t.frm.tape, t.frm.output, by have := t.frm.size; omega, fun k hk hl hx hp => (hold k (Nat.lt_of_lt_of_le hk t.frm.size)).trans (t.frm.block k hk hl hx hp)⟩, fun x h _ => absurd h leaf_live, fun t b e => (by cases e), fun x hx hp hl => t.phi x hx hp hl⟩
  refine stage7 (b := w5.heap.size) (b3 := b3) (φ := g5.φ) hw0 hst7 ⟨⟨?_, .nobox, Rw.base hwa.frozen (by omega) (by omega)⟩, ?_, by have := t.frm.size; omega⟩ h03 hlt3 (by omega) (fun o => s5.s.w.phi_none (Nat.le_refl _) o) hp3 (Go.World.alloc_heap_new w5 _) ⟨c, ty, (hold b3 hlt3).trans k2, by simpa using k3.symm, fun j x hx => ?_⟩ (by rw [put_defers]; exact Df.ltB s5.d)
  · have hsz5 : A5.tmps.size = 52 := by rw [← s5.s.f.size]; exact oP_l
    have hT : (A5.put oper10.dst (.pointer (some ⟨w5.heap.size, 0, none⟩))).tmps = A5.tmps.setIfInBounds 10 (.pointer (some ⟨w5.heap.size, 0, none⟩)) := rfl
    rw [hT]
    refine Rf_.put1 (Rf_.put1 (Rf_.put1 (Rf_.undefs 52 (by simp [hsz5])) 8 fun x hx => ?_) 10 fun x hx => ?_) 3 fun x hx => ?_
    · have hx' : A5.tmps[8]? = some x := by simpa [Array.getElem?_setIfInBounds] using hx
      rw [q8] at hx'
      cases hx'
      exact .of_rv (r8'.mono hle5)
    · have : x = .pointer (some ⟨w5.heap.size, 0, none⟩) := by simpa [Array.getElem?_setIfInBounds, hsz5] using hx.symm
      subst this
      exact .of_rv (.hptr 0 rfl)
    · have hx' : A5.tmps[3]? = some x := by simpa [Array.getElem?_setIfInBounds] using hx
      rw [q3, e3] at hx'
      cases hx'
      exact .of_rv (.hptr 0 rfl)
  · rw [put_defers]
    exact Df.keep (fun r x hr => hold r (Array.getElem?_eq_some_iff.1 hr).1) s5.d
  · obtain ⟨v, h1, h2⟩ := k4 j x hx
    refine ⟨v, h1, fun g => ?_⟩
    have : x = .int .i64 0 := by
      match j, hx with
      | 0, hx => simpa using hx.symm
      | 1, hx => simpa using hx.symm
      | j + 2, hx => simp at hx
    subst this
    cases h2
    exact .int _ _
end Go.Vx.Tab
end
noncomputable section
open Go Go.RowKit Go.Proofs
namespace Go.Vx.Tab
set_option maxRecDepth 1000000
theorem name7 : Tryz.f7.name ≠ "runtime.NumGoroutine" := by decide
theorem call7 : CallOk Tryz.prog Hn0 7 aT emp (.val rT (hpOf o14)) := by
  intro g As w v σ' hargs hw e
  cases e
  refine .inl ⟨run_callFunc Tryz.func7 body_eq name7 As w, ?_⟩
  refine callsIn_of_wp_marks Tryz.func7 body_eq trivial ?_
  refine wpIn_mono (start hargs hw) fun ex A' w' hp => ?_
  obtain ⟨fr1, lo1, σ1, hout, g1, β1, hs1, hst⟩ := hp
  rcases hout with ⟨ho, _⟩ | ⟨j, ho, rfl⟩
  · cases ho
  · cases ho
    have hl : LeavesInM (Fw none) 0 Tryz.prog Tryz.f7 A'.tmps (fun | .returned x, w'' => RetOk Tryz.prog Hn0 g emp w rT (hpOf o14) x w'' | _, _ => False) A'.defers .returning w' := by
      refine leaves_ok (B0 := w.heap.size) (g := g1) (β := β1) (σ := hpOf o14) (lo := loOf o14) (fr := frOf o14) (A := A') (comp := (cCode Tryz.prog Hn0)) A'.defers w' hs1.d hs1.s fun w2 hs2 hz ho ht hu hb2 => ?_
      obtain ⟨x, hx, hxr⟩ := results_ok hs2 res7_eq o14_r
      refine ⟨x, hx, g1, hxr, hs2.w, hst.le, ⟨ho.trans hst.frm.os, ht.trans hst.frm.tape, hu.trans hst.frm.output, by rw [hz]; exact hst.frm.size, fun k hk hl hb hp => ?_⟩, fun b hb hlt => hst.live b hb hlt, fun t b hb _ => (by cases hb), fun b hlt hp hl o => hst.phi b hlt hp hl o⟩
      rw [hb2 k hk]
      exact hst.frm.block k hk hl hb hp
    exact hl
theorem okT : Ans 7 aT rT := fun σ => call_frame call7 (by decide +kernel) (by decide +kernel) σ
end Go.Vx.Tab
end
noncomputable section
open Go Go.Vx
namespace Go.Vx.Tab
set_option maxRecDepth 1000000
def vf7 : VFunc := ⟨52, [(2,false,false,0),(3,true,true,2),(4,false,false,0)], 0, s (r [o 2 (.mv (c (S []))),o 3 (.alloc [j 0,j 0]),o 4 (.mv (i 0))]) (s (r [m 14 0,k 15 8 [t 14],m 13 15,o 16 (e 0 13),o 17 (e 1 13),o 18 (e 2 13),o 5 (.alloc [.nilSl,.nilSl]),o 6 (.alloc [j 0,j 0]),q (.store 2 (t 5) (t 16)),q (.store 2 (t 6) (t 17)),m 7 18]) (s (s (r [m 19 7,o 20 (.eq true 0 (t 19) (i 0))]) (z 20 (s (.draw [o 21 (ll 2 6),m 22 7,o 2 (.mv (c (S []))),.chk none 21 (ll 2 6),q (.store 2 (t 3) (t 21)),m 4 22]) .ret) .skip)) (s (r [o 24 (ll 2 5),k 25 15 [t 24],m 23 25,o 26 (e 0 23),o 27 (e 1 23),o 28 (e 2 23),m 8 26,m 9 27,m 7 28]) (s (s (r [m 29 7,o 30 (.eq true 0 (t 29) (i 0))]) (z 30 (s (r [o 31 (.build [j 0,j 0] []),m 32 7,o 2 (.mv (c (S []))),q (.store 2 (t 3) (t 31)),m 4 32]) .ret) .skip)) (s (r [o 10 (.allocH [.nilPtr,.nilSl])]) (s (s (r [m 33 8,o 34 (.len 0 (t 33)),o 35 (.mv (i 0))]) (.block 0 (.loop (s (r [o 36 (.bin .lss (t 35) (t 34))]) (s (z 36 .skip (.exit 0)) (s (.block 1 (s (r [o 37 (.idxAddr 5 (t 33) (t 35)),o 38 (ll 5 37),o 12 (.alloc [S [],.nilSl,S [],j 0,.nilSl]),q (.store 5 (t 12) (t 38))]) (.draw [o 39 (f 0 12),o 40 (l 39),o 41 (.bin .add (t 40) (c (S [58,32]))),o 42 (f 1 12),o 43 (f 1 42),o 44 (ll 3 43),k 45 17 [t 44],.chk none 40 (l 39),o 46 (.bin .add (t 41) (t 45)),o 47 (.bin .add (t 46) (c (S [10]))),k 48 16 [t 10,t 47]]))) (r [o 49 (.bin .add (t 35) (i 1)),m 35 49]))))))) (s (r [k 50 18 [t 10],o 51 (.build [j 0,j 0] []),m 2 50,q (.store 2 (t 3) (t 51)),o 4 (.mv (i 0))]) .ret))))))), true⟩
theorem vf7_ok : cFunc Go.Proofs.Tryz.prog Hn0 7 = some vf7 := by kernel_rfl
/-- with run.Types, whose answer is known otherwise -/
def fns7 (i : Nat) : Option VFunc := bif Nat.beq i 7 then some vf7 else fns i
theorem fns7_q : ∀ f vf, fns7 f = some vf → Q f vf := fun f vf h => by
  unfold fns7 at h
  cases hb : Nat.beq f 7 with
  | false => rw [hb] at h; exact fns_q f vf h
  | true =>
    rw [hb] at h
    cases h
    rw [Nat.eq_of_beq_eq_true hb]
    exact ⟨vf7_ok, fun h => absurd rfl h⟩
theorem ans7 {l : List (Nat × List V × V)} {f : Nat} {a : List V} {v : V} {n : Nat} (hl : AllA l) (h : valIs (runX (mOf l) fns7 n (.call f a) fr0 bx0 emp) v = true) (ha : flatVs a = true) (hv : flatV v = true) : Ans f a v :=
  fun σ => memoX (snd_runM mixes (fun f k a v hm σ => AllA.mem hl _ (mOf_mem hm) σ) (fun f vf hf => (fns7_q f vf hf).1) (fun f vf hf => (fns7_q f vf hf).2) (fun q hq => by
    have : q = 155 := by simpa [Hn0] using hq
    subst this; exact idle155)) h ha hv σ
def lA : List (Nat × List V × V) := [(6, a164, r164), (7, aT, rT)]
theorem kA : valIs (runX (mOf lA) fns7 1000000 (.call 4 []) fr0 bx0 emp) (.bool true) = true := by decide +kernel
theorem okA : Ans 4 [] (.bool true) := ans7 (l := lA) ⟨ok164, okT, trivial⟩ kA rfl rfl
def lT : List (Nat × List V × V) := [(4, [], .bool true), (6, a151, r151), (6, a154, r154), (6, a157, r157), (6, a160, r160), (6, a162, r162), (6, a166, r166), (6, a168, r168), (6, a170, r170), (6, a172, r172), (6, a174, r174), (6, a176, r176), (6, a178, r178)]
theorem allT : AllA lT := ⟨okA, ok151, ok154, ok157, ok160, ok162, ok166, ok168, ok170, ok172, ok174, ok176, ok178, trivial⟩
noncomputable def tryT (n : Nat) : Bool := valIs (runX (mOf lT) fns 1000000 (.call 3 [.int .u8 (.ofNat n)]) fr0 bx0 emp) (.bool true)
theorem topT {n : Nat} (h : tryT n = true) : Ans 3 [.int .u8 (.ofNat n)] (.bool true) := ans_of allT h rfl rfl
/-- the first ones from a place on -/
noncomputable def tryAll (a : Nat) (k : Nat) : Bool := Nat.rec true (fun i ih => Bool.rec false ih (tryT (Nat.add a i))) k
theorem tryAll_ok {a : Nat} : ∀ {k : Nat}, tryAll a k = true → ∀ i, i < k → tryT (a + i) = true
  | 0, _, i, hi => absurd hi (by omega)
  | k + 1, h, i, hi => by
    have h1 : (Bool.rec (motive := fun _ => Bool) false (tryAll a k) (tryT (a + k))) = true := h
    cases hb : tryT (a + k) with
    | false => rw [hb] at h1; cases h1
    | true =>
      rw [hb] at h1
      by_cases hk : i = k
      · rw [hk]; exact hb
      · exact tryAll_ok h1 i (by omega)
end Go.Vx.Tab
end
noncomputable section
open Go Go.Vx
namespace Go.Vx.Tab
set_option maxRecDepth 1000000
theorem t0 : tryAll 0 16 = true := by decide +kernel
theorem t16 : tryAll 16 16 = true := by decide +kernel
theorem t32 : tryAll 32 16 = true := by decide +kernel
theorem t48 : tryAll 48 16 = true := by decide +kernel
end Go.Vx.Tab
end
noncomputable section
open Go Go.Vx
namespace Go.Vx.Tab
set_option maxRecDepth 1000000
theorem t64 : tryAll 64 16 = true := by decide +kernel
theorem t80 : tryAll 80 16 = true := by decide +kernel
theorem t96 : tryAll 96 16 = true := by decide +kernel
theorem t112 : tryAll 112 16 = true := by decide +kernel
end Go.Vx.Tab
end
noncomputable section
open Go Go.Vx
namespace Go.Vx.Tab
set_option maxRecDepth 1000000
theorem t128 : tryAll 128 16 = true := by decide +kernel
theorem t144 : tryAll 144 16 = true := by decide +kernel
theorem t160 : tryAll 160 16 = true := by decide +kernel
theorem t176 : tryAll 176 16 = true := by decide +kernel
end Go.Vx.Tab
end
noncomputable section
open Go Go.Vx
namespace Go.Vx.Tab
set_option maxRecDepth 1000000
theorem t192 : tryAll 192 16 = true := by decide +kernel
theorem t208 : tryAll 208 16 = true := by decide +kernel
theorem t224 : tryAll 224 16 = true := by decide +kernel
theorem t240 : tryAll 240 16 = true := by decide +kernel
end Go.Vx.Tab
end
noncomputable section
open Go Go.Vx
namespace Go.Vx.Tab
set_option maxRecDepth 1000000
theorem top (n : Nat) (h : n < 256) : Ans 3 [.int .u8 (.ofNat n)] (.bool true) := by
  have key : ∀ a, tryAll a 16 = true → a ≤ n → n < a + 16 → Ans 3 [.int .u8 (.ofNat n)] (.bool true) := fun a ha h1 h2 => by
    have := tryAll_ok ha (n - a) (by omega)
    rw [show a + (n - a) = n by omega] at this
    exact topT this
  by_cases g240 : 240 ≤ n
  · exact key 240 t240 g240 (by omega)
  by_cases g224 : 224 ≤ n
  · exact key 224 t224 g224 (by omega)
  by_cases g208 : 208 ≤ n
  · exact key 208 t208 g208 (by omega)
  by_cases g192 : 192 ≤ n
  · exact key 192 t192 g192 (by omega)
  by_cases g176 : 176 ≤ n
  · exact key 176 t176 g176 (by omega)
  by_cases g160 : 160 ≤ n
  · exact key 160 t160 g160 (by omega)
  by_cases g144 : 144 ≤ n
  · exact key 144 t144 g144 (by omega)
  by_cases g128 : 128 ≤ n
  · exact key 128 t128 g128 (by omega)
  by_cases g112 : 112 ≤ n
  · exact key 112 t112 g112 (by omega)
  by_cases g96 : 96 ≤ n
  · exact key 96 t96 g96 (by omega)
  by_cases g80 : 80 ≤ n
  · exact key 80 t80 g80 (by omega)
  by_cases g64 : 64 ≤ n
  · exact key 64 t64 g64 (by omega)
  by_cases g48 : 48 ≤ n
  · exact key 48 t48 g48 (by omega)
  by_cases g32 : 32 ≤ n
  · exact key 32 t32 g32 (by omega)
  by_cases g16 : 16 ≤ n
  · exact key 16 t16 g16 (by omega)
  exact key 0 t0 (by omega) (by omega)
end Go.Vx.Tab
end
