/- A part of the proof of TopLoops: VxTyD, VxTyE. -/
import Derived.Test.YtedmegjkcgidlaaGreatDoorVbp
import Derived.Test.YtedmegjkcgidlaaGreatDoorVbq
set_option linter.all false
set_option linter.unusedVariables false
set_option linter.unusedSimpArgs false
noncomputable section
open Go Go.RowKit Go.Proofs
namespace Go.Vx
variable {P : Program} {Hn H2 : Hints} {comp : FuncId → Code → VCode} {g g' g'' g0 : G} {σ σ' σ'' : H} {w w' w'' w0 : World} {β β' β'' : Nat → Option Nat} {lo lo' : Lo} {fr fr' F F' : List V} {A A' : Act} {B0 b b3 : Nat} {ro : Option Nat} {T : Array Value}
/-! ### A state told anew: a block that is nobody's bears a number -/
def rr (b b3 : Nat) : Nat → Option (Nat × Nat) := fun i => if i = 0 then some (b, 2) else if i = 1 then some (b3, 2) else none
theorem leaf_get (i n : Nat) : (⟨n, .leaf⟩ : H).get i = none := rfl
theorem leaf_live {n x : Nat} : ¬ Live g ⟨n, .leaf⟩ x := by rintro ⟨i, m, h, _⟩; rw [leaf_get] at h; cases h
theorem Rw.base {φ : Nat → Nat → Option Value} (hf : ∀ x o v, φ x o = some v → w.cell? ⟨x, o, none⟩ = some v) (hb : b < w.heap.size) (hb3 : b3 < w.heap.size) : Rw P comp ⟨rr b b3, φ⟩ ⟨2, .leaf⟩ w := by
  refine ⟨hf, fun i ob h => ?_, fun i j b n m h => ?_, fun i hi => ⟨?_, rfl⟩, fun i c n h => ?_⟩
  · rw [leaf_get] at h; cases h
  · rw [leaf_get] at h; cases h
  · have hi : 2 ≤ i := hi
    simp only [rr]
    rw [if_neg (by omega), if_neg (by omega)]
  · simp only [rr] at h
    split at h
    · cases h; exact hb
    · split at h
      · cases h; exact hb3
      · cases h
theorem Rb.nobox : Rb g σ (fun _ => none) lo w := ⟨fun t b e => (by cases e), fun t b e => (by cases e), fun t u b e => (by cases e)⟩
theorem Rf_.undefs (n : Nat) (h : T.size = n) : Rf_ g β (pad n []) T := by
  refine ⟨by rw [pad_length]; simp [h], fun t v x hv _ => ?_⟩
  rcases pad_get n [] t v hv with hv | ⟨_, rfl⟩
  · simp at hv
  · exact .of_rv (.undef _)
theorem Rf_.put1 (h : Rf_ g β F T) (t : Nat) {v : V} (hv : ∀ x, T[t]? = some x → Rs g β v x) : Rf_ g β (lset F t v) T := by
  refine ⟨by rw [lset_length]; exact h.size, fun u y x hy hx => ?_⟩
  have hlt : u < F.length := by have := (List.getElem?_eq_some_iff.1 hy).1; rwa [lset_length] at this
  have e : Vx.lget (lset F t v) u = y := by rw [lget_eq, hy]; rfl
  rw [lget_lset] at e
  split at e
  · rename_i hh
    obtain ⟨rfl, _⟩ := hh
    subst e
    exact hv x hx
  · refine h.slots u y x ?_ hx
    rw [lget_eq] at e
    rw [List.getElem?_eq_getElem hlt] at e ⊢
    simpa using e
theorem Rf_.at (h : Rf_ g β F T) {t : Nat} {x : Value} (hx : T[t]? = some x) : Rs g β (Vx.lget F t) x := by
  have hlt : t < F.length := by rw [h.size]; exact (Array.getElem?_eq_some_iff.1 hx).1
  have := h.slots t (Vx.lget F t) x (by rw [lget_eq, List.getElem?_eq_getElem hlt]; rfl) hx
  exact this
theorem cell_lt {a : Nat} {o : Nat} {v : Value} (h : w.cell? ⟨a, o, none⟩ = some v) : a < w.heap.size := by
  rcases Nat.lt_or_ge a w.heap.size with h' | h'
  · exact h'
  · simp [World.cell?, Array.getElem?_eq_none h'] at h
theorem cell_same {a : Nat} {o : Nat} (h : w'.heap[a]? = w.heap[a]?) : w'.cell? ⟨a, o, none⟩ = w.cell? ⟨a, o, none⟩ := by
  simp only [World.cell?, h]
theorem phi_lt (hw : Rw P comp g σ w) {k o : Nat} (hk : w.heap.size ≤ k) : g.φ k o = none := hw.phi_none hk o

/-- After a call that leaves what lies below a block: what was known at the start, told anew. -/
theorem rebase (hw0 : Rw P comp g0 emp w0) (t : Stp g0 (fun _ => none) emp w0 g β σ w) (hs : Sc P comp B0 g β σ lo fr A w) (hbl : Below b w w') (hb : w0.heap.size ≤ b) (hb' : b < w'.heap.size) (hb3 : b3 < b) :
    Rw P comp ⟨rr b b3, g0.φ⟩ ⟨2, .leaf⟩ w' ∧ Stp g0 (fun _ => none) emp w0 ⟨rr b b3, g0.φ⟩ (fun _ => none) ⟨2, .leaf⟩ w' := by
  refine ⟨Rw.base (fun x o v h => ?_) hb' (by omega), ⟨⟨fun i x h => ?_, fun _ _ _ h => h⟩, ⟨hbl.os.trans t.frm.os, hbl.tape.trans t.frm.tape, hbl.output.trans t.frm.output, Nat.le_trans t.frm.size hbl.size, fun k hk hl hx hp => ?_⟩, fun x h _ => absurd h leaf_live, fun t b e => (by cases e), fun x _ hp _ => hp⟩⟩
  · have h1 := cell_lt (hw0.frozen x o v h)
    rw [cell_same (hbl.block x (by omega))]
    exact hs.s.w.frozen x o v (t.le.φ x o v h)
  · rw [(hw0.fresh i (Nat.zero_le _)).1] at h; cases h
  · exact (hbl.block k (by omega)).trans (t.frm.block k hk hl hx hp)
theorem Df.low (hbl : Below b w w') : ∀ {D : List Deferred}, (∀ d ∈ D, ∀ r, d.target = .collected r → r < b) → Df P B0 w D → Df P B0 w' D
  | [], _, _ => trivial
  | d :: ds, hr, h => by
    refine ⟨?_, Df.low (D := ds) hbl (fun d hd => hr d (List.mem_cons_of_mem _ hd)) h.2⟩
    rcases h.1 with ⟨r, h0, h1, h2, h3⟩ | h1
    · exact .inl ⟨r, h0, h1, (hbl.block r (hr d List.mem_cons_self r h1)).trans h2, h3⟩
    · exact .inr h1
theorem Df.ltB : ∀ {D : List Deferred}, Df P B0 w D → ∀ d ∈ D, ∀ r, d.target = .collected r → r < w.heap.size
  | [], _, d, hd, _, _ => by cases hd
  | d' :: ds, h, d, hd, r, hr => by
    rcases List.mem_cons.1 hd with rfl | hd
    · rcases h.1 with ⟨r', h0, h1, h2, h3⟩ | ⟨f, cap, h1, _⟩
      · rw [h1] at hr; cases hr; exact (Array.getElem?_eq_some_iff.1 h2).1
      · rw [h1] at hr; cases hr
    · exact Df.ltB h.2 d hd r hr
end Go.Vx
end
noncomputable section
open Go Go.RowKit Go.Proofs
namespace Go.Vx
variable {P : Program} {Hn H2 : Hints} {comp : FuncId → Code → VCode} {g g' g'' g0 : G} {σ σ' σ'' : H} {w w' w'' w0 : World} {β β' β'' : Nat → Option Nat} {lo lo' : Lo} {fr fr' F F' : List V} {A A' : Act} {B0 b b3 : Nat} {ro : Option Nat} {T : Array Value}
theorem wpOp_call {ops : Array Oper} {i f : Nat} {o : Oper} {c : Call} {fn : Func} {bd : Code} {Q : Exit → Act → World → Prop} {K : Act → World → Prop} (ho : ops[i]? = some o) (hg : o.guard = none) (hop : o.op = .call c) (hc : c.callee = .value (.func f)) (hfn : P.funcs[f]? = some fn) (hb : fn.body = some bd) (hname : fn.name ≠ "runtime.NumGoroutine")
    (hcall : Calls P f (c.args.map A.eval) w fun e w' => ∃ v, e = .returned v ∧ K (A.put o.dst v) w') : wpOpIn (Fw none) 0 P ops Q i K A w := by
  unfold wpOpIn
  rw [ho]
  dsimp only
  rw [if_pos (by simp [Region.wanted, hg])]
  refine ⟨fun _ _ => trivial, ?_⟩
  have hse : (o.semAt (Fw none).round A.eval) = execOp A.eval o := Oper.semAt_eq _ _ _ (fun c hc => by rw [hop] at hc; cases hc)
  rw [hse, exec_call hop hc, run_callFunc hfn hb hname]
  refine ⟨fun hh => by simp [Fw] at hh, ?_⟩
  refine CallsIn.mono ((callsIn_wide (n := 0)).2 hcall) fun e w' he => ?_
  obtain ⟨v, rfl, hk⟩ := he
  exact hk
theorem wpOps_monoQ {F : Fence} {n : Nat} {ops : Array Oper} {Q Q' : Exit → Act → World → Prop} (hQ : ∀ e a w, Q e a w → Q' e a w) : ∀ (l : List Nat) (A : Act) (w : World), wpOpsIn F n P ops Q l A w → wpOpsIn F n P ops Q' l A w := by
  intro l
  induction l with
  | nil => intro A w h; exact hQ _ _ _ h
  | cons i l ih =>
    intro A w h
    simp only [wpOpsIn] at h ⊢
    cases ho : ops[i]? with
    | none => rw [ho] at h; exact ih _ _ h
    | some o =>
      rw [ho] at h
      dsimp only at h ⊢
      split
      · rename_i hw
        rw [if_pos hw] at h
        exact op_monoQ (fun a v hq => ih a v hq) (fun e a v _ hq => hQ e a v hq) h
      · rename_i hw
        rw [if_neg hw] at h
        exact ⟨h.1, ih _ _ h.2⟩
end Go.Vx
namespace Go.Vx.Tab
set_option maxRecDepth 1000000
variable {g g' g'' g0 : G} {σ σ' σ'' : H} {w w' w'' w0 : World} {β β' β'' : Nat → Option Nat} {lo lo' : Lo} {fr fr' F F' : List V} {A A' : Act} {b b3 : Nat} {T : Array Value} {D : List Deferred} {l : List UInt8}
noncomputable def outF : Out := .jump .ret (frOf o14) (loOf o14) (hpOf o14)
theorem enters18 : Tryz.prog.funcs[18]? = some Tryz.f18 := Tryz.func18
def oper50 : Oper := { dst := some 50, op := .call { callee := .value (.func 18), args := #[.tmp 10], argTypes := #[75] }, type := 9, pos := "run.go:91", after := #[], guard := none }
theorem h13 : ops13[0]? = some oper50 := by kernel_rfl
theorem body18 : ∃ c, Tryz.f18.body = some c := ⟨_, rfl⟩
theorem name18 : Tryz.f18.name ≠ "runtime.NumGoroutine" := by decide
theorem body16 : ∃ c, Tryz.f16.body = some c := ⟨_, rfl⟩
theorem name16 : Tryz.f16.name ≠ "runtime.NumGoroutine" := by decide
def Box2 (b3 : Nat) (w : World) : Prop := ∃ (c : Array Value) (e : TypeId), w.heap[b3]? = some (.cells c e (0, 0)) ∧ c.size = 2 ∧ ∀ (j : Nat) (x : V), [V.int .i64 0, V.int .i64 0][j]? = some x → ∃ v, c[j]? = some v ∧ ∀ g, Rv g x v
theorem F14_3 : True := trivial

theorem stage13 (hw0 : Rw Tryz.prog (cCode Tryz.prog Hn0) g0 emp w0) (t : Stp g0 (fun _ => none) emp w0 g β σ w) (hs : Sc Tryz.prog (cCode Tryz.prog Hn0) w0.heap.size g β σ lo (frOf o13) A w) (h3 : w0.heap.size ≤ b3) (h3b : b3 < b) (hB : Lib.IsBuilder 75 5 b b (Lib.byteCells l) w) (hl : l.map UInt8.toNat = [109,97,105,110,58,32,73,79,32,85,110,105,116,10]) (hbx : Box2 b3 w)
    (hD : ∀ d ∈ A.defers, ∀ r, d.target = .collected r → r < b) (hb : g.ρ 0 = some (b, 2)) (hb3 : g.ρ 1 = some (b3, 2)) : (Code.seq c13 .ret).wpIn (Fw none) 0 Tryz.prog (PostC Tryz.prog (cCode Tryz.prog Hn0) w0.heap.size g0 (fun _ => none) emp w0 outF) A w := by
  have hbw : b < w.heap.size := by rcases hB with h | h <;> exact h.lt
  have hsz : A.tmps.size = 52 := by rw [← hs.s.f.size]; exact o13_l
  have e10 : A.eval (.tmp 10) = .pointer (some ⟨b, 0, none⟩) := by
    have hx : A.tmps[10]? = some (A.tmps.getD 10 undef) := by simp [Array.getD, hsz]
    have h := hs.s.f.at hx
    rw [o13_10] at h
    show A.tmps.getD 10 undef = _
    generalize A.tmps.getD 10 undef = y at h
    cases h with
    | hptr off h => rw [hb] at h; cases h; rfl
  have e3 : A.tmps[3]? = some (.pointer (some ⟨b3, 0, none⟩)) := by
    have hx : A.tmps[3]? = some (A.tmps.getD 3 undef) := by simp [Array.getD, hsz]
    have h := hs.s.f.at hx
    rw [o13_3] at h
    rw [hx]
    generalize A.tmps.getD 3 undef = y at h
    cases h with
    | hptr off h => rw [hb3] at h; cases h; rfl
  refine wpIn_seq ?_
  rw [c13_eq]
  refine wpIn_region ?_
  rw [p13, show List.range 5 = 0 :: List.range' 1 4 from rfl, wpOpsIn_cons]
  obtain ⟨bd, hbd⟩ := body18
  refine wpOp_call h13 rfl rfl rfl enters18 hbd name18 ?_
  have hargs : (#[Operand.tmp 10] : Array Operand).map A.eval = #[.pointer (some ⟨b, 0, none⟩)] := by simp [e10]
  rw [hargs]
  refine Calls.mono (Go.Proofs.YtedmegjkcgidlaaGreatDoor.bld.string b b l w hB (by rintro rfl; simp at hl)) fun e w' he => ?_
  obtain ⟨rfl, hbl⟩ := he
  refine ⟨_, rfl, ?_⟩
  have hbw' : b < w'.heap.size := Nat.lt_of_lt_of_le hbw hbl.size
  obtain ⟨hrw, hst⟩ := rebase hw0 t hs hbl (by omega) hbw' h3b
  have hφ3 : ∀ o, g0.φ b3 o = none := fun o => hw0.phi_none h3 o
  have hsc : Sc Tryz.prog (cCode Tryz.prog Hn0) w0.heap.size ⟨rr b b3, g0.φ⟩ (fun t => if t = 3 then some b3 else none) ⟨2, .leaf⟩ lo14 F14 (A.put oper50.dst (.string ⟨l.toArray⟩)) w' := by
    refine ⟨⟨?_, ?_, hrw⟩, ?_, Nat.le_trans t.frm.size hbl.size⟩
    · have hT : (A.put oper50.dst (.string ⟨l.toArray⟩)).tmps = A.tmps.setIfInBounds 50 (.string ⟨l.toArray⟩) := rfl
      rw [hT]
      refine Rf_.put1 (Rf_.put1 (Rf_.undefs 52 (by simp [hsz])) 50 fun x hx => ?_) 3 fun x hx => ?_
      · have : x = .string ⟨l.toArray⟩ := by simpa [Array.getElem?_setIfInBounds, hsz] using hx.symm
        subst this
        have := Rv.str (g := ⟨rr b b3, g0.φ⟩) ⟨l.toArray⟩
        rw [show ((⟨l.toArray⟩ : ByteArray).data.toList.map UInt8.toNat) = l.map UInt8.toNat from rfl, hl] at this
        exact .of_rv this
      · have hx' : A.tmps[3]? = some x := by simpa [Array.getElem?_setIfInBounds] using hx
        rw [e3] at hx'
        cases hx'
        exact ⟨b3, by simp, rfl⟩
    · refine ⟨fun u x e => ?_, fun u x e => ⟨leaf_live, ?_⟩, fun u v x e e' => ?_⟩
      · split at e
        · rename_i hu
          cases e
          subst hu
          obtain ⟨c, ty, k1, k2, k3⟩ := hbx
          refine ⟨[.int .i64 0, .int .i64 0], c, ty, rfl, (hbl.block b3 h3b).trans k1, by simp [k2], fun j x hx => ?_⟩
          obtain ⟨v, h1, h2⟩ := k3 j x hx
          exact ⟨v, h1, h2 _⟩
        · cases e
      · split at e
        · cases e; exact hφ3
        · cases e
      · split at e
        · split at e'
          · omega
          · cases e'
        · cases e
    · rw [put_defers]; exact Df.low hbl hD hs.d
  have hst' : Stp g0 (fun _ => none) emp w0 ⟨rr b b3, g0.φ⟩ (fun t => if t = 3 then some b3 else none) ⟨2, .leaf⟩ w' := by
    refine ⟨hst.le, hst.frm, hst.live, fun u x e hlt => ?_, hst.phi⟩
    split at e
    · cases e; omega
    · cases e
  have h14 := sndB.ops _ F14 lo14 σ7 7 ops13 1 none w0.heap.size _ _ _ _ rfl (by simp) hsc (by have := norm_of o14_n; unfold o14 at this; rw [this]; simp)
  rw [p13] at h14
  refine wpOps_monoQ (fun e a v hq => ?_) _ _ _ h14
  obtain ⟨fr1, lo1, σ1, hout, g1, β1, hs1, hs2⟩ := hq
  have ho : ihB (.ops ((ops13.toList.drop 1).map (cOper Tryz.prog Hn0 7 ops13))) F14 lo14 σ7 = .norm (frOf o14) (loOf o14) (hpOf o14) := norm_of o14_n
  rw [ho] at hout
  rcases hout with ⟨ho, rfl⟩ | ⟨j, ho, _⟩
  · cases ho
    refine wpIn_ret ⟨_, _, _, .inr ⟨.ret, rfl, rfl⟩, g1, β1, hs1, hst'.trans hs2⟩
  · cases ho
noncomputable def L7 : Code := .seq c9 (.seq (.cond (.tmp 36) .skip (.exit 0)) (.seq (.block 1 (.seq c10 c11)) c12))
noncomputable def Q0 (g0 : G) (w0 : World) : Exit → Act → World → Prop := PostC Tryz.prog (cCode Tryz.prog Hn0) w0.heap.size g0 (fun _ => none) emp w0 outF
noncomputable def Q1 (g0 : G) (w0 : World) : Exit → Act → World → Prop := Exit.then ((Code.seq c13 .ret).wpIn (Fw none) 0 Tryz.prog (Q0 g0 w0)) (Q0 g0 w0)
noncomputable def Q2 (g0 : G) (w0 : World) : Exit → Act → World → Prop := Exit.inBlock 0 (Q1 g0 w0)
noncomputable def Q3 (g0 : G) (w0 : World) : Exit → Act → World → Prop := Exit.then ((Code.loop L7).wpIn (Fw none) 0 Tryz.prog (Q2 g0 w0)) (Q2 g0 w0)
theorem noQ2 : ∀ a w, ¬ Q2 g0 w0 .outgrown a w := fun a w h => noOut a w h
theorem reg {ih : Ih} (h0 : Snd Tryz.prog Hn0 ih) {c : Code} {id : Nat} {fr : List V} {lo : Lo} {σ : H} {o : Out} {B0 : Nat} {Q : Exit → Act → World → Prop} (hc : c = .region id (opsOf c) false) (ho : o = ih (cOps c) fr lo σ) (hn : isNm o = true) (hok : okOps Tryz.prog (opsOf c) = true) (hsc : Sc Tryz.prog (cCode Tryz.prog Hn0) B0 g β σ lo fr A w)
    (hk : ∀ g' β' A' w', Sc Tryz.prog (cCode Tryz.prog Hn0) B0 g' β' (hpOf o) (loOf o) (frOf o) A' w' → Stp g β σ w g' β' (hpOf o) w' → A'.defers = A.defers → Q .normal A' w') : c.wpIn (Fw none) 0 Tryz.prog Q A w := by
  rw [hc]
  exact region_piece h0 ho (norm_of hn) hok rfl hsc hk
theorem nobody7 (hw0 : Rw Tryz.prog (cCode Tryz.prog Hn0) g0 emp w0) {β' : Nat → Option Nat} (t : Stp ⟨rr b b3, g0.φ⟩ (fun _ => none) ⟨2, .leaf⟩ w g' β' σ' w') {k : Nat} (h : w0.heap.size ≤ k) (hk : k < w.heap.size) : w'.heap[k]? = w.heap[k]? :=
  t.frm.block k hk leaf_live (fun ⟨_, h⟩ => (by cases h)) fun o => hw0.phi_none h o
theorem Box2.same (h : Box2 b3 w) (e : w'.heap[b3]? = w.heap[b3]?) : Box2 b3 w' := let ⟨c, ty, h1, h2⟩ := h; ⟨c, ty, e.trans h1, h2⟩
theorem builder_same {bs : List Value} (hB : Lib.IsBuilder 75 5 b b bs w) (hk : ∀ k, b ≤ k → k < w.heap.size → w'.heap[k]? = w.heap[k]?) : Lib.IsBuilder 75 5 b b bs w' := by
  have key : ∀ p, Lib.BuilderAt 75 5 b b p bs w → Lib.BuilderAt 75 5 b b p bs w' := by
    rintro p ⟨h1, v, h2, h3, h4⟩
    refine ⟨h1, v, (hk b (Nat.le_refl _) (Array.getElem?_eq_some_iff.1 h2).1).trans h2, ⟨h3.1, ?_⟩, h4⟩
    rcases h3.2 with h | ⟨gg, cap, cur, k1, k2, k3, k4⟩
    · exact .inl h
    · exact .inr ⟨gg, cap, cur, k1, k2, (hk gg k2 (Array.getElem?_eq_some_iff.1 k3).1).trans k3, k4⟩
  exact hB.imp (key _) (key _)

theorem stage12 (hw0 : Rw Tryz.prog (cCode Tryz.prog Hn0) g0 emp w0) (t : Stp g0 (fun _ => none) emp w0 ⟨rr b b3, g0.φ⟩ (fun _ => none) ⟨2, .leaf⟩ w) (hs : Sc Tryz.prog (cCode Tryz.prog Hn0) w0.heap.size ⟨rr b b3, g0.φ⟩ (fun _ => none) ⟨2, .leaf⟩ [] F8 A w) (h3 : w0.heap.size ≤ b3) (h3b : b3 < b) (hB : Lib.IsBuilder 75 5 b b (Lib.byteCells l) w) (hl : l.map UInt8.toNat = [109,97,105,110,58,32,73,79,32,85,110,105,116,10]) (hbx : Box2 b3 w)
    (hD : ∀ d ∈ A.defers, ∀ r, d.target = .collected r → r < b) : c12.wpIn (Fw none) 0 Tryz.prog (Q3 g0 w0) A w := by
  have hbw : b < w.heap.size := by rcases hB with h | h <;> exact h.lt
  refine reg (o := o12) sndB c12_eq rfl o12_n kk12 hs fun g1 β1 A1 w1 s1 t1 d1 => ?_
  refine wpIn_loop_unroll noQ2 (wpIn_seq ?_)
  refine reg (o := o13) sndB c9_eq rfl o13_n kk9 s1 fun g2 β2 A2 w2 s2 t2 d2 => ?_
  refine wpIn_seq ?_
  refine cond_ok (t := false) s2.s rfl o13_c ?_
  rw [if_neg (by simp)]
  refine wpIn_exit ?_
  show (if (0 : Nat) = 0 then Q1 g0 w0 .normal A2 w2 else Q1 g0 w0 (.exit 0) A2 w2)
  rw [if_pos rfl]
  have t12 := t1.trans t2
  have hle := t12.le
  refine stage13 hw0 (t.trans t12) s2 h3 h3b (builder_same hB fun k h1 h2 => nobody7 hw0 t12 (by omega) h2) hl (hbx.same (nobody7 hw0 t12 h3 (by omega))) (by rw [d2, d1]; exact hD) (hle.ρ 0 _ rfl) (hle.ρ 1 _ rfl)
end Go.Vx.Tab
end
