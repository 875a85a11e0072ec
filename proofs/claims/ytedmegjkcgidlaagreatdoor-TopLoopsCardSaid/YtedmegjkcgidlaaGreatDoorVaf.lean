/- A part of the proof of TopLoops: VxDrawH, VxDrawI, VxDrawJ, VxDrawK, VxMemo. -/
import Derived.Test.YtedmegjkcgidlaaGreatDoorVae
set_option linter.all false
set_option linter.unusedVariables false
set_option linter.unusedSimpArgs false
noncomputable section
open Go Go.RowKit
namespace Go.Vx
variable {P : Program} {Hn H2 : Hints} {comp : FuncId → Code → VCode} {g g' g'' : G} {σ σ' σ'' : H} {w w' w'' : World} {β β' β'' : Nat → Option Nat} {lo lo' : Lo} {fr fr' F F' : List V} {A A' : Act} {B0 : Nat} {ro : Option Nat}
variable {sw : Nat → Prop} {ops : Array Oper} {ins : Nat → Ins} {cls ms : Nat → Nat} {f : Nat} {listed : Array Bool} {win born todo : List Nat} {Gr : List V} {pb : Nat → Nat} {g0 : G} {β0 : Nat → Option Nat} {σ0 : H} {w0 : World}

def aList (cls : Nat → Nat) (n : Nat) : List Nat := (List.range n).filter fun i => Nat.beq (cls i) 3

/-- A region's run, somewhere on its way. -/
structure Mid (P : Program) (Hn : Hints) (ops : Array Oper) (ins : Nat → Ins) (cls ms : Nat → Nat) (B0 : Nat) (g0 : G) (β0 : Nat → Option Nat) (σ0 : H) (w0 : World) (ih : Ih) (out : Out) (rest : List Stage) (win als : List Nat) (eff : Option Nat) (b0 effs : List Nat)
    (lo : Lo) (σ : H) (Gr : List V) (listed : Array Bool) (A : Act) (w : World) (g : G) (β : Nat → Option Nat) (F : List V) (pb : Nat → Nat) : Prop where
  inv : Inv P Hn ops ins cls ms B0 g0 β0 σ0 w0 win b0 (eff.toList ++ effAll rest) lo σ Gr listed A w g β F pb
  cov : ∀ i, i < ops.size → cls i < 2 → ¬ done listed i → i ∈ win ∨ i ∈ preAll rest
  cur : Cur cls ms ops.size (aList cls ops.size) als eff b0 effs rest
  ok : stagesOk ins cls ms ops.size (aList cls ops.size) rest win als eff (b0 ++ als) effs = true
  run : runIs ih (als.map ins ++ (eff.toList.map ins ++ flatten ins rest)) Gr lo σ = out

theorem cOper_noChk {o : Oper} {gd : Option (Nat × Bool)} {t : Nat} {v : VOp} : cOper P H2 f ops o ≠ .chk gd t v := by
  have hb : (cIns P H2 f o).getD (.op none .bad) ≠ .chk gd t v := by
    intro e
    cases hc : cIns P H2 f o with
    | none => rw [hc] at e; cases e
    | some i0 =>
      rw [hc] at e
      simp only [Option.getD_some] at e
      subst e
      unfold cIns at hc
      split at hc <;> simp [Option.bind_eq_some_iff] at hc
  unfold cOper
  cases o.guard with
  | none => exact hb
  | some q =>
    obtain ⟨j, b⟩ := q
    dsimp only
    cases (ops[j]?).bind (·.dst) <;> simp

variable {ih : Ih} {out : Out} {rest : List Stage} {als b0 effs : List Nat} {eff : Option Nat}

theorem step_E (hout : out ≠ .fail) (hm : Means P Hn H2 ops ro ih) (hs : Stat P H2 f ops ins cls ms sw) (hi : Mid P Hn ops ins cls ms B0 g0 β0 σ0 w0 ih out rest win als eff b0 effs lo σ Gr listed A w g β F pb) {j : Nat} (hw : sw j → ∀ i, (ms j).testBit i = true → i < ops.size ∧ done listed i) (hins0 : ∀ o, ops[j]? = some o → ins j = cOper P H2 f ops o) (hr : j ∈ Region.ready .any ops listed) (hc : cls j = 2)
    {Q : Exit → Act → World → Prop} {K : Act → World → Prop}
    (hK : ∀ A' w' g' β' F' s rest' win' b0' effs' lo' σ' Gr', rest = s :: rest' → Mid P Hn ops ins cls ms B0 g0 β0 σ0 w0 ih out rest' win' s.als s.eff b0' effs' lo' σ' Gr' (listed.setIfInBounds j true) A' w' g' β' F' pb → K A' w') : wpOpIn (Fw ro) 0 P ops Q j K A w := by
  obtain ⟨hlt, hnd, hms⟩ := ready_masks hs hw hi.inv.core.size hi.inv.core.closed hr
  have hj := hi.inv.todoc j hlt hc hnd
  have heff : eff = some j := by
    rcases List.mem_append.1 hj with h | h
    · simpa [Option.mem_toList] using h
    · cases he : eff with
      | none => have := hi.cur.last he; rw [this] at h; simp [effAll] at h
      | some e =>
        have := (later_mask rest hi.ok j h).2.2 e (by simp [he])
        exact absurd (hms e this).2 (hi.inv.todoOk e (by simp [he])).2.2
  subst heff
  cases rest with
  | nil => exact absurd (stagesOk_nil hi.ok).1 (by simp)
  | cons s rest =>
  obtain ⟨hso, hok⟩ := stagesOk_cons hi.ok
  obtain ⟨σ1, Gr1, F1, g1, hc1, hr1, hG1, hlen1⟩ := births hs als (fun a ha => by
    obtain ⟨h1, h2, h3⟩ := hi.cur.alsOk a ha
    exact ⟨hs.clsLt a (by omega), h1, (hms a (h3 j rfl)).2, h2⟩) hi.cur.nodup hi.inv.core hi.run
  have ho : ops[j]? = some ops[j] := Array.getElem?_eq_getElem hlt
  have hins := hins0 _ ho
  simp only [Option.toList_some, List.map_cons, List.map_nil, List.cons_append, List.nil_append] at hr1
  rw [noChk_run (by rw [hins]; exact fun _ _ _ => cOper_noChk)] at hr1
  obtain ⟨Gr2, lo2, σ2, hst⟩ : ∃ Gr2 lo2 σ2, stIns (ihN ih) [] (ins j) Gr1 lo σ1 = .norm Gr2 lo2 σ2 := by
    cases hq : stIns (ihN ih) [] (ins j) Gr1 lo σ1 with
    | norm a b c => exact ⟨a, b, c, rfl⟩
    | _ => rw [hq] at hr1; exact absurd hr1.symm hout
  rw [hst] at hr1
  have hr2 : runIs ih (flatten ins (s :: rest)) Gr2 lo2 σ2 = out := hr1
  have hsame := hc1.same hs hlt hms (.inr ⟨hc, fun a ha hca hb => (hi.cur.effOk j rfl).2.2.2 a (List.mem_filter.2 ⟨List.mem_range.2 ha, by simp [hca]⟩) hb⟩)
  obtain ⟨v, hG2, hF⟩ := eff_same (hs.loc j hlt) hsame hst
  have hdst : (ins j).dst = ops[j].dst := by
    have : (cOper P H2 f ops ops[j]).dst = ops[j].dst := cOper_dst (by
      rw [← hins]; intro e; rw [e] at hst
      have h2 : stIns (ihN ih) [] (.op none .bad) Gr1 lo σ1 = .fail := rfl
      rw [h2] at hst; cases hst)
    rw [← this, hins]
  have hF2 : stIns (ihN ih) [] (cOper P H2 f ops ops[j]) F1 lo σ1 = .norm (putD F1 (ins j).dst v) lo2 σ2 := by rw [← hins]; exact hF
  refine op_in (ih := ihN ih) hm.call hm.app hm.idle hm.loc ho (hm.hdef ho) hc1.sc (by rw [hF2]; simp) fun g' β' σ' lo' fr' A' w' hsc hst' hA he => ?_
  rw [hF2, ihN_ops] at he
  simp only [Out.norm.injEq] at he
  obtain ⟨rfl, rfl, rfl⟩ := he
  have hc2 := hc1.put (dj := (ins j).dst) (v := v) (Gr' := Gr2) hs hw hr rfl (by omega) (by rw [hG2, putD_length]) (fun t => by
    by_cases ht : (ins j).dst = some t
    · exact .inl (by rw [hG2]; exact lget_putD_same hc1.len ht)
    · exact .inr ⟨ht, by rw [hG2]; exact lget_putD_other ht⟩) hsc hst' (by rw [hdst]; exact hA)
  have hmask : ∀ i, (ms j).testBit i = true → done listed i := fun i hb => (hms i hb).2
  refine Exists.elim (enter (n := ops.size) (aL := aList cls ops.size) hout hs hso hok hc2 hr2 (fun i hi' => ?_) (fun i hi' hn hc0 d hd => ?_) (fun i hi' hd => ?_) (fun i k1 k2 k3 => ?_) (fun e he hd => ?_) (fun e k1 k2 k3 => ?_) rfl) fun Gr3 h => ?_
  · exact hi.inv.winOk i (List.mem_filter.1 hi').1
  · have hw := (List.mem_filter.1 hi').1
    obtain ⟨x, hx, hl⟩ := hi.inv.idem i hw (fun h => hn (done_set.2 (.inl h))) d hd
    obtain ⟨q1, q2⟩ := hi.inv.winOk i hw
    obtain ⟨d', hd', hni⟩ := hs.low i q1 q2
    rw [hd] at hd'; cases hd'
    have hdis := (hso.sv i hi').1
    have hun : ∀ t ∈ rdd (ins i), lget Gr2 t = lget Gr t := fun t ht => by
      have hx := hdis t ht
      rw [hG2, lget_putD_other (fun e => hx (List.mem_append_right _ (List.mem_append_left _ (mem_dstL.2 ⟨j, by simp, e⟩)))), hG1 t (fun e => hx (List.mem_append_left _ e))]
    refine ⟨x, ?_, fun hlen => ?_⟩
    · rw [nval_same (G := Gr) (fun t ht => hun t (by unfold rdd; rw [hd]; simp [ht]))]
      rw [hc0] at hni
      exact nval_pure hni hx _ _
    · rw [hun d (by unfold rdd; rw [hd]; simp)]
      exact hl (by rw [hG2, putD_length, hlen1] at hlen; exact hlen)
  · obtain ⟨q1, q2⟩ := hso.pre i hi'
    rcases done_set.1 hd with hd | rfl
    · exact hnd (hi.inv.core.closed i (hs.clsLt i (by omega)) hd j (q2 j rfl)).2
    · omega
  · have hn : ¬ done listed i := fun h => k3 (done_set.2 (.inl h))
    rcases hi.cov i k1 k2 hn with h | h
    · refine .inl (List.mem_filter.2 ⟨h, ?_⟩)
      cases hb : (ms j).testBit i with
      | false => rfl
      | true => exact absurd (hmask i hb) hn
    · exact .inr h
  · have hl := later_mask _ hi.ok e he
    rcases done_set.1 hd with hd | rfl
    · exact (hi.inv.todoOk e (List.mem_append_right _ he)).2.2 hd
    · exact hnd (hmask j (hl.2.2 j (by simp)))
  · have hn : ¬ done listed e := fun h => k3 (done_set.2 (.inl h))
    have := hi.inv.todoc e k1 k2 hn
    rcases List.mem_append.1 this with h | h
    · simp at h; exact absurd (done_set.2 (.inr h.symm)) k3
    · exact h
  · obtain ⟨h1, h2, h3⟩ := h
    exact hK A' w' g' β' _ s rest _ (b0 ++ als) _ _ _ Gr3 rfl ⟨h1, h3, hso.cur, hok, h2⟩

/-- All is done. -/
theorem mid_end (hs : Stat P H2 f ops ins cls ms sw) (hi : Mid P Hn ops ins cls ms B0 g0 β0 σ0 w0 ih out rest win als eff b0 effs lo σ Gr listed A w g β F pb) (hall : ∀ i, i < ops.size → done listed i) : PostC P (cCode P Hn) B0 g0 β0 σ0 w0 out .normal A w := by
  have heff : eff = none := by
    cases he : eff with
    | none => rfl
    | some e =>
      have := hi.inv.todoOk e (by simp [he])
      exact absurd (hall e this.1) this.2.2
  subst heff
  have hrest := hi.cur.last rfl
  subst hrest
  obtain ⟨_, hall2⟩ := stagesOk_nil hi.ok
  obtain ⟨σ1, Gr1, F1, g1, hc1, hr1, _, _⟩ := births hs als (fun a ha => by
    obtain ⟨h1, h2, _⟩ := hi.cur.alsOk a ha
    have := hs.clsLt a (by omega)
    exact ⟨this, h1, hall a this, h2⟩) hi.cur.nodup hi.inv.core hi.run
  have hr2 : Out.norm Gr1 lo σ1 = out := hr1
  have hF : F1 = Gr1 := eq_of_lget hc1.len fun t => by
    rcases hc1.agr t with h | ⟨k, hk, _, hnd, _⟩ | ⟨a, ha, hca, hnb, _⟩
    · exact h
    · exact absurd (hall k hk) hnd
    · exact absurd (hall2 a (List.mem_filter.2 ⟨List.mem_range.2 ha, by simp [hca]⟩)) hnb
  subst hF
  exact ⟨F1, lo, σ1, .inl ⟨hr2.symm, rfl⟩, g1, β, hc1.sc, hc1.stp⟩

theorem ready_nil {listed : Array Bool} (hl : listed.size = ops.size) (hlow : ∀ i o, ops[i]? = some o → ∀ e ∈ o.after, Region.binds .any e = true → e.on < i) (h : Region.ready .any ops listed = []) : ∀ i, i < ops.size → done listed i := by
  intro i
  induction i using Nat.strongRecOn with
  | ind i ihi =>
    intro hlt
    by_cases hd : done listed i
    · exact hd
    · exfalso
      have : i ∈ Region.ready .any ops listed := by
        refine mem_ready.2 ⟨by unfold done at hd; simpa using hd, ops[i], Array.getElem?_eq_getElem hlt, fun e he hb => ?_⟩
        have h1 := hlow i _ (Array.getElem?_eq_getElem hlt) e he hb
        have h2 := ihi e.on h1 (by omega)
        unfold done at h2
        simp only [Array.getD, show e.on < listed.size by omega, dif_pos] at h2 ⊢
        exact h2
      rw [h] at this
      simp at this

def undone (ops : Array Oper) (listed : Array Bool) : List Nat := (List.range ops.size).filter fun i => decide (¬ done listed i)

theorem undone_set {listed : Array Bool} {j : Nat} (hj : j < ops.size) (hn : ¬ done listed j) : (undone ops (listed.setIfInBounds j true)).length < (undone ops listed).length := by
  have he : undone ops (listed.setIfInBounds j true) = (undone ops listed).filter fun i => decide (j ≠ i) := by
    unfold undone
    rw [List.filter_filter]
    refine List.filter_congr fun i _ => ?_
    rw [Bool.eq_iff_iff]
    simp only [Bool.and_eq_true, decide_eq_true_iff, done_set, not_or]
    exact ⟨fun ⟨a, b⟩ => ⟨b, a⟩, fun ⟨a, b⟩ => ⟨b, a⟩⟩
  rw [he]
  exact List.length_filter_lt_length_iff_exists.2 ⟨j, List.mem_filter.2 ⟨List.mem_range.2 hj, by simpa using hn⟩, by simp⟩

theorem loop_ok (hsw : ∀ j, ¬ sw j) (hout : out ≠ .fail) (hm : Means P Hn H2 ops ro ih) (hs : Stat P H2 f ops ins cls ms sw) : ∀ (fuel : Nat) {rest : List Stage} {win als : List Nat} {eff : Option Nat} {b0 effs : List Nat} {lo : Lo} {σ : H} {Gr : List V} {listed : Array Bool} {A : Act} {w : World} {g : G} {β : Nat → Option Nat} {F : List V} {pb : Nat → Nat},
    (undone ops listed).length ≤ fuel → Mid P Hn ops ins cls ms B0 g0 β0 σ0 w0 ih out rest win als eff b0 effs lo σ Gr listed A w g β F pb →
    wpAnyIn (Fw ro) 0 P .any ops (PostC P (cCode P Hn) B0 g0 β0 σ0 w0 out) fuel listed A w := by
  intro fuel
  induction fuel with
  | zero =>
    intro rest win als eff b0 effs lo σ Gr listed A w g β F pb hle hi
    have hall : ∀ i, i < ops.size → done listed i := fun i hlt => by
      by_cases hd : done listed i
      · exact hd
      · have : i ∈ undone ops listed := List.mem_filter.2 ⟨List.mem_range.2 hlt, by simpa using hd⟩
        have := List.length_pos_of_mem this
        omega
    refine ⟨?_, mid_end hs hi hall⟩
    refine List.eq_nil_iff_forall_not_mem.2 fun j hj => ?_
    obtain ⟨h1, h2, _⟩ := ready_masks hs (fun h => absurd h (hsw _)) hi.inv.core.size hi.inv.core.closed hj
    exact h2 (hall j h1)
  | succ fuel ihf =>
    intro rest win als eff b0 effs lo σ Gr listed A w g β F pb hle hi
    refine ⟨fun hnil => mid_end hs hi (ready_nil hi.inv.core.size hs.lowE hnil), fun j hj => ?_⟩
    obtain ⟨h1, h2, _⟩ := ready_masks hs (fun h => absurd h (hsw _)) hi.inv.core.size hi.inv.core.closed hj
    have hlt : (undone ops (listed.setIfInBounds j true)).length ≤ fuel := by have := undone_set h1 h2; omega
    have hcov : ∀ i, i < ops.size → cls i < 2 → ¬ done (listed.setIfInBounds j true) i → i ∈ win ∨ i ∈ preAll rest := fun i k1 k2 k3 => hi.cov i k1 k2 fun h => k3 (done_set.2 (.inl h))
    rcases hs.cl3 j with hc | hc | hc
    · exact step_N hm hs hi.inv (hsw j) hj hc fun A' w' g' β' F' hi' => ihf hlt ⟨hi', hcov, hi.cur, hi.ok, hi.run⟩
    · exact step_E hout hm hs hi (fun h => absurd h (hsw _)) (fun o h => hs.insEq j o (hsw j) h) hj hc fun A' w' g' β' F' s rest' win' b0' effs' lo' σ' Gr' _ hi' => ihf hlt hi'
    · exact step_A hs hi.inv (hsw j) hj hc fun A' w' g' β' F' pb' hi' => ihf hlt ⟨hi', hcov, hi.cur, hi.ok, hi.run⟩
end Go.Vx
end
noncomputable section
open Go Go.RowKit
namespace Go.Vx
variable {P : Program} {Hn H2 : Hints} {comp : FuncId → Code → VCode} {g g' g'' : G} {σ σ' σ'' : H} {w w' w'' : World} {β β' β'' : Nat → Option Nat} {lo lo' : Lo} {fr fr' F F' : List V} {A A' : Act} {B0 : Nat} {ro : Option Nat}

/-! ### The count of draws is nowhere looked at -/
theorem Df.drawn {k : Nat} : ∀ {l : List Deferred}, Df P B0 w l → Df P B0 { w with drawn := k } l
  | [], _ => trivial
  | _ :: _, h => ⟨h.1, Df.drawn h.2⟩
theorem Sc.drawn {k : Nat} (h : Sc P comp B0 g β σ lo fr A w) : Sc P comp B0 g β σ lo fr A { w with drawn := k } where
  s := ⟨h.s.f, ⟨h.s.b.1, h.s.b.2, h.s.b.3⟩, ⟨fun b o v hv => h.s.w.frozen b o v hv, fun i ob hi => let ⟨b, n, h1, h2, h3⟩ := h.s.w.objs i ob hi; ⟨b, n, h1, Ro.mono (.refl g) rfl h2, h3⟩, h.s.w.inj, h.s.w.fresh, h.s.w.bound⟩⟩
  d := h.d.drawn
  le := h.le
theorem Stp.drawn {k : Nat} : Stp g β σ w g β σ { w with drawn := k } := ⟨.refl g, ⟨rfl, rfl, rfl, Nat.le_refl _, fun _ _ _ _ _ => rfl⟩, fun _ h _ => h, fun t b h _ => ⟨t, h⟩, fun _ _ h _ => h⟩

/-! ### The facts out of a plan -/
theorem VOp.cls_le (o : VOp) : o.cls ≤ 2 := by
  cases o <;> simp only [VOp.cls] <;> first | omega | (cases Nat.beq _ _ <;> simp)

def insOf (P : Program) (H2 : Hints) (f : Nat) (ops : Array Oper) (i : Nat) : Ins := (ops.toList.map (cOper P H2 f ops)).getD i (.op none .bad)
def msOf (ops : Array Oper) (i : Nat) : Nat := (masks ops.toList).getD i 0
def clsOf (P : Program) (H2 : Hints) (f : Nat) (ops : Array Oper) (i : Nat) : Nat := (ops.toList.map fun o => insCls o (cOper P H2 f ops o)).getD i 2

theorem insOf_eq {ops : Array Oper} {f i : Nat} {o : Oper} (h : ops[i]? = some o) : insOf P H2 f ops i = cOper P H2 f ops o := by
  unfold insOf
  rw [List.getD, List.getElem?_map, Array.getElem?_toList, h]; rfl
theorem clsOf_eq {ops : Array Oper} {f i : Nat} {o : Oper} (h : ops[i]? = some o) : clsOf P H2 f ops i = insCls o (insOf P H2 f ops i) := by
  rw [insOf_eq h]
  unfold clsOf
  rw [List.getD, List.getElem?_map, Array.getElem?_toList, h]; rfl
theorem clsOf_lt {ops : Array Oper} {f i : Nat} (h : clsOf P H2 f ops i ≠ 2) : i < ops.size := by
  by_cases hl : i < ops.size
  · exact hl
  · exfalso
    apply h
    unfold clsOf
    rw [List.getD, List.getElem?_eq_none (by simp; omega)]; rfl

theorem nbeq {a b : Nat} (h : a ≠ b) : (!(Nat.beq a b)) = true := by
  cases hb : Nat.beq a b with
  | false => rfl
  | true => exact absurd (Nat.eq_of_beq_eq_true hb) h

theorem insCls_low {o : Oper} {i : Ins} (h : insCls o i < 2) : ∃ d, i.dst = some d ∧ isNI d (insCls o i) i := by
  unfold insCls at h ⊢
  split at h
  · omega
  · split at h
    · omega
    · rename_i d v _
      exact ⟨d, rfl, rfl, Nat.le_refl _, h⟩
    · rename_i t b d d' v
      cases hb : Nat.beq d d' with
      | false => rw [hb] at h; simp at h
      | true =>
        have := Nat.eq_of_beq_eq_true hb
        subst this
        rw [hb] at h
        simp only [cond_true] at h ⊢
        refine ⟨d, rfl, rfl, rfl, ?_, h⟩
        split at h <;> rename_i hc <;> first | (rw [hc]; simp; done) | omega
    · omega

theorem insCls_alc {o : Oper} {i : Ins} (h : insCls o i = 3) : ∃ d z, i = .op (some d) (.allocH z) := by
  unfold insCls at h
  split at h
  · omega
  · split at h
    · rename_i d z; exact ⟨d, z, rfl⟩
    · rename_i v _; have := v.cls_le; omega
    · rename_i t b d d' v
      cases hb : Nat.beq d d' with
      | false => rw [hb] at h; simp at h
      | true =>
        rw [hb] at h
        simp only [cond_true] at h
        split at h <;> omega
    · omega

theorem insCls_le {o : Oper} {i : Ins} : insCls o i ≤ 3 := by
  unfold insCls
  split
  · omega
  · split
    · omega
    · rename_i v _; have := v.cls_le; omega
    · rename_i t b d d' v
      cases Nat.beq d d'
      · simp
      · simp only [cond_true]; split <;> omega
    · omega

theorem lowEdges_get : ∀ {l : List Oper} {k : Nat}, lowEdges l k = true → ∀ i o, l[i]? = some o → ∀ e ∈ o.after, Region.binds .any e = true → e.on < k + i
  | [], _, _, i, o, h => by simp at h
  | x :: xs, k, hl, i, o, h => fun e he hb => by
    simp only [lowEdges, Bool.and_eq_true, List.all_eq_true] at hl
    cases i with
    | zero =>
      simp at h; subst h
      have := hl.1 e (Array.mem_toList_iff.2 he)
      rw [hb] at this
      simp at this
      omega
    | succ i =>
      simp at h
      have := lowEdges_get hl.2 i o h e he hb
      omega

theorem planOf_some {f : Nat} {ops : Array Oper} {l : List Stage} (h : planOf P Hn f ops = some l) :
    drawOk (insOf P (heapy Hn) f ops) (clsOf P (heapy Hn) f ops) (msOf ops) ops.size l = true ∧ lowEdges ops.toList 0 = true ∧ l ≠ [] := by
  unfold planOf at h
  dsimp only at h
  split at h
  · rename_i hc
    cases h
    simp only [Bool.and_eq_true] at hc
    refine ⟨hc.1.1, hc.1.2, ?_⟩
    intro e
    have := hc.2
    rw [e] at this
    simp at this
  · cases h

structure DrawFacts (ins : Nat → Ins) (cls ms : Nat → Nat) (n : Nat) (l : List Stage) : Prop where
  cover : ∀ i, i < n → (cls i < 2 ∧ i ∈ preAll l) ∨ (cls i = 2 ∧ i ∈ effAll l) ∨ cls i = 3
  nodup : (dstL ins ((List.range n).filter fun i => !(Nat.beq (cls i) 2))).Nodup
  effD : ∀ t ∈ dstL ins ((List.range n).filter fun i => Nat.beq (cls i) 2), t ∉ dstL ins ((List.range n).filter fun i => !(Nat.beq (cls i) 2))
  reads : ∀ i j t, i < n → j < n → cls i ≠ 3 → cls j ≠ 2 → (ins j).dst = some t → t ∈ (ins i).slots → (ms i).testBit j = true ∧ (cls i = 2 ∨ cls j ≠ 3)
  loc : ∀ i, i < n → noLocal (ins i) = true
  stages : stagesOk ins cls ms n (aList cls n) l [] [] none [] [] = true

theorem drawOk_facts {ins : Nat → Ins} {cls ms : Nat → Nat} {n : Nat} {l : List Stage} (h : drawOk ins cls ms n l = true) : DrawFacts ins cls ms n l := by
  simp only [drawOk, Bool.and_eq_true] at h
  obtain ⟨⟨⟨⟨⟨⟨h1, h2⟩, h3⟩, h4⟩, h5⟩, h6⟩, h7⟩ := h
  refine ⟨fun i hi => ?_, distinctN_iff.1 h2, disj_iff.1 h4, fun i j t hi hj hci hcj hd ht => ?_, fun i hi => allN_iff.1 h6 i (List.mem_range.2 hi), h7⟩
  · have := allN_iff.1 h1 i (List.mem_range.2 hi)
    simp only [Bool.or_eq_true, Bool.and_eq_true, memN_iff, Nat.blt_eq] at this
    rcases this with (⟨a, b⟩ | ⟨a, b⟩) | a
    · exact .inl ⟨a, b⟩
    · exact .inr (.inl ⟨Nat.eq_of_beq_eq_true a, b⟩)
    · exact .inr (.inr (Nat.eq_of_beq_eq_true a))
  · have := allN_iff.1 h5 i (List.mem_filter.2 ⟨List.mem_range.2 hi, nbeq hci⟩)
    have := allN_iff.1 this j (List.mem_filter.2 ⟨List.mem_range.2 hj, nbeq hcj⟩)
    rw [hd] at this
    simp only [memN_iff.2 ht, Bool.not_true, Bool.false_or, Bool.and_eq_true, Bool.or_eq_true] at this
    refine ⟨this.1, ?_⟩
    rcases this.2 with h | h
    · exact .inl (Nat.eq_of_beq_eq_true h)
    · refine .inr fun e => ?_
      rw [e] at h; simp at h

theorem stat_of {f : Nat} {ops : Array Oper} {l : List Stage} (hf : DrawFacts (insOf P H2 f ops) (clsOf P H2 f ops) (msOf ops) ops.size l) (hl : lowEdges ops.toList 0 = true) : Stat P H2 f ops (insOf P H2 f ops) (clsOf P H2 f ops) (msOf ops) (fun _ => False) := by
  have hget : ∀ i, i < ops.size → ops[i]? = some ops[i]! := fun i hi => by simp [hi]
  refine ⟨fun i o _ h => insOf_eq h, fun i hi hc => ?_, fun i hi hc => ?_, fun i => ?_, fun i o j _ ho hb => ?_, fun i j d hi hj hci hcj h1 h2 => ?_, fun e i d he hi hce hci h1 h2 => ?_, hf.reads, hf.loc, fun i hc => clsOf_lt hc, fun i o ho e he hb => ?_⟩
  · rw [clsOf_eq (hget i hi)] at hc ⊢
    exact insCls_low hc
  · rw [clsOf_eq (hget i hi)] at hc
    exact insCls_alc hc
  · by_cases hi : i < ops.size
    · have := insCls_le (o := ops[i]!) (i := insOf P H2 f ops i)
      rw [clsOf_eq (hget i hi)]
      omega
    · by_cases hc : clsOf P H2 f ops i = 2
      · omega
      · exact absurd (clsOf_lt hc) hi
  · obtain ⟨e, he, hbe, h⟩ := mask_edge (ops := ops.toList) (by rw [Array.getElem?_toList]; exact ho) hb
    exact ⟨e, Array.mem_toList_iff.1 he, hbe, h⟩
  · refine dstL_inj hf.nodup i ?_ j ?_ h1 h2 (List.Pairwise.filter _ List.nodup_range)
    · exact List.mem_filter.2 ⟨List.mem_range.2 hi, nbeq hci⟩
    · exact List.mem_filter.2 ⟨List.mem_range.2 hj, nbeq hcj⟩
  · exact hf.effD d (mem_dstL.2 ⟨e, List.mem_filter.2 ⟨List.mem_range.2 he, by simpa using hce⟩, h1⟩) (mem_dstL.2 ⟨i, List.mem_filter.2 ⟨List.mem_range.2 hi, nbeq hci⟩, h2⟩)
  · have := lowEdges_get hl i o (by rw [Array.getElem?_toList]; exact ho) e he hb
    omega

end Go.Vx
end
noncomputable section
open Go Go.RowKit
namespace Go.Vx
variable {P : Program} {Hn H2 : Hints} {comp : FuncId → Code → VCode} {g g' g'' : G} {σ σ' σ'' : H} {w w' w'' : World} {β β' β'' : Nat → Option Nat} {lo lo' : Lo} {fr fr' F F' : List V} {A A' : Act} {B0 : Nat} {ro : Option Nat}
variable {ops : Array Oper} {ins : Nat → Ins} {cls ms : Nat → Nat} {f : Nat} {listed : Array Bool} {win born todo : List Nat} {Gr : List V} {pb : Nat → Nat} {g0 : G} {β0 : Nat → Option Nat} {σ0 : H} {w0 : World}
variable {ih : Ih} {out : Out} {rest : List Stage} {als b0 effs : List Nat} {eff : Option Nat}

theorem putGo_comm {α : Type} (a b : Option α) : ∀ (n m : Nat) (t : T α) (i j : Nat), i < n → j < m → i ≠ j → T.putGo a n (T.putGo b m t j) i = T.putGo b m (T.putGo a n t i) j
  | 0, _, _, _, _, h, _, _ => absurd h (by omega)
  | _ + 1, 0, _, _, _, _, h, _ => absurd h (by omega)
  | n + 1, m + 1, t, i, j, hi, hj, hne => by
    have ih := putGo_comm a b n m
    have z : ∀ k : Nat, k ≠ 0 → Nat.beq k 0 = false := fun k hk => by cases k <;> first | rfl | exact absurd rfl hk
    have par : ∀ k : Nat, k % 2 = 1 → Nat.beq (k % 2) 1 = true := fun k hk => by rw [hk]; rfl
    have par0 : ∀ k : Nat, ¬ k % 2 = 1 → Nat.beq (k % 2) 1 = false := fun k hk => by
      have : k % 2 = 0 := by omega
      rw [this]; rfl
    by_cases h1 : i = 0
    · by_cases h2 : j = 0
      · omega
      · subst h1
        have q := z j h2
        by_cases p : j % 2 = 1
        · cases t <;> simp only [T.putGo, q, par j p, cond_true, cond_false, Nat.beq_refl]
        · cases t <;> simp only [T.putGo, q, par0 j p, cond_true, cond_false, Nat.beq_refl]
    · by_cases h2 : j = 0
      · subst h2
        have q := z i h1
        by_cases p : i % 2 = 1
        · cases t <;> simp only [T.putGo, q, par i p, cond_true, cond_false, Nat.beq_refl]
        · cases t <;> simp only [T.putGo, q, par0 i p, cond_true, cond_false, Nat.beq_refl]
      · have q1 := z i h1
        have q2 := z j h2
        by_cases p1 : i % 2 = 1 <;> by_cases p2 : j % 2 = 1
        · cases t <;> simp only [T.putGo, q1, q2, par i p1, par j p2, cond_true, cond_false] <;> rw [ih _ (i / 2) (j / 2) (by omega) (by omega) (by omega)]
        · cases t <;> simp only [T.putGo, q1, q2, par i p1, par0 j p2, cond_true, cond_false]
        · cases t <;> simp only [T.putGo, q1, q2, par0 i p1, par j p2, cond_true, cond_false]
        · cases t <;> simp only [T.putGo, q1, q2, par0 i p1, par0 j p2, cond_true, cond_false] <;> rw [ih _ (i / 2 - 1) (j / 2 - 1) (by omega) (by omega) (by omega)]
theorem H.set_comm (h : H) {i j : Nat} (a b : Obj) (hne : i ≠ j) : (h.set i a).set j b = (h.set j b).set i a := by
  have := putGo_comm (some b) (some a) (j + 1) (i + 1) h.objs j i (by omega) (by omega) (Ne.symm hne)
  simp only [H.set, T.put]
  rw [this]
theorem getCells_set {h : H} {i j : Nat} {o : Obj} (hne : i ≠ j) : getCells (h.set i o) j = getCells h j := by
  unfold getCells
  rw [H.get_set, if_neg hne]

/-- A store into an object of the heap. -/
theorem store_heap {n i off : Nat} {a y : Opd} {v : V} {lo' : Lo} {h h' : H} (ha : a.ev fr = .hptr i off) (hq : opStore n a y fr lo h = .ok v lo' h') :
    ∃ cs cs' : List V, v = .undef ∧ lo' = lo ∧ getCells h i = some cs ∧ h' = h.set i (.cells cs') ∧ ∀ h2, getCells h2 i = some cs → opStore n a y fr lo h2 = .ok .undef lo (h2.set i (.cells cs')) := by
  have key : ∀ u : V, (bif Nat.beq u.cells.length n && okcs u.cells then storeTo (a.ev fr) u.cells lo h else .fail) = .ok v lo' h' → ∃ cs cs' : List V, v = .undef ∧ lo' = lo ∧ getCells h i = some cs ∧ h' = h.set i (.cells cs') ∧ ∀ h2, getCells h2 i = some cs → (bif Nat.beq u.cells.length n && okcs u.cells then storeTo (a.ev fr) u.cells lo h2 else .fail) = .ok .undef lo (h2.set i (.cells cs')) := by
    intro u hq
    cases hc : (Nat.beq u.cells.length n && okcs u.cells) with
    | false => rw [hc] at hq; cases hq
    | true =>
      rw [hc] at hq
      simp only [cond_true, ha, storeTo] at hq ⊢
      cases hg : getCells h i with
      | none => rw [hg] at hq; cases hq
      | some cs =>
        rw [hg] at hq
        dsimp only at hq
        cases hs : splice off cs u.cells with
        | none => rw [hs] at hq; cases hq
        | some cs' =>
          rw [hs] at hq
          cases hq
          refine ⟨cs, cs', rfl, rfl, rfl, rfl, fun h2 hg2 => ?_⟩
          rw [hg2]
          dsimp only
          rw [hs]
  unfold opStore at hq ⊢
  cases hy : y.ev fr with
  | lptr t o => rw [hy] at hq; cases hq
  | undef => rw [hy] at hq; cases hq
  | _ => rw [hy] at hq; exact key _ hq

theorem msSw_ne {e1 e2 i : Nat} (h : i ≠ e2) : msSw ms e1 e2 i = ms i := by
  unfold msSw
  rw [beqF h]; rfl
theorem msSw_sub {e1 e2 i j : Nat} (h : (ms i).testBit j = true) : (msSw ms e1 e2 i).testBit j = true := by
  by_cases hi : i = e2
  · subst hi; unfold msSw; rw [beqT]; simp [Nat.testBit_or, h]
  · rw [msSw_ne hi]; exact h
theorem msSw_e2 {e1 e2 j : Nat} (h : (msSw ms e1 e2 e2).testBit j = true) : (ms e2).testBit j = true ∨ j = e1 ∨ (ms e1).testBit j = true := by
  unfold msSw at h
  rw [beqT] at h
  simp only [cond_true, Nat.testBit_or, Bool.or_eq_true] at h
  rcases h with h | h | h
  · exact .inl h
  · rw [Nat.testBit_two_pow] at h
    exact .inr (.inl (of_decide_eq_true h).symm)
  · exact .inr (.inr h)
theorem msSw_e1 {e1 e2 : Nat} : (msSw ms e1 e2 e2).testBit e1 = true := by
  unfold msSw
  rw [beqT]
  simp [Nat.testBit_or, Nat.testBit_two_pow]

/-- Two stores at the end that may come in either order: what is known of them. -/
structure SwF (ins : Nat → Ins) (cls ms : Nat → Nat) (n e1 e2 p1 p2 : Nat) (out : Out) : Prop where
  i1 : ∃ k x, ins e1 = .op none (.store k (.tmp p1) x)
  i2 : ∃ k x, ins e2 = .op none (.store k (.tmp p2) x)
  lt1 : e1 < n
  lt2 : e2 < n
  ne : e1 ≠ e2
  nb : (ms e1).testBit e2 = false
  c1 : cls e1 = 2
  c2 : cls e2 = 2
  oth : ∀ e, e < n → cls e = 2 → e ≠ e1 → e ≠ e2 → (ms e2).testBit e = true
  one : ∀ i, i < n → cls i = 1 → (ms e2).testBit i = true
  neq : ∀ F l h, out = .norm F l h → ∃ a b o q, lget F p1 = .hptr a o ∧ lget F p2 = .hptr b q ∧ a ≠ b
/-- what stands behind the first one -/
def SwI (e1 e2 : Nat) (als : List Nat) (eff : Option Nat) (rest : List Stage) : Prop := (eff = some e1 → als = [] ∧ swTail e2 rest = true) ∧ swStages e1 e2 rest = true
theorem eqOn_eq {a b : Option Nat} (h : eqOn a b = true) : a = b := by
  cases a <;> cases b <;> first | rfl | cases h | skip
  rw [Nat.eq_of_beq_eq_true (show Nat.beq _ _ = true from h)]
theorem isNilN_eq {l : List Nat} (h : isNilN l = true) : l = [] := by
  cases l with
  | nil => rfl
  | cons a l => cases h
theorem swTail_eq {e2 : Nat} {r : List Stage} (h : swTail e2 r = true) : r = [⟨[], [], [], some e2⟩, ⟨[], [], [], none⟩] := by
  unfold swTail at h
  split at h
  · rename_i b c
    simp only [Bool.and_eq_true] at h
    obtain ⟨⟨⟨⟨⟨⟨⟨h1, h2⟩, h3⟩, h4⟩, h5⟩, h6⟩, h7⟩, h8⟩ := h
    obtain ⟨b1, b2, b3, b4⟩ := b
    obtain ⟨c1, c2, c3, c4⟩ := c
    dsimp only at h1 h2 h3 h4 h5 h6 h7 h8
    rw [isNilN_eq h1, isNilN_eq h2, isNilN_eq h3, eqOn_eq h4, isNilN_eq h5, isNilN_eq h6, isNilN_eq h7, eqOn_eq h8]
  · cases h
theorem SwI.next {e1 e2 : Nat} {s : Stage} (h : SwI e1 e2 als eff (s :: rest)) : SwI e1 e2 s.als s.eff rest := by
  have h2 := h.2
  simp only [swStages, Bool.and_eq_true, Bool.or_eq_true, Bool.not_eq_true'] at h2
  refine ⟨fun he => ?_, h2.2⟩
  rcases h2.1 with h3 | h3
  · rw [he] at h3
    simp [eqOn] at h3
  · exact ⟨isNilN_eq h3.1, h3.2⟩

variable {e1 e2 p1 p2 : Nat}

/-- The second one comes first. -/
theorem step_sw (hout : out ≠ .fail) (hm : Means P Hn H2 ops ro ih) (hs' : Stat P H2 f ops ins cls (msSw ms e1 e2) (fun j => j = e2)) (hs : Stat P H2 f ops ins cls ms (fun _ => False)) (hf : SwF ins cls ms ops.size e1 e2 p1 p2 out)
    (hi : Mid P Hn ops ins cls (msSw ms e1 e2) B0 g0 β0 σ0 w0 ih out rest win als eff b0 effs lo σ Gr listed A w g β F pb) (hsi : SwI e1 e2 als eff rest) (hr : e2 ∈ Region.ready .any ops listed) (hnd1 : ¬ done listed e1)
    {Q : Exit → Act → World → Prop} {K : Act → World → Prop}
    (hK : ∀ A' w' g' β' rest' win' als' eff' b0' effs' lo' σ', Mid P Hn ops ins cls ms B0 g0 β0 σ0 w0 ih out rest' win' als' eff' b0' effs' lo' σ' Gr (listed.setIfInBounds e2 true) A' w' g' β' F pb → K A' w') : wpOpIn (Fw ro) 0 P ops Q e2 K A w := by
  have hcl : Closed ops ms listed := fun j hj hd i hb => hi.inv.core.closed j hj hd i (msSw_sub hb)
  obtain ⟨hlt, hnd, hms⟩ := ready_masks hs (fun h => h.elim) hi.inv.core.size hcl hr
  -- the first one is next
  have h1t := hi.inv.todoc e1 hf.lt1 hf.c1 hnd1
  have h2t := hi.inv.todoc e2 hf.lt2 hf.c2 hnd
  have heff : eff = some e1 := by
    cases he : eff with
    | none => have := hi.cur.last he; rw [he, this] at h1t; simp [effAll] at h1t
    | some e =>
      by_cases h1 : e = e1
      · rw [h1]
      · exfalso
        have hlm : ∀ j ∈ effAll rest, (msSw ms e1 e2 j).testBit e = true := fun j hj => (later_mask rest hi.ok j hj).2.2 e (by simp [he])
        have heok := hi.cur.effOk e he
        by_cases h2 : e = e2
        · subst h2
          have h1r : e1 ∈ effAll rest := by
            rcases List.mem_append.1 h1t with h | h
            · rw [he] at h; simp at h; exact absurd h.symm h1
            · exact h
          have := hlm e1 h1r
          rw [msSw_ne hf.ne, hf.nb] at this
          cases this
        · exact (hi.inv.todoOk e (by simp [he])).2.2 (hms e (hf.oth e heok.2.1 heok.1 h1 h2)).2
  obtain ⟨hals, htl⟩ := hsi.1 heff
  have hrest := swTail_eq htl
  subst heff hals hrest
  -- what the run does
  obtain ⟨k1, x1, hi1⟩ := hf.i1
  obtain ⟨k2, x2, hi2⟩ := hf.i2
  have hrun : runIs ih [ins e1, ins e2] Gr lo σ = out := hi.run
  rw [hi1, hi2] at hrun
  have r1 : ∀ {X : List V} {l : Lo} {s : H} {is : List Ins} {k : Nat} {p : Nat} {x : Opd}, runIs ih (.op none (.store k (.tmp p) x) :: is) X l s = (match opStore k (.tmp p) x X l s with | .ok _ l s => runIs ih is X l s | .fail => .fail) := by
    intro X l s is k p x
    have : runIs ih (.op none (.store k (.tmp p) x) :: is) X l s = kRun (runIs ih is) (kPut (ihN ih) [] X none (opStore k (.tmp p) x X l s)) := rfl
    rw [this]
    cases opStore k (.tmp p) x X l s <;> rfl
  rw [r1] at hrun
  cases ho1 : opStore k1 (.tmp p1) x1 Gr lo σ with
  | fail => rw [ho1] at hrun; exact absurd hrun.symm hout
  | ok v1 lo1 σ1 =>
  rw [ho1] at hrun
  dsimp only at hrun
  rw [r1] at hrun
  cases ho2 : opStore k2 (.tmp p2) x2 Gr lo1 σ1 with
  | fail => rw [ho2] at hrun; exact absurd hrun.symm hout
  | ok v2 lo2 σ2 =>
  rw [ho2] at hrun
  have hfin : (.norm Gr lo2 σ2 : Out) = out := hrun
  clear hrun
  obtain ⟨a, b, oa, ob, ha, hb, hab⟩ := hf.neq Gr lo2 σ2 hfin.symm
  obtain ⟨cs1, cs1', rfl, rfl, hg1, rfl, hst1⟩ := store_heap (a := .tmp p1) ha ho1
  obtain ⟨cs2, cs2', rfl, rfl, hg2, rfl, hst2⟩ := store_heap (a := .tmp p2) hb ho2
  rw [getCells_set hab] at hg2
  have ho2' := hst2 σ hg2
  have ho1' := hst1 (σ.set b (.cells cs2')) (by rw [getCells_set (Ne.symm hab)]; exact hg1)
  -- the second one, upon the model's frame
  have hsame : Same (ins e2).slots F Gr := by
    intro t ht
    rcases hi.inv.core.agr t with h | ⟨j, hj, hcj, hndj, hd⟩ | ⟨c, hc, hcc, hnb, hd⟩
    · exact h
    · exact absurd (hms j (hs.reads e2 j t hf.lt2 hj (by have := hf.c2; omega) (by omega) hd ht).1).2 hndj
    · have hbit := (hs.reads e2 c t hf.lt2 hc (by have := hf.c2; omega) (by omega) hd ht).1
      obtain ⟨hso, _⟩ := stagesOk_cons hi.ok
      have := (hso.cur.effOk e2 rfl).2.2.2 c (List.mem_filter.2 ⟨List.mem_range.2 hc, by simp [hcc]⟩) (msSw_sub hbit)
      simp at this
      exact absurd this hnb
  have hst2' : stIns (ihN ih) [] (ins e2) Gr lo2 σ = .norm Gr lo2 (σ.set b (.cells cs2')) := by
    rw [hi2]
    have : stIns (ihN ih) [] (.op none (.store k2 (.tmp p2) x2)) Gr lo2 σ = kPut (ihN ih) [] Gr none (opStore k2 (.tmp p2) x2 Gr lo2 σ) := rfl
    rw [this, ho2']; rfl
  obtain ⟨v, hG2, hF⟩ := eff_same (hs.loc e2 hlt) hsame hst2'
  have ho : ops[e2]? = some ops[e2] := Array.getElem?_eq_getElem hlt
  have hins := hs.insEq e2 _ (fun h => h) ho
  have hdn : (ins e2).dst = none := by rw [hi2]; rfl
  have hdst : ops[e2].dst = none := by
    have : (cOper P H2 f ops ops[e2]).dst = ops[e2].dst := cOper_dst (by rw [← hins, hi2]; intro e; cases e)
    rw [← this, ← hins]; exact hdn
  rw [hdn] at hF
  have hF2 : stIns (ihN ih) [] (cOper P H2 f ops ops[e2]) F lo2 σ = .norm F lo2 (σ.set b (.cells cs2')) := by rw [← hins]; exact hF
  have hcore : Core P Hn ops ins cls ms B0 g0 β0 σ0 w0 b0 lo2 σ Gr listed A w g β F pb := { hi.inv.core with closed := hcl }
  refine op_in (ih := ihN ih) hm.call hm.app hm.idle hm.loc ho (hm.hdef ho) hi.inv.core.sc (by rw [hF2]; simp) fun g' β' σ' lo2' fr' A' w' hsc hst' hA he => ?_
  rw [hF2, ihN_ops] at he
  simp only [Out.norm.injEq] at he
  obtain ⟨rfl, rfl, rfl⟩ := he
  have hc2 := hcore.put (dj := none) (v := .undef) (Gr' := Gr) hs (fun h => h.elim) hr hdn (by have := hf.c2; omega) rfl (fun t => .inr ⟨by simp, rfl⟩) hsc hst' (by rw [hdst] at hA; exact hA)
  obtain ⟨hso, hok1⟩ := stagesOk_cons hi.ok
  obtain ⟨hso2, hok2⟩ := stagesOk_cons hok1
  have hms1 : msSw ms e1 e2 e1 = ms e1 := msSw_ne hf.ne
  have hd1 : (ins e1).dst = none := by rw [hi1]; rfl
  have hz : ∀ i, i < ops.size → cls i < 2 → ¬ done listed i → cls i = 0 := fun i h1 h2 h3 => by
    by_cases hc : cls i = 1
    · exact absurd (hms i (hf.one i h1 hc)).2 h3
    · omega
  refine hK A' w' g' β' [⟨[], [], [], none⟩] win [] (some e1) b0 effs _ (σ.set b (.cells cs2')) ⟨⟨hc2, fun i hiw hn d hd => ?_, hi.inv.winOk, fun i h1 h2 h3 => ?_, fun e he => ?_, fun e h1 h2 h3 => ?_⟩, fun i h1 h2 h3 => ?_, ⟨fun c hc => (by cases hc), List.nodup_nil, fun e he => ?_, fun he => (by cases he)⟩, ?_, ?_⟩
  · have hn' : ¬ done listed i := fun h => hn (done_set.2 (.inl h))
    obtain ⟨u, hu, hl⟩ := hi.inv.idem i hiw hn' d hd
    obtain ⟨q1, q2⟩ := hi.inv.winOk i hiw
    obtain ⟨d', hd', hni⟩ := hs.low i q1 q2
    rw [hd] at hd'; cases hd'
    rw [hz i q1 q2 hn'] at hni
    exact ⟨u, nval_pure hni hu _ _, hl⟩
  · have hn' : ¬ done listed i := fun h => h3 (done_set.2 (.inl h))
    rcases hi.cov i h1 h2 hn' with h | h
    · exact .inl h
    · simp [preAll] at h
  · have he : e = e1 := by simpa [effAll] using he
    subst he
    exact ⟨hf.lt1, hf.c1, fun h => by rcases done_set.1 h with h | h <;> first | exact hnd1 h | exact hf.ne h.symm⟩
  · have hn' : ¬ done listed e := fun h => h3 (done_set.2 (.inl h))
    have := hi.inv.todoc e h1 h2 hn'
    simp [effAll] at this ⊢
    rcases this with h | h
    · exact h
    · exact absurd (done_set.2 (.inr h.symm)) h3
  · have hn' : ¬ done listed i := fun h => h3 (done_set.2 (.inl h))
    rcases hi.cov i h1 h2 hn' with h | h
    · exact .inl h
    · simp [preAll] at h
  · cases he
    obtain ⟨q1, q2, q3, q4⟩ := hi.cur.effOk e1 rfl
    rw [hms1] at q3 q4
    exact ⟨q1, q2, q3, q4⟩
  · obtain ⟨_, hall⟩ := stagesOk_nil hok2
    have hdd : dstL ins [e1] = [] := by simp [dstL, hd1]
    simp only [stagesOk, Bool.and_eq_true, List.append_nil, List.nil_append, Option.toList_some, Option.toList_none]
    have hsv : survOf ms win (some e1) = survOf (msSw ms e1 e2) win (some e1) := by simp only [survOf, hms1]
    refine ⟨⟨⟨⟨⟨⟨⟨⟨allN_iff.2 fun i hiw => ?_, rfl⟩, rfl⟩, rfl⟩, rfl⟩, rfl⟩, rfl⟩, rfl⟩, rfl, allN_iff.2 fun c hc => ?_⟩
    · rw [hsv] at hiw
      have := (hso.sv i hiw).2
      have hc1 : cls i ≠ 1 := fun h => by have := this h; simp at this
      simp only [Bool.and_eq_true, Bool.or_eq_true, Bool.not_eq_true']
      refine ⟨disj_iff.2 fun t ht => ?_, .inl ?_⟩
      · rw [hdd]; simp [dstL]
      · exact beqF hc1
    · have := hall c hc
      simpa [memN_iff] using this
  · have : runIs ih [ins e1] Gr lo2' (σ.set b (.cells cs2')) = out := by
      rw [hi1, r1, ho1', ← hfin, H.set_comm _ _ _ hab]
      rfl
    exact this

theorem loop_sw (hout : out ≠ .fail) (hm : Means P Hn H2 ops ro ih) (hs' : Stat P H2 f ops ins cls (msSw ms e1 e2) (fun j => j = e2)) (hs : Stat P H2 f ops ins cls ms (fun _ => False)) (hf : SwF ins cls ms ops.size e1 e2 p1 p2 out) :
    ∀ (fuel : Nat) {rest : List Stage} {win als : List Nat} {eff : Option Nat} {b0 effs : List Nat} {lo : Lo} {σ : H} {Gr : List V} {listed : Array Bool} {A : Act} {w : World} {g : G} {β : Nat → Option Nat} {F : List V} {pb : Nat → Nat},
    (undone ops listed).length ≤ fuel → Mid P Hn ops ins cls (msSw ms e1 e2) B0 g0 β0 σ0 w0 ih out rest win als eff b0 effs lo σ Gr listed A w g β F pb → SwI e1 e2 als eff rest →
    wpAnyIn (Fw ro) 0 P .any ops (PostC P (cCode P Hn) B0 g0 β0 σ0 w0 out) fuel listed A w := by
  intro fuel
  induction fuel with
  | zero =>
    intro rest win als eff b0 effs lo σ Gr listed A w g β F pb hle hi hsi
    have hall : ∀ i, i < ops.size → done listed i := fun i hlt => by
      by_cases hd : done listed i
      · exact hd
      · have : i ∈ undone ops listed := List.mem_filter.2 ⟨List.mem_range.2 hlt, by simpa using hd⟩
        have := List.length_pos_of_mem this
        omega
    refine ⟨?_, mid_end hs' hi hall⟩
    refine List.eq_nil_iff_forall_not_mem.2 fun j hj => ?_
    have hcl : Closed ops ms listed := fun j hj hd i hb => hi.inv.core.closed j hj hd i (msSw_sub hb)
    obtain ⟨h1, h2, _⟩ := ready_masks hs (fun h => h.elim) hi.inv.core.size hcl hj
    exact h2 (hall j h1)
  | succ fuel ihf =>
    intro rest win als eff b0 effs lo σ Gr listed A w g β F pb hle hi hsi
    refine ⟨fun hnil => mid_end hs' hi (ready_nil hi.inv.core.size hs.lowE hnil), fun j hj => ?_⟩
    have hcl : Closed ops ms listed := fun j hj hd i hb => hi.inv.core.closed j hj hd i (msSw_sub hb)
    obtain ⟨h1, h2, h3⟩ := ready_masks hs (fun h => h.elim) hi.inv.core.size hcl hj
    have hlt : (undone ops (listed.setIfInBounds j true)).length ≤ fuel := by have := undone_set h1 h2; omega
    by_cases hsp : j = e2 ∧ ¬ done listed e1
    · obtain ⟨rfl, hn1⟩ := hsp
      exact step_sw hout hm hs' hs hf hi hsi hj hn1 fun A' w' g' β' rest' win' als' eff' b0' effs' lo' σ' hi' => loop_ok (sw := fun _ => False) (fun _ h => h) hout hm hs fuel hlt hi'
    · have hcov : ∀ i, i < ops.size → cls i < 2 → ¬ done (listed.setIfInBounds j true) i → i ∈ win ∨ i ∈ preAll rest := fun i k1 k2 k3 => hi.cov i k1 k2 fun h => k3 (done_set.2 (.inl h))
      have hw : j = e2 → ∀ i, (msSw ms e1 e2 j).testBit i = true → i < ops.size ∧ done listed i := by
        rintro rfl i hb
        have hd1 : done listed e1 := by
          by_cases h : done listed e1
          · exact h
          · exact absurd ⟨rfl, h⟩ hsp
        rcases msSw_e2 hb with h | rfl | h
        · exact h3 i h
        · exact ⟨hf.lt1, hd1⟩
        · exact hcl e1 hf.lt1 hd1 i h
      rcases hs.cl3 j with hc | hc | hc
      · exact step_N hm hs' hi.inv (fun h => by have := hf.c2; rw [← h] at this; omega) hj hc fun A' w' g' β' F' hi' => ihf hlt ⟨hi', hcov, hi.cur, hi.ok, hi.run⟩ hsi
      · refine step_E hout hm hs' hi hw (fun o h => hs.insEq j o (fun h => h) h) hj hc fun A' w' g' β' F' s rest' win' b0' effs' lo' σ' Gr' hrs hi' => ihf hlt hi' ?_
        subst hrs
        exact hsi.next
      · exact step_A hs' hi.inv (fun h => by have := hf.c2; rw [← h] at this; omega) hj hc fun A' w' g' β' F' pb' hi' => ihf hlt ⟨hi', hcov, hi.cur, hi.ok, hi.run⟩ hsi
end Go.Vx
end
noncomputable section
open Go Go.RowKit
namespace Go.Vx
variable {P : Program} {Hn H2 : Hints} {comp : FuncId → Code → VCode} {g g' g'' : G} {σ σ' σ'' : H} {w w' w'' : World} {β β' β'' : Nat → Option Nat} {lo lo' : Lo} {fr fr' F F' : List V} {A A' : Act} {B0 : Nat} {ro : Option Nat}
theorem runIs_append {ih : Ih} : ∀ (l m : List Ins) (fr : List V) (lo : Lo) (σ : H), runIs ih (l ++ m) fr lo σ = kRun (runIs ih m) (runIs ih l fr lo σ)
  | [], m, fr, lo, σ => rfl
  | i :: l, m, fr, lo, σ => by
    have key : ∀ o, kRun (runIs ih (l ++ m)) o = kRun (runIs ih m) (kRun (runIs ih l) o) := by
      intro o
      cases o with
      | norm a b c => exact runIs_append l m a b c
      | _ => rfl
    cases i with
    | chk g t o =>
      have e1 : ∀ is : List Ins, runIs ih (.chk g t o :: is) fr lo σ = bif chkG g t o fr lo σ then runIs ih is fr lo σ else .fail := fun _ => rfl
      rw [List.cons_append, e1, e1]
      cases chkG g t o fr lo σ with
      | true => exact runIs_append l m fr lo σ
      | false => rfl
    | _ => exact key _
theorem neqId_ok {p1 p2 : Nat} {fr : List V} {lo : Lo} {σ : H} (h : chkOp p2 (.neqId (.tmp p2) (.tmp p1)) fr lo σ = true) : ∃ a b o q, lget fr p1 = .hptr a o ∧ lget fr p2 = .hptr b q ∧ a ≠ b := by
  unfold chkOp at h
  simp only [evOp, opNeqId, Opd.ev] at h
  cases h2 : lget fr p2 with
  | hptr b q =>
    rw [h2] at h
    dsimp only at h
    cases h1 : lget fr p1 with
    | hptr a o =>
      rw [h1] at h
      dsimp only at h
      cases hb : Nat.beq b a with
      | true => rw [hb] at h; cases h
      | false => exact ⟨a, b, o, q, rfl, rfl, fun e => by rw [e, beqT] at hb; cases hb⟩
    | _ => rw [h1] at h; cases h
  | _ => rw [h2] at h; cases h
theorem storeAt_eq {i : Ins} {p : Nat} (h : storeAt i = some p) : ∃ k x, i = .op none (.store k (.tmp p) x) := by
  unfold storeAt at h
  split at h
  · cases h; exact ⟨_, _, rfl⟩
  · cases h
structure SwFacts (ins : Nat → Ins) (cls ms : Nat → Nat) (n : Nat) (s : Swap) : Prop where
  draw : drawOk ins cls (msSw ms s.e1 s.e2) n s.l = true
  reads : readsOk ins cls ms n = true
  stages : swStages s.e1 s.e2 s.l = true
  lt1 : s.e1 < n
  lt2 : s.e2 < n
  ne : s.e1 ≠ s.e2
  nb : (ms s.e1).testBit s.e2 = false
  c1 : cls s.e1 = 2
  c2 : cls s.e2 = 2
  oth : ∀ e, e < n → cls e = 2 → e ≠ s.e1 → e ≠ s.e2 → (ms s.e2).testBit e = true
  one : ∀ i, i < n → cls i = 1 → (ms s.e2).testBit i = true
  i1 : storeAt (ins s.e1) = some s.p1
  i2 : storeAt (ins s.e2) = some s.p2
theorem planSw_some {f : Nat} {ops : Array Oper} {s : Swap} (h : planSw P Hn f ops = some s) :
    SwFacts (insOf P (heapy Hn) f ops) (clsOf P (heapy Hn) f ops) (msOf ops) ops.size s ∧ lowEdges ops.toList 0 = true ∧ s.l ≠ [] := by
  unfold planSw at h
  dsimp only at h
  split at h
  · cases h
  · rename_i e1 e2 _
    split at h
    · rename_i p1 p2 h1 h2
      split at h
      · rename_i hc
        cases h
        simp only [Bool.and_eq_true, swOk] at hc
        obtain ⟨⟨⟨⟨⟨⟨⟨⟨⟨⟨⟨⟨d1, d2⟩, d3⟩, d4⟩, d5⟩, d6⟩, d7⟩, d8⟩, d9⟩, d10⟩, d11⟩, d12⟩, d13⟩ := hc
        refine ⟨⟨d1, d2, d3, by rwa [Nat.blt_eq] at d4, by rwa [Nat.blt_eq] at d5, fun e => ?_, by rw [Bool.not_eq_true'] at d7; exact d7, Nat.eq_of_beq_eq_true d8, Nat.eq_of_beq_eq_true d9, fun e he hce h3 h4 => ?_, fun i hi hci => ?_, h1, h2⟩, d12, fun e => ?_⟩
        · dsimp only at e; rw [e, beqT] at d6; cases d6
        · have := allN_iff.1 d10 e (List.mem_range.2 he)
          simp only [Bool.or_eq_true, Bool.not_eq_true'] at this
          rcases this with ((h | h) | h) | h
          · have h' : Nat.beq (clsOf P (heapy Hn) f ops e) 2 = false := h
            rw [hce] at h'; cases h'
          · exact absurd (Nat.eq_of_beq_eq_true h) h3
          · exact absurd (Nat.eq_of_beq_eq_true h) h4
          · exact h
        · have := allN_iff.1 d11 i (List.mem_range.2 hi)
          simp only [Bool.or_eq_true, Bool.not_eq_true'] at this
          rcases this with h | h
          · have h' : Nat.beq (clsOf P (heapy Hn) f ops i) 1 = false := h
            rw [hci] at h'; cases h'
          · exact h
        · dsimp only at e
          rw [e] at d13
          simp at d13
      · cases h
    · cases h
theorem readsOk_iff {ins : Nat → Ins} {cls ms : Nat → Nat} {n : Nat} (h : readsOk ins cls ms n = true) : ∀ i j t, i < n → j < n → cls i ≠ 3 → cls j ≠ 2 → (ins j).dst = some t → t ∈ (ins i).slots → (ms i).testBit j = true ∧ (cls i = 2 ∨ cls j ≠ 3) := by
  intro i j t hi hj hci hcj hd ht
  have := allN_iff.1 h i (List.mem_filter.2 ⟨List.mem_range.2 hi, nbeq hci⟩)
  have := allN_iff.1 this j (List.mem_filter.2 ⟨List.mem_range.2 hj, nbeq hcj⟩)
  rw [hd] at this
  simp only [memN_iff.2 ht, Bool.not_true, Bool.false_or, Bool.and_eq_true, Bool.or_eq_true] at this
  refine ⟨this.1, ?_⟩
  rcases this.2 with h | h
  · exact .inl (Nat.eq_of_beq_eq_true h)
  · refine .inr fun e => ?_
    rw [e] at h; simp at h
theorem stat_any {f : Nat} {ops : Array Oper} {ms : Nat → Nat} {sw : Nat → Prop} {l : List Stage} {ms' : Nat → Nat} (hf : DrawFacts (insOf P H2 f ops) (clsOf P H2 f ops) ms' ops.size l) (hl : lowEdges ops.toList 0 = true)
    (hms : ∀ i, ¬ sw i → ms i = msOf ops i) (hsub : ∀ i j, (msOf ops i).testBit j = true → (ms i).testBit j = true)
    (hr : ∀ i j t, i < ops.size → j < ops.size → clsOf P H2 f ops i ≠ 3 → clsOf P H2 f ops j ≠ 2 → (insOf P H2 f ops j).dst = some t → t ∈ (insOf P H2 f ops i).slots → (ms i).testBit j = true ∧ (clsOf P H2 f ops i = 2 ∨ clsOf P H2 f ops j ≠ 3)) :
    Stat P H2 f ops (insOf P H2 f ops) (clsOf P H2 f ops) ms sw := by
  have hget : ∀ i, i < ops.size → ops[i]? = some ops[i]! := fun i hi => by simp [hi]
  refine ⟨fun i o _ h => insOf_eq h, fun i hi hc => ?_, fun i hi hc => ?_, fun i => ?_, fun i o j hnsw ho hb => ?_, fun i j d hi hj hci hcj h1 h2 => ?_, fun e i d he hi hce hci h1 h2 => ?_, hr, hf.loc, fun i hc => clsOf_lt hc, fun i o ho e he hb => ?_⟩
  · rw [clsOf_eq (hget i hi)] at hc ⊢
    exact insCls_low hc
  · rw [clsOf_eq (hget i hi)] at hc
    exact insCls_alc hc
  · by_cases hi : i < ops.size
    · have := insCls_le (o := ops[i]!) (i := insOf P H2 f ops i)
      rw [clsOf_eq (hget i hi)]
      omega
    · by_cases hc : clsOf P H2 f ops i = 2
      · omega
      · exact absurd (clsOf_lt hc) hi
  · rw [hms i hnsw] at hb
    obtain ⟨e, he, hbe, h⟩ := mask_edge (ops := ops.toList) (by rw [Array.getElem?_toList]; exact ho) hb
    refine ⟨e, Array.mem_toList_iff.1 he, hbe, ?_⟩
    rcases h with h | h
    · exact .inl h
    · exact .inr (hsub _ _ h)
  · refine dstL_inj hf.nodup i ?_ j ?_ h1 h2 (List.Pairwise.filter _ List.nodup_range)
    · exact List.mem_filter.2 ⟨List.mem_range.2 hi, nbeq hci⟩
    · exact List.mem_filter.2 ⟨List.mem_range.2 hj, nbeq hcj⟩
  · exact hf.effD d (mem_dstL.2 ⟨e, List.mem_filter.2 ⟨List.mem_range.2 he, by simpa using hce⟩, h1⟩) (mem_dstL.2 ⟨i, List.mem_filter.2 ⟨List.mem_range.2 hi, nbeq hci⟩, h2⟩)
  · have := lowEdges_get hl i o (by rw [Array.getElem?_toList]; exact ho) e he hb
    omega
/-- A region that ends in two stores that may come in either order. -/
theorem draws_sw (hmix : P.follows .mixedOrders = true) (hidle : ∀ q ∈ Hn.idle, IdleF P q) {ih : Ih} (h0 : Snd P Hn ih) {f id : Nat} {ops : Array Oper} {sp : Swap} (hp : planSw P Hn f ops = some sp) {fr : List V} {lo : Lo} {σ : H} {w : World} {g : G} {β : Nat → Option Nat} {A : Act} {B0 : Nat} {ro : Option Nat}
    (hro : ro.isSome = true → noDefer ops = true) (hsc : Sc P (cCode P Hn) B0 g β σ lo fr A w)
    (hout : runIs ih (flatten (insOf P (heapy Hn) f ops) sp.l ++ [.chk none sp.p2 (.neqId (.tmp sp.p2) (.tmp sp.p1))]) fr lo σ ≠ .fail) :
    (Code.region id ops true).wpIn (Fw ro) 0 P (PostC P (cCode P Hn) B0 g β σ w (runIs ih (flatten (insOf P (heapy Hn) f ops) sp.l ++ [.chk none sp.p2 (.neqId (.tmp sp.p2) (.tmp sp.p1))]) fr lo σ)) A w := by
  obtain ⟨hfa, h2, h3⟩ := planSw_some hp
  rw [runIs_append] at hout ⊢
  obtain ⟨F1, l1, σ1, hnorm⟩ : ∃ F l s, runIs ih (flatten (insOf P (heapy Hn) f ops) sp.l) fr lo σ = .norm F l s := by
    cases hq : runIs ih (flatten (insOf P (heapy Hn) f ops) sp.l) fr lo σ with
    | norm a b c => exact ⟨a, b, c, rfl⟩
    | _ => rw [hq] at hout; exact absurd rfl hout
  have hck : chkOp sp.p2 (.neqId (.tmp sp.p2) (.tmp sp.p1)) F1 l1 σ1 = true := by
    rw [hnorm] at hout
    have e1 : kRun (runIs ih [.chk none sp.p2 (.neqId (.tmp sp.p2) (.tmp sp.p1))]) (.norm F1 l1 σ1) = bif chkOp sp.p2 (.neqId (.tmp sp.p2) (.tmp sp.p1)) F1 l1 σ1 then .norm F1 l1 σ1 else .fail := rfl
    rw [e1] at hout
    cases hc : chkOp sp.p2 (.neqId (.tmp sp.p2) (.tmp sp.p1)) F1 l1 σ1 with
    | true => rfl
    | false => rw [hc] at hout; exact absurd rfl hout
  have hsame : kRun (runIs ih [.chk none sp.p2 (.neqId (.tmp sp.p2) (.tmp sp.p1))]) (runIs ih (flatten (insOf P (heapy Hn) f ops) sp.l) fr lo σ) = runIs ih (flatten (insOf P (heapy Hn) f ops) sp.l) fr lo σ := by
    rw [hnorm]
    have e1 : kRun (runIs ih [.chk none sp.p2 (.neqId (.tmp sp.p2) (.tmp sp.p1))]) (.norm F1 l1 σ1) = bif chkOp sp.p2 (.neqId (.tmp sp.p2) (.tmp sp.p1)) F1 l1 σ1 then .norm F1 l1 σ1 else .fail := rfl
    rw [e1, hck]; rfl
  rw [hsame] at hout ⊢
  have hf := drawOk_facts hfa.draw
  have hs' : Stat P (heapy Hn) f ops (insOf P (heapy Hn) f ops) (clsOf P (heapy Hn) f ops) (msSw (msOf ops) sp.e1 sp.e2) (fun j => j = sp.e2) := stat_any hf h2 (fun i hi => msSw_ne hi) (fun i j h => msSw_sub h) hf.reads
  have hs : Stat P (heapy Hn) f ops (insOf P (heapy Hn) f ops) (clsOf P (heapy Hn) f ops) (msOf ops) (fun _ => False) := stat_any hf h2 (fun _ _ => rfl) (fun _ _ h => h) (readsOk_iff hfa.reads)
  have hswf : SwF (insOf P (heapy Hn) f ops) (clsOf P (heapy Hn) f ops) (msOf ops) ops.size sp.e1 sp.e2 sp.p1 sp.p2 (runIs ih (flatten (insOf P (heapy Hn) f ops) sp.l) fr lo σ) :=
    ⟨storeAt_eq hfa.i1, storeAt_eq hfa.i2, hfa.lt1, hfa.lt2, hfa.ne, hfa.nb, hfa.c1, hfa.c2, hfa.oth, hfa.one, fun F l s he => by
      rw [hnorm] at he
      cases he
      exact neqId_ok hck⟩
  have hsi0 := hfa.stages
  refine wpIn_region_any hmix ?_
  cases hpl : sp.l with
  | nil => exact absurd hpl h3
  | cons s rest =>
  rw [hpl] at hf hout hswf hsi0
  obtain ⟨hso, hok⟩ := stagesOk_cons hf.stages
  have hnd : ∀ i, i < ops.size → ¬ done (Array.replicate ops.size false) i := fun i hi h => by
    unfold done at h
    simp [Array.getD, hi] at h
  have hnd' : ∀ i, clsOf P (heapy Hn) f ops i ≠ 2 → ¬ done (Array.replicate ops.size false) i := fun i hc => hnd i (hs.clsLt i hc)
  have hcore : Core P Hn ops (insOf P (heapy Hn) f ops) (clsOf P (heapy Hn) f ops) (msSw (msOf ops) sp.e1 sp.e2) B0 g β σ w [] lo σ fr (Array.replicate ops.size false) A { w with drawn := w.drawn + 1 } g β fr (fun _ => 0) := by
    refine ⟨by simp, fun j hj hd => absurd hd (hnd j hj), hsc.drawn, .drawn, rfl, fun t => .inl rfl, fun a ha => by simp at ha, fun a d z ha _ hd => absurd hd (hnd a ha), fun a a' ha _ _ _ hd => absurd hd (hnd a ha)⟩
  have hout2 : ∀ e ∈ effAll (s :: rest), e < ops.size := fun e he => by
    simp only [effAll, List.flatMap_cons, List.mem_append] at he
    rcases he with he | he
    · exact (hso.cur.effOk e (by simpa [Option.mem_toList] using he)).2.1
    · exact (later_mask rest hok e he).2.1
  obtain ⟨Gr', k1, k2, k3⟩ := enter (n := ops.size) (aL := aList _ ops.size) hout hs' hso hok hcore rfl (fun i hi => by simp [survOf] at hi) (fun i hi => by simp [survOf] at hi) (fun i hi => hnd' i (by have := (hso.pre i hi).1; omega))
    (fun i h1 h2 _ => .inr (by rcases hf.cover i h1 with h | h | h <;> first | exact h.2 | omega)) (fun e he => hnd e (hout2 e he)) (fun e h1 h2 _ => by rcases hf.cover e h1 with h | h | h <;> first | exact h.2 | omega) rfl
  have hsi : SwI sp.e1 sp.e2 s.als s.eff rest := SwI.next (als := []) (eff := none) ⟨fun h => (by cases h), hsi0⟩
  refine loop_sw (H2 := heapy Hn) (f := f) hout ⟨h0.call, h0.app, hidle, h0.loc, hro⟩ hs' hs hswf ops.size ?_ ⟨k1, k3, hso.cur, hok, k2⟩ hsi
  unfold undone
  exact Nat.le_trans (List.length_filter_le _ _) (by simp)

/-- A region that draws does as its Vx form says. -/
theorem draws_ok (hmix : P.follows .mixedOrders = true) (hidle : ∀ q ∈ Hn.idle, IdleF P q) {ih : Ih} (h0 : Snd P Hn ih) (l : List Ins) (fr : List V) (lo : Lo) (σ : H) : DrawsOk P Hn l fr lo σ (runIs ih l fr lo σ) := by
  intro f id ops ro B0 g β A w hc hro hsc hout
  have hcd : cDraw P Hn f ops = l := by
    have : (VCode.draw (cDraw P Hn f ops)) = .draw l := by rw [← hc]; rfl
    injection this
  cases hp : planOf P Hn f ops with
  | none =>
    cases hp2 : planSw P Hn f ops with
    | none =>
      have : l = [.op none .bad] := by rw [← hcd]; unfold cDraw; rw [hp, hp2]
      subst this
      exact absurd rfl hout
    | some sp =>
      have hfl : l = flatten (insOf P (heapy Hn) f ops) sp.l ++ [.chk none sp.p2 (.neqId (.tmp sp.p2) (.tmp sp.p1))] := by rw [← hcd]; unfold cDraw; rw [hp, hp2]; rfl
      subst hfl
      exact draws_sw hmix hidle h0 hp2 hro hsc hout
  | some pl =>
  have hfl : l = flatten (insOf P (heapy Hn) f ops) pl := by rw [← hcd]; unfold cDraw; rw [hp]; rfl
  subst hfl
  obtain ⟨h1, h2, h3⟩ := planOf_some hp
  have hf := drawOk_facts h1
  have hs := stat_of hf h2
  refine wpIn_region_any hmix ?_
  cases pl with
  | nil => exact absurd rfl h3
  | cons s rest =>
  obtain ⟨hso, hok⟩ := stagesOk_cons hf.stages
  have hnd : ∀ i, i < ops.size → ¬ done (Array.replicate ops.size false) i := fun i hi h => by
    unfold done at h
    simp [Array.getD, hi] at h
  have hnd' : ∀ i, clsOf P (heapy Hn) f ops i ≠ 2 → ¬ done (Array.replicate ops.size false) i := fun i hc => hnd i (hs.clsLt i hc)
  have hcore : Core P Hn ops (insOf P (heapy Hn) f ops) (clsOf P (heapy Hn) f ops) (msOf ops) B0 g β σ w [] lo σ fr (Array.replicate ops.size false) A { w with drawn := w.drawn + 1 } g β fr (fun _ => 0) := by
    refine ⟨by simp, fun j hj hd => absurd hd (hnd j hj), hsc.drawn, .drawn, rfl, fun t => .inl rfl, fun a ha => by simp at ha, fun a d z ha _ hd => absurd hd (hnd a ha), fun a a' ha _ _ _ hd => absurd hd (hnd a ha)⟩
  have hout2 : ∀ e ∈ effAll (s :: rest), e < ops.size := fun e he => by
    simp only [effAll, List.flatMap_cons, List.mem_append] at he
    rcases he with he | he
    · exact (hso.cur.effOk e (by simpa [Option.mem_toList] using he)).2.1
    · exact (later_mask rest hok e he).2.1
  obtain ⟨Gr', k1, k2, k3⟩ := enter (n := ops.size) (aL := aList _ ops.size) hout hs hso hok hcore rfl (fun i hi => by simp [survOf] at hi) (fun i hi => by simp [survOf] at hi) (fun i hi => hnd' i (by have := (hso.pre i hi).1; omega))
    (fun i h1 h2 _ => .inr (by rcases hf.cover i h1 with h | h | h <;> first | exact h.2 | omega)) (fun e he => hnd e (hout2 e he)) (fun e h1 h2 _ => by rcases hf.cover e h1 with h | h | h <;> first | exact h.2 | omega) rfl
  refine loop_ok (H2 := heapy Hn) (f := f) (sw := fun _ => False) (fun _ h => h) hout ⟨h0.call, h0.app, hidle, h0.loc, hro⟩ hs ops.size ?_ ⟨k1, k3, hso.cur, hok, k2⟩
  unfold undone
  exact Nat.le_trans (List.length_filter_le _ _) (by simp)

theorem snd_all {fns : Nat → Option VFunc} (hmix : P.follows .mixedOrders = true) (hfns : ∀ f vf, fns f = some vf → cFunc P Hn f = some vf) (hext : ∀ f vf, fns f = some vf → vf.ext ≠ 0 → ExtOk P Hn f vf) (hidle : ∀ q ∈ Hn.idle, IdleF P q) : ∀ n, Snd P Hn (runF fns n) :=
  snd_run hfns hext hidle fun ih h0 l fr lo σ => draws_ok hmix hidle h0 l fr lo σ
end Go.Vx
end
noncomputable section
open Go Go.RowKit
namespace Go.Vx
variable {P : Program} {Hn H2 : Hints} {comp : FuncId → Code → VCode} {g g' g'' : G} {σ σ' σ'' : H} {w w' w'' : World} {β β' β'' : Nat → Option Nat} {lo lo' : Lo} {fr fr' F F' : List V} {A A' : Act} {B0 : Nat} {ro : Option Nat}

/-! ### Calls whose answer hangs on no heap -/
mutual
def flatV : V → Bool
  | .hptr _ _ => false
  | .hsl _ _ _ _ _ => false
  | .map _ => false
  | .func (.func _) a b => flatVs a && flatVs b
  | .func _ _ _ => false
  | .iface _ v => flatV v
  | .agg cs => flatVs cs
  | .tuple cs => flatVs cs
  | .fptr cs => flatVs cs
  | .list xs _ => flatVs xs
  | _ => true
def flatVs : List V → Bool
  | [] => true
  | v :: vs => flatV v && flatVs vs
end

theorem flatVs_get : ∀ {l : List V} {i : Nat} {v : V}, flatVs l = true → l[i]? = some v → flatV v = true
  | [], i, v, _, h => by simp at h
  | x :: xs, i, v, hf, h => by
    simp only [flatVs, Bool.and_eq_true] at hf
    cases i with
    | zero => simp at h; subst h; exact hf.1
    | succ i => simp at h; exact flatVs_get hf.2 h

theorem flatV_cells {x c : V} {j : Nat} (h : flatV x = true) (hc : x.cells[j]? = some c) : flatV c = true := by
  have single : ∀ y : V, [y][j]? = some c → flatV y = true → flatV c = true := by
    intro y hy hf
    cases j with
    | zero => simp at hy; subst hy; exact hf
    | succ j => simp at hy
  cases x with
  | agg cs => exact flatVs_get (l := cs) (by simpa [flatV] using h) hc
  | _ => exact single _ hc h

theorem Rv.flat {v : V} {x : Value} (hφ : ∀ b o y, g.φ b o = some y → g'.φ b o = some y) (h : Rv g v x) : flatV v = true → Rv g' v x := by
  induction h with
  | undef w => intro _; exact .undef w
  | bool b => intro _; exact .bool b
  | int k n => intro _; exact .int k n
  | str bs => intro _; exact .str bs
  | nilPtr => intro _; exact .nilPtr
  | hptr off h => intro hf; simp [flatV] at hf
  | fptr vs h hr ih => intro hf; exact .fptr vs (fun j c e => hφ _ _ _ (h j c e)) fun j c e => ih j c e (flatVs_get (by simpa [flatV] using hf) e)
  | nilSl => intro _; exact .nilSl
  | list k vs hk hc he h hr ih => intro hf; exact .list k vs hk hc he (fun i x j c e e' => hφ _ _ _ (h i x j c e e')) fun i x j c e e' => ih i x j c e e' (flatV_cells (flatVs_get (by simpa [flatV] using hf) e) e')
  | hsl h hl hc hn => intro hf; simp [flatV] at hf
  | nilMap => intro _; exact .nilMap
  | map h => intro hf; simp [flatV] at hf
  | nilFunc => intro _; exact .nilFunc
  | func hf ha hb has hbs i1 i2 =>
    intro hfl
    cases hf with
    | yield h => simp [flatV] at hfl
    | func f =>
      simp only [flatV, Bool.and_eq_true] at hfl
      exact .func (.func f) ha hb (fun i v w a b => i1 i v w a b (flatVs_get hfl.1 a)) fun i v w a b => i2 i v w a b (flatVs_get hfl.2 a)
  | nilIface => intro _; exact .nilIface
  | iface t h ih => intro hf; exact .iface t (ih (by simpa [flatV] using hf))
  | agg hl h ih => intro hf; exact .agg hl fun i v w a b => ih i v w a b (flatVs_get (by simpa [flatV] using hf) a)
  | tuple hl h ih => intro hf; exact .tuple hl fun i v w a b => ih i v w a b (flatVs_get (by simpa [flatV] using hf) a)

def emp : H := ⟨0, .leaf⟩
theorem emp_get (i : Nat) : emp.get i = none := rfl
theorem emp_live {b : Nat} : ¬ Live g emp b := by rintro ⟨i, n, h, _⟩; rw [emp_get] at h; cases h

theorem ret_frame {v : V} {σ1 : H} {x : Value} (hv : flatV v = true) (hw : Rw P (cCode P Hn) g σ w) (h : RetOk P Hn ⟨fun _ => none, g.φ⟩ emp w v σ1 x w') : RetOk P Hn g σ w v σ x w' := by
  obtain ⟨g1, h1, h2, h3⟩ := h
  have hle : g.le ⟨g.ρ, g1.φ⟩ := ⟨fun _ _ h => h, h3.le.φ⟩
  refine ⟨⟨g.ρ, g1.φ⟩, Rv.flat (g := g1) (fun _ _ _ h => h) h1 hv, ⟨h2.frozen, fun i ob hi => ?_, hw.inj, hw.fresh, fun i b n h => Nat.lt_of_lt_of_le (hw.bound i b n h) h3.frm.size⟩, ⟨hle, ⟨h3.frm.os, h3.frm.tape, h3.frm.output, h3.frm.size, fun k hk hl hb hp => ?_⟩, fun b hb _ => hb, fun t b h => (by cases h), fun b hb hp hl => ?_⟩⟩
  · obtain ⟨b, n, k1, k2, k3⟩ := hw.objs i ob hi
    have hlt := hw.bound i b n k1
    exact ⟨b, n, k1, k2.mono hle (h3.frm.block b hlt emp_live (by rintro ⟨t, h⟩; cases h) k3), h3.phi b hlt k3 emp_live⟩
  · exact h3.frm.block k hk emp_live (by rintro ⟨t, h⟩; cases h) hp
  · exact h3.phi b hb hp emp_live

/-- A call that was run upon an empty heap: its answer is the same upon any. -/
theorem call_frame {f : FuncId} {args : List V} {v : V} {σ1 : H} (hc : CallOk P Hn f args emp (.val v σ1)) (ha : flatVs args = true) (hv : flatV v = true) (σ : H) : CallOk P Hn f args σ (.val v σ) := by
  intro g As w v' σ' hargs hw e
  cases e
  have ha' : Rvs ⟨fun _ => none, g.φ⟩ args As.toList := ⟨hargs.1, fun i v w a b => Rv.flat (g := g) (fun _ _ _ h => h) (hargs.2 i v w a b) (flatVs_get ha a)⟩
  have hw' : Rw P (cCode P Hn) ⟨fun _ => none, g.φ⟩ emp w := ⟨hw.frozen, fun i ob h => (by rw [emp_get] at h; cases h), fun i j b n m h => (by rw [emp_get] at h; cases h), fun i _ => ⟨rfl, rfl⟩, fun i b n h => (by cases h)⟩
  rcases hc ⟨fun _ => none, g.φ⟩ As w v σ1 ha' hw' rfl with ⟨h1, h2⟩ | ⟨h1, x, w', h2, h3⟩
  · exact .inl ⟨h1, CallsIn.mono h2 fun e w' he => by cases e <;> first | exact ret_frame hv hw he | exact he.elim⟩
  · exact .inr ⟨h1, x, w', h2, ret_frame hv hw h3⟩

/-! ### Runs that know some answers -/
def fpN : List Nat → Nat
  | [] => 1
  | n :: ns => (n + 1009 * fpN ns) % 2305843009213693951
mutual
def fpVc : V → Nat
  | .undef => 1
  | .bool b => bif b then 2 else 3
  | .int _ (.ofNat n) => 5 + 16 * n
  | .int _ (.negSucc n) => 6 + 16 * n
  | .str s => 7 + 16 * fpN s
  | .nilPtr => 8
  | .fptr cs => 9 + 16 * fpVsc cs
  | .nilSl => 10
  | .list xs _ => 11 + 16 * fpVsc xs
  | .nilMap => 12
  | .nilFunc => 13
  | .nilIface => 14
  | .iface t v => 15 + 16 * (t + 64 * fpVc v)
  | .agg cs => 4 + 16 * fpVsc cs
  | .tuple cs => 0 + 16 * fpVsc cs
  | _ => 1
def fpVsc : List V → Nat
  | [] => 1
  | v :: vs => (fpVc v + 1000003 * fpVsc vs) % 2305843009213693951
end
/-- A number that tells values apart, mostly. By the recursors: the kernel has fewer steps to take. -/
def fpVs (l : List V) : Nat := V.rec_1 (motive_1 := fun _ => Nat) (motive_2 := fun _ => Nat)
  1 (fun b => bif b then 2 else 3) (fun _ n => match n with | .ofNat n => 5 + 16 * n | .negSucc n => 6 + 16 * n) (fun s => 7 + 16 * fpN s) 8 (fun _ _ => 1) (fun _ _ => 1) (fun _ ih => 9 + 16 * ih) 10 (fun _ _ ih => 11 + 16 * ih) (fun _ _ _ _ _ => 1)
  12 (fun _ => 1) 13 (fun _ _ _ _ _ => 1) 14 (fun t _ ih => 15 + 16 * (t + 64 * ih)) (fun _ ih => 4 + 16 * ih) (fun _ ih => 16 * ih) 1 (fun _ _ ihv ihl => (ihv + 1000003 * ihl) % 2305843009213693951) l
/-- Equality, by the recursors. -/
noncomputable def eqKV (l : V) : V → Bool := V.rec (motive_1 := fun _ => V → Bool) (motive_2 := fun _ => List V → Bool)
  (fun y => match y with | .undef => true | _ => false)
  (fun a y => match y with | .bool b => (bif a then b else !b) | _ => false)
  (fun k a y => match y with | .int l b => eqK k l && eqI a b | _ => false)
  (fun a y => match y with | .str b => bytesEq a b | _ => false)
  (fun y => match y with | .nilPtr => true | _ => false)
  (fun a b y => match y with | .lptr c d => Nat.beq a c && Nat.beq b d | _ => false)
  (fun a b y => match y with | .hptr c d => Nat.beq a c && Nat.beq b d | _ => false)
  (fun _ ih y => match y with | .fptr b => ih b | _ => false)
  (fun y => match y with | .nilSl => true | _ => false)
  (fun _ x ih y => match y with | .list b z => (bif x then z else !z) && ih b | _ => false)
  (fun a b c x d y => match y with | .hsl a' b' c' x' d' => Nat.beq a a' && Nat.beq b b' && Nat.beq c c' && Nat.beq d d' && eqO x x' | _ => false)
  (fun y => match y with | .nilMap => true | _ => false)
  (fun a y => match y with | .map b => Nat.beq a b | _ => false)
  (fun y => match y with | .nilFunc => true | _ => false)
  (fun fn _ _ iha ihb y => match fn, y with | .func f, .func (.func g) c d => Nat.beq f g && iha c && ihb d | _, _ => false)
  (fun y => match y with | .nilIface => true | _ => false)
  (fun t _ ih y => match y with | .iface u b => Nat.beq t u && ih b | _ => false)
  (fun _ ih y => match y with | .agg b => ih b | _ => false)
  (fun _ ih y => match y with | .tuple b => ih b | _ => false)
  (fun ys => match ys with | [] => true | _ :: _ => false)
  (fun _ _ ihv ihl ys => match ys with | [] => false | y :: ys => bif ihv y then ihl ys else false) l
noncomputable def eqKs (l : List V) : List V → Bool := V.rec_1 (motive_1 := fun _ => V → Bool) (motive_2 := fun _ => List V → Bool)
  (fun y => match y with | .undef => true | _ => false)
  (fun a y => match y with | .bool b => (bif a then b else !b) | _ => false)
  (fun k a y => match y with | .int l b => eqK k l && eqI a b | _ => false)
  (fun a y => match y with | .str b => bytesEq a b | _ => false)
  (fun y => match y with | .nilPtr => true | _ => false)
  (fun a b y => match y with | .lptr c d => Nat.beq a c && Nat.beq b d | _ => false)
  (fun a b y => match y with | .hptr c d => Nat.beq a c && Nat.beq b d | _ => false)
  (fun _ ih y => match y with | .fptr b => ih b | _ => false)
  (fun y => match y with | .nilSl => true | _ => false)
  (fun _ x ih y => match y with | .list b z => (bif x then z else !z) && ih b | _ => false)
  (fun a b c x d y => match y with | .hsl a' b' c' x' d' => Nat.beq a a' && Nat.beq b b' && Nat.beq c c' && Nat.beq d d' && eqO x x' | _ => false)
  (fun y => match y with | .nilMap => true | _ => false)
  (fun a y => match y with | .map b => Nat.beq a b | _ => false)
  (fun y => match y with | .nilFunc => true | _ => false)
  (fun fn _ _ iha ihb y => match fn, y with | .func f, .func (.func g) c d => Nat.beq f g && iha c && ihb d | _, _ => false)
  (fun y => match y with | .nilIface => true | _ => false)
  (fun t _ ih y => match y with | .iface u b => Nat.beq t u && ih b | _ => false)
  (fun _ ih y => match y with | .agg b => ih b | _ => false)
  (fun _ ih y => match y with | .tuple b => ih b | _ => false)
  (fun ys => match ys with | [] => true | _ :: _ => false)
  (fun _ _ ihv ihl ys => match ys with | [] => false | y :: ys => bif ihv y then ihl ys else false) l
theorem eqKs_eq (l : List V) : ∀ b, eqKs l b = true → l = b := by
  refine V.rec_1 (motive_1 := fun v => ∀ y, eqKV v y = true → v = y) (motive_2 := fun l => ∀ y, eqKs l y = true → l = y) ?_ ?_ ?_ ?_ ?_ ?_ ?_ ?_ ?_ ?_ ?_ ?_ ?_ ?_ ?_ ?_ ?_ ?_ ?_ ?_ ?_ l
  · intro y h; cases y <;> first | rfl | cases h
  · intro a y h; cases y <;> first | (cases h; done) | skip
    rename_i b; cases a <;> cases b <;> first | rfl | cases h
  · intro k a y h; cases y <;> first | (cases h; done) | skip
    rename_i l b
    change (eqK k l && eqI a b) = true at h
    rw [eqK_eq, eqI_eq] at h
    simp at h
    rw [h.1, h.2]
  · intro a y h; cases y <;> first | (cases h; done) | skip
    rename_i b
    change bytesEq a b = true at h
    rw [bytesEq_eq] at h
    rw [beq_iff_eq.1 h]
  · intro y h; cases y <;> first | rfl | cases h
  · intro a b y h; cases y <;> first | (cases h; done) | skip
    rename_i c d
    change (Nat.beq a c && Nat.beq b d) = true at h
    simp at h; rw [h.1, h.2]
  · intro a b y h; cases y <;> first | (cases h; done) | skip
    rename_i c d
    change (Nat.beq a c && Nat.beq b d) = true at h
    simp at h; rw [h.1, h.2]
  · intro a ih y h; cases y <;> first | (cases h; done) | skip
    rename_i b; rw [ih b h]
  · intro y h; cases y <;> first | rfl | cases h
  · intro a x ih y h; cases y <;> first | (cases h; done) | skip
    rename_i b z
    change ((bif x then z else !z) && eqKs a b) = true at h
    simp only [Bool.and_eq_true] at h
    rw [ih b h.2]
    have : x = z := by cases x <;> cases z <;> simp_all
    rw [this]
  · intro a b c x d y h; cases y <;> first | (cases h; done) | skip
    rename_i a' b' c' x' d'
    change (Nat.beq a a' && Nat.beq b b' && Nat.beq c c' && Nat.beq d d' && eqO x x') = true at h
    simp only [Bool.and_eq_true, Nat.beq_eq] at h
    have h4 : x = x' := by cases x <;> cases x' <;> simp_all [eqO]
    rw [h.1.1.1.1, h.1.1.1.2, h.1.1.2, h.1.2, h4]
  · intro y h; cases y <;> first | rfl | cases h
  · intro a y h; cases y <;> first | (cases h; done) | skip
    rename_i b
    rw [Nat.eq_of_beq_eq_true (show Nat.beq a b = true from h)]
  · intro y h; cases y <;> first | rfl | cases h
  · intro fn a b iha ihb y h
    cases fn <;> cases y <;> first | (cases h; done) | skip
    rename_i f fn' c d
    cases fn' <;> first | (cases h; done) | skip
    rename_i g
    change (Nat.beq f g && eqKs a c && eqKs b d) = true at h
    simp only [Bool.and_eq_true, Nat.beq_eq] at h
    rw [h.1.1, iha c h.1.2, ihb d h.2]
  · intro y h; cases y <;> first | rfl | cases h
  · intro t a ih y h; cases y <;> first | (cases h; done) | skip
    rename_i u b
    change (Nat.beq t u && eqKV a b) = true at h
    simp only [Bool.and_eq_true, Nat.beq_eq] at h
    rw [h.1, ih b h.2]
  · intro a ih y h; cases y <;> first | (cases h; done) | skip
    rename_i b; rw [ih b h]
  · intro a ih y h; cases y <;> first | (cases h; done) | skip
    rename_i b; rw [ih b h]
  · intro y h; cases y <;> first | rfl | cases h
  · intro a l iha ihl y h; cases y <;> first | (cases h; done) | skip
    rename_i b m
    change (bif eqKV a b then eqKs l m else false) = true at h
    cases hq : eqKV a b with
    | false => rw [hq] at h; cases h
    | true => rw [hq] at h; rw [iha b hq, ihl m h]
/-- For each function: the arguments' number, the arguments, and what comes back. -/
abbrev Memo := Nat → List (Nat × List V × V)
noncomputable def recall (k : Nat) : List (Nat × List V × V) → List V → Option V
  | [], _ => none
  | (p, a, v) :: r, args => bif eqKs a args then some v else recall k r args
noncomputable def stepM (mm : Memo) (fns : Nat → Option VFunc) (ih : Ih) (c : Cmd) : List V → Lo → H → Out := match c with
  | .call f args => fun _ _ h => match recall (fpVs args) (mm f) args with
    | some v => .val v h
    | none => stCall fns ih f args h
  | c => step fns ih c
noncomputable def runM (mm : Memo) (fns : Nat → Option VFunc) (n : Nat) : Ih := Nat.rec (motive := fun _ => Ih) (fun _ _ _ _ => .fail) (fun _ ih => stepM mm fns ih) n

def MemoOk (P : Program) (Hn : Hints) (mm : Memo) : Prop := ∀ f k args v, (k, args, v) ∈ mm f → ∀ σ, CallOk P Hn f args σ (.val v σ)

theorem recall_mem {k : Nat} : ∀ {l : List (Nat × List V × V)} {args : List V} {v : V}, recall k l args = some v → ∃ p, (p, args, v) ∈ l
  | [], _, _, h => by cases h
  | (p, a, u) :: r, args, v, h => by
    have next : recall k r args = some v → ∃ q, (q, args, v) ∈ (p, a, u) :: r := fun h => let ⟨q, hq⟩ := recall_mem h; ⟨q, List.mem_cons_of_mem _ hq⟩
    simp only [recall] at h
    cases he : eqKs a args with
    | true =>
      rw [he] at h
      simp only [cond_true, Option.some.injEq] at h
      subst h
      rw [eqKs_eq _ _ he]
      exact ⟨p, List.mem_cons_self⟩
    | false => rw [he] at h; exact next h

theorem snd_stepM {ih : Ih} {mm : Memo} {fns : Nat → Option VFunc} (hmix : P.follows .mixedOrders = true) (hmm : MemoOk P Hn mm) (hfns : ∀ f vf, fns f = some vf → cFunc P Hn f = some vf) (hext : ∀ f vf, fns f = some vf → vf.ext ≠ 0 → ExtOk P Hn f vf) (hidle : ∀ q ∈ Hn.idle, IdleF P q)
    (h0 : Snd P Hn ih) : Snd P Hn (stepM mm fns ih) :=
  have h1 := snd_step hfns hext hidle (fun ih h0 l fr lo σ => draws_ok hmix hidle h0 l fr lo σ) h0
  { code := h1.code, ops := h1.ops, draws := h1.draws, app := h1.app, scope := h1.scope, loc := h1.loc, bad := h1.bad
    call := fun f args σ => by
      simp only [stepM]
      cases hr : recall (fpVs args) (mm f) args with
      | none => exact h1.call f args σ
      | some v => obtain ⟨p, hp⟩ := recall_mem hr; exact hmm f p args v hp σ }

theorem snd_runM {mm : Memo} {fns : Nat → Option VFunc} (hmix : P.follows .mixedOrders = true) (hmm : MemoOk P Hn mm) (hfns : ∀ f vf, fns f = some vf → cFunc P Hn f = some vf) (hext : ∀ f vf, fns f = some vf → vf.ext ≠ 0 → ExtOk P Hn f vf) (hidle : ∀ q ∈ Hn.idle, IdleF P q) : ∀ n, Snd P Hn (runM mm fns n)
  | 0 => { code := by intro vc fr lo σ f c ro B0 g β A w hc hfl hsc hne; exact absurd rfl hne
           ops := by intro l fr lo σ f ops idx ro B0 g β A w hl hro hsc hne; exact absurd rfl hne
           draws := by intro l fr lo σ f id ops ro B0 g β A w hc hro hsc hne; exact absurd rfl hne
           call := by intro f args σ g As w v σ' ha hw e; cases e
           app := by intro fv args σ g X As w v σ' hf ha hw e; cases e
           scope := by intro vc vr fr lo σ f c r ro B0 g β A w hc hr hfc hfr hsc hne; exact absurd rfl hne
           loc := fun _ _ _ _ => rfl
           bad := fun _ _ _ => rfl }
  | n + 1 => snd_stepM hmix hmm hfns hext hidle (snd_runM hmix hmm hfns hext hidle n)

/-- One more answer. -/
theorem memo_of {mm : Memo} {fns : Nat → Option VFunc} (hs : ∀ n, Snd P Hn (runM mm fns n)) {n : Nat} {f : FuncId} {args : List V} {v : V} (h : (match runM mm fns n (.call f args) [] [] emp with | .val u _ => eqKV u v | _ => false) = true) (ha : flatVs args = true) (hv : flatV v = true) (σ : H) : CallOk P Hn f args σ (.val v σ) := by
  have hc := (hs n).call f args emp
  cases ho : runM mm fns n (.call f args) [] [] emp with
  | val u σ1 =>
    rw [ho] at h hc
    have h2 : eqKs [u] [v] = true := by
      have h3 : eqKV u v = true := h
      change (bif eqKV u v then true else false) = true
      rw [h3]; rfl
    have := (List.cons.inj (eqKs_eq _ _ h2)).1
    subst this
    exact call_frame hc ha hv σ
  | _ => rw [ho] at h; cases h
end Go.Vx
end
