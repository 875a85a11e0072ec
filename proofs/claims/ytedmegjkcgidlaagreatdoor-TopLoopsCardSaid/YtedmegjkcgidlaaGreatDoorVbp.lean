/- A part of the proof of TopLoops: VxTyA, VxTyC, VxDrawL, VxTyB. -/
import Derived.KernelRfl
import Derived.Test.YtedmegjkcgidlaaGreatDoorVaf
import Derived.Test.YtedmegjkcgidlaaGreatDoorVbo
set_option linter.all false
set_option linter.unusedVariables false
set_option linter.unusedSimpArgs false
noncomputable section
open Go Go.RowKit Go.Proofs
namespace Go.Vx.Tab
set_option maxRecDepth 1000000
/-! ### The pieces of run.Types -/
noncomputable def lft : Code → Code | .seq a _ => a | c => c
noncomputable def rgt : Code → Code | .seq _ b => b | c => c
noncomputable def bdy : Code → Code | .block _ c => c | .loop c => c | c => c
noncomputable def body7 : Code := (Tryz.f7.body).getD .skip
noncomputable def dd (n : Nat) : Code := Nat.rec body7 (fun _ c => rgt c) n
noncomputable def c0 := lft (dd 0)
noncomputable def c1 := lft (dd 1)
noncomputable def cA2 := lft (dd 2)
noncomputable def c4 := lft (dd 3)
noncomputable def cA5 := lft (dd 4)
noncomputable def c7 := lft (dd 5)
noncomputable def c8 := lft (lft (dd 6))
noncomputable def cL := bdy (bdy (rgt (lft (dd 6))))
noncomputable def c9 := lft cL
noncomputable def cB := lft (rgt (rgt cL))
noncomputable def c10 := lft (bdy cB)
noncomputable def c11 := rgt (bdy cB)
noncomputable def c12 := rgt (rgt (rgt cL))
noncomputable def c13 := lft (dd 7)
noncomputable def opsOf : Code → Array Oper | .region _ o _ => o | _ => #[]
theorem body_eq : Tryz.f7.body = some (.seq c0 (.seq c1 (.seq cA2 (.seq c4 (.seq cA5 (.seq c7 (.seq (.seq c8 (.block 0 (.loop (.seq c9 (.seq (.cond (.tmp 36) .skip (.exit 0)) (.seq (.block 1 (.seq c10 c11)) c12)))))) (.seq c13 .ret)))))))) := by kernel_rfl

def aT : List V := [M [b 109,b 97,b 105,b 110,b 32,b 61,b 32,b 112,b 114,b 105,b 110,b 116,b 32,b 49,b 10]]
def rT : V := U [S [109,97,105,110,58,32,73,79,32,85,110,105,116,10],A [j 0,j 0],j 0]
noncomputable abbrev vc (c : Code) : VCode := cCode Tryz.prog Hn0 7 c
noncomputable def lB : List (Nat × List V × V) := [(8, a179, r179), (15, a118, r118), (17, a149, r149)]
theorem allB : AllA lB := ⟨ok179, ok118, ok149, trivial⟩
noncomputable def ihB : Ih := runM (mOf lB) fns 1000
theorem sndB : Snd Tryz.prog Hn0 ihB := snd_memo (fun f k a v hm σ => AllA.mem allB _ (mOf_mem hm) σ) _
noncomputable def frOf : Out → List V := Out.rec [] (fun f _ _ => f) (fun _ f _ _ => f) (fun _ _ => [])
noncomputable def loOf : Out → Lo := Out.rec [] (fun _ l _ => l) (fun _ _ l _ => l) (fun _ _ => [])
noncomputable def hpOf : Out → H := Out.rec emp (fun _ _ h => h) (fun _ _ _ h => h) (fun _ h => h)
noncomputable def isNm : Out → Bool := Out.rec false (fun _ _ _ => true) (fun _ _ _ _ => false) (fun _ _ => false)
theorem norm_of {o : Out} (h : isNm o = true) : o = .norm (frOf o) (loOf o) (hpOf o) := by cases o <;> first | rfl | cases h
noncomputable def o0 : Out := ihB (.code (vc c0)) (pad 52 aT) [] emp
theorem o0_n : isNm o0 = true := by decide +kernel
noncomputable def o1 : Out := ihB (.code (vc c1)) (frOf o0) (loOf o0) (hpOf o0)
theorem o1_n : isNm o1 = true := by decide +kernel
noncomputable def o2 : Out := ihB (.code (vc cA2)) (frOf o1) (loOf o1) (hpOf o1)
theorem o2_n : isNm o2 = true := by decide +kernel
noncomputable def o4 : Out := ihB (.code (vc c4)) (frOf o2) (loOf o2) (hpOf o2)
theorem o4_n : isNm o4 = true := by decide +kernel
noncomputable def oP : Out := ihB (.code (vc cA5)) (frOf o4) (loOf o4) (hpOf o4)
theorem oP_n : isNm oP = true := by decide +kernel
theorem oP_h : (hpOf oP).next = 0 := by decide +kernel
theorem oP_l : (frOf oP).length = 52 := by decide +kernel
noncomputable def v8 : V := lget (frOf oP) 8
theorem v8_l : (match v8 with | .lptr _ _ => false | _ => true) = true := by kernel_rfl
theorem oP_3b : loGet (loOf oP) 3 = some [.int .i64 0, .int .i64 0] := by kernel_rfl
theorem oP_3 : lget (frOf oP) 3 = .lptr 3 0 := by kernel_rfl
end Go.Vx.Tab
end
noncomputable section
open Go Go.RowKit
namespace Go.Vx
variable {P : Program} {Hn H2 : Hints} {comp : FuncId → Code → VCode} {g g' g'' : G} {σ σ' σ'' : H} {w w' w'' : World} {β β' β'' : Nat → Option Nat} {lo lo' : Lo} {fr fr' F F' : List V} {A A' : Act} {B0 : Nat} {ro : Option Nat}
/-! ### Operations that defer nothing -/
def NoDf (P : Program) (o : Oper) : Prop := ∀ (a : Act) (w : World) (d : Deferred) (w' : World), (execOp a.eval o).run P w ≠ .ok (.defer d) w'
theorem run_v {s : Sem Value} {d : Deferred} : ((do pure (.value (← s)) : Sem Next).run P w) ≠ .ok (.defer d) w' := by
  rw [Sem.run_bind]
  cases s.run P w with
  | ok x w1 => intro h; cases h
  | halt x w1 => intro h; cases h
theorem run_u {s : Sem Unit} {d : Deferred} : ((do s; pure .skip : Sem Next).run P w) ≠ .ok (.defer d) w' := by
  rw [Sem.run_bind]
  cases s.run P w with
  | ok x w1 => intro h; cases h
  | halt x w1 => intro h; cases h
theorem exec_call {o : Oper} {c : Call} {f : FuncId} (ho : o.op = .call c) (hc : c.callee = .value (.func f)) (a : Act) : (execOp a.eval o).run P w = (callFunc f (c.args.map a.eval)).run P w := by
  simp only [execOp, ho, resolve, hc, Act.eval, Deferred.ofValue]
  rw [Sem.run_bind]
  simp only [Sem.run_pure, Result.andThen, invoke, Array.append_empty, Array.empty_append]
  try rfl
def okOp (P : Program) (o : Oper) : Bool := match o.op with
  | .move _ | .assign _ | .alloc _ | .load _ _ | .store _ _ _ | .binOp _ _ _ _ _ | .fieldAddr _ _ _ | .indexAddr _ _ _ | .build _ _ | .extract _ _ => true
  | .call c => match c.callee with
    | .builtin .len => true
    | .value (.func f) => match P.funcs[f]? with
      | some fn => fn.body.isSome && fn.name != "runtime.NumGoroutine"
      | none => false
    | _ => false
  | _ => false
theorem noDf_of {o : Oper} (h : okOp P o = true) : NoDf P o := by
  intro a w d w' e
  unfold okOp at h
  split at h
  all_goals first
    | (rename_i x ho; simp only [execOp, ho] at e; exact run_v e)
    | (rename_i x y ho; simp only [execOp, ho] at e; exact run_v e)
    | (rename_i x y z ho; simp only [execOp, ho] at e; exact run_v e)
    | (rename_i x y z ho; simp only [execOp, ho] at e; exact run_u e)
    | (rename_i x y z u v ho; simp only [execOp, ho] at e; exact run_v e)
    | (rename_i x ho; simp only [execOp, ho, Sem.run_pure] at e; cases e)
    | cases h
    | skip
  rename_i c ho
  split at h
  · rename_i hc
    simp only [execOp, ho, resolve, hc] at e
    rw [Sem.run_bind] at e
    simp only [Sem.run_pure, Result.andThen, invoke, builtin] at e
    exact run_v e
  · rename_i f hc
    split at h
    · rename_i fn hf
      simp only [Bool.and_eq_true, bne_iff_ne, ne_eq] at h
      obtain ⟨b, hb⟩ := Option.isSome_iff_exists.1 h.1
      rw [exec_call ho hc, run_callFunc hf hb h.2] at e
      cases e
    · cases h
  · cases h

theorem op_defers {F : Fence} {n : Nat} {o : Oper} {K : Act → World → Prop} {Q : Exit → Act → World → Prop} (hd : NoDf P o) (hnd : ∀ c, o.op ≠ .defer c) (h : o.wpIn F n P A w K Q) : o.wpIn F n P A w (fun a' w' => K a' w' ∧ a'.defers = A.defers) Q := by
  unfold Oper.wpIn at *
  refine ⟨h.1, ?_⟩
  have hh := h.2
  have hse : (o.semAt F.round A.eval) = execOp A.eval o := Oper.semAt_eq _ _ _ hnd
  rw [hse] at hh ⊢
  have hn := hd A w
  generalize (execOp A.eval o).run P w = r at *
  cases r with
  | ok x w' =>
    cases x <;> simp only [Oper.uponIn] at hh ⊢ <;>
      first
        | exact ⟨hh, put_defers _ _ _⟩
        | exact absurd rfl (hn _ _)
        | exact ⟨hh.1, CallsIn.mono hh.2 (fun e w'' he => by cases e <;> first | exact ⟨he, put_defers _ _ _⟩ | exact he)⟩
        | exact ⟨hh.1, RowsIn.mono hh.2 (fun _ _ he => ⟨he, put_defers _ _ _⟩)⟩
        | exact ⟨hh.1, RoundIn.mono hh.2 (fun e w'' he => by cases e <;> first | exact ⟨he, put_defers _ _ _⟩ | exact he)⟩
  | halt x w' => cases x <;> simp only [Oper.uponIn] at hh ⊢ <;> exact hh

def okOps (P : Program) (ops : Array Oper) : Bool := ops.all fun o => okOp P o
theorem okOps_get {ops : Array Oper} (h : okOps P ops = true) {i : Nat} {o : Oper} (ho : ops[i]? = some o) : okOp P o = true := by
  unfold okOps at h
  rw [Array.all_eq_true] at h
  obtain ⟨hi, rfl⟩ := Array.getElem?_eq_some_iff.1 ho
  exact h i hi
theorem okOp_nd {o : Oper} (h : okOp P o = true) : ∀ c, o.op ≠ .defer c := by
  intro c hc
  unfold okOp at h
  rw [hc] at h
  cases h
theorem wpOp_defers {F : Fence} {n : Nat} {ops : Array Oper} {i : Nat} {K : Act → World → Prop} {Q : Exit → Act → World → Prop} (hok : okOps P ops = true) (h : wpOpIn F n P ops Q i K A w) : wpOpIn F n P ops Q i (fun a' w' => K a' w' ∧ a'.defers = A.defers) A w := by
  unfold wpOpIn at *
  split
  · rename_i ho; rw [ho] at h; exact ⟨h, rfl⟩
  · rename_i o ho
    rw [ho] at h
    have hk := okOps_get hok ho
    simp only at h
    split
    · rename_i hw; rw [if_pos hw] at h; exact op_defers (noDf_of hk) (okOp_nd hk) h
    · rename_i hw; rw [if_neg hw] at h; exact ⟨h.1, h.2, put_defers _ _ _⟩
theorem op_monoQ {F : Fence} {n : Nat} {o : Oper} {K K' : Act → World → Prop} {Q Q' : Exit → Act → World → Prop} (hK : ∀ a w, K a w → K' a w) (hQ : ∀ e a w, e ≠ .normal → Q e a w → Q' e a w) (h : o.wpIn F n P A w K Q) : o.wpIn F n P A w K' Q' := by
  unfold Oper.wpIn at *
  refine ⟨h.1, ?_⟩
  have h2 := h.2
  generalize (o.semAt F.round A.eval).run P w = r at h2
  cases r with
  | halt x w =>
    cases x <;> simp only [Oper.uponIn] at h2 ⊢
    exact hQ _ _ _ (by simp) h2
  | ok x w =>
    cases x <;> simp only [Oper.uponIn] at h2 ⊢
    case value v => exact hK _ _ h2
    case skip => exact hK _ _ h2
    case defer d => exact hK _ _ h2
    case enter f args =>
      refine ⟨h2.1, CallsIn.mono h2.2 fun e w' he => ?_⟩
      cases e with
      | returned v => exact hK _ _ he
      | panicked c => exact hQ _ _ _ (by simp) he
      | outgrown => obtain ⟨a₀, w₀, hq⟩ := he; exact ⟨a₀, w₀, hQ _ _ _ (by simp) hq⟩
    case row r args => exact ⟨h2.1, RowsIn.mono h2.2 fun v w' he => hK _ _ he⟩
    case round l f t a b =>
      refine ⟨h2.1, RoundIn.mono h2.2 fun e w' he => ?_⟩
      cases e with
      | returned v => exact hK _ _ he
      | panicked c => exact hQ _ _ _ (by simp) he
      | outgrown => obtain ⟨a₀, w₀, hq⟩ := he; exact ⟨a₀, w₀, hQ _ _ _ (by simp) hq⟩
theorem wpOps_defers {F : Fence} {n : Nat} {ops : Array Oper} {Q : Exit → Act → World → Prop} {D : List Deferred} (hok : okOps P ops = true) : ∀ (l : List Nat) (A : Act) (w : World), A.defers = D → wpOpsIn F n P ops Q l A w → wpOpsIn F n P ops (fun e a' w' => Q e a' w' ∧ (e = .normal → a'.defers = D)) l A w := by
  intro l
  induction l with
  | nil => intro A w hd h; exact ⟨h, fun _ => hd⟩
  | cons i l ih =>
    intro A w hd h
    simp only [wpOpsIn] at h ⊢
    cases ho : ops[i]? with
    | none => rw [ho] at h; exact ih _ _ hd h
    | some o =>
      rw [ho] at h
      have hk := okOps_get hok ho
      dsimp only at h ⊢
      split
      · rename_i hw
        rw [if_pos hw] at h
        exact op_monoQ (fun a v hq => ih a v (hq.2.trans hd) hq.1) (fun e a v he hq => ⟨hq, fun h => absurd h he⟩) (op_defers (noDf_of hk) (okOp_nd hk) h)
      · rename_i hw
        rw [if_neg hw] at h
        exact ⟨h.1, ih _ _ ((put_defers _ _ _).trans hd) h.2⟩

/-- A region in order, its defers as they were. -/
theorem region_piece {ih : Ih} (h0 : Snd P Hn ih) {f id : Nat} {ops : Array Oper} {fr : List V} {lo : Lo} {σ : H} {o : Out} {D : List Deferred} {Q : Exit → Act → World → Prop} (ho : o = ih (.ops (ops.toList.map (cOper P Hn f ops))) fr lo σ) (hn : o = .norm fr' lo' σ') (hok : okOps P ops = true) (hD : A.defers = D) (hsc : Sc P (cCode P Hn) B0 g β σ lo fr A w)
    (hk : ∀ g' β' A' w', Sc P (cCode P Hn) B0 g' β' σ' lo' fr' A' w' → Stp g β σ w g' β' σ' w' → A'.defers = D → Q .normal A' w') : (Code.region id ops false).wpIn (Fw none) 0 P Q A w := by
  have h1 := h0.ops (ops.toList.map (cOper P Hn f ops)) fr lo σ f ops 0 none B0 g β A w (by simp) (by simp) hsc (by rw [← ho, hn]; simp)
  rw [← ho, hn] at h1
  have h2 := wpOps_defers hok _ _ _ hD h1
  refine wpIn_mono (wpIn_region (by simpa [List.range_eq_range'] using h2)) fun e a v hp => ?_
  obtain ⟨⟨fr1, lo1, σ1, hout, g1, β1, hs1, hst⟩, hd⟩ := hp
  rcases hout with ⟨ho, rfl⟩ | ⟨j, ho, _⟩
  · cases ho; exact hk _ _ _ _ hs1 hst (hd rfl)
  · cases ho
theorem code_piece {ih : Ih} (h0 : Snd P Hn ih) {f : Nat} {c : Code} {fr : List V} {lo : Lo} {σ : H} {o : Out} {Q : Exit → Act → World → Prop} (ho : o = ih (.code (cCode P Hn f c)) fr lo σ) (hn : o = .norm fr' lo' σ') (hsc : Sc P (cCode P Hn) B0 g β σ lo fr A w)
    (hk : ∀ g' β' A' w', Sc P (cCode P Hn) B0 g' β' σ' lo' fr' A' w' → Stp g β σ w g' β' σ' w' → Q .normal A' w') : c.wpIn (Fw none) 0 P Q A w := by
  have h1 := h0.code (cCode P Hn f c) fr lo σ f c none B0 g β A w rfl (by simp) hsc (by rw [← ho, hn]; simp)
  rw [← ho, hn] at h1
  refine wpIn_mono h1 fun e a v hp => ?_
  obtain ⟨fr1, lo1, σ1, hout, g1, β1, hs1, hst⟩ := hp
  rcases hout with ⟨ho, rfl⟩ | ⟨j, ho, _⟩
  · cases ho; exact hk _ _ _ _ hs1 hst
  · cases ho
theorem seq_assoc {x y z : Code} {F : Fence} {n : Nat} {Q : Exit → Act → World → Prop} (h : x.wpIn F n P (Exit.then (y.wpIn F n P (Exit.then (z.wpIn F n P Q) Q)) (Exit.then (z.wpIn F n P Q) Q)) A w) : (Code.seq x (.seq y z)).wpIn F n P Q A w := by
  refine wpIn_seq (wpIn_mono h fun e a v hp => ?_)
  cases e <;> first | exact wpIn_seq hp | exact hp
end Go.Vx
end
noncomputable section
open Go Go.RowKit
namespace Go.Vx
variable {P : Program} {Hn H2 : Hints} {comp : FuncId → Code → VCode} {g g' g'' : G} {σ σ' σ'' : H} {w w' w'' : World} {β β' β'' : Nat → Option Nat} {lo lo' : Lo} {fr fr' F F' : List V} {A A' : Act} {B0 : Nat} {ro : Option Nat}
variable {ops : Array Oper} {ins : Nat → Ins} {cls ms : Nat → Nat} {f : Nat} {listed : Array Bool} {win born todo : List Nat} {Gr : List V} {pb : Nat → Nat} {g0 : G} {β0 : Nat → Option Nat} {σ0 : H} {w0 : World}
variable {ih : Ih} {out : Out} {rest : List Stage} {als b0 effs : List Nat} {eff : Option Nat} {e : Nat}

/-! ### A region whose last operation is shown by other means -/
def laTail (r : List Stage) : Bool := match r with
  | [c] => isNilN c.chk && isNilN c.pre && isNilN c.als && eqOn c.eff none
  | _ => false
def laStages (e : Nat) : List Stage → Bool
  | [] => true
  | s :: r => (!(eqOn s.eff (some e)) || laTail r) && laStages e r
def LaI (e : Nat) (eff : Option Nat) (rest : List Stage) : Prop := (eff = some e → laTail rest = true) ∧ laStages e rest = true
theorem laTail_eq {r : List Stage} (h : laTail r = true) : r = [⟨[], [], [], none⟩] := by
  unfold laTail at h
  split at h
  · rename_i c
    simp only [Bool.and_eq_true] at h
    obtain ⟨⟨⟨h1, h2⟩, h3⟩, h4⟩ := h
    obtain ⟨c1, c2, c3, c4⟩ := c
    dsimp only at h1 h2 h3 h4
    rw [isNilN_eq h1, isNilN_eq h2, isNilN_eq h3, eqOn_eq h4]
  · cases h
theorem LaI.next {s : Stage} (h : LaI e eff (s :: rest)) : LaI e s.eff rest := by
  have h2 := h.2
  simp only [laStages, Bool.and_eq_true, Bool.or_eq_true, Bool.not_eq_true'] at h2
  refine ⟨fun he => ?_, h2.2⟩
  rcases h2.1 with h3 | h3
  · rw [he] at h3
    simp [eqOn] at h3
  · exact h3
structure LaF (P : Program) (ops : Array Oper) (ins : Nat → Ins) (cls ms : Nat → Nat) (e : Nat) : Prop where
  lt : e < ops.size
  c : cls e = 2
  all : ∀ i, i < ops.size → i ≠ e → (ms e).testBit i = true
  no3 : ∀ i, cls i ≠ 3
  mask : ∀ o j, ops[e]? = some o → (ms e).testBit j = true → ∃ d ∈ o.after, Region.binds .any d = true ∧ (d.on = j ∨ (ms d.on).testBit j = true)
  ins : ins e = .op none (.mv (.const (.bool true)))

theorem any_end {Q : Exit → Act → World → Prop} {fuel : Nat} (hl : listed.size = ops.size) (hall : ∀ i, i < ops.size → done listed i) (hq : Q .normal A w) : wpAnyIn (Fw ro) 0 P .any ops Q fuel listed A w := by
  have hnil : Region.ready .any ops listed = [] := by
    refine List.eq_nil_iff_forall_not_mem.2 fun j hj => ?_
    obtain ⟨h0, o, ho, _⟩ := mem_ready.1 hj
    have := hall j (Array.getElem?_eq_some_iff.1 ho).1
    unfold done at this
    rw [h0] at this
    cases this
  cases fuel with
  | zero => exact ⟨hnil, hq⟩
  | succ n => exact ⟨fun _ => hq, fun j hj => by rw [hnil] at hj; cases hj⟩

theorem loop_last {Q : Exit → Act → World → Prop} {D : List Deferred} (hok : okOps P ops = true) (hout : out ≠ .fail) (hm : Means P Hn H2 ops ro ih) (hs : Stat P H2 f ops ins cls ms (fun j => j = e)) (hf : LaF P ops ins cls ms e)
    (hlast : ∀ (g : G) (β : Nat → Option Nat) (lo : Lo) (σ : H) (Gr : List V) (A : Act) (w : World) (K : Act → World → Prop), out = .norm Gr lo σ → Sc P (cCode P Hn) B0 g β σ lo Gr A w → Stp g0 β0 σ0 w0 g β σ w → A.defers = D → (∀ A' w', Q .normal A' w' → K A' w') → wpOpIn (Fw ro) 0 P ops Q e K A w) :
    ∀ (fuel : Nat) {rest : List Stage} {win als : List Nat} {eff : Option Nat} {b0 effs : List Nat} {lo : Lo} {σ : H} {Gr : List V} {listed : Array Bool} {A : Act} {w : World} {g : G} {β : Nat → Option Nat} {F : List V} {pb : Nat → Nat},
    (undone ops listed).length ≤ fuel → ¬ done listed e → Mid P Hn ops ins cls ms B0 g0 β0 σ0 w0 ih out rest win als eff b0 effs lo σ Gr listed A w g β F pb → LaI e eff rest → A.defers = D →
    wpAnyIn (Fw ro) 0 P .any ops Q fuel listed A w := by
  intro fuel
  induction fuel with
  | zero =>
    intro rest win als eff b0 effs lo σ Gr listed A w g β F pb hle hne hi hla hD
    have : e ∈ undone ops listed := List.mem_filter.2 ⟨List.mem_range.2 hf.lt, by simpa using hne⟩
    have := List.length_pos_of_mem this
    omega
  | succ fuel ihf =>
    intro rest win als eff b0 effs lo σ Gr listed A w g β F pb hle hne hi hla hD
    refine ⟨fun hnil => absurd (ready_nil hi.inv.core.size hs.lowE hnil e hf.lt) hne, fun j hj => ?_⟩
    have hw : j = e → ∀ i, (ms j).testBit i = true → i < ops.size ∧ done listed i := by
      rintro rfl i hb
      obtain ⟨h0, o, ho, hall⟩ := mem_ready.1 hj
      obtain ⟨d, hd, hbd, hcase⟩ := hf.mask o i ho hb
      have hdd := hall d hd hbd
      have hlt : d.on < listed.size := by
        by_cases hq : d.on < listed.size
        · exact hq
        · simp [Array.getD, hq] at hdd
      have hdone : done listed d.on := by
        unfold done
        simp only [Array.getD, hlt, dif_pos] at hdd ⊢
        exact hdd
      rcases hcase with rfl | h
      · exact ⟨by have := hi.inv.core.size; omega, hdone⟩
      · exact hi.inv.core.closed d.on (by have := hi.inv.core.size; omega) hdone i h
    obtain ⟨h1, h2, h3⟩ := ready_masks hs hw hi.inv.core.size hi.inv.core.closed hj
    by_cases hje : j = e
    · subst hje
      have hall : ∀ i, i < ops.size → i ≠ j → done listed i := fun i hi1 hi2 => (h3 i (hf.all i hi1 hi2)).2
      have hjt := hi.inv.todoc j hf.lt hf.c hne
      have heff : eff = some j := by
        cases he : eff with
        | none => have := hi.cur.last he; rw [he, this] at hjt; simp [effAll] at hjt
        | some e' =>
          by_cases hq : e' = j
          · rw [hq]
          · have := hi.inv.todoOk e' (by simp [he])
            exact absurd (hall e' this.1 hq) this.2.2
      have hals : als = [] := by
        cases als with
        | nil => rfl
        | cons a l => exact absurd (hi.cur.alsOk a (by simp)).1 (hf.no3 a)
      have hrest := laTail_eq (hla.1 heff)
      subst heff hals hrest
      have hrun : runIs ih [ins j] Gr lo σ = out := hi.run
      rw [hf.ins] at hrun
      have hnorm : out = .norm Gr lo σ := hrun.symm
      have hF : F = Gr := eq_of_lget hi.inv.core.len fun t => by
        rcases hi.inv.core.agr t with h | ⟨k, hk, hck, hnd, _⟩ | ⟨a, ha, hca, _, _⟩
        · exact h
        · exact absurd (hall k hk (by rintro rfl; have := hf.c; omega)) hnd
        · exact absurd hca (hf.no3 a)
      subst hF
      refine hlast g β lo σ F A w _ hnorm hi.inv.core.sc hi.inv.core.stp hD fun A' w' hq => ?_
      refine any_end (by simp [hi.inv.core.size]) (fun i hi1 => ?_) hq
      by_cases hij : i = j
      · exact done_set.2 (.inr hij.symm)
      · exact done_set.2 (.inl (hall i hi1 hij))
    · have hlt : (undone ops (listed.setIfInBounds j true)).length ≤ fuel := by have := undone_set h1 h2; omega
      have hne' : ¬ done (listed.setIfInBounds j true) e := fun h => by
        rcases done_set.1 h with h | h
        · exact hne h
        · exact hje h
      have hcov : ∀ i, i < ops.size → cls i < 2 → ¬ done (listed.setIfInBounds j true) i → i ∈ win ∨ i ∈ preAll rest := fun i k1 k2 k3 => hi.cov i k1 k2 fun h => k3 (done_set.2 (.inl h))
      have fin : ∀ {K : Act → World → Prop}, wpOpIn (Fw ro) 0 P ops Q j (fun A' w' => A'.defers = D → K A' w') A w → wpOpIn (Fw ro) 0 P ops Q j K A w := fun h => wpOpIn_mono (fun a v hq => hq.1 (hq.2.trans hD)) (wpOp_defers hok h)
      refine fin ?_
      rcases hs.cl3 j with hc | hc | hc
      · exact step_N hm hs hi.inv hje hj hc fun A' w' g' β' F' hi' hD' => ihf hlt hne' ⟨hi', hcov, hi.cur, hi.ok, hi.run⟩ hla hD'
      · refine step_E hout hm hs hi (fun h => absurd h hje) (fun o h => hs.insEq j o hje h) hj hc fun A' w' g' β' F' s rest' win' b0' effs' lo' σ' Gr' hrs hi' hD' => ihf hlt hne' hi' ?_ hD'
        subst hrs
        exact hla.next
      · exact absurd hc (hf.no3 j)

/-- the operations, but that the last one is nothing -/
def insL (P : Program) (Hn : Hints) (f : Nat) (ops : Array Oper) (e : Nat) : Nat → Ins := fun i => bif Nat.beq i e then .op none (.mv (.const (.bool true))) else insOf P (heapy Hn) f ops i
theorem draws_last {D : List Deferred} (hmix : P.follows .mixedOrders = true) (hidle : ∀ q ∈ Hn.idle, IdleF P q) {ih : Ih} (h0 : Snd P Hn ih) {f id : Nat} {ops : Array Oper} {l : List Stage} {e : Nat} {fr : List V} {lo : Lo} {σ : H} {w : World} {g : G} {β : Nat → Option Nat} {A : Act} {B0 : Nat} {ro : Option Nat} {Q : Exit → Act → World → Prop}
    (hd : drawOk (insL P Hn f ops e) (clsOf P (heapy Hn) f ops) (msOf ops) ops.size l = true) (hlow : lowEdges ops.toList 0 = true) (hl : l ≠ []) (hla : laStages e l = true)
    (hlt : e < ops.size) (hc : clsOf P (heapy Hn) f ops e = 2) (hall : ∀ i, i < ops.size → i ≠ e → (msOf ops e).testBit i = true) (hno3 : ∀ i, i < ops.size → clsOf P (heapy Hn) f ops i ≠ 3)
    (hro : ro.isSome = true → noDefer ops = true) (hsc : Sc P (cCode P Hn) B0 g β σ lo fr A w) (hokk : okOps P ops = true) (hD : A.defers = D)
    (hout : runIs ih (flatten (insL P Hn f ops e) l) fr lo σ ≠ .fail)
    (hlast : ∀ (g' : G) (β' : Nat → Option Nat) (lo' : Lo) (σ' : H) (Gr : List V) (A' : Act) (w' : World) (K : Act → World → Prop), runIs ih (flatten (insL P Hn f ops e) l) fr lo σ = .norm Gr lo' σ' → Sc P (cCode P Hn) B0 g' β' σ' lo' Gr A' w' → Stp g β σ w g' β' σ' w' → A'.defers = D → (∀ A'' w'', Q .normal A'' w'' → K A'' w'') → wpOpIn (Fw ro) 0 P ops Q e K A' w') :
    (Code.region id ops true).wpIn (Fw ro) 0 P Q A w := by
  have hf := drawOk_facts hd
  have hne : ∀ i, i ≠ e → insL P Hn f ops e i = insOf P (heapy Hn) f ops i := fun i hi => by unfold insL; rw [beqF hi]; rfl
  have hee : insL P Hn f ops e e = .op none (.mv (.const (.bool true))) := by unfold insL; rw [beqT]; rfl
  have hget : ∀ i, i < ops.size → ops[i]? = some ops[i]! := fun i hi => by simp [hi]
  have hno3' : ∀ i, clsOf P (heapy Hn) f ops i ≠ 3 := fun i h => hno3 i (clsOf_lt (by rw [h]; decide)) h
  have hs : Stat P (heapy Hn) f ops (insL P Hn f ops e) (clsOf P (heapy Hn) f ops) (msOf ops) (fun j => j = e) := by
    refine ⟨fun i o hi h => by rw [hne i hi]; exact insOf_eq h, fun i hi hci => ?_, fun i hi hci => absurd hci (hno3' i), fun i => ?_, fun i o j _ ho hb => ?_, fun i j d hi hj hci hcj h1 h2 => ?_, fun e' i d he hi hce hci h1 h2 => ?_, hf.reads, hf.loc, fun i hci => clsOf_lt hci, fun i o ho d hd hb => ?_⟩
    · have hie : i ≠ e := by rintro rfl; omega
      rw [hne i hie]
      rw [clsOf_eq (hget i hi)] at hci ⊢
      exact insCls_low hci
    · by_cases hi : i < ops.size
      · have := insCls_le (o := ops[i]!) (i := insOf P (heapy Hn) f ops i)
        have := hno3' i
        rw [clsOf_eq (hget i hi)] at this ⊢
        omega
      · by_cases hci : clsOf P (heapy Hn) f ops i = 2
        · omega
        · exact absurd (clsOf_lt hci) hi
    · obtain ⟨d, hd, hbe, h⟩ := mask_edge (ops := ops.toList) (by rw [Array.getElem?_toList]; exact ho) hb
      exact ⟨d, Array.mem_toList_iff.1 hd, hbe, h⟩
    · refine dstL_inj hf.nodup i ?_ j ?_ h1 h2 (List.Pairwise.filter _ List.nodup_range)
      · exact List.mem_filter.2 ⟨List.mem_range.2 hi, nbeq hci⟩
      · exact List.mem_filter.2 ⟨List.mem_range.2 hj, nbeq hcj⟩
    · exact hf.effD d (mem_dstL.2 ⟨e', List.mem_filter.2 ⟨List.mem_range.2 he, by simpa using hce⟩, h1⟩) (mem_dstL.2 ⟨i, List.mem_filter.2 ⟨List.mem_range.2 hi, nbeq hci⟩, h2⟩)
    · have := lowEdges_get hlow i o (by rw [Array.getElem?_toList]; exact ho) d hd hb
      omega
  have hlaf : LaF P ops (insL P Hn f ops e) (clsOf P (heapy Hn) f ops) (msOf ops) e := ⟨hlt, hc, hall, hno3', fun o j ho hb => by
    obtain ⟨d, hd, hbe, h⟩ := mask_edge (ops := ops.toList) (by rw [Array.getElem?_toList]; exact ho) hb
    exact ⟨d, Array.mem_toList_iff.1 hd, hbe, h⟩, hee⟩
  refine wpIn_region_any hmix ?_
  cases l with
  | nil => exact absurd rfl hl
  | cons s rest =>
  obtain ⟨hso, hok⟩ := stagesOk_cons hf.stages
  have hnd : ∀ i, i < ops.size → ¬ done (Array.replicate ops.size false) i := fun i hi h => by
    unfold done at h
    simp [Array.getD, hi] at h
  have hnd' : ∀ i, clsOf P (heapy Hn) f ops i ≠ 2 → ¬ done (Array.replicate ops.size false) i := fun i hc => hnd i (hs.clsLt i hc)
  have hcore : Core P Hn ops (insL P Hn f ops e) (clsOf P (heapy Hn) f ops) (msOf ops) B0 g β σ w [] lo σ fr (Array.replicate ops.size false) A { w with drawn := w.drawn + 1 } g β fr (fun _ => 0) := by
    refine ⟨by simp, fun j hj hd => absurd hd (hnd j hj), hsc.drawn, .drawn, rfl, fun t => .inl rfl, fun a ha => by simp at ha, fun a d z ha _ hd => absurd hd (hnd a ha), fun a a' ha _ _ _ hd => absurd hd (hnd a ha)⟩
  have hout2 : ∀ e ∈ effAll (s :: rest), e < ops.size := fun e he => by
    simp only [effAll, List.flatMap_cons, List.mem_append] at he
    rcases he with he | he
    · exact (hso.cur.effOk e (by simpa [Option.mem_toList] using he)).2.1
    · exact (later_mask rest hok e he).2.1
  obtain ⟨Gr', k1, k2, k3⟩ := enter (n := ops.size) (aL := aList _ ops.size) hout hs hso hok hcore rfl (fun i hi => by simp [survOf] at hi) (fun i hi => by simp [survOf] at hi) (fun i hi => hnd' i (by have := (hso.pre i hi).1; omega))
    (fun i h1 h2 _ => .inr (by rcases hf.cover i h1 with h | h | h <;> first | exact h.2 | omega)) (fun e he => hnd e (hout2 e he)) (fun e h1 h2 _ => by rcases hf.cover e h1 with h | h | h <;> first | exact h.2 | omega) rfl
  have hli : LaI e s.eff rest := LaI.next (eff := none) ⟨fun h => (by cases h), hla⟩
  refine loop_last (H2 := heapy Hn) (f := f) (D := D) hokk hout ⟨h0.call, h0.app, hidle, h0.loc, hro⟩ hs hlaf hlast ops.size ?_ (hnd e hlt) ⟨k1, k3, hso.cur, hok, k2⟩ hli hD
  unfold undone
  exact Nat.le_trans (List.length_filter_le _ _) (by simp)
end Go.Vx
end
noncomputable section
open Go Go.RowKit Go.Proofs
namespace Go.Vx.Tab
set_option maxRecDepth 1000000
/-! ### The frames of run.Types, one behind the other -/
noncomputable def u52 : List V := pad 52 []
noncomputable def F7 : List V := lset (lset (lset u52 8 v8) 10 (.hptr 0 0)) 3 (.hptr 1 0)
noncomputable def σ7 : H := ⟨2, .leaf⟩
noncomputable def cOps (c : Code) : Cmd := .ops ((opsOf c).toList.map (cOper Tryz.prog Hn0 7 (opsOf c)))
theorem c8_eq : c8 = .region 8 (opsOf c8) false := by kernel_rfl
theorem c9_eq : c9 = .region 9 (opsOf c9) false := by kernel_rfl
theorem c10_eq : c10 = .region 10 (opsOf c10) false := by kernel_rfl
theorem c12_eq : c12 = .region 12 (opsOf c12) false := by kernel_rfl
theorem kk8 : okOps Tryz.prog (opsOf c8) = true := by decide +kernel
theorem kk9 : okOps Tryz.prog (opsOf c9) = true := by decide +kernel
theorem kk10 : okOps Tryz.prog (opsOf c10) = true := by decide +kernel
theorem kk11 : okOps Tryz.prog (opsOf c11) = true := by decide +kernel
theorem kk12 : okOps Tryz.prog (opsOf c12) = true := by decide +kernel
noncomputable def o8 : Out := ihB (cOps c8) F7 [] σ7
theorem o8_n : isNm o8 = true := by decide +kernel
noncomputable def o9 : Out := ihB (cOps c9) (frOf o8) (loOf o8) (hpOf o8)
theorem o9_n : isNm o9 = true := by decide +kernel
theorem o9_c : lget (frOf o9) 36 = .bool true := by kernel_rfl
noncomputable def o10 : Out := ihB (cOps c10) (frOf o9) (loOf o9) (hpOf o9)
theorem o10_n : isNm o10 = true := by decide +kernel
noncomputable def ops11 : Array Oper := opsOf c11
theorem c11_eq : c11 = .region 11 ops11 true := by kernel_rfl
noncomputable abbrev in11 : Nat → Ins := insL Tryz.prog Hn0 7 ops11 9
noncomputable abbrev cl11 : Nat → Nat := clsOf Tryz.prog (heapy Hn0) 7 ops11
noncomputable def pl11 : List Stage := stages cl11 (msOf ops11) ops11.size ((List.range ops11.size).filter fun i => cl11 i == 2)
theorem p11a : drawOk in11 cl11 (msOf ops11) ops11.size pl11 = true := by decide +kernel
theorem p11b : lowEdges ops11.toList 0 = true := by decide +kernel
theorem p11c : pl11.isEmpty = false := by decide +kernel
theorem p11d : laStages 9 pl11 = true := by decide +kernel
theorem p11e : ops11.size = 10 := by decide +kernel
theorem p11f : cl11 9 = 2 := by decide +kernel
theorem p11g : ((List.range 9).all fun i => (msOf ops11 9).testBit i) = true := by decide +kernel
theorem p11h : ((List.range 10).all fun i => !(Nat.beq (cl11 i) 3)) = true := by decide +kernel
noncomputable def o11 : Out := runIs ihB (flatten in11 pl11) (frOf o10) (loOf o10) (hpOf o10)
theorem o11_n : isNm o11 = true := by decide +kernel
noncomputable def s47 : V := lget (frOf o11) 47
noncomputable def strOf : V → List Nat | .str s => s | _ => []
theorem o11_47 : lget (frOf o11) 47 = .str [109,97,105,110,58,32,73,79,32,85,110,105,116,10] := by kernel_rfl
theorem o11_10 : lget (frOf o11) 10 = .hptr 0 0 := by kernel_rfl
theorem o11_3 : lget (frOf o11) 3 = .hptr 1 0 := by kernel_rfl
theorem o11_34 : lget (frOf o11) 34 = .int .i64 1 := by kernel_rfl
theorem o11_35 : lget (frOf o11) 35 = .int .i64 0 := by kernel_rfl
theorem o11_l : (frOf o11).length = 52 := by decide +kernel
noncomputable def F8 : List V := lset (lset (lset (lset u52 34 (.int .i64 1)) 35 (.int .i64 0)) 10 (.hptr 0 0)) 3 (.hptr 1 0)
noncomputable def o12 : Out := ihB (cOps c12) F8 [] σ7
theorem o12_n : isNm o12 = true := by decide +kernel
noncomputable def o13 : Out := ihB (cOps c9) (frOf o12) (loOf o12) (hpOf o12)
theorem o13_n : isNm o13 = true := by decide +kernel
theorem o13_c : lget (frOf o13) 36 = .bool false := by kernel_rfl
theorem o13_10 : lget (frOf o13) 10 = .hptr 0 0 := by kernel_rfl
theorem o13_3 : lget (frOf o13) 3 = .hptr 1 0 := by kernel_rfl
theorem o13_l : (frOf o13).length = 52 := by decide +kernel
noncomputable def ops13 : Array Oper := opsOf c13
theorem c13_eq : c13 = .region 13 ops13 false := by kernel_rfl
theorem p13 : ops13.size = 5 := by decide +kernel
noncomputable def F14 : List V := lset (lset u52 50 (.str [109,97,105,110,58,32,73,79,32,85,110,105,116,10])) 3 (.lptr 3 0)
noncomputable def lo14 : Lo := [(3, [.int .i64 0, .int .i64 0])]
noncomputable def o14 : Out := ihB (.ops ((ops13.toList.drop 1).map (cOper Tryz.prog Hn0 7 ops13))) F14 lo14 σ7
theorem o14_n : isNm o14 = true := by decide +kernel
noncomputable def res7 : List (Nat × Bool × Bool × Nat) := [(2,false,false,0),(3,true,true,2),(4,false,false,0)]
theorem res7_eq : Tryz.f7.results.toList.mapM (cRes Tryz.prog) = some res7 := by kernel_rfl
theorem o14_r : resV (frOf o14) (loOf o14) (hpOf o14) res7 = some [S [109,97,105,110,58,32,73,79,32,85,110,105,116,10],A [j 0,j 0],j 0] := by kernel_rfl
end Go.Vx.Tab
end
