/- A part of the proof of TopLoops: VxOpsP, VxOpsQ, VxOpsR, VxOpsS, VxOpsT, VxOpsU, VxOpsV, VxOpsW, VxOpsX, VxOpsY, VxOpsZ, VxOpsMa, VxOpsMb, VxOpsMc, VxOpsMd, VxCtlA. -/
import Derived.Laws.IdiomStrings
import Derived.Laws.BytesArg
import Derived.Laws.MakeOwn
import Derived.RangeFuncLeaves
import Derived.Test.YtedmegjkcgidlaaGreatDoorVab
set_option linter.all false
set_option linter.unusedVariables false
set_option linter.unusedSimpArgs false
noncomputable section
open Go Go.RowKit
namespace Go.Vx
variable {P : Program} {comp : FuncId → Code → VCode} {g g' : G} {σ σ' : H} {w w' : World} {β : Nat → Option Nat} {lo lo' : Lo} {fr : List V} {A : Act}

theorem bound_ok {v : V} {X : Value} {d y n : Nat} (hX : Rs g β v X) (h : bound (some v) d y = some n) :
    (∀ y' c, y ≤ y' → (Instr.sliceBound X y' c).run P w = .ok n w) ∧ n ≤ y := by
  cases v <;> try (simp [bound] at h; done)
  rename_i k' m
  cases m with
  | negSucc m => simp [bound] at h
  | ofNat m =>
  simp only [bound] at h
  generalize hq : Nat.ble m y = q at h
  cases q
  · cases h
  simp only [cond_true, Option.some.injEq] at h
  subst h
  have hle : m ≤ y := Nat.le_of_ble_eq_true hq
  have hX' := int_of hX rfl
  refine ⟨fun y' c hy => ?_, hle⟩
  have h0 : (0 : Int) ≤ Int.ofNat m ∧ Int.ofNat m ≤ (y' : Int) := ⟨Int.natCast_nonneg m, by simpa using (by omega : m ≤ y')⟩
  simp only [Instr.sliceBound, hX', asIntOf, Sem.run_bind, Sem.run_pure, Result.andThen, if_pos h0]
  rfl

inductive Rso (g : G) (β : Nat → Option Nat) : Option V → Option Value → Prop
  | none : Rso g β none none
  | some {v : V} {X : Value} (h : Rs g β v X) : Rso g β (some v) (some X)

theorem Rso.ev (hf : Rf_ g β fr A.tmps) {x : Option Operand} {x' : Option Opd} (h : x.mapM cOpd = Option.some x') : Rso g β (evO x' fr) (x.map A.eval) := by
  cases x with
  | none => simp at h; subst h; exact .none
  | some x =>
    simp only [Option.mapM_some] at h
    cases hc : cOpd x with
    | none => simp [hc] at h
    | some y => simp [hc] at h; subst h; exact .some (Rs.ev hf hc)

theorem slBounds_ok {lo hi mx : Option V} {lx hx mxx : Option Value} {len cap cap' l hh m : Nat} (sl : Bool) (rl : Rso g β lo lx) (rh : Rso g β hi hx) (rm : Rso g β mx mxx)
    (hc : cap ≤ cap') (hlen : len ≤ cap) (h : slBounds len cap lo hi mx = some (l, hh, m)) :
    (Instr.sliceBounds sl len cap' lx hx mxx).run P w = .ok (l, hh, if mx.isSome then m else cap') w ∧ l ≤ hh ∧ hh ≤ m ∧ m ≤ cap ∧ (mx = none → m = cap) := by
  have fin : (mx.isSome = true → hi.isSome = true) ∧ ∃ m', bound mx cap cap = some m' ∧ ∃ h', bound hi len m' = some h' ∧ ∃ l', bound lo 0 h' = some l' ∧ l' = l ∧ h' = hh ∧ m' = m := by
    unfold slBounds at h
    split at h
    · cases h
    · rename_i hno
      refine ⟨fun hm => ?_, ?_⟩
      · cases mx with
        | none => cases hm
        | some a => cases hi with
          | none => exact absurd rfl (hno a rfl)
          | some b => rfl
      · cases h1 : bound mx cap cap with
        | none => rw [h1] at h; cases h
        | some m' =>
          rw [h1] at h; dsimp only at h
          cases h2 : bound hi len m' with
          | none => rw [h2] at h; cases h
          | some h' =>
            rw [h2] at h; dsimp only at h
            cases h3 : bound lo 0 h' with
            | none => rw [h3] at h; cases h
            | some l' =>
              rw [h3] at h
              simp only [Option.some.injEq, Prod.mk.injEq] at h
              exact ⟨m', rfl, h', h2, l', h3, h.1, h.2.1, h.2.2⟩
  obtain ⟨hsome, m', h1, h', h2, l', h3, rfl, rfl, rfl⟩ := fin
  cases rm with
  | none =>
    simp only [bound, Option.some.injEq] at h1
    subst h1
    cases rh with
    | none =>
      simp only [bound, Option.some.injEq] at h2
      subst h2
      cases rl with
      | none =>
        simp only [bound, Option.some.injEq] at h3
        subst h3
        exact ⟨by simp [Instr.sliceBounds, Result.andThen], Nat.zero_le _, hlen, Nat.le_refl _, fun _ => rfl⟩
      | some hl =>
        obtain ⟨b1, b2⟩ := bound_ok (P := P) (w := w) hl h3
        refine ⟨?_, b2, hlen, Nat.le_refl _, fun _ => rfl⟩
        simp [Instr.sliceBounds, Result.andThen, b1]
    | some hh =>
      obtain ⟨c1, c2⟩ := bound_ok (P := P) (w := w) hh h2
      cases rl with
      | none =>
        simp only [bound, Option.some.injEq] at h3
        subst h3
        exact ⟨by simp [Instr.sliceBounds, Result.andThen, c1 _ _ hc], Nat.zero_le _, c2, Nat.le_refl _, fun _ => rfl⟩
      | some hl =>
        obtain ⟨b1, b2⟩ := bound_ok (P := P) (w := w) hl h3
        refine ⟨?_, b2, c2, Nat.le_refl _, fun _ => rfl⟩
        simp [Instr.sliceBounds, Result.andThen, b1, c1 _ _ hc]
  | some hm =>
    obtain ⟨d1, d2⟩ := bound_ok (P := P) (w := w) hm h1
    cases rh with
    | none => simp at hsome
    | some hh =>
      obtain ⟨c1, c2⟩ := bound_ok (P := P) (w := w) hh h2
      cases rl with
      | none =>
        simp only [bound, Option.some.injEq] at h3
        subst h3
        exact ⟨by simp [Instr.sliceBounds, Result.andThen, c1, d1 _ _ hc], Nat.zero_le _, c2, d2, fun e => by cases e⟩
      | some hl =>
        obtain ⟨b1, b2⟩ := bound_ok (P := P) (w := w) hl h3
        refine ⟨?_, b2, c2, d2, fun e => by cases e⟩
        simp [Instr.sliceBounds, Result.andThen, b1, c1, d1 _ _ hc]
end Go.Vx
end
noncomputable section
open Go Go.RowKit
namespace Go.Vx
variable {P : Program} {comp : FuncId → Code → VCode} {g g' : G} {σ σ' : H} {w w' : World} {β : Nat → Option Nat} {lo lo' : Lo} {fr : List V} {A : Act}

theorem Rv.sub_list {xs : List V} {ex ex' : Bool} {a : Option Addr} {n cap cap' sz l hh : Nat} (h : Rv g (.list xs ex) (.slice a n cap)) (hsz : szOk sz xs = true) (h1 : l ≤ hh) (h2 : hh ≤ n) (h3 : hh ≤ cap') (he : ex' = true → cap' = hh) :
    n = xs.length ∧ n ≤ cap ∧ (ex = true → cap = n) ∧ Rv g (.list ((xs.take hh).drop l) ex') (.slice (if cap' = l then a else a.map (·.add (l * sz))) (hh - l) (cap' - l)) := by
  cases h with
  | @list _ _ b o _ k vs hk hc hex hv hr =>
  refine ⟨rfl, hc, hex, ?_⟩
  have hlen : ((xs.take hh).drop l).length = hh - l := by simp; omega
  have hget : ∀ i, ((xs.take hh).drop l)[i]? = if l + i < hh then xs[l + i]? else none := by
    intro i; rw [List.getElem?_drop, List.getElem?_take]
  have hmem : ∀ x ∈ (xs.take hh).drop l, x ∈ xs := fun x hx => List.mem_of_mem_take (List.mem_of_mem_drop hx)
  by_cases hq : l = hh
  · subst hq
    have hnil : (xs.take l).drop l = [] := List.eq_nil_of_length_eq_zero (by omega)
    rw [hnil]
    have aux : ∀ b o, Rv g (.list [] ex') (.slice (some ⟨b, o, none⟩) (l - l) (cap' - l)) := fun b o => by
      have : l - l = ([] : List V).length := by simp
      rw [this]
      exact .list (ex := ex') 0 (fun _ _ => Go.undef) (by simp) (by simp) (fun e => by simp [he e]) (fun i x j c e => by simp at e) (fun i x j c e => by simp at e)
    by_cases e : cap' = l
    · rw [if_pos e]; exact aux _ _
    · rw [if_neg e]
      simp only [Option.map_some, add_none]
      exact aux _ _
  · have hks : k = sz := by
      cases xs with
      | nil => simp at h2; omega
      | cons x xs =>
        have := hk x (by simp)
        simp only [szOk] at hsz
        have := Nat.eq_of_beq_eq_true hsz
        omega
    subst hks
    rw [if_neg (by omega)]
    simp only [Option.map_some, add_none]
    have := Rv.list (g := g) (xs := (xs.take hh).drop l) (ex := ex') (b := b) (o := o + l * k) (cap := cap' - l) k (fun i j => vs (l + i) j) (fun x hx => hk x (hmem x hx)) (by omega) (fun e => by have := he e; omega)
      (fun i x j c e e' => by
        rw [hget] at e
        split at e
        · have := hv (l + i) x j c e e'
          have e2 : o + l * k + i * k + j = o + (l + i) * k + j := by rw [Nat.add_mul]; omega
          rw [e2]; exact this
        · cases e)
      (fun i x j c e e' => by
        rw [hget] at e
        split at e
        · exact hr (l + i) x j c e e'
        · cases e)
    rw [hlen] at this
    exact this

theorem Rv.sub_str {bs : ByteArray} {l hh : Nat} : Rv g (.str (((bs.data.toList.map UInt8.toNat).take hh).drop l)) (.string (bs.extract l hh)) := by
  have : ((bs.data.toList.map UInt8.toNat).take hh).drop l = (bs.extract l hh).data.toList.map UInt8.toNat := by
    simp [ByteArray.data_extract, List.map_drop, List.map_take, List.drop_take]
  rw [this]
  exact .str _

theorem sound_slice {d : Nat} {o : Oper} {x : Operand} {x' : Opd} {lw hi mx : Option Operand} {lw' hi' mx' : Option Opd} {t : TypeId} {ds : TypeDesc} {st : Bool} {sz : Nat} (hu : P.underlying t = some ds)
    (hd : (st = true ∧ ds = .string) ∨ (st = false ∧ ∃ el, ds = .slice el ∧ cSize P el = some sz)) (hx : cOpd x = some x') (hl : lw.mapM cOpd = some lw') (hh : hi.mapM cOpd = some hi') (hm : mx.mapM cOpd = some mx')
    (ho : o.op = .slice t x lw hi mx) : Sound P comp d (.slice st sz x' lw' hi' mx') o := by
  intro g β σ lo fr A w v lo' σ' h e
  have rl := Rso.ev h.f hl
  have rh := Rso.ev h.f hh
  have rm := Rso.ev h.f hm
  have hr := Rs.ev h.f hx
  have hrun : ∀ (X : Value), (Instr.slice t (A.eval x) (lw.map A.eval) (hi.map A.eval) (mx.map A.eval)).run P w = .ok X w → (execOp A.eval o).run P w = .ok (.value X) w := by
    intro X hX
    have hne : (Instr.sliceAt t (A.eval x) (lw.map A.eval) (hi.map A.eval) (mx.map A.eval)).run P w = .ok X w := by
      rw [← hX]
      rcases hd with ⟨_, rfl⟩ | ⟨_, el, rfl, _⟩ <;> simp [Instr.sliceAt, Sem.run_bind, run_underlying hu, Result.andThen]
    simp only [execOp, ho, Sem.run_bind, hne, Result.andThen, Sem.run_pure]
  simp only [evOp, opSlice] at e
  generalize evO lw' fr = vl at e rl
  generalize evO hi' fr = vh at e rh
  generalize evO mx' fr = vm at e rm
  generalize hv : x'.ev fr = vx at e hr
  generalize hX : A.eval x = X at hr
  rw [hX] at hrun
  cases vx <;> try (cases e; done)
  · rename_i s
    rcases hd with ⟨rfl, rfl⟩ | ⟨rfl, el, rfl, hs⟩
    · simp only [cond_true] at e
      have eo := ofO_ok e
      clear e
      obtain ⟨e, rfl, rfl⟩ := eo
      obtain ⟨bs, rfl, rfl⟩ := str_of hr rfl
      cases vm with
      | some _ => cases e
      | none =>
      simp only [slStr] at e
      cases hb : slBounds (bs.data.toList.map UInt8.toNat).length (bs.data.toList.map UInt8.toNat).length vl vh none with
      | none => rw [hb] at e; cases e
      | some p =>
        obtain ⟨l, h', m⟩ := p
        rw [hb] at e
        simp only [Option.some.injEq] at e
        subst e
        cases hmx : mx.map A.eval with
        | some _ => rw [hmx] at rm; cases rm
        | none =>
        rw [hmx] at rm hrun
        obtain ⟨k1, k2, k3, k4, k5⟩ := slBounds_ok (P := P) (w := w) (cap' := bs.size) false rl rh rm (by simp) (Nat.le_refl _) hb
        have hsz : (bs.data.toList.map UInt8.toNat).length = bs.size := by simp
        rw [hsz] at k1
        refine .pure h (hrun (.string (bs.extract l h')) ?_) (.of_rv Rv.sub_str)
        simp [Instr.slice, Sem.run_bind, run_underlying hu, Result.andThen, k1]
    · cases e
  · rcases hd with ⟨rfl, rfl⟩ | ⟨rfl, el, rfl, hs⟩
    · cases e
    simp only [cond_false] at e
    have eo := ofO_ok e
    clear e
    obtain ⟨e, rfl, rfl⟩ := eo
    cases hr
    simp only [slNil] at e
    cases hb : slBounds 0 0 vl vh vm with
    | none => rw [hb] at e; cases e
    | some p =>
      obtain ⟨l, h', m⟩ := p
      rw [hb] at e
      simp only [Option.some.injEq] at e
      subst e
      obtain ⟨k1, k2, k3, k4, k5⟩ := slBounds_ok (P := P) (w := w) (cap' := 0) true rl rh rm (Nat.le_refl _) (Nat.le_refl _) hb
      have hm0 : m = 0 := by omega
      have hh0 : h' = 0 := by omega
      have hl0 : l = 0 := by omega
      subst hm0 hh0 hl0
      refine .pure h (hrun (.slice none 0 0) ?_) (.of_rv .nilSl)
      simp [Instr.slice, Sem.run_bind, run_underlying hu, Result.andThen, k1, run_sizeOf' hs]
  · rename_i xs ex
    rcases hd with ⟨rfl, rfl⟩ | ⟨rfl, el, rfl, hs⟩
    · cases e
    simp only [cond_false] at e
    have eo := ofO_ok e
    clear e
    obtain ⟨e, rfl, rfl⟩ := eo
    have hrv : Rv g (.list xs ex) X := hr
    simp only [slList] at e
    generalize hq : szOk sz xs = q at e
    cases q
    · cases e
    simp only [cond_true] at e
    cases hb : slBounds xs.length xs.length vl vh vm with
    | none => rw [hb] at e; cases e
    | some p =>
      obtain ⟨l, h', m⟩ := p
      rw [hb] at e
      simp only [Option.some.injEq] at e
      subst e
      have hXs : ∃ a n cap, X = .slice a n cap ∧ n = xs.length ∧ n ≤ cap ∧ (ex = true → cap = n) := by
        cases hrv with
        | list k vs hk hc he hv hr => exact ⟨_, _, _, rfl, rfl, hc, he⟩
      obtain ⟨a, n, cap, rfl, hn, hcap, hex⟩ := hXs
      obtain ⟨k1, k2, k3, k4, k5⟩ := slBounds_ok (P := P) (w := w) (cap' := cap) true rl rh rm (by omega) (Nat.le_refl _) hb
      have hcl : h' ≤ (if vm.isSome then m else cap) := by split <;> omega
      obtain ⟨_, _, _, hsub⟩ := hrv.sub_list (ex' := slEx vm m h' ex xs.length) (cap' := if vm.isSome then m else cap) (sz := sz) (l := l) (hh := h') hq k2 (by omega) hcl (fun e => by
        cases vm with
        | some _ => simp only [slEx] at e; simpa using Nat.eq_of_beq_eq_true e
        | none =>
          simp only [slEx, Bool.and_eq_true] at e
          have e1 := hex e.1
          have e2 := Nat.eq_of_beq_eq_true e.2
          simp; omega)
      refine .pure h (hrun _ ?_) (.of_rv hsub)
      rw [hn]
      simp only [Instr.slice, Sem.run_bind, run_underlying hu, Result.andThen, k1, run_sizeOf' hs, Sem.run_pure]
  · rename_i id off len cap sz'
    rcases hd with ⟨rfl, rfl⟩ | ⟨rfl, el, rfl, hs⟩
    · cases e
    simp only [cond_false] at e
    have eo := ofO_ok e
    clear e
    obtain ⟨e, rfl, rfl⟩ := eo
    simp only [slHsl] at e
    generalize hq : Nat.beq sz sz' = q at e
    cases q
    · cases e
    simp only [cond_true] at e
    have := Nat.eq_of_beq_eq_true hq
    subst this
    cases hr with
    | @hsl _ b n _ _ _ c' _ hρ hlc hcap hn =>
    cases hb : slBounds len (cap.getD len) vl vh vm with
    | none => rw [hb] at e; cases e
    | some p =>
      obtain ⟨l, h', m⟩ := p
      rw [hb] at e
      dsimp only at e
      have hcg : cap.getD len ≤ c' ∧ len ≤ cap.getD len := by
        cases cap with
        | none => exact ⟨hlc, Nat.le_refl _⟩
        | some c => have := hcap c rfl; simp; omega
      obtain ⟨k1, k2, k3, k4, k5⟩ := slBounds_ok (P := P) (w := w) (cap' := c') true rl rh rm hcg.1 hcg.2 hb
      have hrun2 := hrun (.slice (if (if vm.isSome then m else c') = l then some ⟨b, off, none⟩ else some ⟨b, off + l * sz, none⟩) (h' - l) ((if vm.isSome then m else c') - l)) (by
        simp only [Instr.slice, Sem.run_bind, run_underlying hu, Result.andThen, k1, run_sizeOf' hs, Sem.run_pure, Option.map_some, add_none])
      generalize hq2 : (Nat.beq l m && !Nat.beq l 0) = q2 at e
      cases q2
      · simp only [cond_false, Option.some.injEq] at e
        subst e
        refine .pure h hrun2 (.of_rv ?_)
        have hoff : (if (if vm.isSome then m else c') = l then some (⟨b, off, none⟩ : Addr) else some ⟨b, off + l * sz, none⟩) = some ⟨b, off + l * sz, none⟩ := by
          by_cases he : (if vm.isSome then m else c') = l
          · rw [if_pos he]
            have hlm : l = m := by
              cases vm with
              | some _ => simp at he; exact he.symm
              | none => simp at he; have := k5 rfl; omega
            have : l = 0 := by
              subst hlm
              rw [beqT, Bool.true_and] at hq2
              cases l with
              | zero => rfl
              | succ l => simp at hq2
            subst this
            simp
          · rw [if_neg he]
        rw [hoff]
        have hmc : (if vm.isSome then m else c') ≤ c' := by split <;> omega
        have hhc : h' ≤ (if vm.isSome then m else c') := by split <;> omega
        refine .hsl hρ (by omega) (fun c hc => ?_) ?_
        · cases vm with
          | some _ => simp at hc ⊢; exact hc
          | none =>
            cases cap with
            | none => cases hc
            | some c2 =>
              have := hcap c2 rfl
              simp [capSub] at hc ⊢
              omega
        · have : l * sz + ((if vm.isSome then m else c') - l) * sz ≤ c' * sz := by
            rw [← Nat.add_mul]
            exact Nat.mul_le_mul_right _ (by omega)
          omega
      · simp only [cond_true, Option.some.injEq] at e
        subst e
        simp only [Bool.and_eq_true] at hq2
        have hlm := Nat.eq_of_beq_eq_true hq2.1
        refine .pure h hrun2 (.of_rv ?_)
        have h0 : h' - l = ([] : List V).length := by simp; omega
        rw [h0]
        have aux : ∀ b o c, Rv g (.list [] false) (.slice (some ⟨b, o, none⟩) ([] : List V).length c) := fun b o c =>
          .list (ex := false) 0 (fun _ _ => Go.undef) (by simp) (by simp) (fun e => by cases e) (fun i x j c e => by simp at e) (fun i x j c e => by simp at e)
        by_cases he : (if vm.isSome then m else c') = l
        · rw [if_pos he]; exact aux _ _ _
        · rw [if_neg he]; exact aux _ _ _
end Go.Vx
end
noncomputable section
open Go Go.RowKit
namespace Go.Vx
variable {P : Program} {comp : FuncId → Code → VCode} {g g' : G} {σ σ' : H} {w w' : World} {β : Nat → Option Nat} {lo lo' : Lo} {fr : List V} {A : Act}

theorem ofBytes_eq (l : List Nat) : ofBytes l = l.map fun b => V.int .u8 (.ofNat b) := by
  induction l with
  | nil => rfl
  | cons a l ih => simp [ofBytes, ih]

theorem sound_toBytes {d : Nat} {o : Oper} {x : Operand} {x' : Opd} {s t el : TypeId} (hs : P.underlying s = some .string) (ht : P.underlying t = some (.slice el)) (he : P.underlying el = some (.int .u8)) (hx : cOpd x = some x') (ho : o.op = .convert s t x) :
    Sound P comp d (.toBytes x') o := by
  intro g β σ lo fr A w v lo' σ' h e
  have hr := Rs.ev h.f hx
  simp only [evOp, opToBytes] at e
  generalize hv : x'.ev fr = vx at e hr
  cases vx <;> try (cases e; done)
  rename_i l
  simp only [OR.ok.injEq] at e
  obtain ⟨rfl, rfl, rfl⟩ := e
  obtain ⟨bs, hb, rfl⟩ := str_of hr rfl
  have hrun := run_bytes_of_string (P := P) w s t el bs hs ht he
  have hge := grownCap_ge w bs.size 0 el
  generalize hC : grownCap w bs.size 0 el = cap at hrun hge
  refine OpOk.frozen h (c := bytesRow bs cap) (e := el) (fz := ((bytesRow bs cap).size, (bytesRow bs cap).size + 1)) (x := .slice (some ⟨w.heap.size, 0, none⟩) bs.size cap)
    (w' := w.drew.alloc (.cells (bytesRow bs cap) el ((bytesRow bs cap).size, (bytesRow bs cap).size + 1))) ⟨rfl, rfl, rfl, rfl⟩ ?_ ?_
  · simp only [execOp, ho, hb, Sem.run_bind, hrun, Result.andThen, Sem.run_pure]
  · have hlen : (ofBytes (bs.data.toList.map UInt8.toNat)).length = bs.size := by simp [ofBytes_eq]
    rw [← hlen]
    have hcell : ∀ (i : Nat) (x : V) (j : Nat) (c : V), (ofBytes (bs.data.toList.map UInt8.toNat))[i]? = some x → x.cells[j]? = some c → ∃ z, (bytesRow bs cap)[0 + i * 1 + j]? = some z ∧ Rv (g.freeze w.heap.size (bytesRow bs cap)) c z := by
      intro i x j c hx hj
      rw [ofBytes_eq] at hx
      simp at hx
      obtain ⟨b, hb, rfl⟩ := hx
      have hj0 : j = 0 := by
        cases j with
        | zero => rfl
        | succ j => simp [V.cells] at hj
      subst hj0
      simp [V.cells] at hj
      subst hj
      have hi := (Array.getElem?_eq_some_iff.1 hb)
      refine ⟨.int .u8 b.toNat, ?_, .int _ _⟩
      have hlt := hi.1
      have h2 := hi.2
      have e0 : 0 + i * 1 + 0 = i := by omega
      rw [e0, bytesRow, Array.getElem?_append_left (by simpa using hlt)]
      simp [hb]
    refine .list 1 (fun i j => ((bytesRow bs cap)[0 + i * 1 + j]?).getD Go.undef) (fun x hx => ?_) (by omega) (fun e => by cases e) (fun i x j c hx hj => ?_) (fun i x j c hx hj => ?_)
    · rw [ofBytes_eq] at hx
      simp at hx
      obtain ⟨b, _, rfl⟩ := hx
      rfl
    · obtain ⟨z, hz, _⟩ := hcell i x j c hx hj
      rw [G.freeze_same, hz]; rfl
    · obtain ⟨z, hz, hzr⟩ := hcell i x j c hx hj
      rw [hz]; exact hzr
end Go.Vx
end
noncomputable section
open Go Go.RowKit
namespace Go.Vx
variable {P : Program} {comp : FuncId → Code → VCode} {g g' : G} {σ σ' : H} {w w' : World} {β : Nat → Option Nat} {lo lo' : Lo} {fr : List V} {A : Act}

theorem bytesOf_some : ∀ {cs : List V} {ns : List Nat}, bytesOf cs = some ns → cs = ns.map (fun n => V.int .u8 (.ofNat n)) ∧ ∀ n ∈ ns, n < 256
  | [], ns, h => by simp [bytesOf] at h; subst h; simp
  | c :: cs, ns, h => by
    unfold bytesOf at h
    split at h
    · rename_i n
      generalize hq : Nat.blt n 256 = q at h
      cases q
      · cases h
      simp only [cond_true] at h
      cases hb : bytesOf cs with
      | none => rw [hb] at h; cases h
      | some r =>
        rw [hb] at h
        simp only [Option.some.injEq] at h
        subst h
        obtain ⟨h1, h2⟩ := bytesOf_some hb
        refine ⟨by simp [h1], fun m hm => ?_⟩
        rcases List.mem_cons.1 hm with rfl | hm
        · exact blt_lit hq
        · exact h2 m hm
    · cases h

def strOf (ns : List Nat) : ByteArray := ⟨(ns.map UInt8.ofNat).toArray⟩
theorem strOf_rv {ns : List Nat} (h : ∀ n ∈ ns, n < 256) : Rv g (.str ns) (.string (strOf ns)) := by
  have : ns = (strOf ns).data.toList.map UInt8.toNat := by
    simp [strOf]
    apply List.ext_getElem
    · simp
    · intro i h1 h2
      simp
      exact (Nat.mod_eq_of_lt (h _ (List.getElem_mem _))).symm
  conv => lhs; rw [this]
  exact .str _

/-- The cells of a slice of bytes. -/
theorem bytesIn_ok (hw : Rw P comp g σ w) {v : V} {X : Value} {ns : List Nat} (hr : Rs g β v X) (h : bytesIn σ v = some ns) :
    (∀ n ∈ ns, n < 256) ∧ ((X = .slice none 0 0 ∧ ns = []) ∨ ∃ b off cap, X = .slice (some ⟨b, off, none⟩) ns.length cap ∧ ∀ j n, ns[j]? = some n → w.cell? ⟨b, off + j, none⟩ = some (.int .u8 (.ofNat n))) := by
  cases v <;> try (simp [bytesIn] at h; done)
  · simp [bytesIn] at h; subst h
    cases hr
    exact ⟨by simp, .inl ⟨rfl, rfl⟩⟩
  · rename_i xs ex
    simp only [bytesIn] at h
    obtain ⟨h1, h2⟩ := bytesOf_some h
    refine ⟨h2, .inr ?_⟩
    cases hr with
    | @list _ _ b o cap k vs hk hc he hv hr =>
    have hlen : xs.length = ns.length := by rw [h1]; simp
    refine ⟨b, o, cap, by rw [hlen], fun j n hn => ?_⟩
    have hx : xs[j]? = some (V.int .u8 (.ofNat n)) := by rw [h1]; simp [hn]
    have hk1 : k = 1 := by have := hk _ (List.mem_of_getElem? hx); simp [V.cells] at this; omega
    subst hk1
    have a1 := hw.frozen _ _ _ (hv j _ 0 _ hx rfl)
    have a2 := hr j _ 0 _ hx rfl
    have e0 : o + j * 1 + 0 = o + j := by omega
    rw [e0] at a1
    rw [a1]
    generalize vs j 0 = z at a2
    cases a2
    rfl
  · rename_i id off len cap sz
    simp only [bytesIn] at h
    cases ht : takeO len (getCells σ id) off with
    | none => rw [ht] at h; cases h
    | some cs =>
    rw [ht] at h
    dsimp only at h
    obtain ⟨h1, h2⟩ := bytesOf_some h
    refine ⟨h2, .inr ?_⟩
    cases hg : getCells σ id with
    | none => rw [hg] at ht; cases ht
    | some ds =>
    rw [hg] at ht
    simp only [takeO, skip_eq] at ht
    obtain ⟨t1, t2⟩ := takeN_some ht
    cases hr with
    | @hsl _ b n _ _ _ c' _ hρ hlc hcap hn =>
    obtain ⟨b', m, C, ty, r, k2, k3, k5, k4, k6, _⟩ := hw.cells hg
    obtain ⟨rfl, rfl⟩ := Prod.mk.inj (Option.some.inj (r.symm.trans hρ))
    have hlen : len = ns.length := by
      have := congrArg List.length h1
      rw [t2] at this
      simp at this t1
      omega
    refine ⟨b', off, c', by rw [hlen], fun j n hn => ?_⟩
    have hx : cs[j]? = some (V.int .u8 (.ofNat n)) := by rw [h1]; simp [hn]
    have hjl : j < len := by rw [hlen]; exact (List.getElem?_eq_some_iff.1 hn).1
    rw [t2, List.getElem?_take, if_pos hjl, List.getElem?_drop] at hx
    obtain ⟨z, hz, hzr⟩ := k4 _ _ hx
    rw [cell_of_obj k2, hz]
    cases hzr
    rfl

theorem sound_toStr {d : Nat} {o : Oper} {x : Operand} {x' : Opd} {s t el : TypeId} (hs : P.underlying s = some (.slice el)) (he : P.underlying el = some (.int .u8)) (ht : P.underlying t = some .string) (hx : cOpd x = some x') (ho : o.op = .convert s t x) :
    Sound P comp d (.toStr x') o := by
  intro g β σ lo fr A w v lo' σ' h e
  have hr := Rs.ev h.f hx
  simp only [evOp, opToStr] at e
  cases hb : bytesIn σ (x'.ev fr) with
  | none => rw [hb] at e; cases e
  | some ns =>
  rw [hb] at e
  simp only [OR.ok.injEq] at e
  obtain ⟨rfl, rfl, rfl⟩ := e
  obtain ⟨h1, h2⟩ := bytesIn_ok h.w hr hb
  refine .pure h (x := .string (strOf ns)) ?_ (.of_rv (strOf_rv h1))
  have hrun : (convert s t (A.eval x)).run P w = .ok (.string (strOf ns)) w := by
    rcases h2 with ⟨hX, rfl⟩ | ⟨b, off, cap, hX, hc⟩
    · rw [hX]
      have := run_convert_bytes_nil (P := P) w s el hs he 0 0 t ht
      rw [this]
      rfl
    · rw [hX]
      have := run_convert_bytes_back (P := P) w s t el ⟨b, off, none⟩ cap (ns.map UInt8.ofNat) hs he ht (fun j hj => by
        have hj' : j < ns.length := by simpa using hj
        rw [add_none, hc j ns[j] (List.getElem?_eq_getElem hj')]
        have := h1 ns[j] (List.getElem_mem _)
        simp [Nat.mod_eq_of_lt this])
      simp only [List.length_map] at this
      exact this
  simp only [execOp, ho, Sem.run_bind, hrun, Result.andThen, Sem.run_pure]
end Go.Vx
end
noncomputable section
open Go Go.RowKit
namespace Go.Vx
variable {P : Program} {comp : FuncId → Code → VCode} {g g' : G} {σ σ' : H} {w w' : World} {β : Nat → Option Nat} {lo lo' : Lo} {fr : List V} {A : Act}

theorem flatC_len {k : Nat} : ∀ {xs : List V}, (∀ x ∈ xs, x.cells.length = k) → (flatC xs).length = xs.length * k
  | [], _ => by simp [flatC]
  | x :: xs, h => by
    have h0 := h x (by simp)
    have ih := flatC_len (fun y hy => h y (List.mem_cons_of_mem _ hy))
    have : flatC (x :: xs) = x.cells ++ flatC xs := by cases x <;> rfl
    rw [this, List.length_append, ih, h0, List.length_cons, Nat.succ_mul, Nat.add_comm]

theorem flatC_get {k : Nat} : ∀ {xs : List V} {p : Nat} {c : V}, (∀ x ∈ xs, x.cells.length = k) → (flatC xs)[p]? = some c → ∃ i j x, xs[i]? = some x ∧ x.cells[j]? = some c ∧ p = i * k + j
  | [], p, c, _, h => by simp [flatC] at h
  | x :: xs, p, c, hk, h => by
    have h0 := hk x (by simp)
    have : flatC (x :: xs) = x.cells ++ flatC xs := by cases x <;> rfl
    rw [this, List.getElem?_append] at h
    by_cases hp : p < x.cells.length
    · rw [if_pos hp] at h
      exact ⟨0, p, x, rfl, h, by simp⟩
    · rw [if_neg hp] at h
      obtain ⟨i, j, y, h1, h2, h3⟩ := flatC_get (fun y hy => hk y (List.mem_cons_of_mem _ hy)) h
      exact ⟨i + 1, j, y, h1, h2, by rw [Nat.succ_mul]; omega⟩

theorem first_of (sz n : Nat) {b off len cap : Nat} {cs : List V} (hl : cs.length = n * sz) (h : ∀ j c, cs[j]? = some c → ∃ z, w.cell? ⟨b, off + j, none⟩ = some z ∧ Rv g c z) :
    ∃ C : List Value, (Builtin.firstCells sz n (.slice (some ⟨b, off, none⟩) len cap)).run P w = .ok C.toArray w ∧ Rvs g cs C := by
  refine ⟨(List.range cs.length).map fun j => (w.cell? ⟨b, off + j, none⟩).getD Go.undef, ?_, by simp, fun i v z hv hz => ?_⟩
  · refine run_firstCells_some w sz n ⟨b, off, none⟩ len cap _ (by simp [hl]) (fun j v hj => ?_)
    simp [List.getElem?_map] at hj
    obtain ⟨q, hq, rfl⟩ := hj
    have hq' := List.getElem?_eq_some_iff.1 hq
    obtain ⟨hlt, rfl⟩ := hq'
    simp at hlt
    obtain ⟨z, hz, _⟩ := h j _ (List.getElem?_eq_getElem hlt)
    simp [add_none, hz]
  · have hlt := (List.getElem?_eq_some_iff.1 hv).1
    obtain ⟨y, hy, hr⟩ := h i v hv
    simp [List.getElem?_map, hlt, hy] at hz
    subst hz
    exact hr

theorem srcCells_ok (hw : Rw P comp g σ w) {v : V} {X : Value} {cs : List V} {sz n : Nat} (hr : Rs g β v X) (h : srcCells σ sz n v = some cs) :
    cs.length = n * sz ∧ ∃ C : List Value, (Builtin.firstCells sz n X).run P w = .ok C.toArray w ∧ Rvs g cs C := by
  cases v <;> try (simp [srcCells] at h; done)
  · rename_i s
    simp only [srcCells] at h
    generalize hq : Nat.beq sz 1 = q at h
    cases q
    · cases h
    have := Nat.eq_of_beq_eq_true hq
    subst this
    simp only [cond_true] at h
    obtain ⟨bs, rfl, rfl⟩ := str_of hr rfl
    obtain ⟨t1, t2⟩ := takeN_some h
    simp [ofBytes_eq] at t1
    refine ⟨by rw [t2]; simp [ofBytes_eq]; omega, ((bs.extract 0 n).data.map fun b => Value.int .u8 b.toNat).toList, by simp [Builtin.firstCells]; apply Array.ext'; simp, ?_⟩
    rw [t2]
    refine ⟨by simp [ofBytes_eq], fun i v z hv hz => ?_⟩
    simp [ofBytes_eq, List.getElem?_take] at hv
    simp [List.getElem?_take] at hz
    obtain ⟨hi, a, ha, rfl⟩ := hv
    rw [ha] at hz
    simp [hi] at hz
    subst hz
    exact .int _ _
  · simp only [srcCells] at h
    generalize hq : Nat.beq n 0 = q at h
    cases q
    · cases h
    have := Nat.eq_of_beq_eq_true hq
    subst this
    simp at h
    subst h
    cases hr
    exact ⟨by simp, [], by simp [Builtin.firstCells], .nil _⟩
  · rename_i xs ex
    simp only [srcCells] at h
    generalize hq : (szOk sz xs && Nat.ble n xs.length) = q at h
    cases q
    · cases h
    simp only [Bool.and_eq_true] at hq
    have hle := Nat.le_of_ble_eq_true hq.2
    simp only [cond_true] at h
    obtain ⟨t1, t2⟩ := takeN_some h
    cases hr with
    | @list _ _ b o cap k vs hk hc he hv hr =>
    have hks : n = 0 ∨ k = sz := by
      cases xs with
      | nil => left; simp at hle; exact hle
      | cons x xs =>
        right
        have a1 := hk x (by simp)
        have a2 := Nat.eq_of_beq_eq_true hq.1
        omega
    have hl : cs.length = n * sz := by rw [t2]; simp; omega
    refine ⟨hl, first_of sz n hl (fun j c hj => ?_)⟩
    rw [t2, List.getElem?_take] at hj
    split at hj
    · rename_i hjn
      rcases hks with rfl | rfl
      · simp at hjn
      obtain ⟨i, j', x, h1, h2, h3⟩ := flatC_get hk hj
      have a1 := hw.frozen _ _ _ (hv i x j' c h1 h2)
      exact ⟨_, by rw [h3, ← Nat.add_assoc]; exact a1, hr i x j' c h1 h2⟩
    · cases hj
  · rename_i id off len cap sz'
    simp only [srcCells] at h
    generalize hq : (Nat.beq sz sz' && Nat.ble n len) = q at h
    cases q
    · cases h
    simp only [Bool.and_eq_true] at hq
    simp only [cond_true] at h
    have hle := Nat.le_of_ble_eq_true hq.2
    cases hg : getCells σ id with
    | none => rw [hg] at h; cases h
    | some ds =>
    rw [hg] at h
    simp only [takeO, skip_eq] at h
    obtain ⟨t1, t2⟩ := takeN_some h
    cases hr with
    | @hsl _ b m _ _ _ c' _ hρ hlc hcap hn =>
    obtain ⟨b', m, C, ty, r, k2, k3, k5, k4, k6, _⟩ := hw.cells hg
    obtain ⟨rfl, rfl⟩ := Prod.mk.inj (Option.some.inj (r.symm.trans hρ))
    have hl : cs.length = n * sz := by rw [t2]; simp at t1 ⊢; omega
    refine ⟨hl, first_of sz n hl (fun j c hj => ?_)⟩
    rw [t2, List.getElem?_take] at hj
    split at hj
    · rw [List.getElem?_drop] at hj
      obtain ⟨z, hz, hzr⟩ := k4 _ _ hj
      exact ⟨z, by rw [cell_of_obj k2]; exact hz, hzr⟩
    · cases hj
end Go.Vx
end
noncomputable section
open Go Go.RowKit
namespace Go.Vx
variable {P : Program} {comp : FuncId → Code → VCode} {g g' : G} {σ σ' : H} {w w' : World} {β : Nat → Option Nat} {lo lo' : Lo} {fr : List V} {A : Act}

theorem slLen_run {v : V} {X : Value} {n : Nat} (hr : Rs g β v X) (h : slLen v = some n) : (Builtin.lenOf X).run P w = .ok n w := by
  cases v <;> simp [slLen] at h <;> subst h
  · obtain ⟨bs, rfl, rfl⟩ := str_of hr rfl
    simp [Builtin.lenOf]
  · cases hr; simp [Builtin.lenOf]
  · cases hr; simp [Builtin.lenOf]
  · cases hr; simp [Builtin.lenOf]

/-- Cells laid into the block of a living number. -/
theorem St.write (h : St P comp g β σ lo fr A w) {id off : Nat} {cs vs q : List V} {W : List Value} {b n : Nat} (hg : getCells σ id = some cs) (hρ : g.ρ id = some (b, n)) (hv : Rvs g vs W) (ho : okcs vs = true) (hs : splice off cs vs = some q) :
    ∃ w', (storeCells ⟨b, off, none⟩ W).run P w = .ok () w' ∧ (∀ (v : V) (x : Value), Rs g β v x → ∀ r, r = .ok (.value x) w' → OpOk P comp g β σ w v lo (σ.set id (.cells q)) r) ∧ (∀ r, r = .ok .skip w' → OpOk P comp g β σ w .undef lo (σ.set id (.cells q)) r) := by
  obtain ⟨b', m, C, ty, r, h2, h3, h5, h4, h6, hlive⟩ := h.w.cells hg
  obtain ⟨rfl, rfl⟩ := Prod.mk.inj (Option.some.inj (r.symm.trans hρ))
  obtain ⟨k1, k2, k3⟩ := spliced (g := g) (C := C.toList) ⟨by simp [h3]; omega, fun j x hx => let ⟨z, hz, hr⟩ := h4 j x hx; ⟨z, by simpa using hz, hr⟩⟩ hv hs
  have hone := okcs_one hv ho
  have hst := run_storeCells_at (P := P) b' off ty W 0 C w h2 (by simpa using k1) hone
  simp only [Nat.add_zero] at hst
  have hoth : ∀ k, k ≠ b' → (w.setRow b' (C.toList.take off ++ W ++ C.toList.drop (off + W.length)).toArray).heap[k]? = w.heap[k]? := fun k hk => setRow_other w b' k _ hk
  have hlv : ∀ k, Live g (σ.set id (.cells q)) k → Live g σ k := by
    rintro k ⟨i, m', hi, hb'⟩
    rw [H.get_set] at hi
    by_cases e1 : id = i
    · subst e1; exact ⟨id, m', by simp [getCells_some hg], hb'⟩
    · simp [e1] at hi; exact ⟨i, m', hi, hb'⟩
  have hro : Ro P comp g (.cells q) b' m (w.setRow b' (C.toList.take off ++ W ++ C.toList.drop (off + W.length)).toArray) :=
    ⟨_, ty, setRow_heap w b' C _ ty (0, 0) h2, by simp at k1 ⊢; omega, by omega, fun j x hx => let ⟨z, hz, hr⟩ := k3 j x hx; ⟨z, by simpa using hz, hr⟩⟩
  have hw' := h.w.put (by simp [getCells_some hg]) r (by simp) hoth hro
  have hb' := h.b.same (.refl g) (fun k hl _ => hlv k hl) (fun _ _ hp _ o => hp o) (fun t k e' => hoth k (by intro e''; subst e''; exact (h.b.apart t k e').1 hlive))
  have hfrm : Frm g σ (isBox β) w (w.setRow b' (C.toList.take off ++ W ++ C.toList.drop (off + W.length)).toArray) := ⟨rfl, rfl, rfl, by simp, fun k _ hk _ _ => hoth k (by intro e'; subst e'; exact hk hlive)⟩
  exact ⟨_, hst, fun v x hvx r hr => ⟨x, _, g, .inl hr, .refl g, hvx, hw', hb', hfrm, fun b hl _ => hlv b hl, fun _ _ h _ => h⟩, fun r hr => ⟨_, _, g, .inr ⟨hr, rfl⟩, .refl g, .of_rv (.undef _), hw', hb', hfrm, fun b hl _ => hlv b hl, fun _ _ h _ => h⟩⟩

theorem first0 {v : V} {X : Value} {n : Nat} (sz : Nat) (hr : Rs g β v X) (h : slLen v = some n) : (Builtin.firstCells sz 0 X).run P w = .ok #[] w := by
  cases v <;> simp [slLen] at h <;> subst h
  · obtain ⟨bs, rfl, rfl⟩ := str_of hr rfl
    simp [Builtin.firstCells]
  · cases hr; simp [Builtin.firstCells]
  · cases hr; simp [Builtin.firstCells, loadCells, loadCellsFrom]
  · cases hr; simp [Builtin.firstCells, loadCells, loadCellsFrom]

theorem sound_copy {d : Nat} {o : Oper} {x y : Operand} {x' y' : Opd} {ats : Array TypeId} {t el : TypeId} {sz : Nat} (ht : ats[0]? = some t) (hu : P.underlying t = some (.slice el)) (hz : cSize P el = some sz) (hx : cOpd x = some x') (hy : cOpd y = some y')
    (ho : o.op = .call { callee := .builtin .copy, args := #[x, y], argTypes := ats }) : Sound P comp d (.copy sz x' y') o := by
  intro g β σ lo fr A w v lo' σ' h e
  have hrx := Rs.ev h.f hx
  have hry := Rs.ev h.f hy
  simp only [evOp, opCopy] at e
  generalize hvx : x'.ev fr = vx at e hrx
  generalize hvy : y'.ev fr = vy at e hry
  cases hn : slLen vy with
  | none => rw [hn] at e; cases e
  | some n =>
  rw [hn] at e; dsimp only at e
  cases hm : lenOf σ 0 vx with
  | none => rw [hm] at e; cases e
  | some m =>
  rw [hm] at e; dsimp only at e
  have hmin : (bif Nat.ble n m then n else m) = Nat.min n m := by
    cases hq : Nat.ble n m
    · have : ¬ n ≤ m := fun hle => by rw [Nat.ble_eq_true_of_le hle] at hq; cases hq
      show m = min n m
      omega
    · have := Nat.le_of_ble_eq_true hq
      show n = min n m
      omega
  rw [hmin] at e
  have hlen := slLen_run (P := P) (w := w) hry hn
  generalize hX : A.eval x = X at hrx
  generalize hY : A.eval y = Y at hry hlen
  have hex : ∀ (r : Result Value), (Builtin.copy_ ats o.type #[X, Y]).run P w = r → (execOp A.eval o).run P w = r.andThen fun v w => .ok (.value v) w := by
    intro r hr
    simp only [execOp, ho, resolve, invoke, builtin, Sem.run_bind, Sem.run_pure, Result.andThen]
    simp [hX, hY, hr]
  have zero : ∀ (b : Option Addr) (c : Nat), X = .slice b m c → (bif Nat.beq (Nat.min n m) 0 then OR.ok (.int .i64 0) lo σ else .fail) = .ok v lo' σ' → OpOk P comp g β σ w v lo' σ' ((execOp A.eval o).run P w) := by
    intro b c hXb e
    generalize hq : Nat.beq (Nat.min n m) 0 = q at e
    cases q
    · cases e
    simp only [cond_true, OR.ok.injEq] at e
    obtain ⟨rfl, rfl, rfl⟩ := e
    have h0 := Nat.eq_of_beq_eq_true hq
    have hf := first0 (P := P) (w := w) sz hry hn
    refine .pure h (x := .int .i64 0) ?_ (.of_rv (.int _ _))
    rw [hex (.ok (.int .i64 0) w)]
    · rfl
    · subst hXb
      cases b <;> simp [Builtin.copy_, ht, Sem.run_bind, run_underlying hu, hlen, h0, run_sizeOf' hz, hf, Result.andThen, goInt, storeCells]
  cases vx <;> try (simp [lenOf] at hm; done)
  · simp [lenOf] at hm; subst hm
    cases hrx
    exact zero none 0 rfl e
  · simp [lenOf] at hm; subst hm
    cases hrx
    exact zero _ _ rfl e
  · rename_i id off len cap sz'
    simp [lenOf] at hm; subst hm
    simp only [copyTo] at e
    generalize hq : Nat.beq sz sz' = q at e
    cases q
    · cases e
    simp only [cond_true] at e
    cases hs : srcCells σ sz (Nat.min n len) vy with
    | none => rw [hs] at e; cases e
    | some new =>
    rw [hs] at e; dsimp only at e
    cases hg : getCells σ id with
    | none => rw [hg] at e; cases e
    | some cs =>
    rw [hg] at e; dsimp only at e
    generalize hq2 : okcs new = q2 at e
    cases q2
    · cases e
    simp only [cond_true] at e
    cases hp : splice off cs new with
    | none => rw [hp] at e; cases e
    | some r =>
    rw [hp] at e
    simp only [OR.ok.injEq] at e
    obtain ⟨rfl, rfl, rfl⟩ := e
    obtain ⟨k1, C, k2, k3⟩ := srcCells_ok (P := P) h.w hry hs
    cases hrx with
    | @hsl _ b m' _ _ _ c' _ hρ hlc hcap hnn =>
    obtain ⟨w', s1, s2, _⟩ := h.write hg hρ k3 hq2 hp
    refine s2 _ (.int .i64 (Nat.min n len)) (.of_rv (.int _ _)) _ ?_
    rw [hex (.ok (.int .i64 (Nat.min n len)) w')]
    · rfl
    · simp [Builtin.copy_, ht, Sem.run_bind, run_underlying hu, hlen, run_sizeOf' hz, k2, s1, Result.andThen, goInt]
end Go.Vx
end
noncomputable section
open Go Go.RowKit
namespace Go.Vx
variable {P : Program} {comp : FuncId → Code → VCode} {g g' : G} {σ σ' : H} {w w' : World} {β : Nat → Option Nat} {lo lo' : Lo} {fr : List V} {A : Act}

theorem nextcap_le {need c : Nat} (h : c < need) : Builtin.nextslicecap need c ≤ 2 * need + 1000 := by
  unfold Builtin.nextslicecap
  split
  · omega
  · split
    · omega
    · rw [growBy_four]
      repeat' split
      all_goals omega

/-- An append that grows. -/
theorem run_append_grows {ats : Array TypeId} {t u ty e : TypeId} {i : TypeInfo} {z X Y : Value} {base : Option Addr} {sLen sCap n : Nat} {olds news : Array Value} {du : TypeDesc}
    (h0 : ats[0]? = some t) (h1 : ats[1]? = some u) (ht : P.underlying t = some (.slice e)) (hu : P.underlying u = some du) (hdu : ∀ k, du ≠ .int k) (hi : P.info? e = some i) (hz : i.zero = some z)
    (hX : X = .slice base sLen sCap) (hn : (Builtin.lenOf Y).run P w = .ok n w) (ho : (Builtin.firstCells i.size sLen X).run P w.drew = .ok olds w.drew) (hnew : (Builtin.firstCells i.size n Y).run P w.drew = .ok news w.drew)
    (hg : sCap < sLen + n) (hm : sLen + n ≤ 16777216) (hb : i.bytes ≤ 65536) :
    (Builtin.append_ ats ty #[X, Y]).run P w = .ok (.slice (some ⟨w.heap.size, 0, none⟩) (sLen + n) (grownCap w (sLen + n) sCap e)) (w.drew.alloc (.cells (olds ++ news ++ Builtin.zeroCells z.cells (grownCap w (sLen + n) sCap e - (sLen + n))) e)) := by
  subst hX
  have hint : (match du with | .int _ => true | _ => false) = false := by
    cases du <;> first | rfl | exact absurd rfl (hdu _)
  have hn' : ¬ (sLen + n ≤ sCap) := by omega
  have h63' : ¬ (9223372036854775807 < ((sLen : Int) + (n : Int))) := by omega
  have h48 := nextcap_le hg
  have h48' : ¬ (281474976710656 < Builtin.nextslicecap (sLen + n) sCap * i.bytes) := by
    have : Builtin.nextslicecap (sLen + n) sCap * i.bytes ≤ 33555432 * 65536 := Nat.mul_le_mul (by omega) hb
    omega
  simp [Builtin.append_, h0, h1, run_underlying ht, run_underlying hu, sizeOf, typeInfo, zeroValue, hi, hz, hn, hint, hn', h63', h48', Question.forced, ho, hnew, newRow, grownCap, Result.andThen]

/-- An append that has room. -/
theorem run_append_fits {ats : Array TypeId} {t u ty e : TypeId} {i : TypeInfo} {X Y : Value} {base : Option Addr} {sLen sCap n : Nat} {news : Array Value} {du : TypeDesc}
    (h0 : ats[0]? = some t) (h1 : ats[1]? = some u) (ht : P.underlying t = some (.slice e)) (hu : P.underlying u = some du) (hdu : ∀ k, du ≠ .int k) (hi : P.info? e = some i)
    (hX : X = .slice base sLen sCap) (hn : (Builtin.lenOf Y).run P w = .ok n w) (hnew : (Builtin.firstCells i.size n Y).run P w = .ok news w)
    (hg : sLen + n ≤ sCap) (hs : ∀ a, base = some a → (storeCells (a.add (sLen * i.size)) news.toList).run P w = .ok () w') (hs0 : base = none → w' = w) :
    (Builtin.append_ ats ty #[X, Y]).run P w = .ok (.slice base (sLen + n) sCap) w' := by
  subst hX
  have hint : (match du with | .int _ => true | _ => false) = false := by
    cases du <;> first | rfl | exact absurd rfl (hdu _)
  cases base with
  | none =>
    rw [hs0 rfl]
    simp [Builtin.append_, h0, h1, run_underlying ht, run_underlying hu, sizeOf, typeInfo, hi, hn, hint, hg, hnew, Result.andThen]
  | some a =>
    have hst := hs a rfl
    simp [Builtin.append_, h0, h1, run_underlying ht, run_underlying hu, sizeOf, typeInfo, hi, hn, hint, hg, hnew, hst, Result.andThen]
end Go.Vx
end
noncomputable section
open Go Go.RowKit
namespace Go.Vx
variable {P : Program} {comp : FuncId → Code → VCode} {g g' : G} {σ σ' : H} {w w' : World} {β : Nat → Option Nat} {lo lo' : Lo} {fr : List V} {A : Act}

theorem Live.of_del {id b : Nat} (h : Live g (σ.del id) b) : Live g σ b := by
  obtain ⟨i, n, hi, hr⟩ := h
  rw [H.get_del] at hi
  by_cases e : id = i
  · simp [e] at hi
  · simp [e] at hi; exact ⟨i, n, hi, hr⟩
theorem not_live_del (hw : Rw P comp g σ w) {id b n : Nat} (hi : (σ.get id).isSome = true) (hr : g.ρ id = some (b, n)) : ¬ Live g (σ.del id) b := by
  rintro ⟨i, m, h1, h2⟩
  rw [H.get_del] at h1
  by_cases e : id = i
  · simp [e] at h1
  · simp [e] at h1
    exact e (hw.inj id i b n m hi h1 hr h2)
theorem St.del (h : St P comp g β σ lo fr A w) (id : Nat) : St P comp g β (σ.del id) lo fr A w :=
  ⟨h.f, ⟨h.b.boxes, fun t b e => ⟨fun hl => (h.b.apart t b e).1 hl.of_del, (h.b.apart t b e).2⟩, h.b.inj⟩, h.w.del id⟩
theorem OpOk.of_del {id : Nat} {v : V} {r : Result Next} (h : OpOk P comp g β (σ.del id) w v lo' σ' r) : OpOk P comp g β σ w v lo' σ' r := by
  obtain ⟨x, w', g', hr, hle, hv, hw, hb, hf, hl, hp⟩ := h
  exact ⟨x, w', g', hr, hle, hv, hw, hb, ⟨hf.os, hf.tape, hf.output, hf.size, fun k hk hn hb hp => hf.block k hk (fun hl => hn hl.of_del) hb hp⟩, fun b h1 h2 => (hl b h1 h2).of_del, fun b h1 h2 h3 => hp b h1 h2 (fun hl => h3 hl.of_del)⟩

/-- The value of an append that grows. -/
theorem OpOk.grown (h : St P comp g β σ lo fr A w) {e : TypeId} {n cap sz : Nat} {cs : List V} {olds news : List Value} {z : Array Value} {r : Result Next} {w' : World} (hz : z.size = sz) (hc : Rvs g cs (olds ++ news)) (hl : cs.length = n * sz) (hcap : n ≤ cap)
    (hw' : w' = w.drew.alloc (.cells (olds.toArray ++ news.toArray ++ Builtin.zeroCells z (cap - n)) e)) (hr : r = .ok (.value (.slice (some ⟨w.heap.size, 0, none⟩) n cap)) w') :
    OpOk P comp g β σ w (.hsl σ.next 0 n none sz) lo (σ.new (.cells cs)) r := by
  have hsz : (olds.toArray ++ news.toArray ++ Builtin.zeroCells z (cap - n)).size = cap * sz := by
    have := hc.1
    simp at this
    simp [size_zeroCells, hz]
    rw [Nat.sub_mul]
    have : n * sz ≤ cap * sz := Nat.mul_le_mul_right _ hcap
    omega
  have hle := G.le_bind (g := g) (w.heap.size, cap * sz) (h.w.fresh _ (Nat.le_refl _)).1
  refine OpOk.new h (gob := .cells (olds.toArray ++ news.toArray ++ Builtin.zeroCells z (cap - n)) e) (n := cap * sz) (w' := w') (by subst hw'; exact ⟨rfl, rfl, rfl, rfl⟩) hr ?_ (.hsl (G.bind_same _ _ _) hcap (fun c hc => by cases hc) (by simp))
  refine ⟨_, e, by rw [hw']; exact World.alloc_heap_new w.drew _, hsz, ?_, fun j x hx => ?_⟩
  · rw [hl]; exact Nat.mul_le_mul_right _ hcap
  · obtain ⟨y, hy, hyr⟩ := hc.get hx
    refine ⟨y, ?_, hyr.mono hle⟩
    have hlt := (List.getElem?_eq_some_iff.1 hy).1
    rw [Array.getElem?_append_left (by simpa using hlt)]
    simpa using hy
end Go.Vx
end
noncomputable section
open Go Go.RowKit
namespace Go.Vx
variable {P : Program} {comp : FuncId → Code → VCode} {g g' : G} {σ σ' : H} {w w' : World} {β : Nat → Option Nat} {lo lo' : Lo} {fr : List V} {A : Act}

theorem cApp_some {e : TypeId} {s : Nat} (h : cApp P e = some s) : ∃ it Z, P.info? e = some it ∧ it.zero = some Z ∧ it.size = s ∧ s ≠ 0 ∧ it.bytes ≤ 65536 ∧ ∃ z, cZero P e = some z ∧ z.cells.length = s := by
  unfold cApp at h
  cases hi : P.info? e with
  | none => rw [hi] at h; cases h
  | some it =>
  rw [hi] at h
  cases hz : cZero P e with
  | none => rw [hz] at h; cases h
  | some z =>
  rw [hz] at h
  simp only [Option.bind_eq_bind, Option.bind_some] at h
  split at h
  · cases h
  · rename_i hq
    simp at hq h
    subst h
    obtain ⟨it', Z, h1, h2, _⟩ := cZero_some hz
    rw [hi] at h1; cases h1
    exact ⟨it, Z, rfl, h2, rfl, hq.1.1, hq.1.2, z, rfl, hq.2⟩

/-- What all appends of cells have in common. -/
structure AppOp (P : Program) (w : World) (ats : Array TypeId) (t u e : TypeId) (i : TypeInfo) (Z : Value) (du : TypeDesc) (Y : Value) (n : Nat) : Prop where
  h0 : ats[0]? = some t
  h1 : ats[1]? = some u
  ht : P.underlying t = some (.slice e)
  hu : P.underlying u = some du
  hdu : ∀ k, du ≠ .int k
  hi : P.info? e = some i
  hz : i.zero = some Z
  hZ : Z.cells.size = i.size
  hb : i.bytes ≤ 65536
  hn : (Builtin.lenOf Y).run P w = .ok n w

theorem app_grow {ats : Array TypeId} {t u e ty : TypeId} {i : TypeInfo} {Z X Y : Value} {du : TypeDesc} {n sLen sCap : Nat} {base : Option Addr} {old new : List V} {OL NW : List Value} {v : V} {r : Result Next}
    (h : St P comp g β σ lo fr A w) (K : AppOp P w ats t u e i Z du Y n) (hX : X = .slice base sLen sCap) (hg : sCap < sLen + n)
    (ho : (Builtin.firstCells i.size sLen X).run P w.drew = .ok OL.toArray w.drew) (hov : Rvs g old OL) (hol : old.length = sLen * i.size)
    (hnw : (Builtin.firstCells i.size n Y).run P w.drew = .ok NW.toArray w.drew) (hnv : Rvs g new NW) (hnl : new.length = n * i.size)
    (e1 : appFresh σ (sLen + n) i.size (some old) new = some (v, σ')) (hr : r = ((Builtin.append_ ats ty #[X, Y]).run P w).andThen fun v w => .ok (.value v) w) : OpOk P comp g β σ w v lo σ' r := by
  simp only [appFresh] at e1
  generalize hq : Nat.ble (sLen + n) 16777216 = q at e1
  cases q
  · cases e1
  simp only [cond_true, Option.some.injEq, Prod.mk.injEq] at e1
  obtain ⟨rfl, rfl⟩ := e1
  have hm := Nat.le_of_ble_eq_true hq
  have hrun := run_append_grows (P := P) (ty := ty) K.h0 K.h1 K.ht K.hu K.hdu K.hi K.hz hX K.hn ho hnw hg hm K.hb
  rw [hrun] at hr
  exact OpOk.grown h K.hZ (hov.append hnv) (by simp [hol, hnl, Nat.add_mul]) (grownCap_ge w (sLen + n) sCap e) rfl hr
end Go.Vx
end
noncomputable section
open Go Go.RowKit
namespace Go.Vx
variable {P : Program} {comp : FuncId → Code → VCode} {g g' : G} {σ σ' : H} {w w' : World} {β : Nat → Option Nat} {lo lo' : Lo} {fr : List V} {A : Act}

theorem isSl_slice {v : V} {X : Value} (hr : Rs g β v X) (h : isSl v = true) : ∃ base l c, X = .slice base l c ∧ l ≤ c := by
  cases v <;> try (cases h; done)
  · cases hr; exact ⟨_, _, _, rfl, Nat.le_refl _⟩
  · cases hr with
    | list k vs hk hc he hv hr => exact ⟨_, _, _, rfl, hc⟩
  · cases hr with
    | hsl h hl hc hn => exact ⟨_, _, _, rfl, hl⟩

theorem Rw.drew (h : Rw P comp g σ w) : Rw P comp g σ w.drew := h.same (Nat.le_refl _) (fun _ _ => rfl)

/-- An append of unknown capacity that finds room. -/
theorem app_in {ats : Array TypeId} {t u e ty_ : TypeId} {i : TypeInfo} {Z X Y : Value} {du : TypeDesc} {n len c' id b m : Nat} {old new cs : List V} {NW : List Value} {v : V} {r : Result Next}
    (h : St P comp g β σ lo fr A w) (K : AppOp P w ats t u e i Z du Y n) (hg : getCells σ id = some cs) (hρ : g.ρ id = some (b, m)) (hX : X = .slice (some ⟨b, 0, none⟩) len c') (hle : len + n ≤ c') (hmn : c' * i.size ≤ m)
    (ho : old = cs.take (len * i.size)) (hol : len * i.size ≤ cs.length) (hnw : (Builtin.firstCells i.size n Y).run P w = .ok NW.toArray w) (hnv : Rvs g new NW) (hnl : new.length = n * i.size) (hok : okcs new = true)
    (e1 : appFresh (σ.del id) (len + n) i.size (some old) new = some (v, σ')) (hr : r = ((Builtin.append_ ats ty_ #[X, Y]).run P w).andThen fun v w => .ok (.value v) w) : OpOk P comp g β σ w v lo σ' r := by
  simp only [appFresh] at e1
  generalize hq : Nat.ble (len + n) 16777216 = q at e1
  cases q
  · cases e1
  simp only [cond_true, Option.some.injEq, Prod.mk.injEq] at e1
  obtain ⟨rfl, rfl⟩ := e1
  obtain ⟨b', m', C, ty, r', h2, h3, h5, h4, h6, hlive⟩ := h.w.cells hg
  obtain ⟨rfl, rfl⟩ := Prod.mk.inj (Option.some.inj (r'.symm.trans hρ))
  have hsome : (σ.get id).isSome = true := by simp [getCells_some hg]
  have hnd := not_live_del h.w hsome r'
  have hNW : NW.length = n * i.size := by rw [← hnv.1]; exact hnl
  have hone := okcs_one hnv hok
  have hfit : len * i.size + NW.length ≤ C.size := by
    rw [hNW, ← Nat.add_mul, h3]
    exact Nat.le_trans (Nat.mul_le_mul_right _ hle) hmn
  have hst := run_storeCells_at (P := P) b' (len * i.size) ty NW 0 C w h2 (by simpa using hfit) hone
  simp only [Nat.add_zero] at hst
  have hoth : ∀ k, k ≠ b' → (w.setRow b' (C.toList.take (len * i.size) ++ NW ++ C.toList.drop (len * i.size + NW.length)).toArray).heap[k]? = w.heap[k]? := fun k hk => setRow_other w b' k _ hk
  have hrun := run_append_fits (P := P) (ty := ty_) (w' := w.setRow b' (C.toList.take (len * i.size) ++ NW ++ C.toList.drop (len * i.size + NW.length)).toArray) (base := some ⟨b', 0, none⟩) (X := X) K.h0 K.h1 K.ht K.hu K.hdu K.hi hX K.hn hnw hle (fun a ha => by cases ha; rw [add_none]; simpa using hst) (fun e => by cases e)
  rw [hrun] at hr
  have hw1 := (h.w.del id).other hnd h6 (by simp) hoth
  have hle' := G.le_bind (g := g) (b', m') (h.w.fresh _ (Nat.le_refl _)).1
  have hro : Ro P comp (g.bind σ.next (b', m')) (.cells (old ++ new)) b' m' (w.setRow b' (C.toList.take (len * i.size) ++ NW ++ C.toList.drop (len * i.size + NW.length)).toArray) := by
    refine ⟨_, ty, setRow_heap w b' C _ ty (0, 0) h2, by simp; omega, ?_, fun j x hx => ?_⟩
    · rw [ho]; simp [hnl]
      have : len * i.size + n * i.size ≤ c' * i.size := by rw [← Nat.add_mul]; exact Nat.mul_le_mul_right _ hle
      omega
    · rw [List.getElem?_append] at hx
      have hol' : old.length = len * i.size := by rw [ho]; simp; omega
      rw [hol'] at hx
      have hCl : len * i.size ≤ C.size := by omega
      split at hx
      · rename_i hj
        rw [ho, List.getElem?_take, if_pos hj] at hx
        obtain ⟨z, hz, hzr⟩ := h4 j x hx
        refine ⟨z, ?_, hzr.mono hle'⟩
        simp only [List.getElem?_toArray, List.append_assoc]
        rw [List.getElem?_append_left (by simp; omega), List.getElem?_take, if_pos hj]
        simpa using hz
      · rename_i hj
        obtain ⟨z, hz, hzr⟩ := hnv.get hx
        refine ⟨z, ?_, hzr.mono hle'⟩
        have hlt := (List.getElem?_eq_some_iff.1 hz).1
        simp only [List.getElem?_toArray, List.append_assoc]
        rw [List.getElem?_append_right (by simp; omega), List.getElem?_append_left (by simp; omega)]
        rw [← hz]
        congr 1
        simp
        omega
  have hw2 := hw1.add (b := b') (n := m') hnd h6 hro
  have hlv : ∀ k, Live (g.bind σ.next (b', m')) ((σ.del id).new (.cells (old ++ new))) k → Live g σ k := by
    rintro k ⟨i', m2, hi, hk⟩
    by_cases e : i' = σ.next
    · subst e; simp at hk; rw [← hk.1]; exact hlive
    · rw [G.bind_other _ e] at hk
      rw [H.get_new] at hi
      simp [Ne.symm e] at hi
      exact Live.of_del ⟨i', m2, hi, hk⟩
  refine ⟨_, _, _, .inl hr, hle', .of_rv ?_, hw2, h.b.same hle' (fun k hl _ => hlv k hl) (fun k _ hp _ o => hp o) (fun t k e' => hoth k (by intro e''; subst e''; exact (h.b.apart t k e').1 hlive)), ⟨rfl, rfl, rfl, by simp, fun k _ hk _ _ => hoth k (by intro e'; subst e'; exact hk hlive)⟩, fun k hl _ => hlv k hl, fun k _ hp _ o => hp o⟩
  exact .hsl (G.bind_same _ _ _) hle (fun c hc => by cases hc) (by simpa using hmn)

theorem app_ok {ats : Array TypeId} {t u e ty : TypeId} {i : TypeInfo} {Z X Y : Value} {du : TypeDesc} {n : Nat} {new : List V} {vx vy v : V} {r : Result Next}
    (h : St P comp g β σ lo fr A w) (K : AppOp P w ats t u e i Z du Y n) (hX : Rs g β vx X) (hY : Rs g β vy Y) (hn : slLen vy = some n) (hs : srcCells σ i.size n vy = some new) (hok : okcs new = true)
    (e1 : appV σ i.size vx n new = some (v, σ')) (hr : r = ((Builtin.append_ ats ty #[X, Y]).run P w).andThen fun v w => .ok (.value v) w) : OpOk P comp g β σ w v lo σ' r := by
  obtain ⟨hnl, NW, hnw, hnv⟩ := srcCells_ok (P := P) h.w hY hs
  obtain ⟨_, NW', hnw', hnv'⟩ := srcCells_ok (P := P) h.w.drew hY hs
  unfold appV at e1
  generalize hq : Nat.beq n 0 = q at e1
  cases q
  · simp only [cond_false] at e1
    cases vx <;> try (cases e1; done)
    · cases hX
      dsimp only at e1
      refine app_grow (sLen := 0) (sCap := 0) h K rfl ?_ (OL := []) (old := []) (by simp [Builtin.firstCells]) (.nil _) (by simp) hnw' hnv' hnl (by simpa using e1) hr
      have : n ≠ 0 := by intro e; subst e; cases hq
      omega
    · rename_i xs ex
      dsimp only at e1
      cases ex
      · cases e1
      simp only [cond_true] at e1
      cases ho : srcCells σ i.size xs.length (.list xs true) with
      | none => rw [ho] at e1; cases e1
      | some old =>
      rw [ho] at e1
      obtain ⟨k1, OL, k2, k3⟩ := srcCells_ok (P := P) h.w.drew hX ho
      have hnz : n ≠ 0 := by intro e; subst e; cases hq
      cases hX with
      | @list _ _ b o cap k vs hk hc he hv hrr =>
      have := he rfl
      subst this
      exact app_grow h K rfl (by omega) k2 k3 k1 hnw' hnv' hnl e1 hr
    · rename_i id off len cap sz'
      dsimp only at e1
      have hnz : n ≠ 0 := by intro e; subst e; cases hq
      generalize hq2 : Nat.beq i.size sz' = q2 at e1
      cases q2
      · cases e1
      have := Nat.eq_of_beq_eq_true hq2
      subst this
      simp only [cond_true] at e1
      have hXr : Rv g (.hsl id off len cap i.size) X := hX
      cases hX with
      | @hsl _ b m _ _ _ c' _ hρ hlc hcap hmn =>
      cases cap with
      | some c =>
        have := hcap c rfl
        subst this
        simp only [appHsl] at e1
        generalize hq3 : Nat.ble (len + n) c' = q3 at e1
        cases q3
        · simp only [cond_false] at e1
          cases ho : srcCells σ i.size len (.hsl id off len (some c') i.size) with
          | none => rw [ho] at e1; cases e1
          | some old =>
          rw [ho] at e1
          obtain ⟨k1, OL, k2, k3⟩ := srcCells_ok (β := β) (P := P) h.w.drew (.of_rv hXr) ho
          have : ¬ len + n ≤ c' := fun hle => by rw [Nat.ble_eq_true_of_le hle] at hq3; cases hq3
          exact app_grow h K rfl (by omega) k2 k3 k1 hnw' hnv' hnl e1 hr
        · simp only [cond_true, appIn] at e1
          cases hg : getCells σ id with
          | none => rw [hg] at e1; cases e1
          | some cs =>
          rw [hg] at e1; dsimp only at e1
          cases hp : splice (off + len * i.size) cs new with
          | none => rw [hp] at e1; cases e1
          | some q =>
          rw [hp] at e1
          simp only [Option.some.injEq, Prod.mk.injEq] at e1
          obtain ⟨rfl, rfl⟩ := e1
          obtain ⟨w', s1, s2, _⟩ := h.write hg hρ hnv hok hp
          have hle := Nat.le_of_ble_eq_true hq3
          have hrun := run_append_fits (P := P) (ty := ty) (w' := w') (base := some ⟨b, off, none⟩) (X := .slice (some ⟨b, off, none⟩) len c') K.h0 K.h1 K.ht K.hu K.hdu K.hi rfl K.hn hnw hle (fun a ha => by cases ha; rw [add_none]; simpa using s1) (fun e => by cases e)
          rw [hrun] at hr
          exact s2 _ _ (.of_rv (.hsl hρ hle (fun c hc => by cases hc; rfl) hmn)) _ hr
      | none =>
        simp only [appHsl] at e1
        generalize hq3 : Nat.beq off 0 = q3 at e1
        cases q3
        · cases e1
        have := Nat.eq_of_beq_eq_true hq3
        subst this
        simp only [cond_true] at e1
        cases ho : srcCells σ i.size len (.hsl id 0 len none i.size) with
        | none => rw [ho] at e1; cases e1
        | some old =>
        rw [ho] at e1
        obtain ⟨k1, OL, k2, k3⟩ := srcCells_ok (β := β) (P := P) h.w.drew (.of_rv hXr) ho
        by_cases hgr : c' < len + n
        · exact (app_grow (h.del id) K rfl hgr k2 k3 k1 hnw' hnv' hnl e1 hr).of_del
        · have hle : len + n ≤ c' := by omega
          cases hg : getCells σ id with
          | none => simp [srcCells, hg, takeO] at ho
          | some cs =>
          have holdl : old = cs.take (len * i.size) ∧ len * i.size ≤ cs.length := by
            simp only [srcCells, hg, takeO, skip_eq, List.drop_zero] at ho
            rw [beqT, Nat.ble_eq_true_of_le (Nat.le_refl len)] at ho
            simp only [Bool.and_self, cond_true] at ho
            obtain ⟨t1, t2⟩ := takeN_some ho
            exact ⟨t2, t1⟩
          exact app_in h K hg hρ rfl hle (by simpa using hmn) holdl.1 holdl.2 hnw hnv hnl hok e1 hr
  · have h0 := Nat.eq_of_beq_eq_true hq
    subst h0
    simp only [cond_true] at e1
    generalize hq2 : isSl vx = q2 at e1
    cases q2
    · cases e1
    simp only [cond_true, Option.some.injEq, Prod.mk.injEq] at e1
    obtain ⟨rfl, rfl⟩ := e1
    obtain ⟨base, l, c, rfl, hlc⟩ := isSl_slice hX hq2
    have hf := first0 (P := P) (w := w) i.size hY hn
    have hrun := run_append_fits (P := P) (ty := ty) (w' := w) (base := base) (X := .slice base l c) K.h0 K.h1 K.ht K.hu K.hdu K.hi rfl K.hn hf (by omega) (fun a _ => by simp [storeCells]) (fun _ => rfl)
    rw [hrun] at hr
    exact .pure h hr hX
end Go.Vx
end
noncomputable section
open Go Go.RowKit
namespace Go.Vx
variable {P : Program} {comp : FuncId → Code → VCode} {g g' : G} {σ σ' : H} {w w' : World} {β : Nat → Option Nat} {lo lo' : Lo} {fr : List V} {A : Act}

theorem sound_append {d : Nat} {o : Oper} {x y : Operand} {x' y' : Opd} {ats : Array TypeId} {t u e : TypeId} {du : TypeDesc} {s : Nat} (h0 : ats[0]? = some t) (h1 : ats[1]? = some u) (ht : P.underlying t = some (.slice e)) (hu : P.underlying u = some du)
    (hdu : ∀ k, du ≠ .int k) (hs : cApp P e = some s) (hx : cOpd x = some x') (hy : cOpd y = some y') (ho : o.op = .call { callee := .builtin .append, args := #[x, y], argTypes := ats }) : Sound P comp d (.append s x' y') o := by
  intro g β σ lo fr A w v lo' σ' h e1
  obtain ⟨it, Z, k1, k2, rfl, k4, k5, z, k6, k7⟩ := cApp_some hs
  obtain ⟨it', Z', q1, q2, q3⟩ := cZero_cells (g := g) k6
  rw [k1] at q1; cases q1
  rw [k2] at q2; cases q2
  have hZ : Z.cells.size = it.size := by have := q3.1; simp at this; omega
  have hrx := Rs.ev h.f hx
  have hry := Rs.ev h.f hy
  simp only [evOp, opAppend] at e1
  cases hn : slLen (y'.ev fr) with
  | none => rw [hn] at e1; cases e1
  | some n =>
  rw [hn] at e1; dsimp only at e1
  cases hsrc : srcCells σ it.size n (y'.ev fr) with
  | none => rw [hsrc] at e1; cases e1
  | some new =>
  rw [hsrc] at e1; dsimp only at e1
  generalize hq : okcs new = q at e1
  cases q
  · cases e1
  simp only [cond_true] at e1
  cases ha : appV σ it.size (x'.ev fr) n new with
  | none => rw [ha] at e1; cases e1
  | some p =>
  obtain ⟨v2, σ2⟩ := p
  rw [ha] at e1
  simp only [ORp, OR.ok.injEq] at e1
  obtain ⟨rfl, rfl, rfl⟩ := e1
  refine app_ok (ty := o.type) h ⟨h0, h1, ht, hu, hdu, k1, k2, hZ, k5, slLen_run hry hn⟩ hrx hry hn hsrc hq ha ?_
  simp only [execOp, ho, resolve, invoke, builtin, Sem.run_bind, Sem.run_pure, Result.andThen]
  simp
end Go.Vx
end
noncomputable section
open Go Go.RowKit
namespace Go.Vx
variable {P : Program} {comp : FuncId → Code → VCode} {g g' : G} {σ σ' : H} {w w' : World} {β : Nat → Option Nat} {lo lo' : Lo} {fr : List V} {A : Act}

/-- What a key's type must be. -/
def KeyTy (P : Program) (kt : TypeId) (kc : Nat) : Prop := match kc with
  | 0 => ∃ k, P.underlying kt = some (.int k)
  | 1 => P.underlying kt = some .string
  | 2 => ∃ el sz, P.underlying kt = some (.pointer el) ∧ (P.info? el).map (·.size) = some sz ∧ sz ≠ 0
  | 3 => P.underlying kt = some .bool
  | _ => False

theorem cKey_ty {kt : TypeId} {kc : Nat} (h : cKey P kt = some kc) : KeyTy P kt kc := by
  unfold cKey at h
  cases hu : P.underlying kt with
  | none => simp [hu] at h
  | some d =>
    rw [hu] at h
    cases d <;> simp at h
    · subst h; exact hu
    · subst h; exact ⟨_, hu⟩
    · subst h; exact hu
    · rename_i e
      cases hs : cSize P e with
      | none => simp [hs] at h
      | some n =>
        simp [hs] at h
        obtain ⟨h1, rfl⟩ := h
        exact ⟨e, n, hu, hs, h1⟩

theorem run_checkKey {kt : TypeId} {kc : Nat} (hk : KeyTy P kt kc) (em : Bool) {v : V} {K : Value} (hr : Rs g β v K) (hv : keyIs kc v = true) : (Instr.checkKey em 10000 kt K).run P w = .ok () w := by
  have unf : Instr.checkKey em 10000 kt K = Instr.checkKey em (9999 + 1) kt K := rfl
  rw [unf, Instr.checkKey]
  unfold KeyTy at hk
  split at hk
  · obtain ⟨k, hk⟩ := hk
    rw [Sem.run_bind, run_underlying hk]; rfl
  · rw [Sem.run_bind, run_underlying hk]; rfl
  · obtain ⟨el, sz, hk, _⟩ := hk
    rw [Sem.run_bind, run_underlying hk]; rfl
  · rw [Sem.run_bind, run_underlying hk]; rfl
  · exact hk.elim

theorem equal_of_eq {t : TypeId} {a b : Option Addr} {q : Bool} (h : EqOk P t (.pointer a) (.pointer b) w q) : (Op.equal t (.pointer a) (.pointer b)).run P w = .ok q w := by
  have h := h .eql (.inl rfl)
  have : binOp .eql t (.pointer a) (.pointer b) = (do pure (.bool (← Op.equal t (.pointer a) (.pointer b)))) := by
    unfold binOp
    simp
  rw [this, Sem.run_bind] at h
  cases hr : (Op.equal t (.pointer a) (.pointer b)).run P w with
  | ok r w1 =>
    rw [hr] at h
    simp [Result.andThen] at h
    rw [h.1, h.2]
  | halt x w1 => rw [hr] at h; simp [Result.andThen] at h

theorem eqPtr_eq (hw : Rw P comp g σ w) {i o : Nat} {vy : V} {x y : Value} {b : Bool} (hx : Rs g β (.hptr i o) x) (hy : Rv g vy y) (e : eqPtr σ (.hptr i o) vy = some b) : b = true ↔ x = y := by
  cases hx with
  | hptr _ hr1 =>
  cases vy with
  | nilPtr => cases hy; simp [eqPtr] at e; subst e; simp
  | hptr j p =>
    simp only [eqPtr] at e
    split at e <;> try cases e
    rename_i cs hcs
    split at e <;> try cases e
    rename_i ds hds
    generalize hq : (Nat.blt o cs.length && Nat.blt p ds.length) = q at e
    cases q
    · simp at e
    simp at e
    cases hy with
    | hptr _ hr2 =>
    rw [← e]
    simp only [Bool.and_eq_true, Nat.beq_eq]
    constructor
    · rintro ⟨rfl, rfl⟩
      rw [hr1] at hr2; cases hr2; rfl
    · intro h'
      cases h'
      exact ⟨hw.inj i j _ _ _ (by simp [getCells_some hcs]) (by simp [getCells_some hds]) hr1 hr2, rfl⟩
  | _ => simp [eqPtr] at e

/-- One entry's key, held against a key. -/
theorem key_one {kt : TypeId} {kc : Nat} (hk : KeyTy P kt kc) (hw : Rw P comp g σ w) {v v' : V} {K K' : Value} {b : Bool} (hr : Rs g β v K) (hv : keyIs kc v = true) (hr' : Rv g v' K') (e : eqV σ v v' = some b) :
    (b = true ↔ K = K') ∧ ∃ kind, P.underlying kt = some kind ∧ ((kc ≠ 2 ∧ Instr.sameNow kind K K' = some b) ∨ (kc = 2 ∧ Instr.sameNow kind K K' = none ∧ (Op.equal kt K K').run P w = .ok b w)) := by
  cases v <;> simp [keyIs] at hv
  · subst hv
    rename_i q
    cases v' <;> simp [eqV, eqBool] at e
    rename_i q'
    cases hr; cases hr'
    refine ⟨by subst e; cases q <;> cases q' <;> simp, _, hk, .inl ⟨by simp, ?_⟩⟩
    subst e
    cases q <;> cases q' <;> rfl
  · subst hv
    rename_i k a
    obtain ⟨k0, hk⟩ := hk
    cases v' <;> simp [eqV, eqNum] at e
    rename_i k' a'
    cases hr; cases hr'
    by_cases hkk : k = k'
    · subst hkk
      simp [eqK_eq, eqI_eq] at e
      refine ⟨by subst e; simp, _, hk, .inl ⟨by simp, ?_⟩⟩
      simp [Instr.sameNow, e]
    · simp [eqK_eq, hkk] at e
  · subst hv
    rename_i s
    cases v' <;> simp [eqV, eqNum] at e
    rename_i s'
    cases hr
    cases hr'
    rename_i bs bs'
    rw [bytesEq_eq, map_toNat_beq] at e
    have hlaw : ∀ x y : ByteArray, (x == y) = true ↔ x = y := by
      intro x y
      cases x; cases y
      constructor
      · intro h
        rename_i a b
        have : (a == b) = true := h
        rw [beq_iff_eq] at this
        rw [this]
      · intro h
        cases h
        rename_i a
        show (a == a) = true
        simp
    have hbs : (bs.data.toList == bs'.data.toList) = (bs == bs') := by
      rw [Bool.eq_iff_iff, hlaw]
      simp only [beq_iff_eq]
      constructor
      · intro h; exact ByteArray.ext (Array.toList_inj.1 h)
      · intro h; rw [h]
    refine ⟨by rw [← e, hbs]; rw [hlaw]; simp, _, hk, .inl ⟨by simp, ?_⟩⟩
    simp [Instr.sameNow, ← e, hbs]
  · subst hv
    rename_i i o
    obtain ⟨el, sz, hk, hz, hn⟩ := hk
    simp only [eqV] at e
    have h1 := eqPtr_eq hw hr hr' e
    have h2 := eqPtr_ok hk hz hn hw hr (Rs.of_rv (β := β) hr') e
    refine ⟨h1, _, hk, .inr ⟨rfl, ?_, ?_⟩⟩
    · cases hr; cases v' <;> simp [eqPtr] at e <;> cases hr' <;> rfl
    · have hp : ∃ a c, K = .pointer a ∧ K' = .pointer c := by
        cases hr; cases v' <;> simp [eqPtr] at e <;> cases hr' <;> exact ⟨_, _, rfl, rfl⟩
      obtain ⟨a, c, rfl, rfl⟩ := hp
      exact equal_of_eq h2

/-- What a place among entries must be. -/
def FoundAt (g : G) (ents : List MapEntry) (i0 : Nat) (K : Value) : Option (Nat × V) → Option (Nat × Value) → Prop
  | none, r => r = none
  | some (i, v), r => ∃ e, i0 ≤ i ∧ ents[i - i0]? = some e ∧ r = some (i, e.val) ∧ Rv g v e.val ∧ e.key = K

theorem find_now {kt : TypeId} {kc : Nat} {kind : TypeDesc} (hu : P.underlying kt = some kind) (hk : KeyTy P kt kc) (hk2 : kc ≠ 2) (hw : Rw P comp g σ w) {v : V} {K : Value} (hr : Rs g β v K) (hv : keyIs kc v = true) :
    ∀ (es : List (V × V)) (ents : List MapEntry) (i0 : Nat) (r : Option (Nat × V)), es.length = ents.length → (∀ (i : Nat) k x, es[i]? = some (k, x) → ∃ e, ents[i]? = some e ∧ Rv g k e.key ∧ Rv g x e.val) →
      findE σ v es i0 = some r → ∃ R, Instr.findNow kind K ents i0 = some R ∧ FoundAt g ents i0 K r R := by
  intro es
  induction es with
  | nil =>
    intro ents i0 r hl _ e
    have : ents = [] := by cases ents with | nil => rfl | cons _ _ => simp at hl
    subst this
    simp [findE] at e; subst e
    exact ⟨none, rfl, rfl⟩
  | cons p es ih =>
    obtain ⟨k, x⟩ := p
    intro ents i0 r hl he e
    cases ents with
    | nil => simp at hl
    | cons e0 ents =>
    obtain ⟨e1, h1, h2, h3⟩ := he 0 k x rfl
    simp at h1; subst h1
    simp only [findE] at e
    cases hq : eqV σ v k with
    | none => rw [hq] at e; cases e
    | some b =>
    rw [hq] at e
    obtain ⟨hb, kind', hu', hcase⟩ := key_one hk hw hr hv h2 hq
    rw [hu] at hu'; cases hu'
    rcases hcase with ⟨_, hs⟩ | ⟨h0, _⟩
    · cases b
      · simp only [cond_false] at e
        obtain ⟨R, hR, hf⟩ := ih ents (i0 + 1) r (by simpa using hl) (fun i k x hx => by simpa using he (i + 1) k x (by simpa using hx)) e
        refine ⟨R, by simp only [Instr.findNow, hs]; exact hR, ?_⟩
        cases r with
        | none => exact hf
        | some q =>
          obtain ⟨i, v'⟩ := q
          obtain ⟨e2, g1, g2, g3, g4⟩ := hf
          refine ⟨e2, by omega, ?_, g3, g4⟩
          have : i - i0 = (i - (i0 + 1)) + 1 := by omega
          rw [this]; simpa using g2
      · simp at e
        subst e
        exact ⟨some (i0, e0.val), by simp only [Instr.findNow, hs], e0, Nat.le_refl _, by simp, rfl, h3, (hb.1 rfl).symm⟩
    · exact absurd h0 hk2

theorem find_ask {kt : TypeId} (hk : KeyTy P kt 2) (hw : Rw P comp g σ w) {v : V} {K : Value} (hr : Rs g β v K) (hv : keyIs 2 v = true) :
    ∀ (es : List (V × V)) (ents : List MapEntry) (i0 : Nat) (r : Option (Nat × V)), es.length = ents.length → (∀ (i : Nat) k x, es[i]? = some (k, x) → ∃ e, ents[i]? = some e ∧ Rv g k e.key ∧ Rv g x e.val) →
      findE σ v es i0 = some r → ∃ R, (Instr.findAsking kt K ents i0).run P w = .ok R w ∧ FoundAt g ents i0 K r R := by
  intro es
  induction es with
  | nil =>
    intro ents i0 r hl _ e
    have : ents = [] := by cases ents with | nil => rfl | cons _ _ => simp at hl
    subst this
    simp [findE] at e; subst e
    exact ⟨none, by simp [Instr.findAsking], rfl⟩
  | cons p es ih =>
    obtain ⟨k, x⟩ := p
    intro ents i0 r hl he e
    cases ents with
    | nil => simp at hl
    | cons e0 ents =>
    obtain ⟨e1, h1, h2, h3⟩ := he 0 k x rfl
    simp at h1; subst h1
    simp only [findE] at e
    cases hq : eqV σ v k with
    | none => rw [hq] at e; cases e
    | some b =>
    rw [hq] at e
    obtain ⟨hb, kind', hu', hcase⟩ := key_one hk hw hr hv h2 hq
    rcases hcase with ⟨h0, _⟩ | ⟨_, _, hs⟩
    · exact absurd rfl h0
    · cases b
      · simp only [cond_false] at e
        obtain ⟨R, hR, hf⟩ := ih ents (i0 + 1) r (by simpa using hl) (fun i k x hx => by simpa using he (i + 1) k x (by simpa using hx)) e
        refine ⟨R, by simp only [Instr.findAsking, Sem.run_bind, hs, Result.andThen]; simpa using hR, ?_⟩
        cases r with
        | none => exact hf
        | some q =>
          obtain ⟨i, v'⟩ := q
          obtain ⟨e2, g1, g2, g3, g4⟩ := hf
          refine ⟨e2, by omega, ?_, g3, g4⟩
          have : i - i0 = (i - (i0 + 1)) + 1 := by omega
          rw [this]; simpa using g2
      · simp at e
        subst e
        exact ⟨some (i0, e0.val), by simp [Instr.findAsking, Sem.run_bind, hs, Result.andThen], e0, Nat.le_refl _, by simp, rfl, h3, (hb.1 rfl).symm⟩

theorem find_key {kt : TypeId} {kc : Nat} (hk : KeyTy P kt kc) (hw : Rw P comp g σ w) {v : V} {K : Value} (hr : Rs g β v K) (hv : keyIs kc v = true) (es : List (V × V)) (ents : List MapEntry) (r : Option (Nat × V)) (hl : es.length = ents.length)
    (he : ∀ (i : Nat) k x, es[i]? = some (k, x) → ∃ e, ents[i]? = some e ∧ Rv g k e.key ∧ Rv g x e.val) (e : findE σ v es 0 = some r) : ∃ R, (Instr.findKey kt K ents).run P w = .ok R w ∧ FoundAt g ents 0 K r R := by
  have hkind : ∃ kind, P.underlying kt = some kind := by
    unfold KeyTy at hk
    split at hk
    · exact ⟨_, hk.choose_spec⟩
    · exact ⟨_, hk⟩
    · obtain ⟨el, sz, hk, _⟩ := hk; exact ⟨_, hk⟩
    · exact ⟨_, hk⟩
    · exact hk.elim
  obtain ⟨kind, hu⟩ := hkind
  by_cases h2 : kc = 2
  · subst h2
    cases es with
    | nil =>
      have : ents = [] := by cases ents with | nil => rfl | cons _ _ => simp at hl
      subst this
      simp [findE] at e; subst e
      exact ⟨none, by simp [Instr.findKey, Sem.run_bind, run_underlying hu, Instr.findNow, Result.andThen], rfl⟩
    | cons p es =>
      obtain ⟨R, h3, h4⟩ := find_ask hk hw hr hv (p :: es) ents 0 r hl he e
      refine ⟨R, ?_, h4⟩
      cases ents with
      | nil => simp at hl
      | cons e0 ents =>
      obtain ⟨k, x⟩ := p
      obtain ⟨e1, g1, g2, g3⟩ := he 0 k x rfl
      simp at g1; subst g1
      simp only [findE] at e
      cases hq : eqV σ v k with
      | none => rw [hq] at e; cases e
      | some b =>
      obtain ⟨_, kind', hu', hcase⟩ := key_one hk hw hr hv g2 hq
      rw [hu] at hu'; cases hu'
      rcases hcase with ⟨h0, _⟩ | ⟨_, hs, _⟩
      · exact absurd rfl h0
      · simp only [Instr.findKey, Sem.run_bind, run_underlying hu, Result.andThen, Instr.findNow, hs]
        exact h3
  · obtain ⟨R, h3, h4⟩ := find_now hu hk h2 hw hr hv es ents 0 r hl he e
    exact ⟨R, by simp [Instr.findKey, Sem.run_bind, run_underlying hu, h3, Result.andThen], h4⟩
end Go.Vx
end
noncomputable section
open Go Go.RowKit
namespace Go.Vx
variable {P : Program} {comp : FuncId → Code → VCode} {g g' : G} {σ σ' : H} {w w' : World} {β : Nat → Option Nat} {lo lo' : Lo} {fr : List V} {A : Act}

theorem cZero_run {t : TypeId} {z : V} (hz : cZero P t = some z) (w : World) (g : G) : ∃ Z, (zeroValue t).run P w = .ok Z w ∧ Rv g z Z := by
  unfold cZero at hz
  cases hi : P.info? t with
  | none => simp [hi] at hz
  | some i =>
    cases hzz : i.zero with
    | none => simp [hi, hzz] at hz
    | some Z =>
      have hr := Rv.cV 5 g Z
      simp [hi, hzz] at hz
      refine ⟨Z, by simp [zeroValue, typeInfo, program, Sem.run, hi, hzz, Result.andThen], ?_⟩
      split at hz
      · cases hz
      · simp at hz; rw [← hz]; exact hr

theorem sound_lookup {d : Nat} {o : Oper} {t kt e : TypeId} {x k : Operand} {x' k' : Opd} {ok : Bool} {kc : Nat} {z : V} (hu : P.underlying t = some (.map kt e)) (hk : cKey P kt = some kc) (hz : cZero P e = some z)
    (hx : cOpd x = some x') (hkk : cOpd k = some k') (ho : o.op = .lookup t x k ok) : Sound P comp d (.lookup kc z ok x' k') o := by
  intro g β σ lo fr A w v lo' σ' h ee
  have hrx := Rs.ev h.f hx
  have hrk := Rs.ev h.f hkk
  have hkt := cKey_ty hk
  simp only [evOp, opLookup] at ee
  generalize hvx : x'.ev fr = vx at ee hrx
  generalize hvk : k'.ev fr = vk at ee hrk
  generalize hq : keyIs kc vk = q at ee
  cases q
  · cases ee
  simp only [cond_true] at ee
  cases hm : mapOf vx σ with
  | none => rw [hm] at ee; cases ee
  | some es =>
  rw [hm] at ee; dsimp only at ee
  cases hf : findE σ vk es 0 with
  | none => rw [hf] at ee; cases ee
  | some r =>
  rw [hf] at ee
  simp only [OR.ok.injEq] at ee
  obtain ⟨rfl, rfl, rfl⟩ := ee
  obtain ⟨Z, hZ, hZr⟩ := cZero_run hz w g
  generalize hX : A.eval x = X at hrx
  generalize hK : A.eval k = K at hrk
  have key : ∀ (ents : Array MapEntry), es.length = ents.toList.length → (∀ (i : Nat) k x, es[i]? = some (k, x) → ∃ e, ents.toList[i]? = some e ∧ Rv g k e.key ∧ Rv g x e.val) →
      ((X = .map none ∧ ents = #[]) ∨ ∃ b clock, X = .map (some b) ∧ w.heap[b]? = some (.map ents clock)) → OpOk P comp g β σ w (lookRes z ok r) lo σ ((execOp A.eval o).run P w) := by
    intro ents hl he hrun
    obtain ⟨R, hR, hfa⟩ := find_key hkt h.w hrk hq es ents.toList r hl he hf
    have hck := run_checkKey (w := w) hkt ents.isEmpty hrk hq
    have hval : ∃ Y, (Instr.lookup t X K ok).run P w = .ok Y w ∧ Rv g (lookRes z ok r) Y := by
      cases r with
      | none =>
        have : R = none := hfa
        subst this
        refine ⟨if ok then .tuple #[Z, .bool false] else Z, ?_, ?_⟩
        · rcases hrun with ⟨rfl, rfl⟩ | ⟨b, clock, rfl, hb⟩
          · simp at hck hR
            simp [Instr.lookup, Sem.run_bind, run_underlying hu, hck, hR, hZ, Result.andThen]
          · simp [Instr.lookup, Sem.run_bind, run_underlying hu, MapKept.run_getObj_map hb, hck, hR, hZ, Result.andThen]
        cases ok
        · simpa [lookRes] using hZr
        · simp only [lookRes, cond_true, if_true]
          exact .mkTuple (.cons hZr (.cons (.bool false) (.nil g)))
      | some p =>
        obtain ⟨i, y⟩ := p
        obtain ⟨e1, _, _, rfl, hy, _⟩ := hfa
        refine ⟨if ok then .tuple #[e1.val, .bool true] else e1.val, ?_, ?_⟩
        · rcases hrun with ⟨rfl, rfl⟩ | ⟨b, clock, rfl, hb⟩
          · simp at hck hR
            simp [Instr.lookup, Sem.run_bind, run_underlying hu, hck, hR, hZ, Result.andThen]
          · simp [Instr.lookup, Sem.run_bind, run_underlying hu, MapKept.run_getObj_map hb, hck, hR, hZ, Result.andThen]
        cases ok
        · simpa [lookRes] using hy
        · simp only [lookRes, cond_true, if_true]
          exact .mkTuple (.cons hy (.cons (.bool true) (.nil g)))
    obtain ⟨Y, hlk, hYr⟩ := hval
    refine .pure h (x := Y) ?_ (.of_rv hYr)
    simp only [execOp, ho, hX, hK, Sem.run_bind, hlk, Result.andThen, Sem.run_pure]
  cases vx <;> simp [mapOf] at hm
  · subst hm
    cases hrx
    exact key #[] rfl (fun i k x hx => by simp at hx) (.inl ⟨rfl, rfl⟩)
  · obtain ⟨b, n, ents, h1, h2, h3, h4, _⟩ := h.w.mapObj hm
    cases hrx with
    | map hri =>
    obtain ⟨rfl, rfl⟩ := Prod.mk.inj (Option.some.inj (h1.symm.trans hri))
    refine key ents (by simp [h3]) (fun i k x hx => let ⟨e, a, b, c, _⟩ := h4 i k x hx; ⟨e, by simpa using a, b, c⟩) (.inr ⟨_, _, rfl, h2⟩)

theorem setE_get : ∀ (es : List (V × V)) (i j : Nat) (v : V), (setE es i v)[j]? = if i = j then (es[j]?).map fun p => (p.1, v) else es[j]? := by
  intro es
  induction es with
  | nil => intro i j v; simp [setE]
  | cons p es ih =>
    intro i j v
    obtain ⟨k, x⟩ := p
    cases i with
    | zero => cases j <;> simp [setE]
    | succ i =>
      cases j with
      | zero => simp [setE]
      | succ j => simp [setE, ih]
theorem setE_length : ∀ (es : List (V × V)) (i : Nat) (v : V), (setE es i v).length = es.length := by
  intro es
  induction es with
  | nil => intro i v; rfl
  | cons p es ih => intro i v; cases i <;> simp [setE, ih]

theorem sameBits_refl {v : V} {kc : Nat} {K : Value} (hr : Rs g β v K) (hq : keyIs kc v = true) (n : Nat) : Instr.sameBits n K K = true := by
  cases v <;> simp [keyIs] at hq
  · cases hr; cases n <;> simp [Instr.sameBits]
  · cases hr; cases n <;> simp [Instr.sameBits]
  · cases hr
    rename_i bs
    have : (bs == bs) = true := by
      cases bs; rename_i a; show (a == a) = true; simp
    cases n <;> simpa [Instr.sameBits] using this
  · cases hr; cases n <;> simp [Instr.sameBits]

theorem sound_mapUpd {d : Nat} {o : Oper} {t kt e : TypeId} {m k x : Operand} {m' k' x' : Opd} {kc : Nat} (hu : P.underlying t = some (.map kt e)) (hk : cKey P kt = some kc)
    (hm : cOpd m = some m') (hkk : cOpd k = some k') (hx : cOpd x = some x') (ho : o.op = .mapUpdate t m k x ∨ o.op = .insert t m k x) : Sound P comp d (.mapUpd kc m' k' x') o := by
  intro g β σ lo fr A w v lo' σ' h ee
  have hrx := Rs.ev h.f hx
  have hrk := Rs.ev h.f hkk
  have hrm := Rs.ev h.f hm
  have hkt := cKey_ty hk
  simp only [evOp, opMapUpd] at ee
  generalize hvx : x'.ev fr = vx at ee hrx
  generalize hvk : k'.ev fr = vk at ee hrk
  generalize hvm : m'.ev fr = vm at ee hrm
  generalize hq : keyIs kc vk = q at ee
  cases q
  · cases ee
  generalize hq2 : isLoc vx = q2 at ee
  cases q2 with
  | true => cases ee
  | false =>
  simp only [Bool.not_false, Bool.and_self, cond_true] at ee
  have hrx' : Rv g vx (A.eval x) := hrx.rv (by intro t o e; subst e; simp [isLoc] at hq2)
  have hrk' : Rv g vk (A.eval k) := hrk.rv (by intro t o e; subst e; simp [keyIs] at hq)
  cases vm <;> try (cases ee; done)
  rename_i id
  dsimp only at ee
  cases hg : getMap σ id with
  | none => rw [hg] at ee; cases ee
  | some es =>
  rw [hg] at ee; dsimp only at ee
  cases hf : findE σ vk es 0 with
  | none => rw [hf] at ee; cases ee
  | some r =>
  rw [hf] at ee; dsimp only at ee
  obtain ⟨b, n, ents, h1, h2, h3, h4, h5⟩ := h.w.mapObj hg
  have hM : A.eval m = .map (some b) := by
    generalize hz : A.eval m = M at hrm
    cases hrm with
    | map hri => rw [h1] at hri; cases hri; rfl
  have hlive : Live g σ b := ⟨id, n, by simp [getMap_some hg], h1⟩
  obtain ⟨R, hR, hfa⟩ := find_key hkt h.w hrk hq es ents.toList r (by simp [h3]) (fun i k x hx => let ⟨e, a, b, c, _⟩ := h4 i k x hx; ⟨e, by simpa using a, b, c⟩) hf
  have hck := run_checkKey (w := w) hkt false hrk hq
  have hoth : ∀ (ob : Go.Obj) (k : Nat), k ≠ b → ({ w with heap := w.heap.setIfInBounds b ob } : World).heap[k]? = w.heap[k]? := fun ob k hk => by
    simp [Array.getElem?_setIfInBounds, Ne.symm hk]
  have hsame : ∀ (ob : Go.Obj), ({ w with heap := w.heap.setIfInBounds b ob } : World).heap[b]? = some ob := fun ob => by
    have : b < w.heap.size := (Array.getElem?_eq_some_iff.1 h2).1
    simp [Array.getElem?_setIfInBounds, this]
  have hlv : ∀ ob b', Live g (σ.set id ob) b' → Live g σ b' := by
    rintro ob b' ⟨i, m', hi, hb'⟩
    rw [H.get_set] at hi
    by_cases e1 : id = i
    · subst e1; exact ⟨id, m', by simp [getMap_some hg], hb'⟩
    · simp [e1] at hi; exact ⟨i, m', hi, hb'⟩
  have fin : ∀ (ents' : Array MapEntry) (es' : List (V × V)), (Instr.mapUpdate t (A.eval m) (A.eval k) (A.eval x)).run P w = .ok () { w with heap := w.heap.setIfInBounds b (.map ents' ents'.size) } → ents'.size = es'.length →
      (∀ (i : Nat) k x, es'[i]? = some (k, x) → ∃ e, ents'[i]? = some e ∧ Rv g k e.key ∧ Rv g x e.val ∧ e.born = i) → OpOk P comp g β σ w .undef lo (σ.set id (.map es')) ((execOp A.eval o).run P w) := by
    intro ents' es' hrun hl he
    refine ⟨undef, _, g, .inr ⟨?_, rfl⟩, .refl g, .of_rv (.undef _), h.w.put (by simp [getMap_some hg]) h1 (by simp) (hoth _) ⟨ents', hsame _, hl, he⟩,
      h.b.same (.refl g) (fun b' hl _ => hlv _ b' hl) (fun _ _ hp _ o => hp o) (fun t b' e' => hoth _ b' (by intro e''; subst e''; exact (h.b.apart t b' e').1 hlive)),
      ⟨rfl, rfl, rfl, by simp, fun k _ hk _ _ => hoth _ k (by intro e'; subst e'; exact hk hlive)⟩, fun b' hl _ => hlv _ b' hl, fun _ _ h _ => h⟩
    rcases ho with ho | ho <;> simp only [execOp, ho, Sem.run_bind, hrun, Result.andThen, Sem.run_pure]
  cases r with
  | none =>
    have : R = none := hfa
    subst this
    simp only [updMap, OR.ok.injEq] at ee
    obtain ⟨rfl, rfl, rfl⟩ := ee
    refine fin (ents.push { key := A.eval k, val := A.eval x, born := ents.size }) _ ?_ (by simp [h3]) (fun i k0 x0 hx0 => ?_)
    · simp [Instr.mapUpdate, Sem.run_bind, run_underlying hu, hM, MapKept.run_getObj_map h2, hck, hR, MapKept.run_setObj_map _ h2, Result.andThen]
    · rw [List.getElem?_append] at hx0
      rw [Array.getElem?_push]
      by_cases hi : i < es.length
      · rw [if_pos hi] at hx0
        rw [if_neg (by omega)]
        exact h4 i k0 x0 hx0
      · rw [if_neg hi] at hx0
        have hi0 : i - es.length = 0 := by
          cases hq3 : i - es.length with
          | zero => rfl
          | succ q => rw [hq3] at hx0; simp at hx0
        rw [hi0] at hx0
        simp at hx0
        obtain ⟨rfl, rfl⟩ := hx0
        have : i = ents.size := by omega
        rw [if_pos this]
        exact ⟨_, rfl, hrk', hrx', this.symm⟩
  | some p =>
    obtain ⟨i, y⟩ := p
    obtain ⟨e1, _, he1, rfl, hy, hkey⟩ := hfa
    simp only [updMap, OR.ok.injEq] at ee
    obtain ⟨rfl, rfl, rfl⟩ := ee
    simp only [Nat.sub_zero] at he1
    have he1' : ents[i]? = some e1 := by simpa using he1
    have hi : i < ents.size := (Array.getElem?_eq_some_iff.1 he1').1
    have hstay : (Instr.keyThatStays e1.key (A.eval k)).run P w = .ok (A.eval k) w := by
      unfold Instr.keyThatStays
      rw [hkey, sameBits_refl hrk hq]
      simp
    refine fin (ents.modify i fun e => { e with key := A.eval k, val := A.eval x }) _ ?_ (by simp [setE_length, h3]) (fun j k0 x0 hx0 => ?_)
    · simp [Instr.mapUpdate, Sem.run_bind, run_underlying hu, hM, MapKept.run_getObj_map h2, hck, hR, he1', hstay, MapKept.run_setObj_map _ h2, Result.andThen]
    · rw [setE_get] at hx0
      rw [Array.getElem?_modify]
      by_cases hij : i = j
      · subst hij
        rw [if_pos rfl] at hx0
        cases hes : es[i]? with
        | none => rw [hes] at hx0; simp at hx0
        | some q =>
          obtain ⟨k1, x1⟩ := q
          rw [hes] at hx0
          simp at hx0
          obtain ⟨rfl, rfl⟩ := hx0
          obtain ⟨e2, g1, g2, g3, g4⟩ := h4 i k1 x1 hes
          rw [he1'] at g1; cases g1
          refine ⟨{ e1 with key := A.eval k, val := A.eval x }, by simp [he1'], ?_, hrx', g4⟩
          rw [hkey] at g2; exact g2
      · rw [if_neg hij] at hx0
        rw [if_neg hij]
        exact h4 j k0 x0 hx0
end Go.Vx
end
noncomputable section
open Go Go.RowKit
namespace Go.Vx
variable {P : Program} {comp : FuncId → Code → VCode} {g g' : G} {σ σ' : H} {w w' : World} {β : Nat → Option Nat} {lo lo' : Lo} {fr : List V} {A : Act}

theorem sound_strMv {d : Nat} {o : Oper} {x : Operand} {x' : Opd} {s t : TypeId} (hs : P.underlying s = some .string) (ht : P.underlying t = some .string) (hx : cOpd x = some x') (ho : o.op = .convert s t x) : Sound P comp d (.strMv x') o := by
  intro g β σ lo fr A w v lo' σ' h e
  have hr := Rs.ev h.f hx
  simp only [evOp, opStrMv] at e
  split at e
  · rename_i q hq
    simp only [OR.ok.injEq] at e
    obtain ⟨rfl, rfl, rfl⟩ := e
    obtain ⟨bs, hb, hs'⟩ := str_of hr hq
    refine .pure h (x := .string bs) ?_ (by rw [hs']; exact .of_rv (.str _))
    simp only [execOp, ho, hb, convert]
    simp [run_underlying hs, run_underlying ht, Result.andThen]
  · cases e

theorem sound_mkSlice {d : Nat} {o : Oper} {t el : TypeId} {l c : Operand} {l' c' : Opd} {s : Nat} {z : V} (hu : P.underlying t = some (.slice el)) (hs : cApp P el = some s) (hz : cZero P el = some z) (hl : cOpd l = some l') (hc : cOpd c = some c') (ho : o.op = .makeSlice t l c) :
    Sound P comp d (.mkSlice z.cells l' c') o := by
  intro g β σ lo fr A w v lo' σ' h e
  obtain ⟨it, Z, k1, k2, k3, k4, k5, z', k6, k7⟩ := cApp_some hs
  rw [hz] at k6; cases k6
  obtain ⟨it', Z', q1, q2, q3⟩ := cZero_cells (g := g) hz
  rw [k1] at q1; cases q1
  rw [k2] at q2; cases q2
  have hZ : Z.cells.size = s := by have := q3.1; simp at this; omega
  have hrl := Rs.ev h.f hl
  have hrc := Rs.ev h.f hc
  simp only [evOp, opMkSlice] at e
  split at e <;> try cases e
  rename_i k n hln
  split at e <;> try cases e
  rename_i k2' m hcm
  generalize hq : (Nat.ble n m && Nat.ble m 16777216) = q at e
  cases q
  · cases e
  simp only [cond_true, OR.ok.injEq] at e
  obtain ⟨rfl, rfl, rfl⟩ := e
  simp only [Bool.and_eq_true, Nat.ble_eq] at hq
  obtain ⟨hnm, hm⟩ := hq
  have e1 := int_of hrl hln
  have e2 := int_of hrc hcm
  have hb : (it.bytes : Int) * ((m : Nat) : Int) ≤ 281474976710656 := by
    have : it.bytes * m ≤ 65536 * 16777216 := Nat.mul_le_mul k5 hm
    have h' : ((it.bytes * m : Nat) : Int) ≤ 281474976710656 := by omega
    rwa [Int.natCast_mul] at h'
  have hrow := rep_ok (g := g.bind σ.next (w.heap.size, m * Z.cells.size)) (q3.mono (G.le_bind _ (h.w.fresh _ (Nat.le_refl _)).1)) m
  have hzl : z.cells.length = Z.cells.size := by have := q3.1; simpa using this
  refine OpOk.new h (gob := .cells ((Array.range (m * Z.cells.size)).map (Z.cells[· % Z.cells.size]!)) el (0, 0)) (n := m * Z.cells.size) (w' := w.alloc (.cells ((Array.range (m * Z.cells.size)).map (Z.cells[· % Z.cells.size]!)) el (0, 0)))
    (x := .slice (some ⟨w.heap.size, 0, none⟩) n m) ⟨rfl, rfl, rfl, rfl⟩ ?_ ?_ (.hsl (G.bind_same _ _ _) hnm (fun c hc => by cases hc; rfl) (by rw [hzl, Nat.zero_add]; exact Nat.le_refl _))
  · have hrun := run_make (P := P) w t el it Z hu k1 k2 k k2' (n : Int) (m : Int) (Int.natCast_nonneg n) (by omega) hb (by omega)
    simp only [Int.toNat_natCast] at hrun
    rw [k3, ← hZ] at hrun
    have e1' : A.eval l = .int k (n : Int) := e1
    have e2' : A.eval c = .int k2' (m : Int) := e2
    simp only [execOp, ho, e1', e2', Sem.run_bind, hrun, Result.andThen, Sem.run_pure]
    rfl
  · have := Ro_cells_new (P := P) (comp := comp) (w := w) (w' := w.alloc (.cells ((Array.range (m * Z.cells.size)).map (Z.cells[· % Z.cells.size]!)) el (0, 0))) (e := el) rfl hrow
    simpa using this

theorem okcs_append : ∀ {a b : List V}, okcs a = true → okcs b = true → okcs (a ++ b) = true
  | [], _, _, hb => hb
  | _ :: _, _, ha, hb => by
    simp [okcs] at ha ⊢
    exact ⟨ha.1, okcs_append ha.2 hb⟩
theorem okcs_rep {z : List V} (h : okcs z = true) : ∀ n, okcs (rep z n) = true
  | 0 => rfl
  | n + 1 => okcs_append h (okcs_rep h n)

theorem sound_clear {d : Nat} {o : Oper} {x : Operand} {x' : Opd} {ats : Array TypeId} {t el : TypeId} {s : Nat} {z : V} (ht : ats[0]? = some t) (hu : P.underlying t = some (.slice el)) (hs : cApp P el = some s) (hz : cZero P el = some z) (hx : cOpd x = some x')
    (ho : o.op = .call { callee := .builtin .clear, args := #[x], argTypes := ats }) : Sound P comp d (.clear z.cells x') o := by
  intro g β σ lo fr A w v lo' σ' h e
  obtain ⟨it, Z, k1, k2, k3, k4, k5, z', k6, k7⟩ := cApp_some hs
  rw [hz] at k6; cases k6
  obtain ⟨it', Z', q1, q2, q3⟩ := cZero_cells (g := g) hz
  rw [k1] at q1; cases q1
  rw [k2] at q2; cases q2
  have hzero : ∀ w, (zeroValue el).run P w = .ok Z w := fun w => by simp [zeroValue, typeInfo, program, Sem.run, k1, k2, Result.andThen]
  have hr := Rs.ev h.f hx
  have hex : ∀ (r : Result Value), (Builtin.clear_ ats o.type #[A.eval x]).run P w = r → (execOp A.eval o).run P w = r.andThen fun v w => .ok (.value v) w := by
    intro r hr
    simp only [execOp, ho, resolve, invoke, builtin, Sem.run_bind, Sem.run_pure, Result.andThen]
    simp [hr]
  simp only [evOp, opClear] at e
  generalize hv : x'.ev fr = vx at e hr
  generalize hX : A.eval x = X at hr hex
  have idle : ∀ (r : Result Next), r = .ok (.value (.tuple #[])) w → OpOk P comp g β σ w .undef lo σ r := fun r hr => .pure h hr (.of_rv (.undef _))
  cases vx <;> try (cases e; done)
  · simp only [OR.ok.injEq] at e
    obtain ⟨rfl, rfl, rfl⟩ := e
    cases hr
    refine idle _ ?_
    rw [hex (.ok (.tuple #[]) w)]
    · rfl
    · simp [Builtin.clear_, ht, run_underlying hu, Result.andThen]
  · rename_i xs ex
    cases xs with
    | cons a b => cases e
    | nil =>
      simp only [OR.ok.injEq] at e
      obtain ⟨rfl, rfl, rfl⟩ := e
      cases hr
      refine idle _ ?_
      rw [hex (.ok (.tuple #[]) w)]
      · rfl
      · simp [Builtin.clear_, ht, run_underlying hu, Result.andThen]
  · rename_i id off len cap sz
    dsimp only at e
    generalize hq : okcs z.cells = q at e
    cases q
    · cases e
    simp only [cond_true] at e
    cases hg : getCells σ id with
    | none => rw [hg] at e; cases e
    | some cs =>
    rw [hg] at e; dsimp only at e
    cases hsp : splice off cs (rep z.cells len) with
    | none => rw [hsp] at e; cases e
    | some r =>
    rw [hsp] at e
    simp only [OR.ok.injEq] at e
    obtain ⟨rfl, rfl, rfl⟩ := e
    cases hr with
    | @hsl _ b m _ _ _ c' _ hρ hlc hcap hmn =>
    have hrep := rep_ok (g := g) q3 len
    have hok := okcs_rep hq len
    obtain ⟨w', s1, s2, s3⟩ := h.write hg hρ hrep hok hsp
    have hzl : z.cells.length = Z.cells.size := by have := q3.1; simpa using this
    refine s2 _ (.tuple #[]) (.of_rv (.undef _)) _ ?_
    rw [hex (.ok (.tuple #[]) w')]
    · rfl
    · cases len with
      | zero =>
        have hw : w' = w := by
          have : (storeCells ⟨b, off, none⟩ ((Array.range (0 * Z.cells.size)).map (Z.cells[· % Z.cells.size]!)).toList).run P w = .ok () w := by simp [storeCells]
          rw [this] at s1; cases s1; rfl
        subst hw
        simp [Builtin.clear_, ht, run_underlying hu, Result.andThen]
      | succ n =>
        have hzc : Builtin.zeroCells Z.cells (n + 1) = (Array.range ((n + 1) * Z.cells.size)).map (Z.cells[· % Z.cells.size]!) := rfl
        simp only [Builtin.clear_, List.getElem?_toArray, List.getElem?_cons_zero, ht, Sem.run_bind, run_underlying hu, Result.andThen, hzero, hzc, s1, Sem.run_pure]

theorem sound_appendZ {d : Nat} {o : Oper} {x y : Operand} {x' y' : Opd} {ats : Array TypeId} {t u e : TypeId} {k : IntKind} {s : Nat} {z : V} (h0 : ats[0]? = some t) (h1 : ats[1]? = some u) (ht : P.underlying t = some (.slice e)) (hu : P.underlying u = some (.int k))
    (hs : cApp P e = some s) (hz : cZero P e = some z) (hx : cOpd x = some x') (hy : cOpd y = some y') (ho : o.op = .call { callee := .builtin .append, args := #[x, y], argTypes := ats }) : Sound P comp d (.appendZ z.cells x' y') o := by
  intro g β σ lo fr A w v lo' σ' h e1
  obtain ⟨it, Z, k1, k2, k3, k4, k5, z', k6, k7⟩ := cApp_some hs
  rw [hz] at k6; cases k6
  obtain ⟨it', Z', q1, q2, q3⟩ := cZero_cells (g := g) hz
  rw [k1] at q1; cases q1
  rw [k2] at q2; cases q2
  have hZ : Z.cells.size = s := by have := q3.1; simp at this; omega
  have hrx := Rs.ev h.f hx
  have hry := Rs.ev h.f hy
  simp only [evOp, opAppendZ] at e1
  split at e1 <;> try cases e1
  rename_i k' n hyn
  generalize hq : (eqK k' .i64 && Nat.ble n 16777216 && Nat.blt 0 n) = q at e1
  cases q
  · cases e1
  simp only [cond_true] at e1
  split at e1 <;> try cases e1
  rename_i hxn
  rw [hxn] at hrx
  generalize hX : A.eval x = X at hrx
  cases hrx
  have e2 := int_of hry hyn
  simp only [Bool.and_eq_true, Nat.ble_eq, eqK_eq, decide_eq_true_eq] at hq
  obtain ⟨⟨hk, hm⟩, hpos⟩ := hq
  have hpos := blt_lit hpos
  subst hk
  have w1 : IntKind.i64.wrap (Int.ofNat n) = (n : Int) := wrap_i64 (by simp only [Int.ofNat_eq_natCast]; omega) (by simp only [Int.ofNat_eq_natCast]; omega)
  have c1 : ¬ ((n : Int) < 0) := by omega
  have c2 : ¬ (281474976710656 < (n : Int) * (it.bytes : Int)) := by
    have : n * it.bytes ≤ 16777216 * 65536 := Nat.mul_le_mul hm k5
    have h' : ((n * it.bytes : Nat) : Int) ≤ 281474976710656 := by omega
    rw [Int.natCast_mul] at h'
    omega
  have hn0 : ¬ (n = 0) := by omega
  have c3 : ¬ (n * it.size = 0) := by rw [k3]; intro hc; rcases Nat.mul_eq_zero.1 hc with h | h; exact hn0 h; exact k4 h
  have c4 : ¬ (9223372036854775807 < (n : Int)) := by omega
  have h48 := nextcap_le (need := n) (c := 0) hpos
  have h48' : ¬ (281474976710656 < Builtin.nextslicecap n 0 * it.bytes) := by
    have : Builtin.nextslicecap n 0 * it.bytes ≤ 33555432 * 65536 := Nat.mul_le_mul (by omega) k5
    omega
  have hrun : (Builtin.append_ ats o.type #[.slice none 0 0, .int .i64 (Int.ofNat n)]).run P w = .ok (.slice (some ⟨w.heap.size, 0, none⟩) n (grownCap w n 0 e)) (w.drew.alloc (.cells (#[] ++ Builtin.zeroCells Z.cells n ++ Builtin.zeroCells Z.cells (grownCap w n 0 e - n)) e)) := by
    have c5 : ¬ (n ≤ 0) := by omega
    have w1' : IntKind.i64.wrap ((n : Nat) : Int) = (n : Int) := w1
    simp [Builtin.append_, h0, h1, run_underlying ht, run_underlying hu, sizeOf, typeInfo, zeroValue, k1, k2, asInt, asIntOf, w1', c1, c2, c3, c4, c5, hn0, h48', Question.forced, newRow, grownCap, Builtin.firstCells, Result.andThen]
  have hrep := rep_ok (g := g) q3 n
  refine OpOk.grown (n := n) (cap := grownCap w n 0 e) (sz := z.cells.length) (olds := []) (news := (Builtin.zeroCells Z.cells n).toList) (z := Z.cells) (e := e) h (by rw [k7]; exact hZ) ?_ (by rw [rep_length]) (by have := grownCap_ge w n 0 e; omega) rfl ?_
  · simpa [Builtin.zeroCells] using hrep
  · simp only [execOp, ho, resolve, invoke, builtin, Sem.run_bind, Sem.run_pure, Result.andThen]
    have e2' : A.eval y = .int .i64 (Int.ofNat n) := e2
    simp only [List.map_toArray, List.map_cons, List.map_nil, hX, e2']
    rw [hrun]
end Go.Vx
end
noncomputable section
open Go Go.RowKit
namespace Go.Vx
variable {P : Program} {comp : FuncId → Code → VCode} {g g' : G} {σ σ' : H} {w w' : World} {β : Nat → Option Nat} {lo lo' : Lo} {fr : List V} {A : Act}

theorem freeze_other {w : World} {a : Addr} {n k : Nat} (h : k ≠ a.block) : (w.freeze a n).heap[k]? = w.heap[k]? := by
  unfold World.freeze
  split
  · rfl
  · simp [Array.getElem?_modify, Ne.symm h]
theorem freeze_size {w : World} {a : Addr} {n : Nat} : (w.freeze a n).heap.size = w.heap.size := by
  unfold World.freeze
  split <;> simp
theorem freeze_cell {w : World} {a : Addr} {n : Nat} (b o : Nat) : (w.freeze a n).cell? ⟨b, o, none⟩ = w.cell? ⟨b, o, none⟩ := by
  by_cases h : b = a.block
  · subst h
    unfold World.freeze
    split
    · rfl
    · simp only [World.cell?, Array.getElem?_modify]
      simp only [if_true]
      cases hq : w.heap[a.block]? with
      | none => simp
      | some ob => cases ob <;> simp
  · exact cell_of_block (a := ⟨b, o, none⟩) (freeze_other h)

theorem sound_slMv {d : Nat} {o : Oper} {x : Operand} {x' : Opd} {s t el e0 : TypeId} (hs : P.underlying s = some (.slice e0)) (ht : P.underlying t = some (.slice el)) (he : P.underlying e0 = some (.int .u8)) (hst : s = t) (hx : cOpd x = some x') (ho : o.op = .convert s t x) :
    Sound P comp d (.slMv x') o := by
  intro g β σ lo fr A w v lo' σ' h e
  have hr := Rs.ev h.f hx
  simp only [evOp, opSlMv] at e
  generalize hv : x'.ev fr = vx at e hr
  cases vx <;> try (cases e; done)
  rename_i xs ex
  cases xs with
  | nil => cases e
  | cons y ys =>
  dsimp only at e
  cases hyc : y.cells with
  | nil => rw [hyc] at e; cases e
  | cons c0 cs0 =>
  rw [hyc] at e
  simp only [OR.ok.injEq] at e
  obtain ⟨rfl, rfl, rfl⟩ := e
  subst hst
  rw [hs] at ht; cases ht
  generalize hX : A.eval x = X at hr
  have hr0 : Rv g (.list (y :: ys) ex) X := hr
  cases hr with
  | @list _ _ b off cap k vs hk hc hex hv' hrr =>
  -- the block is no living one, for it is frozen
  have hphi : g.φ b off = some (vs 0 0) := by
    have := hv' 0 y 0 c0 rfl (by rw [hyc]; rfl)
    simpa using this
  have hcell := h.w.frozen b off _ hphi
  have hne : ∀ k, (∀ o, g.φ k o = none) → k ≠ b := by
    intro k hk e; subst e; rw [hk off] at hphi; cases hphi
  have hobj : ∃ C ty fz, w.heap[b]? = some (.cells C ty fz) := by
    cases hq : w.heap[b]? with
    | none => simp [World.cell?, hq] at hcell
    | some ob => cases ob <;> simp [World.cell?, hq] at hcell; exact ⟨_, _, _, rfl⟩
  obtain ⟨C, ty, fz, hb⟩ := hobj
  have hw' : Rw P comp g σ (w.freeze { block := b, off := C.size } 1) := by
    refine ⟨fun b' o' v' e' => ?_, fun i ob e' => ?_, h.w.inj, h.w.fresh, fun i b' n e' => by rw [freeze_size]; exact h.w.bound i b' n e'⟩
    · rw [freeze_cell]; exact h.w.frozen b' o' v' e'
    · obtain ⟨b', n, r, kk, f⟩ := h.w.objs i ob e'
      exact ⟨b', n, r, kk.mono (.refl g) (freeze_other (hne b' f)), f⟩
  refine ⟨.slice (some ⟨b, off, none⟩) (y :: ys).length cap, w.freeze { block := b, off := C.size } 1, g, .inl ?_, .refl g, hr0, hw', h.b.same (.refl g) (fun _ hl _ => hl) (fun _ _ hp _ => hp) (fun t b' e' => freeze_other (hne b' (h.b.apart t b' e').2)),
    ⟨?_, ?_, ?_, by rw [freeze_size]; exact Nat.le_refl _, fun k _ _ _ hp => freeze_other (hne k hp)⟩, fun _ hl _ => hl, fun _ _ hp _ => hp⟩
  · have hsh : w.shape? b = some (ty, C.size) := shape_cells hb
    have hm : (markStringish ⟨b, off, none⟩).run P w = .ok () (w.freeze { block := b, off := C.size } 1) := by
      simp [markStringish, Go.shape, freeze, Sem.run, hsh, Result.andThen]
    simp only [execOp, ho, hX, convert]
    simp [run_underlying hs, run_underlying he, hm, Result.andThen]
  all_goals (unfold World.freeze; split <;> rfl)
end Go.Vx
end
noncomputable section
open Go Go.RowKit
namespace Go.Vx
variable {P : Program} {comp : FuncId → Code → VCode} {idle : List Nat} {g g' g'' : G} {σ σ' σ'' : H} {w w' w'' : World} {β β' β'' : Nat → Option Nat} {lo lo' : Lo} {fr fr' : List V} {A A' : Act} {B0 : Nat}

/-- The fence: none, but the round in which the code stands. -/
def Fw (ro : Option Nat) : Fence := { fn := fun _ => True, depth := none, alive := false, round := ro }

/-- A deferred call that does nothing as long as nobody panics. -/
structure IdleF (P : Program) (f : FuncId) : Prop where
  enters : ∀ (args : Array Value) (w : World), (callFunc f args).run P w = .ok (.enter f args) w
  calls : ∀ (args : Array Value) (w : World), CallsDIn (Fw none) 0 P f args .returning w fun e u w' => (∃ v, e = .returned v) ∧ u = .returning ∧ w'.heap = w.heap ∧ w'.os = w.os ∧ w'.tape = w.tape ∧ w'.output = w.output

/-- The deferred calls of an activation: marks of loops, each shut nowhere yet, and calls that do nothing. -/
def Df (P : Program) (B0 : Nat) (w : World) : List Deferred → Prop
  | [] => True
  | d :: ds => ((∃ r, B0 ≤ r ∧ d.target = .collected r ∧ w.heap[r]? = some (.deferred (some [])) ∧ ∀ d' ∈ ds, d'.target ≠ .collected r) ∨ (∃ f cap, d.target = .fn (.func f) cap ∧ IdleF P f)) ∧ Df P B0 w ds

structure Sc (P : Program) (comp : FuncId → Code → VCode) (B0 : Nat) (g : G) (β : Nat → Option Nat) (σ : H) (lo : Lo) (fr : List V) (A : Act) (w : World) : Prop where
  s : St P comp g β σ lo fr A w
  d : Df P B0 w A.defers
  le : B0 ≤ w.heap.size

/-- What a piece of a run leaves. -/
structure Stp (g : G) (β : Nat → Option Nat) (σ : H) (w : World) (g' : G) (β' : Nat → Option Nat) (σ' : H) (w' : World) : Prop where
  le : g.le g'
  frm : Frm g σ (isBox β) w w'
  live : ∀ b, Live g' σ' b → b < w.heap.size → Live g σ b
  box : ∀ t b, β' t = some b → b < w.heap.size → isBox β b
  phi : ∀ b, b < w.heap.size → (∀ o, g.φ b o = none) → ¬ Live g σ b → ∀ o, g'.φ b o = none

theorem Stp.refl : Stp g β σ w g β σ w := ⟨.refl g, .refl _, fun _ h _ => h, fun t b h _ => ⟨t, h⟩, fun _ _ h _ => h⟩
theorem Stp.trans (h : Stp g β σ w g' β' σ' w') (k : Stp g' β' σ' w' g'' β'' σ'' w'') : Stp g β σ w g'' β'' σ'' w'' where
  le := h.le.trans k.le
  frm := ⟨k.frm.os.trans h.frm.os, k.frm.tape.trans h.frm.tape, k.frm.output.trans h.frm.output, Nat.le_trans h.frm.size k.frm.size, fun i hi hl hb hp =>
    (k.frm.block i (Nat.lt_of_lt_of_le hi h.frm.size) (fun x => hl (h.live i x hi)) (fun ⟨t, ht⟩ => hb (h.box t i ht hi)) (h.phi i hi hp hl)).trans (h.frm.block i hi hl hb hp)⟩
  live b hb hlt := h.live b (k.live b hb (Nat.lt_of_lt_of_le hlt h.frm.size)) hlt
  box t b hb hlt := let ⟨u, hu⟩ := k.box t b hb (Nat.lt_of_lt_of_le hlt h.frm.size); h.box u b hu hlt
  phi b hlt hp hl := k.phi b (Nat.lt_of_lt_of_le hlt h.frm.size) (h.phi b hlt hp hl) (fun x => hl (h.live b x hlt))

/-- A block that is neither cells nor a map nor a loop's record is nobody's. -/
theorem St.nobody (h : St P comp g β σ lo fr A w) {r : Nat} {ds : Option (List Deferred)} (hr : w.heap[r]? = some (.deferred ds)) : ¬ Live g σ r ∧ ¬ isBox β r ∧ ∀ o, g.φ r o = none := by
  refine ⟨?_, ?_, fun o => ?_⟩
  · rintro ⟨i, n, hi, hb⟩
    cases e : σ.get i with
    | none => simp [e] at hi
    | some ob =>
      obtain ⟨b, n', h1, h2, _⟩ := h.w.objs i ob e
      rw [hb] at h1; cases h1
      cases ob with
      | cells cs => obtain ⟨c, ty, h3, _⟩ := h2; rw [hr] at h3; cases h3
      | map es => obtain ⟨ents, h3, _⟩ := h2; rw [hr] at h3; cases h3
      | loop l => obtain ⟨L, h3, _⟩ := h2; rw [hr] at h3; cases h3
  · rintro ⟨t, ht⟩
    obtain ⟨cs, c, ty, _, h5, _⟩ := h.b.boxes t r ht
    rw [hr] at h5; cases h5
  · cases e : g.φ r o with
    | none => rfl
    | some v =>
      have := h.w.frozen r o v e
      simp [World.cell?, hr] at this

theorem Df.keep : ∀ {ds : List Deferred}, (∀ (r : Nat) (x : Option (List Deferred)), w.heap[r]? = some (Go.Obj.deferred x) → w'.heap[r]? = w.heap[r]?) → Df P B0 w ds → Df P B0 w' ds
  | [], _, _ => trivial
  | d :: ds, hk, h => by
    refine ⟨?_, Df.keep hk h.2⟩
    rcases h.1 with ⟨r, h0, h1, h2, h3⟩ | h1
    · exact .inl ⟨r, h0, h1, (hk r _ h2).trans h2, h3⟩
    · exact .inr h1

theorem Sc.step (h : Sc P comp B0 g β σ lo fr A w) (hs : Stp g β σ w g' β' σ' w') {ds : List Deferred} (hd : ds = A.defers) : Df P B0 w' ds := by
  subst hd
  refine Df.keep (fun r x hr => ?_) h.d
  have := h.s.nobody hr
  exact hs.frm.block r (Array.getElem?_eq_some_iff.1 hr).1 this.1 this.2.1 this.2.2

/-- The exit that a jump is. -/
def Jump.ex : Jump → Exit
  | .ret => .ret
  | .exit i => .exit i
  | .goto l => .goto l

/-- What code must come to. -/
def PostC (P : Program) (comp : FuncId → Code → VCode) (B0 : Nat) (g : G) (β : Nat → Option Nat) (σ : H) (w : World) (out : Out) : Exit → Act → World → Prop :=
  fun e A' w' => ∃ (fr' : List V) (lo' : Lo) (σ' : H), ((out = .norm fr' lo' σ' ∧ e = .normal) ∨ ∃ j, out = .jump j fr' lo' σ' ∧ e = j.ex) ∧
    ∃ (g' : G) (β' : Nat → Option Nat), Sc P comp B0 g' β' σ' lo' fr' A' w' ∧ Stp g β σ w g' β' σ' w'

theorem PostC.after (hs : Stp g β σ w g' β' σ' w') {out : Out} {e : Exit} {a : Act} {v : World} (h : PostC P comp B0 g' β' σ' w' out e a v) : PostC P comp B0 g β σ w out e a v := by
  obtain ⟨fr1, lo1, σ1, h1, g1, β1, h2, h3⟩ := h
  exact ⟨fr1, lo1, σ1, h1, g1, β1, h2, hs.trans h3⟩

/-- Code does as its Vx form says. -/
def CodeOk (P : Program) (comp : FuncId → Code → VCode) (vc : VCode) (fr : List V) (lo : Lo) (σ : H) (out : Out) : Prop :=
  ∀ (f : FuncId) (c : Code) (ro : Option Nat) (B0 : Nat) (g : G) (β : Nat → Option Nat) (A : Act) (w : World), comp f c = vc → (ro.isSome = true → flat c = true) → Sc P comp B0 g β σ lo fr A w → out ≠ .fail → c.wpIn (Fw ro) 0 P (PostC P comp B0 g β σ w out) A w

theorem post_norm (h : Sc P comp B0 g β σ lo fr A w) : PostC P comp B0 g β σ w (.norm fr lo σ) .normal A w := ⟨fr, lo, σ, .inl ⟨rfl, rfl⟩, g, β, h, .refl⟩
theorem post_jump (h : Sc P comp B0 g β σ lo fr A w) (j : Jump) : PostC P comp B0 g β σ w (.jump j fr lo σ) j.ex A w := ⟨fr, lo, σ, .inr ⟨j, rfl, rfl⟩, g, β, h, .refl⟩

/-- Two pieces, one behind the other. -/
theorem seq_ok {x y : Code} {ro : Option Nat} {o1 out : Out} (hx : x.wpIn (Fw ro) 0 P (PostC P comp B0 g β σ w o1) A w)
    (hn : ∀ fr1 lo1 σ1 g1 β1 A1 w1, o1 = .norm fr1 lo1 σ1 → Sc P comp B0 g1 β1 σ1 lo1 fr1 A1 w1 → y.wpIn (Fw ro) 0 P (PostC P comp B0 g1 β1 σ1 w1 out) A1 w1)
    (hj : ∀ j fr1 lo1 σ1, o1 = .jump j fr1 lo1 σ1 → out = .jump j fr1 lo1 σ1) : (Code.seq x y).wpIn (Fw ro) 0 P (PostC P comp B0 g β σ w out) A w := by
  refine wpIn_seq (wpIn_mono hx fun e a v hp => ?_)
  obtain ⟨fr1, lo1, σ1, h1, g1, β1, h2, h3⟩ := hp
  rcases h1 with ⟨ho, rfl⟩ | ⟨j, ho, rfl⟩
  · exact wpIn_mono (hn fr1 lo1 σ1 g1 β1 a v ho h2) fun e a' v' hq => hq.after h3
  · have : PostC P comp B0 g β σ w out j.ex a v := ⟨fr1, lo1, σ1, .inr ⟨j, hj _ _ _ _ ho, rfl⟩, g1, β1, h2, h3⟩
    cases j <;> exact this

theorem block_ok {id : Nat} {c : Code} {ro : Option Nat} {o1 : Out} (hx : c.wpIn (Fw ro) 0 P (PostC P comp B0 g β σ w o1) A w) : (Code.block id c).wpIn (Fw ro) 0 P (PostC P comp B0 g β σ w (kBlock id o1)) A w := by
  refine wpIn_block (wpIn_mono hx fun e a v hp => ?_)
  obtain ⟨fr1, lo1, σ1, h1, g1, β1, h2, h3⟩ := hp
  rcases h1 with ⟨rfl, rfl⟩ | ⟨j, rfl, rfl⟩
  · exact ⟨fr1, lo1, σ1, .inl ⟨rfl, rfl⟩, g1, β1, h2, h3⟩
  · cases j with
    | ret => exact ⟨fr1, lo1, σ1, .inr ⟨.ret, rfl, rfl⟩, g1, β1, h2, h3⟩
    | goto l => exact ⟨fr1, lo1, σ1, .inr ⟨.goto l, rfl, rfl⟩, g1, β1, h2, h3⟩
    | exit i =>
      by_cases hi : i = id
      · subst hi
        simp only [Jump.ex, Exit.inBlock, if_true]
        exact ⟨fr1, lo1, σ1, .inl ⟨by simp [kBlock], rfl⟩, g1, β1, h2, h3⟩
      · simp only [Jump.ex, Exit.inBlock, hi, if_false]
        exact ⟨fr1, lo1, σ1, .inr ⟨.exit i, by simp [kBlock, beqF hi], rfl⟩, g1, β1, h2, h3⟩

theorem cond_ok {c : Operand} {c' : Opd} {x y : Code} {ro : Option Nat} {t : Bool} {Q : Exit → Act → World → Prop} (h : St P comp g β σ lo fr A w) (hc : cOpd c = some c') (ht : c'.ev fr = .bool t)
    (hx : (if t then x else y).wpIn (Fw ro) 0 P Q A w) : (Code.cond c x y).wpIn (Fw ro) 0 P Q A w :=
  wpIn_cond (bool_of (Rs.ev h.f hc) ht) hx

end Go.Vx
end
