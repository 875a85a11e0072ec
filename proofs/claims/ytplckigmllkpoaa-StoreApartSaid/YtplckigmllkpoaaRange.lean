/- A range over a function whose iterator hands over values that lead to memory: one law for the statement, over the iterator's contract 'SeqW'. -/
import Derived.Test.YtplckigmllkpoaaLib
namespace Go.Proofs.Ytplckigmllkpoaa
open Go.RowKit Go.Shelf

/-- The blocks from M on, up to N, have not turned. -/
def Mid (M N : Nat) (W W' : World) : Prop := ∀ b, M ≤ b → b < N → W'.heap[b]? = W.heap[b]?
theorem Mid.trans {M N : Nat} {A B C : World} (h : Mid M N A B) (k : Mid M N B C) : Mid M N A C := fun b h1 h2 => (k b h1 h2).trans (h b h1 h2)

/-- THE ITERATOR's CONTRACT: it hands over just xs, one by one, each by values of which E holds when they are handed over; it keeps whatever abides calls that turn nothing that was there (J), and asks that J keep the blocks of kp. -/
def SeqW {α : Type} (n : Nat) (P : Program) (gf : Nat) (lb : Array Value) (E : World → World → α → Array Value → Prop) (xs : List α) (Kp : World → Prop) : Prop :=
  ∀ (l : Nat) (J Jx : List α → World → Prop) (W0 : World),
    (∀ pre W W', J pre W → Below W.heap.size W W' → J pre W') →
    (∀ pre W W', Jx pre W → Below W.heap.size W W' → Jx pre W') →
    (∀ pre W, J pre W → Kp W) →
    (∀ pre W, Jx pre W → Kp W) →
    (∀ pre x args W0 W, J pre W0 → Below W0.heap.size W0 W → pre ++ [x] <+: xs → E W0 W x args → YieldAt Fence.wide (n - 1) P l args W fun e W' =>
      Mid W0.heap.size W.heap.size W W' ∧ ((e = .returned (.bool true) ∧ J (pre ++ [x]) W') ∨ (e = .returned (.bool false) ∧ Jx (pre ++ [x]) W'))) →
    J [] W0 →
    CallsIn Fence.wide n P gf (#[.func (.yield l) #[] #[]] ++ lb) W0 fun e W' => (∃ v, e = .returned v) ∧ (J xs W' ∨ ∃ pre, pre <+: xs ∧ Jx pre W')

/-- What a round's body must achieve. -/
def rPost {α : Type} (B M N : Nat) (I : List α → World → Prop) (Ix : Code → List α → World → Prop) (xs : List α) (W : World) : Exit → Act → World → Prop
  | .normal, _, W' => KeepsFrom B W W' ∧ Mid M N W W' ∧ I xs W'
  | .ret, _, W' => KeepsFrom B W W' ∧ Mid M N W W' ∧ Ix .ret xs W'
  | .exit id, _, W' => KeepsFrom B W W' ∧ Mid M N W W' ∧ Ix (.exit id) xs W'
  | .goto t, _, W' => KeepsFrom B W W' ∧ Mid M N W W' ∧ Ix (.goto t) xs W'
  | .panic _, _, _ => False
  | .outgrown, _, _ => False

theorem grown_of_below {W W' : World} (h : Below W.heap.size W W') : W.grownBy W' none := ⟨h.os, h.tape, h.output, h.size, fun k hk _ => h.block k hk⟩

theorem mid_put {M N l : Nat} {W : World} (o : Obj) (h : l < M) : Mid M N W (W.putObj l o) := fun b h1 _ => World.putObj_heap_other (by omega)
theorem wpIn_range {α : Type} {n : Nat} {P : Program} {g : Operand} {ps : Array Tmp} {assign body : Code} {Q : Exit → Act → World → Prop} {a : Act} {w : World}
    (h1 : 1 ≤ n) {gf : Nat} {lb : Array Value} (hg : a.eval g = .func (.func gf) #[] lb) (eg : ∀ args w, (callFunc gf args).run P w = .ok (.enter gf args) w)
    {E : World → World → α → Array Value → Prop} {xs : List α} {Kp : World → Prop} (hseq : SeqW (n - 1) P gf lb E xs Kp)
    (hps : ∀ W0 W x args, E W0 W x args → args.size = ps.size)
    (I : List α → World → Prop) (Ix : Code → List α → World → Prop) (Ax : Nat → Nat → List α → α → Act → World → Prop)
    (hI : OwnFrom w.heap.size I) (hIx : ∀ c, OwnFrom w.heap.size (Ix c)) (hAx : ∀ M N pre x a₁, OwnFrom w.heap.size (fun (_ : Unit) W => Ax M N pre x a₁ W))
    (hIk : ∀ pre W, I pre W → Kp W) (hIxk : ∀ c pre W, Ix c pre W → Kp W) (h0 : I [] w)
    (hassign : ∀ (l : Nat) (pre : List α) (x : α) (args : Array Value) (W0 W : World), I pre W0 → w.heap.size < W0.heap.size → Below W0.heap.size W0 W → pre ++ [x] <+: xs → E W0 W x args →
      assign.wpIn (Fence.wide.inRound l) (n - 1 - 1) P (Exit.then (fun a₁ W₁ => KeepsFrom w.heap.size W W₁ ∧ Mid W0.heap.size W.heap.size W W₁ ∧ Ax W0.heap.size W.heap.size pre x a₁ W₁) (fun _ _ _ => False))
        { tmps := (ps.zip args).foldl (fun t (p, v) => t.setIfInBounds p v) a.tmps, defers := [] } W)
    (hbody : ∀ (l M N : Nat) (pre : List α) (x : α) (a₁ : Act) (W : World), w.heap.size + 1 < M → M ≤ N → N ≤ W.heap.size → Ax M N pre x a₁ W → pre ++ [x] <+: xs →
      body.wpIn (Fence.wide.inRound l) (n - 1 - 1) P (rPost w.heap.size M N I Ix (pre ++ [x]) W) a₁ W)
    (hdone : ∀ (D : Nat) (W : World), w.heap.size ≤ D → I xs W → W.heap[D]? = some (.deferred (some [])) → Q .normal { a with defers := { target := .collected D, args := #[] } :: a.defers } W)
    (hstop : ∀ (D : Nat) (c : Code) (pre : List α) (W : World), w.heap.size ≤ D → pre <+: xs → Ix c pre W → W.heap[D]? = some (.deferred (some [])) → c.wpIn Fence.wide n P Q { a with defers := { target := .collected D, args := #[] } :: a.defers } W) :
    (Code.rangeFunc g ps assign body).wpIn Fence.wide n P Q a w := by
  refine wpIn_rangeFunc ?_
  intro fn hfn
  rw [show Fence.wide.round = none from rfl]
  obtain ⟨rec, hrec⟩ : ∃ rec : LoopState → Option Code → Loop, rec = fun st pe => { state := st, pending := pe, fn, tmps := a.tmps, params := ps, assign, body, defers := w.heap.size } := ⟨_, rfl⟩
  obtain ⟨W1, hW1⟩ : ∃ W1, (w.alloc (.deferred (some []))).alloc (.loop (rec .ready none)) = W1 := ⟨_, rfl⟩
  have hL1 : W1.heap[w.heap.size + 1]? = some (.loop (rec .ready none)) := by
    rw [← hW1]; have := World.alloc_heap_new (w.alloc (.deferred (some []))) (.loop (rec .ready none)); rwa [World.size_alloc] at this
  have hK1 : W1.heap[w.heap.size]? = some (.deferred (some [])) := by
    rw [← hW1]; exact (Below.heap_alloc _ _ _ (by simp)).trans (World.alloc_heap_new w _)
  have hI1 : I [] W1 := by rw [← hW1]; exact hI.alloc _ (hI.alloc _ h0)
  refine ⟨w.heap.size + 1, [{ target := .collected w.heap.size, args := #[] }], W1, { target := .fn (.func gf) lb, args := #[.func (.yield (w.heap.size + 1)) #[] #[]] }, W1, gf,
    #[.func (.yield (w.heap.size + 1)) #[] #[]] ++ lb, W1, ?_, ?_, ?_, ?_, fun _ => h1, ?_⟩
  · rw [← hW1, hrec]; exact run_enterLoop_outer _ _ _ _ _
  · simp only [resolve, hg]
    simp [go_sem]
  · intro f' hf'; trivial
  · simp [invoke, go_sem, eg]
  · refine (hseq (w.heap.size + 1)
      (fun pre W => I pre W ∧ W.heap[w.heap.size + 1]? = some (.loop (rec .ready none)) ∧ W.heap[w.heap.size]? = some (.deferred (some [])))
      (fun pre W => ∃ c, Ix c pre W ∧ W.heap[w.heap.size + 1]? = some (.loop (rec .done (some c))) ∧ W.heap[w.heap.size]? = some (.deferred (some [])))
      W1
      (fun s A B hs hb => ⟨hI s A B none hs.1 (grown_of_below hb) (fun r h => by cases h), (hb.block _ (lt_of_some hs.2.1)).trans hs.2.1, (hb.block _ (lt_of_some hs.2.2)).trans hs.2.2⟩)
      (fun s A B hs hb => by
        obtain ⟨c, hc, hl, hk⟩ := hs
        exact ⟨c, hIx c s A B none hc (grown_of_below hb) (fun r h => by cases h), (hb.block _ (lt_of_some hl)).trans hl, (hb.block _ (lt_of_some hk)).trans hk⟩)
      (fun pre W hs => hIk pre W hs.1)
      (fun pre W hs => by obtain ⟨c, hc, _⟩ := hs; exact hIxk c pre W hc)
      ?_ ⟨hI1, hL1, hK1⟩).mono ?_
    · rintro pre x args W0 W ⟨hi0, hl0, hk0⟩ hb0 hpre hE
      have hl := (hb0.block _ (lt_of_some hl0)).trans hl0
      have hk := (hb0.block _ (lt_of_some hk0)).trans hk0
      have hlt : w.heap.size + 1 < W.heap.size := lt_of_some hl
      have hlt0 : w.heap.size + 1 < W0.heap.size := lt_of_some hl0
      have hy := run_yield (P := P) (args := args) hl (by rw [hrec]; exact hps W0 W x args hE)
      rw [hrec] at hy
      refine ⟨fn, _, assign, body, hy, roundIn_of_wpIn hfn (wpIn_mono (hassign _ pre x args W0 W hi0 (lt_of_some hk0) hb0 hpre hE) ?_)⟩
      intro e a₁ W₁ hq
      cases e with
      | normal =>
        obtain ⟨hkp, hmid, hax⟩ := hq
        have hl1 := hkp.same _ _ (by omega) hl rfl
        have hk1 := hkp.same _ _ (Nat.le_refl _) hk rfl
        have hlt1 : w.heap.size + 1 < W₁.heap.size := lt_of_some hl1
        refine ⟨_, run_beginRound hl1 (by rw [hrec]), ?_⟩
        have hl2 : (W₁.putObj (w.heap.size + 1) (.loop { rec .ready none with state := .busy })).heap[w.heap.size + 1]? = some (.loop { rec .ready none with state := .busy }) := World.putObj_heap_same hlt1
        have hk2 : (W₁.putObj (w.heap.size + 1) (.loop { rec .ready none with state := .busy })).heap[w.heap.size]? = some (.deferred (some [])) := (World.putObj_heap_other (by omega)).trans hk1
        have hax2 : Ax W0.heap.size W.heap.size pre x a₁ (W₁.putObj (w.heap.size + 1) (.loop { rec .ready none with state := .busy })) := (hAx _ _ pre x a₁).putObj (s := ()) _ hax (by omega) hl1 rfl
        have hm2 : Mid W0.heap.size W.heap.size W (W₁.putObj (w.heap.size + 1) (.loop { rec .ready none with state := .busy })) := hmid.trans (mid_put _ (by omega))
        refine wpIn_mono (hbody (w.heap.size + 1) W0.heap.size W.heap.size pre x a₁ _ (by omega) hb0.size (Nat.le_trans hkp.size (by simp [World.putObj])) hax2 hpre) ?_
        have fin : ∀ (jump : Option Code) (W3 : World), KeepsFrom w.heap.size (W₁.putObj (w.heap.size + 1) (.loop { rec .ready none with state := .busy })) W3 →
            (Instr.endRound (w.heap.size + 1) jump).run P W3 = .ok (.bool jump.isNone) (W3.putObj (w.heap.size + 1) (.loop (rec (if jump.isNone then .ready else .done) jump))) ∧
            W3.heap[w.heap.size + 1]? = some (.loop { rec .ready none with state := .busy }) ∧
            (W3.putObj (w.heap.size + 1) (.loop (rec (if jump.isNone then .ready else .done) jump))).heap[w.heap.size + 1]? = some (.loop (rec (if jump.isNone then .ready else .done) jump)) ∧
            (W3.putObj (w.heap.size + 1) (.loop (rec (if jump.isNone then .ready else .done) jump))).heap[w.heap.size]? = some (.deferred (some [])) := fun jump W3 hk3 => by
          have hl3 := hk3.same _ _ (by omega) hl2 rfl
          have := run_endRound (P := P) jump hl3
          rw [hrec] at this ⊢
          exact ⟨this, by rw [hrec] at hl3; exact hl3, World.putObj_heap_same (lt_of_some hl3), (World.putObj_heap_other (by omega)).trans (hk3.same _ _ (Nat.le_refl _) hk2 rfl)⟩
        rintro e a3 W3 hp
        cases e with
        | normal =>
          obtain ⟨hk3, hmid3, hi3⟩ := hp
          obtain ⟨hr, hl3, hl4, hk4⟩ := fin none W3 hk3
          exact ⟨_, _, hr, (hm2.trans hmid3).trans (mid_put _ (by omega)), .inl ⟨rfl, hI.putObj _ hi3 (by omega) hl3 rfl, hl4, hk4⟩⟩
        | ret =>
          obtain ⟨hk3, hmid3, hi3⟩ := hp
          obtain ⟨hr, hl3, hl4, hk4⟩ := fin (some .ret) W3 hk3
          exact ⟨_, _, hr, (hm2.trans hmid3).trans (mid_put _ (by omega)), .inr ⟨rfl, .ret, (hIx _).putObj _ hi3 (by omega) hl3 rfl, hl4, hk4⟩⟩
        | exit id =>
          obtain ⟨hk3, hmid3, hi3⟩ := hp
          obtain ⟨hr, hl3, hl4, hk4⟩ := fin (some (.exit id)) W3 hk3
          exact ⟨_, _, hr, (hm2.trans hmid3).trans (mid_put _ (by omega)), .inr ⟨rfl, .exit id, (hIx _).putObj _ hi3 (by omega) hl3 rfl, hl4, hk4⟩⟩
        | goto t =>
          obtain ⟨hk3, hmid3, hi3⟩ := hp
          obtain ⟨hr, hl3, hl4, hk4⟩ := fin (some (.goto t)) W3 hk3
          exact ⟨_, _, hr, (hm2.trans hmid3).trans (mid_put _ (by omega)), .inr ⟨rfl, .goto t, (hIx _).putObj _ hi3 (by omega) hl3 rfl, hl4, hk4⟩⟩
        | panic ch => exact hp.elim
        | outgrown => exact hp.elim
      | ret => exact hq.elim
      | exit id => exact hq.elim
      | goto t => exact hq.elim
      | panic ch => exact hq.elim
      | outgrown => exact hq.elim
    · rintro e W2 ⟨⟨v, rfl⟩, (⟨hi, hl, hk⟩ | ⟨pre, hSp, c, hi, hl, hk⟩)⟩
      · exact ⟨none, _, by have := run_endLoop (P := P) hl (by rw [hrec]; simp); rw [hrec] at this; exact this, hdone _ _ (Nat.le_refl _) (hI.putObj _ hi (by omega) hl rfl) ((World.putObj_heap_other (by omega)).trans hk)⟩
      · exact ⟨some c, _, by have := run_endLoop (P := P) hl (by rw [hrec]; simp); rw [hrec] at this; exact this, hstop _ c pre _ (Nat.le_refl _) hSp ((hIx c).putObj _ hi (by omega) hl rfl) ((World.putObj_heap_other (by omega)).trans hk)⟩
end Go.Proofs.Ytplckigmllkpoaa
