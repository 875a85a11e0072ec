/- wait.part: who holds, and the others. -/
import Derived.Test.YteogmehbjopedaaWaitC
import Derived.BigRegionIn
namespace Go.Proofs.Yteogmehbjopedaa
open Go.RowKit Go.Shelf
attribute [local go_sem] Oper.semAt_some
theorem OSl.shape {α : Type} {R : Enc α} {size : Nat} {e : TypeId} {base : Nat} {w : World} {ok : Nat → Prop} {v : Value} {xs : List α} (h : OSl R size e base w ok v xs) : ∃ a c, v = .slice a xs.length c := by
  obtain ⟨rows, _, hown⟩ := h
  rcases hown.2 with ⟨rfl, hn⟩ | ⟨g', cap, cur, rfl, _⟩
  · exact ⟨_, _, by rw [hn]⟩
  · exact ⟨_, _, rfl⟩
def outs (p : W → Bool) (pre : List W) : List Int := (pre.filter p).map (·.1)
def rests (p : W → Bool) (pre : List W) : List W := pre.filter fun x => !p x
theorem outs_yes {p : W → Bool} {pre : List W} {x : W} (h : p x = true) : outs p (pre ++ [x]) = outs p pre ++ [x.1] := by simp [outs, h]
theorem outs_no {p : W → Bool} {pre : List W} {x : W} (h : p x = false) : outs p (pre ++ [x]) = outs p pre := by simp [outs, h]
theorem rests_yes {p : W → Bool} {pre : List W} {x : W} (h : p x = true) : rests p (pre ++ [x]) = rests p pre := by simp [rests, h]
theorem rests_no {p : W → Bool} {pre : List W} {x : W} (h : p x = false) : rests p (pre ++ [x]) = rests p pre ++ [x] := by simp [rests, h]
theorem outs_len (p : W → Bool) (pre : List W) : (outs p pre).length ≤ pre.length := by unfold outs; rw [List.length_map]; exact List.length_filter_le _ _
theorem rests_len (p : W → Bool) (pre : List W) : (rests p pre).length ≤ pre.length := List.length_filter_le _ _
theorem cell_two_new (w : World) (x y : Value) (t : TypeId) : ∀ j u, [x, y][j]? = some u → (w.alloc (.cells #[x, y] t)).cell? ((⟨w.heap.size, 0, none⟩ : Addr).add j) = some u := by
  intro j u hj
  rw [addr_add, cell_of (World.alloc_heap_new w _)]
  match j, hj with
  | 0, hj => simpa using hj
  | 1, hj => simpa using hj
  | j + 2, hj => simp at hj
/-- Between two rounds. -/
structure PInv (p : W → Bool) (w : World) (lv fv vo vr : Value) (pre : List W) (W : World) : Prop where
  bo : W.heap[w.heap.size]? = some (.cells #[vo] 23)
  br : W.heap[w.heap.size + 1]? = some (.cells #[vr] 22)
  bl : W.heap[w.heap.size + 2]? = some (.cells #[lv] 22)
  bi : W.heap[w.heap.size + 3]? = some (.cells #[fv] 41)
  out : OSl IntE 1 3 w.heap.size W (fun _ => False) vo (outs p pre)
  rest : OSl WaiterE 2 40 w.heap.size W (fun b => w.heap.size + 4 ≤ b ∧ some b ≠ vo.ownBlock) vr (rests p pre)
  bel : Below w.heap.size w W
theorem PInv.keep {p : W → Bool} {w : World} {lv fv vo vr : Value} {pre : List W} {A B : World} (h : PInv p w lv fv vo vr pre A) (hb : Below w.heap.size w B)
    (hs : Same (fun _ => True) A B) : PInv p w lv fv vo vr pre B :=
  ⟨hs _ _ _ _ trivial h.bo, hs _ _ _ _ trivial h.br, hs _ _ _ _ trivial h.bl, hs _ _ _ _ trivial h.bi, h.out.keep intGood (fun b c e fr _ hc => hs b c e fr trivial hc), h.rest.keep waiterGood (fun b c e fr _ hc => hs b c e fr trivial hc), hb⟩
theorem PInv.grown {p : W → Bool} {w : World} {lv fv vo vr : Value} {pre : List W} {A B : World} {row : Option Nat} (h : PInv p w lv fv vo vr pre A) (hg : A.grownBy B row)
    (hr : ∀ r, row = some r → w.heap.size + 4 ≤ r ∧ ∃ o : Obj, A.heap[r]? = some o ∧ o.isCells = false) : PInv p w lv fv vo vr pre B :=
  h.keep (h.bel.grown hg h.bel.size (fun k hk => by have := (hr k hk).1; omega)) (Same.of_grown hg fun r e => .inr (hr r e).2)
theorem PInv.own_lt {p : W → Bool} {w : World} {lv fv vo vr : Value} {pre : List W} {A : World} (h : PInv p w lv fv vo vr pre A) :
    (∀ b, vo.ownBlock = some b → b < A.heap.size ∧ w.heap.size + 4 ≤ b) ∧ (∀ b, vr.ownBlock = some b → b < A.heap.size ∧ w.heap.size + 4 ≤ b) ∧ (∀ b, vo.ownBlock = some b → vr.ownBlock ≠ some b) := by
  have key : ∀ b c e, (e = 3 ∨ e = 40) → w.heap.size ≤ b → A.heap[b]? = some (.cells c e (0, 0)) → w.heap.size + 4 ≤ b := by
    intro b c e he hb hc
    have n0 : b ≠ w.heap.size := fun h' => by rw [h', h.bo] at hc; cases hc; rcases he with he | he <;> cases he
    have n1 : b ≠ w.heap.size + 1 := fun h' => by rw [h', h.br] at hc; cases hc; rcases he with he | he <;> cases he
    have n2 : b ≠ w.heap.size + 2 := fun h' => by rw [h', h.bl] at hc; cases hc; rcases he with he | he <;> cases he
    have n3 : b ≠ w.heap.size + 3 := fun h' => by rw [h', h.bi] at hc; cases hc; rcases he with he | he <;> cases he
    omega
  refine ⟨fun b hb => ?_, fun b hb => ?_, fun b hb hb' => ?_⟩
  · obtain ⟨h1, c, hc⟩ := h.out.lt b hb; exact ⟨lt_of_some hc, key b c _ (.inl rfl) h1 hc⟩
  · obtain ⟨h1, c, hc⟩ := h.rest.lt b hb; exact ⟨lt_of_some hc, key b c _ (.inr rfl) h1 hc⟩
  · obtain ⟨_, c, hc⟩ := h.out.lt b hb; obtain ⟨_, c', hc'⟩ := h.rest.lt b hb'; rw [hc] at hc'; cases hc'
/-- The round's frame and world behind the assignments. -/
def PAx (p : W → Bool) (w : World) (lv fv : Value) (tm : Nat → Value → Bool → Array Value) (M N : Nat) (pre : List W) (x : W) (a : Act) (W' : World) : Prop :=
  ∃ vo vr B sa sc, PInv p w lv fv vo vr pre W' ∧ (∀ b, vo.ownBlock = some b → b < M) ∧ (∀ b, vr.ownBlock = some b → b < M) ∧ N ≤ B ∧
    W'.heap[B]? = some (.cells #[.int .i64 x.1, .slice sa x.2.length sc] 40) ∧ In x.1 ∧ ISl W' (fun b => M ≤ b) (.slice sa x.2.length sc) x.2 ∧
    a = { tmps := tm B (.agg #[.int .i64 x.1, .slice sa x.2.length sc]) (p x), defers := [] }
theorem info_waiter : (Try.prog.info? 40).map (fun i => (i.zero, i.size, i.bytes)) = some (some (.agg #[.int .i64 0, .slice none 0 0]), 2, 32) := by kernel_rfl
/-- A waiter more in 'out'. -/
theorem PInv.yes {p : W → Bool} {w : World} {lv fv vo vr : Value} {pre : List W} {A : World} {x : W} {M N : Nat} (h : PInv p w lv fv vo vr pre A) (hx : p x = true) (hin : In x.1) (hn : pre.length ≤ 1000000) (hM : ∀ b, vo.ownBlock = some b → b < M) (hM4 : w.heap.size + 4 ≤ M) (hN : N ≤ A.heap.size) :
    ∃ v' w3, (Builtin.append_ #[23, 23] 23 #[vo, .slice (some ⟨A.heap.size, 0, none⟩) 1 1]).run Try.prog (A.alloc (.cells #[.int .i64 x.1] 3)) = .ok v' w3 ∧ (∃ a n c, v' = .slice a n c) ∧
      w3.cell? ⟨w.heap.size, 0, none⟩ = some vo ∧ w3.frozen? ⟨w.heap.size, 0, none⟩ = false ∧
      PInv p w lv fv v' vr (pre ++ [x]) (w3.setCell ⟨w.heap.size, 0, none⟩ v') ∧ KeepsFrom (w.heap.size + 4) A (w3.setCell ⟨w.heap.size, 0, none⟩ v') ∧ Mid M N A (w3.setCell ⟨w.heap.size, 0, none⟩ v') := by
  have hb2 := (Below.refl A.heap.size A).alloc (Nat.le_refl _) (.cells #[.int .i64 x.1] 3)
  have hz2 : (A.alloc (.cells #[.int .i64 x.1] 3)).heap.size = A.heap.size + 1 := World.size_alloc _ _
  have hA2 : PInv p w lv fv vo vr pre (A.alloc (.cells #[.int .i64 x.1] 3)) := h.keep (h.bel.alloc h.bel.size _) (Same.of_below hb2)
  obtain ⟨v', w3, hrun, hO, hg, hloc, _⟩ := OSl.append (P := Try.prog) intGood (by decide) hA2.out 23 23 (.int .i64 0) 8 Try.underlying23 info_int rfl ⟨A.heap.size, 0, none⟩ 1 [x.1] [[.int .i64 x.1]]
    (Rows.one ⟨rfl, hin⟩) (cell_one_new A (.int .i64 x.1) 3) (by simp [Value.oneCell']) (by have := outs_len p pre; simp [maxLen]; omega) (by have := outs_len p pre; simp; omega) (by have := hA2.bel.size; exact this)
  generalize A.alloc (.cells #[.int .i64 x.1] 3) = A2 at *
  obtain ⟨olt, rlt, sep⟩ := hA2.own_lt
  have hA2s : w.heap.size + 4 ≤ A2.heap.size := by have := lt_of_some hA2.bi; omega
  have hs3 : Same (fun b => some b ≠ vo.ownBlock) A2 w3 := Same.of_grown hg fun r e => .inl fun h' => h' e.symm
  have n0 : ∀ i, i < 4 → some (w.heap.size + i) ≠ vo.ownBlock := fun i hi e => by have := (olt _ e.symm).2; omega
  have bo3 := hs3 _ _ _ _ (n0 0 (by omega)) hA2.bo
  have br3 := hs3 _ _ _ _ (n0 1 (by omega)) hA2.br
  have bl3 := hs3 _ _ _ _ (n0 2 (by omega)) hA2.bl
  have bi3 := hs3 _ _ _ _ (n0 3 (by omega)) hA2.bi
  have far : ∀ (b : Nat) (o : Obj), b ≠ w.heap.size → w3.heap[b]? = some o → (w3.setCell ⟨w.heap.size, 0, none⟩ v').heap[b]? = some o := fun b o hb ho => by
    rw [Below.heap_setCell _ _ _ _ hb]; exact ho
  have own' : ∀ b, v'.ownBlock = some b → w.heap.size + 4 ≤ b := fun b hb => by
    rcases hloc with e | e
    · exact (olt b (e ▸ hb)).2
    · rw [e] at hb; cases hb; exact hA2s
  refine ⟨v', w3, hrun, (by obtain ⟨a, c, e⟩ := hO.shape; exact ⟨a, _, c, e⟩), cell_of bo3, free_of bo3, ⟨Boxed.set v' bo3, far _ _ (by omega) br3, far _ _ (by omega) bl3, far _ _ (by omega) bi3, ?_, ?_, ?_⟩, ?_, ?_⟩
  · rw [outs_yes hx]
    exact hO.keep intGood (fun b c e fr hb hc => far b _ (fun e' => by rcases hb with hb | hb; exact hb.elim; have := own' b hb.symm; omega) hc)
  · rw [rests_yes hx]
    have h1 := hA2.rest.weak (ok' := fun b => (w.heap.size + 4 ≤ b ∧ some b ≠ vo.ownBlock) ∧ some b ≠ v'.ownBlock) waiterGood (fun b hb h' => ⟨h', fun e => by
      rcases hloc with el | el
      · rw [el] at e; exact h'.2 e
      · rw [el] at e; cases e; omega⟩)
    have h2 := h1.keep waiterGood (w' := w3.setCell ⟨w.heap.size, 0, none⟩ v') (fun b c e fr hb hc => by
      have hbS : w.heap.size + 4 ≤ b ∧ some b ≠ vo.ownBlock := by
        rcases hb with hb | hb
        · exact hb.1
        · exact ⟨(rlt b hb.symm).2, fun e' => sep b e'.symm hb.symm⟩
      exact far b _ (by omega) (hs3 _ _ _ _ hbS.2 hc))
    exact h2.weak waiterGood (fun b _ h' => ⟨h'.1.1, h'.2⟩)
  · exact (hA2.bel.grown hg hA2.bel.size (fun k hk => by have := (olt k hk).2; omega)).setCell (by simp) _
  · have k1 : KeepsOthers A A2 := ⟨hb2.size, fun k o hk ho => (hb2.block k (lt_of_some hk)).trans hk⟩
    have k2 : KeepsOthers A2 w3 := KeepsOthers.of_grownBy hg fun j o hj ho => by
      obtain ⟨_, c, hc⟩ := hA2.out.lt j hj
      rw [hc] at ho; cases ho; rfl
    exact ((k1.trans k2).trans (KeepsOthers.setCell _ _ _)).from _
  · intro b hb1 hb2'
    rw [Below.heap_setCell _ _ _ _ (by show b ≠ w.heap.size; omega), hg.block b (by omega) (fun e => by have := hM b e.symm; omega)]
    exact hb2.block b (by omega)
/-- A waiter more in 'rest'. -/
theorem PInv.no {p : W → Bool} {w : World} {lv fv vo vr : Value} {pre : List W} {A : World} {x : W} {M N : Nat} {sa : Option Addr} {sc : Nat} (h : PInv p w lv fv vo vr pre A) (hx : p x = false) (hin : In x.1) (hsl : ISl A (fun b => M ≤ b) (.slice sa x.2.length sc) x.2) (hn : pre.length ≤ 1000000)
    (hM : ∀ b, vo.ownBlock = some b → b < M) (hM' : ∀ b, vr.ownBlock = some b → b < M) (hM4 : w.heap.size + 4 ≤ M) (hN : N ≤ A.heap.size) :
    ∃ v' w3, (Builtin.append_ #[22, 22] 22 #[vr, .slice (some ⟨A.heap.size, 0, none⟩) 1 1]).run Try.prog (A.alloc (.cells #[.int .i64 x.1, .slice sa x.2.length sc] 40)) = .ok v' w3 ∧ (∃ a n c, v' = .slice a n c) ∧
      w3.cell? ⟨w.heap.size + 1, 0, none⟩ = some vr ∧ w3.frozen? ⟨w.heap.size + 1, 0, none⟩ = false ∧
      PInv p w lv fv vo v' (pre ++ [x]) (w3.setCell ⟨w.heap.size + 1, 0, none⟩ v') ∧ KeepsFrom (w.heap.size + 4) A (w3.setCell ⟨w.heap.size + 1, 0, none⟩ v') ∧ Mid M N A (w3.setCell ⟨w.heap.size + 1, 0, none⟩ v') := by
  have hb2 := (Below.refl A.heap.size A).alloc (Nat.le_refl _) (.cells #[.int .i64 x.1, .slice sa x.2.length sc] 40)
  have hz2 : (A.alloc (.cells #[.int .i64 x.1, .slice sa x.2.length sc] 40)).heap.size = A.heap.size + 1 := World.size_alloc _ _
  have hA2 : PInv p w lv fv vo vr pre (A.alloc (.cells #[.int .i64 x.1, .slice sa x.2.length sc] 40)) := h.keep (h.bel.alloc h.bel.size _) (Same.of_below hb2)
  obtain ⟨v', w3, hrun, hO, hg, hloc, _⟩ := OSl.append (P := Try.prog) waiterGood (by decide) hA2.rest 22 22 (.agg #[.int .i64 0, .slice none 0 0]) 32 Try.underlying22 info_waiter rfl ⟨A.heap.size, 0, none⟩ 1 [x] [[.int .i64 x.1, .slice sa x.2.length sc]]
    (Rows.one ⟨_, rfl, hin, (hsl.below intGood hb2).weak intGood (by decide) (fun b _ hb => ⟨⟨by omega, fun e => by have := hM b e.symm; omega⟩, fun e => by have := hM' b e.symm; omega⟩)⟩) (by intro j u hj; exact cell_two_new A _ _ _ j u hj) (by simp [Value.oneCell']) (by have := rests_len p pre; simp [maxLen]; omega) (by have := rests_len p pre; simp; omega) (by have := hA2.bel.size; exact this)
  generalize A.alloc (.cells #[.int .i64 x.1, .slice sa x.2.length sc] 40) = A2 at *
  obtain ⟨olt, rlt, sep⟩ := hA2.own_lt
  have hA2s : w.heap.size + 4 ≤ A2.heap.size := by have := lt_of_some hA2.bi; omega
  have hs3 : Same (fun b => some b ≠ vr.ownBlock) A2 w3 := Same.of_grown hg fun r e => .inl fun h' => h' e.symm
  have n0 : ∀ i, i < 4 → some (w.heap.size + i) ≠ vr.ownBlock := fun i hi e => by have := (rlt _ e.symm).2; omega
  have bo3 := hs3 _ _ _ _ (n0 0 (by omega)) hA2.bo
  have br3 := hs3 _ _ _ _ (n0 1 (by omega)) hA2.br
  have bl3 := hs3 _ _ _ _ (n0 2 (by omega)) hA2.bl
  have bi3 := hs3 _ _ _ _ (n0 3 (by omega)) hA2.bi
  have far : ∀ (b : Nat) (o : Obj), b ≠ w.heap.size + 1 → w3.heap[b]? = some o → (w3.setCell ⟨w.heap.size + 1, 0, none⟩ v').heap[b]? = some o := fun b o hb ho => by
    rw [Below.heap_setCell _ _ _ _ hb]; exact ho
  have own' : ∀ b, v'.ownBlock = some b → w.heap.size + 4 ≤ b := fun b hb => by
    rcases hloc with e | e
    · exact (rlt b (e ▸ hb)).2
    · rw [e] at hb; cases hb; exact hA2s
  refine ⟨v', w3, hrun, (by obtain ⟨a, c, e⟩ := hO.shape; exact ⟨a, _, c, e⟩), cell_of br3, free_of br3, ⟨far _ _ (by omega) bo3, Boxed.set v' br3, far _ _ (by omega) bl3, far _ _ (by omega) bi3, ?_, ?_, ?_⟩, ?_, ?_⟩
  · rw [outs_no hx]
    exact hA2.out.keep intGood (fun b c e fr hb hc => by
      rcases hb with hb | hb
      · exact hb.elim
      · exact far b _ (by have := (olt b hb.symm).2; omega) (hs3 _ _ _ _ (fun e' => sep b hb.symm e'.symm) hc))
  · rw [rests_no hx]
    exact hO.keep waiterGood (fun b c e fr hb hc => far b _ (by
      rcases hb with hb | hb
      · have := hb.1; omega
      · have := own' b hb.symm; omega) hc)
  · exact (hA2.bel.grown hg hA2.bel.size (fun k hk => by have := (rlt k hk).2; omega)).setCell (by simp) _
  · have k1 : KeepsOthers A A2 := ⟨hb2.size, fun k o hk ho => (hb2.block k (lt_of_some hk)).trans hk⟩
    have k2 : KeepsOthers A2 w3 := KeepsOthers.of_grownBy hg fun j o hj ho => by
      obtain ⟨_, c, hc⟩ := hA2.rest.lt j hj
      rw [hc] at ho; cases ho; rfl
    exact ((k1.trans k2).trans (KeepsOthers.setCell _ _ _)).from _
  · intro b hb1 hb2'
    rw [Below.heap_setCell _ _ _ _ (by show b ≠ w.heap.size + 1; omega), hg.block b (by omega) (fun e => by have := hM' b e.symm; omega)]
    exact hb2.block b (by omega)

def tmPart (S : Nat) (lv fv : Value) (B : Nat) (v : Value) (b : Bool) : Array Value :=
  #[lv, fv, undef, undef, .pointer (some ⟨S, 0, none⟩), .pointer (some ⟨S + 1, 0, none⟩), .pointer (some ⟨B, 0, none⟩), .bool b, lv, fv, .func (.func 41) #[] #[.pointer (some ⟨S + 2, 0, none⟩), .pointer (some ⟨S + 3, 0, none⟩)], v, .bool b, undef, undef, undef, undef, undef, undef, undef, undef, undef, undef, undef, undef]
set_option maxHeartbeats 2000000 in
theorem part_any (w : World) (lv : Value) (g : Nat) (lb : Array Value) (xs : List W) (p : W → Bool) (h : WSl w (fun _ => True) lv xs) (hp : PredW g lb p w)
    (eg : ∀ args w, (callFunc g args).run Try.prog w = .ok (.enter g args) w) (hlen : ∀ x ∈ xs, x.2.length ≤ 1000000000) (hn : xs.length ≤ 1000000) :
    Calls Try.prog 29 #[lv, .func (.func g) #[] lb] w fun e w' => ∃ vo vr, e = .returned (.tuple #[vo, vr]) ∧ ISl w' (fun b => w.heap.size ≤ b) vo (outs p xs) ∧ WSl w' (fun b => w.heap.size ≤ b) vr (rests p xs) ∧ Below w.heap.size w w' := by
  obtain ⟨a1, c1, rfl, l1, _⟩ := h.shape
  have hseq := those1_seq 8 w (w.heap.size + 2) (w.heap.size + 3) (.slice a1 xs.length c1) g lb xs p h hp eg hlen
  have HS := hid hseq
  clear hseq h hp
  refine (callsIn_wide (n := 9)).1 ?_
  refine callsIn_of_wp_marks Try.func29 rfl trivial ?_ rfl
  simp only [Try.ntmps29, List.size_toArray, List.length_cons, List.length_nil, Nat.reduceAdd, Nat.reduceSub, Array.replicate_succ, Array.replicate_zero, List.push_toArray, List.append_toArray, List.nil_append, List.cons_append]
  gi_wp2_with fail
  refine ⟨trivial, ?_⟩
  refine CallsIn.mono (callsIn_wide.2 (those_any _ _ _ ⟨_, _, _, rfl⟩ ⟨_, _, rfl⟩)) ?_
  rintro e w' ⟨rfl, hw'⟩
  have hz : w'.heap.size = w.heap.size + 4 := by rw [hw']; simp
  have hinv : PInv p w (.slice a1 xs.length c1) (.func (.func g) #[] lb) (.slice none 0 0) (.slice none 0 0) [] w' := by
    have hb : Below w.heap.size w w' := by rw [hw']; exact ((((Below.refl _ _).alloc (Nat.le_refl _) _).alloc (by simp <;> omega) _).alloc (by simp <;> omega) _).alloc (by simp <;> omega) _
    refine ⟨?_, ?_, ?_, ?_, OSl.nil _ _ _ _ _ _, OSl.nil _ _ _ _ _ _, hb⟩
    · rw [hw']; rw [Below.heap_alloc _ _ _ (by simp <;> omega), Below.heap_alloc _ _ _ (by simp <;> omega)]; exact heap_one _ _ _
    · rw [hw']; rw [Below.heap_alloc _ _ _ (by simp <;> omega), Below.heap_alloc _ _ _ (by simp <;> omega)]; exact heap_two _ _ _
    · rw [hw']; have := heap_one ((w.alloc (.cells #[.slice none 0 0] 23)).alloc (.cells #[.slice none 0 0] 22)) (.cells #[.slice a1 xs.length c1] 22) (.cells #[.func (.func g) #[] lb] 41); simpa using this
    · rw [hw']; have := heap_two ((w.alloc (.cells #[.slice none 0 0] 23)).alloc (.cells #[.slice none 0 0] 22)) (.cells #[.slice a1 xs.length c1] 22) (.cells #[.func (.func g) #[] lb] 41); simpa using this
  have hs0 : (((w.alloc (Obj.cells #[.slice none 0 0] 23)).alloc (Obj.cells #[.slice none 0 0] 22)).heap.size) = w.heap.size + 2 := by simp
  clear hw'
  have HI := hid hinv
  have HZ := hid hz
  clear hinv hz
  gi_wp2
  refine wpIn_range (by decide) (gf := 41) (lb := #[.pointer (some ⟨w.heap.size + 2, 0, none⟩), .pointer (some ⟨w.heap.size + 3, 0, none⟩)]) rfl (enters_of Try.func41 (by kernel_rfl) rfl)
    HS.out (fun _ _ _ _ ⟨_, e, _⟩ => by rw [e]; rfl)
    (fun pre W => ∃ vo vr, PInv p w (.slice a1 xs.length c1) (.func (.func g) #[] lb) vo vr pre W) (fun _ _ _ => False)
    (PAx p w (.slice a1 xs.length c1) (.func (.func g) #[] lb) (tmPart w.heap.size (.slice a1 xs.length c1) (.func (.func g) #[] lb)))
    ?hI (fun _ _ _ _ _ h => h.elim) ?hAx ?hIk (fun _ _ _ h => h.elim) ⟨_, _, HI.out⟩ ?assign ?body ?done (fun _ _ _ _ _ _ h => h.elim)
  case hI =>
    rintro pre A B row ⟨vo, vr, h⟩ hg hr
    exact ⟨vo, vr, h.grown hg (fun r e => by obtain ⟨h1, h2⟩ := hr r e; exact ⟨by have := HZ.out; omega, h2⟩)⟩
  case hAx =>
    rintro M N pre x a₁ _ A B row ⟨vo, vr, Bx, sa, sc, h, h1, h2, h3, h4, h5, h6, h7⟩ hg hr
    have hs : ∀ ok, Same ok A B := fun ok => Same.of_grown hg fun r e => .inr (hr r e).2
    exact ⟨vo, vr, Bx, sa, sc, h.grown hg (fun r e => by obtain ⟨g1, g2⟩ := hr r e; exact ⟨by have := HZ.out; omega, g2⟩), h1, h2, h3, hs (fun _ => True) _ _ _ _ trivial h4, h5, h6.keep intGood (hs _), h7⟩
  case hIk =>
    rintro pre W ⟨vo, vr, h⟩
    exact ⟨h.bel, h.bl, h.bi⟩
  case assign =>
    rintro l pre x args W0 W ⟨vo, vr, h⟩ hlt hb hpre ⟨v, rfl, sv, rfl, hin, hsl⟩
    obtain ⟨sa, sc, rfl, _⟩ := hsl.shape
    have hlts := h.own_lt
    have hb' : Below W.heap.size W (W.alloc (.cells #[.int .i64 x.1, .slice sa x.2.length sc] 40)) := (Below.refl _ _).alloc (Nat.le_refl _) _
    have hbw := (h.bel.trans (hb.mono h.bel.size)).alloc (Nat.le_trans h.bel.size hb.size) (.cells #[.int .i64 x.1, .slice sa x.2.length sc] 40)
    have HF : Hid (PAx p w (.slice a1 xs.length c1) (.func (.func g) #[] lb) (tmPart w.heap.size (.slice a1 xs.length c1) (.func (.func g) #[] lb)) W0.heap.size W.heap.size pre x
      { tmps := tmPart w.heap.size (.slice a1 xs.length c1) (.func (.func g) #[] lb) W.heap.size (.agg #[.int .i64 x.1, .slice sa x.2.length sc]) (p x), defers := [] } (W.alloc (.cells #[.int .i64 x.1, .slice sa x.2.length sc] 40))) :=
      ⟨vo, vr, W.heap.size, sa, sc, h.keep hbw (Same.of_below (hb.trans (hb'.mono hb.size))), fun b e => (hlts.1 b e).1, fun b e => (hlts.2.1 b e).1, Nat.le_refl _, World.alloc_heap_new _ _, hin, hsl.below intGood hb', rfl⟩
    clear h hlts hb' hbw hsl hb
    gi_wp2
    exact ⟨(KeepsOthers.alloc _ _).from _, fun b _ h2 => Below.heap_alloc _ _ _ h2, HF.out⟩
  case body =>
    rintro l M N pre x a₁ W hM1 hM2 hM3 ⟨vo, vr, Bx, sa, sc, h, h1, h2, h3, h4, h5, h6, rfl⟩ hpre
    have hpl : pre.length ≤ 1000000 := by have := hpre.length_le; simp at this; omega
    have hM4 : w.heap.size + 4 ≤ M := by have := HZ.out; omega
    obtain ⟨ao, co, rfl⟩ := h.out.shape
    obtain ⟨ar, cr, rfl⟩ := h.rest.shape
    have cb0 : W.cell? ⟨Bx, 0, none⟩ = some (.int .i64 x.1) := cell_of h4
    have cb1 : W.cell? ⟨Bx, 1, none⟩ = some (.slice sa x.2.length sc) := cell_of h4
    have co0 := cell_of (i := 0) h.bo
    have cr0 := cell_of (i := 0) h.br
    simp at co0 cr0
    have hxl := lt_of_some h.bi
    have hBl := lt_of_some h4
    unfold tmPart
    cases hq : p x
    · obtain ⟨v', w3, hrun, ⟨a', n', c', rfl⟩, hc3, hf3, hinv, hk, hmid⟩ := h.no hq h5 h6 hpl h1 h2 hM4 hM3
      have HF := hid (And.intro hinv (And.intro hk hmid))
      have HR := hid hrun
      clear hinv hk hmid hrun h h6 h1 h2 hpre hM1 hM2 hM3 hM4 h3 h4
      gi_wp2_with (gi_at_builtin; refine wpListIn_append_run rfl _ _ _ rfl _ _ rfl rfl _ _ HR.out ?_)
      exact ⟨by rw [HZ.out]; exact HF.out.2.1, HF.out.2.2, _, _, HF.out.1⟩
    · obtain ⟨v', w3, hrun, ⟨a', n', c', rfl⟩, hc3, hf3, hinv, hk, hmid⟩ := h.yes hq h5 hpl h1 hM4 hM3
      have HF := hid (And.intro hinv (And.intro hk hmid))
      have HR := hid hrun
      clear hinv hk hmid hrun h h6 h1 h2 hpre hM1 hM2 hM3 hM4 h3 h4
      gi_wp2_with (gi_at_builtin; refine wpListIn_append_run rfl _ _ _ rfl _ _ rfl rfl _ _ HR.out ?_)
      exact ⟨by rw [HZ.out]; exact HF.out.2.1, HF.out.2.2, _, _, HF.out.1⟩
  case done =>
    rintro D W hD ⟨vo, vr, h⟩ hK
    obtain ⟨ao, co, rfl⟩ := h.out.shape
    obtain ⟨ar, cr, rfl⟩ := h.rest.shape
    have co0 := cell_of (i := 0) h.bo
    have cr0 := cell_of (i := 0) h.br
    have fo0 := free_of (i := 0) h.bo
    have fr0 := free_of (i := 0) h.br
    simp at co0 cr0
    gi_wp2
    have hsame : Same (fun _ => True) W ((W.setCell ⟨w.heap.size, 0, none⟩ (.slice ao (outs p xs).length co)).setCell ⟨w.heap.size + 1, 0, none⟩ (.slice ar (rests p xs).length cr)).drew := fun b c e fr _ hc => by
      show ((W.setCell ⟨w.heap.size, 0, none⟩ (.slice ao (outs p xs).length co)).setCell ⟨w.heap.size + 1, 0, none⟩ (.slice ar (rests p xs).length cr)).heap[b]? = _
      have b1 : Boxed (W.setCell ⟨w.heap.size, 0, none⟩ (.slice ao (outs p xs).length co)) w.heap.size 23 (.slice ao (outs p xs).length co) := Boxed.set _ (show Boxed W w.heap.size 23 _ from h.bo)
      have b2 : Boxed (W.setCell ⟨w.heap.size, 0, none⟩ (.slice ao (outs p xs).length co)) (w.heap.size + 1) 22 (.slice ar (rests p xs).length cr) := Boxed.other (show Boxed W (w.heap.size + 1) 22 _ from h.br) (by omega) _
      by_cases e0 : b = w.heap.size
      · subst e0
        rw [Below.heap_setCell _ _ _ _ (by show w.heap.size ≠ w.heap.size + 1; omega)]
        rw [h.bo] at hc; rw [← hc]; exact b1
      · by_cases e1 : b = w.heap.size + 1
        · subst e1
          rw [h.br] at hc; rw [← hc]; exact Boxed.set _ b2
        · rw [Below.heap_setCell _ _ _ _ e1, Below.heap_setCell _ _ _ _ e0]; exact hc
    have hDS : w.heap.size + 4 ≤ D := by have := HZ.out; omega
    have hK2 : ((W.setCell ⟨w.heap.size, 0, none⟩ (.slice ao (outs p xs).length co)).setCell ⟨w.heap.size + 1, 0, none⟩ (.slice ar (rests p xs).length cr)).drew.heap[D]? = some (.deferred (some [])) := by
      show ((W.setCell ⟨w.heap.size, 0, none⟩ (.slice ao (outs p xs).length co)).setCell ⟨w.heap.size + 1, 0, none⟩ (.slice ar (rests p xs).length cr)).heap[D]? = _
      rw [Below.heap_setCell _ _ _ _ (by show D ≠ w.heap.size + 1; omega), Below.heap_setCell _ _ _ _ (by show D ≠ w.heap.size; omega)]; exact hK
    have hfin := (h.keep (((h.bel.setCell (p := ⟨w.heap.size, 0, none⟩) (Nat.le_refl _) _).setCell (p := ⟨w.heap.size + 1, 0, none⟩) (by simp) _).drew) hsame).grown (grownBy_putObj' _ D (.deferred none)) (fun r e => by cases e; exact ⟨hDS, _, hK2, rfl⟩)
    have HF := hid hfin
    have HK2 := hid hK2
    clear hfin hsame h hK hK2
    gi_region
    gi_wp2
    refine ⟨by simp, .inl ⟨_, _, rfl, run_takeDeferred HK2.out, ?_⟩⟩
    have h := HF.out
    have co1 := cell_of (i := 0) h.bo
    have cr1 := cell_of (i := 0) h.br
    simp only [List.getElem?_toArray, List.getElem?_cons_zero] at co1 cr1
    exact ⟨.tuple #[.slice ao (outs p xs).length co, .slice ar (rests p xs).length cr], by simp [results, Try.results29, go_sem, co1, cr1], _, _, rfl,
      h.out.rsl intGood _ (fun b _ hb => hb) (fun b _ hb => hb.elim), h.rest.rsl waiterGood _ (fun b _ hb => hb) (fun b _ hb => by have := hb.1; omega), h.bel⟩
end Go.Proofs.Yteogmehbjopedaa
