/- store.Add and the reference's: what each returns. -/
import Derived.Test.YtplckigmllkpoaaStE
import Derived.Deep.AppendSrc
namespace Go.Proofs.Ytplckigmllkpoaa
open Go.RowKit Go.Shelf Go.Maps
attribute [local go_sem] Oper.semAt_some
theorem append_fresh {α : Type} {R : Enc α} {size : Nat} (g : Good R size) (hsz : 0 < size) {P : Program} {T e : TypeId} {z : Value} {bytes : Nat} (ht : P.underlying T = some (.slice e)) (hinfo : (P.info? e).map (fun i => (i.zero, i.size, i.bytes)) = some (some z, size, bytes)) (hzs : z.cells.size = size) (hby : bytes ≤ 1000)
    {w W : World} {ok : Nat → Prop} {sv : Value} {xs : List α} {E : Nat} (h : RSl R size W ok sv xs) (hone : ∀ (x : α) (row : List Value), R W ok x row → ∀ u ∈ row, u.oneCell' = true) (hlen : xs.length ≤ 1000000) (hE : w.heap.size ≤ E) (hm : W.heap[E]? = some (.cells #[] e)) (hb : Below w.heap.size w W) (hok : ∀ b, ok b → b ≠ E) :
    ∃ v' w', (Builtin.append_ #[T, T] T #[.slice (some ⟨E, 0, none⟩) 0 0, sv]).run P W = .ok v' w' ∧ OSl R size e w.heap.size w' ok v' xs ∧ Below w.heap.size w w' ∧ (∀ b o, W.heap[b]? = some o → b ≠ E → w'.heap[b]? = some o) := by
  have hown : OSl R size e w.heap.size W ok (.slice (some ⟨E, 0, none⟩) 0 0) [] :=
    ⟨[], Rows.nil _ _ _, by simp, .inr ⟨E, 0, #[], rfl, hE, hm, Nat.le_refl _, by simp [maxLen], by simp, by simp⟩⟩
  obtain ⟨ao, cap, rfl, h1, h2, h3, h4⟩ := h
  have main : ∀ (a : Addr) (rows : List (List Value)), ao = some a → Rows R W (fun b => ok b ∧ some b ≠ (Value.slice (some ⟨E, 0, none⟩) 0 0).ownBlock) xs rows → (∀ j u, rows.flatten[j]? = some u → W.cell? (a.add j) = some u) → (∀ u ∈ rows.flatten, u.oneCell' = true) →
      ∃ v' w', (Builtin.append_ #[T, T] T #[.slice (some ⟨E, 0, none⟩) 0 0, .slice ao xs.length cap]).run P W = .ok v' w' ∧ OSl R size e w.heap.size w' ok v' xs ∧ Below w.heap.size w w' ∧ (∀ b o, W.heap[b]? = some o → b ≠ E → w'.heap[b]? = some o) := by
    rintro a rows rfl hr hu h1'
    obtain ⟨v', w', hrun, hO, hg, hloc, _⟩ := OSl.append (P := P) g hsz hown T T z bytes ht hinfo hzs a cap xs rows hr hu h1' (by simp [maxLen]; omega) (by simp; have := Nat.mul_le_mul hlen hby; omega) hb.size
    exact ⟨v', w', hrun, by simpa using hO, hb.grown hg hb.size (fun k hk => by cases hk; exact hE), fun b o hbo hbE => (hg.block b (lt_of_some hbo) (fun e => by cases e; exact hbE rfl)).trans hbo⟩
  by_cases hp : 0 < xs.length
  · obtain ⟨b, off, rfl, hbo, hc⟩ := h4 hp
    obtain ⟨b', off', cap', rows, hv, _, hr, hu⟩ := RSl.rows (⟨some ⟨b, off, none⟩, cap, rfl, h1, h2, h3, h4⟩ : RSl R size W ok (.slice (some ⟨b, off, none⟩) xs.length cap) xs) g hp
    cases hv
    refine main _ rows rfl ⟨hr.1, fun i x row hx hrow => g.weak _ _ _ _ _ (fun b _ hb => ⟨hb, fun e => by cases e; exact hok _ hb rfl⟩) (hr.2 i x row hx hrow)⟩ (fun j u hj => by rw [addr_add]; exact hu j u hj) (fun u hu' => ?_)
    obtain ⟨row, hrw, hu'⟩ := List.mem_flatten.1 hu'
    obtain ⟨i, hi⟩ := List.getElem?_of_mem hrw
    have hlt : i < xs.length := by rw [← hr.1]; exact (List.getElem?_eq_some_iff.1 hi).1
    exact hone _ _ (hr.2 i _ row (List.getElem?_eq_getElem hlt) hi) u hu'
  · have hx : xs = [] := List.length_eq_zero_iff.1 (by omega)
    subst hx
    cases ao with
    | some a => exact main a [] rfl (Rows.nil _ _ _) (fun j u h => by simp at h) (by simp)
    | none =>
      obtain ⟨i, hi, hz, hs, hbb⟩ := info_parts hinfo
      have hrun := run_append_room_src (P := P) (w := W) T T T e i ht hi E 0 0 0 (.slice none 0 cap) 0 [] (Src.ofNil W ht cap) (by simp) (by simp) (by simp)
      refine ⟨_, W, by simpa [World.setCells] using hrun, by simpa using hown, hb, fun b o h _ => h⟩
theorem OSl.anyP {e : TypeId} {base : Nat} {w : World} {ok : Nat → Prop} {v : Value} {xs : List Pr} (h : OSl PairE 2 e base w ok v xs) : OSl PairE 2 e base w (fun _ => False) v xs := by
  obtain ⟨rows, hr, h1, h2⟩ := h
  refine ⟨rows, ⟨hr.1, fun i x row hx hr' => hr.2 i x row hx hr'⟩, h1, ?_⟩
  rcases h2 with ⟨e1, e2⟩ | h2
  · exact .inl ⟨e1, e2⟩
  · exact .inr h2
theorem sput_out {w W : World} {ok : Nat → Prop} {B2 : Nat} {s : St} {ra : Option Addr} {rc : Nat} {u0 u1 : Value} (h2 : W.heap[B2]? = some (.cells #[u0, u1] 24)) (hB2 : w.heap.size ≤ B2) (hb : Below w.heap.size w W)
    (h : SVal W (fun b => b ≠ B2 ∧ (ok b ∨ w.heap.size ≤ b)) (.agg #[.slice ra s.cells.length rc, .int .i64 s.ver]) s) :
    ((W.setCell ⟨B2, 0, none⟩ (.slice ra s.cells.length rc)).setCell ⟨B2, 1, none⟩ (.int .i64 s.ver)).heap[B2]? = some (.cells #[.slice ra s.cells.length rc, .int .i64 s.ver] 24) ∧
    SVal ((W.setCell ⟨B2, 0, none⟩ (.slice ra s.cells.length rc)).setCell ⟨B2, 1, none⟩ (.int .i64 s.ver)) (fun b => ok b ∨ w.heap.size ≤ b) (.agg #[.slice ra s.cells.length rc, .int .i64 s.ver]) s ∧
    Below w.heap.size w ((W.setCell ⟨B2, 0, none⟩ (.slice ra s.cells.length rc)).setCell ⟨B2, 1, none⟩ (.int .i64 s.ver)) := by
  have hs := ((Same.refl (fun b => b ≠ B2 ∧ (ok b ∨ w.heap.size ≤ b)) W).setCell (a := ⟨B2, 0, none⟩) (.slice ra s.cells.length rc) (fun h => h.1 rfl)).setCell (a := ⟨B2, 1, none⟩) (.int .i64 s.ver) (fun h => h.1 rfl)
  exact ⟨heap_set (i := 1) (heap_set (i := 0) h2), (h.keep hs).weak (fun _ _ h => h.2), (hb.setCell (p := ⟨B2, 0, none⟩) hB2 _).setCell (p := ⟨B2, 1, none⟩) hB2 _⟩
/-- The argument itself, into the result's box. -/
theorem sback {w W : World} {ok : Nat → Prop} {s : St} {sa : Option Addr} {sc : Nat} {B2 : Nat} (hB2 : w.heap.size ≤ B2) (h : SVal w ok (.agg #[.slice sa s.cells.length sc, .int .i64 s.ver]) s) (b : Below w.heap.size w W) :
    SVal W (fun b => b ≠ B2 ∧ (ok b ∨ w.heap.size ≤ b)) (.agg #[.slice sa s.cells.length sc, .int .i64 s.ver]) s :=
  (h.weak (ok' := fun b => b ≠ B2 ∧ (ok b ∨ w.heap.size ≤ b)) (fun _ h1 h2 => ⟨by omega, .inl h2⟩)).more b
def AddP (ok : Nat → Prop) (r : St × Int × Int) (w : World) (e : Ending) (w' : World) : Prop := ∃ ra rc, e = .returned (.tuple #[.agg #[.slice ra r.1.cells.length rc, .int .i64 r.1.ver], .int .i64 r.2.1, .int .i64 r.2.2]) ∧ SVal w' (fun b => ok b ∨ w.heap.size ≤ b) (.agg #[.slice ra r.1.cells.length rc, .int .i64 r.1.ver]) r.1 ∧ Below w.heap.size w w'
theorem AddP.of {ok : Nat → Prop} {r : St × Int × Int} {w w' : World} {t : St} {a b : Int} {ra : Option Addr} {rc : Nat} (h : r = (t, a, b)) (h1 : SVal w' (fun b => ok b ∨ w.heap.size ≤ b) (.agg #[.slice ra t.cells.length rc, .int .i64 t.ver]) t) (h2 : Below w.heap.size w w') :
    AddP ok r w (.returned (.tuple #[.agg #[.slice ra t.cells.length rc, .int .i64 t.ver], .int .i64 a, .int .i64 b])) w' := by subst h; exact ⟨ra, rc, rfl, h1, h2⟩
def addS (s : St) (at_ : Int) : St × Int × Int := if chkS s then (⟨s.cells ++ [(at_, 0)], s.ver⟩, s.cells.length, 0) else (s, 0, 181)
set_option maxRecDepth 100000 in
set_option maxHeartbeats 4000000 in
theorem add_any (w : World) (ok : Nat → Prop) (v : Value) (s : St) (z : Int) (hh : SVal w ok v s) (hz : In z) (hlen : s.cells.length ≤ 100000) : Calls Try.prog 12 #[v, .int .i64 z] w (AddP ok (addS s z) w) := by
  have hh0 := hh
  obtain ⟨sa, sc, rfl, hi, hs⟩ := hh
  obtain ⟨_, _, e, l1, _⟩ := hs.shape
  cases e
  obtain ⟨W0, hW0⟩ : ∃ W0, w.alloc (Obj.cells #[.slice sa s.cells.length sc, .int .i64 s.ver] 24) = W0 := ⟨_, rfl⟩
  have K : Hid (BSt w W0 w.heap.size sa sc s) := by have h := BSt.new (Below.refl _ w) hh0; rw [hW0] at h; exact h
  obtain ⟨W1, hW1⟩ : ∃ W1, W0.alloc (Obj.cells #[.slice none 0 0, .int .i64 0] 24) = W1 := ⟨_, rfl⟩
  have hb1 : Below W0.heap.size W0 W1 := by rw [← hW1]; exact (Below.refl _ _).alloc (Nat.le_refl _) _
  have H2 : Hid (W1.heap[w.heap.size + 1]? = some (.cells #[.slice none 0 0, .int .i64 0] 24)) := by rw [← hW1, ← hW0]; exact heap_two _ _ _
  have hW := hW1
  rw [← hW0] at hW
  have HW := hid hW
  have HI := hid hi
  have HV0 := hid hh0
  replace K := hid (K.out.more hb1)
  clear hW0 hW1 hW hb1 hs hh0 hi
  obtain ⟨q, hq⟩ : ∃ q, q = chkS s := ⟨_, rfl⟩
  have HQ := hid hq
  go_enter Try.func12, Try.ntmps12
  go_upto_region 1 with (fail)
  rw [HW.out]
  clear HW
  have c0 : W1.cell? ⟨w.heap.size, 0, none⟩ = some (.slice sa s.cells.length sc) := K.out.c0
  have c1 : W1.cell? ⟨w.heap.size, 1, none⟩ = some (.int .i64 s.ver) := K.out.c1
  have P := hid (scheck_any W1 _ _ s K.out.val)
  rw [← hq] at P
  clear hq
  go_wp2_with fail
  refine P.out.mono ?_
  rintro e w1 ⟨rfl, b⟩
  clear P c0 c1
  replace K := hid (K.out.more b)
  replace H2 := hid ((b.block _ (lt_of_some H2.out)).trans H2.out)
  clear b
  cases q
  · have c0 : w1.cell? ⟨w.heap.size, 0, none⟩ = some (.slice sa s.cells.length sc) := K.out.c0
    have c1 : w1.cell? ⟨w.heap.size, 1, none⟩ = some (.int .i64 s.ver) := K.out.c1
    have q0 : w1.cell? ⟨w.heap.size + 1, 0, none⟩ = some (.slice none 0 0) := cell_of H2.out
    have q1 : w1.cell? ⟨w.heap.size + 1, 1, none⟩ = some (.int .i64 0) := cell_of H2.out
    have qf : ∀ i, w1.frozen? ⟨w.heap.size + 1, i, none⟩ = false := fun i => free_of H2.out
    go_wp2_with fail
    have F := sput_out (w := w) (s := s) (ok := ok) H2.out (by omega) K.out.bel (sback (by omega) HV0.out K.out.bel)
    have t0 := cell_at (i := 0) (v := .slice sa s.cells.length sc) F.1 rfl
    have t1 := cell_at (i := 1) (v := .int .i64 s.ver) F.1 rfl
    exact bodyPost_ret (v := .tuple #[.agg #[.slice sa s.cells.length sc, .int .i64 s.ver], .int .i64 0, .int .i64 181]) (by simp [results, Try.results12, go_sem, t0, t1]) rfl (AddP.of (by rw [addS, ← HQ.out]; rfl) F.2.1 F.2.2)
  · go_upto_region 3 with (fail)
    obtain ⟨w5, hw5⟩ : ∃ z, w1.drew = z := ⟨_, rfl⟩
    have bd : Below w1.heap.size w1 w5 := by rw [← hw5]; exact (Below.refl _ _).drew
    replace K := hid (K.out.more bd)
    have H25 := hid ((bd.block _ (lt_of_some H2.out)).trans H2.out)
    have B5 := hid K.out.bel
    have KV := hid K.out.val
    have C0 : Hid (w5.cell? ⟨w.heap.size, 0, none⟩ = some (.slice sa s.cells.length sc)) := K.out.c0
    have C1 : Hid (w5.cell? ⟨w.heap.size, 1, none⟩ = some (.int .i64 s.ver)) := K.out.c1
    have hlt2 := lt_of_some H25.out
    have S9 : ∀ {W : World}, Below w5.heap.size w5 W → ∀ u0 u1, Below (w.heap.size + 1) w5 ((W.setCell ⟨w.heap.size + 1, 0, none⟩ u0).setCell ⟨w.heap.size + 1, 1, none⟩ u1) := fun h u0 u1 => ((h.mono (show w.heap.size + 1 ≤ w5.heap.size by omega)).setCell (p := ⟨w.heap.size + 1, 0, none⟩) (Nat.le_refl _) u0).setCell (p := ⟨w.heap.size + 1, 1, none⟩) (Nat.le_refl _) u1
    clear bd H2
    refine (wpIn_wide (n := 9)).1 ?_
    refine wpIn_region_held (fun W => Below (w.heap.size + 1) w5 W) (by kernel_rfl) ?_
    rw [hw5]
    clear hw5
    refine wpAnyHF_takeD (i := 0) 11 (v := .agg #[.slice sa s.cells.length sc, .int .i64 s.ver]) rfl rfl rfl (by kernel_rfl) (by kernel_rfl) (by kernel_rfl) (fun _ _ _ h => h) ⟨.inl ⟨rfl, fun W hW => by have m0 := (hW.cell (show w.heap.size < w.heap.size + 1 by omega)).trans C0.out; have m1 := (hW.cell (show w.heap.size < w.heap.size + 1 by omega)).trans C1.out; simp [execOp, go_sem, m0, m1]⟩, fun W => rfl⟩ (Below.refl _ _) ?_
    refine wpAnyHF_takeD (i := 2) 13 (v := .int .i64 z) rfl rfl rfl (by kernel_rfl) (by kernel_rfl) (by kernel_rfl) (fun _ _ _ h => h) ⟨.inl ⟨rfl, fun W hW => by simp [execOp, go_sem]⟩, fun W => rfl⟩ (Below.refl _ _) ?_
    refine wpAnyHF_takeD (i := 3) 14 (v := .agg #[.int .i64 z, .int .i64 0]) rfl rfl rfl (by kernel_rfl) (by kernel_rfl) (by kernel_rfl) (fun _ _ _ h => h) ⟨.inl ⟨rfl, fun W hW => by simp [execOp, go_sem]⟩, fun W => rfl⟩ (Below.refl _ _) ?_
    refine wpAnyHF_takeD (i := 6) 17 (v := .pointer (some ⟨w.heap.size, 1, none⟩)) rfl rfl rfl (by kernel_rfl) (by kernel_rfl) (by kernel_rfl) (fun _ _ _ h => h) ⟨.inl ⟨rfl, fun W hW => by simp [execOp, go_sem]⟩, fun W => rfl⟩ (Below.refl _ _) ?_
    simp only [Act.put, List.setIfInBounds_toArray, List.set_cons_zero, List.set_cons_succ]
    refine wpAnyHF_takeD (i := 7) 18 (v := .int .i64 s.ver) rfl rfl rfl (by kernel_rfl) (by kernel_rfl) (by kernel_rfl) (fun _ _ _ h => h) ⟨.inl ⟨rfl, fun W hW => by have m1 := (hW.cell (show w.heap.size < w.heap.size + 1 by omega)).trans C1.out; simp [execOp, go_sem, m1]⟩, fun W => rfl⟩ (Below.refl _ _) ?_
    refine wpAnyHF_takeD (i := 9) 20 (v := .pointer (some ⟨w.heap.size, 0, none⟩)) rfl rfl rfl (by kernel_rfl) (by kernel_rfl) (by kernel_rfl) (fun _ _ _ h => h) ⟨.inl ⟨rfl, fun W hW => by simp [execOp, go_sem]⟩, fun W => rfl⟩ (Below.refl _ _) ?_
    simp only [Act.put, List.setIfInBounds_toArray, List.set_cons_zero, List.set_cons_succ]
    refine wpAnyHF_takeD (i := 10) 21 (v := .slice sa s.cells.length sc) rfl rfl rfl (by kernel_rfl) (by kernel_rfl) (by kernel_rfl) (fun _ _ _ h => h) ⟨.inl ⟨rfl, fun W hW => by have m0 := (hW.cell (show w.heap.size < w.heap.size + 1 by omega)).trans C0.out; simp [execOp, go_sem, m0]⟩, fun W => rfl⟩ (Below.refl _ _) ?_
    refine wpAnyHF_takeD (i := 11) 22 (v := .int .i64 s.cells.length) rfl rfl rfl (by kernel_rfl) (by kernel_rfl) (by kernel_rfl) (fun _ _ _ h => h) ⟨.inl ⟨rfl, fun W hW => by simp [execOp, go_sem, resolve, invoke, builtin]⟩, fun W => rfl⟩ (Below.refl _ _) ?_
    simp only [Act.put, List.setIfInBounds_toArray, List.set_cons_zero, List.set_cons_succ]
    refine wpAnyHF_two (i := 1) (j := 4) (by kernel_rfl) rfl rfl rfl rfl ?_ ?_
    · refine wpIn_callD 12 rfl (P := Try.prog) (f := 32) (args := #[.agg #[.slice sa s.cells.length sc, .int .i64 s.ver]]) (by simp [execOp, resolve, invoke, go_sem]) ?_
      refine (sown_any w5 _ _ s KV.out (by omega)).mono ?_
      rintro e w6 ⟨va, vc, rfl, hO0, b6'⟩
      have hO1 := OSl.base hO0 (Nat.le_refl _)
      have b6 : Below w5.heap.size w5 w6 := b6'
      refine ⟨_, rfl, (b6.mono (show w.heap.size + 1 ≤ w5.heap.size by omega)), ?_⟩
      simp only [Act.put, List.setIfInBounds_toArray, List.set_cons_zero, List.set_cons_succ]
      refine wpAnyHF_one (i := 4) (by kernel_rfl) rfl rfl ?_
      obtain ⟨w7, hw7⟩ : ∃ q, w6.alloc (.cells #[.int .i64 z, .int .i64 0] 52) = q := ⟨_, rfl⟩
      have b7' : Below w6.heap.size w6 w7 := by rw [← hw7]; exact (Below.refl _ _).alloc (Nat.le_refl _) _
      have hX : w7.heap[w6.heap.size]? = some (.cells #[.int .i64 z, .int .i64 0] 52) := by rw [← hw7]; exact World.alloc_heap_new _ _
      have b7 : Below w5.heap.size w5 w7 := b6.trans (b7'.mono b6.size)
      refine wpIn_valueD 15 rfl (w' := w7) (v := .slice (some ⟨w6.heap.size, 0, none⟩) 1 1) (by rw [← hw7]; simp [execOp, go_sem]) ⟨(b7.mono (show w.heap.size + 1 ≤ w5.heap.size by omega)), ?_⟩
      simp only [Act.put, List.setIfInBounds_toArray, List.set_cons_zero, List.set_cons_succ]
      replace hO1 := hO1.below pairGood b7'
      obtain ⟨v2, w8, hrun2, hO2, hg, _, _⟩ := OSl.append (P := Try.prog) pairGood (by decide) hO1 22 22 (.agg #[.int .i64 0, .int .i64 0]) 16 Try.underlying22 infoC rfl ⟨w6.heap.size, 0, none⟩ 1 [(z, 0)] [[.int .i64 z, .int .i64 0]] (Rows.one ⟨rfl, hz, (show In 0 from ⟨by decide, by decide⟩)⟩) (fun j u hj => by rw [addr_add, Nat.zero_add, cell_of hX]; simpa using hj) (by simp [Value.oneCell']) (by simp [maxLen]; omega) (by simp; omega) b7.size
      obtain ⟨C, hC⟩ : ∃ C, C = s.cells ++ [(z, 0)] := ⟨_, rfl⟩
      rw [← hC] at hO2
      obtain ⟨a8, c8, rfl⟩ := hO2.shape2
      have HC := hid hC
      clear hC
      have b8 : Below w5.heap.size w5 w8 := b7.grown hg b7.size (fun k hk => (hO1.lt k hk).1)
      have hSV : SVal w8 (fun b => b ≠ w.heap.size + 1 ∧ (ok b ∨ w.heap.size ≤ b)) (.agg #[.slice a8 C.length c8, .int .i64 s.ver]) ⟨C, s.ver⟩ := ⟨_, _, rfl, HI.out, hO2.rsl pairGood _ (fun b _ h => ⟨by omega, .inr (by omega)⟩) (fun _ _ h => h.elim)⟩
      refine wpAnyHF_one (i := 5) (by kernel_rfl) rfl rfl ?_
      refine wpIn_valueD 16 rfl (w' := w8) (v := .slice a8 C.length c8) (run_append_op (.tmp 12) (.tmp 15) 22 rfl rfl (v := .slice va s.cells.length vc) (xv := .slice (some ⟨w6.heap.size, 0, none⟩) 1 1) (by simp [go_sem]) (by simp [go_sem]) hrun2) ⟨(b8.mono (show w.heap.size + 1 ≤ w5.heap.size by omega)), ?_⟩
      simp only [Act.put, List.setIfInBounds_toArray, List.set_cons_zero, List.set_cons_succ]
      refine wpAnyHF_takeD (i := 8) 19 (v := .agg #[.slice a8 C.length c8, .int .i64 s.ver]) rfl rfl rfl (by kernel_rfl) (by kernel_rfl) (by kernel_rfl) (fun _ _ _ h => h) ⟨.inl ⟨rfl, fun W hW => by simp [execOp, go_sem]⟩, fun W => rfl⟩ (b8.mono (show w.heap.size + 1 ≤ w5.heap.size by omega)) ?_
      simp only [Act.put, List.setIfInBounds_toArray, List.set_cons_zero, List.set_cons_succ]
      have h28 := (b8.block _ (lt_of_some H25.out)).trans H25.out
      have F := sput_out (w := w) (ok := ok) (s := ⟨C, s.ver⟩) h28 (by omega) (B5.out.trans (b8.mono B5.out.size)) hSV
      have q0 : w8.cell? ⟨w.heap.size + 1, 0, none⟩ = some (.slice none 0 0) := cell_of h28
      have q1 : w8.cell? ⟨w.heap.size + 1, 1, none⟩ = some (.int .i64 0) := cell_of h28
      have qf : ∀ i, w8.frozen? ⟨w.heap.size + 1, i, none⟩ = false := fun i => free_of h28
      obtain ⟨w9, hw9⟩ : ∃ z, (w8.setCell ⟨w.heap.size + 1, 0, none⟩ (.slice a8 C.length c8)).setCell ⟨w.heap.size + 1, 1, none⟩ (.int .i64 s.ver) = z := ⟨_, rfl⟩
      refine wpAnyHF_one (i := 12) (by kernel_rfl) rfl rfl ?_
      refine wpIn_skip rfl (w' := w9) (by rw [← hw9]; simp [execOp, go_sem, q0, q1, qf]) ⟨by rw [← hw9]; exact S9 b8 _ _, ?_⟩
      refine wpAnyHF_takeD (i := 13) 5 (v := .int .i64 s.cells.length) rfl rfl rfl (by kernel_rfl) (by kernel_rfl) (by kernel_rfl) (fun _ _ _ h => h) ⟨.inl ⟨rfl, fun W hW => by simp [execOp, go_sem]⟩, fun W => rfl⟩ (by rw [← hw9]; exact S9 b8 _ _) ?_
      refine wpAnyHF_takeD (i := 14) 6 (v := .int .i64 0) rfl rfl rfl (by kernel_rfl) (by kernel_rfl) (by kernel_rfl) (fun _ _ _ h => h) ⟨.inl ⟨rfl, fun W hW => by simp [execOp, go_sem]⟩, fun W => rfl⟩ (by rw [← hw9]; exact S9 b8 _ _) ?_
      simp only [Act.put, List.setIfInBounds_toArray, List.set_cons_zero, List.set_cons_succ]
      refine wpAnyHF_done (by kernel_rfl) ?_ _
      rw [← hw9]
      have FF := hid F
      clear F hw9 q0 q1 qf h28 hSV hrun2 hO2 hg hO1 hX
      gi_wp2
      go_wp2_with fail
      have t0 := cell_at (i := 0) (v := .slice a8 C.length c8) FF.out.1 rfl
      have t1 := cell_at (i := 1) (v := .int .i64 s.ver) FF.out.1 rfl
      exact bodyPost_ret (v := .tuple #[.agg #[.slice a8 C.length c8, .int .i64 s.ver], .int .i64 s.cells.length, .int .i64 0]) (by simp [results, Try.results12, go_sem, t0, t1]) rfl (AddP.of (t := ⟨C, s.ver⟩) (by rw [addS, ← HQ.out, HC.out]; rfl) FF.out.2.1 FF.out.2.2)
    · obtain ⟨w6, hw6⟩ : ∃ q, w5.alloc (.cells #[.int .i64 z, .int .i64 0] 52) = q := ⟨_, rfl⟩
      have b6' : Below w5.heap.size w5 w6 := by rw [← hw6]; exact (Below.refl _ _).alloc (Nat.le_refl _) _
      have hX : w6.heap[w5.heap.size]? = some (.cells #[.int .i64 z, .int .i64 0] 52) := by rw [← hw6]; exact World.alloc_heap_new _ _
      have b6 := b6'
      refine wpIn_valueD 15 rfl (w' := w6) (v := .slice (some ⟨w5.heap.size, 0, none⟩) 1 1) (by rw [← hw6]; simp [execOp, go_sem]) ⟨(b6.mono (show w.heap.size + 1 ≤ w5.heap.size by omega)), ?_⟩
      simp only [Act.put, List.setIfInBounds_toArray, List.set_cons_zero, List.set_cons_succ]
      refine wpAnyHF_one (i := 1) (by kernel_rfl) rfl rfl ?_
      refine wpIn_callD 12 rfl (P := Try.prog) (f := 32) (args := #[.agg #[.slice sa s.cells.length sc, .int .i64 s.ver]]) (by simp [execOp, resolve, invoke, go_sem]) ?_
      refine (sown_any w6 _ _ s (KV.out.more b6) (by omega)).mono ?_
      rintro e w7 ⟨va, vc, rfl, hO0, b7'⟩
      have hO1 := OSl.base hO0 b6.size
      have b7 : Below w5.heap.size w5 w7 := b6.trans (b7'.mono b6.size)
      refine ⟨_, rfl, (b7.mono (show w.heap.size + 1 ≤ w5.heap.size by omega)), ?_⟩
      simp only [Act.put, List.setIfInBounds_toArray, List.set_cons_zero, List.set_cons_succ]
      replace hX := (b7'.block _ (lt_of_some hX)).trans hX
      obtain ⟨v2, w8, hrun2, hO2, hg, _, _⟩ := OSl.append (P := Try.prog) pairGood (by decide) hO1 22 22 (.agg #[.int .i64 0, .int .i64 0]) 16 Try.underlying22 infoC rfl ⟨w5.heap.size, 0, none⟩ 1 [(z, 0)] [[.int .i64 z, .int .i64 0]] (Rows.one ⟨rfl, hz, (show In 0 from ⟨by decide, by decide⟩)⟩) (fun j u hj => by rw [addr_add, Nat.zero_add, cell_of hX]; simpa using hj) (by simp [Value.oneCell']) (by simp [maxLen]; omega) (by simp; omega) b7.size
      obtain ⟨C, hC⟩ : ∃ C, C = s.cells ++ [(z, 0)] := ⟨_, rfl⟩
      rw [← hC] at hO2
      obtain ⟨a8, c8, rfl⟩ := hO2.shape2
      have HC := hid hC
      clear hC
      have b8 : Below w5.heap.size w5 w8 := b7.grown hg b7.size (fun k hk => (hO1.lt k hk).1)
      have hSV : SVal w8 (fun b => b ≠ w.heap.size + 1 ∧ (ok b ∨ w.heap.size ≤ b)) (.agg #[.slice a8 C.length c8, .int .i64 s.ver]) ⟨C, s.ver⟩ := ⟨_, _, rfl, HI.out, hO2.rsl pairGood _ (fun b _ h => ⟨by omega, .inr (by omega)⟩) (fun _ _ h => h.elim)⟩
      refine wpAnyHF_one (i := 5) (by kernel_rfl) rfl rfl ?_
      refine wpIn_valueD 16 rfl (w' := w8) (v := .slice a8 C.length c8) (run_append_op (.tmp 12) (.tmp 15) 22 rfl rfl (v := .slice va s.cells.length vc) (xv := .slice (some ⟨w5.heap.size, 0, none⟩) 1 1) (by simp [go_sem]) (by simp [go_sem]) hrun2) ⟨(b8.mono (show w.heap.size + 1 ≤ w5.heap.size by omega)), ?_⟩
      simp only [Act.put, List.setIfInBounds_toArray, List.set_cons_zero, List.set_cons_succ]
      refine wpAnyHF_takeD (i := 8) 19 (v := .agg #[.slice a8 C.length c8, .int .i64 s.ver]) rfl rfl rfl (by kernel_rfl) (by kernel_rfl) (by kernel_rfl) (fun _ _ _ h => h) ⟨.inl ⟨rfl, fun W hW => by simp [execOp, go_sem]⟩, fun W => rfl⟩ (b8.mono (show w.heap.size + 1 ≤ w5.heap.size by omega)) ?_
      simp only [Act.put, List.setIfInBounds_toArray, List.set_cons_zero, List.set_cons_succ]
      have h28 := (b8.block _ (lt_of_some H25.out)).trans H25.out
      have F := sput_out (w := w) (ok := ok) (s := ⟨C, s.ver⟩) h28 (by omega) (B5.out.trans (b8.mono B5.out.size)) hSV
      have q0 : w8.cell? ⟨w.heap.size + 1, 0, none⟩ = some (.slice none 0 0) := cell_of h28
      have q1 : w8.cell? ⟨w.heap.size + 1, 1, none⟩ = some (.int .i64 0) := cell_of h28
      have qf : ∀ i, w8.frozen? ⟨w.heap.size + 1, i, none⟩ = false := fun i => free_of h28
      obtain ⟨w9, hw9⟩ : ∃ z, (w8.setCell ⟨w.heap.size + 1, 0, none⟩ (.slice a8 C.length c8)).setCell ⟨w.heap.size + 1, 1, none⟩ (.int .i64 s.ver) = z := ⟨_, rfl⟩
      refine wpAnyHF_one (i := 12) (by kernel_rfl) rfl rfl ?_
      refine wpIn_skip rfl (w' := w9) (by rw [← hw9]; simp [execOp, go_sem, q0, q1, qf]) ⟨by rw [← hw9]; exact S9 b8 _ _, ?_⟩
      refine wpAnyHF_takeD (i := 13) 5 (v := .int .i64 s.cells.length) rfl rfl rfl (by kernel_rfl) (by kernel_rfl) (by kernel_rfl) (fun _ _ _ h => h) ⟨.inl ⟨rfl, fun W hW => by simp [execOp, go_sem]⟩, fun W => rfl⟩ (by rw [← hw9]; exact S9 b8 _ _) ?_
      refine wpAnyHF_takeD (i := 14) 6 (v := .int .i64 0) rfl rfl rfl (by kernel_rfl) (by kernel_rfl) (by kernel_rfl) (fun _ _ _ h => h) ⟨.inl ⟨rfl, fun W hW => by simp [execOp, go_sem]⟩, fun W => rfl⟩ (by rw [← hw9]; exact S9 b8 _ _) ?_
      simp only [Act.put, List.setIfInBounds_toArray, List.set_cons_zero, List.set_cons_succ]
      refine wpAnyHF_done (by kernel_rfl) ?_ _
      rw [← hw9]
      have FF := hid F
      clear F hw9 q0 q1 qf h28 hSV hrun2 hO2 hg hO1 hX
      gi_wp2
      go_wp2_with fail
      have t0 := cell_at (i := 0) (v := .slice a8 C.length c8) FF.out.1 rfl
      have t1 := cell_at (i := 1) (v := .int .i64 s.ver) FF.out.1 rfl
      exact bodyPost_ret (v := .tuple #[.agg #[.slice a8 C.length c8, .int .i64 s.ver], .int .i64 s.cells.length, .int .i64 0]) (by simp [results, Try.results12, go_sem, t0, t1]) rfl (AddP.of (t := ⟨C, s.ver⟩) (by rw [addS, ← HQ.out, HC.out]; rfl) FF.out.2.1 FF.out.2.2)
set_option maxRecDepth 100000 in
set_option maxHeartbeats 4000000 in
theorem radd_any (w : World) (ok : Nat → Prop) (v : Value) (s : St) (z : Int) (hh : SVal w ok v s) (hz : In z) (hlen : s.cells.length ≤ 100000) : Calls Try.prog 13 #[v, .int .i64 z] w (AddP ok (addS s z) w) := by
  have hh0 := hh
  obtain ⟨sa, sc, rfl, hi, hs⟩ := hh
  obtain ⟨_, _, e, l1, _⟩ := hs.shape
  cases e
  obtain ⟨W0, hW0⟩ : ∃ W0, w.alloc (Obj.cells #[.slice sa s.cells.length sc, .int .i64 s.ver] 24) = W0 := ⟨_, rfl⟩
  have K : Hid (BSt w W0 w.heap.size sa sc s) := by have h := BSt.new (Below.refl _ w) hh0; rw [hW0] at h; exact h
  obtain ⟨W1, hW1⟩ : ∃ W1, W0.alloc (Obj.cells #[.slice none 0 0, .int .i64 0] 24) = W1 := ⟨_, rfl⟩
  have hb1 : Below W0.heap.size W0 W1 := by rw [← hW1]; exact (Below.refl _ _).alloc (Nat.le_refl _) _
  have H2 : Hid (W1.heap[w.heap.size + 1]? = some (.cells #[.slice none 0 0, .int .i64 0] 24)) := by rw [← hW1, ← hW0]; exact heap_two _ _ _
  have hW := hW1
  rw [← hW0] at hW
  have HW := hid hW
  have HI := hid hi
  have HV0 := hid hh0
  replace K := hid (K.out.more hb1)
  clear hW0 hW1 hW hb1 hs hh0 hi
  obtain ⟨q, hq⟩ : ∃ q, q = chkS s := ⟨_, rfl⟩
  have HQ := hid hq
  go_enter Try.func13, Try.ntmps13
  go_upto_region 1 with (fail)
  rw [HW.out]
  clear HW
  have c0 : W1.cell? ⟨w.heap.size, 0, none⟩ = some (.slice sa s.cells.length sc) := K.out.c0
  have c1 : W1.cell? ⟨w.heap.size, 1, none⟩ = some (.int .i64 s.ver) := K.out.c1
  have P := hid (rscheck_any W1 _ _ s K.out.val)
  rw [← hq] at P
  clear hq
  go_wp2_with fail
  refine P.out.mono ?_
  rintro e w1 ⟨rfl, b⟩
  clear P c0 c1
  replace K := hid (K.out.more b)
  replace H2 := hid ((b.block _ (lt_of_some H2.out)).trans H2.out)
  clear b
  cases q
  · have c0 : w1.cell? ⟨w.heap.size, 0, none⟩ = some (.slice sa s.cells.length sc) := K.out.c0
    have c1 : w1.cell? ⟨w.heap.size, 1, none⟩ = some (.int .i64 s.ver) := K.out.c1
    have q0 : w1.cell? ⟨w.heap.size + 1, 0, none⟩ = some (.slice none 0 0) := cell_of H2.out
    have q1 : w1.cell? ⟨w.heap.size + 1, 1, none⟩ = some (.int .i64 0) := cell_of H2.out
    have qf : ∀ i, w1.frozen? ⟨w.heap.size + 1, i, none⟩ = false := fun i => free_of H2.out
    go_wp2_with fail
    have F := sput_out (w := w) (s := s) (ok := ok) H2.out (by omega) K.out.bel (sback (by omega) HV0.out K.out.bel)
    have t0 := cell_at (i := 0) (v := .slice sa s.cells.length sc) F.1 rfl
    have t1 := cell_at (i := 1) (v := .int .i64 s.ver) F.1 rfl
    exact bodyPost_ret (v := .tuple #[.agg #[.slice sa s.cells.length sc, .int .i64 s.ver], .int .i64 0, .int .i64 181]) (by simp [results, Try.results13, go_sem, t0, t1]) rfl (AddP.of (by rw [addS, ← HQ.out]; rfl) F.2.1 F.2.2)
  · go_upto_region 4 with (fail)
    obtain ⟨w5, hw5⟩ : ∃ z, w1.drew = z := ⟨_, rfl⟩
    have bd : Below w1.heap.size w1 w5 := by rw [← hw5]; exact (Below.refl _ _).drew
    replace K := hid (K.out.more bd)
    have H25 := hid ((bd.block _ (lt_of_some H2.out)).trans H2.out)
    have B5 := hid K.out.bel
    have KV := hid K.out.val
    have C0 : Hid (w5.cell? ⟨w.heap.size, 0, none⟩ = some (.slice sa s.cells.length sc)) := K.out.c0
    have C1 : Hid (w5.cell? ⟨w.heap.size, 1, none⟩ = some (.int .i64 s.ver)) := K.out.c1
    have hlt2 := lt_of_some H25.out
    have S9 : ∀ {W : World}, Below w5.heap.size w5 W → ∀ u0 u1, Below (w.heap.size + 1) w5 ((W.setCell ⟨w.heap.size + 1, 0, none⟩ u0).setCell ⟨w.heap.size + 1, 1, none⟩ u1) := fun h u0 u1 => ((h.mono (show w.heap.size + 1 ≤ w5.heap.size by omega)).setCell (p := ⟨w.heap.size + 1, 0, none⟩) (Nat.le_refl _) u0).setCell (p := ⟨w.heap.size + 1, 1, none⟩) (Nat.le_refl _) u1
    clear bd H2
    refine (wpIn_wide (n := 9)).1 ?_
    refine wpIn_region_held (fun W => Below (w.heap.size + 1) w5 W) (by kernel_rfl) ?_
    rw [hw5]
    clear hw5
    refine wpAnyHF_takeD (i := 1) 14 (v := .pointer (some ⟨w.heap.size, 0, none⟩)) rfl rfl rfl (by kernel_rfl) (by kernel_rfl) (by kernel_rfl) (fun _ _ _ h => h) ⟨.inl ⟨rfl, fun W hW => by simp [execOp, go_sem]⟩, fun W => rfl⟩ (Below.refl _ _) ?_
    refine wpAnyHF_takeD (i := 2) 15 (v := .slice sa s.cells.length sc) rfl rfl rfl (by kernel_rfl) (by kernel_rfl) (by kernel_rfl) (fun _ _ _ h => h) ⟨.inl ⟨rfl, fun W hW => by have m0 := (hW.cell (show w.heap.size < w.heap.size + 1 by omega)).trans C0.out; simp [execOp, go_sem, m0]⟩, fun W => rfl⟩ (Below.refl _ _) ?_
    refine wpAnyHF_takeD (i := 4) 17 (v := .int .i64 z) rfl rfl rfl (by kernel_rfl) (by kernel_rfl) (by kernel_rfl) (fun _ _ _ h => h) ⟨.inl ⟨rfl, fun W hW => by simp [execOp, go_sem]⟩, fun W => rfl⟩ (Below.refl _ _) ?_
    refine wpAnyHF_takeD (i := 5) 18 (v := .agg #[.int .i64 z, .int .i64 0]) rfl rfl rfl (by kernel_rfl) (by kernel_rfl) (by kernel_rfl) (fun _ _ _ h => h) ⟨.inl ⟨rfl, fun W hW => by simp [execOp, go_sem]⟩, fun W => rfl⟩ (Below.refl _ _) ?_
    refine wpAnyHF_takeD (i := 8) 21 (v := .pointer (some ⟨w.heap.size, 1, none⟩)) rfl rfl rfl (by kernel_rfl) (by kernel_rfl) (by kernel_rfl) (fun _ _ _ h => h) ⟨.inl ⟨rfl, fun W hW => by simp [execOp, go_sem]⟩, fun W => rfl⟩ (Below.refl _ _) ?_
    simp only [Act.put, List.setIfInBounds_toArray, List.set_cons_zero, List.set_cons_succ]
    refine wpAnyHF_takeD (i := 9) 22 (v := .int .i64 s.ver) rfl rfl rfl (by kernel_rfl) (by kernel_rfl) (by kernel_rfl) (fun _ _ _ h => h) ⟨.inl ⟨rfl, fun W hW => by have m1 := (hW.cell (show w.heap.size < w.heap.size + 1 by omega)).trans C1.out; simp [execOp, go_sem, m1]⟩, fun W => rfl⟩ (Below.refl _ _) ?_
    refine wpAnyHF_takeD (i := 11) 24 (v := .pointer (some ⟨w.heap.size, 0, none⟩)) rfl rfl rfl (by kernel_rfl) (by kernel_rfl) (by kernel_rfl) (fun _ _ _ h => h) ⟨.inl ⟨rfl, fun W hW => by simp [execOp, go_sem]⟩, fun W => rfl⟩ (Below.refl _ _) ?_
    simp only [Act.put, List.setIfInBounds_toArray, List.set_cons_zero, List.set_cons_succ]
    refine wpAnyHF_takeD (i := 12) 25 (v := .slice sa s.cells.length sc) rfl rfl rfl (by kernel_rfl) (by kernel_rfl) (by kernel_rfl) (fun _ _ _ h => h) ⟨.inl ⟨rfl, fun W hW => by have m0 := (hW.cell (show w.heap.size < w.heap.size + 1 by omega)).trans C0.out; simp [execOp, go_sem, m0]⟩, fun W => rfl⟩ (Below.refl _ _) ?_
    refine wpAnyHF_takeD (i := 13) 26 (v := .int .i64 s.cells.length) rfl rfl rfl (by kernel_rfl) (by kernel_rfl) (by kernel_rfl) (fun _ _ _ h => h) ⟨.inl ⟨rfl, fun W hW => by simp [execOp, go_sem, resolve, invoke, builtin]⟩, fun W => rfl⟩ (Below.refl _ _) ?_
    simp only [Act.put, List.setIfInBounds_toArray, List.set_cons_zero, List.set_cons_succ]
    have hsrc5 : PSl w5 (fun b => b < w5.heap.size) (.slice sa s.cells.length sc) s.cells := RSl.weak pairGood (by decide) K.out.cells (fun b h _ => h)
    refine wpAnyHF_two (i := 0) (j := 6) (by kernel_rfl) rfl rfl rfl rfl ?_ ?_
    · obtain ⟨w6, hw6⟩ : ∃ z, w5.alloc (.cells #[] 52) = z := ⟨_, rfl⟩
      have b6' : Below w5.heap.size w5 w6 := by rw [← hw6]; exact (Below.refl _ _).alloc (Nat.le_refl _) _
      have hE : w6.heap[w5.heap.size]? = some (.cells #[] 52) := by rw [← hw6]; exact World.alloc_heap_new _ _
      have b6 := b6'
      refine wpIn_valueD 13 rfl (w' := w6) (v := .slice (some ⟨w5.heap.size, 0, none⟩) 0 0) (by rw [← hw6]; simp [execOp, go_sem]) ⟨(b6.mono (show w.heap.size + 1 ≤ w5.heap.size by omega)), ?_⟩
      simp only [Act.put, List.setIfInBounds_toArray, List.set_cons_zero, List.set_cons_succ]
      have hs6 := b6.size
      have hs6' := lt_of_some hE
      refine wpAnyHF_two (i := 3) (j := 6) (by kernel_rfl) rfl rfl rfl rfl ?_ ?_
      · obtain ⟨v1, w7, hrun1, hO0, b7, hkeep⟩ := append_fresh (w := w5) (ok := fun b => b < w5.heap.size) pairGood (by decide) (P := Try.prog) Try.underlying22 infoC rfl (by decide) (RSl.below pairGood hsrc5 b6) (fun x row h => pr_cells _ _ x row h) (by omega) (E := w5.heap.size) (by omega) hE b6 (fun b hb => by omega)
        have hO1 := hO0.anyP
        obtain ⟨va, vc, rfl⟩ := hO1.shape2
        refine wpIn_valueD 16 rfl (w' := w7) (v := .slice va s.cells.length vc) (run_append_op (.tmp 13) (.tmp 15) 22 rfl rfl (v := .slice (some ⟨w5.heap.size, 0, none⟩) 0 0) (xv := .slice sa s.cells.length sc) (by simp [go_sem]) (by simp [go_sem]) hrun1) ⟨(b7.mono (show w.heap.size + 1 ≤ w5.heap.size by omega)), ?_⟩
        simp only [Act.put, List.setIfInBounds_toArray, List.set_cons_zero, List.set_cons_succ]
        refine wpAnyHF_one (i := 6) (by kernel_rfl) rfl rfl ?_
        obtain ⟨w7x, hw7x⟩ : ∃ q, w7.alloc (.cells #[.int .i64 z, .int .i64 0] 52) = q := ⟨_, rfl⟩
        have b7x' : Below w7.heap.size w7 w7x := by rw [← hw7x]; exact (Below.refl _ _).alloc (Nat.le_refl _) _
        have hX : w7x.heap[w7.heap.size]? = some (.cells #[.int .i64 z, .int .i64 0] 52) := by rw [← hw7x]; exact World.alloc_heap_new _ _
        have b7x : Below w5.heap.size w5 w7x := b7.trans (b7x'.mono b7.size)
        refine wpIn_valueD 19 rfl (w' := w7x) (v := .slice (some ⟨w7.heap.size, 0, none⟩) 1 1) (by rw [← hw7x]; simp [execOp, go_sem]) ⟨(b7x.mono (show w.heap.size + 1 ≤ w5.heap.size by omega)), ?_⟩
        simp only [Act.put, List.setIfInBounds_toArray, List.set_cons_zero, List.set_cons_succ]
        replace hO1 := hO1.below pairGood b7x'
        obtain ⟨v2, w8, hrun2, hO2, hg, _, _⟩ := OSl.append (P := Try.prog) pairGood (by decide) hO1 22 22 (.agg #[.int .i64 0, .int .i64 0]) 16 Try.underlying22 infoC rfl ⟨w7.heap.size, 0, none⟩ 1 [(z, 0)] [[.int .i64 z, .int .i64 0]] (Rows.one ⟨rfl, hz, (show In 0 from ⟨by decide, by decide⟩)⟩) (fun j u hj => by rw [addr_add, Nat.zero_add, cell_of hX]; simpa using hj) (by simp [Value.oneCell']) (by simp [maxLen]; omega) (by simp; omega) b7x.size
        obtain ⟨C, hC⟩ : ∃ C, C = s.cells ++ [(z, 0)] := ⟨_, rfl⟩
        rw [← hC] at hO2
        obtain ⟨a8, c8, rfl⟩ := hO2.shape2
        have HC := hid hC
        clear hC
        have b8 : Below w5.heap.size w5 w8 := b7x.grown hg b7x.size (fun k hk => (hO1.lt k hk).1)
        have hSV : SVal w8 (fun b => b ≠ w.heap.size + 1 ∧ (ok b ∨ w.heap.size ≤ b)) (.agg #[.slice a8 C.length c8, .int .i64 s.ver]) ⟨C, s.ver⟩ := ⟨_, _, rfl, HI.out, hO2.rsl pairGood _ (fun b _ h => ⟨by omega, .inr (by omega)⟩) (fun _ _ h => h.elim)⟩
        refine wpAnyHF_one (i := 7) (by kernel_rfl) rfl rfl ?_
        refine wpIn_valueD 20 rfl (w' := w8) (v := .slice a8 C.length c8) (run_append_op (.tmp 16) (.tmp 19) 22 rfl rfl (v := .slice va s.cells.length vc) (xv := .slice (some ⟨w7.heap.size, 0, none⟩) 1 1) (by simp [go_sem]) (by simp [go_sem]) hrun2) ⟨(b8.mono (show w.heap.size + 1 ≤ w5.heap.size by omega)), ?_⟩
        simp only [Act.put, List.setIfInBounds_toArray, List.set_cons_zero, List.set_cons_succ]
        refine wpAnyHF_takeD (i := 10) 23 (v := .agg #[.slice a8 C.length c8, .int .i64 s.ver]) rfl rfl rfl (by kernel_rfl) (by kernel_rfl) (by kernel_rfl) (fun _ _ _ h => h) ⟨.inl ⟨rfl, fun W hW => by simp [execOp, go_sem]⟩, fun W => rfl⟩ (b8.mono (show w.heap.size + 1 ≤ w5.heap.size by omega)) ?_
        simp only [Act.put, List.setIfInBounds_toArray, List.set_cons_zero, List.set_cons_succ]
        have h28 := (b8.block _ (lt_of_some H25.out)).trans H25.out
        have F := sput_out (w := w) (ok := ok) (s := ⟨C, s.ver⟩) h28 (by omega) (B5.out.trans (b8.mono B5.out.size)) hSV
        have q0 : w8.cell? ⟨w.heap.size + 1, 0, none⟩ = some (.slice none 0 0) := cell_of h28
        have q1 : w8.cell? ⟨w.heap.size + 1, 1, none⟩ = some (.int .i64 0) := cell_of h28
        have qf : ∀ i, w8.frozen? ⟨w.heap.size + 1, i, none⟩ = false := fun i => free_of h28
        obtain ⟨w9, hw9⟩ : ∃ z, (w8.setCell ⟨w.heap.size + 1, 0, none⟩ (.slice a8 C.length c8)).setCell ⟨w.heap.size + 1, 1, none⟩ (.int .i64 s.ver) = z := ⟨_, rfl⟩
        refine wpAnyHF_one (i := 14) (by kernel_rfl) rfl rfl ?_
        refine wpIn_skip rfl (w' := w9) (by rw [← hw9]; simp [execOp, go_sem, q0, q1, qf]) ⟨by rw [← hw9]; exact S9 b8 _ _, ?_⟩
        refine wpAnyHF_takeD (i := 15) 5 (v := .int .i64 s.cells.length) rfl rfl rfl (by kernel_rfl) (by kernel_rfl) (by kernel_rfl) (fun _ _ _ h => h) ⟨.inl ⟨rfl, fun W hW => by simp [execOp, go_sem]⟩, fun W => rfl⟩ (by rw [← hw9]; exact S9 b8 _ _) ?_
        refine wpAnyHF_takeD (i := 16) 6 (v := .int .i64 0) rfl rfl rfl (by kernel_rfl) (by kernel_rfl) (by kernel_rfl) (fun _ _ _ h => h) ⟨.inl ⟨rfl, fun W hW => by simp [execOp, go_sem]⟩, fun W => rfl⟩ (by rw [← hw9]; exact S9 b8 _ _) ?_
        simp only [Act.put, List.setIfInBounds_toArray, List.set_cons_zero, List.set_cons_succ]
        refine wpAnyHF_done (by kernel_rfl) ?_ _
        rw [← hw9]
        have FF := hid F
        clear F hw9 q0 q1 qf h28 hSV hrun2 hO2 hg hO1 hX
        gi_wp2
        go_wp2_with fail
        have t0 := cell_at (i := 0) (v := .slice a8 C.length c8) FF.out.1 rfl
        have t1 := cell_at (i := 1) (v := .int .i64 s.ver) FF.out.1 rfl
        exact bodyPost_ret (v := .tuple #[.agg #[.slice a8 C.length c8, .int .i64 s.ver], .int .i64 s.cells.length, .int .i64 0]) (by simp [results, Try.results13, go_sem, t0, t1]) rfl (AddP.of (t := ⟨C, s.ver⟩) (by rw [addS, ← HQ.out, HC.out]; rfl) FF.out.2.1 FF.out.2.2)
      · obtain ⟨w6x, hw6x⟩ : ∃ q, w6.alloc (.cells #[.int .i64 z, .int .i64 0] 52) = q := ⟨_, rfl⟩
        have b6x' : Below w6.heap.size w6 w6x := by rw [← hw6x]; exact (Below.refl _ _).alloc (Nat.le_refl _) _
        have hX : w6x.heap[w6.heap.size]? = some (.cells #[.int .i64 z, .int .i64 0] 52) := by rw [← hw6x]; exact World.alloc_heap_new _ _
        have b6x : Below w5.heap.size w5 w6x := b6.trans (b6x'.mono b6.size)
        refine wpIn_valueD 19 rfl (w' := w6x) (v := .slice (some ⟨w6.heap.size, 0, none⟩) 1 1) (by rw [← hw6x]; simp [execOp, go_sem]) ⟨(b6x.mono (show w.heap.size + 1 ≤ w5.heap.size by omega)), ?_⟩
        simp only [Act.put, List.setIfInBounds_toArray, List.set_cons_zero, List.set_cons_succ]
        replace hE := (b6x'.block _ (lt_of_some hE)).trans hE
        obtain ⟨v1, w7, hrun1, hO0, b7, hkeep⟩ := append_fresh (w := w5) (ok := fun b => b < w5.heap.size) pairGood (by decide) (P := Try.prog) Try.underlying22 infoC rfl (by decide) (RSl.below pairGood hsrc5 b6x) (fun x row h => pr_cells _ _ x row h) (by omega) (E := w5.heap.size) (by omega) hE b6x (fun b hb => by omega)
        have hO1 := hO0.anyP
        obtain ⟨va, vc, rfl⟩ := hO1.shape2
        refine wpAnyHF_one (i := 3) (by kernel_rfl) rfl rfl ?_
        refine wpIn_valueD 16 rfl (w' := w7) (v := .slice va s.cells.length vc) (run_append_op (.tmp 13) (.tmp 15) 22 rfl rfl (v := .slice (some ⟨w5.heap.size, 0, none⟩) 0 0) (xv := .slice sa s.cells.length sc) (by simp [go_sem]) (by simp [go_sem]) hrun1) ⟨(b7.mono (show w.heap.size + 1 ≤ w5.heap.size by omega)), ?_⟩
        simp only [Act.put, List.setIfInBounds_toArray, List.set_cons_zero, List.set_cons_succ]
        replace hX := hkeep _ _ hX (by omega)
        obtain ⟨v2, w8, hrun2, hO2, hg, _, _⟩ := OSl.append (P := Try.prog) pairGood (by decide) hO1 22 22 (.agg #[.int .i64 0, .int .i64 0]) 16 Try.underlying22 infoC rfl ⟨w6.heap.size, 0, none⟩ 1 [(z, 0)] [[.int .i64 z, .int .i64 0]] (Rows.one ⟨rfl, hz, (show In 0 from ⟨by decide, by decide⟩)⟩) (fun j u hj => by rw [addr_add, Nat.zero_add, cell_of hX]; simpa using hj) (by simp [Value.oneCell']) (by simp [maxLen]; omega) (by simp; omega) b7.size
        obtain ⟨C, hC⟩ : ∃ C, C = s.cells ++ [(z, 0)] := ⟨_, rfl⟩
        rw [← hC] at hO2
        obtain ⟨a8, c8, rfl⟩ := hO2.shape2
        have HC := hid hC
        clear hC
        have b8 : Below w5.heap.size w5 w8 := b7.grown hg b7.size (fun k hk => (hO1.lt k hk).1)
        have hSV : SVal w8 (fun b => b ≠ w.heap.size + 1 ∧ (ok b ∨ w.heap.size ≤ b)) (.agg #[.slice a8 C.length c8, .int .i64 s.ver]) ⟨C, s.ver⟩ := ⟨_, _, rfl, HI.out, hO2.rsl pairGood _ (fun b _ h => ⟨by omega, .inr (by omega)⟩) (fun _ _ h => h.elim)⟩
        refine wpAnyHF_one (i := 7) (by kernel_rfl) rfl rfl ?_
        refine wpIn_valueD 20 rfl (w' := w8) (v := .slice a8 C.length c8) (run_append_op (.tmp 16) (.tmp 19) 22 rfl rfl (v := .slice va s.cells.length vc) (xv := .slice (some ⟨w6.heap.size, 0, none⟩) 1 1) (by simp [go_sem]) (by simp [go_sem]) hrun2) ⟨(b8.mono (show w.heap.size + 1 ≤ w5.heap.size by omega)), ?_⟩
        simp only [Act.put, List.setIfInBounds_toArray, List.set_cons_zero, List.set_cons_succ]
        refine wpAnyHF_takeD (i := 10) 23 (v := .agg #[.slice a8 C.length c8, .int .i64 s.ver]) rfl rfl rfl (by kernel_rfl) (by kernel_rfl) (by kernel_rfl) (fun _ _ _ h => h) ⟨.inl ⟨rfl, fun W hW => by simp [execOp, go_sem]⟩, fun W => rfl⟩ (b8.mono (show w.heap.size + 1 ≤ w5.heap.size by omega)) ?_
        simp only [Act.put, List.setIfInBounds_toArray, List.set_cons_zero, List.set_cons_succ]
        have h28 := (b8.block _ (lt_of_some H25.out)).trans H25.out
        have F := sput_out (w := w) (ok := ok) (s := ⟨C, s.ver⟩) h28 (by omega) (B5.out.trans (b8.mono B5.out.size)) hSV
        have q0 : w8.cell? ⟨w.heap.size + 1, 0, none⟩ = some (.slice none 0 0) := cell_of h28
        have q1 : w8.cell? ⟨w.heap.size + 1, 1, none⟩ = some (.int .i64 0) := cell_of h28
        have qf : ∀ i, w8.frozen? ⟨w.heap.size + 1, i, none⟩ = false := fun i => free_of h28
        obtain ⟨w9, hw9⟩ : ∃ z, (w8.setCell ⟨w.heap.size + 1, 0, none⟩ (.slice a8 C.length c8)).setCell ⟨w.heap.size + 1, 1, none⟩ (.int .i64 s.ver) = z := ⟨_, rfl⟩
        refine wpAnyHF_one (i := 14) (by kernel_rfl) rfl rfl ?_
        refine wpIn_skip rfl (w' := w9) (by rw [← hw9]; simp [execOp, go_sem, q0, q1, qf]) ⟨by rw [← hw9]; exact S9 b8 _ _, ?_⟩
        refine wpAnyHF_takeD (i := 15) 5 (v := .int .i64 s.cells.length) rfl rfl rfl (by kernel_rfl) (by kernel_rfl) (by kernel_rfl) (fun _ _ _ h => h) ⟨.inl ⟨rfl, fun W hW => by simp [execOp, go_sem]⟩, fun W => rfl⟩ (by rw [← hw9]; exact S9 b8 _ _) ?_
        refine wpAnyHF_takeD (i := 16) 6 (v := .int .i64 0) rfl rfl rfl (by kernel_rfl) (by kernel_rfl) (by kernel_rfl) (fun _ _ _ h => h) ⟨.inl ⟨rfl, fun W hW => by simp [execOp, go_sem]⟩, fun W => rfl⟩ (by rw [← hw9]; exact S9 b8 _ _) ?_
        simp only [Act.put, List.setIfInBounds_toArray, List.set_cons_zero, List.set_cons_succ]
        refine wpAnyHF_done (by kernel_rfl) ?_ _
        rw [← hw9]
        have FF := hid F
        clear F hw9 q0 q1 qf h28 hSV hrun2 hO2 hg hO1 hX
        gi_wp2
        go_wp2_with fail
        have t0 := cell_at (i := 0) (v := .slice a8 C.length c8) FF.out.1 rfl
        have t1 := cell_at (i := 1) (v := .int .i64 s.ver) FF.out.1 rfl
        exact bodyPost_ret (v := .tuple #[.agg #[.slice a8 C.length c8, .int .i64 s.ver], .int .i64 s.cells.length, .int .i64 0]) (by simp [results, Try.results13, go_sem, t0, t1]) rfl (AddP.of (t := ⟨C, s.ver⟩) (by rw [addS, ← HQ.out, HC.out]; rfl) FF.out.2.1 FF.out.2.2)
    · obtain ⟨w6, hw6⟩ : ∃ q, w5.alloc (.cells #[.int .i64 z, .int .i64 0] 52) = q := ⟨_, rfl⟩
      have b6' : Below w5.heap.size w5 w6 := by rw [← hw6]; exact (Below.refl _ _).alloc (Nat.le_refl _) _
      have hX : w6.heap[w5.heap.size]? = some (.cells #[.int .i64 z, .int .i64 0] 52) := by rw [← hw6]; exact World.alloc_heap_new _ _
      have b6 := b6'
      refine wpIn_valueD 19 rfl (w' := w6) (v := .slice (some ⟨w5.heap.size, 0, none⟩) 1 1) (by rw [← hw6]; simp [execOp, go_sem]) ⟨(b6.mono (show w.heap.size + 1 ≤ w5.heap.size by omega)), ?_⟩
      simp only [Act.put, List.setIfInBounds_toArray, List.set_cons_zero, List.set_cons_succ]
      have hs6 := b6.size
      have hs6' := lt_of_some hX
      refine wpAnyHF_one (i := 0) (by kernel_rfl) rfl rfl ?_
      obtain ⟨w6x, hw6x⟩ : ∃ z, w6.alloc (.cells #[] 52) = z := ⟨_, rfl⟩
      have b6x' : Below w6.heap.size w6 w6x := by rw [← hw6x]; exact (Below.refl _ _).alloc (Nat.le_refl _) _
      have hE : w6x.heap[w6.heap.size]? = some (.cells #[] 52) := by rw [← hw6x]; exact World.alloc_heap_new _ _
      have b6x : Below w5.heap.size w5 w6x := b6.trans (b6x'.mono b6.size)
      refine wpIn_valueD 13 rfl (w' := w6x) (v := .slice (some ⟨w6.heap.size, 0, none⟩) 0 0) (by rw [← hw6x]; simp [execOp, go_sem]) ⟨(b6x.mono (show w.heap.size + 1 ≤ w5.heap.size by omega)), ?_⟩
      simp only [Act.put, List.setIfInBounds_toArray, List.set_cons_zero, List.set_cons_succ]
      replace hX := (b6x'.block _ (lt_of_some hX)).trans hX
      obtain ⟨v1, w7, hrun1, hO0, b7, hkeep⟩ := append_fresh (w := w5) (ok := fun b => b < w5.heap.size) pairGood (by decide) (P := Try.prog) Try.underlying22 infoC rfl (by decide) (RSl.below pairGood hsrc5 b6x) (fun x row h => pr_cells _ _ x row h) (by omega) (E := w6.heap.size) (by omega) hE b6x (fun b hb => by omega)
      have hO1 := hO0.anyP
      obtain ⟨va, vc, rfl⟩ := hO1.shape2
      refine wpAnyHF_one (i := 3) (by kernel_rfl) rfl rfl ?_
      refine wpIn_valueD 16 rfl (w' := w7) (v := .slice va s.cells.length vc) (run_append_op (.tmp 13) (.tmp 15) 22 rfl rfl (v := .slice (some ⟨w6.heap.size, 0, none⟩) 0 0) (xv := .slice sa s.cells.length sc) (by simp [go_sem]) (by simp [go_sem]) hrun1) ⟨(b7.mono (show w.heap.size + 1 ≤ w5.heap.size by omega)), ?_⟩
      simp only [Act.put, List.setIfInBounds_toArray, List.set_cons_zero, List.set_cons_succ]
      replace hX := hkeep _ _ hX (by omega)
      obtain ⟨v2, w8, hrun2, hO2, hg, _, _⟩ := OSl.append (P := Try.prog) pairGood (by decide) hO1 22 22 (.agg #[.int .i64 0, .int .i64 0]) 16 Try.underlying22 infoC rfl ⟨w5.heap.size, 0, none⟩ 1 [(z, 0)] [[.int .i64 z, .int .i64 0]] (Rows.one ⟨rfl, hz, (show In 0 from ⟨by decide, by decide⟩)⟩) (fun j u hj => by rw [addr_add, Nat.zero_add, cell_of hX]; simpa using hj) (by simp [Value.oneCell']) (by simp [maxLen]; omega) (by simp; omega) b7.size
      obtain ⟨C, hC⟩ : ∃ C, C = s.cells ++ [(z, 0)] := ⟨_, rfl⟩
      rw [← hC] at hO2
      obtain ⟨a8, c8, rfl⟩ := hO2.shape2
      have HC := hid hC
      clear hC
      have b8 : Below w5.heap.size w5 w8 := b7.grown hg b7.size (fun k hk => (hO1.lt k hk).1)
      have hSV : SVal w8 (fun b => b ≠ w.heap.size + 1 ∧ (ok b ∨ w.heap.size ≤ b)) (.agg #[.slice a8 C.length c8, .int .i64 s.ver]) ⟨C, s.ver⟩ := ⟨_, _, rfl, HI.out, hO2.rsl pairGood _ (fun b _ h => ⟨by omega, .inr (by omega)⟩) (fun _ _ h => h.elim)⟩
      refine wpAnyHF_one (i := 7) (by kernel_rfl) rfl rfl ?_
      refine wpIn_valueD 20 rfl (w' := w8) (v := .slice a8 C.length c8) (run_append_op (.tmp 16) (.tmp 19) 22 rfl rfl (v := .slice va s.cells.length vc) (xv := .slice (some ⟨w5.heap.size, 0, none⟩) 1 1) (by simp [go_sem]) (by simp [go_sem]) hrun2) ⟨(b8.mono (show w.heap.size + 1 ≤ w5.heap.size by omega)), ?_⟩
      simp only [Act.put, List.setIfInBounds_toArray, List.set_cons_zero, List.set_cons_succ]
      refine wpAnyHF_takeD (i := 10) 23 (v := .agg #[.slice a8 C.length c8, .int .i64 s.ver]) rfl rfl rfl (by kernel_rfl) (by kernel_rfl) (by kernel_rfl) (fun _ _ _ h => h) ⟨.inl ⟨rfl, fun W hW => by simp [execOp, go_sem]⟩, fun W => rfl⟩ (b8.mono (show w.heap.size + 1 ≤ w5.heap.size by omega)) ?_
      simp only [Act.put, List.setIfInBounds_toArray, List.set_cons_zero, List.set_cons_succ]
      have h28 := (b8.block _ (lt_of_some H25.out)).trans H25.out
      have F := sput_out (w := w) (ok := ok) (s := ⟨C, s.ver⟩) h28 (by omega) (B5.out.trans (b8.mono B5.out.size)) hSV
      have q0 : w8.cell? ⟨w.heap.size + 1, 0, none⟩ = some (.slice none 0 0) := cell_of h28
      have q1 : w8.cell? ⟨w.heap.size + 1, 1, none⟩ = some (.int .i64 0) := cell_of h28
      have qf : ∀ i, w8.frozen? ⟨w.heap.size + 1, i, none⟩ = false := fun i => free_of h28
      obtain ⟨w9, hw9⟩ : ∃ z, (w8.setCell ⟨w.heap.size + 1, 0, none⟩ (.slice a8 C.length c8)).setCell ⟨w.heap.size + 1, 1, none⟩ (.int .i64 s.ver) = z := ⟨_, rfl⟩
      refine wpAnyHF_one (i := 14) (by kernel_rfl) rfl rfl ?_
      refine wpIn_skip rfl (w' := w9) (by rw [← hw9]; simp [execOp, go_sem, q0, q1, qf]) ⟨by rw [← hw9]; exact S9 b8 _ _, ?_⟩
      refine wpAnyHF_takeD (i := 15) 5 (v := .int .i64 s.cells.length) rfl rfl rfl (by kernel_rfl) (by kernel_rfl) (by kernel_rfl) (fun _ _ _ h => h) ⟨.inl ⟨rfl, fun W hW => by simp [execOp, go_sem]⟩, fun W => rfl⟩ (by rw [← hw9]; exact S9 b8 _ _) ?_
      refine wpAnyHF_takeD (i := 16) 6 (v := .int .i64 0) rfl rfl rfl (by kernel_rfl) (by kernel_rfl) (by kernel_rfl) (fun _ _ _ h => h) ⟨.inl ⟨rfl, fun W hW => by simp [execOp, go_sem]⟩, fun W => rfl⟩ (by rw [← hw9]; exact S9 b8 _ _) ?_
      simp only [Act.put, List.setIfInBounds_toArray, List.set_cons_zero, List.set_cons_succ]
      refine wpAnyHF_done (by kernel_rfl) ?_ _
      rw [← hw9]
      have FF := hid F
      clear F hw9 q0 q1 qf h28 hSV hrun2 hO2 hg hO1 hX
      gi_wp2
      go_wp2_with fail
      have t0 := cell_at (i := 0) (v := .slice a8 C.length c8) FF.out.1 rfl
      have t1 := cell_at (i := 1) (v := .int .i64 s.ver) FF.out.1 rfl
      exact bodyPost_ret (v := .tuple #[.agg #[.slice a8 C.length c8, .int .i64 s.ver], .int .i64 s.cells.length, .int .i64 0]) (by simp [results, Try.results13, go_sem, t0, t1]) rfl (AddP.of (t := ⟨C, s.ver⟩) (by rw [addS, ← HQ.out, HC.out]; rfl) FF.out.2.1 FF.out.2.2)
end Go.Proofs.Ytplckigmllkpoaa
