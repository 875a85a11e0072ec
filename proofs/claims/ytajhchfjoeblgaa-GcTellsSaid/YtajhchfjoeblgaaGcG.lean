/- gc.Collect, Live: what each returns. -/
import Derived.Test.YtajhchfjoeblgaaGcF
import Derived.Test.YtajhchfjoeblgaaGcE
namespace Go.Proofs.Ytajhchfjoeblgaa
open Go.RowKit Go.Shelf
open Go.ChangeMaps (setBlock)
attribute [local go_sem] Oper.semAt_some
theorem HVal.low {w : World} {ok : Nat → Prop} {v : Value} {h : Hp} (hv : HVal w ok v h) : HVal w (fun b => b < w.heap.size) v h := by
  obtain ⟨sa, sc, e, i, s⟩ := hv; exact ⟨sa, sc, e, i, s.weak nodeGood (by decide) (fun _ hb _ => hb)⟩
theorem HVal.keep0 {w : World} {m n : Nat} {v : Value} {h : Hp} (hv : HVal w (fun b => b < m) v h) (hmn : m ≤ n) : HVal w (fun b => b < n) v h := by
  obtain ⟨sa, sc, e, i, s⟩ := hv; exact ⟨sa, sc, e, i, s.weak nodeGood (by decide) (fun _ _ hb => Nat.lt_of_lt_of_le hb hmn)⟩
def CollPost (w : World) (h : Hp) (roots : List Int) (v : Value) (e : Ending) (w' : World) : Prop :=
  match collH h roots with
  | some (h', l) => ∃ a c lv, e = .returned (.tuple #[.agg #[.slice a h'.nodes.length c, .int .i64 h'.most], lv, .int .i64 0]) ∧ HVal w' (fun b => w.heap.size ≤ b) (.agg #[.slice a h'.nodes.length c, .int .i64 h'.most]) h' ∧ ISl w' (fun b => w.heap.size ≤ b) lv l ∧ Below w.heap.size w w'
  | none => e = .returned (.tuple #[v, .slice none 0 0, .int .i64 140]) ∧ Below w.heap.size w w'
theorem OSl.rslOwn {α : Type} {R : Enc α} {size : Nat} (g : Good R size) {e : TypeId} {base : Nat} {w : World} {ok : Nat → Prop} {v : Value} {xs : List α} (h : OSl R size e base w ok v xs) (ok' : Nat → Prop) (h1 : ∀ b, v.ownBlock = some b → base ≤ b → ok' b) (h2 : ∀ b, b < w.heap.size → ok b → ok' b) : RSl R size w ok' v xs := by
  obtain ⟨rows, hr, hown⟩ := h
  rcases hown.2 with ⟨rfl, hn⟩ | ⟨g', cap, cur, rfl, hg, hh, hn, hm, hsz, htk⟩
  · have : xs = [] := List.length_eq_zero_iff.1 hn
    subst this; exact RSl.nil _ _ _ _
  · refine ⟨_, cap, rfl, hn, hm, (fun h => by cases h), fun hpos => ⟨g', 0, rfl, h1 g' rfl hg, fun i hi => ?_⟩⟩
    have hri : i < rows.length := by rw [hr.1]; exact hi
    refine ⟨rows[i], g.weak _ _ _ _ _ (fun b hb h => h2 b hb h.1) (hr.2 i _ _ (List.getElem?_eq_getElem hi) (List.getElem?_eq_getElem hri)), fun j u hj => ?_⟩
    have hf := flatten_get (hr.len g) (List.getElem?_eq_getElem hri) hj
    rw [← htk] at hf
    have hlt := (List.getElem?_eq_some_iff.1 hf).1
    rw [List.length_take] at hlt
    rw [List.getElem?_take_of_lt (by omega)] at hf
    rw [Nat.zero_add]
    simp only [World.cell?, hh]
    simpa using hf
/-- The kids of an element of the mover's list. -/
theorem Mv.kids {base : Nat} {w : World} {B M : Nat} {sa : Option Addr} {sc : Nat} {h : Hp} {tv : Value} {S : List Int} {T : List Nd} {bad : Bool} {ok : Nat → Prop} (m : Mv base w B M sa sc h tv S T bad ok) {i : Nat} {x : Nd} (hx : T[i]? = some x) :
    ∃ tb tc ka kc, tv = .slice (some ⟨tb, 0, none⟩) T.length tc ∧ w.cell? ⟨tb, i * 4 + 3, none⟩ = some (.slice ka x.kids.length kc) ∧ ISl w (fun _ => True) (.slice ka x.kids.length kc) x.kids := by
  obtain ⟨b, cap, hv, _, _, _, _⟩ := OSl.setCell nodeGood m.own (x' := x) hx (j := 0) (by decide) (.int .i64 x.kind) (fun row hr => by obtain ⟨sv, rfl, h1, h2, h3⟩ := hr; exact ⟨sv, rfl, h1, h2, h3⟩)
  have hr : NSl w (fun _ => True) tv T := m.own.rsl nodeGood _ (fun _ _ _ => trivial) (fun _ _ _ => trivial)
  obtain ⟨b1, o1, c1, x1, ka, kc, hv1, hx1, _, _, hs, _, _, _, d3⟩ := hr.at (Below.refl _ _) (List.getElem?_eq_some_iff.1 hx).1
  rw [hv1] at hv; cases hv
  rw [hx] at hx1; cases hx1
  exact ⟨_, _, ka, kc, hv1, by simpa using d3, hs⟩
/-- .. and the store of others. -/
theorem Mv.setKids {base : Nat} {w : World} {B M : Nat} {sa : Option Addr} {sc : Nat} {h : Hp} {tv : Value} {S : List Int} {T : List Nd} {bad : Bool} {ok : Nat → Prop} (m : Mv base w B M sa sc h tv S T bad ok) {i : Nat} {x : Nd} (hx : T[i]? = some x) {ov : Value} {ks : List Int}
    (ho : ISl w (fun b => ok b ∧ some b ≠ tv.ownBlock) ov ks) :
    ∃ tb tc, tv = .slice (some ⟨tb, 0, none⟩) T.length tc ∧ base ≤ tb ∧ w.frozen? ⟨tb, i * 4 + 3, none⟩ = false ∧ (∃ u0, w.cell? ⟨tb, i * 4 + 3, none⟩ = some u0) ∧ tb ≠ B ∧ tb ≠ M ∧ ¬ (ok tb ∧ some tb ≠ tv.ownBlock) ∧
      Mv base (w.setCell ⟨tb, i * 4 + 3, none⟩ ov) B M sa sc h tv S (T.set i { x with kids := ks }) bad ok := by
  obtain ⟨b, cap, hv, hb, hf, hu, hO⟩ := OSl.setCell nodeGood m.own (x' := { x with kids := ks }) hx (j := 3) (by decide) ov (fun row hr => by
    obtain ⟨sv, rfl, h1, h2, h3⟩ := hr
    exact ⟨ov, rfl, h1, h2, ho⟩)
  have h1 : b ≠ B := fun e => m.tvB (by rw [hv]; show some b = _; rw [e])
  have h2 : b ≠ M := fun e => m.tvM (by rw [hv]; show some b = _; rw [e])
  refine ⟨b, cap, hv, hb, hf _, hu, h1, h2, fun hh => hh.2 (by rw [hv]; rfl), ?_⟩
  exact ⟨by rw [Below.heap_setCell _ _ _ _ (fun e => h1 e.symm)]; exact m.box, hO, m.map.kept (Below.heap_setCell _ _ _ _ (fun e => h2 e.symm)), m.hv.keep ((Same.refl _ _).setCell (a := ⟨b, _, none⟩) _ (by simp; omega)), m.ne, m.tvB, m.tvM, m.bB, m.bM⟩
def okC (n B M : Nat) (rov : Value) (b : Nat) : Prop := n ≤ b ∧ b ≠ B ∧ b ≠ M ∧ some b ≠ rov.ownBlock
/-- What holds at the head of Collect's loop. -/
structure Lp (base : Nat) (w1 w : World) (B M : Nat) (sa : Option Addr) (sc : Nat) (h : Hp) (roots : List Int) (rov : Value) (i : Nat) (S : List Int) (T : List Nd) (tk : Value) (bad : Bool) : Prop where
  mv : Mv base w B M sa sc h tk S T bad (okC base B M rov)
  out : OSl IntE 1 3 base w (fun _ => False) rov (outOf h.nodes (addT h.nodes [] roots) roots)
  rv : ∀ b, rov.ownBlock = some b → b ≠ B ∧ b ≠ M ∧ tk.ownBlock ≠ some b
  bel : Below base w1 w
  fit : Fit h.nodes S
  len : T.length = S.length
  le : i ≤ S.length
  yes : bad = false → T = doneT h.nodes i S ∧ Closed h.nodes i S ∧ addT h.nodes [] roots <+: S ∧ fails h.nodes roots = false ∧ loopS h.nodes (h.nodes.length + 1 - i) i S = collS h.nodes roots
  no : bad = true → collS h.nodes roots = none
theorem Lp.next {base : Nat} {w1 w w2 : World} {B M : Nat} {sa : Option Addr} {sc : Nat} {h : Hp} {roots : List Int} {rov : Value} {i : Nat} {S : List Int} {T : List Nd} {tk t2 ov : Value} {q : Int} (L : Lp base w1 w B M sa sc h roots rov i S T tk false) (hq : S[i]? = some q)
    (hm : Mv base w2 B M sa sc h t2 (addT h.nodes S (nodeAt h.nodes q).kids) (T ++ rawT h.nodes S.length (addT h.nodes S (nodeAt h.nodes q).kids)) (false || fails h.nodes (nodeAt h.nodes q).kids) (okOut (okC base B M rov) w.heap.size ov)) (mo : Mo base B M w w2 tk t2)
    (ho : OSl IntE 1 3 w.heap.size w2 (fun _ => False) ov (outOf h.nodes (addT h.nodes S (nodeAt h.nodes q).kids) (nodeAt h.nodes q).kids)) (hov : ∀ b, ov.ownBlock = some b → b ≠ B ∧ b ≠ M ∧ t2.ownBlock ≠ some b) (hbase : base ≤ w.heap.size) :
    ∃ tb tc, t2 = .slice (some ⟨tb, 0, none⟩) (T ++ rawT h.nodes S.length (addT h.nodes S (nodeAt h.nodes q).kids)).length tc ∧ w2.cell? ⟨B, 2, none⟩ = some t2 ∧ i < (T ++ rawT h.nodes S.length (addT h.nodes S (nodeAt h.nodes q).kids)).length ∧ w2.frozen? ⟨tb, i * 4 + 3, none⟩ = false ∧ (∃ u0, w2.cell? ⟨tb, i * 4 + 3, none⟩ = some u0) ∧
      Lp base w1 (w2.setCell ⟨tb, i * 4 + 3, none⟩ ov) B M sa sc h roots rov (i + 1) (addT h.nodes S (nodeAt h.nodes q).kids) (doneT h.nodes (i + 1) (addT h.nodes S (nodeAt h.nodes q).kids)) t2 (fails h.nodes (nodeAt h.nodes q).kids) := by
  obtain ⟨hT, hc, hpre, hfr, hloop⟩ := L.yes rfl
  have hil := (List.getElem?_eq_some_iff.1 hq).1
  rw [Bool.false_or] at hm
  have hov2 : ∀ b, ov.ownBlock = some b → w.heap.size ≤ b := fun b hb => (ho.lt b hb).1
  have hrvlt : ∀ b, rov.ownBlock = some b → b < w.heap.size := fun b hb => by obtain ⟨_, c, hc⟩ := L.out.lt b hb; exact lt_of_some hc
  have hBw := lt_of_some L.mv.box
  have hMw := L.mv.map.lt
  have okne : ∀ b, okC base B M rov b → b ≠ B ∧ b ≠ M := fun b hb => ⟨hb.2.1, hb.2.2.1⟩
  have hm2 : Mv base w2 B M sa sc h t2 (addT h.nodes S (nodeAt h.nodes q).kids) (T ++ rawT h.nodes S.length (addT h.nodes S (nodeAt h.nodes q).kids)) (fails h.nodes (nodeAt h.nodes q).kids) (okC base B M rov) := hm.weak (fun b _ hb => by
    rcases hb with hb | hb
    · exact hb.1
    · exact ⟨by omega, by omega, by omega, fun e => by have := hrvlt b e.symm; omega⟩) okne
  have hx : (T ++ rawT h.nodes S.length (addT h.nodes S (nodeAt h.nodes q).kids))[i]? = some (nodeAt h.nodes q) := by
    rw [List.getElem?_append_left (by rw [L.len]; exact hil), hT]; exact doneT_get _ hq
  have hks : ISl w2 (fun b => okC base B M rov b ∧ some b ≠ t2.ownBlock) ov (outOf h.nodes (addT h.nodes S (nodeAt h.nodes q).kids) (nodeAt h.nodes q).kids) := by
    refine ho.rslOwn intGood _ (fun b hb hle => ?_) (fun b _ h => h.elim)
    obtain ⟨h1, h2, h3⟩ := hov b hb
    exact ⟨⟨by omega, h1, h2, fun e => by have := hrvlt b e.symm; omega⟩, fun e => h3 e.symm⟩
  obtain ⟨tb, tc, htv, htb, hfz, hu, hB, hM, hnok, hset⟩ := hm2.setKids hx hks
  have htl : t2.ownBlock = some tb := by rw [htv]; rfl
  have hlen : i < (T ++ rawT h.nodes S.length (addT h.nodes S (nodeAt h.nodes q).kids)).length := (List.getElem?_eq_some_iff.1 hx).1
  rw [hT, doneT_step hq hc] at hset
  have hrv2 : ∀ b, rov.ownBlock = some b → b ≠ tb := fun b hb e => by
    have h1 := hrvlt b hb
    rcases mo.tv with h' | ⟨j, h', hj⟩
    · rw [h'] at htl; rw [e] at hb; exact (L.rv tb hb).2.2 htl
    · rw [h'] at htl; cases htl; omega
  have hout2 := L.out.keptMo mo (fun b hb => L.rv b hb)
  refine ⟨tb, tc, htv, (mvc0 hm2).2.2.1, hlen, hfz, hu, hset, ?_, fun b hb => ⟨(L.rv b hb).1, (L.rv b hb).2.1, fun e => by rw [htl] at e; cases e; exact hrv2 _ hb rfl⟩, (L.bel.trans mo.bel).setCell htb _, fit_addT _ L.fit, ?_, ?_, fun hf => ?_, fun hf => ?_⟩
  · exact hout2.keep intGood ((Same.refl _ _).setCell (a := ⟨tb, i * 4 + 3, none⟩) _ (fun h => h.elim id (fun e => hrv2 _ e.symm rfl)))
  · have := (addT_prefix h.nodes (nodeAt h.nodes q).kids S).length_le
    exact doneT_len _ (by omega)
  · have := (addT_prefix h.nodes (nodeAt h.nodes q).kids S).length_le
    omega
  · have hSl := fit_len L.fit
    refine ⟨rfl, closed_step hc hq hf, hpre.trans (addT_prefix _ _ _), hfr, ?_⟩
    rw [← hloop, show h.nodes.length + 1 - i = (h.nodes.length + 1 - (i + 1)) + 1 by omega]
    conv => rhs; rw [loopS]
    rw [hq]; simp only [hf, Bool.false_eq_true, if_false]
  · have hSl := fit_len L.fit
    rw [← hloop, show h.nodes.length + 1 - i = (h.nodes.length + 1 - (i + 1)) + 1 by omega, loopS, hq]
    simp only [hf, if_true]
theorem Lp.stop {base : Nat} {w1 w : World} {B M : Nat} {sa : Option Addr} {sc : Nat} {h : Hp} {roots : List Int} {rov : Value} {i : Nat} {S : List Int} {T : List Nd} {tk : Value} (L : Lp base w1 w B M sa sc h roots rov i S T tk false) (hi : i = S.length) :
    collS h.nodes roots = some S ∧ T = S.map (moved h.nodes S) ∧ outOf h.nodes (addT h.nodes [] roots) roots = outOf h.nodes S roots := by
  obtain ⟨hT, hc, hpre, hfr, hloop⟩ := L.yes rfl
  have hSl := fit_len L.fit
  subst hi
  refine ⟨?_, by rw [hT, doneT_end], ?_⟩
  · rw [← hloop, show h.nodes.length + 1 - S.length = (h.nodes.length - S.length) + 1 by omega, loopS, List.getElem?_eq_none (Nat.le_refl _)]
  · refine (outOf_later hpre fun p hp q hq => ?_).symm
    exact mem_addT.2 (.inr ⟨p, hp, hq⟩)
set_option maxHeartbeats 8000000 in
theorem coll_any (w : World) (ok ok2 : Nat → Prop) (v lv : Value) (h : Hp) (roots : List Int) (hh : HVal w ok v h) (hr : ISl w ok2 lv roots) (hn : h.nodes.length ≤ 1000) (hkb : ∀ x ∈ h.nodes, x.kids.length ≤ 1000) (hrl : roots.length ≤ 1000) :
    Calls Try.prog 10 #[v, lv] w (CollPost w h roots v) := by
  have hh0 := hh
  obtain ⟨sa, sc, rfl, hi, hs⟩ := hh
  obtain ⟨_, _, e, l1, _⟩ := hs.shape
  cases e
  obtain ⟨W0, hW0⟩ : ∃ W0, (w.alloc (Obj.cells #[.slice sa h.nodes.length sc, .int .i64 h.most] 24)).alloc (Obj.cells #[.slice none 0 0, .int .i64 0] 24) = W0 := ⟨_, rfl⟩
  have hb0 : Below w.heap.size w W0 := by rw [← hW0]; exact ((Below.refl _ _).alloc (Nat.le_refl _) _).alloc (by simp) _
  have hz0 : W0.heap.size = w.heap.size + 2 := by rw [← hW0]; simp
  have h1 := heap_one w (Obj.cells #[.slice sa h.nodes.length sc, .int .i64 h.most] 24) (Obj.cells #[.slice none 0 0, .int .i64 0] 24)
  have h2 := heap_two w (Obj.cells #[.slice sa h.nodes.length sc, .int .i64 h.most] 24) (Obj.cells #[.slice none 0 0, .int .i64 0] 24)
  rw [hW0] at h1 h2
  have HC := hid (check_any W0 _ _ h (hh0.below hb0))
  have HI := hid (And.intro hh0 (And.intro hr (And.intro hb0 (And.intro hz0 (And.intro h1 h2)))))
  have HW := hid hW0
  have HK := hid hkb
  have c0 : W0.cell? ⟨w.heap.size, 0, none⟩ = some (.slice sa h.nodes.length sc) := cell_of h1
  have c1 : W0.cell? ⟨w.heap.size, 1, none⟩ = some (.int .i64 h.most) := cell_of h1
  clear hW0 hb0 hz0 h1 h2 hh0 hr hkb hs hi
  go_enter Try.func10, Try.ntmps10
  go_upto_region 1 with (fail)
  rw [HW.out]
  clear HW
  go_wp2_with fail
  refine HC.out.mono ?_
  rintro e w1 ⟨rfl, b1⟩
  have H1 := hid (And.intro ((b1.block _ (lt_of_some HI.out.2.2.2.2.1)).trans HI.out.2.2.2.2.1) (And.intro ((b1.block _ (lt_of_some HI.out.2.2.2.2.2)).trans HI.out.2.2.2.2.2) b1))
  clear c0 c1 b1 HC
  have fail_end : ∀ w' : World, Below W0.heap.size W0 w' → collH h roots = none → ∃ w'', w'' = (w'.setCell ⟨w.heap.size + 1, 0, none⟩ (.slice sa h.nodes.length sc)).setCell ⟨w.heap.size + 1, 1, none⟩ (.int .i64 h.most) ∧ Below w.heap.size w w'' ∧ w''.cell? ⟨w.heap.size + 1, 0, none⟩ = some (.slice sa h.nodes.length sc) ∧ w''.cell? ⟨w.heap.size + 1, 1, none⟩ = some (.int .i64 h.most) := fun w' hb _ => by
    have hh := (hb.block _ (lt_of_some HI.out.2.2.2.2.2)).trans HI.out.2.2.2.2.2
    have g := heap_set (i := 1) (v := .int .i64 h.most) (heap_set (i := 0) (v := .slice sa h.nodes.length sc) hh)
    refine ⟨_, rfl, ?_, cell_at g rfl, cell_at g rfl⟩
    have hz := HI.out.2.2.2.1
    exact ((HI.out.2.2.1.trans (hb.mono (by omega))).setCell (by simp) _).setCell (by simp) _
  have FE := hid fail_end
  clear fail_end
  have c0 : w1.cell? ⟨w.heap.size, 0, none⟩ = some (.slice sa h.nodes.length sc) := cell_of H1.out.1
  have c1 : w1.cell? ⟨w.heap.size, 1, none⟩ = some (.int .i64 h.most) := cell_of H1.out.1
  cases hc : chkH h
  · have hnone : collH h roots = none := by rw [collH, hc]; rfl
    have HN := hid hnone
    clear hnone
    have r0 : w1.cell? ⟨w.heap.size + 1, 0, none⟩ = some (.slice none 0 0) := cell_of H1.out.2.1
    have r1 : w1.cell? ⟨w.heap.size + 1, 1, none⟩ = some (.int .i64 0) := cell_of H1.out.2.1
    have rf : ∀ i, w1.frozen? ⟨w.heap.size + 1, i, none⟩ = false := fun i => free_of H1.out.2.1
    have hlt := lt_of_some H1.out.2.1
    go_wp2_with fail
    obtain ⟨w9, hw9, hb9, t0, t1⟩ := FE.out w1 H1.out.2.2 HN.out
    rw [← hw9]
    exact bodyPost_ret (v := .tuple #[.agg #[.slice sa h.nodes.length sc, .int .i64 h.most], .slice none 0 0, .int .i64 140]) (by simp [results, Try.results10, go_sem, t0, t1]) rfl (by rw [CollPost, HN.out]; exact ⟨rfl, hb9⟩)
  have HCh := hid hc
  have hmm := @run_makeMap Try.prog
  go_upto_region 4 with (fail)
  clear c0 c1 hmm hc
  obtain ⟨M, hM⟩ : ∃ z, w1.heap.size = z := ⟨_, rfl⟩
  obtain ⟨w3, hw3⟩ : ∃ z, (w1.alloc (Obj.map #[] 0)).alloc (Obj.cells #[.slice sa h.nodes.length sc, .int .i64 h.most, .slice none 0 0, .map (some w1.heap.size), .bool false] 45) = z := ⟨_, rfl⟩
  have hMW : W0.heap.size ≤ M := by rw [← hM]; exact H1.out.2.2.size
  have b13 : Below w1.heap.size w1 w3 := by rw [← hw3]; exact ((Below.refl _ _).alloc (Nat.le_refl _) _).alloc (by simp) _
  have b03 : Below W0.heap.size W0 w3 := H1.out.2.2.trans (b13.mono H1.out.2.2.size)
  have hBM : w3.heap[M + 1]? = some (Obj.cells #[.slice sa h.nodes.length sc, .int .i64 h.most, .slice none 0 0, .map (some M), .bool false] 45) := by rw [← hw3, ← hM]; exact heap_two _ _ _
  have hMM : w3.heap[M]? = some (.map #[] 0) := by rw [← hw3, ← hM]; exact heap_one _ _ _
  have hz3 : W0.heap.size ≤ w3.heap.size := b03.size
  have hbw3 := HI.out.2.2.1.trans (b03.mono HI.out.2.2.1.size)
  have M3 : Mv W0.heap.size w3 (M + 1) M sa sc h (.slice none 0 0) [] [] false (fun _ => False) :=
    ⟨hBM, OSl.nil _ _ _ _ _ _, (MapI.made w1).kept (by rw [hM, hMM, ← hM]; exact (World.alloc_heap_new _ _).symm) |> (fun h => hM ▸ h), (HVal.low HI.out.1).below hbw3 |>.keep0 (by have := HI.out.2.2.2.1; omega), fun _ h => h.elim, (fun h => by cases h), (fun h => by cases h), by omega, hMW⟩
  have HALL := hid (all_any W0.heap.size w3 (M + 1) M sa sc h (.slice none 0 0) lv [] [] false (fun _ => False) ok2 roots M3 (HI.out.2.1.below intGood hbw3) hrl hn HK.out (fit_nil _) rfl hz3)
  have H3 := hid (And.intro b03 (And.intro hMW (lt_of_some hBM)))
  rw [hw3, hM]
  clear hw3 hM b13 b03 hBM hMM hz3 hbw3 M3 hMW
  go_wp2_with fail
  refine HALL.out.mono ?_
  rintro e w4 ⟨tk, rov, rfl, hm4, hmo4, ho4, hd4⟩
  have L4 : Hid (Lp W0.heap.size W0 w4 (M + 1) M sa sc h roots rov 0 (addT h.nodes [] roots) (rawT h.nodes 0 (addT h.nodes [] roots)) tk (fails h.nodes roots)) := by
    rw [List.nil_append, Bool.false_or, List.length_nil] at hm4
    have hb3 := hmo4.bel
    have h3 := H3.out.1.size
    refine ⟨hm4.weak (fun b _ hb => ?_) (fun b hb => ⟨hb.2.1, hb.2.2.1⟩), ?_, hd4, H3.out.1.trans hb3, fit_addT _ (fit_nil _), by simp [rawT], Nat.zero_le _, fun hf => ⟨(doneT_zero _ _).symm, closed_zero _ _, List.prefix_refl _, hf, ?_⟩, fun hf => by rw [collS, hf]; rfl⟩
    · rcases hb with hb | hb
      · exact hb.1.elim
      · have hM3 : M + 1 < w3.heap.size := H3.out.2.2
        exact ⟨by omega, by omega, by omega, hb.2⟩
    · obtain ⟨rows, hr, hl, hown⟩ := ho4
      exact ⟨rows, hr, hl, by
        rcases hown with h | ⟨g, cap, cur, hv, hg, r⟩
        · exact .inl h
        · exact .inr ⟨g, cap, cur, hv, Nat.le_trans h3 hg, r⟩⟩
    · rw [collS, hf]; rfl
  clear hm4 hmo4 ho4 hd4 HALL
  go_wp2_with fail
  go_loopw [9] (fun i wr => ∃ (k : Nat) (S : List Int) (T : List Nd) (tk : Value) (bad : Bool), i = .int .i64 k ∧ Hid (Lp W0.heap.size W0 wr (M + 1) M sa sc h roots rov k S T tk bad)) (fun i _ => h.nodes.length + 1 - (intOf i).toNat)
  case atStart => exact ⟨0, _, _, tk, _, rfl, L4.out⟩
  case round =>
    obtain ⟨k, S, T, tk', bad, rfl, HL⟩ := hrel
    obtain ⟨wo, rfl⟩ : ∃ wo : World, wo = wr := ⟨_, rfl⟩
    clear L4 tk
    obtain ⟨ta, tc, htv⟩ := HL.out.mv.own.shape
    subst htv
    have HB := hid (And.intro ((HL.out.bel.block _ (lt_of_some HI.out.2.2.2.2.1)).trans HI.out.2.2.2.2.1) (And.intro ((HL.out.bel.block _ (lt_of_some HI.out.2.2.2.2.2)).trans HI.out.2.2.2.2.2) HL.out.bel))
    have hSl := fit_len HL.out.fit
    have hTl := HL.out.len
    have hTb : T.length ≤ 1000 := by omega
    have hkS := HL.out.le
    have hkb2 : k ≤ h.nodes.length := by omega
    have HTL := hid hTl
    clear hTl
    obtain ⟨_, _, m2, _, m4, _⟩ := mvc0 HL.out.mv
    cases bad with
    | true =>
      by_cases hlt : k < T.length
      · have c0 : wo.cell? ⟨w.heap.size, 0, none⟩ = some (.slice sa h.nodes.length sc) := cell_of HB.out.1
        have c1 : wo.cell? ⟨w.heap.size, 1, none⟩ = some (.int .i64 h.most) := cell_of HB.out.1
        have r0 : wo.cell? ⟨w.heap.size + 1, 0, none⟩ = some (.slice none 0 0) := cell_of HB.out.2.1
        have r1 : wo.cell? ⟨w.heap.size + 1, 1, none⟩ = some (.int .i64 0) := cell_of HB.out.2.1
        have rf : ∀ i, wo.frozen? ⟨w.heap.size + 1, i, none⟩ = false := fun i => free_of HB.out.2.1
        have hltr := lt_of_some HB.out.2.1
        have hnone : Hid (collH h roots = none) := by show collH h roots = none; rw [collH, HCh.out]; simp [HL.out.no rfl]
        go_wp2_with fail
        obtain ⟨w9, hw9, hb9, t0, t1⟩ := FE.out wo HL.out.bel hnone.out
        rw [← hw9]
        exact bodyPost_ret (v := .tuple #[.agg #[.slice sa h.nodes.length sc, .int .i64 h.most], .slice none 0 0, .int .i64 140]) (by simp [results, Try.results10, go_sem, t0, t1]) rfl (by rw [CollPost, hnone.out]; exact ⟨rfl, hb9⟩)
      · have c0 : wo.cell? ⟨w.heap.size, 0, none⟩ = some (.slice sa h.nodes.length sc) := cell_of HB.out.1
        have c1 : wo.cell? ⟨w.heap.size, 1, none⟩ = some (.int .i64 h.most) := cell_of HB.out.1
        have r0 : wo.cell? ⟨w.heap.size + 1, 0, none⟩ = some (.slice none 0 0) := cell_of HB.out.2.1
        have r1 : wo.cell? ⟨w.heap.size + 1, 1, none⟩ = some (.int .i64 0) := cell_of HB.out.2.1
        have rf : ∀ i, wo.frozen? ⟨w.heap.size + 1, i, none⟩ = false := fun i => free_of HB.out.2.1
        have hltr := lt_of_some HB.out.2.1
        have hnone : Hid (collH h roots = none) := by show collH h roots = none; rw [collH, HCh.out]; simp [HL.out.no rfl]
        go_wp2_with fail
        obtain ⟨w9, hw9, hb9, t0, t1⟩ := FE.out wo HL.out.bel hnone.out
        rw [← hw9]
        exact bodyPost_ret (v := .tuple #[.agg #[.slice sa h.nodes.length sc, .int .i64 h.most], .slice none 0 0, .int .i64 140]) (by simp [results, Try.results10, go_sem, t0, t1]) rfl (by rw [CollPost, hnone.out]; exact ⟨rfl, hb9⟩)
    | false =>
      by_cases hlt : k < T.length
      · obtain ⟨q, hq⟩ : ∃ q, S[k]? = some q := ⟨_, List.getElem?_eq_getElem (by have := HTL.out; omega)⟩
        have hx : T[k]? = some (nodeAt h.nodes q) := by rw [(HL.out.yes rfl).1]; exact doneT_get _ hq
        obtain ⟨tb, tc', ka, kc, hv, hcell, hisl⟩ := HL.out.mv.kids hx
        obtain ⟨rfl, rfl⟩ : ta = some ⟨tb, 0, none⟩ ∧ tc = tc' := by cases hv; exact ⟨rfl, rfl⟩
        have hqm : nodeAt h.nodes q ∈ h.nodes := List.mem_of_getElem? (res_some (HL.out.fit.2 q (List.mem_of_getElem? hq))).2.2.2.2.2
        have hbw : W0.heap.size ≤ wo.heap.size := HL.out.bel.size
        have HALL := hid (all_any W0.heap.size wo (M + 1) M sa sc h _ (.slice ka (nodeAt h.nodes q).kids.length kc) S T false _ _ (nodeAt h.nodes q).kids HL.out.mv hisl (HK.out _ hqm) hn HK.out HL.out.fit HTL.out hbw)
        have HQ := hid (And.intro hq hbw)
        clear hq hx hv hisl hqm hbw
        go_wp2_with fail
        refine HALL.out.mono ?_
        rintro e w5 ⟨t5, ov, rfl, hm5, hmo5, ho5, hd5⟩
        obtain ⟨tb5, tc5, htv, hc5, hl5, hf5, ⟨u0, hu5⟩, hL5⟩ := HL.out.next HQ.out.1 hm5 hmo5 ho5 hd5 HQ.out.2
        subst htv
        obtain ⟨n5, hn5⟩ : ∃ n, n = (T ++ rawT h.nodes S.length (addT h.nodes S (nodeAt h.nodes q).kids)).length := ⟨_, rfl⟩
        have hn5b : n5 ≤ 1000 := by
          have h1 := fit_len (fit_addT (nodeAt h.nodes q).kids HL.out.fit)
          have h2 := (addT_prefix h.nodes (nodeAt h.nodes q).kids S).length_le
          have h3 := HTL.out
          rw [hn5]; simp [rawT]; omega
        rw [← hn5] at hc5 hl5
        have HL5 := hid hL5
        obtain ⟨oa, oc, hov⟩ := ho5.shape
        obtain ⟨on, hon⟩ : ∃ n, n = (outOf h.nodes (addT h.nodes S (nodeAt h.nodes q).kids) (nodeAt h.nodes q).kids).length := ⟨_, rfl⟩
        rw [← hon] at hov
        subst hov
        clear hon
        clear hm5 hmo5 ho5 hd5 hL5 hn5 HALL m2 m4 hcell HB
        go_wp2_with fail
        go_roundw
        case rel => exact ⟨k + 1, _, _, _, _, by go_num, HL5.out⟩
        case measure => simp [intOf]; omega
      · go_upto_region 12 with (fail)
        clear m2 m4
        refine (wpIn_wide (n := 9)).1 ?_
        refine wpIn_region_held (fun W => W.heap[M + 1]? = some (.cells #[.slice sa h.nodes.length sc, .int .i64 h.most, .slice ta T.length tc, .map (some M), .bool false] 45) ∧ W.heap[w.heap.size]? = some (.cells #[.slice sa h.nodes.length sc, .int .i64 h.most] 24)) (by kernel_rfl) ?_
        obtain ⟨w5, hw5⟩ : ∃ z, wo.drew = z := ⟨_, rfl⟩
        have b5 : Below wo.heap.size wo w5 := by rw [← hw5]; exact (Below.refl _ _).drew
        rw [hw5]
        clear hw5
        have h5B := (b5.block _ (lt_of_some HL.out.mv.box)).trans HL.out.mv.box
        have h5H := (b5.block _ (lt_of_some HB.out.1)).trans HB.out.1
        have h5R := (b5.block _ (lt_of_some HB.out.2.1)).trans HB.out.2.1
        have S5 := And.intro h5B h5H
        have r0 : w5.cell? ⟨w.heap.size + 1, 0, none⟩ = some (.slice none 0 0) := cell_of h5R
        have r1 : w5.cell? ⟨w.heap.size + 1, 1, none⟩ = some (.int .i64 0) := cell_of h5R
        have rf : ∀ i, w5.frozen? ⟨w.heap.size + 1, i, none⟩ = false := fun i => free_of h5R
        have hz := HI.out.2.2.2.1
        have hMz := H3.out.2.1
        obtain ⟨w6, hw6⟩ : ∃ z, (w5.setCell ⟨w.heap.size + 1, 0, none⟩ (.slice ta T.length tc)).setCell ⟨w.heap.size + 1, 1, none⟩ (.int .i64 h.most) = z := ⟨_, rfl⟩
        have S6 : w6.heap[M + 1]? = some (.cells #[.slice sa h.nodes.length sc, .int .i64 h.most, .slice ta T.length tc, .map (some M), .bool false] 45) ∧ w6.heap[w.heap.size]? = some (.cells #[.slice sa h.nodes.length sc, .int .i64 h.most] 24) := by
          rw [← hw6]; exact ⟨heap_far (heap_far h5B (by simp; omega)) (by simp; omega), heap_far (heap_far h5H (by simp)) (by simp)⟩
        refine wpAnyHF_takeD (i := 0) 61 (v := .pointer (some ⟨M + 1, 0, none⟩)) rfl rfl rfl (by kernel_rfl) (by kernel_rfl) (by kernel_rfl) (fun _ _ _ h => h) ⟨.inl ⟨rfl, fun W hW => by simp [execOp, go_sem]⟩, fun W => rfl⟩ S5 ?_
        refine wpAnyHF_takeD (i := 1) 62 (v := .pointer (some ⟨M + 1, 0, none⟩)) rfl rfl rfl (by kernel_rfl) (by kernel_rfl) (by kernel_rfl) (fun _ _ _ h => h) ⟨.inl ⟨rfl, fun W hW => by simp [execOp, go_sem]⟩, fun W => rfl⟩ S5 ?_
        refine wpAnyHF_takeD (i := 2) 63 (v := .pointer (some ⟨M + 1, 2, none⟩)) rfl rfl rfl (by kernel_rfl) (by kernel_rfl) (by kernel_rfl) (fun _ _ _ h => h) ⟨.inl ⟨rfl, fun W hW => by simp [execOp, go_sem]⟩, fun W => rfl⟩ S5 ?_
        simp only [Act.put, List.setIfInBounds_toArray, List.set_cons_zero, List.set_cons_succ]
        refine wpAnyHF_takeD (i := 3) 64 (v := .slice ta T.length tc) rfl rfl rfl (by kernel_rfl) (by kernel_rfl) (by kernel_rfl) (fun _ _ _ h => h) ⟨.inl ⟨rfl, fun W hW => by have m0 := cell_at (i := 2) (v := .slice ta T.length tc) hW.1 rfl; simp [execOp, go_sem, m0]⟩, fun W => rfl⟩ S5 ?_
        refine wpAnyHF_takeD (i := 4) 65 (v := .pointer (some ⟨w.heap.size, 1, none⟩)) rfl rfl rfl (by kernel_rfl) (by kernel_rfl) (by kernel_rfl) (fun _ _ _ h => h) ⟨.inl ⟨rfl, fun W hW => by simp [execOp, go_sem]⟩, fun W => rfl⟩ S5 ?_
        refine wpAnyHF_takeD (i := 5) 66 (v := .int .i64 h.most) rfl rfl rfl (by kernel_rfl) (by kernel_rfl) (by kernel_rfl) (fun _ _ _ h => h) ⟨.inl ⟨rfl, fun W hW => by have m0 := cell_at (i := 1) (v := .int .i64 h.most) hW.2 rfl; simp [execOp, go_sem, m0]⟩, fun W => rfl⟩ S5 ?_
        simp only [Act.put, List.setIfInBounds_toArray, List.set_cons_zero, List.set_cons_succ]
        refine wpAnyHF_takeD (i := 6) 67 (v := .agg #[.slice ta T.length tc, .int .i64 h.most]) rfl rfl rfl (by kernel_rfl) (by kernel_rfl) (by kernel_rfl) (fun _ _ _ h => h) ⟨.inl ⟨rfl, fun W hW => by simp [execOp, go_sem]⟩, fun W => rfl⟩ S5 ?_
        refine wpAnyHF_takeD (i := 7) 68 (v := rov) rfl rfl rfl (by kernel_rfl) (by kernel_rfl) (by kernel_rfl) (fun _ _ _ h => h) ⟨.inl ⟨rfl, fun W hW => by simp [execOp, go_sem]⟩, fun W => rfl⟩ S5 ?_
        simp only [Act.put, List.setIfInBounds_toArray, List.set_cons_zero, List.set_cons_succ]
        refine wpAnyHF_one (i := 8) (by kernel_rfl) rfl rfl ?_
        refine wpIn_skip rfl (w' := w6) (by simp [execOp, go_sem, r0, r1, rf, hw6]) ⟨S6, ?_⟩
        refine wpAnyHF_takeD (i := 9) 5 (v := rov) rfl rfl rfl (by kernel_rfl) (by kernel_rfl) (by kernel_rfl) (fun _ _ _ h => h) ⟨.inl ⟨rfl, fun W hW => by simp [execOp, go_sem]⟩, fun W => rfl⟩ S6 ?_
        refine wpAnyHF_takeD (i := 10) 6 (v := .int .i64 0) rfl rfl rfl (by kernel_rfl) (by kernel_rfl) (by kernel_rfl) (fun _ _ _ h => h) ⟨.inl ⟨rfl, fun W hW => by simp [execOp, go_sem]⟩, fun W => rfl⟩ S6 ?_
        simp only [Act.put, List.setIfInBounds_toArray, List.set_cons_zero, List.set_cons_succ]
        refine wpAnyHF_done (by kernel_rfl) ?_ _
        have g := heap_set (i := 1) (v := .int .i64 h.most) (heap_set (i := 0) (v := .slice ta T.length tc) h5R)
        rw [hw6] at g
        have t0 := cell_at (i := 0) (v := .slice ta T.length tc) g rfl
        have t1 := cell_at (i := 1) (v := .int .i64 h.most) g rfl
        obtain ⟨hcs, hTm, hout⟩ := HL.out.stop (by have := HTL.out; omega)
        have b6 : Below w.heap.size w w6 := by
          rw [← hw6]; exact ((HI.out.2.2.1.trans ((HL.out.bel.trans (b5.mono HL.out.bel.size)).mono (by omega))).setCell (by simp) _).setCell (by simp) _
        have FINAL : Hid (CollPost w h roots (.agg #[.slice sa h.nodes.length sc, .int .i64 h.most]) (.returned (.tuple #[.agg #[.slice ta T.length tc, .int .i64 h.most], rov, .int .i64 0])) w6) := by
          have hcol : collH h roots = some (⟨S.map (moved h.nodes S), h.most⟩, outOf h.nodes S roots) := by rw [collH, HCh.out, hcs]; rfl
          show CollPost _ _ _ _ _ _
          rw [CollPost, hcol]
          have hl : (S.map (moved h.nodes S)).length = T.length := by rw [hTm]
          have hsame : ∀ ok' : Nat → Prop, ¬ ok' (w.heap.size + 1) → Same ok' wo w6 := fun ok' hok => by
            rw [← hw6]; exact ((Same.of_below b5).setCell (a := ⟨w.heap.size + 1, 0, none⟩) _ hok).setCell (a := ⟨w.heap.size + 1, 1, none⟩) _ hok
          refine ⟨ta, tc, rov, by rw [hl], ⟨ta, tc, rfl, by obtain ⟨_, _, _, hi, _⟩ := HI.out.1; exact hi, ?_⟩, ?_, b6⟩
          · have hv := HL.out.mv.own.rsl nodeGood (fun b => W0.heap.size ≤ b) (fun b _ hb => hb) (fun b _ hb => hb.1)
            rw [hTm] at hv
            exact (RSl.keep nodeGood hv (hsame _ (by omega))).weak nodeGood (by decide) (fun b _ hb => by omega)
          · have hv := HL.out.out.rsl intGood (fun b => W0.heap.size ≤ b) (fun b _ hb => hb) (fun b _ hb => hb.elim)
            rw [hout] at hv
            exact (RSl.keep intGood hv (hsame _ (by omega))).weak intGood (by decide) (fun b _ hb => by omega)
        clear g hw6 b6 hcs hTm hout S5 S6 r0 r1 rf h5B h5H h5R b5
        gi_wp2
        go_wp2_with fail
        exact bodyPost_ret (v := .tuple #[.agg #[.slice ta T.length tc, .int .i64 h.most], rov, .int .i64 0]) (by simp [results, Try.results10, go_sem, t0, t1]) rfl FINAL.out
end Go.Proofs.Ytajhchfjoeblgaa
