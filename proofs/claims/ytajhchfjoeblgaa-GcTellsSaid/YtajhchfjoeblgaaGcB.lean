/- gc.move: what it does to the mover. -/
import Derived.Test.YtajhchfjoeblgaaGcC
import Derived.Test.YtajhchfjoeblgaaOwnSet
import Derived.Test.YtajhchfjoeblgaaCopy
import Derived.Test.YtajhchfjoeblgaaHeapH
import Derived.Test.YtajhchfjoeblgaaHeldC
namespace Go.Proofs.Ytajhchfjoeblgaa
open Go.RowKit Go.Shelf
open Go.ChangeMaps (setBlock)
attribute [local go_sem] Oper.semAt_some
theorem info_nd : (Try.prog.info? 37).map (fun i => (i.zero, i.size, i.bytes)) = some (some (.agg #[.int .i64 0, .int .i64 0, .string ⟨#[]⟩, .slice none 0 0]), 4, 56) := by kernel_rfl
/-- The mover in its box. -/
structure Mv (base : Nat) (w : World) (B M : Nat) (sa : Option Addr) (sc : Nat) (h : Hp) (tv : Value) (S : List Int) (T : List Nd) (bad : Bool) (ok : Nat → Prop) : Prop where
  box : w.heap[B]? = some (.cells #[.slice sa h.nodes.length sc, .int .i64 h.most, tv, .map (some M), .bool bad] 45)
  own : OSl NodeE 4 37 base w ok tv T
  map : MapI w M S.length S
  hv : HVal w (fun b => b < base) (.agg #[.slice sa h.nodes.length sc, .int .i64 h.most]) h
  ne : ∀ b, ok b → b ≠ B ∧ b ≠ M
  tvB : tv.ownBlock ≠ some B
  tvM : tv.ownBlock ≠ some M
  bB : base ≤ B
  bM : base ≤ M
/-- What a call on the mover leaves as it was. -/
structure Mo (base B M : Nat) (w w' : World) (tv tv' : Value) : Prop where
  bel : Below base w w'
  fr : ∀ b, b < w.heap.size → b ≠ B → b ≠ M → some b ≠ tv.ownBlock → w'.heap[b]? = w.heap[b]?
  tv : tv'.ownBlock = tv.ownBlock ∨ ∃ b, tv'.ownBlock = some b ∧ w.heap.size ≤ b
theorem Mo.trans {base B M : Nat} {a b c : World} {t u v : Value} (h : Mo base B M a b t u) (k : Mo base B M b c u v) : Mo base B M a c t v := by
  refine ⟨h.bel.trans k.bel, fun i h1 h2 h3 h4 => ?_, ?_⟩
  · rw [k.fr i (Nat.lt_of_lt_of_le h1 h.bel.size) h2 h3 (fun e => by
      rcases h.tv with h' | ⟨j, h', hj⟩
      · exact h4 (h' ▸ e)
      · rw [h'] at e; cases e; omega)]
    exact h.fr i h1 h2 h3 h4
  · rcases k.tv with k' | ⟨j, k', hj⟩
    · rw [k']; exact h.tv
    · exact .inr ⟨j, k', Nat.le_trans h.bel.size hj⟩
theorem Mv.later {base : Nat} {w w' : World} {B M : Nat} {sa : Option Addr} {sc : Nat} {h : Hp} {tv : Value} {S : List Int} {T : List Nd} {bad : Bool} {ok : Nat → Prop} (m : Mv base w B M sa sc h tv S T bad ok) (hb : Below w.heap.size w w') : Mv base w' B M sa sc h tv S T bad ok :=
  ⟨(hb.block _ (lt_of_some m.box)).trans m.box, m.own.below nodeGood hb, m.map.below hb, m.hv.below hb, m.ne, m.tvB, m.tvM, m.bB, m.bM⟩
theorem Mv.weak {base : Nat} {w : World} {B M : Nat} {sa : Option Addr} {sc : Nat} {h : Hp} {tv : Value} {S : List Int} {T : List Nd} {bad : Bool} {ok ok' : Nat → Prop} (m : Mv base w B M sa sc h tv S T bad ok) (h1 : ∀ b, b < w.heap.size → ok b → ok' b) (h2 : ∀ b, ok' b → b ≠ B ∧ b ≠ M) : Mv base w B M sa sc h tv S T bad ok' :=
  ⟨m.box, m.own.weak nodeGood h1, m.map, m.hv, h2, m.tvB, m.tvM, m.bB, m.bM⟩
theorem mvc0 {base : Nat} {w : World} {B M : Nat} {sa : Option Addr} {sc : Nat} {h : Hp} {tv : Value} {S : List Int} {T : List Nd} {bad : Bool} {ok : Nat → Prop} (m : Mv base w B M sa sc h tv S T bad ok) :
    w.cell? ⟨B, 0, none⟩ = some (.slice sa h.nodes.length sc) ∧ w.cell? ⟨B, 1, none⟩ = some (.int .i64 h.most) ∧ w.cell? ⟨B, 2, none⟩ = some tv ∧ w.cell? ⟨B, 3, none⟩ = some (.map (some M)) ∧ w.cell? ⟨B, 4, none⟩ = some (.bool bad) ∧ ∀ i, w.frozen? ⟨B, i, none⟩ = false :=
  ⟨cell_of m.box, cell_of m.box, cell_of m.box, cell_of m.box, cell_of m.box, fun i => free_of m.box⟩
theorem HVal.keep {w w' : World} {ok : Nat → Prop} {v : Value} {h : Hp} (hv : HVal w ok v h) (hs : Same ok w w') : HVal w' ok v h := by
  obtain ⟨sa, sc, e, i, s⟩ := hv; exact ⟨sa, sc, e, i, RSl.keep nodeGood s hs⟩
theorem Mv.BM {base : Nat} {w : World} {B M : Nat} {sa : Option Addr} {sc : Nat} {h : Hp} {tv : Value} {S : List Int} {T : List Nd} {bad : Bool} {ok : Nat → Prop} (m : Mv base w B M sa sc h tv S T bad ok) : B ≠ M := fun e => by
  obtain ⟨es, c, hM⟩ := m.map.isMap
  have := m.box
  rw [e, hM] at this; cases this
theorem Mv.setBad {base : Nat} {w : World} {B M : Nat} {sa : Option Addr} {sc : Nat} {h : Hp} {tv : Value} {S : List Int} {T : List Nd} {bad : Bool} {ok : Nat → Prop} (m : Mv base w B M sa sc h tv S T bad ok) :
    Mv base (w.setCell ⟨B, 4, none⟩ (.bool true)) B M sa sc h tv S T true ok := by
  refine ⟨heap_set (i := 4) (v := .bool true) m.box, m.own.keep nodeGood ((Same.refl _ _).setCell (a := ⟨B, 4, none⟩) _ ?_), m.map.kept (Below.heap_setCell _ _ _ _ (fun e => m.BM e.symm)), m.hv.keep ((Same.refl _ _).setCell (a := ⟨B, 4, none⟩) _ (by have := m.bB; simp; omega)), m.ne, m.tvB, m.tvM, m.bB, m.bM⟩
  rintro (h | h)
  · exact (m.ne _ h).1 rfl
  · exact m.tvB h.symm
theorem Mo.refl {base B M : Nat} {w w' : World} {tv : Value} (hb : Below w.heap.size w w') (h : base ≤ w.heap.size) : Mo base B M w w' tv tv := ⟨hb.mono h, fun b hb' _ _ _ => hb.block b hb', .inl rfl⟩
theorem Mo.setB {base B M : Nat} {w w' : World} {tv tv' : Value} (h : Mo base B M w w' tv tv') (hB : base ≤ B) (i : Nat) (v : Value) : Mo base B M w (w'.setCell ⟨B, i, none⟩ v) tv tv' :=
  ⟨h.bel.setCell hB _, fun b h1 h2 h3 h4 => by rw [Below.heap_setCell _ _ _ _ h2]; exact h.fr b h1 h2 h3 h4, h.tv⟩
theorem mv_none {ns : List Nd} {S : List Int} {T : List Nd} {p : Int} (h : res ns p = none) : mvS ns S p = S ∧ mvT ns S T p = T ∧ mvP ns S p = 0 := by
  simp [mvS, mvT, mvP, h]
theorem mv_old {ns : List Nd} {S : List Int} {T : List Nd} {p q : Int} (h : res ns p = some q) (hq : S.contains q = true) : mvS ns S p = S ∧ mvT ns S T p = T ∧ mvP ns S p = pl S q := by
  have hq' : q ∈ S := by simpa using hq
  simp [mvS, mvT, mvP, h, push, hq']
theorem mv_new {ns : List Nd} {S : List Int} {T : List Nd} {p q : Int} (h : res ns p = some q) (hq : S.contains q = false) : mvS ns S p = S ++ [q] ∧ mvT ns S T p = T ++ [nodeAt ns q] ∧ mvP ns S p = S.length := by
  have hq' : q ∉ S := by simpa using hq
  simp [mvS, mvT, mvP, h, push, hq, hq', pl_last hq']
theorem OSl.shape {α : Type} {R : Enc α} {size : Nat} {e : TypeId} {base : Nat} {w : World} {ok : Nat → Prop} {v : Value} {xs : List α} (h : OSl R size e base w ok v xs) : ∃ a c, v = .slice a xs.length c := by
  obtain ⟨rows, _, hl, hown⟩ := h
  rcases hown with ⟨rfl, h0⟩ | ⟨b, cap, cur, rfl, _⟩
  · exact ⟨none, 0, by rw [h0]⟩
  · exact ⟨_, _, rfl⟩
theorem below_setMap {base : Nat} {w w' : World} {M : Nat} (h : Below base w w') (hM : base ≤ M) (o : Obj) : Below base w (setBlock w' M o) :=
  ⟨h.os, h.tape, h.output, by simpa [setBlock] using h.size, fun k hk => by
    rw [← h.block k hk]; simp only [setBlock, Array.getElem?_setIfInBounds]; rw [if_neg (by omega)]⟩
theorem setMap_other {w : World} {M b : Nat} (hb : b ≠ M) (o : Obj) : (setBlock w M o).heap[b]? = w.heap[b]? := by
  simp only [setBlock, Array.getElem?_setIfInBounds]; rw [if_neg (fun e => hb e.symm)]
theorem Same.setMap {ok : Nat → Prop} {w w' : World} {M : Nat} (h : Same ok w w') (hM : ¬ ok M) (o : Obj) : Same ok w (setBlock w' M o) := fun b c e fr hb hc => by
  rw [setMap_other (b := b) (M := M) (fun e' => hM (by rw [← e']; exact hb))]; exact h b c e fr hb hc
theorem Same.trans {ok : Nat → Prop} {a b c : World} (h : Same ok a b) (k : Same ok b c) : Same ok a c := fun i x e fr hi hx => k i x e fr hi (h i x e fr hi hx)
def MovePost (base : Nat) (w : World) (B M : Nat) (sa : Option Addr) (sc : Nat) (h : Hp) (tv : Value) (S : List Int) (T : List Nd) (bad : Bool) (ok : Nat → Prop) (old : Int) (e : Ending) (w' : World) : Prop :=
  ∃ tv', e = .returned (.int .i64 (mvP h.nodes S old)) ∧ Mv base w' B M sa sc h tv' (mvS h.nodes S old) (mvT h.nodes S T old) (bad || (res h.nodes old).isNone) (fun b => ok b ∧ b < w.heap.size ∨ w.heap.size ≤ b) ∧ Mo base B M w w' tv tv'
set_option maxHeartbeats 4000000 in
theorem move_any (base : Nat) (w : World) (B M : Nat) (sa : Option Addr) (sc : Nat) (h : Hp) (tv : Value) (S : List Int) (T : List Nd) (bad : Bool) (ok : Nat → Prop) (old : Int)
    (hm : Mv base w B M sa sc h tv S T bad ok) (ho : In old) (hn : h.nodes.length ≤ 1000) (hkb : ∀ x ∈ h.nodes, x.kids.length ≤ 1000) (hF : Fit h.nodes S) (hT : T.length = S.length) (hbase : base ≤ w.heap.size) :
    Calls Try.prog 28 #[.pointer (some ⟨B, 0, none⟩), .int .i64 old] w (MovePost base w B M sa sc h tv S T bad ok old) := by
  have HA := hid (at_fresh w _ _ h old hm.hv ho (by omega) (fun x hx => by have := hkb x hx; omega))
  have HM := hid hm
  obtain ⟨c0, c1, c2, c3, c4, cf⟩ := mvc0 hm
  have hlS := fit_len hF
  have hlT : T.length ≤ h.nodes.length := by omega
  have HT := hid hT
  have HF := hid hF
  have HK := hid hkb
  clear hm hF hkb hT
  go_enter Try.func28, Try.ntmps28
  go_wp2_with fail
  refine HA.out.mono ?_
  intro e w2 hpost
  clear c0 c1 c2 c3 c4 cf HA
  cases hat : atN h.nodes old with
  | none =>
    rw [hat] at hpost
    obtain ⟨rfl, b2⟩ := hpost
    go_upto_region 2 with (fail)
    have hres : res h.nodes old = none := by rw [res, hat]; rfl
    obtain ⟨w3, hw3⟩ : ∃ z, w2.alloc (Obj.cells #[.int .i64 0, .int .i64 0, .string ⟨#[]⟩, .slice none 0 0] 37) = z := ⟨_, rfl⟩
    have b3 : Below w.heap.size w w3 := by rw [← hw3]; exact b2.alloc b2.size _
    have M3 := hid (HM.out.later b3)
    rw [hw3]
    have B3 := hid b3
    obtain ⟨c0, c1, c2, c3, c4, cf⟩ := mvc0 M3.out
    clear hw3 b2 b3
    go_wp2_with fail
    go_ret
    obtain ⟨e1, e2, e3⟩ := mv_none (S := S) (T := T) hres
    refine ⟨tv, by rw [e3]; rfl, ?_, (Mo.refl B3.out hbase).setB HM.out.bB _ _⟩
    rw [e1, e2, hres, Option.isNone_none, Bool.or_true]
    exact M3.out.setBad.weak (fun b _ h => by by_cases hb : b < w.heap.size; exact .inl ⟨h, hb⟩; exact .inr (by omega)) (fun b h => by
      have hB := lt_of_some HM.out.box
      have hM := HM.out.map.lt
      rcases h with h | h
      · exact HM.out.ne b h.1
      · exact ⟨by omega, by omega⟩)
  | some r =>
    obtain ⟨x, q⟩ := r
    have hres : res h.nodes old = some q := by rw [res, hat]; rfl
    obtain ⟨hq1, hq2, hq3, hat', _, _⟩ := res_some hres
    have hx : nodeAt h.nodes q = x := by rw [hat] at hat'; injection hat' with e; exact (Prod.mk.inj e).1.symm
    rw [hat] at hpost
    obtain ⟨v2, rfl, ⟨sx, cx, rfl, hxk, hxn, hxs⟩, b2⟩ := hpost
    go_upto_region 2 with (fail)
    obtain ⟨w3, hw3⟩ : ∃ z, w2.alloc (Obj.cells #[.int .i64 x.kind, .int .i64 x.num, .string x.name, .slice sx x.kids.length cx] 37) = z := ⟨_, rfl⟩
    obtain ⟨N, hN⟩ : ∃ z, w2.heap.size = z := ⟨_, rfl⟩
    have b23 : Below w2.heap.size w2 w3 := by rw [← hw3]; exact (Below.refl _ _).alloc (Nat.le_refl _) _
    have b3 : Below w.heap.size w w3 := b2.trans (b23.mono b2.size)
    have hNw : w.heap.size ≤ N := by rw [← hN]; exact b2.size
    have hN3 : w3.heap[N]? = some (Obj.cells #[.int .i64 x.kind, .int .i64 x.num, .string x.name, .slice sx x.kids.length cx] 37) := by rw [← hw3, ← hN]; exact World.alloc_heap_new _ _
    have M3 := hid (HM.out.later b3)
    have hxs3 := hxs.below intGood b23
    rw [hw3, hN]
    have X3 := hid (And.intro hxk (And.intro hxn (And.intro hxs3 (And.intro hx (And.intro hat (And.intro hres b3))))))
    clear hw3 hN b2 b23 b3 hxk hxn hxs hxs3 hx hat hat' hres hq1
    have hqI : In q := ⟨by omega, by omega⟩
    have hlook := M3.out.map.look hqI
    obtain ⟨ta, tc, htv⟩ := M3.out.own.shape
    subst htv
    obtain ⟨c0, c1, c2, c3, c4, cf⟩ := mvc0 M3.out
    cases hc : S.contains q
    · rw [hc] at hlook
      simp only [Bool.false_eq_true, if_false] at hlook
      go_upto_region 8 with (fail)
      clear hlook c0 c1 c4
      refine (wpIn_wide (n := 9)).1 ?_
      refine wpIn_region_held (fun W => W.heap[N]? = some (Obj.cells #[.int .i64 x.kind, .int .i64 x.num, .string x.name, .slice sx x.kids.length cx] 37) ∧ W.cell? ⟨B, 3, none⟩ = some (.map (some M))) (by kernel_rfl) ?_
      obtain ⟨w4, hw4⟩ : ∃ z, w3.drew = z := ⟨_, rfl⟩
      have b34 : Below w3.heap.size w3 w4 := by rw [← hw4]; exact (Below.refl _ _).drew
      have M4 := hid (M3.out.later b34)
      have S4 := And.intro ((b34.block _ (lt_of_some hN3)).trans hN3) ((b34.cell (p := ⟨B, 3, none⟩) (lt_of_some M3.out.box)).trans c3)
      have t4 : w4.cell? ⟨B, 2, none⟩ = some (.slice ta T.length tc) := (mvc0 M4.out).2.2.1
      have X4 := hid (And.intro (X3.out.2.2.1.below intGood b34) (X3.out.2.2.2.2.2.2.trans (b34.mono X3.out.2.2.2.2.2.2.size)))
      rw [hw4]
      clear hw4 c2 c3 cf hN3 b34
      refine wpAnyHF_takeD (i := 0) 41 (v := .pointer (some ⟨B, 0, none⟩)) rfl rfl rfl (by kernel_rfl) (by kernel_rfl) (by kernel_rfl) (fun _ _ _ h => h) ⟨.inl ⟨rfl, fun W hW => by simp [execOp, go_sem]⟩, fun W => rfl⟩ S4 ?_
      refine wpAnyHF_takeD (i := 1) 42 (v := .pointer (some ⟨B, 0, none⟩)) rfl rfl rfl (by kernel_rfl) (by kernel_rfl) (by kernel_rfl) (fun _ _ _ h => h) ⟨.inl ⟨rfl, fun W hW => by simp [execOp, go_sem]⟩, fun W => rfl⟩ S4 ?_
      refine wpAnyHF_takeD (i := 2) 43 (v := .pointer (some ⟨B, 0, none⟩)) rfl rfl rfl (by kernel_rfl) (by kernel_rfl) (by kernel_rfl) (fun _ _ _ h => h) ⟨.inl ⟨rfl, fun W hW => by simp [execOp, go_sem]⟩, fun W => rfl⟩ S4 ?_
      refine wpAnyHF_takeD (i := 3) 44 (v := .pointer (some ⟨B, 3, none⟩)) rfl rfl rfl (by kernel_rfl) (by kernel_rfl) (by kernel_rfl) (fun _ _ _ h => h) ⟨.inl ⟨rfl, fun W hW => by simp [execOp, go_sem]⟩, fun W => rfl⟩ S4 ?_
      simp only [Act.put, List.setIfInBounds_toArray, List.set_cons_zero, List.set_cons_succ]
      refine wpAnyHF_takeD (i := 4) 45 (v := .map (some M)) rfl rfl rfl (by kernel_rfl) (by kernel_rfl) (by kernel_rfl) (fun _ _ _ h => h) ⟨.inl ⟨rfl, fun W hW => by simp [execOp, go_sem, hW.2]⟩, fun W => rfl⟩ S4 ?_
      refine wpAnyHF_takeD (i := 5) 46 (v := .int .i64 q) rfl rfl rfl (by kernel_rfl) (by kernel_rfl) (by kernel_rfl) (fun _ _ _ h => h) ⟨.inl ⟨rfl, fun W hW => by simp [execOp, go_sem]⟩, fun W => rfl⟩ S4 ?_
      refine wpAnyHF_takeD (i := 6) 47 (v := .pointer (some ⟨B, 0, none⟩)) rfl rfl rfl (by kernel_rfl) (by kernel_rfl) (by kernel_rfl) (fun _ _ _ h => h) ⟨.inl ⟨rfl, fun W hW => by simp [execOp, go_sem]⟩, fun W => rfl⟩ S4 ?_
      simp only [Act.put, List.setIfInBounds_toArray, List.set_cons_zero, List.set_cons_succ]
      refine wpAnyHF_takeD (i := 7) 48 (v := .pointer (some ⟨B, 0, none⟩)) rfl rfl rfl (by kernel_rfl) (by kernel_rfl) (by kernel_rfl) (fun _ _ _ h => h) ⟨.inl ⟨rfl, fun W hW => by simp [execOp, go_sem]⟩, fun W => rfl⟩ S4 ?_
      refine wpAnyHF_takeD (i := 8) 49 (v := .pointer (some ⟨B, 2, none⟩)) rfl rfl rfl (by kernel_rfl) (by kernel_rfl) (by kernel_rfl) (fun _ _ _ h => h) ⟨.inl ⟨rfl, fun W hW => by simp [execOp, go_sem]⟩, fun W => rfl⟩ S4 ?_
      refine wpAnyHF_takeD (i := 10) 51 (v := .agg #[.int .i64 x.kind, .int .i64 x.num, .string x.name, .slice sx x.kids.length cx]) rfl rfl rfl (by kernel_rfl) (by kernel_rfl) (by kernel_rfl) (fun _ _ _ h => h) ⟨.inl ⟨rfl, fun W hW => by have m0 := cell_at (i := 0) (v := .int .i64 x.kind) hW.1 rfl; have m1 := cell_at (i := 1) (v := .int .i64 x.num) hW.1 rfl; have m2 := cell_at (i := 2) (v := .string x.name) hW.1 rfl; have m3 := cell_at (i := 3) (v := .slice sx x.kids.length cx) hW.1 rfl; simp [execOp, go_sem, m0, m1, m2, m3]⟩, fun W => rfl⟩ S4 ?_
      simp only [Act.put, List.setIfInBounds_toArray, List.set_cons_zero, List.set_cons_succ]
      refine wpAnyHF_takeD (i := 13) 54 (v := .int .i64 T.length) rfl rfl rfl (by kernel_rfl) (by kernel_rfl) (by kernel_rfl) (fun _ _ _ h => h) ⟨.inl ⟨rfl, fun W hW => by simp [execOp, go_sem]⟩, fun W => rfl⟩ S4 ?_
      simp only [Act.put, List.setIfInBounds_toArray, List.set_cons_zero, List.set_cons_succ]
      obtain ⟨w5, hw5⟩ : ∃ z, w4.alloc (Obj.cells #[.int .i64 x.kind, .int .i64 x.num, .string x.name, .slice sx x.kids.length cx] 37) = z := ⟨_, rfl⟩
      obtain ⟨K, hK⟩ : ∃ z, w4.heap.size = z := ⟨_, rfl⟩
      have b45 : Below w4.heap.size w4 w5 := by rw [← hw5]; exact (Below.refl _ _).alloc (Nat.le_refl _) _
      have hK5 : w5.heap[K]? = some (Obj.cells #[.int .i64 x.kind, .int .i64 x.num, .string x.name, .slice sx x.kids.length cx] 37) := by rw [← hw5, ← hK]; exact World.alloc_heap_new _ _
      have M5 := hid (M4.out.later b45)
      have S5 := And.intro ((b45.block _ (lt_of_some S4.1)).trans S4.1) ((b45.cell (p := ⟨B, 3, none⟩) (lt_of_some M4.out.box)).trans S4.2)
      have t5 : w5.cell? ⟨B, 2, none⟩ = some (.slice ta T.length tc) := (mvc0 M5.out).2.2.1
      have b5 := X4.out.2.trans (b45.mono X4.out.2.size)
      have hlt : ∀ b, (Value.slice ta T.length tc).ownBlock = some b → b < w.heap.size := fun b hb => by obtain ⟨_, c, hc⟩ := HM.out.own.lt b hb; exact lt_of_some hc
      have hBw := lt_of_some HM.out.box
      have hMw := HM.out.map.lt
      have hrow : Rows NodeE w5 (fun b => (ok b ∧ b < w.heap.size ∨ w.heap.size ≤ b) ∧ some b ≠ (Value.slice ta T.length tc).ownBlock) [x] [[.int .i64 x.kind, .int .i64 x.num, .string x.name, .slice sx x.kids.length cx]] :=
        Rows.one ⟨_, rfl, X3.out.1, X3.out.2.1, (X4.out.1.below intGood b45).weak intGood (by decide) (fun b _ hb => ⟨.inr hb, fun e => by have := hlt b e.symm; omega⟩)⟩
      have hown5 : OSl NodeE 4 37 base w5 (fun b => ok b ∧ b < w.heap.size ∨ w.heap.size ≤ b) (.slice ta T.length tc) T := M5.out.own.weak nodeGood (fun b _ hb => by by_cases hl : b < w.heap.size; exact .inl ⟨hb, hl⟩; exact .inr (by omega))
      obtain ⟨v6, w6, hrun6, hO6, hg6, hloc6, _⟩ := hown5.append (P := Try.prog) nodeGood (by decide) 22 22 (.agg #[.int .i64 0, .int .i64 0, .string ⟨#[]⟩, .slice none 0 0]) 56 Try.underlying22 info_nd rfl ⟨K, 0, none⟩ 1 [x] _ hrow
        (fun j u hj => by rw [addr_add, Nat.zero_add, cell_of hK5]; simpa using hj) (by simp [Value.oneCell']) (by simp [maxLen]; omega) (by simp; omega) (by have := b5.size; omega)
      obtain ⟨va, vc, rfl⟩ := hO6.shape
      rw [show (T ++ [x]).length = T.length + 1 by simp] at hrun6 hO6 hloc6
      have hKw : K < w5.heap.size := lt_of_some hK5
      have hb5s := b5.size
      have tB : some B ≠ (Value.slice ta T.length tc).ownBlock := fun e => M5.out.tvB e.symm
      have tM : some M ≠ (Value.slice ta T.length tc).ownBlock := fun e => M5.out.tvM e.symm
      have vB : (Value.slice va (T.length + 1) vc).ownBlock ≠ some B := fun e => by
        rcases hloc6 with h' | h'
        · rw [h'] at e; exact tB e.symm
        · rw [h'] at e; cases e; omega
      have vM : (Value.slice va (T.length + 1) vc).ownBlock ≠ some M := fun e => by
        rcases hloc6 with h' | h'
        · rw [h'] at e; exact tM e.symm
        · rw [h'] at e; cases e; omega
      have h6B := (hg6.block B (lt_of_some M5.out.box) tB).trans M5.out.box
      have h6N := (hg6.block N (lt_of_some S5.1) (fun e => by have := hlt N e.symm; omega)).trans S5.1
      have h6M := hg6.block M M5.out.map.lt tM
      have S6 : w6.heap[N]? = some (Obj.cells #[.int .i64 x.kind, .int .i64 x.num, .string x.name, .slice sx x.kids.length cx] 37) ∧ w6.cell? ⟨B, 3, none⟩ = some (.map (some M)) := ⟨h6N, cell_of h6B⟩
      have c6 : w6.cell? ⟨B, 2, none⟩ = some (.slice ta T.length tc) := cell_of h6B
      have f6 : w6.frozen? ⟨B, 2, none⟩ = false := free_of h6B
      obtain ⟨w7, hw7⟩ : ∃ z, w6.setCell ⟨B, 2, none⟩ (.slice va (T.length + 1) vc) = z := ⟨_, rfl⟩
      have h7B : w7.heap[B]? = some (.cells #[.slice sa h.nodes.length sc, .int .i64 h.most, .slice va (T.length + 1) vc, .map (some M), .bool bad] 45) := by rw [← hw7]; exact heap_set h6B
      have hNB : N ≠ B := by omega
      have hNM : N ≠ M := by omega
      have hBM := M5.out.BM
      have h7N : w7.heap[N]? = some (Obj.cells #[.int .i64 x.kind, .int .i64 x.num, .string x.name, .slice sx x.kids.length cx] 37) := by rw [← hw7]; exact heap_far h6N hNB
      have h7M : w7.heap[M]? = w5.heap[M]? := by rw [← hw7, Below.heap_setCell _ _ _ _ (fun e => hBM e.symm)]; exact h6M
      have S7 : w7.heap[N]? = some (Obj.cells #[.int .i64 x.kind, .int .i64 x.num, .string x.name, .slice sx x.kids.length cx] 37) ∧ w7.cell? ⟨B, 3, none⟩ = some (.map (some M)) := ⟨h7N, cell_of h7B⟩
      have m7 := M5.out.map.kept h7M
      obtain ⟨v0, st, es1, c1, hent, hnext⟩ := m7.enter (q := q) (by unfold maxLen; omega) hqI (by simpa using hc) ⟨by omega, by omega⟩
      obtain ⟨w8, hw8⟩ : ∃ z, setBlock w7 M (.map es1 c1) = z := ⟨_, rfl⟩
      obtain ⟨_, _, h7Mm⟩ := m7.isMap
      have h8M : w8.heap[M]? = some (.map es1 c1) := by rw [← hw8]; exact Go.ChangeMaps.heap_setBlock_same h7Mm _
      have S8 : w8.heap[N]? = some (Obj.cells #[.int .i64 x.kind, .int .i64 x.num, .string x.name, .slice sx x.kids.length cx] 37) ∧ w8.cell? ⟨B, 3, none⟩ = some (.map (some M)) := by
        rw [← hw8]; exact ⟨(setMap_other hNM _).trans h7N, cell_of ((setMap_other hBM _).trans h7B)⟩
      have h8B : w8.heap[B]? = some (.cells #[.slice sa h.nodes.length sc, .int .i64 h.most, .slice va (T.length + 1) vc, .map (some M), .bool bad] 45) := by rw [← hw8]; exact (setMap_other hBM _).trans h7B
      obtain ⟨es2, c2', hst, hfin⟩ := hnext w8 h8M
      rw [hw8] at hent
      obtain ⟨w9, hw9⟩ : ∃ z, setBlock w8 M (.map es2 c2') = z := ⟨_, rfl⟩
      rw [hw9] at hst
      have h9M : w9.heap[M]? = some (.map es2 c2') := by rw [← hw9]; exact Go.ChangeMaps.heap_setBlock_same h8M _
      have S9 : w9.heap[N]? = some (Obj.cells #[.int .i64 x.kind, .int .i64 x.num, .string x.name, .slice sx x.kids.length cx] 37) ∧ w9.cell? ⟨B, 3, none⟩ = some (.map (some M)) := by
        rw [← hw9]; exact ⟨(setMap_other hNM _).trans S8.1, cell_of ((setMap_other hBM _).trans h8B)⟩
      rw [← HT.out] at hst
      have hent' : (Instr.mapEntry 43 (.map (some M)) (.int .i64 q)).run Try.prog w7 = .ok (.tuple #[v0, .int .i64 (st : Int)]) w8 := hent
      have hst' : (Instr.entryStore 43 (.map (some M)) (.int .i64 (st : Int)) (.int .i64 T.length)).run Try.prog w8 = .ok () w9 := hst
      have FIN : Hid (Mv base w9 B M sa sc h (.slice va (T.length + 1) vc) (S ++ [q]) (T ++ [x]) bad (fun b => ok b ∧ b < w.heap.size ∨ w.heap.size ≤ b) ∧ Mo base B M w w9 (.slice ta T.length tc) (.slice va (T.length + 1) vc)) := by
        have okB : ¬ (ok B ∧ B < w.heap.size ∨ w.heap.size ≤ B) := fun h => by
          rcases h with h | h
          · exact (HM.out.ne B h.1).1 rfl
          · omega
        have okM : ¬ (ok M ∧ M < w.heap.size ∨ w.heap.size ≤ M) := fun h => by
          rcases h with h | h
          · exact (HM.out.ne M h.1).2 rfl
          · omega
        have base5 : Below base w w5 := b5.mono hbase
        have b6 : Below base w w6 := base5.grown hg6 (by omega) (fun k hk => (HM.out.own.lt k hk).1)
        have b7 : Below base w w7 := by rw [← hw7]; exact b6.setCell HM.out.bB _
        have b9 : Below base w w9 := by rw [← hw9, ← hw8]; exact below_setMap (below_setMap b7 HM.out.bM _) HM.out.bM _
        have hs69 : ∀ ok' : Nat → Prop, ¬ ok' B → ¬ ok' M → Same ok' w6 w9 := fun ok' h1 h2 => by
          rw [← hw9, ← hw8, ← hw7]; exact (((Same.refl _ _).setCell (a := ⟨B, 2, none⟩) _ h1).setMap h2 _).setMap h2 _
        refine ⟨⟨?_, hO6.keep nodeGood (hs69 _ (fun h => h.elim okB (fun e => vB e.symm)) (fun h => h.elim okM (fun e => vM e.symm))), ?_, HM.out.hv.keep (fun b c e fr hb hc => by rw [b9.block b hb]; exact hc), fun b hb => ?_, vB, vM, HM.out.bB, HM.out.bM⟩, b9, fun b h1 h2 h3 h4 => ?_, ?_⟩
        · rw [← hw9, ← hw8, setMap_other hBM, setMap_other hBM]; exact h7B
        · have := hfin w9 h9M; rw [List.length_append]; exact this
        · exact ⟨fun e => okB (by rw [← e]; exact hb), fun e => okM (by rw [← e]; exact hb)⟩
        · rw [← hw9, ← hw8, setMap_other h3, setMap_other h3, ← hw7, Below.heap_setCell _ _ _ _ h2, hg6.block b (by omega) h4, b5.block b h1]
        · rcases hloc6 with h' | h'
          · exact .inl h'
          · exact .inr ⟨_, h', hb5s⟩
      have hN5 := And.intro hw5 hK
      clear hfin hnext h9M h8M hst hent m7 h7Mm h7M h7N h7B h8B h6M h6N h6B vB vM tB tM hrow hO6 hg6 hloc6 hown5 hK5 b5 b45 hBw hMw hlt
      refine wpAnyHF_two (i := 9) (j := 11) (by kernel_rfl) rfl rfl rfl rfl ?_ ?_
      · refine wpIn_valueD 50 rfl (w' := w4) (v := .slice ta T.length tc) (by simp [execOp, go_sem, t4]) ⟨S4, ?_⟩
        simp only [Act.put, List.setIfInBounds_toArray, List.set_cons_zero, List.set_cons_succ]
        refine wpAnyHF_one (i := 11) (by kernel_rfl) rfl rfl ?_
        refine wpIn_valueD 52 rfl (w' := w5) (v := .slice (some ⟨K, 0, none⟩) 1 1) (by simp [execOp, go_sem, hN5.1, hN5.2]) ⟨S5, ?_⟩
        simp only [Act.put, List.setIfInBounds_toArray, List.set_cons_zero, List.set_cons_succ]
        refine wpAnyHF_one (i := 12) (by kernel_rfl) rfl rfl ?_
        refine wpIn_valueD 53 rfl (w' := w6) (v := .slice va (T.length + 1) vc) (run_append_op (.tmp 50) (.tmp 52) 22 rfl rfl (v := .slice ta T.length tc) (xv := .slice (some ⟨K, 0, none⟩) 1 1) (by simp [go_sem]) (by simp [go_sem]) hrun6) ⟨S6, ?_⟩
        simp only [Act.put, List.setIfInBounds_toArray, List.set_cons_zero, List.set_cons_succ]
        refine wpAnyHF_takeD (i := 14) 55 (v := .pointer (some ⟨B, 0, none⟩)) rfl rfl rfl (by kernel_rfl) (by kernel_rfl) (by kernel_rfl) (fun _ _ _ h => h) ⟨.inl ⟨rfl, fun W hW => by simp [execOp, go_sem]⟩, fun W => rfl⟩ S6 ?_
        refine wpAnyHF_takeD (i := 15) 56 (v := .pointer (some ⟨B, 2, none⟩)) rfl rfl rfl (by kernel_rfl) (by kernel_rfl) (by kernel_rfl) (fun _ _ _ h => h) ⟨.inl ⟨rfl, fun W hW => by simp [execOp, go_sem]⟩, fun W => rfl⟩ S6 ?_
        simp only [Act.put, List.setIfInBounds_toArray, List.set_cons_zero, List.set_cons_succ]
        refine wpAnyHF_one (i := 16) (by kernel_rfl) rfl rfl ?_
        refine wpIn_skip rfl (w' := w7) (by simp [execOp, go_sem, c6, f6, hw7]) ⟨S7, ?_⟩
        refine wpAnyHF_one (i := 17) (by kernel_rfl) rfl rfl ?_
        refine wpIn_valueD 57 rfl (w' := w8) (v := .tuple #[v0, .int .i64 (st : Int)]) (by simp [execOp, go_sem, hent']) ⟨S8, ?_⟩
        simp only [Act.put, List.setIfInBounds_toArray, List.set_cons_zero, List.set_cons_succ]
        refine wpAnyHF_takeD (i := 18) 58 (v := .int .i64 (st : Int)) rfl rfl rfl (by kernel_rfl) (by kernel_rfl) (by kernel_rfl) (fun _ _ _ h => h) ⟨.inl ⟨rfl, fun W hW => by simp [execOp, go_sem]⟩, fun W => rfl⟩ S8 ?_
        simp only [Act.put, List.setIfInBounds_toArray, List.set_cons_zero, List.set_cons_succ]
        refine wpAnyHF_one (i := 19) (by kernel_rfl) rfl rfl ?_
        refine wpIn_skip rfl (w' := w9) (by simp [execOp, go_sem, hst']) ⟨S9, ?_⟩
        refine wpAnyHF_done (by kernel_rfl) ?_ _
        clear S4 S5 S6 S7 S8 S9 t4 t5 c6 f6 hrun6 hw7 hw8 hw9 hent' hst' hN5
        gi_wp2
        go_wp2_with fail
        go_ret
        obtain ⟨e1, e2, e3⟩ := mv_new (S := S) (T := T) X3.out.2.2.2.2.2.1 hc
        refine ⟨_, by rw [e3, HT.out]; rfl, ?_, FIN.out.2⟩
        rw [e1, e2, X3.out.2.2.2.1, X3.out.2.2.2.2.2.1, Option.isNone_some, Bool.or_false]
        exact FIN.out.1
      · refine wpIn_valueD 52 rfl (w' := w5) (v := .slice (some ⟨K, 0, none⟩) 1 1) (by simp [execOp, go_sem, hN5.1, hN5.2]) ⟨S5, ?_⟩
        simp only [Act.put, List.setIfInBounds_toArray, List.set_cons_zero, List.set_cons_succ]
        refine wpAnyHF_one (i := 9) (by kernel_rfl) rfl rfl ?_
        refine wpIn_valueD 50 rfl (w' := w5) (v := .slice ta T.length tc) (by simp [execOp, go_sem, t5]) ⟨S5, ?_⟩
        simp only [Act.put, List.setIfInBounds_toArray, List.set_cons_zero, List.set_cons_succ]
        refine wpAnyHF_one (i := 12) (by kernel_rfl) rfl rfl ?_
        refine wpIn_valueD 53 rfl (w' := w6) (v := .slice va (T.length + 1) vc) (run_append_op (.tmp 50) (.tmp 52) 22 rfl rfl (v := .slice ta T.length tc) (xv := .slice (some ⟨K, 0, none⟩) 1 1) (by simp [go_sem]) (by simp [go_sem]) hrun6) ⟨S6, ?_⟩
        simp only [Act.put, List.setIfInBounds_toArray, List.set_cons_zero, List.set_cons_succ]
        refine wpAnyHF_takeD (i := 14) 55 (v := .pointer (some ⟨B, 0, none⟩)) rfl rfl rfl (by kernel_rfl) (by kernel_rfl) (by kernel_rfl) (fun _ _ _ h => h) ⟨.inl ⟨rfl, fun W hW => by simp [execOp, go_sem]⟩, fun W => rfl⟩ S6 ?_
        refine wpAnyHF_takeD (i := 15) 56 (v := .pointer (some ⟨B, 2, none⟩)) rfl rfl rfl (by kernel_rfl) (by kernel_rfl) (by kernel_rfl) (fun _ _ _ h => h) ⟨.inl ⟨rfl, fun W hW => by simp [execOp, go_sem]⟩, fun W => rfl⟩ S6 ?_
        simp only [Act.put, List.setIfInBounds_toArray, List.set_cons_zero, List.set_cons_succ]
        refine wpAnyHF_one (i := 16) (by kernel_rfl) rfl rfl ?_
        refine wpIn_skip rfl (w' := w7) (by simp [execOp, go_sem, c6, f6, hw7]) ⟨S7, ?_⟩
        refine wpAnyHF_one (i := 17) (by kernel_rfl) rfl rfl ?_
        refine wpIn_valueD 57 rfl (w' := w8) (v := .tuple #[v0, .int .i64 (st : Int)]) (by simp [execOp, go_sem, hent']) ⟨S8, ?_⟩
        simp only [Act.put, List.setIfInBounds_toArray, List.set_cons_zero, List.set_cons_succ]
        refine wpAnyHF_takeD (i := 18) 58 (v := .int .i64 (st : Int)) rfl rfl rfl (by kernel_rfl) (by kernel_rfl) (by kernel_rfl) (fun _ _ _ h => h) ⟨.inl ⟨rfl, fun W hW => by simp [execOp, go_sem]⟩, fun W => rfl⟩ S8 ?_
        simp only [Act.put, List.setIfInBounds_toArray, List.set_cons_zero, List.set_cons_succ]
        refine wpAnyHF_one (i := 19) (by kernel_rfl) rfl rfl ?_
        refine wpIn_skip rfl (w' := w9) (by simp [execOp, go_sem, hst']) ⟨S9, ?_⟩
        refine wpAnyHF_done (by kernel_rfl) ?_ _
        clear S4 S5 S6 S7 S8 S9 t4 t5 c6 f6 hrun6 hw7 hw8 hw9 hent' hst' hN5
        gi_wp2
        go_wp2_with fail
        go_ret
        obtain ⟨e1, e2, e3⟩ := mv_new (S := S) (T := T) X3.out.2.2.2.2.2.1 hc
        refine ⟨_, by rw [e3, HT.out]; rfl, ?_, FIN.out.2⟩
        rw [e1, e2, X3.out.2.2.2.1, X3.out.2.2.2.2.2.1, Option.isNone_some, Bool.or_false]
        exact FIN.out.1
    · rw [hc] at hlook
      simp only [if_true] at hlook
      go_wp2_with fail
      go_ret
      obtain ⟨e1, e2, e3⟩ := mv_old (S := S) (T := T) X3.out.2.2.2.2.2.1 hc
      refine ⟨_, by rw [e3]; rfl, ?_, Mo.refl X3.out.2.2.2.2.2.2 hbase⟩
      rw [e1, e2, X3.out.2.2.2.2.2.1, Option.isNone_some, Bool.or_false]
      exact M3.out.weak (fun b _ h => by by_cases hb : b < w.heap.size; exact .inl ⟨h, hb⟩; exact .inr (by omega)) (fun b h => by
        have hB := lt_of_some HM.out.box
        have hM := HM.out.map.lt
        rcases h with h | h
        · exact HM.out.ne b h.1
        · exact ⟨by omega, by omega⟩)
end Go.Proofs.Ytajhchfjoeblgaa
