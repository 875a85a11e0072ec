/- The reference of gc: place, add. -/
import Derived.Test.YtajhchfjoeblgaaGcP
import Derived.Test.YtajhchfjoeblgaaFresh
namespace Go.Proofs.Ytajhchfjoeblgaa
open Go.RowKit Go.Shelf
attribute [local go_sem] Oper.semAt_some
def plc (S : List Int) (q : Int) : Int := if S.contains q then pl S q else -1
theorem plc_hit {S : List Int} {k : Nat} {y q : Int} (hy : S[k]? = some y) (he : (y == q) = true) (hn : ∀ (j : Nat) (z : Int), j < k → S[j]? = some z → (z == q) = false) : plc S q = k := by
  rw [beq_iff_eq] at he; subst he
  have hm : S.contains y = true := by rw [List.contains_iff_mem]; exact List.mem_of_getElem? hy
  rw [plc, if_pos hm, pl]
  have hlt := (List.getElem?_eq_some_iff.1 hy).1
  have h1 : S.idxOf y = k := by
    rw [List.idxOf, List.findIdx_eq hlt]
    refine ⟨by rw [(List.getElem?_eq_some_iff.1 hy).2]; simp, fun j hj => ?_⟩
    have := hn j S[j] hj (List.getElem?_eq_getElem (by omega))
    simpa using this
  rw [h1]
theorem plc_no {S : List Int} {q : Int} (hn : ∀ (j : Nat) (z : Int), j < S.length → S[j]? = some z → (z == q) = false) : plc S q = -1 := by
  have : S.contains q = false := by
    rw [← Bool.not_eq_true, List.contains_iff_mem]
    intro hm
    obtain ⟨j, hj⟩ := List.getElem?_of_mem hm
    have := hn j q (List.getElem?_eq_some_iff.1 hj).1 hj
    simp at this
  rw [plc, this]; rfl
set_option maxHeartbeats 1000000 in
theorem place_any (w : World) (ok : Nat → Prop) (v : Value) (xs : List Int) (z : Int) (h : ISl w ok v xs) :
    Calls Try.prog 32 #[v, .int .i64 z] w (Ib (plc xs z) w) := by
  obtain ⟨a1, c1, rfl, l1, _⟩ := h.shape
  go_enter Try.func32, Try.ntmps32
  go_wp2
  go_loopw [5] (fun i wr => ∃ k : Nat, k ≤ xs.length ∧ i = .int .i64 k ∧ Hid (∀ (j : Nat) (x : Int), j < k → xs[j]? = some x → (x == z) = false) ∧ Below w.heap.size w wr) (fun i _ => xs.length - (intOf i).toNat)
  case atStart => exact ⟨0, Nat.zero_le _, rfl, fun j x hj => absurd hj (by omega), Below.refl _ _⟩
  case round =>
    obtain ⟨k, hk, rfl, HA, hb⟩ := hrel
    by_cases hlt : k < xs.length
    · obtain ⟨b1, o1, c1', x, hv1, hx, hin, e1⟩ := h.at hb (k := k) hlt
      cases hv1
      have HX := hid hx
      clear hx h
      cases hq : x == z
      · have HQ := hid hq
        go_wp2
        go_roundw
        case rel =>
          refine ⟨k + 1, by omega, by go_num, fun j y hj hy => ?_, hb⟩
          by_cases e : j = k
          · subst e; rw [HX.out] at hy; cases hy; exact HQ.out
          · exact HA.out j y (by omega) hy
        case measure => simp [intOf]; omega
      · have HP := hid (plc_hit HX.out hq HA.out)
        go_wp2
        go_ret
        exact Ib.fin HP.out.symm hb
    · obtain rfl : k = xs.length := by omega
      have HP := hid (plc_no HA.out)
      go_wp2
      go_ret
      exact Ib.fin HP.out.symm hb
def atP (ns : List Nd) (p : Int) : Int := match res ns p with | some q => q | none => 0
def erP (ns : List Nd) (p : Int) : Int := match res ns p with | some _ => 0 | none => 140
theorem rat_gen (w : World) (ok : Nat → Prop) (v : Value) (h : Hp) (p : Int) (hh : HVal w ok v h) (hp : In p) (hn : h.nodes.length ≤ 1000000) :
    Calls Try.prog 31 #[v, .int .i64 p] w fun e w' => ∃ nk nn nm na nl nc, e = .returned (.tuple #[.agg #[.int .i64 nk, .int .i64 nn, .string nm, .slice na nl nc], .int .i64 (atP h.nodes p), .int .i64 (erP h.nodes p)]) ∧ Below w.heap.size w w' := by
  refine (rat_any w ok v h p hh hp hn).mono fun e w' hp' => ?_
  cases hat : atN h.nodes p with
  | none =>
    rw [hat] at hp'
    obtain ⟨rfl, hb⟩ := hp'
    have hr : res h.nodes p = none := by rw [res, hat]; rfl
    exact ⟨_, _, _, _, _, _, by rw [atP, erP, hr], hb⟩
  | some r =>
    obtain ⟨x, q⟩ := r
    rw [hat] at hp'
    obtain ⟨v, rfl, ⟨s1, k1, rfl, _, _, _⟩, hb⟩ := hp'
    have hr : res h.nodes p = some q := by rw [res, hat]; rfl
    exact ⟨_, _, _, _, _, _, by rw [atP, erP, hr], hb⟩
theorem fails_snoc (ns : List Nd) (ps : List Int) {k : Nat} {p : Int} (h : ps[k]? = some p) : fails ns (ps.take (k + 1)) = (fails ns (ps.take k) || (res ns p).isNone) := by
  have := fails_step ns ps h false
  simpa using this
theorem fails_pre {ns : List Nd} {ps : List Int} {k : Nat} (h : fails ns (ps.take k) = true) : fails ns ps = true := by
  obtain ⟨p, hp, hr⟩ := fails_yes h
  simp only [fails, List.any_eq_true]
  exact ⟨p, List.mem_of_mem_take hp, by rw [hr]; rfl⟩
theorem addT_len {ns : List Nd} : ∀ (ps S : List Int), (addT ns S ps).length ≤ S.length + ps.length
  | [], S => by simp [addT]
  | p :: ps, S => by
    rw [addT]
    have h1 := addT_len (ns := ns) ps (mvS ns S p)
    have h2 : (mvS ns S p).length ≤ S.length + 1 := by
      unfold mvS
      split
      · omega
      · unfold push; split <;> simp
    show (addT ns (mvS ns S p) ps).length ≤ _
    simp only [List.length_cons]; omega
/-- What add hands back. -/
def AddPost (w : World) (ns : List Nd) (S ps : List Int) (e : Ending) (w' : World) : Prop :=
  if fails ns ps = true then ∃ a n c, e = .returned (.tuple #[.slice a n c, .bool false]) ∧ Below w.heap.size w w'
  else ∃ a c, e = .returned (.tuple #[.slice a (addT ns S ps).length c, .bool true]) ∧ ISl w' (fun _ => True) (.slice a (addT ns S ps).length c) (addT ns S ps) ∧ Below w.heap.size w w'
set_option maxRecDepth 100000 in
set_option maxHeartbeats 8000000 in
theorem add_any (w : World) (ok ok2 ok3 : Nat → Prop) (v v1 v2 : Value) (h : Hp) (S ps : List Int) (hh : HVal w ok v h) (h1 : ISl w ok2 v1 S) (h2 : ISl w ok3 v2 ps) (hn : h.nodes.length ≤ 1000) (hS : S.length ≤ 1000) (hps : ps.length ≤ 1000) :
    Calls Try.prog 30 #[v, v1, v2] w (AddPost w h.nodes S ps) := by
  have hh0 := hh
  obtain ⟨sa, sc, rfl, _, hs⟩ := hh
  obtain ⟨_, _, e, l1, _⟩ := hs.shape
  cases e
  obtain ⟨aS, cS, rfl, lS, _⟩ := h1.shape
  obtain ⟨aP, cP, rfl, lP, _⟩ := h2.shape
  obtain ⟨W0, hW0⟩ : ∃ W0, w.alloc (Obj.cells #[.slice sa h.nodes.length sc, .int .i64 h.most] 24) = W0 := ⟨_, rfl⟩
  have hb0 : Below w.heap.size w W0 := by rw [← hW0]; exact (Below.refl _ _).alloc (Nat.le_refl _) _
  have hbox : W0.heap[w.heap.size]? = some (.cells #[.slice sa h.nodes.length sc, .int .i64 h.most] 24) := by rw [← hW0]; exact World.alloc_heap_new _ _
  have HH := hid (And.intro hh0 (And.intro h1 (And.intro h2 (And.intro hb0 hbox))))
  have HW := hid hW0
  clear hh0 hs h1 h2 hb0 hbox hW0
  go_enter Try.func30, Try.ntmps30
  go_upto_region 1 with (fail)
  rw [HW.out]
  clear HW
  go_upto_region 2 with (fail)
  go_loopw [8, 1] (fun i u1 wr => ∃ (k : Nat) (a : Option Addr) (c : Nat), k ≤ ps.length ∧ i = .int .i64 k ∧ u1 = .slice a (addT h.nodes S (ps.take k)).length c ∧ Hid (fails h.nodes (ps.take k) = false ∧ ISl wr (fun _ => True) (.slice a (addT h.nodes S (ps.take k)).length c) (addT h.nodes S (ps.take k)) ∧ Below W0.heap.size W0 wr)) (fun i _ _ => ps.length - (intOf i).toNat)
  case atStart => exact ⟨0, aS, cS, Nat.zero_le _, rfl, by simp [addT], hid (And.intro rfl (And.intro (by simpa [addT] using (ISl.all (RSl.below intGood HH.out.2.1 HH.out.2.2.2.1))) (Below.refl _ _)))⟩
  case round =>
    obtain ⟨k, a, c, hk, rfl, rfl, HR⟩ := hrel
    have hbox := (HR.out.2.2.block _ (lt_of_some HH.out.2.2.2.2)).trans HH.out.2.2.2.2
    have bw := HH.out.2.2.2.1.trans (HR.out.2.2.mono HH.out.2.2.2.1.size)
    have K := hid (And.intro hbox bw)
    clear hbox bw
    have hln := addT_len (ns := h.nodes) (ps.take k) S
    have hlen : (addT h.nodes S (ps.take k)).length ≤ 2000 := by rw [List.length_take] at hln; omega
    by_cases hlt : k < ps.length
    · obtain ⟨bP, oP, cP', p, hvP, hp, hpin, eP⟩ := HH.out.2.2.1.at K.out.2 hlt
      cases hvP
      have hstep := addT_step h.nodes S ps hp
      have hfl := fails_snoc h.nodes ps hp
      obtain ⟨T, hT⟩ : ∃ T, T = addT h.nodes S (ps.take k) := ⟨_, rfl⟩
      rw [← hT] at HR hlen hstep ⊢
      have HP := hid (And.intro hp (And.intro hstep hfl))
      have EP := hid eP
      have KV : Hid (HVal wr ok (.agg #[.slice sa h.nodes.length sc, .int .i64 h.most]) h) := HH.out.1.below K.out.2
      have C0 : Hid (wr.cell? ⟨w.heap.size, 0, none⟩ = some (.slice sa h.nodes.length sc)) := cell_of K.out.1
      have C1 : Hid (wr.cell? ⟨w.heap.size, 1, none⟩ = some (.int .i64 h.most)) := cell_of K.out.1
      clear hp hstep hfl eP hT hln
      go_upto_region 4 with (fail)
      obtain ⟨w5, hw5⟩ : ∃ z, wr.drew = z := ⟨_, rfl⟩
      have BD : Hid (Below wr.heap.size wr w5) := by show Below _ _ _; rw [← hw5]; exact (Below.refl _ _).drew
      have A0 : Hid (w5.cell? ⟨w.heap.size, 0, none⟩ = some (.slice sa h.nodes.length sc)) := by show _ = _; rw [← hw5]; exact C0.out
      have A1 : Hid (w5.cell? ⟨w.heap.size, 1, none⟩ = some (.int .i64 h.most)) := by show _ = _; rw [← hw5]; exact C1.out
      have LC : Hid (w5.cell? ⟨bP, oP + k, none⟩ = some (.int .i64 p)) := by show _ = _; rw [← hw5]; exact EP.out
      have KV5 := hid (KV.out.below BD.out)
      refine (wpIn_wide (n := 9)).1 ?_
      refine wpIn_region_held (fun W => Below w5.heap.size w5 W) (by kernel_rfl) ?_
      rw [hw5]
      clear hw5
      refine wpAnyHF_takeD (i := 0) 19 (v := .agg #[.slice sa h.nodes.length sc, .int .i64 h.most]) rfl rfl rfl (by kernel_rfl) (by kernel_rfl) (by kernel_rfl) (fun _ _ _ h => h) ⟨.inl ⟨rfl, fun W hW => by have m0 := later_cell hW A0.out; have m1 := later_cell hW A1.out; simp [execOp, go_sem, m0, m1]⟩, fun W => rfl⟩ (Below.refl _ _) ?_
      refine wpAnyHF_takeD (i := 1) 20 (v := .slice (some ⟨bP, oP, none⟩) ps.length cP) rfl rfl rfl (by kernel_rfl) (by kernel_rfl) (by kernel_rfl) (fun _ _ _ h => h) ⟨.inl ⟨rfl, fun W hW => by simp [execOp, go_sem]⟩, fun W => rfl⟩ (Below.refl _ _) ?_
      refine wpAnyHF_takeD (i := 2) 21 (v := .int .i64 k) rfl rfl rfl (by kernel_rfl) (by kernel_rfl) (by kernel_rfl) (fun _ _ _ h => h) ⟨.inl ⟨rfl, fun W hW => by simp [execOp, go_sem]⟩, fun W => rfl⟩ (Below.refl _ _) ?_
      simp only [Act.put, List.setIfInBounds_toArray, List.set_cons_zero, List.set_cons_succ]
      refine wpAnyHF_takeD (i := 3) 22 (v := .pointer (some ⟨bP, oP + k, none⟩)) rfl rfl rfl (by kernel_rfl) (by kernel_rfl) (by kernel_rfl) (fun _ _ _ h => h) ⟨.inl ⟨rfl, fun W hW => by simp [execOp, go_sem, hlt]⟩, fun W => rfl⟩ (Below.refl _ _) ?_
      simp only [Act.put, List.setIfInBounds_toArray, List.set_cons_zero, List.set_cons_succ]
      refine wpAnyHF_takeD (i := 4) 23 (v := .int .i64 p) rfl rfl rfl (by kernel_rfl) (by kernel_rfl) (by kernel_rfl) (fun _ _ _ h => h) ⟨.inl ⟨rfl, fun W hW => by have m0 := later_cell hW LC.out; simp [execOp, go_sem, m0]⟩, fun W => rfl⟩ (Below.refl _ _) ?_
      simp only [Act.put, List.setIfInBounds_toArray, List.set_cons_zero, List.set_cons_succ]
      refine wpAnyHF_two (i := 5) (j := 10) (by kernel_rfl) rfl rfl rfl rfl ?_ ?_
      · refine wpIn_callD 24 rfl (P := Try.prog) (f := 31) (args := #[.agg #[.slice sa h.nodes.length sc, .int .i64 h.most], .int .i64 p]) (by simp [execOp, resolve, invoke, go_sem]) ?_
        refine (rat_gen _ _ _ h p (KV5.out.below (Below.refl _ _)) hpin (by omega)).mono ?_
        rintro e wy ⟨nk, nn, nm, na, nl, nc, rfl, by1⟩
        refine ⟨_, rfl, by1, ?_⟩
        simp only [Act.put, List.setIfInBounds_toArray, List.set_cons_zero, List.set_cons_succ]
        refine wpAnyHF_takeD (i := 6) 18 (v := .tuple #[.agg #[.int .i64 nk, .int .i64 nn, .string nm, .slice na nl nc], .int .i64 (atP h.nodes p), .int .i64 (erP h.nodes p)]) rfl rfl rfl (by kernel_rfl) (by kernel_rfl) (by kernel_rfl) (fun _ _ _ h => h) ⟨.inl ⟨rfl, fun W hW => by simp [execOp, go_sem]⟩, fun W => rfl⟩ by1 ?_
        simp only [Act.put, List.setIfInBounds_toArray, List.set_cons_zero, List.set_cons_succ]
        refine wpAnyHF_takeD (i := 7) 25 (v := .agg #[.int .i64 nk, .int .i64 nn, .string nm, .slice na nl nc]) rfl rfl rfl (by kernel_rfl) (by kernel_rfl) (by kernel_rfl) (fun _ _ _ h => h) ⟨.inl ⟨rfl, fun W hW => by simp [execOp, go_sem]⟩, fun W => rfl⟩ by1 ?_
        refine wpAnyHF_takeD (i := 8) 26 (v := .int .i64 (atP h.nodes p)) rfl rfl rfl (by kernel_rfl) (by kernel_rfl) (by kernel_rfl) (fun _ _ _ h => h) ⟨.inl ⟨rfl, fun W hW => by simp [execOp, go_sem]⟩, fun W => rfl⟩ by1 ?_
        simp only [Act.put, List.setIfInBounds_toArray, List.set_cons_zero, List.set_cons_succ]
        refine wpAnyHF_takeD (i := 9) 27 (v := .int .i64 (erP h.nodes p)) rfl rfl rfl (by kernel_rfl) (by kernel_rfl) (by kernel_rfl) (fun _ _ _ h => h) ⟨.inl ⟨rfl, fun W hW => by simp [execOp, go_sem]⟩, fun W => rfl⟩ by1 ?_
        simp only [Act.put, List.setIfInBounds_toArray, List.set_cons_zero, List.set_cons_succ]
        have bz : Below w5.heap.size w5 (wy.alloc (.cells #[.int .i64 0, .int .i64 0, .string ⟨#[]⟩, .slice none 0 0] 37)) := by1.alloc by1.size _
        refine wpAnyHF_one (i := 10) (by kernel_rfl) rfl rfl ?_
        refine wpIn_valueD 9 rfl (w' := wy.alloc (.cells #[.int .i64 0, .int .i64 0, .string ⟨#[]⟩, .slice none 0 0] 37)) (v := .pointer (some ⟨wy.heap.size, 0, none⟩)) (by simp [execOp, go_sem]) ⟨bz, ?_⟩
        simp only [Act.put, List.setIfInBounds_toArray, List.set_cons_zero, List.set_cons_succ]
        have hZ : (wy.alloc (.cells #[.int .i64 0, .int .i64 0, .string ⟨#[]⟩, .slice none 0 0] 37)).heap[wy.heap.size]? = some (.cells #[.int .i64 0, .int .i64 0, .string ⟨#[]⟩, .slice none 0 0] 37) := World.alloc_heap_new _ _
        have hZ5 : w5.heap.size ≤ wy.heap.size := by1.size
        obtain ⟨wz, hwz⟩ : ∃ z, wy.alloc (.cells #[.int .i64 0, .int .i64 0, .string ⟨#[]⟩, .slice none 0 0] 37) = z := ⟨_, rfl⟩
        obtain ⟨Z, hZe⟩ : ∃ z, wy.heap.size = z := ⟨_, rfl⟩
        rw [hwz] at bz hZ ⊢
        rw [hZe] at hZ hZ5 ⊢
        clear hwz hZe by1
        have z0 : wz.cell? ⟨Z, 0, none⟩ = some (.int .i64 0) := cell_of hZ
        have z1 : wz.cell? ⟨Z, 1, none⟩ = some (.int .i64 0) := cell_of hZ
        have z2 : wz.cell? ⟨Z, 2, none⟩ = some (.string ⟨#[]⟩) := cell_of hZ
        have z3 : wz.cell? ⟨Z, 3, none⟩ = some (.slice none 0 0) := cell_of hZ
        have hfz : ∀ i, wz.frozen? ⟨Z, i, none⟩ = false := fun i => free_of hZ
        obtain ⟨wf, hwf⟩ : ∃ z, (((wz.setCell ⟨Z, 0, none⟩ (.int .i64 nk)).setCell ⟨Z, 1, none⟩ (.int .i64 nn)).setCell ⟨Z, 2, none⟩ (.string nm)).setCell ⟨Z, 3, none⟩ (.slice na nl nc) = z := ⟨_, rfl⟩
        have bs : Below w5.heap.size w5 wf := by rw [← hwf]; exact (((bz.setCell hZ5 _).setCell hZ5 _).setCell hZ5 _).setCell hZ5 _
        refine wpAnyHF_one (i := 11) (by kernel_rfl) rfl rfl ?_
        refine wpIn_skip rfl (w' := wf) (by rw [← hwf]; simp [execOp, go_sem, z0, z1, z2, z3, hfz]) ⟨bs, ?_⟩
        refine wpAnyHF_takeD (i := 12) 10 (v := .int .i64 (atP h.nodes p)) rfl rfl rfl (by kernel_rfl) (by kernel_rfl) (by kernel_rfl) (fun _ _ _ h => h) ⟨.inl ⟨rfl, fun W hW => by simp [execOp, go_sem]⟩, fun W => rfl⟩ bs ?_
        refine wpAnyHF_takeD (i := 13) 11 (v := .int .i64 (erP h.nodes p)) rfl rfl rfl (by kernel_rfl) (by kernel_rfl) (by kernel_rfl) (fun _ _ _ h => h) ⟨.inl ⟨rfl, fun W hW => by simp [execOp, go_sem]⟩, fun W => rfl⟩ bs ?_
        simp only [Act.put, List.setIfInBounds_toArray, List.set_cons_zero, List.set_cons_succ]
        refine wpAnyHF_done (by kernel_rfl) ?_ _
        have BS := hid (BD.out.trans (bs.mono BD.out.size))
        clear z0 z1 z2 z3 hfz bs bz hZ hZ5 hwf
        gi_wp2
        cases hr : res h.nodes p with
        | none =>
          have er0 : erP h.nodes p = 140 := by rw [erP, hr]
          rw [er0]
          go_wp2_with fail
          go_ret2
          refine (if_pos (fails_pre (k := k + 1) (by rw [HP.out.2.2, hr]; simp))).mpr ?_
          exact ⟨_, _, _, rfl, K.out.2.trans (BS.out.mono K.out.2.size)⟩
        | some q =>
          have er0 : erP h.nodes p = 0 := by rw [erP, hr]
          have at0 : atP h.nodes p = q := by rw [atP, hr]
          rw [er0, at0]
          have hTw := (HR.out.2.1.more BS.out)
          have HPL := hid (place_any wf _ (.slice a T.length c) T q hTw)
          have HQ := hid (And.intro hTw (res_some hr))
          obtain ⟨pq, hpq⟩ : ∃ z, z = plc T q := ⟨_, rfl⟩
          rw [← hpq] at HPL
          have HPQ := hid hpq
          clear hTw hpq
          go_wp2_with fail
          refine HPL.out.mono ?_
          rintro e wg ⟨rfl, b8⟩
          clear HPL
          have BG := hid (BS.out.trans (b8.mono BS.out.size))
          cases hcon : T.contains q
          · have hpq : pq = -1 := by rw [HPQ.out, plc, hcon]; rfl
            subst hpq
            have hmv : mvS h.nodes T p = T ++ [q] := by rw [mvS, hr]; show push T q = _; rw [push, hcon]; rfl
            have hTg := HQ.out.1.more b8
            obtain ⟨W1, hW1⟩ : ∃ W1, wg.alloc (Obj.cells #[] 3) = W1 := ⟨_, rfl⟩
            have hb1 : Below wg.heap.size wg W1 := by rw [← hW1]; exact (Below.refl _ _).alloc (Nat.le_refl _) _
            have hm1 : W1.heap[wg.heap.size]? = some (.cells #[] 3) := by rw [← hW1]; exact World.alloc_heap_new _ _
            have hsrc : ISl W1 (fun b => b < wg.heap.size) (.slice a T.length c) T := RSl.below intGood (hTg.weak intGood (by decide) (fun b hb _ => hb)) hb1
            obtain ⟨v3, w3, hrun3, hO3, hb3, hkeep⟩ := append_fresh (w := wg) (ok := fun b => b < wg.heap.size) intGood (by decide) (P := Try.prog) Try.underlying25 info_int rfl (by decide) hsrc (fun x row h => int_one x row h) (by omega) (E := wg.heap.size) (Nat.le_refl _) hm1 hb1 (fun b hb => by omega)
            obtain ⟨a3, c3, rfl⟩ := hO3.shape
            obtain ⟨W4, hW4⟩ : ∃ W4, w3.alloc (Obj.cells #[.int .i64 q] 3) = W4 := ⟨_, rfl⟩
            have hb4 : Below w3.heap.size w3 W4 := by rw [← hW4]; exact (Below.refl _ _).alloc (Nat.le_refl _) _
            have hm4 : W4.heap[w3.heap.size]? = some (.cells #[.int .i64 q] 3) := by rw [← hW4]; exact World.alloc_heap_new _ _
            have hqin : In q := by have h1 := HQ.out.2.2.1; have h2 := HQ.out.2.2.2.1; exact ⟨by omega, by omega⟩
            obtain ⟨v5, w5', hrun5, hO5, hg5, _, _⟩ := OSl.append (P := Try.prog) intGood (by decide) (hO3.below intGood hb4) 25 25 (.int .i64 0) 8 Try.underlying25 info_int rfl ⟨w3.heap.size, 0, none⟩ 1 [q] [[.int .i64 q]] (Rows.one ⟨rfl, hqin⟩) (fun j u hj => by rw [addr_add, Nat.zero_add, cell_of hm4]; simpa using hj) (by simp [Value.oneCell']) (by simp [maxLen]; omega) (by simp; omega) (by have := hb3.size; have := hb4.size; omega)
            have hb5 : Below wg.heap.size wg w5' := (hb3.trans (hb4.mono hb3.size)).grown hg5 (by have := hb3.size; have := hb4.size; omega) (fun k hk => (hO3.lt k hk).1)
            have HF := hid (And.intro (hO5.rsl intGood (fun _ => True) (fun _ _ _ => trivial) (fun _ _ _ => trivial)) (BG.out.trans (hb5.mono BG.out.size)))
            rw [← hmv, ← HP.out.2.1] at HF
            have HR3 := hid hrun3
            have HR5 := hid hrun5
            have HWs := hid (And.intro hW1 hW4)
            obtain ⟨a5, c5, rfl⟩ : ∃ a5 c5, v5 = .slice a5 (addT h.nodes S (ps.take (k + 1))).length c5 := by obtain ⟨a5, c5, e, _⟩ := ISl.shape HF.out.1; exact ⟨a5, c5, e⟩
            clear hsrc hO3 hO5 hrun3 hrun5 hkeep hb1 hb3 hb4 hb5 hm1 hm4 hW1 hW4 hg5 hTg b8 hmv hqin
            go_wp2_with (first | rw [HWs.out.1] | rw [HWs.out.2] | (at_builtin; refine wpList_append_run rfl _ _ _ rfl _ _ rfl rfl _ _ HR3.out ?_) | (at_builtin; refine wpList_append_run rfl _ _ _ rfl _ _ rfl rfl _ _ HR5.out ?_))
            go_roundw
            case rel => exact ⟨k + 1, a5, c5, by omega, by go_num, rfl, hid (And.intro (by rw [HP.out.2.2, HR.out.1, hr]; rfl) (And.intro HF.out.1 (HR.out.2.2.trans (HF.out.2.mono HR.out.2.2.size))))⟩
            case measure => simp [intOf]; omega
          · have hpq : pq = pl T q := by rw [HPQ.out, plc, hcon]; rfl
            have hmv : mvS h.nodes T p = T := by rw [mvS, hr]; show push T q = _; rw [push, hcon]; rfl
            have hp0 : decide (pq < 0) = false := by rw [hpq, decide_eq_false_iff_not]; unfold pl; omega
            have HF := hid (HQ.out.1.more b8)
            rw [← hmv, ← HP.out.2.1] at HF
            have hTe : T = addT h.nodes S (ps.take (k + 1)) := by rw [HP.out.2.1, hmv]
            have HTE := hid (congrArg List.length hTe)
            clear hpq hmv b8 hTe
            go_wp2_with fail
            go_roundw
            case rel => exact ⟨k + 1, a, c, by omega, by go_num, by rw [HTE.out], hid (And.intro (by rw [HP.out.2.2, HR.out.1, hr]; rfl) (And.intro (by have h := HF.out; first | exact h | (rw [HTE.out] at h; exact h)) (HR.out.2.2.trans (BG.out.mono HR.out.2.2.size))))⟩
            case measure => simp [intOf]; omega
      · have bx : Below w5.heap.size w5 (w5.alloc (.cells #[.int .i64 0, .int .i64 0, .string ⟨#[]⟩, .slice none 0 0] 37)) := (Below.refl _ _).alloc (Nat.le_refl _) _
        refine wpIn_valueD 9 rfl (w' := w5.alloc (.cells #[.int .i64 0, .int .i64 0, .string ⟨#[]⟩, .slice none 0 0] 37)) (v := .pointer (some ⟨w5.heap.size, 0, none⟩)) (by simp [execOp, go_sem]) ⟨bx, ?_⟩
        simp only [Act.put, List.setIfInBounds_toArray, List.set_cons_zero, List.set_cons_succ]
        refine wpAnyHF_one (i := 5) (by kernel_rfl) rfl rfl ?_
        refine wpIn_callD 24 rfl (P := Try.prog) (f := 31) (args := #[.agg #[.slice sa h.nodes.length sc, .int .i64 h.most], .int .i64 p]) (by simp [execOp, resolve, invoke, go_sem]) ?_
        refine (rat_gen _ _ _ h p (KV5.out.below bx) hpin (by omega)).mono ?_
        rintro e wz ⟨nk, nn, nm, na, nl, nc, rfl, by1⟩
        have bz := bx.trans (by1.mono bx.size)
        refine ⟨_, rfl, bz, ?_⟩
        simp only [Act.put, List.setIfInBounds_toArray, List.set_cons_zero, List.set_cons_succ]
        refine wpAnyHF_takeD (i := 6) 18 (v := .tuple #[.agg #[.int .i64 nk, .int .i64 nn, .string nm, .slice na nl nc], .int .i64 (atP h.nodes p), .int .i64 (erP h.nodes p)]) rfl rfl rfl (by kernel_rfl) (by kernel_rfl) (by kernel_rfl) (fun _ _ _ h => h) ⟨.inl ⟨rfl, fun W hW => by simp [execOp, go_sem]⟩, fun W => rfl⟩ bz ?_
        simp only [Act.put, List.setIfInBounds_toArray, List.set_cons_zero, List.set_cons_succ]
        refine wpAnyHF_takeD (i := 7) 25 (v := .agg #[.int .i64 nk, .int .i64 nn, .string nm, .slice na nl nc]) rfl rfl rfl (by kernel_rfl) (by kernel_rfl) (by kernel_rfl) (fun _ _ _ h => h) ⟨.inl ⟨rfl, fun W hW => by simp [execOp, go_sem]⟩, fun W => rfl⟩ bz ?_
        refine wpAnyHF_takeD (i := 8) 26 (v := .int .i64 (atP h.nodes p)) rfl rfl rfl (by kernel_rfl) (by kernel_rfl) (by kernel_rfl) (fun _ _ _ h => h) ⟨.inl ⟨rfl, fun W hW => by simp [execOp, go_sem]⟩, fun W => rfl⟩ bz ?_
        simp only [Act.put, List.setIfInBounds_toArray, List.set_cons_zero, List.set_cons_succ]
        refine wpAnyHF_takeD (i := 9) 27 (v := .int .i64 (erP h.nodes p)) rfl rfl rfl (by kernel_rfl) (by kernel_rfl) (by kernel_rfl) (fun _ _ _ h => h) ⟨.inl ⟨rfl, fun W hW => by simp [execOp, go_sem]⟩, fun W => rfl⟩ bz ?_
        simp only [Act.put, List.setIfInBounds_toArray, List.set_cons_zero, List.set_cons_succ]
        have hZ : wz.heap[w5.heap.size]? = some (.cells #[.int .i64 0, .int .i64 0, .string ⟨#[]⟩, .slice none 0 0] 37) := (by1.block _ (by simp)).trans (World.alloc_heap_new _ _)
        have hZ5 : w5.heap.size ≤ w5.heap.size := Nat.le_refl _
        clear by1 bx
        have z0 : wz.cell? ⟨w5.heap.size, 0, none⟩ = some (.int .i64 0) := cell_of hZ
        have z1 : wz.cell? ⟨w5.heap.size, 1, none⟩ = some (.int .i64 0) := cell_of hZ
        have z2 : wz.cell? ⟨w5.heap.size, 2, none⟩ = some (.string ⟨#[]⟩) := cell_of hZ
        have z3 : wz.cell? ⟨w5.heap.size, 3, none⟩ = some (.slice none 0 0) := cell_of hZ
        have hfz : ∀ i, wz.frozen? ⟨w5.heap.size, i, none⟩ = false := fun i => free_of hZ
        obtain ⟨wf, hwf⟩ : ∃ z, (((wz.setCell ⟨w5.heap.size, 0, none⟩ (.int .i64 nk)).setCell ⟨w5.heap.size, 1, none⟩ (.int .i64 nn)).setCell ⟨w5.heap.size, 2, none⟩ (.string nm)).setCell ⟨w5.heap.size, 3, none⟩ (.slice na nl nc) = z := ⟨_, rfl⟩
        have bs : Below w5.heap.size w5 wf := by rw [← hwf]; exact (((bz.setCell hZ5 _).setCell hZ5 _).setCell hZ5 _).setCell hZ5 _
        refine wpAnyHF_one (i := 11) (by kernel_rfl) rfl rfl ?_
        refine wpIn_skip rfl (w' := wf) (by rw [← hwf]; simp [execOp, go_sem, z0, z1, z2, z3, hfz]) ⟨bs, ?_⟩
        refine wpAnyHF_takeD (i := 12) 10 (v := .int .i64 (atP h.nodes p)) rfl rfl rfl (by kernel_rfl) (by kernel_rfl) (by kernel_rfl) (fun _ _ _ h => h) ⟨.inl ⟨rfl, fun W hW => by simp [execOp, go_sem]⟩, fun W => rfl⟩ bs ?_
        refine wpAnyHF_takeD (i := 13) 11 (v := .int .i64 (erP h.nodes p)) rfl rfl rfl (by kernel_rfl) (by kernel_rfl) (by kernel_rfl) (fun _ _ _ h => h) ⟨.inl ⟨rfl, fun W hW => by simp [execOp, go_sem]⟩, fun W => rfl⟩ bs ?_
        simp only [Act.put, List.setIfInBounds_toArray, List.set_cons_zero, List.set_cons_succ]
        refine wpAnyHF_done (by kernel_rfl) ?_ _
        have BS := hid (BD.out.trans (bs.mono BD.out.size))
        clear z0 z1 z2 z3 hfz bs bz hZ hZ5 hwf
        gi_wp2
        cases hr : res h.nodes p with
        | none =>
          have er0 : erP h.nodes p = 140 := by rw [erP, hr]
          rw [er0]
          go_wp2_with fail
          go_ret2
          refine (if_pos (fails_pre (k := k + 1) (by rw [HP.out.2.2, hr]; simp))).mpr ?_
          exact ⟨_, _, _, rfl, K.out.2.trans (BS.out.mono K.out.2.size)⟩
        | some q =>
          have er0 : erP h.nodes p = 0 := by rw [erP, hr]
          have at0 : atP h.nodes p = q := by rw [atP, hr]
          rw [er0, at0]
          have hTw := (HR.out.2.1.more BS.out)
          have HPL := hid (place_any wf _ (.slice a T.length c) T q hTw)
          have HQ := hid (And.intro hTw (res_some hr))
          obtain ⟨pq, hpq⟩ : ∃ z, z = plc T q := ⟨_, rfl⟩
          rw [← hpq] at HPL
          have HPQ := hid hpq
          clear hTw hpq
          go_wp2_with fail
          refine HPL.out.mono ?_
          rintro e wg ⟨rfl, b8⟩
          clear HPL
          have BG := hid (BS.out.trans (b8.mono BS.out.size))
          cases hcon : T.contains q
          · have hpq : pq = -1 := by rw [HPQ.out, plc, hcon]; rfl
            subst hpq
            have hmv : mvS h.nodes T p = T ++ [q] := by rw [mvS, hr]; show push T q = _; rw [push, hcon]; rfl
            have hTg := HQ.out.1.more b8
            obtain ⟨W1, hW1⟩ : ∃ W1, wg.alloc (Obj.cells #[] 3) = W1 := ⟨_, rfl⟩
            have hb1 : Below wg.heap.size wg W1 := by rw [← hW1]; exact (Below.refl _ _).alloc (Nat.le_refl _) _
            have hm1 : W1.heap[wg.heap.size]? = some (.cells #[] 3) := by rw [← hW1]; exact World.alloc_heap_new _ _
            have hsrc : ISl W1 (fun b => b < wg.heap.size) (.slice a T.length c) T := RSl.below intGood (hTg.weak intGood (by decide) (fun b hb _ => hb)) hb1
            obtain ⟨v3, w3, hrun3, hO3, hb3, hkeep⟩ := append_fresh (w := wg) (ok := fun b => b < wg.heap.size) intGood (by decide) (P := Try.prog) Try.underlying25 info_int rfl (by decide) hsrc (fun x row h => int_one x row h) (by omega) (E := wg.heap.size) (Nat.le_refl _) hm1 hb1 (fun b hb => by omega)
            obtain ⟨a3, c3, rfl⟩ := hO3.shape
            obtain ⟨W4, hW4⟩ : ∃ W4, w3.alloc (Obj.cells #[.int .i64 q] 3) = W4 := ⟨_, rfl⟩
            have hb4 : Below w3.heap.size w3 W4 := by rw [← hW4]; exact (Below.refl _ _).alloc (Nat.le_refl _) _
            have hm4 : W4.heap[w3.heap.size]? = some (.cells #[.int .i64 q] 3) := by rw [← hW4]; exact World.alloc_heap_new _ _
            have hqin : In q := by have h1 := HQ.out.2.2.1; have h2 := HQ.out.2.2.2.1; exact ⟨by omega, by omega⟩
            obtain ⟨v5, w5', hrun5, hO5, hg5, _, _⟩ := OSl.append (P := Try.prog) intGood (by decide) (hO3.below intGood hb4) 25 25 (.int .i64 0) 8 Try.underlying25 info_int rfl ⟨w3.heap.size, 0, none⟩ 1 [q] [[.int .i64 q]] (Rows.one ⟨rfl, hqin⟩) (fun j u hj => by rw [addr_add, Nat.zero_add, cell_of hm4]; simpa using hj) (by simp [Value.oneCell']) (by simp [maxLen]; omega) (by simp; omega) (by have := hb3.size; have := hb4.size; omega)
            have hb5 : Below wg.heap.size wg w5' := (hb3.trans (hb4.mono hb3.size)).grown hg5 (by have := hb3.size; have := hb4.size; omega) (fun k hk => (hO3.lt k hk).1)
            have HF := hid (And.intro (hO5.rsl intGood (fun _ => True) (fun _ _ _ => trivial) (fun _ _ _ => trivial)) (BG.out.trans (hb5.mono BG.out.size)))
            rw [← hmv, ← HP.out.2.1] at HF
            have HR3 := hid hrun3
            have HR5 := hid hrun5
            have HWs := hid (And.intro hW1 hW4)
            obtain ⟨a5, c5, rfl⟩ : ∃ a5 c5, v5 = .slice a5 (addT h.nodes S (ps.take (k + 1))).length c5 := by obtain ⟨a5, c5, e, _⟩ := ISl.shape HF.out.1; exact ⟨a5, c5, e⟩
            clear hsrc hO3 hO5 hrun3 hrun5 hkeep hb1 hb3 hb4 hb5 hm1 hm4 hW1 hW4 hg5 hTg b8 hmv hqin
            go_wp2_with (first | rw [HWs.out.1] | rw [HWs.out.2] | (at_builtin; refine wpList_append_run rfl _ _ _ rfl _ _ rfl rfl _ _ HR3.out ?_) | (at_builtin; refine wpList_append_run rfl _ _ _ rfl _ _ rfl rfl _ _ HR5.out ?_))
            go_roundw
            case rel => exact ⟨k + 1, a5, c5, by omega, by go_num, rfl, hid (And.intro (by rw [HP.out.2.2, HR.out.1, hr]; rfl) (And.intro HF.out.1 (HR.out.2.2.trans (HF.out.2.mono HR.out.2.2.size))))⟩
            case measure => simp [intOf]; omega
          · have hpq : pq = pl T q := by rw [HPQ.out, plc, hcon]; rfl
            have hmv : mvS h.nodes T p = T := by rw [mvS, hr]; show push T q = _; rw [push, hcon]; rfl
            have hp0 : decide (pq < 0) = false := by rw [hpq, decide_eq_false_iff_not]; unfold pl; omega
            have HF := hid (HQ.out.1.more b8)
            rw [← hmv, ← HP.out.2.1] at HF
            have hTe : T = addT h.nodes S (ps.take (k + 1)) := by rw [HP.out.2.1, hmv]
            have HTE := hid (congrArg List.length hTe)
            clear hpq hmv b8 hTe
            go_wp2_with fail
            go_roundw
            case rel => exact ⟨k + 1, a, c, by omega, by go_num, by rw [HTE.out], hid (And.intro (by rw [HP.out.2.2, HR.out.1, hr]; rfl) (And.intro (by have h := HF.out; first | exact h | (rw [HTE.out] at h; exact h)) (HR.out.2.2.trans (BG.out.mono HR.out.2.2.size))))⟩
            case measure => simp [intOf]; omega
    · obtain rfl : k = ps.length := by omega
      rw [List.take_length] at HR hlen ⊢
      clear hln
      go_wp2_with fail
      go_ret2
      exact (if_neg (by rw [HR.out.1]; simp)).mpr ⟨_, _, rfl, HR.out.2.1, K.out.2⟩
end Go.Proofs.Ytajhchfjoeblgaa
