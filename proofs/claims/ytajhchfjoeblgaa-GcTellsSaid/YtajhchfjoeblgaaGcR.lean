/- The reference of gc: reach. -/
import Derived.Test.YtajhchfjoeblgaaGcQ
namespace Go.Proofs.Ytajhchfjoeblgaa
open Go.RowKit Go.Shelf
attribute [local go_sem] Oper.semAt_some
theorem AddPost.any {w : World} {ns : List Nd} {S ps : List Int} {e : Ending} {w' : World} (h : AddPost w ns S ps e w') : ∃ a n c b, e = .returned (.tuple #[.slice a n c, .bool b]) ∧
    (b = true → n = (addT ns S ps).length ∧ fails ns ps = false ∧ ISl w' (fun _ => True) (.slice a n c) (addT ns S ps)) ∧ (b = false → fails ns ps = true) ∧ Below w.heap.size w w' := by
  unfold AddPost at h
  split at h
  · obtain ⟨a, n, c, e, hb⟩ := h
    rename_i hf
    exact ⟨a, n, c, false, e, by simp, fun _ => hf, hb⟩
  · obtain ⟨a, c, e, hi, hb⟩ := h
    rename_i hf
    exact ⟨a, _, c, true, e, fun _ => ⟨rfl, by simpa using hf, hi⟩, by simp, hb⟩
def ReachPost (w : World) (ns : List Nd) (roots : List Int) (e : Ending) (w' : World) : Prop := ∃ a n c b, e = .returned (.tuple #[.slice a n c, .bool b]) ∧
    (b = true → ∃ S, collS ns roots = some S ∧ n = S.length ∧ ISl w' (fun _ => True) (.slice a n c) S) ∧ (b = false → collS ns roots = none) ∧ Below w.heap.size w w'
structure Rn (w : World) (ns : List Nd) (roots : List Int) (k : Nat) (a : Option Addr) (n c : Nat) (S : List Int) : Prop where
  len : n = S.length
  isl : ISl w (fun _ => True) (.slice a n c) S
  fit : Fit ns S
  eq : collS ns roots = loopS ns (ns.length + 1 - k) k S
theorem Rn.le {w : World} {ns : List Nd} {roots : List Int} {k : Nat} {a : Option Addr} {n c : Nat} {S : List Int} (h : Rn w ns roots k a n c S) : n ≤ ns.length := by rw [h.len]; exact fit_len h.fit
theorem Rn.more {w w' : World} {ns : List Nd} {roots : List Int} {k : Nat} {a : Option Addr} {n c : Nat} {S : List Int} (h : Rn w ns roots k a n c S) (b : Below w.heap.size w w') : Rn w' ns roots k a n c S := ⟨h.len, RSl.below intGood h.isl b, h.fit, h.eq⟩
theorem Rn.done {w : World} {ns : List Nd} {roots : List Int} {k : Nat} {a : Option Addr} {n c : Nat} {S : List Int} (h : Rn w ns roots k a n c S) (hk : ¬k < n) : collS ns roots = some S := by
  rw [h.eq]
  have hn : S[k]? = none := List.getElem?_eq_none (by have := h.len; omega)
  cases hf : ns.length + 1 - k with
  | zero => rfl
  | succ f => rw [loopS, hn]
theorem Rn.step {w : World} {ns : List Nd} {roots : List Int} {k : Nat} {a : Option Addr} {n c : Nat} {S : List Int} {q : Int} (h : Rn w ns roots k a n c S) (hk : k < n) (hq : S[k]? = some q) : collS ns roots = if fails ns (nodeAt ns q).kids then none else loopS ns (ns.length + 1 - (k + 1)) (k + 1) (addT ns S (nodeAt ns q).kids) := by
  have hl := h.le
  rw [h.eq, show ns.length + 1 - k = (ns.length + 1 - (k + 1)) + 1 by omega, loopS, hq]
set_option maxRecDepth 100000 in
set_option maxHeartbeats 8000000 in
theorem reach_any (w : World) (ok ok2 : Nat → Prop) (v v1 : Value) (h : Hp) (roots : List Int) (hh : HVal w ok v h) (h1 : ISl w ok2 v1 roots) (hn : h.nodes.length ≤ 1000) (hkb : ∀ x ∈ h.nodes, x.kids.length ≤ 1000) (hrl : roots.length ≤ 1000) :
    Calls Try.prog 20 #[v, v1] w (ReachPost w h.nodes roots) := by
  have hh0 := hh
  obtain ⟨sa, sc, rfl, _, hs⟩ := hh
  obtain ⟨_, _, e, l1, _⟩ := hs.shape
  cases e
  obtain ⟨aP, cP, rfl, lP, _⟩ := h1.shape
  obtain ⟨W0, hW0⟩ : ∃ W0, w.alloc (Obj.cells #[.slice sa h.nodes.length sc, .int .i64 h.most] 24) = W0 := ⟨_, rfl⟩
  have hb0 : Below w.heap.size w W0 := by rw [← hW0]; exact (Below.refl _ _).alloc (Nat.le_refl _) _
  have hbox : W0.heap[w.heap.size]? = some (.cells #[.slice sa h.nodes.length sc, .int .i64 h.most] 24) := by rw [← hW0]; exact World.alloc_heap_new _ _
  have HB := hid hb0
  have HX := hid hbox
  have HV := hid (HVal.below hh0 hb0)
  have HS := hid (RSl.below nodeGood hs hb0)
  have HP := hid (RSl.below intGood h1 hb0)
  have HK := hid hkb
  have HW := hid hW0
  clear hh0 hs h1 hb0 hbox hW0 hkb
  go_enter Try.func20, Try.ntmps20
  go_upto_region 1 with (fail)
  rw [HW.out]
  clear HW
  have c0 : W0.cell? ⟨w.heap.size, 0, none⟩ = some (.slice sa h.nodes.length sc) := cell_of HX.out
  have c1 : W0.cell? ⟨w.heap.size, 1, none⟩ = some (.int .i64 h.most) := cell_of HX.out
  have PA := hid (add_any W0 _ (fun _ => True) _ (.agg #[.slice sa h.nodes.length sc, .int .i64 h.most]) (.slice none 0 0) (.slice aP roots.length cP) h [] roots HV.out (RSl.nil _ _ _ _) HP.out hn (by simp) hrl)
  go_wp2_with fail
  refine PA.out.mono ?_
  intro e w1 hp
  obtain ⟨a, n, c, b, rfl, hy, hno, b1⟩ := hp.any
  have HY : Hid (b = true → ∃ S, Rn w1 h.nodes roots 0 a n c S) := fun hb => by
    obtain ⟨e1, e2, e3⟩ := hy hb
    refine ⟨_, e1, e3, fit_addT roots (fit_nil _), ?_⟩
    rw [collS, if_neg (by rw [e2]; simp)]
    rfl
  have HN : Hid (b = false → collS h.nodes roots = none) := fun hb => by rw [collS, if_pos (hno hb)]
  have B1 := hid b1
  clear hp hy hno b1 PA c0 c1
  have hs1 := HB.out.size
  go_upto_region 3 with (fail)
  go_loopw [6, 7, 8] (fun l f i wr => ∃ (k : Nat) (a : Option Addr) (n c : Nat) (b : Bool), k ≤ h.nodes.length ∧ i = .int .i64 k ∧ l = .slice a n c ∧ f = .bool b ∧ Hid (b = true → ∃ S, Rn wr h.nodes roots k a n c S) ∧ Hid (b = false → collS h.nodes roots = none) ∧ Hid (Below W0.heap.size W0 wr)) (fun _ _ i _ => h.nodes.length + 1 - (intOf i).toNat)
  case atStart => exact ⟨0, a, n, c, b, Nat.zero_le _, rfl, rfl, rfl, HY, HN, B1⟩
  case round =>
    obtain ⟨k, a, n, c, b, hk, rfl, rfl, rfl, HY, HN, B1⟩ := hrel
    by_cases hlt : k < n
    · cases b
      · go_wp2_with fail
        go_ret2
        exact ⟨_, _, _, _, rfl, by simp, fun _ => HN.out (by simp), HB.out.trans (B1.out.mono hs1)⟩
      · obtain ⟨S, hR⟩ := HY.out rfl
        have hnle := hR.le
        have hnS := hR.len
        obtain ⟨q, hq⟩ : ∃ q, S[k]? = some q := ⟨_, List.getElem?_eq_getElem (by omega)⟩
        obtain ⟨_, hq0, hq1, _, _, hq2⟩ := res_some (hR.fit.2 q (List.mem_of_getElem? hq))
        obtain ⟨qn, rfl⟩ : ∃ qn : Nat, q = qn := ⟨q.toNat, by omega⟩
        have hqn : qn < h.nodes.length := by omega
        have HR := hid hR
        have HQ := hid hq
        have HQ2 := hid hq2
        subst hnS
        clear hR hq hq0 hq1 hq2 HY HN
        go_upto_region 5 with (fail)
        obtain ⟨w5, hw5⟩ : ∃ z, wr.drew = z := ⟨_, rfl⟩
        have bd : Below wr.heap.size wr w5 := by rw [← hw5]; exact (Below.refl _ _).drew
        have HR5 := hid (HR.out.more bd)
        have hsr := B1.out.size
        replace B1 := hid (B1.out.trans (bd.mono hsr))
        have BX := (B1.out.block _ (lt_of_some HX.out)).trans HX.out
        have C0 : Hid (w5.cell? ⟨w.heap.size, 0, none⟩ = some (.slice sa h.nodes.length sc)) := cell_of BX
        have C1 : Hid (w5.cell? ⟨w.heap.size, 1, none⟩ = some (.int .i64 h.most)) := cell_of BX
        obtain ⟨bN, oN, cN, x, ka, kc, hvN, hx, _, _, hki, _, _, _, ek⟩ := NSl.at HS.out B1.out hqn
        cases hvN
        obtain ⟨bS, oS, cS, q', hvS, hqq, _, eS⟩ := ISl.at HR5.out.isl (Below.refl _ _) (k := k) hlt
        cases hvS
        obtain rfl : q' = qn := by have h := HQ.out; rw [hqq] at h; cases h; rfl
        have hxn : x = nodeAt h.nodes qn := by have h := HQ2.out; simp only [Int.toNat_natCast] at h; rw [hx] at h; cases h; rfl
        have HXN := hid hxn
        have CK := hid ek
        have LC := hid eS
        have KI := hid hki
        have KV := hid (HVal.below HV.out B1.out)
        have hxk : x.kids.length ≤ 1000 := HK.out x (List.mem_of_getElem? hx)
        clear BX hx hki ek hqq eS bd hxn
        refine (wpIn_wide (n := 9)).1 ?_
        refine wpIn_region_held (fun W => Below w5.heap.size w5 W) (by kernel_rfl) ?_
        rw [hw5]
        clear hw5
        refine wpAnyHF_takeD (i := 0) 27 (v := .agg #[.slice (some ⟨bN, oN, none⟩) h.nodes.length sc, .int .i64 h.most]) rfl rfl rfl (by kernel_rfl) (by kernel_rfl) (by kernel_rfl) (fun _ _ _ h => h) ⟨.inl ⟨rfl, fun W hW => by have m0 := later_cell hW C0.out; have m1 := later_cell hW C1.out; simp [execOp, go_sem, m0, m1]⟩, fun W => rfl⟩ (Below.refl _ _) ?_
        refine wpAnyHF_takeD (i := 1) 28 (v := .slice (some ⟨bS, oS, none⟩) S.length c) rfl rfl rfl (by kernel_rfl) (by kernel_rfl) (by kernel_rfl) (fun _ _ _ h => h) ⟨.inl ⟨rfl, fun W hW => by simp [execOp, go_sem]⟩, fun W => rfl⟩ (Below.refl _ _) ?_
        refine wpAnyHF_takeD (i := 2) 29 (v := .pointer (some ⟨w.heap.size, 0, none⟩)) rfl rfl rfl (by kernel_rfl) (by kernel_rfl) (by kernel_rfl) (fun _ _ _ h => h) ⟨.inl ⟨rfl, fun W hW => by simp [execOp, go_sem]⟩, fun W => rfl⟩ (Below.refl _ _) ?_
        simp only [Act.put, List.setIfInBounds_toArray, List.set_cons_zero, List.set_cons_succ]
        refine wpAnyHF_takeD (i := 3) 30 (v := .slice (some ⟨bN, oN, none⟩) h.nodes.length sc) rfl rfl rfl (by kernel_rfl) (by kernel_rfl) (by kernel_rfl) (fun _ _ _ h => h) ⟨.inl ⟨rfl, fun W hW => by have m0 := later_cell hW C0.out; simp [execOp, go_sem, m0]⟩, fun W => rfl⟩ (Below.refl _ _) ?_
        refine wpAnyHF_takeD (i := 4) 31 (v := .slice (some ⟨bS, oS, none⟩) S.length c) rfl rfl rfl (by kernel_rfl) (by kernel_rfl) (by kernel_rfl) (fun _ _ _ h => h) ⟨.inl ⟨rfl, fun W hW => by simp [execOp, go_sem]⟩, fun W => rfl⟩ (Below.refl _ _) ?_
        refine wpAnyHF_takeD (i := 5) 32 (v := .int .i64 k) rfl rfl rfl (by kernel_rfl) (by kernel_rfl) (by kernel_rfl) (fun _ _ _ h => h) ⟨.inl ⟨rfl, fun W hW => by simp [execOp, go_sem]⟩, fun W => rfl⟩ (Below.refl _ _) ?_
        simp only [Act.put, List.setIfInBounds_toArray, List.set_cons_zero, List.set_cons_succ]
        refine wpAnyHF_takeD (i := 6) 33 (v := .pointer (some ⟨bS, oS + k, none⟩)) rfl rfl rfl (by kernel_rfl) (by kernel_rfl) (by kernel_rfl) (fun _ _ _ h => h) ⟨.inl ⟨rfl, fun W hW => by simp [execOp, go_sem, hlt]⟩, fun W => rfl⟩ (Below.refl _ _) ?_
        refine wpAnyHF_takeD (i := 7) 34 (v := .int .i64 qn) rfl rfl rfl (by kernel_rfl) (by kernel_rfl) (by kernel_rfl) (fun _ _ _ h => h) ⟨.inl ⟨rfl, fun W hW => by have m0 := later_cell hW LC.out; simp [execOp, go_sem, m0]⟩, fun W => rfl⟩ (Below.refl _ _) ?_
        refine wpAnyHF_takeD (i := 8) 35 (v := .pointer (some ⟨bN, oN + qn * 4, none⟩)) rfl rfl rfl (by kernel_rfl) (by kernel_rfl) (by kernel_rfl) (fun _ _ _ h => h) ⟨.inl ⟨rfl, fun W hW => by simp [execOp, go_sem, hqn]⟩, fun W => rfl⟩ (Below.refl _ _) ?_
        simp only [Act.put, List.setIfInBounds_toArray, List.set_cons_zero, List.set_cons_succ]
        refine wpAnyHF_takeD (i := 9) 36 (v := .pointer (some ⟨bN, oN + qn * 4 + 3, none⟩)) rfl rfl rfl (by kernel_rfl) (by kernel_rfl) (by kernel_rfl) (fun _ _ _ h => h) ⟨.inl ⟨rfl, fun W hW => by simp [execOp, go_sem]⟩, fun W => rfl⟩ (Below.refl _ _) ?_
        refine wpAnyHF_takeD (i := 10) 37 (v := .slice ka x.kids.length kc) rfl rfl rfl (by kernel_rfl) (by kernel_rfl) (by kernel_rfl) (fun _ _ _ h => h) ⟨.inl ⟨rfl, fun W hW => by have m0 := later_cell hW CK.out; simp [execOp, go_sem, m0]⟩, fun W => rfl⟩ (Below.refl _ _) ?_
        refine wpAnyHF_one (i := 11) (by kernel_rfl) rfl rfl ?_
        refine wpIn_callD 38 rfl (P := Try.prog) (f := 30) (args := #[.agg #[.slice (some ⟨bN, oN, none⟩) h.nodes.length sc, .int .i64 h.most], .slice (some ⟨bS, oS, none⟩) S.length c, .slice ka x.kids.length kc]) (by simp [execOp, resolve, invoke, go_sem]) ?_
        refine (add_any w5 _ _ _ _ _ _ h S x.kids KV.out HR5.out.isl KI.out hn (by omega) hxk).mono ?_
        intro e wy hp
        obtain ⟨a2, n2, c2, b2, rfl, hy, hno, by1⟩ := hp.any
        refine ⟨_, rfl, by1, ?_⟩
        simp only [Act.put, List.setIfInBounds_toArray, List.set_cons_zero, List.set_cons_succ]
        refine wpAnyHF_takeD (i := 12) 26 (v := .tuple #[.slice a2 n2 c2, .bool b2]) rfl rfl rfl (by kernel_rfl) (by kernel_rfl) (by kernel_rfl) (fun _ _ _ h => h) ⟨.inl ⟨rfl, fun W hW => by simp [execOp, go_sem]⟩, fun W => rfl⟩ by1 ?_
        refine wpAnyHF_takeD (i := 13) 39 (v := .slice a2 n2 c2) rfl rfl rfl (by kernel_rfl) (by kernel_rfl) (by kernel_rfl) (fun _ _ _ h => h) ⟨.inl ⟨rfl, fun W hW => by simp [execOp, go_sem]⟩, fun W => rfl⟩ by1 ?_
        refine wpAnyHF_takeD (i := 14) 40 (v := .bool b2) rfl rfl rfl (by kernel_rfl) (by kernel_rfl) (by kernel_rfl) (fun _ _ _ h => h) ⟨.inl ⟨rfl, fun W hW => by simp [execOp, go_sem]⟩, fun W => rfl⟩ by1 ?_
        simp only [Act.put, List.setIfInBounds_toArray, List.set_cons_zero, List.set_cons_succ]
        refine wpAnyHF_takeD (i := 15) 9 (v := .slice a2 n2 c2) rfl rfl rfl (by kernel_rfl) (by kernel_rfl) (by kernel_rfl) (fun _ _ _ h => h) ⟨.inl ⟨rfl, fun W hW => by simp [execOp, go_sem]⟩, fun W => rfl⟩ by1 ?_
        refine wpAnyHF_takeD (i := 16) 10 (v := .bool b2) rfl rfl rfl (by kernel_rfl) (by kernel_rfl) (by kernel_rfl) (fun _ _ _ h => h) ⟨.inl ⟨rfl, fun W hW => by simp [execOp, go_sem]⟩, fun W => rfl⟩ by1 ?_
        simp only [Act.put, List.setIfInBounds_toArray, List.set_cons_zero, List.set_cons_succ]
        refine wpAnyHF_done (by kernel_rfl) ?_ _
        have HY2 : Hid (b2 = true → ∃ S, Rn wy h.nodes roots (k + 1) a2 n2 c2 S) := fun hb => by
          obtain ⟨e1, e2, e3⟩ := hy hb
          have hst := HR.out.step hlt HQ.out
          rw [← HXN.out, e2] at hst
          exact ⟨_, e1, e3, fit_addT _ HR.out.fit, hst⟩
        have HN2 : Hid (b2 = false → collS h.nodes roots = none) := fun hb => by
          have hst := HR.out.step hlt HQ.out
          rw [← HXN.out, hno hb] at hst
          exact hst
        have hs5 := B1.out.size
        have B2 := hid (B1.out.trans (by1.mono hs5))
        clear hp hy hno by1
        gi_wp2
        go_wp2_with fail
        go_roundw
        case rel => exact ⟨k + 1, a2, n2, c2, b2, by omega, by go_num, rfl, rfl, HY2, HN2, B2⟩
        case measure => simp [intOf]; omega
    · go_wp2_with fail
      go_ret2
      refine ⟨_, _, _, _, rfl, fun hb => ?_, HN.out, HB.out.trans (B1.out.mono hs1)⟩
      obtain ⟨S, hR⟩ := HY.out hb
      exact ⟨S, hR.done hlt, hR.len, hR.isl⟩
end Go.Proofs.Ytajhchfjoeblgaa
