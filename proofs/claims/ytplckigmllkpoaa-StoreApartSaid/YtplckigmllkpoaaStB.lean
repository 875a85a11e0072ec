/- store.Look, Valid; the reference's Check, Look, Valid: what each returns. -/
import Derived.Test.YtplckigmllkpoaaStA
import Derived.OwnWalk
namespace Go.Proofs.Ytplckigmllkpoaa
open Go.RowKit Go.Shelf
attribute [local go_sem] Oper.semAt_some
def cellS (s : St) (v : Int) : Pr := s.cells.getD v.toNat (0, 0)
def lookS (s : St) (v : Int) : Int × Int × Int := if chkS s && thereS s v then ((cellS s v).1, (cellS s v).2, 0) else (0, 0, 181)
def LookP (r : Int × Int × Int) (w : World) (e : Ending) (w' : World) : Prop := e = .returned (.tuple #[.int .i64 r.1, .int .i64 r.2.1, .int .i64 r.2.2]) ∧ Below w.heap.size w w'
theorem LookP.fin {a b c : Int} {r : Int × Int × Int} {w w' : World} (h : r = (a, b, c)) (k : Below w.heap.size w w') : LookP r w (.returned (.tuple #[.int .i64 a, .int .i64 b, .int .i64 c])) w' := by subst h; exact ⟨rfl, k⟩
theorem there_nat {s : St} {z : Int} (h : thereS s z = true) : ∃ k : Nat, z = k ∧ k < s.cells.length := by
  simp [thereS] at h
  exact ⟨z.toNat, by omega, by omega⟩
/-- A store's box. -/
structure BSt (w W : World) (B : Nat) (sa : Option Addr) (sc : Nat) (s : St) : Prop where
  bel : Below w.heap.size w W
  box : W.heap[B]? = some (.cells #[.slice sa s.cells.length sc, .int .i64 s.ver] 24)
  val : SVal W (fun _ => True) (.agg #[.slice sa s.cells.length sc, .int .i64 s.ver]) s
theorem BSt.more {w W W' : World} {B : Nat} {sa : Option Addr} {sc : Nat} {s : St} (h : BSt w W B sa sc s) (b : Below W.heap.size W W') : BSt w W' B sa sc s :=
  ⟨h.bel.trans (b.mono h.bel.size), (b.block _ (lt_of_some h.box)).trans h.box, h.val.more b⟩
theorem BSt.c0 {w W : World} {B : Nat} {sa : Option Addr} {sc : Nat} {s : St} (h : BSt w W B sa sc s) : W.cell? ⟨B, 0, none⟩ = some (.slice sa s.cells.length sc) := cell_of h.box
theorem BSt.c1 {w W : World} {B : Nat} {sa : Option Addr} {sc : Nat} {s : St} (h : BSt w W B sa sc s) : W.cell? ⟨B, 1, none⟩ = some (.int .i64 s.ver) := cell_of h.box
theorem BSt.new {w W : World} {ok : Nat → Prop} {sa : Option Addr} {sc : Nat} {s : St} (b : Below w.heap.size w W) (h : SVal W ok (.agg #[.slice sa s.cells.length sc, .int .i64 s.ver]) s) :
    BSt w (W.alloc (.cells #[.slice sa s.cells.length sc, .int .i64 s.ver] 24)) W.heap.size sa sc s :=
  ⟨b.alloc b.size _, World.alloc_heap_new _ _, h.all.more ((Below.refl _ _).alloc (Nat.le_refl _) _)⟩
theorem BSt.cells {w W : World} {B : Nat} {sa : Option Addr} {sc : Nat} {s : St} (h : BSt w W B sa sc s) : PSl W (fun _ => True) (.slice sa s.cells.length sc) s.cells := by
  obtain ⟨_, _, e, _, hs⟩ := h.val
  cases e; exact hs
theorem BSt.pick {w W : World} {B : Nat} {sa : Option Addr} {sc : Nat} {s : St} (h : BSt w W B sa sc s) {k : Nat} (hk : k < s.cells.length) :
    ∃ b o x, sa = some ⟨b, o, none⟩ ∧ s.cells[k]? = some x ∧ cellS s k = x ∧ In x.1 ∧ In x.2 ∧ W.cell? ⟨b, o + k * 2, none⟩ = some (.int .i64 x.1) ∧ W.cell? ⟨b, o + k * 2 + 1, none⟩ = some (.int .i64 x.2) := by
  obtain ⟨b, o, c, x, hv, hx, h1, h2, e1, e2⟩ := h.cells.at (Below.refl _ _) hk
  cases hv
  exact ⟨b, o, x, rfl, hx, by simp [cellS, List.getD_eq_getElem?_getD, hx], h1, h2, e1, e2⟩
set_option maxHeartbeats 2000000 in
theorem look_any (w : World) (ok : Nat → Prop) (v : Value) (s : St) (z : Int) (hh : SVal w ok v s) : Calls Try.prog 14 #[v, .int .i64 z] w (LookP (lookS s z) w) := by
  have hh0 := hh
  obtain ⟨sa, sc, rfl, hi, hs⟩ := hh
  obtain ⟨_, _, e, l1, _⟩ := hs.shape
  cases e
  obtain ⟨W0, hW0⟩ : ∃ W0, w.alloc (Obj.cells #[.slice sa s.cells.length sc, .int .i64 s.ver] 24) = W0 := ⟨_, rfl⟩
  have K : Hid (BSt w W0 w.heap.size sa sc s) := by have h := BSt.new (Below.refl _ w) hh0; rw [hW0] at h; exact h
  have HW := hid hW0
  clear hW0 hs hh0
  obtain ⟨q, hq⟩ : ∃ q, q = chkS s := ⟨_, rfl⟩
  obtain ⟨t, ht⟩ : ∃ t, t = thereS s z := ⟨_, rfl⟩
  have HQ := hid hq
  have HT := hid ht
  go_enter Try.func14, Try.ntmps14
  go_upto_region 1 with (fail)
  rw [HW.out]
  clear HW
  have c0 : W0.cell? ⟨w.heap.size, 0, none⟩ = some (.slice sa s.cells.length sc) := K.out.c0
  have c1 : W0.cell? ⟨w.heap.size, 1, none⟩ = some (.int .i64 s.ver) := K.out.c1
  have P := hid (scheck_any W0 _ _ s K.out.val)
  rw [← hq] at P
  clear hq
  go_wp2_with fail
  refine P.out.mono ?_
  rintro e w1 ⟨rfl, b⟩
  clear P c0 c1
  replace K := hid (K.out.more b)
  clear b
  cases q
  · go_wp2_with fail
    go_ret3
    exact LookP.fin (by rw [lookS, ← HQ.out]; rfl) K.out.bel
  have c0 : w1.cell? ⟨w.heap.size, 0, none⟩ = some (.slice sa s.cells.length sc) := K.out.c0
  have c1 : w1.cell? ⟨w.heap.size, 1, none⟩ = some (.int .i64 s.ver) := K.out.c1
  have P := hid (there_any w1 _ _ s z K.out.val)
  rw [← ht] at P
  clear ht
  go_wp2_with fail
  refine P.out.mono ?_
  rintro e w2 ⟨rfl, b⟩
  clear P c0 c1
  replace K := hid (K.out.more b)
  clear b
  cases t
  · go_wp2_with fail
    go_ret3
    exact LookP.fin (by rw [lookS, ← HQ.out, ← HT.out]; rfl) K.out.bel
  obtain ⟨k, rfl, hk⟩ := there_nat HT.out.symm
  obtain ⟨b1, o1, x, hsa, hx, hcx, _, _, e1, e2⟩ := K.out.pick hk
  subst hsa
  have HX := hid hcx
  clear hx hcx
  have c0 : w2.cell? ⟨w.heap.size, 0, none⟩ = some (.slice (some ⟨b1, o1, none⟩) s.cells.length sc) := K.out.c0
  go_wp2_with fail
  go_quiet (fail)
  go_wp2_with fail
  go_ret3
  exact LookP.fin (by rw [lookS, ← HQ.out, ← HT.out, HX.out]; rfl) (below_drewN K.out.bel _)
set_option maxRecDepth 100000 in
set_option maxHeartbeats 4000000 in
theorem rscheck_any (w : World) (ok : Nat → Prop) (v : Value) (s : St) (hh : SVal w ok v s) : Calls Try.prog 23 #[v] w (Bb (chkS s) w) := by
  have hh0 := hh
  obtain ⟨sa, sc, rfl, hi, hs⟩ := hh
  obtain ⟨_, _, e, l1, _⟩ := hs.shape
  cases e
  obtain ⟨W0, hW0⟩ : ∃ W0, w.alloc (Obj.cells #[.slice sa s.cells.length sc, .int .i64 s.ver] 24) = W0 := ⟨_, rfl⟩
  have K : Hid (BSt w W0 w.heap.size sa sc s) := by have h := BSt.new (Below.refl _ w) hh0; rw [hW0] at h; exact h
  have HW := hid hW0
  clear hW0 hs hh0
  go_enter Try.func23, Try.ntmps23
  go_upto_region 1 with (fail)
  rw [HW.out]
  clear HW
  have c0 : W0.cell? ⟨w.heap.size, 0, none⟩ = some (.slice sa s.cells.length sc) := K.out.c0
  have c1 : W0.cell? ⟨w.heap.size, 1, none⟩ = some (.int .i64 s.ver) := K.out.c1
  by_cases h1 : s.ver < 0
  · have f1 : decide (s.ver < 0) = true := by simpa using h1
    go_wp2_with fail
    go_ret
    exact Bb.fin (by rw [chkS, decide_eq_false (show ¬ 0 ≤ s.ver by omega)]; rfl) K.out.bel
  have f1 : decide (s.ver < 0) = false := by simpa using h1
  by_cases h2 : 1099511627776 < s.ver
  · have f2 : decide (s.ver > 1099511627776) = true := by simpa using h2
    go_wp2_with fail
    go_ret
    exact Bb.fin (by rw [chkS, decide_eq_false (show ¬ s.ver ≤ 1099511627776 by omega)]; simp) K.out.bel
  have f2 : decide (s.ver > 1099511627776) = false := by simpa using h2
  have HC : chkS s = !(s.cells.any (cbad s.ver)) := by rw [chkS, decide_eq_true (show 0 ≤ s.ver by omega), decide_eq_true (show s.ver ≤ 1099511627776 by omega)]; rfl
  have HCC := hid HC
  clear HC h1 h2
  go_upto_region 3 with (fail)
  clear c0 c1 f1 f2
  go_wp2_with fail
  go_loopw [3] (fun i wr => ∃ k : Nat, k ≤ s.cells.length ∧ i = .int .i64 k ∧ Hid (∀ (j : Nat) (y : Pr), j < k → s.cells[j]? = some y → cbad s.ver y = false) ∧ Hid (BSt w wr w.heap.size sa sc s)) (fun i _ => s.cells.length - (intOf i).toNat)
  case atStart => exact ⟨0, Nat.zero_le _, rfl, fun j y hj => absurd hj (by omega), K⟩
  case round =>
    obtain ⟨k, hk, rfl, HA, K2⟩ := hrel
    clear K
    by_cases hlt : k < s.cells.length
    · obtain ⟨b1, o1, x, hsa, hx, _, _, _, e1, e2⟩ := K2.out.pick hlt
      subst hsa
      have c0 : wr.cell? ⟨w.heap.size, 0, none⟩ = some (.slice (some ⟨b1, o1, none⟩) s.cells.length sc) := K2.out.c0
      have c1 : wr.cell? ⟨w.heap.size, 1, none⟩ = some (.int .i64 s.ver) := K2.out.c1
      have HX := hid hx
      clear hx
      by_cases h1 : x.2 < 0
      · have f1 : decide (x.2 < 0) = true := by simpa using h1
        go_wp2_with fail
        go_quiet (fail)
        go_wp2_with fail
        go_ret
        exact Bb.fin (by rw [HCC.out, any_true_of HX.out (by simp [cbad, h1])]; rfl) (below_drewN K2.out.bel _)
      have f1 : decide (x.2 < 0) = false := by simpa using h1
      by_cases h2 : s.ver < x.2
      · have f2 : decide (x.2 > s.ver) = true := by simpa using h2
        go_wp2_with fail
        go_quiet (fail)
        go_wp2_with fail
        go_ret
        exact Bb.fin (by rw [HCC.out, any_true_of HX.out (by simp [cbad, h2])]; rfl) (below_drewN K2.out.bel _)
      have f2 : decide (x.2 > s.ver) = false := by simpa using h2
      have HN : Hid (cbad s.ver x = false) := by show _ = _; simp [cbad]; omega
      clear h1 h2
      go_wp2_with fail
      go_quiet (fail)
      go_wp2_with fail
      go_roundw
      case rel =>
        refine ⟨k + 1, by omega, by go_num, fun j z hj hz => ?_, hid (K2.out.more (below_drewN (Below.refl _ _) _))⟩
        by_cases e : j = k
        · subst e; rw [HX.out] at hz; cases hz; exact HN.out
        · exact HA.out j z (by omega) hz
      case measure => simp [intOf]; omega
    · obtain rfl : k = s.cells.length := by omega
      have c0 : wr.cell? ⟨w.heap.size, 0, none⟩ = some (.slice sa s.cells.length sc) := K2.out.c0
      go_wp2_with fail
      go_ret
      exact Bb.fin (by rw [HCC.out, any_false_of (fun i x hx => HA.out i x (List.getElem?_eq_some_iff.1 hx).1 hx)]; rfl) K2.out.bel
set_option maxHeartbeats 2000000 in
theorem rlook_any (w : World) (ok : Nat → Prop) (v : Value) (s : St) (z : Int) (hh : SVal w ok v s) : Calls Try.prog 15 #[v, .int .i64 z] w (LookP (lookS s z) w) := by
  have hh0 := hh
  obtain ⟨sa, sc, rfl, hi, hs⟩ := hh
  obtain ⟨_, _, e, l1, _⟩ := hs.shape
  cases e
  obtain ⟨W0, hW0⟩ : ∃ W0, w.alloc (Obj.cells #[.slice sa s.cells.length sc, .int .i64 s.ver] 24) = W0 := ⟨_, rfl⟩
  have K : Hid (BSt w W0 w.heap.size sa sc s) := by have h := BSt.new (Below.refl _ w) hh0; rw [hW0] at h; exact h
  have HW := hid hW0
  clear hW0 hs hh0
  obtain ⟨q, hq⟩ : ∃ q, q = chkS s := ⟨_, rfl⟩
  obtain ⟨t, ht⟩ : ∃ t, t = thereS s z := ⟨_, rfl⟩
  have HQ := hid hq
  have HT := hid ht
  go_enter Try.func15, Try.ntmps15
  go_upto_region 1 with (fail)
  rw [HW.out]
  clear HW
  have c0 : W0.cell? ⟨w.heap.size, 0, none⟩ = some (.slice sa s.cells.length sc) := K.out.c0
  have c1 : W0.cell? ⟨w.heap.size, 1, none⟩ = some (.int .i64 s.ver) := K.out.c1
  have P := hid (rscheck_any W0 _ _ s K.out.val)
  rw [← hq] at P
  clear hq
  go_wp2_with fail
  refine P.out.mono ?_
  rintro e w1 ⟨rfl, b⟩
  clear P c0 c1
  replace K := hid (K.out.more b)
  clear b
  cases q
  · go_wp2_with fail
    go_ret3
    exact LookP.fin (by rw [lookS, ← HQ.out]; rfl) K.out.bel
  have c0 : w1.cell? ⟨w.heap.size, 0, none⟩ = some (.slice sa s.cells.length sc) := K.out.c0
  have c1 : w1.cell? ⟨w.heap.size, 1, none⟩ = some (.int .i64 s.ver) := K.out.c1
  have P := hid (rthere_any w1 _ _ s z K.out.val)
  rw [← ht] at P
  clear ht
  go_wp2_with fail
  refine P.out.mono ?_
  rintro e w2 ⟨rfl, b⟩
  clear P c0 c1
  replace K := hid (K.out.more b)
  clear b
  cases t
  · go_wp2_with fail
    go_ret3
    exact LookP.fin (by rw [lookS, ← HQ.out, ← HT.out]; rfl) K.out.bel
  obtain ⟨k, rfl, hk⟩ := there_nat HT.out.symm
  obtain ⟨b1, o1, x, hsa, hx, hcx, _, _, e1, e2⟩ := K.out.pick hk
  subst hsa
  have HX := hid hcx
  clear hx hcx
  have c0 : w2.cell? ⟨w.heap.size, 0, none⟩ = some (.slice (some ⟨b1, o1, none⟩) s.cells.length sc) := K.out.c0
  go_wp2_with fail
  go_quiet (fail)
  go_wp2_with fail
  go_ret3
  exact LookP.fin (by rw [lookS, ← HQ.out, ← HT.out, HX.out]; rfl) (below_drewN K.out.bel _)
end Go.Proofs.Ytplckigmllkpoaa
