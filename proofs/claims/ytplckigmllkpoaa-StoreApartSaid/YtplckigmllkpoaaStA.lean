/- Stores in memory; store.Check, there, Look: what each returns. -/
import Derived.Test.YtplckigmllkpoaaTlN
namespace Go.Proofs.Ytplckigmllkpoaa
open Go.RowKit Go.Shelf
attribute [local go_sem] Oper.semAt_some
set_option maxHeartbeats 1000000 in
theorem indexC (g : Nat) (lb : Array Value) (eg : ∀ args w, (callFunc g args).run Try.prog w = .ok (.enter g args) w) (w : World) (ok : Nat → Prop) (v : Value) (xs : List Pr) (p : Pr → Bool)
    (h : PSl w ok v xs) (hp : PredP g lb p w) : Calls Try.prog 53 #[v, .func (.func g) #[] lb] w (Ib (idxP xs p) w) := by
  obtain ⟨a1, c1, rfl, l1, _⟩ := h.shape
  go_enter Try.func53, Try.ntmps53
  go_wp2
  go_loopg [5, 8] xs.length (fun gg _ s8 wr => ∃ k : Nat, k ≤ xs.length ∧ xs.length - k ≤ gg ∧ s8 = .int .i64 k ∧ Hid (∀ j x, j < k → xs[j]? = some x → p x = false) ∧ Below w.heap.size w wr)
  case atStart => exact ⟨0, Nat.zero_le _, by omega, rfl, fun j x hj => absurd hj (by omega), Below.refl _ _⟩
  case round =>
    obtain ⟨k, hk, hg, rfl, HA, hb⟩ := hrel
    by_cases hlt : k < xs.length
    · obtain ⟨b1, o1, c1', x, hv1, hx, hin, hin2, e1, e2⟩ := h.at hb (k := k) hlt
      cases hv1
      have HX := hid hx
      have hcall := hp wr x hb hin hin2
      clear hx h hp
      cases hq : p x with
      | true =>
        rw [hq] at hcall
        go_wp2_with (go_at_fn g; refine hcall.mono ?_; rintro e w' ⟨rfl, hb'⟩)
        go_ret
        exact Ib.fin (idxP_yes HX.out hq HA.out).symm (bthen hb hb')
      | false =>
        rw [hq] at hcall
        go_wp2_with (go_at_fn g; refine hcall.mono ?_; rintro e w' ⟨rfl, hb'⟩)
        go_roundg (xs.length - (k + 1))
        case measure => omega
        case rel =>
          refine ⟨k + 1, by omega, by omega, by go_num, fun j y hj hy => ?_, bthen hb hb'⟩
          by_cases e : j = k
          · subst e; rw [HX.out] at hy; cases hy; exact hq
          · exact HA.out j y (by omega) hy
    · obtain rfl : k = xs.length := by omega
      go_wp2
      go_ret
      exact Ib.fin (idxP_no (fun i x hx => HA.out i x (List.getElem?_eq_some_iff.1 hx).1 hx)).symm hb
set_option maxHeartbeats 1000000 in
theorem containsC0 (g : Nat) (lb : Array Value) (eg : ∀ args w, (callFunc g args).run Try.prog w = .ok (.enter g args) w) (w : World) (ok : Nat → Prop) (v : Value) (xs : List Pr) (p : Pr → Bool)
    (h : PSl w ok v xs) (hp : PredP g lb p w) : Calls Try.prog 38 #[v, .func (.func g) #[] lb] w (Bb (decide (0 ≤ idxP xs p)) w) := by
  obtain ⟨z, hz⟩ : ∃ z, z = idxP xs p := ⟨_, rfl⟩
  have P := indexC g lb eg w ok v xs p h hp
  rw [← hz] at P ⊢
  have HP := hid P
  clear P h hp hz
  go_enter Try.func38, Try.ntmps38
  go_wp2_with fail
  refine HP.out.mono ?_
  rintro e w' ⟨rfl, hb⟩
  go_wp2_with fail
  go_ret
  exact Bb.fin rfl hb
theorem idx_has (xs : List Pr) (p : Pr → Bool) : decide (0 ≤ idxP xs p) = xs.any p := by
  unfold idxP
  cases h : xs.findIdx? p with
  | none =>
    rw [List.findIdx?_eq_none_iff] at h
    rw [show decide ((0 : Int) ≤ -1) = false from rfl, Eq.comm, List.any_eq_false]
    exact fun x hx => by rw [h x hx]; exact Bool.false_ne_true
  | some i =>
    obtain ⟨h1, h2, _⟩ := List.findIdx?_eq_some_iff_getElem.1 h
    rw [show decide ((0 : Int) ≤ (i : Int)) = true by simp, Eq.comm, List.any_eq_true]
    exact ⟨xs[i], List.getElem_mem h1, h2⟩
theorem containsC (g : Nat) (lb : Array Value) (eg : ∀ args w, (callFunc g args).run Try.prog w = .ok (.enter g args) w) (w : World) (ok : Nat → Prop) (v : Value) (xs : List Pr) (p : Pr → Bool)
    (h : PSl w ok v xs) (hp : PredP g lb p w) : Calls Try.prog 38 #[v, .func (.func g) #[] lb] w (Bb (xs.any p) w) := by
  rw [← idx_has]; exact containsC0 g lb eg w ok v xs p h hp
/-- A store: its cells (place, version), its version. -/
structure St where
  cells : List Pr
  ver : Int
deriving DecidableEq
def SVal (w : World) (ok : Nat → Prop) (v : Value) (s : St) : Prop := ∃ sa sc, v = .agg #[.slice sa s.cells.length sc, .int .i64 s.ver] ∧ In s.ver ∧ PSl w ok (.slice sa s.cells.length sc) s.cells
theorem SVal.more {w w' : World} {ok : Nat → Prop} {v : Value} {s : St} (h : SVal w ok v s) (b : Below w.heap.size w w') : SVal w' ok v s := by
  obtain ⟨sa, sc, e, h1, h2⟩ := h; exact ⟨sa, sc, e, h1, h2.more b⟩
theorem SVal.weak {w : World} {ok ok' : Nat → Prop} {v : Value} {s : St} (h : SVal w ok v s) (hs : ∀ b, b < w.heap.size → ok b → ok' b) : SVal w ok' v s := by
  obtain ⟨sa, sc, e, h1, h2⟩ := h; exact ⟨sa, sc, e, h1, h2.weak pairGood (by decide) hs⟩
theorem SVal.all {w : World} {ok : Nat → Prop} {v : Value} {s : St} (h : SVal w ok v s) : SVal w (fun _ => True) v s := h.weak (fun _ _ _ => trivial)
theorem SVal.keep {w w' : World} {ok : Nat → Prop} {v : Value} {s : St} (h : SVal w ok v s) (hs : Same ok w w') : SVal w' ok v s := by
  obtain ⟨sa, sc, e, h1, h2⟩ := h; exact ⟨sa, sc, e, h1, RSl.keep pairGood h2 hs⟩
def cbad (ver : Int) (c : Pr) : Bool := decide (c.2 < 0) || decide (ver < c.2)
def chkS (s : St) : Bool := decide (0 ≤ s.ver) && decide (s.ver ≤ 1099511627776) && !(s.cells.any (cbad s.ver))
def thereS (s : St) (v : Int) : Bool := decide (0 ≤ v) && decide (v < s.cells.length)
set_option maxHeartbeats 1000000 in
theorem scheck1_pred (w : World) (B : Nat) (ver : Int) (hB : w.cell? ⟨B, 1, none⟩ = some (.int .i64 ver)) : PredP 37 #[.pointer (some ⟨B, 0, none⟩)] (cbad ver) w := by
  rintro w' x hb hx hx2
  have hc : w'.cell? ⟨B, 1, none⟩ = some (.int .i64 ver) := (hb.cell (World.block_lt_of_cell? w _ hB)).trans hB
  have hlt := World.block_lt_of_cell? w' _ hc
  simp only at hlt
  clear hB hb
  simp only [List.append_toArray, List.cons_append, List.nil_append]
  show Calls _ _ _ _ (Bb (decide (x.2 < 0) || decide (ver < x.2)) w')
  by_cases h1 : x.2 < 0
  · have f1 : decide (x.2 < 0) = true := by simpa using h1
    go_enter Try.func37, Try.ntmps37
    go_wp2
    go_ret
    exact Bb.fin (by simp [h1]) ((Below.refl _ _).alloc (Nat.le_refl _) _)
  · have f1 : decide (x.2 < 0) = false := by simpa using h1
    cases h2 : decide (ver < x.2)
    · have f2 : decide (x.2 > ver) = false := h2
      go_enter Try.func37, Try.ntmps37
      go_wp2
      go_ret
      exact Bb.fin (by simp [f1]) ((Below.refl _ _).alloc (Nat.le_refl _) _)
    · have f2 : decide (x.2 > ver) = true := h2
      go_enter Try.func37, Try.ntmps37
      go_wp2
      go_ret
      exact Bb.fin (by simp [f1]) ((Below.refl _ _).alloc (Nat.le_refl _) _)
set_option maxHeartbeats 2000000 in
theorem scheck_any (w : World) (ok : Nat → Prop) (v : Value) (s : St) (hh : SVal w ok v s) : Calls Try.prog 22 #[v] w (Bb (chkS s) w) := by
  obtain ⟨sa, sc, rfl, hi, hs⟩ := hh
  obtain ⟨cs, ver⟩ := s
  simp only at hi hs ⊢
  obtain ⟨_, _, e, l1, _⟩ := hs.shape
  cases e
  have hb0 : Below w.heap.size w (w.alloc (.cells #[.slice sa cs.length sc, .int .i64 ver] 24)) := (Below.refl _ _).alloc (Nat.le_refl _) _
  have hc : (w.alloc (.cells #[.slice sa cs.length sc, .int .i64 ver] 24)).cell? ⟨w.heap.size, 1, none⟩ = some (.int .i64 ver) := cell_of (World.alloc_heap_new w _)
  have hcf := containsC 37 #[.pointer (some ⟨w.heap.size, 0, none⟩)] (enters_of Try.func37 (by kernel_rfl) rfl) _ _ _ cs _ (hs.more hb0) (scheck1_pred _ w.heap.size ver hc)
  have HC := hid hcf
  have HB := hid hb0
  clear hcf hb0 hc hs
  obtain ⟨q, hq⟩ : ∃ q, q = cs.any (cbad ver) := ⟨_, rfl⟩
  show Calls _ _ _ _ (Bb (decide (0 ≤ ver) && decide (ver ≤ 1099511627776) && !(cs.any (cbad ver))) w)
  rw [← hq] at HC ⊢
  clear hq
  by_cases h1 : 0 ≤ ver
  · by_cases h2 : ver ≤ 1099511627776
    · have f1 : decide (ver ≥ 0) = true := by simp; omega
      have f2 : decide (ver ≤ 1099511627776) = true := by simp; omega
      go_enter Try.func22, Try.ntmps22
      go_wp2_with fail
      refine HC.out.mono ?_
      rintro e w2 ⟨rfl, b2⟩
      have BB := hid (HB.out.trans (b2.mono HB.out.size))
      clear b2 HC HB
      go_wp2_with fail
      go_ret
      exact Bb.fin (by simp [h1, h2]) BB.out
    · have f1 : decide (ver ≥ 0) = true := by simp; omega
      have f2 : decide (ver ≤ 1099511627776) = false := by simp; omega
      go_enter Try.func22, Try.ntmps22
      go_wp2_with fail
      go_ret
      exact Bb.fin (by simp [h2]) HB.out
  · have f1 : decide (ver ≥ 0) = false := by simp; omega
    go_enter Try.func22, Try.ntmps22
    go_wp2_with fail
    go_ret
    exact Bb.fin (by simp [h1]) HB.out
set_option maxHeartbeats 1000000 in
theorem there_any (w : World) (ok : Nat → Prop) (v : Value) (s : St) (z : Int) (hh : SVal w ok v s) : Calls Try.prog 34 #[v, .int .i64 z] w (Bb (thereS s z) w) := by
  obtain ⟨sa, sc, rfl, hi, hs⟩ := hh
  obtain ⟨cs, ver⟩ := s
  simp only at hi hs ⊢
  obtain ⟨_, _, e, l1, _⟩ := hs.shape
  cases e
  clear hs
  show Calls _ _ _ _ (Bb (decide (0 ≤ z) && decide (z < cs.length)) w)
  by_cases h1 : 0 ≤ z
  · have f1 : decide (z ≥ 0) = true := by simp; omega
    go_enter Try.func34, Try.ntmps34
    go_wp2_with fail
    go_ret
    exact Bb.fin (by simp [h1]) ((Below.refl _ _).alloc (Nat.le_refl _) _)
  · have f1 : decide (z ≥ 0) = false := by simp; omega
    go_enter Try.func34, Try.ntmps34
    go_wp2_with fail
    go_ret
    exact Bb.fin (by simp [h1]) ((Below.refl _ _).alloc (Nat.le_refl _) _)
set_option maxHeartbeats 1000000 in
theorem rthere_any (w : World) (ok : Nat → Prop) (v : Value) (s : St) (z : Int) (hh : SVal w ok v s) : Calls Try.prog 36 #[v, .int .i64 z] w (Bb (thereS s z) w) := by
  obtain ⟨sa, sc, rfl, hi, hs⟩ := hh
  obtain ⟨cs, ver⟩ := s
  simp only at hi hs ⊢
  obtain ⟨_, _, e, l1, _⟩ := hs.shape
  cases e
  clear hs
  show Calls _ _ _ _ (Bb (decide (0 ≤ z) && decide (z < cs.length)) w)
  by_cases h1 : 0 ≤ z
  · have f1 : decide (z ≥ 0) = true := by simp; omega
    go_enter Try.func36, Try.ntmps36
    go_wp2_with fail
    go_ret
    exact Bb.fin (by simp [h1]) ((Below.refl _ _).alloc (Nat.le_refl _) _)
  · have f1 : decide (z ≥ 0) = false := by simp; omega
    go_enter Try.func36, Try.ntmps36
    go_wp2_with fail
    go_ret
    exact Bb.fin (by simp [h1]) ((Below.refl _ _).alloc (Nat.le_refl _) _)
end Go.Proofs.Ytplckigmllkpoaa
