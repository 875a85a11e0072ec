/- heap.Check, New: what each returns. -/
import Derived.Test.YtajhchfjoeblgaaHeapA
import Derived.Handy
namespace Go.Proofs.Ytajhchfjoeblgaa
open Go.RowKit Go.Shelf
/-- A heap. -/
structure Hp where
  nodes : List Nd
  most : Int
deriving DecidableEq
def HVal (w : World) (ok : Nat → Prop) (v : Value) (h : Hp) : Prop := ∃ sa sc, v = .agg #[.slice sa h.nodes.length sc, .int .i64 h.most] ∧ In h.most ∧ NSl w ok (.slice sa h.nodes.length sc) h.nodes
theorem NSl.below {w w' : World} {ok : Nat → Prop} {v : Value} {xs : List Nd} (h : NSl w ok v xs) (hb : Below w.heap.size w w') : NSl w' ok v xs := RSl.below nodeGood h hb
theorem NSl.all {w : World} {ok : Nat → Prop} {v : Value} {xs : List Nd} (h : NSl w ok v xs) : NSl w (fun _ => True) v xs := h.weak nodeGood (by decide) (fun _ _ _ => trivial)
theorem HVal.below {w w' : World} {ok : Nat → Prop} {v : Value} {x : Hp} (h : HVal w ok v x) (hb : Below w.heap.size w w') : HVal w' ok v x := by
  obtain ⟨sa, sc, e, i, s⟩ := h; exact ⟨sa, sc, e, i, s.below hb⟩
theorem HVal.all {w : World} {ok : Nat → Prop} {v : Value} {x : Hp} (h : HVal w ok v x) : HVal w (fun _ => True) v x := by
  obtain ⟨sa, sc, e, i, s⟩ := h; exact ⟨sa, sc, e, i, s.all⟩
/-- A predicate on nodes, as a function value. -/
def PredN (g : Nat) (lb : Array Value) (p : Nd → Bool) (w : World) : Prop :=
  ∀ (w' : World) (x : Nd) (v : Value), Below w.heap.size w w' → NVal w' (fun _ => True) v x → Calls Try.prog g (#[v] ++ lb) w' (Bb (p x) w')
set_option maxHeartbeats 1000000 in
theorem indexFuncN (g : Nat) (lb : Array Value) (eg : ∀ args w, (callFunc g args).run Try.prog w = .ok (.enter g args) w) (w : World) (ok : Nat → Prop) (v : Value) (xs : List Nd) (p : Nd → Bool)
    (h : NSl w ok v xs) (hp : PredN g lb p w) :
    Calls Try.prog 35 #[v, .func (.func g) #[] lb] w fun e w' => ∃ i : Int, e = .returned (.int .i64 i) ∧ (decide (0 ≤ i) = xs.any p) ∧ Below w.heap.size w w' := by
  obtain ⟨a1, c1, rfl, l1, _⟩ := h.shape
  go_enter Try.func35, Try.ntmps35
  go_wp2
  go_loopg [5, 8] xs.length (fun gg _ s8 wr => ∃ k : Nat, k ≤ xs.length ∧ xs.length - k ≤ gg ∧ s8 = .int .i64 k ∧ Hid (∀ j x, j < k → xs[j]? = some x → p x = false) ∧ Below w.heap.size w wr)
  case atStart => exact ⟨0, Nat.zero_le _, by omega, rfl, fun j x hj => absurd hj (by omega), Below.refl _ _⟩
  case round =>
    obtain ⟨k, hk, hg, rfl, HA, hb⟩ := hrel
    by_cases hlt : k < xs.length
    · obtain ⟨b1, o1, c1', x, sa, sc, hv1, hx, hin, hin2, hs, e1, e2, e3, e4⟩ := h.at hb (k := k) hlt
      cases hv1
      have HX := hid hx
      have hcall := hp wr x (.agg #[.int .i64 x.kind, .int .i64 x.num, .string x.name, .slice sa x.kids.length sc]) hb ⟨sa, sc, rfl, hin, hin2, hs.all⟩
      clear hx h hp hs
      cases hq : p x with
      | true =>
        rw [hq] at hcall
        go_wp2_with (go_at_fn g; refine hcall.mono ?_; rintro e w' ⟨rfl, hb'⟩)
        go_ret
        exact ⟨_, rfl, by rw [any_true_of HX.out hq]; simp, bthen hb hb'⟩
      | false =>
        rw [hq] at hcall
        go_wp2_with (go_at_fn g; refine hcall.mono ?_; rintro e w' ⟨rfl, hb'⟩)
        go_roundg (xs.length - (k + 1))
        case measure => omega
        case rel =>
          refine ⟨k + 1, by omega, by omega, by go_num, fun j y hj hy => ?_, bthen hb hb'⟩
          by_cases e : j = k
          · subst e; rw [HX.out] at hy; cases hy; exact hq
          · exact HA.out j y (by omega) hy
    · obtain rfl : k = xs.length := by omega
      go_wp2
      go_ret
      exact ⟨_, rfl, by rw [any_false_of (fun i x hx => HA.out i x (List.getElem?_eq_some_iff.1 hx).1 hx)]; simp, hb⟩
set_option maxHeartbeats 1000000 in
theorem containsFuncN (g : Nat) (lb : Array Value) (eg : ∀ args w, (callFunc g args).run Try.prog w = .ok (.enter g args) w) (w : World) (ok : Nat → Prop) (v : Value) (xs : List Nd) (p : Nd → Bool)
    (h : NSl w ok v xs) (hp : PredN g lb p w) :
    Calls Try.prog 25 #[v, .func (.func g) #[] lb] w (Bb (xs.any p) w) := by
  go_enter Try.func25, Try.ntmps25
  go_wp2_with fail
  refine (indexFuncN g lb eg w ok v xs p h hp).mono ?_
  rintro e w' ⟨i, rfl, hi, hb⟩
  have HI := hid hi
  clear hi
  go_wp2_with fail
  go_ret
  exact Bb.fin HI.out hb
set_option maxHeartbeats 1000000 in
/-- 'not may(n, len(h.Nodes))', h captured. -/
theorem check1_pred (w : World) (B : Nat) (a : Option Addr) (n c : Nat) (hn : n ≤ 9223372036854775807) (hB : w.cell? ⟨B, 0, none⟩ = some (.slice a n c)) : PredN 23 #[.pointer (some ⟨B, 0, none⟩)] (fun x => !mayN x n) w := by
  rintro w' x v hb hx
  have hc : w'.cell? ⟨B, 0, none⟩ = some (.slice a n c) := (hb.cell (World.block_lt_of_cell? w _ hB)).trans hB
  have hlt := World.block_lt_of_cell? w' _ hc
  simp only at hlt
  obtain ⟨sa, sc, rfl, hi, hj, hs⟩ := hx
  have hb0 : Below w'.heap.size w' (w'.alloc (.cells #[.int .i64 x.kind, .int .i64 x.num, .string x.name, .slice sa x.kids.length sc] 37)) := (Below.refl _ _).alloc (Nat.le_refl _) _
  have hmay := may_any _ (.agg #[.int .i64 x.kind, .int .i64 x.num, .string x.name, .slice sa x.kids.length sc]) x n ⟨sa, sc, rfl, hi, hj, hs.below intGood hb0⟩ ⟨by omega, by omega⟩
  have HM := hid hmay
  have HB := hid hb0
  obtain ⟨m, hm⟩ : ∃ m, m = mayN x n := ⟨_, rfl⟩
  show Calls _ _ _ _ (Bb (!mayN x n) w')
  rw [← hm] at HM ⊢
  clear hB hb hmay hb0 hs hm hi hj
  simp only [List.append_toArray, List.cons_append, List.nil_append]
  go_enter Try.func23, Try.ntmps23
  go_wp2_with fail
  refine HM.out.mono ?_
  rintro e w2 ⟨rfl, b2⟩
  have BB := hid (HB.out.trans (b2.mono HB.out.size))
  clear b2 HM HB
  go_wp2_with fail
  go_ret
  exact Bb.fin rfl BB.out
def chkH (h : Hp) : Bool := decide (0 ≤ h.most) && decide (h.most ≤ 5000) && decide ((h.nodes.length : Int) ≤ h.most) && !(h.nodes.any fun x => !mayN x h.nodes.length)
set_option maxHeartbeats 1000000 in
theorem check_any (w : World) (ok : Nat → Prop) (v : Value) (h : Hp) (hh : HVal w ok v h) :
    Calls Try.prog 16 #[v] w (Bb (chkH h) w) := by
  obtain ⟨sa, sc, rfl, hi, hs⟩ := hh
  obtain ⟨ns, most⟩ := h
  simp only at hi hs ⊢
  obtain ⟨_, _, e, l1, _⟩ := hs.shape
  cases e
  have hb0 : Below w.heap.size w (w.alloc (.cells #[.slice sa ns.length sc, .int .i64 most] 24)) := (Below.refl _ _).alloc (Nat.le_refl _) _
  have hc : (w.alloc (.cells #[.slice sa ns.length sc, .int .i64 most] 24)).cell? ⟨w.heap.size, 0, none⟩ = some (.slice sa ns.length sc) := cell_of (World.alloc_heap_new w _)
  have hcf := containsFuncN 23 #[.pointer (some ⟨w.heap.size, 0, none⟩)] (enters_of Try.func23 (by kernel_rfl) rfl) _ _ _ ns _ (hs.below hb0) (check1_pred _ w.heap.size sa ns.length sc l1 hc)
  have HC := hid hcf
  have HB := hid hb0
  clear hcf hb0 hc hs
  obtain ⟨q, hq⟩ : ∃ q, q = ns.any fun x => !mayN x ns.length := ⟨_, rfl⟩
  show Calls _ _ _ _ (Bb (decide (0 ≤ most) && decide (most ≤ 5000) && decide ((ns.length : Int) ≤ most) && !(ns.any fun x => !mayN x ns.length)) w)
  rw [← hq] at HC ⊢
  clear hq
  by_cases h1 : 0 ≤ most
  · by_cases h2 : most ≤ 5000
    · by_cases h3 : (ns.length : Int) ≤ most
      · have f1 : decide (most ≥ 0) = true := by simp; omega
        have f2 : decide (most ≤ 5000) = true := by simp; omega
        have f3 : decide ((ns.length : Int) ≤ most) = true := by simp; omega
        go_enter Try.func16, Try.ntmps16
        go_wp2_with fail
        refine HC.out.mono ?_
        rintro e w2 ⟨rfl, b2⟩
        have BB := hid (HB.out.trans (b2.mono HB.out.size))
        clear b2 HC HB
        go_wp2_with fail
        go_ret
        exact Bb.fin (by simp [h1, h2, h3]) BB.out
      · have f1 : decide (most ≥ 0) = true := by simp; omega
        have f2 : decide (most ≤ 5000) = true := by simp; omega
        have f3 : decide ((ns.length : Int) ≤ most) = false := by simp; omega
        go_enter Try.func16, Try.ntmps16
        go_wp2_with fail
        go_ret
        exact Bb.fin (by simp [h3]) HB.out
    · have f1 : decide (most ≥ 0) = true := by simp; omega
      have f2 : decide (most ≤ 5000) = false := by simp; omega
      go_enter Try.func16, Try.ntmps16
      go_wp2_with fail
      go_ret
      exact Bb.fin (by simp [h2]) HB.out
  · have f1 : decide (most ≥ 0) = false := by simp; omega
    go_enter Try.func16, Try.ntmps16
    go_wp2_with fail
    go_ret
    exact Bb.fin (by simp [h1]) HB.out
end Go.Proofs.Ytajhchfjoeblgaa
