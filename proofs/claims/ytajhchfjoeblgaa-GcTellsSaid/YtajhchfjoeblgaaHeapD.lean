/- heap.At: what it returns. -/
import Derived.Test.YtajhchfjoeblgaaHeapC
import Derived.Scope
import Derived.ScopeJumps
import Derived.WalkMore
namespace Go.Proofs.Ytajhchfjoeblgaa
open Go.RowKit Go.Shelf
/-- A scope with one label, to which the run jumps back: what stands ahead of the label is walked once, what stands behind it once. -/
theorem wp_scope_back {P : Program} {a : Act} {w : World} {Q : Exit → Act → World → Prop} {pre rest : Code} (l : Nat) (J : Act → World → Prop) (μ : Act → World → Nat) (hf : findLabel pre l = none)
    (first : pre.wp P (Exit.then J fun _ _ _ => False) a w)
    (pass : ∀ a w, J a w → rest.wp P (Exit.jump l (fun a' w' => J a' w' ∧ μ a' w' < μ a w) Q) a w) : (Code.scope (pre.seq ((Code.label l).seq rest))).wp P Q a w := by
  refine wp_scope_jumps (rest := .seq .skip rest) l J μ (by simp [findLabel, hf]) ?_ (fun a w h => wp_seq (wp_skip (pass a w h)))
  refine wp_seq (Code.wp_mono (fun e a' w' h => ?_) first)
  cases e with
  | normal => exact wp_seq (wp_label (Code.wp_mono (fun e a'' w'' h' => by cases e with
      | goto l' => exact ⟨h'.1, h'.2.1⟩
      | _ => exact h') (pass _ _ h)))
  | _ => exact h.elim
/-- The node of a place, and its place, where none is another one. -/
def follow (ns : List Nd) : Nat → Int → Option (Nd × Int)
  | 0, _ => none
  | f + 1, p => if p < 0 then none else match ns[p.toNat]? with
    | none => none
    | some n => if n.kind = 6 then (match n.kids with | [k] => follow ns f k | _ => none) else some (n, p)
def atN (ns : List Nd) (p : Int) : Option (Nd × Int) := follow ns (ns.length + 1) p
def AtPost (w : World) (r : Option (Nd × Int)) (e : Ending) (w' : World) : Prop :=
  match r with
  | some (x, p) => ∃ v, e = .returned (.tuple #[v, .int .i64 p, .int .i64 0]) ∧ NVal w' (fun _ => True) v x ∧ Below w.heap.size w w'
  | none => e = .returned (.tuple #[.agg #[.int .i64 0, .int .i64 0, .string ⟨#[]⟩, .slice none 0 0], .int .i64 0, .int .i64 140]) ∧ Below w.heap.size w w'
/-- .. what it returns is in memory of its own. -/
def AtNew (w : World) (r : Option (Nd × Int)) (e : Ending) (w' : World) : Prop :=
  match r with
  | some (x, p) => ∃ v, e = .returned (.tuple #[v, .int .i64 p, .int .i64 0]) ∧ NVal w' (fun b => w.heap.size ≤ b) v x ∧ Below w.heap.size w w'
  | none => e = .returned (.tuple #[.agg #[.int .i64 0, .int .i64 0, .string ⟨#[]⟩, .slice none 0 0], .int .i64 0, .int .i64 140]) ∧ Below w.heap.size w w'
set_option maxHeartbeats 2000000 in
theorem at_fresh (w : World) (ok : Nat → Prop) (v : Value) (h : Hp) (p : Int) (hh : HVal w ok v h) (hp : In p) (hn : h.nodes.length ≤ 1000000) (hkb : ∀ x ∈ h.nodes, x.kids.length ≤ 1000000000) :
    Calls Try.prog 17 #[v, .int .i64 p] w (AtNew w (atN h.nodes p)) := by
  obtain ⟨sa, sc, rfl, hi, hs⟩ := hh
  obtain ⟨ns, most⟩ := h
  simp only at hi hs hn hkb ⊢
  have HKB := hid hkb
  clear hkb
  obtain ⟨_, _, e, l1, _⟩ := hs.shape
  cases e
  obtain ⟨W0, hW0⟩ : ∃ W0, (w.alloc (Obj.cells #[.slice sa ns.length sc, .int .i64 most] 24)).alloc (Obj.cells #[.int .i64 0, .int .i64 0, .string ⟨#[]⟩, .slice none 0 0] 37) = W0 := ⟨_, rfl⟩
  have hb0 : Below w.heap.size w W0 := by rw [← hW0]; exact ((Below.refl _ _).alloc (Nat.le_refl _) _).alloc (by simp) _
  have hz0 : W0.heap.size = w.heap.size + 2 := by rw [← hW0]; simp
  have h1 := heap_one w (Obj.cells #[.slice sa ns.length sc, .int .i64 most] 24) (Obj.cells #[.int .i64 0, .int .i64 0, .string ⟨#[]⟩, .slice none 0 0] 37)
  have h2 := heap_two w (Obj.cells #[.slice sa ns.length sc, .int .i64 most] 24) (Obj.cells #[.int .i64 0, .int .i64 0, .string ⟨#[]⟩, .slice none 0 0] 37)
  rw [hW0] at h1 h2
  have c0 : W0.cell? ⟨w.heap.size, 0, none⟩ = some (.slice sa ns.length sc) := cell_of h1
  have HI := hid (And.intro hi hs)
  have HB := hid (And.intro hb0 (And.intro h1 h2))
  have HW := hid hW0
  have HZ := hid hz0
  clear hs hi hb0 h1 h2 hW0 hz0
  go_enter Try.func17, Try.ntmps17
  go_wp2_with fail
  rw [HW.out]
  obtain ⟨J, hJ⟩ : ∃ J : Act → World → Prop, J = (fun a' w' => ∃ (q left : Int) (u8 u9 u10 u11 u12 u13 u14 u15 u16 u17 u18 u19 u20 u21 u22 u23 u24 u25 u26 u27 u28 u29 u30 u31 u32 u33 u34 u35 u36 u37 u38 u39 u40 u41 u42 u43 u44 u45 u46 u47 : Value), a' = { tmps := #[Value.agg #[Value.slice sa ns.length sc, Value.int IntKind.i64 most], Value.int IntKind.i64 q,
          Value.pointer (some { block := w.heap.size, off := 0 }), undef,
          Value.pointer (some { block := w.heap.size + 1, off := 0 }), Value.int IntKind.i64 0, Value.int IntKind.i64 0, Value.int IntKind.i64 left, u8, u9, u10, u11, u12, u13, u14, u15, u16, u17, u18, u19, u20, u21, u22, u23, u24, u25, u26, u27, u28, u29, u30, u31, u32, u33, u34, u35, u36, u37, u38, u39, u40, u41, u42, u43, u44, u45, u46, u47], defers := [] } ∧
        -1 ≤ left ∧ left ≤ ns.length ∧ In q ∧ follow ns (left + 1).toNat q = atN ns p ∧ Below W0.heap.size W0 w') := ⟨_, rfl⟩
  obtain ⟨μ, hμ⟩ : ∃ μ : Act → World → Nat, μ = (fun a' _ => (intOf (a'.tmps.getD 7 undef) + 1).toNat) := ⟨_, rfl⟩
  have HJ := hid hJ
  have HM := hid hμ
  clear hJ hμ
  refine wp_scope_back 0 J μ rfl ?_ ?_
  · go_wp2_with fail
    rw [HJ.out]
    exact ⟨p, ns.length, _, _, _, _, _, _, _, _, _, _, _, _, _, _, _, _, _, _, _, _, _, _, _, _, _, _, _, _, _, _, _, _, _, _, _, _, _, _, _, _, rfl, by omega, Int.le_refl _, hp, by rw [atN]; congr 1, Below.refl _ _⟩
  · intro a w1 hj
    rw [HJ.out] at hj
    obtain ⟨q, left, u8, u9, u10, u11, u12, u13, u14, u15, u16, u17, u18, u19, u20, u21, u22, u23, u24, u25, u26, u27, u28, u29, u30, u31, u32, u33, u34, u35, u36, u37, u38, u39, u40, u41, u42, u43, u44, u45, u46, u47, rfl, hl1, hl2, hq, hfol, hb⟩ := hj
    obtain ⟨m0, hm0⟩ : ∃ m0, m0 = μ { tmps := #[Value.agg #[Value.slice sa ns.length sc, Value.int IntKind.i64 most], Value.int IntKind.i64 q,
          Value.pointer (some { block := w.heap.size, off := 0 }), undef,
          Value.pointer (some { block := w.heap.size + 1, off := 0 }), Value.int IntKind.i64 0, Value.int IntKind.i64 0, Value.int IntKind.i64 left, u8, u9, u10, u11, u12, u13, u14, u15, u16, u17, u18, u19, u20, u21, u22, u23, u24, u25, u26, u27, u28, u29, u30, u31, u32, u33, u34, u35, u36, u37, u38, u39, u40, u41, u42, u43, u44, u45, u46, u47], defers := [] } w1 := ⟨_, rfl⟩
    rw [← hm0]
    have HM0 : Hid (m0 = (left + 1).toNat) := by show _ = _; rw [hm0, HM.out]; rfl
    clear hm0
    have h1 := (hb.block _ (lt_of_some HB.out.2.1)).trans HB.out.2.1
    have h2 := (hb.block _ (lt_of_some HB.out.2.2)).trans HB.out.2.2
    have bw := hid (HB.out.1.trans (hb.mono HB.out.1.size))
    have c0 : w1.cell? ⟨w.heap.size, 0, none⟩ = some (.slice sa ns.length sc) := cell_of h1
    have q0 : w1.cell? ⟨w.heap.size + 1, 0, none⟩ = some (.int .i64 0) := cell_of h2
    have q1 : w1.cell? ⟨w.heap.size + 1, 1, none⟩ = some (.int .i64 0) := cell_of h2
    have q2 : w1.cell? ⟨w.heap.size + 1, 2, none⟩ = some (.string ⟨#[]⟩) := cell_of h2
    have q3 : w1.cell? ⟨w.heap.size + 1, 3, none⟩ = some (.slice none 0 0) := cell_of h2
    have hf2 : ∀ i, w1.frozen? ⟨w.heap.size + 1, i, none⟩ = false := fun i => free_of h2
    have g2 := heap_set (i := 3) (v := .slice none 0 0) (heap_set (i := 2) (v := .string ⟨#[]⟩) (heap_set (i := 1) (v := .int .i64 0) (heap_set (i := 0) (v := .int .i64 0) h2)))
    have HT := hid g2
    have HH := hid (And.intro h1 (And.intro h2 hb))
    clear hb h1 h2 g2
    by_cases e1 : q < 0
    · have f1 : decide (q < 0) = true := by simp; omega
      have hnone : atN ns p = none := by
        rw [← hfol]; cases (left + 1).toNat <;> simp [follow, e1]
      rw [hnone]
      go_wp2_with fail
      simp only [Exit.jump]
      have t0 := cell_at (i := 0) (v := .int .i64 0) HT.out rfl
      have t1 := cell_at (i := 1) (v := .int .i64 0) HT.out rfl
      have t2 := cell_at (i := 2) (v := .string ⟨#[]⟩) HT.out rfl
      have t3 := cell_at (i := 3) (v := .slice none 0 0) HT.out rfl
      have hbw := bw.out
      exact bodyPost_ret (v := .tuple #[.agg #[.int .i64 0, .int .i64 0, .string ⟨#[]⟩, .slice none 0 0], .int .i64 0, .int .i64 140]) (by simp [results, Try.results17, go_sem, t0, t1, t2, t3]) rfl ⟨rfl, by go_grown⟩
    · have f1 : decide (q < 0) = false := by simp; omega
      obtain ⟨k, rfl⟩ : ∃ k : Nat, q = k := ⟨q.toNat, by omega⟩
      by_cases e2 : k < ns.length
      · have f2 : decide ((k : Int) ≥ ns.length) = false := by simp; omega
        by_cases e3 : left < 0
        · have f3 : decide (left < 0) = true := by simp; omega
          have hnone : atN ns p = none := by
            rw [← hfol, show (left + 1).toNat = 0 by omega]; rfl
          rw [hnone]
          go_wp2_with fail
          simp only [Exit.jump]
          have t0 := cell_at (i := 0) (v := .int .i64 0) HT.out rfl
          have t1 := cell_at (i := 1) (v := .int .i64 0) HT.out rfl
          have t2 := cell_at (i := 2) (v := .string ⟨#[]⟩) HT.out rfl
          have t3 := cell_at (i := 3) (v := .slice none 0 0) HT.out rfl
          have hbw := bw.out
          exact bodyPost_ret (v := .tuple #[.agg #[.int .i64 0, .int .i64 0, .string ⟨#[]⟩, .slice none 0 0], .int .i64 0, .int .i64 140]) (by simp [results, Try.results17, go_sem, t0, t1, t2, t3]) rfl ⟨rfl, by go_grown⟩
        · have f3 : decide (left < 0) = false := by simp; omega
          obtain ⟨lf, rfl⟩ : ∃ lf : Nat, left = lf := ⟨left.toNat, by omega⟩
          rw [show ((lf : Int) + 1).toNat = lf + 1 by omega] at hfol HM0
          obtain ⟨b1, o1, c1', x, sx, cx, hv1, hx, hik, hin, hsx, d0, d1, d2, d3⟩ := HI.out.2.at bw.out (k := k) e2
          cases hv1
          have hfol2 : (if x.kind = 6 then (match x.kids with | [z] => follow ns lf z | _ => none) else some (x, (k : Int))) = atN ns p := by
            rw [← hfol, follow]
            simp only [e1, if_false, Int.toNat_natCast, hx]
          go_upto_region 5 with (fail)
          clear HT hf2 q0 q1 q2 q3 c0 d0 d1 d2 d3 hfol f1 f2 f3
          obtain ⟨W2, hW2⟩ : ∃ W2, w1.alloc (Obj.cells #[.int .i64 x.kind, .int .i64 x.num, .string x.name, .slice sx x.kids.length cx] 37) = W2 := ⟨_, rfl⟩
          have b12 : Below w1.heap.size w1 W2 := by rw [← hW2]; exact (Below.refl _ _).alloc (Nat.le_refl _) _
          have h3 : W2.heap[w1.heap.size]? = some (Obj.cells #[.int .i64 x.kind, .int .i64 x.num, .string x.name, .slice sx x.kids.length cx] 37) := by rw [← hW2]; exact World.alloc_heap_new _ _
          have h1 := (b12.block _ (lt_of_some HH.out.1)).trans HH.out.1
          have h2 := (b12.block _ (lt_of_some HH.out.2.1)).trans HH.out.2.1
          rw [hW2]
          have c0 : W2.cell? ⟨w.heap.size, 0, none⟩ = some (.slice (some ⟨b1, o1, none⟩) ns.length sc) := cell_of h1
          have q0 : W2.cell? ⟨w.heap.size + 1, 0, none⟩ = some (.int .i64 0) := cell_of h2
          have q1 : W2.cell? ⟨w.heap.size + 1, 1, none⟩ = some (.int .i64 0) := cell_of h2
          have q2 : W2.cell? ⟨w.heap.size + 1, 2, none⟩ = some (.string ⟨#[]⟩) := cell_of h2
          have q3 : W2.cell? ⟨w.heap.size + 1, 3, none⟩ = some (.slice none 0 0) := cell_of h2
          have hf2 : ∀ i, W2.frozen? ⟨w.heap.size + 1, i, none⟩ = false := fun i => free_of h2
          have r0 : W2.cell? ⟨w1.heap.size, 0, none⟩ = some (.int .i64 x.kind) := cell_of h3
          have r1 : W2.cell? ⟨w1.heap.size, 1, none⟩ = some (.int .i64 x.num) := cell_of h3
          have r2 : W2.cell? ⟨w1.heap.size, 2, none⟩ = some (.string x.name) := cell_of h3
          have r3 : W2.cell? ⟨w1.heap.size, 3, none⟩ = some (.slice sx x.kids.length cx) := cell_of h3
          have HX := hid (And.intro h2 (And.intro (bw.out.trans (b12.mono bw.out.size)) (And.intro hsx (And.intro b12 (HH.out.2.2.trans (b12.mono HH.out.2.2.size))))))
          obtain ⟨_, _, e, lx, _⟩ := hsx.shape
          cases e
          have HK := hid (And.intro hik (And.intro hin hq))
          have HXX := hid hx
          clear h1 h2 h3 hW2 b12 hsx hik hin hq
          by_cases e4 : x.kind = 6
          · have f4 : (x.kind != 6) = false := by simpa using e4
            rw [if_pos e4] at hfol2
            by_cases e5 : x.kids.length = 1
            · obtain ⟨z, hz⟩ : ∃ z, x.kids = [z] := List.length_eq_one_iff.1 e5
              rw [hz] at hfol2
              simp only at hfol2
              obtain ⟨b2, o2, c2', z', hv2, hz2, hinz, e2'⟩ := ISl.at HX.out.2.2.1 HX.out.2.2.2.1 (k := 0) (by omega)
              cases hv2
              obtain rfl : z = z' := by rw [hz] at hz2; simpa using hz2
              replace e2' : W2.cell? ⟨b2, o2, none⟩ = some (.int .i64 z) := by simpa using e2'
              have f5 : ((x.kids.length : Int) != 1) = false := by simp [e5]
              go_wp2_with fail
              go_step3
              refine ⟨rfl, ?_, ?_⟩
              · rw [HJ.out]
                exact ⟨z, (lf : Int) - 1, _, _, _, _, _, _, _, _, _, _, _, _, _, _, _, _, _, _, _, _, _, _, _, _, _, _, _, _, _, _, _, _, _, _, _, _, _, _, _, _, rfl, by omega, by omega, hinz, by rw [← hfol2]; congr 1 <;> omega, HX.out.2.2.2.2⟩
              · rw [HM.out, HM0.out]; simp [intOf] <;> omega
            · have f5 : ((x.kids.length : Int) != 1) = true := by simp; omega
              have hnone : atN ns p = none := by
                rw [← hfol2]
                match hk : x.kids with
                | [] => rfl
                | [_] => rw [hk] at e5; exact absurd rfl e5
                | _ :: _ :: _ => rfl
              go_wp2_with fail
              simp only [Exit.jump]
              have g2 := heap_set (i := 3) (v := .slice none 0 0) (heap_set (i := 2) (v := .string ⟨#[]⟩) (heap_set (i := 1) (v := .int .i64 0) (heap_set (i := 0) (v := .int .i64 0) HX.out.1)))
              have t0 := cell_at (i := 0) (v := .int .i64 0) g2 rfl
              have t1 := cell_at (i := 1) (v := .int .i64 0) g2 rfl
              have t2 := cell_at (i := 2) (v := .string ⟨#[]⟩) g2 rfl
              have t3 := cell_at (i := 3) (v := .slice none 0 0) g2 rfl
              have hbw := HX.out.2.1
              exact bodyPost_ret (v := .tuple #[.agg #[.int .i64 0, .int .i64 0, .string ⟨#[]⟩, .slice none 0 0], .int .i64 0, .int .i64 140]) (by simp [results, Try.results17, go_sem, t0, t1, t2, t3]) rfl (by first | exact ⟨rfl, by go_grown⟩ | (rw [hnone]; exact ⟨rfl, by go_grown⟩))
          · have f4 : (x.kind != 6) = true := by simpa using e4
            rw [if_neg e4] at hfol2
            have HC := hid (own_any W2 _ x ⟨sx, cx, rfl, HK.out.1, HK.out.2.1, ISl.all (RSl.below intGood HX.out.2.2.1 HX.out.2.2.2.1)⟩ (HKB.out x (List.mem_of_getElem? HXX.out)))
            go_wp2_with fail
            refine HC.out.mono ?_
            rintro e w3 ⟨v3, rfl, ⟨sa3, sc3, rfl, _, _, hs3⟩, b3⟩
            have h2 := (b3.block _ (lt_of_some HX.out.1)).trans HX.out.1
            have q0 : w3.cell? ⟨w.heap.size + 1, 0, none⟩ = some (.int .i64 0) := cell_of h2
            have q1 : w3.cell? ⟨w.heap.size + 1, 1, none⟩ = some (.int .i64 0) := cell_of h2
            have q2 : w3.cell? ⟨w.heap.size + 1, 2, none⟩ = some (.string ⟨#[]⟩) := cell_of h2
            have q3 : w3.cell? ⟨w.heap.size + 1, 3, none⟩ = some (.slice none 0 0) := cell_of h2
            have hf2 : ∀ i, w3.frozen? ⟨w.heap.size + 1, i, none⟩ = false := fun i => free_of h2
            have hlt := lt_of_some HX.out.1
            have HY := hid (And.intro h2 (And.intro hs3 (HX.out.2.1.trans (b3.mono HX.out.2.1.size))))
            clear h2 hs3 b3 HC r0 r1 r2 r3 c0
            go_wp2_with fail
            simp only [Exit.jump]
            have g2 := heap_set (i := 3) (v := .slice sa3 x.kids.length sc3) (heap_set (i := 2) (v := .string x.name) (heap_set (i := 1) (v := .int .i64 x.num) (heap_set (i := 0) (v := .int .i64 x.kind) HY.out.1)))
            have t0 := cell_at (i := 0) (v := .int .i64 x.kind) g2 rfl
            have t1 := cell_at (i := 1) (v := .int .i64 x.num) g2 rfl
            have t2 := cell_at (i := 2) (v := .string x.name) g2 rfl
            have t3 := cell_at (i := 3) (v := .slice sa3 x.kids.length sc3) g2 rfl
            have hbw := HY.out.2.2
            refine bodyPost_ret (v := .tuple #[.agg #[.int .i64 x.kind, .int .i64 x.num, .string x.name, .slice sa3 x.kids.length sc3], .int .i64 k, .int .i64 0]) (by simp [results, Try.results17, go_sem, t0, t1, t2, t3]) rfl ?_
            rw [← hfol2]
            refine ⟨_, rfl, ⟨_, _, rfl, HK.out.1, HK.out.2.1, ?_⟩, by go_grown⟩
            have hsz := HX.out.2.1.size
            refine RSl.weak intGood (by decide) (RSl.keep intGood HY.out.2.1 (w' := _) (((((Same.refl _ _).setCell _ ?_).setCell _ ?_).setCell _ ?_).setCell _ ?_)) (fun b _ h => Nat.le_trans hsz h)
            all_goals (simp; omega)
      · have f2 : decide ((k : Int) ≥ ns.length) = true := by simp; omega
        have hnone : atN ns p = none := by
          rw [← hfol]; cases (left + 1).toNat with
          | zero => rfl
          | succ n => rw [follow, List.getElem?_eq_none (by omega)]; simp
        rw [hnone]
        go_wp2_with fail
        simp only [Exit.jump]
        have t0 := cell_at (i := 0) (v := .int .i64 0) HT.out rfl
        have t1 := cell_at (i := 1) (v := .int .i64 0) HT.out rfl
        have t2 := cell_at (i := 2) (v := .string ⟨#[]⟩) HT.out rfl
        have t3 := cell_at (i := 3) (v := .slice none 0 0) HT.out rfl
        have hbw := bw.out
        exact bodyPost_ret (v := .tuple #[.agg #[.int .i64 0, .int .i64 0, .string ⟨#[]⟩, .slice none 0 0], .int .i64 0, .int .i64 140]) (by simp [results, Try.results17, go_sem, t0, t1, t2, t3]) rfl ⟨rfl, by go_grown⟩
theorem at_any (w : World) (ok : Nat → Prop) (v : Value) (h : Hp) (p : Int) (hh : HVal w ok v h) (hp : In p) (hn : h.nodes.length ≤ 1000000) (hkb : ∀ x ∈ h.nodes, x.kids.length ≤ 1000000000) :
    Calls Try.prog 17 #[v, .int .i64 p] w (AtPost w (atN h.nodes p)) := by
  refine (at_fresh w ok v h p hh hp hn hkb).mono fun e w' hp' => ?_
  cases hat : atN h.nodes p with
  | none => rw [hat] at hp'; exact hp'
  | some r =>
    rw [hat] at hp'
    obtain ⟨v, he, hv, hb⟩ := hp'
    exact ⟨v, he, hv.all, hb⟩
end Go.Proofs.Ytajhchfjoeblgaa
