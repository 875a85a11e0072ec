/- Nodes in memory; what node may be; the contracts of heap's small functions. -/
import Derived.Test.YtajhchfjoeblgaaInts
import Derived.Test.YtajhchfjoeblgaaHeldB
import Derived.Test.YtajhchfjoeblgaaOwn
namespace Go.Proofs.Ytajhchfjoeblgaa
open Go.RowKit Go.Shelf
/-- A node. -/
structure Nd where
  kind : Int
  num : Int
  name : ByteArray
  kids : List Int
deriving DecidableEq
instance : Inhabited Nd := ⟨⟨0, 0, ByteArray.empty, []⟩⟩
/-- A node in its four cells. -/
def NodeE : Enc Nd := fun w ok x row => ∃ sv, row = [.int .i64 x.kind, .int .i64 x.num, .string x.name, sv] ∧ In x.kind ∧ In x.num ∧ ISl w ok sv x.kids
theorem nodeGood : Good NodeE 4 :=
  ⟨fun _ _ _ _ ⟨_, h, _⟩ => by rw [h]; rfl, fun _ _ _ _ _ hs ⟨sv, h, i, j, s⟩ => ⟨sv, h, i, j, s.keep intGood hs⟩, fun _ _ _ _ _ hs ⟨sv, h, i, j, s⟩ => ⟨sv, h, i, j, s.weak intGood (by decide) hs⟩⟩
abbrev NSl := RSl NodeE 4
/-- A node as a value. -/
def NVal (w : World) (ok : Nat → Prop) (v : Value) (x : Nd) : Prop := ∃ sa sc, v = .agg #[.int .i64 x.kind, .int .i64 x.num, .string x.name, .slice sa x.kids.length sc] ∧ In x.kind ∧ In x.num ∧ ISl w ok (.slice sa x.kids.length sc) x.kids
theorem NVal.below {w w' : World} {ok : Nat → Prop} {v : Value} {x : Nd} (h : NVal w ok v x) (hb : Below w.heap.size w w') : NVal w' ok v x := by
  obtain ⟨sa, sc, e, i, j, s⟩ := h; exact ⟨sa, sc, e, i, j, s.below intGood hb⟩
theorem ISl.all {w : World} {ok : Nat → Prop} {v : Value} {xs : List Int} (h : ISl w ok v xs) : ISl w (fun _ => True) v xs := h.weak intGood (by decide) (fun _ _ _ => trivial)
theorem NVal.all {w : World} {ok : Nat → Prop} {v : Value} {x : Nd} (h : NVal w ok v x) : NVal w (fun _ => True) v x := by
  obtain ⟨sa, sc, e, i, j, s⟩ := h; exact ⟨sa, sc, e, i, j, s.all⟩
/-- The k-th node of a slice, in a later world. -/
theorem NSl.at {w wr : World} {ok : Nat → Prop} {v : Value} {xs : List Nd} (h : NSl w ok v xs) (hb : Below w.heap.size w wr) {k : Nat} (hk : k < xs.length) :
    ∃ b off cap x sa sc, v = .slice (some ⟨b, off, none⟩) xs.length cap ∧ xs[k]? = some x ∧ In x.kind ∧ In x.num ∧ ISl wr ok (.slice sa x.kids.length sc) x.kids ∧
      wr.cell? ⟨b, off + k * 4, none⟩ = some (.int .i64 x.kind) ∧ wr.cell? ⟨b, off + k * 4 + 1, none⟩ = some (.int .i64 x.num) ∧ wr.cell? ⟨b, off + k * 4 + 2, none⟩ = some (.string x.name) ∧ wr.cell? ⟨b, off + k * 4 + 3, none⟩ = some (.slice sa x.kids.length sc) := by
  obtain ⟨ao, cap, rfl, _, _, _, h4⟩ := h
  obtain ⟨b, off, rfl, _, hc⟩ := h4 (by omega)
  obtain ⟨row, ⟨sv, hr, hi, hj, hs⟩, hu⟩ := hc k hk
  obtain ⟨sa, sc, rfl, _⟩ := hs.shape
  have c0 := hu 0 _ (by rw [hr]; rfl)
  have c1 := hu 1 _ (by rw [hr]; rfl)
  have c2 := hu 2 _ (by rw [hr]; rfl)
  have c3 := hu 3 _ (by rw [hr]; rfl)
  refine ⟨b, off, cap, xs[k], sa, sc, rfl, List.getElem?_eq_getElem hk, hi, hj, hs.below intGood hb, ?_, ?_, ?_, ?_⟩
  · rw [Nat.add_zero] at c0; rw [hb.cell (World.block_lt_of_cell? w _ c0)]; exact c0
  · rw [hb.cell (World.block_lt_of_cell? w _ c1)]; exact c1
  · rw [hb.cell (World.block_lt_of_cell? w _ c2)]; exact c2
  · rw [hb.cell (World.block_lt_of_cell? w _ c3)]; exact c3
theorem NSl.shape {w : World} {ok : Nat → Prop} {v : Value} {xs : List Nd} (h : NSl w ok v xs) : ∃ ao cap, v = .slice ao xs.length cap ∧ xs.length ≤ 9223372036854775807 ∧ (ao = none → xs.length = 0) := by
  obtain ⟨ao, cap, rfl, h1, h2, h3, _⟩ := h
  unfold maxLen at h2
  exact ⟨ao, cap, rfl, by omega, fun h => by have := h3 h; omega⟩
/-- Whether a node may be, beside so many places. -/
def kidsIn (ks : List Int) (many : Int) : Bool := !(ks.any fun k => decide (k < 0) || decide (many ≤ k))
def emp (s : ByteArray) : Bool := s.toList.isEmpty
def kindOk (kd n : Int) (nm : ByteArray) (len : Nat) : Bool :=
  if kd = 1 then emp nm && decide (len = 0)
  else if kd = 2 then decide ((len : Int) ≤ n)
  else if kd = 3 ∨ kd = 4 then emp nm && decide (0 ≤ n)
  else if kd = 6 then emp nm && decide (0 ≤ n) && decide (len = 1)
  else if kd = 5 ∨ kd = 7 then emp nm && decide (0 ≤ n) && decide (len = 0)
  else false
def mayN (x : Nd) (many : Int) : Bool := kidsIn x.kids many && kindOk x.kind x.num x.name x.kids.length
set_option maxHeartbeats 400000 in
/-- 'k < 0 || k >= many', many captured. -/
theorem may1_pred (w : World) (B : Nat) (t : Int) (hB : w.cell? ⟨B, 0, none⟩ = some (.int .i64 t)) : PredI 34 #[.pointer (some ⟨B, 0, none⟩)] (fun k => decide (k < 0) || decide (t ≤ k)) w := by
  rintro w' x hb hx
  have hc : w'.cell? ⟨B, 0, none⟩ = some (.int .i64 t) := (hb.cell (World.block_lt_of_cell? w _ hB)).trans hB
  clear hB hb
  simp only [List.append_toArray, List.cons_append, List.nil_append]
  cases h1 : decide (x < 0)
  · cases h2 : decide (t ≤ x)
    · have h2' : decide (x ≥ t) = false := h2
      go_enter Try.func34, Try.ntmps34
      go_wp2
      go_ret
      exact Bb.fin rfl (Below.refl _ _)
    · have h2' : decide (x ≥ t) = true := h2
      go_enter Try.func34, Try.ntmps34
      go_wp2
      go_ret
      exact Bb.fin rfl (Below.refl _ _)
  · go_enter Try.func34, Try.ntmps34
    go_wp2
    go_ret
    exact Bb.fin rfl (Below.refl _ _)
set_option maxHeartbeats 2000000 in
theorem may_any (w : World) (v : Value) (x : Nd) (many : Int) (h : NVal w (fun _ => True) v x) (hm : In many) :
    Calls Try.prog 24 #[v, .int .i64 many] w (Bb (mayN x many) w) := by
  obtain ⟨sa, sc, rfl, hi, hj, hs⟩ := h
  obtain ⟨kd, n, nm, ks⟩ := x
  simp only at hi hj hs ⊢
  obtain ⟨_, _, e, l1, _⟩ := hs.shape
  cases e
  have hb0 : Below w.heap.size w ((w.alloc (.cells #[.int .i64 kd, .int .i64 n, .string nm, .slice sa ks.length sc] 37)).alloc (.cells #[.int .i64 many] 3)) := ((Below.refl _ _).alloc (Nat.le_refl _) _).alloc (by simp) _
  have h1 := heap_one w (.cells #[.int .i64 kd, .int .i64 n, .string nm, .slice sa ks.length sc] 37) (.cells #[.int .i64 many] 3)
  have h2 := heap_two w (.cells #[.int .i64 kd, .int .i64 n, .string nm, .slice sa ks.length sc] 37) (.cells #[.int .i64 many] 3)
  obtain ⟨W0, hW0⟩ : ∃ W0, (w.alloc (.cells #[.int .i64 kd, .int .i64 n, .string nm, .slice sa ks.length sc] 37)).alloc (.cells #[.int .i64 many] 3) = W0 := ⟨_, rfl⟩
  rw [hW0] at hb0 h1 h2
  have hcf := containsFuncI 34 #[.pointer (some ⟨w.heap.size + 1, 0, none⟩)] (enters_of Try.func34 (by kernel_rfl) rfl) W0 _ _ ks _ (hs.below intGood hb0) (may1_pred W0 (w.heap.size + 1) many (cell_of h2))
  have HC := hid hcf
  have HB := hid (And.intro hb0 h1)
  have HW := hid hW0
  clear hcf hb0 h1 h2 hs hW0
  show Calls _ _ _ _ (Bb (!(ks.any fun k => decide (k < 0) || decide (many ≤ k)) && kindOk kd n nm ks.length) w)
  obtain ⟨kb, hkb⟩ : ∃ kb, kb = ks.any fun k => decide (k < 0) || decide (many ≤ k) := ⟨_, rfl⟩
  rw [← hkb] at HC ⊢
  clear hkb
  go_enter Try.func24, Try.ntmps24
  go_wp2_with fail
  rw [HW.out]
  refine HC.out.mono ?_
  rintro e w2 ⟨rfl, b2⟩
  have hh := (b2.block _ (lt_of_some HB.out.2)).trans HB.out.2
  have p0 : w2.cell? ⟨w.heap.size, 0, none⟩ = some (.int .i64 kd) := cell_of hh
  have p1 : w2.cell? ⟨w.heap.size, 1, none⟩ = some (.int .i64 n) := cell_of hh
  have p2 : w2.cell? ⟨w.heap.size, 2, none⟩ = some (.string nm) := cell_of hh
  have p3 : w2.cell? ⟨w.heap.size, 3, none⟩ = some (.slice sa ks.length sc) := cell_of hh
  have BB := hid (HB.out.1.trans (b2.mono HB.out.1.size))
  clear hh b2 HC HB HW
  cases kb
  · by_cases e1 : kd = 1
    · subst e1
      go_wp2_with fail
      all_goals (go_ret; refine Bb.fin ?_ BB.out; simp [kindOk, emp, *] <;> first | omega | (rw [Bool.eq_iff_iff]; simp; done) | (rw [Bool.eq_iff_iff]; simp; omega))
    · by_cases e2 : kd = 2
      · subst e2
        go_wp2_with fail
        all_goals (go_ret; refine Bb.fin ?_ BB.out; simp [kindOk, emp, *] <;> first | omega | (rw [Bool.eq_iff_iff]; simp; done) | (rw [Bool.eq_iff_iff]; simp; omega))
      · by_cases e3 : kd = 3
        · subst e3
          go_wp2_with fail
          all_goals (go_ret; refine Bb.fin ?_ BB.out; simp [kindOk, emp, *] <;> first | omega | (rw [Bool.eq_iff_iff]; simp; done) | (rw [Bool.eq_iff_iff]; simp; omega))
        · by_cases e4 : kd = 4
          · subst e4
            go_wp2_with fail
            all_goals (go_ret; refine Bb.fin ?_ BB.out; simp [kindOk, emp, *] <;> first | omega | (rw [Bool.eq_iff_iff]; simp; done) | (rw [Bool.eq_iff_iff]; simp; omega))
          · by_cases e5 : kd = 5
            · subst e5
              go_wp2_with fail
              all_goals (go_ret; refine Bb.fin ?_ BB.out; simp [kindOk, emp, *] <;> first | omega | (rw [Bool.eq_iff_iff]; simp; done) | (rw [Bool.eq_iff_iff]; simp; omega))
            · by_cases e6 : kd = 6
              · subst e6
                go_wp2_with fail
                all_goals (go_ret; refine Bb.fin ?_ BB.out; simp [kindOk, emp, *] <;> first | omega | (rw [Bool.eq_iff_iff]; simp; done) | (rw [Bool.eq_iff_iff]; simp; omega))
              · by_cases e7 : kd = 7
                · subst e7
                  go_wp2_with fail
                  all_goals (go_ret; refine Bb.fin ?_ BB.out; simp [kindOk, emp, *] <;> first | omega | (rw [Bool.eq_iff_iff]; simp; done) | (rw [Bool.eq_iff_iff]; simp; omega))
                · have hk : kindOk kd n nm ks.length = false := by simp [kindOk, e1, e2, e3, e4, e5, e6, e7]
                  have f1 : (kd == 1) = false := by simpa using e1
                  have f2 : (kd == 2) = false := by simpa using e2
                  have f3 : (kd == 3) = false := by simpa using e3
                  have f4 : (kd == 4) = false := by simpa using e4
                  have f5 : (kd == 5) = false := by simpa using e5
                  have f6 : (kd == 6) = false := by simpa using e6
                  have f7 : (kd == 7) = false := by simpa using e7
                  go_wp2_with fail
                  go_ret
                  exact Bb.fin (by rw [hk]; rfl) BB.out
  · go_wp2_with fail
    go_ret
    exact Bb.fin rfl BB.out
end Go.Proofs.Ytajhchfjoeblgaa
