/- The plain laws of Sets; boxes that are kept. -/
import Derived.Test.YtlaebhgmkiiniaaHeapL
namespace Go.Proofs.Ytlaebhgmkiiniaa
open Go.RowKit Go.Shelf
/-- The box of a node, and what it reads as, in a later world. -/
structure KeptN (w wk : World) (B : Nat) (t : TypeId) (sa : Option Addr) (sc : Nat) (x : Nd) : Prop where
  bel : Below w.heap.size w wk
  box : wk.heap[B]? = some (.cells #[.int .i64 x.kind, .int .i64 x.num, .string x.name, .slice sa x.kids.length sc] t)
  val : NVal wk (fun _ => True) (.agg #[.int .i64 x.kind, .int .i64 x.num, .string x.name, .slice sa x.kids.length sc]) x
theorem KeptN.more {w wk wl : World} {B : Nat} {t : TypeId} {sa : Option Addr} {sc : Nat} {h : Nd} (k : KeptN w wk B t sa sc h) (b : Below wk.heap.size wk wl) : KeptN w wl B t sa sc h :=
  ⟨k.bel.trans (b.mono k.bel.size), (b.block _ (lt_of_some k.box)).trans k.box, k.val.below b⟩
theorem KeptN.c0 {w wk : World} {B : Nat} {t : TypeId} {sa : Option Addr} {sc : Nat} {x : Nd} (k : KeptN w wk B t sa sc x) : wk.cell? ⟨B, 0, none⟩ = some (.int .i64 x.kind) := cell_of k.box
theorem KeptN.c1 {w wk : World} {B : Nat} {t : TypeId} {sa : Option Addr} {sc : Nat} {x : Nd} (k : KeptN w wk B t sa sc x) : wk.cell? ⟨B, 1, none⟩ = some (.int .i64 x.num) := cell_of k.box
theorem KeptN.c2 {w wk : World} {B : Nat} {t : TypeId} {sa : Option Addr} {sc : Nat} {x : Nd} (k : KeptN w wk B t sa sc x) : wk.cell? ⟨B, 2, none⟩ = some (.string x.name) := cell_of k.box
theorem KeptN.c3 {w wk : World} {B : Nat} {t : TypeId} {sa : Option Addr} {sc : Nat} {x : Nd} (k : KeptN w wk B t sa sc x) : wk.cell? ⟨B, 3, none⟩ = some (.slice sa x.kids.length sc) := cell_of k.box
/-- A heap just put into a box. -/
theorem Kept.new {w wk : World} (t : TypeId) {sa : Option Addr} {sc : Nat} {h : Hp} (b : Below w.heap.size w wk) (hv : HVal wk (fun _ => True) (.agg #[.slice sa h.nodes.length sc, .int .i64 h.most]) h) :
    Kept w (wk.alloc (.cells #[.slice sa h.nodes.length sc, .int .i64 h.most] t)) wk.heap.size t sa sc h :=
  ⟨b.alloc b.size _, World.alloc_heap_new _ _, hv.below ((Below.refl _ _).alloc (Nat.le_refl _) _)⟩
theorem box_set {w0 w : World} {B : Nat} {s0 m0 s m : Value} {t : TypeId} {h : Hp} {ok : Nat → Prop} (hb : Below w0.heap.size w0 w) (hB : w0.heap.size ≤ B) (hh : w.heap[B]? = some (.cells #[s0, m0] t)) (hv : HVal w ok (.agg #[s, m]) h) (hok : ∀ b, b < w.heap.size → ok b → b ≠ B) :
    ((w.setCell ⟨B, 0, none⟩ s).setCell ⟨B, 1, none⟩ m).heap[B]? = some (.cells #[s, m] t) ∧ HVal ((w.setCell ⟨B, 0, none⟩ s).setCell ⟨B, 1, none⟩ m) (fun _ => True) (.agg #[s, m]) h ∧ Below w0.heap.size w0 ((w.setCell ⟨B, 0, none⟩ s).setCell ⟨B, 1, none⟩ m) := by
  refine ⟨heap_set (heap_set hh), ?_, (hb.setCell hB _).setCell hB _⟩
  obtain ⟨sa, sc, e, i, sl⟩ := hv
  exact ⟨sa, sc, e, i, NSl.all (RSl.keep nodeGood (sl.weak nodeGood (by decide) hok) (((Same.refl _ _).setCell (a := ⟨B, 0, none⟩) s (by simp)).setCell (a := ⟨B, 1, none⟩) m (by simp)))⟩
theorem sets_len (h : Hp) (p : Int) (x : Nd) : (setH h p x).nodes.length = h.nodes.length := by
  rw [setH]; split
  · rfl
  · simp
theorem sets_bad {h h' : Hp} (hl : h'.nodes.length = h.nodes.length) (p : Int) (x : Nd) : setBad h' p x = setBad h p x := by rw [setBad, setBad, hl]
theorem sets_e {h h' : Hp} (hl : h'.nodes.length = h.nodes.length) (p : Int) (x : Nd) : setE h' p x = setE h p x := by rw [setE, setE, sets_bad hl]
theorem sets_ok {h : Hp} {p : Int} {x : Nd} (h0 : setE h p x = 0) : setBad h p x = false := by
  cases hb : setBad h p x
  · rfl
  · rw [setE, hb] at h0; simp at h0
theorem set_eq {h : Hp} {p : Int} {x : Nd} (hb : setBad h p x = false) : setH h p x = { h with nodes := h.nodes.set p.toNat x } := by rw [setH, hb]; rfl
theorem sets_last {h : Hp} {a : Int} {m n : Nd} (h1 : setE h a m = 0) (h2 : setE h a n = 0) : setH (setH h a m) a n = setH h a n := by
  have b1 := sets_ok h1
  have b2 := sets_ok h2
  rw [set_eq (h := setH h a m) (by rw [sets_bad (sets_len h a m)]; exact b2), set_eq b2, set_eq b1]
  simp
theorem sets_both {h : Hp} {a b : Int} {m n : Nd} (hab : a ≠ b) (h1 : setE h a m = 0) (h2 : setE h b n = 0) : setH (setH h a m) b n = setH (setH h b n) a m := by
  have b1 := sets_ok h1
  have b2 := sets_ok h2
  have ha : 0 ≤ a := by have b1' := b1; simp only [setBad, Bool.or_eq_false_iff, decide_eq_false_iff_not] at b1'; omega
  have hb : 0 ≤ b := by have b2' := b2; simp only [setBad, Bool.or_eq_false_iff, decide_eq_false_iff_not] at b2'; omega
  rw [set_eq (h := setH h a m) (by rw [sets_bad (sets_len h a m)]; exact b2), set_eq (h := setH h b n) (by rw [sets_bad (sets_len h b n)]; exact b1), set_eq b1, set_eq b2]
  simp only
  rw [List.set_comm _ _ (by omega)]
theorem chkH_may {h : Hp} (hc : chkH h = true) {k : Nat} {x : Nd} (hx : h.nodes[k]? = some x) : mayN x h.nodes.length = true := by
  cases hm : mayN x h.nodes.length
  · rw [chkH_no hx hm] at hc; cases hc
  · rfl
theorem sets_same {h : Hp} {k : Nat} {x : Nd} (hc : chkH h = true) (hx : h.nodes[k]? = some x) : setE h k x = 0 ∧ setH h k x = h := by
  have hlt := (List.getElem?_eq_some_iff.1 hx).1
  have hb : setBad h k x = false := by
    simp only [setBad, chkH_may hc hx, Bool.not_true, Bool.or_false, Bool.or_eq_false_iff, decide_eq_false_iff_not]
    omega
  refine ⟨by rw [setE, hb]; rfl, ?_⟩
  rw [setH, hb]
  simp only [Bool.false_eq_true, if_false, Int.toNat_natCast]
  rw [← (List.getElem?_eq_some_iff.1 hx).2, List.set_getElem_self]
end Go.Proofs.Ytlaebhgmkiiniaa
