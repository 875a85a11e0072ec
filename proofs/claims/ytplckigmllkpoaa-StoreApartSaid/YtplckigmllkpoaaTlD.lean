/- tlog.once: what it returns. -/
import Derived.Test.YtplckigmllkpoaaTlC
namespace Go.Proofs.Ytplckigmllkpoaa
open Go.RowKit Go.Shelf Go.Maps
attribute [local go_sem] Oper.semAt_some
/-- Numbers from 0 on, no two alike. -/
def onceB : List Int → Bool
  | [] => true
  | x :: xs => decide (0 ≤ x) && !(xs.contains x) && onceB xs
theorem onceB_snoc (xs : List Int) (z : Int) : onceB (xs ++ [z]) = (onceB xs && (decide (0 ≤ z) && !(xs.contains z))) := by
  induction xs with
  | nil => simp [onceB]
  | cons x xs ih =>
    simp only [List.cons_append, onceB, ih]
    by_cases hx : x = z
    · subst hx; simp
    · have h1 : (xs ++ [z]).contains x = xs.contains x := by rw [Bool.eq_iff_iff]; simp [hx]
      have h2 : (x :: xs).contains z = xs.contains z := by
        have h3 : (z == x) = false := by rw [beq_eq_false_iff_ne]; exact fun h => hx h.symm
        rw [List.contains_cons, h3, Bool.false_or]
      rw [h1, h2]
      cases decide (0 ≤ x) <;> cases xs.contains x <;> cases onceB xs <;> simp
theorem onceB_prefix {xs ys : List Int} (h : xs <+: ys) (hx : onceB xs = false) : onceB ys = false := by
  obtain ⟨t, rfl⟩ := h
  induction t generalizing xs with
  | nil => simpa using hx
  | cons z t ih =>
    have := ih (xs := xs ++ [z]) (by rw [onceB_snoc, hx]; rfl)
    simpa using this
structure OInv (w : World) (xs : List Pr) (pre : List Pr) (W : World) : Prop where
  bo : W.heap[w.heap.size]? = some (.cells #[.bool false] 4)
  bm : W.heap[w.heap.size + 1 + 1]? = some (.cells #[.map (some (w.heap.size + 1))] 93)
  map : MapB W (w.heap.size + 1) pre.length (pre.map (·.1))
  ok : onceB (pre.map (·.1)) = true
  bel : Below w.heap.size w W
structure OBad (w : World) (xs : List Pr) (W : World) : Prop where
  bo : W.heap[w.heap.size]? = some (.cells #[.bool false] 4)
  ok : onceB (xs.map (·.1)) = false
  bel : Below w.heap.size w W
def tmOnce (S : Nat) (gf : Nat) (lb : Array Value) (z : Int) : Array Value :=
  #[.func (.func gf) #[] lb, undef, .pointer (some ⟨S, 0, none⟩), .pointer (some ⟨S + 1 + 1, 0, none⟩), .int .i64 z, .map (some (S + 1)), .func (.func gf) #[] lb, .int .i64 z, undef, undef, undef, undef, undef, undef, undef, undef, undef]
def OAx (w : World) (xs : List Pr) (gf : Nat) (lb : Array Value) (_M _N : Nat) (pre : List Pr) (x : Pr) (a : Act) (W' : World) : Prop :=
  OInv w xs pre W' ∧ In x.1 ∧ a = { tmps := tmOnce w.heap.size gf lb x.1, defers := [] }
set_option maxHeartbeats 2000000 in
theorem once_any (w : World) (gf : Nat) (lb : Array Value) (xs : List Pr) (Kp : World → Prop) (hseq : SeqW 8 Try.prog gf lb varE xs Kp) (hK : ∀ W, Below w.heap.size w W → Kp W)
    (eg : ∀ args w, (callFunc gf args).run Try.prog w = .ok (.enter gf args) w) (hn : xs.length ≤ maxLen) :
    Calls Try.prog 47 #[.func (.func gf) #[] lb] w (Bb (onceB (xs.map (·.1))) w) := by
  have HS := hid hseq
  have HK := hid hK
  have hmm := @run_makeMap Try.prog
  obtain ⟨W0, hW0⟩ : ∃ W0, ((w.alloc (.cells #[.bool false] 4)).alloc (.map #[] 0)).alloc (.cells #[.map (some (w.heap.size + 1))] 93) = W0 := ⟨_, rfl⟩
  have hz : W0.heap.size = w.heap.size + 3 := by rw [← hW0]; simp
  have hb : Below w.heap.size w W0 := by rw [← hW0]; exact (((Below.refl _ _).alloc (Nat.le_refl _) _).alloc (by simp) _).alloc (by simp <;> omega) _
  have hbo : W0.heap[w.heap.size]? = some (.cells #[.bool false] 4) := by rw [← hW0, Below.heap_alloc _ _ _ (by simp <;> omega)]; exact heap_one _ _ _
  have hmap : W0.heap[w.heap.size + 1]? = some (.map #[] 0) := by rw [← hW0, Below.heap_alloc _ _ _ (by simp <;> omega)]; exact heap_two _ _ _
  have hbm : W0.heap[w.heap.size + 1 + 1]? = some (.cells #[.map (some (w.heap.size + 1))] 93) := by
    rw [← hW0]; have := World.alloc_heap_new ((w.alloc (.cells #[.bool false] 4)).alloc (.map #[] 0)) (.cells #[.map (some (w.heap.size + 1))] 93); simpa using this
  have hm0 : MapB W0 (w.heap.size + 1) 0 [] := by
    have h0 := MapB.made (w.alloc (.cells #[.bool false] 4))
    have e : (w.alloc (.cells #[.bool false] 4)).heap.size = w.heap.size + 1 := by simp
    have hn := World.alloc_heap_new (w.alloc (.cells #[.bool false] 4)) (.map #[] 0)
    rw [e] at h0 hn
    exact h0.kept (hmap.trans hn.symm) (by rw [hz]; simp)
  have HI : Hid (OInv w xs [] W0) := ⟨hbo, hbm, hm0, rfl, hb⟩
  have HZ := hid hz
  have HW := hid hW0
  clear hseq hK hbo hmap hbm hm0 hb hz hW0
  refine (callsIn_wide (n := 9)).1 ?_
  refine callsIn_of_wp_marks Try.func47 rfl trivial ?_ rfl
  simp only [Try.ntmps47, List.size_toArray, List.length_cons, List.length_nil, Nat.reduceAdd, Nat.reduceSub, Array.replicate_succ, Array.replicate_zero, List.push_toArray, List.append_toArray, List.nil_append, List.cons_append]
  gi_wp2_with fail
  rw [HW.out]
  refine wpIn_range (by decide) (gf := gf) (lb := lb) rfl eg HS.out (fun _ _ _ _ e => by rw [e.1]; rfl)
    (fun pre W => OInv w xs pre W) (fun c _ W => c = .ret ∧ OBad w xs W) (OAx w xs gf lb)
    ?hI ?hIx ?hAx ?hIk ?hIxk HI.out ?assign ?body ?done ?stop
  case hI =>
    rintro pre A B row h hg hr
    have hsz := HZ.out
    have hne : ∀ b, b < W0.heap.size → some b ≠ row := fun b hb e => by have := (hr b e.symm).1; omega
    exact ⟨(hg.block _ (lt_of_some h.bo) (hne _ (by omega))).trans h.bo, (hg.block _ (lt_of_some h.bm) (hne _ (by omega))).trans h.bm, h.map.kept (hg.block _ h.map.lt (hne _ (by omega))) hg.size, h.ok,
      h.bel.grown hg h.bel.size (fun k hk => by have := (hr k hk).1; omega)⟩
  case hIx =>
    rintro c pre A B row ⟨hc, h⟩ hg hr
    have hsz := HZ.out
    have hne : ∀ b, b < W0.heap.size → some b ≠ row := fun b hb e => by have := (hr b e.symm).1; omega
    exact ⟨hc, (hg.block _ (lt_of_some h.bo) (hne _ (by omega))).trans h.bo, h.ok, h.bel.grown hg h.bel.size (fun k hk => by have := (hr k hk).1; omega)⟩
  case hAx =>
    rintro M N pre x a₁ _ A B row ⟨h, h1, h2⟩ hg hr
    have hsz := HZ.out
    have hne : ∀ b, b < W0.heap.size → some b ≠ row := fun b hb e => by have := (hr b e.symm).1; omega
    exact ⟨⟨(hg.block _ (lt_of_some h.bo) (hne _ (by omega))).trans h.bo, (hg.block _ (lt_of_some h.bm) (hne _ (by omega))).trans h.bm, h.map.kept (hg.block _ h.map.lt (hne _ (by omega))) hg.size, h.ok,
      h.bel.grown hg h.bel.size (fun k hk => by have := (hr k hk).1; omega)⟩, h1, h2⟩
  case hIk => exact fun pre W h => HK.out W h.bel
  case hIxk => exact fun c pre W h => HK.out W h.2.bel
  case assign =>
    rintro l pre x args Wa W h hlt hb hpre ⟨rfl, hin⟩
    have HF : Hid (OAx w xs gf lb Wa.heap.size W.heap.size pre x { tmps := tmOnce w.heap.size gf lb x.1, defers := [] } W) :=
      ⟨⟨(hb.block _ (lt_of_some h.bo)).trans h.bo, (hb.block _ (lt_of_some h.bm)).trans h.bm, h.map.below hb, h.ok, h.bel.trans (hb.mono h.bel.size)⟩, hin, rfl⟩
    clear h hb
    gi_wp2
    exact ⟨KeepsFrom.refl _ _, fun b _ h2 => rfl, HF.out⟩
  case body =>
    rintro l M N pre x a₁ W hM1 hM2 hM3 ⟨h, hin, rfl⟩ hpre
    have hsz := HZ.out
    have c0 : W.cell? ⟨w.heap.size, 0, none⟩ = some (.bool false) := cell_of h.bo
    have f0 : W.frozen? ⟨w.heap.size, 0, none⟩ = false := free_of h.bo
    have c2 : W.cell? ⟨w.heap.size + 1 + 1, 0, none⟩ = some (.map (some (w.heap.size + 1))) := cell_of h.bm
    have hlook := h.map.look hin
    have hpl : pre.length < maxLen := by have := hpre.length_le; simp at this; omega
    have hbadW : onceB ((pre ++ [x]).map (·.1)) = false → Hid (rPost W0.heap.size M N (fun pre W => OInv w xs pre W) (fun c _ W => c = .ret ∧ OBad w xs W) (pre ++ [x]) W .ret { tmps := #[], defers := [] } (W.setCell ⟨w.heap.size, 0, none⟩ (.bool false))) := fun hb => by
      refine ⟨(KeepsOthers.setCell _ _ _).from _, fun b h1 h2 => Below.heap_setCell _ _ _ _ (by simp; omega), rfl, ?_, ?_, h.bel.setCell (Nat.le_refl _) _⟩
      · exact heap_set (i := 0) (v := .bool false) h.bo
      · obtain ⟨t, ht⟩ := hpre
        exact onceB_prefix (ys := xs.map (·.1)) ⟨t.map (·.1), by rw [← ht]; simp⟩ hb
    have hsn : onceB ((pre ++ [x]).map (·.1)) = (decide (0 ≤ x.1) && !((pre.map (·.1)).contains x.1)) := by
      rw [List.map_append]; show onceB (_ ++ [x.1]) = _; rw [onceB_snoc, h.ok]; rfl
    unfold tmOnce
    by_cases hneg : x.1 < 0
    · have fneg : decide (x.1 < 0) = true := by simpa using hneg
      have HB := hbadW (by rw [hsn, decide_eq_false (by omega)]; rfl)
      clear hbadW hsn h hlook hsz
      gi_wp2_with fail
      exact HB.out
    · have fneg : decide (x.1 < 0) = false := by simpa using hneg
      cases hseen : (pre.map (·.1)).contains x.1
      · rw [hseen] at hlook
        have hok : onceB ((pre ++ [x]).map (·.1)) = true := by rw [hsn, hseen, decide_eq_true (by omega)]; rfl
        obtain ⟨D, hown, hmap, hk'⟩ := h.map.opened
        have HH := hid (And.intro h (And.intro hok (And.intro hmap hk')))
        clear hbadW hsn h hmap hk' hok hseen hsz
        gi_wp2_with (gi_at_mapUpdate; refine wpListIn_mapUpdate_own _ rfl _ _ _ 93 rfl 3 4 keyedInt Try.underlying93 _ (w.heap.size + 1) pre.length _ rfl hown hpl _ _ _ rfl rfl (keyInt hin) _ [] (plainElem_bool Try.underlying4 true) ?_; intro w1 hown1 hgrow1)
        have hsz := HZ.out
        have hm := MapB.put hin hown1 HH.out.2.2.1 HH.out.2.2.2
        refine ⟨KeepsFrom.of_grownBy hgrow1 (fun j hj => by cases hj; omega), fun b h1 h2 => hgrow1.block b (by omega) (fun e => by cases e; omega), (hgrow1.block _ (lt_of_some HH.out.1.bo) (by simp)).trans HH.out.1.bo, (hgrow1.block _ (lt_of_some HH.out.1.bm) (by simp)).trans HH.out.1.bm, ?_, HH.out.2.1, HH.out.1.bel.grown hgrow1 HH.out.1.bel.size (fun k hk => by cases hk; omega)⟩
        rw [List.length_append, List.map_append]
        exact hm
      · rw [hseen] at hlook
        have HB := hbadW (by rw [hsn, hseen]; simp)
        clear hbadW hsn h hseen hsz
        gi_wp2_with fail
        exact HB.out
  case done =>
    rintro D W hD h hK
    have c0 : W.cell? ⟨w.heap.size, 0, none⟩ = some (.bool false) := cell_of h.bo
    have f0 : W.frozen? ⟨w.heap.size, 0, none⟩ = false := free_of h.bo
    have hDS : w.heap.size + 3 ≤ D := by have := HZ.out; omega
    have hK2 : (W.setCell ⟨w.heap.size, 0, none⟩ (.bool true)).heap[D]? = some (.deferred (some [])) := by rw [Below.heap_setCell _ _ _ _ (by simp; omega)]; exact hK
    have hbox : (W.setCell ⟨w.heap.size, 0, none⟩ (.bool true)).heap[w.heap.size]? = some (.cells #[.bool true] 4) := heap_set (i := 0) (v := .bool true) h.bo
    have hfin : ((W.setCell ⟨w.heap.size, 0, none⟩ (.bool true)).putObj D (.deferred none)).heap[w.heap.size]? = some (.cells #[.bool true] 4) := (World.putObj_heap_other (by omega)).trans hbox
    have hbel : Below w.heap.size w ((W.setCell ⟨w.heap.size, 0, none⟩ (.bool true)).putObj D (.deferred none)) := (h.bel.setCell (Nat.le_refl _) _).grown (grownBy_putObj' _ D (.deferred none)) (by have := h.bel.size; simpa using this) (fun k hk => by cases hk; omega)
    have HF := hid (And.intro hfin (And.intro hbel h.ok))
    have HK2 := hid hK2
    clear hfin hbel hK2 hbox h hK
    gi_wp2
    refine ⟨by simp, .inl ⟨_, _, rfl, run_takeDeferred HK2.out, ?_⟩⟩
    have t0 := cell_at (i := 0) (v := .bool true) HF.out.1 rfl
    exact ⟨.bool true, by simp [results, Try.results47, go_sem, t0], by rw [HF.out.2.2], HF.out.2.1⟩
  case stop =>
    rintro D c pre W hD _ ⟨rfl, h⟩ hK
    have hDS : w.heap.size + 3 ≤ D := by have := HZ.out; omega
    have hfin : (W.putObj D (.deferred none)).heap[w.heap.size]? = some (.cells #[.bool false] 4) := (World.putObj_heap_other (by omega)).trans h.bo
    have hbel : Below w.heap.size w (W.putObj D (.deferred none)) := h.bel.grown (grownBy_putObj' _ D (.deferred none)) h.bel.size (fun k hk => by cases hk; omega)
    have HF := hid (And.intro hfin (And.intro hbel h.ok))
    have HK2 := hid hK
    clear hfin hbel hK h
    gi_wp2
    refine ⟨by simp, .inl ⟨_, _, rfl, run_takeDeferred HK2.out, ?_⟩⟩
    have t0 := cell_at (i := 0) (v := .bool false) HF.out.1 rfl
    exact ⟨.bool false, by simp [results, Try.results47, go_sem, t0], by rw [HF.out.2.2], HF.out.2.1⟩
end Go.Proofs.Ytplckigmllkpoaa
