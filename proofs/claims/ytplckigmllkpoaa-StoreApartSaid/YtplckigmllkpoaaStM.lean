/- The committed store, in plain: what is written where; logs that stay valid; commits side by side. -/
import Derived.Test.YtplckigmllkpoaaStH
namespace Go.Proofs.Ytplckigmllkpoaa
open Go.RowKit Go.Shelf Go.Maps
theorem wfold_none (v : Int) (j : Nat) : ∀ (xs c : List Pr), (∀ x ∈ xs, x.1.toNat ≠ j) → (xs.foldl (wput v) c)[j]? = c[j]?
  | [], _, _ => rfl
  | x :: xs, c, h => by
    rw [List.foldl_cons, wfold_none v j xs _ (fun y hy => h y (List.mem_cons_of_mem _ hy)), wput, List.getElem?_set_ne (h x (List.mem_cons_self ..))]
theorem wfold_ver (v : Int) (j : Nat) : ∀ (xs c : List Pr), j < c.length → (∃ x ∈ xs, x.1.toNat = j) → ∃ a, (xs.foldl (wput v) c)[j]? = some (a, v)
  | [], _, _, h => by obtain ⟨x, hx, _⟩ := h; cases hx
  | x :: xs, c, hj, h => by
    rw [List.foldl_cons]
    by_cases hr : ∃ x ∈ xs, x.1.toNat = j
    · exact wfold_ver v j xs _ (by simp [wput, hj]) hr
    · refine ⟨x.2, ?_⟩
      rw [wfold_none v j xs _ (fun y hy e => hr ⟨y, hy, e⟩), wput]
      obtain ⟨y, hy, he⟩ := h
      rcases List.mem_cons.1 hy with rfl | hm
      · rw [he, List.getElem?_set_self hj]
      · exact absurd ⟨y, hm, he⟩ hr
/-- What a commit that is done leaves. -/
structure Done (s : St) (l : Lg) (t : St) (xs : List Int) (w : List Pr) : Prop where
  q : chkS s = true
  v : s.ver ≠ 1099511627776
  p : chkG l = true
  l1 : l.levels = [w]
  th : ∀ x ∈ w, thereS s x.1 = true
  va : validS s l = true
  xs : xs = w.map (·.1)
  ce : t.cells = w.foldl (wput (s.ver + 1)) s.cells
  ve : t.ver = if w = [] then s.ver else s.ver + 1
theorem com_no {s : St} {l : Lg} {t : St} {xs : List Int} {e : Int} (h : (t, xs, e) = commitS s l) (he : e ≠ 0) : t = s ∧ xs = [] := by
  unfold commitS at h
  split at h
  · cases h; exact ⟨rfl, rfl⟩
  · split at h
    · cases h; exact ⟨rfl, rfl⟩
    · split at h
      · cases h; exact ⟨rfl, rfl⟩
      · split at h
        · cases h; exact ⟨rfl, rfl⟩
        · split at h
          · cases h; exact ⟨rfl, rfl⟩
          · cases h; exact absurd rfl he
theorem com_yes {s : St} {l : Lg} {t : St} {xs : List Int} {e : Int} (h : (t, xs, e) = commitS s l) (he : e = 0) : ∃ w, Done s l t xs w := by
  subst he
  unfold commitS at h
  split at h
  · cases h
  · rename_i h1
    split at h
    · cases h
    · rename_i h2
      split at h
      · cases h
      · rename_i h3
        split at h
        · cases h
        · rename_i h4
          obtain ⟨w, hw⟩ : ∃ w, l.levels = [w] := by
            simp only [Bool.or_eq_true, Bool.not_eq_true', not_or] at h2
            exact List.length_eq_one_iff.1 (by simpa using h2.2)
          have e : l.levels.getD 0 [] = w := by rw [hw]; rfl
          rw [e] at h h3
          simp only [Bool.or_eq_true, Bool.not_eq_true', not_or, Bool.not_eq_false, beq_iff_eq] at h1 h2 h4
          have th : ∀ x ∈ w, thereS s x.1 = true := fun x hx => by
            cases ht : thereS s x.1
            · exact absurd (List.any_eq_true.2 ⟨x, hx, by simp [ht]⟩) h3
            · rfl
          split at h
          · rename_i h5
            have h6 : w = [] := List.length_eq_zero_iff.1 h5
            cases h
            exact ⟨w, h1.1, h1.2, h2.1, hw, th, h4, by simp [h6], by simp [h6], by simp [h6]⟩
          · rename_i h5
            have h6 : w ≠ [] := fun e => h5 (by simp [e])
            cases h
            exact ⟨w, h1.1, h1.2, h2.1, hw, th, h4, rfl, rfl, by simp [h6]⟩
theorem Done.len {s : St} {l : Lg} {t : St} {xs : List Int} {w : List Pr} (h : Done s l t xs w) : t.cells.length = s.cells.length := by rw [h.ce, wput_len]
theorem Done.there {s : St} {l : Lg} {t : St} {xs : List Int} {w : List Pr} (h : Done s l t xs w) (z : Int) : thereS t z = thereS s z := by simp [thereS, h.len]
theorem there_iff {s : St} {z : Int} : thereS s z = true ↔ 0 ≤ z ∧ z.toNat < s.cells.length := by simp [thereS]; omega
theorem chkS_iff {s : St} : chkS s = true ↔ 0 ≤ s.ver ∧ s.ver ≤ 1099511627776 ∧ ∀ c ∈ s.cells, 0 ≤ c.2 ∧ c.2 ≤ s.ver := by
  simp only [chkS, cbad, Bool.and_eq_true, decide_eq_true_eq, Bool.not_eq_true', List.any_eq_false, Bool.or_eq_true, not_or, and_assoc]
  constructor
  · rintro ⟨h1, h2, h3⟩; exact ⟨h1, h2, fun c hc => by have := h3 c hc; omega⟩
  · rintro ⟨h1, h2, h3⟩; exact ⟨h1, h2, fun c hc => by have := h3 c hc; omega⟩
theorem wput_all {p : Pr → Prop} {v : Int} (hp : ∀ a, p (a, v)) : ∀ (xs c : List Pr), (∀ x ∈ c, p x) → ∀ x ∈ xs.foldl (wput v) c, p x
  | [], _, h => h
  | y :: xs, c, h => wput_all hp xs _ (fun x hx => by
    rcases List.mem_or_eq_of_mem_set hx with h1 | h1
    · exact h x h1
    · subst h1; exact hp _)
theorem Done.chk {s : St} {l : Lg} {t : St} {xs : List Int} {w : List Pr} (h : Done s l t xs w) : chkS t = true := by
  obtain ⟨h1, h2, h3⟩ := chkS_iff.1 h.q
  have hv := h.v
  have hve := h.ve
  by_cases hw : w = []
  · rw [if_pos hw] at hve
    have hc := h.ce
    rw [hw, List.foldl_nil] at hc
    rw [chkS_iff, hc, hve]; exact ⟨h1, h2, h3⟩
  · rw [if_neg hw] at hve
    rw [chkS_iff, h.ce, hve]
    exact ⟨by omega, by omega, wput_all (fun a => by simp only; omega) _ _ (fun x hx => by have := h3 x hx; omega)⟩
theorem Done.cell_no {s : St} {l : Lg} {t : St} {xs : List Int} {w : List Pr} (h : Done s l t xs w) {z : Int} (hz : thereS s z = true) (hn : xs.contains z = false) : cellS t z = cellS s z := by
  rw [cellS, cellS, List.getD_eq_getElem?_getD, List.getD_eq_getElem?_getD, h.ce, wfold_none]
  intro x hx e
  have h1 := there_iff.1 (h.th x hx)
  have h2 := there_iff.1 hz
  have e2 : x.1 = z := by omega
  rw [h.xs, ← Bool.not_eq_true, List.contains_iff_mem] at hn
  exact hn (List.mem_map.2 ⟨x, hx, e2⟩)
theorem Done.cell_yes {s : St} {l : Lg} {t : St} {xs : List Int} {w : List Pr} (h : Done s l t xs w) {z : Int} (hz : thereS s z = true) (hn : xs.contains z = true) : (cellS t z).2 = s.ver + 1 := by
  rw [h.xs, List.contains_iff_mem] at hn
  obtain ⟨x, hx, e⟩ := List.mem_map.1 hn
  obtain ⟨a, ha⟩ := wfold_ver (s.ver + 1) z.toNat w s.cells (there_iff.1 hz).2 ⟨x, hx, by rw [e]⟩
  rw [cellS, List.getD_eq_getElem?_getD, h.ce, ha]; rfl
theorem cell_le {s : St} {z : Int} (q : chkS s = true) (hz : thereS s z = true) : (cellS s z).2 ≤ s.ver := by
  rw [cellS, List.getD_eq_getElem?_getD, List.getElem?_eq_getElem (there_iff.1 hz).2]
  exact ((chkS_iff.1 q).2.2 _ (List.getElem_mem _)).2
theorem Done.old_no {s : St} {l : Lg} {t : St} {xs : List Int} {w : List Pr} (h : Done s l t xs w) {x : Pr} (hn : xs.contains x.1 = false) : oldS t x = oldS s x := by
  unfold oldS
  rw [h.there]
  cases ht : thereS s x.1
  · rfl
  · rw [h.cell_no ht hn]
theorem Done.old_yes {s : St} {l : Lg} {t : St} {xs : List Int} {w : List Pr} (h : Done s l t xs w) {x : Pr} (hn : xs.contains x.1 = true) (ho : oldS s x = false) : oldS t x = true := by
  simp only [oldS, Bool.or_eq_false_iff, Bool.not_eq_false', beq_iff_eq] at ho
  have := cell_le h.q ho.1
  simp only [oldS, h.there, ho.1, h.cell_yes ho.1 hn, Bool.or_eq_true, Bool.not_eq_true', beq_eq_false_iff_ne]
  exact .inr (by omega)
theorem Done.stays {s : St} {l m : Lg} {t : St} {xs : List Int} {w : List Pr} (h : Done s l t xs w) (hv : validS s m = true) : validS t m = !(m.reads.any (fun x => xs.contains x.1)) := by
  unfold validS at hv ⊢
  simp only [Bool.and_eq_true, Bool.not_eq_true'] at hv
  rw [h.chk, hv.1.2, Bool.true_and, Bool.true_and]
  congr 1
  rw [Bool.eq_iff_iff, List.any_eq_true, List.any_eq_true]
  constructor
  · rintro ⟨x, hx, hx2⟩
    refine ⟨x, hx, ?_⟩
    cases hc : xs.contains x.1
    · rw [h.old_no hc, Bool.eq_false_iff.2 (List.any_eq_false.1 hv.2 x hx)] at hx2; exact hx2
    · rfl
  · rintro ⟨x, hx, hx2⟩
    exact ⟨x, hx, h.old_yes hx2 (Bool.eq_false_iff.2 (List.any_eq_false.1 hv.2 x hx))⟩
theorem Done.anew {s : St} {l m : Lg} {t : St} {xs : List Int} {w : List Pr} (h : Done s l t xs w) (hv : validS s m = false) (ht : validS t m = true) : m.reads.any (fun x => xs.contains x.1) = true := by
  cases hm : m.reads.any (fun x => xs.contains x.1)
  · exfalso
    rw [← Bool.not_eq_true] at hv
    refine hv ?_
    unfold validS at ht ⊢
    simp only [Bool.and_eq_true, Bool.not_eq_true'] at ht ⊢
    refine ⟨⟨h.q, ht.1.2⟩, ?_⟩
    rw [List.any_eq_false] at hm ⊢
    intro x hx
    have := List.any_eq_false.1 ht.2 x hx
    rwa [h.old_no (Bool.eq_false_iff.2 (hm x hx))] at this
  · rfl
theorem any_more {xs : List Pr} {p : Pr → Bool} {k : Nat} {x : Pr} (h : xs[k]? = some x) : (xs.take (k + 1)).any p = ((xs.take k).any p || p x) := by rw [take_more h, List.any_append]; simp
theorem has_more {xs : List Int} {k : Nat} {z y : Int} (h : xs[k]? = some y) : (xs.take (k + 1)).contains z = ((xs.take k).contains z || z == y) := by
  rw [take_more h, List.contains_eq_any_beq, List.contains_eq_any_beq, List.any_append]; simp
end Go.Proofs.Ytplckigmllkpoaa
