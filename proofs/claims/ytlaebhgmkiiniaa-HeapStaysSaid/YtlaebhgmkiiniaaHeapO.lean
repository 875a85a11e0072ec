/- The plain laws of Stays. -/
import Derived.Test.YtlaebhgmkiiniaaHeapN
import Derived.Test.YtlaebhgmkiiniaaHeldC
namespace Go.Proofs.Ytlaebhgmkiiniaa
open Go.RowKit Go.Shelf
theorem kidsIn_mono {ks : List Int} {a b : Int} (h : kidsIn ks a = true) (hab : a ≤ b) : kidsIn ks b = true := by
  simp only [kidsIn, Bool.not_eq_true', List.any_eq_false, Bool.or_eq_true, decide_eq_true_eq, not_or, Int.not_lt, Int.not_le] at h ⊢
  exact fun k hk => ⟨(h k hk).1, by have := (h k hk).2; omega⟩
theorem mayN_mono {x : Nd} {a b : Int} (h : mayN x a = true) (hab : a ≤ b) : mayN x b = true := by
  simp only [mayN, Bool.and_eq_true] at h ⊢
  exact ⟨kidsIn_mono h.1 hab, h.2⟩
theorem chkH_parts {h : Hp} (hc : chkH h = true) : 0 ≤ h.most ∧ h.most ≤ 5000 ∧ (h.nodes.length : Int) ≤ h.most := by
  simp only [chkH, Bool.and_eq_true, decide_eq_true_eq] at hc
  exact ⟨hc.1.1.1, hc.1.1.2, hc.1.2⟩
theorem alloc_len {h : Hp} {x : Nd} (h0 : allocE h x = 0) : allocH h x = { h with nodes := h.nodes ++ [x] } ∧ allocP h x = h.nodes.length := by
  rw [allocH, allocP, if_pos h0, if_pos h0]; exact ⟨rfl, rfl⟩
theorem chk_alloc {h : Hp} {x : Nd} (hc : chkH h = true) : chkH (allocH h x) = true := by
  by_cases h0 : allocE h x = 0
  · obtain ⟨p1, p2, p3⟩ := chkH_parts hc
    rw [(alloc_len h0).1]
    have hm : ¬ h.most ≤ h.nodes.length := fun hm => by rw [allocE, if_pos hm] at h0; cases h0
    have hx : mayN x (h.nodes.length + 1) = true := by
      cases e : mayN x (h.nodes.length + 1)
      · rw [allocE, if_neg hm, e] at h0; simp at h0
      · rfl
    refine chkH_yes p1 p2 (by simp; omega) ?_
    intro k y hk hy
    simp only [List.length_append, List.length_cons, List.length_nil] at hk ⊢
    by_cases hk' : k < h.nodes.length
    · rw [List.getElem?_append_left hk'] at hy
      exact mayN_mono (chkH_may hc hy) (by omega)
    · obtain rfl : k = h.nodes.length := by omega
      rw [List.getElem?_concat_length] at hy
      cases hy
      exact hx
  · rw [allocH, if_neg h0]; exact hc
theorem chk_set {h : Hp} {p : Int} {x : Nd} (hc : chkH h = true) : chkH (setH h p x) = true := by
  cases hb : setBad h p x
  · obtain ⟨p1, p2, p3⟩ := chkH_parts hc
    rw [set_eq hb]
    simp only [setBad, Bool.or_eq_false_iff, decide_eq_false_iff_not, Bool.not_eq_false'] at hb
    refine chkH_yes p1 p2 (by simp; omega) ?_
    intro k y hk hy
    simp only [List.length_set] at hk ⊢
    rw [List.getElem?_set] at hy
    split at hy
    · split at hy
      · cases hy; exact hb.2
      · cases hy
    · exact chkH_may hc hy
  · rw [setH, hb]; exact hc
theorem alloc_at {h : Hp} {x : Nd} (h0 : allocE h x = 0) : (allocH h x).nodes.length = h.nodes.length + 1 ∧ (allocH h x).nodes[h.nodes.length]? = some x ∧ ∀ k < h.nodes.length, (allocH h x).nodes[k]? = h.nodes[k]? := by
  rw [(alloc_len h0).1]
  exact ⟨by simp, by simp, fun k hk => by simp [List.getElem?_append_left hk]⟩
theorem set_at {h : Hp} {p : Int} {x : Nd} (h0 : setE h p x = 0) : ∃ q : Nat, p = q ∧ q < h.nodes.length ∧ (setH h p x).nodes.length = h.nodes.length ∧ (setH h p x).nodes[q]? = some x ∧ ∀ k : Nat, k ≠ q → (setH h p x).nodes[k]? = h.nodes[k]? := by
  have hb := sets_ok h0
  have hb' := hb
  simp only [setBad, Bool.or_eq_false_iff, decide_eq_false_iff_not] at hb'
  obtain ⟨q, rfl⟩ : ∃ q : Nat, p = q := ⟨p.toNat, by omega⟩
  rw [set_eq hb]
  refine ⟨q, rfl, by omega, by simp, ?_, fun k hk => ?_⟩
  · simp only [Int.toNat_natCast]; exact List.getElem?_set_self (by omega)
  · simp only [Int.toNat_natCast]; rw [List.getElem?_set_ne (by omega)]
/-- An Alloc, what it hands back named. -/
theorem alloc_call (w : World) (ok ok' : Nat → Prop) (v nv : Value) (h hx : Hp) (px ex : Int) (x : Nd) (hh : HVal w ok v h) (hx' : NVal w ok' nv x) (hn : h.nodes.length ≤ 1000000) (hkb : x.kids.length ≤ 1000000000) (h1 : hx = allocH h x) (h2 : ex = allocE h x) (h3 : px = allocP h x) :
    Calls Try.prog 9 #[v, nv] w fun e w' => ∃ a c, e = .returned (.tuple #[.agg #[.slice a hx.nodes.length c, .int .i64 hx.most], .int .i64 px, .int .i64 ex]) ∧ HVal w' (fun b => ok b ∨ w.heap.size ≤ b) (.agg #[.slice a hx.nodes.length c, .int .i64 hx.most]) hx ∧ Below w.heap.size w w' := by
  refine (alloc_any w ok ok' v nv h x hh hx' hn hkb).mono ?_
  rintro e w' ⟨v', rfl, hv, hb⟩
  rw [← h1] at hv
  obtain ⟨a, c, rfl⟩ := hv.shape
  exact ⟨a, c, by rw [h2, h3], hv, hb⟩
theorem wrap_succ (n : Nat) (h : n ≤ 1000000) : IntKind.i64.wrap ((n:Int) + 1) = (n:Int)+1 := by
  unfold IntKind.wrap; simp [IntKind.bits, IntKind.signed]; omega
end Go.Proofs.Ytlaebhgmkiiniaa
