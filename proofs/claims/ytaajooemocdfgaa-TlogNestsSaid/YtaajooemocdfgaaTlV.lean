/- Boxes of logs; the statements' awake. -/
import Derived.Test.YtaajooemocdfgaaTlU
namespace Go.Proofs.Ytaajooemocdfgaa
open Go.RowKit Go.Shelf Go.Maps
attribute [local go_sem] Oper.semAt_some
/-- A log in its box: its own blocks are among nb. -/
structure BG (nb : Nat → Prop) (w W : World) (B : Nat) (ra la : Option Addr) (rc lc : Nat) (l : Lg) : Prop where
  bel : Below w.heap.size w W
  box : W.heap[B]? = some (.cells #[.slice ra l.reads.length rc, .slice la l.levels.length lc] 25)
  val : GVal W nb (.agg #[.slice ra l.reads.length rc, .slice la l.levels.length lc]) l
theorem BG.more {nb : Nat → Prop} {w W W' : World} {B : Nat} {ra la : Option Addr} {rc lc : Nat} {l : Lg} (h : BG nb w W B ra la rc lc l) (b : Below W.heap.size W W') : BG nb w W' B ra la rc lc l :=
  ⟨h.bel.trans (b.mono h.bel.size), (b.block _ (lt_of_some h.box)).trans h.box, h.val.more b⟩
theorem BG.weak {nb nb' : Nat → Prop} {w W : World} {B : Nat} {ra la : Option Addr} {rc lc : Nat} {l : Lg} (h : BG nb w W B ra la rc lc l) (hs : ∀ b, b < W.heap.size → nb b → nb' b) : BG nb' w W B ra la rc lc l :=
  ⟨h.bel, h.box, h.val.weak hs⟩
theorem BG.c0 {nb : Nat → Prop} {w W : World} {B : Nat} {ra la : Option Addr} {rc lc : Nat} {l : Lg} (h : BG nb w W B ra la rc lc l) : W.cell? ⟨B, 0, none⟩ = some (.slice ra l.reads.length rc) := cell_of h.box
theorem BG.c1 {nb : Nat → Prop} {w W : World} {B : Nat} {ra la : Option Addr} {rc lc : Nat} {l : Lg} (h : BG nb w W B ra la rc lc l) : W.cell? ⟨B, 1, none⟩ = some (.slice la l.levels.length lc) := cell_of h.box
theorem BG.fz {nb : Nat → Prop} {w W : World} {B : Nat} {ra la : Option Addr} {rc lc : Nat} {l : Lg} (h : BG nb w W B ra la rc lc l) : ∀ i, W.frozen? ⟨B, i, none⟩ = false := fun _ => free_of h.box
theorem BG.lt {nb : Nat → Prop} {w W : World} {B : Nat} {ra la : Option Addr} {rc lc : Nat} {l : Lg} (h : BG nb w W B ra la rc lc l) : B < W.heap.size := lt_of_some h.box
/-- A log put into a new box. -/
theorem BG.new {nb : Nat → Prop} {w W : World} {ra la : Option Addr} {rc lc : Nat} {l : Lg} (b : Below w.heap.size w W) (h : GVal W nb (.agg #[.slice ra l.reads.length rc, .slice la l.levels.length lc]) l) :
    BG (fun b => b < W.heap.size ∧ nb b) w (W.alloc (.cells #[.slice ra l.reads.length rc, .slice la l.levels.length lc] 25)) W.heap.size ra la rc lc l :=
  ⟨b.alloc b.size _, World.alloc_heap_new _ _, (h.weak (fun _ h1 h2 => ⟨h1, h2⟩)).more ((Below.refl _ _).alloc (Nat.le_refl _) _)⟩
/-- A log put into a box that there was. -/
theorem BG.put {nb nb' : Nat → Prop} {w W : World} {B : Nat} {ra la ra' la' : Option Addr} {rc lc rc' lc' : Nat} {l l' : Lg} (h : BG nb w W B ra la rc lc l) (hB : w.heap.size ≤ B) (hn : ∀ b, nb' b → b ≠ B) (h' : GVal W nb' (.agg #[.slice ra' l'.reads.length rc', .slice la' l'.levels.length lc']) l') :
    BG nb' w ((W.setCell ⟨B, 0, none⟩ (.slice ra' l'.reads.length rc')).setCell ⟨B, 1, none⟩ (.slice la' l'.levels.length lc')) B ra' la' rc' lc' l' :=
  ⟨(h.bel.setCell (p := ⟨B, 0, none⟩) hB _).setCell (p := ⟨B, 1, none⟩) hB _, heap_set (i := 1) (heap_set (i := 0) h.box), h'.keep (((Same.refl nb' W).setCell (a := ⟨B, 0, none⟩) _ (fun h => hn _ h rfl)).setCell (a := ⟨B, 1, none⟩) _ (fun h => hn _ h rfl))⟩
/-- Another box is stored to. -/
theorem BG.other {nb : Nat → Prop} {w W : World} {B B' : Nat} {ra la : Option Addr} {rc lc : Nat} {l : Lg} (h : BG nb w W B ra la rc lc l) (hB : w.heap.size ≤ B') (hne : B ≠ B') (hn : ∀ b, nb b → b ≠ B') (v v' : Value) :
    BG nb w ((W.setCell ⟨B', 0, none⟩ v).setCell ⟨B', 1, none⟩ v') B ra la rc lc l :=
  ⟨(h.bel.setCell (p := ⟨B', 0, none⟩) hB _).setCell (p := ⟨B', 1, none⟩) hB _, heap_far (heap_far h.box hne) hne, h.val.keep (((Same.refl nb W).setCell (a := ⟨B', 0, none⟩) v (fun h => hn _ h rfl)).setCell (a := ⟨B', 1, none⟩) v' (fun h => hn _ h rfl))⟩
def nin (S : List Nat) (b : Nat) : Prop := b ∉ S
theorem nin_res {S : List Nat} {n b : Nat} (h : ∀ x ∈ S, x < n) (hb : nin S b ∨ n ≤ b) : nin S b := fun hm => by
  rcases hb with h1 | h1
  · exact h1 hm
  · have := h b hm; omega
theorem nin_new {S : List Nat} {n b : Nat} (hb : b < n) (h : nin S b) : nin (n :: S) b := fun hm => by
  rcases List.mem_cons.1 hm with rfl | h1
  · omega
  · exact h h1
theorem nin_ne {S : List Nat} {b x : Nat} (h : nin S b) (hx : x ∈ S) : b ≠ x := fun e => h (e ▸ hx)
theorem lt_more {S : List Nat} {W W2 : World} {B : Nat} (hB : W.heap.size = B) (hlt : B < W2.heap.size) (h : ∀ x ∈ S, x < W.heap.size) : ∀ x ∈ B :: S, x < W2.heap.size := fun x hx => by
  rcases List.mem_cons.1 hx with rfl | h1
  · exact hlt
  · have := h x h1; omega
theorem size_set2 (W : World) (a a' : Addr) (v v' : Value) : ((W.setCell a v).setCell a' v').heap.size = W.heap.size := by simp [World.setCell]
theorem okl_push {l : Lg} {n : Nat} (h : Okl l n) (h0 : 0 < n) : Okl (pushG l).1 (n + 1) := by
  unfold pushG
  split
  · refine ⟨by have := h.1; show l.reads.length ≤ n + 1; omega, by have := h.2.1; simp; omega, fun x hx => ?_⟩
    rcases List.mem_append.1 hx with h1 | h1
    · have := h.2.2 x h1; omega
    · simp at h1; subst h1; simp
  · exact h.mono (by omega)
theorem okl_put {l : Lg} {n : Nat} (h : Okl l n) (v a : Int) : Okl (putG l v a).1 (n + 1) := by
  unfold putG
  split
  · refine ⟨by have := h.1; show l.reads.length ≤ n + 1; omega, by have := h.2.1; simp [putLs]; omega, fun x hx => ?_⟩
    rcases List.mem_or_eq_of_mem_set hx with h1 | h1
    · have := h.2.2 x h1; omega
    · subst h1
      have h2 := putL_length (l.levels.getD (l.levels.length - 1) []) (v, a)
      have h3 : (l.levels.getD (l.levels.length - 1) []).length ≤ n := by
        rw [List.getD_eq_getElem?_getD]
        cases hq : l.levels[l.levels.length - 1]? with
        | none => simp
        | some y => exact h.2.2 y (List.mem_of_getElem? hq)
      omega
  · exact h.mono (by omega)
theorem okl_note {l : Lg} {n : Nat} (h : Okl l n) (v a : Int) : Okl (noteG l v a).1 (n + 1) := by
  unfold noteG
  split
  · refine ⟨?_, by have := h.2.1; show l.levels.length ≤ n + 1; omega, fun x hx => by have := h.2.2 x hx; omega⟩
    have := h.1
    show (noteRs l.reads (v, a)).length ≤ n + 1
    unfold noteRs; split
    · omega
    · simp; omega
  · exact h.mono (by omega)
theorem okl_drop {l : Lg} {n : Nat} (h : Okl l n) : Okl (dropG l).1 n := by
  unfold dropG
  split
  · exact ⟨h.1, by have := h.2.1; simp; omega, fun x hx => h.2.2 x (List.mem_of_mem_take hx)⟩
  · exact h
theorem getD_len {L : List (List Pr)} {n k : Nat} (h : ∀ x ∈ L, x.length ≤ n) : (L.getD k []).length ≤ n := by
  rw [List.getD_eq_getElem?_getD]
  cases hq : L[k]? with
  | none => simp
  | some y => exact h y (List.mem_of_getElem? hq)
theorem okl_merge {l : Lg} {n : Nat} (h : Okl l n) : Okl (mergeG l).1 (n + n) := by
  unfold mergeG
  split
  · refine ⟨by have := h.1; show l.reads.length ≤ n + n; omega, by have := h.2.1; simp [mergeL]; omega, fun x hx => ?_⟩
    rcases List.mem_or_eq_of_mem_set hx with h1 | h1
    · have := h.2.2 x (List.mem_of_mem_take h1); omega
    · subst h1
      have h2 := foldl_put_length (l.levels.getD (l.levels.length - 1) []) (l.levels.getD (l.levels.length - 1 - 1) [])
      have h3 := getD_len (k := l.levels.length - 1) h.2.2
      have h4 := getD_len (k := l.levels.length - 1 - 1) h.2.2
      omega
  · exact h.mono (by omega)
theorem inLit {n : Int} (h1 : -1000 ≤ n) (h2 : n ≤ 1000) : In n := by constructor <;> omega
set_option maxRecDepth 100000 in
set_option maxHeartbeats 16000000 in
theorem awake_any (w : World) : Calls Try.prog 8 #[] w (Bb true w) := by
  go_enter Try.func8, Try.ntmps8
  go_wp2_with fail
  refine (new_any w).mono ?_
  rintro e w1 ⟨la0, lc0, rfl, hv, b1⟩
  have HB : Hid (Below w.heap.size w w1) := b1
  have HS : Hid (∀ x ∈ ([] : List Nat), x < w1.heap.size) := fun x hx => by simp at hx
  have hv0 : GVal w1 (nin []) (.agg #[.slice none 0 0, .slice la0 1 lc0]) (⟨[], [[]]⟩ : Lg) := hv.weak (fun _ _ _ hm => by cases hm)
  clear hv b1
  go_upto_region 2 with (fail)
  have K0 : Hid (BG (nin (w1.heap.size :: [])) w (w1.alloc (.cells #[.slice none 0 0, .slice la0 1 lc0] 25)) w1.heap.size none la0 0 lc0 (⟨[], [[]]⟩ : Lg)) := hid ((BG.new (nb := (nin [])) (l := (⟨[], [[]]⟩ : Lg)) HB.out hv0).weak (nb' := nin (w1.heap.size :: [])) (fun b _ h => nin_new h.1 h.2))
  have bb := (Below.refl w1.heap.size w1).alloc (Nat.le_refl _) (.cells #[.slice none 0 0, .slice la0 1 lc0] 25)
  have hBw0 := HB.out.size
  obtain ⟨w11, hw⟩ : ∃ z, w1.alloc (.cells #[.slice none 0 0, .slice la0 1 lc0] 25) = z := ⟨_, rfl⟩
  rw [hw] at bb ⊢
  rw [hw] at K0
  obtain ⟨B0, hB0⟩ : ∃ z, w1.heap.size = z := ⟨_, rfl⟩
  rw [hB0] at K0 hBw0 ⊢
  replace HS : Hid (∀ x ∈ ([B0] : List Nat), x < w11.heap.size) := lt_more hB0 K0.out.lt HS.out
  replace HB : Hid (Below w.heap.size w w11) := HB.out.trans (bb.mono HB.out.size)
  clear bb hw hv0 hB0
  obtain ⟨r1, hr1⟩ : ∃ r, r = putG (⟨[], [[]]⟩ : Lg) 3 5 := ⟨_, rfl⟩
  obtain ⟨l1, e1⟩ := r1
  have HR1 := hid hr1
  have hk1 : putG (⟨[], [[]]⟩ : Lg) 3 5 = ((⟨[], [[(3, 5)]]⟩ : Lg), (0 : Int)) := by decide
  have hh1 := HR1.out.trans hk1
  obtain rfl : e1 = 0 := by cases hh1; rfl
  have HL1 : Hid (l1 = ⟨[], [[(3, 5)]]⟩) := by cases hh1; rfl
  clear hk1 hh1
  have c00 : w11.cell? ⟨B0, 0, none⟩ = some (.slice none 0 0) := K0.out.c0
  have c01 : w11.cell? ⟨B0, 1, none⟩ = some (.slice la0 1 lc0) := K0.out.c1
  have P := hid (putg_any w11 _ (.agg #[.slice none 0 0, .slice la0 1 lc0]) (⟨[], [[]]⟩ : Lg) 3 5 K0.out.val (inLit (by decide) (by decide)) (inLit (by decide) (by decide)) ⟨by decide, by decide, by decide⟩)
  rw [← hr1] at P
  clear hr1
  go_wp2_with fail
  refine P.out.mono ?_
  rintro e w12 ⟨ra1, rc1, la1, lc1, rfl, hv, b⟩
  clear P
  clear c00 c01
  have hv1 : GVal w12 (nin [B0]) (.agg #[.slice ra1 l1.reads.length rc1, .slice la1 l1.levels.length lc1]) l1 := GVal.weak hv (fun b _ h => nin_res HS.out h)
  clear hv
  replace K0 := hid (K0.out.more b)
  replace HB : Hid (Below w.heap.size w _) := HB.out.trans (b.mono HB.out.size)
  replace HS : Hid (∀ x ∈ ([B0] : List Nat), x < _) := fun x hx => Nat.lt_of_lt_of_le (HS.out x hx) b.size
  clear b
  have q0 : w12.cell? ⟨B0, 0, none⟩ = some (.slice none 0 0) := K0.out.c0
  have q1 : w12.cell? ⟨B0, 1, none⟩ = some (.slice la0 1 lc0) := K0.out.c1
  have qf : ∀ i, w12.frozen? ⟨B0, i, none⟩ = false := K0.out.fz
  go_upto_region 3 with (fail)
  clear q0 q1 qf
  have Kn := hid (K0.out.put hBw0 (fun b h => nin_ne h (by simp)) hv1)
  have bs := (HB.out.setCell (p := ⟨B0, 0, none⟩) hBw0 (.slice ra1 l1.reads.length rc1)).setCell (p := ⟨B0, 1, none⟩) hBw0 (.slice la1 l1.levels.length lc1)
  replace HS : Hid (∀ x ∈ ([B0] : List Nat), x < ((w12.setCell ⟨B0, 0, none⟩ (.slice ra1 l1.reads.length rc1)).setCell ⟨B0, 1, none⟩ (.slice la1 l1.levels.length lc1)).heap.size) := fun x hx => by rw [size_set2]; exact HS.out x hx
  obtain ⟨w13, hw⟩ : ∃ z, (w12.setCell ⟨B0, 0, none⟩ (.slice ra1 l1.reads.length rc1)).setCell ⟨B0, 1, none⟩ (.slice la1 l1.levels.length lc1) = z := ⟨_, rfl⟩
  rw [hw] at Kn HS bs ⊢
  replace HB := hid bs
  clear hw hv1 K0 bs
  have K1 := Kn
  clear Kn
  obtain ⟨r2, hr2⟩ : ∃ r, r = pushG l1 := ⟨_, rfl⟩
  obtain ⟨l2, e2⟩ := r2
  have HR2 := hid hr2
  have hk2 : pushG l1 = ((⟨[], [[(3, 5)], []]⟩ : Lg), (0 : Int)) := by rw [HL1.out]; decide
  have hh2 := HR2.out.trans hk2
  obtain rfl : e2 = 0 := by cases hh2; rfl
  have HL2 : Hid (l2 = ⟨[], [[(3, 5)], []]⟩) := by cases hh2; rfl
  clear hk2 hh2
  have c10 : w13.cell? ⟨B0, 0, none⟩ = some (.slice ra1 l1.reads.length rc1) := K1.out.c0
  have c11 : w13.cell? ⟨B0, 1, none⟩ = some (.slice la1 l1.levels.length lc1) := K1.out.c1
  have P := hid (push_any w13 _ (.agg #[.slice ra1 l1.reads.length rc1, .slice la1 l1.levels.length lc1]) l1 K1.out.val (by rw [HL1.out]; exact ⟨by decide, by decide, by decide⟩))
  rw [← hr2] at P
  clear hr2
  go_wp2_with fail
  refine P.out.mono ?_
  rintro e w14 ⟨ra2, rc2, la2, lc2, rfl, hv, b⟩
  clear P
  clear c10 c11
  have hv2 : GVal w14 (nin [B0]) (.agg #[.slice ra2 l2.reads.length rc2, .slice la2 l2.levels.length lc2]) l2 := GVal.weak hv (fun b _ h => nin_res HS.out h)
  clear hv
  replace K1 := hid (K1.out.more b)
  replace HB : Hid (Below w.heap.size w _) := HB.out.trans (b.mono HB.out.size)
  replace HS : Hid (∀ x ∈ ([B0] : List Nat), x < _) := fun x hx => Nat.lt_of_lt_of_le (HS.out x hx) b.size
  clear b
  have q0 : w14.cell? ⟨B0, 0, none⟩ = some (.slice ra1 l1.reads.length rc1) := K1.out.c0
  have q1 : w14.cell? ⟨B0, 1, none⟩ = some (.slice la1 l1.levels.length lc1) := K1.out.c1
  have qf : ∀ i, w14.frozen? ⟨B0, i, none⟩ = false := K1.out.fz
  go_upto_region 4 with (fail)
  clear q0 q1 qf
  have Kn := hid (K1.out.put hBw0 (fun b h => nin_ne h (by simp)) hv2)
  have bs := (HB.out.setCell (p := ⟨B0, 0, none⟩) hBw0 (.slice ra2 l2.reads.length rc2)).setCell (p := ⟨B0, 1, none⟩) hBw0 (.slice la2 l2.levels.length lc2)
  replace HS : Hid (∀ x ∈ ([B0] : List Nat), x < ((w14.setCell ⟨B0, 0, none⟩ (.slice ra2 l2.reads.length rc2)).setCell ⟨B0, 1, none⟩ (.slice la2 l2.levels.length lc2)).heap.size) := fun x hx => by rw [size_set2]; exact HS.out x hx
  obtain ⟨w15, hw⟩ : ∃ z, (w14.setCell ⟨B0, 0, none⟩ (.slice ra2 l2.reads.length rc2)).setCell ⟨B0, 1, none⟩ (.slice la2 l2.levels.length lc2) = z := ⟨_, rfl⟩
  rw [hw] at Kn HS bs ⊢
  replace HB := hid bs
  clear hw hv2 K1 bs
  have K2 := Kn
  clear Kn
  obtain ⟨r3, hr3⟩ : ∃ r, r = putG l2 3 7 := ⟨_, rfl⟩
  obtain ⟨l3, e3⟩ := r3
  have HR3 := hid hr3
  have hk3 : putG l2 3 7 = ((⟨[], [[(3, 5)], [(3, 7)]]⟩ : Lg), (0 : Int)) := by rw [HL2.out]; decide
  have hh3 := HR3.out.trans hk3
  obtain rfl : e3 = 0 := by cases hh3; rfl
  have HL3 : Hid (l3 = ⟨[], [[(3, 5)], [(3, 7)]]⟩) := by cases hh3; rfl
  clear hk3 hh3
  have c20 : w15.cell? ⟨B0, 0, none⟩ = some (.slice ra2 l2.reads.length rc2) := K2.out.c0
  have c21 : w15.cell? ⟨B0, 1, none⟩ = some (.slice la2 l2.levels.length lc2) := K2.out.c1
  have P := hid (putg_any w15 _ (.agg #[.slice ra2 l2.reads.length rc2, .slice la2 l2.levels.length lc2]) l2 3 7 K2.out.val (inLit (by decide) (by decide)) (inLit (by decide) (by decide)) (by rw [HL2.out]; exact ⟨by decide, by decide, by decide⟩))
  rw [← hr3] at P
  clear hr3
  go_wp2_with fail
  refine P.out.mono ?_
  rintro e w16 ⟨ra3, rc3, la3, lc3, rfl, hv, b⟩
  clear P
  clear c20 c21
  have hv3 : GVal w16 (nin [B0]) (.agg #[.slice ra3 l3.reads.length rc3, .slice la3 l3.levels.length lc3]) l3 := GVal.weak hv (fun b _ h => nin_res HS.out h)
  clear hv
  replace K2 := hid (K2.out.more b)
  replace HB : Hid (Below w.heap.size w _) := HB.out.trans (b.mono HB.out.size)
  replace HS : Hid (∀ x ∈ ([B0] : List Nat), x < _) := fun x hx => Nat.lt_of_lt_of_le (HS.out x hx) b.size
  clear b
  have q0 : w16.cell? ⟨B0, 0, none⟩ = some (.slice ra2 l2.reads.length rc2) := K2.out.c0
  have q1 : w16.cell? ⟨B0, 1, none⟩ = some (.slice la2 l2.levels.length lc2) := K2.out.c1
  have qf : ∀ i, w16.frozen? ⟨B0, i, none⟩ = false := K2.out.fz
  go_upto_region 5 with (fail)
  clear q0 q1 qf
  have Kn := hid (K2.out.put hBw0 (fun b h => nin_ne h (by simp)) hv3)
  have bs := (HB.out.setCell (p := ⟨B0, 0, none⟩) hBw0 (.slice ra3 l3.reads.length rc3)).setCell (p := ⟨B0, 1, none⟩) hBw0 (.slice la3 l3.levels.length lc3)
  replace HS : Hid (∀ x ∈ ([B0] : List Nat), x < ((w16.setCell ⟨B0, 0, none⟩ (.slice ra3 l3.reads.length rc3)).setCell ⟨B0, 1, none⟩ (.slice la3 l3.levels.length lc3)).heap.size) := fun x hx => by rw [size_set2]; exact HS.out x hx
  obtain ⟨w17, hw⟩ : ∃ z, (w16.setCell ⟨B0, 0, none⟩ (.slice ra3 l3.reads.length rc3)).setCell ⟨B0, 1, none⟩ (.slice la3 l3.levels.length lc3) = z := ⟨_, rfl⟩
  rw [hw] at Kn HS bs ⊢
  replace HB := hid bs
  clear hw hv3 K2 bs
  have K3 := Kn
  clear Kn
  obtain ⟨r4, hr4⟩ : ∃ r, r = noteG l3 9 1 := ⟨_, rfl⟩
  obtain ⟨l4, e4⟩ := r4
  have HR4 := hid hr4
  have hk4 : noteG l3 9 1 = ((⟨[(9, 1)], [[(3, 5)], [(3, 7)]]⟩ : Lg), (0 : Int)) := by rw [HL3.out]; decide
  have hh4 := HR4.out.trans hk4
  obtain rfl : e4 = 0 := by cases hh4; rfl
  have HL4 : Hid (l4 = ⟨[(9, 1)], [[(3, 5)], [(3, 7)]]⟩) := by cases hh4; rfl
  clear hk4 hh4
  have c30 : w17.cell? ⟨B0, 0, none⟩ = some (.slice ra3 l3.reads.length rc3) := K3.out.c0
  have c31 : w17.cell? ⟨B0, 1, none⟩ = some (.slice la3 l3.levels.length lc3) := K3.out.c1
  have P := hid (note_any w17 _ (.agg #[.slice ra3 l3.reads.length rc3, .slice la3 l3.levels.length lc3]) l3 9 1 K3.out.val (inLit (by decide) (by decide)) (inLit (by decide) (by decide)) (by rw [HL3.out]; exact ⟨by decide, by decide, by decide⟩))
  rw [← hr4] at P
  clear hr4
  go_wp2_with fail
  refine P.out.mono ?_
  rintro e w18 ⟨ra4, rc4, la4, lc4, rfl, hv, b⟩
  clear P
  clear c30 c31
  have hv4 : GVal w18 (nin [B0]) (.agg #[.slice ra4 l4.reads.length rc4, .slice la4 l4.levels.length lc4]) l4 := GVal.weak hv (fun b _ h => nin_res HS.out h)
  clear hv
  replace K3 := hid (K3.out.more b)
  replace HB : Hid (Below w.heap.size w _) := HB.out.trans (b.mono HB.out.size)
  replace HS : Hid (∀ x ∈ ([B0] : List Nat), x < _) := fun x hx => Nat.lt_of_lt_of_le (HS.out x hx) b.size
  clear b
  have q0 : w18.cell? ⟨B0, 0, none⟩ = some (.slice ra3 l3.reads.length rc3) := K3.out.c0
  have q1 : w18.cell? ⟨B0, 1, none⟩ = some (.slice la3 l3.levels.length lc3) := K3.out.c1
  have qf : ∀ i, w18.frozen? ⟨B0, i, none⟩ = false := K3.out.fz
  go_upto_region 6 with (fail)
  clear q0 q1 qf
  have Kn := hid (K3.out.put hBw0 (fun b h => nin_ne h (by simp)) hv4)
  have bs := (HB.out.setCell (p := ⟨B0, 0, none⟩) hBw0 (.slice ra4 l4.reads.length rc4)).setCell (p := ⟨B0, 1, none⟩) hBw0 (.slice la4 l4.levels.length lc4)
  replace HS : Hid (∀ x ∈ ([B0] : List Nat), x < ((w18.setCell ⟨B0, 0, none⟩ (.slice ra4 l4.reads.length rc4)).setCell ⟨B0, 1, none⟩ (.slice la4 l4.levels.length lc4)).heap.size) := fun x hx => by rw [size_set2]; exact HS.out x hx
  obtain ⟨w19, hw⟩ : ∃ z, (w18.setCell ⟨B0, 0, none⟩ (.slice ra4 l4.reads.length rc4)).setCell ⟨B0, 1, none⟩ (.slice la4 l4.levels.length lc4) = z := ⟨_, rfl⟩
  rw [hw] at Kn HS bs ⊢
  replace HB := hid bs
  clear hw hv4 K3 bs
  have K4 := Kn
  clear Kn
  have hg : getG l4 3 = (7, true) := by rw [HL4.out]; decide
  have c40 : w19.cell? ⟨B0, 0, none⟩ = some (.slice ra4 l4.reads.length rc4) := K4.out.c0
  have c41 : w19.cell? ⟨B0, 1, none⟩ = some (.slice la4 l4.levels.length lc4) := K4.out.c1
  have P := hid (get_any w19 _ (.agg #[.slice ra4 l4.reads.length rc4, .slice la4 l4.levels.length lc4]) l4 3 K4.out.val (inLit (by decide) (by decide)) (by rw [HL4.out]; exact ⟨by decide, by decide, by decide⟩))
  rw [hg] at P
  clear hg
  go_wp2_with fail
  refine P.out.mono ?_
  rintro e w20 ⟨rfl, b⟩
  clear P
  clear c40 c41
  replace K4 := hid (K4.out.more b)
  replace HB : Hid (Below w.heap.size w _) := HB.out.trans (b.mono HB.out.size)
  replace HS : Hid (∀ x ∈ ([B0] : List Nat), x < _) := fun x hx => Nat.lt_of_lt_of_le (HS.out x hx) b.size
  clear b
  go_upto_region 7 with (fail)
  obtain ⟨rm, hrm⟩ : ∃ r, r = mergeG l4 := ⟨_, rfl⟩
  obtain ⟨lm, em⟩ := rm
  have HRm := hid hrm
  have hkm : mergeG l4 = ((⟨[(9, 1)], [[(3, 7)]]⟩ : Lg), (0 : Int)) := by rw [HL4.out]; decide
  have hhm := HRm.out.trans hkm
  obtain rfl : em = 0 := by cases hhm; rfl
  have HLm : Hid (lm = ⟨[(9, 1)], [[(3, 7)]]⟩) := by cases hhm; rfl
  clear hkm hhm
  have c40 : w20.cell? ⟨B0, 0, none⟩ = some (.slice ra4 l4.reads.length rc4) := K4.out.c0
  have c41 : w20.cell? ⟨B0, 1, none⟩ = some (.slice la4 l4.levels.length lc4) := K4.out.c1
  have P := hid (merge_any w20 _ (.agg #[.slice ra4 l4.reads.length rc4, .slice la4 l4.levels.length lc4]) l4 K4.out.val (by rw [HL4.out]; exact ⟨by decide, by decide, by decide⟩))
  rw [← hrm] at P
  clear hrm
  go_wp2_with fail
  refine P.out.mono ?_
  rintro e w21 ⟨ram, rcm, lam, lcm, rfl, hv, b⟩
  clear P
  clear c40 c41
  have hvm : GVal w21 (nin [B0]) (.agg #[.slice ram lm.reads.length rcm, .slice lam lm.levels.length lcm]) lm := GVal.weak hv (fun b _ h => nin_res HS.out h)
  clear hv
  replace K4 := hid (K4.out.more b)
  replace HB : Hid (Below w.heap.size w _) := HB.out.trans (b.mono HB.out.size)
  replace HS : Hid (∀ x ∈ ([B0] : List Nat), x < _) := fun x hx => Nat.lt_of_lt_of_le (HS.out x hx) b.size
  clear b
  go_upto_region 8 with (fail)
  have hne4m := K4.out.lt
  have Km : Hid (BG (nin [B0]) w (w21.alloc (.cells #[.slice ram lm.reads.length rcm, .slice lam lm.levels.length lcm] 25)) w21.heap.size ram lam rcm lcm lm) := hid ((BG.new (nb := (nin [B0])) (l := lm) HB.out hvm).weak (nb' := (nin [B0])) (fun b _ h => h.2))
  have bb := (Below.refl w21.heap.size w21).alloc (Nat.le_refl _) (.cells #[.slice ram lm.reads.length rcm, .slice lam lm.levels.length lcm] 25)
  have hBwm := HB.out.size
  obtain ⟨w22, hw⟩ : ∃ z, w21.alloc (.cells #[.slice ram lm.reads.length rcm, .slice lam lm.levels.length lcm] 25) = z := ⟨_, rfl⟩
  rw [hw] at bb ⊢
  rw [hw] at Km
  obtain ⟨Bm, hBm⟩ : ∃ z, w21.heap.size = z := ⟨_, rfl⟩
  rw [hBm] at Km hBwm ⊢
  rw [hBm] at hne4m
  replace hne4m : B0 ≠ Bm := Nat.ne_of_lt hne4m
  replace K4 := hid (K4.out.more bb)
  replace HB : Hid (Below w.heap.size w w22) := HB.out.trans (bb.mono HB.out.size)
  replace HS : Hid (∀ x ∈ ([B0] : List Nat), x < w22.heap.size) := fun x hx => Nat.lt_of_lt_of_le (HS.out x hx) bb.size
  clear bb hw hvm hBm
  obtain ⟨rn, hrn⟩ : ∃ r, r = dropG l4 := ⟨_, rfl⟩
  obtain ⟨ln, en⟩ := rn
  have HRn := hid hrn
  have hkn : dropG l4 = ((⟨[(9, 1)], [[(3, 5)]]⟩ : Lg), (0 : Int)) := by rw [HL4.out]; decide
  have hhn := HRn.out.trans hkn
  obtain rfl : en = 0 := by cases hhn; rfl
  have HLn : Hid (ln = ⟨[(9, 1)], [[(3, 5)]]⟩) := by cases hhn; rfl
  clear hkn hhn
  have c40 : w22.cell? ⟨B0, 0, none⟩ = some (.slice ra4 l4.reads.length rc4) := K4.out.c0
  have c41 : w22.cell? ⟨B0, 1, none⟩ = some (.slice la4 l4.levels.length lc4) := K4.out.c1
  have P := hid (drop_any w22 _ (.agg #[.slice ra4 l4.reads.length rc4, .slice la4 l4.levels.length lc4]) l4 K4.out.val (by rw [HL4.out]; exact ⟨by decide, by decide, by decide⟩))
  rw [← hrn] at P
  clear hrn
  go_wp2_with fail
  refine P.out.mono ?_
  rintro e w23 ⟨ran, rcn, lan, lcn, rfl, hv, b⟩
  clear P
  clear c40 c41
  have hvn : GVal w23 (nin [B0]) (.agg #[.slice ran ln.reads.length rcn, .slice lan ln.levels.length lcn]) ln := GVal.weak hv (fun b _ h => nin_res HS.out h)
  clear hv
  replace K4 := hid (K4.out.more b)
  replace Km := hid (Km.out.more b)
  replace HB : Hid (Below w.heap.size w _) := HB.out.trans (b.mono HB.out.size)
  replace HS : Hid (∀ x ∈ ([B0] : List Nat), x < _) := fun x hx => Nat.lt_of_lt_of_le (HS.out x hx) b.size
  clear b
  go_upto_region 9 with (fail)
  have hne4n := K4.out.lt
  have hnemn := Km.out.lt
  have Kn : Hid (BG (nin [B0]) w (w23.alloc (.cells #[.slice ran ln.reads.length rcn, .slice lan ln.levels.length lcn] 25)) w23.heap.size ran lan rcn lcn ln) := hid ((BG.new (nb := (nin [B0])) (l := ln) HB.out hvn).weak (nb' := (nin [B0])) (fun b _ h => h.2))
  have bb := (Below.refl w23.heap.size w23).alloc (Nat.le_refl _) (.cells #[.slice ran ln.reads.length rcn, .slice lan ln.levels.length lcn] 25)
  have hBwn := HB.out.size
  obtain ⟨w24, hw⟩ : ∃ z, w23.alloc (.cells #[.slice ran ln.reads.length rcn, .slice lan ln.levels.length lcn] 25) = z := ⟨_, rfl⟩
  rw [hw] at bb ⊢
  rw [hw] at Kn
  obtain ⟨Bn, hBn⟩ : ∃ z, w23.heap.size = z := ⟨_, rfl⟩
  rw [hBn] at Kn hBwn ⊢
  rw [hBn] at hne4n
  replace hne4n : B0 ≠ Bn := Nat.ne_of_lt hne4n
  rw [hBn] at hnemn
  replace hnemn : Bm ≠ Bn := Nat.ne_of_lt hnemn
  replace K4 := hid (K4.out.more bb)
  replace Km := hid (Km.out.more bb)
  replace HB : Hid (Below w.heap.size w w24) := HB.out.trans (bb.mono HB.out.size)
  replace HS : Hid (∀ x ∈ ([B0] : List Nat), x < w24.heap.size) := fun x hx => Nat.lt_of_lt_of_le (HS.out x hx) bb.size
  clear bb hw hvn hBn
  have hg : getG lm 3 = (7, true) := by rw [HLm.out]; decide
  have cm0 : w24.cell? ⟨Bm, 0, none⟩ = some (.slice ram lm.reads.length rcm) := Km.out.c0
  have cm1 : w24.cell? ⟨Bm, 1, none⟩ = some (.slice lam lm.levels.length lcm) := Km.out.c1
  have P := hid (get_any w24 _ (.agg #[.slice ram lm.reads.length rcm, .slice lam lm.levels.length lcm]) lm 3 Km.out.val (inLit (by decide) (by decide)) (by rw [HLm.out]; exact ⟨by decide, by decide, by decide⟩))
  rw [hg] at P
  clear hg
  go_wp2_with fail
  refine P.out.mono ?_
  rintro e w25 ⟨rfl, b⟩
  clear P
  clear cm0 cm1
  replace K4 := hid (K4.out.more b)
  replace Km := hid (Km.out.more b)
  replace Kn := hid (Kn.out.more b)
  replace HB : Hid (Below w.heap.size w _) := HB.out.trans (b.mono HB.out.size)
  replace HS : Hid (∀ x ∈ ([B0] : List Nat), x < _) := fun x hx => Nat.lt_of_lt_of_le (HS.out x hx) b.size
  clear b
  go_upto_region 10 with (fail)
  have hg : getG ln 3 = (5, true) := by rw [HLn.out]; decide
  have cn0 : w25.cell? ⟨Bn, 0, none⟩ = some (.slice ran ln.reads.length rcn) := Kn.out.c0
  have cn1 : w25.cell? ⟨Bn, 1, none⟩ = some (.slice lan ln.levels.length lcn) := Kn.out.c1
  have P := hid (get_any w25 _ (.agg #[.slice ran ln.reads.length rcn, .slice lan ln.levels.length lcn]) ln 3 Kn.out.val (inLit (by decide) (by decide)) (by rw [HLn.out]; exact ⟨by decide, by decide, by decide⟩))
  rw [hg] at P
  clear hg
  go_wp2_with fail
  refine P.out.mono ?_
  rintro e w26 ⟨rfl, b⟩
  clear P
  clear cn0 cn1
  replace K4 := hid (K4.out.more b)
  replace Km := hid (Km.out.more b)
  replace Kn := hid (Kn.out.more b)
  replace HB : Hid (Below w.heap.size w _) := HB.out.trans (b.mono HB.out.size)
  replace HS : Hid (∀ x ∈ ([B0] : List Nat), x < _) := fun x hx => Nat.lt_of_lt_of_le (HS.out x hx) b.size
  clear b
  go_upto_region 11 with (fail)
  obtain ⟨rq, hrq⟩ : ∃ r, r = dropG ln := ⟨_, rfl⟩
  obtain ⟨lq, eq⟩ := rq
  have HRq := hid hrq
  have hkq : dropG ln = ((⟨[(9, 1)], [[(3, 5)]]⟩ : Lg), (170 : Int)) := by rw [HLn.out]; decide
  have hhq := HRq.out.trans hkq
  obtain rfl : eq = 170 := by cases hhq; rfl
  have HLq : Hid (lq = ⟨[(9, 1)], [[(3, 5)]]⟩) := by cases hhq; rfl
  clear hkq hhq
  have cn0 : w26.cell? ⟨Bn, 0, none⟩ = some (.slice ran ln.reads.length rcn) := Kn.out.c0
  have cn1 : w26.cell? ⟨Bn, 1, none⟩ = some (.slice lan ln.levels.length lcn) := Kn.out.c1
  have P := hid (drop_any w26 _ (.agg #[.slice ran ln.reads.length rcn, .slice lan ln.levels.length lcn]) ln Kn.out.val (by rw [HLn.out]; exact ⟨by decide, by decide, by decide⟩))
  rw [← hrq] at P
  clear hrq
  go_wp2_with fail
  refine P.out.mono ?_
  rintro e w27 ⟨raq, rcq, laq, lcq, rfl, hv, b⟩
  clear P
  clear cn0 cn1
  have hvq : GVal w27 (nin [B0]) (.agg #[.slice raq lq.reads.length rcq, .slice laq lq.levels.length lcq]) lq := GVal.weak hv (fun b _ h => nin_res HS.out h)
  clear hv
  replace K4 := hid (K4.out.more b)
  replace Km := hid (Km.out.more b)
  replace Kn := hid (Kn.out.more b)
  replace HB : Hid (Below w.heap.size w _) := HB.out.trans (b.mono HB.out.size)
  replace HS : Hid (∀ x ∈ ([B0] : List Nat), x < _) := fun x hx => Nat.lt_of_lt_of_le (HS.out x hx) b.size
  clear b
  go_upto_region 12 with (fail)
  have hne4q := K4.out.lt
  have hnemq := Km.out.lt
  have hnenq := Kn.out.lt
  have Kq : Hid (BG (nin [B0]) w (w27.alloc (.cells #[.slice raq lq.reads.length rcq, .slice laq lq.levels.length lcq] 25)) w27.heap.size raq laq rcq lcq lq) := hid ((BG.new (nb := (nin [B0])) (l := lq) HB.out hvq).weak (nb' := (nin [B0])) (fun b _ h => h.2))
  have bb := (Below.refl w27.heap.size w27).alloc (Nat.le_refl _) (.cells #[.slice raq lq.reads.length rcq, .slice laq lq.levels.length lcq] 25)
  have hBwq := HB.out.size
  obtain ⟨w28, hw⟩ : ∃ z, w27.alloc (.cells #[.slice raq lq.reads.length rcq, .slice laq lq.levels.length lcq] 25) = z := ⟨_, rfl⟩
  rw [hw] at bb ⊢
  rw [hw] at Kq
  obtain ⟨Bq, hBq⟩ : ∃ z, w27.heap.size = z := ⟨_, rfl⟩
  rw [hBq] at Kq hBwq ⊢
  rw [hBq] at hne4q
  replace hne4q : B0 ≠ Bq := Nat.ne_of_lt hne4q
  rw [hBq] at hnemq
  replace hnemq : Bm ≠ Bq := Nat.ne_of_lt hnemq
  rw [hBq] at hnenq
  replace hnenq : Bn ≠ Bq := Nat.ne_of_lt hnenq
  replace K4 := hid (K4.out.more bb)
  replace Km := hid (Km.out.more bb)
  replace Kn := hid (Kn.out.more bb)
  replace HB : Hid (Below w.heap.size w w28) := HB.out.trans (bb.mono HB.out.size)
  replace HS : Hid (∀ x ∈ ([B0] : List Nat), x < w28.heap.size) := fun x hx => Nat.lt_of_lt_of_le (HS.out x hx) bb.size
  clear bb hw hvq hBq
  have cn0 : w28.cell? ⟨Bn, 0, none⟩ = some (.slice ran ln.reads.length rcn) := Kn.out.c0
  have hn1 : ((ln.reads.length : Int) == 1) = true := by rw [HLn.out]; rfl
  have c40 : w28.cell? ⟨B0, 0, none⟩ = some (.slice ra4 l4.reads.length rc4) := K4.out.c0
  have c41 : w28.cell? ⟨B0, 1, none⟩ = some (.slice la4 l4.levels.length lc4) := K4.out.c1
  have hc1 : chkG l4 = true := by rw [HL4.out]; decide
  have P := hid (check_any w28 _ (.agg #[.slice ra4 l4.reads.length rc4, .slice la4 l4.levels.length lc4]) l4 K4.out.val)
  rw [hc1] at P
  clear hc1
  go_wp2_with fail
  refine P.out.mono ?_
  rintro e w90 ⟨rfl, b⟩
  clear P
  have HB2 := hid (HB.out.trans (b.mono HB.out.size))
  have P := hid (check_any w90 (fun _ => True) (.agg #[.slice none 0 0, .slice none 0 0]) (⟨[], []⟩ : Lg) ⟨none, 0, none, 0, rfl, RSl.nil _ _ _ _, RSl.nil _ _ _ _⟩)
  have hc1 : chkG (⟨[], []⟩ : Lg) = false := by decide
  rw [hc1] at P
  clear hc1 b
  go_wp2_with fail
  refine P.out.mono ?_
  rintro e w91 ⟨rfl, b⟩
  have HB3 := hid (HB2.out.trans (b.mono HB2.out.size))
  clear P b
  go_wp2_with fail
  go_ret
  exact Bb.fin rfl HB3.out
end Go.Proofs.Ytaajooemocdfgaa
