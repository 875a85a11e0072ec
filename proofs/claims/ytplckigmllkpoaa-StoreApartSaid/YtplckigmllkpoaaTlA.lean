/- Pairs, levels, logs in memory; clones and searches of them. -/
import Derived.Test.YtplckigmllkpoaaInts
import Derived.Test.YtplckigmllkpoaaHeldC
import Derived.Test.YtplckigmllkpoaaOwnSet
import Derived.Laws.OwnMore
namespace Go.Proofs.Ytplckigmllkpoaa
open Go.RowKit Go.Shelf
attribute [local go_sem] Oper.semAt_some
abbrev Pr := Int × Int
def PairE : Enc Pr := fun _ _ x row => row = [.int .i64 x.1, .int .i64 x.2] ∧ In x.1 ∧ In x.2
theorem pairGood : Good PairE 2 := ⟨fun _ _ _ _ h => by rw [h.1]; rfl, fun _ _ _ _ _ _ h => h, fun _ _ _ _ _ _ h => h⟩
abbrev PSl := RSl PairE 2
theorem PSl.shape {w : World} {ok : Nat → Prop} {v : Value} {xs : List Pr} (h : PSl w ok v xs) : ∃ ao cap, v = .slice ao xs.length cap ∧ xs.length ≤ 9223372036854775807 ∧ (ao = none → xs.length = 0) := by
  obtain ⟨ao, cap, rfl, h1, h2, h3, _⟩ := h
  unfold maxLen at h2
  exact ⟨ao, cap, rfl, by omega, fun h => by have := h3 h; omega⟩
theorem PSl.at {w wr : World} {ok : Nat → Prop} {v : Value} {xs : List Pr} (h : PSl w ok v xs) (hb : Below w.heap.size w wr) {k : Nat} (hk : k < xs.length) :
    ∃ b off cap x, v = .slice (some ⟨b, off, none⟩) xs.length cap ∧ xs[k]? = some x ∧ In x.1 ∧ In x.2 ∧ wr.cell? ⟨b, off + k * 2, none⟩ = some (.int .i64 x.1) ∧ wr.cell? ⟨b, off + k * 2 + 1, none⟩ = some (.int .i64 x.2) := by
  obtain ⟨ao, cap, rfl, _, _, _, h4⟩ := h
  obtain ⟨b, off, rfl, _, hc⟩ := h4 (by omega)
  obtain ⟨row, ⟨hr, hi, hj⟩, hu⟩ := hc k hk
  have c0 := hu 0 _ (by rw [hr]; rfl)
  have c1 := hu 1 _ (by rw [hr]; rfl)
  refine ⟨b, off, cap, xs[k], rfl, List.getElem?_eq_getElem hk, hi, hj, ?_, ?_⟩
  · rw [Nat.add_zero] at c0; rw [hb.cell (World.block_lt_of_cell? w _ c0)]; exact c0
  · rw [hb.cell (World.block_lt_of_cell? w _ c1)]; exact c1
theorem PSl.more {w w' : World} {ok : Nat → Prop} {v : Value} {xs : List Pr} (h : PSl w ok v xs) (b : Below w.heap.size w w') : PSl w' ok v xs := RSl.below pairGood h b
theorem PSl.all {w : World} {ok : Nat → Prop} {v : Value} {xs : List Pr} (h : PSl w ok v xs) : PSl w (fun _ => True) v xs := h.weak pairGood (by decide) (fun _ _ _ => trivial)
/-- A level in its cell. -/
def LevE : Enc (List Pr) := fun w ok x row => ∃ sv, row = [sv] ∧ PSl w ok sv x
theorem levGood : Good LevE 1 := ⟨fun _ _ _ _ ⟨_, h, _⟩ => by rw [h]; rfl, fun _ _ _ _ _ hs ⟨sv, h, s⟩ => ⟨sv, h, s.keep pairGood hs⟩, fun _ _ _ _ _ hs ⟨sv, h, s⟩ => ⟨sv, h, s.weak pairGood (by decide) hs⟩⟩
abbrev LSl := RSl LevE 1
theorem LSl.shape {w : World} {ok : Nat → Prop} {v : Value} {xs : List (List Pr)} (h : LSl w ok v xs) : ∃ ao cap, v = .slice ao xs.length cap ∧ xs.length ≤ 9223372036854775807 ∧ (ao = none → xs.length = 0) := by
  obtain ⟨ao, cap, rfl, h1, h2, h3, _⟩ := h
  unfold maxLen at h2
  exact ⟨ao, cap, rfl, by omega, fun h => by have := h3 h; omega⟩
theorem LSl.at {w wr : World} {ok : Nat → Prop} {v : Value} {xs : List (List Pr)} (h : LSl w ok v xs) (hb : Below w.heap.size w wr) {k : Nat} (hk : k < xs.length) :
    ∃ b off cap x sa sc, v = .slice (some ⟨b, off, none⟩) xs.length cap ∧ xs[k]? = some x ∧ PSl wr ok (.slice sa x.length sc) x ∧ wr.cell? ⟨b, off + k, none⟩ = some (.slice sa x.length sc) := by
  obtain ⟨ao, cap, rfl, _, _, _, h4⟩ := h
  obtain ⟨b, off, rfl, _, hc⟩ := h4 (by omega)
  obtain ⟨row, ⟨sv, hr, hs⟩, hu⟩ := hc k hk
  obtain ⟨sa, sc, rfl, _⟩ := hs.shape
  have c0 := hu 0 _ (by rw [hr]; rfl)
  refine ⟨b, off, cap, xs[k], sa, sc, rfl, List.getElem?_eq_getElem hk, hs.more hb, ?_⟩
  rw [Nat.mul_one, Nat.add_zero] at c0
  rw [hb.cell (World.block_lt_of_cell? w _ c0)]; exact c0
theorem LSl.more {w w' : World} {ok : Nat → Prop} {v : Value} {xs : List (List Pr)} (h : LSl w ok v xs) (b : Below w.heap.size w w') : LSl w' ok v xs := RSl.below levGood h b
theorem LSl.all {w : World} {ok : Nat → Prop} {v : Value} {xs : List (List Pr)} (h : LSl w ok v xs) : LSl w (fun _ => True) v xs := h.weak levGood (by decide) (fun _ _ _ => trivial)
/-- A log. -/
structure Lg where
  reads : List Pr
  levels : List (List Pr)
deriving DecidableEq
def GVal (w : World) (ok : Nat → Prop) (v : Value) (l : Lg) : Prop := ∃ ra rc la lc, v = .agg #[.slice ra l.reads.length rc, .slice la l.levels.length lc] ∧ PSl w ok (.slice ra l.reads.length rc) l.reads ∧ LSl w ok (.slice la l.levels.length lc) l.levels
theorem GVal.more {w w' : World} {ok : Nat → Prop} {v : Value} {l : Lg} (h : GVal w ok v l) (b : Below w.heap.size w w') : GVal w' ok v l := by
  obtain ⟨ra, rc, la, lc, e, h1, h2⟩ := h; exact ⟨ra, rc, la, lc, e, h1.more b, h2.more b⟩
theorem GVal.weak {w : World} {ok ok' : Nat → Prop} {v : Value} {l : Lg} (h : GVal w ok v l) (hs : ∀ b, b < w.heap.size → ok b → ok' b) : GVal w ok' v l := by
  obtain ⟨ra, rc, la, lc, e, h1, h2⟩ := h; exact ⟨ra, rc, la, lc, e, h1.weak pairGood (by decide) hs, h2.weak levGood (by decide) hs⟩
theorem GVal.all {w : World} {ok : Nat → Prop} {v : Value} {l : Lg} (h : GVal w ok v l) : GVal w (fun _ => True) v l := h.weak (fun _ _ _ => trivial)
theorem GVal.keep {w w' : World} {ok : Nat → Prop} {v : Value} {l : Lg} (h : GVal w ok v l) (hs : Same ok w w') : GVal w' ok v l := by
  obtain ⟨ra, rc, la, lc, e, h1, h2⟩ := h; exact ⟨ra, rc, la, lc, e, RSl.keep pairGood h1 hs, RSl.keep levGood h2 hs⟩
theorem pairs_cells {w : World} {ok : Nat → Prop} {xs : List Pr} {rows : List (List Value)} (h : Rows PairE w ok xs rows) : ∀ u ∈ rows.flatten, u.oneCell' = true := by
  intro u hu
  obtain ⟨row, hr, hu⟩ := List.mem_flatten.1 hu
  obtain ⟨i, hi⟩ := List.getElem?_of_mem hr
  have hlt : i < xs.length := by rw [← h.1]; exact (List.getElem?_eq_some_iff.1 hi).1
  obtain ⟨e, _⟩ := h.2 i _ row (List.getElem?_eq_getElem hlt) hi
  subst e; simp at hu; rcases hu with rfl | rfl <;> rfl
/-- The first place of which p holds; -1: there is none. -/
def idxP (xs : List Pr) (p : Pr → Bool) : Int := match xs.findIdx? p with | some i => (i : Int) | none => -1
theorem idxP_yes {xs : List Pr} {p : Pr → Bool} {k : Nat} {x : Pr} (hx : xs[k]? = some x) (hp : p x = true) (hb : ∀ j y, j < k → xs[j]? = some y → p y = false) : idxP xs p = k := by
  have : xs.findIdx? p = some k := by
    rw [List.findIdx?_eq_some_iff_getElem]
    obtain ⟨hk, rfl⟩ := List.getElem?_eq_some_iff.1 hx
    exact ⟨hk, hp, fun j hj => by have := hb j _ hj (List.getElem?_eq_getElem (by omega)); simpa using this⟩
  rw [idxP, this]
theorem idxP_no {xs : List Pr} {p : Pr → Bool} (hb : ∀ (j : Nat) (y : Pr), xs[j]? = some y → p y = false) : idxP xs p = -1 := by
  have : xs.findIdx? p = none := by
    rw [List.findIdx?_eq_none_iff]
    intro y hy
    obtain ⟨j, hj⟩ := List.getElem?_of_mem hy
    exact hb j y hj
  rw [idxP, this]
def PredP (g : Nat) (lb : Array Value) (p : Pr → Bool) (w : World) : Prop :=
  ∀ (W : World) (x : Pr), Below w.heap.size w W → In x.1 → In x.2 → Calls Try.prog g (#[.agg #[.int .i64 x.1, .int .i64 x.2]] ++ lb) W (Bb (p x) W)
theorem infoR : (Try.prog.info? 48).map (fun i => (i.zero, i.size, i.bytes)) = some (some (.agg #[.int .i64 0, .int .i64 0]), 2, 16) := by kernel_rfl
set_option maxHeartbeats 1000000 in
theorem cloneR (w : World) (ok : Nat → Prop) (v : Value) (xs : List Pr) (h : PSl w ok v xs) (hlen : xs.length ≤ 1000000000) :
    Calls Try.prog 58 #[v] w fun e w' => ∃ v', e = .returned v' ∧ OSl PairE 2 48 w.heap.size w' (fun _ => False) v' xs ∧ Below w.heap.size w w' := by
  obtain ⟨a1, c1, rfl, l1, hz⟩ := h.shape
  cases a1 with
  | none =>
    have hx : xs = [] := List.length_eq_zero_iff.1 (hz rfl)
    subst hx
    have he := fun w => eql_nil (P := Try.prog) w 25 48 none 0 c1 Try.underlying25
    go_enter Try.func58, Try.ntmps58
    go_wp2
    go_ret
    exact ⟨_, rfl, OSl.nil _ _ _ _ _ _, Below.refl _ _⟩
  | some a =>
    have he := fun w => eql_nil (P := Try.prog) w 25 48 (some a) xs.length c1 Try.underlying25
    have hown : OSl PairE 2 48 w.heap.size (w.alloc (.cells #[] 48)) (fun _ => False) (.slice (some ⟨w.heap.size, 0, none⟩) 0 0) [] :=
      ⟨[], Rows.nil _ _ _, by simp, .inr ⟨w.heap.size, 0, #[], rfl, Nat.le_refl _, World.alloc_heap_new _ _, Nat.le_refl _, by simp [maxLen], by simp, by simp⟩⟩
    have hrow : ∃ rows ad, a = ad ∧ Rows PairE (w.alloc (.cells #[] 48)) (fun b => False ∧ some b ≠ (Value.slice (some ⟨w.heap.size, 0, none⟩) 0 0).ownBlock) xs rows ∧ ∀ j u, rows.flatten[j]? = some u → (w.alloc (.cells #[] 48)).cell? (ad.add j) = some u := by
      by_cases hp : 0 < xs.length
      · obtain ⟨b, off, cap, rows, hv, _, hr, hu⟩ := h.rows pairGood hp
        cases hv
        have hb := (Below.refl w.heap.size w).alloc (Nat.le_refl _) (.cells #[] 48)
        refine ⟨rows, _, rfl, ⟨hr.1, fun i x row hx hr' => hr.2 i x row hx hr'⟩, fun j u hj => ?_⟩
        have hc := hu j u hj
        rw [addr_add, hb.cell (World.block_lt_of_cell? w _ hc)]; exact hc
      · have hx : xs = [] := List.length_eq_zero_iff.1 (by omega)
        subst hx
        exact ⟨[], a, rfl, Rows.nil _ _ _, fun j u h => by simp at h⟩
    obtain ⟨rows, ad, rfl, hr, hu⟩ := hrow
    obtain ⟨v', w', hrun, hO, hg, _, _⟩ := OSl.append (P := Try.prog) pairGood (by decide) hown 25 25 (.agg #[.int .i64 0, .int .i64 0]) 16 Try.underlying25 infoR rfl a c1 xs rows hr hu (pairs_cells hr) (by simp [maxLen]; omega) (by simp; omega) (by simp)
    have HO := hid hO
    have HG := hid hg
    have HR := hid hrun
    clear hO hg hr hu hown hrun
    go_enter Try.func58, Try.ntmps58
    go_wp2_with (at_builtin; refine wpList_append_run rfl _ _ _ rfl _ _ rfl rfl _ _ HR.out ?_)
    go_ret
    have hb : Below w.heap.size w w' := ((Below.refl w.heap.size w).alloc (Nat.le_refl _) _).grown HG.out (by simp) (fun k hk => by cases hk; exact Nat.le_refl _)
    exact ⟨_, rfl, HO.out, hb⟩
theorem infoW : (Try.prog.info? 63).map (fun i => (i.zero, i.size, i.bytes)) = some (some (.agg #[.int .i64 0, .int .i64 0]), 2, 16) := by kernel_rfl
set_option maxHeartbeats 1000000 in
theorem cloneW (w : World) (ok : Nat → Prop) (v : Value) (xs : List Pr) (h : PSl w ok v xs) (hlen : xs.length ≤ 1000000000) :
    Calls Try.prog 59 #[v] w fun e w' => ∃ v', e = .returned v' ∧ OSl PairE 2 63 w.heap.size w' (fun _ => False) v' xs ∧ Below w.heap.size w w' := by
  obtain ⟨a1, c1, rfl, l1, hz⟩ := h.shape
  cases a1 with
  | none =>
    have hx : xs = [] := List.length_eq_zero_iff.1 (hz rfl)
    subst hx
    have he := fun w => eql_nil (P := Try.prog) w 54 63 none 0 c1 Try.underlying54
    go_enter Try.func59, Try.ntmps59
    go_wp2
    go_ret
    exact ⟨_, rfl, OSl.nil _ _ _ _ _ _, Below.refl _ _⟩
  | some a =>
    have he := fun w => eql_nil (P := Try.prog) w 54 63 (some a) xs.length c1 Try.underlying54
    have hown : OSl PairE 2 63 w.heap.size (w.alloc (.cells #[] 63)) (fun _ => False) (.slice (some ⟨w.heap.size, 0, none⟩) 0 0) [] :=
      ⟨[], Rows.nil _ _ _, by simp, .inr ⟨w.heap.size, 0, #[], rfl, Nat.le_refl _, World.alloc_heap_new _ _, Nat.le_refl _, by simp [maxLen], by simp, by simp⟩⟩
    have hrow : ∃ rows ad, a = ad ∧ Rows PairE (w.alloc (.cells #[] 63)) (fun b => False ∧ some b ≠ (Value.slice (some ⟨w.heap.size, 0, none⟩) 0 0).ownBlock) xs rows ∧ ∀ j u, rows.flatten[j]? = some u → (w.alloc (.cells #[] 63)).cell? (ad.add j) = some u := by
      by_cases hp : 0 < xs.length
      · obtain ⟨b, off, cap, rows, hv, _, hr, hu⟩ := h.rows pairGood hp
        cases hv
        have hb := (Below.refl w.heap.size w).alloc (Nat.le_refl _) (.cells #[] 63)
        refine ⟨rows, _, rfl, ⟨hr.1, fun i x row hx hr' => hr.2 i x row hx hr'⟩, fun j u hj => ?_⟩
        have hc := hu j u hj
        rw [addr_add, hb.cell (World.block_lt_of_cell? w _ hc)]; exact hc
      · have hx : xs = [] := List.length_eq_zero_iff.1 (by omega)
        subst hx
        exact ⟨[], a, rfl, Rows.nil _ _ _, fun j u h => by simp at h⟩
    obtain ⟨rows, ad, rfl, hr, hu⟩ := hrow
    obtain ⟨v', w', hrun, hO, hg, _, _⟩ := OSl.append (P := Try.prog) pairGood (by decide) hown 54 54 (.agg #[.int .i64 0, .int .i64 0]) 16 Try.underlying54 infoW rfl a c1 xs rows hr hu (pairs_cells hr) (by simp [maxLen]; omega) (by simp; omega) (by simp)
    have HO := hid hO
    have HG := hid hg
    have HR := hid hrun
    clear hO hg hr hu hown hrun
    go_enter Try.func59, Try.ntmps59
    go_wp2_with (at_builtin; refine wpList_append_run rfl _ _ _ rfl _ _ rfl rfl _ _ HR.out ?_)
    go_ret
    have hb : Below w.heap.size w w' := ((Below.refl w.heap.size w).alloc (Nat.le_refl _) _).grown HG.out (by simp) (fun k hk => by cases hk; exact Nat.le_refl _)
    exact ⟨_, rfl, HO.out, hb⟩
theorem infoV : (Try.prog.info? 63).map (fun i => (i.zero, i.size, i.bytes)) = some (some (.agg #[.int .i64 0, .int .i64 0]), 2, 16) := by kernel_rfl
set_option maxHeartbeats 1000000 in
theorem cloneV (w : World) (ok : Nat → Prop) (v : Value) (xs : List Pr) (h : PSl w ok v xs) (hlen : xs.length ≤ 1000000000) :
    Calls Try.prog 60 #[v] w fun e w' => ∃ v', e = .returned v' ∧ OSl PairE 2 63 w.heap.size w' (fun _ => False) v' xs ∧ Below w.heap.size w w' := by
  obtain ⟨a1, c1, rfl, l1, hz⟩ := h.shape
  cases a1 with
  | none =>
    have hx : xs = [] := List.length_eq_zero_iff.1 (hz rfl)
    subst hx
    have he := fun w => eql_nil (P := Try.prog) w 72 63 none 0 c1 Try.underlying72
    go_enter Try.func60, Try.ntmps60
    go_wp2
    go_ret
    exact ⟨_, rfl, OSl.nil _ _ _ _ _ _, Below.refl _ _⟩
  | some a =>
    have he := fun w => eql_nil (P := Try.prog) w 72 63 (some a) xs.length c1 Try.underlying72
    have hown : OSl PairE 2 63 w.heap.size (w.alloc (.cells #[] 63)) (fun _ => False) (.slice (some ⟨w.heap.size, 0, none⟩) 0 0) [] :=
      ⟨[], Rows.nil _ _ _, by simp, .inr ⟨w.heap.size, 0, #[], rfl, Nat.le_refl _, World.alloc_heap_new _ _, Nat.le_refl _, by simp [maxLen], by simp, by simp⟩⟩
    have hrow : ∃ rows ad, a = ad ∧ Rows PairE (w.alloc (.cells #[] 63)) (fun b => False ∧ some b ≠ (Value.slice (some ⟨w.heap.size, 0, none⟩) 0 0).ownBlock) xs rows ∧ ∀ j u, rows.flatten[j]? = some u → (w.alloc (.cells #[] 63)).cell? (ad.add j) = some u := by
      by_cases hp : 0 < xs.length
      · obtain ⟨b, off, cap, rows, hv, _, hr, hu⟩ := h.rows pairGood hp
        cases hv
        have hb := (Below.refl w.heap.size w).alloc (Nat.le_refl _) (.cells #[] 63)
        refine ⟨rows, _, rfl, ⟨hr.1, fun i x row hx hr' => hr.2 i x row hx hr'⟩, fun j u hj => ?_⟩
        have hc := hu j u hj
        rw [addr_add, hb.cell (World.block_lt_of_cell? w _ hc)]; exact hc
      · have hx : xs = [] := List.length_eq_zero_iff.1 (by omega)
        subst hx
        exact ⟨[], a, rfl, Rows.nil _ _ _, fun j u h => by simp at h⟩
    obtain ⟨rows, ad, rfl, hr, hu⟩ := hrow
    obtain ⟨v', w', hrun, hO, hg, _, _⟩ := OSl.append (P := Try.prog) pairGood (by decide) hown 72 72 (.agg #[.int .i64 0, .int .i64 0]) 16 Try.underlying72 infoV rfl a c1 xs rows hr hu (pairs_cells hr) (by simp [maxLen]; omega) (by simp; omega) (by simp)
    have HO := hid hO
    have HG := hid hg
    have HR := hid hrun
    clear hO hg hr hu hown hrun
    go_enter Try.func60, Try.ntmps60
    go_wp2_with (at_builtin; refine wpList_append_run rfl _ _ _ rfl _ _ rfl rfl _ _ HR.out ?_)
    go_ret
    have hb : Below w.heap.size w w' := ((Below.refl w.heap.size w).alloc (Nat.le_refl _) _).grown HG.out (by simp) (fun k hk => by cases hk; exact Nat.le_refl _)
    exact ⟨_, rfl, HO.out, hb⟩
set_option maxHeartbeats 1000000 in
theorem indexR (g : Nat) (lb : Array Value) (eg : ∀ args w, (callFunc g args).run Try.prog w = .ok (.enter g args) w) (w : World) (ok : Nat → Prop) (v : Value) (xs : List Pr) (p : Pr → Bool)
    (h : PSl w ok v xs) (hp : PredP g lb p w) : Calls Try.prog 54 #[v, .func (.func g) #[] lb] w (Ib (idxP xs p) w) := by
  obtain ⟨a1, c1, rfl, l1, _⟩ := h.shape
  go_enter Try.func54, Try.ntmps54
  go_wp2
  go_loopg [5, 8] xs.length (fun gg _ s8 wr => ∃ k : Nat, k ≤ xs.length ∧ xs.length - k ≤ gg ∧ s8 = .int .i64 k ∧ Hid (∀ j x, j < k → xs[j]? = some x → p x = false) ∧ Below w.heap.size w wr)
  case atStart => exact ⟨0, Nat.zero_le _, by omega, rfl, fun j x hj => absurd hj (by omega), Below.refl _ _⟩
  case round =>
    obtain ⟨k, hk, hg, rfl, HA, hb⟩ := hrel
    by_cases hlt : k < xs.length
    · obtain ⟨b1, o1, c1', x, hv1, hx, hin, hin2, e1, e2⟩ := h.at hb (k := k) hlt
      cases hv1
      have HX := hid hx
      have hcall := hp wr x hb hin hin2
      clear hx h hp
      cases hq : p x with
      | true =>
        rw [hq] at hcall
        go_wp2_with (go_at_fn g; refine hcall.mono ?_; rintro e w' ⟨rfl, hb'⟩)
        go_ret
        exact Ib.fin (idxP_yes HX.out hq HA.out).symm (bthen hb hb')
      | false =>
        rw [hq] at hcall
        go_wp2_with (go_at_fn g; refine hcall.mono ?_; rintro e w' ⟨rfl, hb'⟩)
        go_roundg (xs.length - (k + 1))
        case measure => omega
        case rel =>
          refine ⟨k + 1, by omega, by omega, by go_num, fun j y hj hy => ?_, bthen hb hb'⟩
          by_cases e : j = k
          · subst e; rw [HX.out] at hy; cases hy; exact hq
          · exact HA.out j y (by omega) hy
    · obtain rfl : k = xs.length := by omega
      go_wp2
      go_ret
      exact Ib.fin (idxP_no (fun i x hx => HA.out i x (List.getElem?_eq_some_iff.1 hx).1 hx)).symm hb
set_option maxHeartbeats 1000000 in
theorem indexV (g : Nat) (lb : Array Value) (eg : ∀ args w, (callFunc g args).run Try.prog w = .ok (.enter g args) w) (w : World) (ok : Nat → Prop) (v : Value) (xs : List Pr) (p : Pr → Bool)
    (h : PSl w ok v xs) (hp : PredP g lb p w) : Calls Try.prog 56 #[v, .func (.func g) #[] lb] w (Ib (idxP xs p) w) := by
  obtain ⟨a1, c1, rfl, l1, _⟩ := h.shape
  go_enter Try.func56, Try.ntmps56
  go_wp2
  go_loopg [5, 8] xs.length (fun gg _ s8 wr => ∃ k : Nat, k ≤ xs.length ∧ xs.length - k ≤ gg ∧ s8 = .int .i64 k ∧ Hid (∀ j x, j < k → xs[j]? = some x → p x = false) ∧ Below w.heap.size w wr)
  case atStart => exact ⟨0, Nat.zero_le _, by omega, rfl, fun j x hj => absurd hj (by omega), Below.refl _ _⟩
  case round =>
    obtain ⟨k, hk, hg, rfl, HA, hb⟩ := hrel
    by_cases hlt : k < xs.length
    · obtain ⟨b1, o1, c1', x, hv1, hx, hin, hin2, e1, e2⟩ := h.at hb (k := k) hlt
      cases hv1
      have HX := hid hx
      have hcall := hp wr x hb hin hin2
      clear hx h hp
      cases hq : p x with
      | true =>
        rw [hq] at hcall
        go_wp2_with (go_at_fn g; refine hcall.mono ?_; rintro e w' ⟨rfl, hb'⟩)
        go_ret
        exact Ib.fin (idxP_yes HX.out hq HA.out).symm (bthen hb hb')
      | false =>
        rw [hq] at hcall
        go_wp2_with (go_at_fn g; refine hcall.mono ?_; rintro e w' ⟨rfl, hb'⟩)
        go_roundg (xs.length - (k + 1))
        case measure => omega
        case rel =>
          refine ⟨k + 1, by omega, by omega, by go_num, fun j y hj hy => ?_, bthen hb hb'⟩
          by_cases e : j = k
          · subst e; rw [HX.out] at hy; cases hy; exact hq
          · exact HA.out j y (by omega) hy
    · obtain rfl : k = xs.length := by omega
      go_wp2
      go_ret
      exact Ib.fin (idxP_no (fun i x hx => HA.out i x (List.getElem?_eq_some_iff.1 hx).1 hx)).symm hb
end Go.Proofs.Ytplckigmllkpoaa
