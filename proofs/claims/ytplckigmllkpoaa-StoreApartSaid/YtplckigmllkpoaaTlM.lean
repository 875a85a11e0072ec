/- The reference of tlog: Check, Few, Writes, Same: what each returns. -/
import Derived.Test.YtplckigmllkpoaaTlL
namespace Go.Proofs.Ytplckigmllkpoaa
open Go.RowKit Go.Shelf Go.Maps
attribute [local go_sem] Oper.semAt_some
theorem take_more {α : Type} {xs : List α} {k : Nat} {x : α} (h : xs[k]? = some x) : xs.take (k + 1) = xs.take k ++ [x] := by
  have hk := (List.getElem?_eq_some_iff.1 h).1
  rw [List.take_succ_eq_append_getElem hk, (List.getElem?_eq_some_iff.1 h).2]
theorem ord_pre {xs : List Pr} {k : Nat} (h : onceB ((xs.take k).map (·.1)) = false) : ordB xs = false := by
  refine onceB_prefix (xs := (xs.take k).map (·.1)) ?_ h
  obtain ⟨t, ht⟩ := List.take_prefix k xs
  exact ⟨t.map (·.1), by rw [← List.map_append, ht]⟩
theorem ord_snoc {xs : List Pr} {k : Nat} {x : Pr} (h : xs[k]? = some x) : onceB ((xs.take (k + 1)).map (·.1)) = (onceB ((xs.take k).map (·.1)) && (decide (0 ≤ x.1) && !(((xs.take k).map (·.1)).contains x.1))) := by
  rw [take_more h, List.map_append]; exact onceB_snoc _ _
theorem ord_neg {xs : List Pr} {k : Nat} {x : Pr} (h : xs[k]? = some x) (hx : x.1 < 0) : ordB xs = false :=
  ord_pre (k := k + 1) (by rw [ord_snoc h, decide_eq_false (by omega)]; simp)
theorem ord_dup {xs : List Pr} {k j : Nat} {x y : Pr} (h : xs[k]? = some x) (hy : xs[j]? = some y) (hj : j < k) (he : y.1 = x.1) : ordB xs = false :=
  ord_pre (k := k + 1) (by
    have : ((xs.take k).map (·.1)).contains x.1 = true := by
      rw [List.contains_iff_mem, List.mem_map]
      exact ⟨y, List.mem_of_getElem? (by rw [List.getElem?_take_of_lt hj]; exact hy), he⟩
    rw [ord_snoc h, this]; simp)
theorem ord_step {xs : List Pr} {k : Nat} {x : Pr} (h : xs[k]? = some x) (h0 : onceB ((xs.take k).map (·.1)) = true) (hx : 0 ≤ x.1) (hn : ∀ (j : Nat) (y : Pr), j < k → xs[j]? = some y → (y.1 == x.1) = false) : onceB ((xs.take (k + 1)).map (·.1)) = true := by
  have : ((xs.take k).map (·.1)).contains x.1 = false := by
    rw [← Bool.not_eq_true, List.contains_iff_mem, List.mem_map]
    rintro ⟨y, hy, e⟩
    obtain ⟨j, hj⟩ := List.getElem?_of_mem hy
    rw [List.getElem?_take] at hj
    split at hj
    · have := hn j y (by assumption) hj; simp [e] at this
    · cases hj
  rw [ord_snoc h, h0, this, decide_eq_true hx]; rfl
theorem LSl.pick {w wr : World} {ok : Nat → Prop} {v : Value} {xs : List (List Pr)} (h : LSl w ok v xs) (hb : Below w.heap.size w wr) {k : Nat} {x : List Pr} (hx : xs[k]? = some x) :
    ∃ b off cap sa sc, v = .slice (some ⟨b, off, none⟩) xs.length cap ∧ PSl wr ok (.slice sa x.length sc) x ∧ wr.cell? ⟨b, off + k, none⟩ = some (.slice sa x.length sc) := by
  obtain ⟨b, off, cap, x', sa, sc, hv, hx', hs, e⟩ := h.at hb (List.getElem?_eq_some_iff.1 hx).1
  rw [hx] at hx'; cases hx'
  exact ⟨b, off, cap, sa, sc, hv, hs, e⟩
theorem PSl.pick {w wr : World} {ok : Nat → Prop} {v : Value} {xs : List Pr} (h : PSl w ok v xs) (hb : Below w.heap.size w wr) {k : Nat} {x : Pr} (hx : xs[k]? = some x) :
    ∃ b off cap, v = .slice (some ⟨b, off, none⟩) xs.length cap ∧ In x.1 ∧ In x.2 ∧ wr.cell? ⟨b, off + k * 2, none⟩ = some (.int .i64 x.1) ∧ wr.cell? ⟨b, off + k * 2 + 1, none⟩ = some (.int .i64 x.2) := by
  obtain ⟨b, off, cap, x', hv, hx', h1, h2, e1, e2⟩ := h.at hb (List.getElem?_eq_some_iff.1 hx).1
  rw [hx] at hx'; cases hx'
  exact ⟨b, off, cap, hv, h1, h2, e1, e2⟩
set_option maxRecDepth 100000 in
set_option maxHeartbeats 8000000 in
theorem rcheckg_any (w : World) (ok : Nat → Prop) (v : Value) (l : Lg) (h : GVal w ok v l) : Calls Try.prog 35 #[v] w (Bb (chkG l) w) := by
  obtain ⟨ra, rc, la, lc, rfl, hr, hl⟩ := h
  obtain ⟨_, _, e, l1, _⟩ := hr.shape
  cases e
  obtain ⟨_, _, e, l2, _⟩ := hl.shape
  cases e
  obtain ⟨W0, hW0⟩ : ∃ W0, w.alloc (Obj.cells #[.slice ra l.reads.length rc, .slice la l.levels.length lc] 28) = W0 := ⟨_, rfl⟩
  have hb0 : Below w.heap.size w W0 := by rw [← hW0]; exact (Below.refl _ _).alloc (Nat.le_refl _) _
  have h0 : W0.heap[w.heap.size]? = some (.cells #[.slice ra l.reads.length rc, .slice la l.levels.length lc] 28) := by rw [← hW0]; exact World.alloc_heap_new _ _
  have HH := hid (And.intro hr (And.intro hl (And.intro hb0 h0)))
  have HW := hid hW0
  clear hr hl hb0 h0 hW0
  go_enter Try.func35, Try.ntmps35
  go_upto_region 1 with (fail)
  rw [HW.out]
  clear HW
  have c0 : W0.cell? ⟨w.heap.size, 0, none⟩ = some (.slice ra l.reads.length rc) := cell_of HH.out.2.2.2
  have c1 : W0.cell? ⟨w.heap.size, 1, none⟩ = some (.slice la l.levels.length lc) := cell_of HH.out.2.2.2
  by_cases hz : 0 < l.levels.length
  · have f0 : ((l.levels.length : Int) == 0) = false := by rw [beq_eq_false_iff_ne]; omega
    go_upto_region 4 with (fail)
    clear c0 c1
    go_loopw [3] (fun i wr => ∃ k : Nat, k ≤ l.reads.length ∧ i = .int .i64 k ∧ Hid (onceB ((l.reads.take k).map (·.1)) = true) ∧ Below W0.heap.size W0 wr) (fun i _ => l.reads.length - (intOf i).toNat)
    case atStart => exact ⟨0, Nat.zero_le _, rfl, rfl, Below.refl _ _⟩
    case round =>
      obtain ⟨k, hk, rfl, HA, hb⟩ := hrel
      have c0 : wr.cell? ⟨w.heap.size, 0, none⟩ = some (.slice ra l.reads.length rc) := (hb.cell (lt_of_some HH.out.2.2.2)).trans (cell_of HH.out.2.2.2)
      have c1 : wr.cell? ⟨w.heap.size, 1, none⟩ = some (.slice la l.levels.length lc) := (hb.cell (lt_of_some HH.out.2.2.2)).trans (cell_of HH.out.2.2.2)
      by_cases hlt : k < l.reads.length
      · obtain ⟨b1, o1, c1', x, hv1, hx, hin, _, e1, _⟩ := (HH.out.1.more HH.out.2.2.1).at hb hlt
        cases hv1
        have HX := hid hx
        clear hx hin
        by_cases hneg : x.1 < 0
        · have f1 : decide (x.1 < 0) = true := by simpa using hneg
          have HN := hid (ord_neg HX.out hneg)
          have HB := hid (HH.out.2.2.1.trans (hb.mono HH.out.2.2.1.size))
          go_wp2_with fail
          go_ret
          exact Bb.fin (by rw [chkG, HN.out]; simp) HB.out
        · have f1 : decide (x.1 < 0) = false := by simpa using hneg
          go_upto_region 9 with (fail)
          go_loopw [4] (fun i wr' => ∃ m : Nat, m ≤ k ∧ i = .int .i64 m ∧ Hid (∀ (j : Nat) (y : Pr), j < m → l.reads[j]? = some y → (y.1 == x.1) = false) ∧ Below W0.heap.size W0 wr') (fun i _ => k - (intOf i).toNat)
          case atStart => exact ⟨0, Nat.zero_le _, rfl, fun j y hj => absurd hj (by omega), hb⟩
          case round =>
            obtain ⟨m, hm, rfl, HB, hb'⟩ := hrel
            clear e1
            by_cases hlm : m < k
            · obtain ⟨y, hy⟩ : ∃ y, l.reads[m]? = some y := ⟨_, List.getElem?_eq_getElem (by omega)⟩
              obtain ⟨_, _, _, hv2, _, _, e1, _⟩ := (HH.out.1.more HH.out.2.2.1).pick hb' HX.out
              cases hv2
              obtain ⟨_, _, _, hv3, _, _, e2, _⟩ := (HH.out.1.more HH.out.2.2.1).pick hb' hy
              cases hv3
              have c0 : wr.cell? ⟨w.heap.size, 0, none⟩ = some (.slice (some ⟨b1, o1, none⟩) l.reads.length rc) := (hb'.cell (lt_of_some HH.out.2.2.2)).trans (cell_of HH.out.2.2.2)
              have hml : m < l.reads.length := by omega
              have HY := hid hy
              clear hy
              cases hq : y.1 == x.1
              · have HQ := hid hq
                go_wp2
                go_quiet (fail)
                go_wp2
                go_roundw
                case rel =>
                  refine ⟨m + 1, by omega, by go_num, fun j z hj hz => ?_, below_drewN hb' _⟩
                  by_cases e : j = m
                  · subst e; rw [HY.out] at hz; cases hz; exact HQ.out
                  · exact HB.out j z (by omega) hz
                case measure => simp [intOf]; omega
              · have HN := hid (ord_dup HX.out HY.out hlm (by simpa using hq))
                go_wp2
                go_quiet (fail)
                go_wp2
                go_ret
                exact Bb.fin (by rw [chkG, HN.out]; simp) (HH.out.2.2.1.trans ((below_drewN hb' _).mono HH.out.2.2.1.size))
            · obtain rfl : m = k := by omega
              go_wp2
              go_roundw
              case rel => exact ⟨m + 1, by omega, by go_num, ord_step HX.out HA.out hneg HB.out, hb'⟩
              case measure => simp [intOf]; omega
      · obtain rfl : k = l.reads.length := by omega
        rw [List.take_length] at HA
        go_upto_region 14 with (fail)
        clear c0 c1
        go_loopw [5] (fun i wr => ∃ n : Nat, n ≤ l.levels.length ∧ i = .int .i64 n ∧ Hid (∀ (j : Nat) (y : List Pr), j < n → l.levels[j]? = some y → ordB y = true) ∧ Below W0.heap.size W0 wr) (fun i _ => l.levels.length - (intOf i).toNat)
        case atStart => exact ⟨0, Nat.zero_le _, rfl, fun j y hj => absurd hj (by omega), hb⟩
        case round =>
          clear hb
          obtain ⟨n, hn, rfl, HL, hb⟩ := hrel
          have c1 : wr.cell? ⟨w.heap.size, 1, none⟩ = some (.slice la l.levels.length lc) := (hb.cell (lt_of_some HH.out.2.2.2)).trans (cell_of HH.out.2.2.2)
          by_cases hln : n < l.levels.length
          · obtain ⟨b1, o1, cc1, lv, sa, sc, hv1, hlv, hs, e1⟩ := (HH.out.2.1.more HH.out.2.2.1).at hb hln
            cases hv1
            obtain ⟨_, _, e, l3, _⟩ := hs.shape
            cases e
            have HS := hid (And.intro hlv hs)
            obtain ⟨wo, hwo⟩ : ∃ wo : World, wo = wr := ⟨_, rfl⟩
            rw [← hwo] at HS
            have hbo : Below wo.heap.size wo wr := by rw [hwo]; exact Below.refl _ _
            have HBO := hid (show Below W0.heap.size W0 wo by rw [hwo]; exact hb)
            clear hs hlv hwo
            go_upto_region 18 with (fail)
            clear c1 e1
            go_loopw [7] (fun i wr => ∃ k : Nat, k ≤ lv.length ∧ i = .int .i64 k ∧ Hid (onceB ((lv.take k).map (·.1)) = true) ∧ Below wo.heap.size wo wr) (fun i _ => lv.length - (intOf i).toNat)
            case atStart => exact ⟨0, Nat.zero_le _, rfl, rfl, hbo⟩
            case round =>
              clear hb hbo
              obtain ⟨k, hk, rfl, HK, hb⟩ := hrel
              by_cases hlt : k < lv.length
              · obtain ⟨b2, o2, c2', x, hv1, hx, hin, _, e1, _⟩ := HS.out.2.at hb hlt
                cases hv1
                have HX := hid hx
                clear hx hin
                by_cases hneg : x.1 < 0
                · have f1 : decide (x.1 < 0) = true := by simpa using hneg
                  have HN := hid (ord_neg HX.out hneg)
                  have HB := hid (HH.out.2.2.1.trans ((HBO.out.trans (hb.mono HBO.out.size)).mono HH.out.2.2.1.size))
                  go_wp2_with fail
                  go_ret
                  exact Bb.fin (by rw [chkG, show l.levels.all ordB = false by rw [List.all_eq_false]; exact ⟨lv, List.mem_of_getElem? HS.out.1, by rw [HN.out]; simp⟩]; simp) HB.out
                · have f1 : decide (x.1 < 0) = false := by simpa using hneg
                  go_upto_region 23 with (fail)
                  go_loopw [8] (fun i wr' => ∃ m : Nat, m ≤ k ∧ i = .int .i64 m ∧ Hid (∀ (j : Nat) (y : Pr), j < m → lv[j]? = some y → (y.1 == x.1) = false) ∧ Below wo.heap.size wo wr') (fun i _ => k - (intOf i).toNat)
                  case atStart => exact ⟨0, Nat.zero_le _, rfl, fun j y hj => absurd hj (by omega), hb⟩
                  case round =>
                    obtain ⟨m, hm, rfl, HB, hb'⟩ := hrel
                    clear e1
                    by_cases hlm : m < k
                    · obtain ⟨y, hy⟩ : ∃ y, lv[m]? = some y := ⟨_, List.getElem?_eq_getElem (by omega)⟩
                      obtain ⟨_, _, _, hv2, _, _, e1, _⟩ := HS.out.2.pick hb' HX.out
                      cases hv2
                      obtain ⟨_, _, _, hv3, _, _, e2, _⟩ := HS.out.2.pick hb' hy
                      cases hv3
                      have hml : m < lv.length := by omega
                      have HY := hid hy
                      clear hy
                      cases hq : y.1 == x.1
                      · have HQ := hid hq
                        go_wp2
                        go_quiet (fail)
                        go_wp2
                        go_roundw
                        case rel =>
                          refine ⟨m + 1, by omega, by go_num, fun j z hj hz => ?_, below_drewN hb' _⟩
                          by_cases e : j = m
                          · subst e; rw [HY.out] at hz; cases hz; exact HQ.out
                          · exact HB.out j z (by omega) hz
                        case measure => simp [intOf]; omega
                      · have HN := hid (ord_dup HX.out HY.out hlm (by simpa using hq))
                        go_wp2
                        go_quiet (fail)
                        go_wp2
                        go_ret
                        exact Bb.fin (by rw [chkG, show l.levels.all ordB = false by rw [List.all_eq_false]; exact ⟨lv, List.mem_of_getElem? HS.out.1, by rw [HN.out]; simp⟩]; simp) (HH.out.2.2.1.trans ((HBO.out.trans ((below_drewN hb' _).mono HBO.out.size)).mono HH.out.2.2.1.size))
                    · obtain rfl : m = k := by omega
                      go_wp2
                      go_roundw
                      case rel => exact ⟨m + 1, by omega, by go_num, ord_step HX.out HK.out (by omega) HB.out, hb'⟩
                      case measure => simp [intOf]; omega
              · obtain rfl : k = lv.length := by omega
                rw [List.take_length] at HK
                go_wp2
                go_roundw
                case rel =>
                  refine ⟨n + 1, by omega, by go_num, fun j y hj hy => ?_, HBO.out.trans (hb.mono HBO.out.size)⟩
                  by_cases e : j = n
                  · subst e; rw [HS.out.1] at hy; cases hy; exact HK.out
                  · exact HL.out j y (by omega) hy
                case measure => simp [intOf]; omega
          · obtain rfl : n = l.levels.length := by omega
            have HB := hid (HH.out.2.2.1.trans (hb.mono HH.out.2.2.1.size))
            go_wp2
            go_ret
            refine Bb.fin ?_ HB.out
            rw [chkG, show ordB l.reads = true from HA.out, show l.levels.all ordB = true by
              rw [List.all_eq_true]; intro y hy
              obtain ⟨j, hj⟩ := List.getElem?_of_mem hy
              exact HL.out j y (List.getElem?_eq_some_iff.1 hj).1 hj, decide_eq_true hz]; rfl
  · have f0 : ((l.levels.length : Int) == 0) = true := by rw [beq_iff_eq]; omega
    go_wp2_with fail
    go_ret
    exact Bb.fin (by rw [chkG, decide_eq_false hz]; rfl) HH.out.2.2.1
end Go.Proofs.Ytplckigmllkpoaa
