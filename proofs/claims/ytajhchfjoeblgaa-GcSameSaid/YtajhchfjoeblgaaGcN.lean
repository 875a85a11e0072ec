/- GcSame: the walk. -/
import Derived.Test.YtajhchfjoeblgaaKept
import Derived.Deep.CutRange
namespace Go.Proofs.Ytajhchfjoeblgaa
open Go.RowKit Go.Shelf
attribute [local go_sem] Oper.semAt_some
/-- Bytes. -/
def ByteE : Enc Nat := fun _ _ z row => row = [.int .u8 z] ∧ z ≤ 255
theorem byteGood : Good ByteE 1 := ⟨fun _ _ _ _ h => by rw [h.1]; rfl, fun _ _ _ _ _ _ h => h, fun _ _ _ _ _ _ h => h⟩
abbrev BSl := RSl ByteE 1
theorem BSl.more {w w' : World} {v : Value} {xs : List Nat} (h : BSl w (fun _ => True) v xs) (b : Below w.heap.size w w') : BSl w' (fun _ => True) v xs := RSl.below byteGood h b
theorem BSl.shape {w : World} {ok : Nat → Prop} {v : Value} {xs : List Nat} (h : BSl w ok v xs) : ∃ ao cap, v = .slice ao xs.length cap ∧ xs.length ≤ 9223372036854775807 ∧ (ao = none → xs.length = 0) := by
  obtain ⟨ao, cap, rfl, h1, h2, h3, _⟩ := h
  unfold maxLen at h2
  exact ⟨ao, cap, rfl, by omega, fun h => by have := h3 h; omega⟩
theorem BSl.at {w wr : World} {ok : Nat → Prop} {v : Value} {xs : List Nat} (h : BSl w ok v xs) (hb : Below w.heap.size w wr) {k : Nat} (hk : k < xs.length) :
    ∃ b off cap x, v = .slice (some ⟨b, off, none⟩) xs.length cap ∧ xs[k]? = some x ∧ x ≤ 255 ∧ wr.cell? ⟨b, off + k, none⟩ = some (.int .u8 x) := by
  obtain ⟨ao, cap, rfl, _, _, _, h4⟩ := h
  obtain ⟨b, off, rfl, _, hc⟩ := h4 (by omega)
  obtain ⟨row, ⟨hr, hi⟩, hu⟩ := hc k hk
  have c0 := hu 0 _ (by rw [hr]; rfl)
  refine ⟨b, off, cap, xs[k], rfl, List.getElem?_eq_getElem hk, hi, ?_⟩
  rw [Nat.mul_one, Nat.add_zero] at c0
  rw [hb.cell (World.block_lt_of_cell? w _ c0)]; exact c0
theorem at_val (w : World) (ok : Nat → Prop) (v : Value) (h : Hp) (p q : Int) (hh : HVal w ok v h) (hp : In p) (hn : h.nodes.length ≤ 1000) (hkb : ∀ x ∈ h.nodes, x.kids.length ≤ 1000) (hr : res h.nodes p = some q) :
    Calls Try.prog 17 #[v, .int .i64 p] w fun e w' => ∃ s1 k1, e = .returned (.tuple #[.agg #[.int .i64 (nodeAt h.nodes q).kind, .int .i64 (nodeAt h.nodes q).num, .string (nodeAt h.nodes q).name, .slice s1 (nodeAt h.nodes q).kids.length k1], .int .i64 q, .int .i64 0]) ∧ ISl w' (fun _ => True) (.slice s1 (nodeAt h.nodes q).kids.length k1) (nodeAt h.nodes q).kids ∧ Below w.heap.size w w' := by
  refine (at_any w ok v h p hh hp (by omega) (fun x hx => by have := hkb x hx; omega)).mono fun e w' hp' => ?_
  rw [(res_some hr).2.2.2.1] at hp'
  obtain ⟨v, rfl, ⟨s1, k1, rfl, _, _, hs⟩, hb⟩ := hp'
  exact ⟨s1, k1, rfl, hs, hb⟩
theorem at_col (w : World) (ok : Nat → Prop) (v : Value) (ns : List Nd) (S : List Int) (m : Int) (q : Int) (c : Col ns S) (hq : q ∈ S) (hh : HVal w ok v ⟨S.map (moved ns S), m⟩) (hn : S.length ≤ 1000) (hkb : ∀ x ∈ S.map (moved ns S), x.kids.length ≤ 1000) :
    Calls Try.prog 17 #[v, .int .i64 (pl S q)] w fun e w' => ∃ s1 k1, e = .returned (.tuple #[.agg #[.int .i64 (nodeAt ns q).kind, .int .i64 (nodeAt ns q).num, .string (nodeAt ns q).name, .slice s1 (nodeAt ns q).kids.length k1], .int .i64 (pl S q), .int .i64 0]) ∧ ISl w' (fun _ => True) (.slice s1 (nodeAt ns q).kids.length k1) (outOf ns S (nodeAt ns q).kids) ∧ Below w.heap.size w w' := by
  obtain ⟨h1, h2, _⟩ := nc_res c hq
  have hl := pl_lt hq
  refine (at_val w ok v ⟨S.map (moved ns S), m⟩ (pl S q) (pl S q) hh ⟨by omega, by omega⟩ (by simpa using hn) hkb h1).mono fun e w' hp => ?_
  obtain ⟨s1, k1, rfl, hs, hb⟩ := hp
  have e2 : nodeAt (⟨S.map (moved ns S), m⟩ : Hp).nodes (pl S q) = moved ns S q := h2
  rw [e2] at hs ⊢
  have e3 : (moved ns S q).kids.length = (nodeAt ns q).kids.length := outOf_len _ _ _
  rw [e3] at hs ⊢
  exact ⟨s1, k1, rfl, hs, hb⟩
theorem kid_same {ns : List Nd} {S : List Int} (c : Col ns S) {q : Int} (hq : q ∈ S) {n : Nat} {x : Int} (hx : (nodeAt ns q).kids[n]? = some x) : ∃ q', res ns x = some q' ∧ q' ∈ S ∧ (outOf ns S (nodeAt ns q).kids)[n]? = some (pl S q') := by
  obtain ⟨q', h1, h2⟩ := c.shut q hq x (List.mem_of_getElem? hx)
  exact ⟨q', h1, h2, by simp [outOf, hx, h1]⟩
set_option maxRecDepth 100000 in
set_option maxHeartbeats 16000000 in
theorem same_way (v0 v1 v2 : Value) (w : World) (h0 : ∃ h, HVal w (fun _ => True) v0 h) (h1 : ∃ xs, ISl w (fun _ => True) v1 xs) (h2 : ∃ xs, BSl w (fun _ => True) v2 xs) :
    Calls Try.prog 4 #[v0, v1, v2] w (Bb true w) := by
  obtain ⟨h, hh⟩ := h0
  have hh0 := hh
  obtain ⟨sa, sc, rfl, _, hs⟩ := hh
  obtain ⟨_, _, e, l1, _⟩ := hs.shape
  cases e
  obtain ⟨rs, hr0⟩ := h1
  have hr0' := hr0
  obtain ⟨ars, crs, rfl, lrs, _⟩ := hr0'.shape
  obtain ⟨wy, hr1⟩ := h2
  have hr1' := hr1
  obtain ⟨awy, cwy, rfl, lwy, _⟩ := hr1'.shape
  obtain ⟨W0, hW0⟩ : ∃ W0, w.alloc (Obj.cells #[.slice sa h.nodes.length sc, .int .i64 h.most] 24) = W0 := ⟨_, rfl⟩
  have hb0 : Below w.heap.size w W0 := by rw [← hW0]; exact (Below.refl _ _).alloc (Nat.le_refl _) _
  have K0 : Kept w W0 w.heap.size 24 sa sc h := ⟨hb0, by rw [← hW0]; exact World.alloc_heap_new _ _, hh0.below hb0⟩
  have HW := hid hW0
  have S0 := hid (And.intro K0 (And.intro (hr0.more hb0) (hr1.more hb0)))
  clear hW0 hb0 K0 hh0 hs hr0 hr0' hr1 hr1'
  go_enter Try.func4, Try.ntmps4
  go_upto_region 1 with (fail)
  rw [HW.out]
  clear HW
  go_wp2_with fail
  refine (awake_any W0).mono ?_
  rintro e w1 ⟨rfl, b1⟩
  have S1 := hid (And.intro (S0.out.1.more b1) (And.intro (ISl.more S0.out.2.1 b1) (BSl.more S0.out.2.2 b1)))
  clear S0
  clear b1
  have c0 : w1.cell? ⟨w.heap.size, 0, none⟩ = some (.slice sa h.nodes.length sc) := S1.out.1.c0
  have c1 : w1.cell? ⟨w.heap.size, 1, none⟩ = some (.int .i64 h.most) := S1.out.1.c1
  have P2 := hid (few_any w1 _ _ _ S1.out.1.val)
  go_wp2_with fail
  refine P2.out.mono ?_
  rintro e w2 ⟨rfl, b2⟩
  have S2 := hid (And.intro (S1.out.1.more b2) (And.intro (ISl.more S1.out.2.1 b2) (BSl.more S1.out.2.2 b2)))
  clear S1
  clear b2 c0 c1 P2
  cases hq : fewH h
  · go_wp2_with fail
    go_ret
    exact Bb.fin rfl S2.out.1.bel
  have HF := hid (few_bounds hq)
  have hn := HF.out.1
  clear hq
  by_cases grs : ¬ rs.length ≤ 100
  · have frs : decide ((rs.length : Int) > 100) = true := by simp; omega
    go_wp2_with fail
    go_ret
    exact Bb.fin rfl S2.out.1.bel
  have frs : decide ((rs.length : Int) > 100) = false := by simp; omega
  have trs : rs.length ≤ 100 := by omega
  replace grs : rs.length ≤ 1000 := by omega
  by_cases gwy : ¬ wy.length ≤ 100
  · have fwy : decide ((wy.length : Int) > 100) = true := by simp; omega
    go_wp2_with fail
    go_ret
    exact Bb.fin rfl S2.out.1.bel
  have fwy : decide ((wy.length : Int) > 100) = false := by simp; omega
  have twy : wy.length ≤ 100 := by omega
  replace gwy : wy.length ≤ 1000 := by omega
  clear twy trs
  have c0 : w2.cell? ⟨w.heap.size, 0, none⟩ = some (.slice sa h.nodes.length sc) := S2.out.1.c0
  have c1 : w2.cell? ⟨w.heap.size, 1, none⟩ = some (.int .i64 h.most) := S2.out.1.c1
  have P := hid (coll_any w2 _ _ _ _ h rs S2.out.1.val S2.out.2.1 hn HF.out.2 grs)
  go_wp2_with fail
  refine P.out.mono ?_
  intro e w3 hpost
  clear c0 c1 P
  cases hc : collH h rs with
  | none =>
    rw [CollPost, hc] at hpost
    obtain ⟨rfl, b3⟩ := hpost
    have S3 := hid (And.intro (S2.out.1.more b3) (And.intro (ISl.more S2.out.2.1 b3) (BSl.more S2.out.2.2 b3)))
    clear S2
    clear b3
    have SB := hid S3.out.1.bel
    go_wp2_with fail
    go_ret
    exact Bb.fin rfl (SB.out.alloc SB.out.size _)
  | some r =>
    obtain ⟨c, l⟩ := r
    rw [CollPost, hc] at hpost
    obtain ⟨ac, cc, lvl, rfl, hv, hl, b⟩ := hpost
    obtain ⟨al, cl, rfl, ll, _⟩ := hl.shape
    obtain ⟨S, hS, hk, hceq, hleq⟩ := coll_parts hc
    have hCol := col_of hS
    have hroots := (coll_some hS).2.2.2.1
    have hcb := coll_bounds hc hn HF.out.2
    have hchk : chkH c = true := by rw [hceq]; exact nc_chk hk hCol
    have HC := hid (And.intro hCol (And.intro hroots (And.intro hceq (And.intro hleq (And.intro hcb hchk)))))
    have hllen := hcb.2.2.1
    rw [hllen] at hl ⊢
    have hcn : c.nodes.length ≤ 1000 := by have := hcb.1; omega
    clear hCol hroots hcb hchk hceq hleq hS hk hllen hc ll
    go_upto_region 5 with (fail)
    have bb := b.alloc b.size (.cells #[.slice ac c.nodes.length cc, .int .i64 c.most] 24)
    have hnew := Kept.new 24 (S2.out.1.bel.trans (b.mono S2.out.1.bel.size)) hv.all
    have hl2 := ISl.more hl.all ((Below.refl _ _).alloc (Nat.le_refl _) (.cells #[.slice ac c.nodes.length cc, .int .i64 c.most] 24))
    have S3 := hid (And.intro (S2.out.1.more bb) (And.intro (ISl.more S2.out.2.1 bb) (And.intro (BSl.more S2.out.2.2 bb) (And.intro hnew hl2))))
    clear S2
    obtain ⟨w4, hww⟩ : ∃ z, w3.alloc (.cells #[.slice ac c.nodes.length cc, .int .i64 c.most] 24) = z := ⟨_, rfl⟩
    obtain ⟨Bc, hXX⟩ : ∃ z, w3.heap.size = z := ⟨_, rfl⟩
    rw [hww, hXX] at S3 ⊢
    clear hww hXX bb hnew b hv hl hl2
    have c0 : w4.cell? ⟨Bc, 0, none⟩ = some (.slice ac c.nodes.length cc) := S3.out.2.2.2.1.c0
    have c1 : w4.cell? ⟨Bc, 1, none⟩ = some (.int .i64 c.most) := S3.out.2.2.2.1.c1
    have P' := check_any w4 _ _ c S3.out.2.2.2.1.val
    rw [HC.out.2.2.2.2.2] at P'
    have P := hid P'
    clear P'
    go_wp2_with fail
    refine P.out.mono ?_
    rintro e w5 ⟨rfl, b⟩
    have S4 := hid (And.intro (S3.out.1.more b) (And.intro (ISl.more S3.out.2.1 b) (And.intro (BSl.more S3.out.2.2.1 b) (And.intro (S3.out.2.2.2.1.more b) (ISl.more S3.out.2.2.2.2 b)))))
    clear S3
    clear b c0 c1 P
    go_wp2_with fail
    go_loopw [11] (fun s11 wr => ∃ k : Nat, k ≤ rs.length ∧ s11 = .int .i64 k ∧ Hid (Below w5.heap.size w5 wr)) (fun s11 _ => rs.length - (intOf s11).toNat)
    case atStart => exact ⟨0, Nat.zero_le _, rfl, Below.refl _ _⟩
    case round =>
      obtain ⟨i, hi, rfl, hbr⟩ := hrel
      obtain ⟨wo, rfl⟩ : ∃ wo : World, wo = wr := ⟨_, rfl⟩
      have SO := hid (And.intro (S4.out.1.more hbr.out) (And.intro (ISl.more S4.out.2.1 hbr.out) (And.intro (BSl.more S4.out.2.2.1 hbr.out) (And.intro (S4.out.2.2.2.1.more hbr.out) (ISl.more S4.out.2.2.2.2 hbr.out)))))
      by_cases hlt : i < rs.length
      · obtain ⟨b1, o1, c1', rv, hv1, hrv, hin, e1⟩ := ISl.at SO.out.2.1 (Below.refl _ _) (k := i) hlt
        cases hv1
        have hll := HC.out.2.2.2.2.1.2.2.1
        obtain ⟨b2, o2, c2', yv, hv2, hyv, _, e2⟩ := ISl.at SO.out.2.2.2.2 (Below.refl _ _) (k := i) (by omega)
        rw [hll] at hv2
        cases hv2
        obtain ⟨q0, hq0, hq0S⟩ := HC.out.2.1 rv (List.mem_of_getElem? hrv)
        obtain rfl : yv = pl S q0 := by
          have := HC.out.2.2.2.1
          rw [this] at hyv
          simp only [outOf, List.getElem?_map, hrv, Option.map_some, hq0] at hyv
          cases hyv; rfl
        have HX0 := hid (And.intro hin (And.intro hq0 hq0S))
        clear hin hq0 hq0S hyv hrv hll
        go_wp2_with fail
        go_loopw [14, 12, 13] (fun s14 s12 s13 wr => ∃ (k : Nat) (x q : Int), k ≤ wy.length ∧ s14 = .int .i64 k ∧ s12 = .int .i64 x ∧ s13 = .int .i64 (pl S q) ∧ Hid (In x ∧ res h.nodes x = some q ∧ q ∈ S) ∧ Hid (Below w5.heap.size w5 wr)) (fun s14 _ _ _ => wy.length + 1 - (intOf s14).toNat)
        case atStart => exact ⟨0, rv, q0, Nat.zero_le _, rfl, rfl, rfl, HX0.out, hbr.out⟩
        case round =>
          obtain ⟨k, x, q, hk, rfl, rfl, rfl, HX, hbk⟩ := hrel
          obtain ⟨wi, rfl⟩ : ∃ wo : World, wo = wr := ⟨_, rfl⟩
          clear e1 e2 HX0 SO
          have SI := hid (And.intro (S4.out.1.more hbk.out) (And.intro (ISl.more S4.out.2.1 hbk.out) (And.intro (BSl.more S4.out.2.2.1 hbk.out) (And.intro (S4.out.2.2.2.1.more hbk.out) (ISl.more S4.out.2.2.2.2 hbk.out)))))
          have c0 : wi.cell? ⟨w.heap.size, 0, none⟩ = some (.slice sa h.nodes.length sc) := SI.out.1.c0
          have c1 : wi.cell? ⟨w.heap.size, 1, none⟩ = some (.int .i64 h.most) := SI.out.1.c1
          have P := hid (at_val wi _ _ h x q SI.out.1.val HX.out.1 hn HF.out.2 HX.out.2.1)
          obtain ⟨y, hy⟩ : ∃ y, y = nodeAt h.nodes q := ⟨_, rfl⟩
          have hyb : y.kids.length ≤ 1000 := by rw [hy]; exact HF.out.2 _ (List.mem_of_getElem? (res_some HX.out.2.1).2.2.2.2.2)
          rw [← hy] at P
          have HY := hid hy
          clear hy
          go_wp2_with fail
          refine P.out.mono ?_
          rintro e w6 ⟨s1, k1, rfl, hs1, b6⟩
          clear c0 c1 P
          go_upto_region 18 with (fail)
          have bb := b6.alloc b6.size (.cells #[.int .i64 y.kind, .int .i64 y.num, .string y.name, .slice s1 y.kids.length k1] 37)
          have hN : (w6.alloc (.cells #[.int .i64 y.kind, .int .i64 y.num, .string y.name, .slice s1 y.kids.length k1] 37)).heap[w6.heap.size]? = some (.cells #[.int .i64 y.kind, .int .i64 y.num, .string y.name, .slice s1 y.kids.length k1] 37) := World.alloc_heap_new _ _
          have hs1' := ISl.more hs1 ((Below.refl _ _).alloc (Nat.le_refl _) (.cells #[.int .i64 y.kind, .int .i64 y.num, .string y.name, .slice s1 y.kids.length k1] 37))
          obtain ⟨w7, hw7⟩ : ∃ z, w6.alloc (.cells #[.int .i64 y.kind, .int .i64 y.num, .string y.name, .slice s1 y.kids.length k1] 37) = z := ⟨_, rfl⟩
          obtain ⟨N1, hN1⟩ : ∃ z, w6.heap.size = z := ⟨_, rfl⟩
          rw [hw7] at bb hN hs1' ⊢
          rw [hN1] at hN ⊢
          have HB7 := hid (hbk.out.trans (bb.mono hbk.out.size))
          have HN1 := hid (And.intro hN hs1')
          clear hw7 hN1 bb hN hs1' hs1 b6 SI hbk
          have SJ := hid (And.intro (S4.out.1.more HB7.out) (And.intro (ISl.more S4.out.2.1 HB7.out) (And.intro (BSl.more S4.out.2.2.1 HB7.out) (And.intro (S4.out.2.2.2.1.more HB7.out) (ISl.more S4.out.2.2.2.2 HB7.out)))))
          have c0 : w7.cell? ⟨Bc, 0, none⟩ = some (.slice ac c.nodes.length cc) := SJ.out.2.2.2.1.c0
          have c1 : w7.cell? ⟨Bc, 1, none⟩ = some (.int .i64 c.most) := SJ.out.2.2.2.1.c1
          have hcb := HC.out.2.2.2.2.1
          have hcv := SJ.out.2.2.2.1.val
          have P' := at_col w7 (fun _ => True) (.agg #[.slice ac c.nodes.length cc, .int .i64 c.most]) h.nodes S h.most q HC.out.1 HX.out.2.2 (by rw [← HC.out.2.2.1]; exact hcv) (by have := fit_len HC.out.1.fit; omega) (by have h1 := hcb.2.1; rw [HC.out.2.2.1] at h1; exact h1)
          rw [← HY.out] at P'
          have P := hid P'
          clear P' hcb hcv
          go_wp2_with fail
          refine P.out.mono ?_
          rintro e w8 ⟨s2, k2, rfl, hs2, b8⟩
          clear c0 c1 P
          go_upto_region 19 with (fail)
          have bb := b8.alloc b8.size (.cells #[.int .i64 y.kind, .int .i64 y.num, .string y.name, .slice s2 y.kids.length k2] 37)
          have hN : (w8.alloc (.cells #[.int .i64 y.kind, .int .i64 y.num, .string y.name, .slice s2 y.kids.length k2] 37)).heap[w8.heap.size]? = some (.cells #[.int .i64 y.kind, .int .i64 y.num, .string y.name, .slice s2 y.kids.length k2] 37) := World.alloc_heap_new _ _
          have hs2' := ISl.more hs2 ((Below.refl _ _).alloc (Nat.le_refl _) (.cells #[.int .i64 y.kind, .int .i64 y.num, .string y.name, .slice s2 y.kids.length k2] 37))
          obtain ⟨w9, hw9⟩ : ∃ z, w8.alloc (.cells #[.int .i64 y.kind, .int .i64 y.num, .string y.name, .slice s2 y.kids.length k2] 37) = z := ⟨_, rfl⟩
          obtain ⟨N2, hN2⟩ : ∃ z, w8.heap.size = z := ⟨_, rfl⟩
          rw [hw9] at bb hN hs2' ⊢
          rw [hN2] at hN ⊢
          have HB9 := hid (HB7.out.trans (bb.mono HB7.out.size))
          have hN1' := (bb.block _ (lt_of_some HN1.out.1)).trans HN1.out.1
          have HN := hid (And.intro hN1' (And.intro (ISl.more HN1.out.2 bb) (And.intro hN hs2')))
          clear hw9 hN2 bb hN hs2' hs2 b8 SJ HB7 HN1 hN1'
          have a0 : w9.cell? ⟨N1, 0, none⟩ = some (.int .i64 y.kind) := cell_of HN.out.1
          have a1 : w9.cell? ⟨N1, 1, none⟩ = some (.int .i64 y.num) := cell_of HN.out.1
          have a2 : w9.cell? ⟨N1, 2, none⟩ = some (.string y.name) := cell_of HN.out.1
          have a3 : w9.cell? ⟨N1, 3, none⟩ = some (.slice s1 y.kids.length k1) := cell_of HN.out.1
          have d0 : w9.cell? ⟨N2, 0, none⟩ = some (.int .i64 y.kind) := cell_of HN.out.2.2.1
          have d1 : w9.cell? ⟨N2, 1, none⟩ = some (.int .i64 y.num) := cell_of HN.out.2.2.1
          have d2 : w9.cell? ⟨N2, 2, none⟩ = some (.string y.name) := cell_of HN.out.2.2.1
          have d3 : w9.cell? ⟨N2, 3, none⟩ = some (.slice s2 y.kids.length k2) := cell_of HN.out.2.2.1
          by_cases hz : y.kids.length = 0
          · have f0 : ((y.kids.length : Int) == 0) = true := by simp [hz]
            have HZ := hid hz
            clear hz
            go_wp2_with fail
            go_roundw
            case rel => exact ⟨i + 1, by omega, by go_num, HB9.out⟩
            case measure => simp [intOf]; omega
          have f0 : ((y.kids.length : Int) == 0) = false := by rw [beq_eq_false_iff_ne]; omega
          by_cases hkw : k = wy.length
          · have f1 : ((k : Int) == (wy.length : Int)) = true := by simp [hkw]
            have HKW := hid hkw
            clear hkw
            go_wp2_with fail
            go_roundw
            case rel => exact ⟨i + 1, by omega, by go_num, HB9.out⟩
            case measure => simp [intOf]; omega
          have f1 : ((k : Int) == (wy.length : Int)) = false := by rw [beq_eq_false_iff_ne]; omega
          have hkl : k < wy.length := by omega
          obtain ⟨zm, hzm⟩ : ∃ zm : Nat, zm = 0 := ⟨_, rfl⟩
          clear hzm zm
          go_upto_region 22 with (fail)
          clear a0 a1 a2 d0 d1 d2
          have SK := hid (And.intro (S4.out.1.more HB9.out) (And.intro (ISl.more S4.out.2.1 HB9.out) (And.intro (BSl.more S4.out.2.2.1 HB9.out) (And.intro (S4.out.2.2.2.1.more HB9.out) (ISl.more S4.out.2.2.2.2 HB9.out)))))
          obtain ⟨bw, ow, cw', z, hv1, hz1, hz255, ew⟩ := BSl.at SK.out.2.2.1 (Below.refl _ _) (k := k) hkl
          cases hv1
          obtain ⟨zm, hzm⟩ : ∃ zm : Nat, zm = z % y.kids.length := ⟨_, rfl⟩
          have hzl : zm < y.kids.length := by rw [hzm]; exact Nat.mod_lt _ (by omega)
          have hrem : Int.tmod (z : Int) (y.kids.length : Int) = (zm : Int) := by rw [hzm]; rfl
          obtain ⟨w10, hw5⟩ : ∃ z, w9.drew = z := ⟨_, rfl⟩
          have bd : Below w9.heap.size w9 w10 := by rw [← hw5]; exact (Below.refl _ _).drew
          have BD := hid bd
          have E0 : Hid (w10.cell? ⟨bw, ow + k, none⟩ = some (.int .u8 z)) := later_cell bd ew
          have E1 : Hid (w10.cell? ⟨N1, 3, none⟩ = some (.slice s1 y.kids.length k1)) := later_cell bd a3
          have HREM := hid hrem
          have HWR : Hid (IntKind.i64.wrap (z : Int) = (z : Int)) := by show IntKind.i64.wrap (z : Int) = (z : Int); unfold IntKind.wrap; simp [IntKind.bits, IntKind.signed]; omega
          have HNE : Hid (¬ y.kids = []) := fun e => by rw [e] at hz; exact hz rfl
          clear hrem hzm hz1 ew a3 d3 bd SK
          refine (wpIn_wide (n := 9)).1 ?_
          refine wpIn_region_held (fun W => Below w10.heap.size w10 W) (by kernel_rfl) ?_
          rw [hw5]
          clear hw5
          refine wpAnyHF_takeD (i := 0) 147 (v := .slice (some ⟨bw, ow, none⟩) wy.length cwy) rfl rfl rfl (by kernel_rfl) (by kernel_rfl) (by kernel_rfl) (fun _ _ _ h => h) ⟨.inl ⟨rfl, fun W hW => by simp [execOp, go_sem]⟩, fun W => rfl⟩ (Below.refl _ _) ?_
          refine wpAnyHF_takeD (i := 1) 148 (v := .int .i64 k) rfl rfl rfl (by kernel_rfl) (by kernel_rfl) (by kernel_rfl) (fun _ _ _ h => h) ⟨.inl ⟨rfl, fun W hW => by simp [execOp, go_sem]⟩, fun W => rfl⟩ (Below.refl _ _) ?_
          refine wpAnyHF_takeD (i := 2) 149 (v := .pointer (some ⟨bw, ow + k, none⟩)) rfl rfl rfl (by kernel_rfl) (by kernel_rfl) (by kernel_rfl) (fun _ _ _ h => h) ⟨.inl ⟨rfl, fun W hW => by simp [execOp, go_sem, hkl]⟩, fun W => rfl⟩ (Below.refl _ _) ?_
          simp only [Act.put, List.setIfInBounds_toArray, List.set_cons_zero, List.set_cons_succ]
          refine wpAnyHF_takeD (i := 3) 150 (v := .int .u8 z) rfl rfl rfl (by kernel_rfl) (by kernel_rfl) (by kernel_rfl) (fun _ _ _ h => h) ⟨.inl ⟨rfl, fun W hW => by have m0 := later_cell hW E0.out; simp [execOp, go_sem, m0]⟩, fun W => rfl⟩ (Below.refl _ _) ?_
          refine wpAnyHF_takeD (i := 4) 151 (v := .int .i64 z) rfl rfl rfl (by kernel_rfl) (by kernel_rfl) (by kernel_rfl) (fun _ _ _ h => h) ⟨.inl ⟨rfl, fun W hW => by simp [execOp, go_sem, HWR.out]⟩, fun W => rfl⟩ (Below.refl _ _) ?_
          refine wpAnyHF_takeD (i := 5) 152 (v := .pointer (some ⟨N1, 3, none⟩)) rfl rfl rfl (by kernel_rfl) (by kernel_rfl) (by kernel_rfl) (fun _ _ _ h => h) ⟨.inl ⟨rfl, fun W hW => by simp [execOp, go_sem]⟩, fun W => rfl⟩ (Below.refl _ _) ?_
          simp only [Act.put, List.setIfInBounds_toArray, List.set_cons_zero, List.set_cons_succ]
          refine wpAnyHF_takeD (i := 6) 153 (v := .slice s1 y.kids.length k1) rfl rfl rfl (by kernel_rfl) (by kernel_rfl) (by kernel_rfl) (fun _ _ _ h => h) ⟨.inl ⟨rfl, fun W hW => by have m0 := later_cell hW E1.out; simp [execOp, go_sem, m0]⟩, fun W => rfl⟩ (Below.refl _ _) ?_
          refine wpAnyHF_takeD (i := 7) 154 (v := .int .i64 y.kids.length) rfl rfl rfl (by kernel_rfl) (by kernel_rfl) (by kernel_rfl) (fun _ _ _ h => h) ⟨.inl ⟨rfl, fun W hW => by simp [execOp, go_sem, resolve, invoke, builtin]⟩, fun W => rfl⟩ (Below.refl _ _) ?_
          simp only [Act.put, List.setIfInBounds_toArray, List.set_cons_zero, List.set_cons_succ]
          refine wpAnyHF_takeD (i := 8) 155 (v := .int .i64 zm) rfl rfl rfl (by kernel_rfl) (by kernel_rfl) (by kernel_rfl) (fun _ _ _ h => h) ⟨.inl ⟨rfl, fun W hW => by simp [execOp, go_sem, f0, HREM.out, HNE.out]⟩, fun W => rfl⟩ (Below.refl _ _) ?_
          refine wpAnyHF_takeD (i := 9) 21 (v := .int .i64 zm) rfl rfl rfl (by kernel_rfl) (by kernel_rfl) (by kernel_rfl) (fun _ _ _ h => h) ⟨.inl ⟨rfl, fun W hW => by simp [execOp, go_sem]⟩, fun W => rfl⟩ (Below.refl _ _) ?_
          simp only [Act.put, List.setIfInBounds_toArray, List.set_cons_zero, List.set_cons_succ]
          refine wpAnyHF_done (by kernel_rfl) ?_ _
          have HB10 := hid (HB9.out.trans (BD.out.mono HB9.out.size))
          have hs1 := ISl.more HN.out.2.1 BD.out
          have hs2 := ISl.more HN.out.2.2.2 BD.out
          have a3 : w10.cell? ⟨N1, 3, none⟩ = some (.slice s1 y.kids.length k1) := E1.out
          have d3 : w10.cell? ⟨N2, 3, none⟩ = some (.slice s2 y.kids.length k2) := cell_of ((BD.out.block _ (lt_of_some HN.out.2.2.1)).trans HN.out.2.2.1)
          obtain ⟨bx, ox, cx, x', hv1, hx', hin', ex⟩ := ISl.at hs1 (Below.refl _ _) (k := zm) hzl
          cases hv1
          have hsub : (nodeAt h.nodes q).kids[zm]? = some x' := by rw [← HY.out]; exact hx'
          obtain ⟨q', hq', hqS', hout⟩ := kid_same HC.out.1 HX.out.2.2 hsub
          rw [← HY.out] at hout
          have hol : (outOf h.nodes S y.kids).length = y.kids.length := outOf_len _ _ _
          obtain ⟨by', oy, cy, y', hv2, hy', _, ey⟩ := ISl.at hs2 (Below.refl _ _) (k := zm) (by rw [hol]; exact hzl)
          rw [hol] at hv2
          cases hv2
          obtain rfl : y' = pl S q' := by rw [hout] at hy'; cases hy'; rfl
          have HX2 := hid (And.intro hin' (And.intro hq' hqS'))
          clear HWR HNE hs1 hs2 hx' hin' hsub hq' hqS' hout hol hy' BD E0 E1 HREM
          gi_wp2
          go_wp2_with fail
          go_roundw
          case rel => exact ⟨k + 1, x', q', by omega, by go_num, rfl, rfl, HX2.out, HB10.out⟩
          case measure => simp [intOf]; omega
      · go_wp2_with fail
        go_ret
        exact Bb.fin rfl SO.out.1.bel
end Go.Proofs.Ytajhchfjoeblgaa
