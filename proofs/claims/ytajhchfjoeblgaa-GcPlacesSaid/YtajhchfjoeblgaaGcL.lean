/- GcPlaces: the walk. -/
import Derived.Test.YtajhchfjoeblgaaKept
import Derived.Deep.CutRange
namespace Go.Proofs.Ytajhchfjoeblgaa
open Go.RowKit Go.Shelf
attribute [local go_sem] Oper.semAt_some
theorem at_known (w : World) (ok : Nat → Prop) (v : Value) (h : Hp) (p q : Int) (hh : HVal w ok v h) (hp : In p) (hn : h.nodes.length ≤ 1000) (hkb : ∀ x ∈ h.nodes, x.kids.length ≤ 1000) (hr : res h.nodes p = some q) :
    Calls Try.prog 17 #[v, .int .i64 p] w fun e w' => ∃ s1 k1, e = .returned (.tuple #[.agg #[.int .i64 (nodeAt h.nodes q).kind, .int .i64 (nodeAt h.nodes q).num, .string (nodeAt h.nodes q).name, .slice s1 (nodeAt h.nodes q).kids.length k1], .int .i64 q, .int .i64 0]) ∧ Below w.heap.size w w' := by
  refine (at_any w ok v h p hh hp (by omega) (fun x hx => by have := hkb x hx; omega)).mono fun e w' hp' => ?_
  rw [(res_some hr).2.2.2.1] at hp'
  obtain ⟨v, rfl, ⟨s1, k1, rfl, _⟩, hb⟩ := hp'
  exact ⟨s1, k1, rfl, hb⟩
/-- What is known of the roots and of where they are then. -/
structure Pf (h : Hp) (rs l S : List Int) : Prop where
  res : ∀ (i : Nat) (r : Int), rs[i]? = some r → ∃ q, res h.nodes r = some q ∧ l[i]? = some (pl S q) ∧ q ∈ S
  len : l.length = rs.length
  fit : Fit h.nodes S
  pre : addT h.nodes [] rs <+: S
  fst : ∀ (i : Nat) (r q : Int), rs[i]? = some r → Go.Proofs.Ytajhchfjoeblgaa.res h.nodes r = some q → (q ∉ addT h.nodes [] (rs.take i) → pl S q = (addT h.nodes [] (rs.take i)).length ∧ (addT h.nodes [] (rs.take (i + 1))).length = (addT h.nodes [] (rs.take i)).length + 1) ∧ (q ∈ addT h.nodes [] (rs.take i) → addT h.nodes [] (rs.take (i + 1)) = addT h.nodes [] (rs.take i))
theorem pf_of {h c : Hp} {rs l : List Int} (hc : collH h rs = some (c, l)) : ∃ S, Pf h rs l S ∧ c.nodes.length = S.length := by
  obtain ⟨S, hS, _, rfl, rfl⟩ := coll_parts hc
  refine ⟨S, ⟨fun i r hr => ?_, outOf_len _ _ _, (col_of hS).fit, (coll_some hS).1, fun i r q hr hq => first_place hS hr hq⟩, by simp⟩
  obtain ⟨q, hq, hm⟩ := (coll_some hS).2.2.2.1 r (List.mem_of_getElem? hr)
  exact ⟨q, hq, by simp [outOf, hr, hq], hm⟩
set_option maxRecDepth 100000 in
set_option maxHeartbeats 16000000 in
theorem places_any (v0 v1 : Value) (w : World) (h0 : ∃ h, HVal w (fun _ => True) v0 h) (h1 : ∃ xs, ISl w (fun _ => True) v1 xs) :
    Calls Try.prog 7 #[v0, v1] w (Bb true w) := by
  obtain ⟨h, hh⟩ := h0
  have hh0 := hh
  obtain ⟨sa, sc, rfl, _, hs⟩ := hh
  obtain ⟨_, _, e, l1, _⟩ := hs.shape
  cases e
  obtain ⟨rs, hr0⟩ := h1
  have hr0' := hr0
  obtain ⟨ars, crs, rfl, lrs, _⟩ := hr0'.shape
  obtain ⟨W0, hW0⟩ : ∃ W0, w.alloc (Obj.cells #[.slice sa h.nodes.length sc, .int .i64 h.most] 24) = W0 := ⟨_, rfl⟩
  have hb0 : Below w.heap.size w W0 := by rw [← hW0]; exact (Below.refl _ _).alloc (Nat.le_refl _) _
  have K0 : Kept w W0 w.heap.size 24 sa sc h := ⟨hb0, by rw [← hW0]; exact World.alloc_heap_new _ _, hh0.below hb0⟩
  have HW := hid hW0
  have S0 := hid (And.intro K0 (hr0.more hb0))
  clear hW0 hb0 K0 hh0 hs hr0 hr0'
  go_enter Try.func7, Try.ntmps7
  go_upto_region 1 with (fail)
  rw [HW.out]
  clear HW
  go_wp2_with fail
  refine (awake_any W0).mono ?_
  rintro e w1 ⟨rfl, b1⟩
  have S1 := hid (And.intro (S0.out.1.more b1) (ISl.more S0.out.2 b1))
  clear S0
  clear b1
  have c0 : w1.cell? ⟨w.heap.size, 0, none⟩ = some (.slice sa h.nodes.length sc) := S1.out.1.c0
  have c1 : w1.cell? ⟨w.heap.size, 1, none⟩ = some (.int .i64 h.most) := S1.out.1.c1
  have P2 := hid (few_any w1 _ _ _ S1.out.1.val)
  go_wp2_with fail
  refine P2.out.mono ?_
  rintro e w2 ⟨rfl, b2⟩
  have S2 := hid (And.intro (S1.out.1.more b2) (ISl.more S1.out.2 b2))
  clear S1
  clear b2 c0 c1 P2
  cases hq : fewH h
  · go_wp2_with fail
    go_ret
    exact Bb.fin rfl S2.out.1.bel
  have HF := hid (few_bounds hq)
  have hn := HF.out.1
  clear hq
  by_cases grs : ¬ rs.length ≤ 100
  · have frs : decide ((rs.length : Int) > 100) = true := by simp; omega
    go_wp2_with fail
    go_ret
    exact Bb.fin rfl S2.out.1.bel
  have frs : decide ((rs.length : Int) > 100) = false := by simp; omega
  replace grs : rs.length ≤ 1000 := by omega
  have c0 : w2.cell? ⟨w.heap.size, 0, none⟩ = some (.slice sa h.nodes.length sc) := S2.out.1.c0
  have c1 : w2.cell? ⟨w.heap.size, 1, none⟩ = some (.int .i64 h.most) := S2.out.1.c1
  have P := hid (coll_any w2 _ _ _ _ h rs S2.out.1.val S2.out.2 hn HF.out.2 grs)
  go_wp2_with fail
  refine P.out.mono ?_
  intro e w3 hpost
  clear c0 c1 P
  cases hc : collH h rs with
  | none =>
    rw [CollPost, hc] at hpost
    obtain ⟨rfl, b3⟩ := hpost
    have S3 := hid (And.intro (S2.out.1.more b3) (ISl.more S2.out.2 b3))
    clear S2
    clear b3
    have SB := hid S3.out.1.bel
    go_wp2_with fail
    go_ret
    exact Bb.fin rfl (SB.out.alloc SB.out.size _)
  | some r =>
    obtain ⟨c, l⟩ := r
    rw [CollPost, hc] at hpost
    obtain ⟨ac, cc, lvl, rfl, hv, hl, b⟩ := hpost
    obtain ⟨al, cl, rfl, ll, _⟩ := hl.shape
    obtain ⟨S, hPf, hcS⟩ := pf_of hc
    have HcS := hid hcS
    have HPF := hid hPf
    rw [hPf.len] at hl ⊢
    clear hPf hcS
    go_upto_region 5 with (fail)
    have bb := b.alloc b.size (.cells #[.slice ac c.nodes.length cc, .int .i64 c.most] 24)
    have hnew := Kept.new 24 (S2.out.1.bel.trans (b.mono S2.out.1.bel.size)) hv.all
    have hl2 := ISl.more hl.all ((Below.refl _ _).alloc (Nat.le_refl _) (.cells #[.slice ac c.nodes.length cc, .int .i64 c.most] 24))
    have S3 := hid (And.intro (S2.out.1.more bb) (And.intro (ISl.more S2.out.2 bb) (And.intro hnew hl2)))
    clear S2
    obtain ⟨w4, hww⟩ : ∃ z, w3.alloc (.cells #[.slice ac c.nodes.length cc, .int .i64 c.most] 24) = z := ⟨_, rfl⟩
    obtain ⟨Bc, hXX⟩ : ∃ z, w3.heap.size = z := ⟨_, rfl⟩
    rw [hww, hXX] at S3 ⊢
    have HCS := hid (And.intro HcS.out (coll_bounds hc hn HF.out.2).1)
    clear hww hXX bb hnew b hv hl hl2 hc
    go_wp2_with fail
    have Z0 : Hid ((addT h.nodes [] (rs.take 0)).length = 0) := by show (addT h.nodes [] (rs.take 0)).length = 0; rfl
    go_loopw [10, 9] (fun s10 s9 wr => ∃ k n0 : Nat, k ≤ rs.length ∧ s10 = .int .i64 k ∧ s9 = .int .i64 n0 ∧ Hid ((addT h.nodes [] (rs.take k)).length = n0) ∧ Hid (Below w4.heap.size w4 wr)) (fun s10 _ _ => rs.length - (intOf s10).toNat)
    case atStart => exact ⟨0, 0, Nat.zero_le _, rfl, rfl, Z0, Below.refl _ _⟩
    case round =>
      obtain ⟨k, n0, hk, rfl, rfl, hn0, hbr⟩ := hrel
      obtain ⟨wo, rfl⟩ : ∃ wo : World, wo = wr := ⟨_, rfl⟩
      clear Z0
      have SO := hid (And.intro (S3.out.1.more hbr.out) (And.intro (ISl.more S3.out.2.1 hbr.out) (And.intro (S3.out.2.2.1.more hbr.out) (ISl.more S3.out.2.2.2 hbr.out))))
      have hn0b : n0 ≤ 1000 := by
        have h1 := fit_len (fit_addT (rs.take k) (fit_nil h.nodes))
        have h2 := hn0.out
        omega
      by_cases hlt : k < rs.length
      · obtain ⟨b1, o1, c1', rv, hv1, hrv, hin, e1⟩ := ISl.at SO.out.2.1 (Below.refl _ _) (k := k) hlt
        cases hv1
        obtain ⟨q, hq, hlq, hqS⟩ := HPF.out.res k rv hrv
        go_upto_region 13 with (fail)
        go_cut [12] (fun s12 wx => s12 = .int .i64 q ∧ Below wo.heap.size wo wx)
        case first =>
          obtain ⟨w5x, hw5⟩ : ∃ z, wo.drew = z := ⟨_, rfl⟩
          have bd : Below wo.heap.size wo w5x := by rw [← hw5]; exact (Below.refl _ _).drew
          have BD := hid bd
          have HK5 := hid (SO.out.1.more bd)
          have A0 : Hid (w5x.cell? ⟨w.heap.size, 0, none⟩ = some (.slice sa h.nodes.length sc)) := HK5.out.c0
          have A1 : Hid (w5x.cell? ⟨w.heap.size, 1, none⟩ = some (.int .i64 h.most)) := HK5.out.c1
          have LC : Hid (w5x.cell? ⟨b1, o1 + k, none⟩ = some (.int .i64 rv)) := later_cell bd e1
          have HAT : Hid (∀ W, Below w5x.heap.size w5x W → Calls Try.prog 17 #[.agg #[.slice sa h.nodes.length sc, .int .i64 h.most], .int .i64 rv] W fun e w' => ∃ s1 k1, e = .returned (.tuple #[.agg #[.int .i64 (nodeAt h.nodes q).kind, .int .i64 (nodeAt h.nodes q).num, .string (nodeAt h.nodes q).name, .slice s1 (nodeAt h.nodes q).kids.length k1], .int .i64 q, .int .i64 0]) ∧ Below W.heap.size W w') := fun W hW => at_known W _ _ h rv q (HK5.out.val.below hW) hin hn HF.out.2 hq
          obtain ⟨x, hxx⟩ : ∃ x, x = nodeAt h.nodes q := ⟨_, rfl⟩
          rw [← hxx] at HAT
          clear hxx
          clear bd
          refine (wpIn_wide (n := 9)).1 ?_
          refine wpIn_region_held (fun W => Below w5x.heap.size w5x W) (by kernel_rfl) ?_
          rw [hw5]
          clear hw5
          refine wpAnyHF_takeD (i := 0) 56 (v := .agg #[.slice sa h.nodes.length sc, .int .i64 h.most]) rfl rfl rfl (by kernel_rfl) (by kernel_rfl) (by kernel_rfl) (fun _ _ _ h => h) ⟨.inl ⟨rfl, fun W hW => by have m0 := later_cell hW A0.out; have m1 := later_cell hW A1.out; simp [execOp, go_sem, m0, m1]⟩, fun W => rfl⟩ (Below.refl _ _) ?_
          refine wpAnyHF_takeD (i := 1) 57 (v := .slice (some ⟨b1, o1, none⟩) rs.length crs) rfl rfl rfl (by kernel_rfl) (by kernel_rfl) (by kernel_rfl) (fun _ _ _ h => h) ⟨.inl ⟨rfl, fun W hW => by simp [execOp, go_sem]⟩, fun W => rfl⟩ (Below.refl _ _) ?_
          refine wpAnyHF_takeD (i := 2) 58 (v := .int .i64 k) rfl rfl rfl (by kernel_rfl) (by kernel_rfl) (by kernel_rfl) (fun _ _ _ h => h) ⟨.inl ⟨rfl, fun W hW => by simp [execOp, go_sem]⟩, fun W => rfl⟩ (Below.refl _ _) ?_
          simp only [Act.put, List.setIfInBounds_toArray, List.set_cons_zero, List.set_cons_succ]
          refine wpAnyHF_takeD (i := 3) 59 (v := .pointer (some ⟨b1, o1 + k, none⟩)) rfl rfl rfl (by kernel_rfl) (by kernel_rfl) (by kernel_rfl) (fun _ _ _ h => h) ⟨.inl ⟨rfl, fun W hW => by simp [execOp, go_sem, hlt]⟩, fun W => rfl⟩ (Below.refl _ _) ?_
          refine wpAnyHF_takeD (i := 4) 60 (v := .int .i64 rv) rfl rfl rfl (by kernel_rfl) (by kernel_rfl) (by kernel_rfl) (fun _ _ _ h => h) ⟨.inl ⟨rfl, fun W hW => by have m0 := later_cell hW LC.out; simp [execOp, go_sem, m0]⟩, fun W => rfl⟩ (Below.refl _ _) ?_
          simp only [Act.put, List.setIfInBounds_toArray, List.set_cons_zero, List.set_cons_succ]
          refine wpAnyHF_two (i := 5) (j := 10) (by kernel_rfl) rfl rfl rfl rfl ?_ ?_
          · refine wpIn_callD 61 rfl (P := Try.prog) (f := 17) (args := #[.agg #[.slice sa h.nodes.length sc, .int .i64 h.most], .int .i64 rv]) (by simp [execOp, resolve, invoke, go_sem]) ?_
            refine (HAT.out _ (Below.refl _ _)).mono ?_
            rintro e wy ⟨s1, k1, rfl, by1⟩
            refine ⟨_, rfl, by1, ?_⟩
            simp only [Act.put, List.setIfInBounds_toArray, List.set_cons_zero, List.set_cons_succ]
            refine wpAnyHF_takeD (i := 6) 55 (v := .tuple #[.agg #[.int .i64 x.kind, .int .i64 x.num, .string x.name, .slice s1 x.kids.length k1], .int .i64 q, .int .i64 0]) rfl rfl rfl (by kernel_rfl) (by kernel_rfl) (by kernel_rfl) (fun _ _ _ h => h) ⟨.inl ⟨rfl, fun W hW => by simp [execOp, go_sem]⟩, fun W => rfl⟩ by1 ?_
            refine wpAnyHF_takeD (i := 7) 62 (v := .agg #[.int .i64 x.kind, .int .i64 x.num, .string x.name, .slice s1 x.kids.length k1]) rfl rfl rfl (by kernel_rfl) (by kernel_rfl) (by kernel_rfl) (fun _ _ _ h => h) ⟨.inl ⟨rfl, fun W hW => by simp [execOp, go_sem]⟩, fun W => rfl⟩ by1 ?_
            refine wpAnyHF_takeD (i := 8) 63 (v := .int .i64 q) rfl rfl rfl (by kernel_rfl) (by kernel_rfl) (by kernel_rfl) (fun _ _ _ h => h) ⟨.inl ⟨rfl, fun W hW => by simp [execOp, go_sem]⟩, fun W => rfl⟩ by1 ?_
            simp only [Act.put, List.setIfInBounds_toArray, List.set_cons_zero, List.set_cons_succ]
            refine wpAnyHF_takeD (i := 9) 64 (v := .int .i64 0) rfl rfl rfl (by kernel_rfl) (by kernel_rfl) (by kernel_rfl) (fun _ _ _ h => h) ⟨.inl ⟨rfl, fun W hW => by simp [execOp, go_sem]⟩, fun W => rfl⟩ by1 ?_
            simp only [Act.put, List.setIfInBounds_toArray, List.set_cons_zero, List.set_cons_succ]
            have bz : Below w5x.heap.size w5x (wy.alloc (.cells #[.int .i64 0, .int .i64 0, .string ⟨#[]⟩, .slice none 0 0] 37)) := by1.alloc by1.size _
            refine wpAnyHF_one (i := 10) (by kernel_rfl) rfl rfl ?_
            refine wpIn_valueD 11 rfl (w' := wy.alloc (.cells #[.int .i64 0, .int .i64 0, .string ⟨#[]⟩, .slice none 0 0] 37)) (v := .pointer (some ⟨wy.heap.size, 0, none⟩)) (by simp [execOp, go_sem]) ⟨bz, ?_⟩
            simp only [Act.put, List.setIfInBounds_toArray, List.set_cons_zero, List.set_cons_succ]
            have hZ : (wy.alloc (.cells #[.int .i64 0, .int .i64 0, .string ⟨#[]⟩, .slice none 0 0] 37)).heap[wy.heap.size]? = some (.cells #[.int .i64 0, .int .i64 0, .string ⟨#[]⟩, .slice none 0 0] 37) := World.alloc_heap_new _ _
            have hZ5 : w5x.heap.size ≤ wy.heap.size := by1.size
            obtain ⟨wz, hwz⟩ : ∃ z, wy.alloc (.cells #[.int .i64 0, .int .i64 0, .string ⟨#[]⟩, .slice none 0 0] 37) = z := ⟨_, rfl⟩
            obtain ⟨Z, hZe⟩ : ∃ z, wy.heap.size = z := ⟨_, rfl⟩
            rw [hwz] at bz hZ ⊢
            rw [hZe] at hZ hZ5 ⊢
            clear hwz hZe by1
            have z0 : wz.cell? ⟨Z, 0, none⟩ = some (.int .i64 0) := cell_of hZ
            have z1 : wz.cell? ⟨Z, 1, none⟩ = some (.int .i64 0) := cell_of hZ
            have z2 : wz.cell? ⟨Z, 2, none⟩ = some (.string ⟨#[]⟩) := cell_of hZ
            have z3 : wz.cell? ⟨Z, 3, none⟩ = some (.slice none 0 0) := cell_of hZ
            have hfz : ∀ i, wz.frozen? ⟨Z, i, none⟩ = false := fun i => free_of hZ
            have bs : Below w5x.heap.size w5x ((((wz.setCell ⟨Z, 0, none⟩ (.int .i64 x.kind)).setCell ⟨Z, 1, none⟩ (.int .i64 x.num)).setCell ⟨Z, 2, none⟩ (.string x.name)).setCell ⟨Z, 3, none⟩ (.slice s1 x.kids.length k1)) := (((bz.setCell hZ5 _).setCell hZ5 _).setCell hZ5 _).setCell hZ5 _
            refine wpAnyHF_one (i := 11) (by kernel_rfl) rfl rfl ?_
            refine wpIn_skip rfl (w' := (((wz.setCell ⟨Z, 0, none⟩ (.int .i64 x.kind)).setCell ⟨Z, 1, none⟩ (.int .i64 x.num)).setCell ⟨Z, 2, none⟩ (.string x.name)).setCell ⟨Z, 3, none⟩ (.slice s1 x.kids.length k1)) (by simp [execOp, go_sem, z0, z1, z2, z3, hfz]) ⟨bs, ?_⟩
            refine wpAnyHF_takeD (i := 12) 12 (v := .int .i64 q) rfl rfl rfl (by kernel_rfl) (by kernel_rfl) (by kernel_rfl) (fun _ _ _ h => h) ⟨.inl ⟨rfl, fun W hW => by simp [execOp, go_sem]⟩, fun W => rfl⟩ bs ?_
            refine wpAnyHF_takeD (i := 13) 13 (v := .int .i64 0) rfl rfl rfl (by kernel_rfl) (by kernel_rfl) (by kernel_rfl) (fun _ _ _ h => h) ⟨.inl ⟨rfl, fun W hW => by simp [execOp, go_sem]⟩, fun W => rfl⟩ bs ?_
            simp only [Act.put, List.setIfInBounds_toArray, List.set_cons_zero, List.set_cons_succ]
            refine wpAnyHF_done (by kernel_rfl) ?_ _
            have BS := hid bs
            clear z0 z1 z2 z3 hfz bs bz hZ hZ5
            gi_wp2
            go_wp2_with fail
            go_meet
            case rel => exact ⟨rfl, BD.out.trans (BS.out.mono BD.out.size)⟩
          · have bx : Below w5x.heap.size w5x (w5x.alloc (.cells #[.int .i64 0, .int .i64 0, .string ⟨#[]⟩, .slice none 0 0] 37)) := (Below.refl _ _).alloc (Nat.le_refl _) _
            refine wpIn_valueD 11 rfl (w' := w5x.alloc (.cells #[.int .i64 0, .int .i64 0, .string ⟨#[]⟩, .slice none 0 0] 37)) (v := .pointer (some ⟨w5x.heap.size, 0, none⟩)) (by simp [execOp, go_sem]) ⟨bx, ?_⟩
            simp only [Act.put, List.setIfInBounds_toArray, List.set_cons_zero, List.set_cons_succ]
            refine wpAnyHF_one (i := 5) (by kernel_rfl) rfl rfl ?_
            refine wpIn_callD 61 rfl (P := Try.prog) (f := 17) (args := #[.agg #[.slice sa h.nodes.length sc, .int .i64 h.most], .int .i64 rv]) (by simp [execOp, resolve, invoke, go_sem]) ?_
            refine (HAT.out _ bx).mono ?_
            rintro e wz ⟨s1, k1, rfl, by1⟩
            have bz := bx.trans (by1.mono bx.size)
            refine ⟨_, rfl, bz, ?_⟩
            simp only [Act.put, List.setIfInBounds_toArray, List.set_cons_zero, List.set_cons_succ]
            refine wpAnyHF_takeD (i := 6) 55 (v := .tuple #[.agg #[.int .i64 x.kind, .int .i64 x.num, .string x.name, .slice s1 x.kids.length k1], .int .i64 q, .int .i64 0]) rfl rfl rfl (by kernel_rfl) (by kernel_rfl) (by kernel_rfl) (fun _ _ _ h => h) ⟨.inl ⟨rfl, fun W hW => by simp [execOp, go_sem]⟩, fun W => rfl⟩ bz ?_
            refine wpAnyHF_takeD (i := 7) 62 (v := .agg #[.int .i64 x.kind, .int .i64 x.num, .string x.name, .slice s1 x.kids.length k1]) rfl rfl rfl (by kernel_rfl) (by kernel_rfl) (by kernel_rfl) (fun _ _ _ h => h) ⟨.inl ⟨rfl, fun W hW => by simp [execOp, go_sem]⟩, fun W => rfl⟩ bz ?_
            refine wpAnyHF_takeD (i := 8) 63 (v := .int .i64 q) rfl rfl rfl (by kernel_rfl) (by kernel_rfl) (by kernel_rfl) (fun _ _ _ h => h) ⟨.inl ⟨rfl, fun W hW => by simp [execOp, go_sem]⟩, fun W => rfl⟩ bz ?_
            simp only [Act.put, List.setIfInBounds_toArray, List.set_cons_zero, List.set_cons_succ]
            refine wpAnyHF_takeD (i := 9) 64 (v := .int .i64 0) rfl rfl rfl (by kernel_rfl) (by kernel_rfl) (by kernel_rfl) (fun _ _ _ h => h) ⟨.inl ⟨rfl, fun W hW => by simp [execOp, go_sem]⟩, fun W => rfl⟩ bz ?_
            simp only [Act.put, List.setIfInBounds_toArray, List.set_cons_zero, List.set_cons_succ]
            have hZ : wz.heap[w5x.heap.size]? = some (.cells #[.int .i64 0, .int .i64 0, .string ⟨#[]⟩, .slice none 0 0] 37) := (by1.block _ (by simp)).trans (World.alloc_heap_new _ _)
            have hZ5 : w5x.heap.size ≤ w5x.heap.size := Nat.le_refl _
            clear by1 bx
            have z0 : wz.cell? ⟨w5x.heap.size, 0, none⟩ = some (.int .i64 0) := cell_of hZ
            have z1 : wz.cell? ⟨w5x.heap.size, 1, none⟩ = some (.int .i64 0) := cell_of hZ
            have z2 : wz.cell? ⟨w5x.heap.size, 2, none⟩ = some (.string ⟨#[]⟩) := cell_of hZ
            have z3 : wz.cell? ⟨w5x.heap.size, 3, none⟩ = some (.slice none 0 0) := cell_of hZ
            have hfz : ∀ i, wz.frozen? ⟨w5x.heap.size, i, none⟩ = false := fun i => free_of hZ
            have bs : Below w5x.heap.size w5x ((((wz.setCell ⟨w5x.heap.size, 0, none⟩ (.int .i64 x.kind)).setCell ⟨w5x.heap.size, 1, none⟩ (.int .i64 x.num)).setCell ⟨w5x.heap.size, 2, none⟩ (.string x.name)).setCell ⟨w5x.heap.size, 3, none⟩ (.slice s1 x.kids.length k1)) := (((bz.setCell hZ5 _).setCell hZ5 _).setCell hZ5 _).setCell hZ5 _
            refine wpAnyHF_one (i := 11) (by kernel_rfl) rfl rfl ?_
            refine wpIn_skip rfl (w' := (((wz.setCell ⟨w5x.heap.size, 0, none⟩ (.int .i64 x.kind)).setCell ⟨w5x.heap.size, 1, none⟩ (.int .i64 x.num)).setCell ⟨w5x.heap.size, 2, none⟩ (.string x.name)).setCell ⟨w5x.heap.size, 3, none⟩ (.slice s1 x.kids.length k1)) (by simp [execOp, go_sem, z0, z1, z2, z3, hfz]) ⟨bs, ?_⟩
            refine wpAnyHF_takeD (i := 12) 12 (v := .int .i64 q) rfl rfl rfl (by kernel_rfl) (by kernel_rfl) (by kernel_rfl) (fun _ _ _ h => h) ⟨.inl ⟨rfl, fun W hW => by simp [execOp, go_sem]⟩, fun W => rfl⟩ bs ?_
            refine wpAnyHF_takeD (i := 13) 13 (v := .int .i64 0) rfl rfl rfl (by kernel_rfl) (by kernel_rfl) (by kernel_rfl) (fun _ _ _ h => h) ⟨.inl ⟨rfl, fun W hW => by simp [execOp, go_sem]⟩, fun W => rfl⟩ bs ?_
            simp only [Act.put, List.setIfInBounds_toArray, List.set_cons_zero, List.set_cons_succ]
            refine wpAnyHF_done (by kernel_rfl) ?_ _
            have BS := hid bs
            clear z0 z1 z2 z3 hfz bs bz hZ hZ5
            gi_wp2
            go_wp2_with fail
            go_meet
            case rel => exact ⟨rfl, BD.out.trans (BS.out.mono BD.out.size)⟩
        case rest =>
          obtain ⟨rfl, bx⟩ := hcut
          have HB1 := hid (hbr.out.trans (bx.mono hbr.out.size))
          have HQ := hid (And.intro hrv (And.intro hq (And.intro hlq hqS)))
          clear e1 hrv hq hlq hqS hin SO bx hbr
          obtain ⟨w5, hw5⟩ : ∃ z, z = wc := ⟨_, rfl⟩
          subst hw5
          go_wp2_with fail
          go_loopw [15, 14] (fun s15 s14 wr => ∃ (m : Nat) (old : Int), m ≤ k ∧ s15 = .int .i64 m ∧ s14 = .int .i64 old ∧ -1 ≤ old ∧ old ≤ 1000 ∧ Hid ((0 ≤ old → q ∈ addT h.nodes [] (rs.take m)) ∧ (old < 0 → q ∉ addT h.nodes [] (rs.take m))) ∧ Hid (Below w4.heap.size w4 wr)) (fun s15 _ _ => k - (intOf s15).toNat)
          case atStart => exact ⟨0, -1, Nat.zero_le _, rfl, rfl, by omega, by omega, ⟨fun h => by omega, fun _ h => by cases h⟩, HB1.out⟩
          case round =>
            obtain ⟨m, old, hm, rfl, rfl, ho1, ho2, HO, hbm⟩ := hrel
            obtain ⟨wi, rfl⟩ : ∃ wo : World, wo = wr := ⟨_, rfl⟩
            clear HB1
            have SI := hid (And.intro (S3.out.1.more hbm.out) (And.intro (ISl.more S3.out.2.1 hbm.out) (And.intro (S3.out.2.2.1.more hbm.out) (ISl.more S3.out.2.2.2 hbm.out))))
            by_cases hlm : m < k
            · obtain ⟨b1', o1', c1'', rv', hv1, hrv', hin', e1'⟩ := ISl.at SI.out.2.1 (Below.refl _ _) (k := m) (by omega)
              cases hv1
              obtain ⟨q', hq', hlq', hqS'⟩ := HPF.out.res m rv' hrv'
              have hltm : m < rs.length := by omega
              go_upto_region 18 with (fail)
              go_cut [17] (fun s17 wx => s17 = .int .i64 q' ∧ Below wi.heap.size wi wx)
              case first =>
                obtain ⟨w5x, hw5⟩ : ∃ z, wi.drew = z := ⟨_, rfl⟩
                have bd : Below wi.heap.size wi w5x := by rw [← hw5]; exact (Below.refl _ _).drew
                have BD := hid bd
                have HK5 := hid (SI.out.1.more bd)
                have A0 : Hid (w5x.cell? ⟨w.heap.size, 0, none⟩ = some (.slice sa h.nodes.length sc)) := HK5.out.c0
                have A1 : Hid (w5x.cell? ⟨w.heap.size, 1, none⟩ = some (.int .i64 h.most)) := HK5.out.c1
                have LC : Hid (w5x.cell? ⟨b1, o1 + m, none⟩ = some (.int .i64 rv')) := later_cell bd e1'
                have HAT : Hid (∀ W, Below w5x.heap.size w5x W → Calls Try.prog 17 #[.agg #[.slice sa h.nodes.length sc, .int .i64 h.most], .int .i64 rv'] W fun e w' => ∃ s1 k1, e = .returned (.tuple #[.agg #[.int .i64 (nodeAt h.nodes q').kind, .int .i64 (nodeAt h.nodes q').num, .string (nodeAt h.nodes q').name, .slice s1 (nodeAt h.nodes q').kids.length k1], .int .i64 q', .int .i64 0]) ∧ Below W.heap.size W w') := fun W hW => at_known W _ _ h rv' q' (HK5.out.val.below hW) hin' hn HF.out.2 hq'
                obtain ⟨x, hxx⟩ : ∃ x, x = nodeAt h.nodes q' := ⟨_, rfl⟩
                rw [← hxx] at HAT
                clear hxx
                clear bd
                refine (wpIn_wide (n := 9)).1 ?_
                refine wpIn_region_held (fun W => Below w5x.heap.size w5x W) (by kernel_rfl) ?_
                rw [hw5]
                clear hw5
                refine wpAnyHF_takeD (i := 0) 71 (v := .agg #[.slice sa h.nodes.length sc, .int .i64 h.most]) rfl rfl rfl (by kernel_rfl) (by kernel_rfl) (by kernel_rfl) (fun _ _ _ h => h) ⟨.inl ⟨rfl, fun W hW => by have m0 := later_cell hW A0.out; have m1 := later_cell hW A1.out; simp [execOp, go_sem, m0, m1]⟩, fun W => rfl⟩ (Below.refl _ _) ?_
                refine wpAnyHF_takeD (i := 1) 72 (v := .slice (some ⟨b1, o1, none⟩) rs.length crs) rfl rfl rfl (by kernel_rfl) (by kernel_rfl) (by kernel_rfl) (fun _ _ _ h => h) ⟨.inl ⟨rfl, fun W hW => by simp [execOp, go_sem]⟩, fun W => rfl⟩ (Below.refl _ _) ?_
                refine wpAnyHF_takeD (i := 2) 73 (v := .int .i64 m) rfl rfl rfl (by kernel_rfl) (by kernel_rfl) (by kernel_rfl) (fun _ _ _ h => h) ⟨.inl ⟨rfl, fun W hW => by simp [execOp, go_sem]⟩, fun W => rfl⟩ (Below.refl _ _) ?_
                simp only [Act.put, List.setIfInBounds_toArray, List.set_cons_zero, List.set_cons_succ]
                refine wpAnyHF_takeD (i := 3) 74 (v := .pointer (some ⟨b1, o1 + m, none⟩)) rfl rfl rfl (by kernel_rfl) (by kernel_rfl) (by kernel_rfl) (fun _ _ _ h => h) ⟨.inl ⟨rfl, fun W hW => by simp [execOp, go_sem, hltm]⟩, fun W => rfl⟩ (Below.refl _ _) ?_
                refine wpAnyHF_takeD (i := 4) 75 (v := .int .i64 rv') rfl rfl rfl (by kernel_rfl) (by kernel_rfl) (by kernel_rfl) (fun _ _ _ h => h) ⟨.inl ⟨rfl, fun W hW => by have m0 := later_cell hW LC.out; simp [execOp, go_sem, m0]⟩, fun W => rfl⟩ (Below.refl _ _) ?_
                simp only [Act.put, List.setIfInBounds_toArray, List.set_cons_zero, List.set_cons_succ]
                refine wpAnyHF_two (i := 5) (j := 10) (by kernel_rfl) rfl rfl rfl rfl ?_ ?_
                · refine wpIn_callD 76 rfl (P := Try.prog) (f := 17) (args := #[.agg #[.slice sa h.nodes.length sc, .int .i64 h.most], .int .i64 rv']) (by simp [execOp, resolve, invoke, go_sem]) ?_
                  refine (HAT.out _ (Below.refl _ _)).mono ?_
                  rintro e wy ⟨s1, k1, rfl, by1⟩
                  refine ⟨_, rfl, by1, ?_⟩
                  simp only [Act.put, List.setIfInBounds_toArray, List.set_cons_zero, List.set_cons_succ]
                  refine wpAnyHF_takeD (i := 6) 70 (v := .tuple #[.agg #[.int .i64 x.kind, .int .i64 x.num, .string x.name, .slice s1 x.kids.length k1], .int .i64 q', .int .i64 0]) rfl rfl rfl (by kernel_rfl) (by kernel_rfl) (by kernel_rfl) (fun _ _ _ h => h) ⟨.inl ⟨rfl, fun W hW => by simp [execOp, go_sem]⟩, fun W => rfl⟩ by1 ?_
                  refine wpAnyHF_takeD (i := 7) 77 (v := .agg #[.int .i64 x.kind, .int .i64 x.num, .string x.name, .slice s1 x.kids.length k1]) rfl rfl rfl (by kernel_rfl) (by kernel_rfl) (by kernel_rfl) (fun _ _ _ h => h) ⟨.inl ⟨rfl, fun W hW => by simp [execOp, go_sem]⟩, fun W => rfl⟩ by1 ?_
                  refine wpAnyHF_takeD (i := 8) 78 (v := .int .i64 q') rfl rfl rfl (by kernel_rfl) (by kernel_rfl) (by kernel_rfl) (fun _ _ _ h => h) ⟨.inl ⟨rfl, fun W hW => by simp [execOp, go_sem]⟩, fun W => rfl⟩ by1 ?_
                  simp only [Act.put, List.setIfInBounds_toArray, List.set_cons_zero, List.set_cons_succ]
                  refine wpAnyHF_takeD (i := 9) 79 (v := .int .i64 0) rfl rfl rfl (by kernel_rfl) (by kernel_rfl) (by kernel_rfl) (fun _ _ _ h => h) ⟨.inl ⟨rfl, fun W hW => by simp [execOp, go_sem]⟩, fun W => rfl⟩ by1 ?_
                  simp only [Act.put, List.setIfInBounds_toArray, List.set_cons_zero, List.set_cons_succ]
                  have bz : Below w5x.heap.size w5x (wy.alloc (.cells #[.int .i64 0, .int .i64 0, .string ⟨#[]⟩, .slice none 0 0] 37)) := by1.alloc by1.size _
                  refine wpAnyHF_one (i := 10) (by kernel_rfl) rfl rfl ?_
                  refine wpIn_valueD 16 rfl (w' := wy.alloc (.cells #[.int .i64 0, .int .i64 0, .string ⟨#[]⟩, .slice none 0 0] 37)) (v := .pointer (some ⟨wy.heap.size, 0, none⟩)) (by simp [execOp, go_sem]) ⟨bz, ?_⟩
                  simp only [Act.put, List.setIfInBounds_toArray, List.set_cons_zero, List.set_cons_succ]
                  have hZ : (wy.alloc (.cells #[.int .i64 0, .int .i64 0, .string ⟨#[]⟩, .slice none 0 0] 37)).heap[wy.heap.size]? = some (.cells #[.int .i64 0, .int .i64 0, .string ⟨#[]⟩, .slice none 0 0] 37) := World.alloc_heap_new _ _
                  have hZ5 : w5x.heap.size ≤ wy.heap.size := by1.size
                  obtain ⟨wz, hwz⟩ : ∃ z, wy.alloc (.cells #[.int .i64 0, .int .i64 0, .string ⟨#[]⟩, .slice none 0 0] 37) = z := ⟨_, rfl⟩
                  obtain ⟨Z, hZe⟩ : ∃ z, wy.heap.size = z := ⟨_, rfl⟩
                  rw [hwz] at bz hZ ⊢
                  rw [hZe] at hZ hZ5 ⊢
                  clear hwz hZe by1
                  have z0 : wz.cell? ⟨Z, 0, none⟩ = some (.int .i64 0) := cell_of hZ
                  have z1 : wz.cell? ⟨Z, 1, none⟩ = some (.int .i64 0) := cell_of hZ
                  have z2 : wz.cell? ⟨Z, 2, none⟩ = some (.string ⟨#[]⟩) := cell_of hZ
                  have z3 : wz.cell? ⟨Z, 3, none⟩ = some (.slice none 0 0) := cell_of hZ
                  have hfz : ∀ i, wz.frozen? ⟨Z, i, none⟩ = false := fun i => free_of hZ
                  have bs : Below w5x.heap.size w5x ((((wz.setCell ⟨Z, 0, none⟩ (.int .i64 x.kind)).setCell ⟨Z, 1, none⟩ (.int .i64 x.num)).setCell ⟨Z, 2, none⟩ (.string x.name)).setCell ⟨Z, 3, none⟩ (.slice s1 x.kids.length k1)) := (((bz.setCell hZ5 _).setCell hZ5 _).setCell hZ5 _).setCell hZ5 _
                  refine wpAnyHF_one (i := 11) (by kernel_rfl) rfl rfl ?_
                  refine wpIn_skip rfl (w' := (((wz.setCell ⟨Z, 0, none⟩ (.int .i64 x.kind)).setCell ⟨Z, 1, none⟩ (.int .i64 x.num)).setCell ⟨Z, 2, none⟩ (.string x.name)).setCell ⟨Z, 3, none⟩ (.slice s1 x.kids.length k1)) (by simp [execOp, go_sem, z0, z1, z2, z3, hfz]) ⟨bs, ?_⟩
                  refine wpAnyHF_takeD (i := 12) 17 (v := .int .i64 q') rfl rfl rfl (by kernel_rfl) (by kernel_rfl) (by kernel_rfl) (fun _ _ _ h => h) ⟨.inl ⟨rfl, fun W hW => by simp [execOp, go_sem]⟩, fun W => rfl⟩ bs ?_
                  refine wpAnyHF_takeD (i := 13) 18 (v := .int .i64 0) rfl rfl rfl (by kernel_rfl) (by kernel_rfl) (by kernel_rfl) (fun _ _ _ h => h) ⟨.inl ⟨rfl, fun W hW => by simp [execOp, go_sem]⟩, fun W => rfl⟩ bs ?_
                  simp only [Act.put, List.setIfInBounds_toArray, List.set_cons_zero, List.set_cons_succ]
                  refine wpAnyHF_done (by kernel_rfl) ?_ _
                  have BS := hid bs
                  clear z0 z1 z2 z3 hfz bs bz hZ hZ5
                  gi_wp2
                  go_wp2_with fail
                  go_meet
                  case rel => exact ⟨rfl, BD.out.trans (BS.out.mono BD.out.size)⟩
                · have bx : Below w5x.heap.size w5x (w5x.alloc (.cells #[.int .i64 0, .int .i64 0, .string ⟨#[]⟩, .slice none 0 0] 37)) := (Below.refl _ _).alloc (Nat.le_refl _) _
                  refine wpIn_valueD 16 rfl (w' := w5x.alloc (.cells #[.int .i64 0, .int .i64 0, .string ⟨#[]⟩, .slice none 0 0] 37)) (v := .pointer (some ⟨w5x.heap.size, 0, none⟩)) (by simp [execOp, go_sem]) ⟨bx, ?_⟩
                  simp only [Act.put, List.setIfInBounds_toArray, List.set_cons_zero, List.set_cons_succ]
                  refine wpAnyHF_one (i := 5) (by kernel_rfl) rfl rfl ?_
                  refine wpIn_callD 76 rfl (P := Try.prog) (f := 17) (args := #[.agg #[.slice sa h.nodes.length sc, .int .i64 h.most], .int .i64 rv']) (by simp [execOp, resolve, invoke, go_sem]) ?_
                  refine (HAT.out _ bx).mono ?_
                  rintro e wz ⟨s1, k1, rfl, by1⟩
                  have bz := bx.trans (by1.mono bx.size)
                  refine ⟨_, rfl, bz, ?_⟩
                  simp only [Act.put, List.setIfInBounds_toArray, List.set_cons_zero, List.set_cons_succ]
                  refine wpAnyHF_takeD (i := 6) 70 (v := .tuple #[.agg #[.int .i64 x.kind, .int .i64 x.num, .string x.name, .slice s1 x.kids.length k1], .int .i64 q', .int .i64 0]) rfl rfl rfl (by kernel_rfl) (by kernel_rfl) (by kernel_rfl) (fun _ _ _ h => h) ⟨.inl ⟨rfl, fun W hW => by simp [execOp, go_sem]⟩, fun W => rfl⟩ bz ?_
                  refine wpAnyHF_takeD (i := 7) 77 (v := .agg #[.int .i64 x.kind, .int .i64 x.num, .string x.name, .slice s1 x.kids.length k1]) rfl rfl rfl (by kernel_rfl) (by kernel_rfl) (by kernel_rfl) (fun _ _ _ h => h) ⟨.inl ⟨rfl, fun W hW => by simp [execOp, go_sem]⟩, fun W => rfl⟩ bz ?_
                  refine wpAnyHF_takeD (i := 8) 78 (v := .int .i64 q') rfl rfl rfl (by kernel_rfl) (by kernel_rfl) (by kernel_rfl) (fun _ _ _ h => h) ⟨.inl ⟨rfl, fun W hW => by simp [execOp, go_sem]⟩, fun W => rfl⟩ bz ?_
                  simp only [Act.put, List.setIfInBounds_toArray, List.set_cons_zero, List.set_cons_succ]
                  refine wpAnyHF_takeD (i := 9) 79 (v := .int .i64 0) rfl rfl rfl (by kernel_rfl) (by kernel_rfl) (by kernel_rfl) (fun _ _ _ h => h) ⟨.inl ⟨rfl, fun W hW => by simp [execOp, go_sem]⟩, fun W => rfl⟩ bz ?_
                  simp only [Act.put, List.setIfInBounds_toArray, List.set_cons_zero, List.set_cons_succ]
                  have hZ : wz.heap[w5x.heap.size]? = some (.cells #[.int .i64 0, .int .i64 0, .string ⟨#[]⟩, .slice none 0 0] 37) := (by1.block _ (by simp)).trans (World.alloc_heap_new _ _)
                  have hZ5 : w5x.heap.size ≤ w5x.heap.size := Nat.le_refl _
                  clear by1 bx
                  have z0 : wz.cell? ⟨w5x.heap.size, 0, none⟩ = some (.int .i64 0) := cell_of hZ
                  have z1 : wz.cell? ⟨w5x.heap.size, 1, none⟩ = some (.int .i64 0) := cell_of hZ
                  have z2 : wz.cell? ⟨w5x.heap.size, 2, none⟩ = some (.string ⟨#[]⟩) := cell_of hZ
                  have z3 : wz.cell? ⟨w5x.heap.size, 3, none⟩ = some (.slice none 0 0) := cell_of hZ
                  have hfz : ∀ i, wz.frozen? ⟨w5x.heap.size, i, none⟩ = false := fun i => free_of hZ
                  have bs : Below w5x.heap.size w5x ((((wz.setCell ⟨w5x.heap.size, 0, none⟩ (.int .i64 x.kind)).setCell ⟨w5x.heap.size, 1, none⟩ (.int .i64 x.num)).setCell ⟨w5x.heap.size, 2, none⟩ (.string x.name)).setCell ⟨w5x.heap.size, 3, none⟩ (.slice s1 x.kids.length k1)) := (((bz.setCell hZ5 _).setCell hZ5 _).setCell hZ5 _).setCell hZ5 _
                  refine wpAnyHF_one (i := 11) (by kernel_rfl) rfl rfl ?_
                  refine wpIn_skip rfl (w' := (((wz.setCell ⟨w5x.heap.size, 0, none⟩ (.int .i64 x.kind)).setCell ⟨w5x.heap.size, 1, none⟩ (.int .i64 x.num)).setCell ⟨w5x.heap.size, 2, none⟩ (.string x.name)).setCell ⟨w5x.heap.size, 3, none⟩ (.slice s1 x.kids.length k1)) (by simp [execOp, go_sem, z0, z1, z2, z3, hfz]) ⟨bs, ?_⟩
                  refine wpAnyHF_takeD (i := 12) 17 (v := .int .i64 q') rfl rfl rfl (by kernel_rfl) (by kernel_rfl) (by kernel_rfl) (fun _ _ _ h => h) ⟨.inl ⟨rfl, fun W hW => by simp [execOp, go_sem]⟩, fun W => rfl⟩ bs ?_
                  refine wpAnyHF_takeD (i := 13) 18 (v := .int .i64 0) rfl rfl rfl (by kernel_rfl) (by kernel_rfl) (by kernel_rfl) (fun _ _ _ h => h) ⟨.inl ⟨rfl, fun W hW => by simp [execOp, go_sem]⟩, fun W => rfl⟩ bs ?_
                  simp only [Act.put, List.setIfInBounds_toArray, List.set_cons_zero, List.set_cons_succ]
                  refine wpAnyHF_done (by kernel_rfl) ?_ _
                  have BS := hid bs
                  clear z0 z1 z2 z3 hfz bs bz hZ hZ5
                  gi_wp2
                  go_wp2_with fail
                  go_meet
                  case rel => exact ⟨rfl, BD.out.trans (BS.out.mono BD.out.size)⟩
              case rest =>
                obtain ⟨rfl, bx⟩ := hcut
                have HB2 := hid (hbm.out.trans (bx.mono hbm.out.size))
                have hl0 := ISl.more SI.out.2.2.2 bx
                clear e1'
                obtain ⟨w6, hw6⟩ : ∃ z, z = wc := ⟨_, rfl⟩
                subst hw6
                obtain ⟨bl, ol, cl', z1, hv1, hz1, _, f1⟩ := ISl.at hl0 (Below.refl _ _) (k := k) (by have := HPF.out.len; omega)
                obtain ⟨bl', ol', cl'', z2, hv2, hz2, _, f2⟩ := ISl.at hl0 (Below.refl _ _) (k := m) (by have := HPF.out.len; omega)
                have hll := HPF.out.len
                rw [hll] at hv1 hv2
                cases hv1
                cases hv2
                obtain rfl : z1 = pl S q := by have := HQ.out.2.2.1; rw [hz1] at this; cases this; rfl
                obtain rfl : z2 = pl S q' := by rw [hz2] at hlq'; cases hlq'; rfl
                have heq : (pl S q == pl S q') = (q == q') := by
                  by_cases e : q = q'
                  · subst e; simp
                  · rw [beq_eq_false_iff_ne.2 e, beq_eq_false_iff_ne.2 (fun h => e (pl_inj HQ.out.2.2.2 hqS' h))]
                have hst := addT_step h.nodes [] rs hrv'
                have hmv : mvS h.nodes (addT h.nodes [] (rs.take m)) rv' = push (addT h.nodes [] (rs.take m)) q' := by rw [mvS, hq']
                have hmem : q ∈ addT h.nodes [] (rs.take (m + 1)) ↔ q ∈ addT h.nodes [] (rs.take m) ∨ q = q' := by rw [hst, hmv, mem_push]
                have HM := hid hmem
                clear hl0 hz1 hz2 hst hmv hmem hll bx hrv' hq' hlq' hin'
                cases hqq : q == q'
                · rw [hqq] at heq
                  have HQQ := hid hqq
                  go_upto_region 19 with (fail)
                  go_quiet (fail)
                  go_wp2_with fail
                  go_roundw
                  case rel =>
                    have hne : ¬ q = q' := by simpa using HQQ.out
                    exact ⟨m + 1, old, by omega, by go_num, rfl, ho1, ho2, ⟨fun h => HM.out.2 (.inl (HO.out.1 h)), fun h hh => (HM.out.1 hh).elim (HO.out.2 h) hne⟩, below_drewN HB2.out _⟩
                  case measure => simp [intOf]; omega
                · rw [hqq] at heq
                  have HQQ := hid hqq
                  go_upto_region 19 with (fail)
                  go_quiet (fail)
                  go_wp2_with fail
                  go_roundw
                  case rel => exact ⟨m + 1, m, by omega, by go_num, rfl, by omega, by omega, ⟨fun _ => HM.out.2 (.inr (by simpa using HQQ.out)), fun h => by omega⟩, below_drewN HB2.out _⟩
                  case measure => simp [intOf]; omega
            · obtain rfl : m = k := by omega
              have hF := HPF.out.fst m rv q HQ.out.1 HQ.out.2.1
              have HFS := hid hF
              clear hF
              by_cases hold : old < 0
              · have hpl := (HFS.out.1 (HO.out.2 hold))
                rw [hn0.out] at hpl
                obtain ⟨bl, ol, cl', z1, hv1, hz1, _, f1⟩ := ISl.at SI.out.2.2.2 (Below.refl _ _) (k := m) (by have := HPF.out.len; omega)
                have hll := HPF.out.len
                rw [hll] at hv1
                cases hv1
                obtain rfl : z1 = pl S q := by have := HQ.out.2.2.1; rw [hz1] at this; cases this; rfl
                rw [hpl.1] at f1
                have HL2 := hid hpl.2
                clear hpl hll hz1
                go_wp2_with fail
                go_roundw
                case rel => exact ⟨m + 1, n0 + 1, by omega, by go_num, by go_num, HL2.out, hbm.out⟩
                case measure => simp [intOf]; omega
              · have hsm := HFS.out.2 (HO.out.1 (by omega))
                have HL2 : Hid ((addT h.nodes [] (rs.take (m + 1))).length = n0) := by show _ = _; rw [hsm]; exact hn0.out
                clear hsm
                go_wp2_with fail
                go_roundw
                case rel => exact ⟨m + 1, n0, by omega, by go_num, rfl, HL2.out, hbm.out⟩
                case measure => simp [intOf]; omega
      · obtain rfl : k = rs.length := by omega
        have hle : n0 ≤ c.nodes.length := by
          have h1 := HPF.out.pre.length_le
          have h2 := hn0.out
          rw [List.take_length] at h2
          have h3 := HCS.out.1
          omega
        have c0 := (SO.out.2.2.1).c0
        have SB := hid SO.out.1.bel
        clear SO
        go_wp2_with fail
        go_ret
        exact Bb.fin rfl SB.out
end Go.Proofs.Ytajhchfjoeblgaa
