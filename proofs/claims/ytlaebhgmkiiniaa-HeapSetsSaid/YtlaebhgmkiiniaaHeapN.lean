/- HeapSets: the walk. -/
import Derived.Test.YtlaebhgmkiiniaaHeapM
import Derived.Deep.CutRange
namespace Go.Proofs.Ytlaebhgmkiiniaa
open Go.RowKit Go.Shelf
attribute [local go_sem] Oper.semAt_some
/-- A Set, what it hands back named. -/
theorem set_call (w : World) (ok ok' : Nat → Prop) (v nv : Value) (h hx : Hp) (p ex : Int) (x : Nd) (hh : HVal w ok v h) (hp : In p) (hx' : NVal w ok' nv x) (hn : h.nodes.length ≤ 1000000) (hkb : x.kids.length ≤ 1000000000) (h1 : hx = setH h p x) (h2 : ex = setE h p x) :
    Calls Try.prog 10 #[v, .int .i64 p, nv] w fun e w' => ∃ a c, e = .returned (.tuple #[.agg #[.slice a hx.nodes.length c, .int .i64 hx.most], .int .i64 ex]) ∧ HVal w' (fun b => ok b ∨ w.heap.size ≤ b) (.agg #[.slice a hx.nodes.length c, .int .i64 hx.most]) hx ∧ Below w.heap.size w w' := by
  refine (set_any w ok ok' v nv h p x hh hp hx' hn hkb).mono ?_
  rintro e w' ⟨v', rfl, hv, hb⟩
  rw [← h1] at hv
  obtain ⟨a, c, rfl⟩ := hv.shape
  exact ⟨a, c, by rw [h2], hv, hb⟩
set_option maxRecDepth 100000 in
set_option maxHeartbeats 16000000 in
theorem sets_any (v0 : Value) (a b : Int) (v3 v4 : Value) (w : World) (h0 : ∃ h, HVal w (fun _ => True) v0 h) (ha : In a) (hb : In b) (h3 : ∃ x, NVal w (fun _ => True) v3 x) (h4 : ∃ x, NVal w (fun _ => True) v4 x) :
    Calls Try.prog 5 #[v0, .int .i64 a, .int .i64 b, v3, v4] w (Bb true w) := by
  obtain ⟨h, hh⟩ := h0
  obtain ⟨m, hm⟩ := h3
  obtain ⟨n, hn⟩ := h4
  have hh0 := hh
  have hm0 := hm
  have hn0 := hn
  obtain ⟨sa, sc, rfl, _, hs⟩ := hh
  obtain ⟨ma, mc, rfl, _, _, hms⟩ := hm
  obtain ⟨na, nc, rfl, _, _, hns⟩ := hn
  obtain ⟨_, _, e, l1, _⟩ := hs.shape
  cases e
  obtain ⟨_, _, e, l2, _⟩ := hms.shape
  cases e
  obtain ⟨_, _, e, l3, _⟩ := hns.shape
  cases e
  obtain ⟨W0, hW0⟩ : ∃ W0, ((w.alloc (Obj.cells #[.slice sa h.nodes.length sc, .int .i64 h.most] 24)).alloc (Obj.cells #[.int .i64 m.kind, .int .i64 m.num, .string m.name, .slice ma m.kids.length mc] 27)).alloc (Obj.cells #[.int .i64 n.kind, .int .i64 n.num, .string n.name, .slice na n.kids.length nc] 27) = W0 := ⟨_, rfl⟩
  have hb0 : Below w.heap.size w W0 := by rw [← hW0]; exact (((Below.refl _ _).alloc (Nat.le_refl _) _).alloc (by simp) _).alloc (by simp; omega) _
  have K0 : Kept w W0 w.heap.size 24 sa sc h := ⟨hb0, by rw [← hW0]; exact heap_old (heap_one _ _ _) _, hh0.below hb0⟩
  have M0 : KeptN w W0 (w.heap.size + 1) 27 ma mc m := ⟨hb0, by rw [← hW0]; exact heap_old (heap_two _ _ _) _, hm0.below hb0⟩
  have N0 : KeptN w W0 (w.heap.size + 2) 27 na nc n := ⟨hb0, by
    rw [← hW0]; have := World.alloc_heap_new ((w.alloc (Obj.cells #[.slice sa h.nodes.length sc, .int .i64 h.most] 24)).alloc (Obj.cells #[.int .i64 m.kind, .int .i64 m.num, .string m.name, .slice ma m.kids.length mc] 27)) (Obj.cells #[.int .i64 n.kind, .int .i64 n.num, .string n.name, .slice na n.kids.length nc] 27)
    simpa using this, hn0.below hb0⟩
  have HW := hid hW0
  have S0 := hid (And.intro K0 (And.intro M0 N0))
  clear hW0 hb0 K0 M0 N0 hh0 hm0 hn0 hs hms hns
  go_enter Try.func5, Try.ntmps5
  go_upto_region 1 with (fail)
  rw [HW.out]
  clear HW
  go_wp2_with fail
  refine (awake_any W0).mono ?_
  rintro e w1 ⟨rfl, b1⟩
  have S1 := hid (And.intro (S0.out.1.more b1) (And.intro (S0.out.2.1.more b1) (S0.out.2.2.more b1)))
  clear b1 S0
  have c0 : w1.cell? ⟨w.heap.size, 0, none⟩ = some (.slice sa h.nodes.length sc) := S1.out.1.c0
  have c1 : w1.cell? ⟨w.heap.size, 1, none⟩ = some (.int .i64 h.most) := S1.out.1.c1
  have P2 := hid (few_any w1 _ _ _ S1.out.1.val)
  go_wp2_with fail
  refine P2.out.mono ?_
  rintro e w2 ⟨rfl, b2⟩
  have S2 := hid (And.intro (S1.out.1.more b2) (And.intro (S1.out.2.1.more b2) (S1.out.2.2.more b2)))
  clear b2 S1 c0 c1 P2
  cases hq : fewH h
  · go_wp2_with fail
    go_ret
    exact Bb.fin rfl S2.out.1.bel
  have HF := hid (few_fits hq)
  have hn3 := HF.out.1
  have m0 : w2.cell? ⟨w.heap.size + 1, 0, none⟩ = some (.int .i64 m.kind) := S2.out.2.1.c0
  have m1 : w2.cell? ⟨w.heap.size + 1, 1, none⟩ = some (.int .i64 m.num) := S2.out.2.1.c1
  have m2 : w2.cell? ⟨w.heap.size + 1, 2, none⟩ = some (.string m.name) := S2.out.2.1.c2
  have m3 : w2.cell? ⟨w.heap.size + 1, 3, none⟩ = some (.slice ma m.kids.length mc) := S2.out.2.1.c3
  have n0 : w2.cell? ⟨w.heap.size + 2, 0, none⟩ = some (.int .i64 n.kind) := S2.out.2.2.c0
  have n1 : w2.cell? ⟨w.heap.size + 2, 1, none⟩ = some (.int .i64 n.num) := S2.out.2.2.c1
  have n2 : w2.cell? ⟨w.heap.size + 2, 2, none⟩ = some (.string n.name) := S2.out.2.2.c2
  have n3 : w2.cell? ⟨w.heap.size + 2, 3, none⟩ = some (.slice na n.kids.length nc) := S2.out.2.2.c3
  by_cases gmk : ¬ m.kids.length ≤ 100
  · have fgmk : decide ((m.kids.length : Int) > 100) = true := by simp; omega
    go_wp2_with fail
    go_ret
    exact Bb.fin rfl S2.out.1.bel
  have fgmk : decide ((m.kids.length : Int) > 100) = false := by simp; omega
  by_cases gnk : ¬ n.kids.length ≤ 100
  · have fgnk : decide ((n.kids.length : Int) > 100) = true := by simp; omega
    go_wp2_with fail
    go_ret
    exact Bb.fin rfl S2.out.1.bel
  have fgnk : decide ((n.kids.length : Int) > 100) = false := by simp; omega
  by_cases gms : ¬ m.name.size ≤ 100
  · have fgms : decide ((m.name.size : Int) > 100) = true := by simp; omega
    go_wp2_with fail
    go_ret
    exact Bb.fin rfl S2.out.1.bel
  have fgms : decide ((m.name.size : Int) > 100) = false := by simp; omega
  by_cases gns : ¬ n.name.size ≤ 100
  · have fgns : decide ((n.name.size : Int) > 100) = true := by simp; omega
    go_wp2_with fail
    go_ret
    exact Bb.fin rfl S2.out.1.bel
  have fgns : decide ((n.name.size : Int) > 100) = false := by simp; omega
  obtain ⟨hx, Hhx⟩ : ∃ z, z = setH h a m := ⟨_, rfl⟩
  obtain ⟨ex, Ehx⟩ : ∃ z, z = setE h a m := ⟨_, rfl⟩
  obtain ⟨hy, Hhy⟩ : ∃ z, z = setH hx a n := ⟨_, rfl⟩
  obtain ⟨ey, Ehy⟩ : ∃ z, z = setE hx a n := ⟨_, rfl⟩
  obtain ⟨hz, Hhz⟩ : ∃ z, z = setH h a n := ⟨_, rfl⟩
  obtain ⟨ez, Ehz⟩ : ∃ z, z = setE h a n := ⟨_, rfl⟩
  obtain ⟨hp, Hhp⟩ : ∃ z, z = setH hx b n := ⟨_, rfl⟩
  obtain ⟨ep, Ehp⟩ : ∃ z, z = setE hx b n := ⟨_, rfl⟩
  obtain ⟨hr0, Hhr0⟩ : ∃ z, z = setH h b n := ⟨_, rfl⟩
  obtain ⟨er0, Ehr0⟩ : ∃ z, z = setE h b n := ⟨_, rfl⟩
  obtain ⟨hr, Hhr⟩ : ∃ z, z = setH hr0 a m := ⟨_, rfl⟩
  obtain ⟨er, Ehr⟩ : ∃ z, z = setE hr0 a m := ⟨_, rfl⟩
  have hlx : hx.nodes.length = h.nodes.length := by rw [Hhx]; exact sets_len h a m
  have hlr : hr0.nodes.length = h.nodes.length := by rw [Hhr0]; exact sets_len h b n
  have eyz : ey = ez := by rw [Ehy, Ehz]; exact sets_e hlx a n
  have epr : ep = er0 := by rw [Ehp, Ehr0]; exact sets_e hlx b n
  have err : ex = er := by rw [Ehr, Ehx]; exact (sets_e hlr a m).symm
  have lastH : ex = 0 → ez = 0 → hy = hz := fun h1 h2 => by rw [Hhy, Hhz, Hhx]; exact sets_last (Ehx ▸ h1) (Ehz ▸ h2)
  have bothH : a ≠ b → ex = 0 → er0 = 0 → hp = hr := fun hab h1 h2 => by rw [Hhp, Hhr, Hhx, Hhr0]; exact sets_both hab (Ehx ▸ h1) (Ehr0 ▸ h2)
  have bx : hx.nodes.length ≤ 300 := by omega
  have br : hr0.nodes.length ≤ 300 := by omega
  have LAW := hid (And.intro lastH bothH)
  have EQ := hid (And.intro Hhx (And.intro Ehx (And.intro Hhy (And.intro Ehy (And.intro Hhz (And.intro Ehz (And.intro Hhp (And.intro Ehp (And.intro Hhr0 (And.intro Ehr0 (And.intro Hhr Ehr)))))))))))
  clear lastH bothH Hhx Ehx Hhy Ehy Hhz Ehz Hhp Ehp Hhr0 Ehr0 Hhr Ehr hlx hlr
  subst eyz; subst epr; subst err
  have hml : m.kids.length ≤ 100 := by omega
  have hnl : n.kids.length ≤ 100 := by omega
  have AB := hid (And.intro ha hb)
  clear gmk gnk gms gns
  go_upto_region 4 with (fail)
  clear m0 m1 m2 m3 n0 n1 n2 n3 fgmk fgnk fgms fgns
  have u0 : w2.cell? ⟨w.heap.size, 0, none⟩ = some (.slice sa h.nodes.length sc) := S2.out.1.c0
  have u1 : w2.cell? ⟨w.heap.size, 1, none⟩ = some (.int .i64 h.most) := S2.out.1.c1
  have v0 : w2.cell? ⟨w.heap.size + 1, 0, none⟩ = some (.int .i64 m.kind) := S2.out.2.1.c0
  have v1 : w2.cell? ⟨w.heap.size + 1, 1, none⟩ = some (.int .i64 m.num) := S2.out.2.1.c1
  have v2 : w2.cell? ⟨w.heap.size + 1, 2, none⟩ = some (.string m.name) := S2.out.2.1.c2
  have v3 : w2.cell? ⟨w.heap.size + 1, 3, none⟩ = some (.slice ma m.kids.length mc) := S2.out.2.1.c3
  have P := hid (set_call w2 _ _ _ _ h hx a ex m S2.out.1.val AB.out.1 S2.out.2.1.val (by omega) (by omega) EQ.out.1 EQ.out.2.1)
  go_wp2_with fail
  refine P.out.mono ?_
  rintro e w3 ⟨ahx, chx, rfl, hv, b⟩
  clear u0 u1 v0 v1 v2 v3 P
  go_upto_region 5 with (fail)
  have bb := b.alloc b.size (.cells #[.slice ahx hx.nodes.length chx, .int .i64 hx.most] 24)
  have hnew := Kept.new 24 (S2.out.1.bel.trans (b.mono S2.out.1.bel.size)) hv.all
  have S4 := hid (And.intro (S2.out.1.more bb) (And.intro (S2.out.2.1.more bb) (And.intro (S2.out.2.2.more bb) hnew)))
  obtain ⟨w4, hww⟩ : ∃ z, w3.alloc (.cells #[.slice ahx hx.nodes.length chx, .int .i64 hx.most] 24) = z := ⟨_, rfl⟩
  obtain ⟨Bhx, hXX⟩ : ∃ z, w3.heap.size = z := ⟨_, rfl⟩
  rw [hww, hXX] at S4 ⊢
  clear hww hXX bb hnew b hv S2
  have u0 : w4.cell? ⟨Bhx, 0, none⟩ = some (.slice ahx hx.nodes.length chx) := S4.out.2.2.2.c0
  have u1 : w4.cell? ⟨Bhx, 1, none⟩ = some (.int .i64 hx.most) := S4.out.2.2.2.c1
  have v0 : w4.cell? ⟨w.heap.size + 2, 0, none⟩ = some (.int .i64 n.kind) := S4.out.2.2.1.c0
  have v1 : w4.cell? ⟨w.heap.size + 2, 1, none⟩ = some (.int .i64 n.num) := S4.out.2.2.1.c1
  have v2 : w4.cell? ⟨w.heap.size + 2, 2, none⟩ = some (.string n.name) := S4.out.2.2.1.c2
  have v3 : w4.cell? ⟨w.heap.size + 2, 3, none⟩ = some (.slice na n.kids.length nc) := S4.out.2.2.1.c3
  have P := hid (set_call w4 _ _ _ _ hx hy a ey n S4.out.2.2.2.val AB.out.1 S4.out.2.2.1.val (by omega) (by omega) EQ.out.2.2.1 EQ.out.2.2.2.1)
  go_wp2_with fail
  refine P.out.mono ?_
  rintro e w5 ⟨ahy, chy, rfl, hv, b⟩
  clear u0 u1 v0 v1 v2 v3 P
  go_upto_region 6 with (fail)
  have bb := b.alloc b.size (.cells #[.slice ahy hy.nodes.length chy, .int .i64 hy.most] 24)
  have hnew := Kept.new 24 (S4.out.1.bel.trans (b.mono S4.out.1.bel.size)) hv.all
  have S6 := hid (And.intro (S4.out.1.more bb) (And.intro (S4.out.2.1.more bb) (And.intro (S4.out.2.2.1.more bb) (And.intro (S4.out.2.2.2.more bb) hnew))))
  obtain ⟨w6, hww⟩ : ∃ z, w5.alloc (.cells #[.slice ahy hy.nodes.length chy, .int .i64 hy.most] 24) = z := ⟨_, rfl⟩
  obtain ⟨Bhy, hXX⟩ : ∃ z, w5.heap.size = z := ⟨_, rfl⟩
  rw [hww, hXX] at S6 ⊢
  clear hww hXX bb hnew b hv S4
  have u0 : w6.cell? ⟨w.heap.size, 0, none⟩ = some (.slice sa h.nodes.length sc) := S6.out.1.c0
  have u1 : w6.cell? ⟨w.heap.size, 1, none⟩ = some (.int .i64 h.most) := S6.out.1.c1
  have v0 : w6.cell? ⟨w.heap.size + 2, 0, none⟩ = some (.int .i64 n.kind) := S6.out.2.2.1.c0
  have v1 : w6.cell? ⟨w.heap.size + 2, 1, none⟩ = some (.int .i64 n.num) := S6.out.2.2.1.c1
  have v2 : w6.cell? ⟨w.heap.size + 2, 2, none⟩ = some (.string n.name) := S6.out.2.2.1.c2
  have v3 : w6.cell? ⟨w.heap.size + 2, 3, none⟩ = some (.slice na n.kids.length nc) := S6.out.2.2.1.c3
  have P := hid (set_call w6 _ _ _ _ h hz a ey n S6.out.1.val AB.out.1 S6.out.2.2.1.val (by omega) (by omega) EQ.out.2.2.2.2.1 EQ.out.2.2.2.2.2.1)
  go_wp2_with fail
  refine P.out.mono ?_
  rintro e w7 ⟨ahz, chz, rfl, hv, b⟩
  clear u0 u1 v0 v1 v2 v3 P
  go_upto_region 7 with (fail)
  have bb := b.alloc b.size (.cells #[.slice ahz hz.nodes.length chz, .int .i64 hz.most] 24)
  have hnew := Kept.new 24 (S6.out.1.bel.trans (b.mono S6.out.1.bel.size)) hv.all
  have S8 := hid (And.intro (S6.out.1.more bb) (And.intro (S6.out.2.1.more bb) (And.intro (S6.out.2.2.1.more bb) (And.intro (S6.out.2.2.2.1.more bb) (And.intro (S6.out.2.2.2.2.more bb) hnew)))))
  obtain ⟨w8, hww⟩ : ∃ z, w7.alloc (.cells #[.slice ahz hz.nodes.length chz, .int .i64 hz.most] 24) = z := ⟨_, rfl⟩
  obtain ⟨Bhz, hXX⟩ : ∃ z, w7.heap.size = z := ⟨_, rfl⟩
  rw [hww, hXX] at S8 ⊢
  clear hww hXX bb hnew b hv S6
  go_cut [18] (fun s18 wx => s18 = .bool true ∧ Below w8.heap.size w8 wx)
  case first =>
    cases e1 : (ex != 0)
    · cases e2 : (ey != 0)
      · have hyz : hy = hz := LAW.out.1 (by simpa using e1) (by simpa using e2)
        have u0 : w8.cell? ⟨Bhy, 0, none⟩ = some (.slice ahy hy.nodes.length chy) := S8.out.2.2.2.2.1.c0
        have u1 : w8.cell? ⟨Bhy, 1, none⟩ = some (.int .i64 hy.most) := S8.out.2.2.2.2.1.c1
        have v0 : w8.cell? ⟨Bhz, 0, none⟩ = some (.slice ahz hz.nodes.length chz) := S8.out.2.2.2.2.2.c0
        have v1 : w8.cell? ⟨Bhz, 1, none⟩ = some (.int .i64 hz.most) := S8.out.2.2.2.2.2.c1
        have P' := same_any w8 _ _ _ _ hy hz S8.out.2.2.2.2.1.val S8.out.2.2.2.2.2.val
        rw [decide_eq_true hyz] at P'
        have P := hid P'
        clear P' hyz
        go_wp2_with fail
        refine P.out.mono ?_
        rintro e wy ⟨rfl, b⟩
        go_wp2_with fail
        go_meet
        case rel => exact ⟨rfl, b⟩
      · go_wp2_with fail
        go_meet
        case rel => exact ⟨rfl, Below.refl _ _⟩
    · go_wp2_with fail
      go_meet
      case rel => exact ⟨rfl, Below.refl _ _⟩
  case rest =>
    obtain ⟨rfl, bx7⟩ := hcut
    have S9 := hid (And.intro (S8.out.1.more bx7) (And.intro (S8.out.2.1.more bx7) (And.intro (S8.out.2.2.1.more bx7) (And.intro (S8.out.2.2.2.1.more bx7) (And.intro (S8.out.2.2.2.2.1.more bx7) (S8.out.2.2.2.2.2.more bx7))))))
    clear bx7 S8
    obtain ⟨w9, hw9⟩ : ∃ z, z = wc := ⟨_, rfl⟩
    subst hw9
    have u0 : w9.cell? ⟨Bhx, 0, none⟩ = some (.slice ahx hx.nodes.length chx) := S9.out.2.2.2.1.c0
    have u1 : w9.cell? ⟨Bhx, 1, none⟩ = some (.int .i64 hx.most) := S9.out.2.2.2.1.c1
    have v0 : w9.cell? ⟨w.heap.size + 2, 0, none⟩ = some (.int .i64 n.kind) := S9.out.2.2.1.c0
    have v1 : w9.cell? ⟨w.heap.size + 2, 1, none⟩ = some (.int .i64 n.num) := S9.out.2.2.1.c1
    have v2 : w9.cell? ⟨w.heap.size + 2, 2, none⟩ = some (.string n.name) := S9.out.2.2.1.c2
    have v3 : w9.cell? ⟨w.heap.size + 2, 3, none⟩ = some (.slice na n.kids.length nc) := S9.out.2.2.1.c3
    have P := hid (set_call w9 _ _ _ _ hx hp b ep n S9.out.2.2.2.1.val AB.out.2 S9.out.2.2.1.val (by omega) (by omega) EQ.out.2.2.2.2.2.2.1 EQ.out.2.2.2.2.2.2.2.1)
    go_wp2_with fail
    refine P.out.mono ?_
    rintro e w10 ⟨ahp, chp, rfl, hv, b⟩
    clear u0 u1 v0 v1 v2 v3 P
    go_upto_region 9 with (fail)
    have bb := b.alloc b.size (.cells #[.slice ahp hp.nodes.length chp, .int .i64 hp.most] 24)
    have hnew := Kept.new 24 (S9.out.1.bel.trans (b.mono S9.out.1.bel.size)) hv.all
    have S11 := hid (And.intro (S9.out.1.more bb) (And.intro (S9.out.2.1.more bb) (And.intro (S9.out.2.2.1.more bb) (And.intro (S9.out.2.2.2.1.more bb) (And.intro (S9.out.2.2.2.2.1.more bb) (And.intro (S9.out.2.2.2.2.2.more bb) hnew))))))
    obtain ⟨w11, hww⟩ : ∃ z, w10.alloc (.cells #[.slice ahp hp.nodes.length chp, .int .i64 hp.most] 24) = z := ⟨_, rfl⟩
    obtain ⟨Bhp, hXX⟩ : ∃ z, w10.heap.size = z := ⟨_, rfl⟩
    rw [hww, hXX] at S11 ⊢
    clear hww hXX bb hnew b hv S9
    have u0 : w11.cell? ⟨w.heap.size, 0, none⟩ = some (.slice sa h.nodes.length sc) := S11.out.1.c0
    have u1 : w11.cell? ⟨w.heap.size, 1, none⟩ = some (.int .i64 h.most) := S11.out.1.c1
    have v0 : w11.cell? ⟨w.heap.size + 2, 0, none⟩ = some (.int .i64 n.kind) := S11.out.2.2.1.c0
    have v1 : w11.cell? ⟨w.heap.size + 2, 1, none⟩ = some (.int .i64 n.num) := S11.out.2.2.1.c1
    have v2 : w11.cell? ⟨w.heap.size + 2, 2, none⟩ = some (.string n.name) := S11.out.2.2.1.c2
    have v3 : w11.cell? ⟨w.heap.size + 2, 3, none⟩ = some (.slice na n.kids.length nc) := S11.out.2.2.1.c3
    have P := hid (set_call w11 _ _ _ _ h hr0 b ep n S11.out.1.val AB.out.2 S11.out.2.2.1.val (by omega) (by omega) EQ.out.2.2.2.2.2.2.2.2.1 EQ.out.2.2.2.2.2.2.2.2.2.1)
    go_wp2_with fail
    refine P.out.mono ?_
    rintro e w12 ⟨ahr0, chr0, rfl, hv, b⟩
    clear u0 u1 v0 v1 v2 v3 P
    go_upto_region 10 with (fail)
    have bb := b.alloc b.size (.cells #[.slice ahr0 hr0.nodes.length chr0, .int .i64 hr0.most] 24)
    have hnew := Kept.new 24 (S11.out.1.bel.trans (b.mono S11.out.1.bel.size)) hv.all
    have S13 := hid (And.intro (S11.out.1.more bb) (And.intro (S11.out.2.1.more bb) (And.intro (S11.out.2.2.1.more bb) (And.intro (S11.out.2.2.2.1.more bb) (And.intro (S11.out.2.2.2.2.1.more bb) (And.intro (S11.out.2.2.2.2.2.1.more bb) (And.intro (S11.out.2.2.2.2.2.2.more bb) hnew)))))))
    obtain ⟨w13, hww⟩ : ∃ z, w12.alloc (.cells #[.slice ahr0 hr0.nodes.length chr0, .int .i64 hr0.most] 24) = z := ⟨_, rfl⟩
    obtain ⟨Bhr0, hXX⟩ : ∃ z, w12.heap.size = z := ⟨_, rfl⟩
    rw [hww, hXX] at S13 ⊢
    clear hww hXX bb hnew b hv S11
    have u0 : w13.cell? ⟨Bhr0, 0, none⟩ = some (.slice ahr0 hr0.nodes.length chr0) := S13.out.2.2.2.2.2.2.2.c0
    have u1 : w13.cell? ⟨Bhr0, 1, none⟩ = some (.int .i64 hr0.most) := S13.out.2.2.2.2.2.2.2.c1
    have v0 : w13.cell? ⟨w.heap.size + 1, 0, none⟩ = some (.int .i64 m.kind) := S13.out.2.1.c0
    have v1 : w13.cell? ⟨w.heap.size + 1, 1, none⟩ = some (.int .i64 m.num) := S13.out.2.1.c1
    have v2 : w13.cell? ⟨w.heap.size + 1, 2, none⟩ = some (.string m.name) := S13.out.2.1.c2
    have v3 : w13.cell? ⟨w.heap.size + 1, 3, none⟩ = some (.slice ma m.kids.length mc) := S13.out.2.1.c3
    have P := hid (set_call w13 _ _ _ _ hr0 hr a ex m S13.out.2.2.2.2.2.2.2.val AB.out.1 S13.out.2.1.val (by omega) (by omega) EQ.out.2.2.2.2.2.2.2.2.2.2.1 EQ.out.2.2.2.2.2.2.2.2.2.2.2)
    go_wp2_with fail
    refine P.out.mono ?_
    rintro e w14 ⟨ahr, chr, rfl, hv, b⟩
    clear u0 u1 v0 v1 v2 v3 P
    go_upto_region 11 with (fail)
    have bb := b.alloc b.size (.cells #[.slice ahr hr.nodes.length chr, .int .i64 hr.most] 24)
    have hnew := Kept.new 24 (S13.out.1.bel.trans (b.mono S13.out.1.bel.size)) hv.all
    have S15 := hid (And.intro (S13.out.1.more bb) (And.intro (S13.out.2.1.more bb) (And.intro (S13.out.2.2.1.more bb) (And.intro (S13.out.2.2.2.1.more bb) (And.intro (S13.out.2.2.2.2.1.more bb) (And.intro (S13.out.2.2.2.2.2.1.more bb) (And.intro (S13.out.2.2.2.2.2.2.1.more bb) (And.intro (S13.out.2.2.2.2.2.2.2.more bb) hnew))))))))
    obtain ⟨w15, hww⟩ : ∃ z, w14.alloc (.cells #[.slice ahr hr.nodes.length chr, .int .i64 hr.most] 24) = z := ⟨_, rfl⟩
    obtain ⟨Bhr, hXX⟩ : ∃ z, w14.heap.size = z := ⟨_, rfl⟩
    rw [hww, hXX] at S15 ⊢
    clear hww hXX bb hnew b hv S13
    go_cut [25] (fun s25 wx => s25 = .bool true ∧ Below w15.heap.size w15 wx)
    case first =>
      cases e0 : (a == b)
      · cases e1 : (ex != 0)
        · cases e2 : (ep != 0)
          · have hpr : hp = hr := LAW.out.2 (by simpa using e0) (by simpa using e1) (by simpa using e2)
            obtain rfl : ex = 0 := by simpa using e1
            obtain rfl : ep = 0 := by simpa using e2
            clear e1 e2
            have u0 : w15.cell? ⟨Bhp, 0, none⟩ = some (.slice ahp hp.nodes.length chp) := S15.out.2.2.2.2.2.2.1.c0
            have u1 : w15.cell? ⟨Bhp, 1, none⟩ = some (.int .i64 hp.most) := S15.out.2.2.2.2.2.2.1.c1
            have v0 : w15.cell? ⟨Bhr, 0, none⟩ = some (.slice ahr hr.nodes.length chr) := S15.out.2.2.2.2.2.2.2.2.c0
            have v1 : w15.cell? ⟨Bhr, 1, none⟩ = some (.int .i64 hr.most) := S15.out.2.2.2.2.2.2.2.2.c1
            have P' := same_any w15 _ _ _ _ hp hr S15.out.2.2.2.2.2.2.1.val S15.out.2.2.2.2.2.2.2.2.val
            rw [decide_eq_true hpr] at P'
            have P := hid P'
            clear P' hpr
            go_wp2_with fail
            refine P.out.mono ?_
            rintro e wy ⟨rfl, b⟩
            go_wp2_with fail
            go_meet
            case rel => exact ⟨rfl, b⟩
          · go_wp2_with fail
            go_meet
            case rel => exact ⟨rfl, Below.refl _ _⟩
        · go_wp2_with fail
          go_meet
          case rel => exact ⟨rfl, Below.refl _ _⟩
      · go_wp2_with fail
        go_meet
        case rel => exact ⟨rfl, Below.refl _ _⟩
    case rest =>
      obtain ⟨rfl, bx11⟩ := hcut
      have S16 := hid (And.intro (S15.out.1.more bx11) (And.intro (S15.out.2.1.more bx11) (And.intro (S15.out.2.2.1.more bx11) (And.intro (S15.out.2.2.2.1.more bx11) (And.intro (S15.out.2.2.2.2.1.more bx11) (And.intro (S15.out.2.2.2.2.2.1.more bx11) (And.intro (S15.out.2.2.2.2.2.2.1.more bx11) (And.intro (S15.out.2.2.2.2.2.2.2.1.more bx11) (S15.out.2.2.2.2.2.2.2.2.more bx11)))))))))
      clear bx11 S15 LAW EQ
      obtain ⟨w16, hw16⟩ : ∃ z, z = wc := ⟨_, rfl⟩
      subst hw16
      by_cases g1 : a < 0
      · have fg1 : decide (a ≥ 0) = false := by simp; omega
        go_wp2_with fail
        go_ret
        exact Bb.fin rfl S16.out.1.bel
      have fg1 : decide (a ≥ 0) = true := by simp; omega
      have u0 : w16.cell? ⟨w.heap.size, 0, none⟩ = some (.slice sa h.nodes.length sc) := S16.out.1.c0
      have u1 : w16.cell? ⟨w.heap.size, 1, none⟩ = some (.int .i64 h.most) := S16.out.1.c1
      obtain ⟨k, rfl⟩ : ∃ k : Nat, a = k := ⟨a.toNat, by omega⟩
      by_cases g2 : ¬ k < h.nodes.length
      · have fg2 : decide ((k : Int) < h.nodes.length) = false := by simp; omega
        go_wp2_with fail
        go_ret
        exact Bb.fin rfl S16.out.1.bel
      have fg2 : decide ((k : Int) < h.nodes.length) = true := by simp; omega
      have hlt : k < h.nodes.length := by omega
      have P13 := hid (check_any w16 _ _ h S16.out.1.val)
      go_wp2_with fail
      refine P13.out.mono ?_
      rintro e w17 ⟨rfl, b17⟩
      have K17 := hid (S16.out.1.more b17)
      clear u0 u1 P13 b17 S16
      cases hck : chkH h
      · go_wp2_with fail
        go_ret
        exact Bb.fin rfl K17.out.bel
      go_wp2_with fail
      obtain ⟨b1, o1, c1', y, sy, cy, hv1, hy', hyk, hyn, hsy, d0, d1, d2, d3⟩ := (show NSl w17 (fun _ => True) (.slice sa h.nodes.length sc) h.nodes from by obtain ⟨a, c, e, _, h⟩ := K17.out.val; cases e; exact h).at (Below.refl _ _) (k := k) hlt
      cases hv1
      obtain ⟨_, _, e, ly, _⟩ := hsy.shape
      cases e
      obtain ⟨w5, hw5⟩ : ∃ w5, w17.drew = w5 := ⟨_, rfl⟩
      have bd : Below w17.heap.size w17 w5 := by rw [← hw5]; exact (Below.refl _ _).drew
      have K5 := hid (K17.out.more bd)
      have C0 : Hid (w5.cell? ⟨w.heap.size, 0, none⟩ = some (.slice (some ⟨b1, o1, none⟩) h.nodes.length sc)) := K5.out.c0
      have C1 : Hid (w5.cell? ⟨w.heap.size, 1, none⟩ = some (.int .i64 h.most)) := K5.out.c1
      have D0 : Hid (w5.cell? ⟨b1, o1 + k * 4, none⟩ = some (.int .i64 y.kind)) := later_cell bd d0
      have D1 : Hid (w5.cell? ⟨b1, o1 + k * 4 + 1, none⟩ = some (.int .i64 y.num)) := later_cell bd d1
      have D2 : Hid (w5.cell? ⟨b1, o1 + k * 4 + 2, none⟩ = some (.string y.name)) := later_cell bd d2
      have D3 : Hid (w5.cell? ⟨b1, o1 + k * 4 + 3, none⟩ = some (.slice sy y.kids.length cy)) := later_cell bd d3
      have hyv : Hid (NVal w5 (fun _ => True) (.agg #[.int .i64 y.kind, .int .i64 y.num, .string y.name, .slice sy y.kids.length cy]) y) := ⟨sy, cy, rfl, hyk, hyn, hsy.below intGood bd⟩
      have hkids := HF.out.2 y (List.mem_of_getElem? hy')
      have hss := sets_same hck hy'
      have hkl : y.kids.length ≤ 1000000000 := Nat.le_trans hkids.1 (by decide)
      have HSS := hid hss
      clear d0 d1 d2 d3 hsy hyk hyn hy' bd K17 hss hkids
      refine (wpIn_wide (n := 9)).1 ?_
      refine wpIn_region_held (fun W => Below w5.heap.size w5 W) (by kernel_rfl) ?_
      rw [hw5]
      clear hw5
      refine wpAnyHF_takeD (i := 0) 154 (v := .agg #[.slice (some ⟨b1, o1, none⟩) h.nodes.length sc, .int .i64 h.most]) rfl rfl rfl (by kernel_rfl) (by kernel_rfl) (by kernel_rfl) (fun _ _ _ h => h) ⟨.inl ⟨rfl, fun W hW => by have m0 := later_cell hW C0.out; have m1 := later_cell hW C1.out; simp [execOp, go_sem, m0, m1]⟩, fun W => rfl⟩ (Below.refl _ _) ?_
      refine wpAnyHF_takeD (i := 1) 155 (v := .int .i64 k) rfl rfl rfl (by kernel_rfl) (by kernel_rfl) (by kernel_rfl) (fun _ _ _ h => h) ⟨.inl ⟨rfl, fun W hW => by simp [execOp, go_sem]⟩, fun W => rfl⟩ (Below.refl _ _) ?_
      refine wpAnyHF_takeD (i := 2) 156 (v := .pointer (some ⟨w.heap.size, 0, none⟩)) rfl rfl rfl (by kernel_rfl) (by kernel_rfl) (by kernel_rfl) (fun _ _ _ h => h) ⟨.inl ⟨rfl, fun W hW => by simp [execOp, go_sem]⟩, fun W => rfl⟩ (Below.refl _ _) ?_
      simp only [Act.put, List.setIfInBounds_toArray, List.set_cons_zero, List.set_cons_succ]
      refine wpAnyHF_takeD (i := 3) 157 (v := .slice (some ⟨b1, o1, none⟩) h.nodes.length sc) rfl rfl rfl (by kernel_rfl) (by kernel_rfl) (by kernel_rfl) (fun _ _ _ h => h) ⟨.inl ⟨rfl, fun W hW => by have m0 := later_cell hW C0.out; simp [execOp, go_sem, m0]⟩, fun W => rfl⟩ (Below.refl _ _) ?_
      refine wpAnyHF_takeD (i := 4) 158 (v := .int .i64 k) rfl rfl rfl (by kernel_rfl) (by kernel_rfl) (by kernel_rfl) (fun _ _ _ h => h) ⟨.inl ⟨rfl, fun W hW => by simp [execOp, go_sem]⟩, fun W => rfl⟩ (Below.refl _ _) ?_
      simp only [Act.put, List.setIfInBounds_toArray, List.set_cons_zero, List.set_cons_succ]
      refine wpAnyHF_takeD (i := 5) 159 (v := .pointer (some ⟨b1, o1 + k * 4, none⟩)) rfl rfl rfl (by kernel_rfl) (by kernel_rfl) (by kernel_rfl) (fun _ _ _ h => h) ⟨.inl ⟨rfl, fun W hW => by simp [execOp, go_sem, hlt]⟩, fun W => rfl⟩ (Below.refl _ _) ?_
      refine wpAnyHF_takeD (i := 6) 160 (v := .agg #[.int .i64 y.kind, .int .i64 y.num, .string y.name, .slice sy y.kids.length cy]) rfl rfl rfl (by kernel_rfl) (by kernel_rfl) (by kernel_rfl) (fun _ _ _ h => h) ⟨.inl ⟨rfl, fun W hW => by have m0 := later_cell hW D0.out; have m1 := later_cell hW D1.out; have m2 := later_cell hW D2.out; have m3 := later_cell hW D3.out; simp [execOp, go_sem, m0, m1, m2, m3]⟩, fun W => rfl⟩ (Below.refl _ _) ?_
      simp only [Act.put, List.setIfInBounds_toArray, List.set_cons_zero, List.set_cons_succ]
      refine wpAnyHF_two (i := 7) (j := 11) (by kernel_rfl) rfl rfl rfl rfl ?_ ?_
      · refine wpIn_callD 161 rfl (P := Try.prog) (f := 10) (args := #[.agg #[.slice (some ⟨b1, o1, none⟩) h.nodes.length sc, .int .i64 h.most], .int .i64 k, .agg #[.int .i64 y.kind, .int .i64 y.num, .string y.name, .slice sy y.kids.length cy]]) (by simp [execOp, resolve, invoke, go_sem]) ?_
        refine (set_call w5 _ _ _ _ h h k 0 y K5.out.val AB.out.1 hyv.out (by omega) hkl HSS.out.2.symm HSS.out.1.symm).mono ?_
        rintro e w6 ⟨az, cz, rfl, hvs, b6⟩
        refine ⟨_, rfl, b6, ?_⟩
        simp only [Act.put, List.setIfInBounds_toArray, List.set_cons_zero, List.set_cons_succ]
        refine wpAnyHF_takeD (i := 8) 153 (v := .tuple #[.agg #[.slice az h.nodes.length cz, .int .i64 h.most], .int .i64 0]) rfl rfl rfl (by kernel_rfl) (by kernel_rfl) (by kernel_rfl) (fun _ _ _ h => h) ⟨.inl ⟨rfl, fun W hW => by simp [execOp, go_sem]⟩, fun W => rfl⟩ b6 ?_
        refine wpAnyHF_takeD (i := 9) 162 (v := .agg #[.slice az h.nodes.length cz, .int .i64 h.most]) rfl rfl rfl (by kernel_rfl) (by kernel_rfl) (by kernel_rfl) (fun _ _ _ h => h) ⟨.inl ⟨rfl, fun W hW => by simp [execOp, go_sem]⟩, fun W => rfl⟩ b6 ?_
        refine wpAnyHF_takeD (i := 10) 163 (v := .int .i64 0) rfl rfl rfl (by kernel_rfl) (by kernel_rfl) (by kernel_rfl) (fun _ _ _ h => h) ⟨.inl ⟨rfl, fun W hW => by simp [execOp, go_sem]⟩, fun W => rfl⟩ b6 ?_
        simp only [Act.put, List.setIfInBounds_toArray, List.set_cons_zero, List.set_cons_succ]
        have b7 : Below w5.heap.size w5 (w6.alloc (.cells #[.slice none 0 0, .int .i64 0] 24)) := b6.alloc b6.size _
        refine wpAnyHF_one (i := 11) (by kernel_rfl) rfl rfl ?_
        refine wpIn_valueD 27 rfl (w' := w6.alloc (.cells #[.slice none 0 0, .int .i64 0] 24)) (v := .pointer (some ⟨w6.heap.size, 0, none⟩)) (by simp [execOp, go_sem]) ⟨b7, ?_⟩
        simp only [Act.put, List.setIfInBounds_toArray, List.set_cons_zero, List.set_cons_succ]
        have hZ : (w6.alloc (.cells #[.slice none 0 0, .int .i64 0] 24)).heap[w6.heap.size]? = some (.cells #[.slice none 0 0, .int .i64 0] 24) := World.alloc_heap_new _ _
        have hvz : HVal (w6.alloc (.cells #[.slice none 0 0, .int .i64 0] 24)) (fun b => b ≠ w6.heap.size) (.agg #[.slice az h.nodes.length cz, .int .i64 h.most]) h := (hvs.weak (fun b hb _ => by omega)).below ((Below.refl _ _).alloc (Nat.le_refl _) _)
        have hZ5 : w5.heap.size ≤ w6.heap.size := b6.size
        obtain ⟨w7, hw7⟩ : ∃ z, w6.alloc (.cells #[.slice none 0 0, .int .i64 0] 24) = z := ⟨_, rfl⟩
        obtain ⟨Z, hZe⟩ : ∃ z, w6.heap.size = z := ⟨_, rfl⟩
        rw [hw7] at b7 hZ hvz ⊢
        rw [hZe] at hZ hvz hZ5 ⊢
        clear hw7 hZe b6 hvs
        have z0 : w7.cell? ⟨Z, 0, none⟩ = some (.slice none 0 0) := cell_of hZ
        have z1 : w7.cell? ⟨Z, 1, none⟩ = some (.int .i64 0) := cell_of hZ
        have hfz : ∀ i, w7.frozen? ⟨Z, i, none⟩ = false := fun i => free_of hZ
        have hbp := box_set b7 hZ5 hZ hvz (fun b _ h => h)
        refine wpAnyHF_one (i := 12) (by kernel_rfl) rfl rfl ?_
        refine wpIn_skip rfl (w' := (w7.setCell ⟨Z, 0, none⟩ (.slice az h.nodes.length cz)).setCell ⟨Z, 1, none⟩ (.int .i64 h.most)) (by simp [execOp, go_sem, z0, z1, hfz]) ⟨hbp.2.2, ?_⟩
        refine wpAnyHF_takeD (i := 13) 28 (v := .int .i64 0) rfl rfl rfl (by kernel_rfl) (by kernel_rfl) (by kernel_rfl) (fun _ _ _ h => h) ⟨.inl ⟨rfl, fun W hW => by simp [execOp, go_sem]⟩, fun W => rfl⟩ hbp.2.2 ?_
        simp only [Act.put, List.setIfInBounds_toArray, List.set_cons_zero, List.set_cons_succ]
        refine wpAnyHF_done (by kernel_rfl) ?_ _
        obtain ⟨w8, hw8⟩ : ∃ z, (w7.setCell ⟨Z, 0, none⟩ (.slice az h.nodes.length cz)).setCell ⟨Z, 1, none⟩ (.int .i64 h.most) = z := ⟨_, rfl⟩
        rw [hw8] at hbp ⊢
        have HBP := hid hbp
        have K8 := hid (K5.out.more hbp.2.2)
        have u0 : w8.cell? ⟨w.heap.size, 0, none⟩ = some (.slice (some ⟨b1, o1, none⟩) h.nodes.length sc) := K8.out.c0
        have u1 : w8.cell? ⟨w.heap.size, 1, none⟩ = some (.int .i64 h.most) := K8.out.c1
        have y0 : w8.cell? ⟨Z, 0, none⟩ = some (.slice az h.nodes.length cz) := cell_of hbp.1
        have y1 : w8.cell? ⟨Z, 1, none⟩ = some (.int .i64 h.most) := cell_of hbp.1
        have P' := same_any w8 _ _ _ _ h h hbp.2.1 K8.out.val
        rw [decide_eq_true rfl] at P'
        have P := hid P'
        clear P' hbp hw8 z0 z1 hfz hZ hvz b7 hZ5 K5 C0 C1 D0 D1 D2 D3 hyv HSS
        gi_wp2
        go_wp2_with fail
        refine P.out.mono ?_
        rintro e w9 ⟨rfl, b9⟩
        have BB := hid (K8.out.bel.trans (b9.mono K8.out.bel.size))
        clear b9 P u0 u1 y0 y1
        go_wp2_with fail
        go_ret
        exact Bb.fin rfl BB.out
      · have b6 : Below w5.heap.size w5 (w5.alloc (.cells #[.slice none 0 0, .int .i64 0] 24)) := (Below.refl _ _).alloc (Nat.le_refl _) _
        refine wpIn_valueD 27 rfl (w' := w5.alloc (.cells #[.slice none 0 0, .int .i64 0] 24)) (v := .pointer (some ⟨w5.heap.size, 0, none⟩)) (by simp [execOp, go_sem]) ⟨b6, ?_⟩
        simp only [Act.put, List.setIfInBounds_toArray, List.set_cons_zero, List.set_cons_succ]
        refine wpAnyHF_one (i := 7) (by kernel_rfl) rfl rfl ?_
        refine wpIn_callD 161 rfl (P := Try.prog) (f := 10) (args := #[.agg #[.slice (some ⟨b1, o1, none⟩) h.nodes.length sc, .int .i64 h.most], .int .i64 k, .agg #[.int .i64 y.kind, .int .i64 y.num, .string y.name, .slice sy y.kids.length cy]]) (by simp [execOp, resolve, invoke, go_sem]) ?_
        refine (set_call _ (fun b => b ≠ w5.heap.size) _ _ _ h h k 0 y ((K5.out.val.weak (fun b hb _ => by omega)).below b6) AB.out.1 (hyv.out.below b6) (by omega) hkl HSS.out.2.symm HSS.out.1.symm).mono ?_
        rintro e w7 ⟨az, cz, rfl, hvs, b67⟩
        have b7 := b6.trans (b67.mono b6.size)
        refine ⟨_, rfl, b7, ?_⟩
        simp only [Act.put, List.setIfInBounds_toArray, List.set_cons_zero, List.set_cons_succ]
        refine wpAnyHF_takeD (i := 8) 153 (v := .tuple #[.agg #[.slice az h.nodes.length cz, .int .i64 h.most], .int .i64 0]) rfl rfl rfl (by kernel_rfl) (by kernel_rfl) (by kernel_rfl) (fun _ _ _ h => h) ⟨.inl ⟨rfl, fun W hW => by simp [execOp, go_sem]⟩, fun W => rfl⟩ b7 ?_
        refine wpAnyHF_takeD (i := 9) 162 (v := .agg #[.slice az h.nodes.length cz, .int .i64 h.most]) rfl rfl rfl (by kernel_rfl) (by kernel_rfl) (by kernel_rfl) (fun _ _ _ h => h) ⟨.inl ⟨rfl, fun W hW => by simp [execOp, go_sem]⟩, fun W => rfl⟩ b7 ?_
        refine wpAnyHF_takeD (i := 10) 163 (v := .int .i64 0) rfl rfl rfl (by kernel_rfl) (by kernel_rfl) (by kernel_rfl) (fun _ _ _ h => h) ⟨.inl ⟨rfl, fun W hW => by simp [execOp, go_sem]⟩, fun W => rfl⟩ b7 ?_
        simp only [Act.put, List.setIfInBounds_toArray, List.set_cons_zero, List.set_cons_succ]
        have hZ : w7.heap[w5.heap.size]? = some (.cells #[.slice none 0 0, .int .i64 0] 24) := (b67.block _ (by simp)).trans (World.alloc_heap_new _ _)
        have hvz : HVal w7 (fun b => b ≠ w5.heap.size) (.agg #[.slice az h.nodes.length cz, .int .i64 h.most]) h := hvs.weak (fun b _ h => by rcases h with h | h; exact h; simp at h; omega)
        have hZ5 : w5.heap.size ≤ w5.heap.size := Nat.le_refl _
        clear b6 b67 hvs
        have z0 : w7.cell? ⟨w5.heap.size, 0, none⟩ = some (.slice none 0 0) := cell_of hZ
        have z1 : w7.cell? ⟨w5.heap.size, 1, none⟩ = some (.int .i64 0) := cell_of hZ
        have hfz : ∀ i, w7.frozen? ⟨w5.heap.size, i, none⟩ = false := fun i => free_of hZ
        have hbp := box_set b7 hZ5 hZ hvz (fun b _ h => h)
        refine wpAnyHF_one (i := 12) (by kernel_rfl) rfl rfl ?_
        refine wpIn_skip rfl (w' := (w7.setCell ⟨w5.heap.size, 0, none⟩ (.slice az h.nodes.length cz)).setCell ⟨w5.heap.size, 1, none⟩ (.int .i64 h.most)) (by simp [execOp, go_sem, z0, z1, hfz]) ⟨hbp.2.2, ?_⟩
        refine wpAnyHF_takeD (i := 13) 28 (v := .int .i64 0) rfl rfl rfl (by kernel_rfl) (by kernel_rfl) (by kernel_rfl) (fun _ _ _ h => h) ⟨.inl ⟨rfl, fun W hW => by simp [execOp, go_sem]⟩, fun W => rfl⟩ hbp.2.2 ?_
        simp only [Act.put, List.setIfInBounds_toArray, List.set_cons_zero, List.set_cons_succ]
        refine wpAnyHF_done (by kernel_rfl) ?_ _
        obtain ⟨w8, hw8⟩ : ∃ z, (w7.setCell ⟨w5.heap.size, 0, none⟩ (.slice az h.nodes.length cz)).setCell ⟨w5.heap.size, 1, none⟩ (.int .i64 h.most) = z := ⟨_, rfl⟩
        rw [hw8] at hbp ⊢
        have HBP := hid hbp
        have K8 := hid (K5.out.more hbp.2.2)
        have u0 : w8.cell? ⟨w.heap.size, 0, none⟩ = some (.slice (some ⟨b1, o1, none⟩) h.nodes.length sc) := K8.out.c0
        have u1 : w8.cell? ⟨w.heap.size, 1, none⟩ = some (.int .i64 h.most) := K8.out.c1
        have y0 : w8.cell? ⟨w5.heap.size, 0, none⟩ = some (.slice az h.nodes.length cz) := cell_of hbp.1
        have y1 : w8.cell? ⟨w5.heap.size, 1, none⟩ = some (.int .i64 h.most) := cell_of hbp.1
        have P' := same_any w8 _ _ _ _ h h hbp.2.1 K8.out.val
        rw [decide_eq_true rfl] at P'
        have P := hid P'
        clear P' hbp hw8 z0 z1 hfz hZ hvz b7 hZ5 K5 C0 C1 D0 D1 D2 D3 hyv HSS
        gi_wp2
        go_wp2_with fail
        refine P.out.mono ?_
        rintro e w9 ⟨rfl, b9⟩
        have BB := hid (K8.out.bel.trans (b9.mono K8.out.bel.size))
        clear b9 P u0 u1 y0 y1
        go_wp2_with fail
        go_ret
        exact Bb.fin rfl BB.out
end Go.Proofs.Ytlaebhgmkiiniaa
