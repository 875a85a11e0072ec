/- HeapStays: the walk. -/
import Derived.Test.YtlaebhgmkiiniaaHeapO
import Derived.Deep.CutRange
namespace Go.Proofs.Ytlaebhgmkiiniaa
open Go.RowKit Go.Shelf
attribute [local go_sem] Oper.semAt_some
theorem node_later {w : World} {ok ok' : Nat → Prop} {v v' : Value} {x y : Nd} (h : NVal w ok v x) (h' : NVal w ok' v' y) (e : x = y) : ∀ W, Below w.heap.size w W → Calls Try.prog 11 #[v, v'] W (Bb true W) := by
  intro W hW
  have := node_any W ok ok' v v' x y (h.below hW) (h'.below hW)
  rwa [decide_eq_true e] at this
set_option maxRecDepth 100000 in
set_option maxHeartbeats 16000000 in
theorem stays_any (v0 v1 : Value) (p : Int) (w : World) (h0 : ∃ h, HVal w (fun _ => True) v0 h) (h1 : ∃ x, NVal w (fun _ => True) v1 x) (hp : In p) :
    Calls Try.prog 3 #[v0, v1, .int .i64 p] w (Bb true w) := by
  obtain ⟨h, hh⟩ := h0
  obtain ⟨n, hn⟩ := h1
  have hh0 := hh
  have hn0 := hn
  obtain ⟨sa, sc, rfl, _, hs⟩ := hh
  obtain ⟨na, nc, rfl, _, _, hns⟩ := hn
  obtain ⟨_, _, e, l1, _⟩ := hs.shape
  cases e
  obtain ⟨_, _, e, l3, _⟩ := hns.shape
  cases e
  obtain ⟨W0, hW0⟩ : ∃ W0, (w.alloc (Obj.cells #[.slice sa h.nodes.length sc, .int .i64 h.most] 24)).alloc (Obj.cells #[.int .i64 n.kind, .int .i64 n.num, .string n.name, .slice na n.kids.length nc] 27) = W0 := ⟨_, rfl⟩
  have hb0 : Below w.heap.size w W0 := by rw [← hW0]; exact ((Below.refl _ _).alloc (Nat.le_refl _) _).alloc (by simp) _
  have K0 : Kept w W0 w.heap.size 24 sa sc h := ⟨hb0, by rw [← hW0]; exact heap_one _ _ _, hh0.below hb0⟩
  have N0 : KeptN w W0 (w.heap.size + 1) 27 na nc n := ⟨hb0, by rw [← hW0]; exact heap_two _ _ _, hn0.below hb0⟩
  have HW := hid hW0
  have S0 := hid (And.intro K0 N0)
  clear hW0 hb0 K0 N0 hh0 hn0 hs hns
  go_enter Try.func3, Try.ntmps3
  go_upto_region 1 with (fail)
  rw [HW.out]
  clear HW
  go_wp2_with fail
  refine (awake_any W0).mono ?_
  rintro e w1 ⟨rfl, b1⟩
  have S1 := hid (And.intro (S0.out.1.more b1) (S0.out.2.more b1))
  clear b1 S0
  have c0 : w1.cell? ⟨w.heap.size, 0, none⟩ = some (.slice sa h.nodes.length sc) := S1.out.1.c0
  have c1 : w1.cell? ⟨w.heap.size, 1, none⟩ = some (.int .i64 h.most) := S1.out.1.c1
  have P2 := hid (few_any w1 _ _ _ S1.out.1.val)
  go_wp2_with fail
  refine P2.out.mono ?_
  rintro e w2 ⟨rfl, b2⟩
  have S2 := hid (And.intro (S1.out.1.more b2) (S1.out.2.more b2))
  clear b2 S1 c0 c1 P2
  cases hq : fewH h
  · go_wp2_with fail
    go_ret
    exact Bb.fin rfl S2.out.1.bel
  have HF := hid (few_fits hq)
  have hn3 := HF.out.1
  have n2 : w2.cell? ⟨w.heap.size + 1, 2, none⟩ = some (.string n.name) := S2.out.2.c2
  have n3 : w2.cell? ⟨w.heap.size + 1, 3, none⟩ = some (.slice na n.kids.length nc) := S2.out.2.c3
  by_cases gnk : ¬ n.kids.length ≤ 100
  · have fgnk : decide ((n.kids.length : Int) > 100) = true := by simp; omega
    go_wp2_with fail
    go_ret
    exact Bb.fin rfl S2.out.1.bel
  have fgnk : decide ((n.kids.length : Int) > 100) = false := by simp; omega
  by_cases gns : ¬ n.name.size ≤ 100
  · have fgns : decide ((n.name.size : Int) > 100) = true := by simp; omega
    go_wp2_with fail
    go_ret
    exact Bb.fin rfl S2.out.1.bel
  have fgns : decide ((n.name.size : Int) > 100) = false := by simp; omega
  have c0 : w2.cell? ⟨w.heap.size, 0, none⟩ = some (.slice sa h.nodes.length sc) := S2.out.1.c0
  have c1 : w2.cell? ⟨w.heap.size, 1, none⟩ = some (.int .i64 h.most) := S2.out.1.c1
  have P3 := hid (check_any w2 _ _ _ S2.out.1.val)
  go_wp2_with fail
  refine P3.out.mono ?_
  rintro e w3 ⟨rfl, b3⟩
  have S3 := hid (And.intro (S2.out.1.more b3) (S2.out.2.more b3))
  clear b3 S2 c0 c1 P3 n2 n3
  cases hc : chkH h
  · go_wp2_with fail
    go_ret
    exact Bb.fin rfl S3.out.1.bel
  obtain ⟨ha, Hha⟩ : ∃ z, z = allocH h n := ⟨_, rfl⟩
  obtain ⟨ea, Hea⟩ : ∃ z, z = allocE h n := ⟨_, rfl⟩
  obtain ⟨pa, Hpa⟩ : ∃ z, z = allocP h n := ⟨_, rfl⟩
  obtain ⟨hs, Hhs⟩ : ∃ z, z = setH h p n := ⟨_, rfl⟩
  obtain ⟨es, Hes⟩ : ∃ z, z = setE h p n := ⟨_, rfl⟩
  have LA : Hid (ea = 0 → pa = h.nodes.length ∧ ha.nodes.length = h.nodes.length + 1 ∧ ha.nodes[h.nodes.length]? = some n ∧ ∀ k < h.nodes.length, ha.nodes[k]? = h.nodes[k]?) := fun h0 => by
    have h0' := Hea ▸ h0
    rw [Hha, Hpa]; exact ⟨(alloc_len h0').2, alloc_at h0'⟩
  have LS : Hid (es = 0 → ∃ q : Nat, p = q ∧ q < h.nodes.length ∧ hs.nodes.length = h.nodes.length ∧ hs.nodes[q]? = some n ∧ ∀ k : Nat, k ≠ q → hs.nodes[k]? = h.nodes[k]?) := fun h0 => by
    rw [Hhs]; exact set_at (Hes ▸ h0)
  have CK : Hid (chkH ha = true ∧ chkH hs = true) := ⟨by rw [Hha]; exact chk_alloc hc, by rw [Hhs]; exact chk_set hc⟩
  have hkl : n.kids.length ≤ 100 := by omega
  have EQ := hid (And.intro Hha (And.intro Hea (And.intro Hpa (And.intro Hhs Hes))))
  have HP := hid hp
  clear Hha Hea Hpa Hhs Hes hp gnk gns hc
  have c0 : w3.cell? ⟨w.heap.size, 0, none⟩ = some (.slice sa h.nodes.length sc) := S3.out.1.c0
  have c1 : w3.cell? ⟨w.heap.size, 1, none⟩ = some (.int .i64 h.most) := S3.out.1.c1
  have n0 : w3.cell? ⟨w.heap.size + 1, 0, none⟩ = some (.int .i64 n.kind) := S3.out.2.c0
  have n1 : w3.cell? ⟨w.heap.size + 1, 1, none⟩ = some (.int .i64 n.num) := S3.out.2.c1
  have n2 : w3.cell? ⟨w.heap.size + 1, 2, none⟩ = some (.string n.name) := S3.out.2.c2
  have n3 : w3.cell? ⟨w.heap.size + 1, 3, none⟩ = some (.slice na n.kids.length nc) := S3.out.2.c3
  have P := hid (alloc_call w3 _ _ _ _ h ha pa ea n S3.out.1.val S3.out.2.val (by omega) (by omega) EQ.out.1 EQ.out.2.1 EQ.out.2.2.1)
  go_wp2_with fail
  refine P.out.mono ?_
  rintro e w4 ⟨aha, cha, rfl, hv, b⟩
  clear c0 c1 n0 n1 n2 n3 P
  go_upto_region 5 with (fail)
  have bb := b.alloc b.size (.cells #[.slice aha ha.nodes.length cha, .int .i64 ha.most] 24)
  have hnew := Kept.new 24 (S3.out.1.bel.trans (b.mono S3.out.1.bel.size)) hv.all
  have S5 := hid (And.intro (S3.out.1.more bb) (And.intro (S3.out.2.more bb) hnew))
  obtain ⟨w5, hww⟩ : ∃ z, w4.alloc (.cells #[.slice aha ha.nodes.length cha, .int .i64 ha.most] 24) = z := ⟨_, rfl⟩
  obtain ⟨Bha, hXX⟩ : ∃ z, w4.heap.size = z := ⟨_, rfl⟩
  rw [hww, hXX] at S5 ⊢
  clear hww hXX bb hnew b hv S3
  have c0 : w5.cell? ⟨w.heap.size, 0, none⟩ = some (.slice sa h.nodes.length sc) := S5.out.1.c0
  have c1 : w5.cell? ⟨w.heap.size, 1, none⟩ = some (.int .i64 h.most) := S5.out.1.c1
  have n0 : w5.cell? ⟨w.heap.size + 1, 0, none⟩ = some (.int .i64 n.kind) := S5.out.2.1.c0
  have n1 : w5.cell? ⟨w.heap.size + 1, 1, none⟩ = some (.int .i64 n.num) := S5.out.2.1.c1
  have n2 : w5.cell? ⟨w.heap.size + 1, 2, none⟩ = some (.string n.name) := S5.out.2.1.c2
  have n3 : w5.cell? ⟨w.heap.size + 1, 3, none⟩ = some (.slice na n.kids.length nc) := S5.out.2.1.c3
  have P := hid (set_call w5 _ _ _ _ h hs p es n S5.out.1.val HP.out S5.out.2.1.val (by omega) (by omega) EQ.out.2.2.2.1 EQ.out.2.2.2.2)
  go_wp2_with fail
  refine P.out.mono ?_
  rintro e w6 ⟨ahs, chs, rfl, hv, b⟩
  clear c0 c1 n0 n1 n2 n3 P
  go_upto_region 6 with (fail)
  have bb := b.alloc b.size (.cells #[.slice ahs hs.nodes.length chs, .int .i64 hs.most] 24)
  have hnew := Kept.new 24 (S5.out.1.bel.trans (b.mono S5.out.1.bel.size)) hv.all
  have S7 := hid (And.intro (S5.out.1.more bb) (And.intro (S5.out.2.1.more bb) (And.intro (S5.out.2.2.more bb) hnew)))
  obtain ⟨w7, hww⟩ : ∃ z, w6.alloc (.cells #[.slice ahs hs.nodes.length chs, .int .i64 hs.most] 24) = z := ⟨_, rfl⟩
  obtain ⟨Bhs, hXX⟩ : ∃ z, w6.heap.size = z := ⟨_, rfl⟩
  rw [hww, hXX] at S7 ⊢
  clear hww hXX bb hnew b hv S5 EQ HP
  go_cut [13] (fun s13 wx => s13 = .bool true ∧ Below w7.heap.size w7 wx)
  case first =>
    by_cases he : ea = 0
    · subst he
      obtain ⟨rfl, hla, hxa, _⟩ := LA.out rfl
      obtain ⟨w8, hw5⟩ : ∃ z, w7.drew = z := ⟨_, rfl⟩
      have bd : Below w7.heap.size w7 w8 := by rw [← hw5]; exact (Below.refl _ _).drew
      have BD := hid bd
      have S8 := hid (And.intro (S7.out.1.more bd) (And.intro (S7.out.2.1.more bd) (And.intro (S7.out.2.2.1.more bd) (S7.out.2.2.2.more bd))))
      have C0 : Hid (w8.cell? ⟨w.heap.size, 0, none⟩ = some (.slice sa h.nodes.length sc)) := S8.out.1.c0
      have hltn : h.nodes.length < ha.nodes.length := by omega
      obtain ⟨baa, oaa, caa', yaa, saa, kaa, hvaa, hyaa, hykaa, hynaa, hsyaa, daa0, daa1, daa2, daa3⟩ := (show NSl w7 (fun _ => True) (.slice aha ha.nodes.length cha) ha.nodes from by obtain ⟨a, c, e, _, h⟩ := S7.out.2.2.1.val; cases e; exact h).at (Below.refl _ _) (k := h.nodes.length) hltn
      cases hvaa
      have Daa0 : Hid (w8.cell? ⟨baa, oaa + h.nodes.length * 4, none⟩ = some (.int .i64 yaa.kind)) := later_cell bd daa0
      have Daa1 : Hid (w8.cell? ⟨baa, oaa + h.nodes.length * 4 + 1, none⟩ = some (.int .i64 yaa.num)) := later_cell bd daa1
      have Daa2 : Hid (w8.cell? ⟨baa, oaa + h.nodes.length * 4 + 2, none⟩ = some (.string yaa.name)) := later_cell bd daa2
      have Daa3 : Hid (w8.cell? ⟨baa, oaa + h.nodes.length * 4 + 3, none⟩ = some (.slice saa yaa.kids.length kaa)) := later_cell bd daa3
      have Vaa : NVal w8 (fun _ => True) (.agg #[.int .i64 yaa.kind, .int .i64 yaa.num, .string yaa.name, .slice saa yaa.kids.length kaa]) yaa := ⟨saa, kaa, rfl, hykaa, hynaa, hsyaa.below intGood bd⟩
      clear daa0 daa1 daa2 daa3 hykaa hynaa hsyaa
      have A0 : Hid (w8.cell? ⟨Bha, 0, none⟩ = some (.slice (some ⟨baa, oaa, none⟩) ha.nodes.length cha)) := S8.out.2.2.1.c0
      have N0 : Hid (w8.cell? ⟨w.heap.size + 1, 0, none⟩ = some (.int .i64 n.kind)) := S8.out.2.1.c0
      have N1 : Hid (w8.cell? ⟨w.heap.size + 1, 1, none⟩ = some (.int .i64 n.num)) := S8.out.2.1.c1
      have N2 : Hid (w8.cell? ⟨w.heap.size + 1, 2, none⟩ = some (.string n.name)) := S8.out.2.1.c2
      have N3 : Hid (w8.cell? ⟨w.heap.size + 1, 3, none⟩ = some (.slice na n.kids.length nc)) := S8.out.2.1.c3
      obtain rfl : n = yaa := by rw [hxa] at hyaa; cases hyaa; rfl
      have HND := hid (node_later Vaa S8.out.2.1.val rfl)
      clear hyaa Vaa bd hxa
      refine (wpIn_wide (n := 9)).1 ?_
      refine wpIn_region_held (fun W => Below w8.heap.size w8 W) (by kernel_rfl) ?_
      rw [hw5]
      clear hw5
      refine wpAnyHF_takeD (i := 0) 52 (v := .int .i64 0) rfl rfl rfl (by kernel_rfl) (by kernel_rfl) (by kernel_rfl) (fun _ _ _ h => h) ⟨.inl ⟨rfl, fun W hW => by simp [execOp, go_sem]⟩, fun W => rfl⟩ (Below.refl _ _) ?_
      refine wpAnyHF_takeD (i := 1) 53 (v := .bool false) rfl rfl rfl (by kernel_rfl) (by kernel_rfl) (by kernel_rfl) (fun _ _ _ h => h) ⟨.inl ⟨rfl, fun W hW => by simp [execOp, go_sem]⟩, fun W => rfl⟩ (Below.refl _ _) ?_
      refine wpAnyHF_takeD (i := 2) 54 (v := .bool false) rfl rfl rfl (by kernel_rfl) (by kernel_rfl) (by kernel_rfl) (fun _ _ _ h => h) ⟨.inl ⟨rfl, fun W hW => by simp [execOp, go_sem]⟩, fun W => rfl⟩ (Below.refl _ _) ?_
      simp only [Act.put, List.setIfInBounds_toArray, List.set_cons_zero, List.set_cons_succ]
      refine wpAnyHF_takeD (i := 3) 55 (v := .int .i64 h.nodes.length) rfl rfl rfl (by kernel_rfl) (by kernel_rfl) (by kernel_rfl) (fun _ _ _ h => h) ⟨.inl ⟨rfl, fun W hW => by simp [execOp, go_sem]⟩, fun W => rfl⟩ (Below.refl _ _) ?_
      refine wpAnyHF_takeD (i := 4) 56 (v := .pointer (some ⟨w.heap.size, 0, none⟩)) rfl rfl rfl (by kernel_rfl) (by kernel_rfl) (by kernel_rfl) (fun _ _ _ h => h) ⟨.inl ⟨rfl, fun W hW => by simp [execOp, go_sem]⟩, fun W => rfl⟩ (Below.refl _ _) ?_
      refine wpAnyHF_takeD (i := 5) 57 (v := .slice sa h.nodes.length sc) rfl rfl rfl (by kernel_rfl) (by kernel_rfl) (by kernel_rfl) (fun _ _ _ h => h) ⟨.inl ⟨rfl, fun W hW => by have m0 := later_cell hW C0.out; simp [execOp, go_sem, m0]⟩, fun W => rfl⟩ (Below.refl _ _) ?_
      simp only [Act.put, List.setIfInBounds_toArray, List.set_cons_zero, List.set_cons_succ]
      refine wpAnyHF_takeD (i := 6) 58 (v := .int .i64 h.nodes.length) rfl rfl rfl (by kernel_rfl) (by kernel_rfl) (by kernel_rfl) (fun _ _ _ h => h) ⟨.inl ⟨rfl, fun W hW => by simp [execOp, go_sem, resolve, invoke, builtin]⟩, fun W => rfl⟩ (Below.refl _ _) ?_
      refine wpAnyHF_takeD (i := 7) 59 (v := .bool true) rfl rfl rfl (by kernel_rfl) (by kernel_rfl) (by kernel_rfl) (fun _ _ _ h => h) ⟨.inl ⟨rfl, fun W hW => by simp [execOp, go_sem]⟩, fun W => rfl⟩ (Below.refl _ _) ?_
      refine wpAnyHF_takeD (i := 8) 60 (v := .bool true) rfl rfl rfl (by kernel_rfl) (by kernel_rfl) (by kernel_rfl) (fun _ _ _ h => h) ⟨.inl ⟨rfl, fun W hW => by simp [execOp, go_sem]⟩, fun W => rfl⟩ (Below.refl _ _) ?_
      simp only [Act.put, List.setIfInBounds_toArray, List.set_cons_zero, List.set_cons_succ]
      refine wpAnyHF_takeD (i := 9) 61 (v := .pointer (some ⟨Bha, 0, none⟩)) rfl rfl rfl (by kernel_rfl) (by kernel_rfl) (by kernel_rfl) (fun _ _ _ h => h) ⟨.inl ⟨rfl, fun W hW => by simp [execOp, go_sem]⟩, fun W => rfl⟩ (Below.refl _ _) ?_
      refine wpAnyHF_takeD (i := 10) 62 (v := .slice (some ⟨baa, oaa, none⟩) ha.nodes.length cha) rfl rfl rfl (by kernel_rfl) (by kernel_rfl) (by kernel_rfl) (fun _ _ _ h => h) ⟨.inl ⟨rfl, fun W hW => by have m0 := later_cell hW A0.out; simp [execOp, go_sem, m0]⟩, fun W => rfl⟩ (Below.refl _ _) ?_
      refine wpAnyHF_takeD (i := 11) 63 (v := .int .i64 ha.nodes.length) rfl rfl rfl (by kernel_rfl) (by kernel_rfl) (by kernel_rfl) (fun _ _ _ h => h) ⟨.inl ⟨rfl, fun W hW => by simp [execOp, go_sem, resolve, invoke, builtin]⟩, fun W => rfl⟩ (Below.refl _ _) ?_
      simp only [Act.put, List.setIfInBounds_toArray, List.set_cons_zero, List.set_cons_succ]
      refine wpAnyHF_takeD (i := 12) 64 (v := .int .i64 h.nodes.length) rfl rfl rfl (by kernel_rfl) (by kernel_rfl) (by kernel_rfl) (fun _ _ _ h => h) ⟨.inl ⟨rfl, fun W hW => by simp [execOp, go_sem]⟩, fun W => rfl⟩ (Below.refl _ _) ?_
      refine wpAnyHF_takeD (i := 13) 65 (v := .int .i64 (h.nodes.length + 1)) rfl rfl rfl (by kernel_rfl) (by kernel_rfl) (by kernel_rfl) (fun _ _ _ h => h) ⟨.inl ⟨rfl, fun W hW => by simp [execOp, go_sem, wrap_succ h.nodes.length (by omega)]⟩, fun W => rfl⟩ (Below.refl _ _) ?_
      refine wpAnyHF_takeD (i := 14) 66 (v := .bool true) rfl rfl rfl (by kernel_rfl) (by kernel_rfl) (by kernel_rfl) (fun _ _ _ h => h) ⟨.inl ⟨rfl, fun W hW => by simp [execOp, go_sem, hla]⟩, fun W => rfl⟩ (Below.refl _ _) ?_
      simp only [Act.put, List.setIfInBounds_toArray, List.set_cons_zero, List.set_cons_succ]
      refine wpAnyHF_takeD (i := 15) 67 (v := .bool true) rfl rfl rfl (by kernel_rfl) (by kernel_rfl) (by kernel_rfl) (fun _ _ _ h => h) ⟨.inl ⟨rfl, fun W hW => by simp [execOp, go_sem]⟩, fun W => rfl⟩ (Below.refl _ _) ?_
      refine wpAnyHF_takeD (i := 16) 68 (v := .bool true) rfl rfl rfl (by kernel_rfl) (by kernel_rfl) (by kernel_rfl) (fun _ _ _ h => h) ⟨.inl ⟨rfl, fun W hW => by simp [execOp, go_sem]⟩, fun W => rfl⟩ (Below.refl _ _) ?_
      refine wpAnyHF_takeD (i := 17) 69 (v := .pointer (some ⟨Bha, 0, none⟩)) rfl rfl rfl (by kernel_rfl) (by kernel_rfl) (by kernel_rfl) (fun _ _ _ h => h) ⟨.inl ⟨rfl, fun W hW => by simp [execOp, go_sem]⟩, fun W => rfl⟩ (Below.refl _ _) ?_
      simp only [Act.put, List.setIfInBounds_toArray, List.set_cons_zero, List.set_cons_succ]
      refine wpAnyHF_takeD (i := 18) 70 (v := .slice (some ⟨baa, oaa, none⟩) ha.nodes.length cha) rfl rfl rfl (by kernel_rfl) (by kernel_rfl) (by kernel_rfl) (fun _ _ _ h => h) ⟨.inl ⟨rfl, fun W hW => by have m0 := later_cell hW A0.out; simp [execOp, go_sem, m0]⟩, fun W => rfl⟩ (Below.refl _ _) ?_
      refine wpAnyHF_takeD (i := 19) 71 (v := .int .i64 h.nodes.length) rfl rfl rfl (by kernel_rfl) (by kernel_rfl) (by kernel_rfl) (fun _ _ _ h => h) ⟨.inl ⟨rfl, fun W hW => by simp [execOp, go_sem]⟩, fun W => rfl⟩ (Below.refl _ _) ?_
      refine wpAnyHF_takeD (i := 20) 72 (v := .pointer (some ⟨baa, oaa + h.nodes.length * 4, none⟩)) rfl rfl rfl (by kernel_rfl) (by kernel_rfl) (by kernel_rfl) (fun _ _ _ h => h) ⟨.inl ⟨rfl, fun W hW => by simp [execOp, go_sem, hltn]⟩, fun W => rfl⟩ (Below.refl _ _) ?_
      simp only [Act.put, List.setIfInBounds_toArray, List.set_cons_zero, List.set_cons_succ]
      refine wpAnyHF_takeD (i := 21) 73 (v := .agg #[.int .i64 n.kind, .int .i64 n.num, .string n.name, .slice saa n.kids.length kaa]) rfl rfl rfl (by kernel_rfl) (by kernel_rfl) (by kernel_rfl) (fun _ _ _ h => h) ⟨.inl ⟨rfl, fun W hW => by have m0 := later_cell hW Daa0.out; have m1 := later_cell hW Daa1.out; have m2 := later_cell hW Daa2.out; have m3 := later_cell hW Daa3.out; simp [execOp, go_sem, m0, m1, m2, m3]⟩, fun W => rfl⟩ (Below.refl _ _) ?_
      refine wpAnyHF_takeD (i := 22) 74 (v := .agg #[.int .i64 n.kind, .int .i64 n.num, .string n.name, .slice na n.kids.length nc]) rfl rfl rfl (by kernel_rfl) (by kernel_rfl) (by kernel_rfl) (fun _ _ _ h => h) ⟨.inl ⟨rfl, fun W hW => by have m0 := later_cell hW N0.out; have m1 := later_cell hW N1.out; have m2 := later_cell hW N2.out; have m3 := later_cell hW N3.out; simp [execOp, go_sem, m0, m1, m2, m3]⟩, fun W => rfl⟩ (Below.refl _ _) ?_
      refine wpAnyHF_one (i := 23) (by kernel_rfl) rfl rfl ?_
      refine wpIn_callD 75 rfl (P := Try.prog) (f := 11) (args := #[.agg #[.int .i64 n.kind, .int .i64 n.num, .string n.name, .slice saa n.kids.length kaa], .agg #[.int .i64 n.kind, .int .i64 n.num, .string n.name, .slice na n.kids.length nc]]) (by simp [execOp, resolve, invoke, go_sem]) ?_
      refine (HND.out _ (Below.refl _ _)).mono ?_
      rintro e w9 ⟨rfl, b9'⟩
      have b9 := b9'
      clear b9'
      refine ⟨_, rfl, b9, ?_⟩
      simp only [Act.put, List.setIfInBounds_toArray, List.set_cons_zero, List.set_cons_succ]
      refine wpAnyHF_takeD (i := 24) 76 (v := .bool true) rfl rfl rfl (by kernel_rfl) (by kernel_rfl) (by kernel_rfl) (fun _ _ _ h => h) ⟨.inl ⟨rfl, fun W hW => by simp [execOp, go_sem]⟩, fun W => rfl⟩ b9 ?_
      refine wpAnyHF_takeD (i := 25) 77 (v := .bool true) rfl rfl rfl (by kernel_rfl) (by kernel_rfl) (by kernel_rfl) (fun _ _ _ h => h) ⟨.inl ⟨rfl, fun W hW => by simp [execOp, go_sem]⟩, fun W => rfl⟩ b9 ?_
      refine wpAnyHF_takeD (i := 26) 13 (v := .bool true) rfl rfl rfl (by kernel_rfl) (by kernel_rfl) (by kernel_rfl) (fun _ _ _ h => h) ⟨.inl ⟨rfl, fun W hW => by simp [execOp, go_sem]⟩, fun W => rfl⟩ b9 ?_
      simp only [Act.put, List.setIfInBounds_toArray, List.set_cons_zero, List.set_cons_succ]
      refine wpAnyHF_done (by kernel_rfl) ?_ _
      gi_wp2
      go_wp2_with fail
      go_meet
      case rel => exact ⟨rfl, BD.out.trans (b9.mono BD.out.size)⟩
    · have hne : (ea != 0) = true := by simpa using he
      obtain ⟨w8, hw5⟩ : ∃ z, w7.drew = z := ⟨_, rfl⟩
      have bd : Below w7.heap.size w7 w8 := by rw [← hw5]; exact (Below.refl _ _).drew
      have BD := hid bd
      refine (wpIn_wide (n := 9)).1 ?_
      refine wpIn_region_held (fun W => Below w8.heap.size w8 W) (by kernel_rfl) ?_
      rw [hw5]
      clear hw5
      refine wpAnyHF_takeD (i := 0) 52 (v := .int .i64 ea) rfl rfl rfl (by kernel_rfl) (by kernel_rfl) (by kernel_rfl) (fun _ _ _ h => h) ⟨.inl ⟨rfl, fun W hW => by simp [execOp, go_sem]⟩, fun W => rfl⟩ (Below.refl _ _) ?_
      refine wpAnyHF_takeD (i := 1) 53 (v := .bool true) rfl rfl rfl (by kernel_rfl) (by kernel_rfl) (by kernel_rfl) (fun _ _ _ h => h) ⟨.inl ⟨rfl, fun W hW => by simp [execOp, go_sem, hne]⟩, fun W => rfl⟩ (Below.refl _ _) ?_
      refine wpAnyHF_takeD (i := 2) 54 (v := .bool true) rfl rfl rfl (by kernel_rfl) (by kernel_rfl) (by kernel_rfl) (fun _ _ _ h => h) ⟨.inl ⟨rfl, fun W hW => by simp [execOp, go_sem]⟩, fun W => rfl⟩ (Below.refl _ _) ?_
      simp only [Act.put, List.setIfInBounds_toArray, List.set_cons_zero, List.set_cons_succ]
      refine wpAnyHF_takeD (i := 3) 55 (v := undef) rfl rfl rfl (by kernel_rfl) (by kernel_rfl) (by kernel_rfl) (fun _ _ _ h => h) ⟨.inr ⟨rfl, rfl⟩, fun W => rfl⟩ (Below.refl _ _) ?_
      refine wpAnyHF_takeD (i := 4) 56 (v := undef) rfl rfl rfl (by kernel_rfl) (by kernel_rfl) (by kernel_rfl) (fun _ _ _ h => h) ⟨.inr ⟨rfl, rfl⟩, fun W => rfl⟩ (Below.refl _ _) ?_
      refine wpAnyHF_takeD (i := 5) 57 (v := undef) rfl rfl rfl (by kernel_rfl) (by kernel_rfl) (by kernel_rfl) (fun _ _ _ h => h) ⟨.inr ⟨rfl, rfl⟩, fun W => rfl⟩ (Below.refl _ _) ?_
      simp only [Act.put, List.setIfInBounds_toArray, List.set_cons_zero, List.set_cons_succ]
      refine wpAnyHF_takeD (i := 6) 58 (v := undef) rfl rfl rfl (by kernel_rfl) (by kernel_rfl) (by kernel_rfl) (fun _ _ _ h => h) ⟨.inr ⟨rfl, rfl⟩, fun W => rfl⟩ (Below.refl _ _) ?_
      refine wpAnyHF_takeD (i := 7) 59 (v := undef) rfl rfl rfl (by kernel_rfl) (by kernel_rfl) (by kernel_rfl) (fun _ _ _ h => h) ⟨.inr ⟨rfl, rfl⟩, fun W => rfl⟩ (Below.refl _ _) ?_
      refine wpAnyHF_takeD (i := 8) 60 (v := undef) rfl rfl rfl (by kernel_rfl) (by kernel_rfl) (by kernel_rfl) (fun _ _ _ h => h) ⟨.inr ⟨rfl, rfl⟩, fun W => rfl⟩ (Below.refl _ _) ?_
      simp only [Act.put, List.setIfInBounds_toArray, List.set_cons_zero, List.set_cons_succ]
      refine wpAnyHF_takeD (i := 9) 61 (v := undef) rfl rfl rfl (by kernel_rfl) (by kernel_rfl) (by kernel_rfl) (fun _ _ _ h => h) ⟨.inr ⟨rfl, rfl⟩, fun W => rfl⟩ (Below.refl _ _) ?_
      refine wpAnyHF_takeD (i := 10) 62 (v := undef) rfl rfl rfl (by kernel_rfl) (by kernel_rfl) (by kernel_rfl) (fun _ _ _ h => h) ⟨.inr ⟨rfl, rfl⟩, fun W => rfl⟩ (Below.refl _ _) ?_
      refine wpAnyHF_takeD (i := 11) 63 (v := undef) rfl rfl rfl (by kernel_rfl) (by kernel_rfl) (by kernel_rfl) (fun _ _ _ h => h) ⟨.inr ⟨rfl, rfl⟩, fun W => rfl⟩ (Below.refl _ _) ?_
      simp only [Act.put, List.setIfInBounds_toArray, List.set_cons_zero, List.set_cons_succ]
      refine wpAnyHF_takeD (i := 12) 64 (v := undef) rfl rfl rfl (by kernel_rfl) (by kernel_rfl) (by kernel_rfl) (fun _ _ _ h => h) ⟨.inr ⟨rfl, rfl⟩, fun W => rfl⟩ (Below.refl _ _) ?_
      refine wpAnyHF_takeD (i := 13) 65 (v := undef) rfl rfl rfl (by kernel_rfl) (by kernel_rfl) (by kernel_rfl) (fun _ _ _ h => h) ⟨.inr ⟨rfl, rfl⟩, fun W => rfl⟩ (Below.refl _ _) ?_
      refine wpAnyHF_takeD (i := 14) 66 (v := undef) rfl rfl rfl (by kernel_rfl) (by kernel_rfl) (by kernel_rfl) (fun _ _ _ h => h) ⟨.inr ⟨rfl, rfl⟩, fun W => rfl⟩ (Below.refl _ _) ?_
      simp only [Act.put, List.setIfInBounds_toArray, List.set_cons_zero, List.set_cons_succ]
      refine wpAnyHF_takeD (i := 15) 67 (v := undef) rfl rfl rfl (by kernel_rfl) (by kernel_rfl) (by kernel_rfl) (fun _ _ _ h => h) ⟨.inr ⟨rfl, rfl⟩, fun W => rfl⟩ (Below.refl _ _) ?_
      refine wpAnyHF_takeD (i := 16) 68 (v := undef) rfl rfl rfl (by kernel_rfl) (by kernel_rfl) (by kernel_rfl) (fun _ _ _ h => h) ⟨.inr ⟨rfl, rfl⟩, fun W => rfl⟩ (Below.refl _ _) ?_
      refine wpAnyHF_takeD (i := 17) 69 (v := undef) rfl rfl rfl (by kernel_rfl) (by kernel_rfl) (by kernel_rfl) (fun _ _ _ h => h) ⟨.inr ⟨rfl, rfl⟩, fun W => rfl⟩ (Below.refl _ _) ?_
      simp only [Act.put, List.setIfInBounds_toArray, List.set_cons_zero, List.set_cons_succ]
      refine wpAnyHF_takeD (i := 18) 70 (v := undef) rfl rfl rfl (by kernel_rfl) (by kernel_rfl) (by kernel_rfl) (fun _ _ _ h => h) ⟨.inr ⟨rfl, rfl⟩, fun W => rfl⟩ (Below.refl _ _) ?_
      refine wpAnyHF_takeD (i := 19) 71 (v := undef) rfl rfl rfl (by kernel_rfl) (by kernel_rfl) (by kernel_rfl) (fun _ _ _ h => h) ⟨.inr ⟨rfl, rfl⟩, fun W => rfl⟩ (Below.refl _ _) ?_
      refine wpAnyHF_takeD (i := 20) 72 (v := undef) rfl rfl rfl (by kernel_rfl) (by kernel_rfl) (by kernel_rfl) (fun _ _ _ h => h) ⟨.inr ⟨rfl, rfl⟩, fun W => rfl⟩ (Below.refl _ _) ?_
      simp only [Act.put, List.setIfInBounds_toArray, List.set_cons_zero, List.set_cons_succ]
      refine wpAnyHF_takeD (i := 21) 73 (v := undef) rfl rfl rfl (by kernel_rfl) (by kernel_rfl) (by kernel_rfl) (fun _ _ _ h => h) ⟨.inr ⟨rfl, rfl⟩, fun W => rfl⟩ (Below.refl _ _) ?_
      refine wpAnyHF_takeD (i := 22) 74 (v := undef) rfl rfl rfl (by kernel_rfl) (by kernel_rfl) (by kernel_rfl) (fun _ _ _ h => h) ⟨.inr ⟨rfl, rfl⟩, fun W => rfl⟩ (Below.refl _ _) ?_
      simp only [Act.put, List.setIfInBounds_toArray, List.set_cons_zero, List.set_cons_succ]
      refine wpAnyHF_off 75 (i := 23) (by kernel_rfl) rfl rfl rfl (fun _ => trivial) (Below.refl _ _) ?_
      simp only [Act.put, List.setIfInBounds_toArray, List.set_cons_zero, List.set_cons_succ]
      refine wpAnyHF_takeD (i := 24) 76 (v := undef) rfl rfl rfl (by kernel_rfl) (by kernel_rfl) (by kernel_rfl) (fun _ _ _ h => h) ⟨.inr ⟨rfl, rfl⟩, fun W => rfl⟩ (Below.refl _ _) ?_
      refine wpAnyHF_takeD (i := 25) 77 (v := .bool true) rfl rfl rfl (by kernel_rfl) (by kernel_rfl) (by kernel_rfl) (fun _ _ _ h => h) ⟨.inl ⟨rfl, fun W hW => by simp [execOp, go_sem]⟩, fun W => rfl⟩ (Below.refl _ _) ?_
      refine wpAnyHF_takeD (i := 26) 13 (v := .bool true) rfl rfl rfl (by kernel_rfl) (by kernel_rfl) (by kernel_rfl) (fun _ _ _ h => h) ⟨.inl ⟨rfl, fun W hW => by simp [execOp, go_sem]⟩, fun W => rfl⟩ (Below.refl _ _) ?_
      simp only [Act.put, List.setIfInBounds_toArray, List.set_cons_zero, List.set_cons_succ]
      refine wpAnyHF_done (by kernel_rfl) ?_ _
      gi_wp2
      go_wp2_with fail
      go_meet
      case rel => exact ⟨rfl, BD.out⟩
  case rest =>
    obtain ⟨rfl, bx7⟩ := hcut
    have S8 := hid (And.intro (S7.out.1.more bx7) (And.intro (S7.out.2.1.more bx7) (And.intro (S7.out.2.2.1.more bx7) (S7.out.2.2.2.more bx7))))
    clear bx7 S7
    obtain ⟨w8, hw8⟩ : ∃ z, z = wc := ⟨_, rfl⟩
    subst hw8
    go_upto_region 7 with (fail)
    go_cut [14] (fun s14 wx => s14 = .bool true ∧ Below w8.heap.size w8 wx)
    case first =>
      by_cases he : es = 0
      · subst he
        obtain ⟨q, rfl, hq, hls, hxs, _⟩ := LS.out rfl
        obtain ⟨w9, hw5⟩ : ∃ z, w8.drew = z := ⟨_, rfl⟩
        have bd : Below w8.heap.size w8 w9 := by rw [← hw5]; exact (Below.refl _ _).drew
        have BD := hid bd
        have S9 := hid (And.intro (S8.out.1.more bd) (And.intro (S8.out.2.1.more bd) (And.intro (S8.out.2.2.1.more bd) (S8.out.2.2.2.more bd))))
        have C0 : Hid (w9.cell? ⟨w.heap.size, 0, none⟩ = some (.slice sa h.nodes.length sc)) := S9.out.1.c0
        have hltq : q < hs.nodes.length := by omega
        obtain ⟨bss, oss, css', yss, sss, kss, hvss, hyss, hykss, hynss, hsyss, dss0, dss1, dss2, dss3⟩ := (show NSl w8 (fun _ => True) (.slice ahs hs.nodes.length chs) hs.nodes from by obtain ⟨a, c, e, _, h⟩ := S8.out.2.2.2.val; cases e; exact h).at (Below.refl _ _) (k := q) hltq
        cases hvss
        have Dss0 : Hid (w9.cell? ⟨bss, oss + q * 4, none⟩ = some (.int .i64 yss.kind)) := later_cell bd dss0
        have Dss1 : Hid (w9.cell? ⟨bss, oss + q * 4 + 1, none⟩ = some (.int .i64 yss.num)) := later_cell bd dss1
        have Dss2 : Hid (w9.cell? ⟨bss, oss + q * 4 + 2, none⟩ = some (.string yss.name)) := later_cell bd dss2
        have Dss3 : Hid (w9.cell? ⟨bss, oss + q * 4 + 3, none⟩ = some (.slice sss yss.kids.length kss)) := later_cell bd dss3
        have Vss : NVal w9 (fun _ => True) (.agg #[.int .i64 yss.kind, .int .i64 yss.num, .string yss.name, .slice sss yss.kids.length kss]) yss := ⟨sss, kss, rfl, hykss, hynss, hsyss.below intGood bd⟩
        clear dss0 dss1 dss2 dss3 hykss hynss hsyss
        have A0 : Hid (w9.cell? ⟨Bhs, 0, none⟩ = some (.slice (some ⟨bss, oss, none⟩) hs.nodes.length chs)) := S9.out.2.2.2.c0
        have N0 : Hid (w9.cell? ⟨w.heap.size + 1, 0, none⟩ = some (.int .i64 n.kind)) := S9.out.2.1.c0
        have N1 : Hid (w9.cell? ⟨w.heap.size + 1, 1, none⟩ = some (.int .i64 n.num)) := S9.out.2.1.c1
        have N2 : Hid (w9.cell? ⟨w.heap.size + 1, 2, none⟩ = some (.string n.name)) := S9.out.2.1.c2
        have N3 : Hid (w9.cell? ⟨w.heap.size + 1, 3, none⟩ = some (.slice na n.kids.length nc)) := S9.out.2.1.c3
        obtain rfl : n = yss := by rw [hxs] at hyss; cases hyss; rfl
        have HND := hid (node_later Vss S9.out.2.1.val rfl)
        clear hyss Vss bd hxs
        refine (wpIn_wide (n := 9)).1 ?_
        refine wpIn_region_held (fun W => Below w9.heap.size w9 W) (by kernel_rfl) ?_
        rw [hw5]
        clear hw5
        refine wpAnyHF_takeD (i := 0) 78 (v := .int .i64 0) rfl rfl rfl (by kernel_rfl) (by kernel_rfl) (by kernel_rfl) (fun _ _ _ h => h) ⟨.inl ⟨rfl, fun W hW => by simp [execOp, go_sem]⟩, fun W => rfl⟩ (Below.refl _ _) ?_
        refine wpAnyHF_takeD (i := 1) 79 (v := .bool false) rfl rfl rfl (by kernel_rfl) (by kernel_rfl) (by kernel_rfl) (fun _ _ _ h => h) ⟨.inl ⟨rfl, fun W hW => by simp [execOp, go_sem]⟩, fun W => rfl⟩ (Below.refl _ _) ?_
        refine wpAnyHF_takeD (i := 2) 80 (v := .bool false) rfl rfl rfl (by kernel_rfl) (by kernel_rfl) (by kernel_rfl) (fun _ _ _ h => h) ⟨.inl ⟨rfl, fun W hW => by simp [execOp, go_sem]⟩, fun W => rfl⟩ (Below.refl _ _) ?_
        simp only [Act.put, List.setIfInBounds_toArray, List.set_cons_zero, List.set_cons_succ]
        refine wpAnyHF_takeD (i := 3) 81 (v := .pointer (some ⟨Bhs, 0, none⟩)) rfl rfl rfl (by kernel_rfl) (by kernel_rfl) (by kernel_rfl) (fun _ _ _ h => h) ⟨.inl ⟨rfl, fun W hW => by simp [execOp, go_sem]⟩, fun W => rfl⟩ (Below.refl _ _) ?_
        refine wpAnyHF_takeD (i := 4) 82 (v := .slice (some ⟨bss, oss, none⟩) hs.nodes.length chs) rfl rfl rfl (by kernel_rfl) (by kernel_rfl) (by kernel_rfl) (fun _ _ _ h => h) ⟨.inl ⟨rfl, fun W hW => by have m0 := later_cell hW A0.out; simp [execOp, go_sem, m0]⟩, fun W => rfl⟩ (Below.refl _ _) ?_
        refine wpAnyHF_takeD (i := 5) 83 (v := .int .i64 hs.nodes.length) rfl rfl rfl (by kernel_rfl) (by kernel_rfl) (by kernel_rfl) (fun _ _ _ h => h) ⟨.inl ⟨rfl, fun W hW => by simp [execOp, go_sem, resolve, invoke, builtin]⟩, fun W => rfl⟩ (Below.refl _ _) ?_
        simp only [Act.put, List.setIfInBounds_toArray, List.set_cons_zero, List.set_cons_succ]
        refine wpAnyHF_takeD (i := 6) 84 (v := .pointer (some ⟨w.heap.size, 0, none⟩)) rfl rfl rfl (by kernel_rfl) (by kernel_rfl) (by kernel_rfl) (fun _ _ _ h => h) ⟨.inl ⟨rfl, fun W hW => by simp [execOp, go_sem]⟩, fun W => rfl⟩ (Below.refl _ _) ?_
        refine wpAnyHF_takeD (i := 7) 85 (v := .slice sa h.nodes.length sc) rfl rfl rfl (by kernel_rfl) (by kernel_rfl) (by kernel_rfl) (fun _ _ _ h => h) ⟨.inl ⟨rfl, fun W hW => by have m0 := later_cell hW C0.out; simp [execOp, go_sem, m0]⟩, fun W => rfl⟩ (Below.refl _ _) ?_
        refine wpAnyHF_takeD (i := 8) 86 (v := .int .i64 h.nodes.length) rfl rfl rfl (by kernel_rfl) (by kernel_rfl) (by kernel_rfl) (fun _ _ _ h => h) ⟨.inl ⟨rfl, fun W hW => by simp [execOp, go_sem, resolve, invoke, builtin]⟩, fun W => rfl⟩ (Below.refl _ _) ?_
        simp only [Act.put, List.setIfInBounds_toArray, List.set_cons_zero, List.set_cons_succ]
        refine wpAnyHF_takeD (i := 9) 87 (v := .bool true) rfl rfl rfl (by kernel_rfl) (by kernel_rfl) (by kernel_rfl) (fun _ _ _ h => h) ⟨.inl ⟨rfl, fun W hW => by simp [execOp, go_sem, hls]⟩, fun W => rfl⟩ (Below.refl _ _) ?_
        refine wpAnyHF_takeD (i := 10) 88 (v := .bool true) rfl rfl rfl (by kernel_rfl) (by kernel_rfl) (by kernel_rfl) (fun _ _ _ h => h) ⟨.inl ⟨rfl, fun W hW => by simp [execOp, go_sem]⟩, fun W => rfl⟩ (Below.refl _ _) ?_
        refine wpAnyHF_takeD (i := 11) 89 (v := .pointer (some ⟨Bhs, 0, none⟩)) rfl rfl rfl (by kernel_rfl) (by kernel_rfl) (by kernel_rfl) (fun _ _ _ h => h) ⟨.inl ⟨rfl, fun W hW => by simp [execOp, go_sem]⟩, fun W => rfl⟩ (Below.refl _ _) ?_
        simp only [Act.put, List.setIfInBounds_toArray, List.set_cons_zero, List.set_cons_succ]
        refine wpAnyHF_takeD (i := 12) 90 (v := .slice (some ⟨bss, oss, none⟩) hs.nodes.length chs) rfl rfl rfl (by kernel_rfl) (by kernel_rfl) (by kernel_rfl) (fun _ _ _ h => h) ⟨.inl ⟨rfl, fun W hW => by have m0 := later_cell hW A0.out; simp [execOp, go_sem, m0]⟩, fun W => rfl⟩ (Below.refl _ _) ?_
        refine wpAnyHF_takeD (i := 13) 91 (v := .int .i64 q) rfl rfl rfl (by kernel_rfl) (by kernel_rfl) (by kernel_rfl) (fun _ _ _ h => h) ⟨.inl ⟨rfl, fun W hW => by simp [execOp, go_sem]⟩, fun W => rfl⟩ (Below.refl _ _) ?_
        refine wpAnyHF_takeD (i := 14) 92 (v := .pointer (some ⟨bss, oss + q * 4, none⟩)) rfl rfl rfl (by kernel_rfl) (by kernel_rfl) (by kernel_rfl) (fun _ _ _ h => h) ⟨.inl ⟨rfl, fun W hW => by simp [execOp, go_sem, hltq]⟩, fun W => rfl⟩ (Below.refl _ _) ?_
        simp only [Act.put, List.setIfInBounds_toArray, List.set_cons_zero, List.set_cons_succ]
        refine wpAnyHF_takeD (i := 15) 93 (v := .agg #[.int .i64 n.kind, .int .i64 n.num, .string n.name, .slice sss n.kids.length kss]) rfl rfl rfl (by kernel_rfl) (by kernel_rfl) (by kernel_rfl) (fun _ _ _ h => h) ⟨.inl ⟨rfl, fun W hW => by have m0 := later_cell hW Dss0.out; have m1 := later_cell hW Dss1.out; have m2 := later_cell hW Dss2.out; have m3 := later_cell hW Dss3.out; simp [execOp, go_sem, m0, m1, m2, m3]⟩, fun W => rfl⟩ (Below.refl _ _) ?_
        refine wpAnyHF_takeD (i := 16) 94 (v := .agg #[.int .i64 n.kind, .int .i64 n.num, .string n.name, .slice na n.kids.length nc]) rfl rfl rfl (by kernel_rfl) (by kernel_rfl) (by kernel_rfl) (fun _ _ _ h => h) ⟨.inl ⟨rfl, fun W hW => by have m0 := later_cell hW N0.out; have m1 := later_cell hW N1.out; have m2 := later_cell hW N2.out; have m3 := later_cell hW N3.out; simp [execOp, go_sem, m0, m1, m2, m3]⟩, fun W => rfl⟩ (Below.refl _ _) ?_
        refine wpAnyHF_one (i := 17) (by kernel_rfl) rfl rfl ?_
        refine wpIn_callD 95 rfl (P := Try.prog) (f := 11) (args := #[.agg #[.int .i64 n.kind, .int .i64 n.num, .string n.name, .slice sss n.kids.length kss], .agg #[.int .i64 n.kind, .int .i64 n.num, .string n.name, .slice na n.kids.length nc]]) (by simp [execOp, resolve, invoke, go_sem]) ?_
        refine (HND.out _ (Below.refl _ _)).mono ?_
        rintro e w10 ⟨rfl, b10'⟩
        have b10 := b10'
        clear b10'
        refine ⟨_, rfl, b10, ?_⟩
        simp only [Act.put, List.setIfInBounds_toArray, List.set_cons_zero, List.set_cons_succ]
        refine wpAnyHF_takeD (i := 18) 96 (v := .bool true) rfl rfl rfl (by kernel_rfl) (by kernel_rfl) (by kernel_rfl) (fun _ _ _ h => h) ⟨.inl ⟨rfl, fun W hW => by simp [execOp, go_sem]⟩, fun W => rfl⟩ b10 ?_
        refine wpAnyHF_takeD (i := 19) 97 (v := .bool true) rfl rfl rfl (by kernel_rfl) (by kernel_rfl) (by kernel_rfl) (fun _ _ _ h => h) ⟨.inl ⟨rfl, fun W hW => by simp [execOp, go_sem]⟩, fun W => rfl⟩ b10 ?_
        refine wpAnyHF_takeD (i := 20) 14 (v := .bool true) rfl rfl rfl (by kernel_rfl) (by kernel_rfl) (by kernel_rfl) (fun _ _ _ h => h) ⟨.inl ⟨rfl, fun W hW => by simp [execOp, go_sem]⟩, fun W => rfl⟩ b10 ?_
        simp only [Act.put, List.setIfInBounds_toArray, List.set_cons_zero, List.set_cons_succ]
        refine wpAnyHF_done (by kernel_rfl) ?_ _
        gi_wp2
        go_wp2_with fail
        go_meet
        case rel => exact ⟨rfl, BD.out.trans (b10.mono BD.out.size)⟩
      · have hne : (es != 0) = true := by simpa using he
        obtain ⟨w9, hw5⟩ : ∃ z, w8.drew = z := ⟨_, rfl⟩
        have bd : Below w8.heap.size w8 w9 := by rw [← hw5]; exact (Below.refl _ _).drew
        have BD := hid bd
        refine (wpIn_wide (n := 9)).1 ?_
        refine wpIn_region_held (fun W => Below w9.heap.size w9 W) (by kernel_rfl) ?_
        rw [hw5]
        clear hw5
        refine wpAnyHF_takeD (i := 0) 78 (v := .int .i64 es) rfl rfl rfl (by kernel_rfl) (by kernel_rfl) (by kernel_rfl) (fun _ _ _ h => h) ⟨.inl ⟨rfl, fun W hW => by simp [execOp, go_sem]⟩, fun W => rfl⟩ (Below.refl _ _) ?_
        refine wpAnyHF_takeD (i := 1) 79 (v := .bool true) rfl rfl rfl (by kernel_rfl) (by kernel_rfl) (by kernel_rfl) (fun _ _ _ h => h) ⟨.inl ⟨rfl, fun W hW => by simp [execOp, go_sem, hne]⟩, fun W => rfl⟩ (Below.refl _ _) ?_
        refine wpAnyHF_takeD (i := 2) 80 (v := .bool true) rfl rfl rfl (by kernel_rfl) (by kernel_rfl) (by kernel_rfl) (fun _ _ _ h => h) ⟨.inl ⟨rfl, fun W hW => by simp [execOp, go_sem]⟩, fun W => rfl⟩ (Below.refl _ _) ?_
        simp only [Act.put, List.setIfInBounds_toArray, List.set_cons_zero, List.set_cons_succ]
        refine wpAnyHF_takeD (i := 3) 81 (v := undef) rfl rfl rfl (by kernel_rfl) (by kernel_rfl) (by kernel_rfl) (fun _ _ _ h => h) ⟨.inr ⟨rfl, rfl⟩, fun W => rfl⟩ (Below.refl _ _) ?_
        refine wpAnyHF_takeD (i := 4) 82 (v := undef) rfl rfl rfl (by kernel_rfl) (by kernel_rfl) (by kernel_rfl) (fun _ _ _ h => h) ⟨.inr ⟨rfl, rfl⟩, fun W => rfl⟩ (Below.refl _ _) ?_
        refine wpAnyHF_takeD (i := 5) 83 (v := undef) rfl rfl rfl (by kernel_rfl) (by kernel_rfl) (by kernel_rfl) (fun _ _ _ h => h) ⟨.inr ⟨rfl, rfl⟩, fun W => rfl⟩ (Below.refl _ _) ?_
        simp only [Act.put, List.setIfInBounds_toArray, List.set_cons_zero, List.set_cons_succ]
        refine wpAnyHF_takeD (i := 6) 84 (v := undef) rfl rfl rfl (by kernel_rfl) (by kernel_rfl) (by kernel_rfl) (fun _ _ _ h => h) ⟨.inr ⟨rfl, rfl⟩, fun W => rfl⟩ (Below.refl _ _) ?_
        refine wpAnyHF_takeD (i := 7) 85 (v := undef) rfl rfl rfl (by kernel_rfl) (by kernel_rfl) (by kernel_rfl) (fun _ _ _ h => h) ⟨.inr ⟨rfl, rfl⟩, fun W => rfl⟩ (Below.refl _ _) ?_
        refine wpAnyHF_takeD (i := 8) 86 (v := undef) rfl rfl rfl (by kernel_rfl) (by kernel_rfl) (by kernel_rfl) (fun _ _ _ h => h) ⟨.inr ⟨rfl, rfl⟩, fun W => rfl⟩ (Below.refl _ _) ?_
        simp only [Act.put, List.setIfInBounds_toArray, List.set_cons_zero, List.set_cons_succ]
        refine wpAnyHF_takeD (i := 9) 87 (v := undef) rfl rfl rfl (by kernel_rfl) (by kernel_rfl) (by kernel_rfl) (fun _ _ _ h => h) ⟨.inr ⟨rfl, rfl⟩, fun W => rfl⟩ (Below.refl _ _) ?_
        refine wpAnyHF_takeD (i := 10) 88 (v := undef) rfl rfl rfl (by kernel_rfl) (by kernel_rfl) (by kernel_rfl) (fun _ _ _ h => h) ⟨.inr ⟨rfl, rfl⟩, fun W => rfl⟩ (Below.refl _ _) ?_
        refine wpAnyHF_takeD (i := 11) 89 (v := undef) rfl rfl rfl (by kernel_rfl) (by kernel_rfl) (by kernel_rfl) (fun _ _ _ h => h) ⟨.inr ⟨rfl, rfl⟩, fun W => rfl⟩ (Below.refl _ _) ?_
        simp only [Act.put, List.setIfInBounds_toArray, List.set_cons_zero, List.set_cons_succ]
        refine wpAnyHF_takeD (i := 12) 90 (v := undef) rfl rfl rfl (by kernel_rfl) (by kernel_rfl) (by kernel_rfl) (fun _ _ _ h => h) ⟨.inr ⟨rfl, rfl⟩, fun W => rfl⟩ (Below.refl _ _) ?_
        refine wpAnyHF_takeD (i := 13) 91 (v := undef) rfl rfl rfl (by kernel_rfl) (by kernel_rfl) (by kernel_rfl) (fun _ _ _ h => h) ⟨.inr ⟨rfl, rfl⟩, fun W => rfl⟩ (Below.refl _ _) ?_
        refine wpAnyHF_takeD (i := 14) 92 (v := undef) rfl rfl rfl (by kernel_rfl) (by kernel_rfl) (by kernel_rfl) (fun _ _ _ h => h) ⟨.inr ⟨rfl, rfl⟩, fun W => rfl⟩ (Below.refl _ _) ?_
        simp only [Act.put, List.setIfInBounds_toArray, List.set_cons_zero, List.set_cons_succ]
        refine wpAnyHF_takeD (i := 15) 93 (v := undef) rfl rfl rfl (by kernel_rfl) (by kernel_rfl) (by kernel_rfl) (fun _ _ _ h => h) ⟨.inr ⟨rfl, rfl⟩, fun W => rfl⟩ (Below.refl _ _) ?_
        refine wpAnyHF_takeD (i := 16) 94 (v := undef) rfl rfl rfl (by kernel_rfl) (by kernel_rfl) (by kernel_rfl) (fun _ _ _ h => h) ⟨.inr ⟨rfl, rfl⟩, fun W => rfl⟩ (Below.refl _ _) ?_
        simp only [Act.put, List.setIfInBounds_toArray, List.set_cons_zero, List.set_cons_succ]
        refine wpAnyHF_off 95 (i := 17) (by kernel_rfl) rfl rfl rfl (fun _ => trivial) (Below.refl _ _) ?_
        simp only [Act.put, List.setIfInBounds_toArray, List.set_cons_zero, List.set_cons_succ]
        refine wpAnyHF_takeD (i := 18) 96 (v := undef) rfl rfl rfl (by kernel_rfl) (by kernel_rfl) (by kernel_rfl) (fun _ _ _ h => h) ⟨.inr ⟨rfl, rfl⟩, fun W => rfl⟩ (Below.refl _ _) ?_
        refine wpAnyHF_takeD (i := 19) 97 (v := .bool true) rfl rfl rfl (by kernel_rfl) (by kernel_rfl) (by kernel_rfl) (fun _ _ _ h => h) ⟨.inl ⟨rfl, fun W hW => by simp [execOp, go_sem]⟩, fun W => rfl⟩ (Below.refl _ _) ?_
        refine wpAnyHF_takeD (i := 20) 14 (v := .bool true) rfl rfl rfl (by kernel_rfl) (by kernel_rfl) (by kernel_rfl) (fun _ _ _ h => h) ⟨.inl ⟨rfl, fun W hW => by simp [execOp, go_sem]⟩, fun W => rfl⟩ (Below.refl _ _) ?_
        simp only [Act.put, List.setIfInBounds_toArray, List.set_cons_zero, List.set_cons_succ]
        refine wpAnyHF_done (by kernel_rfl) ?_ _
        gi_wp2
        go_wp2_with fail
        go_meet
        case rel => exact ⟨rfl, BD.out⟩
    case rest =>
      obtain ⟨rfl, bx7⟩ := hcut
      have S9 := hid (And.intro (S8.out.1.more bx7) (And.intro (S8.out.2.1.more bx7) (And.intro (S8.out.2.2.1.more bx7) (S8.out.2.2.2.more bx7))))
      clear bx7 S8
      obtain ⟨w9, hw9⟩ : ∃ z, z = wc := ⟨_, rfl⟩
      subst hw9
      go_wp2_with fail
      go_loopw [15] (fun i wr => ∃ k : Nat, k ≤ h.nodes.length ∧ i = .int .i64 k ∧ Kept w wr w.heap.size 24 sa sc h ∧ KeptN w wr (w.heap.size + 1) 27 na nc n ∧ Kept w wr Bha 24 aha cha ha ∧ Kept w wr Bhs 24 ahs chs hs) (fun i _ => h.nodes.length - (intOf i).toNat)
      case atStart => exact ⟨0, Nat.zero_le _, rfl, S9.out⟩
      case round =>
        obtain ⟨k, hk, rfl, KP⟩ := hrel
        obtain ⟨wo, rfl⟩ : ∃ wo : World, wo = wr := ⟨_, rfl⟩
        have SR := hid KP
        clear KP S9
        have c0 : wo.cell? ⟨w.heap.size, 0, none⟩ = some (.slice sa h.nodes.length sc) := SR.out.1.c0
        by_cases hlt : k < h.nodes.length
        · go_upto_region 11 with (fail)
          clear c0
          by_cases he : ea = 0
          · subst he
            obtain ⟨rfl, hla, _, hxa⟩ := LA.out rfl
            by_cases he2 : es = 0
            · subst he2
              obtain ⟨q, rfl, hq, hls, _, hxs⟩ := LS.out rfl
              by_cases hkq : k = q
              · subst hkq
                obtain ⟨w10, hw5⟩ : ∃ z, wo.drew = z := ⟨_, rfl⟩
                have bd : Below wo.heap.size wo w10 := by rw [← hw5]; exact (Below.refl _ _).drew
                have BD := hid bd
                have S10 := hid (And.intro (SR.out.1.more bd) (And.intro (SR.out.2.1.more bd) (And.intro (SR.out.2.2.1.more bd) (SR.out.2.2.2.more bd))))
                obtain ⟨bhh, ohh, chh', yhh, shh, khh, hvhh, hyhh, hykhh, hynhh, hsyhh, dhh0, dhh1, dhh2, dhh3⟩ := (show NSl wo (fun _ => True) (.slice sa h.nodes.length sc) h.nodes from by obtain ⟨a, c, e, _, h⟩ := SR.out.1.val; cases e; exact h).at (Below.refl _ _) (k := k) hlt
                cases hvhh
                have Dhh0 : Hid (w10.cell? ⟨bhh, ohh + k * 4, none⟩ = some (.int .i64 yhh.kind)) := later_cell bd dhh0
                have Dhh1 : Hid (w10.cell? ⟨bhh, ohh + k * 4 + 1, none⟩ = some (.int .i64 yhh.num)) := later_cell bd dhh1
                have Dhh2 : Hid (w10.cell? ⟨bhh, ohh + k * 4 + 2, none⟩ = some (.string yhh.name)) := later_cell bd dhh2
                have Dhh3 : Hid (w10.cell? ⟨bhh, ohh + k * 4 + 3, none⟩ = some (.slice shh yhh.kids.length khh)) := later_cell bd dhh3
                have Vhh : NVal w10 (fun _ => True) (.agg #[.int .i64 yhh.kind, .int .i64 yhh.num, .string yhh.name, .slice shh yhh.kids.length khh]) yhh := ⟨shh, khh, rfl, hykhh, hynhh, hsyhh.below intGood bd⟩
                clear dhh0 dhh1 dhh2 dhh3 hykhh hynhh hsyhh
                have VH := hid Vhh
                clear Vhh
                have C0 : Hid (w10.cell? ⟨w.heap.size, 0, none⟩ = some (.slice (some ⟨bhh, ohh, none⟩) h.nodes.length sc)) := S10.out.1.c0
                have hlta : k < ha.nodes.length := by omega
                obtain ⟨baa, oaa, caa', yaa, saa, kaa, hvaa, hyaa, hykaa, hynaa, hsyaa, daa0, daa1, daa2, daa3⟩ := (show NSl wo (fun _ => True) (.slice aha ha.nodes.length cha) ha.nodes from by obtain ⟨a, c, e, _, h⟩ := SR.out.2.2.1.val; cases e; exact h).at (Below.refl _ _) (k := k) hlta
                cases hvaa
                have Daa0 : Hid (w10.cell? ⟨baa, oaa + k * 4, none⟩ = some (.int .i64 yaa.kind)) := later_cell bd daa0
                have Daa1 : Hid (w10.cell? ⟨baa, oaa + k * 4 + 1, none⟩ = some (.int .i64 yaa.num)) := later_cell bd daa1
                have Daa2 : Hid (w10.cell? ⟨baa, oaa + k * 4 + 2, none⟩ = some (.string yaa.name)) := later_cell bd daa2
                have Daa3 : Hid (w10.cell? ⟨baa, oaa + k * 4 + 3, none⟩ = some (.slice saa yaa.kids.length kaa)) := later_cell bd daa3
                have Vaa : NVal w10 (fun _ => True) (.agg #[.int .i64 yaa.kind, .int .i64 yaa.num, .string yaa.name, .slice saa yaa.kids.length kaa]) yaa := ⟨saa, kaa, rfl, hykaa, hynaa, hsyaa.below intGood bd⟩
                clear daa0 daa1 daa2 daa3 hykaa hynaa hsyaa
                obtain rfl : yhh = yaa := by rw [hxa k hlt, hyhh] at hyaa; cases hyaa; rfl
                have A0 : Hid (w10.cell? ⟨Bha, 0, none⟩ = some (.slice (some ⟨baa, oaa, none⟩) ha.nodes.length cha)) := S10.out.2.2.1.c0
                have HA := hid (node_later Vaa VH.out rfl)
                clear Vaa hyaa
                clear bd hyhh
                refine (wpIn_wide (n := 9)).1 ?_
                refine wpIn_region_held (fun W => Below w10.heap.size w10 W) (by kernel_rfl) ?_
                rw [hw5]
                clear hw5
                refine wpAnyHF_takeD (i := 0) 105 (v := .int .i64 0) rfl rfl rfl (by kernel_rfl) (by kernel_rfl) (by kernel_rfl) (fun _ _ _ h => h) ⟨.inl ⟨rfl, fun W hW => by simp [execOp, go_sem]⟩, fun W => rfl⟩ (Below.refl _ _) ?_
                refine wpAnyHF_takeD (i := 1) 106 (v := .bool true) rfl rfl rfl (by kernel_rfl) (by kernel_rfl) (by kernel_rfl) (fun _ _ _ h => h) ⟨.inl ⟨rfl, fun W hW => by simp [execOp, go_sem]⟩, fun W => rfl⟩ (Below.refl _ _) ?_
                refine wpAnyHF_takeD (i := 2) 107 (v := .bool true) rfl rfl rfl (by kernel_rfl) (by kernel_rfl) (by kernel_rfl) (fun _ _ _ h => h) ⟨.inl ⟨rfl, fun W hW => by simp [execOp, go_sem]⟩, fun W => rfl⟩ (Below.refl _ _) ?_
                simp only [Act.put, List.setIfInBounds_toArray, List.set_cons_zero, List.set_cons_succ]
                refine wpAnyHF_takeD (i := 3) 108 (v := .pointer (some ⟨Bha, 0, none⟩)) rfl rfl rfl (by kernel_rfl) (by kernel_rfl) (by kernel_rfl) (fun _ _ _ h => h) ⟨.inl ⟨rfl, fun W hW => by simp [execOp, go_sem]⟩, fun W => rfl⟩ (Below.refl _ _) ?_
                refine wpAnyHF_takeD (i := 4) 109 (v := .slice (some ⟨baa, oaa, none⟩) ha.nodes.length cha) rfl rfl rfl (by kernel_rfl) (by kernel_rfl) (by kernel_rfl) (fun _ _ _ h => h) ⟨.inl ⟨rfl, fun W hW => by have m0 := later_cell hW A0.out; simp [execOp, go_sem, m0]⟩, fun W => rfl⟩ (Below.refl _ _) ?_
                refine wpAnyHF_takeD (i := 5) 110 (v := .int .i64 k) rfl rfl rfl (by kernel_rfl) (by kernel_rfl) (by kernel_rfl) (fun _ _ _ h => h) ⟨.inl ⟨rfl, fun W hW => by simp [execOp, go_sem]⟩, fun W => rfl⟩ (Below.refl _ _) ?_
                simp only [Act.put, List.setIfInBounds_toArray, List.set_cons_zero, List.set_cons_succ]
                refine wpAnyHF_takeD (i := 6) 111 (v := .pointer (some ⟨baa, oaa + k * 4, none⟩)) rfl rfl rfl (by kernel_rfl) (by kernel_rfl) (by kernel_rfl) (fun _ _ _ h => h) ⟨.inl ⟨rfl, fun W hW => by simp [execOp, go_sem, hlta]⟩, fun W => rfl⟩ (Below.refl _ _) ?_
                refine wpAnyHF_takeD (i := 7) 112 (v := .agg #[.int .i64 yhh.kind, .int .i64 yhh.num, .string yhh.name, .slice saa yhh.kids.length kaa]) rfl rfl rfl (by kernel_rfl) (by kernel_rfl) (by kernel_rfl) (fun _ _ _ h => h) ⟨.inl ⟨rfl, fun W hW => by have m0 := later_cell hW Daa0.out; have m1 := later_cell hW Daa1.out; have m2 := later_cell hW Daa2.out; have m3 := later_cell hW Daa3.out; simp [execOp, go_sem, m0, m1, m2, m3]⟩, fun W => rfl⟩ (Below.refl _ _) ?_
                refine wpAnyHF_takeD (i := 8) 113 (v := .pointer (some ⟨w.heap.size, 0, none⟩)) rfl rfl rfl (by kernel_rfl) (by kernel_rfl) (by kernel_rfl) (fun _ _ _ h => h) ⟨.inl ⟨rfl, fun W hW => by simp [execOp, go_sem]⟩, fun W => rfl⟩ (Below.refl _ _) ?_
                simp only [Act.put, List.setIfInBounds_toArray, List.set_cons_zero, List.set_cons_succ]
                refine wpAnyHF_takeD (i := 9) 114 (v := .slice (some ⟨bhh, ohh, none⟩) h.nodes.length sc) rfl rfl rfl (by kernel_rfl) (by kernel_rfl) (by kernel_rfl) (fun _ _ _ h => h) ⟨.inl ⟨rfl, fun W hW => by have m0 := later_cell hW C0.out; simp [execOp, go_sem, m0]⟩, fun W => rfl⟩ (Below.refl _ _) ?_
                refine wpAnyHF_takeD (i := 10) 115 (v := .int .i64 k) rfl rfl rfl (by kernel_rfl) (by kernel_rfl) (by kernel_rfl) (fun _ _ _ h => h) ⟨.inl ⟨rfl, fun W hW => by simp [execOp, go_sem]⟩, fun W => rfl⟩ (Below.refl _ _) ?_
                refine wpAnyHF_takeD (i := 11) 116 (v := .pointer (some ⟨bhh, ohh + k * 4, none⟩)) rfl rfl rfl (by kernel_rfl) (by kernel_rfl) (by kernel_rfl) (fun _ _ _ h => h) ⟨.inl ⟨rfl, fun W hW => by simp [execOp, go_sem, hlt]⟩, fun W => rfl⟩ (Below.refl _ _) ?_
                simp only [Act.put, List.setIfInBounds_toArray, List.set_cons_zero, List.set_cons_succ]
                refine wpAnyHF_takeD (i := 12) 117 (v := .agg #[.int .i64 yhh.kind, .int .i64 yhh.num, .string yhh.name, .slice shh yhh.kids.length khh]) rfl rfl rfl (by kernel_rfl) (by kernel_rfl) (by kernel_rfl) (fun _ _ _ h => h) ⟨.inl ⟨rfl, fun W hW => by have m0 := later_cell hW Dhh0.out; have m1 := later_cell hW Dhh1.out; have m2 := later_cell hW Dhh2.out; have m3 := later_cell hW Dhh3.out; simp [execOp, go_sem, m0, m1, m2, m3]⟩, fun W => rfl⟩ (Below.refl _ _) ?_
                refine wpAnyHF_one (i := 13) (by kernel_rfl) rfl rfl ?_
                refine wpIn_callD 118 rfl (P := Try.prog) (f := 11) (args := #[.agg #[.int .i64 yhh.kind, .int .i64 yhh.num, .string yhh.name, .slice saa yhh.kids.length kaa], .agg #[.int .i64 yhh.kind, .int .i64 yhh.num, .string yhh.name, .slice shh yhh.kids.length khh]]) (by simp [execOp, resolve, invoke, go_sem]) ?_
                refine (HA.out _ (Below.refl _ _)).mono ?_
                rintro e w11 ⟨rfl, b11'⟩
                have b11 := b11'
                clear b11'
                refine ⟨_, rfl, b11, ?_⟩
                simp only [Act.put, List.setIfInBounds_toArray, List.set_cons_zero, List.set_cons_succ]
                refine wpAnyHF_takeD (i := 14) 119 (v := .bool false) rfl rfl rfl (by kernel_rfl) (by kernel_rfl) (by kernel_rfl) (fun _ _ _ h => h) ⟨.inl ⟨rfl, fun W hW => by simp [execOp, go_sem]⟩, fun W => rfl⟩ b11 ?_
                refine wpAnyHF_takeD (i := 15) 120 (v := .bool false) rfl rfl rfl (by kernel_rfl) (by kernel_rfl) (by kernel_rfl) (fun _ _ _ h => h) ⟨.inl ⟨rfl, fun W hW => by simp [execOp, go_sem]⟩, fun W => rfl⟩ b11 ?_
                refine wpAnyHF_takeD (i := 16) 121 (v := .bool false) rfl rfl rfl (by kernel_rfl) (by kernel_rfl) (by kernel_rfl) (fun _ _ _ h => h) ⟨.inl ⟨rfl, fun W hW => by simp [execOp, go_sem]⟩, fun W => rfl⟩ b11 ?_
                simp only [Act.put, List.setIfInBounds_toArray, List.set_cons_zero, List.set_cons_succ]
                refine wpAnyHF_takeD (i := 17) 122 (v := .int .i64 0) rfl rfl rfl (by kernel_rfl) (by kernel_rfl) (by kernel_rfl) (fun _ _ _ h => h) ⟨.inl ⟨rfl, fun W hW => by simp [execOp, go_sem]⟩, fun W => rfl⟩ b11 ?_
                refine wpAnyHF_takeD (i := 18) 123 (v := .bool true) rfl rfl rfl (by kernel_rfl) (by kernel_rfl) (by kernel_rfl) (fun _ _ _ h => h) ⟨.inl ⟨rfl, fun W hW => by simp [execOp, go_sem]⟩, fun W => rfl⟩ b11 ?_
                refine wpAnyHF_takeD (i := 19) 124 (v := .bool true) rfl rfl rfl (by kernel_rfl) (by kernel_rfl) (by kernel_rfl) (fun _ _ _ h => h) ⟨.inl ⟨rfl, fun W hW => by simp [execOp, go_sem]⟩, fun W => rfl⟩ b11 ?_
                simp only [Act.put, List.setIfInBounds_toArray, List.set_cons_zero, List.set_cons_succ]
                refine wpAnyHF_takeD (i := 20) 125 (v := .int .i64 k) rfl rfl rfl (by kernel_rfl) (by kernel_rfl) (by kernel_rfl) (fun _ _ _ h => h) ⟨.inl ⟨rfl, fun W hW => by simp [execOp, go_sem]⟩, fun W => rfl⟩ b11 ?_
                refine wpAnyHF_takeD (i := 21) 126 (v := .int .i64 k) rfl rfl rfl (by kernel_rfl) (by kernel_rfl) (by kernel_rfl) (fun _ _ _ h => h) ⟨.inl ⟨rfl, fun W hW => by simp [execOp, go_sem]⟩, fun W => rfl⟩ b11 ?_
                refine wpAnyHF_takeD (i := 22) 127 (v := .bool false) rfl rfl rfl (by kernel_rfl) (by kernel_rfl) (by kernel_rfl) (fun _ _ _ h => h) ⟨.inl ⟨rfl, fun W hW => by simp [execOp, go_sem]⟩, fun W => rfl⟩ b11 ?_
                simp only [Act.put, List.setIfInBounds_toArray, List.set_cons_zero, List.set_cons_succ]
                refine wpAnyHF_takeD (i := 23) 128 (v := .bool false) rfl rfl rfl (by kernel_rfl) (by kernel_rfl) (by kernel_rfl) (fun _ _ _ h => h) ⟨.inl ⟨rfl, fun W hW => by simp [execOp, go_sem]⟩, fun W => rfl⟩ b11 ?_
                refine wpAnyHF_takeD (i := 24) 129 (v := .bool false) rfl rfl rfl (by kernel_rfl) (by kernel_rfl) (by kernel_rfl) (fun _ _ _ h => h) ⟨.inl ⟨rfl, fun W hW => by simp [execOp, go_sem]⟩, fun W => rfl⟩ b11 ?_
                refine wpAnyHF_takeD (i := 25) 130 (v := undef) rfl rfl rfl (by kernel_rfl) (by kernel_rfl) (by kernel_rfl) (fun _ _ _ h => h) ⟨.inr ⟨rfl, rfl⟩, fun W => rfl⟩ b11 ?_
                simp only [Act.put, List.setIfInBounds_toArray, List.set_cons_zero, List.set_cons_succ]
                refine wpAnyHF_takeD (i := 26) 131 (v := undef) rfl rfl rfl (by kernel_rfl) (by kernel_rfl) (by kernel_rfl) (fun _ _ _ h => h) ⟨.inr ⟨rfl, rfl⟩, fun W => rfl⟩ b11 ?_
                refine wpAnyHF_takeD (i := 27) 132 (v := undef) rfl rfl rfl (by kernel_rfl) (by kernel_rfl) (by kernel_rfl) (fun _ _ _ h => h) ⟨.inr ⟨rfl, rfl⟩, fun W => rfl⟩ b11 ?_
                refine wpAnyHF_takeD (i := 28) 133 (v := undef) rfl rfl rfl (by kernel_rfl) (by kernel_rfl) (by kernel_rfl) (fun _ _ _ h => h) ⟨.inr ⟨rfl, rfl⟩, fun W => rfl⟩ b11 ?_
                simp only [Act.put, List.setIfInBounds_toArray, List.set_cons_zero, List.set_cons_succ]
                refine wpAnyHF_takeD (i := 29) 134 (v := undef) rfl rfl rfl (by kernel_rfl) (by kernel_rfl) (by kernel_rfl) (fun _ _ _ h => h) ⟨.inr ⟨rfl, rfl⟩, fun W => rfl⟩ b11 ?_
                refine wpAnyHF_takeD (i := 30) 135 (v := undef) rfl rfl rfl (by kernel_rfl) (by kernel_rfl) (by kernel_rfl) (fun _ _ _ h => h) ⟨.inr ⟨rfl, rfl⟩, fun W => rfl⟩ b11 ?_
                refine wpAnyHF_takeD (i := 31) 136 (v := undef) rfl rfl rfl (by kernel_rfl) (by kernel_rfl) (by kernel_rfl) (fun _ _ _ h => h) ⟨.inr ⟨rfl, rfl⟩, fun W => rfl⟩ b11 ?_
                simp only [Act.put, List.setIfInBounds_toArray, List.set_cons_zero, List.set_cons_succ]
                refine wpAnyHF_takeD (i := 32) 137 (v := undef) rfl rfl rfl (by kernel_rfl) (by kernel_rfl) (by kernel_rfl) (fun _ _ _ h => h) ⟨.inr ⟨rfl, rfl⟩, fun W => rfl⟩ b11 ?_
                refine wpAnyHF_takeD (i := 33) 138 (v := undef) rfl rfl rfl (by kernel_rfl) (by kernel_rfl) (by kernel_rfl) (fun _ _ _ h => h) ⟨.inr ⟨rfl, rfl⟩, fun W => rfl⟩ b11 ?_
                refine wpAnyHF_takeD (i := 34) 139 (v := undef) rfl rfl rfl (by kernel_rfl) (by kernel_rfl) (by kernel_rfl) (fun _ _ _ h => h) ⟨.inr ⟨rfl, rfl⟩, fun W => rfl⟩ b11 ?_
                simp only [Act.put, List.setIfInBounds_toArray, List.set_cons_zero, List.set_cons_succ]
                refine wpAnyHF_off 140 (i := 35) (by kernel_rfl) rfl rfl rfl (fun _ => trivial) b11 ?_
                simp only [Act.put, List.setIfInBounds_toArray, List.set_cons_zero, List.set_cons_succ]
                refine wpAnyHF_takeD (i := 36) 141 (v := undef) rfl rfl rfl (by kernel_rfl) (by kernel_rfl) (by kernel_rfl) (fun _ _ _ h => h) ⟨.inr ⟨rfl, rfl⟩, fun W => rfl⟩ b11 ?_
                refine wpAnyHF_takeD (i := 37) 142 (v := .bool false) rfl rfl rfl (by kernel_rfl) (by kernel_rfl) (by kernel_rfl) (fun _ _ _ h => h) ⟨.inl ⟨rfl, fun W hW => by simp [execOp, go_sem]⟩, fun W => rfl⟩ b11 ?_
                refine wpAnyHF_takeD (i := 38) 143 (v := .bool false) rfl rfl rfl (by kernel_rfl) (by kernel_rfl) (by kernel_rfl) (fun _ _ _ h => h) ⟨.inl ⟨rfl, fun W hW => by simp [execOp, go_sem]⟩, fun W => rfl⟩ b11 ?_
                simp only [Act.put, List.setIfInBounds_toArray, List.set_cons_zero, List.set_cons_succ]
                refine wpAnyHF_done (by kernel_rfl) ?_ _
                have SQ := hid (And.intro (S10.out.1.more b11) (And.intro (S10.out.2.1.more b11) (And.intro (S10.out.2.2.1.more b11) (S10.out.2.2.2.more b11))))
                gi_wp2
                go_wp2_with fail
                go_roundw
                case rel => exact ⟨k + 1, by omega, by go_num, SQ.out⟩
                case measure => simp [intOf]; omega
              · have hne : ((k : Int) != q) = true := by simp; omega
                obtain ⟨w10, hw5⟩ : ∃ z, wo.drew = z := ⟨_, rfl⟩
                have bd : Below wo.heap.size wo w10 := by rw [← hw5]; exact (Below.refl _ _).drew
                have BD := hid bd
                have S10 := hid (And.intro (SR.out.1.more bd) (And.intro (SR.out.2.1.more bd) (And.intro (SR.out.2.2.1.more bd) (SR.out.2.2.2.more bd))))
                obtain ⟨bhh, ohh, chh', yhh, shh, khh, hvhh, hyhh, hykhh, hynhh, hsyhh, dhh0, dhh1, dhh2, dhh3⟩ := (show NSl wo (fun _ => True) (.slice sa h.nodes.length sc) h.nodes from by obtain ⟨a, c, e, _, h⟩ := SR.out.1.val; cases e; exact h).at (Below.refl _ _) (k := k) hlt
                cases hvhh
                have Dhh0 : Hid (w10.cell? ⟨bhh, ohh + k * 4, none⟩ = some (.int .i64 yhh.kind)) := later_cell bd dhh0
                have Dhh1 : Hid (w10.cell? ⟨bhh, ohh + k * 4 + 1, none⟩ = some (.int .i64 yhh.num)) := later_cell bd dhh1
                have Dhh2 : Hid (w10.cell? ⟨bhh, ohh + k * 4 + 2, none⟩ = some (.string yhh.name)) := later_cell bd dhh2
                have Dhh3 : Hid (w10.cell? ⟨bhh, ohh + k * 4 + 3, none⟩ = some (.slice shh yhh.kids.length khh)) := later_cell bd dhh3
                have Vhh : NVal w10 (fun _ => True) (.agg #[.int .i64 yhh.kind, .int .i64 yhh.num, .string yhh.name, .slice shh yhh.kids.length khh]) yhh := ⟨shh, khh, rfl, hykhh, hynhh, hsyhh.below intGood bd⟩
                clear dhh0 dhh1 dhh2 dhh3 hykhh hynhh hsyhh
                have VH := hid Vhh
                clear Vhh
                have C0 : Hid (w10.cell? ⟨w.heap.size, 0, none⟩ = some (.slice (some ⟨bhh, ohh, none⟩) h.nodes.length sc)) := S10.out.1.c0
                have hlta : k < ha.nodes.length := by omega
                obtain ⟨baa, oaa, caa', yaa, saa, kaa, hvaa, hyaa, hykaa, hynaa, hsyaa, daa0, daa1, daa2, daa3⟩ := (show NSl wo (fun _ => True) (.slice aha ha.nodes.length cha) ha.nodes from by obtain ⟨a, c, e, _, h⟩ := SR.out.2.2.1.val; cases e; exact h).at (Below.refl _ _) (k := k) hlta
                cases hvaa
                have Daa0 : Hid (w10.cell? ⟨baa, oaa + k * 4, none⟩ = some (.int .i64 yaa.kind)) := later_cell bd daa0
                have Daa1 : Hid (w10.cell? ⟨baa, oaa + k * 4 + 1, none⟩ = some (.int .i64 yaa.num)) := later_cell bd daa1
                have Daa2 : Hid (w10.cell? ⟨baa, oaa + k * 4 + 2, none⟩ = some (.string yaa.name)) := later_cell bd daa2
                have Daa3 : Hid (w10.cell? ⟨baa, oaa + k * 4 + 3, none⟩ = some (.slice saa yaa.kids.length kaa)) := later_cell bd daa3
                have Vaa : NVal w10 (fun _ => True) (.agg #[.int .i64 yaa.kind, .int .i64 yaa.num, .string yaa.name, .slice saa yaa.kids.length kaa]) yaa := ⟨saa, kaa, rfl, hykaa, hynaa, hsyaa.below intGood bd⟩
                clear daa0 daa1 daa2 daa3 hykaa hynaa hsyaa
                obtain rfl : yhh = yaa := by rw [hxa k hlt, hyhh] at hyaa; cases hyaa; rfl
                have A0 : Hid (w10.cell? ⟨Bha, 0, none⟩ = some (.slice (some ⟨baa, oaa, none⟩) ha.nodes.length cha)) := S10.out.2.2.1.c0
                have HA := hid (node_later Vaa VH.out rfl)
                clear Vaa hyaa
                have hlts : k < hs.nodes.length := by omega
                obtain ⟨bss, oss, css', yss, sss, kss, hvss, hyss, hykss, hynss, hsyss, dss0, dss1, dss2, dss3⟩ := (show NSl wo (fun _ => True) (.slice ahs hs.nodes.length chs) hs.nodes from by obtain ⟨a, c, e, _, h⟩ := SR.out.2.2.2.val; cases e; exact h).at (Below.refl _ _) (k := k) hlts
                cases hvss
                have Dss0 : Hid (w10.cell? ⟨bss, oss + k * 4, none⟩ = some (.int .i64 yss.kind)) := later_cell bd dss0
                have Dss1 : Hid (w10.cell? ⟨bss, oss + k * 4 + 1, none⟩ = some (.int .i64 yss.num)) := later_cell bd dss1
                have Dss2 : Hid (w10.cell? ⟨bss, oss + k * 4 + 2, none⟩ = some (.string yss.name)) := later_cell bd dss2
                have Dss3 : Hid (w10.cell? ⟨bss, oss + k * 4 + 3, none⟩ = some (.slice sss yss.kids.length kss)) := later_cell bd dss3
                have Vss : NVal w10 (fun _ => True) (.agg #[.int .i64 yss.kind, .int .i64 yss.num, .string yss.name, .slice sss yss.kids.length kss]) yss := ⟨sss, kss, rfl, hykss, hynss, hsyss.below intGood bd⟩
                clear dss0 dss1 dss2 dss3 hykss hynss hsyss
                obtain rfl : yhh = yss := by rw [hxs k hkq, hyhh] at hyss; cases hyss; rfl
                have B0 : Hid (w10.cell? ⟨Bhs, 0, none⟩ = some (.slice (some ⟨bss, oss, none⟩) hs.nodes.length chs)) := S10.out.2.2.2.c0
                have HS := hid (node_later Vss VH.out rfl)
                clear Vss hyss
                clear bd hyhh
                refine (wpIn_wide (n := 9)).1 ?_
                refine wpIn_region_held (fun W => Below w10.heap.size w10 W) (by kernel_rfl) ?_
                rw [hw5]
                clear hw5
                refine wpAnyHF_takeD (i := 0) 105 (v := .int .i64 0) rfl rfl rfl (by kernel_rfl) (by kernel_rfl) (by kernel_rfl) (fun _ _ _ h => h) ⟨.inl ⟨rfl, fun W hW => by simp [execOp, go_sem]⟩, fun W => rfl⟩ (Below.refl _ _) ?_
                refine wpAnyHF_takeD (i := 1) 106 (v := .bool true) rfl rfl rfl (by kernel_rfl) (by kernel_rfl) (by kernel_rfl) (fun _ _ _ h => h) ⟨.inl ⟨rfl, fun W hW => by simp [execOp, go_sem]⟩, fun W => rfl⟩ (Below.refl _ _) ?_
                refine wpAnyHF_takeD (i := 2) 107 (v := .bool true) rfl rfl rfl (by kernel_rfl) (by kernel_rfl) (by kernel_rfl) (fun _ _ _ h => h) ⟨.inl ⟨rfl, fun W hW => by simp [execOp, go_sem]⟩, fun W => rfl⟩ (Below.refl _ _) ?_
                simp only [Act.put, List.setIfInBounds_toArray, List.set_cons_zero, List.set_cons_succ]
                refine wpAnyHF_takeD (i := 3) 108 (v := .pointer (some ⟨Bha, 0, none⟩)) rfl rfl rfl (by kernel_rfl) (by kernel_rfl) (by kernel_rfl) (fun _ _ _ h => h) ⟨.inl ⟨rfl, fun W hW => by simp [execOp, go_sem]⟩, fun W => rfl⟩ (Below.refl _ _) ?_
                refine wpAnyHF_takeD (i := 4) 109 (v := .slice (some ⟨baa, oaa, none⟩) ha.nodes.length cha) rfl rfl rfl (by kernel_rfl) (by kernel_rfl) (by kernel_rfl) (fun _ _ _ h => h) ⟨.inl ⟨rfl, fun W hW => by have m0 := later_cell hW A0.out; simp [execOp, go_sem, m0]⟩, fun W => rfl⟩ (Below.refl _ _) ?_
                refine wpAnyHF_takeD (i := 5) 110 (v := .int .i64 k) rfl rfl rfl (by kernel_rfl) (by kernel_rfl) (by kernel_rfl) (fun _ _ _ h => h) ⟨.inl ⟨rfl, fun W hW => by simp [execOp, go_sem]⟩, fun W => rfl⟩ (Below.refl _ _) ?_
                simp only [Act.put, List.setIfInBounds_toArray, List.set_cons_zero, List.set_cons_succ]
                refine wpAnyHF_takeD (i := 6) 111 (v := .pointer (some ⟨baa, oaa + k * 4, none⟩)) rfl rfl rfl (by kernel_rfl) (by kernel_rfl) (by kernel_rfl) (fun _ _ _ h => h) ⟨.inl ⟨rfl, fun W hW => by simp [execOp, go_sem, hlta]⟩, fun W => rfl⟩ (Below.refl _ _) ?_
                refine wpAnyHF_takeD (i := 7) 112 (v := .agg #[.int .i64 yhh.kind, .int .i64 yhh.num, .string yhh.name, .slice saa yhh.kids.length kaa]) rfl rfl rfl (by kernel_rfl) (by kernel_rfl) (by kernel_rfl) (fun _ _ _ h => h) ⟨.inl ⟨rfl, fun W hW => by have m0 := later_cell hW Daa0.out; have m1 := later_cell hW Daa1.out; have m2 := later_cell hW Daa2.out; have m3 := later_cell hW Daa3.out; simp [execOp, go_sem, m0, m1, m2, m3]⟩, fun W => rfl⟩ (Below.refl _ _) ?_
                refine wpAnyHF_takeD (i := 8) 113 (v := .pointer (some ⟨w.heap.size, 0, none⟩)) rfl rfl rfl (by kernel_rfl) (by kernel_rfl) (by kernel_rfl) (fun _ _ _ h => h) ⟨.inl ⟨rfl, fun W hW => by simp [execOp, go_sem]⟩, fun W => rfl⟩ (Below.refl _ _) ?_
                simp only [Act.put, List.setIfInBounds_toArray, List.set_cons_zero, List.set_cons_succ]
                refine wpAnyHF_takeD (i := 9) 114 (v := .slice (some ⟨bhh, ohh, none⟩) h.nodes.length sc) rfl rfl rfl (by kernel_rfl) (by kernel_rfl) (by kernel_rfl) (fun _ _ _ h => h) ⟨.inl ⟨rfl, fun W hW => by have m0 := later_cell hW C0.out; simp [execOp, go_sem, m0]⟩, fun W => rfl⟩ (Below.refl _ _) ?_
                refine wpAnyHF_takeD (i := 10) 115 (v := .int .i64 k) rfl rfl rfl (by kernel_rfl) (by kernel_rfl) (by kernel_rfl) (fun _ _ _ h => h) ⟨.inl ⟨rfl, fun W hW => by simp [execOp, go_sem]⟩, fun W => rfl⟩ (Below.refl _ _) ?_
                refine wpAnyHF_takeD (i := 11) 116 (v := .pointer (some ⟨bhh, ohh + k * 4, none⟩)) rfl rfl rfl (by kernel_rfl) (by kernel_rfl) (by kernel_rfl) (fun _ _ _ h => h) ⟨.inl ⟨rfl, fun W hW => by simp [execOp, go_sem, hlt]⟩, fun W => rfl⟩ (Below.refl _ _) ?_
                simp only [Act.put, List.setIfInBounds_toArray, List.set_cons_zero, List.set_cons_succ]
                refine wpAnyHF_takeD (i := 12) 117 (v := .agg #[.int .i64 yhh.kind, .int .i64 yhh.num, .string yhh.name, .slice shh yhh.kids.length khh]) rfl rfl rfl (by kernel_rfl) (by kernel_rfl) (by kernel_rfl) (fun _ _ _ h => h) ⟨.inl ⟨rfl, fun W hW => by have m0 := later_cell hW Dhh0.out; have m1 := later_cell hW Dhh1.out; have m2 := later_cell hW Dhh2.out; have m3 := later_cell hW Dhh3.out; simp [execOp, go_sem, m0, m1, m2, m3]⟩, fun W => rfl⟩ (Below.refl _ _) ?_
                refine wpAnyHF_one (i := 13) (by kernel_rfl) rfl rfl ?_
                refine wpIn_callD 118 rfl (P := Try.prog) (f := 11) (args := #[.agg #[.int .i64 yhh.kind, .int .i64 yhh.num, .string yhh.name, .slice saa yhh.kids.length kaa], .agg #[.int .i64 yhh.kind, .int .i64 yhh.num, .string yhh.name, .slice shh yhh.kids.length khh]]) (by simp [execOp, resolve, invoke, go_sem]) ?_
                refine (HA.out _ (Below.refl _ _)).mono ?_
                rintro e w11 ⟨rfl, b11'⟩
                have b11 := b11'
                clear b11'
                refine ⟨_, rfl, b11, ?_⟩
                simp only [Act.put, List.setIfInBounds_toArray, List.set_cons_zero, List.set_cons_succ]
                refine wpAnyHF_takeD (i := 14) 119 (v := .bool false) rfl rfl rfl (by kernel_rfl) (by kernel_rfl) (by kernel_rfl) (fun _ _ _ h => h) ⟨.inl ⟨rfl, fun W hW => by simp [execOp, go_sem]⟩, fun W => rfl⟩ b11 ?_
                refine wpAnyHF_takeD (i := 15) 120 (v := .bool false) rfl rfl rfl (by kernel_rfl) (by kernel_rfl) (by kernel_rfl) (fun _ _ _ h => h) ⟨.inl ⟨rfl, fun W hW => by simp [execOp, go_sem]⟩, fun W => rfl⟩ b11 ?_
                refine wpAnyHF_takeD (i := 16) 121 (v := .bool false) rfl rfl rfl (by kernel_rfl) (by kernel_rfl) (by kernel_rfl) (fun _ _ _ h => h) ⟨.inl ⟨rfl, fun W hW => by simp [execOp, go_sem]⟩, fun W => rfl⟩ b11 ?_
                simp only [Act.put, List.setIfInBounds_toArray, List.set_cons_zero, List.set_cons_succ]
                refine wpAnyHF_takeD (i := 17) 122 (v := .int .i64 0) rfl rfl rfl (by kernel_rfl) (by kernel_rfl) (by kernel_rfl) (fun _ _ _ h => h) ⟨.inl ⟨rfl, fun W hW => by simp [execOp, go_sem]⟩, fun W => rfl⟩ b11 ?_
                refine wpAnyHF_takeD (i := 18) 123 (v := .bool true) rfl rfl rfl (by kernel_rfl) (by kernel_rfl) (by kernel_rfl) (fun _ _ _ h => h) ⟨.inl ⟨rfl, fun W hW => by simp [execOp, go_sem]⟩, fun W => rfl⟩ b11 ?_
                refine wpAnyHF_takeD (i := 19) 124 (v := .bool true) rfl rfl rfl (by kernel_rfl) (by kernel_rfl) (by kernel_rfl) (fun _ _ _ h => h) ⟨.inl ⟨rfl, fun W hW => by simp [execOp, go_sem]⟩, fun W => rfl⟩ b11 ?_
                simp only [Act.put, List.setIfInBounds_toArray, List.set_cons_zero, List.set_cons_succ]
                refine wpAnyHF_takeD (i := 20) 125 (v := .int .i64 k) rfl rfl rfl (by kernel_rfl) (by kernel_rfl) (by kernel_rfl) (fun _ _ _ h => h) ⟨.inl ⟨rfl, fun W hW => by simp [execOp, go_sem]⟩, fun W => rfl⟩ b11 ?_
                refine wpAnyHF_takeD (i := 21) 126 (v := .int .i64 q) rfl rfl rfl (by kernel_rfl) (by kernel_rfl) (by kernel_rfl) (fun _ _ _ h => h) ⟨.inl ⟨rfl, fun W hW => by simp [execOp, go_sem]⟩, fun W => rfl⟩ b11 ?_
                refine wpAnyHF_takeD (i := 22) 127 (v := .bool true) rfl rfl rfl (by kernel_rfl) (by kernel_rfl) (by kernel_rfl) (fun _ _ _ h => h) ⟨.inl ⟨rfl, fun W hW => by simp [execOp, go_sem, hne]⟩, fun W => rfl⟩ b11 ?_
                simp only [Act.put, List.setIfInBounds_toArray, List.set_cons_zero, List.set_cons_succ]
                refine wpAnyHF_takeD (i := 23) 128 (v := .bool true) rfl rfl rfl (by kernel_rfl) (by kernel_rfl) (by kernel_rfl) (fun _ _ _ h => h) ⟨.inl ⟨rfl, fun W hW => by simp [execOp, go_sem]⟩, fun W => rfl⟩ b11 ?_
                refine wpAnyHF_takeD (i := 24) 129 (v := .bool true) rfl rfl rfl (by kernel_rfl) (by kernel_rfl) (by kernel_rfl) (fun _ _ _ h => h) ⟨.inl ⟨rfl, fun W hW => by simp [execOp, go_sem]⟩, fun W => rfl⟩ b11 ?_
                refine wpAnyHF_takeD (i := 25) 130 (v := .pointer (some ⟨Bhs, 0, none⟩)) rfl rfl rfl (by kernel_rfl) (by kernel_rfl) (by kernel_rfl) (fun _ _ _ h => h) ⟨.inl ⟨rfl, fun W hW => by simp [execOp, go_sem]⟩, fun W => rfl⟩ b11 ?_
                simp only [Act.put, List.setIfInBounds_toArray, List.set_cons_zero, List.set_cons_succ]
                refine wpAnyHF_takeD (i := 26) 131 (v := .slice (some ⟨bss, oss, none⟩) hs.nodes.length chs) rfl rfl rfl (by kernel_rfl) (by kernel_rfl) (by kernel_rfl) (fun _ _ _ h => h) ⟨.inl ⟨rfl, fun W hW => by have m0 := later_cell hW B0.out; simp [execOp, go_sem, m0]⟩, fun W => rfl⟩ b11 ?_
                refine wpAnyHF_takeD (i := 27) 132 (v := .int .i64 k) rfl rfl rfl (by kernel_rfl) (by kernel_rfl) (by kernel_rfl) (fun _ _ _ h => h) ⟨.inl ⟨rfl, fun W hW => by simp [execOp, go_sem]⟩, fun W => rfl⟩ b11 ?_
                refine wpAnyHF_takeD (i := 28) 133 (v := .pointer (some ⟨bss, oss + k * 4, none⟩)) rfl rfl rfl (by kernel_rfl) (by kernel_rfl) (by kernel_rfl) (fun _ _ _ h => h) ⟨.inl ⟨rfl, fun W hW => by simp [execOp, go_sem, hlts]⟩, fun W => rfl⟩ b11 ?_
                simp only [Act.put, List.setIfInBounds_toArray, List.set_cons_zero, List.set_cons_succ]
                refine wpAnyHF_takeD (i := 29) 134 (v := .agg #[.int .i64 yhh.kind, .int .i64 yhh.num, .string yhh.name, .slice sss yhh.kids.length kss]) rfl rfl rfl (by kernel_rfl) (by kernel_rfl) (by kernel_rfl) (fun _ _ _ h => h) ⟨.inl ⟨rfl, fun W hW => by have m0 := later_cell hW Dss0.out; have m1 := later_cell hW Dss1.out; have m2 := later_cell hW Dss2.out; have m3 := later_cell hW Dss3.out; simp [execOp, go_sem, m0, m1, m2, m3]⟩, fun W => rfl⟩ b11 ?_
                refine wpAnyHF_takeD (i := 30) 135 (v := .pointer (some ⟨w.heap.size, 0, none⟩)) rfl rfl rfl (by kernel_rfl) (by kernel_rfl) (by kernel_rfl) (fun _ _ _ h => h) ⟨.inl ⟨rfl, fun W hW => by simp [execOp, go_sem]⟩, fun W => rfl⟩ b11 ?_
                refine wpAnyHF_takeD (i := 31) 136 (v := .slice (some ⟨bhh, ohh, none⟩) h.nodes.length sc) rfl rfl rfl (by kernel_rfl) (by kernel_rfl) (by kernel_rfl) (fun _ _ _ h => h) ⟨.inl ⟨rfl, fun W hW => by have m0 := later_cell hW C0.out; simp [execOp, go_sem, m0]⟩, fun W => rfl⟩ b11 ?_
                simp only [Act.put, List.setIfInBounds_toArray, List.set_cons_zero, List.set_cons_succ]
                refine wpAnyHF_takeD (i := 32) 137 (v := .int .i64 k) rfl rfl rfl (by kernel_rfl) (by kernel_rfl) (by kernel_rfl) (fun _ _ _ h => h) ⟨.inl ⟨rfl, fun W hW => by simp [execOp, go_sem]⟩, fun W => rfl⟩ b11 ?_
                refine wpAnyHF_takeD (i := 33) 138 (v := .pointer (some ⟨bhh, ohh + k * 4, none⟩)) rfl rfl rfl (by kernel_rfl) (by kernel_rfl) (by kernel_rfl) (fun _ _ _ h => h) ⟨.inl ⟨rfl, fun W hW => by simp [execOp, go_sem, hlt]⟩, fun W => rfl⟩ b11 ?_
                refine wpAnyHF_takeD (i := 34) 139 (v := .agg #[.int .i64 yhh.kind, .int .i64 yhh.num, .string yhh.name, .slice shh yhh.kids.length khh]) rfl rfl rfl (by kernel_rfl) (by kernel_rfl) (by kernel_rfl) (fun _ _ _ h => h) ⟨.inl ⟨rfl, fun W hW => by have m0 := later_cell hW Dhh0.out; have m1 := later_cell hW Dhh1.out; have m2 := later_cell hW Dhh2.out; have m3 := later_cell hW Dhh3.out; simp [execOp, go_sem, m0, m1, m2, m3]⟩, fun W => rfl⟩ b11 ?_
                simp only [Act.put, List.setIfInBounds_toArray, List.set_cons_zero, List.set_cons_succ]
                refine wpAnyHF_one (i := 35) (by kernel_rfl) rfl rfl ?_
                refine wpIn_callD 140 rfl (P := Try.prog) (f := 11) (args := #[.agg #[.int .i64 yhh.kind, .int .i64 yhh.num, .string yhh.name, .slice sss yhh.kids.length kss], .agg #[.int .i64 yhh.kind, .int .i64 yhh.num, .string yhh.name, .slice shh yhh.kids.length khh]]) (by simp [execOp, resolve, invoke, go_sem]) ?_
                refine (HS.out _ b11).mono ?_
                rintro e w12 ⟨rfl, b12'⟩
                have b12 := b11.trans (b12'.mono b11.size)
                clear b12'
                refine ⟨_, rfl, b12, ?_⟩
                simp only [Act.put, List.setIfInBounds_toArray, List.set_cons_zero, List.set_cons_succ]
                refine wpAnyHF_takeD (i := 36) 141 (v := .bool false) rfl rfl rfl (by kernel_rfl) (by kernel_rfl) (by kernel_rfl) (fun _ _ _ h => h) ⟨.inl ⟨rfl, fun W hW => by simp [execOp, go_sem]⟩, fun W => rfl⟩ b12 ?_
                refine wpAnyHF_takeD (i := 37) 142 (v := .bool false) rfl rfl rfl (by kernel_rfl) (by kernel_rfl) (by kernel_rfl) (fun _ _ _ h => h) ⟨.inl ⟨rfl, fun W hW => by simp [execOp, go_sem]⟩, fun W => rfl⟩ b12 ?_
                refine wpAnyHF_takeD (i := 38) 143 (v := .bool false) rfl rfl rfl (by kernel_rfl) (by kernel_rfl) (by kernel_rfl) (fun _ _ _ h => h) ⟨.inl ⟨rfl, fun W hW => by simp [execOp, go_sem]⟩, fun W => rfl⟩ b12 ?_
                simp only [Act.put, List.setIfInBounds_toArray, List.set_cons_zero, List.set_cons_succ]
                refine wpAnyHF_done (by kernel_rfl) ?_ _
                have SQ := hid (And.intro (S10.out.1.more b12) (And.intro (S10.out.2.1.more b12) (And.intro (S10.out.2.2.1.more b12) (S10.out.2.2.2.more b12))))
                gi_wp2
                go_wp2_with fail
                go_roundw
                case rel => exact ⟨k + 1, by omega, by go_num, SQ.out⟩
                case measure => simp [intOf]; omega
            · have hes : (es == 0) = false := by simpa using he2
              obtain ⟨w10, hw5⟩ : ∃ z, wo.drew = z := ⟨_, rfl⟩
              have bd : Below wo.heap.size wo w10 := by rw [← hw5]; exact (Below.refl _ _).drew
              have BD := hid bd
              have S10 := hid (And.intro (SR.out.1.more bd) (And.intro (SR.out.2.1.more bd) (And.intro (SR.out.2.2.1.more bd) (SR.out.2.2.2.more bd))))
              obtain ⟨bhh, ohh, chh', yhh, shh, khh, hvhh, hyhh, hykhh, hynhh, hsyhh, dhh0, dhh1, dhh2, dhh3⟩ := (show NSl wo (fun _ => True) (.slice sa h.nodes.length sc) h.nodes from by obtain ⟨a, c, e, _, h⟩ := SR.out.1.val; cases e; exact h).at (Below.refl _ _) (k := k) hlt
              cases hvhh
              have Dhh0 : Hid (w10.cell? ⟨bhh, ohh + k * 4, none⟩ = some (.int .i64 yhh.kind)) := later_cell bd dhh0
              have Dhh1 : Hid (w10.cell? ⟨bhh, ohh + k * 4 + 1, none⟩ = some (.int .i64 yhh.num)) := later_cell bd dhh1
              have Dhh2 : Hid (w10.cell? ⟨bhh, ohh + k * 4 + 2, none⟩ = some (.string yhh.name)) := later_cell bd dhh2
              have Dhh3 : Hid (w10.cell? ⟨bhh, ohh + k * 4 + 3, none⟩ = some (.slice shh yhh.kids.length khh)) := later_cell bd dhh3
              have Vhh : NVal w10 (fun _ => True) (.agg #[.int .i64 yhh.kind, .int .i64 yhh.num, .string yhh.name, .slice shh yhh.kids.length khh]) yhh := ⟨shh, khh, rfl, hykhh, hynhh, hsyhh.below intGood bd⟩
              clear dhh0 dhh1 dhh2 dhh3 hykhh hynhh hsyhh
              have VH := hid Vhh
              clear Vhh
              have C0 : Hid (w10.cell? ⟨w.heap.size, 0, none⟩ = some (.slice (some ⟨bhh, ohh, none⟩) h.nodes.length sc)) := S10.out.1.c0
              have hlta : k < ha.nodes.length := by omega
              obtain ⟨baa, oaa, caa', yaa, saa, kaa, hvaa, hyaa, hykaa, hynaa, hsyaa, daa0, daa1, daa2, daa3⟩ := (show NSl wo (fun _ => True) (.slice aha ha.nodes.length cha) ha.nodes from by obtain ⟨a, c, e, _, h⟩ := SR.out.2.2.1.val; cases e; exact h).at (Below.refl _ _) (k := k) hlta
              cases hvaa
              have Daa0 : Hid (w10.cell? ⟨baa, oaa + k * 4, none⟩ = some (.int .i64 yaa.kind)) := later_cell bd daa0
              have Daa1 : Hid (w10.cell? ⟨baa, oaa + k * 4 + 1, none⟩ = some (.int .i64 yaa.num)) := later_cell bd daa1
              have Daa2 : Hid (w10.cell? ⟨baa, oaa + k * 4 + 2, none⟩ = some (.string yaa.name)) := later_cell bd daa2
              have Daa3 : Hid (w10.cell? ⟨baa, oaa + k * 4 + 3, none⟩ = some (.slice saa yaa.kids.length kaa)) := later_cell bd daa3
              have Vaa : NVal w10 (fun _ => True) (.agg #[.int .i64 yaa.kind, .int .i64 yaa.num, .string yaa.name, .slice saa yaa.kids.length kaa]) yaa := ⟨saa, kaa, rfl, hykaa, hynaa, hsyaa.below intGood bd⟩
              clear daa0 daa1 daa2 daa3 hykaa hynaa hsyaa
              obtain rfl : yhh = yaa := by rw [hxa k hlt, hyhh] at hyaa; cases hyaa; rfl
              have A0 : Hid (w10.cell? ⟨Bha, 0, none⟩ = some (.slice (some ⟨baa, oaa, none⟩) ha.nodes.length cha)) := S10.out.2.2.1.c0
              have HA := hid (node_later Vaa VH.out rfl)
              clear Vaa hyaa
              clear bd hyhh
              refine (wpIn_wide (n := 9)).1 ?_
              refine wpIn_region_held (fun W => Below w10.heap.size w10 W) (by kernel_rfl) ?_
              rw [hw5]
              clear hw5
              refine wpAnyHF_takeD (i := 0) 105 (v := .int .i64 0) rfl rfl rfl (by kernel_rfl) (by kernel_rfl) (by kernel_rfl) (fun _ _ _ h => h) ⟨.inl ⟨rfl, fun W hW => by simp [execOp, go_sem]⟩, fun W => rfl⟩ (Below.refl _ _) ?_
              refine wpAnyHF_takeD (i := 1) 106 (v := .bool true) rfl rfl rfl (by kernel_rfl) (by kernel_rfl) (by kernel_rfl) (fun _ _ _ h => h) ⟨.inl ⟨rfl, fun W hW => by simp [execOp, go_sem]⟩, fun W => rfl⟩ (Below.refl _ _) ?_
              refine wpAnyHF_takeD (i := 2) 107 (v := .bool true) rfl rfl rfl (by kernel_rfl) (by kernel_rfl) (by kernel_rfl) (fun _ _ _ h => h) ⟨.inl ⟨rfl, fun W hW => by simp [execOp, go_sem]⟩, fun W => rfl⟩ (Below.refl _ _) ?_
              simp only [Act.put, List.setIfInBounds_toArray, List.set_cons_zero, List.set_cons_succ]
              refine wpAnyHF_takeD (i := 3) 108 (v := .pointer (some ⟨Bha, 0, none⟩)) rfl rfl rfl (by kernel_rfl) (by kernel_rfl) (by kernel_rfl) (fun _ _ _ h => h) ⟨.inl ⟨rfl, fun W hW => by simp [execOp, go_sem]⟩, fun W => rfl⟩ (Below.refl _ _) ?_
              refine wpAnyHF_takeD (i := 4) 109 (v := .slice (some ⟨baa, oaa, none⟩) ha.nodes.length cha) rfl rfl rfl (by kernel_rfl) (by kernel_rfl) (by kernel_rfl) (fun _ _ _ h => h) ⟨.inl ⟨rfl, fun W hW => by have m0 := later_cell hW A0.out; simp [execOp, go_sem, m0]⟩, fun W => rfl⟩ (Below.refl _ _) ?_
              refine wpAnyHF_takeD (i := 5) 110 (v := .int .i64 k) rfl rfl rfl (by kernel_rfl) (by kernel_rfl) (by kernel_rfl) (fun _ _ _ h => h) ⟨.inl ⟨rfl, fun W hW => by simp [execOp, go_sem]⟩, fun W => rfl⟩ (Below.refl _ _) ?_
              simp only [Act.put, List.setIfInBounds_toArray, List.set_cons_zero, List.set_cons_succ]
              refine wpAnyHF_takeD (i := 6) 111 (v := .pointer (some ⟨baa, oaa + k * 4, none⟩)) rfl rfl rfl (by kernel_rfl) (by kernel_rfl) (by kernel_rfl) (fun _ _ _ h => h) ⟨.inl ⟨rfl, fun W hW => by simp [execOp, go_sem, hlta]⟩, fun W => rfl⟩ (Below.refl _ _) ?_
              refine wpAnyHF_takeD (i := 7) 112 (v := .agg #[.int .i64 yhh.kind, .int .i64 yhh.num, .string yhh.name, .slice saa yhh.kids.length kaa]) rfl rfl rfl (by kernel_rfl) (by kernel_rfl) (by kernel_rfl) (fun _ _ _ h => h) ⟨.inl ⟨rfl, fun W hW => by have m0 := later_cell hW Daa0.out; have m1 := later_cell hW Daa1.out; have m2 := later_cell hW Daa2.out; have m3 := later_cell hW Daa3.out; simp [execOp, go_sem, m0, m1, m2, m3]⟩, fun W => rfl⟩ (Below.refl _ _) ?_
              refine wpAnyHF_takeD (i := 8) 113 (v := .pointer (some ⟨w.heap.size, 0, none⟩)) rfl rfl rfl (by kernel_rfl) (by kernel_rfl) (by kernel_rfl) (fun _ _ _ h => h) ⟨.inl ⟨rfl, fun W hW => by simp [execOp, go_sem]⟩, fun W => rfl⟩ (Below.refl _ _) ?_
              simp only [Act.put, List.setIfInBounds_toArray, List.set_cons_zero, List.set_cons_succ]
              refine wpAnyHF_takeD (i := 9) 114 (v := .slice (some ⟨bhh, ohh, none⟩) h.nodes.length sc) rfl rfl rfl (by kernel_rfl) (by kernel_rfl) (by kernel_rfl) (fun _ _ _ h => h) ⟨.inl ⟨rfl, fun W hW => by have m0 := later_cell hW C0.out; simp [execOp, go_sem, m0]⟩, fun W => rfl⟩ (Below.refl _ _) ?_
              refine wpAnyHF_takeD (i := 10) 115 (v := .int .i64 k) rfl rfl rfl (by kernel_rfl) (by kernel_rfl) (by kernel_rfl) (fun _ _ _ h => h) ⟨.inl ⟨rfl, fun W hW => by simp [execOp, go_sem]⟩, fun W => rfl⟩ (Below.refl _ _) ?_
              refine wpAnyHF_takeD (i := 11) 116 (v := .pointer (some ⟨bhh, ohh + k * 4, none⟩)) rfl rfl rfl (by kernel_rfl) (by kernel_rfl) (by kernel_rfl) (fun _ _ _ h => h) ⟨.inl ⟨rfl, fun W hW => by simp [execOp, go_sem, hlt]⟩, fun W => rfl⟩ (Below.refl _ _) ?_
              simp only [Act.put, List.setIfInBounds_toArray, List.set_cons_zero, List.set_cons_succ]
              refine wpAnyHF_takeD (i := 12) 117 (v := .agg #[.int .i64 yhh.kind, .int .i64 yhh.num, .string yhh.name, .slice shh yhh.kids.length khh]) rfl rfl rfl (by kernel_rfl) (by kernel_rfl) (by kernel_rfl) (fun _ _ _ h => h) ⟨.inl ⟨rfl, fun W hW => by have m0 := later_cell hW Dhh0.out; have m1 := later_cell hW Dhh1.out; have m2 := later_cell hW Dhh2.out; have m3 := later_cell hW Dhh3.out; simp [execOp, go_sem, m0, m1, m2, m3]⟩, fun W => rfl⟩ (Below.refl _ _) ?_
              refine wpAnyHF_one (i := 13) (by kernel_rfl) rfl rfl ?_
              refine wpIn_callD 118 rfl (P := Try.prog) (f := 11) (args := #[.agg #[.int .i64 yhh.kind, .int .i64 yhh.num, .string yhh.name, .slice saa yhh.kids.length kaa], .agg #[.int .i64 yhh.kind, .int .i64 yhh.num, .string yhh.name, .slice shh yhh.kids.length khh]]) (by simp [execOp, resolve, invoke, go_sem]) ?_
              refine (HA.out _ (Below.refl _ _)).mono ?_
              rintro e w11 ⟨rfl, b11'⟩
              have b11 := b11'
              clear b11'
              refine ⟨_, rfl, b11, ?_⟩
              simp only [Act.put, List.setIfInBounds_toArray, List.set_cons_zero, List.set_cons_succ]
              refine wpAnyHF_takeD (i := 14) 119 (v := .bool false) rfl rfl rfl (by kernel_rfl) (by kernel_rfl) (by kernel_rfl) (fun _ _ _ h => h) ⟨.inl ⟨rfl, fun W hW => by simp [execOp, go_sem]⟩, fun W => rfl⟩ b11 ?_
              refine wpAnyHF_takeD (i := 15) 120 (v := .bool false) rfl rfl rfl (by kernel_rfl) (by kernel_rfl) (by kernel_rfl) (fun _ _ _ h => h) ⟨.inl ⟨rfl, fun W hW => by simp [execOp, go_sem]⟩, fun W => rfl⟩ b11 ?_
              refine wpAnyHF_takeD (i := 16) 121 (v := .bool false) rfl rfl rfl (by kernel_rfl) (by kernel_rfl) (by kernel_rfl) (fun _ _ _ h => h) ⟨.inl ⟨rfl, fun W hW => by simp [execOp, go_sem]⟩, fun W => rfl⟩ b11 ?_
              simp only [Act.put, List.setIfInBounds_toArray, List.set_cons_zero, List.set_cons_succ]
              refine wpAnyHF_takeD (i := 17) 122 (v := .int .i64 es) rfl rfl rfl (by kernel_rfl) (by kernel_rfl) (by kernel_rfl) (fun _ _ _ h => h) ⟨.inl ⟨rfl, fun W hW => by simp [execOp, go_sem]⟩, fun W => rfl⟩ b11 ?_
              refine wpAnyHF_takeD (i := 18) 123 (v := .bool false) rfl rfl rfl (by kernel_rfl) (by kernel_rfl) (by kernel_rfl) (fun _ _ _ h => h) ⟨.inl ⟨rfl, fun W hW => by simp [execOp, go_sem, hes]⟩, fun W => rfl⟩ b11 ?_
              refine wpAnyHF_takeD (i := 19) 124 (v := .bool false) rfl rfl rfl (by kernel_rfl) (by kernel_rfl) (by kernel_rfl) (fun _ _ _ h => h) ⟨.inl ⟨rfl, fun W hW => by simp [execOp, go_sem]⟩, fun W => rfl⟩ b11 ?_
              simp only [Act.put, List.setIfInBounds_toArray, List.set_cons_zero, List.set_cons_succ]
              refine wpAnyHF_takeD (i := 20) 125 (v := undef) rfl rfl rfl (by kernel_rfl) (by kernel_rfl) (by kernel_rfl) (fun _ _ _ h => h) ⟨.inr ⟨rfl, rfl⟩, fun W => rfl⟩ b11 ?_
              refine wpAnyHF_takeD (i := 21) 126 (v := undef) rfl rfl rfl (by kernel_rfl) (by kernel_rfl) (by kernel_rfl) (fun _ _ _ h => h) ⟨.inr ⟨rfl, rfl⟩, fun W => rfl⟩ b11 ?_
              refine wpAnyHF_takeD (i := 22) 127 (v := undef) rfl rfl rfl (by kernel_rfl) (by kernel_rfl) (by kernel_rfl) (fun _ _ _ h => h) ⟨.inr ⟨rfl, rfl⟩, fun W => rfl⟩ b11 ?_
              simp only [Act.put, List.setIfInBounds_toArray, List.set_cons_zero, List.set_cons_succ]
              refine wpAnyHF_takeD (i := 23) 128 (v := .bool false) rfl rfl rfl (by kernel_rfl) (by kernel_rfl) (by kernel_rfl) (fun _ _ _ h => h) ⟨.inl ⟨rfl, fun W hW => by simp [execOp, go_sem]⟩, fun W => rfl⟩ b11 ?_
              refine wpAnyHF_takeD (i := 24) 129 (v := .bool false) rfl rfl rfl (by kernel_rfl) (by kernel_rfl) (by kernel_rfl) (fun _ _ _ h => h) ⟨.inl ⟨rfl, fun W hW => by simp [execOp, go_sem]⟩, fun W => rfl⟩ b11 ?_
              refine wpAnyHF_takeD (i := 25) 130 (v := undef) rfl rfl rfl (by kernel_rfl) (by kernel_rfl) (by kernel_rfl) (fun _ _ _ h => h) ⟨.inr ⟨rfl, rfl⟩, fun W => rfl⟩ b11 ?_
              simp only [Act.put, List.setIfInBounds_toArray, List.set_cons_zero, List.set_cons_succ]
              refine wpAnyHF_takeD (i := 26) 131 (v := undef) rfl rfl rfl (by kernel_rfl) (by kernel_rfl) (by kernel_rfl) (fun _ _ _ h => h) ⟨.inr ⟨rfl, rfl⟩, fun W => rfl⟩ b11 ?_
              refine wpAnyHF_takeD (i := 27) 132 (v := undef) rfl rfl rfl (by kernel_rfl) (by kernel_rfl) (by kernel_rfl) (fun _ _ _ h => h) ⟨.inr ⟨rfl, rfl⟩, fun W => rfl⟩ b11 ?_
              refine wpAnyHF_takeD (i := 28) 133 (v := undef) rfl rfl rfl (by kernel_rfl) (by kernel_rfl) (by kernel_rfl) (fun _ _ _ h => h) ⟨.inr ⟨rfl, rfl⟩, fun W => rfl⟩ b11 ?_
              simp only [Act.put, List.setIfInBounds_toArray, List.set_cons_zero, List.set_cons_succ]
              refine wpAnyHF_takeD (i := 29) 134 (v := undef) rfl rfl rfl (by kernel_rfl) (by kernel_rfl) (by kernel_rfl) (fun _ _ _ h => h) ⟨.inr ⟨rfl, rfl⟩, fun W => rfl⟩ b11 ?_
              refine wpAnyHF_takeD (i := 30) 135 (v := undef) rfl rfl rfl (by kernel_rfl) (by kernel_rfl) (by kernel_rfl) (fun _ _ _ h => h) ⟨.inr ⟨rfl, rfl⟩, fun W => rfl⟩ b11 ?_
              refine wpAnyHF_takeD (i := 31) 136 (v := undef) rfl rfl rfl (by kernel_rfl) (by kernel_rfl) (by kernel_rfl) (fun _ _ _ h => h) ⟨.inr ⟨rfl, rfl⟩, fun W => rfl⟩ b11 ?_
              simp only [Act.put, List.setIfInBounds_toArray, List.set_cons_zero, List.set_cons_succ]
              refine wpAnyHF_takeD (i := 32) 137 (v := undef) rfl rfl rfl (by kernel_rfl) (by kernel_rfl) (by kernel_rfl) (fun _ _ _ h => h) ⟨.inr ⟨rfl, rfl⟩, fun W => rfl⟩ b11 ?_
              refine wpAnyHF_takeD (i := 33) 138 (v := undef) rfl rfl rfl (by kernel_rfl) (by kernel_rfl) (by kernel_rfl) (fun _ _ _ h => h) ⟨.inr ⟨rfl, rfl⟩, fun W => rfl⟩ b11 ?_
              refine wpAnyHF_takeD (i := 34) 139 (v := undef) rfl rfl rfl (by kernel_rfl) (by kernel_rfl) (by kernel_rfl) (fun _ _ _ h => h) ⟨.inr ⟨rfl, rfl⟩, fun W => rfl⟩ b11 ?_
              simp only [Act.put, List.setIfInBounds_toArray, List.set_cons_zero, List.set_cons_succ]
              refine wpAnyHF_off 140 (i := 35) (by kernel_rfl) rfl rfl rfl (fun _ => trivial) b11 ?_
              simp only [Act.put, List.setIfInBounds_toArray, List.set_cons_zero, List.set_cons_succ]
              refine wpAnyHF_takeD (i := 36) 141 (v := undef) rfl rfl rfl (by kernel_rfl) (by kernel_rfl) (by kernel_rfl) (fun _ _ _ h => h) ⟨.inr ⟨rfl, rfl⟩, fun W => rfl⟩ b11 ?_
              refine wpAnyHF_takeD (i := 37) 142 (v := .bool false) rfl rfl rfl (by kernel_rfl) (by kernel_rfl) (by kernel_rfl) (fun _ _ _ h => h) ⟨.inl ⟨rfl, fun W hW => by simp [execOp, go_sem]⟩, fun W => rfl⟩ b11 ?_
              refine wpAnyHF_takeD (i := 38) 143 (v := .bool false) rfl rfl rfl (by kernel_rfl) (by kernel_rfl) (by kernel_rfl) (fun _ _ _ h => h) ⟨.inl ⟨rfl, fun W hW => by simp [execOp, go_sem]⟩, fun W => rfl⟩ b11 ?_
              simp only [Act.put, List.setIfInBounds_toArray, List.set_cons_zero, List.set_cons_succ]
              refine wpAnyHF_done (by kernel_rfl) ?_ _
              have SQ := hid (And.intro (S10.out.1.more b11) (And.intro (S10.out.2.1.more b11) (And.intro (S10.out.2.2.1.more b11) (S10.out.2.2.2.more b11))))
              gi_wp2
              go_wp2_with fail
              go_roundw
              case rel => exact ⟨k + 1, by omega, by go_num, SQ.out⟩
              case measure => simp [intOf]; omega
          · have hea : (ea == 0) = false := by simpa using he
            by_cases he2 : es = 0
            · subst he2
              obtain ⟨q, rfl, hq, hls, _, hxs⟩ := LS.out rfl
              by_cases hkq : k = q
              · subst hkq
                obtain ⟨w10, hw5⟩ : ∃ z, wo.drew = z := ⟨_, rfl⟩
                have bd : Below wo.heap.size wo w10 := by rw [← hw5]; exact (Below.refl _ _).drew
                have BD := hid bd
                have S10 := hid (And.intro (SR.out.1.more bd) (And.intro (SR.out.2.1.more bd) (And.intro (SR.out.2.2.1.more bd) (SR.out.2.2.2.more bd))))
                obtain ⟨bhh, ohh, chh', yhh, shh, khh, hvhh, hyhh, hykhh, hynhh, hsyhh, dhh0, dhh1, dhh2, dhh3⟩ := (show NSl wo (fun _ => True) (.slice sa h.nodes.length sc) h.nodes from by obtain ⟨a, c, e, _, h⟩ := SR.out.1.val; cases e; exact h).at (Below.refl _ _) (k := k) hlt
                cases hvhh
                have Dhh0 : Hid (w10.cell? ⟨bhh, ohh + k * 4, none⟩ = some (.int .i64 yhh.kind)) := later_cell bd dhh0
                have Dhh1 : Hid (w10.cell? ⟨bhh, ohh + k * 4 + 1, none⟩ = some (.int .i64 yhh.num)) := later_cell bd dhh1
                have Dhh2 : Hid (w10.cell? ⟨bhh, ohh + k * 4 + 2, none⟩ = some (.string yhh.name)) := later_cell bd dhh2
                have Dhh3 : Hid (w10.cell? ⟨bhh, ohh + k * 4 + 3, none⟩ = some (.slice shh yhh.kids.length khh)) := later_cell bd dhh3
                have Vhh : NVal w10 (fun _ => True) (.agg #[.int .i64 yhh.kind, .int .i64 yhh.num, .string yhh.name, .slice shh yhh.kids.length khh]) yhh := ⟨shh, khh, rfl, hykhh, hynhh, hsyhh.below intGood bd⟩
                clear dhh0 dhh1 dhh2 dhh3 hykhh hynhh hsyhh
                have VH := hid Vhh
                clear Vhh
                have C0 : Hid (w10.cell? ⟨w.heap.size, 0, none⟩ = some (.slice (some ⟨bhh, ohh, none⟩) h.nodes.length sc)) := S10.out.1.c0
                clear bd hyhh
                refine (wpIn_wide (n := 9)).1 ?_
                refine wpIn_region_held (fun W => Below w10.heap.size w10 W) (by kernel_rfl) ?_
                rw [hw5]
                clear hw5
                refine wpAnyHF_takeD (i := 0) 105 (v := .int .i64 ea) rfl rfl rfl (by kernel_rfl) (by kernel_rfl) (by kernel_rfl) (fun _ _ _ h => h) ⟨.inl ⟨rfl, fun W hW => by simp [execOp, go_sem]⟩, fun W => rfl⟩ (Below.refl _ _) ?_
                refine wpAnyHF_takeD (i := 1) 106 (v := .bool false) rfl rfl rfl (by kernel_rfl) (by kernel_rfl) (by kernel_rfl) (fun _ _ _ h => h) ⟨.inl ⟨rfl, fun W hW => by simp [execOp, go_sem, hea]⟩, fun W => rfl⟩ (Below.refl _ _) ?_
                refine wpAnyHF_takeD (i := 2) 107 (v := .bool false) rfl rfl rfl (by kernel_rfl) (by kernel_rfl) (by kernel_rfl) (fun _ _ _ h => h) ⟨.inl ⟨rfl, fun W hW => by simp [execOp, go_sem]⟩, fun W => rfl⟩ (Below.refl _ _) ?_
                simp only [Act.put, List.setIfInBounds_toArray, List.set_cons_zero, List.set_cons_succ]
                refine wpAnyHF_takeD (i := 3) 108 (v := undef) rfl rfl rfl (by kernel_rfl) (by kernel_rfl) (by kernel_rfl) (fun _ _ _ h => h) ⟨.inr ⟨rfl, rfl⟩, fun W => rfl⟩ (Below.refl _ _) ?_
                refine wpAnyHF_takeD (i := 4) 109 (v := undef) rfl rfl rfl (by kernel_rfl) (by kernel_rfl) (by kernel_rfl) (fun _ _ _ h => h) ⟨.inr ⟨rfl, rfl⟩, fun W => rfl⟩ (Below.refl _ _) ?_
                refine wpAnyHF_takeD (i := 5) 110 (v := undef) rfl rfl rfl (by kernel_rfl) (by kernel_rfl) (by kernel_rfl) (fun _ _ _ h => h) ⟨.inr ⟨rfl, rfl⟩, fun W => rfl⟩ (Below.refl _ _) ?_
                simp only [Act.put, List.setIfInBounds_toArray, List.set_cons_zero, List.set_cons_succ]
                refine wpAnyHF_takeD (i := 6) 111 (v := undef) rfl rfl rfl (by kernel_rfl) (by kernel_rfl) (by kernel_rfl) (fun _ _ _ h => h) ⟨.inr ⟨rfl, rfl⟩, fun W => rfl⟩ (Below.refl _ _) ?_
                refine wpAnyHF_takeD (i := 7) 112 (v := undef) rfl rfl rfl (by kernel_rfl) (by kernel_rfl) (by kernel_rfl) (fun _ _ _ h => h) ⟨.inr ⟨rfl, rfl⟩, fun W => rfl⟩ (Below.refl _ _) ?_
                refine wpAnyHF_takeD (i := 8) 113 (v := undef) rfl rfl rfl (by kernel_rfl) (by kernel_rfl) (by kernel_rfl) (fun _ _ _ h => h) ⟨.inr ⟨rfl, rfl⟩, fun W => rfl⟩ (Below.refl _ _) ?_
                simp only [Act.put, List.setIfInBounds_toArray, List.set_cons_zero, List.set_cons_succ]
                refine wpAnyHF_takeD (i := 9) 114 (v := undef) rfl rfl rfl (by kernel_rfl) (by kernel_rfl) (by kernel_rfl) (fun _ _ _ h => h) ⟨.inr ⟨rfl, rfl⟩, fun W => rfl⟩ (Below.refl _ _) ?_
                refine wpAnyHF_takeD (i := 10) 115 (v := undef) rfl rfl rfl (by kernel_rfl) (by kernel_rfl) (by kernel_rfl) (fun _ _ _ h => h) ⟨.inr ⟨rfl, rfl⟩, fun W => rfl⟩ (Below.refl _ _) ?_
                refine wpAnyHF_takeD (i := 11) 116 (v := undef) rfl rfl rfl (by kernel_rfl) (by kernel_rfl) (by kernel_rfl) (fun _ _ _ h => h) ⟨.inr ⟨rfl, rfl⟩, fun W => rfl⟩ (Below.refl _ _) ?_
                simp only [Act.put, List.setIfInBounds_toArray, List.set_cons_zero, List.set_cons_succ]
                refine wpAnyHF_takeD (i := 12) 117 (v := undef) rfl rfl rfl (by kernel_rfl) (by kernel_rfl) (by kernel_rfl) (fun _ _ _ h => h) ⟨.inr ⟨rfl, rfl⟩, fun W => rfl⟩ (Below.refl _ _) ?_
                simp only [Act.put, List.setIfInBounds_toArray, List.set_cons_zero, List.set_cons_succ]
                refine wpAnyHF_off 118 (i := 13) (by kernel_rfl) rfl rfl rfl (fun _ => trivial) (Below.refl _ _) ?_
                simp only [Act.put, List.setIfInBounds_toArray, List.set_cons_zero, List.set_cons_succ]
                refine wpAnyHF_takeD (i := 14) 119 (v := undef) rfl rfl rfl (by kernel_rfl) (by kernel_rfl) (by kernel_rfl) (fun _ _ _ h => h) ⟨.inr ⟨rfl, rfl⟩, fun W => rfl⟩ (Below.refl _ _) ?_
                refine wpAnyHF_takeD (i := 15) 120 (v := .bool false) rfl rfl rfl (by kernel_rfl) (by kernel_rfl) (by kernel_rfl) (fun _ _ _ h => h) ⟨.inl ⟨rfl, fun W hW => by simp [execOp, go_sem]⟩, fun W => rfl⟩ (Below.refl _ _) ?_
                refine wpAnyHF_takeD (i := 16) 121 (v := .bool false) rfl rfl rfl (by kernel_rfl) (by kernel_rfl) (by kernel_rfl) (fun _ _ _ h => h) ⟨.inl ⟨rfl, fun W hW => by simp [execOp, go_sem]⟩, fun W => rfl⟩ (Below.refl _ _) ?_
                simp only [Act.put, List.setIfInBounds_toArray, List.set_cons_zero, List.set_cons_succ]
                refine wpAnyHF_takeD (i := 17) 122 (v := .int .i64 0) rfl rfl rfl (by kernel_rfl) (by kernel_rfl) (by kernel_rfl) (fun _ _ _ h => h) ⟨.inl ⟨rfl, fun W hW => by simp [execOp, go_sem]⟩, fun W => rfl⟩ (Below.refl _ _) ?_
                refine wpAnyHF_takeD (i := 18) 123 (v := .bool true) rfl rfl rfl (by kernel_rfl) (by kernel_rfl) (by kernel_rfl) (fun _ _ _ h => h) ⟨.inl ⟨rfl, fun W hW => by simp [execOp, go_sem]⟩, fun W => rfl⟩ (Below.refl _ _) ?_
                refine wpAnyHF_takeD (i := 19) 124 (v := .bool true) rfl rfl rfl (by kernel_rfl) (by kernel_rfl) (by kernel_rfl) (fun _ _ _ h => h) ⟨.inl ⟨rfl, fun W hW => by simp [execOp, go_sem]⟩, fun W => rfl⟩ (Below.refl _ _) ?_
                simp only [Act.put, List.setIfInBounds_toArray, List.set_cons_zero, List.set_cons_succ]
                refine wpAnyHF_takeD (i := 20) 125 (v := .int .i64 k) rfl rfl rfl (by kernel_rfl) (by kernel_rfl) (by kernel_rfl) (fun _ _ _ h => h) ⟨.inl ⟨rfl, fun W hW => by simp [execOp, go_sem]⟩, fun W => rfl⟩ (Below.refl _ _) ?_
                refine wpAnyHF_takeD (i := 21) 126 (v := .int .i64 k) rfl rfl rfl (by kernel_rfl) (by kernel_rfl) (by kernel_rfl) (fun _ _ _ h => h) ⟨.inl ⟨rfl, fun W hW => by simp [execOp, go_sem]⟩, fun W => rfl⟩ (Below.refl _ _) ?_
                refine wpAnyHF_takeD (i := 22) 127 (v := .bool false) rfl rfl rfl (by kernel_rfl) (by kernel_rfl) (by kernel_rfl) (fun _ _ _ h => h) ⟨.inl ⟨rfl, fun W hW => by simp [execOp, go_sem]⟩, fun W => rfl⟩ (Below.refl _ _) ?_
                simp only [Act.put, List.setIfInBounds_toArray, List.set_cons_zero, List.set_cons_succ]
                refine wpAnyHF_takeD (i := 23) 128 (v := .bool false) rfl rfl rfl (by kernel_rfl) (by kernel_rfl) (by kernel_rfl) (fun _ _ _ h => h) ⟨.inl ⟨rfl, fun W hW => by simp [execOp, go_sem]⟩, fun W => rfl⟩ (Below.refl _ _) ?_
                refine wpAnyHF_takeD (i := 24) 129 (v := .bool false) rfl rfl rfl (by kernel_rfl) (by kernel_rfl) (by kernel_rfl) (fun _ _ _ h => h) ⟨.inl ⟨rfl, fun W hW => by simp [execOp, go_sem]⟩, fun W => rfl⟩ (Below.refl _ _) ?_
                refine wpAnyHF_takeD (i := 25) 130 (v := undef) rfl rfl rfl (by kernel_rfl) (by kernel_rfl) (by kernel_rfl) (fun _ _ _ h => h) ⟨.inr ⟨rfl, rfl⟩, fun W => rfl⟩ (Below.refl _ _) ?_
                simp only [Act.put, List.setIfInBounds_toArray, List.set_cons_zero, List.set_cons_succ]
                refine wpAnyHF_takeD (i := 26) 131 (v := undef) rfl rfl rfl (by kernel_rfl) (by kernel_rfl) (by kernel_rfl) (fun _ _ _ h => h) ⟨.inr ⟨rfl, rfl⟩, fun W => rfl⟩ (Below.refl _ _) ?_
                refine wpAnyHF_takeD (i := 27) 132 (v := undef) rfl rfl rfl (by kernel_rfl) (by kernel_rfl) (by kernel_rfl) (fun _ _ _ h => h) ⟨.inr ⟨rfl, rfl⟩, fun W => rfl⟩ (Below.refl _ _) ?_
                refine wpAnyHF_takeD (i := 28) 133 (v := undef) rfl rfl rfl (by kernel_rfl) (by kernel_rfl) (by kernel_rfl) (fun _ _ _ h => h) ⟨.inr ⟨rfl, rfl⟩, fun W => rfl⟩ (Below.refl _ _) ?_
                simp only [Act.put, List.setIfInBounds_toArray, List.set_cons_zero, List.set_cons_succ]
                refine wpAnyHF_takeD (i := 29) 134 (v := undef) rfl rfl rfl (by kernel_rfl) (by kernel_rfl) (by kernel_rfl) (fun _ _ _ h => h) ⟨.inr ⟨rfl, rfl⟩, fun W => rfl⟩ (Below.refl _ _) ?_
                refine wpAnyHF_takeD (i := 30) 135 (v := undef) rfl rfl rfl (by kernel_rfl) (by kernel_rfl) (by kernel_rfl) (fun _ _ _ h => h) ⟨.inr ⟨rfl, rfl⟩, fun W => rfl⟩ (Below.refl _ _) ?_
                refine wpAnyHF_takeD (i := 31) 136 (v := undef) rfl rfl rfl (by kernel_rfl) (by kernel_rfl) (by kernel_rfl) (fun _ _ _ h => h) ⟨.inr ⟨rfl, rfl⟩, fun W => rfl⟩ (Below.refl _ _) ?_
                simp only [Act.put, List.setIfInBounds_toArray, List.set_cons_zero, List.set_cons_succ]
                refine wpAnyHF_takeD (i := 32) 137 (v := undef) rfl rfl rfl (by kernel_rfl) (by kernel_rfl) (by kernel_rfl) (fun _ _ _ h => h) ⟨.inr ⟨rfl, rfl⟩, fun W => rfl⟩ (Below.refl _ _) ?_
                refine wpAnyHF_takeD (i := 33) 138 (v := undef) rfl rfl rfl (by kernel_rfl) (by kernel_rfl) (by kernel_rfl) (fun _ _ _ h => h) ⟨.inr ⟨rfl, rfl⟩, fun W => rfl⟩ (Below.refl _ _) ?_
                refine wpAnyHF_takeD (i := 34) 139 (v := undef) rfl rfl rfl (by kernel_rfl) (by kernel_rfl) (by kernel_rfl) (fun _ _ _ h => h) ⟨.inr ⟨rfl, rfl⟩, fun W => rfl⟩ (Below.refl _ _) ?_
                simp only [Act.put, List.setIfInBounds_toArray, List.set_cons_zero, List.set_cons_succ]
                refine wpAnyHF_off 140 (i := 35) (by kernel_rfl) rfl rfl rfl (fun _ => trivial) (Below.refl _ _) ?_
                simp only [Act.put, List.setIfInBounds_toArray, List.set_cons_zero, List.set_cons_succ]
                refine wpAnyHF_takeD (i := 36) 141 (v := undef) rfl rfl rfl (by kernel_rfl) (by kernel_rfl) (by kernel_rfl) (fun _ _ _ h => h) ⟨.inr ⟨rfl, rfl⟩, fun W => rfl⟩ (Below.refl _ _) ?_
                refine wpAnyHF_takeD (i := 37) 142 (v := .bool false) rfl rfl rfl (by kernel_rfl) (by kernel_rfl) (by kernel_rfl) (fun _ _ _ h => h) ⟨.inl ⟨rfl, fun W hW => by simp [execOp, go_sem]⟩, fun W => rfl⟩ (Below.refl _ _) ?_
                refine wpAnyHF_takeD (i := 38) 143 (v := .bool false) rfl rfl rfl (by kernel_rfl) (by kernel_rfl) (by kernel_rfl) (fun _ _ _ h => h) ⟨.inl ⟨rfl, fun W hW => by simp [execOp, go_sem]⟩, fun W => rfl⟩ (Below.refl _ _) ?_
                simp only [Act.put, List.setIfInBounds_toArray, List.set_cons_zero, List.set_cons_succ]
                refine wpAnyHF_done (by kernel_rfl) ?_ _
                have SQ := S10
                gi_wp2
                go_wp2_with fail
                go_roundw
                case rel => exact ⟨k + 1, by omega, by go_num, SQ.out⟩
                case measure => simp [intOf]; omega
              · have hne : ((k : Int) != q) = true := by simp; omega
                obtain ⟨w10, hw5⟩ : ∃ z, wo.drew = z := ⟨_, rfl⟩
                have bd : Below wo.heap.size wo w10 := by rw [← hw5]; exact (Below.refl _ _).drew
                have BD := hid bd
                have S10 := hid (And.intro (SR.out.1.more bd) (And.intro (SR.out.2.1.more bd) (And.intro (SR.out.2.2.1.more bd) (SR.out.2.2.2.more bd))))
                obtain ⟨bhh, ohh, chh', yhh, shh, khh, hvhh, hyhh, hykhh, hynhh, hsyhh, dhh0, dhh1, dhh2, dhh3⟩ := (show NSl wo (fun _ => True) (.slice sa h.nodes.length sc) h.nodes from by obtain ⟨a, c, e, _, h⟩ := SR.out.1.val; cases e; exact h).at (Below.refl _ _) (k := k) hlt
                cases hvhh
                have Dhh0 : Hid (w10.cell? ⟨bhh, ohh + k * 4, none⟩ = some (.int .i64 yhh.kind)) := later_cell bd dhh0
                have Dhh1 : Hid (w10.cell? ⟨bhh, ohh + k * 4 + 1, none⟩ = some (.int .i64 yhh.num)) := later_cell bd dhh1
                have Dhh2 : Hid (w10.cell? ⟨bhh, ohh + k * 4 + 2, none⟩ = some (.string yhh.name)) := later_cell bd dhh2
                have Dhh3 : Hid (w10.cell? ⟨bhh, ohh + k * 4 + 3, none⟩ = some (.slice shh yhh.kids.length khh)) := later_cell bd dhh3
                have Vhh : NVal w10 (fun _ => True) (.agg #[.int .i64 yhh.kind, .int .i64 yhh.num, .string yhh.name, .slice shh yhh.kids.length khh]) yhh := ⟨shh, khh, rfl, hykhh, hynhh, hsyhh.below intGood bd⟩
                clear dhh0 dhh1 dhh2 dhh3 hykhh hynhh hsyhh
                have VH := hid Vhh
                clear Vhh
                have C0 : Hid (w10.cell? ⟨w.heap.size, 0, none⟩ = some (.slice (some ⟨bhh, ohh, none⟩) h.nodes.length sc)) := S10.out.1.c0
                have hlts : k < hs.nodes.length := by omega
                obtain ⟨bss, oss, css', yss, sss, kss, hvss, hyss, hykss, hynss, hsyss, dss0, dss1, dss2, dss3⟩ := (show NSl wo (fun _ => True) (.slice ahs hs.nodes.length chs) hs.nodes from by obtain ⟨a, c, e, _, h⟩ := SR.out.2.2.2.val; cases e; exact h).at (Below.refl _ _) (k := k) hlts
                cases hvss
                have Dss0 : Hid (w10.cell? ⟨bss, oss + k * 4, none⟩ = some (.int .i64 yss.kind)) := later_cell bd dss0
                have Dss1 : Hid (w10.cell? ⟨bss, oss + k * 4 + 1, none⟩ = some (.int .i64 yss.num)) := later_cell bd dss1
                have Dss2 : Hid (w10.cell? ⟨bss, oss + k * 4 + 2, none⟩ = some (.string yss.name)) := later_cell bd dss2
                have Dss3 : Hid (w10.cell? ⟨bss, oss + k * 4 + 3, none⟩ = some (.slice sss yss.kids.length kss)) := later_cell bd dss3
                have Vss : NVal w10 (fun _ => True) (.agg #[.int .i64 yss.kind, .int .i64 yss.num, .string yss.name, .slice sss yss.kids.length kss]) yss := ⟨sss, kss, rfl, hykss, hynss, hsyss.below intGood bd⟩
                clear dss0 dss1 dss2 dss3 hykss hynss hsyss
                obtain rfl : yhh = yss := by rw [hxs k hkq, hyhh] at hyss; cases hyss; rfl
                have B0 : Hid (w10.cell? ⟨Bhs, 0, none⟩ = some (.slice (some ⟨bss, oss, none⟩) hs.nodes.length chs)) := S10.out.2.2.2.c0
                have HS := hid (node_later Vss VH.out rfl)
                clear Vss hyss
                clear bd hyhh
                refine (wpIn_wide (n := 9)).1 ?_
                refine wpIn_region_held (fun W => Below w10.heap.size w10 W) (by kernel_rfl) ?_
                rw [hw5]
                clear hw5
                refine wpAnyHF_takeD (i := 0) 105 (v := .int .i64 ea) rfl rfl rfl (by kernel_rfl) (by kernel_rfl) (by kernel_rfl) (fun _ _ _ h => h) ⟨.inl ⟨rfl, fun W hW => by simp [execOp, go_sem]⟩, fun W => rfl⟩ (Below.refl _ _) ?_
                refine wpAnyHF_takeD (i := 1) 106 (v := .bool false) rfl rfl rfl (by kernel_rfl) (by kernel_rfl) (by kernel_rfl) (fun _ _ _ h => h) ⟨.inl ⟨rfl, fun W hW => by simp [execOp, go_sem, hea]⟩, fun W => rfl⟩ (Below.refl _ _) ?_
                refine wpAnyHF_takeD (i := 2) 107 (v := .bool false) rfl rfl rfl (by kernel_rfl) (by kernel_rfl) (by kernel_rfl) (fun _ _ _ h => h) ⟨.inl ⟨rfl, fun W hW => by simp [execOp, go_sem]⟩, fun W => rfl⟩ (Below.refl _ _) ?_
                simp only [Act.put, List.setIfInBounds_toArray, List.set_cons_zero, List.set_cons_succ]
                refine wpAnyHF_takeD (i := 3) 108 (v := undef) rfl rfl rfl (by kernel_rfl) (by kernel_rfl) (by kernel_rfl) (fun _ _ _ h => h) ⟨.inr ⟨rfl, rfl⟩, fun W => rfl⟩ (Below.refl _ _) ?_
                refine wpAnyHF_takeD (i := 4) 109 (v := undef) rfl rfl rfl (by kernel_rfl) (by kernel_rfl) (by kernel_rfl) (fun _ _ _ h => h) ⟨.inr ⟨rfl, rfl⟩, fun W => rfl⟩ (Below.refl _ _) ?_
                refine wpAnyHF_takeD (i := 5) 110 (v := undef) rfl rfl rfl (by kernel_rfl) (by kernel_rfl) (by kernel_rfl) (fun _ _ _ h => h) ⟨.inr ⟨rfl, rfl⟩, fun W => rfl⟩ (Below.refl _ _) ?_
                simp only [Act.put, List.setIfInBounds_toArray, List.set_cons_zero, List.set_cons_succ]
                refine wpAnyHF_takeD (i := 6) 111 (v := undef) rfl rfl rfl (by kernel_rfl) (by kernel_rfl) (by kernel_rfl) (fun _ _ _ h => h) ⟨.inr ⟨rfl, rfl⟩, fun W => rfl⟩ (Below.refl _ _) ?_
                refine wpAnyHF_takeD (i := 7) 112 (v := undef) rfl rfl rfl (by kernel_rfl) (by kernel_rfl) (by kernel_rfl) (fun _ _ _ h => h) ⟨.inr ⟨rfl, rfl⟩, fun W => rfl⟩ (Below.refl _ _) ?_
                refine wpAnyHF_takeD (i := 8) 113 (v := undef) rfl rfl rfl (by kernel_rfl) (by kernel_rfl) (by kernel_rfl) (fun _ _ _ h => h) ⟨.inr ⟨rfl, rfl⟩, fun W => rfl⟩ (Below.refl _ _) ?_
                simp only [Act.put, List.setIfInBounds_toArray, List.set_cons_zero, List.set_cons_succ]
                refine wpAnyHF_takeD (i := 9) 114 (v := undef) rfl rfl rfl (by kernel_rfl) (by kernel_rfl) (by kernel_rfl) (fun _ _ _ h => h) ⟨.inr ⟨rfl, rfl⟩, fun W => rfl⟩ (Below.refl _ _) ?_
                refine wpAnyHF_takeD (i := 10) 115 (v := undef) rfl rfl rfl (by kernel_rfl) (by kernel_rfl) (by kernel_rfl) (fun _ _ _ h => h) ⟨.inr ⟨rfl, rfl⟩, fun W => rfl⟩ (Below.refl _ _) ?_
                refine wpAnyHF_takeD (i := 11) 116 (v := undef) rfl rfl rfl (by kernel_rfl) (by kernel_rfl) (by kernel_rfl) (fun _ _ _ h => h) ⟨.inr ⟨rfl, rfl⟩, fun W => rfl⟩ (Below.refl _ _) ?_
                simp only [Act.put, List.setIfInBounds_toArray, List.set_cons_zero, List.set_cons_succ]
                refine wpAnyHF_takeD (i := 12) 117 (v := undef) rfl rfl rfl (by kernel_rfl) (by kernel_rfl) (by kernel_rfl) (fun _ _ _ h => h) ⟨.inr ⟨rfl, rfl⟩, fun W => rfl⟩ (Below.refl _ _) ?_
                simp only [Act.put, List.setIfInBounds_toArray, List.set_cons_zero, List.set_cons_succ]
                refine wpAnyHF_off 118 (i := 13) (by kernel_rfl) rfl rfl rfl (fun _ => trivial) (Below.refl _ _) ?_
                simp only [Act.put, List.setIfInBounds_toArray, List.set_cons_zero, List.set_cons_succ]
                refine wpAnyHF_takeD (i := 14) 119 (v := undef) rfl rfl rfl (by kernel_rfl) (by kernel_rfl) (by kernel_rfl) (fun _ _ _ h => h) ⟨.inr ⟨rfl, rfl⟩, fun W => rfl⟩ (Below.refl _ _) ?_
                refine wpAnyHF_takeD (i := 15) 120 (v := .bool false) rfl rfl rfl (by kernel_rfl) (by kernel_rfl) (by kernel_rfl) (fun _ _ _ h => h) ⟨.inl ⟨rfl, fun W hW => by simp [execOp, go_sem]⟩, fun W => rfl⟩ (Below.refl _ _) ?_
                refine wpAnyHF_takeD (i := 16) 121 (v := .bool false) rfl rfl rfl (by kernel_rfl) (by kernel_rfl) (by kernel_rfl) (fun _ _ _ h => h) ⟨.inl ⟨rfl, fun W hW => by simp [execOp, go_sem]⟩, fun W => rfl⟩ (Below.refl _ _) ?_
                simp only [Act.put, List.setIfInBounds_toArray, List.set_cons_zero, List.set_cons_succ]
                refine wpAnyHF_takeD (i := 17) 122 (v := .int .i64 0) rfl rfl rfl (by kernel_rfl) (by kernel_rfl) (by kernel_rfl) (fun _ _ _ h => h) ⟨.inl ⟨rfl, fun W hW => by simp [execOp, go_sem]⟩, fun W => rfl⟩ (Below.refl _ _) ?_
                refine wpAnyHF_takeD (i := 18) 123 (v := .bool true) rfl rfl rfl (by kernel_rfl) (by kernel_rfl) (by kernel_rfl) (fun _ _ _ h => h) ⟨.inl ⟨rfl, fun W hW => by simp [execOp, go_sem]⟩, fun W => rfl⟩ (Below.refl _ _) ?_
                refine wpAnyHF_takeD (i := 19) 124 (v := .bool true) rfl rfl rfl (by kernel_rfl) (by kernel_rfl) (by kernel_rfl) (fun _ _ _ h => h) ⟨.inl ⟨rfl, fun W hW => by simp [execOp, go_sem]⟩, fun W => rfl⟩ (Below.refl _ _) ?_
                simp only [Act.put, List.setIfInBounds_toArray, List.set_cons_zero, List.set_cons_succ]
                refine wpAnyHF_takeD (i := 20) 125 (v := .int .i64 k) rfl rfl rfl (by kernel_rfl) (by kernel_rfl) (by kernel_rfl) (fun _ _ _ h => h) ⟨.inl ⟨rfl, fun W hW => by simp [execOp, go_sem]⟩, fun W => rfl⟩ (Below.refl _ _) ?_
                refine wpAnyHF_takeD (i := 21) 126 (v := .int .i64 q) rfl rfl rfl (by kernel_rfl) (by kernel_rfl) (by kernel_rfl) (fun _ _ _ h => h) ⟨.inl ⟨rfl, fun W hW => by simp [execOp, go_sem]⟩, fun W => rfl⟩ (Below.refl _ _) ?_
                refine wpAnyHF_takeD (i := 22) 127 (v := .bool true) rfl rfl rfl (by kernel_rfl) (by kernel_rfl) (by kernel_rfl) (fun _ _ _ h => h) ⟨.inl ⟨rfl, fun W hW => by simp [execOp, go_sem, hne]⟩, fun W => rfl⟩ (Below.refl _ _) ?_
                simp only [Act.put, List.setIfInBounds_toArray, List.set_cons_zero, List.set_cons_succ]
                refine wpAnyHF_takeD (i := 23) 128 (v := .bool true) rfl rfl rfl (by kernel_rfl) (by kernel_rfl) (by kernel_rfl) (fun _ _ _ h => h) ⟨.inl ⟨rfl, fun W hW => by simp [execOp, go_sem]⟩, fun W => rfl⟩ (Below.refl _ _) ?_
                refine wpAnyHF_takeD (i := 24) 129 (v := .bool true) rfl rfl rfl (by kernel_rfl) (by kernel_rfl) (by kernel_rfl) (fun _ _ _ h => h) ⟨.inl ⟨rfl, fun W hW => by simp [execOp, go_sem]⟩, fun W => rfl⟩ (Below.refl _ _) ?_
                refine wpAnyHF_takeD (i := 25) 130 (v := .pointer (some ⟨Bhs, 0, none⟩)) rfl rfl rfl (by kernel_rfl) (by kernel_rfl) (by kernel_rfl) (fun _ _ _ h => h) ⟨.inl ⟨rfl, fun W hW => by simp [execOp, go_sem]⟩, fun W => rfl⟩ (Below.refl _ _) ?_
                simp only [Act.put, List.setIfInBounds_toArray, List.set_cons_zero, List.set_cons_succ]
                refine wpAnyHF_takeD (i := 26) 131 (v := .slice (some ⟨bss, oss, none⟩) hs.nodes.length chs) rfl rfl rfl (by kernel_rfl) (by kernel_rfl) (by kernel_rfl) (fun _ _ _ h => h) ⟨.inl ⟨rfl, fun W hW => by have m0 := later_cell hW B0.out; simp [execOp, go_sem, m0]⟩, fun W => rfl⟩ (Below.refl _ _) ?_
                refine wpAnyHF_takeD (i := 27) 132 (v := .int .i64 k) rfl rfl rfl (by kernel_rfl) (by kernel_rfl) (by kernel_rfl) (fun _ _ _ h => h) ⟨.inl ⟨rfl, fun W hW => by simp [execOp, go_sem]⟩, fun W => rfl⟩ (Below.refl _ _) ?_
                refine wpAnyHF_takeD (i := 28) 133 (v := .pointer (some ⟨bss, oss + k * 4, none⟩)) rfl rfl rfl (by kernel_rfl) (by kernel_rfl) (by kernel_rfl) (fun _ _ _ h => h) ⟨.inl ⟨rfl, fun W hW => by simp [execOp, go_sem, hlts]⟩, fun W => rfl⟩ (Below.refl _ _) ?_
                simp only [Act.put, List.setIfInBounds_toArray, List.set_cons_zero, List.set_cons_succ]
                refine wpAnyHF_takeD (i := 29) 134 (v := .agg #[.int .i64 yhh.kind, .int .i64 yhh.num, .string yhh.name, .slice sss yhh.kids.length kss]) rfl rfl rfl (by kernel_rfl) (by kernel_rfl) (by kernel_rfl) (fun _ _ _ h => h) ⟨.inl ⟨rfl, fun W hW => by have m0 := later_cell hW Dss0.out; have m1 := later_cell hW Dss1.out; have m2 := later_cell hW Dss2.out; have m3 := later_cell hW Dss3.out; simp [execOp, go_sem, m0, m1, m2, m3]⟩, fun W => rfl⟩ (Below.refl _ _) ?_
                refine wpAnyHF_takeD (i := 30) 135 (v := .pointer (some ⟨w.heap.size, 0, none⟩)) rfl rfl rfl (by kernel_rfl) (by kernel_rfl) (by kernel_rfl) (fun _ _ _ h => h) ⟨.inl ⟨rfl, fun W hW => by simp [execOp, go_sem]⟩, fun W => rfl⟩ (Below.refl _ _) ?_
                refine wpAnyHF_takeD (i := 31) 136 (v := .slice (some ⟨bhh, ohh, none⟩) h.nodes.length sc) rfl rfl rfl (by kernel_rfl) (by kernel_rfl) (by kernel_rfl) (fun _ _ _ h => h) ⟨.inl ⟨rfl, fun W hW => by have m0 := later_cell hW C0.out; simp [execOp, go_sem, m0]⟩, fun W => rfl⟩ (Below.refl _ _) ?_
                simp only [Act.put, List.setIfInBounds_toArray, List.set_cons_zero, List.set_cons_succ]
                refine wpAnyHF_takeD (i := 32) 137 (v := .int .i64 k) rfl rfl rfl (by kernel_rfl) (by kernel_rfl) (by kernel_rfl) (fun _ _ _ h => h) ⟨.inl ⟨rfl, fun W hW => by simp [execOp, go_sem]⟩, fun W => rfl⟩ (Below.refl _ _) ?_
                refine wpAnyHF_takeD (i := 33) 138 (v := .pointer (some ⟨bhh, ohh + k * 4, none⟩)) rfl rfl rfl (by kernel_rfl) (by kernel_rfl) (by kernel_rfl) (fun _ _ _ h => h) ⟨.inl ⟨rfl, fun W hW => by simp [execOp, go_sem, hlt]⟩, fun W => rfl⟩ (Below.refl _ _) ?_
                refine wpAnyHF_takeD (i := 34) 139 (v := .agg #[.int .i64 yhh.kind, .int .i64 yhh.num, .string yhh.name, .slice shh yhh.kids.length khh]) rfl rfl rfl (by kernel_rfl) (by kernel_rfl) (by kernel_rfl) (fun _ _ _ h => h) ⟨.inl ⟨rfl, fun W hW => by have m0 := later_cell hW Dhh0.out; have m1 := later_cell hW Dhh1.out; have m2 := later_cell hW Dhh2.out; have m3 := later_cell hW Dhh3.out; simp [execOp, go_sem, m0, m1, m2, m3]⟩, fun W => rfl⟩ (Below.refl _ _) ?_
                simp only [Act.put, List.setIfInBounds_toArray, List.set_cons_zero, List.set_cons_succ]
                refine wpAnyHF_one (i := 35) (by kernel_rfl) rfl rfl ?_
                refine wpIn_callD 140 rfl (P := Try.prog) (f := 11) (args := #[.agg #[.int .i64 yhh.kind, .int .i64 yhh.num, .string yhh.name, .slice sss yhh.kids.length kss], .agg #[.int .i64 yhh.kind, .int .i64 yhh.num, .string yhh.name, .slice shh yhh.kids.length khh]]) (by simp [execOp, resolve, invoke, go_sem]) ?_
                refine (HS.out _ (Below.refl _ _)).mono ?_
                rintro e w12 ⟨rfl, b12'⟩
                have b12 := b12'
                clear b12'
                refine ⟨_, rfl, b12, ?_⟩
                simp only [Act.put, List.setIfInBounds_toArray, List.set_cons_zero, List.set_cons_succ]
                refine wpAnyHF_takeD (i := 36) 141 (v := .bool false) rfl rfl rfl (by kernel_rfl) (by kernel_rfl) (by kernel_rfl) (fun _ _ _ h => h) ⟨.inl ⟨rfl, fun W hW => by simp [execOp, go_sem]⟩, fun W => rfl⟩ b12 ?_
                refine wpAnyHF_takeD (i := 37) 142 (v := .bool false) rfl rfl rfl (by kernel_rfl) (by kernel_rfl) (by kernel_rfl) (fun _ _ _ h => h) ⟨.inl ⟨rfl, fun W hW => by simp [execOp, go_sem]⟩, fun W => rfl⟩ b12 ?_
                refine wpAnyHF_takeD (i := 38) 143 (v := .bool false) rfl rfl rfl (by kernel_rfl) (by kernel_rfl) (by kernel_rfl) (fun _ _ _ h => h) ⟨.inl ⟨rfl, fun W hW => by simp [execOp, go_sem]⟩, fun W => rfl⟩ b12 ?_
                simp only [Act.put, List.setIfInBounds_toArray, List.set_cons_zero, List.set_cons_succ]
                refine wpAnyHF_done (by kernel_rfl) ?_ _
                have SQ := hid (And.intro (S10.out.1.more b12) (And.intro (S10.out.2.1.more b12) (And.intro (S10.out.2.2.1.more b12) (S10.out.2.2.2.more b12))))
                gi_wp2
                go_wp2_with fail
                go_roundw
                case rel => exact ⟨k + 1, by omega, by go_num, SQ.out⟩
                case measure => simp [intOf]; omega
            · have hes : (es == 0) = false := by simpa using he2
              obtain ⟨w10, hw5⟩ : ∃ z, wo.drew = z := ⟨_, rfl⟩
              have bd : Below wo.heap.size wo w10 := by rw [← hw5]; exact (Below.refl _ _).drew
              have BD := hid bd
              have S10 := hid (And.intro (SR.out.1.more bd) (And.intro (SR.out.2.1.more bd) (And.intro (SR.out.2.2.1.more bd) (SR.out.2.2.2.more bd))))
              obtain ⟨bhh, ohh, chh', yhh, shh, khh, hvhh, hyhh, hykhh, hynhh, hsyhh, dhh0, dhh1, dhh2, dhh3⟩ := (show NSl wo (fun _ => True) (.slice sa h.nodes.length sc) h.nodes from by obtain ⟨a, c, e, _, h⟩ := SR.out.1.val; cases e; exact h).at (Below.refl _ _) (k := k) hlt
              cases hvhh
              have Dhh0 : Hid (w10.cell? ⟨bhh, ohh + k * 4, none⟩ = some (.int .i64 yhh.kind)) := later_cell bd dhh0
              have Dhh1 : Hid (w10.cell? ⟨bhh, ohh + k * 4 + 1, none⟩ = some (.int .i64 yhh.num)) := later_cell bd dhh1
              have Dhh2 : Hid (w10.cell? ⟨bhh, ohh + k * 4 + 2, none⟩ = some (.string yhh.name)) := later_cell bd dhh2
              have Dhh3 : Hid (w10.cell? ⟨bhh, ohh + k * 4 + 3, none⟩ = some (.slice shh yhh.kids.length khh)) := later_cell bd dhh3
              have Vhh : NVal w10 (fun _ => True) (.agg #[.int .i64 yhh.kind, .int .i64 yhh.num, .string yhh.name, .slice shh yhh.kids.length khh]) yhh := ⟨shh, khh, rfl, hykhh, hynhh, hsyhh.below intGood bd⟩
              clear dhh0 dhh1 dhh2 dhh3 hykhh hynhh hsyhh
              have VH := hid Vhh
              clear Vhh
              have C0 : Hid (w10.cell? ⟨w.heap.size, 0, none⟩ = some (.slice (some ⟨bhh, ohh, none⟩) h.nodes.length sc)) := S10.out.1.c0
              clear bd hyhh
              refine (wpIn_wide (n := 9)).1 ?_
              refine wpIn_region_held (fun W => Below w10.heap.size w10 W) (by kernel_rfl) ?_
              rw [hw5]
              clear hw5
              refine wpAnyHF_takeD (i := 0) 105 (v := .int .i64 ea) rfl rfl rfl (by kernel_rfl) (by kernel_rfl) (by kernel_rfl) (fun _ _ _ h => h) ⟨.inl ⟨rfl, fun W hW => by simp [execOp, go_sem]⟩, fun W => rfl⟩ (Below.refl _ _) ?_
              refine wpAnyHF_takeD (i := 1) 106 (v := .bool false) rfl rfl rfl (by kernel_rfl) (by kernel_rfl) (by kernel_rfl) (fun _ _ _ h => h) ⟨.inl ⟨rfl, fun W hW => by simp [execOp, go_sem, hea]⟩, fun W => rfl⟩ (Below.refl _ _) ?_
              refine wpAnyHF_takeD (i := 2) 107 (v := .bool false) rfl rfl rfl (by kernel_rfl) (by kernel_rfl) (by kernel_rfl) (fun _ _ _ h => h) ⟨.inl ⟨rfl, fun W hW => by simp [execOp, go_sem]⟩, fun W => rfl⟩ (Below.refl _ _) ?_
              simp only [Act.put, List.setIfInBounds_toArray, List.set_cons_zero, List.set_cons_succ]
              refine wpAnyHF_takeD (i := 3) 108 (v := undef) rfl rfl rfl (by kernel_rfl) (by kernel_rfl) (by kernel_rfl) (fun _ _ _ h => h) ⟨.inr ⟨rfl, rfl⟩, fun W => rfl⟩ (Below.refl _ _) ?_
              refine wpAnyHF_takeD (i := 4) 109 (v := undef) rfl rfl rfl (by kernel_rfl) (by kernel_rfl) (by kernel_rfl) (fun _ _ _ h => h) ⟨.inr ⟨rfl, rfl⟩, fun W => rfl⟩ (Below.refl _ _) ?_
              refine wpAnyHF_takeD (i := 5) 110 (v := undef) rfl rfl rfl (by kernel_rfl) (by kernel_rfl) (by kernel_rfl) (fun _ _ _ h => h) ⟨.inr ⟨rfl, rfl⟩, fun W => rfl⟩ (Below.refl _ _) ?_
              simp only [Act.put, List.setIfInBounds_toArray, List.set_cons_zero, List.set_cons_succ]
              refine wpAnyHF_takeD (i := 6) 111 (v := undef) rfl rfl rfl (by kernel_rfl) (by kernel_rfl) (by kernel_rfl) (fun _ _ _ h => h) ⟨.inr ⟨rfl, rfl⟩, fun W => rfl⟩ (Below.refl _ _) ?_
              refine wpAnyHF_takeD (i := 7) 112 (v := undef) rfl rfl rfl (by kernel_rfl) (by kernel_rfl) (by kernel_rfl) (fun _ _ _ h => h) ⟨.inr ⟨rfl, rfl⟩, fun W => rfl⟩ (Below.refl _ _) ?_
              refine wpAnyHF_takeD (i := 8) 113 (v := undef) rfl rfl rfl (by kernel_rfl) (by kernel_rfl) (by kernel_rfl) (fun _ _ _ h => h) ⟨.inr ⟨rfl, rfl⟩, fun W => rfl⟩ (Below.refl _ _) ?_
              simp only [Act.put, List.setIfInBounds_toArray, List.set_cons_zero, List.set_cons_succ]
              refine wpAnyHF_takeD (i := 9) 114 (v := undef) rfl rfl rfl (by kernel_rfl) (by kernel_rfl) (by kernel_rfl) (fun _ _ _ h => h) ⟨.inr ⟨rfl, rfl⟩, fun W => rfl⟩ (Below.refl _ _) ?_
              refine wpAnyHF_takeD (i := 10) 115 (v := undef) rfl rfl rfl (by kernel_rfl) (by kernel_rfl) (by kernel_rfl) (fun _ _ _ h => h) ⟨.inr ⟨rfl, rfl⟩, fun W => rfl⟩ (Below.refl _ _) ?_
              refine wpAnyHF_takeD (i := 11) 116 (v := undef) rfl rfl rfl (by kernel_rfl) (by kernel_rfl) (by kernel_rfl) (fun _ _ _ h => h) ⟨.inr ⟨rfl, rfl⟩, fun W => rfl⟩ (Below.refl _ _) ?_
              simp only [Act.put, List.setIfInBounds_toArray, List.set_cons_zero, List.set_cons_succ]
              refine wpAnyHF_takeD (i := 12) 117 (v := undef) rfl rfl rfl (by kernel_rfl) (by kernel_rfl) (by kernel_rfl) (fun _ _ _ h => h) ⟨.inr ⟨rfl, rfl⟩, fun W => rfl⟩ (Below.refl _ _) ?_
              simp only [Act.put, List.setIfInBounds_toArray, List.set_cons_zero, List.set_cons_succ]
              refine wpAnyHF_off 118 (i := 13) (by kernel_rfl) rfl rfl rfl (fun _ => trivial) (Below.refl _ _) ?_
              simp only [Act.put, List.setIfInBounds_toArray, List.set_cons_zero, List.set_cons_succ]
              refine wpAnyHF_takeD (i := 14) 119 (v := undef) rfl rfl rfl (by kernel_rfl) (by kernel_rfl) (by kernel_rfl) (fun _ _ _ h => h) ⟨.inr ⟨rfl, rfl⟩, fun W => rfl⟩ (Below.refl _ _) ?_
              refine wpAnyHF_takeD (i := 15) 120 (v := .bool false) rfl rfl rfl (by kernel_rfl) (by kernel_rfl) (by kernel_rfl) (fun _ _ _ h => h) ⟨.inl ⟨rfl, fun W hW => by simp [execOp, go_sem]⟩, fun W => rfl⟩ (Below.refl _ _) ?_
              refine wpAnyHF_takeD (i := 16) 121 (v := .bool false) rfl rfl rfl (by kernel_rfl) (by kernel_rfl) (by kernel_rfl) (fun _ _ _ h => h) ⟨.inl ⟨rfl, fun W hW => by simp [execOp, go_sem]⟩, fun W => rfl⟩ (Below.refl _ _) ?_
              simp only [Act.put, List.setIfInBounds_toArray, List.set_cons_zero, List.set_cons_succ]
              refine wpAnyHF_takeD (i := 17) 122 (v := .int .i64 es) rfl rfl rfl (by kernel_rfl) (by kernel_rfl) (by kernel_rfl) (fun _ _ _ h => h) ⟨.inl ⟨rfl, fun W hW => by simp [execOp, go_sem]⟩, fun W => rfl⟩ (Below.refl _ _) ?_
              refine wpAnyHF_takeD (i := 18) 123 (v := .bool false) rfl rfl rfl (by kernel_rfl) (by kernel_rfl) (by kernel_rfl) (fun _ _ _ h => h) ⟨.inl ⟨rfl, fun W hW => by simp [execOp, go_sem, hes]⟩, fun W => rfl⟩ (Below.refl _ _) ?_
              refine wpAnyHF_takeD (i := 19) 124 (v := .bool false) rfl rfl rfl (by kernel_rfl) (by kernel_rfl) (by kernel_rfl) (fun _ _ _ h => h) ⟨.inl ⟨rfl, fun W hW => by simp [execOp, go_sem]⟩, fun W => rfl⟩ (Below.refl _ _) ?_
              simp only [Act.put, List.setIfInBounds_toArray, List.set_cons_zero, List.set_cons_succ]
              refine wpAnyHF_takeD (i := 20) 125 (v := undef) rfl rfl rfl (by kernel_rfl) (by kernel_rfl) (by kernel_rfl) (fun _ _ _ h => h) ⟨.inr ⟨rfl, rfl⟩, fun W => rfl⟩ (Below.refl _ _) ?_
              refine wpAnyHF_takeD (i := 21) 126 (v := undef) rfl rfl rfl (by kernel_rfl) (by kernel_rfl) (by kernel_rfl) (fun _ _ _ h => h) ⟨.inr ⟨rfl, rfl⟩, fun W => rfl⟩ (Below.refl _ _) ?_
              refine wpAnyHF_takeD (i := 22) 127 (v := undef) rfl rfl rfl (by kernel_rfl) (by kernel_rfl) (by kernel_rfl) (fun _ _ _ h => h) ⟨.inr ⟨rfl, rfl⟩, fun W => rfl⟩ (Below.refl _ _) ?_
              simp only [Act.put, List.setIfInBounds_toArray, List.set_cons_zero, List.set_cons_succ]
              refine wpAnyHF_takeD (i := 23) 128 (v := .bool false) rfl rfl rfl (by kernel_rfl) (by kernel_rfl) (by kernel_rfl) (fun _ _ _ h => h) ⟨.inl ⟨rfl, fun W hW => by simp [execOp, go_sem]⟩, fun W => rfl⟩ (Below.refl _ _) ?_
              refine wpAnyHF_takeD (i := 24) 129 (v := .bool false) rfl rfl rfl (by kernel_rfl) (by kernel_rfl) (by kernel_rfl) (fun _ _ _ h => h) ⟨.inl ⟨rfl, fun W hW => by simp [execOp, go_sem]⟩, fun W => rfl⟩ (Below.refl _ _) ?_
              refine wpAnyHF_takeD (i := 25) 130 (v := undef) rfl rfl rfl (by kernel_rfl) (by kernel_rfl) (by kernel_rfl) (fun _ _ _ h => h) ⟨.inr ⟨rfl, rfl⟩, fun W => rfl⟩ (Below.refl _ _) ?_
              simp only [Act.put, List.setIfInBounds_toArray, List.set_cons_zero, List.set_cons_succ]
              refine wpAnyHF_takeD (i := 26) 131 (v := undef) rfl rfl rfl (by kernel_rfl) (by kernel_rfl) (by kernel_rfl) (fun _ _ _ h => h) ⟨.inr ⟨rfl, rfl⟩, fun W => rfl⟩ (Below.refl _ _) ?_
              refine wpAnyHF_takeD (i := 27) 132 (v := undef) rfl rfl rfl (by kernel_rfl) (by kernel_rfl) (by kernel_rfl) (fun _ _ _ h => h) ⟨.inr ⟨rfl, rfl⟩, fun W => rfl⟩ (Below.refl _ _) ?_
              refine wpAnyHF_takeD (i := 28) 133 (v := undef) rfl rfl rfl (by kernel_rfl) (by kernel_rfl) (by kernel_rfl) (fun _ _ _ h => h) ⟨.inr ⟨rfl, rfl⟩, fun W => rfl⟩ (Below.refl _ _) ?_
              simp only [Act.put, List.setIfInBounds_toArray, List.set_cons_zero, List.set_cons_succ]
              refine wpAnyHF_takeD (i := 29) 134 (v := undef) rfl rfl rfl (by kernel_rfl) (by kernel_rfl) (by kernel_rfl) (fun _ _ _ h => h) ⟨.inr ⟨rfl, rfl⟩, fun W => rfl⟩ (Below.refl _ _) ?_
              refine wpAnyHF_takeD (i := 30) 135 (v := undef) rfl rfl rfl (by kernel_rfl) (by kernel_rfl) (by kernel_rfl) (fun _ _ _ h => h) ⟨.inr ⟨rfl, rfl⟩, fun W => rfl⟩ (Below.refl _ _) ?_
              refine wpAnyHF_takeD (i := 31) 136 (v := undef) rfl rfl rfl (by kernel_rfl) (by kernel_rfl) (by kernel_rfl) (fun _ _ _ h => h) ⟨.inr ⟨rfl, rfl⟩, fun W => rfl⟩ (Below.refl _ _) ?_
              simp only [Act.put, List.setIfInBounds_toArray, List.set_cons_zero, List.set_cons_succ]
              refine wpAnyHF_takeD (i := 32) 137 (v := undef) rfl rfl rfl (by kernel_rfl) (by kernel_rfl) (by kernel_rfl) (fun _ _ _ h => h) ⟨.inr ⟨rfl, rfl⟩, fun W => rfl⟩ (Below.refl _ _) ?_
              refine wpAnyHF_takeD (i := 33) 138 (v := undef) rfl rfl rfl (by kernel_rfl) (by kernel_rfl) (by kernel_rfl) (fun _ _ _ h => h) ⟨.inr ⟨rfl, rfl⟩, fun W => rfl⟩ (Below.refl _ _) ?_
              refine wpAnyHF_takeD (i := 34) 139 (v := undef) rfl rfl rfl (by kernel_rfl) (by kernel_rfl) (by kernel_rfl) (fun _ _ _ h => h) ⟨.inr ⟨rfl, rfl⟩, fun W => rfl⟩ (Below.refl _ _) ?_
              simp only [Act.put, List.setIfInBounds_toArray, List.set_cons_zero, List.set_cons_succ]
              refine wpAnyHF_off 140 (i := 35) (by kernel_rfl) rfl rfl rfl (fun _ => trivial) (Below.refl _ _) ?_
              simp only [Act.put, List.setIfInBounds_toArray, List.set_cons_zero, List.set_cons_succ]
              refine wpAnyHF_takeD (i := 36) 141 (v := undef) rfl rfl rfl (by kernel_rfl) (by kernel_rfl) (by kernel_rfl) (fun _ _ _ h => h) ⟨.inr ⟨rfl, rfl⟩, fun W => rfl⟩ (Below.refl _ _) ?_
              refine wpAnyHF_takeD (i := 37) 142 (v := .bool false) rfl rfl rfl (by kernel_rfl) (by kernel_rfl) (by kernel_rfl) (fun _ _ _ h => h) ⟨.inl ⟨rfl, fun W hW => by simp [execOp, go_sem]⟩, fun W => rfl⟩ (Below.refl _ _) ?_
              refine wpAnyHF_takeD (i := 38) 143 (v := .bool false) rfl rfl rfl (by kernel_rfl) (by kernel_rfl) (by kernel_rfl) (fun _ _ _ h => h) ⟨.inl ⟨rfl, fun W hW => by simp [execOp, go_sem]⟩, fun W => rfl⟩ (Below.refl _ _) ?_
              simp only [Act.put, List.setIfInBounds_toArray, List.set_cons_zero, List.set_cons_succ]
              refine wpAnyHF_done (by kernel_rfl) ?_ _
              have SQ := S10
              gi_wp2
              go_wp2_with fail
              go_roundw
              case rel => exact ⟨k + 1, by omega, by go_num, SQ.out⟩
              case measure => simp [intOf]; omega
        · have fk : k = h.nodes.length := by omega
          have a0 : wo.cell? ⟨Bha, 0, none⟩ = some (.slice aha ha.nodes.length cha) := SR.out.2.2.1.c0
          have a1 : wo.cell? ⟨Bha, 1, none⟩ = some (.int .i64 ha.most) := SR.out.2.2.1.c1
          have P1' := check_any wo _ _ _ SR.out.2.2.1.val
          rw [CK.out.1] at P1'
          have P1 := hid P1'
          clear P1'
          go_wp2_with fail
          refine P1.out.mono ?_
          rintro e wp ⟨rfl, bp⟩
          have SP := hid (And.intro (SR.out.1.more bp) (And.intro (SR.out.2.1.more bp) (And.intro (SR.out.2.2.1.more bp) (SR.out.2.2.2.more bp))))
          clear bp SR a0 a1 P1 c0
          have a0 : wp.cell? ⟨Bhs, 0, none⟩ = some (.slice ahs hs.nodes.length chs) := SP.out.2.2.2.c0
          have a1 : wp.cell? ⟨Bhs, 1, none⟩ = some (.int .i64 hs.most) := SP.out.2.2.2.c1
          have P1' := check_any wp _ _ _ SP.out.2.2.2.val
          rw [CK.out.2] at P1'
          have P1 := hid P1'
          clear P1'
          go_wp2_with fail
          refine P1.out.mono ?_
          rintro e wq ⟨rfl, bq⟩
          have SQ := hid (And.intro (SP.out.1.more bq) (And.intro (SP.out.2.1.more bq) (And.intro (SP.out.2.2.1.more bq) (SP.out.2.2.2.more bq))))
          clear bq SP a0 a1 P1
          go_wp2_with fail
          go_ret
          exact Bb.fin rfl SQ.out.1.bel
      end Go.Proofs.Ytlaebhgmkiiniaa
