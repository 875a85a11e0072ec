/- GcMore: the walk. -/
import Derived.Test.YtajhchfjoeblgaaKept
import Derived.Deep.CutRange
namespace Go.Proofs.Ytajhchfjoeblgaa
open Go.RowKit Go.Shelf
attribute [local go_sem] Oper.semAt_some
theorem append_ints {ok : Nat → Prop} {base : Nat} {w : World} {v lv : Value} {xs ys : List Int} (hO : OSl IntE 1 3 base w (fun _ => False) v xs) (hy : ISl w ok lv ys) (hl : xs.length + ys.length ≤ 100000) (hb : base ≤ w.heap.size) :
    ∃ a c w', (Builtin.append_ #[25, 25] 25 #[v, lv]).run Try.prog w = .ok (.slice a (xs.length + ys.length) c) w' ∧ OSl IntE 1 3 base w' (fun _ => False) (.slice a (xs.length + ys.length) c) (xs ++ ys) ∧ Below base w w' := by
  obtain ⟨ao, cap, rfl, l1, l2, l3, _⟩ := hy.open
  cases ao with
  | none =>
    obtain rfl := l3 rfl
    have hz : ys.length = 0 := by omega
    have hy0 : ys = [] := List.length_eq_zero_iff.1 hz
    subst hy0
    obtain ⟨i, hi, hz', hs, hbb⟩ := info_parts info_int
    have hO0 := hO
    obtain ⟨rows, hr, hown⟩ := hO
    have hrun := run_append_owned_none (P := Try.prog) w base 25 25 3 i 1 Try.underlying25 hi v _ _ hown
    obtain ⟨a, c, rfl⟩ := hO0.shape
    exact ⟨a, c, w, by simpa using hrun, by simpa using hO0, Below.refl _ _⟩
  | some a =>
    have hrow : ∃ rows ad, a = ad ∧ Rows IntE w (fun b => False ∧ some b ≠ v.ownBlock) ys rows ∧ ∀ j u, rows.flatten[j]? = some u → w.cell? (ad.add j) = some u := by
      by_cases hp : 0 < ys.length
      · obtain ⟨b, off, cap, rows, hv, _, hr, hu⟩ := hy.rows intGood hp
        cases hv
        exact ⟨rows, _, rfl, ⟨hr.1, fun i x row hx hr' => hr.2 i x row hx hr'⟩, fun j u hj => by rw [addr_add]; exact hu j u hj⟩
      · have hx : ys = [] := List.length_eq_zero_iff.1 (by omega)
        subst hx
        exact ⟨[], a, rfl, Rows.nil _ _ _, fun j u h => by simp at h⟩
    obtain ⟨rows, ad, rfl, hr, hu⟩ := hrow
    obtain ⟨v', w', hrun, hO', hg, _, _⟩ := OSl.append (P := Try.prog) intGood (by decide) hO 25 25 (.int .i64 0) 8 Try.underlying25 info_int rfl a cap ys rows hr hu (ints_cells hr) (by simp [maxLen]; omega) (by omega) hb
    obtain ⟨a', c', rfl⟩ := hO'.shape
    rw [List.length_append] at hrun hO'
    exact ⟨a', c', w', hrun, hO', (Below.refl _ _).grown hg hb (fun k hk => (hO.lt k hk).1)⟩
theorem append_int1 {base : Nat} {w : World} {v : Value} {xs : List Int} {z : Int} (hO : OSl IntE 1 3 base w (fun _ => False) v xs) (hz : In z) (hl : xs.length ≤ 10000) (hb : base ≤ w.heap.size) :
    ∃ a c w', (Builtin.append_ #[25, 25] 25 #[v, .slice (some ⟨w.heap.size, 0, none⟩) 1 1]).run Try.prog (w.alloc (.cells #[.int .i64 z] 3)) = .ok (.slice a (xs.length + 1) c) w' ∧ OSl IntE 1 3 base w' (fun _ => False) (.slice a (xs.length + 1) c) (xs ++ [z]) ∧ Below base w w' := by
  have hba := (Below.refl w.heap.size w).alloc (Nat.le_refl _) (.cells #[.int .i64 z] 3)
  obtain ⟨a, c, w', h1, h2, h3⟩ := append_ints (hO.below intGood hba) (isl_new w 3 [z] (fun x hx => by simp at hx; subst hx; exact hz) (by simp)) (by simp; omega) (Nat.le_trans hb hba.size)
  exact ⟨a, c, w', h1, h2, (hba.mono hb).trans h3⟩
def collE (h : Hp) (rs : List Int) : Int := if (collH h rs).isSome then 0 else 140
theorem coll_e (w : World) (ok ok2 : Nat → Prop) (v lv : Value) (h : Hp) (rs : List Int) (hh : HVal w ok v h) (hr : ISl w ok2 lv rs) (hn : h.nodes.length ≤ 1000) (hkb : ∀ x ∈ h.nodes, x.kids.length ≤ 1000) (hrl : rs.length ≤ 1000) :
    Calls Try.prog 10 #[v, lv] w fun e w' => ∃ a n c m lv', e = .returned (.tuple #[.agg #[.slice a n c, .int .i64 m], lv', .int .i64 (collE h rs)]) ∧ Below w.heap.size w w' := by
  have hh0 := hh
  obtain ⟨sa, sc, rfl, _⟩ := hh
  refine (coll_any w ok ok2 _ lv h rs hh0 hr hn hkb hrl).mono fun e w' hp => ?_
  rw [CollPost] at hp
  cases hc : collH h rs with
  | none => rw [hc] at hp; exact ⟨_, _, _, _, _, by rw [collE, hc]; exact hp.1, hp.2⟩
  | some r =>
    rw [hc] at hp
    obtain ⟨a, c, lv', he, _, _, hb⟩ := hp
    exact ⟨_, _, _, _, _, by rw [collE, hc]; exact he, hb⟩
theorem at_res (w : World) (ok : Nat → Prop) (v : Value) (h : Hp) (p : Int) (hh : HVal w ok v h) (hp : In p) (hn : h.nodes.length ≤ 1000) (hkb : ∀ x ∈ h.nodes, x.kids.length ≤ 1000) :
    Calls Try.prog 17 #[v, .int .i64 p] w fun e w' => ∃ k1 n1 s1 a1 l1 c1, e = .returned (.tuple #[.agg #[.int .i64 k1, .int .i64 n1, .string s1, .slice a1 l1 c1], .int .i64 ((res h.nodes p).getD 0), .int .i64 (if (res h.nodes p).isSome then 0 else 140)]) ∧ Below w.heap.size w w' := by
  refine (at_any w ok v h p hh hp (by omega) (fun x hx => by have := hkb x hx; omega)).mono fun e w' hp' => ?_
  cases hr : res h.nodes p with
  | none => rw [res_none hr] at hp'; obtain ⟨rfl, hb⟩ := hp'; exact ⟨_, _, _, _, _, _, rfl, hb⟩
  | some q =>
    rw [(res_some hr).2.2.2.1] at hp'
    obtain ⟨v, rfl, ⟨s1, k1, rfl, _⟩, hb⟩ := hp'
    exact ⟨_, _, _, _, _, _, rfl, hb⟩
def allK (ns : List Nd) (k : Nat) : List Int := ((List.range k).map Int.ofNat).filter fun i => (res ns i).isSome
def plK (ns : List Nd) (k : Nat) : List Int := ((List.range k).map Int.ofNat).filter fun i => res ns i == some i
theorem allK_step (ns : List Nd) (k : Nat) : allK ns (k + 1) = if (res ns k).isSome then allK ns k ++ [(k : Int)] else allK ns k := by
  rw [allK, List.range_succ, List.map_append, List.filter_append, ← allK]
  simp only [List.map_cons, List.map_nil, List.filter_cons, List.filter_nil]
  show _ ++ (if (res ns (k : Int)).isSome = true then [(k : Int)] else []) = _
  split <;> simp
theorem plK_step (ns : List Nd) (k : Nat) : (plK ns (k + 1)).length = if res ns k = some (k : Int) then (plK ns k).length + 1 else (plK ns k).length := by
  rw [plK, List.range_succ, List.map_append, List.filter_append, ← plK]
  simp only [List.map_cons, List.map_nil, List.filter_cons, List.filter_nil]
  show (_ ++ (if (res ns (k : Int) == some (k : Int)) = true then [(k : Int)] else [])).length = _
  by_cases e : res ns (k : Int) = some (k : Int)
  · simp [e]
  · simp [e]
theorem allK_le (ns : List Nd) (k : Nat) : (allK ns k).length ≤ k := by
  have := List.length_filter_le (fun i : Int => (res ns i).isSome) ((List.range k).map Int.ofNat)
  rw [allK]; simpa using this
theorem plK_le (ns : List Nd) (k : Nat) : (plK ns k).length ≤ k := by
  have := List.length_filter_le (fun i : Int => res ns i == some i) ((List.range k).map Int.ofNat)
  rw [plK]; simpa using this
theorem whole_all {h : Hp} : liveH h (allK h.nodes h.nodes.length) = 0 ∨ liveH h (allK h.nodes h.nodes.length) = (plK h.nodes h.nodes.length).length := by
  cases hc : collH h (allK h.nodes h.nodes.length) with
  | none => exact .inl (live_none hc)
  | some r =>
    obtain ⟨c, l⟩ := r
    obtain ⟨S, hS, _, rfl, rfl⟩ := coll_parts hc
    right
    rw [live_coll hc]
    have := whole_plains (ns := h.nodes) (all := allK h.nodes h.nodes.length) (fun q hq => by
      obtain ⟨_, h1, h2, _⟩ := res_some hq
      simp only [allK, List.mem_filter, List.mem_map, List.mem_range]
      exact ⟨⟨q.toNat, by omega, by simp; omega⟩, by rw [hq]; rfl⟩) hS
    simpa [plK, plains] using this
theorem more_live {h : Hp} {a b : List Int} (ha : collE h a = 0) (hb : collE h b = 0) :
    liveH h a ≤ liveH h (a ++ b) ∧ liveH h b ≤ liveH h (a ++ b) ∧ liveH h (a ++ b) ≤ liveH h a + liveH h b ∧ liveH h (b ++ a ++ b) = liveH h (a ++ b) ∧ liveH h (a ++ b) ≤ (plK h.nodes h.nodes.length).length ∧ liveH h a ≤ h.nodes.length ∧ liveH h b ≤ h.nodes.length ∧ liveH h (a ++ b) ≤ h.nodes.length := by
  rw [collE] at ha hb
  cases ca : collH h a with
  | none => rw [ca] at ha; simp at ha
  | some ra =>
    cases cb : collH h b with
    | none => rw [cb] at hb; simp at hb
    | some rb =>
      obtain ⟨c1, l1⟩ := ra
      obtain ⟨c2, l2⟩ := rb
      obtain ⟨A, hA, hk, rfl, rfl⟩ := coll_parts ca
      obtain ⟨B, hB, _, rfl, rfl⟩ := coll_parts cb
      obtain ⟨C, D, hC, hD, e1, e2, e3, e4, e5⟩ := more_len hA hB
      have live : ∀ {r S : List Int}, collS h.nodes r = some S → liveH h r = S.length := fun {r S} hr => by rw [liveH, collH, hk, hr]; simp
      rw [live hA, live hB, live hC, live hD]
      have f1 := fit_len (col_of hA).fit
      have f2 := fit_len (col_of hB).fit
      have f3 := fit_len (col_of hC).fit
      exact ⟨e1, e2, e3, e4.symm, by simpa [plK, plains] using e5, f1, f2, f3⟩
set_option maxRecDepth 100000 in
set_option maxHeartbeats 16000000 in
theorem more_any (v0 v1 v2 : Value) (w : World) (h0 : ∃ h, HVal w (fun _ => True) v0 h) (h1 : ∃ xs, ISl w (fun _ => True) v1 xs) (h2 : ∃ xs, ISl w (fun _ => True) v2 xs) :
    Calls Try.prog 6 #[v0, v1, v2] w (Bb true w) := by
  obtain ⟨h, hh⟩ := h0
  have hh0 := hh
  obtain ⟨sa, sc, rfl, _, hs⟩ := hh
  obtain ⟨_, _, e, l1, _⟩ := hs.shape
  cases e
  obtain ⟨ra, hr0⟩ := h1
  have hr0' := hr0
  obtain ⟨ara, cra, rfl, lra, _⟩ := hr0'.shape
  obtain ⟨rb, hr1⟩ := h2
  have hr1' := hr1
  obtain ⟨arb, crb, rfl, lrb, _⟩ := hr1'.shape
  obtain ⟨W0, hW0⟩ : ∃ W0, w.alloc (Obj.cells #[.slice sa h.nodes.length sc, .int .i64 h.most] 24) = W0 := ⟨_, rfl⟩
  have hb0 : Below w.heap.size w W0 := by rw [← hW0]; exact (Below.refl _ _).alloc (Nat.le_refl _) _
  have K0 : Kept w W0 w.heap.size 24 sa sc h := ⟨hb0, by rw [← hW0]; exact World.alloc_heap_new _ _, hh0.below hb0⟩
  have HW := hid hW0
  have S0 := hid (And.intro K0 (And.intro (hr0.more hb0) (hr1.more hb0)))
  clear hW0 hb0 K0 hh0 hs hr0 hr0' hr1 hr1'
  go_enter Try.func6, Try.ntmps6
  go_upto_region 1 with (fail)
  rw [HW.out]
  clear HW
  go_wp2_with fail
  refine (awake_any W0).mono ?_
  rintro e w1 ⟨rfl, b1⟩
  have S1 := hid (And.intro (S0.out.1.more b1) (And.intro (ISl.more S0.out.2.1 b1) (ISl.more S0.out.2.2 b1)))
  clear S0
  clear b1
  have c0 : w1.cell? ⟨w.heap.size, 0, none⟩ = some (.slice sa h.nodes.length sc) := S1.out.1.c0
  have c1 : w1.cell? ⟨w.heap.size, 1, none⟩ = some (.int .i64 h.most) := S1.out.1.c1
  have P2 := hid (few_any w1 _ _ _ S1.out.1.val)
  go_wp2_with fail
  refine P2.out.mono ?_
  rintro e w2 ⟨rfl, b2⟩
  have S2 := hid (And.intro (S1.out.1.more b2) (And.intro (ISl.more S1.out.2.1 b2) (ISl.more S1.out.2.2 b2)))
  clear S1
  clear b2 c0 c1 P2
  cases hq : fewH h
  · go_wp2_with fail
    go_ret
    exact Bb.fin rfl S2.out.1.bel
  have HF := hid (few_bounds hq)
  have hn := HF.out.1
  clear hq
  by_cases gra : ¬ ra.length ≤ 100
  · have fra : decide ((ra.length : Int) > 100) = true := by simp; omega
    go_wp2_with fail
    go_ret
    exact Bb.fin rfl S2.out.1.bel
  have fra : decide ((ra.length : Int) > 100) = false := by simp; omega
  have tra : ra.length ≤ 100 := by omega
  replace gra : ra.length ≤ 1000 := by omega
  by_cases grb : ¬ rb.length ≤ 100
  · have frb : decide ((rb.length : Int) > 100) = true := by simp; omega
    go_wp2_with fail
    go_ret
    exact Bb.fin rfl S2.out.1.bel
  have frb : decide ((rb.length : Int) > 100) = false := by simp; omega
  have trb : rb.length ≤ 100 := by omega
  replace grb : rb.length ≤ 1000 := by omega
  have c0 : w2.cell? ⟨w.heap.size, 0, none⟩ = some (.slice sa h.nodes.length sc) := S2.out.1.c0
  have c1 : w2.cell? ⟨w.heap.size, 1, none⟩ = some (.int .i64 h.most) := S2.out.1.c1
  have P := hid (coll_e w2 _ _ _ _ h ra S2.out.1.val S2.out.2.1 hn HF.out.2 gra)
  obtain ⟨era, hEra⟩ : ∃ z, z = collE h ra := ⟨_, rfl⟩
  rw [← hEra] at P
  have HEra := hid hEra
  clear hEra
  go_wp2_with fail
  refine P.out.mono ?_
  rintro e w3 ⟨xara, xnra, xcra, xmra, xlra, rfl, b⟩
  clear c0 c1 P
  go_upto_region 5 with (fail)
  have bb := b.alloc b.size (.cells #[.slice xara xnra xcra, .int .i64 xmra] 24)
  have S3 := hid (And.intro (S2.out.1.more bb) (And.intro (ISl.more S2.out.2.1 bb) (ISl.more S2.out.2.2 bb)))
  clear S2
  obtain ⟨w4, hww⟩ : ∃ z, w3.alloc (.cells #[.slice xara xnra xcra, .int .i64 xmra] 24) = z := ⟨_, rfl⟩
  rw [hww] at S3 ⊢
  clear hww bb b
  have c0 : w4.cell? ⟨w.heap.size, 0, none⟩ = some (.slice sa h.nodes.length sc) := S3.out.1.c0
  have c1 : w4.cell? ⟨w.heap.size, 1, none⟩ = some (.int .i64 h.most) := S3.out.1.c1
  have P := hid (coll_e w4 _ _ _ _ h rb S3.out.1.val S3.out.2.2 hn HF.out.2 grb)
  obtain ⟨erb, hErb⟩ : ∃ z, z = collE h rb := ⟨_, rfl⟩
  rw [← hErb] at P
  have HErb := hid hErb
  clear hErb
  go_wp2_with fail
  refine P.out.mono ?_
  rintro e w5 ⟨xarb, xnrb, xcrb, xmrb, xlrb, rfl, b⟩
  clear c0 c1 P
  go_upto_region 6 with (fail)
  have bb := b.alloc b.size (.cells #[.slice xarb xnrb xcrb, .int .i64 xmrb] 24)
  have S4 := hid (And.intro (S3.out.1.more bb) (And.intro (ISl.more S3.out.2.1 bb) (ISl.more S3.out.2.2 bb)))
  clear S3
  obtain ⟨w6, hww⟩ : ∃ z, w5.alloc (.cells #[.slice xarb xnrb xcrb, .int .i64 xmrb] 24) = z := ⟨_, rfl⟩
  rw [hww] at S4 ⊢
  clear hww bb b
  by_cases zra : ¬ era = 0
  · have fra0 : (era != 0) = true := by simpa using zra
    go_wp2_with fail
    go_ret
    exact Bb.fin rfl S4.out.1.bel
  obtain rfl : era = 0 := by omega
  clear zra
  by_cases zrb : ¬ erb = 0
  · have frb0 : (erb != 0) = true := by simpa using zrb
    go_wp2_with fail
    go_ret
    exact Bb.fin rfl S4.out.1.bel
  obtain rfl : erb = 0 := by omega
  clear zrb
  have ML := hid (more_live HEra.out.symm HErb.out.symm)
  obtain ⟨lx, hlx⟩ : ∃ z, z = liveH h ra := ⟨_, rfl⟩
  obtain ⟨ly, hly⟩ : ∃ z, z = liveH h rb := ⟨_, rfl⟩
  obtain ⟨lb, hlb⟩ : ∃ z, z = liveH h (ra ++ rb) := ⟨_, rfl⟩
  have m := ML.out
  rw [← hlx, ← hly, ← hlb] at m
  obtain ⟨q1, q2, q3, q4, q5, q6, q7, q8⟩ := m
  have HLX := hid hlx
  have HLY := hid hly
  have HLB := hid hlb
  have HLT : Hid (liveH h (rb ++ ra ++ rb) = lb) := q4
  have HQ5 := hid q5
  clear hlx hly hlb ML q4 q5 HEra HErb
  have c0 : w6.cell? ⟨w.heap.size, 0, none⟩ = some (.slice sa h.nodes.length sc) := S4.out.1.c0
  have c1 : w6.cell? ⟨w.heap.size, 1, none⟩ = some (.int .i64 h.most) := S4.out.1.c1
  have P' := live_any w6 _ _ _ _ h ra S4.out.1.val S4.out.2.1 hn HF.out.2 gra
  rw [← HLX.out] at P'
  have P := hid P'
  clear P'
  go_wp2_with fail
  refine P.out.mono ?_
  rintro e w7 ⟨rfl, b⟩
  have S5 := hid (And.intro (S4.out.1.more b) (And.intro (ISl.more S4.out.2.1 b) (ISl.more S4.out.2.2 b)))
  clear S4
  clear b c0 c1 P
  have c0 : w7.cell? ⟨w.heap.size, 0, none⟩ = some (.slice sa h.nodes.length sc) := S5.out.1.c0
  have c1 : w7.cell? ⟨w.heap.size, 1, none⟩ = some (.int .i64 h.most) := S5.out.1.c1
  have P' := live_any w7 _ _ _ _ h rb S5.out.1.val S5.out.2.2 hn HF.out.2 grb
  rw [← HLY.out] at P'
  have P := hid P'
  clear P'
  go_wp2_with fail
  refine P.out.mono ?_
  rintro e w8 ⟨rfl, b⟩
  have S6 := hid (And.intro (S5.out.1.more b) (And.intro (ISl.more S5.out.2.1 b) (ISl.more S5.out.2.2 b)))
  clear S5
  clear b c0 c1 P
  go_upto_region 10 with (fail)
  go_cut [16] (fun s wx => s = .int .i64 lb ∧ Below w8.heap.size w8 wx)
  case first =>
    obtain ⟨w5x, hw5⟩ : ∃ z, w8.drew = z := ⟨_, rfl⟩
    have bd : Below w8.heap.size w8 w5x := by rw [← hw5]; exact (Below.refl _ _).drew
    have BD := hid bd
    have SX := hid (And.intro (S6.out.1.more bd) (And.intro (ISl.more S6.out.2.1 bd) (ISl.more S6.out.2.2 bd)))
    have A0 : Hid (w5x.cell? ⟨w.heap.size, 0, none⟩ = some (.slice sa h.nodes.length sc)) := SX.out.1.c0
    have A1 : Hid (w5x.cell? ⟨w.heap.size, 1, none⟩ = some (.int .i64 h.most)) := SX.out.1.c1
    obtain ⟨wa, hwa⟩ : ∃ z, w5x.alloc (.cells #[] 3) = z := ⟨_, rfl⟩
    obtain ⟨Ka, hKa⟩ : ∃ z, w5x.heap.size = z := ⟨_, rfl⟩
    have ba : Below w5x.heap.size w5x wa := by rw [← hwa]; exact (Below.refl _ _).alloc (Nat.le_refl _) _
    have hOa : OSl IntE 1 3 w5x.heap.size wa (fun _ => False) (.slice (some ⟨Ka, 0, none⟩) 0 0) [] := by
      rw [← hwa, ← hKa]
      exact ⟨[], Rows.nil _ _ _, by simp, .inr ⟨w5x.heap.size, 0, #[], rfl, Nat.le_refl _, World.alloc_heap_new _ _, Nat.le_refl _, by simp [maxLen], by simp, by simp⟩⟩
    obtain ⟨va0, vc0, wb0, hrun0, hO0, bb0⟩ := append_ints hOa (ISl.more SX.out.2.1 ba) (by first | omega | (simp; omega)) ba.size
    have ba0 := ba.trans bb0
    obtain ⟨n0, hn0⟩ : ∃ z : Nat, z = ra.length := ⟨_, rfl⟩
    rw [List.nil_append] at hO0
    rw [show ([] : List Int).length + ra.length = n0 by simp [hn0]] at hrun0 hO0
    obtain ⟨va1, vc1, wb1, hrun1, hO1, bb1⟩ := append_ints hO0 (ISl.more SX.out.2.2 ba0) (by first | omega | (simp; omega)) ba0.size
    have ba1 := ba0.trans bb1
    obtain ⟨n1, hn1⟩ : ∃ z : Nat, z = ra.length + rb.length := ⟨_, rfl⟩
    rw [show (ra).length + rb.length = n1 by simp [hn1]] at hrun1 hO1
    have hIs : ISl wb1 (fun _ => True) (.slice va1 n1 vc1) (ra ++ rb) := hO1.rsl intGood _ (fun _ _ _ => trivial) (fun _ _ _ => trivial)
    have HLV := live_any wb1 _ _ _ _ h (ra ++ rb) (SX.out.1.val.below ba1) hIs hn HF.out.2 (by simp; omega)
    rw [← HLB.out] at HLV
    have HLVH := hid HLV
    clear HLV hIs hn0 hO0 bb0 hn1 hO1 bb1 hOa bd SX
    refine (wpIn_wide (n := 9)).1 ?_
    refine wpIn_region_held (fun W => Below w5x.heap.size w5x W) (by kernel_rfl) ?_
    rw [hw5]
    clear hw5
    refine wpAnyHF_takeD (i := 0) 67 (v := .agg #[.slice sa h.nodes.length sc, .int .i64 h.most]) rfl rfl rfl (by kernel_rfl) (by kernel_rfl) (by kernel_rfl) (fun _ _ _ h => h) ⟨.inl ⟨rfl, fun W hW => by have m0 := later_cell hW A0.out; have m1 := later_cell hW A1.out; simp [execOp, go_sem, m0, m1]⟩, fun W => rfl⟩ (Below.refl _ _) ?_
    refine wpAnyHF_takeD (i := 2) 69 (v := .slice ara ra.length cra) rfl rfl rfl (by kernel_rfl) (by kernel_rfl) (by kernel_rfl) (fun _ _ _ h => h) ⟨.inl ⟨rfl, fun W hW => by simp [execOp, go_sem]⟩, fun W => rfl⟩ (Below.refl _ _) ?_
    refine wpAnyHF_takeD (i := 4) 71 (v := .slice arb rb.length crb) rfl rfl rfl (by kernel_rfl) (by kernel_rfl) (by kernel_rfl) (fun _ _ _ h => h) ⟨.inl ⟨rfl, fun W hW => by simp [execOp, go_sem]⟩, fun W => rfl⟩ (Below.refl _ _) ?_
    simp only [Act.put, List.setIfInBounds_toArray, List.set_cons_zero, List.set_cons_succ]
    refine wpAnyHF_one (i := 1) (by kernel_rfl) rfl rfl ?_
    refine wpIn_valueD 68 rfl (w' := wa) (v := .slice (some ⟨Ka, 0, none⟩) 0 0) (by simp [execOp, go_sem, hwa, hKa]) ⟨ba, ?_⟩
    simp only [Act.put, List.setIfInBounds_toArray, List.set_cons_zero, List.set_cons_succ]
    refine wpAnyHF_one (i := 3) (by kernel_rfl) rfl rfl ?_
    refine wpIn_valueD 70 rfl (w' := wb0) (v := .slice va0 n0 vc0) (run_append_op (.tmp 68) (.tmp 69) 25 rfl rfl (v := .slice (some ⟨Ka, 0, none⟩) 0 0) (xv := .slice ara ra.length cra) (by simp [go_sem]) (by simp [go_sem]) hrun0) ⟨ba0, ?_⟩
    simp only [Act.put, List.setIfInBounds_toArray, List.set_cons_zero, List.set_cons_succ]
    refine wpAnyHF_one (i := 5) (by kernel_rfl) rfl rfl ?_
    refine wpIn_valueD 72 rfl (w' := wb1) (v := .slice va1 n1 vc1) (run_append_op (.tmp 70) (.tmp 71) 25 rfl rfl (v := .slice va0 n0 vc0) (xv := .slice arb rb.length crb) (by simp [go_sem]) (by simp [go_sem]) hrun1) ⟨ba1, ?_⟩
    simp only [Act.put, List.setIfInBounds_toArray, List.set_cons_zero, List.set_cons_succ]
    refine wpAnyHF_one (i := 6) (by kernel_rfl) rfl rfl ?_
    refine wpIn_callD 73 rfl (P := Try.prog) (f := 14) (args := #[.agg #[.slice sa h.nodes.length sc, .int .i64 h.most], .slice va1 n1 vc1]) (by simp [execOp, resolve, invoke, go_sem]) ?_
    refine HLVH.out.mono ?_
    rintro e wy ⟨rfl, by1⟩
    have byy := ba1.trans (by1.mono ba1.size)
    refine ⟨_, rfl, byy, ?_⟩
    simp only [Act.put, List.setIfInBounds_toArray, List.set_cons_zero, List.set_cons_succ]
    refine wpAnyHF_takeD (i := 7) 16 (v := .int .i64 lb) rfl rfl rfl (by kernel_rfl) (by kernel_rfl) (by kernel_rfl) (fun _ _ _ h => h) ⟨.inl ⟨rfl, fun W hW => by simp [execOp, go_sem]⟩, fun W => rfl⟩ byy ?_
    simp only [Act.put, List.setIfInBounds_toArray, List.set_cons_zero, List.set_cons_succ]
    refine wpAnyHF_done (by kernel_rfl) ?_ _
    have BS := hid byy
    clear byy by1 ba0 hrun0 ba1 hrun1 ba hwa hKa
    gi_wp2
    go_wp2_with fail
    go_meet
    case rel => exact ⟨rfl, BD.out.trans (BS.out.mono BD.out.size)⟩
  case rest =>
    obtain ⟨rfl, bx⟩ := hcut
    have S7 := hid (And.intro (S6.out.1.more bx) (And.intro (ISl.more S6.out.2.1 bx) (ISl.more S6.out.2.2 bx)))
    clear S6
    obtain ⟨w9, hw6⟩ : ∃ z, z = wc := ⟨_, rfl⟩
    subst hw6
    clear bx
    go_upto_region 11 with (fail)
    go_cut [17] (fun s wx => s = .int .i64 lb ∧ Below w9.heap.size w9 wx)
    case first =>
      obtain ⟨w5x, hw5⟩ : ∃ z, w9.drew = z := ⟨_, rfl⟩
      have bd : Below w9.heap.size w9 w5x := by rw [← hw5]; exact (Below.refl _ _).drew
      have BD := hid bd
      have SX := hid (And.intro (S7.out.1.more bd) (And.intro (ISl.more S7.out.2.1 bd) (ISl.more S7.out.2.2 bd)))
      have A0 : Hid (w5x.cell? ⟨w.heap.size, 0, none⟩ = some (.slice sa h.nodes.length sc)) := SX.out.1.c0
      have A1 : Hid (w5x.cell? ⟨w.heap.size, 1, none⟩ = some (.int .i64 h.most)) := SX.out.1.c1
      obtain ⟨wa, hwa⟩ : ∃ z, w5x.alloc (.cells #[] 3) = z := ⟨_, rfl⟩
      obtain ⟨Ka, hKa⟩ : ∃ z, w5x.heap.size = z := ⟨_, rfl⟩
      have ba : Below w5x.heap.size w5x wa := by rw [← hwa]; exact (Below.refl _ _).alloc (Nat.le_refl _) _
      have hOa : OSl IntE 1 3 w5x.heap.size wa (fun _ => False) (.slice (some ⟨Ka, 0, none⟩) 0 0) [] := by
        rw [← hwa, ← hKa]
        exact ⟨[], Rows.nil _ _ _, by simp, .inr ⟨w5x.heap.size, 0, #[], rfl, Nat.le_refl _, World.alloc_heap_new _ _, Nat.le_refl _, by simp [maxLen], by simp, by simp⟩⟩
      obtain ⟨va0, vc0, wb0, hrun0, hO0, bb0⟩ := append_ints hOa (ISl.more SX.out.2.2 ba) (by first | omega | (simp; omega)) ba.size
      have ba0 := ba.trans bb0
      obtain ⟨n0, hn0⟩ : ∃ z : Nat, z = rb.length := ⟨_, rfl⟩
      rw [List.nil_append] at hO0
      rw [show ([] : List Int).length + rb.length = n0 by simp [hn0]] at hrun0 hO0
      obtain ⟨va1, vc1, wb1, hrun1, hO1, bb1⟩ := append_ints hO0 (ISl.more SX.out.2.1 ba0) (by first | omega | (simp; omega)) ba0.size
      have ba1 := ba0.trans bb1
      obtain ⟨n1, hn1⟩ : ∃ z : Nat, z = rb.length + ra.length := ⟨_, rfl⟩
      rw [show (rb).length + ra.length = n1 by simp [hn1]] at hrun1 hO1
      obtain ⟨va2, vc2, wb2, hrun2, hO2, bb2⟩ := append_ints hO1 (ISl.more SX.out.2.2 ba1) (by first | omega | (simp; omega)) ba1.size
      have ba2 := ba1.trans bb2
      obtain ⟨n2, hn2⟩ : ∃ z : Nat, z = rb.length + ra.length + rb.length := ⟨_, rfl⟩
      rw [show (rb ++ ra).length + rb.length = n2 by simp [hn2]] at hrun2 hO2
      have hIs : ISl wb2 (fun _ => True) (.slice va2 n2 vc2) (rb ++ ra ++ rb) := hO2.rsl intGood _ (fun _ _ _ => trivial) (fun _ _ _ => trivial)
      have HLV := live_any wb2 _ _ _ _ h (rb ++ ra ++ rb) (SX.out.1.val.below ba2) hIs hn HF.out.2 (by simp; omega)
      rw [HLT.out] at HLV
      have HLVH := hid HLV
      clear HLV hIs hn0 hO0 bb0 hn1 hO1 bb1 hn2 hO2 bb2 hOa bd SX
      refine (wpIn_wide (n := 9)).1 ?_
      refine wpIn_region_held (fun W => Below w5x.heap.size w5x W) (by kernel_rfl) ?_
      rw [hw5]
      clear hw5
      refine wpAnyHF_takeD (i := 0) 74 (v := .agg #[.slice sa h.nodes.length sc, .int .i64 h.most]) rfl rfl rfl (by kernel_rfl) (by kernel_rfl) (by kernel_rfl) (fun _ _ _ h => h) ⟨.inl ⟨rfl, fun W hW => by have m0 := later_cell hW A0.out; have m1 := later_cell hW A1.out; simp [execOp, go_sem, m0, m1]⟩, fun W => rfl⟩ (Below.refl _ _) ?_
      refine wpAnyHF_takeD (i := 2) 76 (v := .slice arb rb.length crb) rfl rfl rfl (by kernel_rfl) (by kernel_rfl) (by kernel_rfl) (fun _ _ _ h => h) ⟨.inl ⟨rfl, fun W hW => by simp [execOp, go_sem]⟩, fun W => rfl⟩ (Below.refl _ _) ?_
      refine wpAnyHF_takeD (i := 4) 78 (v := .slice ara ra.length cra) rfl rfl rfl (by kernel_rfl) (by kernel_rfl) (by kernel_rfl) (fun _ _ _ h => h) ⟨.inl ⟨rfl, fun W hW => by simp [execOp, go_sem]⟩, fun W => rfl⟩ (Below.refl _ _) ?_
      refine wpAnyHF_takeD (i := 6) 80 (v := .slice arb rb.length crb) rfl rfl rfl (by kernel_rfl) (by kernel_rfl) (by kernel_rfl) (fun _ _ _ h => h) ⟨.inl ⟨rfl, fun W hW => by simp [execOp, go_sem]⟩, fun W => rfl⟩ (Below.refl _ _) ?_
      simp only [Act.put, List.setIfInBounds_toArray, List.set_cons_zero, List.set_cons_succ]
      refine wpAnyHF_one (i := 1) (by kernel_rfl) rfl rfl ?_
      refine wpIn_valueD 75 rfl (w' := wa) (v := .slice (some ⟨Ka, 0, none⟩) 0 0) (by simp [execOp, go_sem, hwa, hKa]) ⟨ba, ?_⟩
      simp only [Act.put, List.setIfInBounds_toArray, List.set_cons_zero, List.set_cons_succ]
      refine wpAnyHF_one (i := 3) (by kernel_rfl) rfl rfl ?_
      refine wpIn_valueD 77 rfl (w' := wb0) (v := .slice va0 n0 vc0) (run_append_op (.tmp 75) (.tmp 76) 25 rfl rfl (v := .slice (some ⟨Ka, 0, none⟩) 0 0) (xv := .slice arb rb.length crb) (by simp [go_sem]) (by simp [go_sem]) hrun0) ⟨ba0, ?_⟩
      simp only [Act.put, List.setIfInBounds_toArray, List.set_cons_zero, List.set_cons_succ]
      refine wpAnyHF_one (i := 5) (by kernel_rfl) rfl rfl ?_
      refine wpIn_valueD 79 rfl (w' := wb1) (v := .slice va1 n1 vc1) (run_append_op (.tmp 77) (.tmp 78) 25 rfl rfl (v := .slice va0 n0 vc0) (xv := .slice ara ra.length cra) (by simp [go_sem]) (by simp [go_sem]) hrun1) ⟨ba1, ?_⟩
      simp only [Act.put, List.setIfInBounds_toArray, List.set_cons_zero, List.set_cons_succ]
      refine wpAnyHF_one (i := 7) (by kernel_rfl) rfl rfl ?_
      refine wpIn_valueD 81 rfl (w' := wb2) (v := .slice va2 n2 vc2) (run_append_op (.tmp 79) (.tmp 80) 25 rfl rfl (v := .slice va1 n1 vc1) (xv := .slice arb rb.length crb) (by simp [go_sem]) (by simp [go_sem]) hrun2) ⟨ba2, ?_⟩
      simp only [Act.put, List.setIfInBounds_toArray, List.set_cons_zero, List.set_cons_succ]
      refine wpAnyHF_one (i := 8) (by kernel_rfl) rfl rfl ?_
      refine wpIn_callD 82 rfl (P := Try.prog) (f := 14) (args := #[.agg #[.slice sa h.nodes.length sc, .int .i64 h.most], .slice va2 n2 vc2]) (by simp [execOp, resolve, invoke, go_sem]) ?_
      refine HLVH.out.mono ?_
      rintro e wy ⟨rfl, by1⟩
      have byy := ba2.trans (by1.mono ba2.size)
      refine ⟨_, rfl, byy, ?_⟩
      simp only [Act.put, List.setIfInBounds_toArray, List.set_cons_zero, List.set_cons_succ]
      refine wpAnyHF_takeD (i := 9) 17 (v := .int .i64 lb) rfl rfl rfl (by kernel_rfl) (by kernel_rfl) (by kernel_rfl) (fun _ _ _ h => h) ⟨.inl ⟨rfl, fun W hW => by simp [execOp, go_sem]⟩, fun W => rfl⟩ byy ?_
      simp only [Act.put, List.setIfInBounds_toArray, List.set_cons_zero, List.set_cons_succ]
      refine wpAnyHF_done (by kernel_rfl) ?_ _
      have BS := hid byy
      clear byy by1 ba0 hrun0 ba1 hrun1 ba2 hrun2 ba hwa hKa
      gi_wp2
      go_wp2_with fail
      go_meet
      case rel => exact ⟨rfl, BD.out.trans (BS.out.mono BD.out.size)⟩
    case rest =>
      obtain ⟨rfl, bx⟩ := hcut
      have S8 := hid (And.intro (S7.out.1.more bx) (And.intro (ISl.more S7.out.2.1 bx) (ISl.more S7.out.2.2 bx)))
      clear S7
      obtain ⟨w10, hw6⟩ : ∃ z, z = wc := ⟨_, rfl⟩
      subst hw6
      clear bx
      go_wp2_with fail
      go_loopw [20, 18, 19] (fun s20 s18 s19 wr => ∃ (k pk : Nat) (aa : Option Addr) (ac : Nat) (L : List Int), k ≤ h.nodes.length ∧ s20 = .int .i64 k ∧ s18 = .slice aa L.length ac ∧ s19 = .int .i64 pk ∧ Hid (L = allK h.nodes k ∧ pk = (plK h.nodes k).length ∧ OSl IntE 1 3 w10.heap.size wr (fun _ => False) (.slice aa L.length ac) L ∧ Below w10.heap.size w10 wr)) (fun s20 _ _ _ => h.nodes.length - (intOf s20).toNat)
      case atStart => exact ⟨0, 0, none, 0, [], Nat.zero_le _, rfl, rfl, rfl, rfl, rfl, OSl.nil _ _ _ _ _ _, Below.refl _ _⟩
      case round =>
        obtain ⟨k, pk, aa, ac, L, hk, rfl, rfl, rfl, HR⟩ := hrel
        obtain ⟨wo, rfl⟩ : ∃ wo : World, wo = wr := ⟨_, rfl⟩
        have hpk : pk ≤ k := by rw [HR.out.2.1]; exact plK_le _ _
        have hL : L.length ≤ k := by rw [HR.out.1]; exact allK_le _ _
        have SO := hid (And.intro (S8.out.1.more HR.out.2.2.2) (And.intro (ISl.more S8.out.2.1 HR.out.2.2.2) (ISl.more S8.out.2.2 HR.out.2.2.2)))
        have c0 : wo.cell? ⟨w.heap.size, 0, none⟩ = some (.slice sa h.nodes.length sc) := SO.out.1.c0
        have c1 : wo.cell? ⟨w.heap.size, 1, none⟩ = some (.int .i64 h.most) := SO.out.1.c1
        by_cases hlt : k < h.nodes.length
        · have P' := at_res wo _ _ h k SO.out.1.val ⟨by omega, by omega⟩ hn HF.out.2
          have hAs := allK_step h.nodes k
          have hPs := plK_step h.nodes k
          cases hr : res h.nodes k with
          | none =>
            rw [hr] at P' hAs hPs
            simp only [Option.getD_none, Option.isSome_none, Bool.false_eq_true, if_false] at P' hAs
            rw [if_neg (by simp)] at hPs
            have P := hid P'
            have HS := hid (And.intro hAs hPs)
            clear P' hAs hPs hr
            go_wp2_with fail
            refine P.out.mono ?_
            rintro e w11 ⟨k1, n1, s1, a1, l1', c1', rfl, b⟩
            have bb := b.alloc b.size (.cells #[.int .i64 k1, .int .i64 n1, .string s1, .slice a1 l1' c1'] 37)
            have HN := hid (And.intro (HR.out.2.2.1.below intGood bb) (HR.out.2.2.2.trans (bb.mono HR.out.2.2.2.size)))
            clear b bb P c0 c1
            go_wp2_with fail
            go_roundw
            case rel => exact ⟨k + 1, pk, aa, ac, L, by omega, by go_num, rfl, rfl, by rw [HS.out.1]; exact HR.out.1, by rw [HS.out.2]; exact HR.out.2.1, HN.out.1, HN.out.2⟩
            case measure => simp [intOf]; omega
          | some q =>
            rw [hr] at P' hAs hPs
            simp only [Option.getD_some, Option.isSome_some, if_true] at P' hAs
            have P := hid P'
            have HS := hid (And.intro hAs hPs)
            clear P' hAs hPs hr
            go_wp2_with fail
            refine P.out.mono ?_
            rintro e w11 ⟨k1, n1, s1, a1, l1', c1', rfl, b⟩
            clear c0 c1 P
            go_upto_region 19 with (fail)
            have bb := b.alloc b.size (.cells #[.int .i64 k1, .int .i64 n1, .string s1, .slice a1 l1' c1'] 37)
            obtain ⟨w12, hww⟩ : ∃ z, w11.alloc (.cells #[.int .i64 k1, .int .i64 n1, .string s1, .slice a1 l1' c1'] 37) = z := ⟨_, rfl⟩
            rw [hww] at bb ⊢
            have hb12 := HR.out.2.2.2.trans (bb.mono HR.out.2.2.2.size)
            obtain ⟨va, vc, w13, hrun, hO, b3⟩ := append_int1 (z := (k : Int)) (HR.out.2.2.1.below intGood bb) ⟨by omega, by omega⟩ (by omega) hb12.size
            have HRUN := hid hrun
            have HN := hid (And.intro hO (hb12.trans b3))
            clear hrun hO b3 hb12 bb b hww
            by_cases e : q = (k : Int)
            · subst e
              have hPs2 := HS.out.2
              rw [if_pos rfl] at hPs2
              have HS2 := hid hPs2
              clear hPs2
              go_wp2_with (at_builtin; refine wpList_append_run rfl _ _ _ rfl _ _ rfl rfl _ _ HRUN.out ?_)
              go_roundw
              case rel =>
                have hlen : L.length + 1 = (L ++ [(k : Int)]).length := by simp
                have hN := HN.out.1
                rw [hlen] at hN
                exact ⟨k + 1, pk + 1, va, vc, L ++ [(k : Int)], by omega, by go_num, by rw [hlen], by go_num, by rw [HS.out.1, HR.out.1], by rw [HS2.out, HR.out.2.1], hN, HN.out.2⟩
              case measure => simp [intOf]; omega
            · have fe : (q == (k : Int)) = false := by simpa using e
              have hPs2 := HS.out.2
              rw [if_neg (by simpa using e)] at hPs2
              have HS2 := hid hPs2
              clear hPs2
              go_wp2_with (at_builtin; refine wpList_append_run rfl _ _ _ rfl _ _ rfl rfl _ _ HRUN.out ?_)
              go_roundw
              case rel =>
                have hlen : L.length + 1 = (L ++ [(k : Int)]).length := by simp
                have hN := HN.out.1
                rw [hlen] at hN
                exact ⟨k + 1, pk, va, vc, L ++ [(k : Int)], by omega, by go_num, by rw [hlen], rfl, by rw [HS.out.1, HR.out.1], by rw [HS2.out, HR.out.2.1], hN, HN.out.2⟩
              case measure => simp [intOf]; omega
        · obtain rfl : k = h.nodes.length := by omega
          have hIs : ISl wo (fun _ => True) (.slice aa L.length ac) L := HR.out.2.2.1.rsl intGood _ (fun _ _ _ => trivial) (fun _ _ _ => trivial)
          have P' := live_any wo _ _ _ _ h L SO.out.1.val hIs hn HF.out.2 (by omega)
          have hW := whole_all (h := h)
          rw [← HR.out.1, ← HR.out.2.1] at hW
          obtain ⟨wh, hwh⟩ : ∃ z, z = liveH h L := ⟨_, rfl⟩
          rw [← hwh] at P' hW
          have q5 : lb ≤ pk := by rw [HR.out.2.1]; exact HQ5.out
          have P := hid P'
          have SB := hid SO.out.1.bel
          have fs : decide ((lb : Int) ≤ (lx : Int) + ly) = true := by simp; omega
          clear P' hIs hwh SO
          go_wp2_with fail
          refine P.out.mono ?_
          rintro e w14 ⟨rfl, b⟩
          have BB := hid (SB.out.trans (b.mono SB.out.size))
          clear P b c0 c1 SB
          by_cases hw0 : wh = 0
          · subst hw0
            go_wp2_with fail
            go_ret
            exact Bb.fin rfl BB.out
          · obtain rfl : wh = pk := by omega
            have hw1 : ((wh : Int) == 0) = false := by simpa using hw0
            clear hW
            go_wp2_with fail
            go_ret
            exact Bb.fin rfl BB.out
end Go.Proofs.Ytajhchfjoeblgaa
