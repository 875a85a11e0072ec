/- gc.all: what it does to the mover, and what it hands back. -/
import Derived.Test.YtajhchfjoeblgaaGcB
namespace Go.Proofs.Ytajhchfjoeblgaa
open Go.RowKit Go.Shelf
theorem OSl.int_at {e : TypeId} {base : Nat} {w : World} {ok : Nat → Prop} {v : Value} {xs : List Int} (h : OSl IntE 1 e base w ok v xs) {k : Nat} {x : Int} (hk : xs[k]? = some x) :
    ∃ b cap, v = .slice (some ⟨b, 0, none⟩) xs.length cap ∧ base ≤ b ∧ (∃ c, w.heap[b]? = some (.cells c e (0, 0))) ∧ w.cell? ⟨b, k, none⟩ = some (.int .i64 x) ∧ In x ∧ ∀ z, In z → OSl IntE 1 e base (w.setCell ⟨b, k, none⟩ (.int .i64 z)) ok v (xs.set k z) := by
  have hlt : k < xs.length := (List.getElem?_eq_some_iff.1 hk).1
  have hr : ISl w (fun _ => True) v xs := h.rsl intGood _ (fun _ _ _ => trivial) (fun _ _ _ => trivial)
  obtain ⟨b1, o1, c1, x1, hv1, hx1, hin, e1⟩ := hr.at (Below.refl _ _) hlt
  rw [hk] at hx1; cases hx1
  obtain ⟨b, cap, hv, hb, hf, _, _⟩ := OSl.setCell intGood h (x' := x) hk (j := 0) (by decide) (.int .i64 x) (fun row hr => ⟨by rw [hr.1]; rfl, hr.2⟩)
  rw [hv1] at hv; cases hv
  refine ⟨b1, c1, hv1, hb, (h.lt b1 (by rw [hv1]; rfl)).2, by simpa using e1, hin, fun z hz => ?_⟩
  obtain ⟨b', cap', hv', _, _, _, hO⟩ := OSl.setCell intGood h (x' := z) hk (j := 0) (by decide) (.int .i64 z) (fun row hr => ⟨by rw [hr.1]; rfl, hz⟩)
  rw [hv1] at hv'; cases hv'
  simpa using hO
theorem Mv.setFar {base : Nat} {w : World} {B M : Nat} {sa : Option Addr} {sc : Nat} {h : Hp} {tv : Value} {S : List Int} {T : List Nd} {bad : Bool} {ok : Nat → Prop} (m : Mv base w B M sa sc h tv S T bad ok) {a : Addr} (u : Value)
    (hB : a.block ≠ B) (hM : a.block ≠ M) (ht : tv.ownBlock ≠ some a.block) (ho : ¬ ok a.block) (hb : base ≤ a.block) : Mv base (w.setCell a u) B M sa sc h tv S T bad ok :=
  ⟨by rw [Below.heap_setCell _ _ _ _ (fun e => hB e.symm)]; exact m.box, m.own.keep nodeGood ((Same.refl _ _).setCell u (fun h => h.elim ho (fun e => ht e.symm))), m.map.kept (Below.heap_setCell _ _ _ _ (fun e => hM e.symm)),
    m.hv.keep ((Same.refl _ _).setCell u (by omega)), m.ne, m.tvB, m.tvM, m.bB, m.bM⟩
theorem OSl.keptMo {e : TypeId} {base b0 B M : Nat} {w w' : World} {v tv tv' : Value} {xs : List Int} (h : OSl IntE 1 e b0 w (fun _ => False) v xs) (m : Mo base B M w w' tv tv') (hv : ∀ b, v.ownBlock = some b → b ≠ B ∧ b ≠ M ∧ tv.ownBlock ≠ some b) : OSl IntE 1 e b0 w' (fun _ => False) v xs :=
  h.keep intGood (fun b c e fr hb hc => by
    rcases hb with hb | hb
    · exact hb.elim
    · obtain ⟨h1, h2, h3⟩ := hv b hb.symm
      rw [m.fr b (lt_of_some hc) h1 h2 (fun e => h3 e.symm)]; exact hc)
def okOut (ok : Nat → Prop) (n : Nat) (ov : Value) (b : Nat) : Prop := ok b ∧ b < n ∨ (n ≤ b ∧ some b ≠ ov.ownBlock)
def AllPost (base : Nat) (w : World) (B M : Nat) (sa : Option Addr) (sc : Nat) (h : Hp) (tv : Value) (S : List Int) (T : List Nd) (bad : Bool) (ok : Nat → Prop) (ps : List Int) (e : Ending) (w' : World) : Prop :=
  ∃ tv' ov, e = .returned ov ∧ Mv base w' B M sa sc h tv' (addT h.nodes S ps) (T ++ rawT h.nodes S.length (addT h.nodes S ps)) (bad || fails h.nodes ps) (okOut ok w.heap.size ov) ∧ Mo base B M w w' tv tv' ∧
    OSl IntE 1 3 w.heap.size w' (fun _ => False) ov (outOf h.nodes (addT h.nodes S ps) ps) ∧ ∀ b, ov.ownBlock = some b → b ≠ B ∧ b ≠ M ∧ tv'.ownBlock ≠ some b
theorem mvP_in {ns : List Nd} {S : List Int} (hF : Fit ns S) (hn : ns.length ≤ 1000) (p : Int) : In (mvP ns S p) := by
  cases hr : res ns p with
  | none => rw [(mv_none (S := S) (T := []) hr).2.2]; exact ⟨by omega, by omega⟩
  | some q =>
    have hl := fit_len (fit_push hF (res_some hr).1)
    simp only [mvP, hr, pl]
    have : (push S q).idxOf q ≤ (push S q).length := List.idxOf_le_length
    exact ⟨by omega, by omega⟩
set_option maxHeartbeats 4000000 in
theorem all_any (base : Nat) (w : World) (B M : Nat) (sa : Option Addr) (sc : Nat) (h : Hp) (tv lv : Value) (S : List Int) (T : List Nd) (bad : Bool) (ok ok2 : Nat → Prop) (ps : List Int)
    (hm : Mv base w B M sa sc h tv S T bad ok) (hps : ISl w ok2 lv ps) (hpl : ps.length ≤ 1000) (hn : h.nodes.length ≤ 1000) (hkb : ∀ x ∈ h.nodes, x.kids.length ≤ 1000) (hF : Fit h.nodes S) (hT : T.length = S.length) (hbase : base ≤ w.heap.size) :
    Calls Try.prog 18 #[.pointer (some ⟨B, 0, none⟩), lv] w (AllPost base w B M sa sc h tv S T bad ok ps) := by
  have HC := hid (cloneO w _ lv ps hps (by omega))
  have HM := hid hm
  have HF := hid hF
  have HT := hid hT
  have HK := hid hkb
  clear hm hF hkb hT hps
  go_enter Try.func18, Try.ntmps18
  go_wp2_with fail
  refine HC.out.mono ?_
  rintro e w1 ⟨ov, rfl, hO1, b1⟩
  obtain ⟨oa, oc, rfl⟩ := hO1.shape
  have hBw := lt_of_some HM.out.box
  have hMw := HM.out.map.lt
  have htw : ∀ b, tv.ownBlock = some b → b < w.heap.size := fun b hb => by obtain ⟨_, c, hc⟩ := HM.out.own.lt b hb; exact lt_of_some hc
  have hov : ∀ b, (Value.slice oa ps.length oc).ownBlock = some b → w.heap.size ≤ b := fun b hb => (hO1.lt b hb).1
  have okne : ∀ b, okOut ok w.heap.size (.slice oa ps.length oc) b → b ≠ B ∧ b ≠ M := fun b hb => by
    rcases hb with hb | hb
    · exact HM.out.ne b hb.1
    · exact ⟨by omega, by omega⟩
  have M1 : Mv base w1 B M sa sc h tv S T bad (okOut ok w.heap.size (.slice oa ps.length oc)) :=
    (HM.out.weak (fun b hb ho => Or.inl ⟨ho, hb⟩) okne).later b1
  have HO1 := hid hO1
  have HM1 := hid (And.intro M1 (Mo.refl (tv := tv) (B := B) (M := M) b1 hbase))
  have HV := hid (And.intro htw (And.intro hov okne))
  clear hO1 M1 b1 HC htw hov okne
  go_wp2_with fail
  go_loopw [11] (fun i wr => ∃ (k : Nat) (tk : Value), k ≤ ps.length ∧ i = .int .i64 k ∧ Hid (Mv base wr B M sa sc h tk (addT h.nodes S (ps.take k)) (T ++ rawT h.nodes S.length (addT h.nodes S (ps.take k))) (bad || fails h.nodes (ps.take k)) (okOut ok w.heap.size (.slice oa ps.length oc)) ∧
    Mo base B M w wr tv tk ∧ OSl IntE 1 3 w.heap.size wr (fun _ => False) (.slice oa ps.length oc) (outAt h.nodes S ps k))) (fun i _ => ps.length - (intOf i).toNat)
  case atStart =>
    refine ⟨0, tv, Nat.zero_le _, rfl, ?_, HM1.out.2, ?_⟩
    · have e0 : rawT h.nodes S.length S = [] := by simp [rawT]
      simp only [List.take_zero, addT, e0, List.append_nil, fails, List.any_nil, Bool.or_false]
      exact HM1.out.1
    · rw [outAt_zero]; exact HO1.out
  case round =>
    obtain ⟨k, tk, hk, rfl, HR⟩ := hrel
    obtain ⟨wo, rfl⟩ : ∃ wo : World, wo = wr := ⟨_, rfl⟩
    by_cases hlt : k < ps.length
    · obtain ⟨p, hp⟩ : ∃ p, ps[k]? = some p := ⟨_, List.getElem?_eq_getElem hlt⟩
      have hxk : (outAt h.nodes S ps k)[k]? = some p := by rw [outAt_get]; exact hp
      obtain ⟨O, oc', hv, hOb, ⟨cc, hOh⟩, hcell, hin, _⟩ := HR.out.2.2.int_at hxk
      rw [outAt_len] at hv
      obtain ⟨rfl, rfl⟩ : oa = some ⟨O, 0, none⟩ ∧ oc = oc' := by cases hv; exact ⟨rfl, rfl⟩
      have hFk := fit_addT (ps.take k) HF.out
      have hTk : (T ++ rawT h.nodes S.length (addT h.nodes S (ps.take k))).length = (addT h.nodes S (ps.take k)).length := by
        have := (addT_prefix h.nodes (ps.take k) S).length_le
        have ht := HT.out
        simp [rawT]; omega
      have HMV := hid (move_any base wo B M sa sc h tk _ _ _ _ p HR.out.1 hin hn HK.out hFk hTk (Nat.le_trans hbase HR.out.2.1.bel.size))
      have HP := hid (And.intro hp (And.intro hFk hOb))
      clear hp hxk hFk hTk hin hOb hv
      have hOlt := lt_of_some hOh
      clear hOh
      go_wp2_with fail
      refine HMV.out.mono ?_
      rintro e w2 ⟨t2, rfl, hM2, hMo2⟩
      have hOB : O ≠ B := by have := HP.out.2.2; omega
      have hOM : O ≠ M := by have := HP.out.2.2; omega
      have hOt : tk.ownBlock ≠ some O := fun e => by
        rcases HR.out.2.1.tv with h' | ⟨j, h', hj⟩
        · rw [h'] at e; have := HV.out.1 O e; have := HP.out.2.2; omega
        · exact absurd e (by
            obtain ⟨_, c, hc⟩ := HR.out.1.own.lt O e
            obtain ⟨_, c', hc'⟩ := HR.out.2.2.lt O rfl
            rw [hc] at hc'; cases hc')
      have hO2 : OSl IntE 1 3 w.heap.size w2 (fun _ => False) (.slice (some ⟨O, 0, none⟩) ps.length oc) (outAt h.nodes S ps k) := HR.out.2.2.keptMo hMo2 (fun b hb => by cases hb; exact ⟨hOB, hOM, hOt⟩)
      have hxk : (outAt h.nodes S ps k)[k]? = some p := by rw [outAt_get]; exact HP.out.1
      obtain ⟨O', oc', hv, _, ⟨cc, hOh⟩, hcell2, _, hset⟩ := hO2.int_at hxk
      rw [outAt_len] at hv
      obtain ⟨rfl, rfl⟩ : O = O' ∧ oc = oc' := by cases hv; exact ⟨rfl, rfl⟩
      have hf2 : w2.frozen? ⟨O, k, none⟩ = false := free_of hOh
      have hOt2 : t2.ownBlock ≠ some O := fun e => by
        rcases hMo2.tv with h' | ⟨j, h', hj⟩
        · rw [h'] at e; exact hOt e
        · rw [h'] at e; cases e; omega
      have hnok : ¬ okOut ok w.heap.size (.slice (some ⟨O, 0, none⟩) ps.length oc) O := fun h => by
        rcases h with h | h
        · have := HP.out.2.2; omega
        · exact h.2 rfl
      have hstep := hset _ (mvP_in HP.out.2.1 hn p)
      rw [outAt_step h.nodes S ps HP.out.1] at hstep
      have hM3 := (hM2.weak (ok' := okOut ok w.heap.size (.slice (some ⟨O, 0, none⟩) ps.length oc)) (fun b _ hb => by
        rcases hb with hb | hb
        · exact hb.1
        · exact .inr ⟨Nat.le_trans HR.out.2.1.bel.size hb, fun e => by have e' : b = O := Option.some.inj e; omega⟩) HV.out.2.2).setFar (a := ⟨O, k, none⟩) (.int .i64 (mvP h.nodes (addT h.nodes S (ps.take k)) p)) hOB hOM hOt2 hnok (Nat.le_trans hbase HP.out.2.2)
      rw [rawT_step h.nodes S.length T ((addT_prefix h.nodes (ps.take k) S).length_le) p, ← addT_step h.nodes S ps HP.out.1, ← fails_step h.nodes ps HP.out.1 bad] at hM3
      have hMo3 : Mo base B M w (w2.setCell ⟨O, k, none⟩ (.int .i64 (mvP h.nodes (addT h.nodes S (ps.take k)) p))) tv t2 := by
        have hmo := HR.out.2.1.trans hMo2
        exact ⟨hmo.bel.setCell (Nat.le_trans hbase HP.out.2.2) _, fun b h1 h2 h3 h4 => by rw [Below.heap_setCell _ _ _ _ (by have := HP.out.2.2; simp; omega)]; exact hmo.fr b h1 h2 h3 h4, hmo.tv⟩
      have HN := hid (And.intro hM3 (And.intro hMo3 hstep))
      clear hM2 hMo2 hO2 hxk hv hOh hset hOt2 hnok hstep hM3 hMo3 hOt HMV hcell hOB hOM
      go_wp2_with fail
      go_roundw
      case rel => exact ⟨k + 1, t2, by omega, by go_num, HN.out⟩
      case measure => simp [intOf]; omega
    · obtain rfl : k = ps.length := by omega
      go_wp2_with fail
      go_ret
      have hE := HR.out
      rw [List.take_length, outAt_end] at hE
      refine ⟨tk, _, rfl, hE.1, hE.2.1, hE.2.2, fun b hb => ?_⟩
      have hb' := HV.out.2.1 b hb
      refine ⟨by omega, by omega, fun e => ?_⟩
      obtain ⟨_, c, hc⟩ := hE.1.own.lt b e
      obtain ⟨_, c', hc'⟩ := hE.2.2.lt b hb
      rw [hc] at hc'; cases hc'
end Go.Proofs.Ytajhchfjoeblgaa
