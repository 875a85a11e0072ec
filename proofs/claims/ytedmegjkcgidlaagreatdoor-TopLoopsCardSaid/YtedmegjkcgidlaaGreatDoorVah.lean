/- A part of the proof of TopLoops: VxFastF, VxFastG, VxFastH, VxFastI, VxFastJ. -/
import Derived.Test.YtedmegjkcgidlaaGreatDoorVag
set_option linter.all false
set_option linter.unusedVariables false
set_option linter.unusedSimpArgs false
noncomputable section
open Go
namespace Go.Vx
variable {x : Cx} {e : List Ent} {fr2 fr2' : Fr} {bx bx' : Bx} {fr fr' : List V} {lo lo' : Lo} {h h' : H} {v v' : V} {d t off : Nat} {g : Gd}

theorem killE_mem : ∀ {e : List Ent} {n : Ent}, n ∈ killE d e → n ∈ e ∧ n.s ≠ d ∧ n.t ≠ d ∧ gOf n.g d = false
  | [], n, hn => by cases hn
  | y :: e, n, hn => by
    simp only [killE] at hn
    cases hq : (Nat.beq y.s d || Nat.beq y.t d || gOf y.g d) with
    | true =>
      rw [hq] at hn
      have := killE_mem hn
      exact ⟨List.mem_cons_of_mem _ this.1, this.2⟩
    | false =>
      rw [hq] at hn
      simp only [Bool.or_eq_false_iff] at hq
      rcases List.mem_cons.1 hn with rfl | hn
      · exact ⟨List.mem_cons_self, fun hs => by simp [hs] at hq, fun hs => by simp [hs] at hq, hq.2⟩
      · have := killE_mem hn
        exact ⟨List.mem_cons_of_mem _ this.1, this.2⟩
theorem RX.sub {e' : List Ent} (r : RX x e fr2 bx fr lo) (hs : ∀ n ∈ e', n ∈ e) : RX x e' fr2 bx fr lo := ⟨r.cap, r.len, r.val, r.box, fun n hn => r.ent n (hs n hn), r.mrk⟩
theorem RX.kill (r : RX x e fr2 bx fr lo) : RX x (killE d e) fr2 bx fr lo := r.sub fun _ hn => (killE_mem hn).1
theorem RX.killO (r : RX x e fr2 bx fr lo) {d : Option Nat} : RX x (killO d e) fr2 bx fr lo := by
  cases d with
  | none => exact r
  | some d => exact r.kill
theorem gd_set (hg : gOf g d = false) (hd : gdOk (lset fr d v) g) : gdOk fr g := by
  cases g with
  | none => trivial
  | some p =>
    obtain ⟨s, b⟩ := p
    simp only [gdOk] at hd ⊢
    rw [lget_lset, if_neg (fun hq => by simp [gOf, hq.1] at hg)] at hd
    exact hd
theorem RV.noLp (hv : RV v v') : noLp v = noLp v' := by
  rcases hv with rfl | ⟨⟨t, o, rfl⟩, rfl⟩ <;> rfl
theorem rdS_ok {s : Nat} (hs : rdS x s = true) : bitM x.B s = false ∧ bitM x.PT s = false ∧ s < 216 := by
  simp only [rdS, Bool.and_eq_true, Bool.not_eq_true', Nat.ble_eq] at hs
  exact ⟨hs.1.1, hs.1.2, hs.2⟩
theorem RX.set (r : RX x e fr2 bx fr lo) (hd : bitM x.B d = false) (hn : d < x.nt) (hv : RV v v') : RX x (killE d e) ((ss d).f fr2 v) bx (lset fr d v') lo := by
  have h216 : d < 216 := Nat.lt_of_lt_of_le hn r.cap
  refine ⟨r.cap, by rw [lset_length, r.len], fun s hs => ?_, fun t ht hb hne => ?_, fun n hq hg => ?_, fun hrf s hs => ?_⟩
  · obtain ⟨_, _, hs2⟩ := rdS_ok hs
    by_cases hsd : s = d
    · subst hsd
      rw [sg_same _ _ h216, lget_lset, if_pos ⟨rfl, by rw [r.len]; exact hn⟩]
      exact hv
    · rw [sg_other _ _ hs2 h216 hsd, lget_lset, if_neg (fun hq => hsd hq.1.symm)]
      exact r.val s hs
  · have htd : t ≠ d := by rintro rfl; rw [hb] at hd; cases hd
    rw [lget_lset, if_neg (fun hq => htd hq.1.symm)]
    exact r.box t ht hb hne
  · obtain ⟨h1, h2, h3, h4⟩ := killE_mem hq
    rw [lget_lset, if_neg (fun hq => h2 hq.1.symm)]
    exact r.ent n h1 (gd_set h4 hg)
  · by_cases hsd : s = d
    · subst hsd
      rw [sg_same _ _ h216, lget_lset, if_pos ⟨rfl, by rw [r.len]; exact hn⟩]
      exact hv.noLp
    · rw [sg_other _ _ hs h216 hsd, lget_lset, if_neg (fun hq => hsd hq.1.symm)]
      exact r.mrk hrf s hs
/-- a mark for a slot that holds no value -/
noncomputable def mkF (x : Cx) (d : Nat) (v : V) (fr2 : Fr) : Fr := bif x.rf then (ss d).f fr2 v else fr2
theorem markK_eq (x : Cx) (d : Nat) (v : V) (k : K2) (ih : Ih2) (fr2 : Fr) (bx : Bx) (h : H) : (markK x d v k).f ih fr2 bx h = k.f ih (mkF x d v fr2) bx h := by
  unfold markK mkF
  cases x.rf <;> rfl
theorem mkF_val {s : Nat} (hs : s < 216) (hd : d < 216) (hsd : s ≠ d) : (sg s).f (mkF x d v fr2) = (sg s).f fr2 := by
  unfold mkF
  cases x.rf with
  | true => exact sg_other _ _ hs hd hsd
  | false => rfl
theorem mkF_same (hd : d < 216) (hrf : x.rf = true) : (sg d).f (mkF x d v fr2) = v := by
  unfold mkF
  rw [hrf]
  exact sg_same _ _ hd
theorem RX.ptr (r : RX x e fr2 bx fr lo) (hp : bitM x.PT d = true) (hd : bitM x.B d = false) (hn : d < x.nt) (hg : gdOk fr g) : RX x (bif Nat.beq t d || gOf g d then killE d e else ⟨d, t, off, g⟩ :: killE d e) (mkF x d .undef fr2) bx (lset fr d (.lptr t off)) lo := by
  have h216 : d < 216 := Nat.lt_of_lt_of_le hn r.cap
  have base : RX x (killE d e) (mkF x d .undef fr2) bx (lset fr d (.lptr t off)) lo := by
    refine ⟨r.cap, by rw [lset_length, r.len], fun s hs => ?_, fun t ht hb hne => ?_, fun n hq hg => ?_, fun hrf s hs => ?_⟩
    · obtain ⟨_, h2, hs2⟩ := rdS_ok hs
      have hsd : s ≠ d := by rintro rfl; rw [hp] at h2; cases h2
      rw [mkF_val hs2 h216 hsd, lget_lset, if_neg (fun hq => hsd hq.1.symm)]
      exact r.val s hs
    · have htd : t ≠ d := by rintro rfl; rw [hb] at hd; cases hd
      rw [lget_lset, if_neg (fun hq => htd hq.1.symm)]
      exact r.box t ht hb hne
    · obtain ⟨h1, h2, h3, h4⟩ := killE_mem hq
      rw [lget_lset, if_neg (fun hq => h2 hq.1.symm)]
      exact r.ent n h1 (gd_set h4 hg)
    · by_cases hsd : s = d
      · subst hsd
        rw [mkF_same h216 hrf, lget_lset, if_pos ⟨rfl, by rw [r.len]; exact hn⟩]
        rfl
      · rw [mkF_val hs h216 hsd, lget_lset, if_neg (fun hq => hsd hq.1.symm)]
        exact r.mrk hrf s hs
  cases hq : (Nat.beq t d || gOf g d) with
  | true => exact base
  | false =>
    refine ⟨base.cap, base.len, base.val, base.box, fun n hn2 hg2 => ?_, base.mrk⟩
    simp only [cond_false] at hn2
    rcases List.mem_cons.1 hn2 with rfl | hn2
    · simp only
      rw [lget_lset, if_pos ⟨rfl, by rw [r.len]; exact hn⟩]
    · exact base.ent n hn2 hg2
theorem lget_killL (d : Nat) : ∀ (fr : List V) (s : Nat), lget (killL d fr) s = (match lget fr s with | .lptr u o => (bif Nat.beq u d then .undef else .lptr u o) | v => v)
  | [], s => rfl
  | y :: fr, 0 => by
    simp only [killL, lget_zero]
    cases y <;> rfl
  | y :: fr, s + 1 => by
    simp only [killL, lget_succ]
    exact lget_killL d fr s
theorem killL_len (d : Nat) : ∀ (fr : List V), (killL d fr).length = fr.length
  | [] => rfl
  | y :: fr => by simp only [killL, List.length_cons, killL_len d fr]
theorem RX.alloc {cs : List V} (r : RX x e fr2 bx fr lo) (hd : bitM x.B d = true) (hn : d < x.nt) : RX x (killE d e) (mkF x d .undef fr2) ((ss d).f bx cs) (lset (killL d fr) d (.lptr d 0)) (loSet lo d cs) := by
  have h216 : d < 216 := Nat.lt_of_lt_of_le hn r.cap
  have hlen : d < (killL d fr).length := by rw [killL_len, r.len]; exact hn
  refine ⟨r.cap, by rw [lset_length, killL_len, r.len], fun s hs => ?_, fun t ht hb hne => ?_, fun n hq hg => ?_, fun hrf s hs => ?_⟩
  · obtain ⟨h1, _, hs2⟩ := rdS_ok hs
    have hsd : s ≠ d := by rintro rfl; rw [hd] at h1; cases h1
    rw [mkF_val hs2 h216 hsd, lget_lset, if_neg (fun hq => hsd hq.1.symm), lget_killL]
    rcases r.val s hs with hv | ⟨hv, hu⟩
    · cases hw : lget fr s with
      | lptr u o =>
        dsimp only
        cases hb : Nat.beq u d with
        | true => exact .inr ⟨⟨u, o, hv.trans hw⟩, rfl⟩
        | false => exact .inl (hv.trans hw)
      | _ => exact .inl (hv.trans hw)
    · rw [hu]; exact .inr ⟨hv, rfl⟩
  · rw [lget_lset, loGet_loSet]
    by_cases htd : t = d
    · subst htd
      rw [if_pos ⟨rfl, hlen⟩, if_pos rfl, sg_same _ _ ht]
      exact ⟨rfl, rfl⟩
    · rw [sg_other _ _ ht h216 htd] at hne ⊢
      obtain ⟨h1, h2⟩ := r.box t ht hb hne
      rw [if_neg (fun hq => htd hq.1.symm), if_neg (Ne.symm htd), lget_killL, h1]
      refine ⟨?_, h2⟩
      dsimp only
      cases hb : Nat.beq t d with
      | true => exact absurd (Nat.eq_of_beq_eq_true hb) htd
      | false => rfl
  · obtain ⟨h1, h2, h3, h4⟩ := killE_mem hq
    rw [lget_lset, if_neg (fun hq => h2 hq.1.symm), lget_killL]
    have hg1 := gd_set h4 hg
    have hg2 : gdOk fr n.g := by
      cases hng : n.g with
      | none => trivial
      | some p =>
        obtain ⟨s, b⟩ := p
        rw [hng] at hg1
        simp only [gdOk] at hg1 ⊢
        rw [lget_killL] at hg1
        cases hw : lget fr s <;> rw [hw] at hg1 <;> first | exact hg1 | (dsimp only at hg1; rename_i u o; cases hb : Nat.beq u d <;> rw [hb] at hg1 <;> cases hg1)
    rw [r.ent n h1 hg2]
    dsimp only
    cases hb : Nat.beq n.t d with
    | true => exact absurd (Nat.eq_of_beq_eq_true hb) h3
    | false => rfl
  · by_cases hsd : s = d
    · subst hsd
      rw [mkF_same h216 hrf, lget_lset, if_pos ⟨rfl, hlen⟩]
      rfl
    · rw [mkF_val hs h216 hsd, lget_lset, if_neg (fun hq => hsd hq.1.symm), lget_killL, r.mrk hrf s hs]
      cases lget fr s with
      | lptr u o =>
        dsimp only
        cases Nat.beq u d <;> rfl
      | _ => rfl
theorem RX.pass (r : RX x e fr2 bx fr lo) (hd : bitM x.B d = true) (hn : d < x.nt) : RX x (killE d e) (mkF x d (.tuple []) fr2) ((ss d).f bx []) (lset fr d (.tuple [])) lo := by
  have h216 : d < 216 := Nat.lt_of_lt_of_le hn r.cap
  refine ⟨r.cap, by rw [lset_length, r.len], fun s hs => ?_, fun t ht hb hne => ?_, fun n hq hg => ?_, fun hrf s hs => ?_⟩
  · obtain ⟨h1, _, hs2⟩ := rdS_ok hs
    have hsd : s ≠ d := by rintro rfl; rw [hd] at h1; cases h1
    rw [mkF_val hs2 h216 hsd, lget_lset, if_neg (fun hq => hsd hq.1.symm)]
    exact r.val s hs
  · by_cases htd : t = d
    · subst htd; rw [sg_same _ _ ht] at hne; exact absurd rfl hne
    · rw [sg_other _ _ ht h216 htd] at hne ⊢
      rw [lget_lset, if_neg (fun hq => htd hq.1.symm)]
      exact r.box t ht hb hne
  · obtain ⟨h1, h2, h3, h4⟩ := killE_mem hq
    rw [lget_lset, if_neg (fun hq => h2 hq.1.symm)]
    exact r.ent n h1 (gd_set h4 hg)
  · by_cases hsd : s = d
    · subst hsd
      rw [mkF_same h216 hrf, lget_lset, if_pos ⟨rfl, by rw [r.len]; exact hn⟩]
    · rw [mkF_val hs h216 hsd, lget_lset, if_neg (fun hq => hsd hq.1.symm)]
      exact r.mrk hrf s hs
/-- a box is written -/
theorem RX.write {cs : List V} (r : RX x e fr2 bx fr lo) (ht : t < 216) (hb : bitM x.B t = true) (hne : (sg t).f bx ≠ []) : RX x e fr2 ((ss t).f bx cs) fr (loSet lo t cs) := by
  refine ⟨r.cap, r.len, r.val, fun s hs hsb hsn => ?_, r.ent, r.mrk⟩
  rw [loGet_loSet]
  by_cases hst : s = t
  · subst hst
    rw [if_pos rfl, sg_same _ _ hs]
    exact ⟨(r.box s hs hsb hne).1, rfl⟩
  · rw [sg_other _ _ hs ht hst] at hsn ⊢
    rw [if_neg (Ne.symm hst)]
    exact r.box s hs hsb hsn
end Go.Vx
end
noncomputable section
open Go
namespace Go.Vx
variable {mm : Memo} {fns : Nat → Option VFunc} {x : Cx} {e : List Ent} {fr2 fr2' : Fr} {bx bx' : Bx} {fr fr' : List V} {lo lo' : Lo} {h h' : H} {v v' : V} {d : Option Nat} {t off : Nat} {g : Gd} {k : K2} {ih2 : Ih2} {o2 : Out2} {o : VOp}

/-! ### Runs with fuel enough -/
def Ev (mm : Memo) (fns : Nat → Option VFunc) (c : Cmd) (fr : List V) (lo : Lo) (h : H) (o : Out) : Prop := ∃ N, ∀ m, N ≤ m → runM mm fns m c fr lo h = o
theorem Ev.of {c : Cmd} {o : Out} (hq : ∃ N, ∀ m, N ≤ m → stepM mm fns (runM mm fns m) c fr lo h = o) : Ev mm fns c fr lo h o := by
  obtain ⟨N, hN⟩ := hq
  refine ⟨N + 1, fun m hm => ?_⟩
  obtain ⟨m, rfl⟩ : ∃ k, m = k + 1 := ⟨m - 1, by omega⟩
  exact hN m (by omega)
/-- one instruction -/
def Do1 (mm : Memo) (fns : Nat → Option VFunc) (st : Ih → List Ins → List V → Lo → H → Out) (fr : List V) (lo : Lo) (h : H) (fr' : List V) (lo' : Lo) (h' : H) : Prop :=
  ∃ N, ∀ m, N ≤ m → ∀ ih : Ih, (∀ f as fr lo h, ih (.call f as) fr lo h = runM mm fns m (.call f as) fr lo h) → (∀ f as fr lo h, ih (.app f as) fr lo h = runM mm fns m (.app f as) fr lo h) → ∀ os, st ih os fr lo h = ih (.ops os) fr' lo' h'
def EvL (mm : Memo) (fns : Nat → Option VFunc) (dr : Bool) (l : List Ins) (fr : List V) (lo : Lo) (h : H) (o : Out) : Prop :=
  match dr with | false => Ev mm fns (.ops l) fr lo h o | true => ∃ N, ∀ m, N ≤ m → runIs (runM mm fns m) l fr lo h = o
def notChk (i : Ins) : Bool := match i with | .chk _ _ _ => false | _ => true
theorem EvL.cons {dr : Bool} {i : Ins} {os : List Ins} {o : Out} (hi : notChk i = true) (h1 : Do1 mm fns (fun ih os => stIns ih os i) fr lo h fr' lo' h') (h2 : EvL mm fns dr os fr' lo' h' o) : EvL mm fns dr (i :: os) fr lo h o := by
  obtain ⟨N1, h1⟩ := h1
  cases dr with
  | false =>
    obtain ⟨N2, h2⟩ := h2
    refine Ev.of ⟨N1 + N2, fun m hm => ?_⟩
    have := h1 m (by omega) (runM mm fns m) (fun _ _ _ _ _ => rfl) (fun _ _ _ _ _ => rfl) os
    exact this.trans (h2 m (by omega))
  | true =>
    obtain ⟨N2, h2⟩ := h2
    refine ⟨N1 + N2, fun m hm => ?_⟩
    have := h1 m (by omega) (ihN (runM mm fns m)) (fun _ _ _ _ _ => rfl) (fun _ _ _ _ _ => rfl) []
    have e1 : runIs (runM mm fns m) (i :: os) fr lo h = kRun (runIs (runM mm fns m) os) (stIns (ihN (runM mm fns m)) [] i fr lo h) := by
      cases i <;> first | rfl | cases hi
    rw [e1]
    have this : stIns (ihN (runM mm fns m)) [] i fr lo h = .norm fr' lo' h' := this
    rw [this]
    exact h2 m (by omega)
theorem EvL.chk {t : Nat} {os : List Ins} {out : Out} (hc : chkG g t o fr lo h = true) (h2 : EvL mm fns true os fr lo h out) : EvL mm fns true (.chk g t o :: os) fr lo h out := by
  obtain ⟨N2, h2⟩ := h2
  refine ⟨N2, fun m hm => ?_⟩
  have : runIs (runM mm fns m) (.chk g t o :: os) fr lo h = bif chkG g t o fr lo h then runIs (runM mm fns m) os fr lo h else .fail := rfl
  rw [this, hc]
  exact h2 m hm

/-! ### Places of the frame -/
theorem okT_ok (hq : okT x t = true) : bitM x.B t = true ∧ t < 216 := by
  simp only [okT, Bool.and_eq_true, Nat.ble_eq] at hq
  exact ⟨hq.1, hq.2⟩
theorem gdEq_ok {a b : Gd} (hq : gdEq a b = true) : a = b := by
  cases a with
  | none => cases b with
    | none => rfl
    | some q => cases hq
  | some p => cases b with
    | none => cases hq
    | some q =>
      obtain ⟨s, y⟩ := p
      obtain ⟨t, z⟩ := q
      simp only [gdEq, Bool.and_eq_true] at hq
      have h1 := Nat.eq_of_beq_eq_true hq.1
      have h2 : y = z := by cases y <;> cases z <;> simp_all
      rw [h1, h2]
theorem inE_ok (hg : gdOk fr g) : ∀ {e : List Ent} {s : Nat} {p : Nat × Nat}, (∀ n ∈ e, gdOk fr n.g → lget fr n.s = .lptr n.t n.o) → inE e g s = some p → lget fr s = .lptr p.1 p.2
  | [], s, p, _, hq => by cases hq
  | y :: e, s, p, he, hq => by
    simp only [inE] at hq
    cases h1 : Nat.beq y.s s with
    | false => rw [h1] at hq; exact inE_ok hg (fun n hn => he n (List.mem_cons_of_mem _ hn)) hq
    | true =>
      have hs := Nat.eq_of_beq_eq_true h1
      subst hs
      rw [h1] at hq
      simp only [cond_true] at hq
      cases h2 : (isNo y.g || gdEq y.g g) with
      | false => rw [h2] at hq; cases hq
      | true =>
        rw [h2] at hq
        cases hq
        refine he y List.mem_cons_self ?_
        rw [Bool.or_eq_true] at h2
        rcases h2 with h2 | h2
        · cases hyg : y.g with
          | none => trivial
          | some _ => rw [hyg] at h2; cases h2
        · rw [gdEq_ok h2]; exact hg
theorem ptrAt_ok (r : RX x e fr2 bx fr lo) (hg : gdOk fr g) {a : Opd} (hq : ptrAt x e g a = some (t, off)) : bitM x.B t = true ∧ t < 216 ∧ ((sg t).f bx ≠ [] → a.ev fr = .lptr t off) := by
  cases a with
  | const v => cases hq
  | tmp s =>
    simp only [ptrAt] at hq
    cases h1 : bitM x.B s with
    | true =>
      rw [h1] at hq
      simp only [cond_true] at hq
      cases h2 : okT x s with
      | false => rw [h2] at hq; cases hq
      | true =>
        rw [h2] at hq
        cases hq
        obtain ⟨q1, q2⟩ := okT_ok h2
        exact ⟨q1, q2, fun hne => (r.box _ q2 q1 hne).1⟩
    | false =>
      rw [h1] at hq
      simp only [cond_false] at hq
      cases h2 : bitM x.PT s with
      | false => rw [h2] at hq; cases hq
      | true =>
        rw [h2] at hq
        simp only [cond_true] at hq
        cases h3 : inE e g s with
        | none => rw [h3] at hq; cases hq
        | some p =>
          rw [h3] at hq
          obtain ⟨p1, p2⟩ := p
          dsimp only at hq
          cases h4 : okT x p1 with
          | false => rw [h4] at hq; cases hq
          | true =>
            rw [h4] at hq
            cases hq
            obtain ⟨q1, q2⟩ := okT_ok h4
            exact ⟨q1, q2, fun _ => inE_ok hg r.ent h3⟩
theorem ptrOp_ok (r : RX x e fr2 bx fr lo) (hg : gdOk fr g) (hq : ptrOp x e g o = some (t, off)) (hne : (sg t).f bx ≠ []) (dn : Nat) : isAlloc o = false ∧ evOp dn o fr lo h = .ok (.lptr t off) lo h := by
  cases o with
  | mv a =>
    have := (ptrAt_ok r hg hq).2.2 hne
    exact ⟨rfl, by simp only [evOp, opMv, this]⟩
  | nilck a =>
    have := (ptrAt_ok r hg hq).2.2 hne
    exact ⟨rfl, by simp only [evOp, opNilck, this]⟩
  | fieldAddr k a =>
    simp only [ptrOp] at hq
    cases h1 : ptrAt x e g a with
    | none => rw [h1] at hq; cases hq
    | some p =>
      rw [h1] at hq
      obtain ⟨p1, p2⟩ := p
      cases hq
      have := (ptrAt_ok r hg h1).2.2 hne
      exact ⟨rfl, by simp only [evOp, opFieldAddr, this]⟩
  | _ => cases hq

/-! ### Values -/
theorem skip_nil : ∀ n, skip n [] = [] | 0 => rfl | _ + 1 => rfl
theorem listGet_skip {n : Nat} {cs : List V} {c : V} (hq : listGet n cs = some c) : ∃ r, skip n cs = c :: r := by
  unfold listGet at hq
  cases hs : skip n cs with
  | nil => rw [hs] at hq; cases hq
  | cons a r => rw [hs] at hq; cases hq; exact ⟨r, rfl⟩
theorem valW_ok {p : W (Fr → Bx → H → OX)} (r : RX x e fr2 bx fr lo) (hg : gdOk fr g) (hp : valW x e g o = some p) (he : p.f fr2 bx h = .ok v h') (dn : Nat) : isAlloc o = false ∧ ∃ v', evOp dn o fr lo h = .ok v' lo h' ∧ RV v v' := by
  have gen : (bif rdL x (VOp.slots o) then some (⟨fun fr _ h => (opW o).f fr h⟩ : W (Fr → Bx → H → OX)) else none) = some p → isAlloc o = false ∧ ∃ v', evOp dn o fr lo h = .ok v' lo h' ∧ RV v v' := by
    intro hp
    cases hs : rdL x (VOp.slots o) with
    | false => rw [hs] at hp; cases hp
    | true =>
      rw [hs] at hp
      cases hp
      exact opW_ok r hs he
  cases o with
  | load1 a =>
    simp only [valW] at hp
    cases h1 : ptrAt x e g a with
    | none => rw [h1] at hp; exact gen hp
    | some q =>
      obtain ⟨t, off⟩ := q
      rw [h1] at hp
      cases hp
      obtain ⟨hb, ht, ha⟩ := ptrAt_ok r hg h1
      obtain ⟨hv, rfl⟩ := ox_ok he
      rw [nthW_eq] at hv
      have hne : (sg t).f bx ≠ [] := by
        intro hq; rw [hq] at hv; unfold listGet at hv; rw [skip_nil] at hv; cases hv
      obtain ⟨rr, hs⟩ := listGet_skip hv
      refine ⟨rfl, v, ?_, .inl rfl⟩
      simp only [evOp, opLoad1, ha hne, cellsAt, (r.box t ht hb hne).2, hs]
  | loadA n a =>
    simp only [valW] at hp
    cases h1 : ptrAt x e g a with
    | none => rw [h1] at hp; exact gen hp
    | some q =>
      obtain ⟨t, off⟩ := q
      rw [h1] at hp
      dsimp only at hp
      cases hn : Nat.beq n 0 with
      | true => rw [hn] at hp; cases hp
      | false =>
        rw [hn] at hp
        cases hp
        obtain ⟨hb, ht, ha⟩ := ptrAt_ok r hg h1
        obtain ⟨cs, hv, he⟩ := optX he
        cases he
        rw [takeW_eq, skipW_eq] at hv
        have hne : (sg t).f bx ≠ [] := by
          intro hq
          rw [hq, skip_nil] at hv
          cases n with
          | zero => cases hn
          | succ n => cases hv
        refine ⟨rfl, _, ?_, .inl rfl⟩
        simp only [evOp, opLoadA, ha hne, cellsAt, (r.box t ht hb hne).2, hv]
  | _ => exact gen hp
theorem setK_ok (r : RX x e fr2 bx fr lo) (he : (setK x d k).f ih2 fr2 bx v h = o2) (hn : o2 ≠ .fail) (hv : RV v v') : ∃ fr2', RX x (killO d e) fr2' bx (putD fr d v') lo ∧ k.f ih2 fr2' bx h = o2 := by
  cases d with
  | none => exact ⟨fr2, r, he⟩
  | some d =>
    simp only [setK] at he
    cases hb : (bitM x.B d || !(Nat.ble (Nat.succ d) x.nt)) with
    | true => rw [hb] at he; exact absurd he.symm hn
    | false =>
      rw [hb] at he
      simp only [Bool.or_eq_false_iff, Bool.not_eq_false', Nat.ble_eq] at hb
      exact ⟨_, r.set hb.1 hb.2 hv, he⟩
theorem stI_op (hal : isAlloc o = false) (ih : Ih) (os : List Ins) : stI ih os (.op d o) fr lo h = kPut ih os fr d (evOp (d.getD 0) o fr lo h) := by
  cases d with
  | none => simp only [stI, hal, cond_false, Option.getD]
  | some d => simp only [stI, hal, cond_false, Option.getD]
theorem envO_val (hp : ptrOp x e g o = none) : envO x e g d o = killO d e := by
  cases d with
  | none => rfl
  | some d => simp only [envO, hp]; rfl
theorem opV_ok (r : RX x e fr2 bx fr lo) (hg : gdOk fr g) (hp : ptrOp x e g o = none) (he : (opV x e g d o k).f ih2 fr2 bx h = o2) (hn : o2 ≠ .fail) :
    ∃ fr2' bx' h' fr' lo', (∀ ih os, stI ih os (.op d o) fr lo h = ih (.ops os) fr' lo' h') ∧ RX x (envO x e g d o) fr2' bx' fr' lo' ∧ k.f ih2 fr2' bx' h' = o2 := by
  unfold opV at he
  cases hw : valW x e g o with
  | none => rw [hw] at he; exact absurd he.symm hn
  | some p =>
    rw [hw] at he
    obtain ⟨v, h1, hv, he⟩ := oxR he hn
    obtain ⟨hal, v', hev, hrv⟩ := valW_ok r hg hw hv (d.getD 0)
    obtain ⟨fr3, hr3, he⟩ := setK_ok r he hn hrv
    refine ⟨fr3, bx, h1, putD fr d v', lo, fun ih os => ?_, ?_, he⟩
    · rw [stI_op hal, hev]; rfl
    · rw [envO_val hp]; exact hr3
theorem listR {l : List V} {K r : Out2} (hq : (List.rec (motive := fun _ => Out2) .fail (fun _ _ _ => K) l) = r) (hn : r ≠ .fail) : l ≠ [] ∧ K = r := by
  cases l with
  | nil => exact absurd hq.symm hn
  | cons a l => exact ⟨by simp, hq⟩
theorem opK_ok (r : RX x e fr2 bx fr lo) (hg : gdOk fr g) (he : (opK x e g d o k).f ih2 fr2 bx h = o2) (hn : o2 ≠ .fail) :
    ∃ fr2' bx' h' fr' lo', (∀ ih os, stI ih os (.op d o) fr lo h = ih (.ops os) fr' lo' h') ∧ RX x (envO x e g d o) fr2' bx' fr' lo' ∧ k.f ih2 fr2' bx' h' = o2 := by
  unfold opK at he
  cases hp : ptrOp x e g o with
  | some p =>
    obtain ⟨t, off⟩ := p
    rw [hp] at he
    cases d with
    | none => exact absurd he.symm hn
    | some d =>
      dsimp only at he
      cases hc : (bitM x.PT d && !(bitM x.B d) && Nat.ble (Nat.succ d) x.nt) with
      | false => rw [hc] at he; exact absurd he.symm hn
      | true =>
        rw [hc] at he
        simp only [Bool.and_eq_true, Bool.not_eq_true', Nat.ble_eq] at hc
        obtain ⟨hne, he⟩ := listR he hn
        rw [markK_eq] at he
        refine ⟨_, bx, h, lset fr d (.lptr t off), lo, fun ih os => ?_, ?_, he⟩
        · have := ptrOp_ok (h := h) r hg hp hne d
          rw [stI_op this.1, show (some d).getD 0 = d from rfl, this.2]; rfl
        · simp only [envO, hp]
          exact r.ptr hc.1.1 hc.1.2 hc.2 hg
  | none =>
    rw [hp] at he
    dsimp only at he
    cases o with
    | alloc z =>
      cases d with
      | none => exact absurd he.symm hn
      | some d =>
        dsimp only at he
        cases hc : (bitM x.B d && Nat.ble (Nat.succ d) x.nt && Nat.ble (Nat.succ d) 216) with
        | false => rw [hc] at he; exact absurd he.symm hn
        | true =>
          rw [hc] at he
          simp only [Bool.and_eq_true, Nat.ble_eq] at hc
          simp only [cond_true] at he
          rw [markK_eq] at he
          refine ⟨_, _, h, lset (killL d fr) d (.lptr d 0), loSet lo d z, fun ih os => ?_, ?_, he⟩
          · rfl
          · rw [envO_val hp]
            exact r.alloc hc.1.1 hc.1.2
    | boxv a =>
      cases d with
      | none => exact absurd he.symm hn
      | some d =>
        dsimp only at he
        cases hc : (bitM x.B d && Nat.ble (Nat.succ d) x.nt && Nat.ble (Nat.succ d) 216 && rdL x a.slots) with
        | false => rw [hc] at he; exact absurd he.symm hn
        | true =>
          rw [hc] at he
          simp only [Bool.and_eq_true, Nat.ble_eq] at hc
          simp only [cond_true] at he
          obtain ⟨cs, hcs, he⟩ := optR he hn
          rw [markK_eq] at he
          obtain ⟨_, hv, n1, n2⟩ := vals_ok (n := 0) (r.ro hc.2) hcs
          refine ⟨_, _, h, lset (killL d fr) d (.lptr d 0), loSet lo d cs, fun ih os => ?_, ?_, he⟩
          · have : opBoxv d a fr lo h = .ok (.lptr d 0) (loSet lo d (V.cells (a.ev fr))) h := by
              unfold opBoxv
              split
              · rename_i t o hq; exact absurd hq (n1 t o)
              · rename_i hq; exact absurd hq n2
              · rfl
            rw [hv] at this
            simp only [stI, isAlloc, cond_true, evOp, this]
            rfl
          · rw [envO_val hp]
            exact r.alloc hc.1.1.1 hc.1.1.2
    | store n a y =>
      dsimp only at he
      cases h1 : ptrAt x e g a with
      | none => rw [h1] at he; exact opV_ok r hg hp he hn
      | some q =>
        obtain ⟨t, off⟩ := q
        rw [h1] at he
        dsimp only at he
        cases hc : (rdL x y.slots && noD d) with
        | false => rw [hc] at he; exact absurd he.symm hn
        | true =>
          rw [hc] at he
          simp only [Bool.and_eq_true] at hc
          cases d with
          | some d => cases hc.2
          | none =>
            obtain ⟨vs, hvs, he⟩ := optR he hn
            obtain ⟨hb1, he⟩ := boolR he hn
            obtain ⟨hb2, he⟩ := boolR he hn
            obtain ⟨hne, he⟩ := listR he hn
            obtain ⟨cs, hcs, he⟩ := optR he hn
            obtain ⟨hb, ht, ha⟩ := ptrAt_ok r hg h1
            obtain ⟨_, hv, n1, n2⟩ := vals_ok (n := 0) (r.ro hc.1) hvs
            rw [lenF_eq] at hb1
            rw [okF_eq] at hb2
            refine ⟨fr2, _, h, fr, loSet lo t cs, fun ih os => ?_, r.write ht hb hne, he⟩
            rw [stI_op rfl]
            simp only [evOp]
            rw [opStore_eq n1 n2, hv, hb1, hb2, ha hne]
            simp only [Bool.and_self, cond_true, storeTo, (r.box t ht hb hne).2, splW_some hcs]
            rfl
    | mv a =>
      dsimp only at he
      cases hc : rdL x a.slots with
      | false => rw [hc] at he; exact absurd he.symm hn
      | true =>
        rw [hc] at he
        simp only [cond_true] at he
        obtain ⟨fr3, hr3, he⟩ := setK_ok r he hn (r.ro hc)
        refine ⟨fr3, bx, h, putD fr d (a.ev fr), lo, fun ih os => ?_, ?_, he⟩
        · rw [stI_op rfl]; rfl
        · rw [envO_val hp]; exact hr3
    | _ => exact opV_ok r hg hp he hn
end Go.Vx
end
noncomputable section
open Go
namespace Go.Vx
variable {mm : Memo} {fns : Nat → Option VFunc} {x : Cx} {e : List Ent} {fr2 fr2' : Fr} {bx bx' : Bx} {fr fr' : List V} {lo lo' : Lo} {h h' : H} {v v' : V} {d : Option Nat} {t off : Nat} {g : Gd} {k : K2} {ih2 : Ih2} {o2 : Out2} {o : VOp}

def OutR (x : Cx) (o2 : Out2) (o : Out) : Prop := match o2, o with
  | .norm fr2 bx h, .norm fr lo h' => h = h' ∧ RX x [] fr2 bx fr lo
  | .jump j fr2 bx h, .jump j' fr lo h' => j = j' ∧ h = h' ∧ RX x [] fr2 bx fr lo
  | _, _ => False
structure SndX (mm : Memo) (fns : Nat → Option VFunc) (ih : Ih2) : Prop where
  code : ∀ {x c fr2 bx h o2 fr lo}, ih (.code x c) fr2 bx h = o2 → o2 ≠ .fail → RX x [] fr2 bx fr lo → ∃ o, OutR x o2 o ∧ Ev mm fns (.code c) fr lo h o
  scope : ∀ {x c r fr2 bx h o2 fr lo}, ih (.scope x c r) fr2 bx h = o2 → o2 ≠ .fail → RX x [] fr2 bx fr lo → ∃ o, OutR x o2 o ∧ Ev mm fns (.scope c r) fr lo h o
  call : ∀ {f as fr2 bx h v h'}, ih (.call f as) fr2 bx h = .val v h' → ∀ fr lo, Ev mm fns (.call f as) fr lo h (.val v h')
  app : ∀ {f as fr2 bx h v h'}, ih (.app f as) fr2 bx h = .val v h' → ∀ fr lo, Ev mm fns (.app f as) fr lo h (.val v h')

theorem argW_ok : ∀ {l : List Opd} {vs : List V}, (∀ a ∈ l, RO fr2 fr a) → (argW l).f fr2 = some vs → anyLoc (Opd.evs l fr) = false ∧ Opd.evs l fr = vs
  | [], vs, _, hq => by cases hq; exact ⟨rfl, rfl⟩
  | y :: l, vs, hr, hq => by
    have e1 : (argW (y :: l)).f fr2 = Option.rec none (fun r => Bool.rec (some ((xo y).f fr2 :: r)) none (vLoc ((xo y).f fr2))) ((argW l).f fr2) := rfl
    rw [e1] at hq
    cases h1 : (argW l).f fr2 with
    | none => rw [h1] at hq; cases hq
    | some r =>
      rw [h1] at hq
      dsimp only at hq
      obtain ⟨q1, q2⟩ := argW_ok (fun a ha => hr a (List.mem_cons_of_mem _ ha)) h1
      cases h2 : vLoc ((xo y).f fr2) with
      | true => rw [h2] at hq; cases hq
      | false =>
        rw [h2] at hq
        cases hq
        have nl := vLoc_false h2
        rcases hr y List.mem_cons_self with hy | ⟨⟨t, o, hy⟩, _⟩
        · simp only [Opd.evs, ← hy, q2]
          refine ⟨?_, by trivial⟩
          rw [q2] at q1
          simp only [anyLoc]
          first
          | exact q1
          | (split
             · rename_i t o hq; exact absurd hq (nl t o)
             · exact q1)
        · exact absurd hy (nl t o)
theorem outR {K : V → H → Out2} {o r : Out2} (hq : (Out2.rec (motive := fun _ => Out2) .fail (fun _ _ _ => .fail) (fun _ _ _ _ => .fail) K o) = r) (hn : r ≠ .fail) : ∃ v h, o = .val v h ∧ K v h = r := by
  cases o with
  | val v h => exact ⟨v, h, rfl, hq⟩
  | _ => exact absurd hq.symm hn
def envP (x : Cx) (e : List Ent) (g : Gd) (i : Ins) : List Ent := match i with | .op d o => envO x e g d o | .defer _ _ _ => e | i => killO i.dst e
theorem mem_killE : ∀ {e : List Ent} {n : Ent} {d : Nat}, n ∈ e → n.s ≠ d → n.t ≠ d → gOf n.g d = false → n ∈ killE d e
  | [], n, d, hn, _, _, _ => by cases hn
  | y :: e, n, d, hn, h1, h2, h3 => by
    simp only [killE]
    rcases List.mem_cons.1 hn with rfl | hn
    · have e1 : Nat.beq n.s d = false := by cases hb : Nat.beq n.s d with | false => rfl | true => exact absurd (Nat.eq_of_beq_eq_true hb) h1
      have e2 : Nat.beq n.t d = false := by cases hb : Nat.beq n.t d with | false => rfl | true => exact absurd (Nat.eq_of_beq_eq_true hb) h2
      rw [e1, e2, h3]
      exact List.mem_cons_self
    · have := mem_killE hn h1 h2 h3
      cases (Nat.beq y.s d || Nat.beq y.t d || gOf y.g d) with
      | true => exact this
      | false => exact List.mem_cons_of_mem _ this
theorem killO_sub1 {d : Option Nat} {n : Ent} (hq : n ∈ killO d e) : n ∈ e := by
  cases d with
  | none => exact hq
  | some d => exact (killE_mem hq).1
theorem killO_comm {d d' : Option Nat} {n : Ent} (hq : n ∈ killO d (killO d' e)) : n ∈ killO d' (killO d e) := by
  cases d with
  | none => exact hq
  | some d => cases d' with
    | none => exact hq
    | some d' =>
      obtain ⟨h1, h2, h3, h4⟩ := killE_mem hq
      obtain ⟨k1, k2, k3, k4⟩ := killE_mem h1
      exact mem_killE (mem_killE k1 h2 h3 h4) k2 k3 k4
theorem killO_sub {d d' : Option Nat} {n : Ent} (hq : n ∈ killO d (killO d' e)) : n ∈ killO d e := killO_sub1 (killO_comm hq)
/-- an instruction under its guard -/
theorem insK_ok (hi : SndX mm fns ih2) {i : Ins} (r : RX x e fr2 bx fr lo) (hg : gdOk fr g) (he : (insK x e g i k).f ih2 fr2 bx h = o2) (hn : o2 ≠ .fail) :
    ∃ fr2' bx' h' fr' lo', Do1 mm fns (fun ih os => stI ih os i) fr lo h fr' lo' h' ∧ RX x (envP x e g i) fr2' bx' fr' lo' ∧ k.f ih2 fr2' bx' h' = o2 := by
  cases i with
  | op d o =>
    obtain ⟨a, b, c, f, l, h1, h2, h3⟩ := opK_ok r hg he hn
    exact ⟨a, b, c, f, l, ⟨0, fun m _ ih _ _ os => h1 ih os⟩, h2, h3⟩
  | call d f as =>
    simp only [insK] at he
    cases hc : rdL x (slotsL as) with
    | false => rw [hc] at he; exact absurd he.symm hn
    | true =>
      rw [hc] at he
      obtain ⟨vs, hvs, he⟩ := optR he hn
      obtain ⟨v, h1, hv, he⟩ := outR he hn
      obtain ⟨fr3, hr3, he⟩ := setK_ok r he hn (.inl rfl)
      obtain ⟨q1, q2⟩ := argW_ok (r.ros hc) hvs
      obtain ⟨N, hN⟩ := hi.call hv [] []
      refine ⟨fr3, bx, h1, putD fr d v, lo, ⟨N, fun m hm ih i1 _ os => ?_⟩, hr3, he⟩
      simp only [stI]
      rw [q1, q2, i1, hN m hm]
      rfl
  | dyn d f as =>
    simp only [insK] at he
    cases hc : rdL x (f.slots ++ slotsL as) with
    | false => rw [hc] at he; exact absurd he.symm hn
    | true =>
      rw [hc] at he
      obtain ⟨vs, hvs, he⟩ := optR he hn
      obtain ⟨v, h1, hv, he⟩ := outR he hn
      obtain ⟨fr3, hr3, he⟩ := setK_ok r he hn (.inl rfl)
      have hc2 := rdL_app hc
      obtain ⟨q1, q2⟩ := argW_ok (r.ros hc2.2) hvs
      have hf : (xo f).f fr2 = f.ev fr := by
        rcases r.ro hc2.1 with hf | ⟨⟨t, o, hf⟩, hu⟩
        · exact hf
        · exfalso
          rw [hf] at hv
          obtain ⟨N, hN⟩ := hi.app hv [] []
          have := hN (N + 1) (by omega)
          cases this
      rw [hf] at hv
      obtain ⟨N, hN⟩ := hi.app hv [] []
      refine ⟨fr3, bx, h1, putD fr d v, lo, ⟨N, fun m hm ih _ i2 os => ?_⟩, hr3, he⟩
      simp only [stI]
      rw [q1, q2, i2, hN m hm]
      rfl
  | defer ids f as =>
    simp only [insK] at he
    cases hc : rdL x f.slots with
    | false => rw [hc] at he; exact absurd he.symm hn
    | true =>
      rw [hc] at he
      obtain ⟨hb, he⟩ := boolR he hn
      refine ⟨fr2, bx, h, fr, lo, ⟨0, fun m _ ih _ _ os => ?_⟩, r, he⟩
      have hf : (xo f).f fr2 = f.ev fr := by
        rcases r.ro hc with hf | ⟨⟨t, o, hf⟩, hu⟩
        · exact hf
        · rw [hf] at hb; cases hb
      simp only [stI]
      rw [← hf, hb]; rfl
  | _ => exact absurd he.symm hn
theorem grdV_ok {b : Bool} {v : V} : (grdV b v = .yes → v = .bool b) ∧ (grdV b v = .no → v = .bool (!b) ∨ v = .tuple []) := by
  cases v with
  | bool c => cases b <;> cases c <;> exact ⟨fun h => (by first | rfl | cases h), fun h => (by first | exact .inl rfl | cases h)⟩
  | tuple l => cases l with
    | nil => exact ⟨fun h => (by cases h), fun _ => .inr rfl⟩
    | cons a l => exact ⟨fun h => (by cases h), fun h => (by cases h)⟩
  | _ => exact ⟨fun h => (by cases h), fun h => (by cases h)⟩
theorem elseK_ok (r : RX x e fr2 bx fr lo) (he : (elseK x d k).f ih2 fr2 bx h = o2) (hn : o2 ≠ .fail) : ∃ fr2' bx', RX x (killO d e) fr2' bx' (putD fr d (.tuple [])) lo ∧ k.f ih2 fr2' bx' h = o2 := by
  cases d with
  | none => exact ⟨fr2, bx, r, he⟩
  | some d =>
    simp only [elseK] at he
    cases hc : !(Nat.ble (Nat.succ d) x.nt && Nat.ble (Nat.succ d) 216) with
    | true => rw [hc] at he; exact absurd he.symm hn
    | false =>
      rw [hc] at he
      simp only [Bool.not_eq_false', Bool.and_eq_true, Nat.ble_eq] at hc
      simp only [cond_false] at he
      cases hb : bitM x.B d with
      | true =>
        rw [hb] at he
        simp only [cond_true] at he
        rw [markK_eq] at he
        exact ⟨_, _, r.pass hb hc.1, he⟩
      | false =>
        rw [hb] at he
        exact ⟨_, bx, r.set hb hc.1 (.inl rfl), he⟩
theorem eqX_ok (v w : V) : eqX v w = true → eqD v w = true := by
  let Q : List V → List V → Bool := fun l => V.rec_1 (motive_1 := fun _ => V → Bool) (motive_2 := fun _ => List V → Bool)
    (fun _ => false)
    (fun a y => match y with | .bool b => (bif a then b else !b) | _ => false)
    (fun k a y => match y with | .int l b => eqK k l && eqI a b | _ => false)
    (fun a y => match y with | .str b => bytesF a b | _ => false)
    (fun y => match y with | .nilPtr => true | _ => false)
    (fun _ _ _ => false)
    (fun a b y => match y with | .hptr c d => Nat.beq a c && Nat.beq b d | _ => false)
    (fun _ ih y => match y with | .fptr b => ih b | _ => false)
    (fun y => match y with | .nilSl => true | _ => false)
    (fun _ x ih y => match y with | .list b z => (bif x then z else !z) && ih b | _ => false)
    (fun a b c x d y => match y with | .hsl a' b' c' x' d' => Nat.beq a a' && Nat.beq b b' && Nat.beq c c' && Nat.beq d d' && eqO x x' | _ => false)
    (fun y => match y with | .nilMap => true | _ => false)
    (fun a y => match y with | .map b => Nat.beq a b | _ => false)
    (fun y => match y with | .nilFunc => true | _ => false)
    (fun fn _ _ iha ihb y => match fn, y with | .func f, .func (.func g) c d => Nat.beq f g && iha c && ihb d | _, _ => false)
    (fun y => match y with | .nilIface => true | _ => false)
    (fun _ _ _ _ => false)
    (fun _ ih y => match y with | .agg b => ih b | _ => false)
    (fun _ ih y => match y with | .tuple b => ih b | _ => false)
    (fun ys => match ys with | [] => true | _ :: _ => false)
    (fun _ _ ihv ihl ys => match ys with | [] => false | y :: ys => bif ihv y then ihl ys else false) l
  revert w
  refine V.rec (motive_1 := fun v => ∀ w, eqX v w = true → eqD v w = true) (motive_2 := fun l => ∀ m, Q l m = true → eqDs l m = true) ?_ ?_ ?_ ?_ ?_ ?_ ?_ ?_ ?_ ?_ ?_ ?_ ?_ ?_ ?_ ?_ ?_ ?_ ?_ ?_ ?_ v
  · intro w hq; cases hq
  · intro a w hq; cases w <;> first | (cases hq; done) | (simp only [eqD]; exact hq)
  · intro k a w hq; cases w <;> first | (cases hq; done) | (simp only [eqD]; exact hq)
  · intro s w hq; cases w <;> first | (cases hq; done) | (simp only [eqD]; rw [← bytesF_eq]; exact hq)
  · intro w hq; cases w <;> first | (cases hq; done) | simp only [eqD]
  · intro a b w hq; cases hq
  · intro a b w hq; cases w <;> first | (cases hq; done) | (simp only [eqD]; exact hq)
  · intro l ih w hq; cases w <;> first | (cases hq; done) | (simp only [eqD]; exact ih _ hq)
  · intro w hq; cases w <;> first | (cases hq; done) | simp only [eqD]
  · intro l y ih w hq
    cases w <;> first | (cases hq; done) | skip
    rename_i b z
    have hq : ((bif y then z else !z) && Q l b) = true := hq
    rw [Bool.and_eq_true] at hq
    simp only [eqD, Bool.and_eq_true]
    exact ⟨hq.1, ih _ hq.2⟩
  · intro a b c y d w hq; cases w <;> first | (cases hq; done) | (simp only [eqD]; exact hq)
  · intro w hq; cases w <;> first | (cases hq; done) | simp only [eqD]
  · intro a w hq; cases w <;> first | (cases hq; done) | (simp only [eqD]; exact hq)
  · intro w hq; cases w <;> first | (cases hq; done) | simp only [eqD]
  · intro fn a b iha ihb w hq
    cases fn <;> cases w <;> first | (cases hq; done) | skip
    rename_i f fn' c d
    cases fn' <;> first | (cases hq; done) | skip
    rename_i g
    have hq : (Nat.beq f g && Q a c && Q b d) = true := hq
    simp only [Bool.and_eq_true] at hq
    simp only [eqD, Bool.and_eq_true]
    exact ⟨⟨hq.1.1, iha _ hq.1.2⟩, ihb _ hq.2⟩
  · intro w hq; cases w <;> first | (cases hq; done) | simp only [eqD]
  · intro t a ih w hq; cases hq
  · intro l ih w hq; cases w <;> first | (cases hq; done) | (simp only [eqD]; exact ih _ hq)
  · intro l ih w hq; cases w <;> first | (cases hq; done) | (simp only [eqD]; exact ih _ hq)
  · intro m hq; cases m <;> first | (cases hq; done) | simp only [eqDs]
  · intro a l iha ihl m hq
    cases m with
    | nil => cases hq
    | cons b m =>
      have hq : (bif eqX a b then Q l m else false) = true := hq
      cases h1 : eqX a b with
      | false => rw [h1] at hq; cases hq
      | true =>
        rw [h1] at hq
        simp only [eqDs, Bool.and_eq_true]
        exact ⟨iha _ h1, ihl _ hq⟩
theorem eqX_lp (t o : Nat) (w : V) : eqX (.lptr t o) w = false := rfl
theorem eqX_lp2 (t o : Nat) (w : V) : eqX w (.lptr t o) = false := by cases w <;> first | rfl | (rename_i fn _ _; cases fn <;> rfl)
theorem eqX_RV {a b c d : V} (h1 : RV a b) (h2 : RV c d) (hq : eqX a c = true) : eqD b d = true := by
  rcases h1 with rfl | ⟨⟨t, o, rfl⟩, _⟩
  · rcases h2 with rfl | ⟨⟨t, o, rfl⟩, _⟩
    · exact eqX_ok _ _ hq
    · rw [eqX_lp2] at hq; cases hq
  · rw [eqX_lp] at hq; cases hq
theorem chkB_ok {t : Nat} (r : RX x e fr2 bx fr lo) (hg : gdOk fr g) (he : (chkB x e g t o k).f ih2 fr2 bx h = o2) (hn : o2 ≠ .fail) : chkOp t o fr lo h = true ∧ k.f ih2 fr2 bx h = o2 := by
  unfold chkB at he
  cases hc : rdS x t with
  | false => rw [hc] at he; exact absurd he.symm hn
  | true =>
    rw [hc] at he
    dsimp only [cond_true] at he
    cases hw : valW x e g o with
    | none => rw [hw] at he; exact absurd he.symm hn
    | some p =>
      rw [hw] at he
      obtain ⟨v, h1, hv, he⟩ := oxR he hn
      obtain ⟨hb, he⟩ := boolR he hn
      obtain ⟨_, v', hev, hrv⟩ := valW_ok r hg hw hv t
      refine ⟨?_, he⟩
      unfold chkOp
      rw [hev]
      exact eqX_RV hrv (r.val t hc) hb
theorem chkK_ok {t : Nat} (r : RX x e fr2 bx fr lo) (he : (chkK x e g t o k).f ih2 fr2 bx h = o2) (hn : o2 ≠ .fail) : chkG g t o fr lo h = true ∧ k.f ih2 fr2 bx h = o2 := by
  cases g with
  | none => exact chkB_ok (g := none) r trivial he hn
  | some p =>
    obtain ⟨s, b⟩ := p
    simp only [chkK] at he
    cases hc : (rdS x s && rdS x t) with
    | false => rw [hc] at he; exact absurd he.symm hn
    | true =>
      rw [hc] at he
      simp only [Bool.and_eq_true] at hc
      simp only [cond_true] at he
      cases hv : grdV b ((sg s).f fr2) with
      | fail => rw [hv] at he; exact absurd he.symm hn
      | yes =>
        rw [hv] at he
        have hs := grdV_ok.1 hv
        have hl : lget fr s = .bool b := by
          rcases r.val s hc.1 with hq | ⟨⟨t, o, hq⟩, _⟩
          · rw [← hq, hs]
          · rw [hq] at hs; cases hs
        obtain ⟨q1, q2⟩ := chkB_ok (g := some (s, b)) r hl he hn
        refine ⟨?_, q2⟩
        simp only [chkG, hl]
        cases b <;> exact q1
      | no =>
        rw [hv] at he
        obtain ⟨hb, he⟩ := boolR he hn
        refine ⟨?_, he⟩
        have hs := grdV_ok.2 hv
        have hq2 : eqD (.tuple []) (lget fr t) = true := eqX_RV (.inl rfl) (r.val t hc.2) hb
        have hl : lget fr s = (sg s).f fr2 := by
          rcases r.val s hc.1 with hq | ⟨⟨t, o, hq⟩, _⟩
          · exact hq.symm
          · rw [hq] at hs; rcases hs with hs | hs <;> cases hs
        rcases hs with hs | hs
        · simp only [chkG, hl, hs]
          cases b <;> exact hq2
        · simp only [chkG, hl, hs]
          exact hq2
theorem stepK_ok (hi : SndX mm fns ih2) {i : Ins} {dr : Bool} (r : RX x e fr2 bx fr lo) (he : (stepK x dr e i k).f ih2 fr2 bx h = o2) (hn : o2 ≠ .fail) :
    ∃ fr2' bx' h' fr' lo', RX x (envI x e i) fr2' bx' fr' lo' ∧ k.f ih2 fr2' bx' h' = o2 ∧ ∀ os o, EvL mm fns dr os fr' lo' h' o → EvL mm fns dr (i :: os) fr lo h o := by
  have plain : notChk i = true → (∀ ih os, stIns ih os i = stI ih os i) → (insK x e none i k).f ih2 fr2 bx h = o2 → envI x e i = envP x e none i →
      ∃ fr2' bx' h' fr' lo', RX x (envI x e i) fr2' bx' fr' lo' ∧ k.f ih2 fr2' bx' h' = o2 ∧ ∀ os o, EvL mm fns dr os fr' lo' h' o → EvL mm fns dr (i :: os) fr lo h o := by
    intro hi1 hi2 he hen
    obtain ⟨a, b, c, f, l, h1, h2, h3⟩ := insK_ok hi (g := none) r trivial he hn
    refine ⟨a, b, c, f, l, by rw [hen]; exact h2, h3, fun os o ho => EvL.cons hi1 ?_ ho⟩
    simpa only [hi2] using h1
  cases i with
  | op d o => exact plain rfl (fun _ _ => rfl) he rfl
  | call d f as => exact plain rfl (fun _ _ => rfl) he rfl
  | dyn d f as => exact plain rfl (fun _ _ => rfl) he rfl
  | defer ids f as => exact plain rfl (fun _ _ => rfl) he rfl
  | chk g t o =>
    simp only [stepK] at he
    cases dr with
    | false => exact absurd he.symm hn
    | true =>
      obtain ⟨q1, q2⟩ := chkK_ok r he hn
      exact ⟨fr2, bx, h, fr, lo, r, q2, fun os o ho => EvL.chk q1 ho⟩
  | grd t b d i =>
    simp only [stepK] at he
    cases hc : rdS x t with
    | false => rw [hc] at he; exact absurd he.symm hn
    | true =>
      rw [hc] at he
      simp only [cond_true] at he
      cases hv : grdV b ((sg t).f fr2) with
      | fail => rw [hv] at he; exact absurd he.symm hn
      | yes =>
        rw [hv] at he
        have hs := grdV_ok.1 hv
        have hl : lget fr t = .bool b := by
          rcases r.val t hc with hq | ⟨⟨t, o, hq⟩, _⟩
          · rw [← hq, hs]
          · rw [hq] at hs; cases hs
        obtain ⟨a, b2, c, f, l, h1, h2, h3⟩ := insK_ok hi (g := some (t, b)) (r.killO (d := d)) hl he hn
        refine ⟨a, b2, c, f, l, ?_, h3, fun os o ho => EvL.cons rfl ?_ ho⟩
        · cases i with
          | op d' o => exact h2
          | defer ids f as => exact h2
          | call d' f as => exact h2.sub fun n hq => killO_comm hq
          | dyn d' f as => exact h2.sub fun n hq => killO_comm hq
          | _ => exact absurd he.symm hn
        · obtain ⟨N, hN⟩ := h1
          refine ⟨N, fun m hm ih i1 i2 os => ?_⟩
          have := hN m hm ih i1 i2 os
          simp only [stIns, stGrd, hl]
          cases b <;> exact this
      | no =>
        rw [hv] at he
        have hs := grdV_ok.2 hv
        have hl : lget fr t = (sg t).f fr2 := by
          rcases r.val t hc with hq | ⟨⟨t, o, hq⟩, _⟩
          · exact hq.symm
          · rw [hq] at hs; rcases hs with hs | hs <;> cases hs
        obtain ⟨a, b2, h2, h3⟩ := elseK_ok r he hn
        refine ⟨a, b2, h, putD fr d (.tuple []), lo, ?_, h3, fun os o ho => EvL.cons rfl ⟨0, fun m _ ih _ _ os => ?_⟩ ho⟩
        · have hne : lget (putD fr d (.tuple [])) t ≠ .bool b := by
            have h0 : lget fr t ≠ .bool b := by
              rw [hl]
              rcases hs with hs | hs <;> rw [hs]
              · cases b <;> (intro hq; cases hq)
              · intro hq; cases hq
            cases d with
            | none => exact h0
            | some d =>
              simp only [putD]
              rw [lget_lset]
              split
              · intro hq; cases hq
              · exact h0
          refine ⟨h2.cap, h2.len, h2.val, h2.box, fun n hq hg => ?_, h2.mrk⟩
          cases i with
          | op d' o =>
            cases d' with
            | none => exact h2.ent n hq hg
            | some d' =>
              simp only [envI, envO] at hq
              split at hq
              · rename_i t' off' _
                cases hb : (Nat.beq t' d' || gOf (some (t, b)) d') with
                | true => rw [hb] at hq; exact h2.ent n (killE_mem hq).1 hg
                | false =>
                  rw [hb] at hq
                  rcases List.mem_cons.1 hq with rfl | hq
                  · exact absurd hg hne
                  · exact h2.ent n (killE_mem hq).1 hg
              · exact h2.ent n (killE_mem hq).1 hg
          | defer ids f as => exact h2.ent n (by simpa [envI, killO, Ins.dst] using hq) hg
          | call d' f as => exact h2.ent n (killO_sub hq) hg
          | dyn d' f as => exact h2.ent n (killO_sub hq) hg
          | grd t' b' d' i' => exact h2.ent n (killO_sub hq) hg
          | chk g' t' o' => exact h2.ent n (killO_sub hq) hg
        · simp only [stIns, stGrd, hl]
          rcases hs with hs | hs <;> rw [hs]
          cases b <;> rfl
end Go.Vx
end
noncomputable section
open Go
namespace Go.Vx
variable {mm : Memo} {fns : Nat → Option VFunc} {x : Cx} {e : List Ent} {fr2 fr2' : Fr} {bx bx' : Bx} {fr fr' : List V} {lo lo' : Lo} {h h' : H} {v v' : V} {d : Option Nat} {t off : Nat} {g : Gd} {k : K2} {ih2 : Ih2} {o2 : Out2} {o : VOp}

theorem EvL.nil {dr : Bool} : EvL mm fns dr [] fr lo h (.norm fr lo h) := by
  cases dr with
  | false => exact Ev.of ⟨0, fun m _ => rfl⟩
  | true => exact ⟨0, fun m _ => rfl⟩
theorem li_ok (hi : SndX mm fns ih2) {dr : Bool} : ∀ (l : List Ins) {e : List Ent} {fr2 : Fr} {bx : Bx} {h : H} {fr : List V} {lo : Lo}, RX x e fr2 bx fr lo → (li x dr l e).f ih2 fr2 bx h = o2 → o2 ≠ .fail →
    ∃ fr2' bx' h' fr' lo', o2 = .norm fr2' bx' h' ∧ RX x [] fr2' bx' fr' lo' ∧ EvL mm fns dr l fr lo h (.norm fr' lo' h')
  | [], e, fr2, bx, h, fr, lo, r, he, hn => ⟨fr2, bx, h, fr, lo, he.symm, r.sub (fun _ hq => (by cases hq)), EvL.nil⟩
  | i :: l, e, fr2, bx, h, fr, lo, r, he, hn => by
    have he : (stepK x dr e i (li x dr l (envI x e i))).f ih2 fr2 bx h = o2 := he
    obtain ⟨a, b, c, f, lo2, h1, h2, h3⟩ := stepK_ok hi r he hn
    obtain ⟨a2, b2, c2, f2, lo3, k1, k2, k3⟩ := li_ok hi l h1 h2 hn
    exact ⟨a2, b2, c2, f2, lo3, k1, k2, h3 l _ k3⟩
theorem noLoc_eq : ∀ fr : List V, noLoc fr = fr.map noLp
  | [] => rfl
  | v :: fr => by
    simp only [noLoc, List.map_cons, noLoc_eq fr]
    cases v <;> rfl
theorem mapL_go (fr2 : Fr) : ∀ (n i : Nat) (l : List V), l.length = n → (∀ j, j < n → noLp ((sg (i + j)).f fr2) = noLp (lget l j)) →
    (Nat.rec (motive := fun _ => Nat → List V) (fun _ => []) (fun _ ih i => noLp ((sg i).f fr2) :: ih (Nat.succ i)) n i) = l.map noLp
  | 0, i, l, hl, _ => by
    cases l with
    | nil => rfl
    | cons a l => cases hl
  | n + 1, i, l, hl, hq => by
    cases l with
    | nil => cases hl
    | cons a l =>
      have h0 := hq 0 (by omega)
      have ih := mapL_go fr2 n (i + 1) l (by simpa using hl) (fun j hj => by
        have := hq (j + 1) (by omega)
        rw [lget_succ] at this
        rw [← this]
        congr 2
        rw [show i + 1 + j = i + (j + 1) by omega])
      simp only [List.map_cons]
      rw [← ih]
      rw [lget_zero] at h0
      rw [← h0]
      rfl
theorem mapL_ok (r : RX x e fr2 bx fr lo) (hrf : x.rf = true) : mapL x.nt fr2 = noLoc fr := by
  rw [noLoc_eq]
  exact mapL_go fr2 x.nt 0 fr r.len (fun j hj => by
    rw [Nat.zero_add]
    exact r.mrk hrf j (Nat.lt_of_lt_of_le hj r.cap))
theorem seqR {K : Fr → Bx → H → Out2} {o r : Out2} (hq : (Out2.rec (motive := fun _ => Out2) .fail K (fun j fr bx h => .jump j fr bx h) (fun _ _ => .fail) o) = r) (hn : r ≠ .fail) :
    (∃ fr bx h, o = .norm fr bx h ∧ K fr bx h = r) ∨ ∃ j fr bx h, o = .jump j fr bx h ∧ r = .jump j fr bx h := by
  cases o with
  | fail => exact absurd hq.symm hn
  | val v h => exact absurd hq.symm hn
  | norm fr bx h => exact .inl ⟨fr, bx, h, rfl, hq⟩
  | jump j fr bx h => exact .inr ⟨j, fr, bx, h, rfl, hq.symm⟩
theorem rangeX_ok (hi : SndX mm fns ih2) {f : Opd} {ps : List Nat} {a b : VCode} (r : RX x [] fr2 bx fr lo) (he : (rangeK x f ps a b).f ih2 fr2 bx h = o2) (hn : o2 ≠ .fail) : ∃ o, OutR x o2 o ∧ Ev mm fns (.code (.rangeFunc f ps a b)) fr lo h o := by
  unfold rangeK at he
  cases hc : (rdL x f.slots && Nat.ble x.nt 216 && x.rf) with
  | false => rw [hc] at he; exact absurd he.symm hn
  | true =>
    rw [hc] at he
    simp only [Bool.and_eq_true] at hc
    simp only [cond_true] at he
    cases hf : (xo f).f fr2 with
    | func fn first caps =>
      rw [hf] at he
      cases fn with
      | func q =>
        dsimp only at he
        have hfv : f.ev fr = .func (.func q) first caps := by
          rcases r.ro hc.1.1 with hq | ⟨⟨t, o, hq⟩, _⟩
          · rw [← hq, hf]
          · rw [hf] at hq; cases hq
        rw [mapL_ok r hc.2] at he
        cases ho : ih2 (.call q (first ++ (.func (.yield h.next) [] [] :: caps))) fr0 bx0 (h.new (.loop ⟨0, none, noLoc fr, ps, a, b⟩)) with
        | val u h1 =>
          rw [ho] at he
          obtain ⟨N, hN⟩ := hi.call ho [] []
          have key : ∃ o, OutR x o2 o ∧ kRange h.next fr lo (.val u h1) = o := by
            simp only [kRange2] at he
            simp only [kRange]
            cases hg : getLoop h1 h.next with
            | none => rw [hg] at he; exact absurd he.symm hn
            | some lp =>
              rw [hg] at he
              dsimp only at he ⊢
              cases hs : Nat.beq lp.st 1 with
              | true => rw [hs] at he; exact absurd he.symm hn
              | false =>
                rw [hs] at he
                simp only [cond_false] at he ⊢
                cases hp : lp.pending with
                | none => rw [hp] at he; subst he; exact ⟨.norm fr lo (h1.del h.next), ⟨rfl, r⟩, rfl⟩
                | some j => rw [hp] at he; subst he; exact ⟨.jump j fr lo (h1.del h.next), ⟨rfl, rfl, r⟩, rfl⟩
          obtain ⟨o, ho1, ho2⟩ := key
          refine ⟨o, ho1, Ev.of ⟨N, fun m hm => ?_⟩⟩
          have : stepM mm fns (runM mm fns m) (.code (.rangeFunc f ps a b)) fr lo h = stRange (runM mm fns m) f ps a b fr lo h := rfl
          rw [this]
          simp only [stRange, hfv]
          rw [hN m hm]
          exact ho2
        | _ => rw [ho] at he; exact absurd he.symm hn
      | _ => exact absurd he.symm hn
    | _ => rw [hf] at he; exact absurd he.symm hn
theorem cc_ok (hi : SndX mm fns ih2) (c : VCode) : ∀ {fr2 : Fr} {bx : Bx} {h : H} {o2 : Out2} {fr : List V} {lo : Lo}, (cc x c).f ih2 fr2 bx h = o2 → o2 ≠ .fail → RX x [] fr2 bx fr lo → ∃ o, OutR x o2 o ∧ Ev mm fns (.code c) fr lo h o := by
  induction c with
  | skip =>
    intro fr2 bx h o2 fr lo he hn r
    subst he
    exact ⟨.norm fr lo h, ⟨rfl, r⟩, Ev.of ⟨0, fun m _ => rfl⟩⟩
  | label l =>
    intro fr2 bx h o2 fr lo he hn r
    subst he
    exact ⟨.norm fr lo h, ⟨rfl, r⟩, Ev.of ⟨0, fun m _ => rfl⟩⟩
  | region ops =>
    intro fr2 bx h o2 fr lo he hn r
    obtain ⟨a, b, c, f, l, h1, h2, N, hN⟩ := li_ok hi (dr := false) ops r he hn
    subst h1
    exact ⟨.norm f l c, ⟨rfl, h2⟩, Ev.of ⟨N, fun m hm => hN m hm⟩⟩
  | draw ops =>
    intro fr2 bx h o2 fr lo he hn r
    obtain ⟨a, b, c, f, l, h1, h2, N, hN⟩ := li_ok hi (dr := true) ops r he hn
    subst h1
    refine ⟨.norm f l c, ⟨rfl, h2⟩, Ev.of ⟨N + 1, fun m hm => ?_⟩⟩
    obtain ⟨m, rfl⟩ : ∃ k, m = k + 1 := ⟨m - 1, by omega⟩
    exact hN m (by omega)
  | seq a b iha ihb =>
    intro fr2 bx h o2 fr lo he hn r
    rcases seqR he hn with ⟨fr3, bx3, h3, h1, h2⟩ | ⟨j, fr3, bx3, h3, h1, h2⟩
    · obtain ⟨oa, ra, N1, e1⟩ := iha h1 (by intro hq; cases hq) r
      cases oa with
      | norm fr4 lo4 h4 =>
        obtain ⟨rfl, r4⟩ := ra
        obtain ⟨ob, rb, N2, e2⟩ := ihb h2 hn r4
        refine ⟨ob, rb, Ev.of ⟨N1 + N2, fun m hm => ?_⟩⟩
        have : stepM mm fns (runM mm fns m) (.code (.seq a b)) fr lo h = kNorm (runM mm fns m) b (runM mm fns m (.code a) fr lo h) := rfl
        rw [this, e1 m (by omega)]
        exact e2 m (by omega)
      | _ => cases ra
    · obtain ⟨oa, ra, N1, e1⟩ := iha h1 (by intro hq; cases hq) r
      subst h2
      cases oa with
      | jump j4 fr4 lo4 h4 =>
        obtain ⟨rfl, rfl, r4⟩ := ra
        refine ⟨.jump j fr4 lo4 h3, ⟨rfl, rfl, r4⟩, Ev.of ⟨N1, fun m hm => ?_⟩⟩
        have : stepM mm fns (runM mm fns m) (.code (.seq a b)) fr lo h = kNorm (runM mm fns m) b (runM mm fns m (.code a) fr lo h) := rfl
        rw [this, e1 m hm]
        rfl
      | _ => cases ra
  | cond c a b iha ihb =>
    intro fr2 bx h o2 fr lo he hn r
    have he : (bif rdL x c.slots then (⟨fun ih fr bx h => VB.rec .fail (fun t => Bool.rec ((cc x b).f ih fr bx h) ((cc x a).f ih fr bx h) t) (vBool ((xo c).f fr))⟩ : K2) else failK).f ih2 fr2 bx h = o2 := he
    cases hc : rdL x c.slots with
    | false => rw [hc] at he; exact absurd he.symm hn
    | true =>
      rw [hc] at he
      simp only [cond_true] at he
      cases hv : vBool ((xo c).f fr2) with
      | no => rw [hv] at he; exact absurd he.symm hn
      | yes t =>
        rw [hv] at he
        have hv2 := vBool_yes hv
        have hcv : c.ev fr = .bool t := by
          rcases r.ro hc with hq | ⟨⟨t, o, hq⟩, _⟩
          · rw [← hq, hv2]
          · rw [hv2] at hq; cases hq
        cases t with
        | true =>
          obtain ⟨o, ro, N, e1⟩ := iha he hn r
          refine ⟨o, ro, Ev.of ⟨N, fun m hm => ?_⟩⟩
          have : stepM mm fns (runM mm fns m) (.code (.cond c a b)) fr lo h = kCond (runM mm fns m) (c.ev fr) a b fr lo h := rfl
          rw [this, hcv]
          exact e1 m hm
        | false =>
          obtain ⟨o, ro, N, e1⟩ := ihb he hn r
          refine ⟨o, ro, Ev.of ⟨N, fun m hm => ?_⟩⟩
          have : stepM mm fns (runM mm fns m) (.code (.cond c a b)) fr lo h = kCond (runM mm fns m) (c.ev fr) a b fr lo h := rfl
          rw [this, hcv]
          exact e1 m hm
  | block id c ihc =>
    intro fr2 bx h o2 fr lo he hn r
    have he : (Out2.rec (motive := fun _ => Out2) .fail (fun fr bx h => .norm fr bx h) (fun j fr bx h => jBlk id j fr bx h) (fun _ _ => .fail) ((cc x c).f ih2 fr2 bx h)) = o2 := he
    cases ho : (cc x c).f ih2 fr2 bx h with
    | fail => rw [ho] at he; exact absurd he.symm hn
    | val v h => rw [ho] at he; exact absurd he.symm hn
    | norm fr3 bx3 h3 =>
      rw [ho] at he
      obtain ⟨oa, ra, N1, e1⟩ := ihc ho (by intro hq; cases hq) r
      subst he
      cases oa with
      | norm fr4 lo4 h4 =>
        refine ⟨.norm fr4 lo4 h4, ra, Ev.of ⟨N1, fun m hm => ?_⟩⟩
        have : stepM mm fns (runM mm fns m) (.code (.block id c)) fr lo h = kBlock id (runM mm fns m (.code c) fr lo h) := rfl
        rw [this, e1 m hm]
        rfl
      | _ => cases ra
    | jump j fr3 bx3 h3 =>
      rw [ho] at he
      obtain ⟨oa, ra, N1, e1⟩ := ihc ho (by intro hq; cases hq) r
      cases oa with
      | jump j4 fr4 lo4 h4 =>
        obtain ⟨rfl, rfl, r4⟩ := ra
        refine ⟨kBlock id (.jump j fr4 lo4 h3), ?_, Ev.of ⟨N1, fun m hm => ?_⟩⟩
        · subst he
          cases j with
          | exit i =>
            simp only [kBlock, jBlk]
            cases Nat.beq i id with
            | true => exact ⟨rfl, r4⟩
            | false => exact ⟨rfl, rfl, r4⟩
          | _ => exact ⟨rfl, rfl, r4⟩
        · have : stepM mm fns (runM mm fns m) (.code (.block id c)) fr lo h = kBlock id (runM mm fns m (.code c) fr lo h) := rfl
          rw [this, e1 m hm]
      | _ => cases ra
  | loop c ihc =>
    intro fr2 bx h o2 fr lo he hn r
    rcases seqR he hn with ⟨fr3, bx3, h3, h1, h2⟩ | ⟨j, fr3, bx3, h3, h1, h2⟩
    · obtain ⟨oa, ra, N1, e1⟩ := ihc h1 (by intro hq; cases hq) r
      cases oa with
      | norm fr4 lo4 h4 =>
        obtain ⟨rfl, r4⟩ := ra
        obtain ⟨ob, rb, N2, e2⟩ := hi.code h2 hn r4
        refine ⟨ob, rb, Ev.of ⟨N1 + N2, fun m hm => ?_⟩⟩
        have : stepM mm fns (runM mm fns m) (.code (.loop c)) fr lo h = kNorm (runM mm fns m) (.loop c) (runM mm fns m (.code c) fr lo h) := rfl
        rw [this, e1 m (by omega)]
        exact e2 m (by omega)
      | _ => cases ra
    · obtain ⟨oa, ra, N1, e1⟩ := ihc h1 (by intro hq; cases hq) r
      subst h2
      cases oa with
      | jump j4 fr4 lo4 h4 =>
        obtain ⟨rfl, rfl, r4⟩ := ra
        refine ⟨.jump j fr4 lo4 h3, ⟨rfl, rfl, r4⟩, Ev.of ⟨N1, fun m hm => ?_⟩⟩
        have : stepM mm fns (runM mm fns m) (.code (.loop c)) fr lo h = kNorm (runM mm fns m) (.loop c) (runM mm fns m (.code c) fr lo h) := rfl
        rw [this, e1 m hm]
        rfl
      | _ => cases ra
  | rangeFunc f ps a b _ _ =>
    intro fr2 bx h o2 fr lo he hn r
    exact rangeX_ok hi r he hn
  | exit id =>
    intro fr2 bx h o2 fr lo he hn r
    subst he
    exact ⟨.jump (.exit id) fr lo h, ⟨rfl, rfl, r⟩, Ev.of ⟨0, fun m _ => rfl⟩⟩
  | scope c _ =>
    intro fr2 bx h o2 fr lo he hn r
    obtain ⟨o, ro, N, e1⟩ := hi.scope he hn r
    exact ⟨o, ro, Ev.of ⟨N, fun m hm => e1 m hm⟩⟩
  | goto l =>
    intro fr2 bx h o2 fr lo he hn r
    subst he
    exact ⟨.jump (.goto l) fr lo h, ⟨rfl, rfl, r⟩, Ev.of ⟨0, fun m _ => rfl⟩⟩
  | ret =>
    intro fr2 bx h o2 fr lo he hn r
    subst he
    exact ⟨.jump .ret fr lo h, ⟨rfl, rfl, r⟩, Ev.of ⟨0, fun m _ => rfl⟩⟩
theorem scopeK_ok (hi : SndX mm fns ih2) {c rc : VCode} (r : RX x [] fr2 bx fr lo) (he : (scopeK x c rc).f ih2 fr2 bx h = o2) (hn : o2 ≠ .fail) : ∃ o, OutR x o2 o ∧ Ev mm fns (.scope c rc) fr lo h o := by
  have he : (Out2.rec (motive := fun _ => Out2) .fail (fun fr bx h => .norm fr bx h)
    (fun j fr bx h => Jump.rec (.jump j fr bx h) (fun _ => .jump j fr bx h) (fun l => match findLabel c l with | some r => ih2 (.scope x c r) fr bx h | none => .jump j fr bx h) j) (fun _ _ => .fail) ((cc x rc).f ih2 fr2 bx h)) = o2 := he
  cases ho : (cc x rc).f ih2 fr2 bx h with
  | fail => rw [ho] at he; exact absurd he.symm hn
  | val v h => rw [ho] at he; exact absurd he.symm hn
  | norm fr3 bx3 h3 =>
    rw [ho] at he
    obtain ⟨oa, ra, N1, e1⟩ := cc_ok hi rc ho (by intro hq; cases hq) r
    subst he
    cases oa with
    | norm fr4 lo4 h4 =>
      refine ⟨.norm fr4 lo4 h4, ra, Ev.of ⟨N1, fun m hm => ?_⟩⟩
      have : stepM mm fns (runM mm fns m) (.scope c rc) fr lo h = kScope (runM mm fns m) c (runM mm fns m (.code rc) fr lo h) := rfl
      rw [this, e1 m hm]
      rfl
    | _ => cases ra
  | jump j fr3 bx3 h3 =>
    rw [ho] at he
    obtain ⟨oa, ra, N1, e1⟩ := cc_ok hi rc ho (by intro hq; cases hq) r
    have hst : ∀ m, stepM mm fns (runM mm fns m) (.scope c rc) fr lo h = kScope (runM mm fns m) c (runM mm fns m (.code rc) fr lo h) := fun _ => rfl
    cases oa with
    | jump j4 fr4 lo4 h4 =>
      obtain ⟨rfl, rfl, r4⟩ := ra
      cases j with
      | goto l =>
        dsimp only at he
        cases hf : findLabel c l with
        | none =>
          rw [hf] at he
          subst he
          refine ⟨.jump (.goto l) fr4 lo4 h3, ⟨rfl, rfl, r4⟩, Ev.of ⟨N1, fun m hm => ?_⟩⟩
          rw [hst, e1 m hm]
          simp only [kScope, hf]
        | some r' =>
          rw [hf] at he
          obtain ⟨ob, rb, N2, e2⟩ := hi.scope he hn r4
          refine ⟨ob, rb, Ev.of ⟨N1 + N2, fun m hm => ?_⟩⟩
          rw [hst, e1 m (by omega)]
          simp only [kScope, hf]
          exact e2 m (by omega)
      | ret =>
        subst he
        refine ⟨.jump .ret fr4 lo4 h3, ⟨rfl, rfl, r4⟩, Ev.of ⟨N1, fun m hm => ?_⟩⟩
        rw [hst, e1 m hm]
        rfl
      | exit i =>
        subst he
        refine ⟨.jump (.exit i) fr4 lo4 h3, ⟨rfl, rfl, r4⟩, Ev.of ⟨N1, fun m hm => ?_⟩⟩
        rw [hst, e1 m hm]
        rfl
    | _ => cases ra
end Go.Vx
end
noncomputable section
open Go
namespace Go.Vx
variable {mm : Memo} {fns : Nat → Option VFunc} {x : Cx} {e : List Ent} {fr2 fr2' : Fr} {bx bx' : Bx} {fr fr' : List V} {lo lo' : Lo} {h h' : H} {v v' : V} {d : Option Nat} {t off : Nat} {g : Gd} {k : K2} {ih2 : Ih2} {o2 : Out2} {o : VOp}

theorem g6_ofL1 (l : List V) (i : Nat) {a : Nat} (ha : a < 6) : (g6 a).f (ofL1 l i) = lget l (i + a) := by
  have h1 : a = 0 ∨ a = 1 ∨ a = 2 ∨ a = 3 ∨ a = 4 ∨ a = 5 := by omega
  rcases h1 with rfl | rfl | rfl | rfl | rfl | rfl <;> rfl
theorem g6_ofL2 (l : List V) (i : Nat) {a : Nat} (ha : a < 6) : (g6 a).f (ofL2 l i) = ofL1 l (i + 6 * a) := by
  have h1 : a = 0 ∨ a = 1 ∨ a = 2 ∨ a = 3 ∨ a = 4 ∨ a = 5 := by omega
  rcases h1 with rfl | rfl | rfl | rfl | rfl | rfl <;> rfl
theorem g6_ofL (l : List V) {a : Nat} (ha : a < 6) : (g6 a).f (ofL l) = ofL2 l (36 * a) := by
  have h1 : a = 0 ∨ a = 1 ∨ a = 2 ∨ a = 3 ∨ a = 4 ∨ a = 5 := by omega
  rcases h1 with rfl | rfl | rfl | rfl | rfl | rfl <;> rfl
theorem sg_ofL (l : List V) {s : Nat} (hs : s < 216) : (sg s).f (ofL l) = lget l s := by
  simp only [sg]
  rw [g6_ofL l (show s / 36 < 6 by omega), g6_ofL2 _ _ (show s / 6 % 6 < 6 by omega), g6_ofL1 _ _ (show s % 6 < 6 by omega)]
  congr 1
  omega
theorem lget_out : ∀ (l : List V) {i : Nat}, l.length ≤ i → lget l i = .undef
  | [], i, _ => rfl
  | a :: l, 0, hi => by simp at hi
  | a :: l, i + 1, hi => by rw [lget_succ]; exact lget_out l (by simpa using hi)
theorem ofL1_out (l : List V) {i : Nat} (hi : l.length ≤ i) : ofL1 l i = all6 .undef := by
  simp only [ofL1, all6, lget_out l hi, lget_out l (show l.length ≤ i + 1 by omega), lget_out l (show l.length ≤ i + 2 by omega), lget_out l (show l.length ≤ i + 3 by omega), lget_out l (show l.length ≤ i + 4 by omega), lget_out l (show l.length ≤ i + 5 by omega)]
theorem ofL2_out (l : List V) {i : Nat} (hi : l.length ≤ i) : ofL2 l i = all6 (all6 .undef) := by
  have := fun k => ofL1_out l (show l.length ≤ i + k by omega)
  simp only [ofL2, ofL1_out l hi, this]
  rfl
theorem initF_eq {as : List V} (ha : as.length ≤ 12) : initF as = ofL as := by
  simp only [initF, ofL]
  rw [ofL2_out as (show as.length ≤ 36 by omega), ofL2_out as (show as.length ≤ 72 by omega), ofL2_out as (show as.length ≤ 108 by omega), ofL2_out as (show as.length ≤ 144 by omega), ofL2_out as (show as.length ≤ 180 by omega)]
  have : ofL2 as 0 = ⟨ofL1 as 0, ofL1 as 6, all6 .undef, all6 .undef, all6 .undef, all6 .undef⟩ := by
    simp only [ofL2, Nat.zero_add]
    rw [ofL1_out as (show as.length ≤ 12 by omega), ofL1_out as (show as.length ≤ 18 by omega), ofL1_out as (show as.length ≤ 24 by omega), ofL1_out as (show as.length ≤ 30 by omega)]
  rw [this]
theorem bx0_get (t : Nat) : (sg t).f bx0 = [] := sg_all _ _
theorem RX.start {n B P : Nat} {rf : Bool} {l : List V} {as : List V} (hl : l.length = n) (hn : n ≤ 216) (hq : ∀ s, s < 216 → lget as s = lget l s) : RX ⟨n, B, P, rf⟩ [] (ofL as) bx0 l lo where
  cap := hn
  len := hl
  val s hs := by
    have := (rdS_ok hs).2.2
    rw [sg_ofL _ this, hq s this]
    exact .inl rfl
  box t ht _ hne := absurd (bx0_get t) hne
  ent n hn _ := by cases hn
  mrk _ s hs := by rw [sg_ofL _ hs, hq s hs]
theorem yieldX_ok (hi : SndX mm fns ih2) {l : Nat} {args : List V} (he : yieldX ih2 l args h = .val v h') : ∃ N, ∀ m, N ≤ m → stYield (runM mm fns m) l args h = .val v h' := by
  unfold yieldX at he
  cases hl : getLoop h l with
  | none => rw [hl] at he; cases he
  | some lp =>
    rw [hl] at he
    dsimp only at he
    cases hp : setPs lp.params args lp.fr with
    | none => rw [hp] at he; cases he
    | some fr =>
      rw [hp] at he
      dsimp only at he
      cases hc : (Nat.beq lp.st 0 && Nat.ble fr.length 216) with
      | false => rw [hc] at he; cases he
      | true =>
        rw [hc] at he
        simp only [Bool.and_eq_true, Nat.ble_eq] at hc
        simp only [cond_true] at he
        generalize hbp : scanC lp.body (scanC lp.assign (0, 0)) = bp at he
        obtain ⟨b, p⟩ := bp
        dsimp only at he
        have r0 : RX ⟨fr.length, b, p, hasRF lp.body⟩ [] (ofL fr) bx0 fr [] := RX.start rfl hc.2 fun _ _ => rfl
        cases ha : (cc ⟨fr.length, b, p, hasRF lp.body⟩ lp.assign).f ih2 (ofL fr) bx0 h with
        | norm fr3 bx3 h3 =>
          rw [ha] at he
          dsimp only at he
          obtain ⟨oa, ra, N1, e1⟩ := cc_ok hi lp.assign ha (by intro hq; cases hq) r0
          cases oa with
          | norm fr4 lo4 h4 =>
            obtain ⟨rfl, r4⟩ := ra
            cases hl2 : getLoop h3 l with
            | none => rw [hl2] at he; cases he
            | some lp2 =>
              rw [hl2] at he
              dsimp only at he
              cases hs2 : Nat.beq lp2.st 0 with
              | false => rw [hs2] at he; cases he
              | true =>
                rw [hs2] at he
                simp only [cond_true] at he
                cases hb : (cc ⟨fr.length, b, p, hasRF lp.body⟩ lp.body).f ih2 fr3 bx3 (setSt l 1 lp2.pending lp2 h3) with
                | norm fr5 bx5 h5 =>
                  rw [hb] at he
                  dsimp only at he
                  obtain ⟨ob, rb, N2, e2⟩ := cc_ok hi lp.body hb (by intro hq; cases hq) r4
                  cases ob with
                  | norm fr6 lo6 h6 =>
                    obtain ⟨rfl, _⟩ := rb
                    refine ⟨N1 + N2, fun m hm => ?_⟩
                    simp only [stYield, hl, hc.1, cond_true, hp]
                    rw [e1 m (by omega)]
                    simp only [kRound, hl2, hs2, cond_true]
                    rw [e2 m (by omega)]
                    simp only [kRound2]
                    cases hl3 : getLoop h5 l with
                    | none => rw [hl3] at he; cases he
                    | some lp3 => rw [hl3] at he; cases he; rfl
                  | _ => cases rb
                | jump j fr5 bx5 h5 =>
                  rw [hb] at he
                  dsimp only at he
                  obtain ⟨ob, rb, N2, e2⟩ := cc_ok hi lp.body hb (by intro hq; cases hq) r4
                  cases ob with
                  | jump j6 fr6 lo6 h6 =>
                    obtain ⟨rfl, rfl, _⟩ := rb
                    refine ⟨N1 + N2, fun m hm => ?_⟩
                    simp only [stYield, hl, hc.1, cond_true, hp]
                    rw [e1 m (by omega)]
                    simp only [kRound, hl2, hs2, cond_true]
                    rw [e2 m (by omega)]
                    simp only [kRound2]
                    cases hl3 : getLoop h5 l with
                    | none => rw [hl3] at he; cases he
                    | some lp3 => rw [hl3] at he; cases he; rfl
                  | _ => cases rb
                | _ => rw [hb] at he; cases he
          | _ => cases ra
        | _ => rw [ha] at he; cases he
theorem appX_ok (hi : SndX mm fns ih2) {f : V} {args : List V} (he : appX ih2 f args h = .val v h') (fr : List V) (lo : Lo) : Ev mm fns (.app f args) fr lo h (.val v h') := by
  cases f with
  | func fn first caps =>
    cases fn with
    | func q =>
      obtain ⟨N, hN⟩ := hi.call he fr lo
      exact Ev.of ⟨N, fun m hm => hN m hm⟩
    | yield l =>
      cases first with
      | nil =>
        obtain ⟨N, hN⟩ := yieldX_ok hi (l := l) (args := args) he
        exact Ev.of ⟨N, fun m hm => hN m hm⟩
      | cons a b => cases he
    | _ => cases he
  | _ => cases he
/-! ### Calls -/
theorem recall_k (k : Nat) : ∀ (l : List (Nat × List V × V)) (args : List V), recall k l args = recall 0 l args
  | [], _ => rfl
  | (p, a, u) :: l, args => by simp only [recall, recall_k k l args]
theorem optO {α β : Type} {K : α → Option β} {o : Option α} {r : β} (hq : (Option.rec (motive := fun _ => Option β) none K o) = some r) : ∃ a, o = some a ∧ K a = some r := by
  cases o with
  | none => cases hq
  | some a => exact ⟨a, rfl, hq⟩
theorem mkW_eq (ag : Bool) (o : Option (List V)) : (mkW ag).f o = mk ag o := by
  cases ag with
  | false => rfl
  | true => cases o <;> rfl
theorem resW_ok : ∀ {rs : List (Nat × Bool × Bool × Nat)} {vs : List V}, RX x e fr2 bx fr lo → (resW x rs).f fr2 bx h = some vs → resV fr lo h rs = some vs
  | [], vs, _, hq => by cases hq; rfl
  | (t, isCell, ag, sz) :: rs, vs, r, hq => by
    have fin : ∀ {v : V}, Bool.rec (motive := fun _ => Option (List V)) (Option.rec none (fun vs => some (v :: vs)) ((resW x rs).f fr2 bx h)) none (vNone v) = some vs → isLoc v = false ∧ ∃ us, resV fr lo h rs = some us ∧ v :: us = vs := by
      intro v hq
      cases hv : vNone v with
      | true => rw [hv] at hq; cases hq
      | false =>
        rw [hv] at hq
        obtain ⟨us, hus, hq⟩ := optO hq
        cases hq
        exact ⟨by rw [← vNone_eq]; exact hv, us, resW_ok r hus, rfl⟩
    cases isCell with
    | true =>
      simp only [resW, cond_true] at hq
      simp only [resV, cond_true]
      cases ht : okT x t with
      | true =>
        rw [ht] at hq
        simp only [cond_true] at hq
        obtain ⟨hb, ht2⟩ := okT_ok ht
        cases hbx : (sg t).f bx with
        | nil => rw [hbx] at hq; cases hq
        | cons c cs =>
          rw [hbx] at hq
          obtain ⟨v, hv, hq⟩ := optO hq
          obtain ⟨n1, us, h1, h2⟩ := fin hq
          rw [mkW_eq, takeW_eq] at hv
          have hbox := r.box t ht2 hb (by rw [hbx]; simp)
          rw [hbx] at hbox
          simp only [hbox.1, cellsAt, hbox.2]
          rw [show skip 0 (c :: cs) = c :: cs from rfl, hv]
          simp only [n1, cond_false, h1, h2]
      | false =>
        rw [ht] at hq
        simp only [cond_false] at hq
        cases hr : rdS x t with
        | false => rw [hr] at hq; cases hq
        | true =>
          rw [hr] at hq
          simp only [cond_true] at hq
          obtain ⟨cs, hcs, hq⟩ := optO hq
          obtain ⟨v, hv, hq⟩ := optO hq
          obtain ⟨n1, us, h1, h2⟩ := fin hq
          rw [mkW_eq, takeW_eq] at hv
          have hc : cellsAt (lget fr t) lo h = some cs := cellsP_ok (a := .tmp t) (r.val t hr) hcs
          simp only [hc, hv, n1, cond_false, h1, h2]
    | false =>
      simp only [resW, cond_false] at hq
      simp only [resV, cond_false]
      cases hr : rdS x t with
      | false => rw [hr] at hq; cases hq
      | true =>
        rw [hr] at hq
        simp only [cond_true] at hq
        obtain ⟨n1, us, h1, h2⟩ := fin hq
        have hv : lget fr t = (sg t).f fr2 := by
          rcases r.val t hr with hq | ⟨⟨u, o, hq⟩, _⟩
          · exact hq.symm
          · rw [hq] at n1; cases n1
        rw [hv]
        simp only [n1, cond_false, h1, h2]
theorem plain_one {v : V} (hv : vPlain v = true) (n : Nat) (r : List V) (h : H) : frzL (n + 1) (v :: r) h = frzC v (frzL n r h) := by
  cases v <;> first | rfl | cases hv
theorem frzL_nil (n : Nat) (h : H) : frzL n [] h = ([], h) := by cases n <;> rfl
theorem plain_all : ∀ (n : Nat) {l : List V} (h : H), plainL l = true → frzL n l h = (l, h)
  | 0, l, h, _ => rfl
  | n + 1, [], h, _ => rfl
  | n + 1, v :: l, h, hp => by
    have hp : (Bool.rec (motive := fun _ => Bool) false (plainL l) (vPlain v)) = true := hp
    cases hv : vPlain v with
    | false => rw [hv] at hp; cases hp
    | true =>
      rw [hv] at hp
      rw [plain_one hv, plain_all n h hp]
      rfl
theorem frz_plain {vs : List V} (hp : plainL vs = true) (h : H) : frz (toRes vs) h = (toRes vs, h) := by
  have tup : ∀ us : List V, plainL us = true → frz (.tuple us) h = (.tuple us, h) := by
    intro us hu
    have e1 : frzL (999999 + 1) [.tuple us] h = (match frzL 999999 us h with | (cs, h) => frzC (.tuple cs) (frzL 999999 [] h)) := rfl
    unfold frz
    rw [show (1000000 : Nat) = 999999 + 1 from rfl, e1, plain_all _ h hu]
    dsimp only
    rw [frzL_nil]
    rfl
  match vs, hp with
  | [], hp => exact tup [] hp
  | [v], hp =>
    have hp : (Bool.rec (motive := fun _ => Bool) false true (vPlain v)) = true := hp
    cases hv : vPlain v with
    | false => rw [hv] at hp; cases hp
    | true =>
      simp only [toRes]
      unfold frz
      rw [show (1000000 : Nat) = 999999 + 1 from rfl, plain_one hv, frzL_nil]
      rfl
  | a :: b :: l, hp => exact tup (a :: b :: l) hp
theorem leaveW_ok {vf : VFunc} (r : RX x e fr2 bx fr lo) (he : (leaveW x vf).f fr2 bx h = o2) (hn : o2 ≠ .fail) : ∃ v h', o2 = .val v h' ∧ leave vf fr lo h = .val v h' := by
  obtain ⟨vs, hvs, he⟩ := optR he hn
  simp only [leave, resW_ok r hvs, finish]
  unfold finW at he
  cases hf : vf.frz with
  | false => rw [hf] at he; exact ⟨_, _, he.symm, rfl⟩
  | true =>
    rw [hf] at he
    simp only [cond_true] at he ⊢
    cases hp : plainL vs with
    | true => rw [hp] at he; rw [frz_plain hp]; exact ⟨_, _, he.symm, rfl⟩
    | false => rw [hp] at he; exact ⟨_, _, he.symm, rfl⟩
theorem lget_pad : ∀ (n : Nat) (as : List V) (s : Nat), lget (pad n as) s = lget as s
  | 0, as, s => rfl
  | n + 1, [], 0 => rfl
  | n + 1, [], s + 1 => by
    have := lget_pad n [] s
    simp only [pad, lget_succ, this]
    rfl
  | n + 1, a :: as, 0 => rfl
  | n + 1, a :: as, s + 1 => by simp only [pad, lget_succ, lget_pad n as s]
theorem body_ok (hi : SndX mm fns ih2) {f : Nat} {vf : VFunc} {as : List V} (hf : fns f = some vf) (he : (bodyK vf (cxOf vf.nt vf.body)).f ih2 as h = .val v h') : ∃ N, ∀ m, N ≤ m → stCall fns (runM mm fns m) f as h = .val v h' := by
  unfold bodyK at he
  simp only [stCall, hf]
  cases hx : Nat.beq vf.ext 0 with
  | false =>
    rw [hx] at he
    simp only [cond_false] at he ⊢
    refine ⟨0, fun m _ => ?_⟩
    cases ho : ext vf.ext as h with
    | val u h1 => rw [ho] at he; cases he; rfl
    | _ => rw [ho] at he; cases he
  | true =>
    rw [hx] at he
    simp only [cond_true] at he ⊢
    cases hc : Nat.ble vf.nt 216 with
    | false => rw [hc] at he; cases he
    | true =>
      rw [hc] at he
      simp only [cond_true] at he
      obtain ⟨hb, he⟩ := boolR he (by intro hq; cases hq)
      simp only [Bool.and_eq_true, Nat.ble_eq, lenF_eq] at hb hc
      rw [initF_eq hb.1] at he
      have r0 : RX (cxOf vf.nt vf.body) [] (ofL as) bx0 (pad vf.nt as) [] := by
        unfold cxOf
        generalize scanC vf.body (0, 0) = bp
        obtain ⟨b, p⟩ := bp
        exact RX.start (by rw [pad_length]; omega) hc fun s _ => (lget_pad _ _ _).symm
      cases ho : (cc (cxOf vf.nt vf.body) vf.body).f ih2 (ofL as) bx0 h with
      | norm fr3 bx3 h3 =>
        rw [ho] at he
        dsimp only at he
        obtain ⟨oa, ra, N, e1⟩ := cc_ok hi vf.body ho (by intro hq; cases hq) r0
        cases oa with
        | norm fr4 lo4 h4 =>
          obtain ⟨rfl, r4⟩ := ra
          obtain ⟨v2, h2, q1, q2⟩ := leaveW_ok r4 he (by intro hq; cases hq)
          cases q1
          refine ⟨N, fun m hm => ?_⟩
          rw [e1 m hm]
          exact q2
        | _ => cases ra
      | jump j fr3 bx3 h3 =>
        rw [ho] at he
        obtain ⟨oa, ra, N, e1⟩ := cc_ok hi vf.body ho (by intro hq; cases hq) r0
        cases oa with
        | jump j4 fr4 lo4 h4 =>
          obtain ⟨rfl, rfl, r4⟩ := ra
          cases j with
          | ret =>
            obtain ⟨v2, h2, q1, q2⟩ := leaveW_ok r4 he (by intro hq; cases hq)
            cases q1
            refine ⟨N, fun m hm => ?_⟩
            rw [e1 m hm]
            exact q2
          | _ => cases he
        | _ => cases ra
      | _ => rw [ho] at he; cases he
theorem call_ok2 (hi : SndX mm fns ih2) {f : Nat} {as : List V} (he : (callW mm fns f).f ih2 as h = .val v h') (fr : List V) (lo : Lo) : Ev mm fns (.call f as) fr lo h (.val v h') := by
  have hst : ∀ m, stepM mm fns (runM mm fns m) (.call f as) fr lo h = (match recall (fpVs as) (mm f) as with | some v => .val v h | none => stCall fns (runM mm fns m) f as h) := fun _ => rfl
  unfold callW at he
  cases hf : fns f with
  | none => rw [hf] at he; cases he
  | some vf =>
    rw [hf] at he
    dsimp only at he
    cases hm : mm f with
    | nil =>
      rw [hm] at he
      obtain ⟨N, hN⟩ := body_ok hi hf he
      refine Ev.of ⟨N, fun m hm2 => ?_⟩
      rw [hst, hm]
      exact hN m hm2
    | cons q ms =>
      rw [hm] at he
      dsimp only at he
      cases hr : recall 0 (q :: ms) as with
      | some u =>
        rw [hr] at he
        cases he
        refine Ev.of ⟨0, fun m _ => ?_⟩
        rw [hst, hm, recall_k, hr]
      | none =>
        rw [hr] at he
        obtain ⟨N, hN⟩ := body_ok hi hf he
        refine Ev.of ⟨N, fun m hm2 => ?_⟩
        rw [hst, hm, recall_k, hr]
        exact hN m hm2
theorem sndX_step (hi : SndX mm fns ih2) : SndX mm fns (stepX mm fns ih2) where
  code he hn r := cc_ok hi _ he hn r
  scope he hn r := scopeK_ok hi r he hn
  call he fr lo := call_ok2 hi he fr lo
  app he fr lo := appX_ok hi he fr lo
/-- The fast run is the run. -/
theorem sndX_run : ∀ n, SndX mm fns (runX mm fns n)
  | 0 => ⟨fun he hn _ => absurd he.symm hn, fun he hn _ => absurd he.symm hn, fun he => (by cases he), fun he => (by cases he)⟩
  | n + 1 => sndX_step (sndX_run n)
theorem runX_run {n f : Nat} {as : List V} (he : runX mm fns n (.call f as) fr2 bx h = .val v h') : ∃ m, runM mm fns m (.call f as) [] [] h = .val v h' := by
  obtain ⟨N, hN⟩ := (sndX_run n).call he [] []
  exact ⟨N, hN N (Nat.le_refl _)⟩
/-- One more answer. -/
theorem memoX {P : Program} {Hn : Hints} (hs : ∀ n, Snd P Hn (runM mm fns n)) {n : Nat} {f : FuncId} {as : List V} (he : valIs (runX mm fns n (.call f as) fr0 bx0 emp) v = true) (ha : flatVs as = true) (hv : flatV v = true) (σ : H) : CallOk P Hn f as σ (.val v σ) := by
  cases ho : runX mm fns n (.call f as) fr0 bx0 emp with
  | val u h1 =>
    rw [ho] at he
    have he : eqKV u v = true := he
    obtain ⟨m, hm⟩ := runX_run ho
    refine memo_of hs (n := m) ?_ ha hv σ
    rw [hm]
    exact he
  | _ => rw [ho] at he; cases he
end Go.Vx
end
