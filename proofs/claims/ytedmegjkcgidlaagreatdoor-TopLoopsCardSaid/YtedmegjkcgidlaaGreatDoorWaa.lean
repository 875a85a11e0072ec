/- A part of the proof of TopLoops: VxIdle, VxExt. -/
import Derived.RecoverIn
import Derived.KernelRfl
import Derived.Test.YtedmegjkcgidlaaGreatDoorProg
import Derived.Laws.Externs
import Derived.Lib.BytesEntry
import Derived.Test.YtedmegjkcgidlaaGreatDoorVad
set_option linter.all false
set_option linter.unusedVariables false
set_option linter.unusedSimpArgs false
noncomputable section
open Go Go.RowKit
namespace Go.Vx
open Go.Proofs
variable {P : Program}

theorem idle_enters (args : Array Value) (w : World) : (callFunc 155 args).run Tryz.prog w = .ok (.enter 155 args) w :=
  run_callFunc Tryz.func155 rfl (by decide) args w

theorem recover_step {o : Oper} {Q : Exit → Act → List Frame → World → Prop} {a : Act} {c₀ : Frame} {cs : List Frame} {w : World} (hg : o.guard = none) (hr : (execOp a.eval o).run P w = .ok .recover w) (hc : recoverD (c₀ :: cs) = none)
    (h : Q .normal (a.put o.dst .nilIface) (c₀ :: cs) w) : wpOpsSIn (Fw none) 0 P #[o] Q (List.range 1) a (c₀ :: cs) w := by
  have h1 : List.range 1 = [0] := rfl
  have h2 : (#[o] : Array Oper)[0]? = some o := rfl
  rw [h1]
  unfold wpOpsSIn
  rw [h2]
  dsimp only
  refine ⟨fun _ _ => trivial, ?_⟩
  rw [if_pos (by simp [Region.wanted, hg]), hr]
  dsimp only
  rw [hc]
  exact h

theorem one_step {o : Oper} {Q : Exit → Act → World → Prop} {a : Act} {w : World} {v : Value} (hg : o.guard = none) (hr : (execOp a.eval o).run P w = .ok (.value v) w) (h : Q .normal (a.put o.dst v) w) : wpOpsIn (Fw none) 0 P #[o] Q (List.range 1) a w := by
  have h1 : List.range 1 = [0] := rfl
  have h2 : (#[o] : Array Oper)[0]? = some o := rfl
  rw [h1]
  unfold wpOpsIn
  rw [h2]
  dsimp only
  rw [if_pos (by simp [Region.wanted, hg])]
  refine ⟨fun _ _ => trivial, ?_⟩
  rw [show (Fw none).round = none from rfl, Oper.semAt_none, hr, Oper.uponIn_value]
  exact h
theorem eval_put {a : Act} {t : Nat} {x : Value} (h : t < a.tmps.size) : (a.put (some t) x).eval (.tmp t) = x := by
  simp [Act.eval, Act.put, Array.getD, h]
theorem put_size {a : Act} {d : Option Nat} {x : Value} : (a.put d x).tmps.size = a.tmps.size := by
  cases d <;> simp [Act.put]

theorem idle155 : IdleF Tryz.prog 155 where
  enters := idle_enters
  calls args w := by
    refine callsDIn_of_wpSIn Tryz.func155 rfl trivial fun c₀ cs hm => ?_
    generalize ha : ({ tmps := args ++ Array.replicate (Tryz.f155.ntmps - args.size) undef, defers := [] } : Act) = a
    have hd : a.defers = [] := by rw [← ha]
    have hs : 13 ≤ a.tmps.size := by rw [← ha]; simp [Tryz.f155]; omega
    clear ha
    refine wpSIn_seq (wpSIn_region ?_)
    refine recover_step rfl rfl (by simp [recoverD, hm]) ?_
    refine wpSIn_of_wpIn rfl ?_
    refine wpIn_block (wpIn_seq (wpIn_region ?_))
    have h5 := eval_put (a := a) (t := 5) (x := .nilIface) (by omega)
    refine one_step rfl (v := .bool true) ?_ ?_
    · simp only [execOp, h5]
      kernel_rfl
    · refine wpIn_cond (t := true) ?_ ?_
      · exact eval_put (by rw [put_size]; omega)
      · refine wpIn_region (one_step rfl (v := .nilIface) ?_ ?_)
        · have h6 : ((a.put (some 5) .nilIface).put (some 7) (.bool true)).eval (.tmp 5) = .nilIface := by
            have q : 5 < a.tmps.size := by omega
            simp [Act.eval, Act.put, Array.getD, q]
          simp only [execOp, h6]
          rfl
        · refine ⟨by simpa [Act.put] using hd, .returning, ?_, .tuple #[], ?_, ⟨_, rfl⟩, rfl, rfl, rfl, rfl, rfl⟩
          · cases c₀; simp only at hm; subst hm; rfl
          · unfold results
            have e : Tryz.f155.results = #[] := rfl
            rw [e, Sem.run_bind, Array.mapM_eq_mapM_toList]
            rfl
end Go.Vx
end
noncomputable section

open Go Go.RowKit
namespace Go.Vx
variable {P : Program} {Hn : Hints} {g : G} {σ σ' : H} {w : World}

theorem u8_beq {x : UInt8} {c : Nat} (hc : c < 256) : (x == UInt8.ofNat c) = Nat.beq x.toNat c := by
  rw [Bool.eq_iff_iff, beq_iff_eq, Nat.beq_eq]
  constructor
  · rintro rfl; simp; omega
  · intro h; apply UInt8.toNat_inj.1; rw [h]; simp; omega

theorem indexByte_cons (x c : UInt8) (l : List UInt8) : Lib.indexByte (x :: l) c = if (x == c) = true then 0 else if (Lib.indexByte l c == -1) = true then -1 else Lib.indexByte l c + 1 := rfl

theorem idxN_eq {c : Nat} (hc : c < 256) : ∀ (l : List UInt8) (i : Nat), (idxN (l.map UInt8.toNat) c i = none ∧ Lib.indexByte l (UInt8.ofNat c) = -1) ∨ ∃ k : Nat, idxN (l.map UInt8.toNat) c i = some (i + k) ∧ Lib.indexByte l (UInt8.ofNat c) = (k : Int)
  | [], i => .inl ⟨rfl, rfl⟩
  | x :: l, i => by
    have hh := indexByte_cons x (UInt8.ofNat c) l
    have hs : idxN ((x :: l).map UInt8.toNat) c i = bif Nat.beq x.toNat c then some i else idxN (l.map UInt8.toNat) c (i + 1) := rfl
    have hb := u8_beq (x := x) hc
    rw [← hb] at hs
    clear hb
    generalize (x == UInt8.ofNat c) = q at hh hs
    cases q with
    | true => exact .inr ⟨0, by simpa using hs, by simpa using hh⟩
    | false =>
      simp only [cond_false] at hs
      rw [hs]
      rcases idxN_eq hc l (i + 1) with ⟨h1, h2⟩ | ⟨k, h1, h2⟩
      · refine .inl ⟨h1, ?_⟩
        rw [hh, h2]; rfl
      · refine .inr ⟨k + 1, ?_, ?_⟩
        · rw [h1]; congr 1; omega
        · rw [hh, h2]
          have : ((k : Int) == -1) = false := by simp
          rw [this]
          simp

theorem idxV_eq {c : Nat} (hc : c < 256) (l : List UInt8) : idxV (idxN (l.map UInt8.toNat) c 0) = .int .i64 (Lib.indexByte l (UInt8.ofNat c)) := by
  rcases idxN_eq hc l 0 with ⟨h1, h2⟩ | ⟨k, h1, h2⟩
  · rw [h1, h2]; rfl
  · rw [h1, h2, Nat.zero_add]; rfl

theorem cntN_eq {c : Nat} (hc : c < 256) : ∀ (l : List UInt8), cntN (l.map UInt8.toNat) c = l.count (UInt8.ofNat c)
  | [] => rfl
  | x :: l => by
    simp only [List.map_cons, cntN, List.count_cons]
    rw [u8_beq hc, cntN_eq hc l]
    cases Nat.beq x.toNat c <;> simp

theorem map_ofNat {ns : List Nat} (h : ∀ n ∈ ns, n < 256) : (ns.map UInt8.ofNat).map UInt8.toNat = ns := by
  rw [List.map_map]
  conv => rhs; rw [← List.map_id ns]
  refine List.map_congr_left fun n hn => ?_
  have := h n hn
  simp; omega

theorem bytesOf_nat (ns : List Nat) : Lib.bytesOf (ns.map Int.ofNat) = ns.map UInt8.ofNat := by
  simp [Lib.bytesOf]

theorem byteArg {c : Nat} : (Int.ofNat c).toNat.toUInt8 = UInt8.ofNat c := rfl

theorem ret_same {v : V} {x : Value} (hw : Rw P (cCode P Hn) g σ w) (h : Rv g v x) : RetOk P Hn g σ w v σ x w := ⟨g, h, hw, .refl⟩

theorem two_args {a b : V} {As : Array Value} (h : Rvs g [a, b] As.toList) : ∃ x y, As = #[x, y] ∧ Rv g a x ∧ Rv g b y := by
  obtain ⟨x, xs, e, hx, h1⟩ := h.uncons
  obtain ⟨y, ys, rfl, hy, h2⟩ := h1.uncons
  have := h2.unnil
  subst this
  exact ⟨x, y, by rw [← Array.toList_inj, e], hx, hy⟩

theorem int_arg {c : Nat} {y : Value} (h : Rv g (.int .u8 (.ofNat c)) y) : y = .int .u8 (.ofNat c) := by cases h; rfl

theorem str_arg {b : List Nat} {x : Value} (h : Rv g (.str b) x) : ∃ s : ByteArray, x = .string s ∧ b = s.data.toList.map UInt8.toNat := by
  cases h with
  | str bs => exact ⟨bs, rfl, rfl⟩

theorem cells_at {b off : Nat} {ns : List Nat} (h : ∀ j n, ns[j]? = some n → w.cell? ⟨b, off + j, none⟩ = some (.int .u8 (.ofNat n))) : ∀ i, i < ns.length → w.cell? ⟨b, off + i, none⟩ = some (.int .u8 ((ns.map Int.ofNat).getD i 0)) := by
  intro i hi
  rw [h i ns[i] (List.getElem?_eq_getElem hi)]
  simp [List.getD, hi]

/-- The bytes that a slice holds are read as a string's are. -/
theorem count_slice {b off n c : Nat} {ns : List Nat} (hn : ns.length = n) (hc : ∀ i, i < n → w.cell? ⟨b, off + i, none⟩ = some (.int .u8 ((ns.map Int.ofNat).getD i 0))) (cv : Int) :
    (Extern.BytealgCount.count #[.slice (some ⟨b, off, none⟩) n c, .int .u8 cv]).run P w = .ok (.int .i64 (Lib.countByte (ns.map UInt8.ofNat) cv.toNat.toUInt8)) w := by
  have hl := Lib.run_loadBytesX (P := P) w (ns.map Int.ofNat) ⟨b, off, none⟩ .empty (fun j x hj => by
    have hjl : j < n := by have := (List.getElem?_eq_some_iff.1 hj).1; simpa [hn] using this
    rw [add_none, hc j hjl, List.getD_eq_getElem?_getD, hj]; rfl)
  rw [List.length_map, hn, bytesOf_nat] at hl
  have hs := Lib.run_countString (P := P) ⟨(ns.map UInt8.ofNat).toArray⟩ cv w
  have e1 : (Extern.Bytes.bytesOf (.slice (some ⟨b, off, none⟩) n c)).run P w = (Extern.Bytes.bytesOf (.string ⟨(ns.map UInt8.ofNat).toArray⟩)).run P w := by
    show (Extern.Bytes.loadBytes ⟨b, off, none⟩ n .empty).run P w = _
    rw [hl]
    show Result.ok _ w = Result.ok _ w
    congr 1
    apply ByteArray.ext
    show (#[] : Array UInt8) ++ _ = _
    simp
  have hk : ∀ x y, Extern.BytealgCount.count #[x, y] = (do let b ← Extern.Bytes.bytesOf x; let c ← Extern.Bytes.asByte y; pure (goInt (b.foldl (fun n x => if x == c then n + 1 else n) (0 : Nat)))) := fun _ _ => rfl
  rw [hk, Sem.run_bind] at hs ⊢
  rw [e1]
  exact hs

theorem ext_string {f : FuncId} {fn : Func} {vf : VFunc} (hf : P.funcs[f]? = some fn) (hname : (fn.name == "runtime.NumGoroutine") = false) (hb : fn.body.isNone = true) (hn : Extern.findNext fn = none) (he : Extern.find fn = some Extern.BytealgIndexByte.indexByte) (hx : vf.ext = 3) : ExtOk P Hn f vf := by
  intro args σ g As w v σ' ha hw e
  rw [hx] at e
  unfold ext at e
  split at e <;> try (cases e; done)
  · omega
  · rename_i b c _
    cases hc : Nat.blt c 256 with
    | false => rw [hc] at e; cases e
    | true =>
      rw [hc] at e
      have hlt := blt_lit hc
      simp only [cond_true, Out.val.injEq] at e
      obtain ⟨rfl, rfl⟩ := e
      obtain ⟨x, y, rfl, h1, h2⟩ := two_args ha
      obtain ⟨s, rfl, rfl⟩ := str_arg h1
      rw [int_arg h2]
      refine ⟨.int .i64 (Lib.indexByte s.data.toList (UInt8.ofNat c)), w, ?_, ?_⟩
      · rw [run_callFunc_extern hf hname hb hn he, Lib.run_indexByteString]; rfl
      · rw [idxV_eq hlt]; exact ret_same hw (.int _ _)
  · omega

theorem ext_slice {f : FuncId} {fn : Func} {vf : VFunc} (hf : P.funcs[f]? = some fn) (hname : (fn.name == "runtime.NumGoroutine") = false) (hb : fn.body.isNone = true) (hn : Extern.findNext fn = none) (he : Extern.find fn = some Extern.BytealgIndexByte.indexByte) (hx : vf.ext = 2) : ExtOk P Hn f vf := by
  intro args σ g As w v σ' ha hw e
  rw [hx] at e
  unfold ext at e
  split at e <;> try (cases e; done)
  · rename_i b c _
    cases hc : Nat.blt c 256 with
    | false => rw [hc] at e; cases e
    | true =>
      rw [hc] at e
      have hlt := blt_lit hc
      simp only [cond_true] at e
      cases hbs : bytesIn σ b with
      | none => rw [hbs] at e; cases e
      | some ns =>
      rw [hbs] at e
      simp only [Out.val.injEq] at e
      obtain ⟨rfl, rfl⟩ := e
      obtain ⟨x, y, rfl, h1, h2⟩ := two_args ha
      rw [int_arg h2]
      obtain ⟨hns, hX⟩ := bytesIn_ok (β := fun _ => none) hw (.of_rv h1) hbs
      rw [show idxN ns c 0 = idxN ((ns.map UInt8.ofNat).map UInt8.toNat) c 0 by rw [map_ofNat hns], idxV_eq hlt]
      rcases hX with ⟨rfl, rfl⟩ | ⟨b', off, cap, rfl, hcell⟩
      · refine ⟨_, w, ?_, ret_same hw (.int _ _)⟩
        rw [run_callFunc_extern hf hname hb hn he, Lib.run_indexByteNil]; rfl
      · refine ⟨_, w, ?_, ret_same hw (.int _ _)⟩
        have := Lib.run_indexByteSlice (P := P) w b' off ns.length cap (ns.map Int.ofNat) (by simp) (cells_at hcell) (.ofNat c)
        rw [run_callFunc_extern hf hname hb hn he, this, bytesOf_nat, byteArg]; rfl
  · omega
  · omega

theorem ext_count {f : FuncId} {fn : Func} {vf : VFunc} (hf : P.funcs[f]? = some fn) (hname : (fn.name == "runtime.NumGoroutine") = false) (hb : fn.body.isNone = true) (hn : Extern.findNext fn = none) (he : Extern.find fn = some Extern.BytealgCount.count) (hx : vf.ext = 4) : ExtOk P Hn f vf := by
  intro args σ g As w v σ' ha hw e
  rw [hx] at e
  unfold ext at e
  split at e <;> try (cases e; done)
  · omega
  · omega
  · rename_i b c _
    cases hc : Nat.blt c 256 with
    | false => rw [hc] at e; cases e
    | true =>
      rw [hc] at e
      have hlt := blt_lit hc
      simp only [cond_true] at e
      cases hbs : bytesIn σ b with
      | none => rw [hbs] at e; cases e
      | some ns =>
      rw [hbs] at e
      simp only [Out.val.injEq] at e
      obtain ⟨rfl, rfl⟩ := e
      obtain ⟨x, y, rfl, h1, h2⟩ := two_args ha
      rw [int_arg h2]
      obtain ⟨hns, hX⟩ := bytesIn_ok (β := fun _ => none) hw (.of_rv h1) hbs
      rw [show cntN ns c = cntN ((ns.map UInt8.ofNat).map UInt8.toNat) c by rw [map_ofNat hns], cntN_eq hlt]
      rcases hX with ⟨rfl, rfl⟩ | ⟨b', off, cap, rfl, hcell⟩
      · refine ⟨_, w, ?_, ret_same hw (.int _ _)⟩
        rw [run_callFunc_extern hf hname hb hn he, show (Extern.BytealgCount.count #[.slice none 0 0, .int .u8 (.ofNat c)]).run P w = .ok (.int .i64 0) w from Lib.run_countString (P := P) .empty (.ofNat c) w]; rfl
      · refine ⟨_, w, ?_, ret_same hw (.int _ _)⟩
        have := count_slice (P := P) (c := cap) rfl (cells_at hcell) (.ofNat c)
        rw [run_callFunc_extern hf hname hb hn he, this, byteArg]; rfl
end Go.Vx
end
