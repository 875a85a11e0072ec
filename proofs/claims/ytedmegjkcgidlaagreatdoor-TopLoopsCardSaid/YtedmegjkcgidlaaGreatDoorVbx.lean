/- A part of the proof of TopLoops: VxRow. -/
import Derived.Test.YtedmegjkcgidlaaGreatDoorRows
import Derived.WalkKit
import Derived.ProofKit
import Derived.OpenShut
import Derived.Below
import Derived.ChangeVars
import Derived.JoinedOf
import Derived.LaidLaws
import Derived.LaidHandle
import Derived.Stop.Joined
import Derived.Lay
import Derived.LaidOnce
import Derived.SevenTiedAt
import Derived.ShutString
import Derived.ChangeOld
import Derived.Test.YtedmegjkcgidlaaGreatDoorVbs
import Derived.Test.YtedmegjkcgidlaaGreatDoorVbv
import Derived.Test.YtedmegjkcgidlaaGreatDoorVbw
set_option linter.all false
set_option linter.unusedVariables false
set_option linter.unusedSimpArgs false
noncomputable section
namespace Go.Proofs.YtedmegjkcgidlaaGreatDoor.topLoops
open Go.ChangeShapes Go.WideShapes Go.ChangeAt Go.RowKit
open Go.Vx Go.Vx.Tab

theorem own : ownKnob Tryz.prog.godebug = none := by kernel_rfl
theorem top (n : Nat) (h : n < 256) : Ans 3 [.int .u8 (.ofNat n)] (.bool true) := Go.Vx.Tab.top n h
theorem walk (a0 : Int) (w0 : (Lit.int .u8 a0).wf = true) (w : World) :
    Calls Tryz.prog 3 #[.int .u8 a0] w fun e w' => e = .returned (.bool true) ∧ Below w.heap.size w w' := by
  obtain ⟨h1, h2⟩ := bounds_u8 w0
  obtain ⟨n, rfl⟩ := Int.eq_ofNat_of_zero_le h1
  have hn : n < 256 := by omega
  have hw : Rw Tryz.prog (cCode Tryz.prog Hn0) ⟨fun _ => none, fun _ _ => none⟩ emp w := ⟨fun b o v e => (by cases e), fun i ob h => (by rw [emp_get] at h; cases h), fun i j b m k h => (by rw [emp_get] at h; cases h), fun i _ => ⟨rfl, rfl⟩, fun i b m h => (by cases h)⟩
  rcases top n hn emp ⟨fun _ => none, fun _ _ => none⟩ #[.int .u8 (n : Int)] w (.bool true) emp (.cons (.int .u8 n) (.nil _)) hw rfl with ⟨h1, h2⟩ | ⟨h1, _⟩
  · refine (CallsIn.calls h2 (fun _ => by intro d hd; cases hd)).mono fun e w' he => ?_
    cases e with
    | returned x =>
      obtain ⟨g', k1, k2, k3⟩ := he
      cases k1
      exact ⟨rfl, k3.frm.os, k3.frm.tape, k3.frm.output, k3.frm.size, fun k hk => k3.frm.block k hk emp_live (by rintro ⟨t, h⟩; cases h) fun _ => rfl⟩
    | _ => exact he.elim
  · obtain ⟨b, k, c, e, _⟩ := h1
    simp at e

set_option maxRecDepth 100000
theorem w3 (os : Os) : Input.okWideB Tryz.prog (W0 os) 3 ⟨#[], #[.int .u8 0], []⟩ = true := by kernel_rfl
theorem w4 (os : Os) (H : Type) (enc : TypeId × Value → H) : Rows.topLoopsSpec.preB enc Tryz.prog Tryz.f3 [] false (W0 os).memory #[.int .u8 0] 8 = true := by kernel_rfl
theorem w5 (os : Os) (H : Type) (enc : TypeId × Value → H) : Rows.topLoopsSpec.sizedB enc Tryz.prog Tryz.f3 false (W0 os).memory #[.int .u8 0] 8 = true := by kernel_rfl
theorem lw (os : Os) : laidMetH Tryz.prog Rows.topLoopsRow.laid (W0 os).memory := by
  rw [MakeChecks.laidMetH_plain _ _ _ (by kernel_rfl)]; exact laid_world os _
theorem wit (os : Os) (H : Type) (enc : TypeId × Value → H) : ∃ (w : World) (tape : Tape) (i : Input), w.os = os ∧ (w.forCall tape i).Shaped Tryz.prog ∧ i.vars = [] ∧ Input.okWide Tryz.prog (w.forCall tape i) .any w.heap.size 3 i ∧
      ((Rows.topLoopsSpec.pre enc Tryz.prog Tryz.f3 [] false (w.forCall tape i).memory i.args ∧ laidMetH Tryz.prog Rows.topLoopsRow.laid (w.forCall tape i).memory) ∧ sizedMet enc Tryz.prog Tryz.f3 (OpenSpec.ofChange Rows.topLoopsSpec) false (w.forCall tape i).memory i.args) ∧ ({} : Assume).holds Tryz.prog (lone (Frame.enter Tryz.prog 3 i.args .normal) [] (w.forCall tape i)) :=
  ChangeSpec.witness_shaped (enc := enc) (C := Tryz.checked) (os := os) (X := fun w _ => laidMetH Tryz.prog Rows.topLoopsRow.laid w) false (World.laidAll Tryz.prog os Rows.topLoopsRow.laid) #[.int .u8 0] 8 (World.laidAll_os _ _ _)
      (World.shaped_of_ZipB (w1 os) (w2 os)) (w3 os) (w4 os H enc) (w5 os H enc) (lw os)

set_option maxRecDepth 100000 in
theorem lifted (os : Os) (started : os.Started) (H : Type) (enc : TypeId × Value → H) :
    ReturnsInHanded {} Tryz.checked os 3 .any (fun w args => (Rows.topLoopsSpec.pre enc Tryz.prog Tryz.f3 [] false w args ∧ laidMetH Tryz.prog Rows.topLoopsRow.laid w) ∧ sizedMet enc Tryz.prog Tryz.f3 (OpenSpec.ofChange Rows.topLoopsSpec) false w args)
      (Rows.topLoopsSpec.post enc Tryz.prog Tryz.f3 false true false false) := by
  refine returnsInHanded_of_change_and (C := Tryz.checked) (X := fun w _ => laidMetH Tryz.prog Rows.topLoopsRow.laid w) (fun _ _ _ hh h => h.of_heap hh) own started (by kernel_rfl) Tryz.func3
    (wit os H enc) ?_
  intro W base args ds gs before hval0 hW _ _ hL _
  have hval : ∀ (j : Nat) t v, Tryz.f3.params[j]? = some t → args[j]? = some v → Value.okWide Tryz.prog W .any base t v := hval0
  have hW' := hW
  obtain ⟨p, q, hA0, hV0, rfl, hfz, hnd⟩ := hW
  have hA : DataW.TrodAll enc Tryz.prog W 0 (fun _ => true) true Tryz.f3.params.toList args.toList ds p := hA0
  rw [Tryz.params3] at hA hval
  obtain ⟨v0, d0, rfl, rfl, h0⟩ := trodAll_one hA
  obtain ⟨a0, rfl, rfl, rfl, w0⟩ := open_int Tryz.underlying5 (hval 0 5 v0 rfl rfl) h0
  refine (walk a0 w0 W).mono fun e W' ⟨he, bel⟩ => ?_
  subst he
  obtain ⟨rfl, rfl⟩ := trodVars_none hV0
  exact ⟨_, rfl, _, _, _, [], _, [], hW', trodAll_mk1 (shut_bool Tryz.underlying4 _), (trodAll_cons_mk (shut_int Tryz.underlying5 w0) trodAll_mk0), rfl, bel.frame _, fun h => by cases h⟩

theorem over : Rows.topLoopsRow.holds Tryz.pinned (OpenSpec.ofChange Rows.topLoopsSpec) :=
  OpenClaim.holds_of_wide 3 Tryz.f3 rfl rfl rfl rfl rfl rfl rfl ⟨rfl, rfl, rfl, rfl, rfl⟩ rfl rfl rfl rfl rfl (by kernel_rfl) Tryz.func3 closed
    (of_decide_eq_true (by kernel_rfl)) (by unfold Func.isWrapper; first | (rw [if_pos (by decide +kernel)]; kernel_rfl) | (rw [if_neg (by decide +kernel)]; exact ⟨rfl, rfl⟩))
    (fun os started H enc _ => lifted os started H enc)
end Go.Proofs.YtedmegjkcgidlaaGreatDoor.topLoops
end
