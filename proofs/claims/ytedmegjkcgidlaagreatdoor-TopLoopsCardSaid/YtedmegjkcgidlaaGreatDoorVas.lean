/- A part of the proof of TopLoops: VxFastK. -/
import Derived.Test.YtedmegjkcgidlaaGreatDoorVah
import Derived.Test.YtedmegjkcgidlaaGreatDoorVar
set_option linter.all false
set_option linter.unusedVariables false
set_option linter.unusedSimpArgs false
noncomputable section
open Go Go.Vx
namespace Go.Vx.Tab
/-- the answers in a list, by function -/
noncomputable def mOf (l : List (Nat × List V × V)) : Memo := fun f => List.rec [] (fun e _ ih => Bool.rec ih ((0, e.2.1, e.2.2) :: ih) (Nat.beq e.1 f)) l
theorem mOf_mem {f k : Nat} {a : List V} {v : V} : ∀ {l : List (Nat × List V × V)}, (k, a, v) ∈ mOf l f → (f, a, v) ∈ l
  | [], h => by cases h
  | e :: l, h => by
    have h1 : mOf (e :: l) f = Bool.rec (mOf l f) ((0, e.2.1, e.2.2) :: mOf l f) (Nat.beq e.1 f) := rfl
    rw [h1] at h
    cases hb : Nat.beq e.1 f with
    | false => rw [hb] at h; exact List.mem_cons_of_mem _ (mOf_mem h)
    | true =>
      rw [hb] at h
      rcases List.mem_cons.1 h with h | h
      · cases h
        rw [← Nat.eq_of_beq_eq_true hb]
        exact List.mem_cons_self
      · exact List.mem_cons_of_mem _ (mOf_mem h)
/-- what comes back, upon whatever heap -/
def Ans (f : Nat) (a : List V) (v : V) : Prop := ∀ σ, CallOk Go.Proofs.Tryz.prog Hn0 f a σ (.val v σ)
def AllA : List (Nat × List V × V) → Prop
  | [] => True
  | e :: l => Ans e.1 e.2.1 e.2.2 ∧ AllA l
theorem AllA.mem : ∀ {l : List (Nat × List V × V)}, AllA l → ∀ e ∈ l, Ans e.1 e.2.1 e.2.2
  | [], _, e, h => by cases h
  | a :: l, hl, e, h => by
    rcases List.mem_cons.1 h with rfl | h
    · exact hl.1
    · exact AllA.mem hl.2 e h
theorem ans_of {l : List (Nat × List V × V)} {f : Nat} {a : List V} {v : V} {n : Nat} (hl : AllA l) (h : valIs (runX (mOf l) fns n (.call f a) fr0 bx0 emp) v = true) (ha : flatVs a = true) (hv : flatV v = true) : Ans f a v :=
  fun σ => memoX (snd_memo fun f k a v hm σ => AllA.mem hl _ (mOf_mem hm) σ) h ha hv σ
end Go.Vx.Tab
end
