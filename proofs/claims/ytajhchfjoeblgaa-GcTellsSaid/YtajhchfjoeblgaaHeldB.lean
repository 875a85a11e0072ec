/- A region that draws its order: the same steps, with the slot named that each writes; a built-in append at its run. -/
import Derived.Test.YtajhchfjoeblgaaHeld
namespace Go.Proofs.Ytajhchfjoeblgaa
section
variable {F : Fence} {n : Nat} {P : Program} {ops : Array Oper} {Q : Exit → Act → World → Prop} {md : Region.Mode} {S : World → Prop}
theorem wpAnyHF_takeD {i : Nat} {oi : Oper} (d : Tmp) {v : Value} {fuel : Nat} {listed : Array Bool} {a : Act} {w : World} (hro : F.round = none) (hi : ops[i]? = some oi) (hd : oi.dst = some d)
    (hs : Region.noSelect ops = true) (hf : Region.free md ops listed i = true) (hr : (Region.ready md ops listed).contains i = true)
    (hQ : ∀ c a w, Q (.panic c) (a.put oi.dst v) w → Q (.panic c) a w) (hy : YieldsHF P ops S oi v a) (hS : S w)
    (h : wpAnyHF F n P md ops Q S fuel (listed.setIfInBounds i true) (a.put (some d) v) w) : wpAnyHF F n P md ops Q S (fuel + 1) listed a w :=
  wpAnyHF_take hro hi hs hf hr hQ hy hS (hd ▸ h)
theorem wpIn_callD {o : Oper} (d : Tmp) (hd : o.dst = some d) {a : Act} {w : World} {K : Act → World → Prop} {f : FuncId} {args : Array Value} (hrun : (execOp a.eval o).run P w = .ok (.enter f args) w)
    (h : Calls P f args w fun e w' => ∃ v, e = .returned v ∧ K (a.put (some d) v) w') : o.wpIn Fence.wide n P a w K Q :=
  wpIn_call hrun (hd ▸ h)
theorem wpIn_valueD {o : Oper} (d : Tmp) (hd : o.dst = some d) {a : Act} {w w' : World} {K : Act → World → Prop} {v : Value} (hrun : (execOp a.eval o).run P w = .ok (.value v) w')
    (h : K (a.put (some d) v) w') : o.wpIn Fence.wide n P a w K Q :=
  wpIn_value hrun (hd ▸ h)
/-- Two operations may come up. -/
theorem wpAnyHF_two {i j : Nat} {oi oj : Oper} {fuel : Nat} {listed : Array Bool} {a : Act} {w : World} (hr : Region.ready md ops listed = [i, j]) (hi : ops[i]? = some oi) (hj : ops[j]? = some oj) (gi : Region.wanted oi (yielded ops a.tmps) = true) (gj : Region.wanted oj (yielded ops a.tmps) = true)
    (h1 : oi.wpIn F n P a w (fun a' w' => S w' ∧ wpAnyHF F n P md ops Q S fuel (listed.setIfInBounds i true) a' w') Q)
    (h2 : oj.wpIn F n P a w (fun a' w' => S w' ∧ wpAnyHF F n P md ops Q S fuel (listed.setIfInBounds j true) a' w') Q) : wpAnyHF F n P md ops Q S (fuel + 1) listed a w :=
  ⟨(fun h0 => by rw [hr] at h0; cases h0), fun k hk => by
    rw [hr] at hk; simp at hk
    rcases hk with rfl | rfl
    · unfold wpOpIn; rw [hi]; simp only [gi, if_true]; exact h1
    · unfold wpOpIn; rw [hj]; simp only [gj, if_true]; exact h2⟩
/-- An operation that yields nothing. -/
theorem wpIn_skip {o : Oper} (hd : o.dst = none) {a : Act} {w w' : World} {K : Act → World → Prop} (hrun : (execOp a.eval o).run P w = .ok .skip w')
    (h : K a w') : o.wpIn Fence.wide n P a w K Q := by
  unfold Oper.wpIn
  refine ⟨fun f _ => trivial, ?_⟩
  rw [show Fence.wide.round = none from rfl, Oper.semAt_none, hrun]
  simpa only [Oper.uponIn, hd, Act.put] using h
/-- The built-in append, its run known. -/
theorem run_append_op {o : Oper} {a : Act} {w w' : World} {v' : Value} (s x : Operand) (t : TypeId) (ho : o.op = .call { callee := .builtin .append, args := #[s, x], argTypes := #[t, t] }) (ht : o.type = t) {v xv : Value} (hs : a.eval s = v) (hx : a.eval x = xv)
    (hr : (Builtin.append_ #[t, t] t #[v, xv]).run P w = .ok v' w') : (execOp a.eval o).run P w = .ok (.value v') w' := by
  unfold execOp
  simp only [ho, ht, resolve, invoke, builtin, Sem.run_bind, Sem.run_pure, Result.andThen_ok, List.map_toArray, List.map_cons, List.map_nil, hs, hx, hr]
end
end Go.Proofs.Ytajhchfjoeblgaa
