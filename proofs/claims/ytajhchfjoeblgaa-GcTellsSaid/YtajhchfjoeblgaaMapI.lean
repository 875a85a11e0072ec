/- A map[int]int that the call itself makes: the places of some numbers in a list. -/
import Derived.Test.YtajhchfjoeblgaaGcA
import Derived.Test.YtajhchfjoeblgaaInts
import Derived.Maps.OwnOps
import Derived.Maps.OwnSet
import Derived.Maps.OwnIn
import Derived.Maps.Views
import Derived.WideKeyEntry
namespace Go.Proofs.Ytajhchfjoeblgaa
open Go.RowKit Go.Maps
open Go.ChangeMaps (setBlock)
theorem wf_in {x : Int} (h : In x) : (Lit.int .i64 x).wf = true := by
  unfold In at h
  simp [Lit.wf, IntKind.min, IntKind.max, IntKind.signed, IntKind.bits]; omega
theorem keyInt {x : Int} (h : In x) : keyOf Try.prog 3 (.int .i64 x) = some (.int .i64 x) := keyOf_int_mk Try.underlying3 (wf_in h)
theorem keyedInt : Keyed Try.prog 3 := int_keyed Try.underlying3
theorem zero_int (w : World) : (zeroValue 3).run Try.prog w = .ok (.int .i64 0) w := by kernel_rfl
/-- Block b is a map whose keys are those of S, each with its place there. -/
def MapI (w : World) (b n : Nat) (S : List Int) : Prop :=
  ∃ D : DataW Unit, w.ownsMap Try.prog 3 (plainElem Try.prog 3) b n D ∧ ∀ x, In x → has D (.int .i64 x) = S.contains x ∧ D.atKey (.int .i64 x) (.lit (.int .i64 0)) = .lit (.int .i64 (if S.contains x then pl S x else 0))
theorem MapI.made (w : World) : MapI (w.alloc (.map #[] 0)) w.heap.size 0 [] := ⟨.map [], World.ownsMap_made _ _ _ _, fun x _ => ⟨rfl, rfl⟩⟩
theorem MapI.lt {w : World} {b n : Nat} {S : List Int} (h : MapI w b n S) : b < w.heap.size := by obtain ⟨D, h, _⟩ := h; exact h.lt
theorem MapI.kept {w w' : World} {b n : Nat} {S : List Int} (h : MapI w b n S) (hb : w'.heap[b]? = w.heap[b]?) : MapI w' b n S := by
  obtain ⟨D, ⟨es, clock, hm, F⟩, k⟩ := h
  exact ⟨D, ⟨es, clock, hb.trans hm, F⟩, k⟩
theorem MapI.below {w w' : World} {b n : Nat} {S : List Int} (h : MapI w b n S) (hb : Below w.heap.size w w') : MapI w' b n S := h.kept (hb.block b h.lt)
theorem MapI.isMap {w : World} {b n : Nat} {S : List Int} (h : MapI w b n S) : ∃ es clock, w.heap[b]? = some (.map es clock) := by
  obtain ⟨D, ⟨es, clock, hm, F⟩, k⟩ := h
  exact ⟨es, clock, hm⟩
theorem MapI.look {w : World} {b n : Nat} {S : List Int} (h : MapI w b n S) {x : Int} (hx : In x) :
    (Instr.lookup 43 (.map (some b)) (.int .i64 x) true).run Try.prog w = .ok (.tuple #[.int .i64 (if S.contains x then pl S x else 0), .bool (S.contains x)]) w := by
  obtain ⟨D, h, k⟩ := h
  obtain ⟨v, ps, hrun, hv⟩ := h.look_ok keyedInt Try.underlying43 (zero_int w) (plainElem_int Try.underlying3 (by decide)) (keyInt hx)
  obtain ⟨c, rfl, hc, _⟩ := plainElem_int_inv Try.underlying3 hv
  simp only [Prod.mk.injEq] at hc
  rw [(k x hx).2] at hc
  rw [hrun, (k x hx).1]
  have := hc.1
  simp at this
  simp [this]
theorem pl_snoc {S : List Int} {q x : Int} (hx : x ∈ S) : pl (S ++ [q]) x = pl S x := by
  rw [pl, pl, List.idxOf_append, if_pos hx]
theorem pl_last {S : List Int} {q : Int} (hq : q ∉ S) : pl (S ++ [q]) q = S.length := by
  rw [pl, List.idxOf_append, if_neg hq]; simp
theorem contains_snoc (S : List Int) (q x : Int) : (S ++ [q]).contains x = (S.contains x || x == q) := by
  rw [Bool.eq_iff_iff]; simp
/-- 'm.at[q] = to' in two steps: the entry is made; later it is given its value. -/
theorem MapI.enter {w : World} {b n : Nat} {S : List Int} (h : MapI w b n S) (hn : n < maxLen) {q : Int} (hq : In q) (hnot : q ∉ S) (hl : In (S.length : Int)) :
    ∃ v0 st es1 c1, (Instr.mapEntry 43 (.map (some b)) (.int .i64 q)).run Try.prog w = .ok (.tuple #[v0, goInt st]) (setBlock w b (.map es1 c1)) ∧
      ∀ w2 : World, w2.heap[b]? = some (.map es1 c1) → ∃ es2 c2, (Instr.entryStore 43 (.map (some b)) (goInt st) (.int .i64 S.length)).run Try.prog w2 = .ok () (setBlock w2 b (.map es2 c2)) ∧
        ∀ w3 : World, w3.heap[b]? = some (.map es2 c2) → MapI w3 b (n + 1) (S ++ [q]) := by
  obtain ⟨D, hown, k⟩ := h
  have hD : IsMap D := hown.isMap
  have hup := hown.update keyedInt Try.underlying43 hn (keyInt hq) (plainElem_int Try.underlying3 (wf_in hl))
  obtain ⟨es, clock, hb, F, hs, rfl⟩ := hown
  rcases Maps.fit_look true keyedInt Try.underlying43 (zero_int w) hb F (keyInt hq) with ⟨_, h2, _⟩ | ⟨e0, y, hm0, hk0, _, _, hat, _⟩
  · obtain ⟨s1, s2, _⟩ := F.stamped
    have hf : (Instr.findKey 3 (.int .i64 q) es.toList).run Try.prog w = .ok none w := by
      rcases keyedInt.find w (keyInt hq) es.toList F.keys with ⟨h1, _⟩ | ⟨j, e0, _, h2', h3⟩
      · exact h1
      · exact absurd h3 (h2 e0 (List.mem_of_getElem? h2'))
    refine ⟨.int .i64 0, clock, es.push ⟨.int .i64 q, .int .i64 0, clock⟩, clock + 1, ?_, fun w2 hw2 => ⟨es.push ⟨.int .i64 q, .int .i64 S.length, clock⟩, clock + 1, ?_, fun w3 hw3 => ?_⟩⟩
    · simp [Instr.mapEntry, run_underlying Try.underlying43, MapKept.run_getObj_map hb, keyedInt.check w false (keyInt hq), hf, zero_int, MapKept.run_setObj_map _ hb, Result.andThen, setBlock]
    · have hidx : (es.push ⟨.int .i64 q, .int .i64 0, clock⟩).findIdx? (fun e => ((e.born : Nat) : Int) == ((clock : Nat) : Int)) = some es.size := by
        rw [WideElems.findIdx_arr]
        exact WideElems.findIdx_born (l := (es.push ⟨.int .i64 q, .int .i64 0, clock⟩).toList) (j := es.size) (e0 := ⟨.int .i64 q, .int .i64 0, clock⟩) (by
          simp only [Array.toList_push, List.map_append, List.map_cons, List.map_nil]
          refine List.nodup_append.2 ⟨s2, by simp, fun a ha c hc e1 => ?_⟩
          simp only [List.mem_singleton] at hc
          obtain ⟨x, hx, rfl⟩ := List.mem_map.1 ha
          have := s1 x hx
          omega) (by simp)
      have hmod : (es.push ⟨.int .i64 q, .int .i64 0, clock⟩).modify es.size (fun e => { e with val := .int .i64 S.length }) = es.push ⟨.int .i64 q, .int .i64 S.length, clock⟩ := by
        apply Array.ext'
        rw [Array.toList_modify, Array.toList_push, Array.toList_push, ← Array.length_toList, WideElems.modify_last]
      simp [Instr.entryStore, MapKept.run_getObj_map hw2, asInt, asIntOf, goInt, hidx, hmod, MapKept.run_setObj_map _ hw2, Result.andThen, setBlock]
    · obtain ⟨w', hrun, hown', _⟩ := hup
      have hrun2 : (Instr.mapUpdate 43 (.map (some b)) (.int .i64 q) (.int .i64 S.length)).run Try.prog w = .ok () (setBlock w b (.map (es.push ⟨.int .i64 q, .int .i64 S.length, clock⟩) (clock + 1))) := by
        simp [Instr.mapUpdate, run_underlying Try.underlying43, MapKept.run_getObj_map hb, keyedInt.check w false (keyInt hq), hf, MapKept.run_setObj_map _ hb, Result.andThen, setBlock]
      rw [hrun2] at hrun
      cases hrun
      obtain ⟨es', c', hb', F', hs', hD'⟩ := hown'
      rw [Go.ChangeMaps.heap_setBlock_same hb] at hb'
      cases hb'
      refine ⟨_, ⟨_, _, hw3, F', hs', hD'⟩, fun x hx => ?_⟩
      rw [contains_snoc]
      by_cases e : x = q
      · subst e
        rw [has_put_same hD (by trivial), atKey_put_same hD (by trivial), pl_last hnot]
        simp
      · rw [has_put_other (by intro h; apply e; cases h; rfl), atKey_put_other (by intro h; apply e; cases h; rfl), (k x hx).1, (k x hx).2]
        have e' : (x == q) = false := by simpa using e
        simp only [e', Bool.or_false, true_and]
        by_cases hxs : x ∈ S
        · simp [hxs, pl_snoc hxs]
        · simp [hxs]
  · have h1 := has_true_of_atKey hat
    rw [(k q hq).1] at h1
    exact absurd (by simpa using h1) hnot
end Go.Proofs.Ytajhchfjoeblgaa
