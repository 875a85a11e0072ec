/- Plain facts on slices in memory, of whatever program: a slice value that reads as a list of elements; what keeps it so. -/
import Derived.Test.YtajhchfjoeblgaaRows
import Derived.WalkKit
import Derived.WalkSpells
import Derived.WalkLawsBesides
import Derived.Deep.QuietTactic
import Derived.BigQuiet
import Derived.Deep.DeepCutAuto
import Derived.Deep.LoopGhost
import Derived.Shelf.Abstract
import Derived.RangeFuncNested
import Derived.RangeFuncBound
import Derived.RangeFuncCalls
import Derived.RangeFuncLeaves
import Derived.Shelf.RegionOpen
import Derived.OwnWalkIn
import Derived.TacticsInMore
import Derived.LoopNIn
import Derived.LoopIn
namespace Go.Proofs.Ytajhchfjoeblgaa
open Go.RowKit
theorem hid {p : Prop} (h : p) : Hid p := h
theorem bthen {a b c : World} (h : Below a.heap.size a b) (k : Below b.heap.size b c) : Below a.heap.size a c := h.trans (k.mono h.size)
theorem ret_int {k : IntKind} {a b : Int} (h : a = b) : Ending.returned (.int k a) = .returned (.int k b) := by rw [h]
theorem ret_bool {a b : Bool} (h : a = b) : Ending.returned (.bool a) = .returned (.bool b) := by rw [h]
/-- What of a world a reading hangs on: the blocks of cells that 'ok' names. -/
def Same (ok : Nat → Prop) (w w' : World) : Prop := ∀ b c e fr, ok b → w.heap[b]? = some (.cells c e fr) → w'.heap[b]? = some (.cells c e fr)
theorem lt_of_some {w : World} {b : Nat} {o : Obj} (h : w.heap[b]? = some o) : b < w.heap.size := (Array.getElem?_eq_some_iff.1 h).1
theorem Same.of_below {ok : Nat → Prop} {w w' : World} (h : Below w.heap.size w w') : Same ok w w' := fun b c e fr _ hb => by rw [h.block b (lt_of_some hb)]; exact hb
theorem cells_of {w : World} {a : Addr} {v : Value} (h : w.cell? a = some v) : ∃ c e fr, w.heap[a.block]? = some (.cells c e fr) := by
  unfold World.cell? at h
  cases ho : w.heap[a.block]? with
  | none => simp [ho] at h
  | some o => cases o <;> simp [ho] at h; exact ⟨_, _, _, rfl⟩
theorem Same.cell {ok : Nat → Prop} {w w' : World} (h : Same ok w w') {a : Addr} {v : Value} (ha : ok a.block) (hc : w.cell? a = some v) : w'.cell? a = some v := by
  obtain ⟨c, e, fr, hb⟩ := cells_of hc
  rw [World.cell?_of_block (w := w) ((h _ _ _ _ ha hb).trans hb.symm)]; exact hc
theorem Same.of_grown {ok : Nat → Prop} {w w' : World} {row : Option Nat} (hg : w.grownBy w' row) (hr : ∀ r, row = some r → ¬ ok r ∨ ∃ o : Obj, w.heap[r]? = some o ∧ o.isCells = false) : Same ok w w' := fun b c e fr hb hc => by
  rw [hg.block b (lt_of_some hc) (fun h => by
    rcases hr b h.symm with h | ⟨o, ho, hn⟩
    · exact h hb
    · rw [hc] at ho; cases ho; simp [Obj.isCells] at hn)]
  exact hc
/-- But for draws the world is as it was. -/
def Drew (w w' : World) : Prop := ∃ n, w' = w.drewN n
theorem Drew.refl (w : World) : Drew w w := ⟨0, rfl⟩
theorem Drew.more {w w' : World} (h : Drew w w') (n : Nat) : Drew w (w'.drewN n) := by
  obtain ⟨m, rfl⟩ := h; exact ⟨m + n, World.drewN_drewN _ _ _⟩
theorem Drew.one {w w' : World} (h : Drew w w') : Drew w w'.drew := h.more 1
theorem Drew.trans {a b c : World} (h : Drew a b) (k : Drew b c) : Drew a c := by
  obtain ⟨n, rfl⟩ := k; exact h.more n
theorem Drew.below {w w' : World} (h : Drew w w') (B : Nat) : Below B w w' := by
  obtain ⟨m, rfl⟩ := h; exact below_drewN (Below.refl _ _) _
theorem Drew.same {w w' : World} (h : Drew w w') (ok : Nat → Prop) : Same ok w w' := by
  obtain ⟨m, rfl⟩ := h; exact fun _ _ _ _ _ h => h
/-- The call hands back a bool, and but for draws leaves the world as it was. -/
def Bq (b : Bool) (w : World) (e : Ending) (w' : World) : Prop := e = .returned (.bool b) ∧ Drew w w'
theorem Bq.fin {a b : Bool} {w w' : World} (h : a = b) (k : Drew w w') : Bq b w (.returned (.bool a)) w' := by rw [h]; exact ⟨rfl, k⟩
/-- .. and leaves all that was there as it was. -/
def Bb (b : Bool) (w : World) (e : Ending) (w' : World) : Prop := e = .returned (.bool b) ∧ Below w.heap.size w w'
theorem Bb.fin {a b : Bool} {w w' : World} (h : a = b) (k : Below w.heap.size w w') : Bb b w (.returned (.bool a)) w' := by rw [h]; exact ⟨rfl, k⟩
theorem Bq.bb {b : Bool} {w : World} (e : Ending) (w' : World) (h : Bq b w e w') : Bb b w e w' := ⟨h.1, h.2.below _⟩
theorem Bq.quiet {P : Program} {f : FuncId} {args : Array Value} {b : Bool} {w : World} {n : Nat} (h : Calls P f args (w.drewN n) (Bq b (w.drewN n))) :
    Calls P f args (w.drewN n) fun e w'' => e = .returned (.bool b) ∧ ∃ m, w'' = w.drewN m :=
  Calls.quiet_of (h.mono fun _ _ ⟨a, b⟩ => ⟨a, b⟩)
/-- A world that some calls have left: nothing that was there has turned. -/
structure Later (w : World) where
  val : World
  below : Below w.heap.size w val
theorem Later.cell {w : World} (p : Later w) {a : Addr} {v : Value} (h : w.cell? a = some v) : p.val.cell? a = some v := by
  rw [p.below.cell (World.block_lt_of_cell? w a h)]; exact h
theorem wp_region_later {P : Program} {id : Nat} {Q : Exit → Act → World → Prop} {a : Act} {w : World} {l : List Oper} (hm : P.follows .mixedOrders = true) (hB : Region.lexB .any l.toArray = true)
    (h : wpQuiet P l.toArray (fun w' => ∃ p : Later w, w' = p.val) (fun a' => ∀ w', (∃ p : Later w, w' = p.val) → Q .normal a' w') l a) : (Code.region id l.toArray true).wp P Q a w :=
  wp_region_quiet (C := fun w' => ∃ p : Later w, w' = p.val) hm hB ⟨⟨w.drew, (Below.refl _ w).drew⟩, rfl⟩ (by simpa using h)
theorem Bb.later {P : Program} {f : FuncId} {args : Array Value} {b : Bool} {w : World} {p : Later w} (h : Calls P f args p.val (Bb b p.val)) :
    Calls P f args p.val fun e w'' => e = .returned (.bool b) ∧ ∃ q : Later w, w'' = q.val :=
  h.mono fun _ w' ⟨a, b⟩ => ⟨a, ⟨w', bthen p.below b⟩, rfl⟩
/-- The call hands back an int, and leaves all that was there as it was. -/
def Ib (n : Int) (w : World) (e : Ending) (w' : World) : Prop := e = .returned (.int .i64 n) ∧ Below w.heap.size w w'
theorem Ib.fin {a b : Int} {w w' : World} (h : a = b) (k : Below w.heap.size w w') : Ib b w (.returned (.int .i64 a)) w' := by rw [h]; exact ⟨rfl, k⟩
theorem Ib.later {P : Program} {f : FuncId} {args : Array Value} {b : Int} {w : World} {p : Later w} (h : Calls P f args p.val (Ib b p.val)) :
    Calls P f args p.val fun e w'' => e = .returned (.int .i64 b) ∧ ∃ q : Later w, w'' = q.val :=
  h.mono fun _ w' ⟨a, b⟩ => ⟨a, ⟨w', bthen p.below b⟩, rfl⟩
def In (a : Int) : Prop := -9223372036854775808 ≤ a ∧ a ≤ 9223372036854775807

/-- How an element stands in its cells. -/
abbrev Enc (α : Type) := World → (Nat → Prop) → α → List Value → Prop
structure Good {α : Type} (R : Enc α) (size : Nat) : Prop where
  len : ∀ w ok x row, R w ok x row → row.length = size
  keep : ∀ w w' ok x row, Same ok w w' → R w ok x row → R w' ok x row
  weak : ∀ w (ok ok' : Nat → Prop) x row, (∀ b, b < w.heap.size → ok b → ok' b) → R w ok x row → R w ok' x row

/-- The slice value v reads as the list xs. -/
def RSl {α : Type} (R : Enc α) (size : Nat) (w : World) (ok : Nat → Prop) (v : Value) (xs : List α) : Prop :=
  ∃ ao cap, v = .slice ao xs.length cap ∧ xs.length ≤ cap ∧ cap ≤ maxLen ∧ (ao = none → cap = 0) ∧
    (0 < xs.length → ∃ b off, ao = some ⟨b, off, none⟩ ∧ ok b ∧
      ∀ i (h : i < xs.length), ∃ row, R w ok xs[i] row ∧ ∀ j u, row[j]? = some u → w.cell? ⟨b, off + i * size + j, none⟩ = some u)

theorem RSl.keep {α : Type} {R : Enc α} {size : Nat} (g : Good R size) {w w' : World} {ok : Nat → Prop} {v : Value} {xs : List α} (h : RSl R size w ok v xs) (hs : Same ok w w') : RSl R size w' ok v xs := by
  obtain ⟨ao, cap, hv, h1, h2, h3, h4⟩ := h
  refine ⟨ao, cap, hv, h1, h2, h3, fun hn => ?_⟩
  obtain ⟨b, off, ha, hb, hc⟩ := h4 hn
  refine ⟨b, off, ha, hb, fun i hi => ?_⟩
  obtain ⟨row, hr, hu⟩ := hc i hi
  exact ⟨row, g.keep _ _ _ _ _ hs hr, fun j u hj => hs.cell (a := ⟨b, _, none⟩) hb (hu j u hj)⟩
theorem RSl.weak {α : Type} {R : Enc α} {size : Nat} (g : Good R size) (hz : 0 < size) {w : World} {ok ok' : Nat → Prop} {v : Value} {xs : List α} (h : RSl R size w ok v xs) (hs : ∀ b, b < w.heap.size → ok b → ok' b) : RSl R size w ok' v xs := by
  obtain ⟨ao, cap, hv, h1, h2, h3, h4⟩ := h
  refine ⟨ao, cap, hv, h1, h2, h3, fun hn => ?_⟩
  obtain ⟨b, off, ha, hb, hc⟩ := h4 hn
  refine ⟨b, off, ha, ?_, fun i hi => ?_⟩
  · obtain ⟨row, hr, hu⟩ := hc 0 hn
    have hl := g.len _ _ _ _ hr
    have : row[0]? = some row[0] := List.getElem?_eq_getElem (by omega)
    exact hs b (World.block_lt_of_cell? w ⟨b, _, none⟩ (hu 0 _ this)) hb
  · obtain ⟨row, hr, hu⟩ := hc i hi
    exact ⟨row, g.weak _ _ _ _ _ hs hr, hu⟩
theorem RSl.below {α : Type} {R : Enc α} {size : Nat} (g : Good R size) {w w' : World} {ok : Nat → Prop} {v : Value} {xs : List α} (h : RSl R size w ok v xs) (hs : Below w.heap.size w w') : RSl R size w' ok v xs :=
  h.keep g (Same.of_below hs)
theorem RSl.nil {α : Type} (R : Enc α) (size : Nat) (w : World) (ok : Nat → Prop) : RSl R size w ok (.slice none 0 0) [] :=
  ⟨none, 0, rfl, Nat.le_refl _, by simp [maxLen], fun _ => rfl, fun h => absurd h (by simp)⟩

/-- Integers. -/
def IntE : Enc Int := fun _ _ z row => row = [.int .i64 z] ∧ In z
theorem intGood : Good IntE 1 := ⟨fun _ _ _ _ h => by rw [h.1]; rfl, fun _ _ _ _ _ _ h => h, fun _ _ _ _ _ _ h => h⟩
abbrev ISl := RSl IntE 1

/-- A slice of integers, opened: its cells. -/
theorem ISl.open {w : World} {ok : Nat → Prop} {v : Value} {xs : List Int} (h : ISl w ok v xs) :
    ∃ ao cap, v = .slice ao xs.length cap ∧ xs.length ≤ cap ∧ cap ≤ maxLen ∧ (ao = none → cap = 0) ∧
      (0 < xs.length → ∃ b off, ao = some ⟨b, off, none⟩ ∧ ok b ∧ ∀ i, i < xs.length → w.cell? ⟨b, off + i, none⟩ = some (.int .i64 (xs[i]?.getD 0))) ∧ ∀ x ∈ xs, In x := by
  obtain ⟨ao, cap, hv, h1, h2, h3, h4⟩ := h
  refine ⟨ao, cap, hv, h1, h2, h3, fun hn => ?_, fun x hx => ?_⟩
  · obtain ⟨b, off, ha, hb, hc⟩ := h4 hn
    refine ⟨b, off, ha, hb, fun i hi => ?_⟩
    obtain ⟨row, ⟨hr, _⟩, hu⟩ := hc i hi
    have := hu 0 _ (by rw [hr]; rfl)
    simpa [hi] using this
  · obtain ⟨i, hi, rfl⟩ := List.getElem_of_mem hx
    obtain ⟨b, off, ha, hb, hc⟩ := h4 (by omega)
    obtain ⟨row, ⟨_, h⟩, _⟩ := hc i hi
    exact h
end Go.Proofs.Ytajhchfjoeblgaa
