/- num.Is and its reference: which texts are operations, which are comparisons. -/
import Derived.Test.YtagblfkodkediaaThree
namespace Go.Proofs.Ytagblfkodkediaa
open Go.RowKit
theorem is_cases (l : List UInt8) (p : List UInt8 → Prop) (h1 : p [43]) (h2 : p [45]) (h3 : p [42]) (h4 : p [47]) (h5 : p [61, 61]) (h6 : p [60])
    (h7 : (l == [43]) = false → (l == [45]) = false → (l == [42]) = false → (l == [47]) = false → (l == [61, 61]) = false → (l == [60]) = false → p l) : p l := by
  by_cases e1 : l = [43]
  · exact e1 ▸ h1
  by_cases e2 : l = [45]
  · exact e2 ▸ h2
  by_cases e3 : l = [42]
  · exact e3 ▸ h3
  by_cases e4 : l = [47]
  · exact e4 ▸ h4
  by_cases e5 : l = [61, 61]
  · exact e5 ▸ h5
  by_cases e6 : l = [60]
  · exact e6 ▸ h6
  exact h7 (by simpa using e1) (by simpa using e2) (by simpa using e3) (by simpa using e4) (by simpa using e5) (by simpa using e6)
set_option maxHeartbeats 1000000 in
theorem is_any (op : ByteArray) (w : World) : Calls Try.prog 13 #[.string op] w (IPost (is1 op.toList) (is2 op.toList) w) := by
  refine is_cases op.toList (fun l => op.toList = l → Calls Try.prog 13 #[.string op] w (IPost (is1 l) (is2 l) w)) ?_ ?_ ?_ ?_ ?_ ?_ ?_ rfl
  · intro e
    have h0 : (op.toList == [43]) = true := by rw [e]; rfl
    have h1 : (op.toList == [45]) = false := by rw [e]; rfl
    have h2 : (op.toList == [42]) = false := by rw [e]; rfl
    have h3 : (op.toList == [47]) = false := by rw [e]; rfl
    have h4 : (op.toList == [61, 61]) = false := by rw [e]; rfl
    have h5 : (op.toList == [60]) = false := by rw [e]; rfl
    have HF : Hid (true = is1 [43] ∧ false = is2 [43]) := ⟨rfl, rfl⟩
    clear e
    go_enter Try.func13, Try.ntmps13
    go_wp2
    go_ret2
    exact ifin HF.out
  · intro e
    have h0 : (op.toList == [43]) = false := by rw [e]; rfl
    have h1 : (op.toList == [45]) = true := by rw [e]; rfl
    have h2 : (op.toList == [42]) = false := by rw [e]; rfl
    have h3 : (op.toList == [47]) = false := by rw [e]; rfl
    have h4 : (op.toList == [61, 61]) = false := by rw [e]; rfl
    have h5 : (op.toList == [60]) = false := by rw [e]; rfl
    have HF : Hid (true = is1 [45] ∧ false = is2 [45]) := ⟨rfl, rfl⟩
    clear e
    go_enter Try.func13, Try.ntmps13
    go_wp2
    go_ret2
    exact ifin HF.out
  · intro e
    have h0 : (op.toList == [43]) = false := by rw [e]; rfl
    have h1 : (op.toList == [45]) = false := by rw [e]; rfl
    have h2 : (op.toList == [42]) = true := by rw [e]; rfl
    have h3 : (op.toList == [47]) = false := by rw [e]; rfl
    have h4 : (op.toList == [61, 61]) = false := by rw [e]; rfl
    have h5 : (op.toList == [60]) = false := by rw [e]; rfl
    have HF : Hid (true = is1 [42] ∧ false = is2 [42]) := ⟨rfl, rfl⟩
    clear e
    go_enter Try.func13, Try.ntmps13
    go_wp2
    go_ret2
    exact ifin HF.out
  · intro e
    have h0 : (op.toList == [43]) = false := by rw [e]; rfl
    have h1 : (op.toList == [45]) = false := by rw [e]; rfl
    have h2 : (op.toList == [42]) = false := by rw [e]; rfl
    have h3 : (op.toList == [47]) = true := by rw [e]; rfl
    have h4 : (op.toList == [61, 61]) = false := by rw [e]; rfl
    have h5 : (op.toList == [60]) = false := by rw [e]; rfl
    have HF : Hid (true = is1 [47] ∧ false = is2 [47]) := ⟨rfl, rfl⟩
    clear e
    go_enter Try.func13, Try.ntmps13
    go_wp2
    go_ret2
    exact ifin HF.out
  · intro e
    have h0 : (op.toList == [43]) = false := by rw [e]; rfl
    have h1 : (op.toList == [45]) = false := by rw [e]; rfl
    have h2 : (op.toList == [42]) = false := by rw [e]; rfl
    have h3 : (op.toList == [47]) = false := by rw [e]; rfl
    have h4 : (op.toList == [61, 61]) = true := by rw [e]; rfl
    have h5 : (op.toList == [60]) = false := by rw [e]; rfl
    have HF : Hid (false = is1 [61, 61] ∧ true = is2 [61, 61]) := ⟨rfl, rfl⟩
    clear e
    go_enter Try.func13, Try.ntmps13
    go_wp2
    go_ret2
    exact ifin HF.out
  · intro e
    have h0 : (op.toList == [43]) = false := by rw [e]; rfl
    have h1 : (op.toList == [45]) = false := by rw [e]; rfl
    have h2 : (op.toList == [42]) = false := by rw [e]; rfl
    have h3 : (op.toList == [47]) = false := by rw [e]; rfl
    have h4 : (op.toList == [61, 61]) = false := by rw [e]; rfl
    have h5 : (op.toList == [60]) = true := by rw [e]; rfl
    have HF : Hid (false = is1 [60] ∧ true = is2 [60]) := ⟨rfl, rfl⟩
    clear e
    go_enter Try.func13, Try.ntmps13
    go_wp2
    go_ret2
    exact ifin HF.out
  · intro h0 h1 h2 h3 h4 h5 _
    have HF : Hid (false = is1 op.toList ∧ false = is2 op.toList) := ⟨by rw [is1, h0, h1, h2, h3]; rfl, by rw [is2, h4, h5]; rfl⟩
    go_enter Try.func13, Try.ntmps13
    go_wp2
    go_ret2
    exact ifin HF.out
set_option maxHeartbeats 1000000 in
theorem ris_any (op : ByteArray) (w : World) : Calls Try.prog 14 #[.string op] w (IPost (is1 op.toList) (is2 op.toList) w) := by
  refine is_cases op.toList (fun l => op.toList = l → Calls Try.prog 14 #[.string op] w (IPost (is1 l) (is2 l) w)) ?_ ?_ ?_ ?_ ?_ ?_ ?_ rfl
  · intro e
    have h0 : (op.toList == [43]) = true := by rw [e]; rfl
    have h1 : (op.toList == [45]) = false := by rw [e]; rfl
    have h2 : (op.toList == [42]) = false := by rw [e]; rfl
    have h3 : (op.toList == [47]) = false := by rw [e]; rfl
    have h4 : (op.toList == [61, 61]) = false := by rw [e]; rfl
    have h5 : (op.toList == [60]) = false := by rw [e]; rfl
    have HF : Hid (true = is1 [43] ∧ false = is2 [43]) := ⟨rfl, rfl⟩
    clear e
    go_enter Try.func14, Try.ntmps14
    go_wp2
    go_ret2
    exact ifin HF.out
  · intro e
    have h0 : (op.toList == [43]) = false := by rw [e]; rfl
    have h1 : (op.toList == [45]) = true := by rw [e]; rfl
    have h2 : (op.toList == [42]) = false := by rw [e]; rfl
    have h3 : (op.toList == [47]) = false := by rw [e]; rfl
    have h4 : (op.toList == [61, 61]) = false := by rw [e]; rfl
    have h5 : (op.toList == [60]) = false := by rw [e]; rfl
    have HF : Hid (true = is1 [45] ∧ false = is2 [45]) := ⟨rfl, rfl⟩
    clear e
    go_enter Try.func14, Try.ntmps14
    go_wp2
    go_ret2
    exact ifin HF.out
  · intro e
    have h0 : (op.toList == [43]) = false := by rw [e]; rfl
    have h1 : (op.toList == [45]) = false := by rw [e]; rfl
    have h2 : (op.toList == [42]) = true := by rw [e]; rfl
    have h3 : (op.toList == [47]) = false := by rw [e]; rfl
    have h4 : (op.toList == [61, 61]) = false := by rw [e]; rfl
    have h5 : (op.toList == [60]) = false := by rw [e]; rfl
    have HF : Hid (true = is1 [42] ∧ false = is2 [42]) := ⟨rfl, rfl⟩
    clear e
    go_enter Try.func14, Try.ntmps14
    go_wp2
    go_ret2
    exact ifin HF.out
  · intro e
    have h0 : (op.toList == [43]) = false := by rw [e]; rfl
    have h1 : (op.toList == [45]) = false := by rw [e]; rfl
    have h2 : (op.toList == [42]) = false := by rw [e]; rfl
    have h3 : (op.toList == [47]) = true := by rw [e]; rfl
    have h4 : (op.toList == [61, 61]) = false := by rw [e]; rfl
    have h5 : (op.toList == [60]) = false := by rw [e]; rfl
    have HF : Hid (true = is1 [47] ∧ false = is2 [47]) := ⟨rfl, rfl⟩
    clear e
    go_enter Try.func14, Try.ntmps14
    go_wp2
    go_ret2
    exact ifin HF.out
  · intro e
    have h0 : (op.toList == [43]) = false := by rw [e]; rfl
    have h1 : (op.toList == [45]) = false := by rw [e]; rfl
    have h2 : (op.toList == [42]) = false := by rw [e]; rfl
    have h3 : (op.toList == [47]) = false := by rw [e]; rfl
    have h4 : (op.toList == [61, 61]) = true := by rw [e]; rfl
    have h5 : (op.toList == [60]) = false := by rw [e]; rfl
    have HF : Hid (false = is1 [61, 61] ∧ true = is2 [61, 61]) := ⟨rfl, rfl⟩
    clear e
    go_enter Try.func14, Try.ntmps14
    go_wp2
    go_ret2
    exact ifin HF.out
  · intro e
    have h0 : (op.toList == [43]) = false := by rw [e]; rfl
    have h1 : (op.toList == [45]) = false := by rw [e]; rfl
    have h2 : (op.toList == [42]) = false := by rw [e]; rfl
    have h3 : (op.toList == [47]) = false := by rw [e]; rfl
    have h4 : (op.toList == [61, 61]) = false := by rw [e]; rfl
    have h5 : (op.toList == [60]) = true := by rw [e]; rfl
    have HF : Hid (false = is1 [60] ∧ true = is2 [60]) := ⟨rfl, rfl⟩
    clear e
    go_enter Try.func14, Try.ntmps14
    go_wp2
    go_ret2
    exact ifin HF.out
  · intro h0 h1 h2 h3 h4 h5 _
    have HF : Hid (false = is1 op.toList ∧ false = is2 op.toList) := ⟨by rw [is1, h0, h1, h2, h3]; rfl, by rw [is2, h4, h5]; rfl⟩
    go_enter Try.func14, Try.ntmps14
    go_wp2
    go_ret2
    exact ifin HF.out
end Go.Proofs.Ytagblfkodkediaa
