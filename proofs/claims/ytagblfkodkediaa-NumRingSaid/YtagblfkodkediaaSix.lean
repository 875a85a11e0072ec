/- num's statements NumRing, NumQuotients, NumSmall: each one's own walk: it returns true, and old memory is as it was. -/
import Derived.Test.YtagblfkodkediaaFive
namespace Go.Proofs.Ytagblfkodkediaa
open Go.RowKit
theorem res_or (x : Int) : (res1 x = x ∧ res2 x = 0) ∨ res2 x = 11 := by
  by_cases h : fit x
  · exact .inl (res_yes x h)
  · exact .inr (res_not x h).2
theorem fit_of (x : Int) (h : res2 x = 0) : fit x := by
  by_cases k : fit x
  · exact k
  · have := (res_not x k).2; omega
set_option maxRecDepth 100000 in
set_option maxHeartbeats 2000000 in
theorem ring (a b c : Int) (w : World) (ha : In a) (hb : In b) (hc : In c) : Calls Try.prog 6 #[.int .i64 a, .int .i64 b, .int .i64 c] w (Y w) := by
  have key : ∃ ab e bc f x g y h p i q j v k u l m n ac o r s : Int, (In ab ∧ In bc ∧ In p ∧ In q ∧ In ac) ∧
      (do1 [43] a b = ab ∧ do2 [43] a b = e) ∧ (do1 [43] b c = bc ∧ do2 [43] b c = f) ∧ (do1 [43] ab c = x ∧ do2 [43] ab c = g) ∧ (do1 [43] a bc = y ∧ do2 [43] a bc = h) ∧
      (do1 [42] a b = p ∧ do2 [42] a b = i) ∧ (do1 [42] b c = q ∧ do2 [42] b c = j) ∧ (do1 [42] p c = v ∧ do2 [42] p c = k) ∧ (do1 [42] a q = u ∧ do2 [42] a q = l) ∧
      (do1 [42] ab c = m ∧ do2 [42] ab c = n) ∧ (do1 [42] a c = ac ∧ do2 [42] a c = o) ∧ (do1 [43] ac q = r ∧ do2 [43] ac q = s) ∧
      (e = 0 → f = 0 → g = 0 → h = 0 → x = y) ∧ (i = 0 → j = 0 → k = 0 → l = 0 → v = u) ∧ (e = 0 → n = 0 → o = 0 → j = 0 → s = 0 ∧ r = m) := by
    refine ⟨_, _, _, _, _, _, _, _, _, _, _, _, _, _, _, _, _, _, _, _, _, _, ⟨res_in _, res_in _, res_in _, res_in _, res_in _⟩, d_add a b, d_add b c, d_add _ _, d_add _ _, d_mul _ _, d_mul _ _, d_mul _ _, d_mul _ _, d_mul _ _, d_mul _ _, d_add _ _, ?_, ?_, ?_⟩
    · intro e f g h
      have e1 := (res_yes _ (fit_of _ e)).1; have f1 := (res_yes _ (fit_of _ f)).1
      rw [e1] at g ⊢; rw [f1] at h ⊢
      rw [Int.add_assoc]
    · intro e f g h
      have e1 := (res_yes _ (fit_of _ e)).1; have f1 := (res_yes _ (fit_of _ f)).1
      rw [e1] at g ⊢; rw [f1] at h ⊢
      rw [Int.mul_assoc]
    · intro e n o j
      have e1 := (res_yes _ (fit_of _ e)).1; have o1 := (res_yes _ (fit_of _ o)).1; have j1 := (res_yes _ (fit_of _ j)).1
      rw [e1] at n ⊢; rw [o1, j1, ← Int.add_mul]
      exact ⟨n, rfl⟩
  obtain ⟨ab, e, bc, f, x, g, y, h, p, i, q, j, v, k, u, l, m, n, ac, o, r, s, ⟨iab, ibc, ip, iq, iac⟩, h1, h2, h3, h4, h5, h6, h7, h8, h9, h10, h11, S1, S2, S3⟩ := key
  have C1 := doB _ _ _ _ _ ha hb h1 w
  have C2 := doB _ _ _ _ _ hb hc h2 w
  have C3 := doB _ _ _ _ _ iab hc h3 w
  have C4 := doB _ _ _ _ _ ha ibc h4 w
  have C5 := doB _ _ _ _ _ ha hb h5 w
  have C6 := doB _ _ _ _ _ hb hc h6 w
  have C7 := doB _ _ _ _ _ ip hc h7 w
  have C8 := doB _ _ _ _ _ ha iq h8 w
  have C9 := doB _ _ _ _ _ iab hc h9 w
  have C10 := doB _ _ _ _ _ ha hc h10 w
  have C11 := doB _ _ _ _ _ iac iq h11 w
  have HS1 := hid S1
  have HS2 := hid S2
  have HS3 := hid S3
  clear h1 h2 h3 h4 h5 h6 h7 h8 h9 h10 h11 S1 S2 S3 ha hb hc iab ibc ip iq iac
  go_enter Try.func6, Try.ntmps6
  go_wp2_with fail
  refine (awakeB w _ (Below.refl _ _)).mono ?_; rintro e0 w1 ⟨rfl, hb1⟩
  go_wp2_with fail
  refine (C1 _ hb1).mono ?_; rintro e0 w2 ⟨rfl, hb2⟩
  go_wp2_with fail
  refine (C2 _ hb2).mono ?_; rintro e0 w3 ⟨rfl, hb3⟩
  go_wp2_with fail
  refine (C3 _ hb3).mono ?_; rintro e0 w4 ⟨rfl, hb4⟩
  go_wp2_with fail
  refine (C4 _ hb4).mono ?_; rintro e0 w5 ⟨rfl, hb5⟩
  go_upto_region 6 with (fail)
  go_cut [9, 11, 13, 15, 16] (fun s9 s11 s13 s15 sx w' => s9 = .int .i64 e ∧ s11 = .int .i64 f ∧ s13 = .int .i64 g ∧ s15 = .int .i64 h ∧ sx = .bool true ∧ w' = w5)
  case first =>
    go_wp2
    all_goals go_meet
    all_goals (case rel => refine ⟨?_, ?_, ?_, ?_, ?_, rfl⟩; (iterate 4 (first | rfl | (simp only [*]; done) | (congr 1; omega))); first | rfl | (have hh := HS1.out (by assumption) (by assumption) (by assumption) (by assumption); simp [hh]))
  case rest =>
    obtain ⟨rfl, rfl, rfl, rfl, rfl, rfl⟩ := hcut
    clear HS1 C1 C2 C3 C4 hb1 hb2 hb3 hb4
    go_wp2_with fail
    refine (C5 _ hb5).mono ?_; rintro e0 w6 ⟨rfl, hb6⟩
    go_wp2_with fail
    refine (C6 _ hb6).mono ?_; rintro e0 w7 ⟨rfl, hb7⟩
    go_wp2_with fail
    refine (C7 _ hb7).mono ?_; rintro e0 w8 ⟨rfl, hb8⟩
    go_wp2_with fail
    refine (C8 _ hb8).mono ?_; rintro e0 w9 ⟨rfl, hb9⟩
    go_upto_region 11 with (fail)
    go_cut [18, 20, 22, 24, 25] (fun s18 s20 s22 s24 sx w' => s18 = .int .i64 i ∧ s20 = .int .i64 j ∧ s22 = .int .i64 k ∧ s24 = .int .i64 l ∧ sx = .bool true ∧ w' = w9)
    case first =>
      go_wp2
      all_goals go_meet
      all_goals (case rel => refine ⟨?_, ?_, ?_, ?_, ?_, rfl⟩; (iterate 4 (first | rfl | (simp only [*]; done) | (congr 1; omega))); first | rfl | (have hh := HS2.out (by assumption) (by assumption) (by assumption) (by assumption); simp [hh]))
    case rest =>
      obtain ⟨rfl, rfl, rfl, rfl, rfl, rfl⟩ := hcut
      clear HS2 C5 C6 C7 C8 hb5 hb6 hb7 hb8
      go_wp2_with fail
      refine (C9 _ hb9).mono ?_; rintro e0 w10 ⟨rfl, hb10⟩
      go_wp2_with fail
      refine (C10 _ hb10).mono ?_; rintro e0 w11 ⟨rfl, hb11⟩
      go_wp2_with fail
      refine (C11 _ hb11).mono ?_; rintro e0 w12 ⟨rfl, hb12⟩
      go_upto_region 15 with (fail)
      go_cut [9, 27, 29, 20, 31, 32] (fun s9 s27 s29 s20 s31 sx w' => s9 = .int .i64 e ∧ s27 = .int .i64 n ∧ s29 = .int .i64 o ∧ s20 = .int .i64 j ∧ s31 = .int .i64 s ∧ sx = .bool true ∧ w' = w12)
      case first =>
        go_wp2
        all_goals go_meet
        all_goals (case rel => refine ⟨?_, ?_, ?_, ?_, ?_, ?_, rfl⟩; (iterate 5 (first | rfl | (simp only [*]; done) | (congr 1; omega))); first | rfl | (have hh := HS3.out (by assumption) (by assumption) (by assumption) (by assumption); first | (exact absurd hh.1 (by assumption)) | (simp [hh.2]; done)))
      case rest =>
        obtain ⟨rfl, rfl, rfl, rfl, rfl, rfl, rfl⟩ := hcut
        go_wp2
        go_ret
        exact ⟨rfl, hb12⟩
end Go.Proofs.Ytagblfkodkediaa
