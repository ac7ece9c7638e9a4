/- RingPuts at a ring that is right, the sub-window of ring place 2: returns true. -/
import Derived.Test.YtaoelppkognakaaPutsIs
namespace Go.Proofs.Ytaoelppkognakaa.RingU
open Go.RowKit Go.Proofs.Ytaoelppkognakaa.Num Go.Proofs.Ytaoelppkognakaa.Slot Go.Proofs.Ytaoelppkognakaa.Ring Go.Proofs.Ytaoelppkognakaa.RefRing Go.Proofs.Ytaoelppkognakaa.Wd
set_option linter.unusedVariables false
set_option linter.unusedSimpArgs false
set_option maxRecDepth 100000
attribute [local go_sem] size_put cell_put_same cell_put_other frozen_put_same frozen_put_other setCell_put_same setCell_put_other setCell_drewN alloc_drewN put_drewN put_drew

set_option maxHeartbeats 16000000 in
theorem ringPuts_2 (l c0 c1 c2 c3 m b A k0 k1 k2 k3 : Int) (l0 : 0 ≤ l) (l1 : l ≤ 4294967286) (b0 : 0 ≤ c0) (d0 : c0 ≤ 3) (b1 : 0 ≤ c1) (d1 : c1 ≤ 3) (b2 : 0 ≤ c2) (d2 : c2 ≤ 3) (b3 : 0 ≤ c3) (d3 : c3 ≤ 3) (m0 : 0 ≤ m) (m1 : m < 256) (b_0 : 0 ≤ b) (b_1 : b < 256) 
    (hR : Hid (rightB l c0 c1 c2 c3 = true)) (hq : (l + (b % 8 + 1)) % 4 = 2) (e0 : Hid (keep l (l + (b % 8 + 1)) 0 c0 = k0)) (e1 : Hid (keep l (l + (b % 8 + 1)) 1 c1 = k1)) (e2 : Hid (keep l (l + (b % 8 + 1)) 2 c2 = k2)) (e3 : Hid (keep l (l + (b % 8 + 1)) 3 c3 = k3)) (hA : Hid (Ring.ahead l c0 c1 c2 c3 (l + (b % 8 + 1)) = A)) (f0 : 0 ≤ k0) (g0 : k0 ≤ 3) (f1 : 0 ≤ k1) (g1 : k1 ≤ 3) (f2 : 0 ≤ k2) (g2 : k2 ≤ 3) (f3 : 0 ≤ k3) (g3 : k3 ≤ 3) (hs : k0 + k1 + k3 ≤ A) (A1 : A ≤ 12) (w : World) :
    Calls Try.prog 9 #[.agg #[.int .u32 l, .int .u32 c0, .int .u32 c1, .int .u32 c2, .int .u32 c3], .int .u8 m, .int .u8 b] w fun e w' => e = .returned (.bool true) ∧ Below w.heap.size w w' := by
  have hz := eql_self 0 0 0 0 0
  go_enter Try.func9, Try.ntmps9
  go_wp2_with fail
  refine (awake_c _).mono ?_
  rintro e x ⟨rfl, hb⟩
  obtain ⟨v1, rfl, u1, h1⟩ := first1 hb
  clear hb
  simp only []
  go_wp2_with fail
  refine (refRight_is l c0 c1 c2 c3 l0 (by omega) b0 (by omega) b1 (by omega) b2 (by omega) b3 (by omega) hR _).mono ?_
  rintro e x ⟨rfl, hb⟩
  obtain ⟨v2, rfl, u2, h2⟩ := step1 hb h1 (Nat.le_refl _) u1
  clear hb h1 u1
  simp only []
  go_wp2_with fail
  refine (before_is l c0 c1 c2 c3 (b % 8 + 1) A l0 b0 d0 b1 d1 b2 d2 b3 d3 (by omega) (by omega) hA _).mono ?_
  rintro e x ⟨rfl, hb⟩
  obtain ⟨v3, rfl, u3, h3⟩ := step1 hb h2 (Nat.le_refl _) u2
  clear hb h2 u2
  obtain ⟨p, ep⟩ : ∃ p, v3.heap.size = p := ⟨_, rfl⟩
  rw [ep] at u3
  have np : ¬ w.heap.size = p := by omega
  have pn : ¬ p = w.heap.size := by omega
  have zp : w.heap.size ≤ p := by omega
  simp only []
  go_wp2_with fail
  go_loopw [43] (fun i wr => ∃ (j : Nat) (v : World) (L x0 x1 x2 x3 : Int), (j : Int) ≤ 3 ∧ i = .int .u32 j ∧ wr = put (put v w.heap.size #[.int .u32 L, .int .u32 x0, .int .u32 x1, .int .u32 x2, .int .u32 x3] 35) p #[.int .u32 l, .int .u32 c0, .int .u32 c1, .int .u32 c2, .int .u32 c3] 35
      ∧ w.heap.size < v.heap.size ∧ p < v.heap.size ∧ Below w.heap.size w v ∧ Hid ((j = 0 → l = L ∧ c0 = x0 ∧ c1 = x1 ∧ c2 = x2 ∧ c3 = x3) ∧ (1 ≤ j → l + (b % 8 + 1) = L ∧ k0 = x0 ∧ k1 = x1 ∧ (j : Int) = x2 ∧ k3 = x3))) (fun i _ => (8 - intOf i).toNat)
  case atStart =>
    obtain ⟨v, e, ha, hb, hv⟩ := new1 (Below.refl _ ((put v3 w.heap.size #[.int .u32 l, .int .u32 c0, .int .u32 c1, .int .u32 c2, .int .u32 c3] 35).alloc (.cells #[.int .u32 l, .int .u32 c0, .int .u32 c1, .int .u32 c2, .int .u32 c3] 35))) h3 ep (Nat.le_refl _) u3
    exact ⟨0, v, l, c0, c1, c2, c3, by omega, rfl, e, ha, hb, hv, ⟨fun _ => ⟨rfl, rfl, rfl, rfl, rfl⟩, fun h => absurd h (by decide)⟩⟩
  case round =>
    obtain ⟨j, v, L, x0, x1, x2, x3, hj, rfl, rfl, ha, hb, hv, hh⟩ := hrel
    clear h3 ep u3
    by_cases hjn : (j : Int) < m % 8
    · have hjj : j = 0 ∨ j = 1 ∨ j = 2 ∨ j = 3 := by omega
      rcases hjj with rfl | rfl | rfl | rfl
      · obtain ⟨rfl, rfl, rfl, rfl, rfl⟩ := hh.out.1 rfl
        clear hh
        go_wp2_with fail
        refine (put_first2 l c0 c1 c2 c3 (b % 8) k0 k1 k2 k3 l0 (by omega) (by omega) b0 d0 b1 d1 b2 d2 b3 d3 hq e0 e1 e2 e3 _).mono ?_
        rintro e x ⟨rfl, hx⟩
        obtain ⟨v4, rfl, u4, k4, h4⟩ := step2 hx hv (Nat.le_refl _) zp ha hb np
        clear hx
        obtain ⟨r, er⟩ : ∃ r, v4.heap.size = r := ⟨_, rfl⟩
        rw [er] at u4 k4
        have nr : ¬ w.heap.size = r := by omega
        have rn : ¬ r = w.heap.size := by omega
        have pr : ¬ p = r := by omega
        have rp : ¬ r = p := by omega
        have zr : w.heap.size ≤ r := by omega
        simp only []
        go_wp2_with fail
        refine (sum_c (l + (b % 8 + 1)) k0 k1 1 k3 (by omega) (by omega) (by omega) (by omega) (by omega) (by omega) (by omega) (by omega) (by omega) _).mono ?_
        rintro e x ⟨rfl, hx⟩
        obtain ⟨v5, rfl, u5, k5, m5, h5⟩ := new2 hx h4 er (Nat.le_refl _) zp u4 k4 np
        clear hx er
        simp only []
        go_wp2_with fail
        refine (right_is (l + (b % 8 + 1)) k0 k1 1 k3 (by omega) (by omega) (by omega) (by omega) (by omega) (by omega) (by omega) (by omega) (by omega) (by omega) (show rightB (l + (b % 8 + 1)) k0 k1 1 k3 = true from by unfold rightB pick; rw [decide_eq_true_iff]; omega) _).mono ?_
        rintro e x ⟨rfl, hx⟩
        obtain ⟨v6, rfl, u6, k6, m6, h6⟩ := step3 hx h5 (Nat.le_refl _) zp zr u5 k5 m5 np nr pr
        clear hx
        simp only []
        go_wp2_with fail
        obtain ⟨v7, e7, u7, k7, h7⟩ := drop3 (AA := #[.int .u32 (l + (b % 8 + 1)), .int .u32 k0, .int .u32 k1, .int .u32 1, .int .u32 k3]) (ta := 35) (BB := #[.int .u32 l, .int .u32 c0, .int .u32 c1, .int .u32 c2, .int .u32 c3]) (tb := 35) (CC := #[.int .u32 (l + (b % 8 + 1)), .int .u32 k0, .int .u32 k1, .int .u32 1, .int .u32 k3]) (tc := 35) h6 (Nat.le_refl _) zp zr u6 k6 np nr pr
        go_roundw
        case rel => exact ⟨1, v7, l + (b % 8 + 1), k0, k1, 1, k3, by omega, by go_num, e7, u7, k7, h7, ⟨fun h => absurd h (by decide), fun _ => ⟨rfl, rfl, rfl, rfl, rfl⟩⟩⟩
        case measure => simp [intOf]
      · obtain ⟨q0, q1, q2, q3, q4⟩ : l + (b % 8 + 1) = L ∧ k0 = x0 ∧ k1 = x1 ∧ (1 : Int) = x2 ∧ k3 = x3 := hh.out.2 (by decide)
        clear hh
        subst q0 q1 q2 q3 q4
        go_wp2_with fail
        refine (put_more2 l (b % 8) 1 k0 k1 k3 l0 (by omega) (by omega) hq (by decide) (by decide) _).mono ?_
        rintro e x ⟨rfl, hx⟩
        obtain ⟨v4, rfl, u4, k4, h4⟩ := step2 hx hv (Nat.le_refl _) zp ha hb np
        clear hx
        obtain ⟨r, er⟩ : ∃ r, v4.heap.size = r := ⟨_, rfl⟩
        rw [er] at u4 k4
        have nr : ¬ w.heap.size = r := by omega
        have rn : ¬ r = w.heap.size := by omega
        have pr : ¬ p = r := by omega
        have rp : ¬ r = p := by omega
        have zr : w.heap.size ≤ r := by omega
        simp only []
        go_wp2_with fail
        refine (sum_c (l + (b % 8 + 1)) k0 k1 2 k3 (by omega) (by omega) (by omega) (by omega) (by omega) (by omega) (by omega) (by omega) (by omega) _).mono ?_
        rintro e x ⟨rfl, hx⟩
        obtain ⟨v5, rfl, u5, k5, m5, h5⟩ := new2 hx h4 er (Nat.le_refl _) zp u4 k4 np
        clear hx er
        simp only []
        go_wp2_with fail
        refine (right_is (l + (b % 8 + 1)) k0 k1 2 k3 (by omega) (by omega) (by omega) (by omega) (by omega) (by omega) (by omega) (by omega) (by omega) (by omega) (show rightB (l + (b % 8 + 1)) k0 k1 2 k3 = true from by unfold rightB pick; rw [decide_eq_true_iff]; omega) _).mono ?_
        rintro e x ⟨rfl, hx⟩
        obtain ⟨v6, rfl, u6, k6, m6, h6⟩ := step3 hx h5 (Nat.le_refl _) zp zr u5 k5 m5 np nr pr
        clear hx
        simp only []
        go_wp2_with fail
        obtain ⟨v7, e7, u7, k7, h7⟩ := drop3 (AA := #[.int .u32 (l + (b % 8 + 1)), .int .u32 k0, .int .u32 k1, .int .u32 2, .int .u32 k3]) (ta := 35) (BB := #[.int .u32 l, .int .u32 c0, .int .u32 c1, .int .u32 c2, .int .u32 c3]) (tb := 35) (CC := #[.int .u32 (l + (b % 8 + 1)), .int .u32 k0, .int .u32 k1, .int .u32 2, .int .u32 k3]) (tc := 35) h6 (Nat.le_refl _) zp zr u6 k6 np nr pr
        go_roundw
        case rel => exact ⟨2, v7, l + (b % 8 + 1), k0, k1, 2, k3, by omega, by go_num, e7, u7, k7, h7, ⟨fun h => absurd h (by decide), fun _ => ⟨rfl, rfl, rfl, rfl, rfl⟩⟩⟩
        case measure => simp [intOf]
      · obtain ⟨q0, q1, q2, q3, q4⟩ : l + (b % 8 + 1) = L ∧ k0 = x0 ∧ k1 = x1 ∧ (2 : Int) = x2 ∧ k3 = x3 := hh.out.2 (by decide)
        clear hh
        subst q0 q1 q2 q3 q4
        go_wp2_with fail
        refine (put_more2 l (b % 8) 2 k0 k1 k3 l0 (by omega) (by omega) hq (by decide) (by decide) _).mono ?_
        rintro e x ⟨rfl, hx⟩
        obtain ⟨v4, rfl, u4, k4, h4⟩ := step2 hx hv (Nat.le_refl _) zp ha hb np
        clear hx
        obtain ⟨r, er⟩ : ∃ r, v4.heap.size = r := ⟨_, rfl⟩
        rw [er] at u4 k4
        have nr : ¬ w.heap.size = r := by omega
        have rn : ¬ r = w.heap.size := by omega
        have pr : ¬ p = r := by omega
        have rp : ¬ r = p := by omega
        have zr : w.heap.size ≤ r := by omega
        simp only []
        go_wp2_with fail
        refine (sum_c (l + (b % 8 + 1)) k0 k1 3 k3 (by omega) (by omega) (by omega) (by omega) (by omega) (by omega) (by omega) (by omega) (by omega) _).mono ?_
        rintro e x ⟨rfl, hx⟩
        obtain ⟨v5, rfl, u5, k5, m5, h5⟩ := new2 hx h4 er (Nat.le_refl _) zp u4 k4 np
        clear hx er
        simp only []
        go_wp2_with fail
        refine (right_is (l + (b % 8 + 1)) k0 k1 3 k3 (by omega) (by omega) (by omega) (by omega) (by omega) (by omega) (by omega) (by omega) (by omega) (by omega) (show rightB (l + (b % 8 + 1)) k0 k1 3 k3 = true from by unfold rightB pick; rw [decide_eq_true_iff]; omega) _).mono ?_
        rintro e x ⟨rfl, hx⟩
        obtain ⟨v6, rfl, u6, k6, m6, h6⟩ := step3 hx h5 (Nat.le_refl _) zp zr u5 k5 m5 np nr pr
        clear hx
        simp only []
        go_wp2_with fail
        obtain ⟨v7, e7, u7, k7, h7⟩ := drop3 (AA := #[.int .u32 (l + (b % 8 + 1)), .int .u32 k0, .int .u32 k1, .int .u32 3, .int .u32 k3]) (ta := 35) (BB := #[.int .u32 l, .int .u32 c0, .int .u32 c1, .int .u32 c2, .int .u32 c3]) (tb := 35) (CC := #[.int .u32 (l + (b % 8 + 1)), .int .u32 k0, .int .u32 k1, .int .u32 3, .int .u32 k3]) (tc := 35) h6 (Nat.le_refl _) zp zr u6 k6 np nr pr
        go_roundw
        case rel => exact ⟨3, v7, l + (b % 8 + 1), k0, k1, 3, k3, by omega, by go_num, e7, u7, k7, h7, ⟨fun h => absurd h (by decide), fun _ => ⟨rfl, rfl, rfl, rfl, rfl⟩⟩⟩
        case measure => simp [intOf]
      · obtain ⟨q0, q1, q2, q3, q4⟩ : l + (b % 8 + 1) = L ∧ k0 = x0 ∧ k1 = x1 ∧ (3 : Int) = x2 ∧ k3 = x3 := hh.out.2 (by decide)
        clear hh
        subst q0 q1 q2 q3 q4
        go_wp2_with fail
        refine (put_three2 l (b % 8) k0 k1 k3 l0 (by omega) (by omega) hq _).mono ?_
        rintro e x ⟨rfl, hx⟩
        obtain ⟨v4, rfl, u4, k4, h4⟩ := step2 hx hv (Nat.le_refl _) zp ha hb np
        clear hx
        obtain ⟨r, er⟩ : ∃ r, v4.heap.size = r := ⟨_, rfl⟩
        rw [er] at u4 k4
        have nr : ¬ w.heap.size = r := by omega
        have rn : ¬ r = w.heap.size := by omega
        have pr : ¬ p = r := by omega
        have rp : ¬ r = p := by omega
        have zr : w.heap.size ≤ r := by omega
        simp only []
        go_wp2_with fail
        go_returns
        exact ⟨rfl, by (repeat' (first | (with_reducible exact Below.refl _ _) | (with_reducible assumption) | (with_reducible refine drw ?_ _) | (with_reducible refine below_put _ _ _ _ ?_ ?_) | (with_reducible refine Below.alloc ?_ ?_ _) | (with_reducible refine Below.setCell ?_ ?_ _) | (with_reducible exact Nat.le_refl _) | (simp; done) | omega | (simp only [size_put]; omega) | (simp; omega)))⟩
    · go_wp2_with fail
      go_returns
      exact ⟨rfl, by (repeat' (first | (with_reducible exact Below.refl _ _) | (with_reducible assumption) | (with_reducible refine drw ?_ _) | (with_reducible refine below_put _ _ _ _ ?_ ?_) | (with_reducible refine Below.alloc ?_ ?_ _) | (with_reducible refine Below.setCell ?_ ?_ _) | (with_reducible exact Nat.le_refl _) | (simp; done) | omega | (simp only [size_put]; omega) | (simp; omega)))⟩
end Go.Proofs.Ytaoelppkognakaa.RingU
