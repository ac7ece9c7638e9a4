/- WindowFalls returns true for every window state and two slots, and changes nothing that was there. No condition. -/
import Derived.Test.YtaoelppkognakaaWinAwake
import Derived.Test.YtaoelppkognakaaOwnWin
namespace Go.Proofs.Ytaoelppkognakaa.Window
open Go.RowKit Go.Proofs.Ytaoelppkognakaa.Num Go.Proofs.Ytaoelppkognakaa.Slot Go.Proofs.Ytaoelppkognakaa.Ring Go.Proofs.Ytaoelppkognakaa.RefRing Go.Proofs.Ytaoelppkognakaa.Wd Go.Proofs.Ytaoelppkognakaa.RingU
set_option linter.unusedVariables false
set_option linter.unusedSimpArgs false
set_option maxRecDepth 100000
attribute [local go_sem] size_put cell_put_same cell_put_other frozen_put_same frozen_put_other setCell_put_same setCell_put_other setCell_drewN alloc_drewN put_drewN put_drew

theorem cells1w {v : World} {a : Nat} {ta : TypeId} {m l c0 c1 c2 c3 : Int} (ha : a < v.heap.size) :
    (put v a #[.int .u32 m, .int .u32 l, .int .u32 c0, .int .u32 c1, .int .u32 c2, .int .u32 c3] ta).cell? ⟨a, 0, none⟩ = some (.int .u32 m) ∧ (put v a #[.int .u32 m, .int .u32 l, .int .u32 c0, .int .u32 c1, .int .u32 c2, .int .u32 c3] ta).cell? ⟨a, 1, none⟩ = some (.int .u32 l) ∧ (put v a #[.int .u32 m, .int .u32 l, .int .u32 c0, .int .u32 c1, .int .u32 c2, .int .u32 c3] ta).cell? ⟨a, 2, none⟩ = some (.int .u32 c0) ∧ (put v a #[.int .u32 m, .int .u32 l, .int .u32 c0, .int .u32 c1, .int .u32 c2, .int .u32 c3] ta).cell? ⟨a, 3, none⟩ = some (.int .u32 c1) ∧ (put v a #[.int .u32 m, .int .u32 l, .int .u32 c0, .int .u32 c1, .int .u32 c2, .int .u32 c3] ta).cell? ⟨a, 4, none⟩ = some (.int .u32 c2) ∧ (put v a #[.int .u32 m, .int .u32 l, .int .u32 c0, .int .u32 c1, .int .u32 c2, .int .u32 c3] ta).cell? ⟨a, 5, none⟩ = some (.int .u32 c3) := by
  simp [cell_put_same, ha]
theorem cells1wd {v : World} {a : Nat} {ta : TypeId} {m l c0 c1 c2 c3 : Int} (ha : a < v.heap.size) :
    (put v a #[.int .u32 m, .int .u32 l, .int .u32 c0, .int .u32 c1, .int .u32 c2, .int .u32 c3] ta).drew.cell? ⟨a, 0, none⟩ = some (.int .u32 m) ∧ (put v a #[.int .u32 m, .int .u32 l, .int .u32 c0, .int .u32 c1, .int .u32 c2, .int .u32 c3] ta).drew.cell? ⟨a, 1, none⟩ = some (.int .u32 l) ∧ (put v a #[.int .u32 m, .int .u32 l, .int .u32 c0, .int .u32 c1, .int .u32 c2, .int .u32 c3] ta).drew.cell? ⟨a, 2, none⟩ = some (.int .u32 c0) ∧ (put v a #[.int .u32 m, .int .u32 l, .int .u32 c0, .int .u32 c1, .int .u32 c2, .int .u32 c3] ta).drew.cell? ⟨a, 3, none⟩ = some (.int .u32 c1) ∧ (put v a #[.int .u32 m, .int .u32 l, .int .u32 c0, .int .u32 c1, .int .u32 c2, .int .u32 c3] ta).drew.cell? ⟨a, 4, none⟩ = some (.int .u32 c2) ∧ (put v a #[.int .u32 m, .int .u32 l, .int .u32 c0, .int .u32 c1, .int .u32 c2, .int .u32 c3] ta).drew.cell? ⟨a, 5, none⟩ = some (.int .u32 c3) := cells1w ha
theorem keep_anti (l p c x y : Int) (hc : 0 ≤ c) (h : x ≤ y) : keep l y p c ≤ keep l x p c := by unfold keep; omega
theorem ahead_anti (l c0 c1 c2 c3 x y : Int) (b0 : 0 ≤ c0) (b1 : 0 ≤ c1) (b2 : 0 ≤ c2) (b3 : 0 ≤ c3) (h : x ≤ y) : Ring.ahead l c0 c1 c2 c3 y ≤ Ring.ahead l c0 c1 c2 c3 x := by
  have := keep_anti l 0 c0 x y b0 h
  have := keep_anti l 1 c1 x y b1 h
  have := keep_anti l 2 c2 x y b2 h
  have := keep_anti l 3 c3 x y b3 h
  unfold Ring.ahead; omega
theorem relV_le (m l c0 c1 c2 c3 s : Int) : relV m l c0 c1 c2 c3 s ≤ m := by unfold relV; omega
theorem relV_anti (m l c0 c1 c2 c3 s t : Int) (b0 : 0 ≤ c0) (b1 : 0 ≤ c1) (b2 : 0 ≤ c2) (b3 : 0 ≤ c3) (h : s ≤ t) : relV m l c0 c1 c2 c3 t ≤ relV m l c0 c1 c2 c3 s := by
  have := ahead_anti l c0 c1 c2 c3 (s / 3) (t / 3) b0 b1 b2 b3 (by omega)
  have := relV_le m l c0 c1 c2 c3 t
  by_cases g : s < 12 ∨ s / 3 ≤ l
  · have : relV m l c0 c1 c2 c3 s = m := by unfold relV; omega
    omega
  · unfold relV; rw [if_neg (show ¬ t < 12 by omega), if_neg (show ¬ t / 3 ≤ l by omega), if_neg (show ¬ s < 12 by omega), if_neg (show ¬ s / 3 ≤ l by omega)]; omega
theorem relative_is (m l c0 c1 c2 c3 s r : Int) (l0 : 0 ≤ l) (b0 : 0 ≤ c0) (d0 : c0 ≤ 3) (b1 : 0 ≤ c1) (d1 : c1 ≤ 3) (b2 : 0 ≤ c2) (d2 : c2 ≤ 3) (b3 : 0 ≤ c3) (d3 : c3 ≤ 3) (s0 : 0 ≤ s) (s1 : s < 4294967296) (hr : Hid (relV m l c0 c1 c2 c3 s = r)) (w : World) :
    Calls Try.prog 49 #[.agg #[.int .u32 m, .int .u32 l, .int .u32 c0, .int .u32 c1, .int .u32 c2, .int .u32 c3], .int .u32 s] w fun e w' => e = .returned (.int .u32 r) ∧ Below w.heap.size w w' := by
  rw [← hr.out]; exact relative_c m l c0 c1 c2 c3 s l0 b0 d0 b1 d1 b2 d2 b3 d3 s0 s1 w
theorem refWright_is {r : Bool} (m l c0 c1 c2 c3 : Int) (l0 : 0 ≤ l) (l1 : l < 4294967296) (b0 : 0 ≤ c0) (g0 : c0 < 4294967296) (b1 : 0 ≤ c1) (g1 : c1 < 4294967296) (b2 : 0 ≤ c2) (g2 : c2 < 4294967296) (b3 : 0 ≤ c3) (g3 : c3 < 4294967296) (h : Hid (wrightB m l c0 c1 c2 c3 = r)) (w : World) :
    Calls Try.prog 43 #[.agg #[.int .u32 m, .int .u32 l, .int .u32 c0, .int .u32 c1, .int .u32 c2, .int .u32 c3]] w fun e w' => e = .returned (.bool r) ∧ Below w.heap.size w w' := by
  rw [← h.out]; exact refWright_c m l c0 c1 c2 c3 l0 l1 b0 g0 b1 g1 b2 g2 b3 g3 w
theorem wput_is (m l c0 c1 c2 c3 s r y y0 y1 y2 y3 ye : Int) (l0 : 0 ≤ l) (b0 : 0 ≤ c0) (d0 : c0 ≤ 3) (b1 : 0 ≤ c1) (d1 : c1 ≤ 3) (b2 : 0 ≤ c2) (d2 : c2 ≤ 3) (b3 : 0 ≤ c3) (d3 : c3 ≤ 3) (s0 : 0 ≤ s) (s1 : s < 4294967296) (hm : Hid (putM m l c0 c1 c2 c3 s = r)) (hy : Hid (pL l c0 c1 c2 c3 (s / 3) = y)) (h0 : Hid (pC l c0 c1 c2 c3 (s / 3) 0 c0 = y0)) (h1 : Hid (pC l c0 c1 c2 c3 (s / 3) 1 c1 = y1)) (h2 : Hid (pC l c0 c1 c2 c3 (s / 3) 2 c2 = y2)) (h3 : Hid (pC l c0 c1 c2 c3 (s / 3) 3 c3 = y3)) (he : Hid (pE l c0 c1 c2 c3 (s / 3) = ye)) (w : World) :
    Calls Try.prog 47 #[.agg #[.int .u32 m, .int .u32 l, .int .u32 c0, .int .u32 c1, .int .u32 c2, .int .u32 c3], .int .u32 s] w fun e w' => e = .returned (.tuple #[.agg #[.int .u32 r, .int .u32 y, .int .u32 y0, .int .u32 y1, .int .u32 y2, .int .u32 y3], .int .i64 ye]) ∧ Below w.heap.size w w' := by
  rw [← hm.out, ← hy.out, ← h0.out, ← h1.out, ← h2.out, ← h3.out, ← he.out]; exact wput_c m l c0 c1 c2 c3 s l0 b0 d0 b1 d1 b2 d2 b3 d3 s0 s1 w

set_option maxHeartbeats 4000000 in
theorem windowFalls_no (m l c0 c1 c2 c3 s t : Int) (l0 : 0 ≤ l) (l1 : l < 4294967296) (b0 : 0 ≤ c0) (g0 : c0 < 4294967296) (b1 : 0 ≤ c1) (g1 : c1 < 4294967296) (b2 : 0 ≤ c2) (g2 : c2 < 4294967296) (b3 : 0 ≤ c3) (g3 : c3 < 4294967296) (s0 : 0 ≤ s) (s1 : s < 4294967296) (t0 : 0 ≤ t) (t1 : t < 4294967296) (hR : Hid (wrightB m l c0 c1 c2 c3 = false)) (w : World) :
    Calls Try.prog 12 #[.agg #[.int .u32 m, .int .u32 l, .int .u32 c0, .int .u32 c1, .int .u32 c2, .int .u32 c3], .int .u32 s, .int .u32 t] w fun e w' => e = .returned (.bool true) ∧ Below w.heap.size w w' := by
  go_enter Try.func12, Try.ntmps12
  go_wp2_with fail
  refine (awake7_c _).mono ?_
  rintro e x ⟨rfl, hb⟩
  obtain ⟨v1, rfl, u1, h1⟩ := first1 hb
  clear hb 
  simp only []
  go_wp2_with fail
  refine (own_c m l c0 c1 c2 c3 _).mono ?_
  rintro e x ⟨rfl, hb⟩
  obtain ⟨v2, rfl, u2, h2⟩ := step1 hb h1 (Nat.le_refl _) u1
  clear hb 
  simp only []
  go_wp2_with fail
  refine (refWright_is m l c0 c1 c2 c3 l0 l1 b0 g0 b1 g1 b2 g2 b3 g3 hR _).mono ?_
  rintro e x ⟨rfl, hb⟩
  obtain ⟨v3, rfl, u3, h3⟩ := step1 hb h2 (Nat.le_refl _) u2
  clear hb 
  simp only []
  go_wp2_with fail
  go_returns
  exact ⟨rfl, by (repeat' (first | (with_reducible exact Below.refl _ _) | (with_reducible assumption) | (with_reducible refine drw ?_ _) | (with_reducible refine below_put _ _ _ _ ?_ ?_) | (with_reducible refine Below.alloc ?_ ?_ _) | (with_reducible refine Below.setCell ?_ ?_ _) | (with_reducible exact Nat.le_refl _) | (simp; done) | omega | (simp only [size_put]; omega) | (simp; omega)))⟩

set_option maxHeartbeats 4000000 in
theorem windowFalls_ahead (m l c0 c1 c2 c3 s t : Int) (l0 : 0 ≤ l) (l1 : l < 4294967296) (b0 : 0 ≤ c0) (g0 : c0 < 4294967296) (b1 : 0 ≤ c1) (g1 : c1 < 4294967296) (b2 : 0 ≤ c2) (g2 : c2 < 4294967296) (b3 : 0 ≤ c3) (g3 : c3 < 4294967296) (s0 : 0 ≤ s) (s1 : s < 4294967296) (t0 : 0 ≤ t) (t1 : t < 4294967296) (hR : Hid (wrightB m l c0 c1 c2 c3 = true)) (hts : t < s) (w : World) :
    Calls Try.prog 12 #[.agg #[.int .u32 m, .int .u32 l, .int .u32 c0, .int .u32 c1, .int .u32 c2, .int .u32 c3], .int .u32 s, .int .u32 t] w fun e w' => e = .returned (.bool true) ∧ Below w.heap.size w w' := by
  go_enter Try.func12, Try.ntmps12
  go_wp2_with fail
  refine (awake7_c _).mono ?_
  rintro e x ⟨rfl, hb⟩
  obtain ⟨v1, rfl, u1, h1⟩ := first1 hb
  clear hb 
  simp only []
  go_wp2_with fail
  refine (own_c m l c0 c1 c2 c3 _).mono ?_
  rintro e x ⟨rfl, hb⟩
  obtain ⟨v2, rfl, u2, h2⟩ := step1 hb h1 (Nat.le_refl _) u1
  clear hb 
  simp only []
  go_wp2_with fail
  refine (refWright_is m l c0 c1 c2 c3 l0 l1 b0 g0 b1 g1 b2 g2 b3 g3 hR _).mono ?_
  rintro e x ⟨rfl, hb⟩
  obtain ⟨v3, rfl, u3, h3⟩ := step1 hb h2 (Nat.le_refl _) u2
  clear hb 
  simp only []
  go_wp2_with fail
  go_returns
  exact ⟨rfl, by (repeat' (first | (with_reducible exact Below.refl _ _) | (with_reducible assumption) | (with_reducible refine drw ?_ _) | (with_reducible refine below_put _ _ _ _ ?_ ?_) | (with_reducible refine Below.alloc ?_ ?_ _) | (with_reducible refine Below.setCell ?_ ?_ _) | (with_reducible exact Nat.le_refl _) | (simp; done) | omega | (simp only [size_put]; omega) | (simp; omega)))⟩

set_option maxHeartbeats 8000000 in
theorem windowFalls_yes (m l c0 c1 c2 c3 s t ra rb r y y0 y1 y2 y3 ye : Int) (l0 : 0 ≤ l) (l1 : l < 4294967296) (b0 : 0 ≤ c0) (d0 : c0 ≤ 3) (b1 : 0 ≤ c1) (d1 : c1 ≤ 3) (b2 : 0 ≤ c2) (d2 : c2 ≤ 3) (b3 : 0 ≤ c3) (d3 : c3 ≤ 3) (s0 : 0 ≤ s) (s1 : s < 4294967296) (t0 : 0 ≤ t) (t1 : t < 4294967296) (hR : Hid (wrightB m l c0 c1 c2 c3 = true)) (hts : s ≤ t) (hra : Hid (relV m l c0 c1 c2 c3 s = ra)) (hrb : Hid (relV m l c0 c1 c2 c3 t = rb)) (i1 : rb ≤ ra) (i2 : ra ≤ m)
    (hm : Hid (putM m l c0 c1 c2 c3 s = r)) (hy : Hid (pL l c0 c1 c2 c3 (s / 3) = y)) (k0 : Hid (pC l c0 c1 c2 c3 (s / 3) 0 c0 = y0)) (k1 : Hid (pC l c0 c1 c2 c3 (s / 3) 1 c1 = y1)) (k2 : Hid (pC l c0 c1 c2 c3 (s / 3) 2 c2 = y2)) (k3 : Hid (pC l c0 c1 c2 c3 (s / 3) 3 c3 = y3)) (he : Hid (pE l c0 c1 c2 c3 (s / 3) = ye)) (hq : (ye != 0) = true ∨ ((ye != 0) = false ∧ (r == ra) = true)) (w : World) :
    Calls Try.prog 12 #[.agg #[.int .u32 m, .int .u32 l, .int .u32 c0, .int .u32 c1, .int .u32 c2, .int .u32 c3], .int .u32 s, .int .u32 t] w fun e w' => e = .returned (.bool true) ∧ Below w.heap.size w w' := by
  go_enter Try.func12, Try.ntmps12
  go_wp2_with fail
  refine (awake7_c _).mono ?_
  rintro e x ⟨rfl, hb⟩
  obtain ⟨v1, rfl, u1, h1⟩ := first1 hb
  clear hb 
  simp only []
  go_wp2_with fail
  refine (own_c m l c0 c1 c2 c3 _).mono ?_
  rintro e x ⟨rfl, hb⟩
  obtain ⟨v2, rfl, u2, h2⟩ := step1 hb h1 (Nat.le_refl _) u1
  clear hb 
  simp only []
  go_wp2_with fail
  refine (refWright_is m l c0 c1 c2 c3 l0 l1 b0 (by omega) b1 (by omega) b2 (by omega) b3 (by omega) hR _).mono ?_
  rintro e x ⟨rfl, hb⟩
  obtain ⟨v3, rfl, u3, h3⟩ := step1 hb h2 (Nat.le_refl _) u2
  clear hb 
  simp only []
  go_upto_region 5 with fail
  go_cut [7, 8] (fun a b wx => ∃ v, a = .int .u32 ra ∧ b = .int .u32 rb ∧ wx = put v w.heap.size #[.int .u32 m, .int .u32 l, .int .u32 c0, .int .u32 c1, .int .u32 c2, .int .u32 c3] 55 ∧ w.heap.size < v.heap.size ∧ Below w.heap.size w v)
  case first =>
    go_region_held3 (fun wz => wz.cell? ⟨w.heap.size, 0, none⟩ = some (.int .u32 m) ∧ wz.cell? ⟨w.heap.size, 1, none⟩ = some (.int .u32 l) ∧ wz.cell? ⟨w.heap.size, 2, none⟩ = some (.int .u32 c0) ∧ wz.cell? ⟨w.heap.size, 3, none⟩ = some (.int .u32 c1) ∧ wz.cell? ⟨w.heap.size, 4, none⟩ = some (.int .u32 c2) ∧ wz.cell? ⟨w.heap.size, 5, none⟩ = some (.int .u32 c3)) (first | with_reducible exact cells1wd u3 | with_reducible exact cells1w u4 | with_reducible exact cells1w u5 | with_reducible exact cells1w u6 | with_reducible assumption)
      (first | (go_at_call 49; refine (relative_is m l c0 c1 c2 c3 s ra l0 b0 d0 b1 d1 b2 d2 b3 d3 s0 s1 hra _).mono ?_; rintro e x ⟨rfl, hb⟩; first | (obtain ⟨v4, rfl, u4, h4⟩ := step1r hb h3 (Nat.le_refl _) u3) | (obtain ⟨v4, rfl, u4, h4⟩ := step1 hb h5 (Nat.le_refl _) u5); clear hb; simp only []) | (go_at_call 49; refine (relative_is m l c0 c1 c2 c3 t rb l0 b0 d0 b1 d1 b2 d2 b3 d3 t0 t1 hrb _).mono ?_; rintro e x ⟨rfl, hb⟩; first | (obtain ⟨v5, rfl, u5, h5⟩ := step1r hb h3 (Nat.le_refl _) u3) | (obtain ⟨v5, rfl, u5, h5⟩ := step1 hb h4 (Nat.le_refl _) u4); clear hb; simp only []))
    all_goals
      go_wp2_with fail
      go_meet
      first | exact ⟨v5, rfl, rfl, rfl, u5, h5⟩ | exact ⟨v4, rfl, rfl, rfl, u4, h4⟩
  case rest =>
    obtain ⟨v6, rfl, rfl, rfl, u6, h6⟩ := hcut
    go_wp2_with fail
    refine (wput_is m l c0 c1 c2 c3 s r y y0 y1 y2 y3 ye l0 b0 d0 b1 d1 b2 d2 b3 d3 s0 s1 hm hy k0 k1 k2 k3 he _).mono ?_
    rintro e x ⟨rfl, hb⟩
    obtain ⟨v7, rfl, u7, h7⟩ := step1 hb h6 (Nat.le_refl _) u6
    clear hb
    obtain ⟨p, ep⟩ : ∃ p, v7.heap.size = p := ⟨_, rfl⟩
    simp only []
    rcases hq with hq | ⟨hq, hq2⟩
    all_goals
      go_wp2_with fail
      go_returns
      exact ⟨rfl, by (repeat' (first | (with_reducible exact Below.refl _ _) | (with_reducible assumption) | (with_reducible refine drw ?_ _) | (with_reducible refine below_put _ _ _ _ ?_ ?_) | (with_reducible refine Below.alloc ?_ ?_ _) | (with_reducible refine Below.setCell ?_ ?_ _) | (with_reducible exact Nat.le_refl _) | (simp; done) | omega | (simp only [size_put]; omega) | (simp; omega)))⟩

theorem windowFalls_c (m l c0 c1 c2 c3 s t : Int) (l0 : 0 ≤ l) (l1 : l < 4294967296) (b0 : 0 ≤ c0) (g0 : c0 < 4294967296) (b1 : 0 ≤ c1) (g1 : c1 < 4294967296) (b2 : 0 ≤ c2) (g2 : c2 < 4294967296) (b3 : 0 ≤ c3) (g3 : c3 < 4294967296) (s0 : 0 ≤ s) (s1 : s < 4294967296) (t0 : 0 ≤ t) (t1 : t < 4294967296) (w : World) :
    Calls Try.prog 12 #[.agg #[.int .u32 m, .int .u32 l, .int .u32 c0, .int .u32 c1, .int .u32 c2, .int .u32 c3], .int .u32 s, .int .u32 t] w fun e w' => e = .returned (.bool true) ∧ Below w.heap.size w w' := by
  by_cases hR : wrightB m l c0 c1 c2 c3 = true
  · by_cases hts : t < s
    · exact windowFalls_ahead m l c0 c1 c2 c3 s t l0 l1 b0 g0 b1 g1 b2 g2 b3 g3 s0 s1 t0 t1 hR hts w
    · have hR2 := hR
      unfold wrightB rightB at hR2
      rw [Bool.and_eq_true, decide_eq_true_eq, decide_eq_true_eq] at hR2
      obtain ⟨hm12, d0, d1, d2, d3, hp⟩ := hR2
      refine windowFalls_yes m l c0 c1 c2 c3 s t _ _ _ _ _ _ _ _ _ l0 l1 b0 d0 b1 d1 b2 d2 b3 d3 s0 s1 t0 t1 hR (by omega) rfl rfl (relV_anti m l c0 c1 c2 c3 s t b0 b1 b2 b3 (by omega)) (relV_le _ _ _ _ _ _ _) rfl rfl rfl rfl rfl rfl rfl ?_ w
      by_cases h : pE l c0 c1 c2 c3 (s / 3) = 0
      · right; refine ⟨by rw [h]; rfl, ?_⟩; unfold putM; rw [if_pos h]; simp
      · left; simpa using h
  · exact windowFalls_no m l c0 c1 c2 c3 s t l0 l1 b0 g0 b1 g1 b2 g2 b3 g3 s0 s1 t0 t1 (by simpa [Hid] using hR) w
end Go.Proofs.Ytaoelppkognakaa.Window
