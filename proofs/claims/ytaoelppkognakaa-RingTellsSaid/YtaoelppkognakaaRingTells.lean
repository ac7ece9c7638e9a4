/- RingTells returns true for every ring and every sub-window, and changes nothing that was there. No condition. -/
import Derived.Test.YtaoelppkognakaaRingIs
import Derived.Deep.RegionWith
import Derived.Deep.RegionHeld3
import Derived.Deep.DeepCutAuto
namespace Go.Proofs.Ytaoelppkognakaa.RingU
open Go.RowKit Go.Proofs.Ytaoelppkognakaa.Num Go.Proofs.Ytaoelppkognakaa.Slot Go.Proofs.Ytaoelppkognakaa.Ring Go.Proofs.Ytaoelppkognakaa.RefRing Go.Proofs.Ytaoelppkognakaa.Wd
set_option linter.unusedVariables false
set_option linter.unusedSimpArgs false
set_option maxRecDepth 100000
attribute [local go_sem] size_put cell_put_same cell_put_other frozen_put_same frozen_put_other setCell_put_same setCell_put_other setCell_drewN alloc_drewN put_drewN put_drew

theorem cells15 {v : World} {a p q : Nat} {ta tp tq : TypeId} {l c0 c1 c2 c3 y y0 y1 y2 y3 : Int} (ha : a < v.heap.size) (hp : p < v.heap.size) (hq : q < v.heap.size) (np : ¬ a = p) (nq : ¬ a = q) (pq : ¬ p = q) :
    (put (put (put v a #[.int .u32 l, .int .u32 c0, .int .u32 c1, .int .u32 c2, .int .u32 c3] ta) p #[.int .u32 y, .int .u32 y0, .int .u32 y1, .int .u32 y2, .int .u32 y3] tp) q #[.int .u32 y, .int .u32 y0, .int .u32 y1, .int .u32 y2, .int .u32 y3] tq).cell? ⟨a, 0, none⟩ = some (.int .u32 l) ∧ (put (put (put v a #[.int .u32 l, .int .u32 c0, .int .u32 c1, .int .u32 c2, .int .u32 c3] ta) p #[.int .u32 y, .int .u32 y0, .int .u32 y1, .int .u32 y2, .int .u32 y3] tp) q #[.int .u32 y, .int .u32 y0, .int .u32 y1, .int .u32 y2, .int .u32 y3] tq).cell? ⟨a, 1, none⟩ = some (.int .u32 c0) ∧ (put (put (put v a #[.int .u32 l, .int .u32 c0, .int .u32 c1, .int .u32 c2, .int .u32 c3] ta) p #[.int .u32 y, .int .u32 y0, .int .u32 y1, .int .u32 y2, .int .u32 y3] tp) q #[.int .u32 y, .int .u32 y0, .int .u32 y1, .int .u32 y2, .int .u32 y3] tq).cell? ⟨a, 2, none⟩ = some (.int .u32 c1) ∧ (put (put (put v a #[.int .u32 l, .int .u32 c0, .int .u32 c1, .int .u32 c2, .int .u32 c3] ta) p #[.int .u32 y, .int .u32 y0, .int .u32 y1, .int .u32 y2, .int .u32 y3] tp) q #[.int .u32 y, .int .u32 y0, .int .u32 y1, .int .u32 y2, .int .u32 y3] tq).cell? ⟨a, 3, none⟩ = some (.int .u32 c2) ∧ (put (put (put v a #[.int .u32 l, .int .u32 c0, .int .u32 c1, .int .u32 c2, .int .u32 c3] ta) p #[.int .u32 y, .int .u32 y0, .int .u32 y1, .int .u32 y2, .int .u32 y3] tp) q #[.int .u32 y, .int .u32 y0, .int .u32 y1, .int .u32 y2, .int .u32 y3] tq).cell? ⟨a, 4, none⟩ = some (.int .u32 c3) ∧ (put (put (put v a #[.int .u32 l, .int .u32 c0, .int .u32 c1, .int .u32 c2, .int .u32 c3] ta) p #[.int .u32 y, .int .u32 y0, .int .u32 y1, .int .u32 y2, .int .u32 y3] tp) q #[.int .u32 y, .int .u32 y0, .int .u32 y1, .int .u32 y2, .int .u32 y3] tq).cell? ⟨p, 0, none⟩ = some (.int .u32 y) ∧ (put (put (put v a #[.int .u32 l, .int .u32 c0, .int .u32 c1, .int .u32 c2, .int .u32 c3] ta) p #[.int .u32 y, .int .u32 y0, .int .u32 y1, .int .u32 y2, .int .u32 y3] tp) q #[.int .u32 y, .int .u32 y0, .int .u32 y1, .int .u32 y2, .int .u32 y3] tq).cell? ⟨p, 1, none⟩ = some (.int .u32 y0) ∧ (put (put (put v a #[.int .u32 l, .int .u32 c0, .int .u32 c1, .int .u32 c2, .int .u32 c3] ta) p #[.int .u32 y, .int .u32 y0, .int .u32 y1, .int .u32 y2, .int .u32 y3] tp) q #[.int .u32 y, .int .u32 y0, .int .u32 y1, .int .u32 y2, .int .u32 y3] tq).cell? ⟨p, 2, none⟩ = some (.int .u32 y1) ∧ (put (put (put v a #[.int .u32 l, .int .u32 c0, .int .u32 c1, .int .u32 c2, .int .u32 c3] ta) p #[.int .u32 y, .int .u32 y0, .int .u32 y1, .int .u32 y2, .int .u32 y3] tp) q #[.int .u32 y, .int .u32 y0, .int .u32 y1, .int .u32 y2, .int .u32 y3] tq).cell? ⟨p, 3, none⟩ = some (.int .u32 y2) ∧ (put (put (put v a #[.int .u32 l, .int .u32 c0, .int .u32 c1, .int .u32 c2, .int .u32 c3] ta) p #[.int .u32 y, .int .u32 y0, .int .u32 y1, .int .u32 y2, .int .u32 y3] tp) q #[.int .u32 y, .int .u32 y0, .int .u32 y1, .int .u32 y2, .int .u32 y3] tq).cell? ⟨p, 4, none⟩ = some (.int .u32 y3) ∧ (put (put (put v a #[.int .u32 l, .int .u32 c0, .int .u32 c1, .int .u32 c2, .int .u32 c3] ta) p #[.int .u32 y, .int .u32 y0, .int .u32 y1, .int .u32 y2, .int .u32 y3] tp) q #[.int .u32 y, .int .u32 y0, .int .u32 y1, .int .u32 y2, .int .u32 y3] tq).cell? ⟨q, 0, none⟩ = some (.int .u32 y) ∧ (put (put (put v a #[.int .u32 l, .int .u32 c0, .int .u32 c1, .int .u32 c2, .int .u32 c3] ta) p #[.int .u32 y, .int .u32 y0, .int .u32 y1, .int .u32 y2, .int .u32 y3] tp) q #[.int .u32 y, .int .u32 y0, .int .u32 y1, .int .u32 y2, .int .u32 y3] tq).cell? ⟨q, 1, none⟩ = some (.int .u32 y0) ∧ (put (put (put v a #[.int .u32 l, .int .u32 c0, .int .u32 c1, .int .u32 c2, .int .u32 c3] ta) p #[.int .u32 y, .int .u32 y0, .int .u32 y1, .int .u32 y2, .int .u32 y3] tp) q #[.int .u32 y, .int .u32 y0, .int .u32 y1, .int .u32 y2, .int .u32 y3] tq).cell? ⟨q, 2, none⟩ = some (.int .u32 y1) ∧ (put (put (put v a #[.int .u32 l, .int .u32 c0, .int .u32 c1, .int .u32 c2, .int .u32 c3] ta) p #[.int .u32 y, .int .u32 y0, .int .u32 y1, .int .u32 y2, .int .u32 y3] tp) q #[.int .u32 y, .int .u32 y0, .int .u32 y1, .int .u32 y2, .int .u32 y3] tq).cell? ⟨q, 3, none⟩ = some (.int .u32 y2) ∧ (put (put (put v a #[.int .u32 l, .int .u32 c0, .int .u32 c1, .int .u32 c2, .int .u32 c3] ta) p #[.int .u32 y, .int .u32 y0, .int .u32 y1, .int .u32 y2, .int .u32 y3] tp) q #[.int .u32 y, .int .u32 y0, .int .u32 y1, .int .u32 y2, .int .u32 y3] tq).cell? ⟨q, 4, none⟩ = some (.int .u32 y3) := by
  simp [cell_put_same, cell_put_other, size_put, ha, hp, hq, np, nq, pq]

set_option maxHeartbeats 8000000 in
theorem ringTells_no (l c0 c1 c2 c3 sub : Int) (l0 : 0 ≤ l) (l1 : l < 4294967296) (b0 : 0 ≤ c0) (g0 : c0 < 4294967296) (b1 : 0 ≤ c1) (g1 : c1 < 4294967296) (b2 : 0 ≤ c2) (g2 : c2 < 4294967296) (b3 : 0 ≤ c3) (g3 : c3 < 4294967296) (s0 : 0 ≤ sub) (s1 : sub < 4294967296) (hR : Hid (rightB l c0 c1 c2 c3 = false)) (w : World) :
    Calls Try.prog 6 #[.agg #[.int .u32 l, .int .u32 c0, .int .u32 c1, .int .u32 c2, .int .u32 c3], .int .u32 sub] w fun e w' => e = .returned (.bool true) ∧ Below w.heap.size w w' := by
  have hn := neq_same 0 1 3 3 3
  go_enter Try.func6, Try.ntmps6
  go_wp2_with fail
  refine (awake_c _).mono ?_
  rintro e x ⟨rfl, hb⟩
  obtain ⟨v1, rfl, u1, h1⟩ := first1 hb
  clear hb
  simp only []
  go_upto_region 3 with fail
  go_cut [24] (fun s wx => ∃ v, s = .bool false ∧ wx = put v w.heap.size #[.int .u32 l, .int .u32 c0, .int .u32 c1, .int .u32 c2, .int .u32 c3] 35 ∧ w.heap.size < v.heap.size ∧ Below w.heap.size w v)
  case first =>
    go_region_with (first | (go_at_call 30; refine (right_is l c0 c1 c2 c3 l0 l1 b0 g0 b1 g1 b2 g2 b3 g3 hR _).mono ?_; rintro e x ⟨rfl, hb⟩; obtain ⟨v2, rfl, u2, h2⟩ := step1r hb h1 (Nat.le_refl _) u1; clear hb; simp only []) | (go_at_call 31; refine (refRight_is l c0 c1 c2 c3 l0 l1 b0 g0 b1 g1 b2 g2 b3 g3 hR _).mono ?_; rintro e x ⟨rfl, hb⟩; obtain ⟨v3, rfl, u3, h3⟩ := step1 hb h2 (Nat.le_refl _) u2; clear hb; simp only []) | (go_at_call 32; refine (genesis_c _).mono ?_; rintro e x ⟨rfl, hb⟩; obtain ⟨v4, rfl, u4, h4⟩ := step1 hb h3 (Nat.le_refl _) u3; clear hb; simp only []) | (go_at_call 33; refine (refGenesis_c _).mono ?_; rintro e x ⟨rfl, hb⟩; obtain ⟨v5, rfl, u5, h5⟩ := step1 hb h4 (Nat.le_refl _) u4; clear hb; simp only []))
    all_goals
      go_wp2_with fail
      go_meet
      exact ⟨v5, rfl, rfl, u5, h5⟩
  case rest =>
    obtain ⟨v5, rfl, rfl, u5, h5⟩ := hcut
    go_wp2_with fail
    refine (refRight_is l c0 c1 c2 c3 l0 l1 b0 g0 b1 g1 b2 g2 b3 g3 hR _).mono ?_
    rintro e x ⟨rfl, hb⟩
    obtain ⟨v6, rfl, u6, h6⟩ := step1 hb h5 (Nat.le_refl _) u5
    clear hb
    simp only []
    go_wp2_with fail
    go_returns
    exact ⟨rfl, by (repeat' (first | (with_reducible exact Below.refl _ _) | (with_reducible assumption) | (with_reducible refine drw ?_ _) | (with_reducible refine below_put _ _ _ _ ?_ ?_) | (with_reducible refine Below.alloc ?_ ?_ _) | (with_reducible refine Below.setCell ?_ ?_ _) | (with_reducible exact Nat.le_refl _) | (simp; done) | omega | (simp only [size_put]; omega) | (simp; omega)))⟩

set_option maxHeartbeats 16000000 in
theorem ringTells_yes (l c0 c1 c2 c3 sub : Int) (l0 : 0 ≤ l) (l1 : l < 4294967296) (b0 : 0 ≤ c0) (d0 : c0 ≤ 3) (b1 : 0 ≤ c1) (d1 : c1 ≤ 3) (b2 : 0 ≤ c2) (d2 : c2 ≤ 3) (b3 : 0 ≤ c3) (d3 : c3 ≤ 3) (s0 : 0 ≤ sub) (s1 : sub < 4294967296) (hR : Hid (rightB l c0 c1 c2 c3 = true)) (w : World) :
    Calls Try.prog 6 #[.agg #[.int .u32 l, .int .u32 c0, .int .u32 c1, .int .u32 c2, .int .u32 c3], .int .u32 sub] w fun e w' => e = .returned (.bool true) ∧ Below w.heap.size w w' := by
  have hn := neq_same 0 1 3 3 3
  have hq := eql_same (pL l c0 c1 c2 c3 sub) (pC l c0 c1 c2 c3 sub 0 c0) (pC l c0 c1 c2 c3 sub 1 c1) (pC l c0 c1 c2 c3 sub 2 c2) (pC l c0 c1 c2 c3 sub 3 c3)
  go_enter Try.func6, Try.ntmps6
  go_wp2_with fail
  refine (awake_c _).mono ?_
  rintro e x ⟨rfl, hb⟩
  obtain ⟨v1, rfl, u1, h1⟩ := first1 hb
  clear hb
  simp only []
  go_upto_region 3 with fail
  go_cut [24] (fun s wx => ∃ v, s = .bool false ∧ wx = put v w.heap.size #[.int .u32 l, .int .u32 c0, .int .u32 c1, .int .u32 c2, .int .u32 c3] 35 ∧ w.heap.size < v.heap.size ∧ Below w.heap.size w v)
  case first =>
    go_region_with (first | (go_at_call 30; refine (right_is l c0 c1 c2 c3 l0 l1 b0 (by omega) b1 (by omega) b2 (by omega) b3 (by omega) hR _).mono ?_; rintro e x ⟨rfl, hb⟩; obtain ⟨v2, rfl, u2, h2⟩ := step1r hb h1 (Nat.le_refl _) u1; clear hb; simp only []) | (go_at_call 31; refine (refRight_is l c0 c1 c2 c3 l0 l1 b0 (by omega) b1 (by omega) b2 (by omega) b3 (by omega) hR _).mono ?_; rintro e x ⟨rfl, hb⟩; obtain ⟨v3, rfl, u3, h3⟩ := step1 hb h2 (Nat.le_refl _) u2; clear hb; simp only []) | (go_at_call 32; refine (genesis_c _).mono ?_; rintro e x ⟨rfl, hb⟩; obtain ⟨v4, rfl, u4, h4⟩ := step1 hb h3 (Nat.le_refl _) u3; clear hb; simp only []) | (go_at_call 33; refine (refGenesis_c _).mono ?_; rintro e x ⟨rfl, hb⟩; obtain ⟨v5, rfl, u5, h5⟩ := step1 hb h4 (Nat.le_refl _) u4; clear hb; simp only []))
    all_goals
      go_wp2_with fail
      go_meet
      exact ⟨v5, rfl, rfl, u5, h5⟩
  case rest =>
    obtain ⟨v5, rfl, rfl, u5, h5⟩ := hcut
    go_wp2_with fail
    refine (refRight_is l c0 c1 c2 c3 l0 l1 b0 (by omega) b1 (by omega) b2 (by omega) b3 (by omega) hR _).mono ?_
    rintro e x ⟨rfl, hb⟩
    obtain ⟨v6, rfl, u6, h6⟩ := step1 hb h5 (Nat.le_refl _) u5
    clear hb
    simp only []
    go_wp2_with fail
    refine (before_u l c0 c1 c2 c3 sub l0 b0 d0 b1 d1 b2 d2 b3 d3 s1 _).mono ?_
    rintro e x ⟨rfl, hb⟩
    obtain ⟨v7, rfl, u7, h7⟩ := step1 hb h6 (Nat.le_refl _) u6
    clear hb
    simp only []
    go_wp2_with fail
    refine (refBefore_u l c0 c1 c2 c3 sub l0 b0 d0 b1 d1 b2 d2 b3 d3 s1 _).mono ?_
    rintro e x ⟨rfl, hb⟩
    obtain ⟨v8, rfl, u8, h8⟩ := step1 hb h7 (Nat.le_refl _) u7
    clear hb
    simp only []
    go_wp2_with fail
    refine (put_u l c0 c1 c2 c3 sub l0 b0 d0 b1 d1 b2 d2 b3 d3 s0 s1 _).mono ?_
    rintro e x ⟨rfl, hb⟩
    obtain ⟨v9, rfl, u9, h9⟩ := step1 hb h8 (Nat.le_refl _) u8
    clear hb
    obtain ⟨p, ep⟩ : ∃ p, v9.heap.size = p := ⟨_, rfl⟩
    rw [ep] at u9
    have np : ¬ w.heap.size = p := by omega
    have pn : ¬ p = w.heap.size := by omega
    have zp : w.heap.size ≤ p := by omega
    simp only []
    go_wp2_with fail
    refine (refPut_u l c0 c1 c2 c3 sub l0 l1 b0 d0 b1 d1 b2 d2 b3 d3 s0 s1 _).mono ?_
    rintro e x ⟨rfl, hb⟩
    obtain ⟨v10, rfl, u10, k10, h10⟩ := new1 hb h9 ep (Nat.le_refl _) u9
    clear hb ep
    obtain ⟨q, eq⟩ : ∃ q, v10.heap.size = q := ⟨_, rfl⟩
    rw [eq] at u10 k10
    have nq : ¬ w.heap.size = q := by omega
    have qn : ¬ q = w.heap.size := by omega
    have pq : ¬ p = q := by omega
    have qp : ¬ q = p := by omega
    have zq : w.heap.size ≤ q := by omega
    clear h1 u1 h5 u5 h6 u6 h7 u7 h8 u8 h9 u9 hR hn
    generalize pL l c0 c1 c2 c3 sub = y at *
    generalize pC l c0 c1 c2 c3 sub 0 c0 = y0 at *
    generalize pC l c0 c1 c2 c3 sub 1 c1 = y1 at *
    generalize pC l c0 c1 c2 c3 sub 2 c2 = y2 at *
    generalize pC l c0 c1 c2 c3 sub 3 c3 = y3 at *
    generalize pE l c0 c1 c2 c3 sub = ye at *
    generalize bV l c0 c1 c2 c3 sub = zv at *
    generalize bE l sub = ze at *
    simp only []
    go_wp2_with fail
    obtain ⟨v11, e11, u11, k11, j11, h11⟩ := new2 (Below.refl _ _) h10 eq (Nat.le_refl _) zp u10 k10 np
    rw [e11]
    clear e11 eq h10 u10 k10
    go_region_held3 (fun wz => wz.cell? ⟨w.heap.size, 0, none⟩ = some (.int .u32 l) ∧ wz.cell? ⟨w.heap.size, 1, none⟩ = some (.int .u32 c0) ∧ wz.cell? ⟨w.heap.size, 2, none⟩ = some (.int .u32 c1) ∧ wz.cell? ⟨w.heap.size, 3, none⟩ = some (.int .u32 c2) ∧ wz.cell? ⟨w.heap.size, 4, none⟩ = some (.int .u32 c3) ∧ wz.cell? ⟨p, 0, none⟩ = some (.int .u32 y) ∧ wz.cell? ⟨p, 1, none⟩ = some (.int .u32 y0) ∧ wz.cell? ⟨p, 2, none⟩ = some (.int .u32 y1) ∧ wz.cell? ⟨p, 3, none⟩ = some (.int .u32 y2) ∧ wz.cell? ⟨p, 4, none⟩ = some (.int .u32 y3) ∧ wz.cell? ⟨q, 0, none⟩ = some (.int .u32 y) ∧ wz.cell? ⟨q, 1, none⟩ = some (.int .u32 y0) ∧ wz.cell? ⟨q, 2, none⟩ = some (.int .u32 y1) ∧ wz.cell? ⟨q, 3, none⟩ = some (.int .u32 y2) ∧ wz.cell? ⟨q, 4, none⟩ = some (.int .u32 y3)) (first | exact cells15 u11 k11 j11 np nq pq | exact cells15 u12 k12 j12 np nq pq | exact cells15 u13 k13 j13 np nq pq)
      (first | (go_at_call 38; refine (sum_c l c0 c1 c2 c3 b0 (by omega) b1 (by omega) b2 (by omega) b3 (by omega) (by omega) _).mono ?_; rintro e x ⟨rfl, hb⟩; obtain ⟨v12, rfl, u12, k12, j12, h12⟩ := step3r hb h11 (Nat.le_refl _) zp zq u11 k11 j11 np nq pq; clear hb; simp only []) | (go_at_call 39; refine (refSum_c l c0 c1 c2 c3 b0 (by omega) b1 (by omega) b2 (by omega) b3 (by omega) (by omega) _).mono ?_; rintro e x ⟨rfl, hb⟩; obtain ⟨v13, rfl, u13, k13, j13, h13⟩ := step3 hb h12 (Nat.le_refl _) zp zq u12 k12 j12 np nq pq; clear hb; simp only []))
    all_goals
      go_wp2_with fail
      go_returns
      exact ⟨rfl, by (repeat' (first | (with_reducible exact Below.refl _ _) | (with_reducible assumption) | (with_reducible refine drw ?_ _) | (with_reducible refine below_put _ _ _ _ ?_ ?_) | (with_reducible refine Below.alloc ?_ ?_ _) | (with_reducible refine Below.setCell ?_ ?_ _) | (with_reducible exact Nat.le_refl _) | (simp; done) | omega | (simp only [size_put]; omega) | (simp; omega)))⟩

theorem ringTells_c (l c0 c1 c2 c3 sub : Int) (l0 : 0 ≤ l) (l1 : l < 4294967296) (b0 : 0 ≤ c0) (g0 : c0 < 4294967296) (b1 : 0 ≤ c1) (g1 : c1 < 4294967296) (b2 : 0 ≤ c2) (g2 : c2 < 4294967296) (b3 : 0 ≤ c3) (g3 : c3 < 4294967296) (s0 : 0 ≤ sub) (s1 : sub < 4294967296) (w : World) :
    Calls Try.prog 6 #[.agg #[.int .u32 l, .int .u32 c0, .int .u32 c1, .int .u32 c2, .int .u32 c3], .int .u32 sub] w fun e w' => e = .returned (.bool true) ∧ Below w.heap.size w w' := by
  by_cases h : rightB l c0 c1 c2 c3 = true
  · have h' := h
    unfold rightB at h'
    rw [decide_eq_true_iff] at h'
    obtain ⟨d0, d1, d2, d3, _⟩ := h'
    exact ringTells_yes l c0 c1 c2 c3 sub l0 l1 b0 d0 b1 d1 b2 d2 b3 d3 s0 s1 h w
  · exact ringTells_no l c0 c1 c2 c3 sub l0 l1 b0 g0 b1 g1 b2 g2 b3 g3 s0 s1 (by show rightB l c0 c1 c2 c3 = false; simpa using h) w
end Go.Proofs.Ytaoelppkognakaa.RingU
