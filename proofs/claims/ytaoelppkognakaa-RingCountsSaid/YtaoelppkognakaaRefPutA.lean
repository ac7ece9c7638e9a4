/- Contract of the document's ring with one block more: in a later sub-window. -/
import Derived.Test.YtaoelppkognakaaRefPut
namespace Go.Proofs.Ytaoelppkognakaa.RefRing
open Go.RowKit Go.Proofs.Ytaoelppkognakaa.Num Go.Proofs.Ytaoelppkognakaa.Slot Go.Proofs.Ytaoelppkognakaa.Ring Go.Proofs.Ytaoelppkognakaa.Wd
set_option linter.unusedVariables false
set_option linter.unusedSimpArgs false
set_option maxRecDepth 100000
attribute [local go_sem] size_put cell_put_same cell_put_other frozen_put_same frozen_put_other setCell_put_same setCell_put_other setCell_drewN alloc_drewN put_drewN put_drew

set_option maxHeartbeats 16000000 in
theorem refPut_w (l c0 c1 c2 c3 sub x0 x1 x2 x3 k0 k1 k2 k3 : Int) (l0 : 0 ≤ l) (l1 : l < 4294967296) (hs : l < sub) (s1 : sub < 4294967296)
    (m0 : Hid (sub - (sub - 0) % 4 = k0)) (m1 : Hid (sub - (sub - 1) % 4 = k1)) (m2 : Hid (sub - (sub - 2) % 4 = k2)) (m3 : Hid (sub - (sub - 3) % 4 = k3))
    (z0 : 0 ≤ x0 ∧ x0 ≤ 4294967294) (z1 : 0 ≤ x1 ∧ x1 ≤ 4294967294) (z2 : 0 ≤ x2 ∧ x2 ≤ 4294967294) (z3 : 0 ≤ x3 ∧ x3 ≤ 4294967294)
    (e0 : Hid (at4 l c0 c1 c2 c3 k0 = x0)) (e1 : Hid (at4 l c0 c1 c2 c3 k1 = x1)) (e2 : Hid (at4 l c0 c1 c2 c3 k2 = x2)) (e3 : Hid (at4 l c0 c1 c2 c3 k3 = x3)) (w : World) :
    Calls Try.prog 37 #[.agg #[.int .u32 l, .int .u32 c0, .int .u32 c1, .int .u32 c2, .int .u32 c3], .int .u32 sub] w fun e w' => e = .returned (.tuple #[.agg #[.int .u32 sub, .int .u32 (bump sub 0 x0), .int .u32 (bump sub 1 x1), .int .u32 (bump sub 2 x2), .int .u32 (bump sub 3 x3)], .int .i64 0]) ∧ Below w.heap.size w w' := by
  have hd : (sub == l) = false := by rw [beq_eq_false_iff_ne]; omega
  go_enter Try.func37, Try.ntmps37
  go_wp2_with fail
  go_loopw [7] (fun i wr => ∃ (j : Nat) (v : World) (y0 y1 y2 y3 : Int), (j : Int) ≤ 4 ∧ i = .int .i64 j ∧ wr = put (put (put v w.heap.size #[.int .u32 l, .int .u32 c0, .int .u32 c1, .int .u32 c2, .int .u32 c3] 38) (w.heap.size + 1) #[.int .u32 0, .int .u32 0, .int .u32 0, .int .u32 0, .int .u32 0] 38) (w.heap.size + 1 + 1) #[.int .u32 sub, .int .u32 y0, .int .u32 y1, .int .u32 y2, .int .u32 y3] 38
      ∧ w.heap.size < v.heap.size ∧ w.heap.size + 1 < v.heap.size ∧ w.heap.size + 1 + 1 < v.heap.size ∧ Below w.heap.size w v ∧ Hid (y0 = (if 0 < (j : Int) then x0 else 0) ∧ y1 = (if 1 < (j : Int) then x1 else 0) ∧ y2 = (if 2 < (j : Int) then x2 else 0) ∧ y3 = (if 3 < (j : Int) then x3 else 0))) (fun i _ => (4 - intOf i).toNat)
  case atStart =>
    obtain ⟨v, e, ha, hb, hc, hv⟩ := first3 (Below.refl _ ((((w.alloc (.cells #[.int .u32 l, .int .u32 c0, .int .u32 c1, .int .u32 c2, .int .u32 c3] 38)).alloc (.cells #[.int .u32 0, .int .u32 0, .int .u32 0, .int .u32 0, .int .u32 0] 38)).alloc (.cells #[.int .u32 sub, .int .u32 0, .int .u32 0, .int .u32 0, .int .u32 0] 38))))
    exact ⟨0, v, 0, 0, 0, 0, by omega, rfl, e, ha, hb, hc, hv, by simp [Hid]⟩
  case round =>
    obtain ⟨j, v, y0, y1, y2, y3, hj, rfl, rfl, ha, hb, hc, hv, hy⟩ := hrel
    have n02 : ¬ w.heap.size = w.heap.size + 1 + 1 := by omega
    have n20 : ¬ w.heap.size + 1 + 1 = w.heap.size := by omega
    have hjj : j = 0 ∨ j = 1 ∨ j = 2 ∨ j = 3 ∨ j = 4 := by omega
    clear hj
    rcases hjj with rfl | rfl | rfl | rfl | rfl
    · go_wp2_with fail
      go_region_with (first | (go_at_call 60; refine (of_is sub y0 y1 y2 y3 0 k0 (by omega) s1 (by decide) (by decide) m0.out _).mono ?_; rintro e x ⟨rfl, hx⟩; obtain ⟨v1, rfl, ha1, hb1, hc1, hv1⟩ := step3r hx hv (Nat.le_refl _) (by omega) (by omega) ha hb hc (by omega) (by omega) (by omega); clear hx; simp only []) | (go_at_call 59; refine (at_is l c0 c1 c2 c3 k0 x0 l0 l1 e0.out _).mono ?_; rintro e x ⟨rfl, hx⟩; obtain ⟨v2, rfl, ha2, hb2, hc2, hv2⟩ := step3 hx hv1 (Nat.le_refl _) (by omega) (by omega) ha1 hb1 hc1 (by omega) (by omega) (by omega); clear hx; simp only []))
      all_goals
        go_wp2_with fail
        go_roundw
        case rel => exact ⟨1, v2, x0, y1, y2, y3, by omega, by go_num, rfl, ha2, hb2, hc2, hv2, by obtain ⟨h0, h1, h2, h3⟩ := hy.out; simp at h0 h1 h2 h3; simp [Hid, *]⟩
        case measure => simp [intOf]
    · go_wp2_with fail
      go_region_with (first | (go_at_call 60; refine (of_is sub y0 y1 y2 y3 1 k1 (by omega) s1 (by decide) (by decide) m1.out _).mono ?_; rintro e x ⟨rfl, hx⟩; obtain ⟨v1, rfl, ha1, hb1, hc1, hv1⟩ := step3r hx hv (Nat.le_refl _) (by omega) (by omega) ha hb hc (by omega) (by omega) (by omega); clear hx; simp only []) | (go_at_call 59; refine (at_is l c0 c1 c2 c3 k1 x1 l0 l1 e1.out _).mono ?_; rintro e x ⟨rfl, hx⟩; obtain ⟨v2, rfl, ha2, hb2, hc2, hv2⟩ := step3 hx hv1 (Nat.le_refl _) (by omega) (by omega) ha1 hb1 hc1 (by omega) (by omega) (by omega); clear hx; simp only []))
      all_goals
        go_wp2_with fail
        go_roundw
        case rel => exact ⟨2, v2, y0, x1, y2, y3, by omega, by go_num, rfl, ha2, hb2, hc2, hv2, by obtain ⟨h0, h1, h2, h3⟩ := hy.out; simp at h0 h1 h2 h3; simp [Hid, *]⟩
        case measure => simp [intOf]
    · go_wp2_with fail
      go_region_with (first | (go_at_call 60; refine (of_is sub y0 y1 y2 y3 2 k2 (by omega) s1 (by decide) (by decide) m2.out _).mono ?_; rintro e x ⟨rfl, hx⟩; obtain ⟨v1, rfl, ha1, hb1, hc1, hv1⟩ := step3r hx hv (Nat.le_refl _) (by omega) (by omega) ha hb hc (by omega) (by omega) (by omega); clear hx; simp only []) | (go_at_call 59; refine (at_is l c0 c1 c2 c3 k2 x2 l0 l1 e2.out _).mono ?_; rintro e x ⟨rfl, hx⟩; obtain ⟨v2, rfl, ha2, hb2, hc2, hv2⟩ := step3 hx hv1 (Nat.le_refl _) (by omega) (by omega) ha1 hb1 hc1 (by omega) (by omega) (by omega); clear hx; simp only []))
      all_goals
        go_wp2_with fail
        go_roundw
        case rel => exact ⟨3, v2, y0, y1, x2, y3, by omega, by go_num, rfl, ha2, hb2, hc2, hv2, by obtain ⟨h0, h1, h2, h3⟩ := hy.out; simp at h0 h1 h2 h3; simp [Hid, *]⟩
        case measure => simp [intOf]
    · go_wp2_with fail
      go_region_with (first | (go_at_call 60; refine (of_is sub y0 y1 y2 y3 3 k3 (by omega) s1 (by decide) (by decide) m3.out _).mono ?_; rintro e x ⟨rfl, hx⟩; obtain ⟨v1, rfl, ha1, hb1, hc1, hv1⟩ := step3r hx hv (Nat.le_refl _) (by omega) (by omega) ha hb hc (by omega) (by omega) (by omega); clear hx; simp only []) | (go_at_call 59; refine (at_is l c0 c1 c2 c3 k3 x3 l0 l1 e3.out _).mono ?_; rintro e x ⟨rfl, hx⟩; obtain ⟨v2, rfl, ha2, hb2, hc2, hv2⟩ := step3 hx hv1 (Nat.le_refl _) (by omega) (by omega) ha1 hb1 hc1 (by omega) (by omega) (by omega); clear hx; simp only []))
      all_goals
        go_wp2_with fail
        go_roundw
        case rel => exact ⟨4, v2, y0, y1, y2, x3, by omega, by go_num, rfl, ha2, hb2, hc2, hv2, by obtain ⟨h0, h1, h2, h3⟩ := hy.out; simp at h0 h1 h2 h3; simp [Hid, *]⟩
        case measure => simp [intOf]
    · obtain ⟨h0, h1, h2, h3⟩ := hy.out
      simp at h0 h1 h2 h3
      subst h0 h1 h2 h3
      clear hy
      have hr : sub % 4 = 0 ∨ sub % 4 = 1 ∨ sub % 4 = 2 ∨ sub % 4 = 3 := by omega
      rcases hr with hr | hr | hr | hr
      · go_wp2_with fail
        refine bodyPost_ret (v := .tuple #[.agg #[.int .u32 sub, .int .u32 (y0 + 1), .int .u32 y1, .int .u32 y2, .int .u32 y3], .int .i64 0]) (by simp [results, Try.results37, go_sem, ha, hb, hc, n02, n20]) rfl ⟨two_eq rfl (by simp [bump, hr]) (by simp [bump, hr]) (by simp [bump, hr]) (by simp [bump, hr]), ?_⟩
        (repeat' (first | (with_reducible exact Below.refl _ _) | (with_reducible assumption) | (with_reducible refine drw ?_ _) | (with_reducible refine Below.alloc ?_ ?_ _) | (with_reducible refine Below.setCell ?_ ?_ _) | (with_reducible refine below_put _ _ _ _ ?_ ?_) | (with_reducible exact Nat.le_refl _) | (simp; done) | omega | (simp; omega)))
      · go_wp2_with fail
        refine bodyPost_ret (v := .tuple #[.agg #[.int .u32 sub, .int .u32 y0, .int .u32 (y1 + 1), .int .u32 y2, .int .u32 y3], .int .i64 0]) (by simp [results, Try.results37, go_sem, ha, hb, hc, n02, n20]) rfl ⟨two_eq rfl (by simp [bump, hr]) (by simp [bump, hr]) (by simp [bump, hr]) (by simp [bump, hr]), ?_⟩
        (repeat' (first | (with_reducible exact Below.refl _ _) | (with_reducible assumption) | (with_reducible refine drw ?_ _) | (with_reducible refine Below.alloc ?_ ?_ _) | (with_reducible refine Below.setCell ?_ ?_ _) | (with_reducible refine below_put _ _ _ _ ?_ ?_) | (with_reducible exact Nat.le_refl _) | (simp; done) | omega | (simp; omega)))
      · go_wp2_with fail
        refine bodyPost_ret (v := .tuple #[.agg #[.int .u32 sub, .int .u32 y0, .int .u32 y1, .int .u32 (y2 + 1), .int .u32 y3], .int .i64 0]) (by simp [results, Try.results37, go_sem, ha, hb, hc, n02, n20]) rfl ⟨two_eq rfl (by simp [bump, hr]) (by simp [bump, hr]) (by simp [bump, hr]) (by simp [bump, hr]), ?_⟩
        (repeat' (first | (with_reducible exact Below.refl _ _) | (with_reducible assumption) | (with_reducible refine drw ?_ _) | (with_reducible refine Below.alloc ?_ ?_ _) | (with_reducible refine Below.setCell ?_ ?_ _) | (with_reducible refine below_put _ _ _ _ ?_ ?_) | (with_reducible exact Nat.le_refl _) | (simp; done) | omega | (simp; omega)))
      · go_wp2_with fail
        refine bodyPost_ret (v := .tuple #[.agg #[.int .u32 sub, .int .u32 y0, .int .u32 y1, .int .u32 y2, .int .u32 (y3 + 1)], .int .i64 0]) (by simp [results, Try.results37, go_sem, ha, hb, hc, n02, n20]) rfl ⟨two_eq rfl (by simp [bump, hr]) (by simp [bump, hr]) (by simp [bump, hr]) (by simp [bump, hr]), ?_⟩
        (repeat' (first | (with_reducible exact Below.refl _ _) | (with_reducible assumption) | (with_reducible refine drw ?_ _) | (with_reducible refine Below.alloc ?_ ?_ _) | (with_reducible refine Below.setCell ?_ ?_ _) | (with_reducible refine below_put _ _ _ _ ?_ ?_) | (with_reducible exact Nat.le_refl _) | (simp; done) | omega | (simp; omega)))
end Go.Proofs.Ytaoelppkognakaa.RefRing
