/- Contracts of ring.Before and ring.Put at every ring whose counts add up within 32 bits. -/
import Derived.Test.YtaoelppkognakaaRing
import Derived.Test.YtaoelppkognakaaWorld
namespace Go.Proofs.Ytaoelppkognakaa.Ring
open Go.RowKit Go.Proofs.Ytaoelppkognakaa.Num Go.Proofs.Ytaoelppkognakaa.Slot
set_option linter.unusedVariables false
set_option maxRecDepth 100000
open Go.Proofs.Ytaoelppkognakaa.Wd
attribute [local go_sem] size_put cell_put_same cell_put_other frozen_put_same frozen_put_other setCell_put_same setCell_put_other setCell_drewN alloc_drewN put_drewN put_drew

theorem bcell {W w1 : World} (hb : Below W.heap.size W w1) : (∀ b o, b < W.heap.size → w1.cell? ⟨b, o, none⟩ = W.cell? ⟨b, o, none⟩) ∧ (∀ b o, b < W.heap.size → w1.frozen? ⟨b, o, none⟩ = W.frozen? ⟨b, o, none⟩) :=
  ⟨fun b o h => hb.cell (p := ⟨b, o, none⟩) h, fun b o h => hb.frozen (p := ⟨b, o, none⟩) h⟩

theorem keep_bd (l sub p c : Int) (h : 0 ≤ c) : 0 ≤ keep l sub p c ∧ keep l sub p c ≤ c := by unfold keep; omega

theorem before_no (l c0 c1 c2 c3 sub : Int) (hs : sub ≤ l) (w : World) :
    Calls Try.prog 34 #[.agg #[.int .u32 l, .int .u32 c0, .int .u32 c1, .int .u32 c2, .int .u32 c3], .int .u32 sub] w fun e w' => e = .returned (.tuple #[.int .u32 0, .int .i64 6]) ∧ Below w.heap.size w w' := by
  go_enter Try.func34, Try.ntmps34
  go_wp2
  go_returns
  exact ⟨rfl, by (repeat' (first | (with_reducible exact Below.refl _ _) | (with_reducible assumption) | (with_reducible refine drw ?_ _) | (with_reducible refine Below.alloc ?_ ?_ _) | (with_reducible refine Below.setCell ?_ ?_ _) | (with_reducible refine below_put _ _ _ _ ?_ ?_) | (with_reducible exact Nat.le_refl _) | (simp; done) | (simp; omega)))⟩

/-- How many blocks the window ahead of a later sub-window has. -/
def ahead (l c0 c1 c2 c3 sub : Int) : Int := keep l sub 0 c0 + keep l sub 1 c1 + keep l sub 2 c2 + keep l sub 3 c3

theorem before_yes (l c0 c1 c2 c3 sub : Int) (l0 : 0 ≤ l) (b0 : 0 ≤ c0) (g0 : c0 < 4294967296) (b1 : 0 ≤ c1) (g1 : c1 < 4294967296) (b2 : 0 ≤ c2) (g2 : c2 < 4294967296) (b3 : 0 ≤ c3) (g3 : c3 < 4294967296) (hc : c0 + c1 + c2 + c3 < 4294967296) (hs : l < sub) (s1 : sub < 4294967296) (w : World) :
    Calls Try.prog 34 #[.agg #[.int .u32 l, .int .u32 c0, .int .u32 c1, .int .u32 c2, .int .u32 c3], .int .u32 sub] w fun e w' => e = .returned (.tuple #[.int .u32 (ahead l c0 c1 c2 c3 sub), .int .i64 0]) ∧ Below w.heap.size w w' := by
  have k0 := keep_bd l sub 0 c0 b0
  have k1 := keep_bd l sub 1 c1 b1
  have k2 := keep_bd l sub 2 c2 b2
  have k3 := keep_bd l sub 3 c3 b3
  go_enter Try.func34, Try.ntmps34
  go_wp2_with fail
  refine (passed_c l c0 c1 c2 c3 sub l0 hs s1 _).mono ?_
  rintro e w1 ⟨rfl, hb1⟩
  go_wp2_with fail
  refine (sum_c l _ _ _ _ k0.1 (by omega) k1.1 (by omega) k2.1 (by omega) k3.1 (by omega) (by omega) _).mono ?_
  rintro e w2 ⟨rfl, hb2⟩
  go_wp2_with fail
  go_returns
  exact ⟨rfl, Below.trans (b := w.alloc _) (by (repeat' (first | (with_reducible exact Below.refl _ _) | (with_reducible assumption) | (with_reducible refine drw ?_ _) | (with_reducible refine Below.alloc ?_ ?_ _) | (with_reducible refine Below.setCell ?_ ?_ _) | (with_reducible refine below_put _ _ _ _ ?_ ?_) | (with_reducible exact Nat.le_refl _) | (simp; done) | (simp; omega)))) ((seq hb1 hb2).mono (by simp))⟩

theorem put_slot (l c0 c1 c2 c3 sub : Int) (s0 : 0 ≤ sub) (s1 : sub < 4294967296) (hs : sub < l) (w : World) :
    Calls Try.prog 36 #[.agg #[.int .u32 l, .int .u32 c0, .int .u32 c1, .int .u32 c2, .int .u32 c3], .int .u32 sub] w fun e w' => e = .returned (.tuple #[.agg #[.int .u32 0, .int .u32 0, .int .u32 0, .int .u32 0, .int .u32 0], .int .i64 6]) ∧ Below w.heap.size w w' := by
  go_enter Try.func36, Try.ntmps36
  go_wp2_with fail
  refine (ring_c sub s0 s1 _).mono ?_
  rintro e w' ⟨rfl, k, rfl⟩
  go_wp2_with fail
  go_returns
  exact ⟨rfl, by (repeat' (first | (with_reducible exact Below.refl _ _) | (with_reducible assumption) | (with_reducible refine drw ?_ _) | (with_reducible refine Below.alloc ?_ ?_ _) | (with_reducible refine Below.setCell ?_ ?_ _) | (with_reducible refine below_put _ _ _ _ ?_ ?_) | (with_reducible exact Nat.le_refl _) | (simp; done) | (simp; omega)))⟩

theorem put_full0 (l c0 c1 c2 c3 : Int) (s0 : 0 ≤ l) (s1 : l < 4294967296) (hp : l % 4 = 0) (h : 3 ≤ c0) (w : World) :
    Calls Try.prog 36 #[.agg #[.int .u32 l, .int .u32 c0, .int .u32 c1, .int .u32 c2, .int .u32 c3], .int .u32 l] w fun e w' => e = .returned (.tuple #[.agg #[.int .u32 0, .int .u32 0, .int .u32 0, .int .u32 0, .int .u32 0], .int .i64 11]) ∧ Below w.heap.size w w' := by
  go_enter Try.func36, Try.ntmps36
  go_wp2_with fail
  refine (ring_c l s0 s1 _).mono ?_
  rintro e w' ⟨rfl, k, rfl⟩
  go_wp2_with fail
  go_returns
  exact ⟨rfl, by (repeat' (first | (with_reducible exact Below.refl _ _) | (with_reducible assumption) | (with_reducible refine drw ?_ _) | (with_reducible refine Below.alloc ?_ ?_ _) | (with_reducible refine Below.setCell ?_ ?_ _) | (with_reducible refine below_put _ _ _ _ ?_ ?_) | (with_reducible exact Nat.le_refl _) | (simp; done) | (simp; omega)))⟩

theorem put_here0 (l c0 c1 c2 c3 : Int) (s0 : 0 ≤ l) (s1 : l < 4294967296) (hp : l % 4 = 0) (g : 0 ≤ c0) (h : c0 < 3) (w : World) :
    Calls Try.prog 36 #[.agg #[.int .u32 l, .int .u32 c0, .int .u32 c1, .int .u32 c2, .int .u32 c3], .int .u32 l] w fun e w' => e = .returned (.tuple #[.agg #[.int .u32 l, .int .u32 (c0 + 1), .int .u32 c1, .int .u32 c2, .int .u32 c3], .int .i64 0]) ∧ Below w.heap.size w w' := by
  go_enter Try.func36, Try.ntmps36
  go_wp2_with fail
  refine (ring_c l s0 s1 _).mono ?_
  rintro e w' ⟨rfl, k, rfl⟩
  go_wp2_with fail
  go_returns
  exact ⟨rfl, by (repeat' (first | (with_reducible exact Below.refl _ _) | (with_reducible assumption) | (with_reducible refine drw ?_ _) | (with_reducible refine Below.alloc ?_ ?_ _) | (with_reducible refine Below.setCell ?_ ?_ _) | (with_reducible refine below_put _ _ _ _ ?_ ?_) | (with_reducible exact Nat.le_refl _) | (simp; done) | (simp; omega)))⟩

theorem put_later0 (l c0 c1 c2 c3 sub : Int) (l0 : 0 ≤ l) (s1 : sub < 4294967296) (hs : l < sub) (hp : sub % 4 = 0) (w : World) :
    Calls Try.prog 36 #[.agg #[.int .u32 l, .int .u32 c0, .int .u32 c1, .int .u32 c2, .int .u32 c3], .int .u32 sub] w fun e w' => e = .returned (.tuple #[.agg #[.int .u32 sub, .int .u32 1, .int .u32 (keep l sub 1 c1), .int .u32 (keep l sub 2 c2), .int .u32 (keep l sub 3 c3)], .int .i64 0]) ∧ Below w.heap.size w w' := by
  go_enter Try.func36, Try.ntmps36
  go_wp2_with fail
  refine (ring_c sub (by omega) s1 _).mono ?_
  rintro e w' ⟨rfl, k, rfl⟩
  go_wp2_with fail
  refine (passed_c l c0 c1 c2 c3 sub l0 hs s1 _).mono ?_
  rintro e w1 ⟨rfl, hb1⟩
  obtain ⟨v, rfl, ha, hb, hv⟩ := first2d hb1
  clear hb1
  simp only []
  go_wp2_with fail
  refine bodyPost_ret (v := .tuple #[.agg #[.int .u32 sub, .int .u32 1, .int .u32 (keep l sub 1 c1), .int .u32 (keep l sub 2 c2), .int .u32 (keep l sub 3 c3)], .int .i64 0]) (by simp [results, Try.results36, go_sem, hb]) rfl ⟨rfl, ?_⟩
  (repeat' (first | (with_reducible exact Below.refl _ _) | (with_reducible assumption) | (with_reducible refine drw ?_ _) | (with_reducible refine Below.alloc ?_ ?_ _) | (with_reducible refine Below.setCell ?_ ?_ _) | (with_reducible refine below_put _ _ _ _ ?_ ?_) | (with_reducible exact Nat.le_refl _) | (simp; done) | (simp; omega)))

theorem put_full1 (l c0 c1 c2 c3 : Int) (s0 : 0 ≤ l) (s1 : l < 4294967296) (hp : l % 4 = 1) (h : 3 ≤ c1) (w : World) :
    Calls Try.prog 36 #[.agg #[.int .u32 l, .int .u32 c0, .int .u32 c1, .int .u32 c2, .int .u32 c3], .int .u32 l] w fun e w' => e = .returned (.tuple #[.agg #[.int .u32 0, .int .u32 0, .int .u32 0, .int .u32 0, .int .u32 0], .int .i64 11]) ∧ Below w.heap.size w w' := by
  go_enter Try.func36, Try.ntmps36
  go_wp2_with fail
  refine (ring_c l s0 s1 _).mono ?_
  rintro e w' ⟨rfl, k, rfl⟩
  go_wp2_with fail
  go_returns
  exact ⟨rfl, by (repeat' (first | (with_reducible exact Below.refl _ _) | (with_reducible assumption) | (with_reducible refine drw ?_ _) | (with_reducible refine Below.alloc ?_ ?_ _) | (with_reducible refine Below.setCell ?_ ?_ _) | (with_reducible refine below_put _ _ _ _ ?_ ?_) | (with_reducible exact Nat.le_refl _) | (simp; done) | (simp; omega)))⟩

theorem put_here1 (l c0 c1 c2 c3 : Int) (s0 : 0 ≤ l) (s1 : l < 4294967296) (hp : l % 4 = 1) (g : 0 ≤ c1) (h : c1 < 3) (w : World) :
    Calls Try.prog 36 #[.agg #[.int .u32 l, .int .u32 c0, .int .u32 c1, .int .u32 c2, .int .u32 c3], .int .u32 l] w fun e w' => e = .returned (.tuple #[.agg #[.int .u32 l, .int .u32 c0, .int .u32 (c1 + 1), .int .u32 c2, .int .u32 c3], .int .i64 0]) ∧ Below w.heap.size w w' := by
  go_enter Try.func36, Try.ntmps36
  go_wp2_with fail
  refine (ring_c l s0 s1 _).mono ?_
  rintro e w' ⟨rfl, k, rfl⟩
  go_wp2_with fail
  go_returns
  exact ⟨rfl, by (repeat' (first | (with_reducible exact Below.refl _ _) | (with_reducible assumption) | (with_reducible refine drw ?_ _) | (with_reducible refine Below.alloc ?_ ?_ _) | (with_reducible refine Below.setCell ?_ ?_ _) | (with_reducible refine below_put _ _ _ _ ?_ ?_) | (with_reducible exact Nat.le_refl _) | (simp; done) | (simp; omega)))⟩

theorem put_later1 (l c0 c1 c2 c3 sub : Int) (l0 : 0 ≤ l) (s1 : sub < 4294967296) (hs : l < sub) (hp : sub % 4 = 1) (w : World) :
    Calls Try.prog 36 #[.agg #[.int .u32 l, .int .u32 c0, .int .u32 c1, .int .u32 c2, .int .u32 c3], .int .u32 sub] w fun e w' => e = .returned (.tuple #[.agg #[.int .u32 sub, .int .u32 (keep l sub 0 c0), .int .u32 1, .int .u32 (keep l sub 2 c2), .int .u32 (keep l sub 3 c3)], .int .i64 0]) ∧ Below w.heap.size w w' := by
  go_enter Try.func36, Try.ntmps36
  go_wp2_with fail
  refine (ring_c sub (by omega) s1 _).mono ?_
  rintro e w' ⟨rfl, k, rfl⟩
  go_wp2_with fail
  refine (passed_c l c0 c1 c2 c3 sub l0 hs s1 _).mono ?_
  rintro e w1 ⟨rfl, hb1⟩
  obtain ⟨v, rfl, ha, hb, hv⟩ := first2d hb1
  clear hb1
  simp only []
  go_wp2_with fail
  refine bodyPost_ret (v := .tuple #[.agg #[.int .u32 sub, .int .u32 (keep l sub 0 c0), .int .u32 1, .int .u32 (keep l sub 2 c2), .int .u32 (keep l sub 3 c3)], .int .i64 0]) (by simp [results, Try.results36, go_sem, hb]) rfl ⟨rfl, ?_⟩
  (repeat' (first | (with_reducible exact Below.refl _ _) | (with_reducible assumption) | (with_reducible refine drw ?_ _) | (with_reducible refine Below.alloc ?_ ?_ _) | (with_reducible refine Below.setCell ?_ ?_ _) | (with_reducible refine below_put _ _ _ _ ?_ ?_) | (with_reducible exact Nat.le_refl _) | (simp; done) | (simp; omega)))

theorem put_full2 (l c0 c1 c2 c3 : Int) (s0 : 0 ≤ l) (s1 : l < 4294967296) (hp : l % 4 = 2) (h : 3 ≤ c2) (w : World) :
    Calls Try.prog 36 #[.agg #[.int .u32 l, .int .u32 c0, .int .u32 c1, .int .u32 c2, .int .u32 c3], .int .u32 l] w fun e w' => e = .returned (.tuple #[.agg #[.int .u32 0, .int .u32 0, .int .u32 0, .int .u32 0, .int .u32 0], .int .i64 11]) ∧ Below w.heap.size w w' := by
  go_enter Try.func36, Try.ntmps36
  go_wp2_with fail
  refine (ring_c l s0 s1 _).mono ?_
  rintro e w' ⟨rfl, k, rfl⟩
  go_wp2_with fail
  go_returns
  exact ⟨rfl, by (repeat' (first | (with_reducible exact Below.refl _ _) | (with_reducible assumption) | (with_reducible refine drw ?_ _) | (with_reducible refine Below.alloc ?_ ?_ _) | (with_reducible refine Below.setCell ?_ ?_ _) | (with_reducible refine below_put _ _ _ _ ?_ ?_) | (with_reducible exact Nat.le_refl _) | (simp; done) | (simp; omega)))⟩

theorem put_here2 (l c0 c1 c2 c3 : Int) (s0 : 0 ≤ l) (s1 : l < 4294967296) (hp : l % 4 = 2) (g : 0 ≤ c2) (h : c2 < 3) (w : World) :
    Calls Try.prog 36 #[.agg #[.int .u32 l, .int .u32 c0, .int .u32 c1, .int .u32 c2, .int .u32 c3], .int .u32 l] w fun e w' => e = .returned (.tuple #[.agg #[.int .u32 l, .int .u32 c0, .int .u32 c1, .int .u32 (c2 + 1), .int .u32 c3], .int .i64 0]) ∧ Below w.heap.size w w' := by
  go_enter Try.func36, Try.ntmps36
  go_wp2_with fail
  refine (ring_c l s0 s1 _).mono ?_
  rintro e w' ⟨rfl, k, rfl⟩
  go_wp2_with fail
  go_returns
  exact ⟨rfl, by (repeat' (first | (with_reducible exact Below.refl _ _) | (with_reducible assumption) | (with_reducible refine drw ?_ _) | (with_reducible refine Below.alloc ?_ ?_ _) | (with_reducible refine Below.setCell ?_ ?_ _) | (with_reducible refine below_put _ _ _ _ ?_ ?_) | (with_reducible exact Nat.le_refl _) | (simp; done) | (simp; omega)))⟩

theorem put_later2 (l c0 c1 c2 c3 sub : Int) (l0 : 0 ≤ l) (s1 : sub < 4294967296) (hs : l < sub) (hp : sub % 4 = 2) (w : World) :
    Calls Try.prog 36 #[.agg #[.int .u32 l, .int .u32 c0, .int .u32 c1, .int .u32 c2, .int .u32 c3], .int .u32 sub] w fun e w' => e = .returned (.tuple #[.agg #[.int .u32 sub, .int .u32 (keep l sub 0 c0), .int .u32 (keep l sub 1 c1), .int .u32 1, .int .u32 (keep l sub 3 c3)], .int .i64 0]) ∧ Below w.heap.size w w' := by
  go_enter Try.func36, Try.ntmps36
  go_wp2_with fail
  refine (ring_c sub (by omega) s1 _).mono ?_
  rintro e w' ⟨rfl, k, rfl⟩
  go_wp2_with fail
  refine (passed_c l c0 c1 c2 c3 sub l0 hs s1 _).mono ?_
  rintro e w1 ⟨rfl, hb1⟩
  obtain ⟨v, rfl, ha, hb, hv⟩ := first2d hb1
  clear hb1
  simp only []
  go_wp2_with fail
  refine bodyPost_ret (v := .tuple #[.agg #[.int .u32 sub, .int .u32 (keep l sub 0 c0), .int .u32 (keep l sub 1 c1), .int .u32 1, .int .u32 (keep l sub 3 c3)], .int .i64 0]) (by simp [results, Try.results36, go_sem, hb]) rfl ⟨rfl, ?_⟩
  (repeat' (first | (with_reducible exact Below.refl _ _) | (with_reducible assumption) | (with_reducible refine drw ?_ _) | (with_reducible refine Below.alloc ?_ ?_ _) | (with_reducible refine Below.setCell ?_ ?_ _) | (with_reducible refine below_put _ _ _ _ ?_ ?_) | (with_reducible exact Nat.le_refl _) | (simp; done) | (simp; omega)))

theorem put_full3 (l c0 c1 c2 c3 : Int) (s0 : 0 ≤ l) (s1 : l < 4294967296) (hp : l % 4 = 3) (h : 3 ≤ c3) (w : World) :
    Calls Try.prog 36 #[.agg #[.int .u32 l, .int .u32 c0, .int .u32 c1, .int .u32 c2, .int .u32 c3], .int .u32 l] w fun e w' => e = .returned (.tuple #[.agg #[.int .u32 0, .int .u32 0, .int .u32 0, .int .u32 0, .int .u32 0], .int .i64 11]) ∧ Below w.heap.size w w' := by
  go_enter Try.func36, Try.ntmps36
  go_wp2_with fail
  refine (ring_c l s0 s1 _).mono ?_
  rintro e w' ⟨rfl, k, rfl⟩
  go_wp2_with fail
  go_returns
  exact ⟨rfl, by (repeat' (first | (with_reducible exact Below.refl _ _) | (with_reducible assumption) | (with_reducible refine drw ?_ _) | (with_reducible refine Below.alloc ?_ ?_ _) | (with_reducible refine Below.setCell ?_ ?_ _) | (with_reducible refine below_put _ _ _ _ ?_ ?_) | (with_reducible exact Nat.le_refl _) | (simp; done) | (simp; omega)))⟩

theorem put_here3 (l c0 c1 c2 c3 : Int) (s0 : 0 ≤ l) (s1 : l < 4294967296) (hp : l % 4 = 3) (g : 0 ≤ c3) (h : c3 < 3) (w : World) :
    Calls Try.prog 36 #[.agg #[.int .u32 l, .int .u32 c0, .int .u32 c1, .int .u32 c2, .int .u32 c3], .int .u32 l] w fun e w' => e = .returned (.tuple #[.agg #[.int .u32 l, .int .u32 c0, .int .u32 c1, .int .u32 c2, .int .u32 (c3 + 1)], .int .i64 0]) ∧ Below w.heap.size w w' := by
  go_enter Try.func36, Try.ntmps36
  go_wp2_with fail
  refine (ring_c l s0 s1 _).mono ?_
  rintro e w' ⟨rfl, k, rfl⟩
  go_wp2_with fail
  go_returns
  exact ⟨rfl, by (repeat' (first | (with_reducible exact Below.refl _ _) | (with_reducible assumption) | (with_reducible refine drw ?_ _) | (with_reducible refine Below.alloc ?_ ?_ _) | (with_reducible refine Below.setCell ?_ ?_ _) | (with_reducible refine below_put _ _ _ _ ?_ ?_) | (with_reducible exact Nat.le_refl _) | (simp; done) | (simp; omega)))⟩

theorem put_later3 (l c0 c1 c2 c3 sub : Int) (l0 : 0 ≤ l) (s1 : sub < 4294967296) (hs : l < sub) (hp : sub % 4 = 3) (w : World) :
    Calls Try.prog 36 #[.agg #[.int .u32 l, .int .u32 c0, .int .u32 c1, .int .u32 c2, .int .u32 c3], .int .u32 sub] w fun e w' => e = .returned (.tuple #[.agg #[.int .u32 sub, .int .u32 (keep l sub 0 c0), .int .u32 (keep l sub 1 c1), .int .u32 (keep l sub 2 c2), .int .u32 1], .int .i64 0]) ∧ Below w.heap.size w w' := by
  go_enter Try.func36, Try.ntmps36
  go_wp2_with fail
  refine (ring_c sub (by omega) s1 _).mono ?_
  rintro e w' ⟨rfl, k, rfl⟩
  go_wp2_with fail
  refine (passed_c l c0 c1 c2 c3 sub l0 hs s1 _).mono ?_
  rintro e w1 ⟨rfl, hb1⟩
  obtain ⟨v, rfl, ha, hb, hv⟩ := first2d hb1
  clear hb1
  simp only []
  go_wp2_with fail
  refine bodyPost_ret (v := .tuple #[.agg #[.int .u32 sub, .int .u32 (keep l sub 0 c0), .int .u32 (keep l sub 1 c1), .int .u32 (keep l sub 2 c2), .int .u32 1], .int .i64 0]) (by simp [results, Try.results36, go_sem, hb]) rfl ⟨rfl, ?_⟩
  (repeat' (first | (with_reducible exact Below.refl _ _) | (with_reducible assumption) | (with_reducible refine drw ?_ _) | (with_reducible refine Below.alloc ?_ ?_ _) | (with_reducible refine Below.setCell ?_ ?_ _) | (with_reducible refine below_put _ _ _ _ ?_ ?_) | (with_reducible exact Nat.le_refl _) | (simp; done) | (simp; omega)))

/-- The count behind a block more in sub-window sub, at a place p. -/
def more (l sub p c : Int) : Int := if sub % 4 = p then (if sub = l then c + 1 else 1) else keep l sub p c
theorem keep_here (l p c : Int) : keep l l p c = c := by unfold keep; omega

theorem two_eq {l m a0 a1 a2 a3 b0 b1 b2 b3 e : Int} (h : l = m) (h0 : a0 = b0) (h1 : a1 = b1) (h2 : a2 = b2) (h3 : a3 = b3) :
    Ending.returned (.tuple #[.agg #[.int .u32 l, .int .u32 a0, .int .u32 a1, .int .u32 a2, .int .u32 a3], .int .i64 e]) = .returned (.tuple #[.agg #[.int .u32 m, .int .u32 b0, .int .u32 b1, .int .u32 b2, .int .u32 b3], .int .i64 e]) := by rw [h, h0, h1, h2, h3]

theorem put_full (l c0 c1 c2 c3 : Int) (s0 : 0 ≤ l) (s1 : l < 4294967296) (h : 3 ≤ pick l c0 c1 c2 c3) (w : World) :
    Calls Try.prog 36 #[.agg #[.int .u32 l, .int .u32 c0, .int .u32 c1, .int .u32 c2, .int .u32 c3], .int .u32 l] w fun e w' => e = .returned (.tuple #[.agg #[.int .u32 0, .int .u32 0, .int .u32 0, .int .u32 0, .int .u32 0], .int .i64 11]) ∧ Below w.heap.size w w' := by
  have hr : l % 4 = 0 ∨ l % 4 = 1 ∨ l % 4 = 2 ∨ l % 4 = 3 := by omega
  unfold pick at h
  rcases hr with hr | hr | hr | hr
  · exact put_full0 l c0 c1 c2 c3 s0 s1 hr (by omega) w
  · exact put_full1 l c0 c1 c2 c3 s0 s1 hr (by omega) w
  · exact put_full2 l c0 c1 c2 c3 s0 s1 hr (by omega) w
  · exact put_full3 l c0 c1 c2 c3 s0 s1 hr (by omega) w

/-- A block more, in Last or in a later sub-window. -/
theorem put_ok (l c0 c1 c2 c3 sub : Int) (l0 : 0 ≤ l) (s1 : sub < 4294967296) (b0 : 0 ≤ c0) (g0 : c0 < 4294967296) (b1 : 0 ≤ c1) (g1 : c1 < 4294967296) (b2 : 0 ≤ c2) (g2 : c2 < 4294967296) (b3 : 0 ≤ c3) (g3 : c3 < 4294967296) (hs : l ≤ sub) (h : sub = l → pick l c0 c1 c2 c3 < 3) (w : World) :
    Calls Try.prog 36 #[.agg #[.int .u32 l, .int .u32 c0, .int .u32 c1, .int .u32 c2, .int .u32 c3], .int .u32 sub] w fun e w' => e = .returned (.tuple #[.agg #[.int .u32 sub, .int .u32 (more l sub 0 c0), .int .u32 (more l sub 1 c1), .int .u32 (more l sub 2 c2), .int .u32 (more l sub 3 c3)], .int .i64 0]) ∧ Below w.heap.size w w' := by
  have hr : sub % 4 = 0 ∨ sub % 4 = 1 ∨ sub % 4 = 2 ∨ sub % 4 = 3 := by omega
  by_cases he : sub = l
  · subst he
    have h' := h rfl
    unfold pick at h'
    rcases hr with hr | hr | hr | hr
    · refine (put_here0 sub c0 c1 c2 c3 l0 s1 hr b0 (by omega) w).mono ?_
      rintro e w' ⟨rfl, hb⟩
      exact ⟨two_eq rfl (by simp [more, hr]) (by simp [more, hr, keep_here]) (by simp [more, hr, keep_here]) (by simp [more, hr, keep_here]), hb⟩
    · refine (put_here1 sub c0 c1 c2 c3 l0 s1 hr b1 (by omega) w).mono ?_
      rintro e w' ⟨rfl, hb⟩
      exact ⟨two_eq rfl (by simp [more, hr, keep_here]) (by simp [more, hr]) (by simp [more, hr, keep_here]) (by simp [more, hr, keep_here]), hb⟩
    · refine (put_here2 sub c0 c1 c2 c3 l0 s1 hr b2 (by omega) w).mono ?_
      rintro e w' ⟨rfl, hb⟩
      exact ⟨two_eq rfl (by simp [more, hr, keep_here]) (by simp [more, hr, keep_here]) (by simp [more, hr]) (by simp [more, hr, keep_here]), hb⟩
    · refine (put_here3 sub c0 c1 c2 c3 l0 s1 hr b3 (by omega) w).mono ?_
      rintro e w' ⟨rfl, hb⟩
      exact ⟨two_eq rfl (by simp [more, hr, keep_here]) (by simp [more, hr, keep_here]) (by simp [more, hr, keep_here]) (by simp [more, hr]), hb⟩
  · rcases hr with hr | hr | hr | hr
    · refine (put_later0 l c0 c1 c2 c3 sub l0 s1 (by omega) hr w).mono ?_
      rintro e w' ⟨rfl, hb⟩
      exact ⟨two_eq rfl (by simp [more, hr, he]) (by simp [more, hr]) (by simp [more, hr]) (by simp [more, hr]), hb⟩
    · refine (put_later1 l c0 c1 c2 c3 sub l0 s1 (by omega) hr w).mono ?_
      rintro e w' ⟨rfl, hb⟩
      exact ⟨two_eq rfl (by simp [more, hr]) (by simp [more, hr, he]) (by simp [more, hr]) (by simp [more, hr]), hb⟩
    · refine (put_later2 l c0 c1 c2 c3 sub l0 s1 (by omega) hr w).mono ?_
      rintro e w' ⟨rfl, hb⟩
      exact ⟨two_eq rfl (by simp [more, hr]) (by simp [more, hr]) (by simp [more, hr, he]) (by simp [more, hr]), hb⟩
    · refine (put_later3 l c0 c1 c2 c3 sub l0 s1 (by omega) hr w).mono ?_
      rintro e w' ⟨rfl, hb⟩
      exact ⟨two_eq rfl (by simp [more, hr]) (by simp [more, hr]) (by simp [more, hr]) (by simp [more, hr, he]), hb⟩
end Go.Proofs.Ytaoelppkognakaa.Ring
