/- WindowTells returns true for every window state and slot, and changes nothing that was there. No condition. -/
import Derived.Test.YtaoelppkognakaaWindowFalls
import Derived.Test.YtaoelppkognakaaRefWin
import Derived.Test.YtaoelppkognakaaWinEq
namespace Go.Proofs.Ytaoelppkognakaa.WinTells
open Go.RowKit Go.Proofs.Ytaoelppkognakaa.Num Go.Proofs.Ytaoelppkognakaa.Slot Go.Proofs.Ytaoelppkognakaa.Ring Go.Proofs.Ytaoelppkognakaa.RefRing Go.Proofs.Ytaoelppkognakaa.Wd Go.Proofs.Ytaoelppkognakaa.RingU
set_option linter.unusedVariables false
set_option linter.unusedSimpArgs false
set_option maxRecDepth 100000
attribute [local go_sem] size_put cell_put_same cell_put_other frozen_put_same frozen_put_other setCell_put_same setCell_put_other setCell_drewN alloc_drewN put_drewN put_drew
open Go.Proofs.Ytaoelppkognakaa.Window
theorem cells1w {v : World} {a : Nat} {ta : TypeId} {m l c0 c1 c2 c3 : Int} (ha : a < v.heap.size) :
    (put v a #[.int .u32 m, .int .u32 l, .int .u32 c0, .int .u32 c1, .int .u32 c2, .int .u32 c3] ta).cell? ⟨a, 0, none⟩ = some (.int .u32 m) ∧ (put v a #[.int .u32 m, .int .u32 l, .int .u32 c0, .int .u32 c1, .int .u32 c2, .int .u32 c3] ta).cell? ⟨a, 1, none⟩ = some (.int .u32 l) ∧ (put v a #[.int .u32 m, .int .u32 l, .int .u32 c0, .int .u32 c1, .int .u32 c2, .int .u32 c3] ta).cell? ⟨a, 2, none⟩ = some (.int .u32 c0) ∧ (put v a #[.int .u32 m, .int .u32 l, .int .u32 c0, .int .u32 c1, .int .u32 c2, .int .u32 c3] ta).cell? ⟨a, 3, none⟩ = some (.int .u32 c1) ∧ (put v a #[.int .u32 m, .int .u32 l, .int .u32 c0, .int .u32 c1, .int .u32 c2, .int .u32 c3] ta).cell? ⟨a, 4, none⟩ = some (.int .u32 c2) ∧ (put v a #[.int .u32 m, .int .u32 l, .int .u32 c0, .int .u32 c1, .int .u32 c2, .int .u32 c3] ta).cell? ⟨a, 5, none⟩ = some (.int .u32 c3) := by
  simp [cell_put_same, ha]
theorem cells1wd {v : World} {a : Nat} {ta : TypeId} {m l c0 c1 c2 c3 : Int} (ha : a < v.heap.size) :
    (put v a #[.int .u32 m, .int .u32 l, .int .u32 c0, .int .u32 c1, .int .u32 c2, .int .u32 c3] ta).drew.cell? ⟨a, 0, none⟩ = some (.int .u32 m) ∧ (put v a #[.int .u32 m, .int .u32 l, .int .u32 c0, .int .u32 c1, .int .u32 c2, .int .u32 c3] ta).drew.cell? ⟨a, 1, none⟩ = some (.int .u32 l) ∧ (put v a #[.int .u32 m, .int .u32 l, .int .u32 c0, .int .u32 c1, .int .u32 c2, .int .u32 c3] ta).drew.cell? ⟨a, 2, none⟩ = some (.int .u32 c0) ∧ (put v a #[.int .u32 m, .int .u32 l, .int .u32 c0, .int .u32 c1, .int .u32 c2, .int .u32 c3] ta).drew.cell? ⟨a, 3, none⟩ = some (.int .u32 c1) ∧ (put v a #[.int .u32 m, .int .u32 l, .int .u32 c0, .int .u32 c1, .int .u32 c2, .int .u32 c3] ta).drew.cell? ⟨a, 4, none⟩ = some (.int .u32 c2) ∧ (put v a #[.int .u32 m, .int .u32 l, .int .u32 c0, .int .u32 c1, .int .u32 c2, .int .u32 c3] ta).drew.cell? ⟨a, 5, none⟩ = some (.int .u32 c3) := cells1w ha
theorem cell_drew' (w : World) (x : Addr) : w.drew.cell? x = w.cell? x := rfl
theorem cells18 {v : World} {a p q : Nat} {ta tp tq : TypeId} {m l c0 c1 c2 c3 r y y0 y1 y2 y3 : Int} (ha : a < v.heap.size) (hp : p < v.heap.size) (hq : q < v.heap.size) (np : ¬ a = p) (nq : ¬ a = q) (pq : ¬ p = q) :
    (put (put (put v a #[.int .u32 m, .int .u32 l, .int .u32 c0, .int .u32 c1, .int .u32 c2, .int .u32 c3] ta) p #[.int .u32 r, .int .u32 y, .int .u32 y0, .int .u32 y1, .int .u32 y2, .int .u32 y3] tp) q #[.int .u32 r, .int .u32 y, .int .u32 y0, .int .u32 y1, .int .u32 y2, .int .u32 y3] tq).cell? ⟨a, 0, none⟩ = some (.int .u32 m) ∧ (put (put (put v a #[.int .u32 m, .int .u32 l, .int .u32 c0, .int .u32 c1, .int .u32 c2, .int .u32 c3] ta) p #[.int .u32 r, .int .u32 y, .int .u32 y0, .int .u32 y1, .int .u32 y2, .int .u32 y3] tp) q #[.int .u32 r, .int .u32 y, .int .u32 y0, .int .u32 y1, .int .u32 y2, .int .u32 y3] tq).cell? ⟨a, 1, none⟩ = some (.int .u32 l) ∧ (put (put (put v a #[.int .u32 m, .int .u32 l, .int .u32 c0, .int .u32 c1, .int .u32 c2, .int .u32 c3] ta) p #[.int .u32 r, .int .u32 y, .int .u32 y0, .int .u32 y1, .int .u32 y2, .int .u32 y3] tp) q #[.int .u32 r, .int .u32 y, .int .u32 y0, .int .u32 y1, .int .u32 y2, .int .u32 y3] tq).cell? ⟨a, 2, none⟩ = some (.int .u32 c0) ∧ (put (put (put v a #[.int .u32 m, .int .u32 l, .int .u32 c0, .int .u32 c1, .int .u32 c2, .int .u32 c3] ta) p #[.int .u32 r, .int .u32 y, .int .u32 y0, .int .u32 y1, .int .u32 y2, .int .u32 y3] tp) q #[.int .u32 r, .int .u32 y, .int .u32 y0, .int .u32 y1, .int .u32 y2, .int .u32 y3] tq).cell? ⟨a, 3, none⟩ = some (.int .u32 c1) ∧ (put (put (put v a #[.int .u32 m, .int .u32 l, .int .u32 c0, .int .u32 c1, .int .u32 c2, .int .u32 c3] ta) p #[.int .u32 r, .int .u32 y, .int .u32 y0, .int .u32 y1, .int .u32 y2, .int .u32 y3] tp) q #[.int .u32 r, .int .u32 y, .int .u32 y0, .int .u32 y1, .int .u32 y2, .int .u32 y3] tq).cell? ⟨a, 4, none⟩ = some (.int .u32 c2) ∧ (put (put (put v a #[.int .u32 m, .int .u32 l, .int .u32 c0, .int .u32 c1, .int .u32 c2, .int .u32 c3] ta) p #[.int .u32 r, .int .u32 y, .int .u32 y0, .int .u32 y1, .int .u32 y2, .int .u32 y3] tp) q #[.int .u32 r, .int .u32 y, .int .u32 y0, .int .u32 y1, .int .u32 y2, .int .u32 y3] tq).cell? ⟨a, 5, none⟩ = some (.int .u32 c3) ∧ (put (put (put v a #[.int .u32 m, .int .u32 l, .int .u32 c0, .int .u32 c1, .int .u32 c2, .int .u32 c3] ta) p #[.int .u32 r, .int .u32 y, .int .u32 y0, .int .u32 y1, .int .u32 y2, .int .u32 y3] tp) q #[.int .u32 r, .int .u32 y, .int .u32 y0, .int .u32 y1, .int .u32 y2, .int .u32 y3] tq).cell? ⟨p, 0, none⟩ = some (.int .u32 r) ∧ (put (put (put v a #[.int .u32 m, .int .u32 l, .int .u32 c0, .int .u32 c1, .int .u32 c2, .int .u32 c3] ta) p #[.int .u32 r, .int .u32 y, .int .u32 y0, .int .u32 y1, .int .u32 y2, .int .u32 y3] tp) q #[.int .u32 r, .int .u32 y, .int .u32 y0, .int .u32 y1, .int .u32 y2, .int .u32 y3] tq).cell? ⟨p, 1, none⟩ = some (.int .u32 y) ∧ (put (put (put v a #[.int .u32 m, .int .u32 l, .int .u32 c0, .int .u32 c1, .int .u32 c2, .int .u32 c3] ta) p #[.int .u32 r, .int .u32 y, .int .u32 y0, .int .u32 y1, .int .u32 y2, .int .u32 y3] tp) q #[.int .u32 r, .int .u32 y, .int .u32 y0, .int .u32 y1, .int .u32 y2, .int .u32 y3] tq).cell? ⟨p, 2, none⟩ = some (.int .u32 y0) ∧ (put (put (put v a #[.int .u32 m, .int .u32 l, .int .u32 c0, .int .u32 c1, .int .u32 c2, .int .u32 c3] ta) p #[.int .u32 r, .int .u32 y, .int .u32 y0, .int .u32 y1, .int .u32 y2, .int .u32 y3] tp) q #[.int .u32 r, .int .u32 y, .int .u32 y0, .int .u32 y1, .int .u32 y2, .int .u32 y3] tq).cell? ⟨p, 3, none⟩ = some (.int .u32 y1) ∧ (put (put (put v a #[.int .u32 m, .int .u32 l, .int .u32 c0, .int .u32 c1, .int .u32 c2, .int .u32 c3] ta) p #[.int .u32 r, .int .u32 y, .int .u32 y0, .int .u32 y1, .int .u32 y2, .int .u32 y3] tp) q #[.int .u32 r, .int .u32 y, .int .u32 y0, .int .u32 y1, .int .u32 y2, .int .u32 y3] tq).cell? ⟨p, 4, none⟩ = some (.int .u32 y2) ∧ (put (put (put v a #[.int .u32 m, .int .u32 l, .int .u32 c0, .int .u32 c1, .int .u32 c2, .int .u32 c3] ta) p #[.int .u32 r, .int .u32 y, .int .u32 y0, .int .u32 y1, .int .u32 y2, .int .u32 y3] tp) q #[.int .u32 r, .int .u32 y, .int .u32 y0, .int .u32 y1, .int .u32 y2, .int .u32 y3] tq).cell? ⟨p, 5, none⟩ = some (.int .u32 y3) ∧ (put (put (put v a #[.int .u32 m, .int .u32 l, .int .u32 c0, .int .u32 c1, .int .u32 c2, .int .u32 c3] ta) p #[.int .u32 r, .int .u32 y, .int .u32 y0, .int .u32 y1, .int .u32 y2, .int .u32 y3] tp) q #[.int .u32 r, .int .u32 y, .int .u32 y0, .int .u32 y1, .int .u32 y2, .int .u32 y3] tq).cell? ⟨q, 0, none⟩ = some (.int .u32 r) ∧ (put (put (put v a #[.int .u32 m, .int .u32 l, .int .u32 c0, .int .u32 c1, .int .u32 c2, .int .u32 c3] ta) p #[.int .u32 r, .int .u32 y, .int .u32 y0, .int .u32 y1, .int .u32 y2, .int .u32 y3] tp) q #[.int .u32 r, .int .u32 y, .int .u32 y0, .int .u32 y1, .int .u32 y2, .int .u32 y3] tq).cell? ⟨q, 1, none⟩ = some (.int .u32 y) ∧ (put (put (put v a #[.int .u32 m, .int .u32 l, .int .u32 c0, .int .u32 c1, .int .u32 c2, .int .u32 c3] ta) p #[.int .u32 r, .int .u32 y, .int .u32 y0, .int .u32 y1, .int .u32 y2, .int .u32 y3] tp) q #[.int .u32 r, .int .u32 y, .int .u32 y0, .int .u32 y1, .int .u32 y2, .int .u32 y3] tq).cell? ⟨q, 2, none⟩ = some (.int .u32 y0) ∧ (put (put (put v a #[.int .u32 m, .int .u32 l, .int .u32 c0, .int .u32 c1, .int .u32 c2, .int .u32 c3] ta) p #[.int .u32 r, .int .u32 y, .int .u32 y0, .int .u32 y1, .int .u32 y2, .int .u32 y3] tp) q #[.int .u32 r, .int .u32 y, .int .u32 y0, .int .u32 y1, .int .u32 y2, .int .u32 y3] tq).cell? ⟨q, 3, none⟩ = some (.int .u32 y1) ∧ (put (put (put v a #[.int .u32 m, .int .u32 l, .int .u32 c0, .int .u32 c1, .int .u32 c2, .int .u32 c3] ta) p #[.int .u32 r, .int .u32 y, .int .u32 y0, .int .u32 y1, .int .u32 y2, .int .u32 y3] tp) q #[.int .u32 r, .int .u32 y, .int .u32 y0, .int .u32 y1, .int .u32 y2, .int .u32 y3] tq).cell? ⟨q, 4, none⟩ = some (.int .u32 y2) ∧ (put (put (put v a #[.int .u32 m, .int .u32 l, .int .u32 c0, .int .u32 c1, .int .u32 c2, .int .u32 c3] ta) p #[.int .u32 r, .int .u32 y, .int .u32 y0, .int .u32 y1, .int .u32 y2, .int .u32 y3] tp) q #[.int .u32 r, .int .u32 y, .int .u32 y0, .int .u32 y1, .int .u32 y2, .int .u32 y3] tq).cell? ⟨q, 5, none⟩ = some (.int .u32 y3) := by
  simp [cell_put_same, cell_put_other, size_put, ha, hp, hq, np, nq, pq]
theorem cells18d {v : World} {a p q : Nat} {ta tp tq : TypeId} {m l c0 c1 c2 c3 r y y0 y1 y2 y3 : Int} (ha : a < v.heap.size) (hp : p < v.heap.size) (hq : q < v.heap.size) (np : ¬ a = p) (nq : ¬ a = q) (pq : ¬ p = q) :
    (put (put (put v a #[.int .u32 m, .int .u32 l, .int .u32 c0, .int .u32 c1, .int .u32 c2, .int .u32 c3] ta) p #[.int .u32 r, .int .u32 y, .int .u32 y0, .int .u32 y1, .int .u32 y2, .int .u32 y3] tp) q #[.int .u32 r, .int .u32 y, .int .u32 y0, .int .u32 y1, .int .u32 y2, .int .u32 y3] tq).drew.cell? ⟨a, 0, none⟩ = some (.int .u32 m) ∧ (put (put (put v a #[.int .u32 m, .int .u32 l, .int .u32 c0, .int .u32 c1, .int .u32 c2, .int .u32 c3] ta) p #[.int .u32 r, .int .u32 y, .int .u32 y0, .int .u32 y1, .int .u32 y2, .int .u32 y3] tp) q #[.int .u32 r, .int .u32 y, .int .u32 y0, .int .u32 y1, .int .u32 y2, .int .u32 y3] tq).drew.cell? ⟨a, 1, none⟩ = some (.int .u32 l) ∧ (put (put (put v a #[.int .u32 m, .int .u32 l, .int .u32 c0, .int .u32 c1, .int .u32 c2, .int .u32 c3] ta) p #[.int .u32 r, .int .u32 y, .int .u32 y0, .int .u32 y1, .int .u32 y2, .int .u32 y3] tp) q #[.int .u32 r, .int .u32 y, .int .u32 y0, .int .u32 y1, .int .u32 y2, .int .u32 y3] tq).drew.cell? ⟨a, 2, none⟩ = some (.int .u32 c0) ∧ (put (put (put v a #[.int .u32 m, .int .u32 l, .int .u32 c0, .int .u32 c1, .int .u32 c2, .int .u32 c3] ta) p #[.int .u32 r, .int .u32 y, .int .u32 y0, .int .u32 y1, .int .u32 y2, .int .u32 y3] tp) q #[.int .u32 r, .int .u32 y, .int .u32 y0, .int .u32 y1, .int .u32 y2, .int .u32 y3] tq).drew.cell? ⟨a, 3, none⟩ = some (.int .u32 c1) ∧ (put (put (put v a #[.int .u32 m, .int .u32 l, .int .u32 c0, .int .u32 c1, .int .u32 c2, .int .u32 c3] ta) p #[.int .u32 r, .int .u32 y, .int .u32 y0, .int .u32 y1, .int .u32 y2, .int .u32 y3] tp) q #[.int .u32 r, .int .u32 y, .int .u32 y0, .int .u32 y1, .int .u32 y2, .int .u32 y3] tq).drew.cell? ⟨a, 4, none⟩ = some (.int .u32 c2) ∧ (put (put (put v a #[.int .u32 m, .int .u32 l, .int .u32 c0, .int .u32 c1, .int .u32 c2, .int .u32 c3] ta) p #[.int .u32 r, .int .u32 y, .int .u32 y0, .int .u32 y1, .int .u32 y2, .int .u32 y3] tp) q #[.int .u32 r, .int .u32 y, .int .u32 y0, .int .u32 y1, .int .u32 y2, .int .u32 y3] tq).drew.cell? ⟨a, 5, none⟩ = some (.int .u32 c3) ∧ (put (put (put v a #[.int .u32 m, .int .u32 l, .int .u32 c0, .int .u32 c1, .int .u32 c2, .int .u32 c3] ta) p #[.int .u32 r, .int .u32 y, .int .u32 y0, .int .u32 y1, .int .u32 y2, .int .u32 y3] tp) q #[.int .u32 r, .int .u32 y, .int .u32 y0, .int .u32 y1, .int .u32 y2, .int .u32 y3] tq).drew.cell? ⟨p, 0, none⟩ = some (.int .u32 r) ∧ (put (put (put v a #[.int .u32 m, .int .u32 l, .int .u32 c0, .int .u32 c1, .int .u32 c2, .int .u32 c3] ta) p #[.int .u32 r, .int .u32 y, .int .u32 y0, .int .u32 y1, .int .u32 y2, .int .u32 y3] tp) q #[.int .u32 r, .int .u32 y, .int .u32 y0, .int .u32 y1, .int .u32 y2, .int .u32 y3] tq).drew.cell? ⟨p, 1, none⟩ = some (.int .u32 y) ∧ (put (put (put v a #[.int .u32 m, .int .u32 l, .int .u32 c0, .int .u32 c1, .int .u32 c2, .int .u32 c3] ta) p #[.int .u32 r, .int .u32 y, .int .u32 y0, .int .u32 y1, .int .u32 y2, .int .u32 y3] tp) q #[.int .u32 r, .int .u32 y, .int .u32 y0, .int .u32 y1, .int .u32 y2, .int .u32 y3] tq).drew.cell? ⟨p, 2, none⟩ = some (.int .u32 y0) ∧ (put (put (put v a #[.int .u32 m, .int .u32 l, .int .u32 c0, .int .u32 c1, .int .u32 c2, .int .u32 c3] ta) p #[.int .u32 r, .int .u32 y, .int .u32 y0, .int .u32 y1, .int .u32 y2, .int .u32 y3] tp) q #[.int .u32 r, .int .u32 y, .int .u32 y0, .int .u32 y1, .int .u32 y2, .int .u32 y3] tq).drew.cell? ⟨p, 3, none⟩ = some (.int .u32 y1) ∧ (put (put (put v a #[.int .u32 m, .int .u32 l, .int .u32 c0, .int .u32 c1, .int .u32 c2, .int .u32 c3] ta) p #[.int .u32 r, .int .u32 y, .int .u32 y0, .int .u32 y1, .int .u32 y2, .int .u32 y3] tp) q #[.int .u32 r, .int .u32 y, .int .u32 y0, .int .u32 y1, .int .u32 y2, .int .u32 y3] tq).drew.cell? ⟨p, 4, none⟩ = some (.int .u32 y2) ∧ (put (put (put v a #[.int .u32 m, .int .u32 l, .int .u32 c0, .int .u32 c1, .int .u32 c2, .int .u32 c3] ta) p #[.int .u32 r, .int .u32 y, .int .u32 y0, .int .u32 y1, .int .u32 y2, .int .u32 y3] tp) q #[.int .u32 r, .int .u32 y, .int .u32 y0, .int .u32 y1, .int .u32 y2, .int .u32 y3] tq).drew.cell? ⟨p, 5, none⟩ = some (.int .u32 y3) ∧ (put (put (put v a #[.int .u32 m, .int .u32 l, .int .u32 c0, .int .u32 c1, .int .u32 c2, .int .u32 c3] ta) p #[.int .u32 r, .int .u32 y, .int .u32 y0, .int .u32 y1, .int .u32 y2, .int .u32 y3] tp) q #[.int .u32 r, .int .u32 y, .int .u32 y0, .int .u32 y1, .int .u32 y2, .int .u32 y3] tq).drew.cell? ⟨q, 0, none⟩ = some (.int .u32 r) ∧ (put (put (put v a #[.int .u32 m, .int .u32 l, .int .u32 c0, .int .u32 c1, .int .u32 c2, .int .u32 c3] ta) p #[.int .u32 r, .int .u32 y, .int .u32 y0, .int .u32 y1, .int .u32 y2, .int .u32 y3] tp) q #[.int .u32 r, .int .u32 y, .int .u32 y0, .int .u32 y1, .int .u32 y2, .int .u32 y3] tq).drew.cell? ⟨q, 1, none⟩ = some (.int .u32 y) ∧ (put (put (put v a #[.int .u32 m, .int .u32 l, .int .u32 c0, .int .u32 c1, .int .u32 c2, .int .u32 c3] ta) p #[.int .u32 r, .int .u32 y, .int .u32 y0, .int .u32 y1, .int .u32 y2, .int .u32 y3] tp) q #[.int .u32 r, .int .u32 y, .int .u32 y0, .int .u32 y1, .int .u32 y2, .int .u32 y3] tq).drew.cell? ⟨q, 2, none⟩ = some (.int .u32 y0) ∧ (put (put (put v a #[.int .u32 m, .int .u32 l, .int .u32 c0, .int .u32 c1, .int .u32 c2, .int .u32 c3] ta) p #[.int .u32 r, .int .u32 y, .int .u32 y0, .int .u32 y1, .int .u32 y2, .int .u32 y3] tp) q #[.int .u32 r, .int .u32 y, .int .u32 y0, .int .u32 y1, .int .u32 y2, .int .u32 y3] tq).drew.cell? ⟨q, 3, none⟩ = some (.int .u32 y1) ∧ (put (put (put v a #[.int .u32 m, .int .u32 l, .int .u32 c0, .int .u32 c1, .int .u32 c2, .int .u32 c3] ta) p #[.int .u32 r, .int .u32 y, .int .u32 y0, .int .u32 y1, .int .u32 y2, .int .u32 y3] tp) q #[.int .u32 r, .int .u32 y, .int .u32 y0, .int .u32 y1, .int .u32 y2, .int .u32 y3] tq).drew.cell? ⟨q, 4, none⟩ = some (.int .u32 y2) ∧ (put (put (put v a #[.int .u32 m, .int .u32 l, .int .u32 c0, .int .u32 c1, .int .u32 c2, .int .u32 c3] ta) p #[.int .u32 r, .int .u32 y, .int .u32 y0, .int .u32 y1, .int .u32 y2, .int .u32 y3] tp) q #[.int .u32 r, .int .u32 y, .int .u32 y0, .int .u32 y1, .int .u32 y2, .int .u32 y3] tq).drew.cell? ⟨q, 5, none⟩ = some (.int .u32 y3) := by
  simp only [cell_drew']
  exact cells18 ha hp hq np nq pq
theorem wright_is {r : Bool} (m l c0 c1 c2 c3 : Int) (l0 : 0 ≤ l) (l1 : l < 4294967296) (b0 : 0 ≤ c0) (g0 : c0 < 4294967296) (b1 : 0 ≤ c1) (g1 : c1 < 4294967296) (b2 : 0 ≤ c2) (g2 : c2 < 4294967296) (b3 : 0 ≤ c3) (g3 : c3 < 4294967296) (h : Hid (wrightB m l c0 c1 c2 c3 = r)) (w : World) :
    Calls Try.prog 42 #[.agg #[.int .u32 m, .int .u32 l, .int .u32 c0, .int .u32 c1, .int .u32 c2, .int .u32 c3]] w fun e w' => e = .returned (.bool r) ∧ Below w.heap.size w w' := by
  rw [← h.out]; exact wright_c m l c0 c1 c2 c3 l0 l1 b0 g0 b1 g1 b2 g2 b3 g3 w
theorem refWput_is (m l c0 c1 c2 c3 s r y y0 y1 y2 y3 ye : Int) (l0 : 0 ≤ l) (l1 : l < 4294967296) (b0 : 0 ≤ c0) (d0 : c0 ≤ 3) (b1 : 0 ≤ c1) (d1 : c1 ≤ 3) (b2 : 0 ≤ c2) (d2 : c2 ≤ 3) (b3 : 0 ≤ c3) (d3 : c3 ≤ 3) (s0 : 0 ≤ s) (s1 : s < 4294967296) (hm : Hid (putM m l c0 c1 c2 c3 s = r)) (hy : Hid (pL l c0 c1 c2 c3 (s / 3) = y)) (k0 : Hid (pC l c0 c1 c2 c3 (s / 3) 0 c0 = y0)) (k1 : Hid (pC l c0 c1 c2 c3 (s / 3) 1 c1 = y1)) (k2 : Hid (pC l c0 c1 c2 c3 (s / 3) 2 c2 = y2)) (k3 : Hid (pC l c0 c1 c2 c3 (s / 3) 3 c3 = y3)) (he : Hid (pE l c0 c1 c2 c3 (s / 3) = ye)) (w : World) :
    Calls Try.prog 48 #[.agg #[.int .u32 m, .int .u32 l, .int .u32 c0, .int .u32 c1, .int .u32 c2, .int .u32 c3], .int .u32 s] w fun e w' => e = .returned (.tuple #[.agg #[.int .u32 r, .int .u32 y, .int .u32 y0, .int .u32 y1, .int .u32 y2, .int .u32 y3], .int .i64 ye]) ∧ Below w.heap.size w w' := by
  rw [← hm.out, ← hy.out, ← k0.out, ← k1.out, ← k2.out, ← k3.out, ← he.out]; exact refWput_c m l c0 c1 c2 c3 s l0 l1 b0 d0 b1 d1 b2 d2 b3 d3 s0 s1 w

set_option maxHeartbeats 8000000 in
theorem windowTells_no (m l c0 c1 c2 c3 s : Int) (l0 : 0 ≤ l) (l1 : l < 4294967296) (b0 : 0 ≤ c0) (g0 : c0 < 4294967296) (b1 : 0 ≤ c1) (g1 : c1 < 4294967296) (b2 : 0 ≤ c2) (g2 : c2 < 4294967296) (b3 : 0 ≤ c3) (g3 : c3 < 4294967296) (s0 : 0 ≤ s) (s1 : s < 4294967296) (hR : Hid (wrightB m l c0 c1 c2 c3 = false)) (w : World) :
    Calls Try.prog 10 #[.agg #[.int .u32 m, .int .u32 l, .int .u32 c0, .int .u32 c1, .int .u32 c2, .int .u32 c3], .int .u32 s] w fun e w' => e = .returned (.bool true) ∧ Below w.heap.size w w' := by
  have hn := Ring.neq_wsame 12 0 1 3 3 3
  go_enter Try.func10, Try.ntmps10
  go_wp2_with fail
  refine (awake7_c _).mono ?_
  rintro e x ⟨rfl, hb⟩
  obtain ⟨v1, rfl, u1, h1⟩ := first1 hb
  clear hb 
  simp only []
  go_upto_region 3 with fail
  go_cut [22] (fun b wx => ∃ v, b = .bool false ∧ wx = put v w.heap.size #[.int .u32 m, .int .u32 l, .int .u32 c0, .int .u32 c1, .int .u32 c2, .int .u32 c3] 55 ∧ w.heap.size < v.heap.size ∧ Below w.heap.size w v)
  case first =>
    go_region_held3 (fun wz => wz.cell? ⟨w.heap.size, 0, none⟩ = some (.int .u32 m) ∧ wz.cell? ⟨w.heap.size, 1, none⟩ = some (.int .u32 l) ∧ wz.cell? ⟨w.heap.size, 2, none⟩ = some (.int .u32 c0) ∧ wz.cell? ⟨w.heap.size, 3, none⟩ = some (.int .u32 c1) ∧ wz.cell? ⟨w.heap.size, 4, none⟩ = some (.int .u32 c2) ∧ wz.cell? ⟨w.heap.size, 5, none⟩ = some (.int .u32 c3)) (first | with_reducible exact cells1wd u1 | with_reducible exact cells1w u2 | with_reducible exact cells1w u3 | with_reducible exact cells1w u4 | with_reducible exact cells1w u5 | with_reducible exact cells1w u6 | with_reducible exact cells1w u7 | with_reducible assumption)
      (first | (go_at_call 42; refine (wright_is m l c0 c1 c2 c3 l0 l1 b0 g0 b1 g1 b2 g2 b3 g3 hR _).mono ?_; rintro e x ⟨rfl, hb⟩; obtain ⟨v2, rfl, u2, h2⟩ := step1r hb h1 (Nat.le_refl _) u1; clear hb; simp only []) | (go_at_call 44; refine (own_c m l c0 c1 c2 c3 _).mono ?_; rintro e x ⟨rfl, hb⟩; obtain ⟨v3, rfl, u3, h3⟩ := step1 hb h2 (Nat.le_refl _) u2; clear hb; simp only []) | (go_at_call 43; refine (refWright_is m l c0 c1 c2 c3 l0 l1 b0 g0 b1 g1 b2 g2 b3 g3 hR _).mono ?_; rintro e x ⟨rfl, hb⟩; obtain ⟨v4, rfl, u4, h4⟩ := step1 hb h3 (Nat.le_refl _) u3; clear hb; simp only []) | (go_at_call 45; refine (Window.genesis_c _).mono ?_; rintro e x ⟨rfl, hb⟩; obtain ⟨v5, rfl, u5, h5⟩ := step1 hb h4 (Nat.le_refl _) u4; clear hb; simp only []) | (go_at_call 44; refine (own_c 12 0 1 3 3 3 _).mono ?_; rintro e x ⟨rfl, hb⟩; obtain ⟨v6, rfl, u6, h6⟩ := step1 hb h5 (Nat.le_refl _) u5; clear hb; simp only []) | (go_at_call 46; refine (refWgenesis_c _).mono ?_; rintro e x ⟨rfl, hb⟩; obtain ⟨v7, rfl, u7, h7⟩ := step1 hb h6 (Nat.le_refl _) u6; clear hb; simp only []))
    all_goals
      go_wp2_with fail
      go_meet
      exact ⟨v7, rfl, rfl, u7, h7⟩
  case rest =>
    obtain ⟨v8, rfl, rfl, u8, h8⟩ := hcut
    go_wp2_with fail
    refine (own_c m l c0 c1 c2 c3 _).mono ?_
    rintro e x ⟨rfl, hb⟩
    obtain ⟨v9, rfl, u9, h9⟩ := step1 hb h8 (Nat.le_refl _) u8
    clear hb 
    simp only []
    go_wp2_with fail
    refine (refWright_is m l c0 c1 c2 c3 l0 l1 b0 g0 b1 g1 b2 g2 b3 g3 hR _).mono ?_
    rintro e x ⟨rfl, hb⟩
    obtain ⟨v10, rfl, u10, h10⟩ := step1 hb h9 (Nat.le_refl _) u9
    clear hb 
    simp only []
    go_wp2_with fail
    go_returns
    exact ⟨rfl, by (repeat' (first | (with_reducible exact Below.refl _ _) | (with_reducible assumption) | (with_reducible refine drw ?_ _) | (with_reducible refine below_put _ _ _ _ ?_ ?_) | (with_reducible refine Below.alloc ?_ ?_ _) | (with_reducible refine Below.setCell ?_ ?_ _) | (with_reducible exact Nat.le_refl _) | (simp; done) | omega | (simp only [size_put]; omega) | (simp; omega)))⟩

set_option maxHeartbeats 16000000 in
theorem windowTells_yes (m l c0 c1 c2 c3 s ra r y y0 y1 y2 y3 ye : Int) (l0 : 0 ≤ l) (l1 : l < 4294967296) (b0 : 0 ≤ c0) (d0 : c0 ≤ 3) (b1 : 0 ≤ c1) (d1 : c1 ≤ 3) (b2 : 0 ≤ c2) (d2 : c2 ≤ 3) (b3 : 0 ≤ c3) (d3 : c3 ≤ 3) (s0 : 0 ≤ s) (s1 : s < 4294967296) (hR : Hid (wrightB m l c0 c1 c2 c3 = true)) (hra : Hid (relV m l c0 c1 c2 c3 s = ra)) (hm : Hid (putM m l c0 c1 c2 c3 s = r)) (hy : Hid (pL l c0 c1 c2 c3 (s / 3) = y)) (k0 : Hid (pC l c0 c1 c2 c3 (s / 3) 0 c0 = y0)) (k1 : Hid (pC l c0 c1 c2 c3 (s / 3) 1 c1 = y1)) (k2 : Hid (pC l c0 c1 c2 c3 (s / 3) 2 c2 = y2)) (k3 : Hid (pC l c0 c1 c2 c3 (s / 3) 3 c3 = y3)) (he : Hid (pE l c0 c1 c2 c3 (s / 3) = ye)) (w : World) :
    Calls Try.prog 10 #[.agg #[.int .u32 m, .int .u32 l, .int .u32 c0, .int .u32 c1, .int .u32 c2, .int .u32 c3], .int .u32 s] w fun e w' => e = .returned (.bool true) ∧ Below w.heap.size w w' := by
  have hq := Ring.eql_wsame r y y0 y1 y2 y3
  have hn := Ring.neq_wsame 12 0 1 3 3 3
  go_enter Try.func10, Try.ntmps10
  go_wp2_with fail
  refine (awake7_c _).mono ?_
  rintro e x ⟨rfl, hb⟩
  obtain ⟨v1, rfl, u1, h1⟩ := first1 hb
  clear hb 
  simp only []
  go_upto_region 3 with fail
  go_cut [22] (fun b wx => ∃ v, b = .bool false ∧ wx = put v w.heap.size #[.int .u32 m, .int .u32 l, .int .u32 c0, .int .u32 c1, .int .u32 c2, .int .u32 c3] 55 ∧ w.heap.size < v.heap.size ∧ Below w.heap.size w v)
  case first =>
    go_region_held3 (fun wz => wz.cell? ⟨w.heap.size, 0, none⟩ = some (.int .u32 m) ∧ wz.cell? ⟨w.heap.size, 1, none⟩ = some (.int .u32 l) ∧ wz.cell? ⟨w.heap.size, 2, none⟩ = some (.int .u32 c0) ∧ wz.cell? ⟨w.heap.size, 3, none⟩ = some (.int .u32 c1) ∧ wz.cell? ⟨w.heap.size, 4, none⟩ = some (.int .u32 c2) ∧ wz.cell? ⟨w.heap.size, 5, none⟩ = some (.int .u32 c3)) (first | with_reducible exact cells1wd u1 | with_reducible exact cells1w u2 | with_reducible exact cells1w u3 | with_reducible exact cells1w u4 | with_reducible exact cells1w u5 | with_reducible exact cells1w u6 | with_reducible exact cells1w u7 | with_reducible assumption)
      (first | (go_at_call 42; refine (wright_is m l c0 c1 c2 c3 l0 l1 b0 (by omega) b1 (by omega) b2 (by omega) b3 (by omega) hR _).mono ?_; rintro e x ⟨rfl, hb⟩; obtain ⟨v2, rfl, u2, h2⟩ := step1r hb h1 (Nat.le_refl _) u1; clear hb; simp only []) | (go_at_call 44; refine (own_c m l c0 c1 c2 c3 _).mono ?_; rintro e x ⟨rfl, hb⟩; obtain ⟨v3, rfl, u3, h3⟩ := step1 hb h2 (Nat.le_refl _) u2; clear hb; simp only []) | (go_at_call 43; refine (refWright_is m l c0 c1 c2 c3 l0 l1 b0 (by omega) b1 (by omega) b2 (by omega) b3 (by omega) hR _).mono ?_; rintro e x ⟨rfl, hb⟩; obtain ⟨v4, rfl, u4, h4⟩ := step1 hb h3 (Nat.le_refl _) u3; clear hb; simp only []) | (go_at_call 45; refine (Window.genesis_c _).mono ?_; rintro e x ⟨rfl, hb⟩; obtain ⟨v5, rfl, u5, h5⟩ := step1 hb h4 (Nat.le_refl _) u4; clear hb; simp only []) | (go_at_call 44; refine (own_c 12 0 1 3 3 3 _).mono ?_; rintro e x ⟨rfl, hb⟩; obtain ⟨v6, rfl, u6, h6⟩ := step1 hb h5 (Nat.le_refl _) u5; clear hb; simp only []) | (go_at_call 46; refine (refWgenesis_c _).mono ?_; rintro e x ⟨rfl, hb⟩; obtain ⟨v7, rfl, u7, h7⟩ := step1 hb h6 (Nat.le_refl _) u6; clear hb; simp only []))
    all_goals
      go_wp2_with fail
      go_meet
      exact ⟨v7, rfl, rfl, u7, h7⟩
  case rest =>
    obtain ⟨v8, rfl, rfl, u8, h8⟩ := hcut
    go_wp2_with fail
    refine (own_c m l c0 c1 c2 c3 _).mono ?_
    rintro e x ⟨rfl, hb⟩
    obtain ⟨v9, rfl, u9, h9⟩ := step1 hb h8 (Nat.le_refl _) u8
    clear hb 
    simp only []
    go_wp2_with fail
    refine (refWright_is m l c0 c1 c2 c3 l0 l1 b0 (by omega) b1 (by omega) b2 (by omega) b3 (by omega) hR _).mono ?_
    rintro e x ⟨rfl, hb⟩
    obtain ⟨v10, rfl, u10, h10⟩ := step1 hb h9 (Nat.le_refl _) u9
    clear hb 
    simp only []
    go_wp2_with fail
    refine (wput_is m l c0 c1 c2 c3 s r y y0 y1 y2 y3 ye l0 b0 d0 b1 d1 b2 d2 b3 d3 s0 s1 hm hy k0 k1 k2 k3 he _).mono ?_
    rintro e x ⟨rfl, hb⟩
    obtain ⟨v11, rfl, u11, h11⟩ := step1 hb h10 (Nat.le_refl _) u10
    clear hb 
    simp only []
    obtain ⟨p, ep⟩ : ∃ p, v11.heap.size = p := ⟨_, rfl⟩
    rw [ep] at u11
    have np : ¬ w.heap.size = p := by omega
    have pn : ¬ p = w.heap.size := by omega
    have zp : w.heap.size ≤ p := by omega
    go_wp2_with fail
    refine (own_c m l c0 c1 c2 c3 _).mono ?_
    rintro e x ⟨rfl, hb⟩
    obtain ⟨v12, rfl, u12, k12, h12⟩ := new1 hb h11 ep (Nat.le_refl _) u11
    clear hb ep
    simp only []
    go_wp2_with fail
    refine (refWput_is m l c0 c1 c2 c3 s r y y0 y1 y2 y3 ye l0 l1 b0 d0 b1 d1 b2 d2 b3 d3 s0 s1 hm hy k0 k1 k2 k3 he _).mono ?_
    rintro e x ⟨rfl, hb⟩
    obtain ⟨v13, rfl, u13, k13, h13⟩ := step2 hb h12 (Nat.le_refl _) zp u12 k12 np
    clear hb
    obtain ⟨q, eq⟩ : ∃ q, v13.heap.size = q := ⟨_, rfl⟩
    rw [eq] at u13 k13
    have nq : ¬ w.heap.size = q := by omega
    have qn : ¬ q = w.heap.size := by omega
    have pq : ¬ p = q := by omega
    have qp : ¬ q = p := by omega
    have zq : w.heap.size ≤ q := by omega
    clear h1 u1 h8 u8 h9 u9 h10 u10 h11 u11 h12 u12 k12 hn
    simp only []
    go_wp2_with fail
    obtain ⟨v14, e14, u14, k14, j14, h14⟩ := new2 (Below.refl _ _) h13 eq (Nat.le_refl _) zp u13 k13 np
    rw [e14]
    clear e14 eq h13 u13 k13
    go_region_held3 (fun wz => wz.cell? ⟨w.heap.size, 0, none⟩ = some (.int .u32 m) ∧ wz.cell? ⟨w.heap.size, 1, none⟩ = some (.int .u32 l) ∧ wz.cell? ⟨w.heap.size, 2, none⟩ = some (.int .u32 c0) ∧ wz.cell? ⟨w.heap.size, 3, none⟩ = some (.int .u32 c1) ∧ wz.cell? ⟨w.heap.size, 4, none⟩ = some (.int .u32 c2) ∧ wz.cell? ⟨w.heap.size, 5, none⟩ = some (.int .u32 c3) ∧ wz.cell? ⟨p, 0, none⟩ = some (.int .u32 r) ∧ wz.cell? ⟨p, 1, none⟩ = some (.int .u32 y) ∧ wz.cell? ⟨p, 2, none⟩ = some (.int .u32 y0) ∧ wz.cell? ⟨p, 3, none⟩ = some (.int .u32 y1) ∧ wz.cell? ⟨p, 4, none⟩ = some (.int .u32 y2) ∧ wz.cell? ⟨p, 5, none⟩ = some (.int .u32 y3) ∧ wz.cell? ⟨q, 0, none⟩ = some (.int .u32 r) ∧ wz.cell? ⟨q, 1, none⟩ = some (.int .u32 y) ∧ wz.cell? ⟨q, 2, none⟩ = some (.int .u32 y0) ∧ wz.cell? ⟨q, 3, none⟩ = some (.int .u32 y1) ∧ wz.cell? ⟨q, 4, none⟩ = some (.int .u32 y2) ∧ wz.cell? ⟨q, 5, none⟩ = some (.int .u32 y3)) (first | with_reducible exact cells18d u14 k14 j14 np nq pq | with_reducible exact cells18 u15 k15 j15 np nq pq | with_reducible exact cells18 u16 k16 j16 np nq pq | with_reducible exact cells18 u17 k17 j17 np nq pq | with_reducible exact cells18 u18 k18 j18 np nq pq | with_reducible assumption)
      (first | (go_at_call 44; refine (own_c r y y0 y1 y2 y3 _).mono ?_; rintro e x ⟨rfl, hb⟩; obtain ⟨v15, rfl, u15, k15, j15, h15⟩ := step3r hb h14 (Nat.le_refl _) zp zq u14 k14 j14 np nq pq; clear hb; simp only []) | (go_at_call 49; refine (relative_is m l c0 c1 c2 c3 s ra l0 b0 d0 b1 d1 b2 d2 b3 d3 s0 s1 hra _).mono ?_; rintro e x ⟨rfl, hb⟩; obtain ⟨v16, rfl, u16, k16, j16, h16⟩ := step3 hb h15 (Nat.le_refl _) zp zq u15 k15 j15 np nq pq; clear hb; simp only []) | (go_at_call 44; refine (own_c m l c0 c1 c2 c3 _).mono ?_; rintro e x ⟨rfl, hb⟩; obtain ⟨v17, rfl, u17, k17, j17, h17⟩ := step3 hb h16 (Nat.le_refl _) zp zq u16 k16 j16 np nq pq; clear hb; simp only []) | (go_at_call 50; refine (refRelative_is m l c0 c1 c2 c3 s ra l0 l1 b0 d0 b1 d1 b2 d2 b3 d3 s0 s1 hra _).mono ?_; rintro e x ⟨rfl, hb⟩; obtain ⟨v18, rfl, u18, k18, j18, h18⟩ := step3 hb h17 (Nat.le_refl _) zp zq u17 k17 j17 np nq pq; clear hb; simp only []))
    all_goals
      go_wp2_with fail
      go_returns
      exact ⟨rfl, by (repeat' (first | (with_reducible exact Below.refl _ _) | (with_reducible assumption) | (with_reducible refine drw ?_ _) | (with_reducible refine below_put _ _ _ _ ?_ ?_) | (with_reducible refine Below.alloc ?_ ?_ _) | (with_reducible refine Below.setCell ?_ ?_ _) | (with_reducible exact Nat.le_refl _) | (simp; done) | omega | (simp only [size_put]; omega) | (simp; omega)))⟩

theorem windowTells_c (m l c0 c1 c2 c3 s : Int) (l0 : 0 ≤ l) (l1 : l < 4294967296) (b0 : 0 ≤ c0) (g0 : c0 < 4294967296) (b1 : 0 ≤ c1) (g1 : c1 < 4294967296) (b2 : 0 ≤ c2) (g2 : c2 < 4294967296) (b3 : 0 ≤ c3) (g3 : c3 < 4294967296) (s0 : 0 ≤ s) (s1 : s < 4294967296) (w : World) :
    Calls Try.prog 10 #[.agg #[.int .u32 m, .int .u32 l, .int .u32 c0, .int .u32 c1, .int .u32 c2, .int .u32 c3], .int .u32 s] w fun e w' => e = .returned (.bool true) ∧ Below w.heap.size w w' := by
  by_cases hR : wrightB m l c0 c1 c2 c3 = true
  · have hR2 := hR
    unfold wrightB rightB at hR2
    rw [Bool.and_eq_true, decide_eq_true_eq, decide_eq_true_eq] at hR2
    obtain ⟨hm12, d0, d1, d2, d3, hp⟩ := hR2
    exact windowTells_yes m l c0 c1 c2 c3 s _ _ _ _ _ _ _ _ l0 l1 b0 d0 b1 d1 b2 d2 b3 d3 s0 s1 hR rfl rfl rfl rfl rfl rfl rfl rfl w
  · exact windowTells_no m l c0 c1 c2 c3 s l0 l1 b0 g0 b1 g1 b2 g2 b3 g3 s0 s1 (by simpa [Hid] using hR) w
end Go.Proofs.Ytaoelppkognakaa.WinTells
