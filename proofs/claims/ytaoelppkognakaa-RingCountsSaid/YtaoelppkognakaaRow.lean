/- What a call owns (a row that it appends to) next to its own blocks, written out: small lemmas on worlds. -/
import Derived.Test.YtaoelppkognakaaHist
import Derived.Deep.AppendLies
namespace Go.Proofs.Ytaoelppkognakaa.Wd
open Go.RowKit
set_option linter.unusedVariables false

theorem own_below {w w' : World} {base : Nat} {e : TypeId} {size : Nat} {v : Value} {n : Nat} {xs : List Value} (h : w.ownsRow base e size v n xs) (hb : Below w.heap.size w w') : w'.ownsRow base e size v n xs :=
  h.kept (row := none) ⟨hb.os, hb.tape, hb.output, hb.size, fun k hk _ => hb.block k hk⟩ (by cases hv : v.ownBlock <;> simp)
theorem own_lt {w : World} {base : Nat} {e : TypeId} {size : Nat} {n g cap : Nat} {xs : List Value} (h : w.ownsRow base e size (.slice (some ⟨g, 0, none⟩) n cap) n xs) : base ≤ g ∧ g < w.heap.size := h.lt g rfl
theorem own_put {w : World} {base : Nat} {e : TypeId} {size : Nat} {n g cap b : Nat} {cs : Array Value} {t : TypeId} {xs : List Value} (h : w.ownsRow base e size (.slice (some ⟨g, 0, none⟩) n cap) n xs) (ne : g ≠ b) : (put w b cs t).ownsRow base e size (.slice (some ⟨g, 0, none⟩) n cap) n xs := by
  obtain ⟨h1, h2⟩ := h
  refine ⟨h1, ?_⟩
  rcases h2 with h2 | ⟨g', cap', cur, hv, hg, hh, r⟩
  · exact .inl h2
  · right
    refine ⟨g', cap', cur, hv, hg, ?_, r⟩
    have : g' = g := by simp at hv; exact hv.1.symm
    subst this
    rw [heap_put_other _ _ _ _ ne]; exact hh
theorem own_cell {w : World} {base : Nat} {e : TypeId} {n g cap : Nat} {zs : List Int} {k : IntKind} (h : w.ownsRow base e 1 (.slice (some ⟨g, 0, none⟩) n cap) n (zs.map (Value.int k))) (hz : zs.length = n) (j : Nat) (hj : j < n) : w.cell? ⟨g, j, none⟩ = some (.int k (zs[j]?.getD 0)) := by
  rw [h.cellAt j (by omega), List.getElem?_map, List.getElem?_eq_getElem (by omega)]; rfl
/-- A block that is there stays in a later world. -/
theorem stays {B : Nat} {w w' : World} (hb : Below B w w') {k : Nat} {o : Obj} (h : w.heap[k]? = some o) (hk : k < B) : w'.heap[k]? = some o := (hb.block k hk).trans h
theorem six {w : World} {p : Nat} {m l c0 c1 c2 c3 : Int} {T : TypeId} (h : w.heap[p]? = some (.cells #[.int .u32 m, .int .u32 l, .int .u32 c0, .int .u32 c1, .int .u32 c2, .int .u32 c3] T)) :
    w.cell? ⟨p, 0, none⟩ = some (.int .u32 m) ∧ w.cell? ⟨p, 1, none⟩ = some (.int .u32 l) ∧ w.cell? ⟨p, 2, none⟩ = some (.int .u32 c0) ∧ w.cell? ⟨p, 3, none⟩ = some (.int .u32 c1) ∧ w.cell? ⟨p, 4, none⟩ = some (.int .u32 c2) ∧ w.cell? ⟨p, 5, none⟩ = some (.int .u32 c3) := by
  refine ⟨?_, ?_, ?_, ?_, ?_, ?_⟩ <;> simp [World.cell?, h]
theorem five {w : World} {p : Nat} {l c0 c1 c2 c3 : Int} {T : TypeId} (h : w.heap[p]? = some (.cells #[.int .u32 l, .int .u32 c0, .int .u32 c1, .int .u32 c2, .int .u32 c3] T)) :
    w.cell? ⟨p, 0, none⟩ = some (.int .u32 l) ∧ w.cell? ⟨p, 1, none⟩ = some (.int .u32 c0) ∧ w.cell? ⟨p, 2, none⟩ = some (.int .u32 c1) ∧ w.cell? ⟨p, 3, none⟩ = some (.int .u32 c2) ∧ w.cell? ⟨p, 4, none⟩ = some (.int .u32 c3) := by
  refine ⟨?_, ?_, ?_, ?_, ?_⟩ <;> simp [World.cell?, h]
theorem info_u32 : (Try.prog.info? 22).map (fun i => (i.zero, i.size, i.bytes)) = some (some (.int .u32 0), 1, 4) := by kernel_rfl
end Go.Proofs.Ytaoelppkognakaa.Wd
