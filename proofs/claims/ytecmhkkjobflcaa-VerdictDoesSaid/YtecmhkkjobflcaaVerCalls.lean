/- Contracts of a cache's New, Get and Len. -/
import Derived.Test.YtecmhkkjobflcaaCache
import Derived.Deep.RegionHeld3
import Derived.Deep.DeepCutAuto
import Derived.Maps.OwnOps
import Derived.Carry
import Derived.Handy
namespace Go.Proofs.Ytecmhkkjobflcaa.Ver
open Go.RowKit Go.WideMaps Go.Maps
set_option linter.unusedVariables false
set_option linter.unusedSimpArgs false
set_option maxRecDepth 100000

/-- A world holds a cache: its struct's block, its map's, the row of its order (blocks from B on). -/
structure Holds (w : World) (B cb bm : Nat) (room : Int) (v : Value) (n : Nat) (D : DataW Unit) (L : Known) : Prop where
  blk : w.heap[cb]? = some (.cells #[.int .i64 room, .map (some bm), v] 69)
  map : w.ownsMap Try.prog 48 (plainElem Try.prog 3) bm n D
  row : w.ownsRow B 48 32 v L.length (L.flatMap fun p => cs p.1)
  says : Says D L
  sep : bm < cb ∧ cb < B
  nil : L = [] → v = .slice none 0 0
  base : B ≤ w.heap.size

theorem Holds.lt {w : World} {B cb bm : Nat} {room : Int} {v : Value} {n : Nat} {D : DataW Unit} {L : Known} (h : Holds w B cb bm room v n D L) : cb < w.heap.size := by
  rcases Nat.lt_or_ge cb w.heap.size with h' | h'
  · exact h'
  · have := h.blk; rw [Array.getElem?_eq_none h'] at this; cases this
/-- Calls that make new blocks alone leave it. -/
theorem Holds.below {w w' : World} {B cb bm : Nat} {room : Int} {v : Value} {n : Nat} {D : DataW Unit} {L : Known} (h : Holds w B cb bm room v n D L) (hb : Below w.heap.size w w') : Holds w' B cb bm room v n D L :=
  have hg : w.grownBy w' none := ⟨hb.os, hb.tape, hb.output, hb.size, fun k hk _ => hb.block k hk⟩
  ⟨(hb.block cb h.lt).trans h.blk, h.map.kept hg (by simp), h.row.kept hg (by cases hv : v.ownBlock <;> simp), h.says, h.sep, h.nil, Nat.le_trans h.base hb.size⟩
theorem Holds.cell1 {w : World} {B cb bm : Nat} {room : Int} {v : Value} {n : Nat} {D : DataW Unit} {L : Known} (h : Holds w B cb bm room v n D L) :
    w.cell? ⟨cb, 0, none⟩ = some (.int .i64 room) ∧ w.cell? ⟨cb, 1, none⟩ = some (.map (some bm)) ∧ w.cell? ⟨cb, 2, none⟩ = some v := by
  have hb := h.blk
  refine ⟨?_, ?_, ?_⟩ <;> simp [World.cell?, hb]

theorem new_no (room : Int) (h : room < 1 ∨ 100 < room) (w : World) :
    Calls Try.prog 28 #[.int .i64 room] w fun e w' => e = .returned (.tuple #[.pointer none, .int .i64 1]) ∧ w' = w := by
  by_cases h1 : room < 1
  all_goals
    go_enter Try.func28, Try.ntmps28
    go_wp2_with fail
    go_returns
    exact ⟨rfl, rfl⟩

theorem new_ok (room : Int) (h1 : 1 ≤ room) (h2 : room ≤ 100) (w : World) :
    Calls Try.prog 28 #[.int .i64 room] w fun e w' => e = .returned (.tuple #[.pointer (some ⟨w.heap.size + 1, 0, none⟩), .int .i64 0]) ∧ Holds w' (w.heap.size + 2) (w.heap.size + 1) w.heap.size room (.slice none 0 0) 0 (.map []) [] ∧ Below w.heap.size w w' := by
  have hmm := @run_makeMap Try.prog
  go_enter Try.func28, Try.ntmps28
  go_wp2_with fail
  go_returns
  have hb := heap_alloc_new (w.alloc (.map #[] 0)) (.cells #[.int .i64 room, .map (some w.heap.size), .slice none 0 0] 69)
  refine ⟨rfl, ⟨by simpa using hb, (World.ownsMap_made w Try.prog 48 _).alloc _, World.ownsRow_nil _ _ _ _, says_nil, by omega, fun _ => rfl, by simp⟩, (Below.alloc (Below.refl _ _) (Nat.le_refl _) _).alloc (by simp) _⟩

theorem len_c {w : World} {B cb bm : Nat} {room : Int} {v : Value} {n : Nat} {D : DataW Unit} {L : Known} (C : Holds w B cb bm room v n D L) :
    Calls Try.prog 34 #[.pointer (some ⟨cb, 0, none⟩)] w fun e w' => e = .returned (.int .i64 L.length) ∧ w' = w := by
  obtain ⟨c0, c1, c2⟩ := C.cell1
  have hown := C.map
  have hs := C.says.size
  go_enter Try.func34, Try.ntmps34
  go_wp2_with (at_len; refine wpList_len_own _ rfl _ 67 rfl 48 3 Try.underlying67 _ bm n D rfl hown ?_)
  go_returns
  exact ⟨rfl, rfl⟩

theorem range_of {w : World} {b : Nat} {T : TypeId} {xs : List Value} (h : w.heap[b]? = some (.cells xs.toArray T)) : w.rangeAt b 0 xs := fun j v hj => by
  rw [Nat.zero_add, cell_of_row w b j _ T (0, 0) h]; simpa using hj
theorem look_c {w : World} {B cb bm : Nat} {room : Int} {v : Value} {n : Nat} {D : DataW Unit} {L : Known} (C : Holds w B cb bm room v n D L) (h : List Int) (H : IsHash h) :
    (Instr.lookup 67 (.map (some bm)) (.agg (cs h).toArray) true).run Try.prog w = .ok (.tuple #[.int .i64 (num (verd L h)), .bool (isIn L h)]) w := by
  obtain ⟨v', ps, hrun, hat⟩ := C.map.look_ok law Try.underlying67 (zeroInt w) (plainElem_int Try.underlying3 (by decide)) (key_of H)
  obtain ⟨c, rfl, hc, _⟩ := plainElem_int_inv Try.underlying3 hat
  have h1 := congrArg Prod.fst hc
  simp only at h1
  rw [C.says.at_ h H] at h1
  have h2 : num (verd L h) = c := by
    injection h1 with h1
    injection h1
  rw [h2, ← C.says.has h H]
  exact hrun
set_option maxHeartbeats 1000000 in
theorem get_c {w : World} {B cb bm : Nat} {room : Int} {v : Value} {n : Nat} {D : DataW Unit} {L : Known} (C : Holds w B cb bm room v n D L) (h : List Int) (H : IsHash h) :
    Calls Try.prog 32 #[.pointer (some ⟨cb, 0, none⟩), .agg (cs h).toArray] w fun e w' => e = .returned (.tuple #[.bool (verd L h), .bool (isIn L h)]) ∧ Below w.heap.size w w' := by
  obtain ⟨c0, c1, c2⟩ := C.cell1
  have hlt := C.lt
  go_enter Try.func32, Try.ntmps32
  have hrun := look_c (C.below ((Below.refl _ _).alloc (Nat.le_refl _) (.cells (cs h).toArray 48)).drew) h H
  have hu := Try.underlying48
  have hi : (Try.prog.info? 48).map (·.size) = some (cs h).length := by rw [sizeHash, cs_len H]
  have c1' : (w.alloc (.cells (cs h).toArray 48)).drew.cell? ⟨cb, 1, none⟩ = some (.map (some bm)) := (World.cell?_alloc_past _ _ _ hlt).trans c1
  have hr : (w.alloc (.cells (cs h).toArray 48)).drew.rangeAt w.heap.size 0 (cs h) := range_of (heap_alloc_new _ _)
  go_wp2_with fail
  go_region_held3 (fun wz => wz.cell? ⟨cb, 1, none⟩ = some (.map (some bm)) ∧ wz.rangeAt w.heap.size 0 (cs h)) (first | exact ⟨c1', hr⟩ | assumption) (fail)
  all_goals
    go_wp2_with fail
    go_returns
    exact ⟨by show Ending.returned (.tuple #[.bool (num (verd L h) == 1), .bool (isIn L h)]) = _; cases verd L h <;> rfl, ((Below.refl _ _).alloc (Nat.le_refl _) _).drew⟩
end Go.Proofs.Ytecmhkkjobflcaa.Ver
