/- Worlds whose own blocks stay written out behind a call that changes nothing that was there: plain facts on the model's worlds, no program. -/
import Derived.Handy
import Derived.WalkSmall
import Derived.Laws.Rows
import Derived.Laws.NewBlocks
import Derived.Laws.World
import Derived.Deep.Draws
namespace Go.Proofs.Ytaoelppkognakaa.Wd
open Go.RowKit
set_option linter.unusedVariables false
set_option linter.unusedSimpArgs false

/-- The world in which block b holds these cells. -/
def put (w : World) (b : Nat) (cs : Array Value) (t : TypeId) : World := { w with heap := w.heap.setIfInBounds b (.cells cs t) }

section
variable (w : World) (b : Nat) (cs : Array Value) (t : TypeId)
theorem size_put : (put w b cs t).heap.size = w.heap.size := by simp [put]
theorem heap_put_same (h : b < w.heap.size) : (put w b cs t).heap[b]? = some (.cells cs t) := by simp [put, h]
theorem heap_put_other {k : Nat} (h : k ≠ b) : (put w b cs t).heap[k]? = w.heap[k]? := by
  simp only [put]
  rw [Array.getElem?_setIfInBounds_ne (by omega)]
theorem put_self (h : w.heap[b]? = some (.cells cs t)) : put w b cs t = w := by
  obtain ⟨heap, tape, drawn, os, output⟩ := w
  simp only [put]
  congr 1
  apply Array.ext_getElem?
  intro i
  by_cases e : b = i
  · subst e
    rw [Array.getElem?_setIfInBounds_self]
    have : b < heap.size := by
      rcases Nat.lt_or_ge b heap.size with g | g
      · exact g
      · simp [Array.getElem?_eq_none g] at h
    simp [this] at h ⊢
    exact h.symm
  · rw [Array.getElem?_setIfInBounds_ne e]
theorem cell_put_same (i : Nat) (h : b < w.heap.size) : (put w b cs t).cell? ⟨b, i, none⟩ = cs[i]? := by simp [World.cell?, heap_put_same w b cs t h]
theorem cell_put_other {k i : Nat} (h : k ≠ b) : (put w b cs t).cell? ⟨k, i, none⟩ = w.cell? ⟨k, i, none⟩ := by simp [World.cell?, heap_put_other w b cs t h]
theorem frozen_put_same (i : Nat) (h : b < w.heap.size) : (put w b cs t).frozen? ⟨b, i, none⟩ = false := frozen_of_row _ _ _ cs t (heap_put_same w b cs t h)
theorem frozen_put_other {k i : Nat} (h : k ≠ b) : (put w b cs t).frozen? ⟨k, i, none⟩ = w.frozen? ⟨k, i, none⟩ := World.frozen?_of_block (heap_put_other w b cs t h)
theorem put_put : put (put w b cs t) b = put w b := by
  funext cs' t'
  simp only [put]
  congr 1
  simp
theorem setCell_put_same (i : Nat) (v : Value) (h : b < w.heap.size) : (put w b cs t).setCell ⟨b, i, none⟩ v = put w b (cs.setIfInBounds i v) t := by
  have h1 := heap_setCell_same (put w b cs t) b i cs t v (heap_put_same w b cs t h)
  have h2 : (put w b cs t).setCell ⟨b, i, none⟩ v = put ((put w b cs t).setCell ⟨b, i, none⟩ v) b (cs.setIfInBounds i v) t := (put_self _ _ _ _ h1).symm
  rw [h2]
  obtain ⟨heap, tape, drawn, os, output⟩ := w
  simp only [put, World.setCell]
  congr 1
  apply Array.ext_getElem?
  intro k
  by_cases e : b = k
  · subst e
    rw [Array.getElem?_setIfInBounds_self, Array.getElem?_setIfInBounds_self]
    simp
  · rw [Array.getElem?_setIfInBounds_ne e, Array.getElem?_setIfInBounds_ne e, Array.getElem?_modify, if_neg (by simpa using e), Array.getElem?_setIfInBounds_ne e]
theorem setCell_put_other {k i : Nat} (v : Value) (h : k ≠ b) : (put w b cs t).setCell ⟨k, i, none⟩ v = put (w.setCell ⟨k, i, none⟩ v) b cs t := by
  obtain ⟨heap, tape, drawn, os, output⟩ := w
  simp only [put, World.setCell]
  congr 1
  apply Array.ext_getElem?
  intro j
  by_cases e : b = j
  · subst e
    rw [Array.getElem?_modify, if_neg (by simpa using h), Array.getElem?_setIfInBounds_self, Array.getElem?_setIfInBounds_self]
    simp
  · rw [Array.getElem?_setIfInBounds_ne e]
    by_cases f : k = j
    · subst f
      simp [Array.getElem?_modify, Array.getElem?_setIfInBounds_ne e]
    · rw [Array.getElem?_modify, if_neg (by simpa using f), Array.getElem?_modify, if_neg (by simpa using f), Array.getElem?_setIfInBounds_ne e]
/-- A call behind draws. -/
theorem sed {a c : World} {n : Nat} (h : Below a.heap.size a a) (k : Below (a.drewN n).heap.size (a.drewN n) c) : Below a.heap.size a c := (below_drewN h n).trans (k.mono (Nat.le_refl _))
theorem setCell_drewN (a : Addr) (v : Value) (n : Nat) : (w.drewN n).setCell a v = (w.setCell a v).drewN n := rfl
theorem alloc_drewN (o : Obj) (n : Nat) : (w.drewN n).alloc o = (w.alloc o).drewN n := rfl
theorem put_drewN (n : Nat) : put (w.drewN n) b cs t = (put w b cs t).drewN n := rfl
theorem put_drew : put w.drew b cs t = (put w b cs t).drew := rfl
theorem below_put {B : Nat} {a : World} (h : Below B a w) (hb : B ≤ b) : Below B a (put w b cs t) :=
  h.trans ⟨rfl, rfl, rfl, Nat.le_of_eq (size_put w b cs t).symm, fun k hk => heap_put_other w b cs t (by omega)⟩
end

theorem heap_alloc_at (w : World) (o : Obj) (n : Nat) (h : n = w.heap.size) : (w.alloc o).heap[n]? = some o := by subst h; exact heap_alloc_new w o
theorem alloc_put (w : World) (o : Obj) (b : Nat) (cs : Array Value) (t : TypeId) (h : b < w.heap.size) : (put w b cs t).alloc o = put (w.alloc o) b cs t := by
  obtain ⟨heap, tape, drawn, os, output⟩ := w
  simp only [put, World.alloc]
  congr 1
  simp only at h
  apply Array.ext_getElem?
  intro i
  rw [Array.getElem?_push, Array.getElem?_setIfInBounds, Array.getElem?_setIfInBounds, Array.getElem?_push]
  simp only [Array.size_setIfInBounds, Array.size_push]
  by_cases e : b = i
  · subst e
    simp [h, Nat.ne_of_lt h, Nat.lt_succ_of_lt h]
  · simp [e]
theorem heap_alloc_lt (w : World) (o : Obj) (n : Nat) (h : n < w.heap.size) : (w.alloc o).heap[n]? = w.heap[n]? := Below.heap_alloc w o n h

/-- The value of a world at own blocks behind a call that changes nothing that was there: from the call's world on. -/
theorem puts1 {W w' : World} (hb : Below W.heap.size W w') {a : Nat} {AA : Array Value} {ta : TypeId} (qa : W.heap[a]? = some (.cells AA ta)) :
    ∃ v, w' = (put v a AA ta) ∧ v.heap.size = w'.heap.size ∧ Below W.heap.size W v := by
  refine ⟨w', ?_, rfl, hb⟩
  rw [put_self w' a AA ta ((hb.block a (lt_of_block qa)).trans qa)]
theorem puts2 {W w' : World} (hb : Below W.heap.size W w') {a : Nat} {AA : Array Value} {ta : TypeId} {b : Nat} {BB : Array Value} {tb : TypeId} (qa : W.heap[a]? = some (.cells AA ta)) (qb : W.heap[b]? = some (.cells BB tb)) :
    ∃ v, w' = (put (put v a AA ta) b BB tb) ∧ v.heap.size = w'.heap.size ∧ Below W.heap.size W v := by
  refine ⟨w', ?_, rfl, hb⟩
  rw [put_self w' a AA ta ((hb.block a (lt_of_block qa)).trans qa), put_self w' b BB tb ((hb.block b (lt_of_block qb)).trans qb)]
theorem puts3 {W w' : World} (hb : Below W.heap.size W w') {a : Nat} {AA : Array Value} {ta : TypeId} {b : Nat} {BB : Array Value} {tb : TypeId} {c : Nat} {CC : Array Value} {tc : TypeId} (qa : W.heap[a]? = some (.cells AA ta)) (qb : W.heap[b]? = some (.cells BB tb)) (qc : W.heap[c]? = some (.cells CC tc)) :
    ∃ v, w' = (put (put (put v a AA ta) b BB tb) c CC tc) ∧ v.heap.size = w'.heap.size ∧ Below W.heap.size W v := by
  refine ⟨w', ?_, rfl, hb⟩
  rw [put_self w' a AA ta ((hb.block a (lt_of_block qa)).trans qa), put_self w' b BB tb ((hb.block b (lt_of_block qb)).trans qb), put_self w' c CC tc ((hb.block c (lt_of_block qc)).trans qc)]
theorem puts4 {W w' : World} (hb : Below W.heap.size W w') {a : Nat} {AA : Array Value} {ta : TypeId} {b : Nat} {BB : Array Value} {tb : TypeId} {c : Nat} {CC : Array Value} {tc : TypeId} {d : Nat} {DD : Array Value} {td : TypeId} (qa : W.heap[a]? = some (.cells AA ta)) (qb : W.heap[b]? = some (.cells BB tb)) (qc : W.heap[c]? = some (.cells CC tc)) (qd : W.heap[d]? = some (.cells DD td)) :
    ∃ v, w' = (put (put (put (put v a AA ta) b BB tb) c CC tc) d DD td) ∧ v.heap.size = w'.heap.size ∧ Below W.heap.size W v := by
  refine ⟨w', ?_, rfl, hb⟩
  rw [put_self w' a AA ta ((hb.block a (lt_of_block qa)).trans qa), put_self w' b BB tb ((hb.block b (lt_of_block qb)).trans qb), put_self w' c CC tc ((hb.block c (lt_of_block qc)).trans qc), put_self w' d DD td ((hb.block d (lt_of_block qd)).trans qd)]
theorem step1 {w0 v w' : World} {a : Nat} {AA : Array Value} {ta : TypeId} (hb : Below (put v a AA ta).heap.size (put v a AA ta) w') (hB : Below w0.heap.size w0 v) (la : w0.heap.size ≤ a) (ua : a < v.heap.size)  :
    ∃ v', w' = (put v' a AA ta) ∧ a < v'.heap.size ∧ Below w0.heap.size w0 v' := by
  have hsz : (put v a AA ta).heap.size = v.heap.size := by simp only [size_put]
  obtain ⟨v', e, hs, hv⟩ := puts1 (W := (put v a AA ta)) hb (heap_put_same _ _ _ _ (by first | assumption | (simp only [size_put]; assumption)))
  have hle := hb.size
  rw [hsz] at hle
  have hBs := hB.size
  refine ⟨v', e, by omega, ?_⟩
  have h1 : Below w0.heap.size w0 (put v a AA ta) := below_put _ _ _ _ (hB) la
  exact h1.trans (hv.mono (by rw [hsz]; exact hBs))
theorem step1d {w0 v w' : World} {n : Nat} {a : Nat} {AA : Array Value} {ta : TypeId} (hb : Below ((put v a AA ta).drewN n).heap.size ((put v a AA ta).drewN n) w') (hB : Below w0.heap.size w0 v) (la : w0.heap.size ≤ a) (ua : a < v.heap.size)  :
    ∃ v', w' = (put v' a AA ta) ∧ a < v'.heap.size ∧ Below w0.heap.size w0 v' :=
  step1 (sed (Below.refl _ _) hb) hB la ua 
theorem step2 {w0 v w' : World} {a : Nat} {AA : Array Value} {ta : TypeId} {b : Nat} {BB : Array Value} {tb : TypeId} (hb : Below (put (put v a AA ta) b BB tb).heap.size (put (put v a AA ta) b BB tb) w') (hB : Below w0.heap.size w0 v) (la : w0.heap.size ≤ a) (lb : w0.heap.size ≤ b) (ua : a < v.heap.size) (ub : b < v.heap.size) (nab : a ≠ b) :
    ∃ v', w' = (put (put v' a AA ta) b BB tb) ∧ a < v'.heap.size ∧ b < v'.heap.size ∧ Below w0.heap.size w0 v' := by
  have hsz : (put (put v a AA ta) b BB tb).heap.size = v.heap.size := by simp only [size_put]
  obtain ⟨v', e, hs, hv⟩ := puts2 (W := (put (put v a AA ta) b BB tb)) hb ((heap_put_other _ _ _ _ nab).trans (heap_put_same _ _ _ _ (by first | assumption | (simp only [size_put]; assumption)))) (heap_put_same _ _ _ _ (by first | assumption | (simp only [size_put]; assumption)))
  have hle := hb.size
  rw [hsz] at hle
  have hBs := hB.size
  refine ⟨v', e, by omega, by omega, ?_⟩
  have h1 : Below w0.heap.size w0 (put (put v a AA ta) b BB tb) := below_put _ _ _ _ (below_put _ _ _ _ (hB) la) lb
  exact h1.trans (hv.mono (by rw [hsz]; exact hBs))
theorem step2d {w0 v w' : World} {n : Nat} {a : Nat} {AA : Array Value} {ta : TypeId} {b : Nat} {BB : Array Value} {tb : TypeId} (hb : Below ((put (put v a AA ta) b BB tb).drewN n).heap.size ((put (put v a AA ta) b BB tb).drewN n) w') (hB : Below w0.heap.size w0 v) (la : w0.heap.size ≤ a) (lb : w0.heap.size ≤ b) (ua : a < v.heap.size) (ub : b < v.heap.size) (nab : a ≠ b) :
    ∃ v', w' = (put (put v' a AA ta) b BB tb) ∧ a < v'.heap.size ∧ b < v'.heap.size ∧ Below w0.heap.size w0 v' :=
  step2 (sed (Below.refl _ _) hb) hB la lb ua ub nab
theorem step3 {w0 v w' : World} {a : Nat} {AA : Array Value} {ta : TypeId} {b : Nat} {BB : Array Value} {tb : TypeId} {c : Nat} {CC : Array Value} {tc : TypeId} (hb : Below (put (put (put v a AA ta) b BB tb) c CC tc).heap.size (put (put (put v a AA ta) b BB tb) c CC tc) w') (hB : Below w0.heap.size w0 v) (la : w0.heap.size ≤ a) (lb : w0.heap.size ≤ b) (lc : w0.heap.size ≤ c) (ua : a < v.heap.size) (ub : b < v.heap.size) (uc : c < v.heap.size) (nab : a ≠ b) (nac : a ≠ c) (nbc : b ≠ c) :
    ∃ v', w' = (put (put (put v' a AA ta) b BB tb) c CC tc) ∧ a < v'.heap.size ∧ b < v'.heap.size ∧ c < v'.heap.size ∧ Below w0.heap.size w0 v' := by
  have hsz : (put (put (put v a AA ta) b BB tb) c CC tc).heap.size = v.heap.size := by simp only [size_put]
  obtain ⟨v', e, hs, hv⟩ := puts3 (W := (put (put (put v a AA ta) b BB tb) c CC tc)) hb ((heap_put_other _ _ _ _ nac).trans ((heap_put_other _ _ _ _ nab).trans (heap_put_same _ _ _ _ (by first | assumption | (simp only [size_put]; assumption))))) ((heap_put_other _ _ _ _ nbc).trans (heap_put_same _ _ _ _ (by first | assumption | (simp only [size_put]; assumption)))) (heap_put_same _ _ _ _ (by first | assumption | (simp only [size_put]; assumption)))
  have hle := hb.size
  rw [hsz] at hle
  have hBs := hB.size
  refine ⟨v', e, by omega, by omega, by omega, ?_⟩
  have h1 : Below w0.heap.size w0 (put (put (put v a AA ta) b BB tb) c CC tc) := below_put _ _ _ _ (below_put _ _ _ _ (below_put _ _ _ _ (hB) la) lb) lc
  exact h1.trans (hv.mono (by rw [hsz]; exact hBs))
theorem step3d {w0 v w' : World} {n : Nat} {a : Nat} {AA : Array Value} {ta : TypeId} {b : Nat} {BB : Array Value} {tb : TypeId} {c : Nat} {CC : Array Value} {tc : TypeId} (hb : Below ((put (put (put v a AA ta) b BB tb) c CC tc).drewN n).heap.size ((put (put (put v a AA ta) b BB tb) c CC tc).drewN n) w') (hB : Below w0.heap.size w0 v) (la : w0.heap.size ≤ a) (lb : w0.heap.size ≤ b) (lc : w0.heap.size ≤ c) (ua : a < v.heap.size) (ub : b < v.heap.size) (uc : c < v.heap.size) (nab : a ≠ b) (nac : a ≠ c) (nbc : b ≠ c) :
    ∃ v', w' = (put (put (put v' a AA ta) b BB tb) c CC tc) ∧ a < v'.heap.size ∧ b < v'.heap.size ∧ c < v'.heap.size ∧ Below w0.heap.size w0 v' :=
  step3 (sed (Below.refl _ _) hb) hB la lb lc ua ub uc nab nac nbc
theorem step4 {w0 v w' : World} {a : Nat} {AA : Array Value} {ta : TypeId} {b : Nat} {BB : Array Value} {tb : TypeId} {c : Nat} {CC : Array Value} {tc : TypeId} {d : Nat} {DD : Array Value} {td : TypeId} (hb : Below (put (put (put (put v a AA ta) b BB tb) c CC tc) d DD td).heap.size (put (put (put (put v a AA ta) b BB tb) c CC tc) d DD td) w') (hB : Below w0.heap.size w0 v) (la : w0.heap.size ≤ a) (lb : w0.heap.size ≤ b) (lc : w0.heap.size ≤ c) (ld : w0.heap.size ≤ d) (ua : a < v.heap.size) (ub : b < v.heap.size) (uc : c < v.heap.size) (ud : d < v.heap.size) (nab : a ≠ b) (nac : a ≠ c) (nad : a ≠ d) (nbc : b ≠ c) (nbd : b ≠ d) (ncd : c ≠ d) :
    ∃ v', w' = (put (put (put (put v' a AA ta) b BB tb) c CC tc) d DD td) ∧ a < v'.heap.size ∧ b < v'.heap.size ∧ c < v'.heap.size ∧ d < v'.heap.size ∧ Below w0.heap.size w0 v' := by
  have hsz : (put (put (put (put v a AA ta) b BB tb) c CC tc) d DD td).heap.size = v.heap.size := by simp only [size_put]
  obtain ⟨v', e, hs, hv⟩ := puts4 (W := (put (put (put (put v a AA ta) b BB tb) c CC tc) d DD td)) hb ((heap_put_other _ _ _ _ nad).trans ((heap_put_other _ _ _ _ nac).trans ((heap_put_other _ _ _ _ nab).trans (heap_put_same _ _ _ _ (by first | assumption | (simp only [size_put]; assumption)))))) ((heap_put_other _ _ _ _ nbd).trans ((heap_put_other _ _ _ _ nbc).trans (heap_put_same _ _ _ _ (by first | assumption | (simp only [size_put]; assumption))))) ((heap_put_other _ _ _ _ ncd).trans (heap_put_same _ _ _ _ (by first | assumption | (simp only [size_put]; assumption)))) (heap_put_same _ _ _ _ (by first | assumption | (simp only [size_put]; assumption)))
  have hle := hb.size
  rw [hsz] at hle
  have hBs := hB.size
  refine ⟨v', e, by omega, by omega, by omega, by omega, ?_⟩
  have h1 : Below w0.heap.size w0 (put (put (put (put v a AA ta) b BB tb) c CC tc) d DD td) := below_put _ _ _ _ (below_put _ _ _ _ (below_put _ _ _ _ (below_put _ _ _ _ (hB) la) lb) lc) ld
  exact h1.trans (hv.mono (by rw [hsz]; exact hBs))
theorem step4d {w0 v w' : World} {n : Nat} {a : Nat} {AA : Array Value} {ta : TypeId} {b : Nat} {BB : Array Value} {tb : TypeId} {c : Nat} {CC : Array Value} {tc : TypeId} {d : Nat} {DD : Array Value} {td : TypeId} (hb : Below ((put (put (put (put v a AA ta) b BB tb) c CC tc) d DD td).drewN n).heap.size ((put (put (put (put v a AA ta) b BB tb) c CC tc) d DD td).drewN n) w') (hB : Below w0.heap.size w0 v) (la : w0.heap.size ≤ a) (lb : w0.heap.size ≤ b) (lc : w0.heap.size ≤ c) (ld : w0.heap.size ≤ d) (ua : a < v.heap.size) (ub : b < v.heap.size) (uc : c < v.heap.size) (ud : d < v.heap.size) (nab : a ≠ b) (nac : a ≠ c) (nad : a ≠ d) (nbc : b ≠ c) (nbd : b ≠ d) (ncd : c ≠ d) :
    ∃ v', w' = (put (put (put (put v' a AA ta) b BB tb) c CC tc) d DD td) ∧ a < v'.heap.size ∧ b < v'.heap.size ∧ c < v'.heap.size ∧ d < v'.heap.size ∧ Below w0.heap.size w0 v' :=
  step4 (sed (Below.refl _ _) hb) hB la lb lc ld ua ub uc ud nab nac nad nbc nbd ncd
theorem step1r {w0 v w' : World} {a : Nat} {AA : Array Value} {ta : TypeId} (hb : Below (put v a AA ta).drew.heap.size (put v a AA ta).drew w') (hB : Below w0.heap.size w0 v) (la : w0.heap.size ≤ a) (ua : a < v.heap.size)  :
    ∃ v', w' = (put v' a AA ta) ∧ a < v'.heap.size ∧ Below w0.heap.size w0 v' :=
  step1 (sed (n := 1) (Below.refl _ _) hb) hB la ua 
theorem step2r {w0 v w' : World} {a : Nat} {AA : Array Value} {ta : TypeId} {b : Nat} {BB : Array Value} {tb : TypeId} (hb : Below (put (put v a AA ta) b BB tb).drew.heap.size (put (put v a AA ta) b BB tb).drew w') (hB : Below w0.heap.size w0 v) (la : w0.heap.size ≤ a) (lb : w0.heap.size ≤ b) (ua : a < v.heap.size) (ub : b < v.heap.size) (nab : a ≠ b) :
    ∃ v', w' = (put (put v' a AA ta) b BB tb) ∧ a < v'.heap.size ∧ b < v'.heap.size ∧ Below w0.heap.size w0 v' :=
  step2 (sed (n := 1) (Below.refl _ _) hb) hB la lb ua ub nab
theorem step3r {w0 v w' : World} {a : Nat} {AA : Array Value} {ta : TypeId} {b : Nat} {BB : Array Value} {tb : TypeId} {c : Nat} {CC : Array Value} {tc : TypeId} (hb : Below (put (put (put v a AA ta) b BB tb) c CC tc).drew.heap.size (put (put (put v a AA ta) b BB tb) c CC tc).drew w') (hB : Below w0.heap.size w0 v) (la : w0.heap.size ≤ a) (lb : w0.heap.size ≤ b) (lc : w0.heap.size ≤ c) (ua : a < v.heap.size) (ub : b < v.heap.size) (uc : c < v.heap.size) (nab : a ≠ b) (nac : a ≠ c) (nbc : b ≠ c) :
    ∃ v', w' = (put (put (put v' a AA ta) b BB tb) c CC tc) ∧ a < v'.heap.size ∧ b < v'.heap.size ∧ c < v'.heap.size ∧ Below w0.heap.size w0 v' :=
  step3 (sed (n := 1) (Below.refl _ _) hb) hB la lb lc ua ub uc nab nac nbc
theorem step4r {w0 v w' : World} {a : Nat} {AA : Array Value} {ta : TypeId} {b : Nat} {BB : Array Value} {tb : TypeId} {c : Nat} {CC : Array Value} {tc : TypeId} {d : Nat} {DD : Array Value} {td : TypeId} (hb : Below (put (put (put (put v a AA ta) b BB tb) c CC tc) d DD td).drew.heap.size (put (put (put (put v a AA ta) b BB tb) c CC tc) d DD td).drew w') (hB : Below w0.heap.size w0 v) (la : w0.heap.size ≤ a) (lb : w0.heap.size ≤ b) (lc : w0.heap.size ≤ c) (ld : w0.heap.size ≤ d) (ua : a < v.heap.size) (ub : b < v.heap.size) (uc : c < v.heap.size) (ud : d < v.heap.size) (nab : a ≠ b) (nac : a ≠ c) (nad : a ≠ d) (nbc : b ≠ c) (nbd : b ≠ d) (ncd : c ≠ d) :
    ∃ v', w' = (put (put (put (put v' a AA ta) b BB tb) c CC tc) d DD td) ∧ a < v'.heap.size ∧ b < v'.heap.size ∧ c < v'.heap.size ∧ d < v'.heap.size ∧ Below w0.heap.size w0 v' :=
  step4 (sed (n := 1) (Below.refl _ _) hb) hB la lb lc ld ua ub uc ud nab nac nad nbc nbd ncd
theorem first1 {w0 w' : World} {AA : Array Value} {ta : TypeId} (hb : Below (w0.alloc (.cells AA ta)).heap.size (w0.alloc (.cells AA ta)) w') :
    ∃ v', w' = (put v' (w0.heap.size) AA ta) ∧ w0.heap.size < v'.heap.size ∧ Below w0.heap.size w0 v' := by
  obtain ⟨v', e, hs, hv⟩ := puts1 (W := (w0.alloc (.cells AA ta))) hb (a := w0.heap.size) (AA := AA) (ta := ta) (by repeat (first | exact heap_alloc_at _ _ _ (by simp only [World.size_alloc]) | exact heap_alloc_new _ _ | refine (heap_alloc_lt _ _ _ (by simp only [World.size_alloc]; omega)).trans ?_))
  have hle := hb.size
  simp only [World.size_alloc] at hle
  refine ⟨v', e, by omega, ?_⟩
  exact Below.trans (b := (w0.alloc (.cells AA ta))) (Below.alloc (Below.refl _ _) (by first | exact Nat.le_refl _ | (simp only [World.size_alloc]; omega)) _) (hv.mono (by simp only [World.size_alloc]; omega))
theorem first1d {w0 w' : World} {n : Nat} {AA : Array Value} {ta : TypeId} (hb : Below ((w0.alloc (.cells AA ta)).drewN n).heap.size ((w0.alloc (.cells AA ta)).drewN n) w') :
    ∃ v', w' = (put v' (w0.heap.size) AA ta) ∧ w0.heap.size < v'.heap.size ∧ Below w0.heap.size w0 v' :=
  first1 (sed (Below.refl _ _) hb)
theorem first2 {w0 w' : World} {AA : Array Value} {ta : TypeId} {BB : Array Value} {tb : TypeId} (hb : Below ((w0.alloc (.cells AA ta)).alloc (.cells BB tb)).heap.size ((w0.alloc (.cells AA ta)).alloc (.cells BB tb)) w') :
    ∃ v', w' = (put (put v' (w0.heap.size) AA ta) (w0.heap.size + 1) BB tb) ∧ w0.heap.size < v'.heap.size ∧ w0.heap.size + 1 < v'.heap.size ∧ Below w0.heap.size w0 v' := by
  obtain ⟨v', e, hs, hv⟩ := puts2 (W := ((w0.alloc (.cells AA ta)).alloc (.cells BB tb))) hb (a := w0.heap.size) (AA := AA) (ta := ta) (b := w0.heap.size + 1) (BB := BB) (tb := tb) (by repeat (first | exact heap_alloc_at _ _ _ (by simp only [World.size_alloc]) | exact heap_alloc_new _ _ | refine (heap_alloc_lt _ _ _ (by simp only [World.size_alloc]; omega)).trans ?_)) (by repeat (first | exact heap_alloc_at _ _ _ (by simp only [World.size_alloc]) | exact heap_alloc_new _ _ | refine (heap_alloc_lt _ _ _ (by simp only [World.size_alloc]; omega)).trans ?_))
  have hle := hb.size
  simp only [World.size_alloc] at hle
  refine ⟨v', e, by omega, by omega, ?_⟩
  exact Below.trans (b := ((w0.alloc (.cells AA ta)).alloc (.cells BB tb))) (Below.alloc (Below.alloc (Below.refl _ _) (by first | exact Nat.le_refl _ | (simp only [World.size_alloc]; omega)) _) (by first | exact Nat.le_refl _ | (simp only [World.size_alloc]; omega)) _) (hv.mono (by simp only [World.size_alloc]; omega))
theorem first2d {w0 w' : World} {n : Nat} {AA : Array Value} {ta : TypeId} {BB : Array Value} {tb : TypeId} (hb : Below (((w0.alloc (.cells AA ta)).alloc (.cells BB tb)).drewN n).heap.size (((w0.alloc (.cells AA ta)).alloc (.cells BB tb)).drewN n) w') :
    ∃ v', w' = (put (put v' (w0.heap.size) AA ta) (w0.heap.size + 1) BB tb) ∧ w0.heap.size < v'.heap.size ∧ w0.heap.size + 1 < v'.heap.size ∧ Below w0.heap.size w0 v' :=
  first2 (sed (Below.refl _ _) hb)
theorem first3 {w0 w' : World} {AA : Array Value} {ta : TypeId} {BB : Array Value} {tb : TypeId} {CC : Array Value} {tc : TypeId} (hb : Below (((w0.alloc (.cells AA ta)).alloc (.cells BB tb)).alloc (.cells CC tc)).heap.size (((w0.alloc (.cells AA ta)).alloc (.cells BB tb)).alloc (.cells CC tc)) w') :
    ∃ v', w' = (put (put (put v' (w0.heap.size) AA ta) (w0.heap.size + 1) BB tb) (w0.heap.size + 1 + 1) CC tc) ∧ w0.heap.size < v'.heap.size ∧ w0.heap.size + 1 < v'.heap.size ∧ w0.heap.size + 1 + 1 < v'.heap.size ∧ Below w0.heap.size w0 v' := by
  obtain ⟨v', e, hs, hv⟩ := puts3 (W := (((w0.alloc (.cells AA ta)).alloc (.cells BB tb)).alloc (.cells CC tc))) hb (a := w0.heap.size) (AA := AA) (ta := ta) (b := w0.heap.size + 1) (BB := BB) (tb := tb) (c := w0.heap.size + 1 + 1) (CC := CC) (tc := tc) (by repeat (first | exact heap_alloc_at _ _ _ (by simp only [World.size_alloc]) | exact heap_alloc_new _ _ | refine (heap_alloc_lt _ _ _ (by simp only [World.size_alloc]; omega)).trans ?_)) (by repeat (first | exact heap_alloc_at _ _ _ (by simp only [World.size_alloc]) | exact heap_alloc_new _ _ | refine (heap_alloc_lt _ _ _ (by simp only [World.size_alloc]; omega)).trans ?_)) (by repeat (first | exact heap_alloc_at _ _ _ (by simp only [World.size_alloc]) | exact heap_alloc_new _ _ | refine (heap_alloc_lt _ _ _ (by simp only [World.size_alloc]; omega)).trans ?_))
  have hle := hb.size
  simp only [World.size_alloc] at hle
  refine ⟨v', e, by omega, by omega, by omega, ?_⟩
  exact Below.trans (b := (((w0.alloc (.cells AA ta)).alloc (.cells BB tb)).alloc (.cells CC tc))) (Below.alloc (Below.alloc (Below.alloc (Below.refl _ _) (by first | exact Nat.le_refl _ | (simp only [World.size_alloc]; omega)) _) (by first | exact Nat.le_refl _ | (simp only [World.size_alloc]; omega)) _) (by first | exact Nat.le_refl _ | (simp only [World.size_alloc]; omega)) _) (hv.mono (by simp only [World.size_alloc]; omega))
theorem first3d {w0 w' : World} {n : Nat} {AA : Array Value} {ta : TypeId} {BB : Array Value} {tb : TypeId} {CC : Array Value} {tc : TypeId} (hb : Below ((((w0.alloc (.cells AA ta)).alloc (.cells BB tb)).alloc (.cells CC tc)).drewN n).heap.size ((((w0.alloc (.cells AA ta)).alloc (.cells BB tb)).alloc (.cells CC tc)).drewN n) w') :
    ∃ v', w' = (put (put (put v' (w0.heap.size) AA ta) (w0.heap.size + 1) BB tb) (w0.heap.size + 1 + 1) CC tc) ∧ w0.heap.size < v'.heap.size ∧ w0.heap.size + 1 < v'.heap.size ∧ w0.heap.size + 1 + 1 < v'.heap.size ∧ Below w0.heap.size w0 v' :=
  first3 (sed (Below.refl _ _) hb)
theorem first4 {w0 w' : World} {AA : Array Value} {ta : TypeId} {BB : Array Value} {tb : TypeId} {CC : Array Value} {tc : TypeId} {DD : Array Value} {td : TypeId} (hb : Below ((((w0.alloc (.cells AA ta)).alloc (.cells BB tb)).alloc (.cells CC tc)).alloc (.cells DD td)).heap.size ((((w0.alloc (.cells AA ta)).alloc (.cells BB tb)).alloc (.cells CC tc)).alloc (.cells DD td)) w') :
    ∃ v', w' = (put (put (put (put v' (w0.heap.size) AA ta) (w0.heap.size + 1) BB tb) (w0.heap.size + 1 + 1) CC tc) (w0.heap.size + 1 + 1 + 1) DD td) ∧ w0.heap.size < v'.heap.size ∧ w0.heap.size + 1 < v'.heap.size ∧ w0.heap.size + 1 + 1 < v'.heap.size ∧ w0.heap.size + 1 + 1 + 1 < v'.heap.size ∧ Below w0.heap.size w0 v' := by
  obtain ⟨v', e, hs, hv⟩ := puts4 (W := ((((w0.alloc (.cells AA ta)).alloc (.cells BB tb)).alloc (.cells CC tc)).alloc (.cells DD td))) hb (a := w0.heap.size) (AA := AA) (ta := ta) (b := w0.heap.size + 1) (BB := BB) (tb := tb) (c := w0.heap.size + 1 + 1) (CC := CC) (tc := tc) (d := w0.heap.size + 1 + 1 + 1) (DD := DD) (td := td) (by repeat (first | exact heap_alloc_at _ _ _ (by simp only [World.size_alloc]) | exact heap_alloc_new _ _ | refine (heap_alloc_lt _ _ _ (by simp only [World.size_alloc]; omega)).trans ?_)) (by repeat (first | exact heap_alloc_at _ _ _ (by simp only [World.size_alloc]) | exact heap_alloc_new _ _ | refine (heap_alloc_lt _ _ _ (by simp only [World.size_alloc]; omega)).trans ?_)) (by repeat (first | exact heap_alloc_at _ _ _ (by simp only [World.size_alloc]) | exact heap_alloc_new _ _ | refine (heap_alloc_lt _ _ _ (by simp only [World.size_alloc]; omega)).trans ?_)) (by repeat (first | exact heap_alloc_at _ _ _ (by simp only [World.size_alloc]) | exact heap_alloc_new _ _ | refine (heap_alloc_lt _ _ _ (by simp only [World.size_alloc]; omega)).trans ?_))
  have hle := hb.size
  simp only [World.size_alloc] at hle
  refine ⟨v', e, by omega, by omega, by omega, by omega, ?_⟩
  exact Below.trans (b := ((((w0.alloc (.cells AA ta)).alloc (.cells BB tb)).alloc (.cells CC tc)).alloc (.cells DD td))) (Below.alloc (Below.alloc (Below.alloc (Below.alloc (Below.refl _ _) (by first | exact Nat.le_refl _ | (simp only [World.size_alloc]; omega)) _) (by first | exact Nat.le_refl _ | (simp only [World.size_alloc]; omega)) _) (by first | exact Nat.le_refl _ | (simp only [World.size_alloc]; omega)) _) (by first | exact Nat.le_refl _ | (simp only [World.size_alloc]; omega)) _) (hv.mono (by simp only [World.size_alloc]; omega))
theorem first4d {w0 w' : World} {n : Nat} {AA : Array Value} {ta : TypeId} {BB : Array Value} {tb : TypeId} {CC : Array Value} {tc : TypeId} {DD : Array Value} {td : TypeId} (hb : Below (((((w0.alloc (.cells AA ta)).alloc (.cells BB tb)).alloc (.cells CC tc)).alloc (.cells DD td)).drewN n).heap.size (((((w0.alloc (.cells AA ta)).alloc (.cells BB tb)).alloc (.cells CC tc)).alloc (.cells DD td)).drewN n) w') :
    ∃ v', w' = (put (put (put (put v' (w0.heap.size) AA ta) (w0.heap.size + 1) BB tb) (w0.heap.size + 1 + 1) CC tc) (w0.heap.size + 1 + 1 + 1) DD td) ∧ w0.heap.size < v'.heap.size ∧ w0.heap.size + 1 < v'.heap.size ∧ w0.heap.size + 1 + 1 < v'.heap.size ∧ w0.heap.size + 1 + 1 + 1 < v'.heap.size ∧ Below w0.heap.size w0 v' :=
  first4 (sed (Below.refl _ _) hb)
end Go.Proofs.Ytaoelppkognakaa.Wd
