/- Acts as cells; a variable of many cells is made and stored into; small lemmas on worlds. -/
import Derived.Test.YtecmhkkjobflcaaVerOps
import Derived.Test.YtecmhkkjobflcaaVerLaw
namespace Go.Proofs.Ytecmhkkjobflcaa.Ver
open Go.RowKit Go.WideMaps Go.Maps
set_option linter.unusedVariables false
set_option linter.unusedSimpArgs false
set_option maxRecDepth 100000
variable {P : Program}

structure ActV where
  doo : Int
  h : List Int
  is : Bool
/-- An act's cells. -/
def ac (x : ActV) : List Value := .int .i64 x.doo :: (cs x.h ++ [.bool x.is])
theorem ac_len {x : ActV} (X : IsHash x.h) : (ac x).length = 34 := by unfold ac; simp [cs_len X]
theorem ac_one (x : ActV) : ∀ v ∈ ac x, v.oneCell' = true := by
  intro v hv
  unfold ac at hv
  rcases List.mem_cons.1 hv with h | h
  · subst h; rfl
  · rcases List.mem_append.1 h with h | h
    · exact cs_one _ _ h
    · rw [List.mem_singleton.1 h]; rfl
theorem sizeAct : (Try.prog.info? 50).map (·.size) = some 34 := by kernel_rfl
theorem sizeOfAct {x : ActV} (X : IsHash x.h) : (Try.prog.info? 50).map (·.size) = some (ac x).length := by rw [ac_len X]; exact sizeAct
theorem sizeOfHash {x : List Int} (X : IsHash x) : (Try.prog.info? 48).map (·.size) = some (cs x).length := by rw [cs_len X]; exact sizeHash
/-- What lies in an act's block. -/
theorem act_cells {w : World} {p : Nat} {x : ActV} {T : TypeId} (X : IsHash x.h) (h : w.heap[p]? = some (.cells (ac x).toArray T)) :
    w.cell? ⟨p, 0, none⟩ = some (.int .i64 x.doo) ∧ w.rangeAt p 1 (cs x.h) ∧ w.cell? ⟨p, 33, none⟩ = some (.bool x.is) := by
  have hr : w.rangeAt p 0 (ac x) := range_of h
  refine ⟨hr 0 _ rfl, fun j v hj => ?_, ?_⟩
  · have hlt := (List.getElem?_eq_some_iff.1 hj).1
    have := hr (1 + j) v (by unfold ac; rw [Nat.add_comm, List.getElem?_cons_succ, List.getElem?_append_left hlt]; exact hj)
    simpa using this
  · exact hr 33 _ (by unfold ac; rw [List.getElem?_cons_succ, List.getElem?_append_right (by rw [cs_len X]; exact Nat.le_refl _), cs_len X]; rfl)
/-- A value goes into a block that it fills: the world behind it is a letter. -/
theorem store_any {w : World} {b : Nat} {T : TypeId} {n : Nat} {ys vs : List Value} (hT : (P.info? T).map (·.size) = some n) (h : w.heap[b]? = some (.cells ys.toArray T)) (hl : vs.length = n) (hy : ys.length = n) (h1 : ∀ v ∈ vs, v.oneCell' = true) :
    ∃ W, (storeVar T ⟨b, 0, none⟩ (.agg vs.toArray)).run P w = .ok () W ∧ W.heap[b]? = some (.cells vs.toArray T) ∧ w.grownBy W (some b) := by
  have ht : w.there b 0 vs.toArray.size := by
    have := there_of h
    rw [hy] at this
    simpa [hl] using this
  have h2 := run_storeVar_mid (P := P) w b 0 T vs.toArray ht (by simpa [hl] using hT) (all_oneCell_toArray h1)
  refine ⟨_, h2, ?_, grow_setCells vs b 0 w⟩
  have := setCells_block vs b 0 w _ _ h
  rw [ovw_all _ _ (hl.trans hy.symm)] at this
  exact this
/-- A variable is made, and a value stored into it. -/
theorem lay_any (w : World) {T : TypeId} {n : Nat} (ys vs : List Value) (hT : (P.info? T).map (·.size) = some n) (hl : vs.length = n) (hy : ys.length = n) (h1 : ∀ v ∈ vs, v.oneCell' = true) :
    ∃ W, (storeVar T ⟨w.heap.size, 0, none⟩ (.agg vs.toArray)).run P (w.alloc (.cells ys.toArray T)) = .ok () W ∧ W.heap[w.heap.size]? = some (.cells vs.toArray T) ∧ w.grownBy W none ∧ w.heap.size < W.heap.size := by
  obtain ⟨W, hs, hq, hg⟩ := store_any (P := P) hT (heap_alloc_new w (.cells ys.toArray T)) hl hy h1
  refine ⟨W, hs, hq, ⟨hg.os, hg.tape, hg.output, Nat.le_trans (by simp) hg.size, fun k hk _ => (hg.block k (by simp; omega) (by intro e; cases e; omega)).trans (Below.heap_alloc _ _ _ hk)⟩, ?_⟩
  have := hg.size
  simp at this
  omega
theorem lay_hash (w : World) {x : List Int} (X : IsHash x) :
    ∃ W, (storeVar 48 ⟨w.heap.size, 0, none⟩ (.agg (cs x).toArray)).run Try.prog (w.alloc (.cells #[.int .u8 0, .int .u8 0, .int .u8 0, .int .u8 0, .int .u8 0, .int .u8 0, .int .u8 0, .int .u8 0, .int .u8 0, .int .u8 0, .int .u8 0, .int .u8 0, .int .u8 0, .int .u8 0, .int .u8 0, .int .u8 0, .int .u8 0, .int .u8 0, .int .u8 0, .int .u8 0, .int .u8 0, .int .u8 0, .int .u8 0, .int .u8 0, .int .u8 0, .int .u8 0, .int .u8 0, .int .u8 0, .int .u8 0, .int .u8 0, .int .u8 0, .int .u8 0] 48)) = .ok () W ∧ W.heap[w.heap.size]? = some (.cells (cs x).toArray 48) ∧ w.grownBy W none ∧ w.heap.size < W.heap.size :=
  lay_any w zeroH (cs x) sizeHash (cs_len X) rfl (cs_one x)
theorem lay_act (w : World) {x : ActV} (X : IsHash x.h) :
    ∃ W, (storeVar 50 ⟨w.heap.size, 0, none⟩ (.agg (ac x).toArray)).run Try.prog (w.alloc (.cells #[.int .i64 0, .int .u8 0, .int .u8 0, .int .u8 0, .int .u8 0, .int .u8 0, .int .u8 0, .int .u8 0, .int .u8 0, .int .u8 0, .int .u8 0, .int .u8 0, .int .u8 0, .int .u8 0, .int .u8 0, .int .u8 0, .int .u8 0, .int .u8 0, .int .u8 0, .int .u8 0, .int .u8 0, .int .u8 0, .int .u8 0, .int .u8 0, .int .u8 0, .int .u8 0, .int .u8 0, .int .u8 0, .int .u8 0, .int .u8 0, .int .u8 0, .int .u8 0, .int .u8 0, .bool false] 50)) = .ok () W ∧ W.heap[w.heap.size]? = some (.cells (ac x).toArray 50) ∧ w.grownBy W none ∧ w.heap.size < W.heap.size :=
  lay_any w (.int .i64 0 :: (zeroH ++ [.bool false])) (ac x) sizeAct (ac_len X) rfl (ac_one x)
theorem grow_below {w W : World} (h : w.grownBy W none) : Below w.heap.size w W := ⟨h.os, h.tape, h.output, h.size, fun k hk => h.block k hk (by simp)⟩
theorem below_turned {n : Nat} {w W W' : World} {cb bm : Nat} {og : Option Nat} (hB : Below n w W) (T : Turned W W' cb bm og) (h1 : n ≤ cb) (h2 : n ≤ bm) (h3 : ∀ k, og = some k → n ≤ k) (hn : n ≤ W.heap.size) : Below n w W' :=
  hB.trans ⟨T.os, T.tape, T.output, T.size, fun k hk => T.far k (by omega) (by omega) (by omega) (fun e => by have := h3 k e.symm; omega)⟩
theorem stays2 {w w' : World} (hb : Below w.heap.size w w') {k : Nat} {o : Obj} (h : w.heap[k]? = some o) : w'.heap[k]? = some o := by
  have hk : k < w.heap.size := by
    rcases Nat.lt_or_ge k w.heap.size with h' | h'
    · exact h'
    · rw [Array.getElem?_eq_none h'] at h; cases h
  exact (hb.block k hk).trans h
theorem range_below {n : Nat} {w W : World} (hb : Below n w W) {b off : Nat} {xs : List Value} (h : w.rangeAt b off xs) (hlt : b < n) : W.rangeAt b off xs := fun j v hj => (hb.cell (p := ⟨b, off + j, none⟩) hlt).trans (h j v hj)
/-- A guarded load of many cells. -/
theorem wpList_load_want {ops : Array Oper} {rest : List Oper} {op : Oper} {a : Act} {w : World} {Q : Exit → Act → World → Prop} (hw : Region.wanted op (yielded ops a.tmps) = true) (ty : TypeId) (x : Operand) (ho : op.op = .load ty x)
    (b o : Nat) (hx : a.eval x = .pointer (some ⟨b, o, none⟩)) (cs : List Value) (d : TypeDesc) (hc : w.rangeAt b o cs)
    (hu : P.underlying ty = some d) (hd : d.isRow = true) (hi : (P.info? ty).map (·.size) = some cs.length)
    (h : wpList P ops Q rest (a.put op.dst (.agg cs.toArray)) w) : wpList P ops Q (op :: rest) a w :=
  BigFrame.wpList_want hw fun _ hK => wp_load_mid ty x ho b o hx cs d hc hu hd hi (hK _ _ h)

/-! The contracts, with the list's answers under names of their own. -/
theorem len_is {w : World} {B cb bm : Nat} {room : Int} {v : Value} {n : Nat} {D : DataW Unit} {L : Known} (C : Holds w B cb bm room v n D L) {m : Nat} (hm : L.length = m) :
    Calls Try.prog 34 #[.pointer (some ⟨cb, 0, none⟩)] w fun e w' => e = .returned (.int .i64 m) ∧ w = w' :=
  (len_c C).mono fun _ _ ⟨he, hw⟩ => ⟨by rw [he, hm], hw.symm⟩
theorem known_is {w : World} {B cb bm : Nat} {room : Int} {v : Value} {n : Nat} {D : DataW Unit} {L : Known} (C : Holds w B cb bm room v n D L) {m : Nat} (hm : L.length = m) (hl : m ≤ 1000) :
    Calls Try.prog 36 #[.pointer (some ⟨cb, 0, none⟩)] w fun e w' => ∃ a cap, e = .returned (.slice a m cap) ∧ w'.ownsRow w.heap.size 48 32 (.slice a m cap) m (L.flatMap fun p => cs p.1) ∧ Below w.heap.size w w' := by
  subst hm; exact known_c C hl
theorem get_is {w : World} {B cb bm : Nat} {room : Int} {v : Value} {n : Nat} {D : DataW Unit} {L : Known} (C : Holds w B cb bm room v n D L) (h : List Int) (H : IsHash h) {x y : Bool} (hx : verd L h = x) (hy : isIn L h = y) :
    Calls Try.prog 32 #[.pointer (some ⟨cb, 0, none⟩), .agg (cs h).toArray] w fun e w' => e = .returned (.tuple #[.bool x, .bool y]) ∧ Below w.heap.size w w' := by
  subst hx; subst hy; exact get_c C h H
theorem put_is {w : World} {B cb bm : Nat} {room : Int} {v : Value} {n : Nat} {D : DataW Unit} {L : Known} (C : Holds w B cb bm room v n D L) (h : List Int) (H : IsHash h) (is : Bool) (h1 : 1 ≤ room) (h2 : room ≤ 100) (hm : L.length ≤ room) (hn : n ≤ 1000000)
    {L' : Known} {g : List Int} {f : Bool} (hL : nextL L room h is = L') (hg : goneL L room h = g) (hf : fullL L room h = f) :
    Calls Try.prog 30 #[.pointer (some ⟨cb, 0, none⟩), .agg (cs h).toArray, .bool is] w fun e w' => ∃ v' D', e = .returned (.tuple #[.agg (cs g).toArray, .bool f]) ∧ Holds w' B cb bm room v' (n + 1) D' L' ∧ Turned w w' cb bm v.ownBlock ∧ (∀ k, v'.ownBlock = some k → some k = v.ownBlock ∨ w.heap.size ≤ k) := by
  subst hL; subst hg; subst hf; exact put_c C h H is h1 h2 hm hn
/-- What is given up is a digest. -/
theorem gone_hash {D : DataW Unit} {L : Known} (S : Says D L) (room : Int) (h : List Int) : IsHash (goneL L room h) := by
  have z : IsHash zero32 := ⟨by decide, by decide⟩
  unfold goneL
  split
  · exact z
  · split
    · match L, S with
      | [], _ => exact z
      | p :: L', S => exact S.hs p (List.mem_cons_self ..)
    · exact z
end Go.Proofs.Ytecmhkkjobflcaa.Ver
