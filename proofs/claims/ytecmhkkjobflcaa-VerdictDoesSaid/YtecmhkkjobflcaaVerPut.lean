/- Contract of a cache's Put. -/
import Derived.Test.YtecmhkkjobflcaaVerKnown
import Derived.Deep.QuietTactic
import Derived.BigQuiet
namespace Go.Proofs.Ytecmhkkjobflcaa.Ver
open Go.RowKit Go.WideMaps Go.Maps
set_option linter.unusedVariables false
set_option linter.unusedSimpArgs false
set_option maxRecDepth 100000

/-- What Put may turn of what was there: the cache's own blocks. -/
structure Turned (w W : World) (cb bm : Nat) (og : Option Nat) : Prop where
  os : W.os = w.os
  tape : W.tape = w.tape
  output : W.output = w.output
  size : w.heap.size ≤ W.heap.size
  far : ∀ k, k < w.heap.size → k ≠ cb → k ≠ bm → some k ≠ og → W.heap[k]? = w.heap[k]?
theorem Turned.refl (w : World) (cb bm : Nat) (og : Option Nat) : Turned w w cb bm og := ⟨rfl, rfl, rfl, Nat.le_refl _, fun _ _ _ _ _ => rfl⟩
theorem Turned.grow {w W W' : World} {cb bm : Nat} {og row : Option Nat} (h : Turned w W cb bm og) (hg : W.grownBy W' row) (hr : ∀ k, row = some k → k = cb ∨ k = bm ∨ some k = og ∨ w.heap.size ≤ k) : Turned w W' cb bm og :=
  ⟨hg.os.trans h.os, hg.tape.trans h.tape, hg.output.trans h.output, Nat.le_trans h.size hg.size, fun k hk h1 h2 h3 => (hg.block k (Nat.lt_of_lt_of_le hk h.size) (fun e => by
    rcases hr k e.symm with a | a | a | a
    · exact h1 a
    · exact h2 a
    · exact h3 a
    · omega)).trans (h.far k hk h1 h2 h3)⟩
theorem grow_drew (w : World) : w.grownBy w.drew none := ⟨rfl, rfl, rfl, Nat.le_refl _, fun _ _ _ => rfl⟩
theorem grow_drewN (w : World) (n : Nat) : w.grownBy (w.drewN n) none := ⟨rfl, rfl, rfl, Nat.le_refl _, fun _ _ _ => rfl⟩
theorem grow_trans {w a b : World} {row : Option Nat} (h : w.grownBy a none) (k : a.grownBy b row) : w.grownBy b row :=
  ⟨k.os.trans h.os, k.tape.trans h.tape, k.output.trans h.output, Nat.le_trans h.size k.size, fun i hi hn => (k.block i (Nat.lt_of_lt_of_le hi h.size) hn).trans (h.block i hi (by simp))⟩
theorem own_ne {w : World} {base : Nat} {e : TypeId} {size : Nat} {v : Value} {n : Nat} {xs : List Value} (h : w.ownsRow base e size v n xs) (k : Nat) (hk : w.heap.size ≤ k ∨ k < base) : v.ownBlock = none ∨ v.ownBlock ≠ some k := by
  right; intro e
  have := h.lt k e
  omega
theorem grow_setCell (w : World) (g j : Nat) (u : Value) : w.grownBy (w.setCell ⟨g, j, none⟩ u) (some g) :=
  ⟨rfl, rfl, rfl, by simp [World.setCell], fun k _ hk => Below.heap_setCell _ _ _ _ (fun e => hk (by rw [e]))⟩
theorem grow_setCells : ∀ (vs : List Value) (g o : Nat) (w : World), w.grownBy (w.setCells g o vs) (some g)
  | [], g, o, w => ⟨rfl, rfl, rfl, Nat.le_refl _, fun _ _ _ => rfl⟩
  | v :: r, g, o, w => by
    have h2 := grow_setCell w g o v
    have h4 := grow_setCells r g (o + 1) (w.setCell ⟨g, o, none⟩ v)
    rw [World.setCells]
    exact ⟨h4.os.trans h2.os, h4.tape.trans h2.tape, h4.output.trans h2.output, Nat.le_trans h2.size h4.size, fun k hk hn => (h4.block k (Nat.lt_of_lt_of_le hk h2.size) hn).trans (h2.block k hk hn)⟩
theorem still {w W : World} {row : Option Nat} (hg : w.grownBy W row) {k : Nat} {o : Obj} (h : w.heap[k]? = some o) (hn : some k ≠ row) : W.heap[k]? = some o := by
  have hk : k < w.heap.size := by
    rcases Nat.lt_or_ge k w.heap.size with h' | h'
    · exact h'
    · rw [Array.getElem?_eq_none h'] at h; cases h
  exact (hg.block k hk hn).trans h
theorem setCells_block : ∀ (vs : List Value) (g o : Nat) (w : World) (ys : List Value) (T : TypeId), w.heap[g]? = some (.cells ys.toArray T) → (w.setCells g o vs).heap[g]? = some (.cells (ovw ys o vs).toArray T)
  | [], g, o, w, ys, T, h => h
  | v :: r, g, o, w, ys, T, h => by
    rw [World.setCells]
    have h1 := heap_setCell_same w g o ys.toArray T v h
    have h2 : (w.setCell ⟨g, o, none⟩ v).heap[g]? = some (.cells (ys.set o v).toArray T) := by rw [h1]; simp
    exact setCells_block r g (o + 1) _ _ T h2
theorem ovw_all (xs vs : List Value) (h : vs.length = xs.length) : ovw xs 0 vs = vs := by
  have := ovw_take vs xs 0 (by omega)
  rw [Nat.zero_add, h] at this
  rw [← List.take_length (l := ovw xs 0 vs), ovw_len, this]; simp
theorem there_of {w : World} {b : Nat} {T : TypeId} {xs : List Value} (h : w.heap[b]? = some (.cells xs.toArray T)) : w.there b 0 xs.length := fun j hj => by
  refine ⟨?_, frozen_of_row w b (0 + j) _ T h⟩
  rw [cell_of_row w b (0 + j) _ T (0, 0) h, Array.getElem?_eq_getElem (by simpa using hj)]; rfl

theorem store_all {w : World} {b : Nat} {T : TypeId} {ys vs : List Value} (h : w.heap[b]? = some (.cells ys.toArray T)) (hl : vs.length = ys.length) (h1 : ∀ v ∈ vs, v.oneCell' = true) : (storeCells ⟨b, 0, none⟩ vs).run Try.prog w = .ok () (w.setCells b 0 vs) := by
  have ht := there_of h
  have := run_storeCells_cells (P := Try.prog) b 0 vs 0 w (fun j hj => by have := (ht j (by omega)).1; simpa using this) (fun j hj => by have := (ht j (by omega)).2; simpa using this) h1
  simpa using this
theorem load_all {w : World} {b : Nat} {vs : List Value} (h : w.heap[b]? = some (.cells vs.toArray 48)) (hl : vs.length = 32) : (loadVar 48 ⟨b, 0, none⟩).run Try.prog w = .ok (.agg vs.toArray) w :=
  run_loadVar_mid w b 0 48 vs _ (range_of h) Try.underlying48 rfl (by rw [hl]; exact sizeHash)
theorem results_two {Q : Program} {fn : Func} {tmps : Array Value} {c t : Nat} {T : TypeId} {p : Addr} {u x : Value} {w : World} (hf : fn.results = #[.cell c T, .tmp t]) (hc : tmps.getD c undef = .pointer (some p)) (ht : tmps.getD t undef = x) (hl : (loadVar T p).run Q w = .ok u w) :
    (results fn tmps).run Q w = .ok (.tuple #[u, x]) w := by
  unfold results
  rw [hf]
  simp only [Array.mapM_eq_mapM_toList, List.mapM_cons, List.mapM_nil]
  rw [hc, ht]
  simp [asAddr, Sem.run_bind, hl]
theorem zero_one : ∀ v ∈ zeroH, v.oneCell' = true := by intro v hv; rw [List.eq_of_mem_replicate hv]; rfl
theorem store_to {w : World} {b : Nat} {T : TypeId} {ys vs : List Value} (h : w.heap[b]? = some (.cells ys.toArray T)) (hl : vs.length = ys.length) (h1 : ∀ v ∈ vs, v.oneCell' = true) : ∃ W, (storeCells ⟨b, 0, none⟩ vs).run Try.prog w = .ok () W ∧ W.heap[b]? = some (.cells vs.toArray T) ∧ w.grownBy W (some b) := by
  refine ⟨_, store_all h hl h1, ?_, grow_setCells vs b 0 w⟩
  have := setCells_block vs b 0 w _ _ h
  rw [ovw_all _ _ hl] at this
  exact this
theorem Holds.grow {w w' : World} {B cb bm : Nat} {room : Int} {v : Value} {n : Nat} {D : DataW Unit} {L : Known} (h : Holds w B cb bm room v n D L) {row : Option Nat} (hg : w.grownBy w' row) (h1 : some cb ≠ row) (h2 : some bm ≠ row) (h3 : v.ownBlock = none ∨ v.ownBlock ≠ row) : Holds w' B cb bm room v n D L :=
  ⟨still hg h.blk h1, h.map.kept hg h2, h.row.kept hg h3, h.says, h.sep, h.nil, Nat.le_trans h.base hg.size⟩

/-- What is known behind Put; what it gives up; whether it gave something up. -/
def nextL (L : Known) (room : Int) (h : List Int) (is : Bool) : Known := if isIn L h = true then again L h is else if (L.length : Int) = room then L.tail ++ [(h, is)] else L ++ [(h, is)]
def zero32 : List Int := List.replicate 32 0
def goneL (L : Known) (room : Int) (h : List Int) : List Int := if isIn L h = true then zero32 else if (L.length : Int) = room then (keys L).headD zero32 else zero32
def fullL (L : Known) (room : Int) (h : List Int) : Bool := !isIn L h && decide ((L.length : Int) = room)


theorem Known_shape {w : World} {B : Nat} {v : Value} {L : Known} (h : w.ownsRow B 48 32 v L.length (L.flatMap fun p => cs p.1)) : ∃ a cap, v = .slice a L.length cap := by
  rcases h.2 with ⟨hv, hl⟩ | ⟨g, cap, cur, hv, _⟩
  · exact ⟨none, 0, by rw [hv, hl]⟩
  · exact ⟨_, _, hv⟩
theorem fold_zip : ∀ (vs : List Value) (A : Array Value) (k : Nat), List.foldl (fun (cs : Array Value) (x : Value × Nat) => cs.setIfInBounds x.snd x.fst) A (vs.zipIdx k) = (ovw A.toList k vs).toArray
  | [], A, k => rfl
  | v :: r, A, k => by
    rw [List.zipIdx_cons, List.foldl_cons, fold_zip r _ (k + 1)]
    simp [ovw]
theorem fold_hash {h : List Int} (H : IsHash h) : List.foldl (fun (cs : Array Value) (x : Value × Nat) => cs.setIfInBounds x.snd x.fst) #[.int .u8 0, .int .u8 0, .int .u8 0, .int .u8 0, .int .u8 0, .int .u8 0, .int .u8 0, .int .u8 0, .int .u8 0, .int .u8 0, .int .u8 0, .int .u8 0, .int .u8 0, .int .u8 0, .int .u8 0, .int .u8 0, .int .u8 0, .int .u8 0, .int .u8 0, .int .u8 0, .int .u8 0, .int .u8 0, .int .u8 0, .int .u8 0, .int .u8 0, .int .u8 0, .int .u8 0, .int .u8 0, .int .u8 0, .int .u8 0, .int .u8 0, .int .u8 0] ((cs h).zipIdx) = (cs h).toArray := by
  rw [fold_zip, ovw_all _ _ (by rw [cs_len H]; rfl)]
theorem sl_ne {g n c k : Nat} (h : g ≠ k) : (Value.slice (some ⟨g, 0, none⟩) n c).ownBlock = none ∨ (Value.slice (some ⟨g, 0, none⟩) n c).ownBlock ≠ some k := by
  right; simpa [Value.ownBlock] using h
theorem news_of {w : World} {p : Nat} {xs : List Value} {T : TypeId} (hp : w.heap.size = p) : ∀ j u, xs[j]? = some u → (w.alloc (.cells xs.toArray T)).drew.cell? ((⟨p, 0, none⟩ : Addr).add j) = some u := by
  have h := World.news_of_block (w := (w.alloc (.cells xs.toArray T)).drew) (B := p) (cs := xs.toArray) (t := T) (fr := (0, 0)) (by subst hp; exact heap_alloc_new w _)
  simpa using h
theorem range_still {w W : World} {row : Option Nat} (hg : w.grownBy W row) {k : Nat} {xs : List Value} {T : TypeId} (h : w.heap[k]? = some (.cells xs.toArray T)) (hn : some k ≠ row) : W.rangeAt k 0 xs := range_of (still hg h hn)
theorem set2 {w : World} {cb : Nat} {a b c d : Value} {T : TypeId} (h : w.heap[cb]? = some (.cells #[a, b, c] T)) : (w.setCell ⟨cb, 2, none⟩ d).heap[cb]? = some (.cells #[a, b, d] T) := by
  have := heap_setCell_same w cb 2 #[a, b, c] T d h
  rw [this]; rfl

set_option maxHeartbeats 4000000 in
theorem put_k {w : World} {B cb bm : Nat} {room : Int} {v : Value} {n : Nat} {D : DataW Unit} {L : Known} (C : Holds w B cb bm room v n D L) (h : List Int) (H : IsHash h) (is : Bool) (h1 : 1 ≤ room) (h2 : room ≤ 100) (hm : L.length ≤ room) (hn : n ≤ 1000000) (hin : isIn L h = true) :
    Calls Try.prog 30 #[.pointer (some ⟨cb, 0, none⟩), .agg (cs h).toArray, .bool is] w fun e w' => ∃ D', e = .returned (.tuple #[.agg zeroH.toArray, .bool false]) ∧ Holds w' B cb bm room v (n + 1) D' (again L h is) ∧ Turned w w' cb bm v.ownBlock := by
  obtain ⟨i0, hi0, hz0, hz1, hz2⟩ := info_parts infoHash
  have hu := Try.underlying48
  have hi : (Try.prog.info? 48).map (·.size) = some (cs h).length := by rw [sizeHash, cs_len H]
  have hlt := C.lt
  obtain ⟨W0, hW0⟩ : ∃ W0, W0 = ((w.alloc (.cells (cs h).toArray 48)).alloc (.cells #[.int .u8 0, .int .u8 0, .int .u8 0, .int .u8 0, .int .u8 0, .int .u8 0, .int .u8 0, .int .u8 0, .int .u8 0, .int .u8 0, .int .u8 0, .int .u8 0, .int .u8 0, .int .u8 0, .int .u8 0, .int .u8 0, .int .u8 0, .int .u8 0, .int .u8 0, .int .u8 0, .int .u8 0, .int .u8 0, .int .u8 0, .int .u8 0, .int .u8 0, .int .u8 0, .int .u8 0, .int .u8 0, .int .u8 0, .int .u8 0, .int .u8 0, .int .u8 0] 48)).alloc (.cells #[.int .u8 0, .int .u8 0, .int .u8 0, .int .u8 0, .int .u8 0, .int .u8 0, .int .u8 0, .int .u8 0, .int .u8 0, .int .u8 0, .int .u8 0, .int .u8 0, .int .u8 0, .int .u8 0, .int .u8 0, .int .u8 0, .int .u8 0, .int .u8 0, .int .u8 0, .int .u8 0, .int .u8 0, .int .u8 0, .int .u8 0, .int .u8 0, .int .u8 0, .int .u8 0, .int .u8 0, .int .u8 0, .int .u8 0, .int .u8 0, .int .u8 0, .int .u8 0] 48) := ⟨_, rfl⟩
  have sz : W0.heap.size = w.heap.size + 3 := by rw [hW0]; simp
  have B0 : Below w.heap.size w W0 := by rw [hW0]; exact (((Below.refl _ _).alloc (Nat.le_refl _) _).alloc (by simp) _).alloc (by simp; omega) _
  have f0 : W0.heap[w.heap.size]? = some (.cells (cs h).toArray 48) := by
    rw [hW0, Below.heap_alloc _ _ _ (by simp; omega), Below.heap_alloc _ _ _ (by simp)]; exact heap_alloc_new _ _
  have f1 : W0.heap[w.heap.size + 1]? = some (.cells zeroH.toArray 48) := by
    rw [hW0, Below.heap_alloc _ _ _ (by simp)]
    have := heap_alloc_new (w.alloc (.cells (cs h).toArray 48)) (.cells #[.int .u8 0, .int .u8 0, .int .u8 0, .int .u8 0, .int .u8 0, .int .u8 0, .int .u8 0, .int .u8 0, .int .u8 0, .int .u8 0, .int .u8 0, .int .u8 0, .int .u8 0, .int .u8 0, .int .u8 0, .int .u8 0, .int .u8 0, .int .u8 0, .int .u8 0, .int .u8 0, .int .u8 0, .int .u8 0, .int .u8 0, .int .u8 0, .int .u8 0, .int .u8 0, .int .u8 0, .int .u8 0, .int .u8 0, .int .u8 0, .int .u8 0, .int .u8 0] 48)
    simpa [zeroH] using this
  have f2 : W0.heap[w.heap.size + 1 + 1]? = some (.cells zeroH.toArray 48) := by
    rw [hW0]
    have := heap_alloc_new ((w.alloc (.cells (cs h).toArray 48)).alloc (.cells #[.int .u8 0, .int .u8 0, .int .u8 0, .int .u8 0, .int .u8 0, .int .u8 0, .int .u8 0, .int .u8 0, .int .u8 0, .int .u8 0, .int .u8 0, .int .u8 0, .int .u8 0, .int .u8 0, .int .u8 0, .int .u8 0, .int .u8 0, .int .u8 0, .int .u8 0, .int .u8 0, .int .u8 0, .int .u8 0, .int .u8 0, .int .u8 0, .int .u8 0, .int .u8 0, .int .u8 0, .int .u8 0, .int .u8 0, .int .u8 0, .int .u8 0, .int .u8 0] 48)) (.cells #[.int .u8 0, .int .u8 0, .int .u8 0, .int .u8 0, .int .u8 0, .int .u8 0, .int .u8 0, .int .u8 0, .int .u8 0, .int .u8 0, .int .u8 0, .int .u8 0, .int .u8 0, .int .u8 0, .int .u8 0, .int .u8 0, .int .u8 0, .int .u8 0, .int .u8 0, .int .u8 0, .int .u8 0, .int .u8 0, .int .u8 0, .int .u8 0, .int .u8 0, .int .u8 0, .int .u8 0, .int .u8 0, .int .u8 0, .int .u8 0, .int .u8 0, .int .u8 0] 48)
    simpa [zeroH] using this
  have T0 : Turned w W0 cb bm v.ownBlock := ⟨B0.os, B0.tape, B0.output, B0.size, fun k hk _ _ _ => B0.block k hk⟩
  have C0 := C.below B0
  obtain ⟨k0, k1, k2⟩ := C0.cell1
  have hr0 : W0.drew.rangeAt w.heap.size 0 (cs h) := range_of f0
  have hrun := look_c (C0.grow (grow_drew W0) (by simp) (by simp) (by cases v.ownBlock <;> simp)) h H
  have k1' : W0.drew.cell? ⟨cb, 1, none⟩ = some (.map (some bm)) := k1
  have sep := C.sep
  rw [hin] at hrun
  cases is
  · go_enter Try.func30, Try.ntmps30
    go_wp2_with fail
    rw [← hW0]
    clear hW0
    go_region_held3 (fun wz => wz.cell? ⟨cb, 1, none⟩ = some (.map (some bm)) ∧ wz.rangeAt w.heap.size 0 (cs h)) (first | exact ⟨k1', hr0⟩ | assumption) (fail)
    go_upto_region 6 with fail
    go_cut [12] (fun full wx => full = .bool false ∧ ∃ W1, W1 = wx ∧ W0.grownBy W1 none)
    case first =>
      go_quiet (fail)
      all_goals
        go_wp2_with fail
        go_meet
        exact ⟨rfl, _, rfl, grow_trans (grow_drew W0) (grow_drewN _ _)⟩
    case rest =>
      obtain ⟨rfl, W1, rfl, hG⟩ := hcut
      have C1 := C0.grow hG (by simp) (by simp) (by cases v.ownBlock <;> simp)
      have T1 := T0.grow hG (fun k hk => by cases hk)
      have f0 := still hG f0 (by simp)
      have f1 := still hG f1 (by simp)
      have f2 := still hG f2 (by simp)
      clear hrun hr0 k1' k0 k1 k2
      obtain ⟨k0, k1, k2⟩ := C1.cell1
      have hr0 : W1.drew.rangeAt w.heap.size 0 (cs h) := range_of f0
      have k1' : W1.drew.cell? ⟨cb, 1, none⟩ = some (.map (some bm)) := k1
      obtain ⟨W2, hup, hown2, hturn⟩ := (C1.grow (grow_drew W1) (by simp) (by simp) (by cases v.ownBlock <;> simp)).map.store law Try.underlying67 (by unfold maxLen; omega) (key_of H) (plainElem_int Try.underlying3 (a := num false) (by decide))
      have hG2 := grow_trans (grow_drew W1) hturn.grown
      have hup : (Instr.mapUpdate 67 (.map (some bm)) (.agg (cs h).toArray) (.int .i64 0)).run Try.prog W1.drew = .ok () W2 := hup
      have nb : some cb ≠ some bm := by intro e; cases e; omega
      have f0 := still hG2 f0 (by intro e; cases e; omega)
      have f1 := still hG2 f1 (by intro e; cases e; omega)
      have f2 := still hG2 f2 (by intro e; cases e; omega)
      have T2 := T1.grow hG2 (fun k hk => by cases hk; exact .inr (.inl rfl))
      have k1'' : W2.cell? ⟨cb, 1, none⟩ = some (.map (some bm)) := by
        have := still hG2 C1.blk nb
        simp [World.cell?, this]
      have hr2 : W2.rangeAt w.heap.size 0 (cs h) := range_of f0
      go_wp2_with fail
      go_region_held3 (fun wz => wz.cell? ⟨cb, 1, none⟩ = some (.map (some bm)) ∧ wz.rangeAt w.heap.size 0 (cs h)) (first | exact ⟨k1', hr0⟩ | exact ⟨k1'', hr2⟩ | assumption) (fail)
      obtain ⟨W3, hst, f3, hG3⟩ := store_to f1 (vs := zeroH) rfl zero_one
      have hres := load_all f3 rfl
      go_wp2_with (refine wpList_load_mid rfl 48 (.tmp 9) rfl (w.heap.size + 1 + 1) 0 rfl zeroH _ (range_of f2) hu rfl sizeHash ?_)
      have hL : again L h false = [] → v = .slice none 0 0 := fun e => C.nil (by unfold again at e; exact List.map_eq_nil_iff.1 e)
      have C2 : Holds W2 B cb bm room v (n + 1) (D.put (kl h) (.lit (.int .i64 (num false)))) (again L h false) :=
        ⟨still hG2 C1.blk nb, hown2, by
          have := C1.row.kept hG2 (own_ne C1.row bm (.inr (by omega)))
          have e1 : (again L h false).length = L.length := by unfold again; rw [List.length_map]
          have e2 : (again L h false).flatMap (fun p => cs p.1) = L.flatMap fun p => cs p.1 := by
            have := keys_again L h false
            unfold keys at this
            rw [← List.flatMap_map Prod.fst cs, this, List.flatMap_map]
          rw [e1, e2]; exact this, says_again C1.says H false hin, C.sep, hL, Nat.le_trans C1.base hG2.size⟩
      refine bodyPost_ret (v := .tuple #[.agg zeroH.toArray, .bool false]) (results_two rfl rfl rfl hres) rfl ⟨_, rfl, C2.grow hG3 (by intro e; cases e; omega) (by intro e; cases e; omega) (own_ne C.row _ (.inl (by omega))), T2.grow hG3 (fun k hk => by cases hk; right; right; right; omega)⟩
  · go_enter Try.func30, Try.ntmps30
    go_wp2_with fail
    rw [← hW0]
    clear hW0
    go_region_held3 (fun wz => wz.cell? ⟨cb, 1, none⟩ = some (.map (some bm)) ∧ wz.rangeAt w.heap.size 0 (cs h)) (first | exact ⟨k1', hr0⟩ | assumption) (fail)
    go_upto_region 6 with fail
    go_cut [12] (fun full wx => full = .bool false ∧ ∃ W1, W1 = wx ∧ W0.grownBy W1 none)
    case first =>
      go_quiet (fail)
      all_goals
        go_wp2_with fail
        go_meet
        exact ⟨rfl, _, rfl, grow_trans (grow_drew W0) (grow_drewN _ _)⟩
    case rest =>
      obtain ⟨rfl, W1, rfl, hG⟩ := hcut
      have C1 := C0.grow hG (by simp) (by simp) (by cases v.ownBlock <;> simp)
      have T1 := T0.grow hG (fun k hk => by cases hk)
      have f0 := still hG f0 (by simp)
      have f1 := still hG f1 (by simp)
      have f2 := still hG f2 (by simp)
      clear hrun hr0 k1' k0 k1 k2
      obtain ⟨k0, k1, k2⟩ := C1.cell1
      have hr0 : W1.drew.rangeAt w.heap.size 0 (cs h) := range_of f0
      have k1' : W1.drew.cell? ⟨cb, 1, none⟩ = some (.map (some bm)) := k1
      obtain ⟨W2, hup, hown2, hturn⟩ := (C1.grow (grow_drew W1) (by simp) (by simp) (by cases v.ownBlock <;> simp)).map.store law Try.underlying67 (by unfold maxLen; omega) (key_of H) (plainElem_int Try.underlying3 (a := num true) (by decide))
      have hG2 := grow_trans (grow_drew W1) hturn.grown
      have hup : (Instr.mapUpdate 67 (.map (some bm)) (.agg (cs h).toArray) (.int .i64 1)).run Try.prog W1.drew = .ok () W2 := hup
      have nb : some cb ≠ some bm := by intro e; cases e; omega
      have f0 := still hG2 f0 (by intro e; cases e; omega)
      have f1 := still hG2 f1 (by intro e; cases e; omega)
      have f2 := still hG2 f2 (by intro e; cases e; omega)
      have T2 := T1.grow hG2 (fun k hk => by cases hk; exact .inr (.inl rfl))
      have k1'' : W2.cell? ⟨cb, 1, none⟩ = some (.map (some bm)) := by
        have := still hG2 C1.blk nb
        simp [World.cell?, this]
      have hr2 : W2.rangeAt w.heap.size 0 (cs h) := range_of f0
      go_wp2_with fail
      go_region_held3 (fun wz => wz.cell? ⟨cb, 1, none⟩ = some (.map (some bm)) ∧ wz.rangeAt w.heap.size 0 (cs h)) (first | exact ⟨k1', hr0⟩ | exact ⟨k1'', hr2⟩ | assumption) (fail)
      obtain ⟨W3, hst, f3, hG3⟩ := store_to f1 (vs := zeroH) rfl zero_one
      have hres := load_all f3 rfl
      go_wp2_with (refine wpList_load_mid rfl 48 (.tmp 9) rfl (w.heap.size + 1 + 1) 0 rfl zeroH _ (range_of f2) hu rfl sizeHash ?_)
      have hL : again L h true = [] → v = .slice none 0 0 := fun e => C.nil (by unfold again at e; exact List.map_eq_nil_iff.1 e)
      have C2 : Holds W2 B cb bm room v (n + 1) (D.put (kl h) (.lit (.int .i64 (num true)))) (again L h true) :=
        ⟨still hG2 C1.blk nb, hown2, by
          have := C1.row.kept hG2 (own_ne C1.row bm (.inr (by omega)))
          have e1 : (again L h true).length = L.length := by unfold again; rw [List.length_map]
          have e2 : (again L h true).flatMap (fun p => cs p.1) = L.flatMap fun p => cs p.1 := by
            have := keys_again L h true
            unfold keys at this
            rw [← List.flatMap_map Prod.fst cs, this, List.flatMap_map]
          rw [e1, e2]; exact this, says_again C1.says H true hin, C.sep, hL, Nat.le_trans C1.base hG2.size⟩
      refine bodyPost_ret (v := .tuple #[.agg zeroH.toArray, .bool false]) (results_two rfl rfl rfl hres) rfl ⟨_, rfl, C2.grow hG3 (by intro e; cases e; omega) (by intro e; cases e; omega) (own_ne C.row _ (.inl (by omega))), T2.grow hG3 (fun k hk => by cases hk; right; right; right; omega)⟩
end Go.Proofs.Ytecmhkkjobflcaa.Ver
