/- The document's cache as a world holds it; contracts of its New and Get. -/
import Derived.Test.YtecmhkkjobflcaaVerLastP
namespace Go.Proofs.Ytecmhkkjobflcaa.Ver
open Go.RowKit Go.WideMaps Go.Maps
set_option linter.unusedVariables false
set_option linter.unusedSimpArgs false
set_option maxRecDepth 100000

/-- A pair's cells. -/
def pc (p : List Int × Bool) : List Value := cs p.1 ++ [.bool p.2]
theorem pc_len {p : List Int × Bool} (X : IsHash p.1) : (pc p).length = 33 := by unfold pc; simp [cs_len X]
theorem pc_one (p : List Int × Bool) : ∀ v ∈ pc p, v.oneCell' = true := by
  intro v hv
  rcases List.mem_append.1 hv with h | h
  · exact cs_one _ _ h
  · rw [List.mem_singleton.1 h]; rfl
theorem flatP_one (L : Known) : ∀ v ∈ L.flatMap pc, v.oneCell' = true := by
  intro v hv
  obtain ⟨p, _, hp⟩ := List.mem_flatMap.1 hv
  exact pc_one p v hp
theorem flatP_at : ∀ (xs : Known) (hx : ∀ x ∈ xs, IsHash x.1) (i : Nat) (x : List Int × Bool), xs[i]? = some x → ∀ (j : Nat) (u : Value), (pc x)[j]? = some u → (xs.flatMap pc)[i * 33 + j]? = some u
  | [], _, i, x, h, j, u, hj => by simp at h
  | y :: r, hx, 0, x, h, j, u, hj => by
    have : y = x := by simpa using h
    subst this
    have hlt := (List.getElem?_eq_some_iff.1 hj).1
    rw [List.flatMap_cons, List.getElem?_append_left (by omega), Nat.zero_mul, Nat.zero_add]; exact hj
  | y :: r, hx, i + 1, x, h, j, u, hj => by
    have hy := pc_len (hx y (List.mem_cons_self ..))
    have := flatP_at r (fun z hz => hx z (List.mem_cons_of_mem _ hz)) i x (by simpa using h) j u hj
    rw [List.flatMap_cons, List.getElem?_append_right (by omega), hy, show (i + 1) * 33 + j - 33 = i * 33 + j from by omega]
    exact this
theorem sizePair : (Try.prog.info? 73).map (·.size) = some 33 := by kernel_rfl
theorem infoPair : (Try.prog.info? 73).map (fun i => (i.zero, i.size, i.bytes)) = some (some (.agg (zeroH ++ [Value.bool false]).toArray), 33, 33) := by kernel_rfl

/-- A world holds the document's cache. -/
structure RHolds (w : World) (B rb : Nat) (room : Int) (v : Value) (L : Known) : Prop where
  blk : w.heap[rb]? = some (.cells #[v, .int .i64 room] 58)
  row : w.ownsRow B 73 33 v L.length (L.flatMap pc)
  hs : ∀ p ∈ L, IsHash p.1
  sep : rb < B
  base : B ≤ w.heap.size
theorem RHolds.lt {w : World} {B rb : Nat} {room : Int} {v : Value} {L : Known} (h : RHolds w B rb room v L) : rb < w.heap.size := by have := h.sep; have := h.base; omega
theorem RHolds.grow {w w' : World} {B rb : Nat} {room : Int} {v : Value} {L : Known} (h : RHolds w B rb room v L) {row : Option Nat} (hg : w.grownBy w' row) (h1 : some rb ≠ row) (h3 : v.ownBlock = none ∨ v.ownBlock ≠ row) : RHolds w' B rb room v L :=
  ⟨still hg h.blk h1, h.row.kept hg h3, h.hs, h.sep, Nat.le_trans h.base hg.size⟩
theorem RHolds.below {w w' : World} {B rb : Nat} {room : Int} {v : Value} {L : Known} (h : RHolds w B rb room v L) (hb : Below w.heap.size w w') : RHolds w' B rb room v L :=
  h.grow (row := none) ⟨hb.os, hb.tape, hb.output, hb.size, fun k hk _ => hb.block k hk⟩ (by simp) (by cases v.ownBlock <;> simp)
theorem RHolds.cells {w : World} {B rb : Nat} {room : Int} {v : Value} {L : Known} (h : RHolds w B rb room v L) : w.cell? ⟨rb, 0, none⟩ = some v ∧ w.cell? ⟨rb, 1, none⟩ = some (.int .i64 room) := by
  have hb := h.blk
  refine ⟨?_, ?_⟩ <;> simp [World.cell?, hb]
theorem rowN_shape {w : World} {B n size : Nat} {e : TypeId} {v : Value} {xs : List Value} (h : w.ownsRow B e size v n xs) : ∃ a cap, v = .slice a n cap := by
  rcases h.2 with ⟨hv, hl⟩ | ⟨g, cap, cur, hv, _⟩
  · exact ⟨none, 0, by rw [hv, hl]⟩
  · exact ⟨_, _, hv⟩
theorem rowN_addr {w : World} {B n size : Nat} {e : TypeId} {a : Option Addr} {cap : Nat} {xs : List Value} (h : w.ownsRow B e size (.slice a n cap) n xs) (hn : 0 < n) : ∃ g, a = some ⟨g, 0, none⟩ := by
  obtain ⟨g, c, hv, _⟩ := h.form hn
  injection hv with h1
  exact ⟨g, h1⟩
/-- The pair at a place of a row that is owned. -/
theorem pair_at {w : World} {B n g cap : Nat} {L : Known} (hx : ∀ x ∈ L, IsHash x.1) (h : w.ownsRow B 73 33 (.slice (some ⟨g, 0, none⟩) n cap) n (L.flatMap pc)) {i : Nat} {p : List Int × Bool} (hi : L[i]? = some p) : w.rangeAt g (i * 33) (cs p.1) ∧ w.cell? ⟨g, i * 33 + 32, none⟩ = some (.bool p.2) := by
  have hp := hx p (List.mem_of_getElem? hi)
  have hl := cs_len hp
  have key : ∀ j u, (pc p)[j]? = some u → w.cell? ⟨g, i * 33 + j, none⟩ = some u := fun j u hj => by
    have hf := flatP_at L hx i p hi j u hj
    have hlt := (List.getElem?_eq_some_iff.1 hf).1
    rw [h.cellAt _ (by rw [← h.1]; exact hlt)]; exact hf
  refine ⟨fun j u hj => key j u ?_, key 32 _ ?_⟩
  · have hlt := (List.getElem?_eq_some_iff.1 hj).1
    unfold pc; rw [List.getElem?_append_left hlt]; exact hj
  · unfold pc; rw [List.getElem?_append_right (by omega), hl]; rfl
theorem first_hit {L : Known} {h : List Int} {k : Nat} {p : List Int × Bool} (hn : isIn (L.take k) h = false) (hp : L[k]? = some p) (e : p.1 = h) : verd L h = p.2 ∧ isIn L h = true := by
  have hk := (List.getElem?_eq_some_iff.1 hp).1
  have hL : L = L.take k ++ p :: L.drop (k + 1) := by
    have := (List.getElem?_eq_some_iff.1 hp).2
    rw [← this, ← List.drop_eq_getElem_cons hk, List.take_append_drop]
  have hf : (L.take k).find? (fun q => q.1 == h) = none := by
    rw [List.find?_eq_none]
    intro q hq
    unfold isIn at hn
    exact List.any_eq_false.1 hn q hq
  constructor
  · unfold verd
    rw [hL, List.find?_append, hf, List.find?_cons]
    have : (p.1 == h) = true := by simpa using e
    rw [this]; rfl
  · unfold isIn
    rw [hL, List.any_append, List.any_cons]
    have : (p.1 == h) = true := by simpa using e
    rw [this]; simp
theorem take_more {L : Known} {h : List Int} {k : Nat} {p : List Int × Bool} (hn : isIn (L.take k) h = false) (hp : L[k]? = some p) (e : ¬ p.1 = h) : isIn (L.take (k + 1)) h = false := by
  have hk := (List.getElem?_eq_some_iff.1 hp).1
  have hp2 := (List.getElem?_eq_some_iff.1 hp).2
  unfold isIn at *
  rw [← List.take_append_getElem hk, List.any_append, hn, hp2]
  simpa using e

theorem below_drewN {B : Nat} {a b : World} (h : Below B a b) (n : Nat) : Below B a (b.drewN n) := ⟨h.os, h.tape, h.output, h.size, h.block⟩
theorem rnew_no (room : Int) (h : room < 1 ∨ 100 < room) (w : World) :
    Calls Try.prog 29 #[.int .i64 room] w fun e w' => e = .returned (.tuple #[.pointer none, .int .i64 1]) ∧ w' = w := by
  by_cases h1 : room < 1
  all_goals
    go_enter Try.func29, Try.ntmps29
    go_wp2_with fail
    go_returns
    exact ⟨rfl, rfl⟩
theorem rnew_ok (room : Int) (h1 : 1 ≤ room) (h2 : room ≤ 100) (w : World) :
    Calls Try.prog 29 #[.int .i64 room] w fun e w' => e = .returned (.tuple #[.pointer (some ⟨w.heap.size, 0, none⟩), .int .i64 0]) ∧ RHolds w' (w.heap.size + 1) w.heap.size room (.slice none 0 0) [] ∧ Below w.heap.size w w' := by
  go_enter Try.func29, Try.ntmps29
  go_wp2_with fail
  go_returns
  exact ⟨rfl, ⟨heap_alloc_new w _, World.ownsRow_nil _ _ _ _, (fun p hp => by cases hp), by omega, by simp⟩, (Below.refl _ _).alloc (Nat.le_refl _) _⟩

set_option maxHeartbeats 4000000 in
theorem rget_c {w : World} {B rb : Nat} {room : Int} {v : Value} {L : Known} (R : RHolds w B rb room v L) (h : List Int) (H : IsHash h) (hm : L.length ≤ 1000) :
    Calls Try.prog 33 #[.pointer (some ⟨rb, 0, none⟩), .agg (cs h).toArray] w fun e w' => e = .returned (.tuple #[.bool (verd L h), .bool (isIn L h)]) ∧ Below w.heap.size w w' := by
  have hu := Try.underlying48
  have hih := sizeOfHash H
  obtain ⟨a, cap, rfl⟩ := rowN_shape R.row
  obtain ⟨m, em⟩ : ∃ m, L.length = m := ⟨_, rfl⟩
  rw [em] at R hm
  have hLm : Hid (L.length = m) := em
  clear em
  have hB := (Below.refl w.heap.size w).alloc (Nat.le_refl _) (.cells (cs h).toArray 48)
  have R0 := R.below hB
  have q0 := heap_alloc_new w (.cells (cs h).toArray 48)
  have hrow := R0.row
  rw [hLm.out] at hrow
  obtain ⟨c0, _⟩ := R0.cells
  have hxs := R.hs
  have hc0 : Hid _ := c0
  have hq0 : Hid _ := q0
  clear c0 q0 R R0
  go_enter Try.func33, Try.ntmps33
  go_wp2_with fail
  obtain ⟨W0, hW0⟩ : ∃ W0, W0 = w.alloc (.cells (cs h).toArray 48) := ⟨_, rfl⟩
  rw [← hW0] at hc0 hq0 hrow hB ⊢
  clear hW0
  obtain ⟨hb, ehb⟩ : ∃ hb, w.heap.size = hb := ⟨_, rfl⟩
  rw [ehb] at hq0 ⊢
  have ehbX : Hid (w.heap.size = hb) := ehb
  clear ehb
  go_loopw [6] (fun i wz => ∃ k d : Nat, k ≤ m ∧ i = .int .i64 k ∧ wz = W0.drewN d ∧ Hid (isIn (L.take k) h = false)) (fun i _ => m - (intOf i).toNat)
  case atStart => exact ⟨0, 0, Nat.zero_le _, rfl, rfl, (by show isIn (L.take 0) h = false; simp [isIn])⟩
  case round =>
    obtain ⟨k, d, hk, rfl, rfl, hT⟩ := hrel
    obtain ⟨W, hE⟩ : ∃ W, W = W0.drewN d := ⟨_, rfl⟩
    have c0 : W.cell? ⟨rb, 0, none⟩ = some (.slice a m cap) := by rw [hE]; exact hc0.out
    rw [← hE]
    have hW : Hid (W = W0.drewN d) := hE
    by_cases hkm : k < m
    · obtain ⟨g, rfl⟩ := rowN_addr hrow (by omega)
      have hkl : k < L.length := by rw [hLm.out]; exact hkm
      obtain ⟨p, hp⟩ : ∃ p, L[k]? = some p := ⟨_, List.getElem?_eq_getElem hkl⟩
      have X := hxs p (List.mem_of_getElem? hp)
      obtain ⟨rp, cp⟩ := pair_at hxs hrow hp
      have rp : W.drew.rangeAt g (k * 33) (cs p.1) := by rw [hE]; exact rp
      have cp : W.drew.cell? ⟨g, k * 33 + 32, none⟩ = some (.bool p.2) := by rw [hE]; exact cp
      have rh : W.drew.rangeAt hb 0 (cs h) := by rw [hE]; exact range_of hq0.out
      have c1 : W.drew.cell? ⟨rb, 0, none⟩ = some (.slice (some ⟨g, 0, none⟩) m cap) := c0
      have hip := sizeOfHash X
      have hqq := eql_hash X H
      have hpX : Hid _ := hp
      clear hE hp hkl
      by_cases e : p.1 = h
      · have hq : ∀ w : World, (binOp .eql 48 (.agg (cs p.1).toArray) (.agg (cs h).toArray)).run Try.prog w = .ok (.bool true) w := fun w => by rw [hqq w]; simpa using e
        clear hqq
        obtain ⟨ev, ei⟩ := first_hit hT.out hpX.out e
        have evX : Hid _ := ev
        have eiX : Hid _ := ei
        clear ev ei e
        go_wp2_with fail
        refine wp_region_noPanic ?_
        refine wp_region_held_drew (S := (fun wz => wz.cell? ⟨rb, 0, none⟩ = some (.slice (some ⟨g, 0, none⟩) m cap) ∧ wz.rangeAt g (k * 33) (cs p.1) ∧ wz.rangeAt hb 0 (cs h))) (by kernel_rfl) ⟨c1, rp, rh⟩ (fun hHeld => ?_)
        refine wpAnyH_take (i := 0) (v := ?_) rfl (by kernel_rfl) (by kernel_rfl) (by kernel_rfl) (fun _ _ _ h => h) (Or.inl ⟨by kernel_rfl, ?_⟩) hHeld ?_
        rotate_left
        · intro w hSw; go_simp; first | done | with_reducible rfl
        try simp only [List.getElem_toArray, List.getElem_cons_zero, List.getElem_cons_succ, Act.put, List.setIfInBounds_toArray, List.set_cons_zero, List.set_cons_succ]
        refine wpAnyH_take (i := 1) (v := ?_) rfl (by kernel_rfl) (by kernel_rfl) (by kernel_rfl) (fun _ _ _ h => h) (Or.inl ⟨by kernel_rfl, ?_⟩) hHeld ?_
        rotate_left
        · intro w hSw; go_simp; first | done | with_reducible rfl
        try simp only [List.getElem_toArray, List.getElem_cons_zero, List.getElem_cons_succ, Act.put, List.setIfInBounds_toArray, List.set_cons_zero, List.set_cons_succ]
        refine wpAnyH_take (i := 2) (v := ?_) rfl (by kernel_rfl) (by kernel_rfl) (by kernel_rfl) (fun _ _ _ h => h) (Or.inl ⟨by kernel_rfl, ?_⟩) hHeld ?_
        rotate_left
        · intro w hSw; go_simp; first | done | with_reducible rfl
        try simp only [List.getElem_toArray, List.getElem_cons_zero, List.getElem_cons_succ, Act.put, List.setIfInBounds_toArray, List.set_cons_zero, List.set_cons_succ]
        refine wpAnyH_take (i := 3) (v := ?_) rfl (by kernel_rfl) (by kernel_rfl) (by kernel_rfl) (fun _ _ _ h => h) (Or.inl ⟨by kernel_rfl, ?_⟩) hHeld ?_
        rotate_left
        · intro w hSw; have c := hSw.1; go_simp; first | done | with_reducible rfl
        try simp only [List.getElem_toArray, List.getElem_cons_zero, List.getElem_cons_succ, Act.put, List.setIfInBounds_toArray, List.set_cons_zero, List.set_cons_succ]
        refine wpAnyH_take (i := 4) (v := ?_) rfl (by kernel_rfl) (by kernel_rfl) (by kernel_rfl) (fun _ _ _ h => h) (Or.inl ⟨by kernel_rfl, ?_⟩) hHeld ?_
        rotate_left
        · intro w hSw; go_simp; first | done | with_reducible rfl
        try simp only [List.getElem_toArray, List.getElem_cons_zero, List.getElem_cons_succ, Act.put, List.setIfInBounds_toArray, List.set_cons_zero, List.set_cons_succ]
        refine wpAnyH_take (i := 5) (v := ?_) rfl (by kernel_rfl) (by kernel_rfl) (by kernel_rfl) (fun _ _ _ h => h) (Or.inl ⟨by kernel_rfl, ?_⟩) hHeld ?_
        rotate_left
        · intro w hSw; go_simp; first | done | with_reducible rfl
        try simp only [List.getElem_toArray, List.getElem_cons_zero, List.getElem_cons_succ, Act.put, List.setIfInBounds_toArray, List.set_cons_zero, List.set_cons_succ]
        refine wpAnyH_take (i := 6) (v := ?_) rfl (by kernel_rfl) (by kernel_rfl) (by kernel_rfl) (fun _ _ _ h => h) (Or.inl ⟨by kernel_rfl, ?_⟩) hHeld ?_
        rotate_left
        · intro w hSw; go_simp; first | done | with_reducible rfl
        try simp only [List.getElem_toArray, List.getElem_cons_zero, List.getElem_cons_succ, Act.put, List.setIfInBounds_toArray, List.set_cons_zero, List.set_cons_succ]
        refine' wpAnyH_take (i := 7) (v := _) rfl (by kernel_rfl) (by kernel_rfl) (by kernel_rfl) (fun _ _ _ h => h) (yieldsIf_load_mid (by kernel_rfl) _ _ rfl _ _ rfl _ _ (fun _ hSw => hSw.2.1) hu rfl hip) hHeld ?_
        try simp only [List.getElem_toArray, List.getElem_cons_zero, List.getElem_cons_succ, Act.put, List.setIfInBounds_toArray, List.set_cons_zero, List.set_cons_succ]
        refine' wpAnyH_take (i := 8) (v := _) rfl (by kernel_rfl) (by kernel_rfl) (by kernel_rfl) (fun _ _ _ h => h) (yieldsIf_load_mid (by kernel_rfl) _ _ rfl _ _ rfl _ _ (fun _ hSw => hSw.2.2) hu rfl hih) hHeld ?_
        try simp only [List.getElem_toArray, List.getElem_cons_zero, List.getElem_cons_succ, Act.put, List.setIfInBounds_toArray, List.set_cons_zero, List.set_cons_succ]
        refine wpAnyH_take (i := 9) (v := ?_) rfl (by kernel_rfl) (by kernel_rfl) (by kernel_rfl) (fun _ _ _ h => h) (Or.inl ⟨by kernel_rfl, ?_⟩) hHeld ?_
        rotate_left
        · intro w hSw; have hr := hq w; go_simp; first | done | with_reducible rfl
        try simp only [List.getElem_toArray, List.getElem_cons_zero, List.getElem_cons_succ, Act.put, List.setIfInBounds_toArray, List.set_cons_zero, List.set_cons_succ]
        refine wpAnyH_done (by kernel_rfl) ?_ _
        refine NoPanic.normal ?_
        try simp only [List.getElem_toArray, List.getElem_cons_zero, List.getElem_cons_succ, Act.put, List.setIfInBounds_toArray, List.set_cons_zero, List.set_cons_succ]
        go_wp2_with fail
        go_returns
        exact ⟨by rw [evX.out, eiX.out]; rfl, by rw [hW.out]; exact (below_drewN hB _).drew⟩
      · have hq : ∀ w : World, (binOp .eql 48 (.agg (cs p.1).toArray) (.agg (cs h).toArray)).run Try.prog w = .ok (.bool false) w := fun w => by rw [hqq w]; simpa using e
        clear hqq
        have hT2 : Hid (isIn (L.take (k + 1)) h = false) := take_more hT.out hpX.out e
        clear e
        go_wp2_with fail
        refine wp_region_noPanic ?_
        refine wp_region_held_drew (S := (fun wz => wz.cell? ⟨rb, 0, none⟩ = some (.slice (some ⟨g, 0, none⟩) m cap) ∧ wz.rangeAt g (k * 33) (cs p.1) ∧ wz.rangeAt hb 0 (cs h))) (by kernel_rfl) ⟨c1, rp, rh⟩ (fun hHeld => ?_)
        refine wpAnyH_take (i := 0) (v := ?_) rfl (by kernel_rfl) (by kernel_rfl) (by kernel_rfl) (fun _ _ _ h => h) (Or.inl ⟨by kernel_rfl, ?_⟩) hHeld ?_
        rotate_left
        · intro w hSw; go_simp; first | done | with_reducible rfl
        try simp only [List.getElem_toArray, List.getElem_cons_zero, List.getElem_cons_succ, Act.put, List.setIfInBounds_toArray, List.set_cons_zero, List.set_cons_succ]
        refine wpAnyH_take (i := 1) (v := ?_) rfl (by kernel_rfl) (by kernel_rfl) (by kernel_rfl) (fun _ _ _ h => h) (Or.inl ⟨by kernel_rfl, ?_⟩) hHeld ?_
        rotate_left
        · intro w hSw; go_simp; first | done | with_reducible rfl
        try simp only [List.getElem_toArray, List.getElem_cons_zero, List.getElem_cons_succ, Act.put, List.setIfInBounds_toArray, List.set_cons_zero, List.set_cons_succ]
        refine wpAnyH_take (i := 2) (v := ?_) rfl (by kernel_rfl) (by kernel_rfl) (by kernel_rfl) (fun _ _ _ h => h) (Or.inl ⟨by kernel_rfl, ?_⟩) hHeld ?_
        rotate_left
        · intro w hSw; go_simp; first | done | with_reducible rfl
        try simp only [List.getElem_toArray, List.getElem_cons_zero, List.getElem_cons_succ, Act.put, List.setIfInBounds_toArray, List.set_cons_zero, List.set_cons_succ]
        refine wpAnyH_take (i := 3) (v := ?_) rfl (by kernel_rfl) (by kernel_rfl) (by kernel_rfl) (fun _ _ _ h => h) (Or.inl ⟨by kernel_rfl, ?_⟩) hHeld ?_
        rotate_left
        · intro w hSw; have c := hSw.1; go_simp; first | done | with_reducible rfl
        try simp only [List.getElem_toArray, List.getElem_cons_zero, List.getElem_cons_succ, Act.put, List.setIfInBounds_toArray, List.set_cons_zero, List.set_cons_succ]
        refine wpAnyH_take (i := 4) (v := ?_) rfl (by kernel_rfl) (by kernel_rfl) (by kernel_rfl) (fun _ _ _ h => h) (Or.inl ⟨by kernel_rfl, ?_⟩) hHeld ?_
        rotate_left
        · intro w hSw; go_simp; first | done | with_reducible rfl
        try simp only [List.getElem_toArray, List.getElem_cons_zero, List.getElem_cons_succ, Act.put, List.setIfInBounds_toArray, List.set_cons_zero, List.set_cons_succ]
        refine wpAnyH_take (i := 5) (v := ?_) rfl (by kernel_rfl) (by kernel_rfl) (by kernel_rfl) (fun _ _ _ h => h) (Or.inl ⟨by kernel_rfl, ?_⟩) hHeld ?_
        rotate_left
        · intro w hSw; go_simp; first | done | with_reducible rfl
        try simp only [List.getElem_toArray, List.getElem_cons_zero, List.getElem_cons_succ, Act.put, List.setIfInBounds_toArray, List.set_cons_zero, List.set_cons_succ]
        refine wpAnyH_take (i := 6) (v := ?_) rfl (by kernel_rfl) (by kernel_rfl) (by kernel_rfl) (fun _ _ _ h => h) (Or.inl ⟨by kernel_rfl, ?_⟩) hHeld ?_
        rotate_left
        · intro w hSw; go_simp; first | done | with_reducible rfl
        try simp only [List.getElem_toArray, List.getElem_cons_zero, List.getElem_cons_succ, Act.put, List.setIfInBounds_toArray, List.set_cons_zero, List.set_cons_succ]
        refine' wpAnyH_take (i := 7) (v := _) rfl (by kernel_rfl) (by kernel_rfl) (by kernel_rfl) (fun _ _ _ h => h) (yieldsIf_load_mid (by kernel_rfl) _ _ rfl _ _ rfl _ _ (fun _ hSw => hSw.2.1) hu rfl hip) hHeld ?_
        try simp only [List.getElem_toArray, List.getElem_cons_zero, List.getElem_cons_succ, Act.put, List.setIfInBounds_toArray, List.set_cons_zero, List.set_cons_succ]
        refine' wpAnyH_take (i := 8) (v := _) rfl (by kernel_rfl) (by kernel_rfl) (by kernel_rfl) (fun _ _ _ h => h) (yieldsIf_load_mid (by kernel_rfl) _ _ rfl _ _ rfl _ _ (fun _ hSw => hSw.2.2) hu rfl hih) hHeld ?_
        try simp only [List.getElem_toArray, List.getElem_cons_zero, List.getElem_cons_succ, Act.put, List.setIfInBounds_toArray, List.set_cons_zero, List.set_cons_succ]
        refine wpAnyH_take (i := 9) (v := ?_) rfl (by kernel_rfl) (by kernel_rfl) (by kernel_rfl) (fun _ _ _ h => h) (Or.inl ⟨by kernel_rfl, ?_⟩) hHeld ?_
        rotate_left
        · intro w hSw; have hr := hq w; go_simp; first | done | with_reducible rfl
        try simp only [List.getElem_toArray, List.getElem_cons_zero, List.getElem_cons_succ, Act.put, List.setIfInBounds_toArray, List.set_cons_zero, List.set_cons_succ]
        refine wpAnyH_done (by kernel_rfl) ?_ _
        refine NoPanic.normal ?_
        try simp only [List.getElem_toArray, List.getElem_cons_zero, List.getElem_cons_succ, Act.put, List.setIfInBounds_toArray, List.set_cons_zero, List.set_cons_succ]
        go_wp2_with fail
        go_roundw
        case rel => exact ⟨k + 1, d + 1, by omega, by go_num, by rw [hW.out]; rfl, hT2⟩
        case measure => simp [intOf]; omega
    · obtain rfl : m = k := by omega
      have e1 := hT.out
      rw [← hLm.out, List.take_length] at e1
      have e2 := verd_no e1
      have e1X : Hid _ := e1
      have e2X : Hid _ := e2
      clear e1 e2 hE
      go_wp2_with fail
      go_returns
      exact ⟨by rw [e1X.out, e2X.out]; rfl, by rw [hW.out]; exact below_drewN hB _⟩
end Go.Proofs.Ytecmhkkjobflcaa.Ver
