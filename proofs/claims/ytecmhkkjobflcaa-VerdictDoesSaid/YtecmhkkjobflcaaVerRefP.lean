/- Contract of the document's Put. -/
import Derived.Test.YtecmhkkjobflcaaVerRefA
namespace Go.Proofs.Ytecmhkkjobflcaa.Ver
open Go.RowKit Go.WideMaps Go.Maps
set_option linter.unusedVariables false
set_option linter.unusedSimpArgs false
set_option maxRecDepth 100000

/-- What the document's Put may turn: the cache's own block. -/
theorem rt_news {w W : World} {rb : Nat} (h : ∀ k, k < w.heap.size → k ≠ rb → W.heap[k]? = w.heap[k]?) (ho : W.os = w.os) (ht : W.tape = w.tape) (hp : W.output = w.output) (hs : w.heap.size ≤ W.heap.size) : Turned w W rb rb none :=
  ⟨ho, ht, hp, hs, fun k hk h1 _ _ => h k hk h1⟩

theorem ne_some2 {a b : Nat} (h : a ≠ b) : some a ≠ some b := fun e => by injection e; omega
theorem own_some2 {g k : Nat} (h : some g = some k) : k = g := by cases h; rfl
theorem exec_slice2 {ρ : Operand → Value} {dst : Option Tmp} {ty t : TypeId} {pos : String} {after : Array Edge} {guard : Option (Nat × Bool)} {x : Operand} {lo hi mx : Option Operand} {v : Value} {w : World} (h : (Instr.sliceAt t (ρ x) (lo.map ρ) (hi.map ρ) (mx.map ρ)).run Try.prog w = .ok v w) :
    (execOp ρ { dst, op := .slice t x lo hi mx, type := ty, pos, after, guard }).run Try.prog w = .ok (.value v) w := by
  unfold execOp
  simp only [Sem.run_bind, h, Result.andThen_ok, Sem.run_pure]
theorem store_cell0 {w : World} {rb : Nat} {x y v : Value} (hq : w.heap[rb]? = some (.cells #[x, y] 58)) (hv : v.cells = #[v]) (h1 : v.oneCell' = true) :
    ∃ W, (storeVar 56 ⟨rb, 0, none⟩ v).run Try.prog w = .ok () W ∧ W.heap[rb]? = some (.cells #[v, y] 58) ∧ w.grownBy W (some rb) := by
  have ht := there_of (xs := [x, y]) hq
  have hc := ht 0 (by simp)
  simp only [Nat.zero_add, Nat.add_zero] at hc
  refine ⟨_, store_one sizeRow hv h1 hc.1 hc.2, ?_, grow_setCells [v] rb 0 w⟩
  exact setCells_block [v] rb 0 w [x, y] _ hq
theorem store_bool {w : World} {B m g cap o : Nat} {xs : List Value} (h : w.ownsRow B 73 33 (.slice (some ⟨g, 0, none⟩) m cap) m xs) (ho : o < m * 33) (b : Bool) :
    ∃ W, (storeVar 4 ⟨g, o, none⟩ (.bool b)).run Try.prog w = .ok () W ∧ W.ownsRow B 73 33 (.slice (some ⟨g, 0, none⟩) m cap) m (xs.set o (.bool b)) ∧ w.grownBy W (some g) := by
  obtain ⟨r1, r2, r3, r4⟩ := own_room h
  have hc := r4 o (Nat.lt_of_lt_of_le ho (Nat.mul_le_mul_right _ r1))
  refine ⟨_, store_one sizeBool rfl rfl hc.1 hc.2, ?_, grow_setCells [.bool b] g o w⟩
  exact (own_setCells [.bool b] o w xs h).1

/-- What stands while the document's Put works: the copy of the row, its own variables, the cache. -/
structure Stand (w Y : World) (B rb hb g m cap1 : Nat) (v : Value) (room : Int) (L : Known) (h : List Int) : Prop where
  row : Y.ownsRow B 73 33 (.slice (some ⟨g, 0, none⟩) m cap1) m (L.flatMap pc)
  q0 : Y.heap[hb]? = some (.cells (cs h).toArray 48)
  q1 : Y.heap[hb + 1]? = some (.cells zeroH.toArray 48)
  qR : Y.heap[rb]? = some (.cells #[v, .int .i64 room] 58)
  T : Turned w Y rb rb none
  sz : hb + 3 ≤ Y.heap.size
  lts : w.heap.size = hb ∧ rb < B ∧ B ≤ hb ∧ hb + 2 ≤ g ∧ g < Y.heap.size
theorem Stand.grow {w Y Y' : World} {B rb hb g m cap1 : Nat} {v : Value} {room : Int} {L : Known} {h : List Int} (S : Stand w Y B rb hb g m cap1 v room L h) {row : Option Nat} (hg : Y.grownBy Y' row) (hr : ∀ k, row = some k → g < k) : Stand w Y' B rb hb g m cap1 v room L h := by
  obtain ⟨l1, l2, l3, l4, l5⟩ := S.lts
  have ne : ∀ k, k ≤ g → some k ≠ row := fun k hk e => by have := hr k e.symm; omega
  refine ⟨S.row.kept hg ?_, still hg S.q0 (ne _ (by omega)), still hg S.q1 (ne _ (by omega)), still hg S.qR (ne _ (by omega)), S.T.grow hg (fun k e => .inr (.inr (.inr (by have := hr k e; omega)))), Nat.le_trans S.sz hg.size, l1, l2, l3, l4, Nat.lt_of_lt_of_le l5 hg.size⟩
  exact .inr (ne g (Nat.le_refl _))
/-- The rest of a row, as a slice. -/
theorem rest_slice {Y : World} {B g m cap1 : Nat} {L : Known} (hx : ∀ x ∈ L, IsHash x.1) (hrow : Y.ownsRow B 73 33 (.slice (some ⟨g, 0, none⟩) m cap1) m (L.flatMap pc)) (hm : L.length = m) (h1 : 1 ≤ m) :
    ∃ ct, (∀ v, (Instr.sliceAt 56 (.slice (some ⟨g, 0, none⟩) m cap1) (some (.int .i64 1)) none none).run Try.prog v = .ok (.slice (some ct) (m - 1) (cap1 - 1)) v) ∧
      ∀ Y' : World, Y'.ownsRow B 73 33 (.slice (some ⟨g, 0, none⟩) m cap1) m (L.flatMap pc) → 0 < m - 1 → ∀ j u, (L.tail.flatMap pc)[j]? = some u → Y'.cell? (ct.add j) = some u := by
  refine ⟨if cap1 = 1 then ⟨g, 0, none⟩ else ⟨g, 0 + 1 * 33, none⟩, fun v => ?_, fun Y' hY hp j u hj => ?_⟩
  · have he : Try.prog.elem 56 = 73 := by kernel_rfl
    have hs : (sizeOf 73).run Try.prog v = .ok 33 v := by kernel_rfl
    have hu2 : Try.prog.underlying 56 = some (.slice (Try.prog.elem 56)) := by rw [he]; exact Try.underlying56
    refine (run_sliceAt_slice (w := v) _ _ _ _ _ hu2).trans ?_
    refine (run_slice_l (w := v) _ _ _ _ hu2 _ _ (by omega) (by omega)).trans ?_
    rw [he, hs]
    simp only [Result.andThen, sliced]
    show Result.ok (Value.slice (if cap1 = 1 then _ else _) (m - 1) (cap1 - 1)) v = _
    split
    · rfl
    · simp [Addr.add_mid]
  · obtain ⟨r1, _⟩ := own_room hY
    rw [if_neg (by omega), Addr.add_mid]
    match L, hm, hx, hY, hj with
    | p :: L', hm, hx, hY, hj =>
      have hl := pc_len (hx p (List.mem_cons_self ..))
      have hf : ((p :: L').flatMap pc)[33 + j]? = some u := by
        rw [List.flatMap_cons, List.getElem?_append_right (by omega), hl, show 33 + j - 33 = j from by omega]; exact hj
      have hlt := (List.getElem?_eq_some_iff.1 hf).1
      rw [show 0 + 1 * 33 + j = 33 + j from by omega, hY.cellAt _ (by rw [← hY.1]; exact hlt)]; exact hf

set_option maxHeartbeats 16000000 in
theorem rput_c {w : World} {B rb : Nat} {room : Int} {v : Value} {L : Known} (R : RHolds w B rb room v L) (hn : (keys L).Nodup) (h : List Int) (H : IsHash h) (is : Bool) (h1 : 1 ≤ room) (h2 : room ≤ 100) (hm : (L.length : Int) ≤ room) :
    Calls Try.prog 31 #[.pointer (some ⟨rb, 0, none⟩), .agg (cs h).toArray, .bool is] w fun e w' => ∃ v', e = .returned (.tuple #[.agg (cs (goneL L room h)).toArray, .bool (fullL L room h)]) ∧ RHolds w' B rb room v' (nextL L room h is) ∧ Turned w w' rb rb none ∧ (∀ k, v'.ownBlock = some k → w.heap.size ≤ k) := by
  have hu := Try.underlying48
  have hih := sizeOfHash H
  obtain ⟨i0, hi0, hz0, hz1, hz2⟩ := info_parts infoPair
  obtain ⟨a, cap, rfl⟩ := rowN_shape R.row
  obtain ⟨m, em⟩ : ∃ m, L.length = m := ⟨_, rfl⟩
  have hLm : Hid (L.length = m) := em
  rw [em] at R hm
  clear em
  have hxs := R.hs
  have hBs := R.base
  have hsep := R.sep
  obtain ⟨W2, eW2⟩ : ∃ W2, W2 = (w.alloc (.cells (cs h).toArray 48)).alloc (.cells #[.int .u8 0, .int .u8 0, .int .u8 0, .int .u8 0, .int .u8 0, .int .u8 0, .int .u8 0, .int .u8 0, .int .u8 0, .int .u8 0, .int .u8 0, .int .u8 0, .int .u8 0, .int .u8 0, .int .u8 0, .int .u8 0, .int .u8 0, .int .u8 0, .int .u8 0, .int .u8 0, .int .u8 0, .int .u8 0, .int .u8 0, .int .u8 0, .int .u8 0, .int .u8 0, .int .u8 0, .int .u8 0, .int .u8 0, .int .u8 0, .int .u8 0, .int .u8 0] 48) := ⟨_, rfl⟩
  have hB2 : Below w.heap.size w W2 := by rw [eW2]; exact ((Below.refl _ _).alloc (Nat.le_refl _) _).alloc (by simp) _
  have s2 : W2.heap.size = w.heap.size + 2 := by rw [eW2]; simp
  have q0 : W2.heap[w.heap.size]? = some (.cells (cs h).toArray 48) := by rw [eW2, Below.heap_alloc _ _ _ (by simp)]; exact heap_alloc_new w _
  have q1 : W2.heap[w.heap.size + 1]? = some (.cells zeroH.toArray 48) := by
    rw [eW2]
    have := heap_alloc_new (w.alloc (.cells (cs h).toArray 48)) (.cells #[.int .u8 0, .int .u8 0, .int .u8 0, .int .u8 0, .int .u8 0, .int .u8 0, .int .u8 0, .int .u8 0, .int .u8 0, .int .u8 0, .int .u8 0, .int .u8 0, .int .u8 0, .int .u8 0, .int .u8 0, .int .u8 0, .int .u8 0, .int .u8 0, .int .u8 0, .int .u8 0, .int .u8 0, .int .u8 0, .int .u8 0, .int .u8 0, .int .u8 0, .int .u8 0, .int .u8 0, .int .u8 0, .int .u8 0, .int .u8 0, .int .u8 0, .int .u8 0] 48)
    have e : (w.alloc (.cells (cs h).toArray 48)).heap.size = w.heap.size + 1 := by simp
    rw [e] at this; exact this
  go_enter Try.func31, Try.ntmps31
  go_upto_region 1 with fail
  rw [← eW2]
  clear eW2
  obtain ⟨hb, ehb⟩ : ∃ hb, w.heap.size = hb := ⟨_, rfl⟩
  have ehbX : Hid (w.heap.size = hb) := ehb
  rw [ehb] at hBs q0 q1 s2 hB2 ⊢
  clear ehb
  have q2 : (W2.alloc (.cells #[] 73)).ownsRow B 73 33 (.slice (some ⟨W2.heap.size, 0, none⟩) 0 0) 0 [] := World.ownsRow_made (base := B) (e := 73) (size := 33) W2 #[] 0 (by omega) (by decide) rfl
  have G2 := World.grownBy_alloc W2 (.cells #[] 73) none
  have R3 := (R.below (by rw [ehbX.out]; exact hB2)).grow G2 (by simp) (by cases (Value.slice a m cap).ownBlock <;> simp)
  have hrow := R3.row
  rw [hLm.out] at hrow
  have hsz3 : (W2.alloc (.cells #[] 73)).heap.size = W2.heap.size + 1 := by simp
  obtain ⟨g, cap1, W1, hrun, row1, hgr, hat⟩ := run_append_any (P := Try.prog) (W2.alloc (.cells #[] 73)) 56 56 B 73 i0 (.agg (zeroH ++ [Value.bool false]).toArray) 33 33 Try.underlying56 hi0 hz0 hz1 hz2 rfl (by decide) W2.heap.size 0 0 [] q2 a m cap (L.flatMap pc) (by rw [flatP_len L hxs, hLm.out]) (fun hp => by
    obtain ⟨g, rfl⟩ := rowN_addr hrow hp
    exact ⟨_, rfl, fun j u hj => by
      have hlt := (List.getElem?_eq_some_iff.1 hj).1
      rw [Addr.add_mid, Nat.zero_add, hrow.cellAt j (by rw [← hrow.1]; exact hlt)]; exact hj⟩) (flatP_one L) (by unfold maxLen; omega) (by omega) (by omega)
  simp only [Nat.zero_add, List.nil_append] at hrun row1
  have hgr0 := hgr
  have q0 := still hgr (still G2 q0 (by simp)) (ne_some2 (by omega))
  have q1 := still hgr (still G2 q1 (by simp)) (ne_some2 (by omega))
  have qR := still hgr R3.blk (ne_some2 (by omega))
  have hB1 : Below hb w W1 := (hB2.trans ((grow_below G2).mono (by omega))).grown hgr (by omega) (fun k e => by cases e; omega)
  have s1 := hgr.size
  have hg : hb + 2 ≤ g := by rcases hat with h | h <;> omega
  have s1 : hb + 3 ≤ W1.heap.size := by omega
  obtain ⟨c0, _⟩ := R3.cells
  have hrunX : Hid _ := hrun
  have q0X : Hid _ := q0
  have q1X : Hid _ := q1
  have qRX : Hid _ := qR
  clear q2 hrow hat hgr hgr0 R3 R hrun q0 q1 qR s2 hB2 G2 hsz3
  go_upto_region 2 with (first | (refine wpList_append_to (vs := .slice (some ⟨W2.heap.size, 0, none⟩) 0 0) (vx := .slice a m cap) rfl (.tmp 10) (.tmp 14) 56 rfl rfl rfl hrunX.out ?_) | fail)
  clear hrunX c0
  have T1 : Turned w W1 rb rb none := ⟨hB1.os, hB1.tape, hB1.output, hB1.size, fun k hk _ _ _ => hB1.block k (by have := ehbX.out; omega)⟩
  clear hB1
  go_wp2_with fail
  go_loopw [9] (fun i wz => ∃ k d : Nat, k ≤ m ∧ i = .int .i64 k ∧ wz = W1.drewN d ∧ Hid (isIn (L.take k) h = false)) (fun i _ => m - (intOf i).toNat)
  case atStart => exact ⟨0, 0, Nat.zero_le _, rfl, rfl, (by show isIn (L.take 0) h = false; simp [isIn])⟩
  case round =>
    obtain ⟨k, d, hk, rfl, rfl, hT⟩ := hrel
    obtain ⟨W, hE⟩ : ∃ W, W = W1.drewN d := ⟨_, rfl⟩
    have rowW : W.ownsRow B 73 33 (.slice (some ⟨g, 0, none⟩) m cap1) m (L.flatMap pc) := by rw [hE]; exact row1.kept (grow_drewN W1 d) (.inr (fun e => by cases e))
    have q0W : W.heap[hb]? = some (.cells (cs h).toArray 48) := by rw [hE]; exact q0X.out
    have q1W : W.heap[hb + 1]? = some (.cells zeroH.toArray 48) := by rw [hE]; exact q1X.out
    have qRW : W.heap[rb]? = some (.cells #[.slice a m cap, .int .i64 room] 58) := by rw [hE]; exact qRX.out
    have TW : Turned w W rb rb none := by rw [hE]; exact T1.grow (grow_drewN W1 d) (fun k e => by cases e)
    have sW : hb + 3 ≤ W.heap.size := by rw [hE]; exact s1
    rw [← hE]
    have hW : Hid (W = W1.drewN d) := hE
    clear hE
    have glt := (rowW.lt g rfl).2
    by_cases hkm : k < m
    · have hkl : k < L.length := by rw [hLm.out]; exact hkm
      obtain ⟨p, hp⟩ : ∃ p, L[k]? = some p := ⟨_, List.getElem?_eq_getElem hkl⟩
      have X := hxs p (List.mem_of_getElem? hp)
      obtain ⟨rp, cp⟩ := pair_at hxs rowW hp
      have rpd : W.drew.rangeAt g (k * 33) (cs p.1) := rp
      have rhd : W.drew.rangeAt hb 0 (cs h) := range_of q0W
      have hip := sizeOfHash X
      have hqq := eql_hash X H
      have hpX : Hid _ := hp
      clear hp hkl cp rp
      have q0WX : Hid _ := q0W
      clear q0W
      have q1WX : Hid _ := q1W
      clear q1W
      have qRWX : Hid _ := qRW
      clear qRW
      have rowWX : Hid _ := rowW
      clear rowW
      by_cases e : p.1 = h
      · have hq : ∀ w : World, (binOp .eql 48 (.agg (cs p.1).toArray) (.agg (cs h).toArray)).run Try.prog w = .ok (.bool true) w := fun w => by rw [hqq w]; simpa using e
        have eX : Hid (p.1 = h) := e
        clear hqq e
        go_wp2_with fail
        refine wp_region_noPanic ?_
        refine wp_region_held_drew (S := (fun wz => wz.rangeAt g (k * 33) (cs p.1) ∧ wz.rangeAt hb 0 (cs h))) (by kernel_rfl) ⟨rpd, rhd⟩ (fun hHeld => ?_)
        refine wpAnyH_take (i := 0) (v := ?_) rfl (by kernel_rfl) (by kernel_rfl) (by kernel_rfl) (fun _ _ _ h => h) (Or.inl ⟨by kernel_rfl, ?_⟩) hHeld ?_
        rotate_left
        · intro w hSw; go_simp; first | done | with_reducible rfl
        try simp only [List.getElem_toArray, List.getElem_cons_zero, List.getElem_cons_succ, Act.put, List.setIfInBounds_toArray, List.set_cons_zero, List.set_cons_succ]
        refine wpAnyH_take (i := 1) (v := ?_) rfl (by kernel_rfl) (by kernel_rfl) (by kernel_rfl) (fun _ _ _ h => h) (Or.inl ⟨by kernel_rfl, ?_⟩) hHeld ?_
        rotate_left
        · intro w hSw; go_simp; first | done | with_reducible rfl
        try simp only [List.getElem_toArray, List.getElem_cons_zero, List.getElem_cons_succ, Act.put, List.setIfInBounds_toArray, List.set_cons_zero, List.set_cons_succ]
        refine wpAnyH_take (i := 2) (v := ?_) rfl (by kernel_rfl) (by kernel_rfl) (by kernel_rfl) (fun _ _ _ h => h) (Or.inl ⟨by kernel_rfl, ?_⟩) hHeld ?_
        rotate_left
        · intro w hSw; go_simp; first | done | with_reducible rfl
        try simp only [List.getElem_toArray, List.getElem_cons_zero, List.getElem_cons_succ, Act.put, List.setIfInBounds_toArray, List.set_cons_zero, List.set_cons_succ]
        refine wpAnyH_take (i := 3) (v := ?_) rfl (by kernel_rfl) (by kernel_rfl) (by kernel_rfl) (fun _ _ _ h => h) (Or.inl ⟨by kernel_rfl, ?_⟩) hHeld ?_
        rotate_left
        · intro w hSw; go_simp; first | done | with_reducible rfl
        try simp only [List.getElem_toArray, List.getElem_cons_zero, List.getElem_cons_succ, Act.put, List.setIfInBounds_toArray, List.set_cons_zero, List.set_cons_succ]
        refine' wpAnyH_take (i := 4) (v := _) rfl (by kernel_rfl) (by kernel_rfl) (by kernel_rfl) (fun _ _ _ h => h) (yieldsIf_load_mid (by kernel_rfl) _ _ rfl _ _ rfl _ _ (fun _ hSw => hSw.1) hu rfl hip) hHeld ?_
        try simp only [List.getElem_toArray, List.getElem_cons_zero, List.getElem_cons_succ, Act.put, List.setIfInBounds_toArray, List.set_cons_zero, List.set_cons_succ]
        refine' wpAnyH_take (i := 5) (v := _) rfl (by kernel_rfl) (by kernel_rfl) (by kernel_rfl) (fun _ _ _ h => h) (yieldsIf_load_mid (by kernel_rfl) _ _ rfl _ _ rfl _ _ (fun _ hSw => hSw.2) hu rfl hih) hHeld ?_
        try simp only [List.getElem_toArray, List.getElem_cons_zero, List.getElem_cons_succ, Act.put, List.setIfInBounds_toArray, List.set_cons_zero, List.set_cons_succ]
        refine wpAnyH_take (i := 6) (v := ?_) rfl (by kernel_rfl) (by kernel_rfl) (by kernel_rfl) (fun _ _ _ h => h) (Or.inl ⟨by kernel_rfl, ?_⟩) hHeld ?_
        rotate_left
        · intro w hSw; have hr := hq w; go_simp; first | done | with_reducible rfl
        try simp only [List.getElem_toArray, List.getElem_cons_zero, List.getElem_cons_succ, Act.put, List.setIfInBounds_toArray, List.set_cons_zero, List.set_cons_succ]
        refine wpAnyH_done (by kernel_rfl) ?_ _
        refine NoPanic.normal ?_
        try simp only [List.getElem_toArray, List.getElem_cons_zero, List.getElem_cons_succ, Act.put, List.setIfInBounds_toArray, List.set_cons_zero, List.set_cons_succ]
        have rowK : W.ownsRow B 73 33 (.slice (some ⟨g, 0, none⟩) m cap1) m (L.flatMap pc) := rowWX.out
        obtain ⟨V1, hst1, own1, gr1⟩ := store_bool (rowK.kept (grow_drew W) (.inr (fun e => by cases e))) (o := k * 33 + 32) (by omega) is
        rw [flat_set L hxs k p hpX.out is] at own1
        have eag : L.set k (p.1, is) = again L h is := by rw [← eX.out]; exact (again_nodup hn hpX.out is).symm
        rw [eag] at own1
        obtain ⟨V2, hst2, qR2, gr2⟩ := store_cell0 (v := .slice (some ⟨g, 0, none⟩) m cap1) (still gr1 (show W.drew.heap[rb]? = _ from qRWX.out) (ne_some (by omega))) rfl rfl
        obtain ⟨V3, hst3, q13, gr3⟩ := store_any (P := Try.prog) (vs := zeroH) sizeHash (still gr2 (still gr1 (show W.drew.heap[hb + 1]? = _ from q1WX.out) (ne_some (by omega))) (ne_some (by omega))) rfl rfl zero_one
        have T3 := (((TW.grow (grow_drew W) (fun k e => by cases e)).grow gr1 (fun k e => by cases e; right; right; right; have := ehbX.out; omega)).grow gr2 (fun k e => by cases e; exact .inl rfl)).grow gr3 (fun k e => by cases e; right; right; right; have := ehbX.out; omega)
        have hres := load_all q13 rfl
        have own3 := (own1.kept gr2 (sl_ne (by omega))).kept gr3 (sl_ne (by omega))
        have qR3 := still gr3 qR2 (ne_some (by omega))
        have hin : isIn L h = true := (first_hit hT.out hpX.out eX.out).2
        have e1 : goneL L room h = zero32 := by unfold goneL; rw [if_pos hin]
        have e2 : fullL L room h = false := by unfold fullL; rw [hin]; rfl
        have e3 : nextL L room h is = again L h is := by unfold nextL; rw [if_pos hin]
        have e4 : (again L h is).length = m := by unfold again; rw [List.length_map, hLm.out]
        have hs4 : ∀ x ∈ again L h is, IsHash x.1 := by
          rw [← eag]
          intro x hx
          rcases List.mem_or_eq_of_mem_set hx with h | h
          · exact hxs x h
          · rw [h]; exact X
        have RR : RHolds V3 B rb room (.slice (some ⟨g, 0, none⟩) m cap1) (again L h is) := ⟨qR3, by rw [e4]; exact own3, hs4, hsep, by have := T3.size; have := ehbX.out; omega⟩
        have e1X : Hid _ := e1
        have e2X : Hid _ := e2
        have e3X : Hid _ := e3
        clear e1 e2 e3 e4 eag hin own1 own3 qR2 qR3 q13 hs4
        go_wp2_with (first | (refine wpList_store_at (p := ⟨g, k * 33 + 32, none⟩) (v := .bool is) rfl 4 (.tmp 33) (.tmp 31) rfl rfl rfl hst1 ?_) | (refine wpList_store_at (p := ⟨rb, 0, none⟩) (v := .slice (some ⟨g, 0, none⟩) m cap1) rfl 56 (.tmp 37) (.tmp 35) rfl rfl rfl hst2 ?_) | (refine wpList_store_at (p := ⟨hb + 1, 0, none⟩) (v := .agg zeroH.toArray) rfl 48 (.tmp 6) _ rfl rfl rfl hst3 ?_) | (refine wpList_build_to rfl 48 #[] rfl #[] rfl _ (build_zero _) ?_) | fail)
        refine bodyPost_ret (v := .tuple #[.agg zeroH.toArray, .bool false]) (results_two rfl rfl rfl hres) rfl ⟨.slice (some ⟨g, 0, none⟩) m cap1, by rw [e1X.out, e2X.out]; rfl, by rw [e3X.out]; exact RR, T3, fun k e => by have := own_some2 (g := g) e; have := ehbX.out; omega⟩
      · have hq : ∀ w : World, (binOp .eql 48 (.agg (cs p.1).toArray) (.agg (cs h).toArray)).run Try.prog w = .ok (.bool false) w := fun w => by rw [hqq w]; simpa using e
        clear hqq
        have hT2 : Hid (isIn (L.take (k + 1)) h = false) := take_more hT.out hpX.out e
        clear e
        go_wp2_with fail
        refine wp_region_noPanic ?_
        refine wp_region_held_drew (S := (fun wz => wz.rangeAt g (k * 33) (cs p.1) ∧ wz.rangeAt hb 0 (cs h))) (by kernel_rfl) ⟨rpd, rhd⟩ (fun hHeld => ?_)
        refine wpAnyH_take (i := 0) (v := ?_) rfl (by kernel_rfl) (by kernel_rfl) (by kernel_rfl) (fun _ _ _ h => h) (Or.inl ⟨by kernel_rfl, ?_⟩) hHeld ?_
        rotate_left
        · intro w hSw; go_simp; first | done | with_reducible rfl
        try simp only [List.getElem_toArray, List.getElem_cons_zero, List.getElem_cons_succ, Act.put, List.setIfInBounds_toArray, List.set_cons_zero, List.set_cons_succ]
        refine wpAnyH_take (i := 1) (v := ?_) rfl (by kernel_rfl) (by kernel_rfl) (by kernel_rfl) (fun _ _ _ h => h) (Or.inl ⟨by kernel_rfl, ?_⟩) hHeld ?_
        rotate_left
        · intro w hSw; go_simp; first | done | with_reducible rfl
        try simp only [List.getElem_toArray, List.getElem_cons_zero, List.getElem_cons_succ, Act.put, List.setIfInBounds_toArray, List.set_cons_zero, List.set_cons_succ]
        refine wpAnyH_take (i := 2) (v := ?_) rfl (by kernel_rfl) (by kernel_rfl) (by kernel_rfl) (fun _ _ _ h => h) (Or.inl ⟨by kernel_rfl, ?_⟩) hHeld ?_
        rotate_left
        · intro w hSw; go_simp; first | done | with_reducible rfl
        try simp only [List.getElem_toArray, List.getElem_cons_zero, List.getElem_cons_succ, Act.put, List.setIfInBounds_toArray, List.set_cons_zero, List.set_cons_succ]
        refine wpAnyH_take (i := 3) (v := ?_) rfl (by kernel_rfl) (by kernel_rfl) (by kernel_rfl) (fun _ _ _ h => h) (Or.inl ⟨by kernel_rfl, ?_⟩) hHeld ?_
        rotate_left
        · intro w hSw; go_simp; first | done | with_reducible rfl
        try simp only [List.getElem_toArray, List.getElem_cons_zero, List.getElem_cons_succ, Act.put, List.setIfInBounds_toArray, List.set_cons_zero, List.set_cons_succ]
        refine' wpAnyH_take (i := 4) (v := _) rfl (by kernel_rfl) (by kernel_rfl) (by kernel_rfl) (fun _ _ _ h => h) (yieldsIf_load_mid (by kernel_rfl) _ _ rfl _ _ rfl _ _ (fun _ hSw => hSw.1) hu rfl hip) hHeld ?_
        try simp only [List.getElem_toArray, List.getElem_cons_zero, List.getElem_cons_succ, Act.put, List.setIfInBounds_toArray, List.set_cons_zero, List.set_cons_succ]
        refine' wpAnyH_take (i := 5) (v := _) rfl (by kernel_rfl) (by kernel_rfl) (by kernel_rfl) (fun _ _ _ h => h) (yieldsIf_load_mid (by kernel_rfl) _ _ rfl _ _ rfl _ _ (fun _ hSw => hSw.2) hu rfl hih) hHeld ?_
        try simp only [List.getElem_toArray, List.getElem_cons_zero, List.getElem_cons_succ, Act.put, List.setIfInBounds_toArray, List.set_cons_zero, List.set_cons_succ]
        refine wpAnyH_take (i := 6) (v := ?_) rfl (by kernel_rfl) (by kernel_rfl) (by kernel_rfl) (fun _ _ _ h => h) (Or.inl ⟨by kernel_rfl, ?_⟩) hHeld ?_
        rotate_left
        · intro w hSw; have hr := hq w; go_simp; first | done | with_reducible rfl
        try simp only [List.getElem_toArray, List.getElem_cons_zero, List.getElem_cons_succ, Act.put, List.setIfInBounds_toArray, List.set_cons_zero, List.set_cons_succ]
        refine wpAnyH_done (by kernel_rfl) ?_ _
        refine NoPanic.normal ?_
        try simp only [List.getElem_toArray, List.getElem_cons_zero, List.getElem_cons_succ, Act.put, List.setIfInBounds_toArray, List.set_cons_zero, List.set_cons_succ]
        go_wp2_with fail
        go_roundw
        case rel => exact ⟨k + 1, d + 1, by omega, by go_num, by rw [hW.out]; rfl, hT2⟩
        case measure => simp [intOf]; omega
    · obtain rfl : m = k := by omega
      have e0 := hT.out
      rw [← hLm.out, List.take_length] at e0
      have e0X : Hid (isIn L h = false) := e0
      have SW : Stand w W B rb hb g m cap1 (.slice a m cap) room L h := ⟨rowW, q0W, q1W, qRW, TW, sW, ehbX.out, hsep, hBs, hg, glt⟩
      have hLmX : L.length = m := hLm.out
      have hnl : ((L.length : Int) = room) = ((m : Int) = room) := by rw [hLmX]
      clear rowW q0W q1W qRW TW e0 hLmX q0X q1X qRX T1 row1
      by_cases hmr : (m : Int) < room
      · have e1X : Hid (goneL L room h = zero32) := by show goneL L room h = zero32; unfold goneL; rw [if_neg (by rw [e0X.out]; simp), if_neg (by rw [hnl]; omega)]
        have e2X : Hid (fullL L room h = false) := by show fullL L room h = false; unfold fullL; rw [e0X.out]; simp [hnl]; omega
        have e3X : Hid (nextL L room h is = L ++ [(h, is)]) := by show nextL L room h is = L ++ [(h, is)]; unfold nextL; rw [if_neg (by rw [e0X.out]; simp), if_neg (by rw [hnl]; omega)]
        clear hnl
        have rhd : W.rangeAt hb 0 (cs h) := range_of SW.q0
        have nR : W.cell? ⟨rb, 1, none⟩ = some (.int .i64 room) := by have := SW.qR; simp [World.cell?, this]
        have SA := SW.grow (World.grownBy_alloc W (.cells (pc (h, is)).toArray 73) none) (fun k e => by cases e)
        obtain ⟨g2, c2, V1, hrun2, own2, gr1, hat⟩ := run_append_any (P := Try.prog) (W.alloc (.cells (pc (h, is)).toArray 73)) 56 56 B 73 i0 (.agg (zeroH ++ [Value.bool false]).toArray) 33 33 Try.underlying56 hi0 hz0 hz1 hz2 rfl (by decide) g cap1 m (L.flatMap pc) SA.row (some ⟨W.heap.size, 0, none⟩) 1 1 (pc (h, is))  (by rw [pc_len (p := (h, is)) H]) (fun _ => ⟨_, rfl, news_of2 W (pc (h, is)) 73⟩) (pc_one _) (by unfold maxLen; omega) (by omega) (by have := SA.sz; omega)
        have hsA : W.heap.size < (W.alloc (.cells (pc (h, is)).toArray 73)).heap.size := by simp
        have hg2 : hb + 2 ≤ g2 := by rcases hat with h | h <;> omega
        rw [flatP_app] at own2
        obtain ⟨V2, hst2, qR2, gr2⟩ := store_cell0 (v := .slice (some ⟨g2, 0, none⟩) (m + 1) c2) (still gr1 SA.qR (ne_some2 (by omega))) rfl rfl
        obtain ⟨V3, hst3, q13, gr3⟩ := store_any (P := Try.prog) (vs := zeroH) sizeHash (still gr2 (still gr1 SA.q1 (ne_some2 (by omega))) (ne_some2 (by omega))) rfl rfl zero_one
        have T3 := ((SA.T.grow gr1 (fun k e => by cases e; right; right; right; have := ehbX.out; omega)).grow gr2 (fun k e => by cases e; exact .inl rfl)).grow gr3 (fun k e => by cases e; right; right; right; have := ehbX.out; omega)
        have hres := load_all q13 rfl
        have own3 := (own2.kept gr2 (sl_ne (by omega))).kept gr3 (sl_ne (by omega))
        have qR3 := still gr3 qR2 (ne_some2 (by omega))
        have e4 : (L ++ [(h, is)]).length = m + 1 := by rw [List.length_append, hLm.out]; rfl
        have hs4 : ∀ x ∈ L ++ [(h, is)], IsHash x.1 := by
          intro x hx
          rcases List.mem_append.1 hx with h | h
          · exact hxs x h
          · rw [List.mem_singleton.1 h]; exact H
        have RR : RHolds V3 B rb room (.slice (some ⟨g2, 0, none⟩) (m + 1) c2) (L ++ [(h, is)]) := ⟨qR3, by rw [e4]; exact own3, hs4, hsep, by have := T3.size; have := ehbX.out; omega⟩
        have hrun2X : Hid _ := hrun2
        clear e4 own2 own3 qR2 qR3 q13 hs4 SW SA hrun2 hsA
        go_wp2_with (first | (refine wpList_load_mid rfl 48 (.tmp 4) rfl (hb) 0 rfl (cs h) _ (rhd) hu rfl hih ?_) | (refine wpList_build_to rfl 73 #[(0, .tmp 48), (1, .tmp 49)] rfl #[(0, .agg (cs h).toArray), (1, .bool is)] (by go_simp) _ (build_pair H is _) ?_) | (refine wpList_buildSlice_to (vs := #[(0, .agg (pc (h, is)).toArray)]) rfl 56 1 #[(0, .tmp 50)] rfl (by go_simp) (build_pairs H is _) ?_) | (refine wpList_append_to (vs := .slice (some ⟨g, 0, none⟩) m cap1) (vx := .slice (some ⟨W.heap.size, 0, none⟩) 1 1) rfl (.tmp 47) (.tmp 51) 56 rfl rfl rfl hrun2X.out ?_) | (refine wpList_store_at (p := ⟨rb, 0, none⟩) (v := .slice (some ⟨g2, 0, none⟩) (m + 1) c2) rfl 56 (.tmp 54) (.tmp 52) rfl rfl rfl hst2 ?_) | (refine wpList_store_at (p := ⟨hb + 1, 0, none⟩) (v := .agg zeroH.toArray) rfl 48 (.tmp 6) _ rfl rfl rfl hst3 ?_) | (refine wpList_build_to rfl 48 #[] rfl #[] rfl _ (build_zero _) ?_) | fail)
        refine bodyPost_ret (v := .tuple #[.agg zeroH.toArray, .bool false]) (results_two rfl rfl rfl hres) rfl ⟨.slice (some ⟨g2, 0, none⟩) (m + 1) c2, by rw [e1X.out, e2X.out]; rfl, by rw [e3X.out]; exact RR, T3, fun k e => by have := own_some2 (g := g2) e; have := ehbX.out; omega⟩
      · have hmq : (m : Int) = room := by omega
        obtain ⟨p0, L0, eL⟩ : ∃ p0 L0, L = p0 :: L0 := by
          cases hL : L with
          | nil => have := hLm.out; rw [hL] at this; simp at this; omega
          | cons p0 L0 => exact ⟨p0, L0, rfl⟩
        have X0 := hxs p0 (by rw [eL]; simp)
        have e1X : Hid (goneL L room h = p0.1) := by show goneL L room h = p0.1; unfold goneL; rw [if_neg (by rw [e0X.out]; simp), if_pos (by rw [hnl]; exact hmq), eL]; rfl
        have e2X : Hid (fullL L room h = true) := by show fullL L room h = true; unfold fullL; rw [e0X.out]; simp [hnl, hmq]
        have e3X : Hid (nextL L room h is = L.tail ++ [(h, is)]) := by show nextL L room h is = L.tail ++ [(h, is)]; unfold nextL; rw [if_neg (by rw [e0X.out]; simp), if_pos (by rw [hnl]; exact hmq)]
        have h0X : Hid (L[0]? = some p0) := by show L[0]? = some p0; rw [eL]; rfl
        have m1 : 1 ≤ m := by omega
        clear hnl hmq eL
        obtain ⟨ct, hsl, hrest⟩ := rest_slice hxs SW.row hLm.out m1
        have hrestX : Hid _ := hrest
        have hslX : Hid _ := hsl
        have hts : ∀ x ∈ L.tail, IsHash x.1 := fun x hx => hxs x (List.mem_of_mem_tail hx)
        have htl : Hid (L.tail.length = m - 1) := by show L.tail.length = m - 1; rw [List.length_tail, hLm.out]
        have hfl : Hid ((L.tail.flatMap pc).length = (m - 1) * 33) := by show (L.tail.flatMap pc).length = (m - 1) * 33; rw [flatP_len _ hts, htl.out]
        have nR : W.cell? ⟨rb, 1, none⟩ = some (.int .i64 room) := by have := SW.qR; simp [World.cell?, this]
        have hmr2 : ¬ ((m : Int) < room) := hmr
        clear hrest hsl hmr
        have SV := SW.grow (grow_drew W) (fun k e => by cases e)
        have SVX : Hid _ := SV
        have rhd : W.drew.rangeAt hb 0 (cs h) := range_of SV.q0
        clear SW SV
        go_upto_region 12 with fail
        clear nR hmr2
        refine wp_region_noPanic ?_
        refine wp_region_held_drew (S := (fun wz => wz.rangeAt hb 0 (cs h))) (by kernel_rfl) rhd (fun hHeld => ?_)
        refine wpAnyH_take (i := 0) (v := ?_) rfl (by kernel_rfl) (by kernel_rfl) (by kernel_rfl) (fun _ _ _ h => h) (Or.inl ⟨by kernel_rfl, ?_⟩) hHeld ?_
        rotate_left
        · intro w hSw; go_simp; first | done | with_reducible rfl
        try simp only [List.getElem_toArray, List.getElem_cons_zero, List.getElem_cons_succ, Act.put, List.setIfInBounds_toArray, List.set_cons_zero, List.set_cons_succ]
        refine wpAnyH_take (i := 2) (v := ?_) rfl (by kernel_rfl) (by kernel_rfl) (by kernel_rfl) (fun _ _ _ h => h) (Or.inl ⟨by kernel_rfl, ?_⟩) hHeld ?_
        rotate_left
        · intro w hSw; go_simp; first | done | with_reducible rfl
        try simp only [List.getElem_toArray, List.getElem_cons_zero, List.getElem_cons_succ, Act.put, List.setIfInBounds_toArray, List.set_cons_zero, List.set_cons_succ]
        refine wpAnyH_take (i := 3) (v := .slice (some ct) (m - 1) (cap1 - 1)) rfl (by kernel_rfl) (by kernel_rfl) (by kernel_rfl) (fun _ _ _ h => h) (Or.inl ⟨by kernel_rfl, ?_⟩) hHeld ?_
        · intro w hSw; refine exec_slice2 ?_; have hr := hslX.out w; go_simp
        try simp only [List.getElem_toArray, List.getElem_cons_zero, List.getElem_cons_succ, Act.put, List.setIfInBounds_toArray, List.set_cons_zero, List.set_cons_succ]
        refine' wpAnyH_take (i := 5) (v := _) rfl (by kernel_rfl) (by kernel_rfl) (by kernel_rfl) (fun _ _ _ h => h) (yieldsIf_load_mid (by kernel_rfl) _ _ rfl _ _ rfl _ _ (fun _ hSw => hSw) hu rfl hih) hHeld ?_
        try simp only [List.getElem_toArray, List.getElem_cons_zero, List.getElem_cons_succ, Act.put, List.setIfInBounds_toArray, List.set_cons_zero, List.set_cons_succ]
        refine wpAnyH_take (i := 6) (v := ?_) rfl (by kernel_rfl) (by kernel_rfl) (by kernel_rfl) (fun _ _ _ h => h) (Or.inl ⟨by kernel_rfl, ?_⟩) hHeld ?_
        rotate_left
        · intro w hSw; go_simp; first | done | with_reducible rfl
        try simp only [List.getElem_toArray, List.getElem_cons_zero, List.getElem_cons_succ, Act.put, List.setIfInBounds_toArray, List.set_cons_zero, List.set_cons_succ]
        refine wpAnyH_take (i := 7) (v := .agg (pc (h, is)).toArray) rfl (by kernel_rfl) (by kernel_rfl) (by kernel_rfl) (fun _ _ _ h => h) (Or.inl ⟨by kernel_rfl, ?_⟩) hHeld ?_
        · intro w hSw; refine exec_build (vs := #[(0, .agg (cs h).toArray), (1, .bool is)]) (by go_simp) (build_pair H is w)
        try simp only [List.getElem_toArray, List.getElem_cons_zero, List.getElem_cons_succ, Act.put, List.setIfInBounds_toArray, List.set_cons_zero, List.set_cons_succ]
        refine wpAnyH_ready (rs := [1, 8]) (by kernel_rfl) (by simp) ?_
        refine AllReadyH.cons rfl (fun K hK => ?_) ?_
        · skip
          refine step_buildSlice_to (vs := #[]) rfl 56 0 #[] rfl (by go_simp) (build_none _) ?_
          have S1 := SVX.out.grow (World.grownBy_alloc W.drew (.cells #[] 73) none) (fun k e => by cases e)
          have own0 : (W.drew.alloc (.cells #[] 73)).ownsRow B 73 33 (.slice (some ⟨W.drew.heap.size, 0, none⟩) 0 0) 0 [] := World.ownsRow_made (base := B) (e := 73) (size := 33) W.drew #[] 0 (by have := SVX.out.sz; omega) (by decide) rfl
          have hV1 : hb + 3 ≤ W.drew.heap.size ∧ g < W.drew.heap.size := ⟨SVX.out.sz, SVX.out.lts.2.2.2.2⟩
          refine hK.out _ _ (range_of S1.q0) (fun hHeld1 => ?_)
          clear hK K
          try simp only [List.getElem_toArray, List.getElem_cons_zero, List.getElem_cons_succ, Act.put, List.setIfInBounds_toArray, List.set_cons_zero, List.set_cons_succ]
          refine wpAnyH_ready (rs := [4, 8]) (by kernel_rfl) (by simp) ?_
          refine AllReadyH.cons rfl (fun K hK => ?_) ?_
          · skip
            obtain ⟨e, ce, Y4, hr4, ownE, gr4, hat4⟩ := run_append_any (P := Try.prog) (W.drew.alloc (.cells #[] 73)) 56 56 B 73 i0 (.agg (zeroH ++ [Value.bool false]).toArray) 33 33 Try.underlying56 hi0 hz0 hz1 hz2 rfl (by decide) (W.drew.heap.size) 0 0 [] own0 (some ct) (m - 1) (cap1 - 1) (L.tail.flatMap pc) hfl.out (fun hp => ⟨ct, rfl, hrestX.out _ S1.row hp⟩) (flatP_one _) (by unfold maxLen; omega) (by omega) (by have := S1.sz; omega)
            simp only [Nat.zero_add, List.nil_append] at hr4 ownE
            refine step_append_to (vs := .slice (some ⟨W.drew.heap.size, 0, none⟩) 0 0) (vx := .slice (some ct) (m - 1) (cap1 - 1)) rfl (.tmp 57) (.tmp 59) 56 rfl rfl rfl hr4 ?_
            have S4 := S1.grow gr4 (fun k x => by cases x; exact hV1.2)
            refine hK.out _ _ (range_of S4.q0) (fun hHeld2 => ?_)
            clear hK K
            try simp only [List.getElem_toArray, List.getElem_cons_zero, List.getElem_cons_succ, Act.put, List.setIfInBounds_toArray, List.set_cons_zero, List.set_cons_succ]
            refine wpAnyH_ready (rs := [8]) (by kernel_rfl) (by simp) ?_
            refine AllReadyH.cons rfl (fun K hK => ?_) AllReadyH.nil
            refine step_buildSlice_to (vs := #[(0, .agg (pc (h, is)).toArray)]) rfl 56 1 #[(0, .tmp 63)] rfl (by go_simp) (build_pairs H is _) ?_
            have SY := S4.grow (World.grownBy_alloc Y4 (.cells (pc (h, is)).toArray 73) none) (fun k e => by cases e)
            refine hK.out _ _ (range_of SY.q0) (fun hHeld3 => ?_)
            clear hK K
            try simp only [List.getElem_toArray, List.getElem_cons_zero, List.getElem_cons_succ, Act.put, List.setIfInBounds_toArray, List.set_cons_zero, List.set_cons_succ]
            have qP := heap_alloc_new Y4 (.cells (pc (h, is)).toArray 73)
            have hs1 : (W.drew.alloc (.cells #[] 73)).heap.size = W.drew.heap.size + 1 := by simp
            have hge : g < e := by have := hV1.2; rcases hat4 with x | x <;> omega
            replace ownE := ownE.alloc (.cells (pc (h, is)).toArray 73)
            clear S1 S4 own0 hr4 gr4 hat4 hs1
            refine wpAnyH_ready (rs := [9]) (by kernel_rfl) (by simp) ?_
            refine AllReadyH.cons rfl (fun K hK => ?_) AllReadyH.nil
            obtain ⟨g9, c9, Z, hr9, own9, gr9, hat9⟩ := run_append_any (P := Try.prog) (Y4.alloc (.cells (pc (h, is)).toArray 73)) 56 56 B 73 i0 (.agg (zeroH ++ [Value.bool false]).toArray) 33 33 Try.underlying56 hi0 hz0 hz1 hz2 rfl (by decide) e ce (m - 1) (L.tail.flatMap pc) ownE (some ⟨Y4.heap.size, 0, none⟩) 1 1 (pc (h, is)) (by rw [pc_len (p := (h, is)) H]) (fun _ => ⟨_, rfl, by have := World.news_of_block qP; simpa using this⟩) (pc_one _) (by unfold maxLen; omega) (by omega) (by have := SY.sz; omega)
            refine step_append_to (vs := .slice (some ⟨e, 0, none⟩) (m - 1) ce) (vx := .slice (some ⟨Y4.heap.size, 0, none⟩) 1 1) rfl (.tmp 60) (.tmp 64) 56 rfl rfl rfl hr9 ?_
            have SZ := SY.grow gr9 (fun k x => by cases x; exact hge)
            refine hK.out _ _ (range_of SZ.q0) (fun hHeld9 => ?_)
            clear hK K
            try simp only [List.getElem_toArray, List.getElem_cons_zero, List.getElem_cons_succ, Act.put, List.setIfInBounds_toArray, List.set_cons_zero, List.set_cons_succ]
            refine wpAnyH_take (i := 10) (v := ?_) rfl (by kernel_rfl) (by kernel_rfl) (by kernel_rfl) (fun _ _ _ h => h) (Or.inl ⟨by kernel_rfl, ?_⟩) hHeld9 ?_
            rotate_left
            · intro w hSw; go_simp; first | done | with_reducible rfl
            try simp only [List.getElem_toArray, List.getElem_cons_zero, List.getElem_cons_succ, Act.put, List.setIfInBounds_toArray, List.set_cons_zero, List.set_cons_succ]
            refine wpAnyH_take (i := 11) (v := ?_) rfl (by kernel_rfl) (by kernel_rfl) (by kernel_rfl) (fun _ _ _ h => h) (Or.inl ⟨by kernel_rfl, ?_⟩) hHeld9 ?_
            rotate_left
            · intro w hSw; go_simp; first | done | with_reducible rfl
            try simp only [List.getElem_toArray, List.getElem_cons_zero, List.getElem_cons_succ, Act.put, List.setIfInBounds_toArray, List.set_cons_zero, List.set_cons_succ]
            refine wpAnyH_ready (rs := [12]) (by kernel_rfl) (by simp) ?_
            refine AllReadyH.cons rfl (fun K hK => ?_) AllReadyH.nil
            obtain ⟨Z2, hst2, qR2, gr2⟩ := store_cell0 (v := .slice (some ⟨g9, 0, none⟩) (m - 1 + 1) c9) SZ.qR rfl rfl
            obtain ⟨l1, l2, l3, l4, l5⟩ := SZ.lts
            have hg9 : hb + 3 ≤ g9 := by rcases hat9 with x | x <;> (have := SY.sz; omega)
            refine step_store_at (p := ⟨rb, 0, none⟩) (v := .slice (some ⟨g9, 0, none⟩) (m - 1 + 1) c9) rfl 56 (.tmp 67) (.tmp 65) rfl rfl rfl hst2 ?_
            have q02 := still gr2 SZ.q0 (ne_some2 (by omega))
            refine hK.out _ _ (range_of q02) (fun hHeld12 => ?_)
            clear hK K
            try simp only [List.getElem_toArray, List.getElem_cons_zero, List.getElem_cons_succ, Act.put, List.setIfInBounds_toArray, List.set_cons_zero, List.set_cons_succ]
            refine wpAnyH_done (by kernel_rfl) ?_ _
            refine NoPanic.normal ?_
            try simp only [List.getElem_toArray, List.getElem_cons_zero, List.getElem_cons_succ, Act.put, List.setIfInBounds_toArray, List.set_cons_zero, List.set_cons_succ]
            have rowZ := SZ.row.kept gr2 (sl_ne (by omega))
            have rp0 : Z2.rangeAt g 0 (cs p0.1) := by have := (pair_at hxs rowZ h0X.out).1; simpa using this
            obtain ⟨Z3, hst3, q13, gr3⟩ := store_any (P := Try.prog) (vs := cs p0.1) sizeHash (still gr2 SZ.q1 (ne_some2 (by omega))) (cs_len X0) rfl (cs_one p0.1)
            have T3 := (SZ.T.grow gr2 (fun k e => by cases e; exact .inl rfl)).grow gr3 (fun k e => by cases e; right; right; right; omega)
            have hres := load_all q13 (cs_len X0)
            rw [flatP_app] at own9
            have own3 := (own9.kept gr2 (sl_ne (by omega))).kept gr3 (sl_ne (by omega))
            have qR3 := still gr3 qR2 (ne_some2 (by omega))
            have e4 : (L.tail ++ [(h, is)]).length = m - 1 + 1 := by rw [List.length_append, htl.out]; rfl
            have hs4 : ∀ x ∈ L.tail ++ [(h, is)], IsHash x.1 := by
              intro x hx
              rcases List.mem_append.1 hx with h | h
              · exact hts x h
              · rw [List.mem_singleton.1 h]; exact H
            have RR : RHolds Z3 B rb room (.slice (some ⟨g9, 0, none⟩) (m - 1 + 1) c9) (L.tail ++ [(h, is)]) := ⟨qR3, by rw [e4]; exact own3, hs4, hsep, by have := T3.size; omega⟩
            clear e4 own9 own3 qR2 qR3 q13 hs4 ownE qP SY SZ rowZ hr9 gr9 gr2 gr3 q02
            go_wp2_with (first | (refine wpList_load_mid rfl 48 (.tmp 70) rfl (g) 0 rfl (cs p0.1) _ (rp0) hu rfl (sizeOfHash X0) ?_) | (refine wpList_store_at (p := ⟨hb + 1, 0, none⟩) (v := .agg (cs p0.1).toArray) rfl 48 (.tmp 6) _ rfl rfl rfl hst3 ?_) | fail)
            refine bodyPost_ret (v := .tuple #[.agg (cs p0.1).toArray, .bool true]) (results_two rfl rfl rfl hres) rfl ⟨.slice (some ⟨g9, 0, none⟩) (m - 1 + 1) c9, by rw [e1X.out, e2X.out], by rw [e3X.out]; exact RR, T3, fun k e => by have := own_some2 (g := g9) e; have := ehbX.out; omega⟩
          · refine AllReadyH.cons rfl (fun K hK => ?_) AllReadyH.nil
            refine step_buildSlice_to (vs := #[(0, .agg (pc (h, is)).toArray)]) rfl 56 1 #[(0, .tmp 63)] rfl (by go_simp) (build_pairs H is _) ?_
            have S8 := S1.grow (World.grownBy_alloc (W.drew.alloc (.cells #[] 73)) (.cells (pc (h, is)).toArray 73) none) (fun k e => by cases e)
            refine hK.out _ _ (range_of S8.q0) (fun hHeld2 => ?_)
            clear hK K
            try simp only [List.getElem_toArray, List.getElem_cons_zero, List.getElem_cons_succ, Act.put, List.setIfInBounds_toArray, List.set_cons_zero, List.set_cons_succ]
            refine wpAnyH_ready (rs := [4]) (by kernel_rfl) (by simp) ?_
            refine AllReadyH.cons rfl (fun K hK => ?_) AllReadyH.nil
            obtain ⟨e, ce, Y4, hr4, ownE, gr4, hat4⟩ := run_append_any (P := Try.prog) ((W.drew.alloc (.cells #[] 73)).alloc (.cells (pc (h, is)).toArray 73)) 56 56 B 73 i0 (.agg (zeroH ++ [Value.bool false]).toArray) 33 33 Try.underlying56 hi0 hz0 hz1 hz2 rfl (by decide) (W.drew.heap.size) 0 0 [] (own0.alloc (.cells (pc (h, is)).toArray 73)) (some ct) (m - 1) (cap1 - 1) (L.tail.flatMap pc) hfl.out (fun hp => ⟨ct, rfl, hrestX.out _ S8.row hp⟩) (flatP_one _) (by unfold maxLen; omega) (by omega) (by have := S8.sz; omega)
            simp only [Nat.zero_add, List.nil_append] at hr4 ownE
            refine step_append_to (vs := .slice (some ⟨W.drew.heap.size, 0, none⟩) 0 0) (vx := .slice (some ct) (m - 1) (cap1 - 1)) rfl (.tmp 57) (.tmp 59) 56 rfl rfl rfl hr4 ?_
            have SY := S8.grow gr4 (fun k x => by cases x; exact hV1.2)
            refine hK.out _ _ (range_of SY.q0) (fun hHeld3 => ?_)
            clear hK K
            try simp only [List.getElem_toArray, List.getElem_cons_zero, List.getElem_cons_succ, Act.put, List.setIfInBounds_toArray, List.set_cons_zero, List.set_cons_succ]
            have hs1 : (W.drew.alloc (.cells #[] 73)).heap.size = W.drew.heap.size + 1 := by simp
            have hs8 : ((W.drew.alloc (.cells #[] 73)).alloc (.cells (pc (h, is)).toArray 73)).heap.size = (W.drew.alloc (.cells #[] 73)).heap.size + 1 := by simp
            have qP := still gr4 (heap_alloc_new (W.drew.alloc (.cells #[] 73)) (.cells (pc (h, is)).toArray 73)) (ne_some2 (by omega))
            have hge : g < e := by have := hV1.2; rcases hat4 with x | x <;> omega
            clear S1 S8 own0 hr4 gr4 hat4 hs1 hs8
            refine wpAnyH_ready (rs := [9]) (by kernel_rfl) (by simp) ?_
            refine AllReadyH.cons rfl (fun K hK => ?_) AllReadyH.nil
            obtain ⟨g9, c9, Z, hr9, own9, gr9, hat9⟩ := run_append_any (P := Try.prog) Y4 56 56 B 73 i0 (.agg (zeroH ++ [Value.bool false]).toArray) 33 33 Try.underlying56 hi0 hz0 hz1 hz2 rfl (by decide) e ce (m - 1) (L.tail.flatMap pc) ownE (some ⟨(W.drew.alloc (.cells #[] 73)).heap.size, 0, none⟩) 1 1 (pc (h, is)) (by rw [pc_len (p := (h, is)) H]) (fun _ => ⟨_, rfl, by have := World.news_of_block qP; simpa using this⟩) (pc_one _) (by unfold maxLen; omega) (by omega) (by have := SY.sz; omega)
            refine step_append_to (vs := .slice (some ⟨e, 0, none⟩) (m - 1) ce) (vx := .slice (some ⟨(W.drew.alloc (.cells #[] 73)).heap.size, 0, none⟩) 1 1) rfl (.tmp 60) (.tmp 64) 56 rfl rfl rfl hr9 ?_
            have SZ := SY.grow gr9 (fun k x => by cases x; exact hge)
            refine hK.out _ _ (range_of SZ.q0) (fun hHeld9 => ?_)
            clear hK K
            try simp only [List.getElem_toArray, List.getElem_cons_zero, List.getElem_cons_succ, Act.put, List.setIfInBounds_toArray, List.set_cons_zero, List.set_cons_succ]
            refine wpAnyH_take (i := 10) (v := ?_) rfl (by kernel_rfl) (by kernel_rfl) (by kernel_rfl) (fun _ _ _ h => h) (Or.inl ⟨by kernel_rfl, ?_⟩) hHeld9 ?_
            rotate_left
            · intro w hSw; go_simp; first | done | with_reducible rfl
            try simp only [List.getElem_toArray, List.getElem_cons_zero, List.getElem_cons_succ, Act.put, List.setIfInBounds_toArray, List.set_cons_zero, List.set_cons_succ]
            refine wpAnyH_take (i := 11) (v := ?_) rfl (by kernel_rfl) (by kernel_rfl) (by kernel_rfl) (fun _ _ _ h => h) (Or.inl ⟨by kernel_rfl, ?_⟩) hHeld9 ?_
            rotate_left
            · intro w hSw; go_simp; first | done | with_reducible rfl
            try simp only [List.getElem_toArray, List.getElem_cons_zero, List.getElem_cons_succ, Act.put, List.setIfInBounds_toArray, List.set_cons_zero, List.set_cons_succ]
            refine wpAnyH_ready (rs := [12]) (by kernel_rfl) (by simp) ?_
            refine AllReadyH.cons rfl (fun K hK => ?_) AllReadyH.nil
            obtain ⟨Z2, hst2, qR2, gr2⟩ := store_cell0 (v := .slice (some ⟨g9, 0, none⟩) (m - 1 + 1) c9) SZ.qR rfl rfl
            obtain ⟨l1, l2, l3, l4, l5⟩ := SZ.lts
            have hg9 : hb + 3 ≤ g9 := by rcases hat9 with x | x <;> (have := SY.sz; omega)
            refine step_store_at (p := ⟨rb, 0, none⟩) (v := .slice (some ⟨g9, 0, none⟩) (m - 1 + 1) c9) rfl 56 (.tmp 67) (.tmp 65) rfl rfl rfl hst2 ?_
            have q02 := still gr2 SZ.q0 (ne_some2 (by omega))
            refine hK.out _ _ (range_of q02) (fun hHeld12 => ?_)
            clear hK K
            try simp only [List.getElem_toArray, List.getElem_cons_zero, List.getElem_cons_succ, Act.put, List.setIfInBounds_toArray, List.set_cons_zero, List.set_cons_succ]
            refine wpAnyH_done (by kernel_rfl) ?_ _
            refine NoPanic.normal ?_
            try simp only [List.getElem_toArray, List.getElem_cons_zero, List.getElem_cons_succ, Act.put, List.setIfInBounds_toArray, List.set_cons_zero, List.set_cons_succ]
            have rowZ := SZ.row.kept gr2 (sl_ne (by omega))
            have rp0 : Z2.rangeAt g 0 (cs p0.1) := by have := (pair_at hxs rowZ h0X.out).1; simpa using this
            obtain ⟨Z3, hst3, q13, gr3⟩ := store_any (P := Try.prog) (vs := cs p0.1) sizeHash (still gr2 SZ.q1 (ne_some2 (by omega))) (cs_len X0) rfl (cs_one p0.1)
            have T3 := (SZ.T.grow gr2 (fun k e => by cases e; exact .inl rfl)).grow gr3 (fun k e => by cases e; right; right; right; omega)
            have hres := load_all q13 (cs_len X0)
            rw [flatP_app] at own9
            have own3 := (own9.kept gr2 (sl_ne (by omega))).kept gr3 (sl_ne (by omega))
            have qR3 := still gr3 qR2 (ne_some2 (by omega))
            have e4 : (L.tail ++ [(h, is)]).length = m - 1 + 1 := by rw [List.length_append, htl.out]; rfl
            have hs4 : ∀ x ∈ L.tail ++ [(h, is)], IsHash x.1 := by
              intro x hx
              rcases List.mem_append.1 hx with h | h
              · exact hts x h
              · rw [List.mem_singleton.1 h]; exact H
            have RR : RHolds Z3 B rb room (.slice (some ⟨g9, 0, none⟩) (m - 1 + 1) c9) (L.tail ++ [(h, is)]) := ⟨qR3, by rw [e4]; exact own3, hs4, hsep, by have := T3.size; omega⟩
            clear e4 own9 own3 qR2 qR3 q13 hs4 ownE qP SY SZ rowZ hr9 gr9 gr2 gr3 q02
            go_wp2_with (first | (refine wpList_load_mid rfl 48 (.tmp 70) rfl (g) 0 rfl (cs p0.1) _ (rp0) hu rfl (sizeOfHash X0) ?_) | (refine wpList_store_at (p := ⟨hb + 1, 0, none⟩) (v := .agg (cs p0.1).toArray) rfl 48 (.tmp 6) _ rfl rfl rfl hst3 ?_) | fail)
            refine bodyPost_ret (v := .tuple #[.agg (cs p0.1).toArray, .bool true]) (results_two rfl rfl rfl hres) rfl ⟨.slice (some ⟨g9, 0, none⟩) (m - 1 + 1) c9, by rw [e1X.out, e2X.out], by rw [e3X.out]; exact RR, T3, fun k e => by have := own_some2 (g := g9) e; have := ehbX.out; omega⟩
        · refine AllReadyH.cons rfl (fun K hK => ?_) AllReadyH.nil
          refine step_buildSlice_to (vs := #[(0, .agg (pc (h, is)).toArray)]) rfl 56 1 #[(0, .tmp 63)] rfl (by go_simp) (build_pairs H is _) ?_
          have S8 := SVX.out.grow (World.grownBy_alloc W.drew (.cells (pc (h, is)).toArray 73) none) (fun k e => by cases e)
          have hV1 : hb + 3 ≤ W.drew.heap.size ∧ g < W.drew.heap.size := ⟨SVX.out.sz, SVX.out.lts.2.2.2.2⟩
          refine hK.out _ _ (range_of S8.q0) (fun hHeld1 => ?_)
          clear hK K
          try simp only [List.getElem_toArray, List.getElem_cons_zero, List.getElem_cons_succ, Act.put, List.setIfInBounds_toArray, List.set_cons_zero, List.set_cons_succ]
          refine wpAnyH_ready (rs := [1]) (by kernel_rfl) (by simp) ?_
          refine AllReadyH.cons rfl (fun K hK => ?_) AllReadyH.nil
          refine step_buildSlice_to (vs := #[]) rfl 56 0 #[] rfl (by go_simp) (build_none _) ?_
          have S1 := S8.grow (World.grownBy_alloc (W.drew.alloc (.cells (pc (h, is)).toArray 73)) (.cells #[] 73) none) (fun k e => by cases e)
          have own0 : ((W.drew.alloc (.cells (pc (h, is)).toArray 73)).alloc (.cells #[] 73)).ownsRow B 73 33 (.slice (some ⟨(W.drew.alloc (.cells (pc (h, is)).toArray 73)).heap.size, 0, none⟩) 0 0) 0 [] := World.ownsRow_made (base := B) (e := 73) (size := 33) (W.drew.alloc (.cells (pc (h, is)).toArray 73)) #[] 0 (by have := S8.sz; omega) (by decide) rfl
          refine hK.out _ _ (range_of S1.q0) (fun hHeld2 => ?_)
          clear hK K
          try simp only [List.getElem_toArray, List.getElem_cons_zero, List.getElem_cons_succ, Act.put, List.setIfInBounds_toArray, List.set_cons_zero, List.set_cons_succ]
          have hs8 : (W.drew.alloc (.cells (pc (h, is)).toArray 73)).heap.size = W.drew.heap.size + 1 := by simp
          have hs1 : ((W.drew.alloc (.cells (pc (h, is)).toArray 73)).alloc (.cells #[] 73)).heap.size = (W.drew.alloc (.cells (pc (h, is)).toArray 73)).heap.size + 1 := by simp
          refine wpAnyH_ready (rs := [4]) (by kernel_rfl) (by simp) ?_
          refine AllReadyH.cons rfl (fun K hK => ?_) AllReadyH.nil
          obtain ⟨e, ce, Y4, hr4, ownE, gr4, hat4⟩ := run_append_any (P := Try.prog) ((W.drew.alloc (.cells (pc (h, is)).toArray 73)).alloc (.cells #[] 73)) 56 56 B 73 i0 (.agg (zeroH ++ [Value.bool false]).toArray) 33 33 Try.underlying56 hi0 hz0 hz1 hz2 rfl (by decide) ((W.drew.alloc (.cells (pc (h, is)).toArray 73)).heap.size) 0 0 [] own0 (some ct) (m - 1) (cap1 - 1) (L.tail.flatMap pc) hfl.out (fun hp => ⟨ct, rfl, hrestX.out _ S1.row hp⟩) (flatP_one _) (by unfold maxLen; omega) (by omega) (by have := S1.sz; omega)
          simp only [Nat.zero_add, List.nil_append] at hr4 ownE
          refine step_append_to (vs := .slice (some ⟨(W.drew.alloc (.cells (pc (h, is)).toArray 73)).heap.size, 0, none⟩) 0 0) (vx := .slice (some ct) (m - 1) (cap1 - 1)) rfl (.tmp 57) (.tmp 59) 56 rfl rfl rfl hr4 ?_
          have SY := S1.grow gr4 (fun k x => by cases x; have := hV1.2; omega)
          refine hK.out _ _ (range_of SY.q0) (fun hHeld3 => ?_)
          clear hK K
          try simp only [List.getElem_toArray, List.getElem_cons_zero, List.getElem_cons_succ, Act.put, List.setIfInBounds_toArray, List.set_cons_zero, List.set_cons_succ]
          have qP := still gr4 (still (World.grownBy_alloc (W.drew.alloc (.cells (pc (h, is)).toArray 73)) (.cells #[] 73) none) (heap_alloc_new W.drew (.cells (pc (h, is)).toArray 73)) (by simp)) (ne_some2 (by omega))
          have hge : g < e := by have := hV1.2; rcases hat4 with x | x <;> omega
          clear S1 S8 own0 hr4 gr4 hat4 hs1 hs8
          refine wpAnyH_ready (rs := [9]) (by kernel_rfl) (by simp) ?_
          refine AllReadyH.cons rfl (fun K hK => ?_) AllReadyH.nil
          obtain ⟨g9, c9, Z, hr9, own9, gr9, hat9⟩ := run_append_any (P := Try.prog) Y4 56 56 B 73 i0 (.agg (zeroH ++ [Value.bool false]).toArray) 33 33 Try.underlying56 hi0 hz0 hz1 hz2 rfl (by decide) e ce (m - 1) (L.tail.flatMap pc) ownE (some ⟨W.drew.heap.size, 0, none⟩) 1 1 (pc (h, is)) (by rw [pc_len (p := (h, is)) H]) (fun _ => ⟨_, rfl, by have := World.news_of_block qP; simpa using this⟩) (pc_one _) (by unfold maxLen; omega) (by omega) (by have := SY.sz; omega)
          refine step_append_to (vs := .slice (some ⟨e, 0, none⟩) (m - 1) ce) (vx := .slice (some ⟨W.drew.heap.size, 0, none⟩) 1 1) rfl (.tmp 60) (.tmp 64) 56 rfl rfl rfl hr9 ?_
          have SZ := SY.grow gr9 (fun k x => by cases x; exact hge)
          refine hK.out _ _ (range_of SZ.q0) (fun hHeld9 => ?_)
          clear hK K
          try simp only [List.getElem_toArray, List.getElem_cons_zero, List.getElem_cons_succ, Act.put, List.setIfInBounds_toArray, List.set_cons_zero, List.set_cons_succ]
          refine wpAnyH_take (i := 10) (v := ?_) rfl (by kernel_rfl) (by kernel_rfl) (by kernel_rfl) (fun _ _ _ h => h) (Or.inl ⟨by kernel_rfl, ?_⟩) hHeld9 ?_
          rotate_left
          · intro w hSw; go_simp; first | done | with_reducible rfl
          try simp only [List.getElem_toArray, List.getElem_cons_zero, List.getElem_cons_succ, Act.put, List.setIfInBounds_toArray, List.set_cons_zero, List.set_cons_succ]
          refine wpAnyH_take (i := 11) (v := ?_) rfl (by kernel_rfl) (by kernel_rfl) (by kernel_rfl) (fun _ _ _ h => h) (Or.inl ⟨by kernel_rfl, ?_⟩) hHeld9 ?_
          rotate_left
          · intro w hSw; go_simp; first | done | with_reducible rfl
          try simp only [List.getElem_toArray, List.getElem_cons_zero, List.getElem_cons_succ, Act.put, List.setIfInBounds_toArray, List.set_cons_zero, List.set_cons_succ]
          refine wpAnyH_ready (rs := [12]) (by kernel_rfl) (by simp) ?_
          refine AllReadyH.cons rfl (fun K hK => ?_) AllReadyH.nil
          obtain ⟨Z2, hst2, qR2, gr2⟩ := store_cell0 (v := .slice (some ⟨g9, 0, none⟩) (m - 1 + 1) c9) SZ.qR rfl rfl
          obtain ⟨l1, l2, l3, l4, l5⟩ := SZ.lts
          have hg9 : hb + 3 ≤ g9 := by rcases hat9 with x | x <;> (have := SY.sz; omega)
          refine step_store_at (p := ⟨rb, 0, none⟩) (v := .slice (some ⟨g9, 0, none⟩) (m - 1 + 1) c9) rfl 56 (.tmp 67) (.tmp 65) rfl rfl rfl hst2 ?_
          have q02 := still gr2 SZ.q0 (ne_some2 (by omega))
          refine hK.out _ _ (range_of q02) (fun hHeld12 => ?_)
          clear hK K
          try simp only [List.getElem_toArray, List.getElem_cons_zero, List.getElem_cons_succ, Act.put, List.setIfInBounds_toArray, List.set_cons_zero, List.set_cons_succ]
          refine wpAnyH_done (by kernel_rfl) ?_ _
          refine NoPanic.normal ?_
          try simp only [List.getElem_toArray, List.getElem_cons_zero, List.getElem_cons_succ, Act.put, List.setIfInBounds_toArray, List.set_cons_zero, List.set_cons_succ]
          have rowZ := SZ.row.kept gr2 (sl_ne (by omega))
          have rp0 : Z2.rangeAt g 0 (cs p0.1) := by have := (pair_at hxs rowZ h0X.out).1; simpa using this
          obtain ⟨Z3, hst3, q13, gr3⟩ := store_any (P := Try.prog) (vs := cs p0.1) sizeHash (still gr2 SZ.q1 (ne_some2 (by omega))) (cs_len X0) rfl (cs_one p0.1)
          have T3 := (SZ.T.grow gr2 (fun k e => by cases e; exact .inl rfl)).grow gr3 (fun k e => by cases e; right; right; right; omega)
          have hres := load_all q13 (cs_len X0)
          rw [flatP_app] at own9
          have own3 := (own9.kept gr2 (sl_ne (by omega))).kept gr3 (sl_ne (by omega))
          have qR3 := still gr3 qR2 (ne_some2 (by omega))
          have e4 : (L.tail ++ [(h, is)]).length = m - 1 + 1 := by rw [List.length_append, htl.out]; rfl
          have hs4 : ∀ x ∈ L.tail ++ [(h, is)], IsHash x.1 := by
            intro x hx
            rcases List.mem_append.1 hx with h | h
            · exact hts x h
            · rw [List.mem_singleton.1 h]; exact H
          have RR : RHolds Z3 B rb room (.slice (some ⟨g9, 0, none⟩) (m - 1 + 1) c9) (L.tail ++ [(h, is)]) := ⟨qR3, by rw [e4]; exact own3, hs4, hsep, by have := T3.size; omega⟩
          clear e4 own9 own3 qR2 qR3 q13 hs4 ownE qP SY SZ rowZ hr9 gr9 gr2 gr3 q02
          go_wp2_with (first | (refine wpList_load_mid rfl 48 (.tmp 70) rfl (g) 0 rfl (cs p0.1) _ (rp0) hu rfl (sizeOfHash X0) ?_) | (refine wpList_store_at (p := ⟨hb + 1, 0, none⟩) (v := .agg (cs p0.1).toArray) rfl 48 (.tmp 6) _ rfl rfl rfl hst3 ?_) | fail)
          refine bodyPost_ret (v := .tuple #[.agg (cs p0.1).toArray, .bool true]) (results_two rfl rfl rfl hres) rfl ⟨.slice (some ⟨g9, 0, none⟩) (m - 1 + 1) c9, by rw [e1X.out, e2X.out], by rw [e3X.out]; exact RR, T3, fun k e => by have := own_some2 (g := g9) e; have := ehbX.out; omega⟩
end Go.Proofs.Ytecmhkkjobflcaa.Ver
