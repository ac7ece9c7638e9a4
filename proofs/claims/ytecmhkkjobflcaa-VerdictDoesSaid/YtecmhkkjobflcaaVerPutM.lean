/- Contract of a cache's Put: the digest isn't known, and there is room. -/
import Derived.Test.YtecmhkkjobflcaaVerPut
namespace Go.Proofs.Ytecmhkkjobflcaa.Ver
open Go.RowKit Go.WideMaps Go.Maps
set_option linter.unusedVariables false
set_option linter.unusedSimpArgs false
set_option maxRecDepth 100000

set_option maxHeartbeats 8000000 in
theorem put_m {w : World} {B cb bm : Nat} {room : Int} {v : Value} {n : Nat} {D : DataW Unit} {L : Known} (C : Holds w B cb bm room v n D L) (h : List Int) (H : IsHash h) (is : Bool) (h1 : 1 ≤ room) (h2 : room ≤ 100) (hm : L.length ≤ room) (hn : n ≤ 1000000) (hin : isIn L h = false) (hne : ¬ (L.length : Int) = room) :
    Calls Try.prog 30 #[.pointer (some ⟨cb, 0, none⟩), .agg (cs h).toArray, .bool is] w fun e w' => ∃ v' D', e = .returned (.tuple #[.agg zeroH.toArray, .bool false]) ∧ Holds w' B cb bm room v' (n + 1) D' (L ++ [(h, is)]) ∧ Turned w w' cb bm v.ownBlock ∧ (∀ k, v'.ownBlock = some k → some k = v.ownBlock ∨ w.heap.size ≤ k) := by
  obtain ⟨a1, cap1, rfl⟩ := Known_shape C.row
  obtain ⟨i0, hi0, hz0, hz1, hz2⟩ := info_parts infoHash
  have hu := Try.underlying48
  have hi : (Try.prog.info? 48).map (·.size) = some (cs h).length := by rw [sizeHash, cs_len H]
  have hlt := C.lt
  obtain ⟨W0, hW0⟩ : ∃ W0, W0 = ((w.alloc (.cells (cs h).toArray 48)).alloc (.cells #[.int .u8 0, .int .u8 0, .int .u8 0, .int .u8 0, .int .u8 0, .int .u8 0, .int .u8 0, .int .u8 0, .int .u8 0, .int .u8 0, .int .u8 0, .int .u8 0, .int .u8 0, .int .u8 0, .int .u8 0, .int .u8 0, .int .u8 0, .int .u8 0, .int .u8 0, .int .u8 0, .int .u8 0, .int .u8 0, .int .u8 0, .int .u8 0, .int .u8 0, .int .u8 0, .int .u8 0, .int .u8 0, .int .u8 0, .int .u8 0, .int .u8 0, .int .u8 0] 48)).alloc (.cells #[.int .u8 0, .int .u8 0, .int .u8 0, .int .u8 0, .int .u8 0, .int .u8 0, .int .u8 0, .int .u8 0, .int .u8 0, .int .u8 0, .int .u8 0, .int .u8 0, .int .u8 0, .int .u8 0, .int .u8 0, .int .u8 0, .int .u8 0, .int .u8 0, .int .u8 0, .int .u8 0, .int .u8 0, .int .u8 0, .int .u8 0, .int .u8 0, .int .u8 0, .int .u8 0, .int .u8 0, .int .u8 0, .int .u8 0, .int .u8 0, .int .u8 0, .int .u8 0] 48) := ⟨_, rfl⟩
  have sz : W0.heap.size = w.heap.size + 3 := by rw [hW0]; simp
  have B0 : Below w.heap.size w W0 := by rw [hW0]; exact (((Below.refl _ _).alloc (Nat.le_refl _) _).alloc (by simp) _).alloc (by simp; omega) _
  have f0 : W0.heap[w.heap.size]? = some (.cells (cs h).toArray 48) := by
    rw [hW0, Below.heap_alloc _ _ _ (by simp; omega), Below.heap_alloc _ _ _ (by simp)]; exact heap_alloc_new _ _
  have f1 : W0.heap[w.heap.size + 1]? = some (.cells zeroH.toArray 48) := by
    rw [hW0, Below.heap_alloc _ _ _ (by simp)]
    have := heap_alloc_new (w.alloc (.cells (cs h).toArray 48)) (.cells #[.int .u8 0, .int .u8 0, .int .u8 0, .int .u8 0, .int .u8 0, .int .u8 0, .int .u8 0, .int .u8 0, .int .u8 0, .int .u8 0, .int .u8 0, .int .u8 0, .int .u8 0, .int .u8 0, .int .u8 0, .int .u8 0, .int .u8 0, .int .u8 0, .int .u8 0, .int .u8 0, .int .u8 0, .int .u8 0, .int .u8 0, .int .u8 0, .int .u8 0, .int .u8 0, .int .u8 0, .int .u8 0, .int .u8 0, .int .u8 0, .int .u8 0, .int .u8 0] 48)
    simpa [zeroH] using this
  have f2 : W0.heap[w.heap.size + 1 + 1]? = some (.cells zeroH.toArray 48) := by
    rw [hW0]
    have := heap_alloc_new ((w.alloc (.cells (cs h).toArray 48)).alloc (.cells #[.int .u8 0, .int .u8 0, .int .u8 0, .int .u8 0, .int .u8 0, .int .u8 0, .int .u8 0, .int .u8 0, .int .u8 0, .int .u8 0, .int .u8 0, .int .u8 0, .int .u8 0, .int .u8 0, .int .u8 0, .int .u8 0, .int .u8 0, .int .u8 0, .int .u8 0, .int .u8 0, .int .u8 0, .int .u8 0, .int .u8 0, .int .u8 0, .int .u8 0, .int .u8 0, .int .u8 0, .int .u8 0, .int .u8 0, .int .u8 0, .int .u8 0, .int .u8 0] 48)) (.cells #[.int .u8 0, .int .u8 0, .int .u8 0, .int .u8 0, .int .u8 0, .int .u8 0, .int .u8 0, .int .u8 0, .int .u8 0, .int .u8 0, .int .u8 0, .int .u8 0, .int .u8 0, .int .u8 0, .int .u8 0, .int .u8 0, .int .u8 0, .int .u8 0, .int .u8 0, .int .u8 0, .int .u8 0, .int .u8 0, .int .u8 0, .int .u8 0, .int .u8 0, .int .u8 0, .int .u8 0, .int .u8 0, .int .u8 0, .int .u8 0, .int .u8 0, .int .u8 0] 48)
    simpa [zeroH] using this
  have T0 : Turned w W0 cb bm (Value.slice a1 L.length cap1).ownBlock := ⟨B0.os, B0.tape, B0.output, B0.size, fun k hk _ _ _ => B0.block k hk⟩
  have C0 := C.below B0
  obtain ⟨k0, k1, k2⟩ := C0.cell1
  have hr0 : W0.drew.rangeAt w.heap.size 0 (cs h) := range_of f0
  have hrun := look_c (C0.grow (grow_drew W0) (by simp) (by simp) (by cases (Value.slice a1 L.length cap1).ownBlock <;> simp)) h H
  have k1' : W0.drew.cell? ⟨cb, 1, none⟩ = some (.map (some bm)) := k1
  have sep := C.sep
  rw [hin] at hrun
  have hq : ((L.length : Int) == room) = false := by simpa using hne
  cases is
  · go_enter Try.func30, Try.ntmps30
    go_wp2_with fail
    rw [← hW0]
    clear hW0
    go_region_held3 (fun wz => wz.cell? ⟨cb, 1, none⟩ = some (.map (some bm)) ∧ wz.rangeAt w.heap.size 0 (cs h)) (first | exact ⟨k1', hr0⟩ | assumption) (fail)
    go_upto_region 6 with fail
    go_cut [12] (fun full wx => full = .bool false ∧ ∃ W1, W1 = wx ∧ W0.grownBy W1 none)
    case first =>
      go_quiet (fail)
      all_goals
        go_wp2_with fail
        go_meet
        exact ⟨by first | rfl | (rw [hq]) | simp [hq], _, rfl, grow_trans (grow_drew W0) (grow_drewN _ _)⟩
    case rest =>
      obtain ⟨rfl, W1, rfl, hG⟩ := hcut
      have szW : w.heap.size + 3 ≤ W1.heap.size := by have := hG.size; omega
      have T1 := T0.grow hG (fun k hk => by cases hk)
      have f0 := still hG f0 (by simp)
      have f1 := still hG f1 (by simp)
      have f2 := still hG f2 (by simp)
      have blk1 := still hG C0.blk (by simp)
      have map1 := C0.map.kept hG (by simp)
      have row1 := C0.row.kept hG (by cases (Value.slice a1 L.length cap1).ownBlock <;> simp)
      have says1 := C0.says
      have hin1 := hin
      have nown : ∀ k, w.heap.size ≤ k → k < w.heap.size + 3 → (Value.slice a1 L.length cap1).ownBlock = some k → False := fun k a b e => by have := C.row.lt k e; omega
      have ownT : ∀ k, (Value.slice a1 L.length cap1).ownBlock = some k → k = cb ∨ k = bm ∨ some k = (Value.slice a1 L.length cap1).ownBlock ∨ w.heap.size ≤ k := fun k hk => .inr (.inr (.inl hk.symm))
      have ownG : ∀ g2, (Value.slice a1 L.length cap1).ownBlock = some g2 → some g2 = (Value.slice a1 L.length cap1).ownBlock ∨ w.heap.size + 3 ≤ g2 := fun g2 e => .inl e.symm
      clear hrun hr0 k1' k0 k1 k2 hG C0 B0
      have sz1 := T1.size
      have ldiff : cb < W1.heap.size := by omega
      obtain ⟨k0, k1, k2⟩ : W1.cell? ⟨cb, 0, none⟩ = some (.int .i64 room) ∧ W1.cell? ⟨cb, 1, none⟩ = some (.map (some bm)) ∧ W1.cell? ⟨cb, 2, none⟩ = some (.slice a1 L.length cap1) := by
        refine ⟨?_, ?_, ?_⟩ <;> simp [World.cell?, blk1]
      have hr0 : W1.drew.rangeAt w.heap.size 0 (cs h) := range_of f0
      have GA : W1.grownBy (W1.alloc (.cells (cs h).toArray 48)).drew none := grow_trans (World.grownBy_alloc W1 _ none) (grow_drew _)
      have hrA : (W1.alloc (.cells (cs h).toArray 48)).drew.rangeAt w.heap.size 0 (cs h) := range_still GA f0 (by simp)
      have k2' : W1.drew.cell? ⟨cb, 2, none⟩ = some (.slice a1 L.length cap1) := k2
      have k2A : (W1.alloc (.cells (cs h).toArray 48)).drew.cell? ⟨cb, 2, none⟩ = some (.slice a1 L.length cap1) := by
        have := still GA blk1 (by simp)
        simp [World.cell?, this]
      have rowA : (W1.alloc (.cells (cs h).toArray 48)).drew.ownsRow B 48 32 (.slice a1 L.length cap1) L.length (L.flatMap fun p => cs p.1) := row1.kept GA (by cases (Value.slice a1 L.length cap1).ownBlock <;> simp)
      obtain ⟨rr, err⟩ : ∃ rr, W1.heap.size = rr := ⟨_, rfl⟩
      have ncb : some cb ≠ (Value.slice a1 L.length cap1).ownBlock := by intro e; have := row1.lt cb e.symm; omega
      have nbm : some bm ≠ (Value.slice a1 L.length cap1).ownBlock := by intro e; have := row1.lt bm e.symm; omega
      have nh0 : some w.heap.size ≠ (Value.slice a1 L.length cap1).ownBlock := by intro e; exact nown w.heap.size (by omega) (by omega) e.symm
      have nh1 : some (w.heap.size + 1) ≠ (Value.slice a1 L.length cap1).ownBlock := by intro e; exact nown (w.heap.size + 1) (by omega) (by omega) e.symm
      have nh2 : some (w.heap.size + 1 + 1) ≠ (Value.slice a1 L.length cap1).ownBlock := by intro e; exact nown (w.heap.size + 1 + 1) (by omega) (by omega) e.symm
      have ncs : (cs h).length = 1 * 32 := by rw [cs_len H]
      have hone := cs_one h
      have hfold := fold_hash H
      have hbs : B ≤ W1.heap.size := Nat.le_trans C.base sz1
      go_upto_region 12 with fail
      go_cut [66] (fun s wx => ∃ (W2 : World) (g2 cap2 : Nat), W2 = wx ∧ W2.heap[cb]? = some (.cells #[.int .i64 room, .map (some bm), .slice (some ⟨g2, 0, none⟩) (L.length + 1) cap2] 69) ∧
          W2.ownsRow B 48 32 (.slice (some ⟨g2, 0, none⟩) (L.length + 1) cap2) (L.length + 1) ((L.flatMap fun p => cs p.1) ++ cs h) ∧ W2.ownsMap Try.prog 48 (plainElem Try.prog 3) bm n D ∧ Turned w W2 cb bm (Value.slice a1 L.length cap1).ownBlock ∧
          W2.heap[w.heap.size]? = some (.cells (cs h).toArray 48) ∧ W2.heap[w.heap.size + 1]? = some (.cells zeroH.toArray 48) ∧ W2.heap[w.heap.size + 1 + 1]? = some (.cells zeroH.toArray 48) ∧ (some g2 = (Value.slice a1 L.length cap1).ownBlock ∨ w.heap.size + 3 ≤ g2))
      case first =>
        refine wp_region_noPanic ?_
        refine wp_region_held_drew (S := fun wz => wz.rangeAt w.heap.size 0 (cs h)) (by kernel_rfl) hr0 (fun hHeld => ?_)
        refine wpAnyH_take (i := 0) (v := ?_) rfl (by kernel_rfl) (by kernel_rfl) (by kernel_rfl) (fun _ _ _ h => h) (Or.inl ⟨by rfl, ?_⟩) hHeld ?_
        rotate_left
        · intro w hSw; go_simp; first | done | with_reducible rfl
        try simp only [Act.put, List.setIfInBounds_toArray, List.set_cons_zero, List.set_cons_succ]
        refine wpAnyH_take (i := 1) (v := ?_) rfl (by kernel_rfl) (by kernel_rfl) (by kernel_rfl) (fun _ _ _ h => h) (Or.inl ⟨by rfl, ?_⟩) hHeld ?_
        rotate_left
        · intro w hSw; go_simp; first | done | with_reducible rfl
        try simp only [Act.put, List.setIfInBounds_toArray, List.set_cons_zero, List.set_cons_succ]
        refine wpAnyH_take (i := 2) (v := ?_) rfl (by kernel_rfl) (by kernel_rfl) (by kernel_rfl) (fun _ _ _ h => h) (Or.inl ⟨by rfl, ?_⟩) hHeld ?_
        rotate_left
        · intro w hSw; go_simp; first | done | with_reducible rfl
        try simp only [Act.put, List.setIfInBounds_toArray, List.set_cons_zero, List.set_cons_succ]
        refine wpAnyH_take (i := 3) (v := ?_) rfl (by kernel_rfl) (by kernel_rfl) (by kernel_rfl) (fun _ _ _ h => h) (Or.inl ⟨by rfl, ?_⟩) hHeld ?_
        rotate_left
        · intro w hSw; go_simp; first | done | with_reducible rfl
        try simp only [Act.put, List.setIfInBounds_toArray, List.set_cons_zero, List.set_cons_succ]
        refine' wpAnyH_take (i := 5) (v := _) rfl (by kernel_rfl) (by kernel_rfl) (by kernel_rfl) (fun _ _ _ h => h) (yieldsIf_load_mid (by rfl) _ _ rfl _ _ rfl _ _ (fun _ hSw => hSw) hu rfl hi) hHeld ?_
        try simp only [Act.put, List.setIfInBounds_toArray, List.set_cons_zero, List.set_cons_succ]
        refine wpAnyH_ready (rs := [4, 6]) (by kernel_rfl) (by simp) ?_
        refine AllReadyH.cons rfl (fun K hK => ?_) ?_
        · go_simp
          refine hK.out _ _ hHeld (fun hHeld1 => ?_)
          clear hK K
          try simp only [Act.put, List.setIfInBounds_toArray, List.set_cons_zero, List.set_cons_succ]
          refine wpAnyH_ready (rs := [6]) (by kernel_rfl) (by simp) ?_
          refine AllReadyH.cons rfl (fun K hK => ?_) AllReadyH.nil
          go_simp
          refine hK.out _ _ hrA (fun hHeld2 => ?_)
          clear hK K
          try simp only [Act.put, List.setIfInBounds_toArray, List.set_cons_zero, List.set_cons_succ]
          refine wpAnyH_ready (rs := [7]) (by kernel_rfl) (by simp) ?_
          refine AllReadyH.cons rfl (fun K hK => ?_) AllReadyH.nil
          refine step_append_lies _ rfl (.tmp 63) (.tmp 65) 60 rfl B 48 i0 (.agg zeroH.toArray) 32 32 Try.underlying60 hi0 hz0 hz1 hz2 rfl (by decide) (.slice a1 L.length cap1) L.length (L.flatMap fun p => cs p.1) rfl rowA ⟨rr, 0, none⟩ 1 1 (cs h) rfl ncs (news_of err) hone (by decide) (by unfold maxLen; omega) (by omega) (by simp; omega) (rr + 1) (by simp [err]) ?_; intro g2 cap2 w1 hown2 hgrow hat hlt2; have hS1 := range_still hgrow (still GA f0 (by simp)) nh0; have q1 := still hgrow (still GA blk1 (by simp)) ncb; have q2 : w1.cell? ⟨cb, 2, none⟩ = some (.slice a1 L.length cap1) := (by simp [World.cell?, q1]); have q3 : w1.frozen? ⟨cb, 2, none⟩ = false := frozen_of_row w1 cb 2 _ _ q1; have hS2 := range_still (grow_setCell w1 cb 2 (.slice (some ⟨g2, 0, none⟩) (L.length + 1) cap2)) (still hgrow (still GA f0 (by simp)) nh0) (by intro e; cases e; omega)
          refine hK.out _ _ hS1 (fun hHeld3 => ?_)
          clear hK K
          try simp only [Act.put, List.setIfInBounds_toArray, List.set_cons_zero, List.set_cons_succ]
          refine wpAnyH_take (i := 8) (v := ?_) rfl (by kernel_rfl) (by kernel_rfl) (by kernel_rfl) (fun _ _ _ h => h) (Or.inl ⟨by rfl, ?_⟩) hHeld3 ?_
          rotate_left
          · intro w hSw; go_simp; first | done | with_reducible rfl
          try simp only [Act.put, List.setIfInBounds_toArray, List.set_cons_zero, List.set_cons_succ]
          refine wpAnyH_take (i := 9) (v := ?_) rfl (by kernel_rfl) (by kernel_rfl) (by kernel_rfl) (fun _ _ _ h => h) (Or.inl ⟨by rfl, ?_⟩) hHeld3 ?_
          rotate_left
          · intro w hSw; go_simp; first | done | with_reducible rfl
          try simp only [Act.put, List.setIfInBounds_toArray, List.set_cons_zero, List.set_cons_succ]
          refine wpAnyH_ready (rs := [10]) (by kernel_rfl) (by simp) ?_
          refine AllReadyH.cons rfl (fun K hK => ?_) AllReadyH.nil
          go_simp
          refine hK.out _ _ hS2 (fun hHeld4 => ?_)
          clear hK K
          refine wpAnyH_done (by kernel_rfl) ?_ _
          refine NoPanic.normal ?_
          try simp only [Act.put, List.setIfInBounds_toArray, List.set_cons_zero, List.set_cons_succ]
          go_wp2_with fail
          go_meet
          have g4 := hown2.lt g2 rfl
          have GS := grow_setCell w1 cb 2 (.slice (some ⟨g2, 0, none⟩) (L.length + 1) cap2)
          refine ⟨_, g2, cap2, rfl, set2 q1, hown2.kept GS (sl_ne (by omega)), ((map1.kept GA (by simp)).kept hgrow nbm).kept GS (by intro e; cases e; omega), ((T1.grow GA (fun k hk => by cases hk)).grow hgrow ownT).grow GS (fun k hk => by cases hk; exact .inl rfl), still GS (still hgrow (still GA f0 (by simp)) nh0) (by intro e; cases e; omega), still GS (still hgrow (still GA f1 (by simp)) nh1) (by intro e; cases e; omega), still GS (still hgrow (still GA f2 (by simp)) nh2) (by intro e; cases e; omega), ?_⟩
          rcases hat with hat | hat
          · exact ownG g2 hat
          · right; omega
        · refine AllReadyH.cons rfl (fun K hK => ?_) AllReadyH.nil
          go_simp
          refine hK.out _ _ hrA (fun hHeld1 => ?_)
          clear hK K
          try simp only [Act.put, List.setIfInBounds_toArray, List.set_cons_zero, List.set_cons_succ]
          refine wpAnyH_ready (rs := [4]) (by kernel_rfl) (by simp) ?_
          refine AllReadyH.cons rfl (fun K hK => ?_) AllReadyH.nil
          go_simp
          refine hK.out _ _ hrA (fun hHeld2 => ?_)
          clear hK K
          try simp only [Act.put, List.setIfInBounds_toArray, List.set_cons_zero, List.set_cons_succ]
          refine wpAnyH_ready (rs := [7]) (by kernel_rfl) (by simp) ?_
          refine AllReadyH.cons rfl (fun K hK => ?_) AllReadyH.nil
          refine step_append_lies _ rfl (.tmp 63) (.tmp 65) 60 rfl B 48 i0 (.agg zeroH.toArray) 32 32 Try.underlying60 hi0 hz0 hz1 hz2 rfl (by decide) (.slice a1 L.length cap1) L.length (L.flatMap fun p => cs p.1) rfl rowA ⟨rr, 0, none⟩ 1 1 (cs h) rfl ncs (news_of err) hone (by decide) (by unfold maxLen; omega) (by omega) (by simp; omega) (rr + 1) (by simp [err]) ?_; intro g2 cap2 w1 hown2 hgrow hat hlt2; have hS1 := range_still hgrow (still GA f0 (by simp)) nh0; have q1 := still hgrow (still GA blk1 (by simp)) ncb; have q2 : w1.cell? ⟨cb, 2, none⟩ = some (.slice a1 L.length cap1) := (by simp [World.cell?, q1]); have q3 : w1.frozen? ⟨cb, 2, none⟩ = false := frozen_of_row w1 cb 2 _ _ q1; have hS2 := range_still (grow_setCell w1 cb 2 (.slice (some ⟨g2, 0, none⟩) (L.length + 1) cap2)) (still hgrow (still GA f0 (by simp)) nh0) (by intro e; cases e; omega)
          refine hK.out _ _ hS1 (fun hHeld3 => ?_)
          clear hK K
          try simp only [Act.put, List.setIfInBounds_toArray, List.set_cons_zero, List.set_cons_succ]
          refine wpAnyH_take (i := 8) (v := ?_) rfl (by kernel_rfl) (by kernel_rfl) (by kernel_rfl) (fun _ _ _ h => h) (Or.inl ⟨by rfl, ?_⟩) hHeld3 ?_
          rotate_left
          · intro w hSw; go_simp; first | done | with_reducible rfl
          try simp only [Act.put, List.setIfInBounds_toArray, List.set_cons_zero, List.set_cons_succ]
          refine wpAnyH_take (i := 9) (v := ?_) rfl (by kernel_rfl) (by kernel_rfl) (by kernel_rfl) (fun _ _ _ h => h) (Or.inl ⟨by rfl, ?_⟩) hHeld3 ?_
          rotate_left
          · intro w hSw; go_simp; first | done | with_reducible rfl
          try simp only [Act.put, List.setIfInBounds_toArray, List.set_cons_zero, List.set_cons_succ]
          refine wpAnyH_ready (rs := [10]) (by kernel_rfl) (by simp) ?_
          refine AllReadyH.cons rfl (fun K hK => ?_) AllReadyH.nil
          go_simp
          refine hK.out _ _ hS2 (fun hHeld4 => ?_)
          clear hK K
          refine wpAnyH_done (by kernel_rfl) ?_ _
          refine NoPanic.normal ?_
          try simp only [Act.put, List.setIfInBounds_toArray, List.set_cons_zero, List.set_cons_succ]
          go_wp2_with fail
          go_meet
          have g4 := hown2.lt g2 rfl
          have GS := grow_setCell w1 cb 2 (.slice (some ⟨g2, 0, none⟩) (L.length + 1) cap2)
          refine ⟨_, g2, cap2, rfl, set2 q1, hown2.kept GS (sl_ne (by omega)), ((map1.kept GA (by simp)).kept hgrow nbm).kept GS (by intro e; cases e; omega), ((T1.grow GA (fun k hk => by cases hk)).grow hgrow ownT).grow GS (fun k hk => by cases hk; exact .inl rfl), still GS (still hgrow (still GA f0 (by simp)) nh0) (by intro e; cases e; omega), still GS (still hgrow (still GA f1 (by simp)) nh1) (by intro e; cases e; omega), still GS (still hgrow (still GA f2 (by simp)) nh2) (by intro e; cases e; omega), ?_⟩
          rcases hat with hat | hat
          · exact ownG g2 hat
          · right; omega
      case rest =>
        obtain ⟨W2, g2, cap2, rfl, blk2, row2, map2, T2, f0, f1, f2, hg2⟩ := hcut
        clear hr0 GA hrA k2' k2A rowA ncb nbm nh0 nh1 nh2 k0 k1 k2 blk1 row1 map1
        have gl := row2.lt g2 rfl
        have hgn : g2 < w.heap.size ∨ w.heap.size + 3 ≤ g2 := hg2.imp (fun e => (C.row.lt g2 e.symm).2) id
        have k1' : W2.drew.cell? ⟨cb, 1, none⟩ = some (.map (some bm)) := by
          have : W2.drew.heap[cb]? = _ := blk2
          simp [World.cell?, this]
        have hr0 : W2.drew.rangeAt w.heap.size 0 (cs h) := range_of f0
        obtain ⟨W3, hup, hown3, hturn⟩ := (map2.kept (grow_drew W2) (by simp)).store law Try.underlying67 (by unfold maxLen; omega) (key_of H) (plainElem_int Try.underlying3 (a := num false) (by decide))
        have hG3 := grow_trans (grow_drew W2) hturn.grown
        have hup : (Instr.mapUpdate 67 (.map (some bm)) (.agg (cs h).toArray) (.int .i64 0)).run Try.prog W2.drew = .ok () W3 := hup
        have nb : some cb ≠ some bm := by intro e; cases e; omega
        have f0 := still hG3 f0 (by intro e; cases e; omega)
        have f1 := still hG3 f1 (by intro e; cases e; omega)
        have f2 := still hG3 f2 (by intro e; cases e; omega)
        have T3 := T2.grow hG3 (fun k hk => by cases hk; exact .inr (.inl rfl))
        have k1'' : W3.cell? ⟨cb, 1, none⟩ = some (.map (some bm)) := by
          have := still hG3 blk2 nb
          simp [World.cell?, this]
        have hr2 : W3.rangeAt w.heap.size 0 (cs h) := range_of f0
        go_wp2_with fail
        go_region_held3 (fun wz => wz.cell? ⟨cb, 1, none⟩ = some (.map (some bm)) ∧ wz.rangeAt w.heap.size 0 (cs h)) (first | exact ⟨k1', hr0⟩ | exact ⟨k1'', hr2⟩ | assumption) (fail)
        obtain ⟨W4, hst, f3, hG4⟩ := store_to f1 (vs := zeroH) rfl zero_one
        have hres := load_all f3 rfl
        go_wp2_with (refine wpList_load_mid rfl 48 (.tmp 9) rfl (w.heap.size + 1 + 1) 0 rfl zeroH _ (range_of f2) hu rfl sizeHash ?_)
        have e1 : (L ++ [(h, false)]).length = L.length + 1 := by simp
        have e2 : (L ++ [(h, false)]).flatMap (fun p => cs p.1) = (L.flatMap fun p => cs p.1) ++ cs h := by simp
        have C4 : Holds W3 B cb bm room (.slice (some ⟨g2, 0, none⟩) (L.length + 1) cap2) (n + 1) (D.put (kl h) (.lit (.int .i64 (num false)))) (L ++ [(h, false)]) :=
          ⟨still hG3 blk2 nb, hown3, by rw [e1, e2]; exact row2.kept hG3 (sl_ne (by omega)), says_more says1 H false hin1, sep, (fun e => by simp at e), Nat.le_trans C.base T3.size⟩
        refine bodyPost_ret (v := .tuple #[.agg zeroH.toArray, .bool false]) (results_two rfl rfl rfl hres) rfl ⟨_, _, rfl, C4.grow hG4 (by intro e; cases e; omega) (by intro e; cases e; omega) (sl_ne (by omega)), T3.grow hG4 (fun k hk => by cases hk; right; right; right; omega), ?_⟩
        intro k hk
        have hk2 : g2 = k := by simpa [Value.ownBlock] using hk
        subst hk2
        exact hg2.imp id (fun x => by omega)
  · go_enter Try.func30, Try.ntmps30
    go_wp2_with fail
    rw [← hW0]
    clear hW0
    go_region_held3 (fun wz => wz.cell? ⟨cb, 1, none⟩ = some (.map (some bm)) ∧ wz.rangeAt w.heap.size 0 (cs h)) (first | exact ⟨k1', hr0⟩ | assumption) (fail)
    go_upto_region 6 with fail
    go_cut [12] (fun full wx => full = .bool false ∧ ∃ W1, W1 = wx ∧ W0.grownBy W1 none)
    case first =>
      go_quiet (fail)
      all_goals
        go_wp2_with fail
        go_meet
        exact ⟨by first | rfl | (rw [hq]) | simp [hq], _, rfl, grow_trans (grow_drew W0) (grow_drewN _ _)⟩
    case rest =>
      obtain ⟨rfl, W1, rfl, hG⟩ := hcut
      have szW : w.heap.size + 3 ≤ W1.heap.size := by have := hG.size; omega
      have T1 := T0.grow hG (fun k hk => by cases hk)
      have f0 := still hG f0 (by simp)
      have f1 := still hG f1 (by simp)
      have f2 := still hG f2 (by simp)
      have blk1 := still hG C0.blk (by simp)
      have map1 := C0.map.kept hG (by simp)
      have row1 := C0.row.kept hG (by cases (Value.slice a1 L.length cap1).ownBlock <;> simp)
      have says1 := C0.says
      have hin1 := hin
      have nown : ∀ k, w.heap.size ≤ k → k < w.heap.size + 3 → (Value.slice a1 L.length cap1).ownBlock = some k → False := fun k a b e => by have := C.row.lt k e; omega
      have ownT : ∀ k, (Value.slice a1 L.length cap1).ownBlock = some k → k = cb ∨ k = bm ∨ some k = (Value.slice a1 L.length cap1).ownBlock ∨ w.heap.size ≤ k := fun k hk => .inr (.inr (.inl hk.symm))
      have ownG : ∀ g2, (Value.slice a1 L.length cap1).ownBlock = some g2 → some g2 = (Value.slice a1 L.length cap1).ownBlock ∨ w.heap.size + 3 ≤ g2 := fun g2 e => .inl e.symm
      clear hrun hr0 k1' k0 k1 k2 hG C0 B0
      have sz1 := T1.size
      have ldiff : cb < W1.heap.size := by omega
      obtain ⟨k0, k1, k2⟩ : W1.cell? ⟨cb, 0, none⟩ = some (.int .i64 room) ∧ W1.cell? ⟨cb, 1, none⟩ = some (.map (some bm)) ∧ W1.cell? ⟨cb, 2, none⟩ = some (.slice a1 L.length cap1) := by
        refine ⟨?_, ?_, ?_⟩ <;> simp [World.cell?, blk1]
      have hr0 : W1.drew.rangeAt w.heap.size 0 (cs h) := range_of f0
      have GA : W1.grownBy (W1.alloc (.cells (cs h).toArray 48)).drew none := grow_trans (World.grownBy_alloc W1 _ none) (grow_drew _)
      have hrA : (W1.alloc (.cells (cs h).toArray 48)).drew.rangeAt w.heap.size 0 (cs h) := range_still GA f0 (by simp)
      have k2' : W1.drew.cell? ⟨cb, 2, none⟩ = some (.slice a1 L.length cap1) := k2
      have k2A : (W1.alloc (.cells (cs h).toArray 48)).drew.cell? ⟨cb, 2, none⟩ = some (.slice a1 L.length cap1) := by
        have := still GA blk1 (by simp)
        simp [World.cell?, this]
      have rowA : (W1.alloc (.cells (cs h).toArray 48)).drew.ownsRow B 48 32 (.slice a1 L.length cap1) L.length (L.flatMap fun p => cs p.1) := row1.kept GA (by cases (Value.slice a1 L.length cap1).ownBlock <;> simp)
      obtain ⟨rr, err⟩ : ∃ rr, W1.heap.size = rr := ⟨_, rfl⟩
      have ncb : some cb ≠ (Value.slice a1 L.length cap1).ownBlock := by intro e; have := row1.lt cb e.symm; omega
      have nbm : some bm ≠ (Value.slice a1 L.length cap1).ownBlock := by intro e; have := row1.lt bm e.symm; omega
      have nh0 : some w.heap.size ≠ (Value.slice a1 L.length cap1).ownBlock := by intro e; exact nown w.heap.size (by omega) (by omega) e.symm
      have nh1 : some (w.heap.size + 1) ≠ (Value.slice a1 L.length cap1).ownBlock := by intro e; exact nown (w.heap.size + 1) (by omega) (by omega) e.symm
      have nh2 : some (w.heap.size + 1 + 1) ≠ (Value.slice a1 L.length cap1).ownBlock := by intro e; exact nown (w.heap.size + 1 + 1) (by omega) (by omega) e.symm
      have ncs : (cs h).length = 1 * 32 := by rw [cs_len H]
      have hone := cs_one h
      have hfold := fold_hash H
      have hbs : B ≤ W1.heap.size := Nat.le_trans C.base sz1
      go_upto_region 12 with fail
      go_cut [66] (fun s wx => ∃ (W2 : World) (g2 cap2 : Nat), W2 = wx ∧ W2.heap[cb]? = some (.cells #[.int .i64 room, .map (some bm), .slice (some ⟨g2, 0, none⟩) (L.length + 1) cap2] 69) ∧
          W2.ownsRow B 48 32 (.slice (some ⟨g2, 0, none⟩) (L.length + 1) cap2) (L.length + 1) ((L.flatMap fun p => cs p.1) ++ cs h) ∧ W2.ownsMap Try.prog 48 (plainElem Try.prog 3) bm n D ∧ Turned w W2 cb bm (Value.slice a1 L.length cap1).ownBlock ∧
          W2.heap[w.heap.size]? = some (.cells (cs h).toArray 48) ∧ W2.heap[w.heap.size + 1]? = some (.cells zeroH.toArray 48) ∧ W2.heap[w.heap.size + 1 + 1]? = some (.cells zeroH.toArray 48) ∧ (some g2 = (Value.slice a1 L.length cap1).ownBlock ∨ w.heap.size + 3 ≤ g2))
      case first =>
        refine wp_region_noPanic ?_
        refine wp_region_held_drew (S := fun wz => wz.rangeAt w.heap.size 0 (cs h)) (by kernel_rfl) hr0 (fun hHeld => ?_)
        refine wpAnyH_take (i := 0) (v := ?_) rfl (by kernel_rfl) (by kernel_rfl) (by kernel_rfl) (fun _ _ _ h => h) (Or.inl ⟨by rfl, ?_⟩) hHeld ?_
        rotate_left
        · intro w hSw; go_simp; first | done | with_reducible rfl
        try simp only [Act.put, List.setIfInBounds_toArray, List.set_cons_zero, List.set_cons_succ]
        refine wpAnyH_take (i := 1) (v := ?_) rfl (by kernel_rfl) (by kernel_rfl) (by kernel_rfl) (fun _ _ _ h => h) (Or.inl ⟨by rfl, ?_⟩) hHeld ?_
        rotate_left
        · intro w hSw; go_simp; first | done | with_reducible rfl
        try simp only [Act.put, List.setIfInBounds_toArray, List.set_cons_zero, List.set_cons_succ]
        refine wpAnyH_take (i := 2) (v := ?_) rfl (by kernel_rfl) (by kernel_rfl) (by kernel_rfl) (fun _ _ _ h => h) (Or.inl ⟨by rfl, ?_⟩) hHeld ?_
        rotate_left
        · intro w hSw; go_simp; first | done | with_reducible rfl
        try simp only [Act.put, List.setIfInBounds_toArray, List.set_cons_zero, List.set_cons_succ]
        refine wpAnyH_take (i := 3) (v := ?_) rfl (by kernel_rfl) (by kernel_rfl) (by kernel_rfl) (fun _ _ _ h => h) (Or.inl ⟨by rfl, ?_⟩) hHeld ?_
        rotate_left
        · intro w hSw; go_simp; first | done | with_reducible rfl
        try simp only [Act.put, List.setIfInBounds_toArray, List.set_cons_zero, List.set_cons_succ]
        refine' wpAnyH_take (i := 5) (v := _) rfl (by kernel_rfl) (by kernel_rfl) (by kernel_rfl) (fun _ _ _ h => h) (yieldsIf_load_mid (by rfl) _ _ rfl _ _ rfl _ _ (fun _ hSw => hSw) hu rfl hi) hHeld ?_
        try simp only [Act.put, List.setIfInBounds_toArray, List.set_cons_zero, List.set_cons_succ]
        refine wpAnyH_ready (rs := [4, 6]) (by kernel_rfl) (by simp) ?_
        refine AllReadyH.cons rfl (fun K hK => ?_) ?_
        · go_simp
          refine hK.out _ _ hHeld (fun hHeld1 => ?_)
          clear hK K
          try simp only [Act.put, List.setIfInBounds_toArray, List.set_cons_zero, List.set_cons_succ]
          refine wpAnyH_ready (rs := [6]) (by kernel_rfl) (by simp) ?_
          refine AllReadyH.cons rfl (fun K hK => ?_) AllReadyH.nil
          go_simp
          refine hK.out _ _ hrA (fun hHeld2 => ?_)
          clear hK K
          try simp only [Act.put, List.setIfInBounds_toArray, List.set_cons_zero, List.set_cons_succ]
          refine wpAnyH_ready (rs := [7]) (by kernel_rfl) (by simp) ?_
          refine AllReadyH.cons rfl (fun K hK => ?_) AllReadyH.nil
          refine step_append_lies _ rfl (.tmp 63) (.tmp 65) 60 rfl B 48 i0 (.agg zeroH.toArray) 32 32 Try.underlying60 hi0 hz0 hz1 hz2 rfl (by decide) (.slice a1 L.length cap1) L.length (L.flatMap fun p => cs p.1) rfl rowA ⟨rr, 0, none⟩ 1 1 (cs h) rfl ncs (news_of err) hone (by decide) (by unfold maxLen; omega) (by omega) (by simp; omega) (rr + 1) (by simp [err]) ?_; intro g2 cap2 w1 hown2 hgrow hat hlt2; have hS1 := range_still hgrow (still GA f0 (by simp)) nh0; have q1 := still hgrow (still GA blk1 (by simp)) ncb; have q2 : w1.cell? ⟨cb, 2, none⟩ = some (.slice a1 L.length cap1) := (by simp [World.cell?, q1]); have q3 : w1.frozen? ⟨cb, 2, none⟩ = false := frozen_of_row w1 cb 2 _ _ q1; have hS2 := range_still (grow_setCell w1 cb 2 (.slice (some ⟨g2, 0, none⟩) (L.length + 1) cap2)) (still hgrow (still GA f0 (by simp)) nh0) (by intro e; cases e; omega)
          refine hK.out _ _ hS1 (fun hHeld3 => ?_)
          clear hK K
          try simp only [Act.put, List.setIfInBounds_toArray, List.set_cons_zero, List.set_cons_succ]
          refine wpAnyH_take (i := 8) (v := ?_) rfl (by kernel_rfl) (by kernel_rfl) (by kernel_rfl) (fun _ _ _ h => h) (Or.inl ⟨by rfl, ?_⟩) hHeld3 ?_
          rotate_left
          · intro w hSw; go_simp; first | done | with_reducible rfl
          try simp only [Act.put, List.setIfInBounds_toArray, List.set_cons_zero, List.set_cons_succ]
          refine wpAnyH_take (i := 9) (v := ?_) rfl (by kernel_rfl) (by kernel_rfl) (by kernel_rfl) (fun _ _ _ h => h) (Or.inl ⟨by rfl, ?_⟩) hHeld3 ?_
          rotate_left
          · intro w hSw; go_simp; first | done | with_reducible rfl
          try simp only [Act.put, List.setIfInBounds_toArray, List.set_cons_zero, List.set_cons_succ]
          refine wpAnyH_ready (rs := [10]) (by kernel_rfl) (by simp) ?_
          refine AllReadyH.cons rfl (fun K hK => ?_) AllReadyH.nil
          go_simp
          refine hK.out _ _ hS2 (fun hHeld4 => ?_)
          clear hK K
          refine wpAnyH_done (by kernel_rfl) ?_ _
          refine NoPanic.normal ?_
          try simp only [Act.put, List.setIfInBounds_toArray, List.set_cons_zero, List.set_cons_succ]
          go_wp2_with fail
          go_meet
          have g4 := hown2.lt g2 rfl
          have GS := grow_setCell w1 cb 2 (.slice (some ⟨g2, 0, none⟩) (L.length + 1) cap2)
          refine ⟨_, g2, cap2, rfl, set2 q1, hown2.kept GS (sl_ne (by omega)), ((map1.kept GA (by simp)).kept hgrow nbm).kept GS (by intro e; cases e; omega), ((T1.grow GA (fun k hk => by cases hk)).grow hgrow ownT).grow GS (fun k hk => by cases hk; exact .inl rfl), still GS (still hgrow (still GA f0 (by simp)) nh0) (by intro e; cases e; omega), still GS (still hgrow (still GA f1 (by simp)) nh1) (by intro e; cases e; omega), still GS (still hgrow (still GA f2 (by simp)) nh2) (by intro e; cases e; omega), ?_⟩
          rcases hat with hat | hat
          · exact ownG g2 hat
          · right; omega
        · refine AllReadyH.cons rfl (fun K hK => ?_) AllReadyH.nil
          go_simp
          refine hK.out _ _ hrA (fun hHeld1 => ?_)
          clear hK K
          try simp only [Act.put, List.setIfInBounds_toArray, List.set_cons_zero, List.set_cons_succ]
          refine wpAnyH_ready (rs := [4]) (by kernel_rfl) (by simp) ?_
          refine AllReadyH.cons rfl (fun K hK => ?_) AllReadyH.nil
          go_simp
          refine hK.out _ _ hrA (fun hHeld2 => ?_)
          clear hK K
          try simp only [Act.put, List.setIfInBounds_toArray, List.set_cons_zero, List.set_cons_succ]
          refine wpAnyH_ready (rs := [7]) (by kernel_rfl) (by simp) ?_
          refine AllReadyH.cons rfl (fun K hK => ?_) AllReadyH.nil
          refine step_append_lies _ rfl (.tmp 63) (.tmp 65) 60 rfl B 48 i0 (.agg zeroH.toArray) 32 32 Try.underlying60 hi0 hz0 hz1 hz2 rfl (by decide) (.slice a1 L.length cap1) L.length (L.flatMap fun p => cs p.1) rfl rowA ⟨rr, 0, none⟩ 1 1 (cs h) rfl ncs (news_of err) hone (by decide) (by unfold maxLen; omega) (by omega) (by simp; omega) (rr + 1) (by simp [err]) ?_; intro g2 cap2 w1 hown2 hgrow hat hlt2; have hS1 := range_still hgrow (still GA f0 (by simp)) nh0; have q1 := still hgrow (still GA blk1 (by simp)) ncb; have q2 : w1.cell? ⟨cb, 2, none⟩ = some (.slice a1 L.length cap1) := (by simp [World.cell?, q1]); have q3 : w1.frozen? ⟨cb, 2, none⟩ = false := frozen_of_row w1 cb 2 _ _ q1; have hS2 := range_still (grow_setCell w1 cb 2 (.slice (some ⟨g2, 0, none⟩) (L.length + 1) cap2)) (still hgrow (still GA f0 (by simp)) nh0) (by intro e; cases e; omega)
          refine hK.out _ _ hS1 (fun hHeld3 => ?_)
          clear hK K
          try simp only [Act.put, List.setIfInBounds_toArray, List.set_cons_zero, List.set_cons_succ]
          refine wpAnyH_take (i := 8) (v := ?_) rfl (by kernel_rfl) (by kernel_rfl) (by kernel_rfl) (fun _ _ _ h => h) (Or.inl ⟨by rfl, ?_⟩) hHeld3 ?_
          rotate_left
          · intro w hSw; go_simp; first | done | with_reducible rfl
          try simp only [Act.put, List.setIfInBounds_toArray, List.set_cons_zero, List.set_cons_succ]
          refine wpAnyH_take (i := 9) (v := ?_) rfl (by kernel_rfl) (by kernel_rfl) (by kernel_rfl) (fun _ _ _ h => h) (Or.inl ⟨by rfl, ?_⟩) hHeld3 ?_
          rotate_left
          · intro w hSw; go_simp; first | done | with_reducible rfl
          try simp only [Act.put, List.setIfInBounds_toArray, List.set_cons_zero, List.set_cons_succ]
          refine wpAnyH_ready (rs := [10]) (by kernel_rfl) (by simp) ?_
          refine AllReadyH.cons rfl (fun K hK => ?_) AllReadyH.nil
          go_simp
          refine hK.out _ _ hS2 (fun hHeld4 => ?_)
          clear hK K
          refine wpAnyH_done (by kernel_rfl) ?_ _
          refine NoPanic.normal ?_
          try simp only [Act.put, List.setIfInBounds_toArray, List.set_cons_zero, List.set_cons_succ]
          go_wp2_with fail
          go_meet
          have g4 := hown2.lt g2 rfl
          have GS := grow_setCell w1 cb 2 (.slice (some ⟨g2, 0, none⟩) (L.length + 1) cap2)
          refine ⟨_, g2, cap2, rfl, set2 q1, hown2.kept GS (sl_ne (by omega)), ((map1.kept GA (by simp)).kept hgrow nbm).kept GS (by intro e; cases e; omega), ((T1.grow GA (fun k hk => by cases hk)).grow hgrow ownT).grow GS (fun k hk => by cases hk; exact .inl rfl), still GS (still hgrow (still GA f0 (by simp)) nh0) (by intro e; cases e; omega), still GS (still hgrow (still GA f1 (by simp)) nh1) (by intro e; cases e; omega), still GS (still hgrow (still GA f2 (by simp)) nh2) (by intro e; cases e; omega), ?_⟩
          rcases hat with hat | hat
          · exact ownG g2 hat
          · right; omega
      case rest =>
        obtain ⟨W2, g2, cap2, rfl, blk2, row2, map2, T2, f0, f1, f2, hg2⟩ := hcut
        clear hr0 GA hrA k2' k2A rowA ncb nbm nh0 nh1 nh2 k0 k1 k2 blk1 row1 map1
        have gl := row2.lt g2 rfl
        have hgn : g2 < w.heap.size ∨ w.heap.size + 3 ≤ g2 := hg2.imp (fun e => (C.row.lt g2 e.symm).2) id
        have k1' : W2.drew.cell? ⟨cb, 1, none⟩ = some (.map (some bm)) := by
          have : W2.drew.heap[cb]? = _ := blk2
          simp [World.cell?, this]
        have hr0 : W2.drew.rangeAt w.heap.size 0 (cs h) := range_of f0
        obtain ⟨W3, hup, hown3, hturn⟩ := (map2.kept (grow_drew W2) (by simp)).store law Try.underlying67 (by unfold maxLen; omega) (key_of H) (plainElem_int Try.underlying3 (a := num true) (by decide))
        have hG3 := grow_trans (grow_drew W2) hturn.grown
        have hup : (Instr.mapUpdate 67 (.map (some bm)) (.agg (cs h).toArray) (.int .i64 1)).run Try.prog W2.drew = .ok () W3 := hup
        have nb : some cb ≠ some bm := by intro e; cases e; omega
        have f0 := still hG3 f0 (by intro e; cases e; omega)
        have f1 := still hG3 f1 (by intro e; cases e; omega)
        have f2 := still hG3 f2 (by intro e; cases e; omega)
        have T3 := T2.grow hG3 (fun k hk => by cases hk; exact .inr (.inl rfl))
        have k1'' : W3.cell? ⟨cb, 1, none⟩ = some (.map (some bm)) := by
          have := still hG3 blk2 nb
          simp [World.cell?, this]
        have hr2 : W3.rangeAt w.heap.size 0 (cs h) := range_of f0
        go_wp2_with fail
        go_region_held3 (fun wz => wz.cell? ⟨cb, 1, none⟩ = some (.map (some bm)) ∧ wz.rangeAt w.heap.size 0 (cs h)) (first | exact ⟨k1', hr0⟩ | exact ⟨k1'', hr2⟩ | assumption) (fail)
        obtain ⟨W4, hst, f3, hG4⟩ := store_to f1 (vs := zeroH) rfl zero_one
        have hres := load_all f3 rfl
        go_wp2_with (refine wpList_load_mid rfl 48 (.tmp 9) rfl (w.heap.size + 1 + 1) 0 rfl zeroH _ (range_of f2) hu rfl sizeHash ?_)
        have e1 : (L ++ [(h, true)]).length = L.length + 1 := by simp
        have e2 : (L ++ [(h, true)]).flatMap (fun p => cs p.1) = (L.flatMap fun p => cs p.1) ++ cs h := by simp
        have C4 : Holds W3 B cb bm room (.slice (some ⟨g2, 0, none⟩) (L.length + 1) cap2) (n + 1) (D.put (kl h) (.lit (.int .i64 (num true)))) (L ++ [(h, true)]) :=
          ⟨still hG3 blk2 nb, hown3, by rw [e1, e2]; exact row2.kept hG3 (sl_ne (by omega)), says_more says1 H true hin1, sep, (fun e => by simp at e), Nat.le_trans C.base T3.size⟩
        refine bodyPost_ret (v := .tuple #[.agg zeroH.toArray, .bool false]) (results_two rfl rfl rfl hres) rfl ⟨_, _, rfl, C4.grow hG4 (by intro e; cases e; omega) (by intro e; cases e; omega) (sl_ne (by omega)), T3.grow hG4 (fun k hk => by cases hk; right; right; right; omega), ?_⟩
        intro k hk
        have hk2 : g2 = k := by simpa [Value.ownBlock] using hk
        subst hk2
        exact hg2.imp id (fun x => by omega)
end Go.Proofs.Ytecmhkkjobflcaa.Ver
