/- VerdictDoes returns true for every room that may be and up to 300 acts; nothing that was there is changed. -/
import Derived.Test.YtecmhkkjobflcaaVerRoomC
import Derived.Test.YtecmhkkjobflcaaVerRefP
namespace Go.Proofs.Ytecmhkkjobflcaa.Ver
open Go.RowKit Go.WideMaps Go.Maps
set_option linter.unusedVariables false
set_option linter.unusedSimpArgs false
set_option maxRecDepth 100000

theorem own_same3 {w w' : World} {B n size : Nat} {e : TypeId} {v : Value} {xs : List Value} (h : w.ownsRow B e size v n xs) (hs : ∀ k, v.ownBlock = some k → w'.heap[k]? = w.heap[k]?) : w'.ownsRow B e size v n xs := by
  obtain ⟨h1, h2⟩ := h
  refine ⟨h1, ?_⟩
  rcases h2 with h2 | ⟨g, cap, cur, hv, hg, hh, r⟩
  · exact .inl h2
  · exact .inr ⟨g, cap, cur, hv, hg, (hs g (by rw [hv]; rfl)).trans hh, r⟩
theorem keys_flat3 (L : Known) : (keys L).flatMap cs = L.flatMap fun p => cs p.1 := by unfold keys; rw [List.flatMap_map]
theorem same_is3 (xs ys : List (List Int)) (hx : ∀ x ∈ xs, IsHash x) (hy : ∀ y ∈ ys, IsHash y) {n m : Nat} (hn : xs.length = n) (hm : ys.length = m) (hl : n ≤ 1000) (a b : Option Addr) (ca cb : Nat) (w : World) (la : Lies w a xs) (lb : Lies w b ys) {t : Bool} (ht : (xs == ys) = t) :
    Calls Try.prog 35 #[.slice a n ca, .slice b m cb] w fun e w' => e = .returned (.bool t) ∧ ∃ k, w' = w.drewN k := by
  subst hn; subst hm; subst ht; exact same_c xs ys hx hy hl a b ca cb w la lb
theorem rget_is {w : World} {B rb : Nat} {room : Int} {v : Value} {L : Known} (R : RHolds w B rb room v L) (h : List Int) (H : IsHash h) (hm : L.length ≤ 1000) {x y : Bool} (hx : verd L h = x) (hy : isIn L h = y) :
    Calls Try.prog 33 #[.pointer (some ⟨rb, 0, none⟩), .agg (cs h).toArray] w fun e w' => e = .returned (.tuple #[.bool x, .bool y]) ∧ Below w.heap.size w w' := by
  subst hx; subst hy; exact rget_c R h H hm
theorem rput_is {w : World} {B rb : Nat} {room : Int} {v : Value} {L : Known} (R : RHolds w B rb room v L) (hn : (keys L).Nodup) (h : List Int) (H : IsHash h) (is : Bool) (h1 : 1 ≤ room) (h2 : room ≤ 100) (hm : (L.length : Int) ≤ room)
    {L' : Known} {g : List Int} {f : Bool} (hL : nextL L room h is = L') (hg : goneL L room h = g) (hf : fullL L room h = f) :
    Calls Try.prog 31 #[.pointer (some ⟨rb, 0, none⟩), .agg (cs h).toArray, .bool is] w fun e w' => ∃ v', e = .returned (.tuple #[.agg (cs g).toArray, .bool f]) ∧ RHolds w' B rb room v' L' ∧ Turned w w' rb rb none ∧ (∀ k, v'.ownBlock = some k → w.heap.size ≤ k) := by
  subst hL; subst hg; subst hf; exact rput_c R hn h H is h1 h2 hm
theorem rknown_is {w : World} {B rb : Nat} {room : Int} {v : Value} {L : Known} (R : RHolds w B rb room v L) {m : Nat} (hm : L.length = m) (hl : m ≤ 1000) :
    Calls Try.prog 37 #[.pointer (some ⟨rb, 0, none⟩)] w fun e w' => ∃ a cap, e = .returned (.slice a m cap) ∧ w'.ownsRow w.heap.size 48 32 (.slice a m cap) m ((keys L).flatMap cs) ∧ Below w.heap.size w w' := by
  subst hm; exact rknown_c R hl
/-- Both caches, apart. -/
structure Both (w : World) (p q : Nat) (room : Int) (v rv : Value) (n : Nat) (D : DataW Unit) (L : Known) : Prop where
  C : Holds w (p + 2) (p + 1) p room v n D L
  R : RHolds w (q + 1) q room rv L
  le : (L.length : Int) ≤ room
  pq : p + 2 ≤ q
  ap : ∀ k, v.ownBlock = some k → k ≠ q ∧ rv.ownBlock ≠ some k
theorem Both.below {w w' : World} {p q : Nat} {room : Int} {v rv : Value} {n : Nat} {D : DataW Unit} {L : Known} (h : Both w p q room v rv n D L) (hb : Below w.heap.size w w') : Both w' p q room v rv n D L :=
  ⟨h.C.below hb, h.R.below hb, h.le, h.pq, h.ap⟩
theorem Both.put {w w' : World} {p q : Nat} {room : Int} {v rv v2 : Value} {n n2 : Nat} {D D2 : DataW Unit} {L L2 : Known} (h : Both w p q room v rv n D L) (C2 : Holds w' (p + 2) (p + 1) p room v2 n2 D2 L2) (T : Turned w w' (p + 1) p v.ownBlock) (o : ∀ k, v2.ownBlock = some k → some k = v.ownBlock ∨ w.heap.size ≤ k) :
    RHolds w' (q + 1) q room rv L ∧ ∀ k, v2.ownBlock = some k → k ≠ q ∧ rv.ownBlock ≠ some k := by
  have hpq := h.pq
  have hq := h.R.lt
  refine ⟨⟨(T.far q hq (by omega) (by omega) (fun e => (h.ap q e.symm).1 rfl)).trans h.R.blk, own_same3 h.R.row (fun k e => T.far k (h.R.row.lt k e).2 (by have := (h.R.row.lt k e).1; omega) (by have := (h.R.row.lt k e).1; omega) (fun e2 => (h.ap k e2.symm).2 e)), h.R.hs, h.R.sep, Nat.le_trans h.R.base T.size⟩, fun k e => ?_⟩
  rcases o k e with e2 | e2
  · exact h.ap k e2.symm
  · refine ⟨by omega, fun e3 => ?_⟩
    have := (h.R.row.lt k e3).2
    omega
theorem grown_of {w w' : World} {q : Nat} (T : Turned w w' q q none) : w.grownBy w' (some q) := ⟨T.os, T.tape, T.output, T.size, fun k hk h => T.far k hk (fun e => h (by rw [e])) (fun e => h (by rw [e])) (by simp)⟩
theorem hs_keys {L : Known} (h : ∀ p ∈ L, IsHash p.1) : ∀ x ∈ keys L, IsHash x := fun x hx => by
  unfold keys at hx
  obtain ⟨p, hp, rfl⟩ := List.mem_map.1 hx
  exact h p hp

set_option maxHeartbeats 16000000 in
theorem verDoes_yes (room : Int) (h1 : 1 ≤ room) (h2 : room ≤ 100) (a : Option Addr) (len cap : Nat) (hlen : len ≤ 300) (w : World) (f : Acts w a len) :
    Calls Try.prog 6 #[.int .i64 room, .slice a len cap] w fun e w' => e = .returned (.bool true) ∧ Below w.heap.size w w' := by
  have hu := Try.underlying48
  have hua := Try.underlying50
  have hl3 : ¬ ((300 : Int) < len) := by omega
  go_enter Try.func6, Try.ntmps6
  go_wp2_with fail
  refine (vawake_c _).mono ?_
  rintro e W1 ⟨rfl, hb1⟩
  have s1 := hb1.size
  simp only []
  go_wp2_with fail
  refine (new_ok room h1 h2 W1).mono ?_
  rintro e W2 ⟨rfl, C2, hb2⟩
  have B2 := hb1.trans (hb2.mono s1)
  have c2 := C2.base
  clear hb1 hb2
  simp only []
  go_wp2_with fail
  refine (rnew_ok room h1 h2 W2).mono ?_
  rintro e W3 ⟨rfl, R3, hb3⟩
  have C3 := C2.below hb3
  have B3 := B2.trans (hb3.mono B2.size)
  clear C2 B2 hb3
  obtain ⟨hp, ehp⟩ : ∃ hp, w.heap.size = hp := ⟨_, rfl⟩
  obtain ⟨p, ep⟩ : ∃ p, W1.heap.size = p := ⟨_, rfl⟩
  obtain ⟨q, eq⟩ : ∃ q, W2.heap.size = q := ⟨_, rfl⟩
  rw [eq] at R3 c2 ⊢
  rw [ep] at C3 c2 s1 ⊢
  rw [ehp] at B3 s1
  have ehpX : Hid (w.heap.size = hp) := ehp
  have BB : Both W3 p q room (.slice none 0 0) (.slice none 0 0) 0 (.map []) [] := ⟨C3, R3, by simp; omega, c2, fun k e => by cases e⟩
  clear ep
  clear ehp
  clear eq
  clear C3 R3
  simp only []
  go_wp2_with fail
  go_loopw [48] (fun i wz => ∃ (k n : Nat) (v rv : Value) (D : DataW Unit) (L : Known), k ≤ len ∧ i = .int .i64 k ∧ Both wz p q room v rv n D L ∧ n ≤ k ∧ Below hp w wz)
    (fun i _ => len - (intOf i).toNat)
  case atStart => exact ⟨0, 0, _, _, _, _, Nat.zero_le _, rfl, BB, Nat.le_refl _, B3⟩
  case round =>
    clear BB B3
    obtain ⟨k, n, v, rv, D, L, hk, rfl, B0, hnk, hB⟩ := hrel
    by_cases hkl : k < len
    · obtain ⟨b, off, rfl, hb, fx⟩ := f (by omega)
      obtain ⟨x, X, hxw, rx⟩ := fx k hkl
      have rx : wr.rangeAt b (off + k * 34) (ac x) := range_below hB rx (by have := ehpX.out; omega)
      obtain ⟨Wx, hsx, qx, Gx, szx⟩ := lay_act wr X
      clear fx f
      have zr := B0.R.base
      have B1 := B0.below (grow_below Gx)
      have BX : Below hp w Wx := hB.trans ((grow_below Gx).mono (by have := B0.pq; omega))
      have own1 : Hid (∀ k, v.ownBlock = some k → k < wr.heap.size) := fun k e => (B0.C.row.lt k e).2
      have pq : p + 2 ≤ q := B0.pq
      clear Gx B0
      obtain ⟨xp, exp⟩ : ∃ xp, wr.heap.size = xp := ⟨_, rfl⟩
      rw [exp] at hsx qx szx zr own1
      have hqx : Hid _ := qx
      obtain ⟨cx0, cx1, cx2⟩ := act_cells X qx
      clear qx
      by_cases hdo : x.doo = 0
      · rw [hdo] at cx0
        clear hdo
        go_wp2_with (first | (refine wpList_load_mid rfl 50 (.tmp 50) rfl (b) (off + k * 34) rfl (ac x) _ (rx) hua rfl (sizeOfAct X) ?_) | (refine wpList_store_to rfl 50 (.tmp 10) (.tmp 51) rfl xp (by rw [← exp]; rfl) _ rfl hsx ?_) | (refine wpList_load_mid rfl 48 (.tmp 57) rfl (xp) 1 rfl (cs x.h) _ (cx1) hu rfl (sizeOfHash X) ?_) | fail)
        have hG := gone_hash B1.C.says room x.h
        have hnd := B1.C.says.nodup
        have hLe : Hid ((L.length : Int) ≤ room) := B1.le
        obtain ⟨L2, hL2⟩ : ∃ L2, nextL L room x.h x.is = L2 := ⟨_, rfl⟩
        obtain ⟨gg, hg⟩ : ∃ gg, goneL L room x.h = gg := ⟨_, rfl⟩
        obtain ⟨fu, hfu⟩ : ∃ fu, fullL L room x.h = fu := ⟨_, rfl⟩
        have hl2 : (L2.length : Int) ≤ room := by rw [← hL2]; exact next_len x.h x.is h1 B1.le
        rw [hg] at hG
        have hL2X : Hid _ := hL2
        clear hL2
        have hgX : Hid _ := hg
        clear hg
        have hfuX : Hid _ := hfu
        clear hfu
        have hl2X : Hid _ := hl2
        clear hl2
        refine (put_is B1.C x.h X x.is h1 h2 B1.le (by omega) hL2X.out hgX.out hfuX.out).mono ?_
        rintro e Wp ⟨v3, D3, rfl, C3, T3, o3⟩
        obtain ⟨R3, ap3⟩ := B1.put C3 T3 o3
        have qp := (T3.far xp (by omega) (by omega) (by omega) (fun e => by have := own1.out xp e.symm; omega)).trans hqx.out
        have BP := below_turned BX T3 (by omega) (by omega) (fun j e => by have := (B1.C.row.lt j e).1; omega) (by omega)
        have szp := T3.size
        clear B1 BX T3 o3 cx0 cx1 cx2 hqx own1 hsx
        obtain ⟨Wq, hsq, qq, Gq, szq⟩ := lay_hash Wp hG
        have C4 := C3.grow Gq (by simp) (by simp) (by cases v3.ownBlock <;> simp)
        have R4 := R3.grow Gq (by simp) (by cases rv.ownBlock <;> simp)
        have BQ := BP.trans ((grow_below Gq).mono (by omega))
        have qx4 := still Gq qp (by simp)
        have own3 : Hid (∀ k, v3.ownBlock = some k → k < Wp.heap.size) := fun k e => (C3.row.lt k e).2
        clear C3 R3 BP Gq qp
        obtain ⟨gp, egp⟩ : ∃ gp, Wp.heap.size = gp := ⟨_, rfl⟩
        rw [egp] at hsq qq szq szp own3
        obtain ⟨_, cx1, cx2⟩ := act_cells X qx4
        have hqx : Hid _ := qx4
        have hqq : Hid _ := qq
        clear qx4 qq
        simp only []
        go_wp2_with (first | (refine wpList_store_to rfl 48 (.tmp 11) (.tmp 62) rfl gp (by rw [← egp]; rfl) _ rfl hsq ?_) | (refine wpList_load_mid rfl 48 (.tmp 66) rfl (xp) 1 rfl (cs x.h) _ (cx1) hu rfl (sizeOfHash X) ?_) | fail)
        refine (rput_is R4 hnd x.h X x.is h1 h2 (by have := hLe.out; exact this) hL2X.out hgX.out hfuX.out).mono ?_
        rintro e Wr ⟨rv3, rfl, R5, T5, o5⟩
        have G5 := grown_of T5
        have C5 := C4.grow G5 (ne_some2 (by omega)) (ne_some2 (by omega)) (by cases h : v3.ownBlock with | none => exact .inl rfl | some j => exact .inr (fun e => (ap3 j h).1 (by injection e)))
        have qx5 := still G5 hqx.out (ne_some2 (by omega))
        have qq5 := still G5 hqq.out (ne_some2 (by omega))
        have BR := BQ.grown G5 (by omega) (fun j e => by cases e; omega)
        have ap5 : ∀ j, v3.ownBlock = some j → j ≠ q ∧ rv3.ownBlock ≠ some j := fun j e => ⟨(ap3 j e).1, fun e2 => by have := o5 j e2; have := own3.out j e; omega⟩
        have szr := G5.size
        clear C4 R4 T5 o5 G5 hqx hqq ap3 own3 cx1 cx2 BQ hsq
        obtain ⟨Ws, hss, qs, Gs, szs⟩ := lay_hash Wr hG
        have B6 : Both Ws p q room v3 rv3 (n + 1) D3 L2 := ⟨C5.grow Gs (by simp) (by simp) (by cases v3.ownBlock <;> simp), R5.grow Gs (by simp) (by cases rv3.ownBlock <;> simp), hl2X.out, pq, ap5⟩
        have BS := BR.trans ((grow_below Gs).mono (by omega))
        have qx6 := still Gs qx5 (by simp)
        have rq1 : Ws.rangeAt gp 0 (cs gg) := range_of (still Gs qq5 (by simp))
        clear C5 R5 BR Gs qx5 qq5
        obtain ⟨sp, esp⟩ : ∃ sp, Wr.heap.size = sp := ⟨_, rfl⟩
        rw [esp] at hss qs szs szr
        have rq2 : Ws.rangeAt sp 0 (cs gg) := range_of qs
        obtain ⟨_, cx1, _⟩ := act_cells X qx6
        have hqx : Hid _ := qx6
        clear qx6 qs
        have hq : ∀ w : World, (binOp .neq 48 (.agg (cs gg).toArray) (.agg (cs gg).toArray)).run Try.prog w = .ok (.bool false) w := fun w => by rw [neq_hash hG hG w]; simp
        simp only []
        obtain ⟨vv, evv⟩ : ∃ vv, verd L2 x.h = vv := ⟨_, rfl⟩
        obtain ⟨ii, eii⟩ : ∃ ii, isIn L2 x.h = ii := ⟨_, rfl⟩
        have evvX : Hid _ := evv
        have eiiX : Hid _ := eii
        clear evv eii
        have hle := B6.le
        have zq := B6.R.base
        obtain ⟨m, em⟩ : ∃ m, L2.length = m := ⟨_, rfl⟩
        rw [em] at hle
        have hLm : Hid (L2.length = m) := em
        clear em
        go_wp2_with (first | (refine wpList_store_to rfl 48 (.tmp 13) (.tmp 71) rfl sp (by rw [← esp]; rfl) _ rfl hss ?_) | (refine wpList_load_mid rfl 48 (.tmp 11) rfl (gp) 0 rfl (cs gg) _ (rq1) hu rfl (sizeOfHash hG) ?_) | (refine wpList_load_mid rfl 48 (.tmp 13) rfl (sp) 0 rfl (cs gg) _ (rq2) hu rfl (sizeOfHash hG) ?_) | (refine wpList_load_mid rfl 48 (.tmp 83) rfl (xp) 1 rfl (cs x.h) _ (cx1) hu rfl (sizeOfHash X) ?_) | fail)
        refine (get_is B6.C x.h X evvX.out eiiX.out).mono ?_
        rintro e Wg ⟨rfl, hbg⟩
        have B5 := B6.below hbg
        have q5 := stays2 hbg hqx.out
        have BL5 := BS.trans (hbg.mono (by omega))
        have s5 := hbg.size
        replace hqx : Hid _ := q5
        obtain ⟨_, cx5, _⟩ := act_cells X q5
        clear hbg q5 cx1
        simp only []
        go_wp2_with (first | (refine wpList_load_mid rfl 48 (.tmp 90) rfl (xp) 1 rfl (cs x.h) _ (cx5) hu rfl (sizeOfHash X) ?_) | fail)
        refine (rget_is B5.R x.h X (by rw [hLm.out]; omega) evvX.out eiiX.out).mono ?_
        rintro e Wh ⟨rfl, hbh⟩
        have B6 := B5.below hbh
        have BL6 := BL5.trans (hbh.mono (by omega))
        have s6 := hbh.size
        clear hbh B5 BL5 cx5 hqx
        simp only []
        obtain ⟨ra, rc, erv⟩ := rowN_shape B6.R.row
        rw [hLm.out] at erv
        subst erv
        obtain ⟨c0, _⟩ := B6.R.cells
        have c0d : Wh.drew.cell? ⟨q, 0, none⟩ = some (.slice ra m rc) := c0
        have hkh := hs_keys B6.R.hs
        have hkhX : Hid _ := hkh
        have B7 := B6.below (grow_below (grow_drew Wh))
        have BL7 := BL6.drew
        have hsd : Wh.drew.heap.size = Wh.heap.size := rfl
        have hsdX : Hid _ := hsd
        clear c0 hkh B6 BL6 hsd
        have hkl2 : Hid ((keys L2).length = m) := by show (keys L2).length = m; rw [keys_len]; exact hLm.out
        go_upto_region 21 with fail
        refine wp_region_noPanic ?_
        refine wp_region_held_drew (S := (fun wz => wz.cell? ⟨q, 0, none⟩ = some (.slice ra m rc))) (by kernel_rfl) c0d (fun hHeld => ?_)
        refine wpAnyH_take (i := 0) (v := ?_) rfl (by kernel_rfl) (by kernel_rfl) (by kernel_rfl) (fun _ _ _ h => h) (Or.inl ⟨by kernel_rfl, ?_⟩) hHeld ?_
        rotate_left
        · intro w hSw; go_simp; first | done | with_reducible rfl
        try simp only [List.getElem_toArray, List.getElem_cons_zero, List.getElem_cons_succ, Act.put, List.setIfInBounds_toArray, List.set_cons_zero, List.set_cons_succ]
        refine wpAnyH_take (i := 1) (v := ?_) rfl (by kernel_rfl) (by kernel_rfl) (by kernel_rfl) (fun _ _ _ h => h) (Or.inl ⟨by kernel_rfl, ?_⟩) hHeld ?_
        rotate_left
        · intro w hSw; go_simp; first | done | with_reducible rfl
        try simp only [List.getElem_toArray, List.getElem_cons_zero, List.getElem_cons_succ, Act.put, List.setIfInBounds_toArray, List.set_cons_zero, List.set_cons_succ]
        refine wpAnyH_take (i := 2) (v := ?_) rfl (by kernel_rfl) (by kernel_rfl) (by kernel_rfl) (fun _ _ _ h => h) (Or.inl ⟨by kernel_rfl, ?_⟩) hHeld ?_
        rotate_left
        · intro w hSw; go_simp; first | done | with_reducible rfl
        try simp only [List.getElem_toArray, List.getElem_cons_zero, List.getElem_cons_succ, Act.put, List.setIfInBounds_toArray, List.set_cons_zero, List.set_cons_succ]
        refine wpAnyH_take (i := 3) (v := ?_) rfl (by kernel_rfl) (by kernel_rfl) (by kernel_rfl) (fun _ _ _ h => h) (Or.inl ⟨by kernel_rfl, ?_⟩) hHeld ?_
        rotate_left
        · intro w hSw; go_simp; first | done | with_reducible rfl
        try simp only [List.getElem_toArray, List.getElem_cons_zero, List.getElem_cons_succ, Act.put, List.setIfInBounds_toArray, List.set_cons_zero, List.set_cons_succ]
        refine wpAnyH_take (i := 4) (v := ?_) rfl (by kernel_rfl) (by kernel_rfl) (by kernel_rfl) (fun _ _ _ h => h) (Or.inl ⟨by kernel_rfl, ?_⟩) hHeld ?_
        rotate_left
        · intro w hSw; go_simp; first | done | with_reducible rfl
        try simp only [List.getElem_toArray, List.getElem_cons_zero, List.getElem_cons_succ, Act.put, List.setIfInBounds_toArray, List.set_cons_zero, List.set_cons_succ]
        refine wpAnyH_take (i := 5) (v := ?_) rfl (by kernel_rfl) (by kernel_rfl) (by kernel_rfl) (fun _ _ _ h => h) (Or.inl ⟨by kernel_rfl, ?_⟩) hHeld ?_
        rotate_left
        · intro w hSw; go_simp; first | done | with_reducible rfl
        try simp only [List.getElem_toArray, List.getElem_cons_zero, List.getElem_cons_succ, Act.put, List.setIfInBounds_toArray, List.set_cons_zero, List.set_cons_succ]
        refine wpAnyH_take (i := 6) (v := ?_) rfl (by kernel_rfl) (by kernel_rfl) (by kernel_rfl) (fun _ _ _ h => h) (Or.inl ⟨by kernel_rfl, ?_⟩) hHeld ?_
        rotate_left
        · intro w hSw; go_simp; first | done | with_reducible rfl
        try simp only [List.getElem_toArray, List.getElem_cons_zero, List.getElem_cons_succ, Act.put, List.setIfInBounds_toArray, List.set_cons_zero, List.set_cons_succ]
        refine wpAnyH_take (i := 7) (v := ?_) rfl (by kernel_rfl) (by kernel_rfl) (by kernel_rfl) (fun _ _ _ h => h) (Or.inl ⟨by kernel_rfl, ?_⟩) hHeld ?_
        rotate_left
        · intro w hSw; go_simp; first | done | with_reducible rfl
        try simp only [List.getElem_toArray, List.getElem_cons_zero, List.getElem_cons_succ, Act.put, List.setIfInBounds_toArray, List.set_cons_zero, List.set_cons_succ]
        refine wpAnyH_take (i := 8) (v := ?_) rfl (by kernel_rfl) (by kernel_rfl) (by kernel_rfl) (fun _ _ _ h => h) (Or.inl ⟨by kernel_rfl, ?_⟩) hHeld ?_
        rotate_left
        · intro w hSw; go_simp; first | done | with_reducible rfl
        try simp only [List.getElem_toArray, List.getElem_cons_zero, List.getElem_cons_succ, Act.put, List.setIfInBounds_toArray, List.set_cons_zero, List.set_cons_succ]
        refine wpAnyH_take (i := 9) (v := ?_) rfl (by kernel_rfl) (by kernel_rfl) (by kernel_rfl) (fun _ _ _ h => h) (Or.inl ⟨by kernel_rfl, ?_⟩) hHeld ?_
        rotate_left
        · intro w hSw; go_simp; first | done | with_reducible rfl
        try simp only [List.getElem_toArray, List.getElem_cons_zero, List.getElem_cons_succ, Act.put, List.setIfInBounds_toArray, List.set_cons_zero, List.set_cons_succ]
        refine wpAnyH_take (i := 11) (v := ?_) rfl (by kernel_rfl) (by kernel_rfl) (by kernel_rfl) (fun _ _ _ h => h) (Or.inl ⟨by kernel_rfl, ?_⟩) hHeld ?_
        rotate_left
        · intro w hSw; go_simp; first | done | with_reducible rfl
        try simp only [List.getElem_toArray, List.getElem_cons_zero, List.getElem_cons_succ, Act.put, List.setIfInBounds_toArray, List.set_cons_zero, List.set_cons_succ]
        refine wpAnyH_take (i := 12) (v := ?_) rfl (by kernel_rfl) (by kernel_rfl) (by kernel_rfl) (fun _ _ _ h => h) (Or.inl ⟨by kernel_rfl, ?_⟩) hHeld ?_
        rotate_left
        · intro w hSw; go_simp; first | done | with_reducible rfl
        try simp only [List.getElem_toArray, List.getElem_cons_zero, List.getElem_cons_succ, Act.put, List.setIfInBounds_toArray, List.set_cons_zero, List.set_cons_succ]
        refine wpAnyH_take (i := 13) (v := ?_) rfl (by kernel_rfl) (by kernel_rfl) (by kernel_rfl) (fun _ _ _ h => h) (Or.inl ⟨by kernel_rfl, ?_⟩) hHeld ?_
        rotate_left
        · intro w hSw; go_simp; first | done | with_reducible rfl
        try simp only [List.getElem_toArray, List.getElem_cons_zero, List.getElem_cons_succ, Act.put, List.setIfInBounds_toArray, List.set_cons_zero, List.set_cons_succ]
        refine wpAnyH_take (i := 14) (v := ?_) rfl (by kernel_rfl) (by kernel_rfl) (by kernel_rfl) (fun _ _ _ h => h) (Or.inl ⟨by kernel_rfl, ?_⟩) hHeld ?_
        rotate_left
        · intro w hSw; have c := hSw; go_simp; first | done | with_reducible rfl
        try simp only [List.getElem_toArray, List.getElem_cons_zero, List.getElem_cons_succ, Act.put, List.setIfInBounds_toArray, List.set_cons_zero, List.set_cons_succ]
        refine wpAnyH_take (i := 15) (v := ?_) rfl (by kernel_rfl) (by kernel_rfl) (by kernel_rfl) (fun _ _ _ h => h) (Or.inl ⟨by kernel_rfl, ?_⟩) hHeld ?_
        rotate_left
        · intro w hSw; go_simp; first | done | with_reducible rfl
        try simp only [List.getElem_toArray, List.getElem_cons_zero, List.getElem_cons_succ, Act.put, List.setIfInBounds_toArray, List.set_cons_zero, List.set_cons_succ]
        refine wpAnyH_ready (rs := [10]) (by kernel_rfl) (by simp) ?_
        refine AllReadyH.cons rfl (fun K hK => ?_) AllReadyH.nil
        go_simp
        go_at_call 34
        refine (len_is B7.C hLm.out).mono ?_
        rintro e w1 ⟨rfl, rfl⟩
        simp only []
        refine hK.out _ _ hHeld (fun hHeld1 => ?_)
        clear hK K
        try simp only [List.getElem_toArray, List.getElem_cons_zero, List.getElem_cons_succ, Act.put, List.setIfInBounds_toArray, List.set_cons_zero, List.set_cons_succ]
        refine wpAnyH_take (i := 16) (v := ?_) rfl (by kernel_rfl) (by kernel_rfl) (by kernel_rfl) (fun _ _ _ h => h) (Or.inl ⟨by kernel_rfl, ?_⟩) hHeld1 ?_
        rotate_left
        · intro w hSw; go_simp; first | done | with_reducible rfl
        try simp only [List.getElem_toArray, List.getElem_cons_zero, List.getElem_cons_succ, Act.put, List.setIfInBounds_toArray, List.set_cons_zero, List.set_cons_succ]
        refine wpAnyH_take (i := 17) (v := ?_) rfl (by kernel_rfl) (by kernel_rfl) (by kernel_rfl) (fun _ _ _ h => h) (Or.inl ⟨by kernel_rfl, ?_⟩) hHeld1 ?_
        rotate_left
        · intro w hSw; go_simp; first | done | with_reducible rfl
        try simp only [List.getElem_toArray, List.getElem_cons_zero, List.getElem_cons_succ, Act.put, List.setIfInBounds_toArray, List.set_cons_zero, List.set_cons_succ]
        refine wpAnyH_take (i := 18) (v := ?_) rfl (by kernel_rfl) (by kernel_rfl) (by kernel_rfl) (fun _ _ _ h => h) (Or.inl ⟨by kernel_rfl, ?_⟩) hHeld1 ?_
        rotate_left
        · intro w hSw; go_simp; first | done | with_reducible rfl
        try simp only [List.getElem_toArray, List.getElem_cons_zero, List.getElem_cons_succ, Act.put, List.setIfInBounds_toArray, List.set_cons_zero, List.set_cons_succ]
        refine wpAnyH_take (i := 19) (v := ?_) rfl (by kernel_rfl) (by kernel_rfl) (by kernel_rfl) (fun _ _ _ h => h) (Or.inl ⟨by kernel_rfl, ?_⟩) hHeld1 ?_
        rotate_left
        · intro w hSw; go_simp; first | done | with_reducible rfl
        try simp only [List.getElem_toArray, List.getElem_cons_zero, List.getElem_cons_succ, Act.put, List.setIfInBounds_toArray, List.set_cons_zero, List.set_cons_succ]
        refine wpAnyH_take (i := 21) (v := ?_) rfl (by kernel_rfl) (by kernel_rfl) (by kernel_rfl) (fun _ _ _ h => h) (Or.inl ⟨by kernel_rfl, ?_⟩) hHeld1 ?_
        rotate_left
        · intro w hSw; go_simp; first | done | with_reducible rfl
        try simp only [List.getElem_toArray, List.getElem_cons_zero, List.getElem_cons_succ, Act.put, List.setIfInBounds_toArray, List.set_cons_zero, List.set_cons_succ]
        refine wpAnyH_ready (rs := [20]) (by kernel_rfl) (by simp) ?_
        refine AllReadyH.cons rfl (fun K hK => ?_) AllReadyH.nil
        · go_simp
          go_at_call 36
          refine (known_is B7.C hLm.out (by omega)).mono ?_
          rintro e Wk ⟨a1, k1, rfl, own1, hbk⟩
          simp only []
          have B8 := B7.below hbk
          have BL8 := BL7.trans (hbk.mono (by have := hsdX.out; omega))
          have s8 := hbk.size
          have hS8 := B8.R.cells.1
          refine hK.out _ _ hS8 (fun hHeld2 => ?_)
          clear hK K
          try simp only [List.getElem_toArray, List.getElem_cons_zero, List.getElem_cons_succ, Act.put, List.setIfInBounds_toArray, List.set_cons_zero, List.set_cons_succ]
          refine wpAnyH_ready (rs := [22]) (by kernel_rfl) (by simp) ?_
          refine AllReadyH.cons rfl (fun K hK => ?_) AllReadyH.nil
          go_simp
          go_at_call 37
          refine (rknown_is B8.R hLm.out (by omega)).mono ?_
          rintro e Wm ⟨a2, k2, rfl, own2, hbm⟩
          simp only []
          have BF := B8.below hbm
          have BLF := BL8.trans (hbm.mono (by have := hsdX.out; omega))
          have hSf := BF.R.cells.1
          have la : Lies Wm a1 (keys L2) := lies_row hkhX.out (own_same3 (by rw [keys_flat3]; exact own1) (fun j e => hbm.block j (own1.lt j e).2))
          have lb : Lies Wm a2 (keys L2) := lies_row hkhX.out own2
          refine hK.out _ _ hSf (fun hHeld3 => ?_)
          clear hK K
          try simp only [List.getElem_toArray, List.getElem_cons_zero, List.getElem_cons_succ, Act.put, List.setIfInBounds_toArray, List.set_cons_zero, List.set_cons_succ]
          refine wpAnyH_ready (rs := [23]) (by kernel_rfl) (by simp) ?_
          refine AllReadyH.cons rfl (fun K hK => ?_) AllReadyH.nil
          go_simp
          go_at_call 35
          refine (same_is3 (keys L2) (keys L2) hkhX.out hkhX.out hkl2.out hkl2.out (by omega) _ _ _ _ _ la lb (t := true) (by simp)).mono ?_
          rintro e w1 ⟨rfl, d, rfl⟩
          simp only []
          refine hK.out _ _ hSf (fun hHeld5 => ?_)
          clear hK K
          try simp only [List.getElem_toArray, List.getElem_cons_zero, List.getElem_cons_succ, Act.put, List.setIfInBounds_toArray, List.set_cons_zero, List.set_cons_succ]
          refine wpAnyH_take (i := 24) (v := ?_) rfl (by kernel_rfl) (by kernel_rfl) (by kernel_rfl) (fun _ _ _ h => h) (Or.inl ⟨by kernel_rfl, ?_⟩) hHeld5 ?_
          rotate_left
          · intro w hSw; go_simp; first | done | with_reducible rfl
          try simp only [List.getElem_toArray, List.getElem_cons_zero, List.getElem_cons_succ, Act.put, List.setIfInBounds_toArray, List.set_cons_zero, List.set_cons_succ]
          refine wpAnyH_take (i := 25) (v := ?_) rfl (by kernel_rfl) (by kernel_rfl) (by kernel_rfl) (fun _ _ _ h => h) (Or.inl ⟨by kernel_rfl, ?_⟩) hHeld5 ?_
          rotate_left
          · intro w hSw; go_simp; first | done | with_reducible rfl
          try simp only [List.getElem_toArray, List.getElem_cons_zero, List.getElem_cons_succ, Act.put, List.setIfInBounds_toArray, List.set_cons_zero, List.set_cons_succ]
          refine wpAnyH_done (by kernel_rfl) ?_ _
          refine NoPanic.normal ?_
          try simp only [List.getElem_toArray, List.getElem_cons_zero, List.getElem_cons_succ, Act.put, List.setIfInBounds_toArray, List.set_cons_zero, List.set_cons_succ]
          go_wp2_with fail
          go_roundw
          case rel => exact ⟨k + 1, n + 1, _, _, _, L2, by omega, by go_num, BF.below (grow_below (grow_drewN _ d)), by omega, below_drewN BLF d⟩
          case measure => simp [intOf]; omega
      · have hdoB : (x.doo == 0) = false := by simpa using hdo
        clear hdo
        obtain ⟨L2, eL2⟩ : ∃ L2, L = L2 := ⟨_, rfl⟩
        rw [eL2] at B1
        clear eL2
        obtain ⟨vv, evv⟩ : ∃ vv, verd L2 x.h = vv := ⟨_, rfl⟩
        obtain ⟨ii, eii⟩ : ∃ ii, isIn L2 x.h = ii := ⟨_, rfl⟩
        have evvX : Hid _ := evv
        have eiiX : Hid _ := eii
        clear evv eii
        have hle := B1.le
        have zq := B1.R.base
        obtain ⟨m, em⟩ : ∃ m, L2.length = m := ⟨_, rfl⟩
        rw [em] at hle
        have hLm : Hid (L2.length = m) := em
        clear em
        go_wp2_with (first | (refine wpList_load_mid rfl 50 (.tmp 50) rfl (b) (off + k * 34) rfl (ac x) _ (rx) hua rfl (sizeOfAct X) ?_) | (refine wpList_store_to rfl 50 (.tmp 10) (.tmp 51) rfl xp (by rw [← exp]; rfl) _ rfl hsx ?_) | (refine wpList_load_mid rfl 48 (.tmp 83) rfl (xp) 1 rfl (cs x.h) _ (cx1) hu rfl (sizeOfHash X) ?_) | fail)
        refine (get_is B1.C x.h X evvX.out eiiX.out).mono ?_
        rintro e Wg ⟨rfl, hbg⟩
        have B5 := B1.below hbg
        have q5 := stays2 hbg hqx.out
        have BL5 := BX.trans (hbg.mono (by omega))
        have s5 := hbg.size
        replace hqx : Hid _ := q5
        obtain ⟨_, cx5, _⟩ := act_cells X q5
        clear hbg q5 cx1
        simp only []
        go_wp2_with (first | (refine wpList_load_mid rfl 48 (.tmp 90) rfl (xp) 1 rfl (cs x.h) _ (cx5) hu rfl (sizeOfHash X) ?_) | fail)
        refine (rget_is B5.R x.h X (by rw [hLm.out]; omega) evvX.out eiiX.out).mono ?_
        rintro e Wh ⟨rfl, hbh⟩
        have B6 := B5.below hbh
        have BL6 := BL5.trans (hbh.mono (by omega))
        have s6 := hbh.size
        clear hbh B5 BL5 cx5 hqx
        simp only []
        obtain ⟨ra, rc, erv⟩ := rowN_shape B6.R.row
        rw [hLm.out] at erv
        subst erv
        obtain ⟨c0, _⟩ := B6.R.cells
        have c0d : Wh.drew.cell? ⟨q, 0, none⟩ = some (.slice ra m rc) := c0
        have hkh := hs_keys B6.R.hs
        have hkhX : Hid _ := hkh
        have B7 := B6.below (grow_below (grow_drew Wh))
        have BL7 := BL6.drew
        have hsd : Wh.drew.heap.size = Wh.heap.size := rfl
        have hsdX : Hid _ := hsd
        clear c0 hkh B6 BL6 hsd
        have hkl2 : Hid ((keys L2).length = m) := by show (keys L2).length = m; rw [keys_len]; exact hLm.out
        go_upto_region 21 with fail
        refine wp_region_noPanic ?_
        refine wp_region_held_drew (S := (fun wz => wz.cell? ⟨q, 0, none⟩ = some (.slice ra m rc))) (by kernel_rfl) c0d (fun hHeld => ?_)
        refine wpAnyH_take (i := 0) (v := ?_) rfl (by kernel_rfl) (by kernel_rfl) (by kernel_rfl) (fun _ _ _ h => h) (Or.inl ⟨by kernel_rfl, ?_⟩) hHeld ?_
        rotate_left
        · intro w hSw; go_simp; first | done | with_reducible rfl
        try simp only [List.getElem_toArray, List.getElem_cons_zero, List.getElem_cons_succ, Act.put, List.setIfInBounds_toArray, List.set_cons_zero, List.set_cons_succ]
        refine wpAnyH_take (i := 1) (v := ?_) rfl (by kernel_rfl) (by kernel_rfl) (by kernel_rfl) (fun _ _ _ h => h) (Or.inl ⟨by kernel_rfl, ?_⟩) hHeld ?_
        rotate_left
        · intro w hSw; go_simp; first | done | with_reducible rfl
        try simp only [List.getElem_toArray, List.getElem_cons_zero, List.getElem_cons_succ, Act.put, List.setIfInBounds_toArray, List.set_cons_zero, List.set_cons_succ]
        refine wpAnyH_take (i := 2) (v := ?_) rfl (by kernel_rfl) (by kernel_rfl) (by kernel_rfl) (fun _ _ _ h => h) (Or.inl ⟨by kernel_rfl, ?_⟩) hHeld ?_
        rotate_left
        · intro w hSw; go_simp; first | done | with_reducible rfl
        try simp only [List.getElem_toArray, List.getElem_cons_zero, List.getElem_cons_succ, Act.put, List.setIfInBounds_toArray, List.set_cons_zero, List.set_cons_succ]
        refine wpAnyH_take (i := 3) (v := ?_) rfl (by kernel_rfl) (by kernel_rfl) (by kernel_rfl) (fun _ _ _ h => h) (Or.inl ⟨by kernel_rfl, ?_⟩) hHeld ?_
        rotate_left
        · intro w hSw; go_simp; first | done | with_reducible rfl
        try simp only [List.getElem_toArray, List.getElem_cons_zero, List.getElem_cons_succ, Act.put, List.setIfInBounds_toArray, List.set_cons_zero, List.set_cons_succ]
        refine wpAnyH_take (i := 4) (v := ?_) rfl (by kernel_rfl) (by kernel_rfl) (by kernel_rfl) (fun _ _ _ h => h) (Or.inl ⟨by kernel_rfl, ?_⟩) hHeld ?_
        rotate_left
        · intro w hSw; go_simp; first | done | with_reducible rfl
        try simp only [List.getElem_toArray, List.getElem_cons_zero, List.getElem_cons_succ, Act.put, List.setIfInBounds_toArray, List.set_cons_zero, List.set_cons_succ]
        refine wpAnyH_take (i := 5) (v := ?_) rfl (by kernel_rfl) (by kernel_rfl) (by kernel_rfl) (fun _ _ _ h => h) (Or.inl ⟨by kernel_rfl, ?_⟩) hHeld ?_
        rotate_left
        · intro w hSw; go_simp; first | done | with_reducible rfl
        try simp only [List.getElem_toArray, List.getElem_cons_zero, List.getElem_cons_succ, Act.put, List.setIfInBounds_toArray, List.set_cons_zero, List.set_cons_succ]
        refine wpAnyH_take (i := 6) (v := ?_) rfl (by kernel_rfl) (by kernel_rfl) (by kernel_rfl) (fun _ _ _ h => h) (Or.inl ⟨by kernel_rfl, ?_⟩) hHeld ?_
        rotate_left
        · intro w hSw; go_simp; first | done | with_reducible rfl
        try simp only [List.getElem_toArray, List.getElem_cons_zero, List.getElem_cons_succ, Act.put, List.setIfInBounds_toArray, List.set_cons_zero, List.set_cons_succ]
        refine wpAnyH_take (i := 7) (v := ?_) rfl (by kernel_rfl) (by kernel_rfl) (by kernel_rfl) (fun _ _ _ h => h) (Or.inl ⟨by kernel_rfl, ?_⟩) hHeld ?_
        rotate_left
        · intro w hSw; go_simp; first | done | with_reducible rfl
        try simp only [List.getElem_toArray, List.getElem_cons_zero, List.getElem_cons_succ, Act.put, List.setIfInBounds_toArray, List.set_cons_zero, List.set_cons_succ]
        refine wpAnyH_take (i := 8) (v := ?_) rfl (by kernel_rfl) (by kernel_rfl) (by kernel_rfl) (fun _ _ _ h => h) (Or.inl ⟨by kernel_rfl, ?_⟩) hHeld ?_
        rotate_left
        · intro w hSw; go_simp; first | done | with_reducible rfl
        try simp only [List.getElem_toArray, List.getElem_cons_zero, List.getElem_cons_succ, Act.put, List.setIfInBounds_toArray, List.set_cons_zero, List.set_cons_succ]
        refine wpAnyH_take (i := 9) (v := ?_) rfl (by kernel_rfl) (by kernel_rfl) (by kernel_rfl) (fun _ _ _ h => h) (Or.inl ⟨by kernel_rfl, ?_⟩) hHeld ?_
        rotate_left
        · intro w hSw; go_simp; first | done | with_reducible rfl
        try simp only [List.getElem_toArray, List.getElem_cons_zero, List.getElem_cons_succ, Act.put, List.setIfInBounds_toArray, List.set_cons_zero, List.set_cons_succ]
        refine wpAnyH_take (i := 11) (v := ?_) rfl (by kernel_rfl) (by kernel_rfl) (by kernel_rfl) (fun _ _ _ h => h) (Or.inl ⟨by kernel_rfl, ?_⟩) hHeld ?_
        rotate_left
        · intro w hSw; go_simp; first | done | with_reducible rfl
        try simp only [List.getElem_toArray, List.getElem_cons_zero, List.getElem_cons_succ, Act.put, List.setIfInBounds_toArray, List.set_cons_zero, List.set_cons_succ]
        refine wpAnyH_take (i := 12) (v := ?_) rfl (by kernel_rfl) (by kernel_rfl) (by kernel_rfl) (fun _ _ _ h => h) (Or.inl ⟨by kernel_rfl, ?_⟩) hHeld ?_
        rotate_left
        · intro w hSw; go_simp; first | done | with_reducible rfl
        try simp only [List.getElem_toArray, List.getElem_cons_zero, List.getElem_cons_succ, Act.put, List.setIfInBounds_toArray, List.set_cons_zero, List.set_cons_succ]
        refine wpAnyH_take (i := 13) (v := ?_) rfl (by kernel_rfl) (by kernel_rfl) (by kernel_rfl) (fun _ _ _ h => h) (Or.inl ⟨by kernel_rfl, ?_⟩) hHeld ?_
        rotate_left
        · intro w hSw; go_simp; first | done | with_reducible rfl
        try simp only [List.getElem_toArray, List.getElem_cons_zero, List.getElem_cons_succ, Act.put, List.setIfInBounds_toArray, List.set_cons_zero, List.set_cons_succ]
        refine wpAnyH_take (i := 14) (v := ?_) rfl (by kernel_rfl) (by kernel_rfl) (by kernel_rfl) (fun _ _ _ h => h) (Or.inl ⟨by kernel_rfl, ?_⟩) hHeld ?_
        rotate_left
        · intro w hSw; have c := hSw; go_simp; first | done | with_reducible rfl
        try simp only [List.getElem_toArray, List.getElem_cons_zero, List.getElem_cons_succ, Act.put, List.setIfInBounds_toArray, List.set_cons_zero, List.set_cons_succ]
        refine wpAnyH_take (i := 15) (v := ?_) rfl (by kernel_rfl) (by kernel_rfl) (by kernel_rfl) (fun _ _ _ h => h) (Or.inl ⟨by kernel_rfl, ?_⟩) hHeld ?_
        rotate_left
        · intro w hSw; go_simp; first | done | with_reducible rfl
        try simp only [List.getElem_toArray, List.getElem_cons_zero, List.getElem_cons_succ, Act.put, List.setIfInBounds_toArray, List.set_cons_zero, List.set_cons_succ]
        refine wpAnyH_ready (rs := [10]) (by kernel_rfl) (by simp) ?_
        refine AllReadyH.cons rfl (fun K hK => ?_) AllReadyH.nil
        go_simp
        go_at_call 34
        refine (len_is B7.C hLm.out).mono ?_
        rintro e w1 ⟨rfl, rfl⟩
        simp only []
        refine hK.out _ _ hHeld (fun hHeld1 => ?_)
        clear hK K
        try simp only [List.getElem_toArray, List.getElem_cons_zero, List.getElem_cons_succ, Act.put, List.setIfInBounds_toArray, List.set_cons_zero, List.set_cons_succ]
        refine wpAnyH_take (i := 16) (v := ?_) rfl (by kernel_rfl) (by kernel_rfl) (by kernel_rfl) (fun _ _ _ h => h) (Or.inl ⟨by kernel_rfl, ?_⟩) hHeld1 ?_
        rotate_left
        · intro w hSw; go_simp; first | done | with_reducible rfl
        try simp only [List.getElem_toArray, List.getElem_cons_zero, List.getElem_cons_succ, Act.put, List.setIfInBounds_toArray, List.set_cons_zero, List.set_cons_succ]
        refine wpAnyH_take (i := 17) (v := ?_) rfl (by kernel_rfl) (by kernel_rfl) (by kernel_rfl) (fun _ _ _ h => h) (Or.inl ⟨by kernel_rfl, ?_⟩) hHeld1 ?_
        rotate_left
        · intro w hSw; go_simp; first | done | with_reducible rfl
        try simp only [List.getElem_toArray, List.getElem_cons_zero, List.getElem_cons_succ, Act.put, List.setIfInBounds_toArray, List.set_cons_zero, List.set_cons_succ]
        refine wpAnyH_take (i := 18) (v := ?_) rfl (by kernel_rfl) (by kernel_rfl) (by kernel_rfl) (fun _ _ _ h => h) (Or.inl ⟨by kernel_rfl, ?_⟩) hHeld1 ?_
        rotate_left
        · intro w hSw; go_simp; first | done | with_reducible rfl
        try simp only [List.getElem_toArray, List.getElem_cons_zero, List.getElem_cons_succ, Act.put, List.setIfInBounds_toArray, List.set_cons_zero, List.set_cons_succ]
        refine wpAnyH_take (i := 19) (v := ?_) rfl (by kernel_rfl) (by kernel_rfl) (by kernel_rfl) (fun _ _ _ h => h) (Or.inl ⟨by kernel_rfl, ?_⟩) hHeld1 ?_
        rotate_left
        · intro w hSw; go_simp; first | done | with_reducible rfl
        try simp only [List.getElem_toArray, List.getElem_cons_zero, List.getElem_cons_succ, Act.put, List.setIfInBounds_toArray, List.set_cons_zero, List.set_cons_succ]
        refine wpAnyH_take (i := 21) (v := ?_) rfl (by kernel_rfl) (by kernel_rfl) (by kernel_rfl) (fun _ _ _ h => h) (Or.inl ⟨by kernel_rfl, ?_⟩) hHeld1 ?_
        rotate_left
        · intro w hSw; go_simp; first | done | with_reducible rfl
        try simp only [List.getElem_toArray, List.getElem_cons_zero, List.getElem_cons_succ, Act.put, List.setIfInBounds_toArray, List.set_cons_zero, List.set_cons_succ]
        refine wpAnyH_ready (rs := [20]) (by kernel_rfl) (by simp) ?_
        refine AllReadyH.cons rfl (fun K hK => ?_) AllReadyH.nil
        · go_simp
          go_at_call 36
          refine (known_is B7.C hLm.out (by omega)).mono ?_
          rintro e Wk ⟨a1, k1, rfl, own1, hbk⟩
          simp only []
          have B8 := B7.below hbk
          have BL8 := BL7.trans (hbk.mono (by have := hsdX.out; omega))
          have s8 := hbk.size
          have hS8 := B8.R.cells.1
          refine hK.out _ _ hS8 (fun hHeld2 => ?_)
          clear hK K
          try simp only [List.getElem_toArray, List.getElem_cons_zero, List.getElem_cons_succ, Act.put, List.setIfInBounds_toArray, List.set_cons_zero, List.set_cons_succ]
          refine wpAnyH_ready (rs := [22]) (by kernel_rfl) (by simp) ?_
          refine AllReadyH.cons rfl (fun K hK => ?_) AllReadyH.nil
          go_simp
          go_at_call 37
          refine (rknown_is B8.R hLm.out (by omega)).mono ?_
          rintro e Wm ⟨a2, k2, rfl, own2, hbm⟩
          simp only []
          have BF := B8.below hbm
          have BLF := BL8.trans (hbm.mono (by have := hsdX.out; omega))
          have hSf := BF.R.cells.1
          have la : Lies Wm a1 (keys L2) := lies_row hkhX.out (own_same3 (by rw [keys_flat3]; exact own1) (fun j e => hbm.block j (own1.lt j e).2))
          have lb : Lies Wm a2 (keys L2) := lies_row hkhX.out own2
          refine hK.out _ _ hSf (fun hHeld3 => ?_)
          clear hK K
          try simp only [List.getElem_toArray, List.getElem_cons_zero, List.getElem_cons_succ, Act.put, List.setIfInBounds_toArray, List.set_cons_zero, List.set_cons_succ]
          refine wpAnyH_ready (rs := [23]) (by kernel_rfl) (by simp) ?_
          refine AllReadyH.cons rfl (fun K hK => ?_) AllReadyH.nil
          go_simp
          go_at_call 35
          refine (same_is3 (keys L2) (keys L2) hkhX.out hkhX.out hkl2.out hkl2.out (by omega) _ _ _ _ _ la lb (t := true) (by simp)).mono ?_
          rintro e w1 ⟨rfl, d, rfl⟩
          simp only []
          refine hK.out _ _ hSf (fun hHeld5 => ?_)
          clear hK K
          try simp only [List.getElem_toArray, List.getElem_cons_zero, List.getElem_cons_succ, Act.put, List.setIfInBounds_toArray, List.set_cons_zero, List.set_cons_succ]
          refine wpAnyH_take (i := 24) (v := ?_) rfl (by kernel_rfl) (by kernel_rfl) (by kernel_rfl) (fun _ _ _ h => h) (Or.inl ⟨by kernel_rfl, ?_⟩) hHeld5 ?_
          rotate_left
          · intro w hSw; go_simp; first | done | with_reducible rfl
          try simp only [List.getElem_toArray, List.getElem_cons_zero, List.getElem_cons_succ, Act.put, List.setIfInBounds_toArray, List.set_cons_zero, List.set_cons_succ]
          refine wpAnyH_take (i := 25) (v := ?_) rfl (by kernel_rfl) (by kernel_rfl) (by kernel_rfl) (fun _ _ _ h => h) (Or.inl ⟨by kernel_rfl, ?_⟩) hHeld5 ?_
          rotate_left
          · intro w hSw; go_simp; first | done | with_reducible rfl
          try simp only [List.getElem_toArray, List.getElem_cons_zero, List.getElem_cons_succ, Act.put, List.setIfInBounds_toArray, List.set_cons_zero, List.set_cons_succ]
          refine wpAnyH_done (by kernel_rfl) ?_ _
          refine NoPanic.normal ?_
          try simp only [List.getElem_toArray, List.getElem_cons_zero, List.getElem_cons_succ, Act.put, List.setIfInBounds_toArray, List.set_cons_zero, List.set_cons_succ]
          go_wp2_with fail
          go_roundw
          case rel => exact ⟨k + 1, n, _, _, _, L2, by omega, by go_num, BF.below (grow_below (grow_drewN _ d)), by omega, below_drewN BLF d⟩
          case measure => simp [intOf]; omega
    · obtain rfl : len = k := by omega
      go_wp2_with fail
      go_returns
      exact ⟨rfl, by rw [ehpX.out]; exact hB⟩
end Go.Proofs.Ytecmhkkjobflcaa.Ver
