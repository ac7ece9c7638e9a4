/- VerdictRoom returns true, whatever the room, the acts and the digest; nothing that was there is changed. No condition. -/
import Derived.Test.YtecmhkkjobflcaaVerAwake
namespace Go.Proofs.Ytecmhkkjobflcaa.Ver
open Go.RowKit Go.WideMaps Go.Maps
set_option linter.unusedVariables false
set_option linter.unusedSimpArgs false
set_option maxRecDepth 100000

/-- What the acts' row holds. -/
def Acts (w : World) (a : Option Addr) (len : Nat) : Prop := 0 < len → ∃ b off, a = some ⟨b, off, none⟩ ∧ b < w.heap.size ∧ ∀ j, j < len → ∃ x : ActV, IsHash x.h ∧ (Lit.int .i64 x.doo).wf = true ∧ w.rangeAt b (off + j * 34) (ac x)

set_option maxHeartbeats 16000000 in
theorem verRoom_yes (room : Int) (h1 : 1 ≤ room) (h2 : room ≤ 100) (a : Option Addr) (len cap : Nat) (hlen : len ≤ 300) (h : List Int) (H : IsHash h) (w : World) (f : Acts w a len) :
    Calls Try.prog 7 #[.int .i64 room, .slice a len cap, .agg (cs h).toArray] w fun e w' => e = .returned (.bool true) ∧ Below w.heap.size w w' := by
  have hu := Try.underlying48
  have hua := Try.underlying50
  go_enter Try.func7, Try.ntmps7
  go_wp2_with fail
  refine (vawake_c _).mono ?_
  rintro e W1 ⟨rfl, hb1⟩
  have q1 := stays2 hb1 (heap_alloc_new w (.cells (cs h).toArray 48))
  have B1 : Below w.heap.size w W1 := ((Below.refl _ _).alloc (Nat.le_refl _) (.cells (cs h).toArray 48)).trans (hb1.mono (by simp))
  have s1 : w.heap.size < W1.heap.size := by have := hb1.size; simp at this; omega
  clear hb1
  simp only []
  go_wp2_with fail
  refine (new_ok room h1 h2 W1).mono ?_
  rintro e W2 ⟨rfl, C2, hb2⟩
  have q2 := stays2 hb2 q1
  have B2 := B1.trans (hb2.mono (Nat.le_of_lt s1))
  have s2 := hb2.size
  clear q1 B1 hb2
  obtain ⟨hp, ehp⟩ : ∃ hp, w.heap.size = hp := ⟨_, rfl⟩
  obtain ⟨p, ep⟩ : ∃ p, W1.heap.size = p := ⟨_, rfl⟩
  rw [ep] at C2 s1 ⊢
  have hpp : hp < p := by omega
  rw [ehp] at B2 q2 ⊢
  have B2 : Below hp w W2 := B2
  have q2 : Hid (W2.heap[hp]? = _) := q2
  have ehpX : Hid (w.heap.size = hp) := ehp
  clear s2 s1 ep
  clear ehp
  simp only []
  have hl3 : ¬ ((300 : Int) < len) := by omega
  go_wp2_with fail
  go_loopw [9, 10, 36] (fun iv tv i wz => ∃ (k n : Nat) (v : Value) (D : DataW Unit) (L : Known) (x y : Bool), k ≤ len ∧ i = .int .i64 k ∧ iv = .bool x ∧ tv = .bool y ∧ Hid (verd L h = x) ∧ Hid (isIn L h = y) ∧ Holds wz (p + 2) (p + 1) p room v n D L ∧ (L.length : Int) ≤ room ∧ n ≤ k ∧
      Hid (wz.heap[hp]? = some (.cells (cs h).toArray 48)) ∧ Below hp w wz)
    (fun _ _ i _ => len - (intOf i).toNat)
  case atStart => exact ⟨0, 0, _, _, _, _, _, Nat.zero_le _, rfl, rfl, rfl, (show verd [] h = false from rfl), (show isIn [] h = false from rfl), C2, by simp; omega, Nat.le_refl _, q2, B2⟩
  case round =>
    clear C2 q2 B2
    obtain ⟨k, n, v, D, L, iv, tv, hk, rfl, rfl, rfl, hiv, htv, C, hL, hnk, qh, hB⟩ := hrel
    have S := C.says
    have sep := C.base
    by_cases hkl : k < len
    · obtain ⟨b, off, rfl, hb, fx⟩ := f (by omega)
      obtain ⟨x, X, hxw, rx⟩ := fx k hkl
      have rx : wr.rangeAt b (off + k * 34) (ac x) := range_below hB rx (by have := ehpX.out; omega)
      obtain ⟨Wx, hsx, qx, Gx, szx⟩ := lay_act wr X
      clear fx f
      have qhx := still Gx qh.out (by simp)
      have C1 := C.grow Gx (by simp) (by simp) (by cases v.ownBlock <;> simp)
      have BX : Below hp w Wx := hB.trans ((grow_below Gx).mono (by omega))
      clear Gx
      obtain ⟨xp, exp⟩ : ∃ xp, wr.heap.size = xp := ⟨_, rfl⟩
      rw [exp] at hsx qx szx
      have sep2 : p + 2 ≤ xp := by omega
      have ho : Hid (∀ k, v.ownBlock = some k → p + 2 ≤ k ∧ k < xp) := fun k e => by have := C.row.lt k e; omega
      obtain ⟨cx0, cx1, cx2⟩ := act_cells X qx
      have hqx : Hid _ := qx
      have hqhx : Hid _ := qhx
      clear qx qhx C sep
      by_cases hdo : x.doo = 0
      · rw [hdo] at cx0
        go_wp2_with (first | (refine wpList_load_mid rfl 50 (.tmp 38) rfl (b) (off + k * 34) rfl (ac x) _ (rx) hua rfl (sizeOfAct X) ?_) | (refine wpList_store_to rfl 50 (.tmp 12) (.tmp 39) rfl xp (by rw [← exp]; rfl) _ rfl hsx ?_) | (refine wpList_load_mid rfl 48 (.tmp 45) rfl (xp) 1 rfl (cs x.h) _ (cx1) hu rfl (sizeOfHash X) ?_))
        refine (get_is C1 x.h X rfl rfl).mono ?_
        rintro e We ⟨rfl, hbe⟩
        have C2 := C1.below hbe
        have qx := stays2 hbe hqx.out
        have qhx := stays2 hbe hqhx.out
        have BE := BX.trans (hbe.mono (by have := BX.size; have := ehpX.out; omega))
        have sze := hbe.size
        obtain ⟨cx0, cx1, cx2⟩ := act_cells X qx
        clear hqx hqhx C1 hbe BX hsx
        have hqhx : Hid _ := qhx
        have hqx : Hid _ := qx
        clear qhx qx
        have hp1 : p + 2 ≤ We.heap.size := by omega
        have hxe : xp < We.heap.size := by omega
        clear sze szx
        have S2 := C2.says
        have hnd := S2.nodup
        obtain ⟨m, hm⟩ : ∃ m, L.length = m := ⟨_, rfl⟩
        have hsz := next_size (L := L) (room := room) x.h x.is h1
        have hnv := next_verd hnd (room := room) x.h h x.is h1
        have hni := next_in hnd (room := room) x.h h x.is h1
        have hG := gone_hash S2 room x.h
        have hfl : fullL L room x.h = (!isIn L x.h && decide ((m : Int) = room)) := by rw [← hm]; rfl
        rw [hm] at hsz hL
        rw [hiv.out] at hnv
        rw [htv.out] at hni
        obtain ⟨L2, hL2⟩ : ∃ L2, nextL L room x.h x.is = L2 := ⟨_, rfl⟩
        obtain ⟨g, hg⟩ : ∃ g, goneL L room x.h = g := ⟨_, rfl⟩
        obtain ⟨fu, hfu⟩ : ∃ fu, fullL L room x.h = fu := ⟨_, rfl⟩
        obtain ⟨kn, hkn⟩ : ∃ kn, isIn L x.h = kn := ⟨_, rfl⟩
        rw [hL2] at hsz hnv hni
        rw [hg] at hnv hni hG
        rw [hfu] at hsz hnv hni hfl
        rw [hkn] at hsz hfl ⊢
        have hL2X : Hid _ := hL2
        clear hL2
        have hgX : Hid _ := hg
        clear hg
        have hfuX : Hid _ := hfu
        clear hfu
        have hknX : Hid _ := hkn
        clear hkn
        have hmX : Hid _ := hm
        clear hm
        have hflX : Hid _ := hfl
        clear hfl
        have hszX : Hid _ := hsz
        clear hsz
        have hnvX : Hid _ := hnv
        clear hnv
        have hniX : Hid _ := hni
        clear hni
        clear hiv htv hnd S2 S
        simp only []
        go_wp2_with (first | (go_at_call 34; refine (len_is C2 hmX.out).mono ?_; rintro e w1 ⟨rfl, rfl⟩; simp only []) | (refine wpList_load_mid rfl 48 (.tmp 54) rfl (xp) 1 rfl (cs x.h) _ (cx1) hu rfl (sizeOfHash X) ?_))
        refine (put_is C2 x.h X x.is h1 h2 (by rw [hmX.out]; exact hL) (by omega) hL2X.out hgX.out hfuX.out).mono ?_
        rintro e Wp ⟨v3, D3, rfl, C3, T3, o3⟩
        have qhx := (T3.far hp (by have := C2.base; omega) (by omega) (by omega) (fun e => by have := ho.out hp e.symm; omega)).trans hqhx.out
        have BP := below_turned BE T3 (by omega) (by omega) (fun k e => by have := ho.out k e; omega) (by have := C2.base; omega)
        have szp := T3.size
        have qxp := (T3.far xp (by omega) (by omega) (by omega) (fun e => by have := ho.out xp e.symm; omega)).trans hqx.out
        clear cx0 cx1 cx2
        obtain ⟨cx0, cx1, cx2⟩ := act_cells X qxp
        have ho3 : Hid (∀ k, v3.ownBlock = some k → p + 2 ≤ k) := by
          intro k e
          rcases o3 k e with h | h
          · have := ho.out k h.symm; omega
          · omega
        clear T3 BE C2 hqhx hqx ho o3
        obtain ⟨Wq, hsq, qq, Gq, szq⟩ := lay_hash Wp hG
        have C4 := C3.grow Gq (by simp) (by simp) (by cases v3.ownBlock <;> simp)
        have BQ := BP.trans ((grow_below Gq).mono (by omega))
        have qhx := still Gq qhx (by simp)
        have qxp := still Gq qxp (by simp)
        clear cx0 cx1 cx2 C3 BP Gq
        obtain ⟨cx0, cx1, cx2⟩ := act_cells X qxp
        have rh : Wq.rangeAt hp 0 (cs h) := range_of qhx
        have rg : Wq.rangeAt Wp.heap.size 0 (cs g) := range_of qq
        have hqhx : Hid _ := qhx
        clear qhx qxp qq
        obtain ⟨gp, egp⟩ : ∃ gp, Wp.heap.size = gp := ⟨_, rfl⟩
        rw [egp] at hsq rg szq szp
        simp only []
        have hS4 : Hid (kn = true ∧ fu = false ∧ L2.length = m ∨ kn = false ∧ fu = true ∧ (m : Int) = room ∧ L2.length = m ∨ kn = false ∧ fu = false ∧ ¬ (m : Int) = room ∧ L2.length = m + 1) := by
          have h1 := hflX.out
          have h2 := hszX.out
          cases kn
          · right
            by_cases e : (m : Int) = room
            · left; simp only [e, decide_true, Bool.not_false, Bool.true_and] at h1; subst h1; exact ⟨rfl, rfl, e, by simpa using h2⟩
            · right; simp only [e, decide_false, Bool.and_false] at h1; subst h1; exact ⟨rfl, rfl, e, by simpa using h2⟩
          · left; simp only [Bool.not_true, Bool.false_and] at h1; subst h1; exact ⟨rfl, rfl, by simpa using h2⟩
        clear hflX hszX hfuX hL2X hgX hknX hmX cx0
        obtain ⟨vy, hvy⟩ : ∃ vy, verd L x.h = vy := ⟨_, rfl⟩
        rw [hvy]
        clear hvy
        have hL2z : (L2.length : Int) ≤ room := by
          rcases hS4.out with ⟨_, _, h⟩ | ⟨_, _, h0, h⟩ | ⟨_, _, h0, h⟩ <;> rw [h] <;> (try exact hL)
          have := hL; omega
        obtain ⟨mz, hmz⟩ : ∃ mz, L2.length = mz := ⟨_, rfl⟩
        have hL2 : Hid ((L2.length : Int) ≤ room) := hL2z
        rw [hmz] at hL2z
        have hm2 : Hid (L2.length = mz) := hmz
        clear hmz
        go_upto_region 14 with (first | (refine wpList_store_to rfl 48 (.tmp 16) (.tmp 59) rfl gp (by rw [← egp]; rfl) _ rfl hsq ?_) | fail)
        go_cut [102] (fun b wx => b = .bool false ∧ Wq = wx)
        case first =>
          rcases hS4.out with ⟨rfl, rfl, h⟩ | ⟨rfl, rfl, hmr, h⟩ | ⟨rfl, rfl, hmr, h⟩
          · obtain rfl : m = mz := h.symm.trans hm2.out
            clear hS4 h
            go_wp2_with (first | (go_at_call 34; refine (len_is C4 hm2.out).mono ?_; rintro e w1 ⟨rfl, rfl⟩; simp only []) | fail)
            go_meet
            exact ⟨rfl, rfl⟩
          · obtain rfl : m = mz := h.symm.trans hm2.out
            have hmr1 : ((m : Int) == room) = true := by simpa using hmr
            clear hS4 h hmr
            go_wp2_with (first | (go_at_call 34; refine (len_is C4 hm2.out).mono ?_; rintro e w1 ⟨rfl, rfl⟩; simp only []) | fail)
            go_meet
            exact ⟨rfl, rfl⟩
          · have hmr1 : ((m : Int) == room) = false := by simpa using hmr
            have hme : (mz : Int) = m + 1 := by rw [← hm2.out, h]; rfl
            have hne : ((mz : Int) != (m : Int) + 1) = false := by rw [hme]; simp
            clear hS4 h hmr hme
            go_wp2_with (first | (go_at_call 34; refine (len_is C4 hm2.out).mono ?_; rintro e w1 ⟨rfl, rfl⟩; simp only []) | fail)
            go_meet
            exact ⟨rfl, rfl⟩
        case rest =>
          obtain ⟨rfl, rfl⟩ := hcut
          clear hS4
          go_upto_region 16 with fail
          go_cut [108] (fun b wx => b = .bool (fu && (g == h)) ∧ Wq = wx)
          case first =>
            have hqg := eql_hash hG H
            obtain ⟨gh, egh⟩ : ∃ gh, (g == h) = gh := ⟨_, rfl⟩
            rw [egh] at hqg
            have egh : Hid _ := egh
            cases fu
            · go_wp2_with fail
              go_meet
              exact ⟨rfl, rfl⟩
            · go_wp2_with (first | (refine wpList_load_want (by rfl) 48 (.tmp 16) rfl (gp) 0 rfl (cs g) _ (rg) hu rfl (sizeOfHash hG) ?_) | (refine wpList_load_want (by rfl) 48 (.tmp 5) rfl (hp) 0 rfl (cs h) _ (rh) hu rfl (sizeOfHash H) ?_) | fail)
              go_meet
              exact ⟨by rw [egh.out]; first | rfl | simp, rfl⟩
          case rest =>
            obtain ⟨rfl, rfl⟩ := hcut
            have hV : Hid (verd L2 h = if (x.h == h) = true then x.is else if (fu && (g == h)) = true then false else iv) := by
              show verd L2 h = _; rw [hnvX.out]; simp only [beq_iff_eq, Bool.and_eq_true]
            have hI : Hid (isIn L2 h = if (x.h == h) = true then true else if (fu && (g == h)) = true then false else tv) := by
              show isIn L2 h = _; rw [hniX.out]; simp only [beq_iff_eq, Bool.and_eq_true]
            have hq := eql_hash X H
            clear hnvX hniX
            obtain ⟨gh, egh⟩ : ∃ gh, (fu && (g == h)) = gh := ⟨_, rfl⟩
            obtain ⟨xh, exh⟩ : ∃ xh, (x.h == h) = xh := ⟨_, rfl⟩
            rw [egh, exh] at hV hI
            rw [exh] at hq
            rw [egh]
            clear egh exh
            cases xh
            · cases gh
              · have hv4 : Hid (verd L2 h = iv) := hV
                have hi4 : Hid (isIn L2 h = tv) := hI
                clear hV hI
                go_wp2_with (first | (refine wpList_load_mid rfl 48 (.tmp 109) rfl (xp) 1 rfl (cs x.h) _ (cx1) hu rfl (sizeOfHash X) ?_) | (refine wpList_load_mid rfl 48 (.tmp 5) rfl (hp) 0 rfl (cs h) _ (rh) hu rfl (sizeOfHash H) ?_) | fail)
                refine (get_is C4 h H hv4.out hi4.out).mono ?_
                rintro e Wg ⟨rfl, hbg⟩
                have C5 := C4.below hbg
                have qh5 := stays2 hbg hqhx.out
                have B5 := BQ.trans (hbg.mono (by omega))
                have szg := hbg.size
                have qh5 : Hid _ := qh5
                clear hbg rh rg cx1 cx2
                simp only []
                go_wp2_with (first | (go_at_call 34; refine (len_is C5 hm2.out).mono ?_; rintro e w1 ⟨rfl, rfl⟩; simp only []) | fail)
                refine (known_is C5 hm2.out (by have := hL2z; omega)).mono ?_
                rintro e Wk ⟨ak, capk, rfl, _, hbk⟩
                have C6 := C5.below hbk
                have qh6 := stays2 hbk qh5.out
                have B6 := B5.trans (hbk.mono (by omega))
                have qh6 : Hid _ := qh6
                clear hbk
                simp only []
                go_wp2_with (first | (go_at_call 34; refine (len_is C6 hm2.out).mono ?_; rintro e w1 ⟨rfl, rfl⟩; simp only []) | fail)
                go_roundw
                case rel => exact ⟨k + 1, n + 1, v3, D3, L2, _, _, by omega, by go_num, rfl, rfl, hv4, hi4, C6, hL2.out, by omega, qh6, B6⟩
                case measure => simp [intOf]; omega
              · have hv4 : Hid (verd L2 h = false) := hV
                have hi4 : Hid (isIn L2 h = false) := hI
                clear hV hI
                go_wp2_with (first | (refine wpList_load_mid rfl 48 (.tmp 109) rfl (xp) 1 rfl (cs x.h) _ (cx1) hu rfl (sizeOfHash X) ?_) | (refine wpList_load_mid rfl 48 (.tmp 5) rfl (hp) 0 rfl (cs h) _ (rh) hu rfl (sizeOfHash H) ?_) | fail)
                refine (get_is C4 h H hv4.out hi4.out).mono ?_
                rintro e Wg ⟨rfl, hbg⟩
                have C5 := C4.below hbg
                have qh5 := stays2 hbg hqhx.out
                have B5 := BQ.trans (hbg.mono (by omega))
                have szg := hbg.size
                have qh5 : Hid _ := qh5
                clear hbg rh rg cx1 cx2
                simp only []
                go_wp2_with (first | (go_at_call 34; refine (len_is C5 hm2.out).mono ?_; rintro e w1 ⟨rfl, rfl⟩; simp only []) | fail)
                refine (known_is C5 hm2.out (by have := hL2z; omega)).mono ?_
                rintro e Wk ⟨ak, capk, rfl, _, hbk⟩
                have C6 := C5.below hbk
                have qh6 := stays2 hbk qh5.out
                have B6 := B5.trans (hbk.mono (by omega))
                have qh6 : Hid _ := qh6
                clear hbk
                simp only []
                go_wp2_with (first | (go_at_call 34; refine (len_is C6 hm2.out).mono ?_; rintro e w1 ⟨rfl, rfl⟩; simp only []) | fail)
                go_roundw
                case rel => exact ⟨k + 1, n + 1, v3, D3, L2, _, _, by omega, by go_num, rfl, rfl, hv4, hi4, C6, hL2.out, by omega, qh6, B6⟩
                case measure => simp [intOf]; omega
            · cases gh
              · have hv4 : Hid (verd L2 h = x.is) := hV
                have hi4 : Hid (isIn L2 h = true) := hI
                clear hV hI
                go_wp2_with (first | (refine wpList_load_mid rfl 48 (.tmp 109) rfl (xp) 1 rfl (cs x.h) _ (cx1) hu rfl (sizeOfHash X) ?_) | (refine wpList_load_mid rfl 48 (.tmp 5) rfl (hp) 0 rfl (cs h) _ (rh) hu rfl (sizeOfHash H) ?_) | fail)
                refine (get_is C4 h H hv4.out hi4.out).mono ?_
                rintro e Wg ⟨rfl, hbg⟩
                have C5 := C4.below hbg
                have qh5 := stays2 hbg hqhx.out
                have B5 := BQ.trans (hbg.mono (by omega))
                have szg := hbg.size
                have qh5 : Hid _ := qh5
                clear hbg rh rg cx1 cx2
                simp only []
                go_wp2_with (first | (go_at_call 34; refine (len_is C5 hm2.out).mono ?_; rintro e w1 ⟨rfl, rfl⟩; simp only []) | fail)
                refine (known_is C5 hm2.out (by have := hL2z; omega)).mono ?_
                rintro e Wk ⟨ak, capk, rfl, _, hbk⟩
                have C6 := C5.below hbk
                have qh6 := stays2 hbk qh5.out
                have B6 := B5.trans (hbk.mono (by omega))
                have qh6 : Hid _ := qh6
                clear hbk
                simp only []
                go_wp2_with (first | (go_at_call 34; refine (len_is C6 hm2.out).mono ?_; rintro e w1 ⟨rfl, rfl⟩; simp only []) | fail)
                go_roundw
                case rel => exact ⟨k + 1, n + 1, v3, D3, L2, _, _, by omega, by go_num, rfl, rfl, hv4, hi4, C6, hL2.out, by omega, qh6, B6⟩
                case measure => simp [intOf]; omega
              · have hv4 : Hid (verd L2 h = x.is) := hV
                have hi4 : Hid (isIn L2 h = true) := hI
                clear hV hI
                go_wp2_with (first | (refine wpList_load_mid rfl 48 (.tmp 109) rfl (xp) 1 rfl (cs x.h) _ (cx1) hu rfl (sizeOfHash X) ?_) | (refine wpList_load_mid rfl 48 (.tmp 5) rfl (hp) 0 rfl (cs h) _ (rh) hu rfl (sizeOfHash H) ?_) | fail)
                refine (get_is C4 h H hv4.out hi4.out).mono ?_
                rintro e Wg ⟨rfl, hbg⟩
                have C5 := C4.below hbg
                have qh5 := stays2 hbg hqhx.out
                have B5 := BQ.trans (hbg.mono (by omega))
                have szg := hbg.size
                have qh5 : Hid _ := qh5
                clear hbg rh rg cx1 cx2
                simp only []
                go_wp2_with (first | (go_at_call 34; refine (len_is C5 hm2.out).mono ?_; rintro e w1 ⟨rfl, rfl⟩; simp only []) | fail)
                refine (known_is C5 hm2.out (by have := hL2z; omega)).mono ?_
                rintro e Wk ⟨ak, capk, rfl, _, hbk⟩
                have C6 := C5.below hbk
                have qh6 := stays2 hbk qh5.out
                have B6 := B5.trans (hbk.mono (by omega))
                have qh6 : Hid _ := qh6
                clear hbk
                simp only []
                go_wp2_with (first | (go_at_call 34; refine (len_is C6 hm2.out).mono ?_; rintro e w1 ⟨rfl, rfl⟩; simp only []) | fail)
                go_roundw
                case rel => exact ⟨k + 1, n + 1, v3, D3, L2, _, _, by omega, by go_num, rfl, rfl, hv4, hi4, C6, hL2.out, by omega, qh6, B6⟩
                case measure => simp [intOf]; omega
      · have hdoB : (x.doo != 0) = true := by simpa using hdo
        go_wp2_with (first | (refine wpList_load_mid rfl 50 (.tmp 38) rfl (b) (off + k * 34) rfl (ac x) _ (rx) hua rfl (sizeOfAct X) ?_) | (refine wpList_store_to rfl 50 (.tmp 12) (.tmp 39) rfl xp (by rw [← exp]; rfl) _ rfl hsx ?_))
        go_roundw
        case rel => exact ⟨k + 1, n, v, D, L, _, _, by omega, by go_num, rfl, rfl, hiv, htv, C1, hL, by omega, hqhx, BX⟩
        case measure => simp [intOf]; omega
    · obtain rfl : k = len := by omega
      go_wp2_with fail
      go_returns
      exact ⟨rfl, by rw [ehpX.out]; exact hB⟩
end Go.Proofs.Ytecmhkkjobflcaa.Ver
