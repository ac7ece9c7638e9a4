/- WindowLeast returns true for every list of steps, and changes nothing that was there. No condition. -/
import Derived.Test.YtaoelppkognakaaRow
import Derived.Test.YtaoelppkognakaaWinAwake
import Derived.Test.YtaoelppkognakaaWindowTells
import Derived.Deep.DeepCutAuto
namespace Go.Proofs.Ytaoelppkognakaa.WinLeast
open Go.RowKit Go.Proofs.Ytaoelppkognakaa.Num Go.Proofs.Ytaoelppkognakaa.Slot Go.Proofs.Ytaoelppkognakaa.RefRing Go.Proofs.Ytaoelppkognakaa.Wd Go.Proofs.Ytaoelppkognakaa.RingU Go.Proofs.Ytaoelppkognakaa.Window Go.Proofs.Ytaoelppkognakaa.Counted
set_option linter.unusedVariables false
set_option linter.unusedSimpArgs false
set_option maxRecDepth 100000
attribute [local go_sem] size_put cell_put_same cell_put_other frozen_put_same frozen_put_other setCell_put_same setCell_put_other setCell_drewN alloc_drewN put_drewN put_drew
theorem lt_heap {v : World} {p : Nat} {O : Obj} (h : v.heap[p]? = some O) : p < v.heap.size := by
  rcases Nat.lt_or_ge p v.heap.size with h' | h'
  · exact h'
  · rw [Array.getElem?_eq_none h'] at h; cases h
theorem growB {B : Nat} {a w w' : World} {g n cap : Nat} (h : Below B a w) (hg : w.grownBy w' (Value.ownBlock (.slice (some ⟨g, 0, none⟩) n cap))) (hB : B ≤ w.heap.size) (hr : B ≤ g) : Below B a w' :=
  h.grown hg hB (fun j hj => by have : g = j := by simpa [Value.ownBlock] using hj
                                omega)
theorem news1 {w : World} {p : Nat} {s : Int} {t : TypeId} (hp : w.heap.size = p) : ∀ j u, [Value.int .u32 s][j]? = some u → (w.alloc (.cells #[.int .u32 s] t)).drew.cell? ((⟨p, 0, none⟩ : Addr).add j) = some u := by
  have h := World.news_of_block (w := w.alloc (.cells #[.int .u32 s] t)) (B := p) (cs := #[.int .u32 s]) (t := t) (fr := (0, 0)) (heap_alloc_at _ _ _ hp.symm)
  exact h
theorem pwstays {v : World} {pw q : Nat} {O : Obj} {A B : Array Value} {T t : TypeId} (ne : ¬ pw = q) (h : v.heap[pw]? = some O) : ((put v q A T).alloc (.cells B t)).drew.heap[pw]? = some O := by
  show ((put v q A T).alloc (.cells B t)).heap[pw]? = some O
  have hlt : pw < v.heap.size := by
    rcases Nat.lt_or_ge pw v.heap.size with h' | h'
    · exact h'
    · rw [Array.getElem?_eq_none h'] at h; cases h
  rw [heap_alloc_lt _ _ _ (by simp [size_put]; exact hlt)]
  exact (heap_put_other _ _ _ _ ne).trans h
theorem keepG {v v' : World} {a : Nat} {row : Option Nat} {m l c0 c1 c2 c3 : Int} (hg : v.grownBy v' row) (h : v.cell? ⟨a, 0, none⟩ = some (.int .u32 m) ∧ v.cell? ⟨a, 1, none⟩ = some (.int .u32 l) ∧ v.cell? ⟨a, 2, none⟩ = some (.int .u32 c0) ∧ v.cell? ⟨a, 3, none⟩ = some (.int .u32 c1) ∧ v.cell? ⟨a, 4, none⟩ = some (.int .u32 c2) ∧ v.cell? ⟨a, 5, none⟩ = some (.int .u32 c3)) (ne : some a ≠ row) : v'.cell? ⟨a, 0, none⟩ = some (.int .u32 m) ∧ v'.cell? ⟨a, 1, none⟩ = some (.int .u32 l) ∧ v'.cell? ⟨a, 2, none⟩ = some (.int .u32 c0) ∧ v'.cell? ⟨a, 3, none⟩ = some (.int .u32 c1) ∧ v'.cell? ⟨a, 4, none⟩ = some (.int .u32 c2) ∧ v'.cell? ⟨a, 5, none⟩ = some (.int .u32 c3) :=
  ⟨hg.cell h.1 ne, hg.cell h.2.1 ne, hg.cell h.2.2.1 ne, hg.cell h.2.2.2.1 ne, hg.cell h.2.2.2.2.1 ne, hg.cell h.2.2.2.2.2 ne⟩
theorem keepP {v : World} {a b : Nat} {cs : Array Value} {t : TypeId} {m l c0 c1 c2 c3 : Int} (h : v.cell? ⟨a, 0, none⟩ = some (.int .u32 m) ∧ v.cell? ⟨a, 1, none⟩ = some (.int .u32 l) ∧ v.cell? ⟨a, 2, none⟩ = some (.int .u32 c0) ∧ v.cell? ⟨a, 3, none⟩ = some (.int .u32 c1) ∧ v.cell? ⟨a, 4, none⟩ = some (.int .u32 c2) ∧ v.cell? ⟨a, 5, none⟩ = some (.int .u32 c3)) (ne : ¬ a = b) : (put v b cs t).cell? ⟨a, 0, none⟩ = some (.int .u32 m) ∧ (put v b cs t).cell? ⟨a, 1, none⟩ = some (.int .u32 l) ∧ (put v b cs t).cell? ⟨a, 2, none⟩ = some (.int .u32 c0) ∧ (put v b cs t).cell? ⟨a, 3, none⟩ = some (.int .u32 c1) ∧ (put v b cs t).cell? ⟨a, 4, none⟩ = some (.int .u32 c2) ∧ (put v b cs t).cell? ⟨a, 5, none⟩ = some (.int .u32 c3) := by
  simp only [cell_put_other _ _ _ _ ne]; exact h
theorem count7_is (g len gc : Nat) (zs : List Int) (sub qq : Int) (hz : zs.length = len) (s0 : 0 ≤ sub) (s1 : sub < 4294967296) (hl : len ≤ 201) (hb : ∀ j, j < zs.length → 0 ≤ zs[j]?.getD 0 ∧ zs[j]?.getD 0 < 4294967296) (hq : Hid (s7 zs sub 4 = qq))
    (w : World) (hc : ∀ j, j < zs.length → w.cell? ⟨g, j, none⟩ = some (.int .u32 (zs[j]?.getD 0))) :
    Calls Try.prog 51 #[.slice (some ⟨g, 0, none⟩) len gc, .int .u32 sub] w fun e w' => e = .returned (.int .u32 qq) ∧ w' = w := by
  rw [← hq.out, ← hz]; exact count7_c g gc zs sub s0 s1 (by omega) hb w hc

theorem later_is (n b s e : Int) (h0 : 0 ≤ n) (h1 : n < 4294967296) (b0 : 0 ≤ b) (b1 : b < 4294967296) (hs : Hid (fit (n + b) = s)) (he : Hid (over (n + b) = e)) (w : World) :
    Calls Try.prog 17 #[.int .u32 n, .int .u32 b] w fun e' w' => e' = .returned (.tuple #[.int .u32 s, .int .i64 e]) ∧ w' = w := by
  rw [← hs.out, ← he.out]; exact RefSlot.refLater_c n b h0 h1 b0 b1 w

set_option maxHeartbeats 8000000 in
theorem windowLeast_yes (b off len cap : Nat) (xs : List Int) (w : World) (hz : len ≤ 200) (hb : b < w.heap.size) (hx : ∀ j, j < len → 0 ≤ xs[j]?.getD 0 ∧ xs[j]?.getD 0 < 4294967296) (hc : ∀ j, j < len → w.cell? ⟨b, off + j, none⟩ = some (.int .u32 (xs[j]?.getD 0))) :
    Calls Try.prog 11 #[.slice (some ⟨b, off, none⟩) len cap] w fun e w' => e = .returned (.bool true) ∧ Below w.heap.size w w' := by
  obtain ⟨i0, hi, hz0, hz1, hz2⟩ := info_parts info_u32
  go_enter Try.func11, Try.ntmps11
  go_wp2_with fail
  refine (awake7_c _).mono ?_
  rintro e v1 ⟨rfl, h1⟩
  simp only []
  go_wp2_with fail
  refine (Window.genesis_c _).mono ?_
  rintro e v2 ⟨rfl, h2⟩
  have h2 := h1.trans (h2.mono h1.size)
  clear h1
  obtain ⟨pw, ep⟩ : ∃ p, v2.heap.size = p := ⟨_, rfl⟩
  have zp : w.heap.size ≤ pw := by have := h2.size; omega
  simp only []
  go_wp2_with fail
  go_loopw [4, 5, 22] (fun lv wv i wr => ∃ (k n g gc : Nat) (zs : List Int) (last m l c0 c1 c2 c3 : Int), k ≤ len ∧ i = .int .i64 k ∧ lv = .slice (some ⟨g, 0, none⟩) (n + 1) gc ∧ wv = .int .u32 m ∧ n ≤ k ∧ zs.length = n + 1 ∧ Hid (zs[n]? = some last) ∧ Hist zs last ∧ Hid (l = last / 3) ∧ Cnts zs l c0 c1 c2 c3 ∧ Hid (m ≤ 12) ∧
      wr.heap[pw]? = some (.cells #[.int .u32 m, .int .u32 l, .int .u32 c0, .int .u32 c1, .int .u32 c2, .int .u32 c3] 55) ∧ wr.ownsRow (pw + 1) 22 1 (.slice (some ⟨g, 0, none⟩) (n + 1) gc) (n + 1) (zs.map (.int .u32)) ∧ Below w.heap.size w wr)
    (fun _ _ i _ => len - (intOf i).toNat)
  case atStart =>
    refine ⟨0, 0, pw + 1, 1, [0], 0, 12, 0, 1, 3, 3, 3, Nat.zero_le _, rfl, rfl, rfl, Nat.le_refl _, rfl, rfl, hist_start, rfl, cnts_start, (by decide : (12 : Int) ≤ 12), ?_, ?_, ?_⟩
    · exact (heap_alloc_lt _ _ _ (by simp; omega)).trans (heap_alloc_at _ _ _ ep.symm)
    · have := World.ownsRow_lit (base := pw + 1) (e := 22) (size := 1) (v2.alloc (.cells #[.int .u32 12, .int .u32 0, .int .u32 1, .int .u32 3, .int .u32 3, .int .u32 3] 55)) #[.int .u32 0] 1 (by simp; omega) (by decide) rfl
      simpa [ep] using this
    · exact (h2.alloc (by omega) _).alloc (by simp; omega) _
  case round =>
    obtain ⟨k, n, g, gc, zs, last, m, l, c0, c1, c2, c3, hk, rfl, rfl, rfl, hnk, hzl, hlast, HH, hl, CC, hm12, hw, hown, hB⟩ := hrel
    have hgl := own_lt hown
    have hpw : pw < wr.heap.size := by omega
    by_cases hkl : k < len
    · have hcx : wr.cell? ⟨b, off + k, none⟩ = some (.int .u32 (xs[k]?.getD 0)) := (hB.cell (by exact hb)).trans (hc k hkl)
      obtain ⟨x0, x1⟩ := hx k hkl
      have hlc : wr.cell? ⟨g, n, none⟩ = some (.int .u32 last) := by rw [own_cell hown hzl n (by omega), hlast.out]; rfl
      have hcells : Hid (∀ j, j < zs.length → wr.cell? ⟨g, j, none⟩ = some (.int .u32 (zs[j]?.getD 0))) := fun j hj => own_cell hown hzl j (by omega)
      clear hc hx ep h2
      generalize xs[k]?.getD 0 = x at *
      have L0 := HH.l0
      have L1 := HH.l1
      by_cases hov : last + x < 4294967296
      · by_cases hx0 : x = 0
        · subst hx0
          go_wp2_with (go_at_call 17; refine (later_is last 0 (last + 0) 0 L0 L1 x0 x1 (by show fit _ = _; unfold fit; omega) (by show over _ = _; unfold over; omega) _).mono ?_; rintro e w1 ⟨rfl, hw1⟩; have hw1 := hw1.symm; subst hw1; simp only [])
          go_roundw
          case rel => exact ⟨k + 1, n, g, gc, zs, last, m, l, c0, c1, c2, c3, by omega, by go_num, rfl, rfl, by omega, hzl, hlast, HH, hl, CC, hm12, hw, hown, hB⟩
          case measure => simp [intOf]; omega
        · have hls : last < last + x := by omega
          have hfs0 : fit (last + x) = last + x := by unfold fit; omega
          have hos0 : over (last + x) = 0 := by unfold over; omega
          obtain ⟨s, hs⟩ : ∃ s, last + x = s := ⟨_, rfl⟩
          have hfs : Hid (fit (last + x) = s) := hfs0.trans hs
          have hos : Hid (over (last + x) = 0) := hos0
          rw [hs] at hls hov
          clear hfs0 hos0 hs
          have S0 : 0 ≤ s := by omega
          have S1 := hov
          obtain ⟨⟨b0, d0⟩, ⟨b1, d1⟩, ⟨b2, d2⟩, ⟨b3, d3⟩⟩ := cnts_bd HH CC
          have l0 : 0 ≤ l := by have := hl.out; omega
          have hye : Hid (pE l c0 c1 c2 c3 (s / 3) = 0) := put_ok HH hl.out CC hls
          have hM := relV_is (m := m) (s := s) HH hl.out CC
          obtain ⟨e1, C'⟩ := cnts_step HH hl.out CC hls
          have H' := hist_step HH hls S1
          obtain ⟨y, hy⟩ : ∃ y, pL l c0 c1 c2 c3 (s / 3) = y := ⟨_, rfl⟩
          obtain ⟨y0, hy0⟩ : ∃ y, pC l c0 c1 c2 c3 (s / 3) 0 c0 = y := ⟨_, rfl⟩
          obtain ⟨y1, hy1⟩ : ∃ y, pC l c0 c1 c2 c3 (s / 3) 1 c1 = y := ⟨_, rfl⟩
          obtain ⟨y2, hy2⟩ : ∃ y, pC l c0 c1 c2 c3 (s / 3) 2 c2 = y := ⟨_, rfl⟩
          obtain ⟨y3, hy3⟩ : ∃ y, pC l c0 c1 c2 c3 (s / 3) 3 c3 = y := ⟨_, rfl⟩
          rw [hy0, hy1, hy2, hy3] at C'
          rw [hy] at e1
          have hys : Hid (y = s / 3) := e1
          rw [← e1] at C'
          have hR := cnts_right H' e1 C'
          obtain ⟨⟨z0, z1⟩, ⟨z2, z3⟩, ⟨z4, z5⟩, ⟨z6, z7⟩⟩ := cnts_bd H' C'
          have yl0 : 0 ≤ y := by omega
          have yl1 : y < 4294967296 := by omega
          have hy : Hid _ := hy
          have hy0 : Hid _ := hy0
          have hy1 : Hid _ := hy1
          have hy2 : Hid _ := hy2
          have hy3 : Hid _ := hy3
          clear e1
          have hput0 : putM m l c0 c1 c2 c3 s = relV m l c0 c1 c2 c3 s := by unfold putM; rw [hye.out]; rfl
          obtain ⟨a0, a1, a2, a3, a4, a5⟩ := six hw
          have hm12' := hm12
          by_cases hq : 12 ≤ s ∧ last / 3 < s / 3
          · rw [if_pos hq] at hM
            obtain ⟨qq, hqq0⟩ : ∃ qq, s7 zs (s / 3) 4 = qq := ⟨_, rfl⟩
            have hqq : Hid (s7 zs (s / 3) 4 = qq) := hqq0
            rw [hqq0] at hM
            clear hqq0
            obtain ⟨hq1, hq2⟩ := hq
            by_cases hlt : qq < m
            · rw [if_pos hlt] at hM
              have hput : Hid (putM m l c0 c1 c2 c3 s = qq) := hput0.trans hM
              have hm12' : Hid (qq ≤ 12) := by have := hm12.out; show qq ≤ 12; omega
              have hright : Hid (wrightB qq y y0 y1 y2 y3 = true) := by show wrightB _ _ _ _ _ _ = true; unfold wrightB; rw [hR, decide_eq_true hm12'.out]; rfl
              clear hput0 hM hR
              go_wp2_with (first | (go_at_call 17; refine (later_is last x s 0 L0 L1 x0 x1 hfs hos _).mono ?_; rintro e w1 ⟨rfl, hw1⟩; have hw1 := hw1.symm; subst hw1; simp only []) | (go_at_call 25; refine (RefSlot.refSub_c s S0 S1 _).mono ?_; rintro e w1 ⟨rfl, hw1⟩; have hw1 := hw1.symm; subst hw1; simp only []) | (go_at_call 25; refine (RefSlot.refSub_c last L0 L1 _).mono ?_; rintro e w1 ⟨rfl, hw1⟩; have hw1 := hw1.symm; subst hw1; simp only []) | (go_at_call 51; refine (count7_is g (n + 1) gc zs (s / 3) qq hzl (by omega) (by omega) (by omega) HH.bd hqq _ hcells.out).mono ?_; rintro e w1 ⟨rfl, hw1⟩; have hw1 := hw1.symm; subst hw1; simp only []))
              refine (wput_is m l c0 c1 c2 c3 s qq y y0 y1 y2 y3 0 l0 b0 d0 b1 d1 b2 d2 b3 d3 S0 S1 hput hy hy0 hy1 hy2 hy3 hye _).mono ?_
              rintro e x' ⟨rfl, hx'⟩
              obtain ⟨q, eq⟩ : ∃ q, x'.heap.size = q := ⟨_, rfl⟩
              have hqw : wr.heap.size ≤ q := by have := hx'.size; omega
              simp only []
              go_wp2_with fail
              refine (WinTells.wright_is qq y y0 y1 y2 y3 yl0 yl1 (by omega) (by omega) (by omega) (by omega) (by omega) (by omega) (by omega) (by omega) hright _).mono ?_
              rintro e x2 ⟨rfl, hb2⟩
              obtain ⟨v3, rfl, u3, h3⟩ := new0 hb2 hx' eq
              clear hb2 hx' eq
              have hown3 := own_below hown h3
              have hw3 := stays h3 hw hpw
              have g3 := own_lt hown3
              obtain ⟨rr, err⟩ : ∃ rr, v3.heap.size = rr := ⟨_, rfl⟩
              have nqp : ¬ q = pw := by omega
              have npq : ¬ pw = q := by omega
              have nqg : some q ≠ some g := by intro h; cases h; omega
              have npg : some pw ≠ some g := by intro h; cases h; omega
              clear a0 a1 a2 a3 a4 a5 hcx hlc
              simp only []
              go_wp2_with fail
              go_region_held3 (fun wz => wz.cell? ⟨q, 0, none⟩ = some (.int .u32 qq) ∧ wz.cell? ⟨q, 1, none⟩ = some (.int .u32 y) ∧ wz.cell? ⟨q, 2, none⟩ = some (.int .u32 y0) ∧ wz.cell? ⟨q, 3, none⟩ = some (.int .u32 y1) ∧ wz.cell? ⟨q, 4, none⟩ = some (.int .u32 y2) ∧ wz.cell? ⟨q, 5, none⟩ = some (.int .u32 y3)) (first | with_reducible exact Window.keepD (WinTells.cells1w u3) | with_reducible exact Window.keepD (Window.keepA (WinTells.cells1w u3)) | with_reducible exact keepP hS nqp | with_reducible assumption)
                (first | (refine step_append_lies _ rfl (.tmp 79) (.tmp 81) 50 rfl (pw + 1) 22 i0 (.int .u32 0) 1 4 Try.underlying50 hi hz0 hz1 hz2 rfl (by decide) (.slice (some ⟨g, 0, none⟩) (n + 1) gc) (n + 1) (zs.map (.int .u32)) rfl ((own_put hown3 (by omega)).alloc _).drew ⟨rr, 0, none⟩ 1 1 [.int .u32 s] rfl rfl (news1 (by simp [size_put, err])) (by intro u hu; simp at hu; subst hu; rfl) (by decide) (by unfold maxLen; omega) (by omega) (by simp [size_put]; omega) (rr + 1) (by simp [size_put, err]) ?_; intro g2 cap2 w1 hown2 hgrow hat hlt; have hw1 := (hgrow.block pw (by simp [size_put]; omega) npg).trans (pwstays npq hw3); have hpw1 := lt_heap hw1; have hS := keepG hgrow (Window.keepD (Window.keepA (WinTells.cells1w u3))) nqg; rw [← put_self w1 pw _ _ hw1]))
              all_goals
                go_wp2_with fail
                go_roundw
                case rel =>
                  have g4 := own_lt hown2
                  refine ⟨k + 1, n + 1, g2, cap2, zs ++ [s], s, qq, y, y0, y1, y2, y3, by omega, by go_num, rfl, rfl, by omega, by rw [List.length_append, hzl]; rfl, ?_, H', hys, C', hm12', heap_put_same _ _ _ _ hpw1, ?_, ?_⟩
                  · show (zs ++ [s])[n + 1]? = some s
                    rw [← hzl]; simp
                  · rw [List.map_append]; exact own_put hown2 (by omega)
                  · refine below_put _ _ _ _ ?_ zp
                    refine growB ?_ hgrow (by simp [size_put]; omega) (by omega)
                    refine Below.drew ?_
                    refine Below.alloc ?_ (by simp [size_put]; omega) _
                    refine below_put _ _ _ _ ?_ (by omega)
                    exact hB.trans (h3.mono (by omega))
                case measure => simp [intOf]; omega
            · rw [if_neg hlt] at hM
              have hput : Hid (putM m l c0 c1 c2 c3 s = m) := hput0.trans hM
              have hright : Hid (wrightB m y y0 y1 y2 y3 = true) := by show wrightB _ _ _ _ _ _ = true; unfold wrightB; rw [hR, decide_eq_true hm12'.out]; rfl
              clear hput0 hM hR
              go_wp2_with (first | (go_at_call 17; refine (later_is last x s 0 L0 L1 x0 x1 hfs hos _).mono ?_; rintro e w1 ⟨rfl, hw1⟩; have hw1 := hw1.symm; subst hw1; simp only []) | (go_at_call 25; refine (RefSlot.refSub_c s S0 S1 _).mono ?_; rintro e w1 ⟨rfl, hw1⟩; have hw1 := hw1.symm; subst hw1; simp only []) | (go_at_call 25; refine (RefSlot.refSub_c last L0 L1 _).mono ?_; rintro e w1 ⟨rfl, hw1⟩; have hw1 := hw1.symm; subst hw1; simp only []) | (go_at_call 51; refine (count7_is g (n + 1) gc zs (s / 3) qq hzl (by omega) (by omega) (by omega) HH.bd hqq _ hcells.out).mono ?_; rintro e w1 ⟨rfl, hw1⟩; have hw1 := hw1.symm; subst hw1; simp only []))
              refine (wput_is m l c0 c1 c2 c3 s m y y0 y1 y2 y3 0 l0 b0 d0 b1 d1 b2 d2 b3 d3 S0 S1 hput hy hy0 hy1 hy2 hy3 hye _).mono ?_
              rintro e x' ⟨rfl, hx'⟩
              obtain ⟨q, eq⟩ : ∃ q, x'.heap.size = q := ⟨_, rfl⟩
              have hqw : wr.heap.size ≤ q := by have := hx'.size; omega
              simp only []
              go_wp2_with fail
              refine (WinTells.wright_is m y y0 y1 y2 y3 yl0 yl1 (by omega) (by omega) (by omega) (by omega) (by omega) (by omega) (by omega) (by omega) hright _).mono ?_
              rintro e x2 ⟨rfl, hb2⟩
              obtain ⟨v3, rfl, u3, h3⟩ := new0 hb2 hx' eq
              clear hb2 hx' eq
              have hown3 := own_below hown h3
              have hw3 := stays h3 hw hpw
              have g3 := own_lt hown3
              obtain ⟨rr, err⟩ : ∃ rr, v3.heap.size = rr := ⟨_, rfl⟩
              have nqp : ¬ q = pw := by omega
              have npq : ¬ pw = q := by omega
              have nqg : some q ≠ some g := by intro h; cases h; omega
              have npg : some pw ≠ some g := by intro h; cases h; omega
              clear a0 a1 a2 a3 a4 a5 hcx hlc
              simp only []
              go_wp2_with fail
              go_region_held3 (fun wz => wz.cell? ⟨q, 0, none⟩ = some (.int .u32 m) ∧ wz.cell? ⟨q, 1, none⟩ = some (.int .u32 y) ∧ wz.cell? ⟨q, 2, none⟩ = some (.int .u32 y0) ∧ wz.cell? ⟨q, 3, none⟩ = some (.int .u32 y1) ∧ wz.cell? ⟨q, 4, none⟩ = some (.int .u32 y2) ∧ wz.cell? ⟨q, 5, none⟩ = some (.int .u32 y3)) (first | with_reducible exact Window.keepD (WinTells.cells1w u3) | with_reducible exact Window.keepD (Window.keepA (WinTells.cells1w u3)) | with_reducible exact keepP hS nqp | with_reducible assumption)
                (first | (refine step_append_lies _ rfl (.tmp 79) (.tmp 81) 50 rfl (pw + 1) 22 i0 (.int .u32 0) 1 4 Try.underlying50 hi hz0 hz1 hz2 rfl (by decide) (.slice (some ⟨g, 0, none⟩) (n + 1) gc) (n + 1) (zs.map (.int .u32)) rfl ((own_put hown3 (by omega)).alloc _).drew ⟨rr, 0, none⟩ 1 1 [.int .u32 s] rfl rfl (news1 (by simp [size_put, err])) (by intro u hu; simp at hu; subst hu; rfl) (by decide) (by unfold maxLen; omega) (by omega) (by simp [size_put]; omega) (rr + 1) (by simp [size_put, err]) ?_; intro g2 cap2 w1 hown2 hgrow hat hlt; have hw1 := (hgrow.block pw (by simp [size_put]; omega) npg).trans (pwstays npq hw3); have hpw1 := lt_heap hw1; have hS := keepG hgrow (Window.keepD (Window.keepA (WinTells.cells1w u3))) nqg; rw [← put_self w1 pw _ _ hw1]))
              all_goals
                go_wp2_with fail
                go_roundw
                case rel =>
                  have g4 := own_lt hown2
                  refine ⟨k + 1, n + 1, g2, cap2, zs ++ [s], s, m, y, y0, y1, y2, y3, by omega, by go_num, rfl, rfl, by omega, by rw [List.length_append, hzl]; rfl, ?_, H', hys, C', hm12', heap_put_same _ _ _ _ hpw1, ?_, ?_⟩
                  · show (zs ++ [s])[n + 1]? = some s
                    rw [← hzl]; simp
                  · rw [List.map_append]; exact own_put hown2 (by omega)
                  · refine below_put _ _ _ _ ?_ zp
                    refine growB ?_ hgrow (by simp [size_put]; omega) (by omega)
                    refine Below.drew ?_
                    refine Below.alloc ?_ (by simp [size_put]; omega) _
                    refine below_put _ _ _ _ ?_ (by omega)
                    exact hB.trans (h3.mono (by omega))
                case measure => simp [intOf]; omega
          · rw [if_neg hq] at hM
            have hput : Hid (putM m l c0 c1 c2 c3 s = m) := hput0.trans hM
            have hright : Hid (wrightB m y y0 y1 y2 y3 = true) := by show wrightB _ _ _ _ _ _ = true; unfold wrightB; rw [hR, decide_eq_true hm12'.out]; rfl
            clear hput0 hM hR
            by_cases hq1 : 12 ≤ s
            · have hq2 : ¬ last / 3 < s / 3 := fun h => hq ⟨hq1, h⟩
              clear hq
              go_wp2_with (first | (go_at_call 17; refine (later_is last x s 0 L0 L1 x0 x1 hfs hos _).mono ?_; rintro e w1 ⟨rfl, hw1⟩; have hw1 := hw1.symm; subst hw1; simp only []) | (go_at_call 25; refine (RefSlot.refSub_c s S0 S1 _).mono ?_; rintro e w1 ⟨rfl, hw1⟩; have hw1 := hw1.symm; subst hw1; simp only []) | (go_at_call 25; refine (RefSlot.refSub_c last L0 L1 _).mono ?_; rintro e w1 ⟨rfl, hw1⟩; have hw1 := hw1.symm; subst hw1; simp only []))
              refine (wput_is m l c0 c1 c2 c3 s m y y0 y1 y2 y3 0 l0 b0 d0 b1 d1 b2 d2 b3 d3 S0 S1 hput hy hy0 hy1 hy2 hy3 hye _).mono ?_
              rintro e x' ⟨rfl, hx'⟩
              obtain ⟨q, eq⟩ : ∃ q, x'.heap.size = q := ⟨_, rfl⟩
              have hqw : wr.heap.size ≤ q := by have := hx'.size; omega
              simp only []
              go_wp2_with fail
              refine (WinTells.wright_is m y y0 y1 y2 y3 yl0 yl1 (by omega) (by omega) (by omega) (by omega) (by omega) (by omega) (by omega) (by omega) hright _).mono ?_
              rintro e x2 ⟨rfl, hb2⟩
              obtain ⟨v3, rfl, u3, h3⟩ := new0 hb2 hx' eq
              clear hb2 hx' eq
              have hown3 := own_below hown h3
              have hw3 := stays h3 hw hpw
              have g3 := own_lt hown3
              obtain ⟨rr, err⟩ : ∃ rr, v3.heap.size = rr := ⟨_, rfl⟩
              have nqp : ¬ q = pw := by omega
              have npq : ¬ pw = q := by omega
              have nqg : some q ≠ some g := by intro h; cases h; omega
              have npg : some pw ≠ some g := by intro h; cases h; omega
              clear a0 a1 a2 a3 a4 a5 hcx hlc
              simp only []
              go_wp2_with fail
              go_region_held3 (fun wz => wz.cell? ⟨q, 0, none⟩ = some (.int .u32 m) ∧ wz.cell? ⟨q, 1, none⟩ = some (.int .u32 y) ∧ wz.cell? ⟨q, 2, none⟩ = some (.int .u32 y0) ∧ wz.cell? ⟨q, 3, none⟩ = some (.int .u32 y1) ∧ wz.cell? ⟨q, 4, none⟩ = some (.int .u32 y2) ∧ wz.cell? ⟨q, 5, none⟩ = some (.int .u32 y3)) (first | with_reducible exact Window.keepD (WinTells.cells1w u3) | with_reducible exact Window.keepD (Window.keepA (WinTells.cells1w u3)) | with_reducible exact keepP hS nqp | with_reducible assumption)
                (first | (refine step_append_lies _ rfl (.tmp 79) (.tmp 81) 50 rfl (pw + 1) 22 i0 (.int .u32 0) 1 4 Try.underlying50 hi hz0 hz1 hz2 rfl (by decide) (.slice (some ⟨g, 0, none⟩) (n + 1) gc) (n + 1) (zs.map (.int .u32)) rfl ((own_put hown3 (by omega)).alloc _).drew ⟨rr, 0, none⟩ 1 1 [.int .u32 s] rfl rfl (news1 (by simp [size_put, err])) (by intro u hu; simp at hu; subst hu; rfl) (by decide) (by unfold maxLen; omega) (by omega) (by simp [size_put]; omega) (rr + 1) (by simp [size_put, err]) ?_; intro g2 cap2 w1 hown2 hgrow hat hlt; have hw1 := (hgrow.block pw (by simp [size_put]; omega) npg).trans (pwstays npq hw3); have hpw1 := lt_heap hw1; have hS := keepG hgrow (Window.keepD (Window.keepA (WinTells.cells1w u3))) nqg; rw [← put_self w1 pw _ _ hw1]))
              all_goals
                go_wp2_with fail
                go_roundw
                case rel =>
                  have g4 := own_lt hown2
                  refine ⟨k + 1, n + 1, g2, cap2, zs ++ [s], s, m, y, y0, y1, y2, y3, by omega, by go_num, rfl, rfl, by omega, by rw [List.length_append, hzl]; rfl, ?_, H', hys, C', hm12', heap_put_same _ _ _ _ hpw1, ?_, ?_⟩
                  · show (zs ++ [s])[n + 1]? = some s
                    rw [← hzl]; simp
                  · rw [List.map_append]; exact own_put hown2 (by omega)
                  · refine below_put _ _ _ _ ?_ zp
                    refine growB ?_ hgrow (by simp [size_put]; omega) (by omega)
                    refine Below.drew ?_
                    refine Below.alloc ?_ (by simp [size_put]; omega) _
                    refine below_put _ _ _ _ ?_ (by omega)
                    exact hB.trans (h3.mono (by omega))
                case measure => simp [intOf]; omega
            · clear hq
              go_wp2_with (first | (go_at_call 17; refine (later_is last x s 0 L0 L1 x0 x1 hfs hos _).mono ?_; rintro e w1 ⟨rfl, hw1⟩; have hw1 := hw1.symm; subst hw1; simp only []) | (go_at_call 25; refine (RefSlot.refSub_c s S0 S1 _).mono ?_; rintro e w1 ⟨rfl, hw1⟩; have hw1 := hw1.symm; subst hw1; simp only []) | (go_at_call 25; refine (RefSlot.refSub_c last L0 L1 _).mono ?_; rintro e w1 ⟨rfl, hw1⟩; have hw1 := hw1.symm; subst hw1; simp only []))
              refine (wput_is m l c0 c1 c2 c3 s m y y0 y1 y2 y3 0 l0 b0 d0 b1 d1 b2 d2 b3 d3 S0 S1 hput hy hy0 hy1 hy2 hy3 hye _).mono ?_
              rintro e x' ⟨rfl, hx'⟩
              obtain ⟨q, eq⟩ : ∃ q, x'.heap.size = q := ⟨_, rfl⟩
              have hqw : wr.heap.size ≤ q := by have := hx'.size; omega
              simp only []
              go_wp2_with fail
              refine (WinTells.wright_is m y y0 y1 y2 y3 yl0 yl1 (by omega) (by omega) (by omega) (by omega) (by omega) (by omega) (by omega) (by omega) hright _).mono ?_
              rintro e x2 ⟨rfl, hb2⟩
              obtain ⟨v3, rfl, u3, h3⟩ := new0 hb2 hx' eq
              clear hb2 hx' eq
              have hown3 := own_below hown h3
              have hw3 := stays h3 hw hpw
              have g3 := own_lt hown3
              obtain ⟨rr, err⟩ : ∃ rr, v3.heap.size = rr := ⟨_, rfl⟩
              have nqp : ¬ q = pw := by omega
              have npq : ¬ pw = q := by omega
              have nqg : some q ≠ some g := by intro h; cases h; omega
              have npg : some pw ≠ some g := by intro h; cases h; omega
              clear a0 a1 a2 a3 a4 a5 hcx hlc
              simp only []
              go_wp2_with fail
              go_region_held3 (fun wz => wz.cell? ⟨q, 0, none⟩ = some (.int .u32 m) ∧ wz.cell? ⟨q, 1, none⟩ = some (.int .u32 y) ∧ wz.cell? ⟨q, 2, none⟩ = some (.int .u32 y0) ∧ wz.cell? ⟨q, 3, none⟩ = some (.int .u32 y1) ∧ wz.cell? ⟨q, 4, none⟩ = some (.int .u32 y2) ∧ wz.cell? ⟨q, 5, none⟩ = some (.int .u32 y3)) (first | with_reducible exact Window.keepD (WinTells.cells1w u3) | with_reducible exact Window.keepD (Window.keepA (WinTells.cells1w u3)) | with_reducible exact keepP hS nqp | with_reducible assumption)
                (first | (refine step_append_lies _ rfl (.tmp 79) (.tmp 81) 50 rfl (pw + 1) 22 i0 (.int .u32 0) 1 4 Try.underlying50 hi hz0 hz1 hz2 rfl (by decide) (.slice (some ⟨g, 0, none⟩) (n + 1) gc) (n + 1) (zs.map (.int .u32)) rfl ((own_put hown3 (by omega)).alloc _).drew ⟨rr, 0, none⟩ 1 1 [.int .u32 s] rfl rfl (news1 (by simp [size_put, err])) (by intro u hu; simp at hu; subst hu; rfl) (by decide) (by unfold maxLen; omega) (by omega) (by simp [size_put]; omega) (rr + 1) (by simp [size_put, err]) ?_; intro g2 cap2 w1 hown2 hgrow hat hlt; have hw1 := (hgrow.block pw (by simp [size_put]; omega) npg).trans (pwstays npq hw3); have hpw1 := lt_heap hw1; have hS := keepG hgrow (Window.keepD (Window.keepA (WinTells.cells1w u3))) nqg; rw [← put_self w1 pw _ _ hw1]))
              all_goals
                go_wp2_with fail
                go_roundw
                case rel =>
                  have g4 := own_lt hown2
                  refine ⟨k + 1, n + 1, g2, cap2, zs ++ [s], s, m, y, y0, y1, y2, y3, by omega, by go_num, rfl, rfl, by omega, by rw [List.length_append, hzl]; rfl, ?_, H', hys, C', hm12', heap_put_same _ _ _ _ hpw1, ?_, ?_⟩
                  · show (zs ++ [s])[n + 1]? = some s
                    rw [← hzl]; simp
                  · rw [List.map_append]; exact own_put hown2 (by omega)
                  · refine below_put _ _ _ _ ?_ zp
                    refine growB ?_ hgrow (by simp [size_put]; omega) (by omega)
                    refine Below.drew ?_
                    refine Below.alloc ?_ (by simp [size_put]; omega) _
                    refine below_put _ _ _ _ ?_ (by omega)
                    exact hB.trans (h3.mono (by omega))
                case measure => simp [intOf]; omega
      · go_wp2_with (go_at_call 17; refine (later_is last x 0 5 L0 L1 x0 x1 (by show fit _ = _; unfold fit; omega) (by show over _ = _; unfold over; omega) _).mono ?_; rintro e w1 ⟨rfl, hw1⟩; have hw1 := hw1.symm; subst hw1; simp only [])
        go_roundw
        case rel => exact ⟨k + 1, n, g, gc, zs, last, m, l, c0, c1, c2, c3, by omega, by go_num, rfl, rfl, by omega, hzl, hlast, HH, hl, CC, hm12, hw, hown, hB⟩
        case measure => simp [intOf]; omega
    · go_wp2_with fail
      go_returns
      exact ⟨rfl, hB⟩

set_option maxHeartbeats 4000000 in
theorem windowLeast_none (a : Option Addr) (cap : Nat) (w : World) :
    Calls Try.prog 11 #[.slice a 0 cap] w fun e w' => e = .returned (.bool true) ∧ Below w.heap.size w w' := by
  go_enter Try.func11, Try.ntmps11
  go_wp2_with fail
  refine (awake7_c _).mono ?_
  rintro e v1 ⟨rfl, h1⟩
  simp only []
  go_wp2_with fail
  refine (Window.genesis_c _).mono ?_
  rintro e v2 ⟨rfl, h2⟩
  have h2 := h1.trans (h2.mono h1.size)
  clear h1
  have zp : w.heap.size ≤ v2.heap.size := h2.size
  simp only []
  go_wp2_with fail
  refine wp_loop_rounds 1 ?_
  rw [rounds_succ]
  go_wp2_with fail
  go_returns
  exact ⟨rfl, by (repeat' (first | (with_reducible exact Below.refl _ _) | (with_reducible assumption) | (with_reducible refine drw ?_ _) | (with_reducible refine below_put _ _ _ _ ?_ ?_) | (with_reducible refine Below.alloc ?_ ?_ _) | (with_reducible refine Below.setCell ?_ ?_ _) | (with_reducible exact Nat.le_refl _) | (simp; done) | omega | (simp only [size_put]; omega) | (simp; omega)))⟩

set_option maxHeartbeats 4000000 in
theorem windowLeast_long (a : Option Addr) (len cap : Nat) (h : 200 < len) (w : World) :
    Calls Try.prog 11 #[.slice a len cap] w fun e w' => e = .returned (.bool true) ∧ Below w.heap.size w w' := by
  go_enter Try.func11, Try.ntmps11
  go_wp2_with fail
  refine (awake7_c _).mono ?_
  rintro e v1 ⟨rfl, h1⟩
  simp only []
  go_wp2_with fail
  go_returns
  exact ⟨rfl, h1⟩

theorem windowLeast_c (xs : List Int) (a : Option Addr) (len cap : Nat) (w : World) (h : 0 < len → ∃ b off, a = some ⟨b, off, none⟩ ∧ b < w.heap.size ∧ (∀ j, j < len → 0 ≤ xs[j]?.getD 0 ∧ xs[j]?.getD 0 < 4294967296) ∧ (∀ j, j < len → w.cell? ⟨b, off + j, none⟩ = some (.int .u32 (xs[j]?.getD 0)))) :
    Calls Try.prog 11 #[.slice a len cap] w fun e w' => e = .returned (.bool true) ∧ Below w.heap.size w w' := by
  by_cases h0 : len = 0
  · subst h0; exact windowLeast_none a cap w
  · by_cases h1 : 200 < len
    · exact windowLeast_long a len cap h1 w
    · obtain ⟨b, off, rfl, hb, hx, hc⟩ := h (by omega)
      exact windowLeast_yes b off len cap xs w (by omega) hb hx hc
end Go.Proofs.Ytaoelppkognakaa.WinLeast
