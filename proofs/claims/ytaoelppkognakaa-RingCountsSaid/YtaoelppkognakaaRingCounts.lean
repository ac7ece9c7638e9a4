/- RingCounts returns true for every list of steps and every sub-window behind, and changes nothing that was there. No condition. -/
import Derived.Test.YtaoelppkognakaaWindowLeast
import Derived.Deep.QuietTactic
import Derived.BigQuiet
namespace Go.Proofs.Ytaoelppkognakaa.RingCts
open Go.RowKit Go.Proofs.Ytaoelppkognakaa.Num Go.Proofs.Ytaoelppkognakaa.Slot Go.Proofs.Ytaoelppkognakaa.Ring Go.Proofs.Ytaoelppkognakaa.RefRing Go.Proofs.Ytaoelppkognakaa.Wd Go.Proofs.Ytaoelppkognakaa.RingU Go.Proofs.Ytaoelppkognakaa.Counted
open Go.Proofs.Ytaoelppkognakaa.WinLeast (later_is)
open Go.Proofs.Ytaoelppkognakaa.Window (put_is)
set_option linter.unusedVariables false
set_option linter.unusedSimpArgs false
set_option maxRecDepth 100000
attribute [local go_sem] size_put cell_put_same cell_put_other frozen_put_same frozen_put_other setCell_put_same setCell_put_other setCell_drewN alloc_drewN put_drewN put_drew

theorem five_put {v : World} {a : Nat} {t : TypeId} {l c0 c1 c2 c3 : Int} (h : a < v.heap.size) : (put v a #[.int .u32 l, .int .u32 c0, .int .u32 c1, .int .u32 c2, .int .u32 c3] t).cell? ⟨a, 0, none⟩ = some (.int .u32 l) ∧ (put v a #[.int .u32 l, .int .u32 c0, .int .u32 c1, .int .u32 c2, .int .u32 c3] t).cell? ⟨a, 1, none⟩ = some (.int .u32 c0) ∧ (put v a #[.int .u32 l, .int .u32 c0, .int .u32 c1, .int .u32 c2, .int .u32 c3] t).cell? ⟨a, 2, none⟩ = some (.int .u32 c1) ∧ (put v a #[.int .u32 l, .int .u32 c0, .int .u32 c1, .int .u32 c2, .int .u32 c3] t).cell? ⟨a, 3, none⟩ = some (.int .u32 c2) ∧ (put v a #[.int .u32 l, .int .u32 c0, .int .u32 c1, .int .u32 c2, .int .u32 c3] t).cell? ⟨a, 4, none⟩ = some (.int .u32 c3) := five (T := t) (heap_put_same _ _ _ _ h)
theorem k5D {v : World} {a : Nat} {l c0 c1 c2 c3 : Int} (h : v.cell? ⟨a, 0, none⟩ = some (.int .u32 l) ∧ v.cell? ⟨a, 1, none⟩ = some (.int .u32 c0) ∧ v.cell? ⟨a, 2, none⟩ = some (.int .u32 c1) ∧ v.cell? ⟨a, 3, none⟩ = some (.int .u32 c2) ∧ v.cell? ⟨a, 4, none⟩ = some (.int .u32 c3)) : v.drew.cell? ⟨a, 0, none⟩ = some (.int .u32 l) ∧ v.drew.cell? ⟨a, 1, none⟩ = some (.int .u32 c0) ∧ v.drew.cell? ⟨a, 2, none⟩ = some (.int .u32 c1) ∧ v.drew.cell? ⟨a, 3, none⟩ = some (.int .u32 c2) ∧ v.drew.cell? ⟨a, 4, none⟩ = some (.int .u32 c3) := h
theorem k5A {o : Obj} {v : World} {a : Nat} {l c0 c1 c2 c3 : Int} (h : v.cell? ⟨a, 0, none⟩ = some (.int .u32 l) ∧ v.cell? ⟨a, 1, none⟩ = some (.int .u32 c0) ∧ v.cell? ⟨a, 2, none⟩ = some (.int .u32 c1) ∧ v.cell? ⟨a, 3, none⟩ = some (.int .u32 c2) ∧ v.cell? ⟨a, 4, none⟩ = some (.int .u32 c3)) : (v.alloc o).cell? ⟨a, 0, none⟩ = some (.int .u32 l) ∧ (v.alloc o).cell? ⟨a, 1, none⟩ = some (.int .u32 c0) ∧ (v.alloc o).cell? ⟨a, 2, none⟩ = some (.int .u32 c1) ∧ (v.alloc o).cell? ⟨a, 3, none⟩ = some (.int .u32 c2) ∧ (v.alloc o).cell? ⟨a, 4, none⟩ = some (.int .u32 c3) := by
  have hs : ∀ j u, v.cell? ⟨a, j, none⟩ = some u → (v.alloc o).cell? ⟨a, j, none⟩ = some u := fun j u hu => by
    rw [World.cell?_alloc_some _ _ _ (by rw [hu]; rfl)]; exact hu
  exact ⟨hs _ _ h.1, hs _ _ h.2.1, hs _ _ h.2.2.1, hs _ _ h.2.2.2.1, hs _ _ h.2.2.2.2⟩
theorem k5B {B : Nat} {v' : World} {v : World} {a : Nat} {l c0 c1 c2 c3 : Int} (hb : Below B v v') (h : v.cell? ⟨a, 0, none⟩ = some (.int .u32 l) ∧ v.cell? ⟨a, 1, none⟩ = some (.int .u32 c0) ∧ v.cell? ⟨a, 2, none⟩ = some (.int .u32 c1) ∧ v.cell? ⟨a, 3, none⟩ = some (.int .u32 c2) ∧ v.cell? ⟨a, 4, none⟩ = some (.int .u32 c3)) (lt : a < B) : v'.cell? ⟨a, 0, none⟩ = some (.int .u32 l) ∧ v'.cell? ⟨a, 1, none⟩ = some (.int .u32 c0) ∧ v'.cell? ⟨a, 2, none⟩ = some (.int .u32 c1) ∧ v'.cell? ⟨a, 3, none⟩ = some (.int .u32 c2) ∧ v'.cell? ⟨a, 4, none⟩ = some (.int .u32 c3) :=
  ⟨(hb.cell lt).trans h.1, (hb.cell lt).trans h.2.1, (hb.cell lt).trans h.2.2.1, (hb.cell lt).trans h.2.2.2.1, (hb.cell lt).trans h.2.2.2.2⟩
theorem k5G {row : Option Nat} {v' : World} {v : World} {a : Nat} {l c0 c1 c2 c3 : Int} (hg : v.grownBy v' row) (h : v.cell? ⟨a, 0, none⟩ = some (.int .u32 l) ∧ v.cell? ⟨a, 1, none⟩ = some (.int .u32 c0) ∧ v.cell? ⟨a, 2, none⟩ = some (.int .u32 c1) ∧ v.cell? ⟨a, 3, none⟩ = some (.int .u32 c2) ∧ v.cell? ⟨a, 4, none⟩ = some (.int .u32 c3)) (ne : some a ≠ row) : v'.cell? ⟨a, 0, none⟩ = some (.int .u32 l) ∧ v'.cell? ⟨a, 1, none⟩ = some (.int .u32 c0) ∧ v'.cell? ⟨a, 2, none⟩ = some (.int .u32 c1) ∧ v'.cell? ⟨a, 3, none⟩ = some (.int .u32 c2) ∧ v'.cell? ⟨a, 4, none⟩ = some (.int .u32 c3) :=
  ⟨hg.cell h.1 ne, hg.cell h.2.1 ne, hg.cell h.2.2.1 ne, hg.cell h.2.2.2.1 ne, hg.cell h.2.2.2.2 ne⟩
theorem k5P {b : Nat} {cs : Array Value} {t : TypeId} {v : World} {a : Nat} {l c0 c1 c2 c3 : Int} (h : v.cell? ⟨a, 0, none⟩ = some (.int .u32 l) ∧ v.cell? ⟨a, 1, none⟩ = some (.int .u32 c0) ∧ v.cell? ⟨a, 2, none⟩ = some (.int .u32 c1) ∧ v.cell? ⟨a, 3, none⟩ = some (.int .u32 c2) ∧ v.cell? ⟨a, 4, none⟩ = some (.int .u32 c3)) (ne : ¬ a = b) : (put v b cs t).cell? ⟨a, 0, none⟩ = some (.int .u32 l) ∧ (put v b cs t).cell? ⟨a, 1, none⟩ = some (.int .u32 c0) ∧ (put v b cs t).cell? ⟨a, 2, none⟩ = some (.int .u32 c1) ∧ (put v b cs t).cell? ⟨a, 3, none⟩ = some (.int .u32 c2) ∧ (put v b cs t).cell? ⟨a, 4, none⟩ = some (.int .u32 c3) := by
  simp only [cell_put_other _ _ _ _ ne]; exact h
theorem count6_is (g len gc : Nat) (zs : List Int) (sub v : Int) (hz : zs.length = len) (s1 : sub < 4294967296) (hl : len ≤ 201) (hb : ∀ j, j < zs.length → 0 ≤ zs[j]?.getD 0 ∧ zs[j]?.getD 0 < 4294967296) (hq : Hid (c6 zs sub = v))
    (w : World) (hc : ∀ j, j < zs.length → w.cell? ⟨g, j, none⟩ = some (.int .u32 (zs[j]?.getD 0))) :
    Calls Try.prog 40 #[.slice (some ⟨g, 0, none⟩) len gc, .int .i64 sub] w fun e w' => e = .returned (.int .u32 v) ∧ w' = w := by
  rw [← hq.out, ← hz]; exact count6_c g gc zs sub s1 (by omega) hb w hc
def sum6 (zs : List Int) (sub : Int) : Nat → Int
  | 0 => 0
  | j + 1 => sum6 zs sub j + c6 zs (sub - (j + 1))
theorem sum6_bd {zs : List Int} {last : Int} (h : Hist zs last) (sub : Int) (j : Nat) : 0 ≤ sum6 zs sub j ∧ sum6 zs sub j ≤ 3 * j := by
  induction j with
  | zero => simp [sum6]
  | succ j ih =>
    have := c6_le h (sub - (j + 1))
    unfold sum6; omega
theorem sum6_is {zs : List Int} {sub : Int} : sum6 zs sub 4 = c6 zs (sub - 1) + c6 zs (sub - 2) + c6 zs (sub - 3) + c6 zs (sub - 4) := by
  unfold sum6 sum6 sum6 sum6 sum6
  rw [show sub - (((0 : Nat) : Int) + 1) = sub - 1 from by omega, show sub - (((1 : Nat) : Int) + 1) = sub - 2 from by omega, show sub - (((2 : Nat) : Int) + 1) = sub - 3 from by omega, show sub - (((3 : Nat) : Int) + 1) = sub - 4 from by omega]
  omega

set_option maxHeartbeats 8000000 in
theorem ringCounts_yes (a : Option Addr) (len cap : Nat) (xs : List Int) (ah : Int) (w : World) (ha0 : 0 ≤ ah) (ha1 : ah < 4294967296) (hz : len ≤ 200) (h : 0 < len → ∃ b off, a = some ⟨b, off, none⟩ ∧ b < w.heap.size ∧ (∀ j, j < len → 0 ≤ xs[j]?.getD 0 ∧ xs[j]?.getD 0 < 4294967296) ∧ (∀ j, j < len → w.cell? ⟨b, off + j, none⟩ = some (.int .u32 (xs[j]?.getD 0)))) :
    Calls Try.prog 7 #[.slice a len cap, .int .u32 ah] w fun e w' => e = .returned (.bool true) ∧ Below w.heap.size w w' := by
  obtain ⟨i0, hi, hz0, hz1, hz2⟩ := info_parts info_u32
  go_enter Try.func7, Try.ntmps7
  go_wp2_with fail
  refine (awake_c _).mono ?_
  rintro e v1 ⟨rfl, h1⟩
  simp only []
  go_wp2_with fail
  refine (Ring.genesis_c _).mono ?_
  rintro e v2 ⟨rfl, h2⟩
  have h2 := h1.trans (h2.mono h1.size)
  clear h1
  obtain ⟨pr, ep⟩ : ∃ p, v2.heap.size = p := ⟨_, rfl⟩
  have zp : w.heap.size ≤ pr := by have := h2.size; omega
  simp only []
  go_wp2_with fail
  go_loopw [6, 30] (fun lv i wr => ∃ (k n g gc : Nat) (zs : List Int) (last l c0 c1 c2 c3 : Int), k ≤ len ∧ i = .int .i64 k ∧ lv = .slice (some ⟨g, 0, none⟩) (n + 1) gc ∧ n ≤ k ∧ zs.length = n + 1 ∧ Hid (zs[n]? = some last) ∧ Hist zs last ∧ Hid (l = last / 3) ∧ Cnts zs l c0 c1 c2 c3 ∧
      wr.heap[pr]? = some (.cells #[.int .u32 l, .int .u32 c0, .int .u32 c1, .int .u32 c2, .int .u32 c3] 35) ∧ wr.ownsRow (pr + 1) 22 1 (.slice (some ⟨g, 0, none⟩) (n + 1) gc) (n + 1) (zs.map (.int .u32)) ∧ Below w.heap.size w wr)
    (fun _ i _ => len - (intOf i).toNat)
  case atStart =>
    refine ⟨0, 0, pr + 1, 1, [0], 0, 0, 1, 3, 3, 3, Nat.zero_le _, rfl, rfl, Nat.le_refl _, rfl, rfl, hist_start, rfl, cnts_start, ?_, ?_, ?_⟩
    · exact (heap_alloc_lt _ _ _ (by simp; omega)).trans (heap_alloc_at _ _ _ ep.symm)
    · have := World.ownsRow_lit (base := pr + 1) (e := 22) (size := 1) (v2.alloc (.cells #[.int .u32 0, .int .u32 1, .int .u32 3, .int .u32 3, .int .u32 3] 35)) #[.int .u32 0] 1 (by simp; omega) (by decide) rfl
      simpa [ep] using this
    · exact (h2.alloc (by omega) _).alloc (by simp; omega) _
  case round =>
    obtain ⟨k, n, g, gc, zs, last, l, c0, c1, c2, c3, hk, rfl, rfl, hnk, hzl, hlast, HH, hl, CC, hw, hown, hB⟩ := hrel
    have hgl := own_lt hown
    have hpr : pr < wr.heap.size := by omega
    have hnw : ¬ pr = wr.heap.size := by omega
    have L0 := HH.l0
    have L1 := HH.l1
    have hcells : Hid (∀ j, j < zs.length → wr.cell? ⟨g, j, none⟩ = some (.int .u32 (zs[j]?.getD 0))) := fun j hj => own_cell hown hzl j (by omega)
    obtain ⟨⟨b0, d0⟩, ⟨b1, d1⟩, ⟨b2, d2⟩, ⟨b3, d3⟩⟩ := cnts_bd HH CC
    have l0 : 0 ≤ l := by have := hl.out; omega
    have l1 : l < 4294967296 := by have := hl.out; omega
    by_cases hkl : k < len
    · obtain ⟨b, off, rfl, hb, hx, hc⟩ := h (by omega)
      have hcx : wr.cell? ⟨b, off + k, none⟩ = some (.int .u32 (xs[k]?.getD 0)) := (hB.cell (by exact hb)).trans (hc k hkl)
      obtain ⟨x0, x1⟩ := hx k hkl
      have hlc : wr.cell? ⟨g, n, none⟩ = some (.int .u32 last) := by rw [own_cell hown hzl n (by omega), hlast.out]; rfl
      clear hc hx ep h2 h
      generalize xs[k]?.getD 0 = x at *
      by_cases hov : last + x < 4294967296
      · by_cases hx0 : x = 0
        · subst hx0
          go_wp2_with (go_at_call 17; refine (later_is last 0 (last + 0) 0 L0 L1 x0 x1 (by show fit _ = _; unfold fit; omega) (by show over _ = _; unfold over; omega) _).mono ?_; rintro e w1 ⟨rfl, hw1⟩; have hw1 := hw1.symm; subst hw1; simp only [])
          go_roundw
          case rel => exact ⟨k + 1, n, g, gc, zs, last, l, c0, c1, c2, c3, by omega, by go_num, rfl, by omega, hzl, hlast, HH, hl, CC, hw, hown, hB⟩
          case measure => simp [intOf]; omega
        · have hls : last < last + x := by omega
          have hfs0 : fit (last + x) = last + x := by unfold fit; omega
          have hos0 : over (last + x) = 0 := by unfold over; omega
          obtain ⟨s, hs⟩ : ∃ s, last + x = s := ⟨_, rfl⟩
          have hfs : Hid (fit (last + x) = s) := hfs0.trans hs
          have hos : Hid (over (last + x) = 0) := hos0
          rw [hs] at hls hov
          clear hfs0 hos0 hs
          have S0 : 0 ≤ s := by omega
          have S1 := hov
          have hye : Hid (pE l c0 c1 c2 c3 (s / 3) = 0) := put_ok HH hl.out CC hls
          obtain ⟨e1, C'⟩ := cnts_step HH hl.out CC hls
          have H' := hist_step HH hls S1
          obtain ⟨y, hy⟩ : ∃ y, pL l c0 c1 c2 c3 (s / 3) = y := ⟨_, rfl⟩
          obtain ⟨y0, hy0⟩ : ∃ y, pC l c0 c1 c2 c3 (s / 3) 0 c0 = y := ⟨_, rfl⟩
          obtain ⟨y1, hy1⟩ : ∃ y, pC l c0 c1 c2 c3 (s / 3) 1 c1 = y := ⟨_, rfl⟩
          obtain ⟨y2, hy2⟩ : ∃ y, pC l c0 c1 c2 c3 (s / 3) 2 c2 = y := ⟨_, rfl⟩
          obtain ⟨y3, hy3⟩ : ∃ y, pC l c0 c1 c2 c3 (s / 3) 3 c3 = y := ⟨_, rfl⟩
          rw [hy0, hy1, hy2, hy3] at C'
          rw [hy] at e1
          have hys : Hid (y = s / 3) := e1
          rw [← e1] at C'
          have hright : Hid (rightB y y0 y1 y2 y3 = true) := cnts_right H' e1 C'
          obtain ⟨⟨z0, z1⟩, ⟨z2, z3⟩, ⟨z4, z5⟩, ⟨z6, z7⟩⟩ := cnts_bd H' C'
          have yl0 : 0 ≤ y := by omega
          have yl1 : y < 4294967296 := by omega
          have yy : (y == s / 3) = true := by rw [e1]; simp
          have yn : (y != s / 3) = false := by rw [e1]; simp
          have hy : Hid _ := hy
          have hy0 : Hid _ := hy0
          have hy1 : Hid _ := hy1
          have hy2 : Hid _ := hy2
          have hy3 : Hid _ := hy3
          clear e1
          go_wp2_with (go_at_call 17; refine (later_is last x s 0 L0 L1 x0 x1 hfs hos _).mono ?_; rintro e w1 ⟨rfl, hw1⟩; have hw1 := hw1.symm; subst hw1; simp only [])
          have hfv := five hw
          go_upto_region 12 with fail
          go_cut [11, 12] (fun nx f wx => ∃ (q : Nat) (v : World), nx = .pointer (some ⟨q, 0, none⟩) ∧ f = .int .i64 0 ∧ wx = put v q #[.int .u32 y, .int .u32 y0, .int .u32 y1, .int .u32 y2, .int .u32 y3] 35 ∧ q < v.heap.size ∧ wr.heap.size ≤ q ∧ Below wr.heap.size wr v)
          case first =>
            go_region_held3 (fun wz => wz.cell? ⟨pr, 0, none⟩ = some (.int .u32 l) ∧ wz.cell? ⟨pr, 1, none⟩ = some (.int .u32 c0) ∧ wz.cell? ⟨pr, 2, none⟩ = some (.int .u32 c1) ∧ wz.cell? ⟨pr, 3, none⟩ = some (.int .u32 c2) ∧ wz.cell? ⟨pr, 4, none⟩ = some (.int .u32 c3)) (first | with_reducible exact k5D hfv | with_reducible assumption | with_reducible exact k5D (k5A hfv) | with_reducible exact k5B h3 hfv hpr | with_reducible exact k5A (k5B h3 hfv hpr) | with_reducible exact k5P (k5B h3 hfv hpr) hnw)
              (first | (go_at_call 25; refine (RefSlot.refSub_c s S0 S1 _).mono ?_; rintro e w1 ⟨rfl, rfl⟩; simp only []) | (go_at_call 36; refine (put_is l c0 c1 c2 c3 (s / 3) y y0 y1 y2 y3 0 l0 b0 d0 b1 d1 b2 d2 b3 d3 (by omega) (by omega) hy hy0 hy1 hy2 hy3 hye _).mono ?_; rintro e x3 ⟨rfl, hb⟩; first | (obtain ⟨v3, rfl, u3, h3⟩ := first1 ((Below.refl _ _).drew.trans (hb.mono (Nat.le_refl _)))) | (have h3 := (Below.refl wr.heap.size wr).drew.trans (hb.mono (Nat.le_refl _))); clear hb; simp only []))
            all_goals
              go_wp2_with fail
              go_meet
              first
                | exact ⟨wr.heap.size, v3, rfl, rfl, rfl, u3, Nat.le_refl _, h3⟩
                | (obtain ⟨v4, e4, u4, h4⟩ := new0 (Below.refl _ _) h3 rfl; exact ⟨_, v4, rfl, rfl, e4, u4, h3.size, h4⟩)
          case rest =>
            obtain ⟨q, v3, rfl, rfl, rfl, u3, hqw, h3⟩ := hcut
            clear hfv hcx hlc
            go_upto_region 13 with fail
            go_cut [71] (fun b wx => b = .bool false ∧ ∃ v, wx = put v q #[.int .u32 y, .int .u32 y0, .int .u32 y1, .int .u32 y2, .int .u32 y3] 35 ∧ q < v.heap.size ∧ Below wr.heap.size wr v)
            case first =>
              go_region_held3 (fun wz => wz.cell? ⟨q, 0, none⟩ = some (.int .u32 y) ∧ wz.cell? ⟨q, 1, none⟩ = some (.int .u32 y0) ∧ wz.cell? ⟨q, 2, none⟩ = some (.int .u32 y1) ∧ wz.cell? ⟨q, 3, none⟩ = some (.int .u32 y2) ∧ wz.cell? ⟨q, 4, none⟩ = some (.int .u32 y3)) (first | with_reducible exact k5D (five_put u3) | with_reducible exact five_put u4 | with_reducible assumption)
                (first | (go_at_call 25; refine (RefSlot.refSub_c s S0 S1 _).mono ?_; rintro e w1 ⟨rfl, rfl⟩; simp only []) | (go_at_call 30; refine (right_is y y0 y1 y2 y3 yl0 yl1 (by omega) (by omega) (by omega) (by omega) (by omega) (by omega) (by omega) (by omega) hright _).mono ?_; rintro e x3 ⟨rfl, hb⟩; obtain ⟨v4, rfl, u4, h4⟩ := step1r hb h3 hqw u3; clear hb; simp only []))
              all_goals
                go_wp2_with fail
                go_meet
                exact ⟨by first | rfl | (simp [hys.out]), v4, rfl, u4, h4⟩
            case rest =>
              clear u3 h3
              obtain ⟨rfl, v3, rfl, u3, h3⟩ := hcut
              have hown3 := own_below hown h3
              have hw3 := stays h3 hw hpr
              have g3 := own_lt hown3
              obtain ⟨rr, err⟩ : ∃ rr, v3.heap.size = rr := ⟨_, rfl⟩
              have nqp : ¬ q = pr := by omega
              have npq : ¬ pr = q := by omega
              have nqg : some q ≠ some g := by intro h; cases h; omega
              have npg : some pr ≠ some g := by intro h; cases h; omega
              go_wp2_with fail
              go_region_held3 (fun wz => wz.cell? ⟨q, 0, none⟩ = some (.int .u32 y) ∧ wz.cell? ⟨q, 1, none⟩ = some (.int .u32 y0) ∧ wz.cell? ⟨q, 2, none⟩ = some (.int .u32 y1) ∧ wz.cell? ⟨q, 3, none⟩ = some (.int .u32 y2) ∧ wz.cell? ⟨q, 4, none⟩ = some (.int .u32 y3)) (first | with_reducible exact k5D (five_put u3) | with_reducible exact k5D (k5A (five_put u3)) | with_reducible exact k5P hS nqp | with_reducible assumption)
                (first | (refine step_append_lies _ rfl (.tmp 73) (.tmp 75) 50 rfl (pr + 1) 22 i0 (.int .u32 0) 1 4 Try.underlying50 hi hz0 hz1 hz2 rfl (by decide) (.slice (some ⟨g, 0, none⟩) (n + 1) gc) (n + 1) (zs.map (.int .u32)) rfl ((own_put hown3 (by omega)).alloc _).drew ⟨rr, 0, none⟩ 1 1 [.int .u32 s] rfl rfl (WinLeast.news1 (by simp [size_put, err])) (by intro u hu; simp at hu; subst hu; rfl) (by decide) (by unfold maxLen; omega) (by omega) (by simp [size_put]; omega) (rr + 1) (by simp [size_put, err]) ?_; intro g2 cap2 w1 hown2 hgrow hat hlt; have hw1 := (hgrow.block pr (by simp [size_put]; omega) npg).trans (WinLeast.pwstays npq hw3); have hpw1 := WinLeast.lt_heap hw1; have hS := k5G hgrow (k5D (k5A (five_put u3))) nqg; rw [← put_self w1 pr _ _ hw1]))
              have g4 := own_lt hown2
              have hzl2 : (zs ++ [s]).length = n + 1 + 1 := by rw [List.length_append, hzl]; rfl
              have hown4 : (put w1 pr #[.int .u32 y, .int .u32 y0, .int .u32 y1, .int .u32 y2, .int .u32 y3] 35).ownsRow (pr + 1) 22 1 (.slice (some ⟨g2, 0, none⟩) (n + 1 + 1) cap2) (n + 1 + 1) ((zs ++ [s]).map (.int .u32)) := by rw [List.map_append]; exact own_put hown2 (by omega)
              have hcells2 : Hid (∀ j, j < (zs ++ [s]).length → (put w1 pr #[.int .u32 y, .int .u32 y0, .int .u32 y1, .int .u32 y2, .int .u32 y3] 35).cell? ⟨g2, j, none⟩ = some (.int .u32 ((zs ++ [s])[j]?.getD 0))) := fun j hj => own_cell hown4 hzl2 j (by omega)
              have hB4 : Below w.heap.size w (put w1 pr #[.int .u32 y, .int .u32 y0, .int .u32 y1, .int .u32 y2, .int .u32 y3] 35) := by
                refine below_put _ _ _ _ ?_ zp
                refine WinLeast.growB ?_ hgrow (by simp [size_put]; omega) (by omega)
                refine Below.drew ?_
                refine Below.alloc ?_ (by simp [size_put]; omega) _
                refine below_put _ _ _ _ ?_ (by omega)
                exact hB.trans (h3.mono (by omega))
              clear hS hown2 hgrow hw1 hat hw3 hown3
              obtain ⟨W, hW⟩ : ∃ W, W = put w1 pr #[.int .u32 y, .int .u32 y0, .int .u32 y1, .int .u32 y2, .int .u32 y3] 35 := ⟨_, rfl⟩
              have hW5 : W.heap[pr]? = some (.cells #[.int .u32 y, .int .u32 y0, .int .u32 y1, .int .u32 y2, .int .u32 y3] 35) := by rw [hW]; exact heap_put_same _ _ _ _ hpw1
              rw [← hW] at hown4 hcells2 hB4 ⊢
              clear hW
              go_wp2_with fail
              obtain ⟨f0, f1, f2, f3, f4⟩ := five hW5
              go_loopw [13] (fun bk wz => ∃ (j nd : Nat), j ≤ 4 ∧ bk = .int .i64 j ∧ wz = W.drewN nd) (fun bk _ => 4 - (intOf bk).toNat)
              case atStart => exact ⟨0, 0, by omega, rfl, rfl⟩
              case round =>
                obtain ⟨j, nd, hj, rfl, rfl⟩ := hrel
                obtain ⟨W2, hE⟩ : ∃ W2, W2 = W.drewN nd := ⟨_, rfl⟩
                rw [← hE]
                have f0 : W2.cell? ⟨pr, 0, none⟩ = some (.int .u32 y) := by rw [hE]; exact f0
                have f1 : W2.cell? ⟨pr, 1, none⟩ = some (.int .u32 y0) := by rw [hE]; exact f1
                have f2 : W2.cell? ⟨pr, 2, none⟩ = some (.int .u32 y1) := by rw [hE]; exact f2
                have f3 : W2.cell? ⟨pr, 3, none⟩ = some (.int .u32 y2) := by rw [hE]; exact f3
                have f4 : W2.cell? ⟨pr, 4, none⟩ = some (.int .u32 y3) := by rw [hE]; exact f4
                have hcells3 : Hid (∀ j, j < (zs ++ [s]).length → W2.cell? ⟨g2, j, none⟩ = some (.int .u32 ((zs ++ [s])[j]?.getD 0))) := fun j hj => by rw [hE]; exact hcells2.out j hj
                have hW2 : Hid (W2 = W.drewN nd) := hE
                clear hE
                by_cases hj4 : j < 4
                · obtain ⟨t, ht, t0, t1, t2⟩ := tmod4 (y - j)
                  have hP := cnts_pick (last := s) C' (y - j) (by omega) (by omega)
                  have hT : (t + 4) % 4 = 0 ∨ (t + 4) % 4 = 1 ∨ (t + 4) % 4 = 2 ∨ (t + 4) % 4 = 3 := by omega
                  rcases hT with hT | hT | hT | hT
                  · have hv : Hid (c6 (zs ++ [s]) (y - j) = y0) := by
                      rw [← hP]; show pick _ _ _ _ _ = _; unfold pick
                      rw [if_pos (show (y - j) % 4 = 0 from by omega)]
                    have hT2 := (Int.tmod_eq_emod_of_nonneg (show 0 ≤ t + 4 from by omega) (b := 4)).trans hT
                    have hw4 : IntKind.i64.wrap (t + 4) = t + 4 := IntWalk.i64_in _ (by omega)
                    clear hP t2
                    go_wp2_with fail
                    go_quiet ((go_at_call 40; exact Calls.quiet_of_same (count6_is g2 (n + 1 + 1) cap2 (zs ++ [s]) (y - j) y0 hzl2 (by omega) (by omega) H'.bd hv _ (fun j hj => hcells3.out j hj))))
                    go_wp2_with fail
                    go_roundw
                    case rel => exact ⟨j + 1, _, by omega, by go_num, by rw [hW2.out, drewN_drewN]⟩
                    case measure => simp [intOf]; omega
                  · have hv : Hid (c6 (zs ++ [s]) (y - j) = y1) := by
                      rw [← hP]; show pick _ _ _ _ _ = _; unfold pick
                      rw [if_neg (show ¬ (y - j) % 4 = 0 from by omega)]; rw [if_pos (show (y - j) % 4 = 1 from by omega)]
                    have hT2 := (Int.tmod_eq_emod_of_nonneg (show 0 ≤ t + 4 from by omega) (b := 4)).trans hT
                    have hw4 : IntKind.i64.wrap (t + 4) = t + 4 := IntWalk.i64_in _ (by omega)
                    clear hP t2
                    go_wp2_with fail
                    go_quiet ((go_at_call 40; exact Calls.quiet_of_same (count6_is g2 (n + 1 + 1) cap2 (zs ++ [s]) (y - j) y1 hzl2 (by omega) (by omega) H'.bd hv _ (fun j hj => hcells3.out j hj))))
                    go_wp2_with fail
                    go_roundw
                    case rel => exact ⟨j + 1, _, by omega, by go_num, by rw [hW2.out, drewN_drewN]⟩
                    case measure => simp [intOf]; omega
                  · have hv : Hid (c6 (zs ++ [s]) (y - j) = y2) := by
                      rw [← hP]; show pick _ _ _ _ _ = _; unfold pick
                      rw [if_neg (show ¬ (y - j) % 4 = 0 from by omega)]; rw [if_neg (show ¬ (y - j) % 4 = 1 from by omega)]; rw [if_pos (show (y - j) % 4 = 2 from by omega)]
                    have hT2 := (Int.tmod_eq_emod_of_nonneg (show 0 ≤ t + 4 from by omega) (b := 4)).trans hT
                    have hw4 : IntKind.i64.wrap (t + 4) = t + 4 := IntWalk.i64_in _ (by omega)
                    clear hP t2
                    go_wp2_with fail
                    go_quiet ((go_at_call 40; exact Calls.quiet_of_same (count6_is g2 (n + 1 + 1) cap2 (zs ++ [s]) (y - j) y2 hzl2 (by omega) (by omega) H'.bd hv _ (fun j hj => hcells3.out j hj))))
                    go_wp2_with fail
                    go_roundw
                    case rel => exact ⟨j + 1, _, by omega, by go_num, by rw [hW2.out, drewN_drewN]⟩
                    case measure => simp [intOf]; omega
                  · have hv : Hid (c6 (zs ++ [s]) (y - j) = y3) := by
                      rw [← hP]; show pick _ _ _ _ _ = _; unfold pick
                      rw [if_neg (show ¬ (y - j) % 4 = 0 from by omega)]; rw [if_neg (show ¬ (y - j) % 4 = 1 from by omega)]; rw [if_neg (show ¬ (y - j) % 4 = 2 from by omega)]
                    have hT2 := (Int.tmod_eq_emod_of_nonneg (show 0 ≤ t + 4 from by omega) (b := 4)).trans hT
                    have hw4 : IntKind.i64.wrap (t + 4) = t + 4 := IntWalk.i64_in _ (by omega)
                    clear hP t2
                    go_wp2_with fail
                    go_quiet ((go_at_call 40; exact Calls.quiet_of_same (count6_is g2 (n + 1 + 1) cap2 (zs ++ [s]) (y - j) y3 hzl2 (by omega) (by omega) H'.bd hv _ (fun j hj => hcells3.out j hj))))
                    go_wp2_with fail
                    go_roundw
                    case rel => exact ⟨j + 1, _, by omega, by go_num, by rw [hW2.out, drewN_drewN]⟩
                    case measure => simp [intOf]; omega
                · go_wp2_with fail
                  go_roundw
                  case rel => exact ⟨k + 1, n + 1, g2, cap2, zs ++ [s], s, y, y0, y1, y2, y3, by omega, by go_num, rfl, by omega, hzl2, (by show (zs ++ [s])[n + 1]? = some s; rw [← hzl]; simp), H', hys, C', by rw [hW2.out]; exact hW5, by rw [hW2.out]; exact hown4, by rw [hW2.out]; exact drw hB4 _⟩
                  case measure => simp [intOf]; omega
      · go_wp2_with (go_at_call 17; refine (later_is last x 0 5 L0 L1 x0 x1 (by show fit _ = _; unfold fit; omega) (by show over _ = _; unfold over; omega) _).mono ?_; rintro e w1 ⟨rfl, hw1⟩; have hw1 := hw1.symm; subst hw1; simp only [])
        go_roundw
        case rel => exact ⟨k + 1, n, g, gc, zs, last, l, c0, c1, c2, c3, by omega, by go_num, rfl, by omega, hzl, hlast, HH, hl, CC, hw, hown, hB⟩
        case measure => simp [intOf]; omega
    · clear h ep h2
      obtain ⟨f0, f1, f2, f3, f4⟩ := five hw
      by_cases hov : l + ah < 4294967296
      · by_cases hz0 : ah = 0
        · subst hz0
          go_wp2_with (go_at_call 17; refine (later_is l 0 (l + 0) 0 l0 l1 (by decide) (by decide) (by show fit _ = _; unfold fit; omega) (by show over _ = _; unfold over; omega) _).mono ?_; rintro e w1 ⟨rfl, hw1⟩; have hw1 := hw1.symm; subst hw1; simp only [])
          go_returns
          exact ⟨rfl, hB⟩
        · have hlt : l < l + ah := by omega
          have hfs0 : fit (l + ah) = l + ah := by unfold fit; omega
          have hos0 : over (l + ah) = 0 := by unfold over; omega
          obtain ⟨s, hs⟩ : ∃ s, l + ah = s := ⟨_, rfl⟩
          have hfs : Hid (fit (l + ah) = s) := hfs0.trans hs
          have hos : Hid (over (l + ah) = 0) := hos0
          rw [hs] at hlt hov
          clear hfs0 hos0 hs
          have S0 : 0 ≤ s := by omega
          obtain ⟨A, hA0⟩ : ∃ A, sum6 zs s 4 = A := ⟨_, rfl⟩
          have hA : Hid (bV l c0 c1 c2 c3 s = A) := by show bV _ _ _ _ _ _ = _; unfold bV; rw [if_neg (by omega), ahead_is HH hl.out CC hlt, ← hA0, sum6_is]
          have hE : Hid (bE l s = 0) := by show bE _ _ = _; unfold bE; rw [if_neg (by omega)]
          go_wp2_with (go_at_call 17; refine (later_is l ah s 0 l0 l1 ha0 ha1 hfs hos _).mono ?_; rintro e w1 ⟨rfl, hw1⟩; have hw1 := hw1.symm; subst hw1; simp only [])
          refine (Window.before_e l c0 c1 c2 c3 s A 0 l0 b0 d0 b1 d1 b2 d2 b3 d3 hov hA hE _).mono ?_
          rintro e x' ⟨rfl, hb⟩
          have hown5 := own_below hown hb
          have hcells5 : Hid (∀ j, j < zs.length → x'.cell? ⟨g, j, none⟩ = some (.int .u32 (zs[j]?.getD 0))) := fun j hj => own_cell hown5 hzl j (by omega)
          have hB5 := hB.trans (hb.mono hB.size)
          clear hown5 f0 f1 f2 f3 f4
          simp only []
          go_wp2_with fail
          go_loop [19, 20] (fun wv iv => ∃ j : Nat, j ≤ 4 ∧ iv = .int .i64 (j + 1) ∧ wv = .int .u32 (sum6 zs s j)) (fun _ iv => 5 - (intOf iv).toNat)
          case atStart => exact ⟨0, by omega, rfl, rfl⟩
          case round =>
            obtain ⟨j, hj, rfl, rfl⟩ := hrel
            by_cases hj4 : j < 4
            · obtain ⟨n0, n1⟩ := sum6_bd HH s j
              obtain ⟨v0, v1⟩ := c6_le HH (s - (j + 1))
              have hS : Hid (sum6 zs s (j + 1) = sum6 zs s j + c6 zs (s - (j + 1))) := rfl
              obtain ⟨v, hv⟩ : ∃ v, c6 zs (s - (j + 1)) = v := ⟨_, rfl⟩
              rw [hv] at v0 v1 hS
              have hvh : Hid (c6 zs (s - (j + 1)) = v) := hv
              clear hv hA0
              generalize sum6 zs s j = u at *
              go_wp2_with (go_at_call 40; refine (count6_is g (n + 1) gc zs (s - (j + 1)) v hzl (by omega) (by omega) HH.bd hvh _ hcells5.out).mono ?_; rintro e w1 ⟨rfl, rfl⟩; simp only [])
              go_round
              case rel => exact ⟨j + 1, by omega, by go_num, by rw [hS.out]⟩
              case measure => simp [intOf]; omega
            · obtain rfl : j = 4 := by omega
              go_wp2_with fail
              go_returns
              exact ⟨rfl, hB5⟩
      · go_wp2_with (go_at_call 17; refine (later_is l ah 0 5 l0 l1 ha0 ha1 (by show fit _ = _; unfold fit; omega) (by show over _ = _; unfold over; omega) _).mono ?_; rintro e w1 ⟨rfl, hw1⟩; have hw1 := hw1.symm; subst hw1; simp only [])
        go_returns
        exact ⟨rfl, hB⟩

set_option maxHeartbeats 4000000 in
theorem ringCounts_long (a : Option Addr) (len cap : Nat) (ah : Int) (h : 200 < len) (w : World) :
    Calls Try.prog 7 #[.slice a len cap, .int .u32 ah] w fun e w' => e = .returned (.bool true) ∧ Below w.heap.size w w' := by
  go_enter Try.func7, Try.ntmps7
  go_wp2_with fail
  refine (awake_c _).mono ?_
  rintro e v1 ⟨rfl, h1⟩
  simp only []
  go_wp2_with fail
  go_returns
  exact ⟨rfl, h1⟩

theorem ringCounts_c (xs : List Int) (a : Option Addr) (len cap : Nat) (ah : Int) (ha0 : 0 ≤ ah) (ha1 : ah < 4294967296) (w : World) (h : 0 < len → ∃ b off, a = some ⟨b, off, none⟩ ∧ b < w.heap.size ∧ (∀ j, j < len → 0 ≤ xs[j]?.getD 0 ∧ xs[j]?.getD 0 < 4294967296) ∧ (∀ j, j < len → w.cell? ⟨b, off + j, none⟩ = some (.int .u32 (xs[j]?.getD 0)))) :
    Calls Try.prog 7 #[.slice a len cap, .int .u32 ah] w fun e w' => e = .returned (.bool true) ∧ Below w.heap.size w w' := by
  by_cases h1 : 200 < len
  · exact ringCounts_long a len cap ah h1 w
  · exact ringCounts_yes a len cap xs ah w ha0 ha1 (by omega) h
end Go.Proofs.Ytaoelppkognakaa.RingCts
