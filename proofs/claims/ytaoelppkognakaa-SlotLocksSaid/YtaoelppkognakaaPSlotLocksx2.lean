-- PRINTED BY print.sh 35421559b90ae4d0a3588c463048766b98c2df88dd9212a6774a882060cdf62d: not written by this session
import Derived.Test.YtaoelppkognakaaPSlotLocksx0
import Derived.Test.YtaoelppkognakaaPSlotLocksx1
namespace Go.Proofs.Ytaoelppkognakaa.PSlotLocks
open Go.RowKit Go.Proofs.YtaoelppkognakaaW.PrintWords Go.Proofs.YtaoelppkognakaaW.PrintLast Go.Proofs.YtaoelppkognakaaW.PrintMore
attribute [local go_sem] max2_int min2_int max_two min_two max_three min_three max_four min_four   -- for this text's walks alone
set_option linter.unusedVariables false
set_option linter.unusedSimpArgs false

/-! ### almagestlaw05_SlotLocks: function 5 -/
mutual
def almagestlaw05_SlotLocks.l0 : Nat → Int → Int → Int → Int → Option (Bool)
  | 0, _, _, _, _ => none
  | k + 1, x0, x3, x5, x20 => if x20 < 24 then ((slot_Later.f k x3 x20).bind fun bt152 => (if bt152.2 = 0 then ((slot_Locking.f bt152.1).bind fun t154 => (if t154 = true then (almagestlaw05_SlotLocks.j1 k x0 x3 (wrap64 (x5 + 1)) x20 bt152.1 x20) else (almagestlaw05_SlotLocks.j1 k x0 x3 x5 x20 bt152.1 x20))) else (some true))) else (some (x5 == 16))
def almagestlaw05_SlotLocks.j1 : Nat → Int → Int → Int → Int → Int → Int → Option (Bool)
  | 0, _, _, _, _, _, _ => none
  | k + 1, x0, x3, x5, x6, x7, x20 => (slot_Locking.f x7).bind fun t155 => (if (t155 != (decide (x6 < 16))) = true then (some false) else ((slot_Epoch.f x7).bind fun t156 => (if t156 = x0 then (almagestlaw05_SlotLocks.l0 k x0 x3 x5 ((x20 + 1) % 4294967296)) else (some false))))
end
def almagestlaw05_SlotLocks.f (k : Nat) (a0 : Int) : Option (Bool) := (almagestlaw05_awake.f k).bind fun t149 => (if t149 = true then ((slot_First.f k a0).bind fun bt150 => (if bt150.2 = 0 then (almagestlaw05_SlotLocks.l0 k a0 bt150.1 0 0) else (some (bt150.1 == 0)))) else (some false))
theorem almagestlaw05_SlotLocks.mono_l : ∀ k, (∀ y0 y1 y2 y3, LeO (almagestlaw05_SlotLocks.l0 k y0 y1 y2 y3) (almagestlaw05_SlotLocks.l0 (k + 1) y0 y1 y2 y3)) ∧ (∀ y0 y1 y2 y3 y4 y5, LeO (almagestlaw05_SlotLocks.j1 k y0 y1 y2 y3 y4 y5) (almagestlaw05_SlotLocks.j1 (k + 1) y0 y1 y2 y3 y4 y5))
  | 0 => ⟨fun _ _ _ _ r h => by simp [almagestlaw05_SlotLocks.l0] at h, fun _ _ _ _ _ _ r h => by simp [almagestlaw05_SlotLocks.j1] at h⟩
  | k + 1 => by
    obtain ⟨ih0, ih1⟩ := almagestlaw05_SlotLocks.mono_l k
    refine ⟨?_, ?_⟩
    · intro y0 y1 y2 y3
      unfold almagestlaw05_SlotLocks.l0
      repeat' first
      | (with_reducible exact ih0 _ _ _ _)
      | (with_reducible exact ih1 _ _ _ _ _ _)
      | (with_reducible exact almagestlaw05_awake.mono _)
      | (with_reducible exact slot_First.mono _ _)
      | (with_reducible exact slot_Later.mono _ _ _)
      | (with_reducible exact LeO.refl _)
      | (with_reducible exact LeO.none _)
      | (with_reducible refine LeO.ite ?_ ?_)
      | (with_reducible refine LeO.bind ?_ (fun _ => ?_))
      | exact ih0 _ _ _ _
      | exact ih1 _ _ _ _ _ _
      | exact almagestlaw05_awake.mono _
      | exact slot_First.mono _ _
      | exact slot_Later.mono _ _ _
      | exact LeO.none _
      | refine LeO.ite ?_ ?_
      | refine LeO.bind ?_ (fun _ => ?_)
    · intro y0 y1 y2 y3 y4 y5
      unfold almagestlaw05_SlotLocks.j1
      repeat' first
      | (with_reducible exact ih0 _ _ _ _)
      | (with_reducible exact ih1 _ _ _ _ _ _)
      | (with_reducible exact almagestlaw05_awake.mono _)
      | (with_reducible exact slot_First.mono _ _)
      | (with_reducible exact slot_Later.mono _ _ _)
      | (with_reducible exact LeO.refl _)
      | (with_reducible exact LeO.none _)
      | (with_reducible refine LeO.ite ?_ ?_)
      | (with_reducible refine LeO.bind ?_ (fun _ => ?_))
      | exact ih0 _ _ _ _
      | exact ih1 _ _ _ _ _ _
      | exact almagestlaw05_awake.mono _
      | exact slot_First.mono _ _
      | exact slot_Later.mono _ _ _
      | exact LeO.none _
      | refine LeO.ite ?_ ?_
      | refine LeO.bind ?_ (fun _ => ?_)
theorem almagestlaw05_SlotLocks.mono : ∀ a0 k, LeO (almagestlaw05_SlotLocks.f k a0) (almagestlaw05_SlotLocks.f (k + 1) a0) := by
  intro a0 k
  obtain ⟨ih0, ih1⟩ := almagestlaw05_SlotLocks.mono_l k
  unfold almagestlaw05_SlotLocks.f
  repeat' first
      | (with_reducible exact ih0 _ _ _ _)
      | (with_reducible exact ih1 _ _ _ _ _ _)
      | (with_reducible exact almagestlaw05_awake.mono _)
      | (with_reducible exact slot_First.mono _ _)
      | (with_reducible exact slot_Later.mono _ _ _)
      | (with_reducible exact LeO.refl _)
      | (with_reducible exact LeO.none _)
      | (with_reducible refine LeO.ite ?_ ?_)
      | (with_reducible refine LeO.bind ?_ (fun _ => ?_))
      | exact ih0 _ _ _ _
      | exact ih1 _ _ _ _ _ _
      | exact almagestlaw05_awake.mono _
      | exact slot_First.mono _ _
      | exact slot_Later.mono _ _ _
      | exact LeO.none _
      | refine LeO.ite ?_ ?_
      | refine LeO.bind ?_ (fun _ => ?_)
set_option maxHeartbeats 8000000 in
set_option maxRecDepth 100000 in
theorem almagestlaw05_SlotLocks.calls (k : Nat) (a0 : Int) (r : Bool) (w : World) (h : almagestlaw05_SlotLocks.f k a0 = some r) :
    Calls Try.prog 5 #[.int .u32 a0] w fun e w' => e = .returned (.bool r) ∧ Below w.heap.size w w' := by
  have HB := Aside0.mk (Below.refl w.heap.size w)
  have H : ((almagestlaw05_awake.f k).bind fun t149 => (if t149 = true then ((slot_First.f k a0).bind fun bt150 => (if bt150.2 = 0 then (almagestlaw05_SlotLocks.l0 k a0 bt150.1 0 0) else (some (bt150.1 == 0)))) else (some false))) = some r := h
  clear h
  replace H := Option.bind_eq_some_iff.mp H
  obtain ⟨t149, A20, H⟩ := H
  replace H : (if t149 = true then ((slot_First.f k a0).bind fun bt150 => (if bt150.2 = 0 then (almagestlaw05_SlotLocks.l0 k a0 bt150.1 0 0) else (some (bt150.1 == 0)))) else (some false)) = some r := H
  have A2 := Aside0.mk A20
  clear A20
  by_cases c3 : t149 = true
  · subst c3
    have H1 : ((slot_First.f k a0).bind fun bt150 => (if bt150.2 = 0 then (almagestlaw05_SlotLocks.l0 k a0 bt150.1 0 0) else (some (bt150.1 == 0)))) = some r := by rw [if_pos rfl] at H; exact H
    clear H
    have H := H1
    clear H1
    replace H := Option.bind_eq_some_iff.mp H
    obtain ⟨⟨t150, t151⟩, A40, H⟩ := H
    replace H : (if t151 = 0 then (almagestlaw05_SlotLocks.l0 k a0 t150 0 0) else (some (t150 == 0))) = some r := H
    have A4 := Aside0.mk A40
    clear A40
    by_cases c5 : t151 = 0
    · rw [if_pos c5] at H
      have c5b0 : (t151 == 0) = true := beq_iff_eq.mpr c5
      have c5b1 : (t151 != 0) = false := bne_eq_false_iff_eq.mpr c5
      clear c5
      have H' := Aside0.mk H
      clear H
      go_enter Try.func5, Try.ntmps5
      go_wp2_with (first | ((with_reducible refine gate_callee (f := 13) rfl ?_); refine goesL_ (some 9) rfl rfl Try.func13 (by kernel_rfl) rfl #[] rfl (by (try simp only [List.map_toArray, List.map_cons, List.map_nil]); first | done | rfl | (simp only [List.length_drop, List.length_take]; rfl)) ?_; (with_reducible refine (almagestlaw05_awake.calls k  true _ A2.out).mono ?_); rintro e w6 ⟨rfl, hb⟩; refine ⟨_, rfl, ?_⟩; have n0_ := Aside0.mk (below_step (by repeat (first | (with_reducible first | exact HB.out | apply below_alloc | apply pw_below_drewN | apply below_drew1) | exact HB.out)) hb); clear HB; have HB := n0_; clear n0_; (try clear hb); (try clear hb2); (try clear hk); (try clear hi)) | ((with_reducible refine gate_callee (f := 14) rfl ?_); refine goesL_ (some 13) rfl rfl Try.func14 (by kernel_rfl) rfl #[.int .u32 a0] rfl (by (try simp only [List.map_toArray, List.map_cons, List.map_nil]); first | done | rfl | (simp only [List.length_drop, List.length_take]; rfl)) ?_; (with_reducible refine (slot_First.calls k a0 t150 t151 _ A4.out).mono ?_); rintro e w7 ⟨rfl, hb⟩; refine ⟨_, rfl, ?_⟩; have n0_ := Aside0.mk (below_step (by repeat (first | (with_reducible first | exact HB.out | apply below_alloc | apply pw_below_drewN | apply below_drew1) | exact HB.out)) hb); clear HB; have HB := n0_; clear n0_; (try clear hb); (try clear hb2); (try clear hk); (try clear hi)))
      go_loopg [5, 20] k (fun kq v5 v20 w' => ∃ (x5_1 : Int) (x20_1 : Int), v5 = .int .i64 x5_1 ∧ v20 = .int .u32 x20_1 ∧ Aside0 (almagestlaw05_SlotLocks.l0 kq a0 t150 x5_1 x20_1 = some r) ∧ Aside0 (kq ≤ k) ∧ Aside0 (Below w.heap.size w w'))
      case atStart => exact ⟨(0), (0), (by first | rfl | (simp; done) | (simp [*]; done)), (by first | rfl | (simp; done) | (simp [*]; done)), H', ⟨Nat.le_refl _⟩, ⟨by repeat (first | (with_reducible first | exact HB.out | apply below_alloc | apply pw_below_drewN | apply below_drew1) | exact HB.out)⟩⟩
      case round =>
        clear H'
        try clear c1
        try clear p2
        try clear c3
        try clear c5
        try clear c5b0
        try clear c5b1
        obtain ⟨x5_1, x20_1, rfl, rfl, HA, HK1, HB⟩ := hrel
        cases gk with
        | zero => exact absurd HA.out (by simp [almagestlaw05_SlotLocks.l0])
        | succ k1 =>
          have H := HA.out
          clear HA
          simp only [almagestlaw05_SlotLocks.l0] at H
          by_cases c8 : x20_1 < 24
          · rw [if_pos c8] at H
            have c8b0 : decide (x20_1 < 24) = true := decide_eq_true c8
            clear c8
            replace H := Option.bind_eq_some_iff.mp H
            obtain ⟨⟨t152, t153⟩, A90, H⟩ := H
            replace H : (if t153 = 0 then ((slot_Locking.f t152).bind fun t154 => (if t154 = true then (almagestlaw05_SlotLocks.j1 k1 a0 t150 (wrap64 (x5_1 + 1)) x20_1 t152 x20_1) else (almagestlaw05_SlotLocks.j1 k1 a0 t150 x5_1 x20_1 t152 x20_1))) else (some true)) = some r := H
            have A9 := Aside0.mk A90
            clear A90
            by_cases c10 : t153 = 0
            · rw [if_pos c10] at H
              have c10b0 : (t153 == 0) = true := beq_iff_eq.mpr c10
              have c10b1 : (t153 != 0) = false := bne_eq_false_iff_eq.mpr c10
              clear c10
              replace H := Option.bind_eq_some_iff.mp H
              obtain ⟨t154, A110, H⟩ := H
              replace H : (if t154 = true then (almagestlaw05_SlotLocks.j1 k1 a0 t150 (wrap64 (x5_1 + 1)) x20_1 t152 x20_1) else (almagestlaw05_SlotLocks.j1 k1 a0 t150 x5_1 x20_1 t152 x20_1)) = some r := H
              have A11 := Aside0.mk A110
              clear A110
              have HC12 := Aside0.mk H
              clear H
              go_upto_if 32 with (first | ((with_reducible refine gate_callee (f := 16) rfl ?_); refine goesL_ (some 26) rfl rfl Try.func16 (by kernel_rfl) rfl #[.int .u32 t150, .int .u32 x20_1] rfl (by (try simp only [List.map_toArray, List.map_cons, List.map_nil]); first | done | rfl | (simp only [List.length_drop, List.length_take]; rfl)) ?_; (with_reducible refine (slot_Later.calls k1 t150 x20_1 t152 t153 _ A9.out).mono ?_); rintro e w13 ⟨rfl, hb⟩; refine ⟨_, rfl, ?_⟩; have n0_ := Aside0.mk (below_step (by repeat (first | (with_reducible first | exact HB.out | apply below_alloc | apply pw_below_drewN | apply below_drew1) | exact HB.out)) hb); clear HB; have HB := n0_; clear n0_; (try clear hb); (try clear hb2); (try clear hk); (try clear hi)) | ((with_reducible refine gate_callee (f := 22) rfl ?_); refine goesL_ (some 32) rfl rfl Try.func22 (by kernel_rfl) rfl #[.int .u32 t152] rfl (by (try simp only [List.map_toArray, List.map_cons, List.map_nil]); first | done | rfl | (simp only [List.length_drop, List.length_take]; rfl)) ?_; (with_reducible refine (slot_Locking.calls t152 t154 _ A11.out).mono ?_); rintro e w' ⟨rfl, ⟨nd, rfl⟩⟩; refine ⟨_, rfl, ?_⟩))
              (try simp only [Act.put, List.setIfInBounds_toArray, List.set_cons_zero, List.set_cons_succ])
              go_cut [5] (fun v5 wc => ∃ (kq : Nat) (x5_11 : Int), v5 = .int .i64 x5_11 ∧ Aside0 (almagestlaw05_SlotLocks.j1 kq a0 t150 x5_11 x20_1 t152 x20_1 = some r) ∧ Aside0 (kq ≤ k1) ∧ Aside0 (Below w.heap.size w wc))
              case first =>
                have H := HC12.out
                clear HC12
                by_cases c14 : t154 = true
                · subst c14
                  have H1 : (almagestlaw05_SlotLocks.j1 k1 a0 t150 (wrap64 (x5_1 + 1)) x20_1 t152 x20_1) = some r := by rw [if_pos rfl] at H; exact H
                  clear H
                  have H := H1
                  clear H1
                  have H' := Aside0.mk H
                  clear H
                  go_wp2
                  go_meet
                  case rel => exact ⟨_, (wrap64 (x5_1 + 1)), (by first | rfl | (simp; done) | (simp [*]; done)), H', ⟨by have := HK1.out; first | omega | exact Nat.le_refl _⟩, ⟨by repeat (first | (with_reducible first | exact HB.out | apply below_alloc | apply pw_below_drewN | apply below_drew1) | exact HB.out)⟩⟩
                · replace c14 := Bool.eq_false_iff.mpr c14
                  subst c14
                  have H1 : (almagestlaw05_SlotLocks.j1 k1 a0 t150 x5_1 x20_1 t152 x20_1) = some r := by rw [if_neg (show ¬ (false = true) by decide)] at H; exact H
                  clear H
                  have H := H1
                  clear H1
                  have H' := Aside0.mk H
                  clear H
                  go_wp2
                  go_meet
                  case rel => exact ⟨_, (x5_1), (by first | rfl | (simp; done) | (simp [*]; done)), H', ⟨by have := HK1.out; first | omega | exact Nat.le_refl _⟩, ⟨by repeat (first | (with_reducible first | exact HB.out | apply below_alloc | apply pw_below_drewN | apply below_drew1) | exact HB.out)⟩⟩
              case rest =>
                clear HC12
                try clear c1
                try clear c2
                try clear p2
                try clear c3
                try clear c5
                try clear c5b0
                try clear c5b1
                try clear p6
                try clear c8
                try clear c8b0
                try clear c10
                try clear c10b0
                try clear c10b1
                try clear c13
                try clear c14
                try clear p2
                obtain ⟨kq, x5_11, rfl, HA, HJ11, HB⟩ := hcut
                cases kq with
                | zero => exact absurd HA.out (by simp [almagestlaw05_SlotLocks.j1])
                | succ kj11 =>
                  have H := HA.out
                  clear HA
                  simp only [almagestlaw05_SlotLocks.j1] at H
                  replace H := Option.bind_eq_some_iff.mp H
                  obtain ⟨t155, A150, H⟩ := H
                  replace H : (if (t155 != (decide (x20_1 < 16))) = true then (some false) else ((slot_Epoch.f t152).bind fun t156 => (if t156 = a0 then (almagestlaw05_SlotLocks.l0 kj11 a0 t150 x5_11 ((x20_1 + 1) % 4294967296)) else (some false)))) = some r := H
                  have A15 := Aside0.mk A150
                  clear A150
                  by_cases c16 : (t155 != (decide (x20_1 < 16))) = true
                  · rw [if_pos c16] at H
                    have c16b0 : (t155 != (decide (x20_1 < 16))) = true := c16
                    (try (have c16b1 : decide (t155 = (decide (x20_1 < 16))) = false := by simpa using c16))
                    (try (have c16b2 : (t155 == (decide (x20_1 < 16))) = false := by simpa using c16))
                    (try (have c16b3 : ¬ (t155 = (decide (x20_1 < 16))) := by simpa using c16))
                    clear c16
                    obtain rfl := Option.some.inj H
                    go_wp2_with (first | ((with_reducible refine gate_callee (f := 22) rfl ?_); refine goesL_ (some 36) rfl rfl Try.func22 (by kernel_rfl) rfl #[.int .u32 t152] rfl (by (try simp only [List.map_toArray, List.map_cons, List.map_nil]); first | done | rfl | (simp only [List.length_drop, List.length_take]; rfl)) ?_; (with_reducible refine (slot_Locking.calls t152 t155 _ A15.out).mono ?_); rintro e w' ⟨rfl, ⟨nd, rfl⟩⟩; refine ⟨_, rfl, ?_⟩))
                    go_ret
                    exact ⟨by first | rfl | (simp [errW_none, errW_some] <;> rfl) | (simp [*, errW_none, errW_some] <;> rfl), by repeat (first | (with_reducible first | exact HB.out | apply below_alloc | apply pw_below_drewN | apply below_drew1) | exact HB.out)⟩
                  · rw [if_neg c16] at H
                    have c16b0 : (t155 != (decide (x20_1 < 16))) = false := by simpa using c16
                    (try (have c16b1 : decide (t155 = (decide (x20_1 < 16))) = true := by simpa using c16))
                    (try (have c16b2 : (t155 == (decide (x20_1 < 16))) = true := by simpa using c16))
                    clear c16
                    replace H := Option.bind_eq_some_iff.mp H
                    obtain ⟨t156, A170, H⟩ := H
                    replace H : (if t156 = a0 then (almagestlaw05_SlotLocks.l0 kj11 a0 t150 x5_11 ((x20_1 + 1) % 4294967296)) else (some false)) = some r := H
                    have A17 := Aside0.mk A170
                    clear A170
                    by_cases c18 : t156 = a0
                    · rw [if_pos c18] at H
                      have c18b0 : (t156 == a0) = true := beq_iff_eq.mpr c18
                      have c18b1 : (t156 != a0) = false := bne_eq_false_iff_eq.mpr c18
                      clear c18
                      have H' := Aside0.mk H
                      clear H
                      go_wp2_with (first | ((with_reducible refine gate_callee (f := 22) rfl ?_); refine goesL_ (some 36) rfl rfl Try.func22 (by kernel_rfl) rfl #[.int .u32 t152] rfl (by (try simp only [List.map_toArray, List.map_cons, List.map_nil]); first | done | rfl | (simp only [List.length_drop, List.length_take]; rfl)) ?_; (with_reducible refine (slot_Locking.calls t152 t155 _ A15.out).mono ?_); rintro e w' ⟨rfl, ⟨nd, rfl⟩⟩; refine ⟨_, rfl, ?_⟩) | (go_at_call 18; (with_reducible refine (slot_Epoch.calls t152 t156 _ A17.out).mono ?_); rintro e w' ⟨rfl, ⟨nd, rfl⟩⟩))
                      go_roundg kj11
                      case measure => have := HK1.out; have := HJ11.out; omega
                      case rel => exact ⟨(x5_11), ((x20_1 + 1) % 4294967296), (by first | rfl | (simp; done) | (simp [*]; done)), (by first | rfl | (simp; done) | (simp [*]; done)), H', ⟨by have := HK1.out; have := HJ11.out; omega⟩, ⟨by repeat (first | (with_reducible first | exact HB.out | apply below_alloc | apply pw_below_drewN | apply below_drew1) | exact HB.out)⟩⟩
                    · rw [if_neg c18] at H
                      have c18b0 : (t156 == a0) = false := beq_eq_false_iff_ne.mpr c18
                      have c18b1 : (t156 != a0) = true := bne_iff_ne.mpr c18
                      obtain rfl := Option.some.inj H
                      go_wp2_with (first | ((with_reducible refine gate_callee (f := 22) rfl ?_); refine goesL_ (some 36) rfl rfl Try.func22 (by kernel_rfl) rfl #[.int .u32 t152] rfl (by (try simp only [List.map_toArray, List.map_cons, List.map_nil]); first | done | rfl | (simp only [List.length_drop, List.length_take]; rfl)) ?_; (with_reducible refine (slot_Locking.calls t152 t155 _ A15.out).mono ?_); rintro e w' ⟨rfl, ⟨nd, rfl⟩⟩; refine ⟨_, rfl, ?_⟩) | (go_at_call 18; (with_reducible refine (slot_Epoch.calls t152 t156 _ A17.out).mono ?_); rintro e w' ⟨rfl, ⟨nd, rfl⟩⟩))
                      go_ret
                      exact ⟨by first | rfl | (simp [errW_none, errW_some] <;> rfl) | (simp [*, errW_none, errW_some] <;> rfl), by repeat (first | (with_reducible first | exact HB.out | apply below_alloc | apply pw_below_drewN | apply below_drew1) | exact HB.out)⟩
            · rw [if_neg c10] at H
              have c10b0 : (t153 == 0) = false := beq_eq_false_iff_ne.mpr c10
              have c10b1 : (t153 != 0) = true := bne_iff_ne.mpr c10
              obtain rfl := Option.some.inj H
              go_wp2_with (first | ((with_reducible refine gate_callee (f := 16) rfl ?_); refine goesL_ (some 26) rfl rfl Try.func16 (by kernel_rfl) rfl #[.int .u32 t150, .int .u32 x20_1] rfl (by (try simp only [List.map_toArray, List.map_cons, List.map_nil]); first | done | rfl | (simp only [List.length_drop, List.length_take]; rfl)) ?_; (with_reducible refine (slot_Later.calls k1 t150 x20_1 t152 t153 _ A9.out).mono ?_); rintro e w19 ⟨rfl, hb⟩; refine ⟨_, rfl, ?_⟩; have n0_ := Aside0.mk (below_step (by repeat (first | (with_reducible first | exact HB.out | apply below_alloc | apply pw_below_drewN | apply below_drew1) | exact HB.out)) hb); clear HB; have HB := n0_; clear n0_; (try clear hb); (try clear hb2); (try clear hk); (try clear hi)))
              go_ret
              exact ⟨by first | rfl | (simp [errW_none, errW_some] <;> rfl) | (simp [*, errW_none, errW_some] <;> rfl), by repeat (first | (with_reducible first | exact HB.out | apply below_alloc | apply pw_below_drewN | apply below_drew1) | exact HB.out)⟩
          · rw [if_neg c8] at H
            have c8b0 : decide (x20_1 < 24) = false := decide_eq_false c8
            clear c8
            obtain rfl := Option.some.inj H
            go_wp2
            go_ret
            exact ⟨by first | rfl | (simp [errW_none, errW_some] <;> rfl) | (simp [*, errW_none, errW_some] <;> rfl), by repeat (first | (with_reducible first | exact HB.out | apply below_alloc | apply pw_below_drewN | apply below_drew1) | exact HB.out)⟩
    · rw [if_neg c5] at H
      have c5b0 : (t151 == 0) = false := beq_eq_false_iff_ne.mpr c5
      have c5b1 : (t151 != 0) = true := bne_iff_ne.mpr c5
      obtain rfl := Option.some.inj H
      go_enter Try.func5, Try.ntmps5
      go_wp2_with (first | ((with_reducible refine gate_callee (f := 13) rfl ?_); refine goesL_ (some 9) rfl rfl Try.func13 (by kernel_rfl) rfl #[] rfl (by (try simp only [List.map_toArray, List.map_cons, List.map_nil]); first | done | rfl | (simp only [List.length_drop, List.length_take]; rfl)) ?_; (with_reducible refine (almagestlaw05_awake.calls k  true _ A2.out).mono ?_); rintro e w20 ⟨rfl, hb⟩; refine ⟨_, rfl, ?_⟩; have n0_ := Aside0.mk (below_step (by repeat (first | (with_reducible first | exact HB.out | apply below_alloc | apply pw_below_drewN | apply below_drew1) | exact HB.out)) hb); clear HB; have HB := n0_; clear n0_; (try clear hb); (try clear hb2); (try clear hk); (try clear hi)) | ((with_reducible refine gate_callee (f := 14) rfl ?_); refine goesL_ (some 13) rfl rfl Try.func14 (by kernel_rfl) rfl #[.int .u32 a0] rfl (by (try simp only [List.map_toArray, List.map_cons, List.map_nil]); first | done | rfl | (simp only [List.length_drop, List.length_take]; rfl)) ?_; (with_reducible refine (slot_First.calls k a0 t150 t151 _ A4.out).mono ?_); rintro e w21 ⟨rfl, hb⟩; refine ⟨_, rfl, ?_⟩; have n0_ := Aside0.mk (below_step (by repeat (first | (with_reducible first | exact HB.out | apply below_alloc | apply pw_below_drewN | apply below_drew1) | exact HB.out)) hb); clear HB; have HB := n0_; clear n0_; (try clear hb); (try clear hb2); (try clear hk); (try clear hi)))
      go_ret
      exact ⟨by first | rfl | (simp [errW_none, errW_some] <;> rfl) | (simp [*, errW_none, errW_some] <;> rfl), by repeat (first | (with_reducible first | exact HB.out | apply below_alloc | apply pw_below_drewN | apply below_drew1) | exact HB.out)⟩
  · replace c3 := Bool.eq_false_iff.mpr c3
    subst c3
    have H1 : (some false) = some r := by rw [if_neg (show ¬ (false = true) by decide)] at H; exact H
    clear H
    have H := H1
    clear H1
    obtain rfl := Option.some.inj H
    go_enter Try.func5, Try.ntmps5
    go_wp2_with (first | ((with_reducible refine gate_callee (f := 13) rfl ?_); refine goesL_ (some 9) rfl rfl Try.func13 (by kernel_rfl) rfl #[] rfl (by (try simp only [List.map_toArray, List.map_cons, List.map_nil]); first | done | rfl | (simp only [List.length_drop, List.length_take]; rfl)) ?_; (with_reducible refine (almagestlaw05_awake.calls k  false _ A2.out).mono ?_); rintro e w22 ⟨rfl, hb⟩; refine ⟨_, rfl, ?_⟩; have n0_ := Aside0.mk (below_step (by repeat (first | (with_reducible first | exact HB.out | apply below_alloc | apply pw_below_drewN | apply below_drew1) | exact HB.out)) hb); clear HB; have HB := n0_; clear n0_; (try clear hb); (try clear hb2); (try clear hk); (try clear hi)))
    go_ret
    exact ⟨by first | rfl | (simp [errW_none, errW_some] <;> rfl) | (simp [*, errW_none, errW_some] <;> rfl), by repeat (first | (with_reducible first | exact HB.out | apply below_alloc | apply pw_below_drewN | apply below_drew1) | exact HB.out)⟩

/-- THE ONE PURE STATEMENT of almagestlaw05_SlotLocks: yours. -/
def almagestlaw05_SlotLocks.Pure : Prop := ∀ (a0 : Int), (Lit.int .u32 a0).wf = true → ∃ k, almagestlaw05_SlotLocks.f k a0 = some true
theorem almagestlaw05_SlotLocks.walk (P : almagestlaw05_SlotLocks.Pure) (a0 : Int) (w : World) (w0 : (Lit.int .u32 a0).wf = true) :
    Calls Try.prog 5 #[.int .u32 a0] w fun e w' => e = .returned (.bool true) ∧ Below w.heap.size w w' := by
  obtain ⟨k, h⟩ := P a0 w0
  refine (almagestlaw05_SlotLocks.calls k a0 true w h).mono ?_
  rintro e w' ⟨rfl, hd⟩
  exact ⟨rfl, hd⟩

end Go.Proofs.Ytaoelppkognakaa.PSlotLocks
