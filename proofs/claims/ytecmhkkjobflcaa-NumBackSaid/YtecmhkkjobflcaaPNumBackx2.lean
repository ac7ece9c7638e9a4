-- PRINTED BY print.sh 35421559b90ae4d0a3588c463048766b98c2df88dd9212a6774a882060cdf62d: not written by this session
import Derived.Test.YtecmhkkjobflcaaPNumBackx0
import Derived.Test.YtecmhkkjobflcaaPNumBackx1
namespace Go.Proofs.Ytecmhkkjobflcaa.PNumBack
open Go.RowKit Go.Proofs.YtecmhkkjobflcaaW.PrintWords Go.Proofs.YtecmhkkjobflcaaW.PrintLast Go.Proofs.YtecmhkkjobflcaaW.PrintMore
attribute [local go_sem] max2_int min2_int max_two min_two max_three min_three max_four min_four   -- for this text's walks alone
set_option linter.unusedVariables false
set_option linter.unusedSimpArgs false

/-! ### almagestlaw01_NumBack: function 3 -/
mutual
def almagestlaw01_NumBack.j0 : Nat → Int → Int → Int → Int → Int → Option (Bool)
  | 0, _, _, _, _, _ => none
  | k + 1, x0, x1, x2, x3, x4 => (num_Sub32.f x0 x1).bind fun bt131 => (if bt131.2 = true then ((num_Add32.f k bt131.1 x1).bind fun bt133 => (if bt133.1 = x0 then (if bt133.2 = true then (almagestlaw01_NumBack.j1 k x0 x2 x3 x4) else (some false)) else (some false))) else (almagestlaw01_NumBack.j1 k x0 x2 x3 x4))
def almagestlaw01_NumBack.j1 : Nat → Int → Int → Int → Int → Option (Bool)
  | 0, _, _, _, _ => none
  | k + 1, x0, x2, x3, x4 => (num_Split.f x2).bind fun bt135 => ((num_Narrow.f x2).bind fun bt137 => (if (bt137.2 != (bt135.1 == 0)) = true then (almagestlaw01_NumBack.j2 k x0 x2 x3 x4 bt135.1 bt135.2 true) else (if bt137.2 = true then (almagestlaw01_NumBack.j2 k x0 x2 x3 x4 bt135.1 bt135.2 (bt137.1 != bt135.2)) else (almagestlaw01_NumBack.j2 k x0 x2 x3 x4 bt135.1 bt135.2 false))))
def almagestlaw01_NumBack.j2 : Nat → Int → Int → Int → Int → Int → Int → Bool → Option (Bool)
  | 0, _, _, _, _, _, _, _ => none
  | k + 1, x0, x2, x3, x4, x19, x20, x87 => if x87 = true then (some false) else ((num_Join.f x19 x20).bind fun t139 => (if t139 = x2 then ((num_Turn.f x0 x3).bind fun t140 => ((num_Turn.f t140 (wrap64 (-(Int.tmod x3 32)))).bind fun t141 => (if t141 = x0 then ((num_Turn.f x0 (Int.tmod x3 32)).bind fun t142 => ((num_Turn.f t142 (wrap64 (32 - (Int.tmod x3 32)))).bind fun t143 => (if t143 = x0 then ((num_Unsigned.f x4).bind fun t144 => ((num_Signed.f t144).bind fun t145 => (if t145 = x4 then ((num_Signed.f x0).bind fun t146 => ((num_Unsigned.f t146).bind fun t147 => (some (t147 == x0)))) else (some false)))) else (some false)))) else (some false)))) else (some false)))
end
def almagestlaw01_NumBack.f (k : Nat) (a0 : Int) (a1 : Int) (a2 : Int) (a3 : Int) (a4 : Int) : Option (Bool) := (almagestlaw01_awake.f k).bind fun t126 => (if t126 = true then ((num_Add32.f k a0 a1).bind fun bt127 => (if bt127.2 = true then ((num_Sub32.f bt127.1 a1).bind fun bt129 => (if bt129.1 = a0 then (if bt129.2 = true then (almagestlaw01_NumBack.j0 k a0 a1 a2 a3 a4) else (some false)) else (some false))) else (almagestlaw01_NumBack.j0 k a0 a1 a2 a3 a4))) else (some false))
theorem almagestlaw01_NumBack.mono_l : ∀ k, (∀ y0 y1 y2 y3 y4, LeO (almagestlaw01_NumBack.j0 k y0 y1 y2 y3 y4) (almagestlaw01_NumBack.j0 (k + 1) y0 y1 y2 y3 y4)) ∧ (∀ y0 y1 y2 y3, LeO (almagestlaw01_NumBack.j1 k y0 y1 y2 y3) (almagestlaw01_NumBack.j1 (k + 1) y0 y1 y2 y3)) ∧ (∀ y0 y1 y2 y3 y4 y5 y6, LeO (almagestlaw01_NumBack.j2 k y0 y1 y2 y3 y4 y5 y6) (almagestlaw01_NumBack.j2 (k + 1) y0 y1 y2 y3 y4 y5 y6))
  | 0 => ⟨fun _ _ _ _ _ r h => by simp [almagestlaw01_NumBack.j0] at h, fun _ _ _ _ r h => by simp [almagestlaw01_NumBack.j1] at h, fun _ _ _ _ _ _ _ r h => by simp [almagestlaw01_NumBack.j2] at h⟩
  | k + 1 => by
    obtain ⟨ih0, ih1, ih2⟩ := almagestlaw01_NumBack.mono_l k
    refine ⟨?_, ?_, ?_⟩
    · intro y0 y1 y2 y3 y4
      unfold almagestlaw01_NumBack.j0
      repeat' first
      | (with_reducible exact ih0 _ _ _ _ _)
      | (with_reducible exact ih1 _ _ _ _)
      | (with_reducible exact ih2 _ _ _ _ _ _ _)
      | (with_reducible exact almagestlaw01_awake.mono _)
      | (with_reducible exact num_Add32.mono _ _ _)
      | (with_reducible exact LeO.refl _)
      | (with_reducible exact LeO.none _)
      | (with_reducible refine LeO.ite ?_ ?_)
      | (with_reducible refine LeO.bind ?_ (fun _ => ?_))
      | exact ih0 _ _ _ _ _
      | exact ih1 _ _ _ _
      | exact ih2 _ _ _ _ _ _ _
      | exact almagestlaw01_awake.mono _
      | exact num_Add32.mono _ _ _
      | exact LeO.none _
      | refine LeO.ite ?_ ?_
      | refine LeO.bind ?_ (fun _ => ?_)
    · intro y0 y1 y2 y3
      unfold almagestlaw01_NumBack.j1
      repeat' first
      | (with_reducible exact ih0 _ _ _ _ _)
      | (with_reducible exact ih1 _ _ _ _)
      | (with_reducible exact ih2 _ _ _ _ _ _ _)
      | (with_reducible exact almagestlaw01_awake.mono _)
      | (with_reducible exact num_Add32.mono _ _ _)
      | (with_reducible exact LeO.refl _)
      | (with_reducible exact LeO.none _)
      | (with_reducible refine LeO.ite ?_ ?_)
      | (with_reducible refine LeO.bind ?_ (fun _ => ?_))
      | exact ih0 _ _ _ _ _
      | exact ih1 _ _ _ _
      | exact ih2 _ _ _ _ _ _ _
      | exact almagestlaw01_awake.mono _
      | exact num_Add32.mono _ _ _
      | exact LeO.none _
      | refine LeO.ite ?_ ?_
      | refine LeO.bind ?_ (fun _ => ?_)
    · intro y0 y1 y2 y3 y4 y5 y6
      unfold almagestlaw01_NumBack.j2
      repeat' first
      | (with_reducible exact ih0 _ _ _ _ _)
      | (with_reducible exact ih1 _ _ _ _)
      | (with_reducible exact ih2 _ _ _ _ _ _ _)
      | (with_reducible exact almagestlaw01_awake.mono _)
      | (with_reducible exact num_Add32.mono _ _ _)
      | (with_reducible exact LeO.refl _)
      | (with_reducible exact LeO.none _)
      | (with_reducible refine LeO.ite ?_ ?_)
      | (with_reducible refine LeO.bind ?_ (fun _ => ?_))
      | exact ih0 _ _ _ _ _
      | exact ih1 _ _ _ _
      | exact ih2 _ _ _ _ _ _ _
      | exact almagestlaw01_awake.mono _
      | exact num_Add32.mono _ _ _
      | exact LeO.none _
      | refine LeO.ite ?_ ?_
      | refine LeO.bind ?_ (fun _ => ?_)
theorem almagestlaw01_NumBack.mono : ∀ a0 a1 a2 a3 a4 k, LeO (almagestlaw01_NumBack.f k a0 a1 a2 a3 a4) (almagestlaw01_NumBack.f (k + 1) a0 a1 a2 a3 a4) := by
  intro a0 a1 a2 a3 a4 k
  obtain ⟨ih0, ih1, ih2⟩ := almagestlaw01_NumBack.mono_l k
  unfold almagestlaw01_NumBack.f
  repeat' first
      | (with_reducible exact ih0 _ _ _ _ _)
      | (with_reducible exact ih1 _ _ _ _)
      | (with_reducible exact ih2 _ _ _ _ _ _ _)
      | (with_reducible exact almagestlaw01_awake.mono _)
      | (with_reducible exact num_Add32.mono _ _ _)
      | (with_reducible exact LeO.refl _)
      | (with_reducible exact LeO.none _)
      | (with_reducible refine LeO.ite ?_ ?_)
      | (with_reducible refine LeO.bind ?_ (fun _ => ?_))
      | exact ih0 _ _ _ _ _
      | exact ih1 _ _ _ _
      | exact ih2 _ _ _ _ _ _ _
      | exact almagestlaw01_awake.mono _
      | exact num_Add32.mono _ _ _
      | exact LeO.none _
      | refine LeO.ite ?_ ?_
      | refine LeO.bind ?_ (fun _ => ?_)
set_option maxHeartbeats 8000000 in
set_option maxRecDepth 100000 in
theorem almagestlaw01_NumBack.calls (k : Nat) (a0 : Int) (a1 : Int) (a2 : Int) (a3 : Int) (a4 : Int) (r : Bool) (w : World) (h : almagestlaw01_NumBack.f k a0 a1 a2 a3 a4 = some r) :
    Calls Try.prog 3 #[.int .u32 a0, .int .u32 a1, .int .u64 a2, .int .i64 a3, .int .i32 a4] w fun e w' => e = .returned (.bool r) ∧ Below w.heap.size w w' := by
  have HB := Aside0.mk (Below.refl w.heap.size w)
  have H : ((almagestlaw01_awake.f k).bind fun t126 => (if t126 = true then ((num_Add32.f k a0 a1).bind fun bt127 => (if bt127.2 = true then ((num_Sub32.f bt127.1 a1).bind fun bt129 => (if bt129.1 = a0 then (if bt129.2 = true then (almagestlaw01_NumBack.j0 k a0 a1 a2 a3 a4) else (some false)) else (some false))) else (almagestlaw01_NumBack.j0 k a0 a1 a2 a3 a4))) else (some false))) = some r := h
  clear h
  replace H := Option.bind_eq_some_iff.mp H
  obtain ⟨t126, A60, H⟩ := H
  replace H : (if t126 = true then ((num_Add32.f k a0 a1).bind fun bt127 => (if bt127.2 = true then ((num_Sub32.f bt127.1 a1).bind fun bt129 => (if bt129.1 = a0 then (if bt129.2 = true then (almagestlaw01_NumBack.j0 k a0 a1 a2 a3 a4) else (some false)) else (some false))) else (almagestlaw01_NumBack.j0 k a0 a1 a2 a3 a4))) else (some false)) = some r := H
  have A6 := Aside0.mk A60
  clear A60
  by_cases c7 : t126 = true
  · subst c7
    have H1 : ((num_Add32.f k a0 a1).bind fun bt127 => (if bt127.2 = true then ((num_Sub32.f bt127.1 a1).bind fun bt129 => (if bt129.1 = a0 then (if bt129.2 = true then (almagestlaw01_NumBack.j0 k a0 a1 a2 a3 a4) else (some false)) else (some false))) else (almagestlaw01_NumBack.j0 k a0 a1 a2 a3 a4))) = some r := by rw [if_pos rfl] at H; exact H
    clear H
    have H := H1
    clear H1
    replace H := Option.bind_eq_some_iff.mp H
    obtain ⟨⟨t127, t128⟩, A80, H⟩ := H
    replace H : (if t128 = true then ((num_Sub32.f t127 a1).bind fun bt129 => (if bt129.1 = a0 then (if bt129.2 = true then (almagestlaw01_NumBack.j0 k a0 a1 a2 a3 a4) else (some false)) else (some false))) else (almagestlaw01_NumBack.j0 k a0 a1 a2 a3 a4)) = some r := H
    have A8 := Aside0.mk A80
    clear A80
    have HC9 := Aside0.mk H
    clear H
    go_enter Try.func3, Try.ntmps3
    go_upto_if 32 with (first | ((with_reducible refine gate_callee (f := 9) rfl ?_); refine goesL_ (some 24) rfl rfl Try.func9 (by kernel_rfl) rfl #[] rfl (by (try simp only [List.map_toArray, List.map_cons, List.map_nil]); first | done | rfl | (simp only [List.length_drop, List.length_take]; rfl)) ?_; (with_reducible refine (almagestlaw01_awake.calls k  true _ A6.out).mono ?_); rintro e w10 ⟨rfl, hb⟩; refine ⟨_, rfl, ?_⟩; have n0_ := Aside0.mk (below_step (by repeat (first | (with_reducible first | exact HB.out | apply below_alloc | apply pw_below_drewN | apply below_drew1) | exact HB.out)) hb); clear HB; have HB := n0_; clear n0_; (try clear hb); (try clear hb2); (try clear hk); (try clear hi)) | ((with_reducible refine gate_callee (f := 10) rfl ?_); refine goesL_ (some 29) rfl rfl Try.func10 (by kernel_rfl) rfl #[.int .u32 a0, .int .u32 a1] rfl (by (try simp only [List.map_toArray, List.map_cons, List.map_nil]); first | done | rfl | (simp only [List.length_drop, List.length_take]; rfl)) ?_; (with_reducible refine (num_Add32.calls k a0 a1 t127 t128 _ A8.out).mono ?_); rintro e w11 ⟨rfl, hb⟩; refine ⟨_, rfl, ?_⟩; have n0_ := Aside0.mk (below_step (by repeat (first | (with_reducible first | exact HB.out | apply below_alloc | apply pw_below_drewN | apply below_drew1) | exact HB.out)) hb); clear HB; have HB := n0_; clear n0_; (try clear hb); (try clear hb2); (try clear hk); (try clear hi)))
    (try simp only [Act.put, List.setIfInBounds_toArray, List.set_cons_zero, List.set_cons_succ])
    go_cut [] (fun wc => ∃ (kq : Nat), Aside0 (almagestlaw01_NumBack.j0 kq a0 a1 a2 a3 a4 = some r) ∧ Aside0 (kq ≤ k) ∧ Aside0 (Below w.heap.size w wc))
    case first =>
      have H := HC9.out
      clear HC9
      by_cases c12 : t128 = true
      · subst c12
        have H1 : ((num_Sub32.f t127 a1).bind fun bt129 => (if bt129.1 = a0 then (if bt129.2 = true then (almagestlaw01_NumBack.j0 k a0 a1 a2 a3 a4) else (some false)) else (some false))) = some r := by rw [if_pos rfl] at H; exact H
        clear H
        have H := H1
        clear H1
        replace H := Option.bind_eq_some_iff.mp H
        obtain ⟨⟨t129, t130⟩, A130, H⟩ := H
        replace H : (if t129 = a0 then (if t130 = true then (almagestlaw01_NumBack.j0 k a0 a1 a2 a3 a4) else (some false)) else (some false)) = some r := H
        have A13 := Aside0.mk A130
        clear A130
        by_cases c14 : t129 = a0
        · rw [if_pos c14] at H
          have c14b0 : (t129 == a0) = true := beq_iff_eq.mpr c14
          have c14b1 : (t129 != a0) = false := bne_eq_false_iff_eq.mpr c14
          clear c14
          (first | rw [c14b0] | (simp only [i64_w, i32_w]; rw [c14b0]) | skip)
          by_cases c15 : t130 = true
          · subst c15
            have H1 : (almagestlaw01_NumBack.j0 k a0 a1 a2 a3 a4) = some r := by rw [if_pos rfl] at H; exact H
            clear H
            have H := H1
            clear H1
            have H' := Aside0.mk H
            clear H
            go_wp2_with (first | ((with_reducible refine gate_callee (f := 11) rfl ?_); refine goesL_ (some 36) rfl rfl Try.func11 (by kernel_rfl) rfl #[.int .u32 t127, .int .u32 a1] rfl (by (try simp only [List.map_toArray, List.map_cons, List.map_nil]); first | done | rfl | (simp only [List.length_drop, List.length_take]; rfl)) ?_; (with_reducible refine (num_Sub32.calls t127 a1 t129 true _ A13.out).mono ?_); rintro e w' ⟨rfl, ⟨nd, rfl⟩⟩; refine ⟨_, rfl, ?_⟩))
            go_meet
            case rel => exact ⟨_, H', ⟨by first | omega | exact Nat.le_refl _⟩, ⟨by repeat (first | (with_reducible first | exact HB.out | apply below_alloc | apply pw_below_drewN | apply below_drew1) | exact HB.out)⟩⟩
          · replace c15 := Bool.eq_false_iff.mpr c15
            subst c15
            have H1 : (some false) = some r := by rw [if_neg (show ¬ (false = true) by decide)] at H; exact H
            clear H
            have H := H1
            clear H1
            obtain rfl := Option.some.inj H
            go_wp2_with (first | ((with_reducible refine gate_callee (f := 11) rfl ?_); refine goesL_ (some 36) rfl rfl Try.func11 (by kernel_rfl) rfl #[.int .u32 t127, .int .u32 a1] rfl (by (try simp only [List.map_toArray, List.map_cons, List.map_nil]); first | done | rfl | (simp only [List.length_drop, List.length_take]; rfl)) ?_; (with_reducible refine (num_Sub32.calls t127 a1 t129 false _ A13.out).mono ?_); rintro e w' ⟨rfl, ⟨nd, rfl⟩⟩; refine ⟨_, rfl, ?_⟩))
            go_ret
            exact ⟨by first | rfl | (simp [errW_none, errW_some] <;> rfl) | (simp [*, errW_none, errW_some] <;> rfl), by repeat (first | (with_reducible first | exact HB.out | apply below_alloc | apply pw_below_drewN | apply below_drew1) | exact HB.out)⟩
        · rw [if_neg c14] at H
          have c14b0 : (t129 == a0) = false := beq_eq_false_iff_ne.mpr c14
          have c14b1 : (t129 != a0) = true := bne_iff_ne.mpr c14
          (first | rw [c14b0] | (simp only [i64_w, i32_w]; rw [c14b0]) | skip)
          obtain rfl := Option.some.inj H
          go_wp2_with (first | ((with_reducible refine gate_callee (f := 11) rfl ?_); refine goesL_ (some 36) rfl rfl Try.func11 (by kernel_rfl) rfl #[.int .u32 t127, .int .u32 a1] rfl (by (try simp only [List.map_toArray, List.map_cons, List.map_nil]); first | done | rfl | (simp only [List.length_drop, List.length_take]; rfl)) ?_; (with_reducible refine (num_Sub32.calls t127 a1 t129 t130 _ A13.out).mono ?_); rintro e w' ⟨rfl, ⟨nd, rfl⟩⟩; refine ⟨_, rfl, ?_⟩))
          go_ret
          exact ⟨by first | rfl | (simp [errW_none, errW_some] <;> rfl) | (simp [*, errW_none, errW_some] <;> rfl), by repeat (first | (with_reducible first | exact HB.out | apply below_alloc | apply pw_below_drewN | apply below_drew1) | exact HB.out)⟩
      · replace c12 := Bool.eq_false_iff.mpr c12
        subst c12
        have H1 : (almagestlaw01_NumBack.j0 k a0 a1 a2 a3 a4) = some r := by rw [if_neg (show ¬ (false = true) by decide)] at H; exact H
        clear H
        have H := H1
        clear H1
        have H' := Aside0.mk H
        clear H
        go_wp2
        go_meet
        case rel => exact ⟨_, H', ⟨by first | omega | exact Nat.le_refl _⟩, ⟨by repeat (first | (with_reducible first | exact HB.out | apply below_alloc | apply pw_below_drewN | apply below_drew1) | exact HB.out)⟩⟩
    case rest =>
      clear HC9
      try clear c1
      try clear p2
      try clear c3
      try clear c7
      try clear c9
      try clear c10
      try clear c11
      try clear c12
      try clear c14
      try clear c14b0
      try clear c14b1
      try clear c15
      obtain ⟨kq, HA, HJ8, HB⟩ := hcut
      cases kq with
      | zero => exact absurd HA.out (by simp [almagestlaw01_NumBack.j0])
      | succ kj8 =>
        have H := HA.out
        clear HA
        simp only [almagestlaw01_NumBack.j0] at H
        replace H := Option.bind_eq_some_iff.mp H
        obtain ⟨⟨t131, t132⟩, A160, H⟩ := H
        replace H : (if t132 = true then ((num_Add32.f kj8 t131 a1).bind fun bt133 => (if bt133.1 = a0 then (if bt133.2 = true then (almagestlaw01_NumBack.j1 kj8 a0 a2 a3 a4) else (some false)) else (some false))) else (almagestlaw01_NumBack.j1 kj8 a0 a2 a3 a4)) = some r := H
        have A16 := Aside0.mk A160
        clear A160
        have HC17 := Aside0.mk H
        clear H
        go_upto_if 52 with (first | ((with_reducible refine gate_callee (f := 11) rfl ?_); refine goesL_ (some 49) rfl rfl Try.func11 (by kernel_rfl) rfl #[.int .u32 a0, .int .u32 a1] rfl (by (try simp only [List.map_toArray, List.map_cons, List.map_nil]); first | done | rfl | (simp only [List.length_drop, List.length_take]; rfl)) ?_; (with_reducible refine (num_Sub32.calls a0 a1 t131 t132 _ A16.out).mono ?_); rintro e w' ⟨rfl, ⟨nd, rfl⟩⟩; refine ⟨_, rfl, ?_⟩))
        (try simp only [Act.put, List.setIfInBounds_toArray, List.set_cons_zero, List.set_cons_succ])
        go_cut [] (fun wc => ∃ (kq : Nat), Aside0 (almagestlaw01_NumBack.j1 kq a0 a2 a3 a4 = some r) ∧ Aside0 (kq ≤ kj8) ∧ Aside0 (Below w.heap.size w wc))
        case first =>
          have H := HC17.out
          clear HC17
          by_cases c18 : t132 = true
          · subst c18
            have H1 : ((num_Add32.f kj8 t131 a1).bind fun bt133 => (if bt133.1 = a0 then (if bt133.2 = true then (almagestlaw01_NumBack.j1 kj8 a0 a2 a3 a4) else (some false)) else (some false))) = some r := by rw [if_pos rfl] at H; exact H
            clear H
            have H := H1
            clear H1
            replace H := Option.bind_eq_some_iff.mp H
            obtain ⟨⟨t133, t134⟩, A190, H⟩ := H
            replace H : (if t133 = a0 then (if t134 = true then (almagestlaw01_NumBack.j1 kj8 a0 a2 a3 a4) else (some false)) else (some false)) = some r := H
            have A19 := Aside0.mk A190
            clear A190
            by_cases c20 : t133 = a0
            · rw [if_pos c20] at H
              have c20b0 : (t133 == a0) = true := beq_iff_eq.mpr c20
              have c20b1 : (t133 != a0) = false := bne_eq_false_iff_eq.mpr c20
              clear c20
              (first | rw [c20b0] | (simp only [i64_w, i32_w]; rw [c20b0]) | skip)
              by_cases c21 : t134 = true
              · subst c21
                have H1 : (almagestlaw01_NumBack.j1 kj8 a0 a2 a3 a4) = some r := by rw [if_pos rfl] at H; exact H
                clear H
                have H := H1
                clear H1
                have H' := Aside0.mk H
                clear H
                go_wp2_with (first | ((with_reducible refine gate_callee (f := 10) rfl ?_); refine goesL_ (some 56) rfl rfl Try.func10 (by kernel_rfl) rfl #[.int .u32 t131, .int .u32 a1] rfl (by (try simp only [List.map_toArray, List.map_cons, List.map_nil]); first | done | rfl | (simp only [List.length_drop, List.length_take]; rfl)) ?_; (with_reducible refine (num_Add32.calls kj8 t131 a1 t133 true _ A19.out).mono ?_); rintro e w22 ⟨rfl, hb⟩; refine ⟨_, rfl, ?_⟩; have n0_ := Aside0.mk (below_step (by repeat (first | (with_reducible first | exact HB.out | apply below_alloc | apply pw_below_drewN | apply below_drew1) | exact HB.out)) hb); clear HB; have HB := n0_; clear n0_; (try clear hb); (try clear hb2); (try clear hk); (try clear hi)))
                go_meet
                case rel => exact ⟨_, H', ⟨by have := HJ8.out; first | omega | exact Nat.le_refl _⟩, ⟨by repeat (first | (with_reducible first | exact HB.out | apply below_alloc | apply pw_below_drewN | apply below_drew1) | exact HB.out)⟩⟩
              · replace c21 := Bool.eq_false_iff.mpr c21
                subst c21
                have H1 : (some false) = some r := by rw [if_neg (show ¬ (false = true) by decide)] at H; exact H
                clear H
                have H := H1
                clear H1
                obtain rfl := Option.some.inj H
                go_wp2_with (first | ((with_reducible refine gate_callee (f := 10) rfl ?_); refine goesL_ (some 56) rfl rfl Try.func10 (by kernel_rfl) rfl #[.int .u32 t131, .int .u32 a1] rfl (by (try simp only [List.map_toArray, List.map_cons, List.map_nil]); first | done | rfl | (simp only [List.length_drop, List.length_take]; rfl)) ?_; (with_reducible refine (num_Add32.calls kj8 t131 a1 t133 false _ A19.out).mono ?_); rintro e w23 ⟨rfl, hb⟩; refine ⟨_, rfl, ?_⟩; have n0_ := Aside0.mk (below_step (by repeat (first | (with_reducible first | exact HB.out | apply below_alloc | apply pw_below_drewN | apply below_drew1) | exact HB.out)) hb); clear HB; have HB := n0_; clear n0_; (try clear hb); (try clear hb2); (try clear hk); (try clear hi)))
                go_ret
                exact ⟨by first | rfl | (simp [errW_none, errW_some] <;> rfl) | (simp [*, errW_none, errW_some] <;> rfl), by repeat (first | (with_reducible first | exact HB.out | apply below_alloc | apply pw_below_drewN | apply below_drew1) | exact HB.out)⟩
            · rw [if_neg c20] at H
              have c20b0 : (t133 == a0) = false := beq_eq_false_iff_ne.mpr c20
              have c20b1 : (t133 != a0) = true := bne_iff_ne.mpr c20
              (first | rw [c20b0] | (simp only [i64_w, i32_w]; rw [c20b0]) | skip)
              obtain rfl := Option.some.inj H
              go_wp2_with (first | ((with_reducible refine gate_callee (f := 10) rfl ?_); refine goesL_ (some 56) rfl rfl Try.func10 (by kernel_rfl) rfl #[.int .u32 t131, .int .u32 a1] rfl (by (try simp only [List.map_toArray, List.map_cons, List.map_nil]); first | done | rfl | (simp only [List.length_drop, List.length_take]; rfl)) ?_; (with_reducible refine (num_Add32.calls kj8 t131 a1 t133 t134 _ A19.out).mono ?_); rintro e w24 ⟨rfl, hb⟩; refine ⟨_, rfl, ?_⟩; have n0_ := Aside0.mk (below_step (by repeat (first | (with_reducible first | exact HB.out | apply below_alloc | apply pw_below_drewN | apply below_drew1) | exact HB.out)) hb); clear HB; have HB := n0_; clear n0_; (try clear hb); (try clear hb2); (try clear hk); (try clear hi)))
              go_ret
              exact ⟨by first | rfl | (simp [errW_none, errW_some] <;> rfl) | (simp [*, errW_none, errW_some] <;> rfl), by repeat (first | (with_reducible first | exact HB.out | apply below_alloc | apply pw_below_drewN | apply below_drew1) | exact HB.out)⟩
          · replace c18 := Bool.eq_false_iff.mpr c18
            subst c18
            have H1 : (almagestlaw01_NumBack.j1 kj8 a0 a2 a3 a4) = some r := by rw [if_neg (show ¬ (false = true) by decide)] at H; exact H
            clear H
            have H := H1
            clear H1
            have H' := Aside0.mk H
            clear H
            go_wp2
            go_meet
            case rel => exact ⟨_, H', ⟨by have := HJ8.out; first | omega | exact Nat.le_refl _⟩, ⟨by repeat (first | (with_reducible first | exact HB.out | apply below_alloc | apply pw_below_drewN | apply below_drew1) | exact HB.out)⟩⟩
        case rest =>
          clear HC17
          try clear c1
          try clear c2
          try clear p2
          try clear c3
          try clear c7
          try clear c9
          try clear c10
          try clear c11
          try clear c12
          try clear c14
          try clear c14b0
          try clear c14b1
          try clear c15
          try clear c18
          try clear c20
          try clear c20b0
          try clear c20b1
          try clear c21
          try clear p2
          obtain ⟨kq, HA, HJ16, HB⟩ := hcut
          cases kq with
          | zero => exact absurd HA.out (by simp [almagestlaw01_NumBack.j1])
          | succ kj16 =>
            have H := HA.out
            clear HA
            simp only [almagestlaw01_NumBack.j1] at H
            replace H := Option.bind_eq_some_iff.mp H
            obtain ⟨⟨t135, t136⟩, A250, H⟩ := H
            replace H : ((num_Narrow.f a2).bind fun bt137 => (if (bt137.2 != (t135 == 0)) = true then (almagestlaw01_NumBack.j2 kj16 a0 a2 a3 a4 t135 t136 true) else (if bt137.2 = true then (almagestlaw01_NumBack.j2 kj16 a0 a2 a3 a4 t135 t136 (bt137.1 != t136)) else (almagestlaw01_NumBack.j2 kj16 a0 a2 a3 a4 t135 t136 false)))) = some r := H
            have A25 := Aside0.mk A250
            clear A250
            replace H := Option.bind_eq_some_iff.mp H
            obtain ⟨⟨t137, t138⟩, A260, H⟩ := H
            replace H : (if (t138 != (t135 == 0)) = true then (almagestlaw01_NumBack.j2 kj16 a0 a2 a3 a4 t135 t136 true) else (if t138 = true then (almagestlaw01_NumBack.j2 kj16 a0 a2 a3 a4 t135 t136 (t137 != t136)) else (almagestlaw01_NumBack.j2 kj16 a0 a2 a3 a4 t135 t136 false))) = some r := H
            have A26 := Aside0.mk A260
            clear A260
            have HC27 := Aside0.mk H
            clear H
            go_upto_region 15 with (first | ((with_reducible refine gate_callee (f := 12) rfl ?_); refine goesL_ (some 68) rfl rfl Try.func12 (by kernel_rfl) rfl #[.int .u64 a2] rfl (by (try simp only [List.map_toArray, List.map_cons, List.map_nil]); first | done | rfl | (simp only [List.length_drop, List.length_take]; rfl)) ?_; (with_reducible refine (num_Split.calls a2 t135 t136 _ A25.out).mono ?_); rintro e w' ⟨rfl, ⟨nd, rfl⟩⟩; refine ⟨_, rfl, ?_⟩) | ((with_reducible refine gate_callee (f := 13) rfl ?_); refine goesL_ (some 73) rfl rfl Try.func13 (by kernel_rfl) rfl #[.int .u64 a2] rfl (by (try simp only [List.map_toArray, List.map_cons, List.map_nil]); first | done | rfl | (simp only [List.length_drop, List.length_take]; rfl)) ?_; (with_reducible refine (num_Narrow.calls a2 t137 t138 _ A26.out).mono ?_); rintro e w' ⟨rfl, ⟨nd, rfl⟩⟩; refine ⟨_, rfl, ?_⟩))
            (try simp only [Act.put, List.setIfInBounds_toArray, List.set_cons_zero, List.set_cons_succ])
            go_cut [87] (fun v87 wc => ∃ (kq : Nat) (x87_26 : Bool), v87 = .bool x87_26 ∧ Aside0 (almagestlaw01_NumBack.j2 kq a0 a2 a3 a4 t135 t136 x87_26 = some r) ∧ Aside0 (kq ≤ kj16) ∧ Aside0 (Below w.heap.size w wc))
            case first =>
              have H := HC27.out
              clear HC27
              by_cases c28 : (t138 != (t135 == 0)) = true
              · rw [if_pos c28] at H
                have c28b0 : (t138 != (t135 == 0)) = true := c28
                (try (have c28b1 : decide (t138 = (t135 == 0)) = false := by simpa using c28))
                (try (have c28b2 : (t138 == (t135 == 0)) = false := by simpa using c28))
                (try (have c28b3 : ¬ (t138 = (t135 == 0)) := by simpa using c28))
                clear c28
                (first | rw [c28b0] | (simp only [i64_w, i32_w]; rw [c28b0]) | skip)
                have H' := Aside0.mk H
                clear H
                go_wp2
                go_meet
                case rel => exact ⟨_, (true), (by first | rfl | (simp; done) | (simp [*]; done)), H', ⟨by have := HJ8.out; have := HJ16.out; first | omega | exact Nat.le_refl _⟩, ⟨by repeat (first | (with_reducible first | exact HB.out | apply below_alloc | apply pw_below_drewN | apply below_drew1) | exact HB.out)⟩⟩
              · rw [if_neg c28] at H
                have c28b0 : (t138 != (t135 == 0)) = false := by simpa using c28
                (try (have c28b1 : decide (t138 = (t135 == 0)) = true := by simpa using c28))
                (try (have c28b2 : (t138 == (t135 == 0)) = true := by simpa using c28))
                clear c28
                (first | rw [c28b0] | (simp only [i64_w, i32_w]; rw [c28b0]) | skip)
                by_cases c29 : t138 = true
                · subst c29
                  have H1 : (almagestlaw01_NumBack.j2 kj16 a0 a2 a3 a4 t135 t136 (t137 != t136)) = some r := by rw [if_pos rfl] at H; exact H
                  clear H
                  have H := H1
                  clear H1
                  have H' := Aside0.mk H
                  clear H
                  go_wp2
                  go_meet
                  case rel => exact ⟨_, ((t137 != t136)), (by first | rfl | (simp; done) | (simp [*]; done)), H', ⟨by have := HJ8.out; have := HJ16.out; first | omega | exact Nat.le_refl _⟩, ⟨by repeat (first | (with_reducible first | exact HB.out | apply below_alloc | apply pw_below_drewN | apply below_drew1) | exact HB.out)⟩⟩
                · replace c29 := Bool.eq_false_iff.mpr c29
                  subst c29
                  have H1 : (almagestlaw01_NumBack.j2 kj16 a0 a2 a3 a4 t135 t136 false) = some r := by rw [if_neg (show ¬ (false = true) by decide)] at H; exact H
                  clear H
                  have H := H1
                  clear H1
                  have H' := Aside0.mk H
                  clear H
                  go_wp2
                  go_meet
                  case rel => exact ⟨_, (false), (by first | rfl | (simp; done) | (simp [*]; done)), H', ⟨by have := HJ8.out; have := HJ16.out; first | omega | exact Nat.le_refl _⟩, ⟨by repeat (first | (with_reducible first | exact HB.out | apply below_alloc | apply pw_below_drewN | apply below_drew1) | exact HB.out)⟩⟩
            case rest =>
              clear HC27
              try clear c1
              try clear c2
              try clear p2
              try clear c3
              try clear c7
              try clear c9
              try clear c10
              try clear c11
              try clear c12
              try clear c13
              try clear c14
              try clear c14b0
              try clear c14b1
              try clear c15
              try clear c18
              try clear c20
              try clear c20b0
              try clear c20b1
              try clear c21
              try clear c28
              try clear c28b0
              try clear c28b1
              try clear c28b2
              try clear c29
              try clear p2
              obtain ⟨kq, x87_26, rfl, HA, HJ26, HB⟩ := hcut
              cases kq with
              | zero => exact absurd HA.out (by simp [almagestlaw01_NumBack.j2])
              | succ kj26 =>
                have H := HA.out
                clear HA
                simp only [almagestlaw01_NumBack.j2] at H
                by_cases c30 : x87_26 = true
                · subst c30
                  have H1 : (some false) = some r := by rw [if_pos rfl] at H; exact H
                  clear H
                  have H := H1
                  clear H1
                  obtain rfl := Option.some.inj H
                  go_wp2
                  go_ret
                  exact ⟨by first | rfl | (simp [errW_none, errW_some] <;> rfl) | (simp [*, errW_none, errW_some] <;> rfl), by repeat (first | (with_reducible first | exact HB.out | apply below_alloc | apply pw_below_drewN | apply below_drew1) | exact HB.out)⟩
                · replace c30 := Bool.eq_false_iff.mpr c30
                  subst c30
                  have H1 : ((num_Join.f t135 t136).bind fun t139 => (if t139 = a2 then ((num_Turn.f a0 a3).bind fun t140 => ((num_Turn.f t140 (wrap64 (-(Int.tmod a3 32)))).bind fun t141 => (if t141 = a0 then ((num_Turn.f a0 (Int.tmod a3 32)).bind fun t142 => ((num_Turn.f t142 (wrap64 (32 - (Int.tmod a3 32)))).bind fun t143 => (if t143 = a0 then ((num_Unsigned.f a4).bind fun t144 => ((num_Signed.f t144).bind fun t145 => (if t145 = a4 then ((num_Signed.f a0).bind fun t146 => ((num_Unsigned.f t146).bind fun t147 => (some (t147 == a0)))) else (some false)))) else (some false)))) else (some false)))) else (some false))) = some r := by rw [if_neg (show ¬ (false = true) by decide)] at H; exact H
                  clear H
                  have H := H1
                  clear H1
                  replace H := Option.bind_eq_some_iff.mp H
                  obtain ⟨t139, A310, H⟩ := H
                  replace H : (if t139 = a2 then ((num_Turn.f a0 a3).bind fun t140 => ((num_Turn.f t140 (wrap64 (-(Int.tmod a3 32)))).bind fun t141 => (if t141 = a0 then ((num_Turn.f a0 (Int.tmod a3 32)).bind fun t142 => ((num_Turn.f t142 (wrap64 (32 - (Int.tmod a3 32)))).bind fun t143 => (if t143 = a0 then ((num_Unsigned.f a4).bind fun t144 => ((num_Signed.f t144).bind fun t145 => (if t145 = a4 then ((num_Signed.f a0).bind fun t146 => ((num_Unsigned.f t146).bind fun t147 => (some (t147 == a0)))) else (some false)))) else (some false)))) else (some false)))) else (some false)) = some r := H
                  have A31 := Aside0.mk A310
                  clear A310
                  by_cases c32 : t139 = a2
                  · rw [if_pos c32] at H
                    have c32b0 : (t139 == a2) = true := beq_iff_eq.mpr c32
                    have c32b1 : (t139 != a2) = false := bne_eq_false_iff_eq.mpr c32
                    clear c32
                    replace H := Option.bind_eq_some_iff.mp H
                    obtain ⟨t140, A330, H⟩ := H
                    replace H : ((num_Turn.f t140 (wrap64 (-(Int.tmod a3 32)))).bind fun t141 => (if t141 = a0 then ((num_Turn.f a0 (Int.tmod a3 32)).bind fun t142 => ((num_Turn.f t142 (wrap64 (32 - (Int.tmod a3 32)))).bind fun t143 => (if t143 = a0 then ((num_Unsigned.f a4).bind fun t144 => ((num_Signed.f t144).bind fun t145 => (if t145 = a4 then ((num_Signed.f a0).bind fun t146 => ((num_Unsigned.f t146).bind fun t147 => (some (t147 == a0)))) else (some false)))) else (some false)))) else (some false))) = some r := H
                    have A33 := Aside0.mk A330
                    clear A330
                    replace H := Option.bind_eq_some_iff.mp H
                    obtain ⟨t141, A340, H⟩ := H
                    replace H : (if t141 = a0 then ((num_Turn.f a0 (Int.tmod a3 32)).bind fun t142 => ((num_Turn.f t142 (wrap64 (32 - (Int.tmod a3 32)))).bind fun t143 => (if t143 = a0 then ((num_Unsigned.f a4).bind fun t144 => ((num_Signed.f t144).bind fun t145 => (if t145 = a4 then ((num_Signed.f a0).bind fun t146 => ((num_Unsigned.f t146).bind fun t147 => (some (t147 == a0)))) else (some false)))) else (some false)))) else (some false)) = some r := H
                    have A34 := Aside0.mk A340
                    clear A340
                    by_cases c35 : t141 = a0
                    · rw [if_pos c35] at H
                      have c35b0 : (t141 == a0) = true := beq_iff_eq.mpr c35
                      have c35b1 : (t141 != a0) = false := bne_eq_false_iff_eq.mpr c35
                      clear c35
                      replace H := Option.bind_eq_some_iff.mp H
                      obtain ⟨t142, A360, H⟩ := H
                      replace H : ((num_Turn.f t142 (wrap64 (32 - (Int.tmod a3 32)))).bind fun t143 => (if t143 = a0 then ((num_Unsigned.f a4).bind fun t144 => ((num_Signed.f t144).bind fun t145 => (if t145 = a4 then ((num_Signed.f a0).bind fun t146 => ((num_Unsigned.f t146).bind fun t147 => (some (t147 == a0)))) else (some false)))) else (some false))) = some r := H
                      have A36 := Aside0.mk A360
                      clear A360
                      replace H := Option.bind_eq_some_iff.mp H
                      obtain ⟨t143, A370, H⟩ := H
                      replace H : (if t143 = a0 then ((num_Unsigned.f a4).bind fun t144 => ((num_Signed.f t144).bind fun t145 => (if t145 = a4 then ((num_Signed.f a0).bind fun t146 => ((num_Unsigned.f t146).bind fun t147 => (some (t147 == a0)))) else (some false)))) else (some false)) = some r := H
                      have A37 := Aside0.mk A370
                      clear A370
                      by_cases c38 : t143 = a0
                      · rw [if_pos c38] at H
                        have c38b0 : (t143 == a0) = true := beq_iff_eq.mpr c38
                        have c38b1 : (t143 != a0) = false := bne_eq_false_iff_eq.mpr c38
                        clear c38
                        replace H := Option.bind_eq_some_iff.mp H
                        obtain ⟨t144, A390, H⟩ := H
                        replace H : ((num_Signed.f t144).bind fun t145 => (if t145 = a4 then ((num_Signed.f a0).bind fun t146 => ((num_Unsigned.f t146).bind fun t147 => (some (t147 == a0)))) else (some false))) = some r := H
                        have A39 := Aside0.mk A390
                        clear A390
                        replace H := Option.bind_eq_some_iff.mp H
                        obtain ⟨t145, A400, H⟩ := H
                        replace H : (if t145 = a4 then ((num_Signed.f a0).bind fun t146 => ((num_Unsigned.f t146).bind fun t147 => (some (t147 == a0)))) else (some false)) = some r := H
                        have A40 := Aside0.mk A400
                        clear A400
                        by_cases c41 : t145 = a4
                        · rw [if_pos c41] at H
                          have c41b0 : (t145 == a4) = true := beq_iff_eq.mpr c41
                          have c41b1 : (t145 != a4) = false := bne_eq_false_iff_eq.mpr c41
                          clear c41
                          replace H := Option.bind_eq_some_iff.mp H
                          obtain ⟨t146, A420, H⟩ := H
                          replace H : ((num_Unsigned.f t146).bind fun t147 => (some (t147 == a0))) = some r := H
                          have A42 := Aside0.mk A420
                          clear A420
                          replace H := Option.bind_eq_some_iff.mp H
                          obtain ⟨t147, A430, H⟩ := H
                          replace H : (some (t147 == a0)) = some r := H
                          have A43 := Aside0.mk A430
                          clear A430
                          obtain rfl := Option.some.inj H
                          go_wp2_with (first | ((with_reducible refine gate_callee (f := 14) rfl ?_); refine goesL_ (some 92) rfl rfl Try.func14 (by kernel_rfl) rfl #[.int .u32 t135, .int .u32 t136] rfl (by (try simp only [List.map_toArray, List.map_cons, List.map_nil]); first | done | rfl | (simp only [List.length_drop, List.length_take]; rfl)) ?_; (with_reducible refine (num_Join.calls t135 t136 t139 _ A31.out).mono ?_); rintro e w' ⟨rfl, ⟨nd, rfl⟩⟩; refine ⟨_, rfl, ?_⟩) | (go_at_call 15; (with_reducible refine (num_Turn.calls a0 a3 t140 _ A33.out).mono ?_); rintro e w' ⟨rfl, ⟨nd, rfl⟩⟩) | (go_at_call 15; (with_reducible refine (num_Turn.calls t140 (wrap64 (-(Int.tmod a3 32))) t141 _ A34.out).mono ?_); rintro e w' ⟨rfl, ⟨nd, rfl⟩⟩) | (go_at_call 15; (with_reducible refine (num_Turn.calls a0 (Int.tmod a3 32) t142 _ A36.out).mono ?_); rintro e w' ⟨rfl, ⟨nd, rfl⟩⟩) | (go_at_call 15; (with_reducible refine (num_Turn.calls t142 (wrap64 (32 - (Int.tmod a3 32))) t143 _ A37.out).mono ?_); rintro e w' ⟨rfl, ⟨nd, rfl⟩⟩) | (go_at_call 17; (with_reducible refine (num_Unsigned.calls a4 t144 _ A39.out).mono ?_); rintro e w' ⟨rfl, ⟨nd, rfl⟩⟩) | (go_at_call 16; (with_reducible refine (num_Signed.calls t144 t145 _ A40.out).mono ?_); rintro e w' ⟨rfl, ⟨nd, rfl⟩⟩) | (go_at_call 16; (with_reducible refine (num_Signed.calls a0 t146 _ A42.out).mono ?_); rintro e w' ⟨rfl, ⟨nd, rfl⟩⟩) | (go_at_call 17; (with_reducible refine (num_Unsigned.calls t146 t147 _ A43.out).mono ?_); rintro e w' ⟨rfl, ⟨nd, rfl⟩⟩))
                          go_ret
                          exact ⟨by first | rfl | (simp [errW_none, errW_some] <;> rfl) | (simp [*, errW_none, errW_some] <;> rfl), by repeat (first | (with_reducible first | exact HB.out | apply below_alloc | apply pw_below_drewN | apply below_drew1) | exact HB.out)⟩
                        · rw [if_neg c41] at H
                          have c41b0 : (t145 == a4) = false := beq_eq_false_iff_ne.mpr c41
                          have c41b1 : (t145 != a4) = true := bne_iff_ne.mpr c41
                          obtain rfl := Option.some.inj H
                          go_wp2_with (first | ((with_reducible refine gate_callee (f := 14) rfl ?_); refine goesL_ (some 92) rfl rfl Try.func14 (by kernel_rfl) rfl #[.int .u32 t135, .int .u32 t136] rfl (by (try simp only [List.map_toArray, List.map_cons, List.map_nil]); first | done | rfl | (simp only [List.length_drop, List.length_take]; rfl)) ?_; (with_reducible refine (num_Join.calls t135 t136 t139 _ A31.out).mono ?_); rintro e w' ⟨rfl, ⟨nd, rfl⟩⟩; refine ⟨_, rfl, ?_⟩) | (go_at_call 15; (with_reducible refine (num_Turn.calls a0 a3 t140 _ A33.out).mono ?_); rintro e w' ⟨rfl, ⟨nd, rfl⟩⟩) | (go_at_call 15; (with_reducible refine (num_Turn.calls t140 (wrap64 (-(Int.tmod a3 32))) t141 _ A34.out).mono ?_); rintro e w' ⟨rfl, ⟨nd, rfl⟩⟩) | (go_at_call 15; (with_reducible refine (num_Turn.calls a0 (Int.tmod a3 32) t142 _ A36.out).mono ?_); rintro e w' ⟨rfl, ⟨nd, rfl⟩⟩) | (go_at_call 15; (with_reducible refine (num_Turn.calls t142 (wrap64 (32 - (Int.tmod a3 32))) t143 _ A37.out).mono ?_); rintro e w' ⟨rfl, ⟨nd, rfl⟩⟩) | (go_at_call 17; (with_reducible refine (num_Unsigned.calls a4 t144 _ A39.out).mono ?_); rintro e w' ⟨rfl, ⟨nd, rfl⟩⟩) | (go_at_call 16; (with_reducible refine (num_Signed.calls t144 t145 _ A40.out).mono ?_); rintro e w' ⟨rfl, ⟨nd, rfl⟩⟩))
                          go_ret
                          exact ⟨by first | rfl | (simp [errW_none, errW_some] <;> rfl) | (simp [*, errW_none, errW_some] <;> rfl), by repeat (first | (with_reducible first | exact HB.out | apply below_alloc | apply pw_below_drewN | apply below_drew1) | exact HB.out)⟩
                      · rw [if_neg c38] at H
                        have c38b0 : (t143 == a0) = false := beq_eq_false_iff_ne.mpr c38
                        have c38b1 : (t143 != a0) = true := bne_iff_ne.mpr c38
                        obtain rfl := Option.some.inj H
                        go_wp2_with (first | ((with_reducible refine gate_callee (f := 14) rfl ?_); refine goesL_ (some 92) rfl rfl Try.func14 (by kernel_rfl) rfl #[.int .u32 t135, .int .u32 t136] rfl (by (try simp only [List.map_toArray, List.map_cons, List.map_nil]); first | done | rfl | (simp only [List.length_drop, List.length_take]; rfl)) ?_; (with_reducible refine (num_Join.calls t135 t136 t139 _ A31.out).mono ?_); rintro e w' ⟨rfl, ⟨nd, rfl⟩⟩; refine ⟨_, rfl, ?_⟩) | (go_at_call 15; (with_reducible refine (num_Turn.calls a0 a3 t140 _ A33.out).mono ?_); rintro e w' ⟨rfl, ⟨nd, rfl⟩⟩) | (go_at_call 15; (with_reducible refine (num_Turn.calls t140 (wrap64 (-(Int.tmod a3 32))) t141 _ A34.out).mono ?_); rintro e w' ⟨rfl, ⟨nd, rfl⟩⟩) | (go_at_call 15; (with_reducible refine (num_Turn.calls a0 (Int.tmod a3 32) t142 _ A36.out).mono ?_); rintro e w' ⟨rfl, ⟨nd, rfl⟩⟩) | (go_at_call 15; (with_reducible refine (num_Turn.calls t142 (wrap64 (32 - (Int.tmod a3 32))) t143 _ A37.out).mono ?_); rintro e w' ⟨rfl, ⟨nd, rfl⟩⟩))
                        go_ret
                        exact ⟨by first | rfl | (simp [errW_none, errW_some] <;> rfl) | (simp [*, errW_none, errW_some] <;> rfl), by repeat (first | (with_reducible first | exact HB.out | apply below_alloc | apply pw_below_drewN | apply below_drew1) | exact HB.out)⟩
                    · rw [if_neg c35] at H
                      have c35b0 : (t141 == a0) = false := beq_eq_false_iff_ne.mpr c35
                      have c35b1 : (t141 != a0) = true := bne_iff_ne.mpr c35
                      obtain rfl := Option.some.inj H
                      go_wp2_with (first | ((with_reducible refine gate_callee (f := 14) rfl ?_); refine goesL_ (some 92) rfl rfl Try.func14 (by kernel_rfl) rfl #[.int .u32 t135, .int .u32 t136] rfl (by (try simp only [List.map_toArray, List.map_cons, List.map_nil]); first | done | rfl | (simp only [List.length_drop, List.length_take]; rfl)) ?_; (with_reducible refine (num_Join.calls t135 t136 t139 _ A31.out).mono ?_); rintro e w' ⟨rfl, ⟨nd, rfl⟩⟩; refine ⟨_, rfl, ?_⟩) | (go_at_call 15; (with_reducible refine (num_Turn.calls a0 a3 t140 _ A33.out).mono ?_); rintro e w' ⟨rfl, ⟨nd, rfl⟩⟩) | (go_at_call 15; (with_reducible refine (num_Turn.calls t140 (wrap64 (-(Int.tmod a3 32))) t141 _ A34.out).mono ?_); rintro e w' ⟨rfl, ⟨nd, rfl⟩⟩))
                      go_ret
                      exact ⟨by first | rfl | (simp [errW_none, errW_some] <;> rfl) | (simp [*, errW_none, errW_some] <;> rfl), by repeat (first | (with_reducible first | exact HB.out | apply below_alloc | apply pw_below_drewN | apply below_drew1) | exact HB.out)⟩
                  · rw [if_neg c32] at H
                    have c32b0 : (t139 == a2) = false := beq_eq_false_iff_ne.mpr c32
                    have c32b1 : (t139 != a2) = true := bne_iff_ne.mpr c32
                    obtain rfl := Option.some.inj H
                    go_wp2_with (first | ((with_reducible refine gate_callee (f := 14) rfl ?_); refine goesL_ (some 92) rfl rfl Try.func14 (by kernel_rfl) rfl #[.int .u32 t135, .int .u32 t136] rfl (by (try simp only [List.map_toArray, List.map_cons, List.map_nil]); first | done | rfl | (simp only [List.length_drop, List.length_take]; rfl)) ?_; (with_reducible refine (num_Join.calls t135 t136 t139 _ A31.out).mono ?_); rintro e w' ⟨rfl, ⟨nd, rfl⟩⟩; refine ⟨_, rfl, ?_⟩))
                    go_ret
                    exact ⟨by first | rfl | (simp [errW_none, errW_some] <;> rfl) | (simp [*, errW_none, errW_some] <;> rfl), by repeat (first | (with_reducible first | exact HB.out | apply below_alloc | apply pw_below_drewN | apply below_drew1) | exact HB.out)⟩
  · replace c7 := Bool.eq_false_iff.mpr c7
    subst c7
    have H1 : (some false) = some r := by rw [if_neg (show ¬ (false = true) by decide)] at H; exact H
    clear H
    have H := H1
    clear H1
    obtain rfl := Option.some.inj H
    go_enter Try.func3, Try.ntmps3
    go_wp2_with (first | ((with_reducible refine gate_callee (f := 9) rfl ?_); refine goesL_ (some 24) rfl rfl Try.func9 (by kernel_rfl) rfl #[] rfl (by (try simp only [List.map_toArray, List.map_cons, List.map_nil]); first | done | rfl | (simp only [List.length_drop, List.length_take]; rfl)) ?_; (with_reducible refine (almagestlaw01_awake.calls k  false _ A6.out).mono ?_); rintro e w44 ⟨rfl, hb⟩; refine ⟨_, rfl, ?_⟩; have n0_ := Aside0.mk (below_step (by repeat (first | (with_reducible first | exact HB.out | apply below_alloc | apply pw_below_drewN | apply below_drew1) | exact HB.out)) hb); clear HB; have HB := n0_; clear n0_; (try clear hb); (try clear hb2); (try clear hk); (try clear hi)))
    go_ret
    exact ⟨by first | rfl | (simp [errW_none, errW_some] <;> rfl) | (simp [*, errW_none, errW_some] <;> rfl), by repeat (first | (with_reducible first | exact HB.out | apply below_alloc | apply pw_below_drewN | apply below_drew1) | exact HB.out)⟩

/-- THE ONE PURE STATEMENT of almagestlaw01_NumBack: yours. -/
def almagestlaw01_NumBack.Pure : Prop := ∀ (a0 : Int) (a1 : Int) (a2 : Int) (a3 : Int) (a4 : Int), (Lit.int .u32 a0).wf = true → (Lit.int .u32 a1).wf = true → (Lit.int .u64 a2).wf = true → (Lit.int .i64 a3).wf = true → (Lit.int .i32 a4).wf = true → ∃ k, almagestlaw01_NumBack.f k a0 a1 a2 a3 a4 = some true
theorem almagestlaw01_NumBack.walk (P : almagestlaw01_NumBack.Pure) (a0 : Int) (a1 : Int) (a2 : Int) (a3 : Int) (a4 : Int) (w : World) (w0 : (Lit.int .u32 a0).wf = true) (w1 : (Lit.int .u32 a1).wf = true) (w2 : (Lit.int .u64 a2).wf = true) (w3 : (Lit.int .i64 a3).wf = true) (w4 : (Lit.int .i32 a4).wf = true) :
    Calls Try.prog 3 #[.int .u32 a0, .int .u32 a1, .int .u64 a2, .int .i64 a3, .int .i32 a4] w fun e w' => e = .returned (.bool true) ∧ Below w.heap.size w w' := by
  obtain ⟨k, h⟩ := P a0 a1 a2 a3 a4 w0 w1 w2 w3 w4
  refine (almagestlaw01_NumBack.calls k a0 a1 a2 a3 a4 true w h).mono ?_
  rintro e w' ⟨rfl, hd⟩
  exact ⟨rfl, hd⟩

end Go.Proofs.Ytecmhkkjobflcaa.PNumBack
