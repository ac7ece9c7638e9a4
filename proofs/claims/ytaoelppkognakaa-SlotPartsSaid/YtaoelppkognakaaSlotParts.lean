/- SlotParts returns true for every slot, and changes nothing that was there. No condition. -/
import Derived.Test.YtaoelppkognakaaSlotAwake
namespace Go.Proofs.Ytaoelppkognakaa.Slot
open Go.RowKit Go.Proofs.Ytaoelppkognakaa.Num
set_option linter.unusedVariables false
set_option maxRecDepth 100000
set_option maxHeartbeats 2000000 in
theorem slotParts_max (w : World) :
    Calls Try.prog 4 #[.int .u32 4294967295] w fun e w' => e = .returned (.bool true) ∧ Below w.heap.size w w' := by
  go_enter Try.func4, Try.ntmps4
  go_wp2_with fail
  refine (awake_c _).mono ?_
  rintro e w1 ⟨rfl, hb1⟩
  go_wp2_with fail
  refine (epoch_c _ (by decide) (by decide) _).mono ?_
  rintro e w' ⟨rfl, k, rfl⟩
  go_wp2_with fail
  refine (first_c _ (by decide) (by decide) _).mono ?_
  rintro e w2 ⟨rfl, hb2⟩
  rw [show fit (178956970 * 24) = 4294967280 from by decide, show over (178956970 * 24) = 0 from by decide]
  go_wp2_with (first | (go_at_call 20; refine (place_c _ (by decide) (by decide) _).mono ?_; rintro e w' ⟨rfl, k, rfl⟩))
  go_returns
  exact ⟨rfl, drw (sed hb1 hb2) _⟩

set_option maxHeartbeats 2000000 in
theorem slotParts_turn (s : Int) (s0 : 0 ≤ s) (s1 : s < 4294967295) (h : (s + 1) % 24 = 0) (w : World) :
    Calls Try.prog 4 #[.int .u32 s] w fun e w' => e = .returned (.bool true) ∧ Below w.heap.size w w' := by
  have h24 : ((s + 1) % 24 == 0) = true := by rw [beq_iff_eq]; exact h
  have h3 : ((s + 1) % 3 == 0) = true := by rw [beq_iff_eq]; omega
  have hs : (s / 24 + 1) = (s + 1) / 24 := by omega
  go_enter Try.func4, Try.ntmps4
  go_wp2_with fail
  refine (awake_c _).mono ?_
  rintro e w1 ⟨rfl, hb1⟩
  go_wp2_with fail
  refine (epoch_c s s0 (by omega) _).mono ?_
  rintro e w' ⟨rfl, k, rfl⟩
  go_wp2_with fail
  refine (first_c _ (by omega) (by omega) _).mono ?_
  rintro e w2 ⟨rfl, hb2⟩
  rw [show fit (s / 24 * 24) = s / 24 * 24 from by unfold fit; omega, show over (s / 24 * 24) = 0 from by unfold over; omega]
  go_wp2_with fail
  refine (place_c s s0 (by omega) _).mono ?_
  rintro e w' ⟨rfl, k, rfl⟩
  go_wp2_with fail
  refine (place_c s s0 (by omega) _).mono ?_
  rintro e w' ⟨rfl, k, rfl⟩
  go_wp2_with fail
  refine (later_c s 1 s0 (by omega) (by decide) (by decide) _).mono ?_
  rintro e w3 ⟨rfl, hb3⟩
  rw [show fit (s + 1) = s + 1 from by unfold fit; omega, show over (s + 1) = 0 from by unfold over; omega]
  go_wp2_with fail
  refine (place_c (s + 1) (by omega) (by omega) _).mono ?_
  rintro e w' ⟨rfl, k, rfl⟩
  go_wp2_with fail
  refine (turns_c s (s + 1) s0 (by omega) (by omega) (by omega) _).mono ?_
  rintro e w' ⟨rfl, k, rfl⟩
  rw [show turnB s (s + 1) = true from by unfold turnB; simp; omega]
  go_wp2_with fail
  refine (turns_c (s + 1) s (by omega) (by omega) s0 (by omega) _).mono ?_
  rintro e w' ⟨rfl, k, rfl⟩
  rw [show turnB (s + 1) s = false from by unfold turnB; simp; omega]
  go_wp2_with (first | (go_at_call 18; refine (epoch_c _ (by omega) (by omega) _).mono ?_; rintro e w' ⟨rfl, k, rfl⟩) | (go_at_call 24; refine (sub_c _ (by omega) (by omega) _).mono ?_; rintro e w' ⟨rfl, k, rfl⟩) | (go_at_call 26; refine (ring_c _ (by omega) (by omega) _).mono ?_; rintro e w' ⟨rfl, k, rfl⟩))
  go_returns
  exact ⟨by first | rfl | (simp; omega), drw (sed (sed hb1 hb2) hb3) _⟩

set_option maxHeartbeats 2000000 in
theorem slotParts_other (s : Int) (s0 : 0 ≤ s) (s1 : s < 4294967295) (h : ¬ (s + 1) % 24 = 0) (g : (s + 1) % 3 = 0) (w : World) :
    Calls Try.prog 4 #[.int .u32 s] w fun e w' => e = .returned (.bool true) ∧ Below w.heap.size w w' := by
  have h24 : ((s + 1) % 24 == 0) = false := by rw [beq_eq_false_iff_ne]; exact h
  have h3 : ((s + 1) % 3 == 0) = true := by rw [beq_iff_eq]; omega
  go_enter Try.func4, Try.ntmps4
  go_wp2_with fail
  refine (awake_c _).mono ?_
  rintro e w1 ⟨rfl, hb1⟩
  go_wp2_with fail
  refine (epoch_c s s0 (by omega) _).mono ?_
  rintro e w' ⟨rfl, k, rfl⟩
  go_wp2_with fail
  refine (first_c _ (by omega) (by omega) _).mono ?_
  rintro e w2 ⟨rfl, hb2⟩
  rw [show fit (s / 24 * 24) = s / 24 * 24 from by unfold fit; omega, show over (s / 24 * 24) = 0 from by unfold over; omega]
  go_wp2_with fail
  refine (place_c s s0 (by omega) _).mono ?_
  rintro e w' ⟨rfl, k, rfl⟩
  go_wp2_with fail
  refine (place_c s s0 (by omega) _).mono ?_
  rintro e w' ⟨rfl, k, rfl⟩
  go_wp2_with fail
  refine (later_c s 1 s0 (by omega) (by decide) (by decide) _).mono ?_
  rintro e w3 ⟨rfl, hb3⟩
  rw [show fit (s + 1) = s + 1 from by unfold fit; omega, show over (s + 1) = 0 from by unfold over; omega]
  go_wp2_with fail
  refine (place_c (s + 1) (by omega) (by omega) _).mono ?_
  rintro e w' ⟨rfl, k, rfl⟩
  go_wp2_with fail
  refine (turns_c s (s + 1) s0 (by omega) (by omega) (by omega) _).mono ?_
  rintro e w' ⟨rfl, k, rfl⟩
  rw [show turnB s (s + 1) = false from by unfold turnB; simp; omega]
  go_wp2_with fail
  refine (turns_c (s + 1) s (by omega) (by omega) s0 (by omega) _).mono ?_
  rintro e w' ⟨rfl, k, rfl⟩
  rw [show turnB (s + 1) s = false from by unfold turnB; simp; omega]
  go_wp2_with (first | (go_at_call 18; refine (epoch_c _ (by omega) (by omega) _).mono ?_; rintro e w' ⟨rfl, k, rfl⟩) | (go_at_call 24; refine (sub_c _ (by omega) (by omega) _).mono ?_; rintro e w' ⟨rfl, k, rfl⟩) | (go_at_call 26; refine (ring_c _ (by omega) (by omega) _).mono ?_; rintro e w' ⟨rfl, k, rfl⟩))
  go_returns
  exact ⟨by first | rfl | (simp; omega), drw (sed (sed hb1 hb2) hb3) _⟩

set_option maxHeartbeats 2000000 in
theorem slotParts_same (s : Int) (s0 : 0 ≤ s) (s1 : s < 4294967295) (h : ¬ (s + 1) % 24 = 0) (g : ¬ (s + 1) % 3 = 0) (w : World) :
    Calls Try.prog 4 #[.int .u32 s] w fun e w' => e = .returned (.bool true) ∧ Below w.heap.size w w' := by
  have h24 : ((s + 1) % 24 == 0) = false := by rw [beq_eq_false_iff_ne]; exact h
  have h3 : ((s + 1) % 3 == 0) = false := by rw [beq_eq_false_iff_ne]; exact g
  go_enter Try.func4, Try.ntmps4
  go_wp2_with fail
  refine (awake_c _).mono ?_
  rintro e w1 ⟨rfl, hb1⟩
  go_wp2_with fail
  refine (epoch_c s s0 (by omega) _).mono ?_
  rintro e w' ⟨rfl, k, rfl⟩
  go_wp2_with fail
  refine (first_c _ (by omega) (by omega) _).mono ?_
  rintro e w2 ⟨rfl, hb2⟩
  rw [show fit (s / 24 * 24) = s / 24 * 24 from by unfold fit; omega, show over (s / 24 * 24) = 0 from by unfold over; omega]
  go_wp2_with fail
  refine (place_c s s0 (by omega) _).mono ?_
  rintro e w' ⟨rfl, k, rfl⟩
  go_wp2_with fail
  refine (place_c s s0 (by omega) _).mono ?_
  rintro e w' ⟨rfl, k, rfl⟩
  go_wp2_with fail
  refine (later_c s 1 s0 (by omega) (by decide) (by decide) _).mono ?_
  rintro e w3 ⟨rfl, hb3⟩
  rw [show fit (s + 1) = s + 1 from by unfold fit; omega, show over (s + 1) = 0 from by unfold over; omega]
  go_wp2_with fail
  refine (place_c (s + 1) (by omega) (by omega) _).mono ?_
  rintro e w' ⟨rfl, k, rfl⟩
  go_wp2_with fail
  refine (turns_c s (s + 1) s0 (by omega) (by omega) (by omega) _).mono ?_
  rintro e w' ⟨rfl, k, rfl⟩
  rw [show turnB s (s + 1) = false from by unfold turnB; simp; omega]
  go_wp2_with fail
  refine (turns_c (s + 1) s (by omega) (by omega) s0 (by omega) _).mono ?_
  rintro e w' ⟨rfl, k, rfl⟩
  rw [show turnB (s + 1) s = false from by unfold turnB; simp; omega]
  go_wp2_with (first | (go_at_call 18; refine (epoch_c _ (by omega) (by omega) _).mono ?_; rintro e w' ⟨rfl, k, rfl⟩) | (go_at_call 24; refine (sub_c _ (by omega) (by omega) _).mono ?_; rintro e w' ⟨rfl, k, rfl⟩) | (go_at_call 26; refine (ring_c _ (by omega) (by omega) _).mono ?_; rintro e w' ⟨rfl, k, rfl⟩))
  go_returns
  exact ⟨by first | rfl | (simp; omega), drw (sed (sed hb1 hb2) hb3) _⟩

theorem slotParts_c (s : Int) (s0 : 0 ≤ s) (s1 : s < 4294967296) (w : World) :
    Calls Try.prog 4 #[.int .u32 s] w fun e w' => e = .returned (.bool true) ∧ Below w.heap.size w w' := by
  by_cases hm : s = 4294967295
  · subst hm; exact slotParts_max w
  · by_cases h : (s + 1) % 24 = 0
    · exact slotParts_turn s s0 (by omega) h w
    · by_cases g : (s + 1) % 3 = 0
      · exact slotParts_other s s0 (by omega) h g w
      · exact slotParts_same s s0 (by omega) h g w
end Go.Proofs.Ytaoelppkognakaa.Slot
