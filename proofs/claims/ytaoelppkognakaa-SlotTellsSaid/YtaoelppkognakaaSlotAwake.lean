/- The calls by which the statements on slots ask whether the program is awake answer true. -/
import Derived.Test.YtaoelppkognakaaSlot
namespace Go.Proofs.Ytaoelppkognakaa.Slot
open Go.RowKit Go.Proofs.Ytaoelppkognakaa.Num
set_option linter.unusedVariables false
set_option maxRecDepth 100000
set_option maxHeartbeats 1000000 in
theorem awake_c (w : World) :
    Calls Try.prog 13 #[] w fun e w' => e = .returned (.bool true) ∧ Below w.heap.size w w' := by
  go_enter Try.func13, Try.ntmps13
  go_wp2_with fail
  refine (first_c 2 (by decide) (by decide) _).mono ?_
  rintro e w1 ⟨rfl, hb1⟩
  rw [show fit (2 * 24) = 48 from by decide, show over (2 * 24) = 0 from by decide]
  go_wp2_with fail
  refine (first_c 1073741824 (by decide) (by decide) _).mono ?_
  rintro e w2 ⟨rfl, hb2⟩
  rw [show fit (1073741824 * 24) = 0 from by decide, show over (1073741824 * 24) = 5 from by decide]
  go_wp2_with fail
  refine (later_c 5 6 (by decide) (by decide) (by decide) (by decide) _).mono ?_
  rintro e w3 ⟨rfl, hb3⟩
  rw [show fit (5 + 6) = 11 from by decide, show over (5 + 6) = 0 from by decide]
  go_wp2_with (first | (go_at_call 18; refine (epoch_c _ (by decide) (by decide) _).mono ?_; rintro e w' ⟨rfl, k, rfl⟩) | (go_at_call 20; refine (place_c _ (by decide) (by decide) _).mono ?_; rintro e w' ⟨rfl, k, rfl⟩) | (go_at_call 24; refine (sub_c _ (by decide) (by decide) _).mono ?_; rintro e w' ⟨rfl, k, rfl⟩) | (go_at_call 26; refine (ring_c _ (by decide) (by decide) _).mono ?_; rintro e w' ⟨rfl, k, rfl⟩) | (go_at_call 22; refine (locking_c _ (by decide) (by decide) _).mono ?_; rintro e w' ⟨rfl, k, rfl⟩; first | rw [show lockB 40 = false from by decide] | rw [show lockB 39 = true from by decide]) | (go_at_call 28; refine (turns_c _ _ (by decide) (by decide) (by decide) (by decide) _).mono ?_; rintro e w' ⟨rfl, k, rfl⟩; first | rw [show turnB 23 24 = true from by decide] | rw [show turnB 24 47 = false from by decide]))
  go_returns
  exact ⟨rfl, drw (seq (seq hb1 hb2) hb3) _⟩
end Go.Proofs.Ytaoelppkognakaa.Slot
