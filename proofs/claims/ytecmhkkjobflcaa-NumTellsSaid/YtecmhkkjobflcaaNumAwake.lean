/- The calls by which the statements on numbers ask whether the program is awake answer true. -/
import Derived.Test.YtecmhkkjobflcaaNumMore
namespace Go.Proofs.Ytecmhkkjobflcaa.Num
open Go.RowKit Go.Proofs.Ytecmhkkjobflcaa.Rot
set_option linter.unusedVariables false
set_option maxRecDepth 100000
theorem awake_turn : turn 1 1 = 2147483648 := by decide +kernel
set_option maxHeartbeats 1000000 in
theorem awake_c (w : World) :
    Calls Try.prog 9 #[] w fun e w' => e = .returned (.bool true) ∧ Below w.heap.size w w' := by
  go_enter Try.func9, Try.ntmps9
  go_wp2_with fail
  refine (add32_c 4294967295 1 (by decide) (by decide) (by decide) (by decide) _).mono ?_
  rintro e w1 ⟨rfl, hb1⟩
  rw [show fit (4294967295 + 1) = 0 from by decide, show fitB (4294967295 + 1) = false from by decide]
  go_wp2_with fail
  refine (mul32_c 65535 65537 (by decide) (by decide) (by decide) (by decide) (by decide) (by decide) _).mono ?_
  rintro e w2 ⟨rfl, hb2⟩
  rw [show fit (65535 * 65537) = 4294967295 from by decide, show fitB (65535 * 65537) = true from by decide]
  go_wp2_with fail
  refine (split_c 8589934597 (by decide) (by decide) _).mono ?_
  rintro e w' ⟨rfl, rfl⟩
  go_wp2_with fail
  refine (join_c 2 5 (by decide) (by decide) (by decide) (by decide) _).mono ?_
  rintro e w' ⟨rfl, rfl⟩
  go_wp2_with fail
  refine (turn_c 1 1 (by decide) (by decide) _).mono ?_
  rintro e w' ⟨rfl, k, rfl⟩
  rw [awake_turn]
  go_wp2_with fail
  refine (signed_c 4294967295 (by decide) (by decide) _).mono ?_
  rintro e w' ⟨rfl, rfl⟩
  rw [show signed 4294967295 = -1 from by decide]
  go_wp2_with fail
  refine (unsigned_c (-1) (by decide) (by decide) _).mono ?_
  rintro e w' ⟨rfl, rfl⟩
  rw [show unsigned (-1) = 4294967295 from by decide]
  go_wp2_with fail
  go_returns
  exact ⟨rfl, drw (seq hb1 hb2) _⟩
end Go.Proofs.Ytecmhkkjobflcaa.Num
