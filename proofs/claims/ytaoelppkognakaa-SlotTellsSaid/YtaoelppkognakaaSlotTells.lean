/- SlotTells returns true for all numbers, and changes nothing that was there. No condition. -/
import Derived.Test.YtaoelppkognakaaSlotAwake
import Derived.Test.YtaoelppkognakaaRefSlot
namespace Go.Proofs.Ytaoelppkognakaa.Slot
open Go.RowKit Go.Proofs.Ytaoelppkognakaa.Num Go.Proofs.Ytaoelppkognakaa.RefSlot
set_option linter.unusedVariables false
set_option maxRecDepth 100000
set_option maxHeartbeats 4000000 in
theorem slotTells_c (s b u c : Int) (s0 : 0 ≤ s) (s1 : s < 4294967296) (b0 : 0 ≤ b) (b1 : b < 4294967296) (u0 : 0 ≤ u) (u1 : u < 4294967296) (c0 : 0 ≤ c) (c1 : c < 4294967296) (w : World) :
    Calls Try.prog 3 #[.int .u32 s, .int .u32 b, .int .u32 u, .int .u32 c] w fun e w' => e = .returned (.bool true) ∧ Below w.heap.size w w' := by
  go_enter Try.func3, Try.ntmps3
  go_wp2_with fail
  refine (awake_c _).mono ?_
  rintro e w1 ⟨rfl, hb1⟩
  go_wp2_with fail
  refine (first_c c c0 c1 _).mono ?_
  rintro e w2 ⟨rfl, hb2⟩
  go_wp2_with fail
  refine (refFirst_c c c0 c1 _).mono ?_
  rintro e w' ⟨rfl, rfl⟩
  go_wp2_with fail
  refine (later_c s b s0 s1 b0 b1 _).mono ?_
  rintro e w3 ⟨rfl, hb3⟩
  go_wp2_with fail
  refine (refLater_c s b s0 s1 b0 b1 _).mono ?_
  rintro e w' ⟨rfl, rfl⟩
  go_wp2_with fail
  refine (epoch_c s s0 s1 _).mono ?_
  rintro e w' ⟨rfl, k, rfl⟩
  go_wp2_with fail
  refine (refEpoch_c s s0 s1 _).mono ?_
  rintro e w' ⟨rfl, rfl⟩
  go_wp2_with fail
  refine (place_c s s0 s1 _).mono ?_
  rintro e w' ⟨rfl, k, rfl⟩
  go_wp2_with fail
  refine (refPlace_c s s0 s1 _).mono ?_
  rintro e w' ⟨rfl, rfl⟩
  go_wp2_with fail
  refine (locking_c s s0 s1 _).mono ?_
  rintro e w' ⟨rfl, k, rfl⟩
  go_wp2_with fail
  refine (refLocking_c s s0 s1 _).mono ?_
  rintro e w' ⟨rfl, rfl⟩
  go_wp2_with fail
  refine (sub_c s s0 s1 _).mono ?_
  rintro e w' ⟨rfl, k, rfl⟩
  go_wp2_with fail
  refine (refSub_c s s0 s1 _).mono ?_
  rintro e w' ⟨rfl, rfl⟩
  go_wp2_with fail
  refine (ring_c u u0 u1 _).mono ?_
  rintro e w' ⟨rfl, k, rfl⟩
  go_wp2_with fail
  refine (refRing_c u u0 u1 _).mono ?_
  rintro e w' ⟨rfl, rfl⟩
  go_wp2_with fail
  refine (turns_c s b s0 s1 b0 b1 _).mono ?_
  rintro e w' ⟨rfl, k, rfl⟩
  go_wp2_with fail
  refine (refEpoch_c b b0 b1 _).mono ?_
  rintro e w' ⟨rfl, rfl⟩
  go_wp2_with fail
  refine (refEpoch_c s s0 s1 _).mono ?_
  rintro e w' ⟨rfl, rfl⟩
  go_wp2_with fail
  go_returns
  exact ⟨ret_bool (by unfold turnB; simp), drw (seq (seq hb1 hb2) hb3) _⟩
end Go.Proofs.Ytaoelppkognakaa.Slot
