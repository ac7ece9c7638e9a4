/- NumTells returns true for all numbers, and changes nothing that was there. No condition. -/
import Derived.Test.YtecmhkkjobflcaaNumAwake
import Derived.Test.YtecmhkkjobflcaaRefNum
namespace Go.Proofs.Ytecmhkkjobflcaa.Num
open Go.RowKit Go.Proofs.Ytecmhkkjobflcaa.Rot Go.Proofs.Ytecmhkkjobflcaa.RefNum
set_option linter.unusedVariables false
set_option maxRecDepth 100000
set_option maxHeartbeats 4000000 in
theorem numTells_c (a b c d t : Int) (a0 : 0 ≤ a) (a1 : a < 4294967296) (b0 : 0 ≤ b) (b1 : b < 4294967296) (c0 : 0 ≤ c) (c1 : c < 18446744073709551616) (d0 : 0 ≤ d) (d1 : d < 18446744073709551616) (w : World) :
    Calls Try.prog 5 #[.int .u32 a, .int .u32 b, .int .u64 c, .int .u64 d, .int .i64 t] w fun e w' => e = .returned (.bool true) ∧ Below w.heap.size w w' := by
  have hm0 : 0 ≤ a * b := Int.mul_nonneg a0 b0
  have hm1 : a * b < 18446744073709551616 := mul_bound a b a0 a1 b0 b1
  go_enter Try.func5, Try.ntmps5
  go_wp2_with fail
  refine (awake_c _).mono ?_
  rintro e w1 ⟨rfl, hb1⟩
  go_wp2_with fail
  refine (add32_c a b a0 a1 b0 b1 _).mono ?_
  rintro e w2 ⟨rfl, hb2⟩
  go_wp2_with fail
  refine (refAdd32_c a b a0 a1 b0 b1 _).mono ?_
  rintro e w' ⟨rfl, rfl⟩
  go_wp2_with fail
  refine (sub32_c a b a0 a1 b0 b1 _).mono ?_
  rintro e w' ⟨rfl, rfl⟩
  go_wp2_with fail
  refine (refSub32_c a b a0 a1 b0 b1 _).mono ?_
  rintro e w' ⟨rfl, rfl⟩
  go_wp2_with fail
  refine (mul32_c a b a0 a1 b0 b1 hm0 hm1 _).mono ?_
  rintro e w3 ⟨rfl, hb3⟩
  go_wp2_with fail
  refine (refMul32_c a b a0 a1 b0 b1 _).mono ?_
  rintro e w' ⟨rfl, rfl⟩
  go_wp2_with fail
  refine (add64_c c d c0 c1 d0 d1 _).mono ?_
  rintro e w' ⟨rfl, rfl⟩
  go_wp2_with fail
  refine (refAdd64_c c d c0 c1 d0 d1 _).mono ?_
  rintro e w' ⟨rfl, rfl⟩
  go_wp2_with fail
  refine (narrow_c c c0 c1 _).mono ?_
  rintro e w' ⟨rfl, rfl⟩
  go_wp2_with fail
  refine (refNarrow_c c c0 c1 _).mono ?_
  rintro e w' ⟨rfl, rfl⟩
  go_wp2_with fail
  refine (turn_c a t a0 a1 _).mono ?_
  rintro e w' ⟨rfl, k, rfl⟩
  go_wp2_with fail
  refine (refTurn_c a t a0 a1 _).mono ?_
  rintro e w' ⟨rfl, rfl⟩
  go_wp2_with fail
  refine (signed_c a a0 a1 _).mono ?_
  rintro e w' ⟨rfl, rfl⟩
  go_wp2_with fail
  refine (refSigned_c a a0 a1 _).mono ?_
  rintro e w' ⟨rfl, rfl⟩
  go_wp2_with fail
  refine (join_c a b a0 a1 b0 b1 _).mono ?_
  rintro e w' ⟨rfl, rfl⟩
  go_wp2_with fail
  go_returns
  exact ⟨rfl, drw (seq (seq hb1 hb2) hb3) _⟩
end Go.Proofs.Ytecmhkkjobflcaa.Num
