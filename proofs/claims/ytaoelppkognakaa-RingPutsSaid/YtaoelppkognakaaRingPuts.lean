/- RingPuts returns true for every ring and all numbers of blocks, and changes nothing that was there. No condition. -/
import Derived.Test.YtaoelppkognakaaPutsEnds
import Derived.Test.YtaoelppkognakaaPuts0
import Derived.Test.YtaoelppkognakaaPuts1
import Derived.Test.YtaoelppkognakaaPuts2
import Derived.Test.YtaoelppkognakaaPuts3
namespace Go.Proofs.Ytaoelppkognakaa.RingU
open Go.RowKit Go.Proofs.Ytaoelppkognakaa.Num Go.Proofs.Ytaoelppkognakaa.Slot Go.Proofs.Ytaoelppkognakaa.Ring Go.Proofs.Ytaoelppkognakaa.RefRing
set_option linter.unusedVariables false

theorem keep_here0 (l sub p c : Int) (hl : l < sub) (hp : sub % 4 = p) (hc : 0 ≤ c) : 0 ≤ keep l sub p c := by unfold keep; omega

theorem ringPuts_c (l c0 c1 c2 c3 m b : Int) (l0 : 0 ≤ l) (l1 : l < 4294967296) (b0 : 0 ≤ c0) (g0 : c0 < 4294967296) (b1 : 0 ≤ c1) (g1 : c1 < 4294967296) (b2 : 0 ≤ c2) (g2 : c2 < 4294967296) (b3 : 0 ≤ c3) (g3 : c3 < 4294967296) (m0 : 0 ≤ m) (m1 : m < 256) (b_0 : 0 ≤ b) (b_1 : b < 256) (w : World) :
    Calls Try.prog 9 #[.agg #[.int .u32 l, .int .u32 c0, .int .u32 c1, .int .u32 c2, .int .u32 c3], .int .u8 m, .int .u8 b] w fun e w' => e = .returned (.bool true) ∧ Below w.heap.size w w' := by
  by_cases h : rightB l c0 c1 c2 c3 = true
  · by_cases hl : 4294967286 < l
    · exact ringPuts_end l c0 c1 c2 c3 m b l0 l1 b0 g0 b1 g1 b2 g2 b3 g3 m0 m1 b_0 b_1 h hl w
    · have h' := h
      unfold rightB at h'
      rw [decide_eq_true_iff] at h'
      obtain ⟨d0, d1, d2, d3, _⟩ := h'
      have hq : (l + (b % 8 + 1)) % 4 = 0 ∨ (l + (b % 8 + 1)) % 4 = 1 ∨ (l + (b % 8 + 1)) % 4 = 2 ∨ (l + (b % 8 + 1)) % 4 = 3 := by omega
      have k0 := keep_bd l (l + (b % 8 + 1)) 0 c0 b0
      have k1 := keep_bd l (l + (b % 8 + 1)) 1 c1 b1
      have k2 := keep_bd l (l + (b % 8 + 1)) 2 c2 b2
      have k3 := keep_bd l (l + (b % 8 + 1)) 3 c3 b3
      have bd := ahead_bd l c0 c1 c2 c3 (l + (b % 8 + 1)) b0 b1 b2 b3
      have ex : Ring.ahead l c0 c1 c2 c3 (l + (b % 8 + 1)) = keep l (l + (b % 8 + 1)) 0 c0 + keep l (l + (b % 8 + 1)) 1 c1 + keep l (l + (b % 8 + 1)) 2 c2 + keep l (l + (b % 8 + 1)) 3 c3 := rfl
      rcases hq with hq | hq | hq | hq
      · exact ringPuts_0 l c0 c1 c2 c3 m b _ _ _ _ _ l0 (by omega) b0 d0 b1 d1 b2 d2 b3 d3 m0 m1 b_0 b_1 h hq rfl rfl rfl rfl rfl k0.1 (by omega) k1.1 (by omega) k2.1 (by omega) k3.1 (by omega) (by omega) (by omega) w
      · exact ringPuts_1 l c0 c1 c2 c3 m b _ _ _ _ _ l0 (by omega) b0 d0 b1 d1 b2 d2 b3 d3 m0 m1 b_0 b_1 h hq rfl rfl rfl rfl rfl k0.1 (by omega) k1.1 (by omega) k2.1 (by omega) k3.1 (by omega) (by omega) (by omega) w
      · exact ringPuts_2 l c0 c1 c2 c3 m b _ _ _ _ _ l0 (by omega) b0 d0 b1 d1 b2 d2 b3 d3 m0 m1 b_0 b_1 h hq rfl rfl rfl rfl rfl k0.1 (by omega) k1.1 (by omega) k2.1 (by omega) k3.1 (by omega) (by omega) (by omega) w
      · exact ringPuts_3 l c0 c1 c2 c3 m b _ _ _ _ _ l0 (by omega) b0 d0 b1 d1 b2 d2 b3 d3 m0 m1 b_0 b_1 h hq rfl rfl rfl rfl rfl k0.1 (by omega) k1.1 (by omega) k2.1 (by omega) k3.1 (by omega) (by omega) (by omega) w
  · exact ringPuts_no l c0 c1 c2 c3 m b l0 l1 b0 g0 b1 g1 b2 g2 b3 g3 m0 m1 b_0 b_1 (by show rightB l c0 c1 c2 c3 = false; simpa using h) w
end Go.Proofs.Ytaoelppkognakaa.RingU
