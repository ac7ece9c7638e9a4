/- VerdictLast returns true whatever the input. No condition. -/
import Derived.Test.YtecmhkkjobflcaaVerLast
namespace Go.Proofs.Ytecmhkkjobflcaa.Ver
open Go.RowKit Go.WideMaps Go.Maps
set_option linter.unusedVariables false
set_option linter.unusedSimpArgs false
set_option maxRecDepth 100000
theorem verLast_no (room : Int) (hr : room < 1 ∨ 100 < room) (a : Option Addr) (len cap : Nat)  (w : World) :
    Calls Try.prog 8 #[.int .i64 room, .slice a len cap] w fun e w' => e = .returned (.bool true) ∧ Below w.heap.size w w' := by
    go_enter Try.func8, Try.ntmps8
    go_wp2_with fail
    refine (vawake_c _).mono ?_
    rintro e W1 ⟨rfl, hb1⟩
    have B1 := hb1
    have s1 : w.heap.size ≤ W1.heap.size := B1.size
    clear hb1
    simp only []
    go_wp2_with fail
    refine (new_no room hr W1).mono ?_
    rintro e W2 ⟨rfl, hw⟩
    subst hw
    clear hr
    simp only []
    go_wp2_with fail
    go_returns
    exact ⟨rfl, B1⟩
theorem verLast_long (room : Int) (h1 : 1 ≤ room) (h2 : room ≤ 100) (a : Option Addr) (len cap : Nat) (hlen : 300 < len)  (w : World) :
    Calls Try.prog 8 #[.int .i64 room, .slice a len cap] w fun e w' => e = .returned (.bool true) ∧ Below w.heap.size w w' := by
    go_enter Try.func8, Try.ntmps8
    go_wp2_with fail
    refine (vawake_c _).mono ?_
    rintro e W1 ⟨rfl, hb1⟩
    have B1 := hb1
    have s1 : w.heap.size ≤ W1.heap.size := B1.size
    clear hb1
    simp only []
    go_wp2_with fail
    refine (new_ok room h1 h2 W1).mono ?_
    rintro e W2 ⟨rfl, _, hb2⟩
    have B2 := B1.trans (hb2.mono s1)
    clear hb2
    have hl3 : (300 : Int) < len := by omega
    simp only []
    go_wp2_with fail
    go_returns
    exact ⟨rfl, B2⟩
theorem hashes_of {w : World} {a : Option Addr} {len : Nat} (f : 0 < len → ∃ b off, a = some ⟨b, off, none⟩ ∧ b < w.heap.size ∧ ∀ j, j < len → ∃ vs, (∃ h, vs = cs h ∧ IsHash h) ∧ w.rangeAt b (off + j * 32) vs) : Hashes w a len := fun h => by
  obtain ⟨b, off, ha, hb, hf⟩ := f h
  refine ⟨b, off, ha, hb, fun j hj => ?_⟩
  obtain ⟨vs, ⟨y, rfl, h1⟩, hr⟩ := hf j hj
  exact ⟨y, h1, hr⟩
theorem verLast_c (room : Int) (a : Option Addr) (len cap : Nat) (w : World) (f : Hashes w a len) :
    Calls Try.prog 8 #[.int .i64 room, .slice a len cap] w fun e w' => e = .returned (.bool true) ∧ Below w.heap.size w w' := by
  by_cases h1 : 1 ≤ room
  · by_cases h2 : room ≤ 100
    · by_cases hl : len ≤ 300
      · have := verLast_yes room.toNat (by omega) (by omega) a len cap hl w f
        rw [Int.toNat_of_nonneg (by omega)] at this
        exact this
      · exact verLast_long room h1 h2 a len cap (by omega) w
    · exact verLast_no room (by omega) a len cap w
  · exact verLast_no room (by omega) a len cap w
end Go.Proofs.Ytecmhkkjobflcaa.Ver
