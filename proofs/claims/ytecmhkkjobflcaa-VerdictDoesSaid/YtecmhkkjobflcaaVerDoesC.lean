/- VerdictDoes returns true whatever the input. No condition. -/
import Derived.Test.YtecmhkkjobflcaaVerDoes
namespace Go.Proofs.Ytecmhkkjobflcaa.Ver
open Go.RowKit Go.WideMaps Go.Maps
set_option linter.unusedVariables false
set_option linter.unusedSimpArgs false
set_option maxRecDepth 100000
theorem verDoes_no (room : Int) (hr : room < 1 ∨ 100 < room) (a : Option Addr) (len cap : Nat) (hlen : len ≤ 300) (w : World) :
    Calls Try.prog 6 #[.int .i64 room, .slice a len cap] w fun e w' => e = .returned (.bool true) ∧ Below w.heap.size w w' := by
    have hl3 : ¬ ((300 : Int) < len) := by omega
    go_enter Try.func6, Try.ntmps6
    go_wp2_with fail
    refine (vawake_c _).mono ?_
    rintro e W1 ⟨rfl, hb1⟩
    have B1 := hb1
    have s1 : w.heap.size ≤ W1.heap.size := B1.size
    clear hb1
    simp only []
    go_wp2_with fail
    refine (new_no room hr W1).mono ?_
    rintro e W2 ⟨rfl, hw⟩
    subst hw
    simp only []
    go_wp2_with fail
    refine (rnew_no room hr W2).mono ?_
    rintro e W3 ⟨rfl, hw⟩
    subst hw
    clear hr
    simp only []
    go_wp2_with fail
    go_returns
    exact ⟨rfl, B1⟩
theorem verDoes_long (room : Int) (a : Option Addr) (len cap : Nat) (hlen : 300 < len) (w : World) :
    Calls Try.prog 6 #[.int .i64 room, .slice a len cap] w fun e w' => e = .returned (.bool true) ∧ Below w.heap.size w w' := by
    have hl3 : (300 : Int) < len := by omega
    go_enter Try.func6, Try.ntmps6
    go_wp2_with fail
    refine (vawake_c _).mono ?_
    rintro e W1 ⟨rfl, hb1⟩
    have B1 := hb1
    have s1 : w.heap.size ≤ W1.heap.size := B1.size
    clear hb1
    simp only []
    go_wp2_with fail
    go_returns
    exact ⟨rfl, B1⟩
theorem verDoes_c (room : Int) (a : Option Addr) (len cap : Nat) (w : World) (f : Acts w a len) :
    Calls Try.prog 6 #[.int .i64 room, .slice a len cap] w fun e w' => e = .returned (.bool true) ∧ Below w.heap.size w w' := by
  by_cases hl : len ≤ 300
  · by_cases h1 : 1 ≤ room
    · by_cases h2 : room ≤ 100
      · exact verDoes_yes room h1 h2 a len cap hl w f
      · exact verDoes_no room (by omega) a len cap hl w
    · exact verDoes_no room (by omega) a len cap hl w
  · exact verDoes_long room a len cap (by omega) w
end Go.Proofs.Ytecmhkkjobflcaa.Ver
