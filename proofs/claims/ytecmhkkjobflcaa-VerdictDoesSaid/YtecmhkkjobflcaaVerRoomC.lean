/- VerdictRoom returns true whatever the input. No condition. -/
import Derived.Test.YtecmhkkjobflcaaVerRoom
namespace Go.Proofs.Ytecmhkkjobflcaa.Ver
open Go.RowKit Go.WideMaps Go.Maps
set_option linter.unusedVariables false
set_option linter.unusedSimpArgs false
set_option maxRecDepth 100000
theorem verRoom_no (room : Int) (hr : room < 1 ∨ 100 < room) (a : Option Addr) (len cap : Nat) (h : List Int) (w : World) :
    Calls Try.prog 7 #[.int .i64 room, .slice a len cap, .agg (cs h).toArray] w fun e w' => e = .returned (.bool true) ∧ Below w.heap.size w w' := by
    go_enter Try.func7, Try.ntmps7
    go_wp2_with fail
    refine (vawake_c _).mono ?_
    rintro e W1 ⟨rfl, hb1⟩
    have B1 : Below w.heap.size w W1 := ((Below.refl _ _).alloc (Nat.le_refl _) (.cells (cs h).toArray 48)).trans (hb1.mono (by simp))
    have s1 : w.heap.size ≤ W1.heap.size := B1.size
    clear hb1
    simp only []
    go_wp2_with fail
    refine (new_no room hr W1).mono ?_
    rintro e W2 ⟨rfl, hw⟩
    subst hw
    clear hr
    simp only []
    go_wp2_with fail
    go_returns
    exact ⟨rfl, B1⟩
theorem verRoom_long (room : Int) (h1 : 1 ≤ room) (h2 : room ≤ 100) (a : Option Addr) (len cap : Nat) (hlen : 300 < len) (h : List Int) (w : World) :
    Calls Try.prog 7 #[.int .i64 room, .slice a len cap, .agg (cs h).toArray] w fun e w' => e = .returned (.bool true) ∧ Below w.heap.size w w' := by
    go_enter Try.func7, Try.ntmps7
    go_wp2_with fail
    refine (vawake_c _).mono ?_
    rintro e W1 ⟨rfl, hb1⟩
    have B1 : Below w.heap.size w W1 := ((Below.refl _ _).alloc (Nat.le_refl _) (.cells (cs h).toArray 48)).trans (hb1.mono (by simp))
    have s1 : w.heap.size ≤ W1.heap.size := B1.size
    clear hb1
    simp only []
    go_wp2_with fail
    refine (new_ok room h1 h2 W1).mono ?_
    rintro e W2 ⟨rfl, _, hb2⟩
    have B2 := B1.trans (hb2.mono s1)
    clear hb2
    have hl3 : (300 : Int) < len := by omega
    simp only []
    go_wp2_with fail
    go_returns
    exact ⟨rfl, B2⟩
theorem acts_of {w : World} {a : Option Addr} {len : Nat} (f : 0 < len → ∃ b off, a = some ⟨b, off, none⟩ ∧ b < w.heap.size ∧ ∀ j, j < len → ∃ vs, (∃ y : ActV, vs = ac y ∧ IsHash y.h ∧ (Lit.int .i64 y.doo).wf = true) ∧ w.rangeAt b (off + j * 34) vs) : Acts w a len := fun h => by
  obtain ⟨b, off, ha, hb, hf⟩ := f h
  refine ⟨b, off, ha, hb, fun j hj => ?_⟩
  obtain ⟨vs, ⟨y, rfl, h1, h2⟩, hr⟩ := hf j hj
  exact ⟨y, h1, h2, hr⟩
theorem verRoom_c (room : Int) (a : Option Addr) (len cap : Nat) (h : List Int) (H : IsHash h) (w : World) (f : Acts w a len) :
    Calls Try.prog 7 #[.int .i64 room, .slice a len cap, .agg (cs h).toArray] w fun e w' => e = .returned (.bool true) ∧ Below w.heap.size w w' := by
  by_cases h1 : 1 ≤ room
  · by_cases h2 : room ≤ 100
    · by_cases hl : len ≤ 300
      · exact verRoom_yes room h1 h2 a len cap hl h H w f
      · exact verRoom_long room h1 h2 a len cap (by omega) h w
    · exact verRoom_no room (by omega) a len cap h w
  · exact verRoom_no room (by omega) a len cap h w
end Go.Proofs.Ytecmhkkjobflcaa.Ver
