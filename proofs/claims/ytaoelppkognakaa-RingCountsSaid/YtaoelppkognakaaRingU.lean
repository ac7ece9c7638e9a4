/- What ring.Before and ring.Put answer of a ring whose counts are at most 3, in one form for every sub-window; the document's answers are the same. -/
import Derived.Test.YtaoelppkognakaaRefPutA
import Derived.Test.YtaoelppkognakaaRefPutB
import Derived.Test.YtaoelppkognakaaWorld2
namespace Go.Proofs.Ytaoelppkognakaa.RingU
open Go.RowKit Go.Proofs.Ytaoelppkognakaa.Num Go.Proofs.Ytaoelppkognakaa.Slot Go.Proofs.Ytaoelppkognakaa.Ring Go.Proofs.Ytaoelppkognakaa.RefRing Go.Proofs.Ytaoelppkognakaa.Wd
set_option linter.unusedVariables false

/-- The window ahead: how many, and the error's number. -/
def bV (l c0 c1 c2 c3 sub : Int) : Int := if sub ≤ l then 0 else Ring.ahead l c0 c1 c2 c3 sub
def bE (l sub : Int) : Int := if sub ≤ l then 6 else 0

theorem before_u (l c0 c1 c2 c3 sub : Int) (l0 : 0 ≤ l) (b0 : 0 ≤ c0) (d0 : c0 ≤ 3) (b1 : 0 ≤ c1) (d1 : c1 ≤ 3) (b2 : 0 ≤ c2) (d2 : c2 ≤ 3) (b3 : 0 ≤ c3) (d3 : c3 ≤ 3) (s1 : sub < 4294967296) (w : World) :
    Calls Try.prog 34 #[.agg #[.int .u32 l, .int .u32 c0, .int .u32 c1, .int .u32 c2, .int .u32 c3], .int .u32 sub] w fun e w' => e = .returned (.tuple #[.int .u32 (bV l c0 c1 c2 c3 sub), .int .i64 (bE l sub)]) ∧ Below w.heap.size w w' := by
  by_cases h : sub ≤ l
  · unfold bV bE; rw [if_pos h, if_pos h]; exact before_no l c0 c1 c2 c3 sub h w
  · unfold bV bE; rw [if_neg h, if_neg h]; exact before_yes l c0 c1 c2 c3 sub l0 b0 (by omega) b1 (by omega) b2 (by omega) b3 (by omega) (by omega) (by omega) s1 w
theorem refBefore_u (l c0 c1 c2 c3 sub : Int) (l0 : 0 ≤ l) (b0 : 0 ≤ c0) (d0 : c0 ≤ 3) (b1 : 0 ≤ c1) (d1 : c1 ≤ 3) (b2 : 0 ≤ c2) (d2 : c2 ≤ 3) (b3 : 0 ≤ c3) (d3 : c3 ≤ 3) (s1 : sub < 4294967296) (w : World) :
    Calls Try.prog 35 #[.agg #[.int .u32 l, .int .u32 c0, .int .u32 c1, .int .u32 c2, .int .u32 c3], .int .u32 sub] w fun e w' => e = .returned (.tuple #[.int .u32 (bV l c0 c1 c2 c3 sub), .int .i64 (bE l sub)]) ∧ Below w.heap.size w w' := by
  by_cases h : sub ≤ l
  · unfold bV bE; rw [if_pos h, if_pos h]; exact refBefore_no l c0 c1 c2 c3 sub h w
  · unfold bV bE; rw [if_neg h, if_neg h]; exact refBefore_yes l c0 c1 c2 c3 sub l0 b0 (by omega) b1 (by omega) b2 (by omega) b3 (by omega) (by omega) (by omega) s1 w

/-- One block more: the error's number, the last sub-window, the count at a place. -/
def pE (l c0 c1 c2 c3 sub : Int) : Int := if sub < l then 6 else if sub = l ∧ 3 ≤ pick l c0 c1 c2 c3 then 11 else 0
def pL (l c0 c1 c2 c3 sub : Int) : Int := if pE l c0 c1 c2 c3 sub = 0 then sub else 0
def pC (l c0 c1 c2 c3 sub p c : Int) : Int := if pE l c0 c1 c2 c3 sub = 0 then more l sub p c else 0

theorem put_u (l c0 c1 c2 c3 sub : Int) (l0 : 0 ≤ l) (b0 : 0 ≤ c0) (d0 : c0 ≤ 3) (b1 : 0 ≤ c1) (d1 : c1 ≤ 3) (b2 : 0 ≤ c2) (d2 : c2 ≤ 3) (b3 : 0 ≤ c3) (d3 : c3 ≤ 3) (s0 : 0 ≤ sub) (s1 : sub < 4294967296) (w : World) :
    Calls Try.prog 36 #[.agg #[.int .u32 l, .int .u32 c0, .int .u32 c1, .int .u32 c2, .int .u32 c3], .int .u32 sub] w fun e w' => e = .returned (.tuple #[.agg #[.int .u32 (pL l c0 c1 c2 c3 sub), .int .u32 (pC l c0 c1 c2 c3 sub 0 c0), .int .u32 (pC l c0 c1 c2 c3 sub 1 c1), .int .u32 (pC l c0 c1 c2 c3 sub 2 c2), .int .u32 (pC l c0 c1 c2 c3 sub 3 c3)], .int .i64 (pE l c0 c1 c2 c3 sub)]) ∧ Below w.heap.size w w' := by
  by_cases h : sub < l
  · have e : pE l c0 c1 c2 c3 sub = 6 := by unfold pE; rw [if_pos h]
    unfold pL pC
    rw [e]
    exact put_slot l c0 c1 c2 c3 sub s0 s1 h w
  · by_cases g : sub = l ∧ 3 ≤ pick l c0 c1 c2 c3
    · have e : pE l c0 c1 c2 c3 sub = 11 := by unfold pE; rw [if_neg h, if_pos g]
      unfold pL pC
      rw [e]
      obtain ⟨rfl, g⟩ := g
      exact put_full sub c0 c1 c2 c3 s0 s1 g w
    · have e : pE l c0 c1 c2 c3 sub = 0 := by unfold pE; rw [if_neg h, if_neg g]
      unfold pL pC
      rw [e]
      exact put_ok l c0 c1 c2 c3 sub l0 s1 b0 (by omega) b1 (by omega) b2 (by omega) b3 (by omega) (by omega) (fun h' => by have : ¬ 3 ≤ pick l c0 c1 c2 c3 := fun k => g ⟨h', k⟩; omega) w

theorem at_here (l c0 c1 c2 c3 : Int) : at4 l c0 c1 c2 c3 l = pick l c0 c1 c2 c3 := by unfold at4; rw [if_pos (by omega)]

theorem at_place (l c0 c1 c2 c3 sub : Int) (hs : l ≤ sub) :
    bump sub 0 (at4 l c0 c1 c2 c3 (sub - (sub - 0) % 4)) = more l sub 0 c0 ∧ bump sub 1 (at4 l c0 c1 c2 c3 (sub - (sub - 1) % 4)) = more l sub 1 c1 ∧ bump sub 2 (at4 l c0 c1 c2 c3 (sub - (sub - 2) % 4)) = more l sub 2 c2 ∧ bump sub 3 (at4 l c0 c1 c2 c3 (sub - (sub - 3) % 4)) = more l sub 3 c3 := by
  have a := at_of l c0 c1 c2 c3 (sub - (sub - 0) % 4)
  have b := at_of l c0 c1 c2 c3 (sub - (sub - 1) % 4)
  have c := at_of l c0 c1 c2 c3 (sub - (sub - 2) % 4)
  have d := at_of l c0 c1 c2 c3 (sub - (sub - 3) % 4)
  rw [a.1 (by omega), b.2.1 (by omega), c.2.2.1 (by omega), d.2.2.2 (by omega)]
  clear a b c d
  have go : ∀ p x : Int, 0 ≤ p → p < 4 → bump sub p (if l - 3 ≤ sub - (sub - p) % 4 ∧ sub - (sub - p) % 4 ≤ l then x else 0) = more l sub p x := by
    intro p x p0 p1
    unfold bump more keep
    by_cases h : sub % 4 = p
    · rw [if_pos h, if_pos h]
      by_cases e : sub = l
      · rw [if_pos e, if_pos (by omega)]
      · rw [if_neg e, if_neg (by omega)]; rfl
    · rw [if_neg h, if_neg h]
      by_cases e : sub - 1 - (sub - 1 - p) % 4 ≤ l
      · rw [if_pos e, if_pos (by omega)]
      · rw [if_neg e, if_neg (by omega)]
  exact ⟨go 0 c0 (by decide) (by decide), go 1 c1 (by decide) (by decide), go 2 c2 (by decide) (by decide), go 3 c3 (by decide) (by decide)⟩

theorem at_small (l c0 c1 c2 c3 s : Int) (b0 : 0 ≤ c0) (d0 : c0 ≤ 3) (b1 : 0 ≤ c1) (d1 : c1 ≤ 3) (b2 : 0 ≤ c2) (d2 : c2 ≤ 3) (b3 : 0 ≤ c3) (d3 : c3 ≤ 3) : 0 ≤ at4 l c0 c1 c2 c3 s ∧ at4 l c0 c1 c2 c3 s ≤ 4294967294 := by
  unfold at4 pick
  by_cases h : l - 3 ≤ s ∧ s ≤ l
  · rw [if_pos h]; omega
  · rw [if_neg h]; omega

theorem refPut_u (l c0 c1 c2 c3 sub : Int) (l0 : 0 ≤ l) (l1 : l < 4294967296) (b0 : 0 ≤ c0) (d0 : c0 ≤ 3) (b1 : 0 ≤ c1) (d1 : c1 ≤ 3) (b2 : 0 ≤ c2) (d2 : c2 ≤ 3) (b3 : 0 ≤ c3) (d3 : c3 ≤ 3) (s0 : 0 ≤ sub) (s1 : sub < 4294967296) (w : World) :
    Calls Try.prog 37 #[.agg #[.int .u32 l, .int .u32 c0, .int .u32 c1, .int .u32 c2, .int .u32 c3], .int .u32 sub] w fun e w' => e = .returned (.tuple #[.agg #[.int .u32 (pL l c0 c1 c2 c3 sub), .int .u32 (pC l c0 c1 c2 c3 sub 0 c0), .int .u32 (pC l c0 c1 c2 c3 sub 1 c1), .int .u32 (pC l c0 c1 c2 c3 sub 2 c2), .int .u32 (pC l c0 c1 c2 c3 sub 3 c3)], .int .i64 (pE l c0 c1 c2 c3 sub)]) ∧ Below w.heap.size w w' := by
  by_cases h : sub < l
  · have e : pE l c0 c1 c2 c3 sub = 6 := by unfold pE; rw [if_pos h]
    unfold pL pC
    rw [e]
    exact refPut_slot l c0 c1 c2 c3 sub s0 s1 h w
  · obtain ⟨m0, m1, m2, m3⟩ := at_place l c0 c1 c2 c3 sub (by omega)
    have z := fun s => at_small l c0 c1 c2 c3 s b0 d0 b1 d1 b2 d2 b3 d3
    by_cases g : sub = l ∧ 3 ≤ pick l c0 c1 c2 c3
    · have e : pE l c0 c1 c2 c3 sub = 11 := by unfold pE; rw [if_neg h, if_pos g]
      unfold pL pC
      rw [e]
      obtain ⟨rfl, g⟩ := g
      exact refPut_full sub c0 c1 c2 c3 _ s0 s1 (at_here sub c0 c1 c2 c3) g w
    · have e : pE l c0 c1 c2 c3 sub = 0 := by unfold pE; rw [if_neg h, if_neg g]
      unfold pL pC
      rw [e]
      simp only [if_true]
      rw [← m0, ← m1, ← m2, ← m3]
      by_cases q : sub = l
      · subst q
        have r3 : pick sub c0 c1 c2 c3 < 3 := by have : ¬ 3 ≤ pick sub c0 c1 c2 c3 := fun k => g ⟨rfl, k⟩; omega
        exact refPut_h sub c0 c1 c2 c3 _ _ _ _ _ _ _ _ _ s0 s1 (at_here sub c0 c1 c2 c3) r3 rfl rfl rfl rfl (z _) (z _) (z _) (z _) rfl rfl rfl rfl w
      · exact refPut_w l c0 c1 c2 c3 sub _ _ _ _ _ _ _ _ l0 l1 (by omega) s1 rfl rfl rfl rfl (z _) (z _) (z _) (z _) rfl rfl rfl rfl w
end Go.Proofs.Ytaoelppkognakaa.RingU
