/- What a history of slots, in order, from slot 0 on, comes to: what is counted in it, and what a ring's counts are. Plain arithmetic. -/
import Derived.Test.YtaoelppkognakaaCounted
import Derived.Test.YtaoelppkognakaaWindow
namespace Go.Proofs.Ytaoelppkognakaa.Counted
open Go.RowKit Go.Proofs.Ytaoelppkognakaa.Num Go.Proofs.Ytaoelppkognakaa.Slot Go.Proofs.Ytaoelppkognakaa.Ring Go.Proofs.Ytaoelppkognakaa.RefRing Go.Proofs.Ytaoelppkognakaa.RingU
set_option linter.unusedVariables false
set_option linter.unusedSimpArgs false

theorem here_app (zs : List Int) (s g : Int) : here (zs ++ [s]) (zs ++ [s]).length g = here zs zs.length g + (if s / 3 = g then 1 else 0) := by
  unfold here
  rw [List.take_length, List.take_length, List.filter_append, List.length_append]
  by_cases h : s / 3 = g
  · simp [h]
  · simp [h]

/-- Blocks, each in a slot, in order, from slot 0 on. -/
structure Hist (zs : List Int) (last : Int) : Prop where
  l0 : 0 ≤ last
  l1 : last < 4294967296
  bd : ∀ j, j < zs.length → 0 ≤ zs[j]?.getD 0 ∧ zs[j]?.getD 0 < 4294967296
  neg : ∀ g, g < 0 → here zs zs.length g = 0
  up : ∀ g, last / 3 < g → here zs zs.length g = 0
  top : (here zs zs.length (last / 3) : Int) ≤ last - 3 * (last / 3) + 1
  one : 1 ≤ here zs zs.length (last / 3)
  le3 : ∀ g, here zs zs.length g ≤ 3

theorem hist_start : Hist [0] 0 where
  l0 := by decide
  l1 := by decide
  bd := fun j hj => by
    have : j = 0 := by simp at hj; omega
    subst this; simp
  neg := fun g hg => by unfold here; simp; omega
  up := fun g hg => by unfold here; simp; omega
  top := by decide
  one := by decide
  le3 := fun g => Nat.le_trans (here_le [0] [0].length g) (by decide)

theorem hist_step {zs : List Int} {last s : Int} (h : Hist zs last) (hs : last < s) (s1 : s < 4294967296) : Hist (zs ++ [s]) s where
  l0 := by have := h.l0; omega
  l1 := s1
  bd := fun j hj => by
    have l0 := h.l0
    rw [List.length_append, List.length_singleton] at hj
    by_cases hj' : j < zs.length
    · rw [List.getElem?_append_left hj']; exact h.bd j hj'
    · have : j = zs.length := by omega
      subst this
      simp; omega
  neg := fun g hg => by
    have l0 := h.l0
    rw [here_app, h.neg g hg, if_neg (by omega)]
  up := fun g hg => by
    rw [here_app, h.up g (by omega), if_neg (by omega)]
  top := by
    rw [here_app, if_pos rfl]
    by_cases e : s / 3 = last / 3
    · have t := h.top
      rw [e]; push_cast; omega
    · rw [h.up (s / 3) (by omega)]; push_cast; omega
  one := by rw [here_app, if_pos rfl]; omega
  le3 := fun g => by
    rw [here_app]
    by_cases e : s / 3 = g
    · rw [if_pos e]
      by_cases e2 : s / 3 = last / 3
      · have t := h.top
        rw [← e, e2]; omega
      · rw [h.up g (by omega)]; omega
    · rw [if_neg e]; exact h.le3 g

theorem c6_app (zs : List Int) (s g : Int) (h : ¬ s / 3 = g) : c6 (zs ++ [s]) g = c6 zs g := by
  unfold c6; rw [here_app, if_neg h]; rfl
theorem c6_le {zs : List Int} {last : Int} (h : Hist zs last) (g : Int) : 0 ≤ c6 zs g ∧ c6 zs g ≤ 3 := by
  have := h.le3 g
  unfold c6; split <;> omega
theorem c6_up {zs : List Int} {last : Int} (h : Hist zs last) (g : Int) (hg : last / 3 < g) : c6 zs g = 0 := by
  have := h.l0
  unfold c6; rw [if_neg (by omega), h.up g hg]; rfl

/-- The ring's counts are what is counted. -/
structure Cnts (zs : List Int) (l c0 c1 c2 c3 : Int) : Prop where
  e0 : c0 = c6 zs (l - (l - 0) % 4)
  e1 : c1 = c6 zs (l - (l - 1) % 4)
  e2 : c2 = c6 zs (l - (l - 2) % 4)
  e3 : c3 = c6 zs (l - (l - 3) % 4)

theorem cnts_start : Cnts [0] 0 1 3 3 3 := ⟨by decide, by decide, by decide, by decide⟩

theorem keep_is {zs : List Int} {last l sub p c : Int} (h : Hist zs last) (hl : l = last / 3) (hs : l < sub) (p0 : 0 ≤ p) (p1 : p < 4) (hc : c = c6 zs (l - (l - p) % 4)) :
    keep l sub p c = c6 zs (sub - 1 - (sub - 1 - p) % 4) := by
  unfold keep
  by_cases g : sub - 1 - (sub - 1 - p) % 4 ≤ l
  · rw [if_pos g, hc]; congr 1; omega
  · rw [if_neg g, c6_up h _ (by omega)]

theorem more_is {zs : List Int} {last l s p c : Int} (h : Hist zs last) (hl : l = last / 3) (hs : last < s) (p0 : 0 ≤ p) (p1 : p < 4) (hc : c = c6 zs (l - (l - p) % 4)) :
    more l (s / 3) p c = c6 (zs ++ [s]) (s / 3 - (s / 3 - p) % 4) := by
  have l0 := h.l0
  unfold more
  by_cases e : s / 3 % 4 = p
  · rw [if_pos e]
    have e1 : s / 3 - (s / 3 - p) % 4 = s / 3 := by omega
    rw [e1]
    have e2 : c6 (zs ++ [s]) (s / 3) = here zs zs.length (s / 3) + 1 := by
      unfold c6; rw [if_neg (by omega), here_app, if_pos rfl]; push_cast; rfl
    rw [e2]
    by_cases q : s / 3 = l
    · rw [if_pos q, hc]
      have e3 : l - (l - p) % 4 = s / 3 := by omega
      rw [e3]; unfold c6; rw [if_neg (by omega)]
    · rw [if_neg q, h.up (s / 3) (by omega)]; rfl
  · rw [if_neg e]
    unfold keep
    have e1 : s / 3 - (s / 3 - p) % 4 = s / 3 - 1 - (s / 3 - 1 - p) % 4 := by omega
    rw [e1, c6_app _ _ _ (by omega)]
    by_cases g : s / 3 - 1 - (s / 3 - 1 - p) % 4 ≤ l
    · rw [if_pos g, hc]; congr 1; omega
    · rw [if_neg g, c6_up h _ (by omega)]

theorem cnts_pick {zs : List Int} {last l c0 c1 c2 c3 : Int} (C : Cnts zs l c0 c1 c2 c3) (g : Int) (h0 : l - 4 < g) (h1 : g ≤ l) : pick g c0 c1 c2 c3 = c6 zs g := by
  unfold pick
  split
  · rw [C.e0]; congr 1; omega
  · split
    · rw [C.e1]; congr 1; omega
    · split
      · rw [C.e2]; congr 1; omega
      · rw [C.e3]; congr 1; omega

theorem cnts_bd {zs : List Int} {last l c0 c1 c2 c3 : Int} (h : Hist zs last) (C : Cnts zs l c0 c1 c2 c3) : (0 ≤ c0 ∧ c0 ≤ 3) ∧ (0 ≤ c1 ∧ c1 ≤ 3) ∧ (0 ≤ c2 ∧ c2 ≤ 3) ∧ (0 ≤ c3 ∧ c3 ≤ 3) := by
  rw [C.e0, C.e1, C.e2, C.e3]
  exact ⟨c6_le h _, c6_le h _, c6_le h _, c6_le h _⟩

/-- A block more, behind the last: the ring takes it. -/
theorem put_ok {zs : List Int} {last l c0 c1 c2 c3 s : Int} (h : Hist zs last) (hl : l = last / 3) (C : Cnts zs l c0 c1 c2 c3) (hs : last < s) : pE l c0 c1 c2 c3 (s / 3) = 0 := by
  unfold pE
  rw [if_neg (by omega)]
  by_cases e : s / 3 = l
  · have t := h.top
    have p := cnts_pick (last := last) C l (by omega) (by omega)
    have l0 := h.l0
    have : c6 zs l = here zs zs.length (last / 3) := by unfold c6; rw [if_neg (by omega), hl]
    rw [if_neg (by omega)]
  · rw [if_neg (by omega)]

theorem cnts_step {zs : List Int} {last l c0 c1 c2 c3 s : Int} (h : Hist zs last) (hl : l = last / 3) (C : Cnts zs l c0 c1 c2 c3) (hs : last < s) :
    pL l c0 c1 c2 c3 (s / 3) = s / 3 ∧ Cnts (zs ++ [s]) (s / 3) (pC l c0 c1 c2 c3 (s / 3) 0 c0) (pC l c0 c1 c2 c3 (s / 3) 1 c1) (pC l c0 c1 c2 c3 (s / 3) 2 c2) (pC l c0 c1 c2 c3 (s / 3) 3 c3) := by
  have e := put_ok h hl C hs
  unfold pL pC
  rw [e]
  simp only [if_true]
  exact ⟨by first | trivial | rfl, more_is h hl hs (by decide) (by decide) C.e0, more_is h hl hs (by decide) (by decide) C.e1, more_is h hl hs (by decide) (by decide) C.e2, more_is h hl hs (by decide) (by decide) C.e3⟩

theorem cnts_right {zs : List Int} {last l c0 c1 c2 c3 : Int} (h : Hist zs last) (hl : l = last / 3) (C : Cnts zs l c0 c1 c2 c3) : rightB l c0 c1 c2 c3 = true := by
  obtain ⟨a0, a1, a2, a3⟩ := cnts_bd h C
  have p := cnts_pick (last := last) C l (by omega) (by omega)
  have l0 := h.l0
  have o := h.one
  have : c6 zs l = here zs zs.length (last / 3) := by unfold c6; rw [if_neg (by omega), hl]
  unfold rightB
  rw [decide_eq_true_eq]
  omega

/-- What stands ahead of a later sub-window. -/
theorem ahead_is {zs : List Int} {last l c0 c1 c2 c3 sub : Int} (h : Hist zs last) (hl : l = last / 3) (C : Cnts zs l c0 c1 c2 c3) (hs : l < sub) :
    Ring.ahead l c0 c1 c2 c3 sub = c6 zs (sub - 1) + c6 zs (sub - 2) + c6 zs (sub - 3) + c6 zs (sub - 4) := by
  unfold Ring.ahead
  rw [keep_is h hl hs (by decide) (by decide) C.e0, keep_is h hl hs (by decide) (by decide) C.e1, keep_is h hl hs (by decide) (by decide) C.e2, keep_is h hl hs (by decide) (by decide) C.e3]
  have q : sub % 4 = 0 ∨ sub % 4 = 1 ∨ sub % 4 = 2 ∨ sub % 4 = 3 := by omega
  rcases q with q | q | q | q
  · rw [show sub - 1 - (sub - 1 - 0) % 4 = sub - 4 from by omega, show sub - 1 - (sub - 1 - 1) % 4 = sub - 3 from by omega, show sub - 1 - (sub - 1 - 2) % 4 = sub - 2 from by omega, show sub - 1 - (sub - 1 - 3) % 4 = sub - 1 from by omega]; omega
  · rw [show sub - 1 - (sub - 1 - 0) % 4 = sub - 1 from by omega, show sub - 1 - (sub - 1 - 1) % 4 = sub - 4 from by omega, show sub - 1 - (sub - 1 - 2) % 4 = sub - 3 from by omega, show sub - 1 - (sub - 1 - 3) % 4 = sub - 2 from by omega]; omega
  · rw [show sub - 1 - (sub - 1 - 0) % 4 = sub - 2 from by omega, show sub - 1 - (sub - 1 - 1) % 4 = sub - 1 from by omega, show sub - 1 - (sub - 1 - 2) % 4 = sub - 4 from by omega, show sub - 1 - (sub - 1 - 3) % 4 = sub - 3 from by omega]; omega
  · rw [show sub - 1 - (sub - 1 - 0) % 4 = sub - 3 from by omega, show sub - 1 - (sub - 1 - 1) % 4 = sub - 2 from by omega, show sub - 1 - (sub - 1 - 2) % 4 = sub - 1 from by omega, show sub - 1 - (sub - 1 - 3) % 4 = sub - 4 from by omega]; omega

theorem s7_is {zs : List Int} {last sub : Int} (h : Hist zs last) : s7 zs sub 4 = c6 zs (sub - 1) + c6 zs (sub - 2) + c6 zs (sub - 3) + c6 zs (sub - 4) := by
  have one : ∀ g, (if g < 0 then (3 : Int) else 0) + here zs zs.length g = c6 zs g := fun g => by
    unfold c6
    by_cases hg : g < 0
    · rw [if_pos hg, if_pos hg, h.neg g hg]; rfl
    · rw [if_neg hg, if_neg hg]; omega
  have o1 := one (sub - 1)
  have o2 := one (sub - 2)
  have o3 := one (sub - 3)
  have o4 := one (sub - 4)
  unfold s7 s7 s7 s7 s7
  rw [show sub - (((0 : Nat) : Int) + 1) = sub - 1 from by omega, show sub - (((1 : Nat) : Int) + 1) = sub - 2 from by omega, show sub - (((2 : Nat) : Int) + 1) = sub - 3 from by omega, show sub - (((3 : Nat) : Int) + 1) = sub - 4 from by omega]
  omega

/-- The least density behind a block. -/
theorem relV_is {zs : List Int} {last l m c0 c1 c2 c3 s : Int} (h : Hist zs last) (hl : l = last / 3) (C : Cnts zs l c0 c1 c2 c3) :
    Window.relV m l c0 c1 c2 c3 s = if 12 ≤ s ∧ last / 3 < s / 3 then (if s7 zs (s / 3) 4 < m then s7 zs (s / 3) 4 else m) else m := by
  unfold Window.relV
  by_cases a : s < 12
  · rw [if_pos a, if_neg (show ¬ (12 ≤ s ∧ last / 3 < s / 3) from by omega)]
  · rw [if_neg a]
    by_cases b : s / 3 ≤ l
    · rw [if_pos b, if_neg (show ¬ (12 ≤ s ∧ last / 3 < s / 3) from by omega)]
    · rw [if_neg b, if_pos (show 12 ≤ s ∧ last / 3 < s / 3 from by omega), ahead_is h hl C (by omega), s7_is h]
end Go.Proofs.Ytaoelppkognakaa.Counted
