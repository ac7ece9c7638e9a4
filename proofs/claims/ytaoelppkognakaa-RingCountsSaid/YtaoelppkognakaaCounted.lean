/- Contracts of the laws' counted: how many of some slots are in a sub-window (of those ahead of the first one as many as it has slots), and in the four ahead of one. -/
import Derived.Test.YtaoelppkognakaaRefSlot
import Derived.WalkKit
namespace Go.Proofs.Ytaoelppkognakaa.Counted
open Go.RowKit Go.Proofs.Ytaoelppkognakaa.Num Go.Proofs.Ytaoelppkognakaa.Slot Go.Proofs.Ytaoelppkognakaa.RefSlot
set_option linter.unusedVariables false
set_option linter.unusedSimpArgs false
set_option maxRecDepth 100000

/-- How many of the first k slots are in a sub-window. -/
def here (zs : List Int) (k : Nat) (g : Int) : Nat := ((zs.take k).filter (fun s => s / 3 == g)).length
theorem take_succ' (zs : List Int) (k : Nat) (hk : k < zs.length) : zs.take (k + 1) = zs.take k ++ [zs[k]?.getD 0] := by
  rw [List.take_add_one, List.getElem?_eq_getElem hk]; rfl
theorem here_hit (zs : List Int) (k : Nat) (g : Int) (hk : k < zs.length) (h : zs[k]?.getD 0 / 3 = g) : here zs (k + 1) g = here zs k g + 1 := by
  unfold here; rw [take_succ' zs k hk, List.filter_append, List.length_append]; simp [h]
theorem here_miss (zs : List Int) (k : Nat) (g : Int) (hk : k < zs.length) (h : ¬ zs[k]?.getD 0 / 3 = g) : here zs (k + 1) g = here zs k g := by
  unfold here; rw [take_succ' zs k hk, List.filter_append, List.length_append]; simp [h]
theorem here_le (zs : List Int) (k : Nat) (g : Int) : here zs k g ≤ k := Nat.le_trans (List.length_filter_le _ _) (List.length_take_le _ _)

set_option maxHeartbeats 1000000 in
theorem count6_yes (g len cap : Nat) (zs : List Int) (sub : Int) (s0 : 0 ≤ sub) (s1 : sub < 4294967296) (hz : zs.length = len) (hlen : len ≤ 201) (hb : ∀ j, j < len → 0 ≤ zs[j]?.getD 0 ∧ zs[j]?.getD 0 < 4294967296)
    (w : World) (hc : ∀ j, j < len → w.cell? ⟨g, j, none⟩ = some (.int .u32 (zs[j]?.getD 0))) :
    Calls Try.prog 40 #[.slice (some ⟨g, 0, none⟩) len cap, .int .i64 sub] w fun e w' => e = .returned (.int .u32 (here zs len sub)) ∧ w' = w := by
  go_enter Try.func40, Try.ntmps40
  go_wp2_with fail
  go_loop [5, 12] (fun n i => ∃ k : Nat, k ≤ len ∧ i = .int .i64 k ∧ n = .int .u32 (here zs k sub)) (fun _ i => len - (intOf i).toNat)
  case atStart => exact ⟨0, Nat.zero_le _, rfl, rfl⟩
  case round =>
    obtain ⟨k, hk, rfl, rfl⟩ := hrel
    have hcx : k < len → w.cell? ⟨g, k, none⟩ = some (.int .u32 (zs[k]?.getD 0)) := fun h => hc k h
    have hbx : k < len → 0 ≤ zs[k]?.getD 0 ∧ zs[k]?.getD 0 < 4294967296 := fun h => hb k h
    have hh := here_le zs k sub
    clear hc hb
    by_cases hkl : k < len
    · have hcx := hcx hkl
      obtain ⟨x0, x1⟩ := hbx hkl
      have A : zs[k]?.getD 0 / 3 = sub → Hid (here zs (k + 1) sub = here zs k sub + 1) := here_hit zs k sub (by omega)
      have B : ¬ zs[k]?.getD 0 / 3 = sub → Hid (here zs (k + 1) sub = here zs k sub) := here_miss zs k sub (by omega)
      clear hbx
      generalize zs[k]?.getD 0 = x at *
      by_cases hxs : x / 3 = sub
      · have A := A hxs
        clear B
        have hxs' : Hid (x / 3 = sub) := hxs
        go_wp2_with (go_at_call 25; refine (refSub_c x x0 x1 _).mono ?_; rintro e w' ⟨rfl, rfl⟩; simp only [])
        go_round
        case rel => exact ⟨k + 1, by omega, by go_num, by rw [A.out]; go_num⟩
        case measure => simp [intOf]; omega
      · have B := B hxs
        clear A
        go_wp2_with (go_at_call 25; refine (refSub_c x x0 x1 _).mono ?_; rintro e w' ⟨rfl, rfl⟩; simp only [])
        go_round
        case rel => exact ⟨k + 1, by omega, by go_num, by rw [B.out]⟩
        case measure => simp [intOf]; omega
    · go_wp2_with fail
      go_returns
      obtain rfl : k = len := by omega
      exact ⟨rfl, rfl⟩

theorem count6_no (v : Value) (sub : Int) (s0 : sub < 0) (w : World) :
    Calls Try.prog 40 #[v, .int .i64 sub] w fun e w' => e = .returned (.int .u32 3) ∧ w' = w := by
  go_enter Try.func40, Try.ntmps40
  go_wp2_with fail
  go_returns
  exact ⟨rfl, rfl⟩

/-- What the law counts in a sub-window. -/
def c6 (zs : List Int) (g : Int) : Int := if g < 0 then 3 else here zs zs.length g
theorem count6_c (g cap : Nat) (zs : List Int) (sub : Int) (s1 : sub < 4294967296) (hlen : zs.length ≤ 201) (hb : ∀ j, j < zs.length → 0 ≤ zs[j]?.getD 0 ∧ zs[j]?.getD 0 < 4294967296)
    (w : World) (hc : ∀ j, j < zs.length → w.cell? ⟨g, j, none⟩ = some (.int .u32 (zs[j]?.getD 0))) :
    Calls Try.prog 40 #[.slice (some ⟨g, 0, none⟩) zs.length cap, .int .i64 sub] w fun e w' => e = .returned (.int .u32 (c6 zs sub)) ∧ w' = w := by
  unfold c6
  by_cases h : sub < 0
  · rw [if_pos h]; exact count6_no _ sub h w
  · rw [if_neg h]; exact count6_yes g zs.length cap zs sub (by omega) s1 rfl hlen hb w hc

/-- What stands ahead of a sub-window's first j ones. -/
def s7 (zs : List Int) (sub : Int) : Nat → Int
  | 0 => 0
  | j + 1 => s7 zs sub j + (if sub - (j + 1) < 0 then 3 else 0) + here zs zs.length (sub - (j + 1))
theorem s7_le (zs : List Int) (sub : Int) (hl : zs.length ≤ 201) (j : Nat) : 0 ≤ s7 zs sub j ∧ s7 zs sub j ≤ 204 * j := by
  induction j with
  | zero => simp [s7]
  | succ j ih =>
    have := here_le zs zs.length (sub - (j + 1))
    unfold s7
    split <;> omega

set_option maxHeartbeats 1000000 in
theorem count7_c (g cap : Nat) (zs : List Int) (sub : Int) (s0 : 0 ≤ sub) (s1 : sub < 4294967296) (hlen : zs.length ≤ 201) (hb : ∀ j, j < zs.length → 0 ≤ zs[j]?.getD 0 ∧ zs[j]?.getD 0 < 4294967296)
    (w : World) (hc : ∀ j, j < zs.length → w.cell? ⟨g, j, none⟩ = some (.int .u32 (zs[j]?.getD 0))) :
    Calls Try.prog 51 #[.slice (some ⟨g, 0, none⟩) zs.length cap, .int .u32 sub] w fun e w' => e = .returned (.int .u32 (s7 zs sub 4)) ∧ w' = w := by
  obtain ⟨len, hz⟩ : ∃ len, zs.length = len := ⟨_, rfl⟩
  have hL : Hid (zs.length = len) := hz
  rw [hz] at hlen hb hc ⊢
  clear hz
  go_enter Try.func51, Try.ntmps51
  go_wp2_with fail
  go_loop [5, 6] (fun n i => ∃ j : Nat, j ≤ 4 ∧ i = .int .i64 (j + 1) ∧ n = .int .u32 (s7 zs sub j)) (fun _ i => 5 - (intOf i).toNat)
  case atStart => exact ⟨0, by omega, rfl, rfl⟩
  case round =>
    obtain ⟨j, hj, rfl, rfl⟩ := hrel
    obtain ⟨n0, n1⟩ := s7_le zs sub (by rw [hL.out]; exact hlen) j
    by_cases hj4 : j < 4
    · have hS : Hid (s7 zs sub (j + 1) = s7 zs sub j + (if sub - (j + 1) < 0 then 3 else 0) + here zs len (sub - (j + 1))) := by rw [← hL.out]; rfl
      generalize s7 zs sub j = n at *
      by_cases hneg : sub - (j + 1) < 0
      · rw [if_pos hneg] at hS
        go_wp2_with fail
        go_loop [5, 24] (fun m i => ∃ k : Nat, k ≤ len ∧ i = .int .i64 k ∧ m = .int .u32 (n + 3 + here zs k (sub - (j + 1)))) (fun _ i => len - (intOf i).toNat)
        case atStart => exact ⟨0, Nat.zero_le _, rfl, by simp [here]⟩
        case round =>
          obtain ⟨k, hk, rfl, rfl⟩ := hrel
          have hcx : k < len → w.cell? ⟨g, k, none⟩ = some (.int .u32 (zs[k]?.getD 0)) := fun h => hc k h
          have hbx : k < len → 0 ≤ zs[k]?.getD 0 ∧ zs[k]?.getD 0 < 4294967296 := fun h => hb k h
          have hh := here_le zs k (sub - (j + 1))
          clear hc hb
          by_cases hkl : k < len
          · have hcx := hcx hkl
            obtain ⟨x0, x1⟩ := hbx hkl
            have A : zs[k]?.getD 0 / 3 = sub - (j + 1) → Hid (here zs (k + 1) (sub - (j + 1)) = here zs k (sub - (j + 1)) + 1) := here_hit zs k (sub - (j + 1)) (by rw [hL.out]; omega)
            have B : ¬ zs[k]?.getD 0 / 3 = sub - (j + 1) → Hid (here zs (k + 1) (sub - (j + 1)) = here zs k (sub - (j + 1))) := here_miss zs k (sub - (j + 1)) (by rw [hL.out]; omega)
            clear hbx
            generalize zs[k]?.getD 0 = x at *
            by_cases hxs : x / 3 = sub - (j + 1)
            · have A := A hxs
              clear B
              go_wp2_with (go_at_call 25; refine (refSub_c x x0 x1 _).mono ?_; rintro e w' ⟨rfl, rfl⟩; simp only [])
              go_round
              case rel => exact ⟨k + 1, by omega, by go_num, by rw [A.out]; go_num⟩
              case measure => simp [intOf]; omega
            · have B := B hxs
              clear A
              go_wp2_with (go_at_call 25; refine (refSub_c x x0 x1 _).mono ?_; rintro e w' ⟨rfl, rfl⟩; simp only [])
              go_round
              case rel => exact ⟨k + 1, by omega, by go_num, by rw [B.out]⟩
              case measure => simp [intOf]; omega
          · go_wp2_with fail
            go_round
            case rel => exact ⟨j + 1, by omega, by go_num, by obtain rfl : k = len := by omega
                                                              rw [hS.out]; try go_num⟩
            case measure => simp [intOf]; omega
      · rw [if_neg hneg] at hS
        go_wp2_with fail
        go_loop [5, 24] (fun m i => ∃ k : Nat, k ≤ len ∧ i = .int .i64 k ∧ m = .int .u32 (n + here zs k (sub - (j + 1)))) (fun _ i => len - (intOf i).toNat)
        case atStart => exact ⟨0, Nat.zero_le _, rfl, by simp [here]⟩
        case round =>
          obtain ⟨k, hk, rfl, rfl⟩ := hrel
          have hcx : k < len → w.cell? ⟨g, k, none⟩ = some (.int .u32 (zs[k]?.getD 0)) := fun h => hc k h
          have hbx : k < len → 0 ≤ zs[k]?.getD 0 ∧ zs[k]?.getD 0 < 4294967296 := fun h => hb k h
          have hh := here_le zs k (sub - (j + 1))
          clear hc hb
          by_cases hkl : k < len
          · have hcx := hcx hkl
            obtain ⟨x0, x1⟩ := hbx hkl
            have A : zs[k]?.getD 0 / 3 = sub - (j + 1) → Hid (here zs (k + 1) (sub - (j + 1)) = here zs k (sub - (j + 1)) + 1) := here_hit zs k (sub - (j + 1)) (by rw [hL.out]; omega)
            have B : ¬ zs[k]?.getD 0 / 3 = sub - (j + 1) → Hid (here zs (k + 1) (sub - (j + 1)) = here zs k (sub - (j + 1))) := here_miss zs k (sub - (j + 1)) (by rw [hL.out]; omega)
            clear hbx
            generalize zs[k]?.getD 0 = x at *
            by_cases hxs : x / 3 = sub - (j + 1)
            · have A := A hxs
              clear B
              go_wp2_with (go_at_call 25; refine (refSub_c x x0 x1 _).mono ?_; rintro e w' ⟨rfl, rfl⟩; simp only [])
              go_round
              case rel => exact ⟨k + 1, by omega, by go_num, by rw [A.out]; go_num⟩
              case measure => simp [intOf]; omega
            · have B := B hxs
              clear A
              go_wp2_with (go_at_call 25; refine (refSub_c x x0 x1 _).mono ?_; rintro e w' ⟨rfl, rfl⟩; simp only [])
              go_round
              case rel => exact ⟨k + 1, by omega, by go_num, by rw [B.out]⟩
              case measure => simp [intOf]; omega
          · go_wp2_with fail
            go_round
            case rel => exact ⟨j + 1, by omega, by go_num, by obtain rfl : k = len := by omega
                                                              rw [hS.out]; try go_num⟩
            case measure => simp [intOf]; omega
    · go_wp2_with fail
      go_returns
      obtain rfl : j = 4 := by omega
      exact ⟨rfl, rfl⟩
end Go.Proofs.Ytaoelppkognakaa.Counted
