/- Contracts of slices.Clone at digests and of a cache's Known. -/
import Derived.Test.YtecmhkkjobflcaaVerDel
namespace Go.Proofs.Ytecmhkkjobflcaa.Ver
open Go.RowKit Go.WideMaps Go.Maps
set_option linter.unusedVariables false
set_option linter.unusedSimpArgs false
set_option maxRecDepth 100000

theorem infoHash : (Try.prog.info? 48).map (fun i => (i.zero, i.size, i.bytes)) = some (some (.agg zeroH.toArray), 32, 32) := by kernel_rfl

theorem growB {B : Nat} {a w w' : World} {g n cap : Nat} (h : Below B a w) (hg : w.grownBy w' (Value.ownBlock (.slice (some ⟨g, 0, none⟩) n cap))) (hB : B ≤ w.heap.size) (hr : B ≤ g) : Below B a w' :=
  h.grown hg hB (fun j hj => by have : g = j := by simpa [Value.ownBlock] using hj
                                omega)
theorem eq_nil (w : World) : (binOp .eql 60 (.slice none 0 0) (.slice none 0 0)).run Try.prog w = .ok (.bool true) w := by kernel_rfl
theorem eq_some (g n cap : Nat) (w : World) : (binOp .eql 60 (.slice (some ⟨g, 0, none⟩) n cap) (.slice none 0 0)).run Try.prog w = .ok (.bool false) w := by kernel_rfl
theorem clone_nil (w : World) : Calls Try.prog 40 #[.slice none 0 0] w fun e w' => e = .returned (.slice none 0 0) ∧ w' = w := by
  have hq := eq_nil
  go_enter Try.func40, Try.ntmps40
  go_wp2_with fail
  go_returns
  exact ⟨rfl, rfl⟩

set_option maxHeartbeats 1000000 in
theorem clone_c (B g n cap : Nat) (xs : List Value) (w : World) (hn : 0 < n) (h1 : ∀ v ∈ xs, v.oneCell' = true) (hm : n ≤ 1000) (hown : w.ownsRow B 48 32 (.slice (some ⟨g, 0, none⟩) n cap) n xs) :
    Calls Try.prog 40 #[.slice (some ⟨g, 0, none⟩) n cap] w fun e w' => ∃ g' cap', e = .returned (.slice (some ⟨g', 0, none⟩) n cap') ∧ w'.ownsRow w.heap.size 48 32 (.slice (some ⟨g', 0, none⟩) n cap') n xs ∧ Below w.heap.size w w' := by
  obtain ⟨i0, hi0, hz0, hz1, hz2⟩ := info_parts infoHash
  have hme := World.ownsRow_made (base := w.heap.size) (e := 48) (size := 32) w #[] 0 (Nat.le_refl _) (by decide) rfl
  have hx := hown.1
  have hg := (hown.lt g rfl).2
  have hc : ∀ j u, xs[j]? = some u → (w.alloc (.cells #[] 48)).cell? ((⟨g, 0, none⟩ : Addr).add j) = some u := fun j u hj => by
    have hlt := (List.getElem?_eq_some_iff.1 hj).1
    rw [Addr.add_mid, Nat.zero_add, (hown.alloc _).cellAt j (by omega)]; exact hj
  have hc : Hid (∀ j u, xs[j]? = some u → (w.alloc (.cells #[] 48)).cell? ((⟨g, 0, none⟩ : Addr).add j) = some u) := hc
  have hu : Hid (∀ v ∈ xs, v.oneCell' = true) := h1
  clear h1
  have hq := eq_some g n cap
  go_enter Try.func40, Try.ntmps40
  go_wp2_with (at_builtin; refine wpList_append_lies _ rfl _ _ 60 rfl w.heap.size 48 i0 (.agg zeroH.toArray) 32 32 Try.underlying60 hi0 hz0 hz1 hz2 rfl (by decide) (.slice (some ⟨w.heap.size, 0, none⟩) 0 0) 0 [] rfl hme ⟨g, 0, none⟩ n cap xs rfl hx hc.out hu.out hn (by unfold maxLen; omega) (by omega) (by simp) _ rfl ?_; intro g2 cap2 w1 hown2 hgrow hat hlt)
  go_returns
  refine ⟨g2, cap2, by simp, by simpa using hown2, ?_⟩
  exact growB ((Below.refl _ _).alloc (Nat.le_refl _) _) hgrow (by simp) (Nat.le_refl _)

theorem flat_one (L : Known) : ∀ v ∈ L.flatMap (fun p => cs p.1), v.oneCell' = true := by
  intro v hv
  obtain ⟨p, _, hp⟩ := List.mem_flatMap.1 hv
  exact cs_one p.1 v hp

/-- What Known hands back: as many digests, in order, in a row of their own. -/
theorem known_c {w : World} {B cb bm : Nat} {room : Int} {v : Value} {n : Nat} {D : DataW Unit} {L : Known} (C : Holds w B cb bm room v n D L) (hm : L.length ≤ 1000) :
    Calls Try.prog 36 #[.pointer (some ⟨cb, 0, none⟩)] w fun e w' => ∃ a cap, e = .returned (.slice a L.length cap) ∧ w'.ownsRow w.heap.size 48 32 (.slice a L.length cap) L.length (L.flatMap fun p => cs p.1) ∧ Below w.heap.size w w' := by
  obtain ⟨c0, c1, c2⟩ := C.cell1
  have hrow := C.row
  rcases hrow.2 with ⟨hv, hl⟩ | ⟨g, cap, cur, hv, _⟩
  · subst hv
    have hL : L = [] := List.length_eq_zero_iff.1 hl
    subst hL
    clear hrow
    go_enter Try.func36, Try.ntmps36
    go_wp2_with fail
    refine (clone_nil _).mono ?_
    rintro e x ⟨rfl, rfl⟩
    simp only []
    go_wp2_with fail
    go_returns
    exact ⟨none, 0, rfl, World.ownsRow_nil _ _ _ _, Below.refl _ _⟩
  · subst hv
    have hpos : 0 < L.length := by
      rcases Nat.eq_zero_or_pos L.length with h | h
      · have hL : L = [] := List.length_eq_zero_iff.1 h
        have := C.nil hL
        cases this
      · exact h
    go_enter Try.func36, Try.ntmps36
    go_wp2_with fail
    refine (clone_c B g L.length cap _ w hpos (flat_one L) hm hrow).mono ?_
    rintro e x ⟨g', cap', rfl, hown, hb⟩
    simp only []
    go_wp2_with fail
    go_returns
    exact ⟨some ⟨g', 0, none⟩, cap', rfl, hown, hb⟩
end Go.Proofs.Ytecmhkkjobflcaa.Ver
