/- Contract of slices.Delete at digests, as the cache calls it: the first one is taken out. -/
import Derived.Test.YtecmhkkjobflcaaVerCalls
import Derived.Deep.RegionLaw
import Derived.Lib.SliceRun
namespace Go.Proofs.Ytecmhkkjobflcaa.Ver
open Go.RowKit Go.WideMaps Go.Maps
set_option linter.unusedVariables false
set_option linter.unusedSimpArgs false
set_option maxRecDepth 100000

/-- A list with some elements written over, from place o on. -/
def ovw : List Value → Nat → List Value → List Value
  | xs, _, [] => xs
  | xs, o, v :: r => ovw (xs.set o v) (o + 1) r
theorem ovw_len : ∀ (vs xs : List Value) (o : Nat), (ovw xs o vs).length = xs.length
  | [], xs, o => rfl
  | v :: r, xs, o => by rw [ovw, ovw_len r]; simp
theorem ovw_keep : ∀ (vs xs : List Value) (o m : Nat), m ≤ o → (ovw xs o vs).take m = xs.take m
  | [], xs, o, m, h => rfl
  | v :: r, xs, o, m, h => by rw [ovw, ovw_keep r _ _ _ (by omega), List.take_set_of_le h]
theorem ovw_take : ∀ (vs xs : List Value) (o : Nat), o + vs.length ≤ xs.length → (ovw xs o vs).take (o + vs.length) = xs.take o ++ vs
  | [], xs, o, h => by simp [ovw]
  | v :: r, xs, o, h => by
    rw [List.length_cons] at h
    rw [ovw, List.length_cons, show o + (r.length + 1) = o + 1 + r.length from by omega, ovw_take r _ _ (by simp; omega)]
    have : (xs.set o v).take (o + 1) = xs.take o ++ [v] := by
      rw [List.take_add_one, List.take_set_of_le (Nat.le_refl _), List.getElem?_set_self (by omega)]; rfl
    rw [this]; simp

theorem own_setCells {base g n cap size : Nat} {e : TypeId} : ∀ (vs : List Value) (o : Nat) (w : World) (xs : List Value), w.ownsRow base e size (.slice (some ⟨g, 0, none⟩) n cap) n xs →
    (w.setCells g o vs).ownsRow base e size (.slice (some ⟨g, 0, none⟩) n cap) n (ovw xs o vs) ∧ w.grownBy (w.setCells g o vs) (some g)
  | [], o, w, xs, h => ⟨h, ⟨rfl, rfl, rfl, Nat.le_refl _, fun _ _ _ => rfl⟩⟩
  | v :: r, o, w, xs, h => by
    obtain ⟨h1, h2⟩ := h.stored o v
    obtain ⟨h3, h4⟩ := own_setCells r (o + 1) _ _ h1
    rw [World.setCells]
    exact ⟨h3, ⟨h4.os.trans h2.os, h4.tape.trans h2.tape, h4.output.trans h2.output, Nat.le_trans h2.size h4.size, fun k hk hn => (h4.block k (Nat.lt_of_lt_of_le hk h2.size) hn).trans (h2.block k hk hn)⟩⟩
theorem own_shrink {w : World} {base g n cap size : Nat} {e : TypeId} {xs : List Value} (h : w.ownsRow base e size (.slice (some ⟨g, 0, none⟩) (n + 1) cap) (n + 1) xs) : w.ownsRow base e size (.slice (some ⟨g, 0, none⟩) n cap) n (xs.take (n * size)) := by
  obtain ⟨h1, h2⟩ := h
  refine ⟨by rw [List.length_take, h1, Nat.succ_mul]; omega, ?_⟩
  rcases h2 with ⟨h2, _⟩ | ⟨g', cap', cur, hv, hb, hg, hn, hm, hs, ht⟩
  · cases h2
  · injection hv with a1 a2 a3
    injection a1 with a1
    injection a1 with a1
    subst a1; subst a3
    refine .inr ⟨g, cap, cur, rfl, hb, hg, by omega, hm, hs, ?_⟩
    rw [← ht, List.take_take, Nat.min_eq_left (Nat.mul_le_mul_right _ (by omega))]
theorem own_room {w : World} {base g n cap size : Nat} {e : TypeId} {xs : List Value} (h : w.ownsRow base e size (.slice (some ⟨g, 0, none⟩) n cap) n xs) :
    n ≤ cap ∧ cap ≤ maxLen ∧ xs.length = n * size ∧ (∀ j, j < cap * size → (w.cell? ⟨g, j, none⟩).isSome = true ∧ w.frozen? ⟨g, j, none⟩ = false) := by
  obtain ⟨h1, h2⟩ := id h
  rcases h2 with ⟨h2, _⟩ | ⟨g', cap', cur, hv, hb, hg, hn, hm, hs, ht⟩
  · cases h2
  · injection hv with a1 a2 a3
    injection a1 with a1
    injection a1 with a1
    subst a1; subst a3
    refine ⟨hn, hm, h1, fun j hj => ⟨?_, h.frozenAt j⟩⟩
    rw [cell_of_row w g j cur e (0, 0) hg, Array.getElem?_eq_getElem (by omega)]; rfl

def zeroH : List Value := List.replicate 32 (.int .u8 0)
theorem zeroHash (w : World) : (zeroValue 48).run Try.prog w = .ok (.agg zeroH.toArray) w := by kernel_rfl
theorem run_clear1 (w : World) (g o c : Nat) (ty : TypeId) (ht : ∀ j, j < 32 → (w.cell? ⟨g, o + j, none⟩).isSome = true ∧ w.frozen? ⟨g, o + j, none⟩ = false) :
    (Builtin.clear_ #[60] ty #[.slice (some ⟨g, o, none⟩) 1 c]).run Try.prog w = .ok (.tuple #[]) (w.setCells g o zeroH) := by
  have hzc : (Builtin.zeroCells (Value.agg zeroH.toArray).cells 1).toList = zeroH := by kernel_rfl
  have hst := run_storeCells_cells (P := Try.prog) g o zeroH 0 w (fun j hj => by rw [Nat.add_zero]; exact (ht j (by simpa [zeroH] using hj)).1) (fun j hj => by rw [Nat.add_zero]; exact (ht j (by simpa [zeroH] using hj)).2) (by intro v hv; rw [List.eq_of_mem_replicate hv]; rfl)
  simp only [Nat.add_zero] at hst
  have hb : (Builtin.clear_ #[60] ty #[.slice (some ⟨g, o, none⟩) 1 c]).run Try.prog w = (((zeroValue 48) >>= fun z => storeCells ⟨g, o, none⟩ (Builtin.zeroCells z.cells 1).toList) >>= fun _ => pure (.tuple #[])).run Try.prog w := by
    simp [Builtin.clear_, run_underlying Try.underlying60]
  rw [hb, Sem.run_bind, Sem.run_bind, zeroHash, Result.andThen_ok, hzc, hst, Result.andThen_ok, Sem.run_pure]

set_option maxHeartbeats 1000000 in
theorem del_c (B g n cap : Nat) (h0 rest : List Value) (w : World) (hl : h0.length = 32) (h1 : ∀ v ∈ rest, v.oneCell' = true) (hown : w.ownsRow B 48 32 (.slice (some ⟨g, 0, none⟩) (n + 1) cap) (n + 1) (h0 ++ rest)) :
    Calls Try.prog 39 #[.slice (some ⟨g, 0, none⟩) (n + 1) cap, .int .i64 0, .int .i64 1] w fun e w' => e = .returned (.slice (some ⟨g, 0, none⟩) n cap) ∧ w'.ownsRow B 48 32 (.slice (some ⟨g, 0, none⟩) n cap) n rest ∧ w.grownBy w' (some g) := by
  obtain ⟨i0, hi0, hz0, hz1, hz2⟩ := info_parts (show (Try.prog.info? 48).map (fun i => (i.zero, i.size, i.bytes)) = some (some (.agg zeroH.toArray), 32, 32) from by kernel_rfl)
  obtain ⟨r1, r2, r3, r4⟩ := own_room hown
  have r5 : rest.length = n * 32 := by rw [List.length_append, hl] at r3; omega
  unfold maxLen at r2
  obtain ⟨o1, g1⟩ := own_setCells rest 0 w.drew _ hown.drew
  obtain ⟨o2, g2⟩ := own_setCells zeroH (n * 32) _ _ o1
  have hfin : (ovw (ovw (h0 ++ rest) 0 rest) (n * 32) zeroH).take (n * 32) = rest := by
    rw [ovw_keep _ _ _ _ (Nat.le_refl _)]
    have := ovw_take rest (h0 ++ rest) 0 (by rw [List.length_append]; omega)
    rw [Nat.zero_add, r5] at this
    simpa using this
  have o3 := own_shrink o2
  rw [hfin] at o3
  have hG : w.grownBy ((w.drew.setCells g 0 rest).setCells g (n * 32) zeroH) (some g) := ⟨g2.os.trans g1.os, g2.tape.trans g1.tape, g2.output.trans g1.output, Nat.le_trans g1.size g2.size, fun k hk hn => (g2.block k (Nat.lt_of_lt_of_le hk g1.size) hn).trans (g1.block k hk hn)⟩
  obtain ⟨r6, r7, r8, r9⟩ := own_room o1
  obtain ⟨W1, hW1⟩ : ∃ W1, W1 = w.drew.setCells g 0 rest := ⟨_, rfl⟩
  have hcl : ∀ ty c, (Builtin.clear_ #[60] ty #[.slice (some ⟨g, n * 32, none⟩) 1 c]).run Try.prog W1 = .ok (.tuple #[]) (W1.setCells g (n * 32) zeroH) := fun ty c => run_clear1 W1 g (n * 32) c ty (fun j hj => by rw [hW1]; exact r9 _ (by omega))
  have hsrc : Hid (∀ j u, rest[j]? = some u → w.drew.cell? ⟨g, 32 + j, none⟩ = some u) := fun j u hj => by
    have hlt := (List.getElem?_eq_some_iff.1 hj).1
    rw [hown.drew.cellAt (32 + j) (by omega), List.getElem?_append_right (by omega), hl, Nat.add_sub_cancel_left]; exact hj
  obtain ⟨A, hA, hsrcA⟩ : ∃ A : Addr, (if cap = 1 then some (⟨g, 0, none⟩ : Addr) else some ⟨g, 32, none⟩) = some A ∧ Hid (∀ j u, rest[j]? = some u → w.drew.cell? (A.add j) = some u) := by
    by_cases hc1 : cap = 1
    · refine ⟨⟨g, 0, none⟩, by simp [hc1], fun j u hj => ?_⟩
      have hlt := (List.getElem?_eq_some_iff.1 hj).1
      omega
    · exact ⟨⟨g, 32, none⟩, by simp [hc1], fun j u hj => by rw [Addr.add_mid]; exact hsrc.out j u hj⟩
  have hsp : Hid (∀ j, j < rest.length → (w.drew.cell? ⟨g, 0 + 0 * 32 + j, none⟩).isSome = true ∧ w.drew.frozen? ⟨g, 0 + 0 * 32 + j, none⟩ = false) := fun j hj => by
    have := r4 j (by omega)
    simpa using this
  rw [← hW1] at o3 hG
  have hW : Hid (W1 = w.drew.setCells g 0 rest) := hW1
  have o3 : Hid _ := o3
  have hn1 : (1 : Int) ≤ (n : Int) + 1 := by omega
  have hn2 : ¬ cap = n := by omega
  clear hW1 o1 o2 g1 g2 r9 r4 hfin hown
  go_enter Try.func39, Try.ntmps39
  go_wp2_with fail
  go_region_law (refine step_append_room rfl (.tmp 22) (.tmp 25) 60 rfl 48 i0 32 Try.underlying60 hi0 hz1 g 0 0 cap (by simp [Act.eval, Act.put]) A n (cap - 1) rest (by simp [Act.eval, Act.put]) r5 hsrcA.out h1 (by omega) hsp.out ?_; rw [← hW.out])
  all_goals
    go_wp2
    go_returns
    exact ⟨rfl, o3.out, hG⟩
end Go.Proofs.Ytecmhkkjobflcaa.Ver
