/- Contract of the document's Known. -/
import Derived.Test.YtecmhkkjobflcaaVerRef
namespace Go.Proofs.Ytecmhkkjobflcaa.Ver
open Go.RowKit Go.WideMaps Go.Maps
set_option linter.unusedVariables false
set_option linter.unusedSimpArgs false
set_option maxRecDepth 100000

theorem news_of2 (w : World) (xs : List Value) (T : TypeId) : ∀ j u, xs[j]? = some u → (w.alloc (.cells xs.toArray T)).cell? ((⟨w.heap.size, 0, none⟩ : Addr).add j) = some u := by
  have h := World.news_of_block (w := w.alloc (.cells xs.toArray T)) (B := w.heap.size) (cs := xs.toArray) (t := T) (fr := (0, 0)) (heap_alloc_new w _)
  simpa using h
theorem keys_take {L : Known} {k : Nat} {p : List Int × Bool} (h : L[k]? = some p) : keys (L.take (k + 1)) = keys (L.take k) ++ [p.1] := by
  have hk := (List.getElem?_eq_some_iff.1 h).1
  have hp := (List.getElem?_eq_some_iff.1 h).2
  unfold keys
  rw [← List.take_append_getElem hk, List.map_append, hp]; rfl

set_option maxHeartbeats 4000000 in
theorem rknown_c {w : World} {B rb : Nat} {room : Int} {v : Value} {L : Known} (R : RHolds w B rb room v L) (hm : L.length ≤ 1000) :
    Calls Try.prog 37 #[.pointer (some ⟨rb, 0, none⟩)] w fun e w' => ∃ a cap, e = .returned (.slice a L.length cap) ∧ w'.ownsRow w.heap.size 48 32 (.slice a L.length cap) L.length ((keys L).flatMap cs) ∧ Below w.heap.size w w' := by
  have hu := Try.underlying48
  obtain ⟨i0, hi0, hz0, hz1, hz2⟩ := info_parts infoHash
  obtain ⟨a, cap, rfl⟩ := rowN_shape R.row
  obtain ⟨m, em⟩ : ∃ m, L.length = m := ⟨_, rfl⟩
  have hxs := R.hs
  rw [em] at R hm ⊢
  have hLm : Hid (L.length = m) := em
  clear em
  have hB := (Below.refl w.heap.size w).alloc (Nat.le_refl _) (.cells #[] 48)
  have hme := World.ownsRow_made (base := w.heap.size) (e := 48) (size := 32) w #[] 0 (Nat.le_refl _) (by decide) rfl
  go_enter Try.func37, Try.ntmps37
  go_wp2_with fail
  go_loopw [3, 4] (fun sv i wz => ∃ (k g2 c2 : Nat), k ≤ m ∧ i = .int .i64 k ∧ sv = .slice (some ⟨g2, 0, none⟩) k c2 ∧ wz.ownsRow w.heap.size 48 32 (.slice (some ⟨g2, 0, none⟩) k c2) k ((keys (L.take k)).flatMap cs) ∧ Below w.heap.size w wz) (fun _ i _ => m - (intOf i).toNat)
  case atStart => exact ⟨0, w.heap.size, 0, Nat.zero_le _, rfl, rfl, by simpa [keys] using hme, hB⟩
  case round =>
    clear hB hme
    obtain ⟨k, g2, c2, hk, rfl, rfl, hown, hbz⟩ := hrel
    have R1 := R.below hbz
    obtain ⟨c0, _⟩ := R1.cells
    by_cases hkm : k < m
    · have hrow := R1.row
      rw [hLm.out] at hrow
      obtain ⟨g, rfl⟩ := rowN_addr hrow (by omega)
      have hkl : k < L.length := by rw [hLm.out]; exact hkm
      obtain ⟨p, hp⟩ : ∃ p, L[k]? = some p := ⟨_, List.getElem?_eq_getElem hkl⟩
      have X := hxs p (List.mem_of_getElem? hp)
      have rp := (pair_at hxs hrow hp).1
      have hkt := keys_take hp
      have hktX : Hid _ := hkt
      have hfold := fold_hash X
      have hcl := cs_len X
      clear hp hkl R1 hrow hkt
      obtain ⟨rr, err⟩ : ∃ rr, wr.heap.size = rr := ⟨_, rfl⟩
      have oA := hown.alloc (.cells (cs p.1).toArray 48)
      have BA := hbz.alloc hbz.size (.cells (cs p.1).toArray 48)
      have hnews := news_of2 wr (cs p.1) 48
      have hszA : (wr.alloc (.cells (cs p.1).toArray 48)).heap.size = rr + 1 := by rw [← err]; simp
      have szAX : Hid _ := hszA
      have hsz := hbz.size
      rw [err] at hnews
      have hnewsX : Hid _ := hnews
      have og := (hown.lt g2 rfl)
      clear hnews hszA hown
      go_wp2_with (first | (refine wpList_load_mid rfl 48 (.tmp 22) rfl (g) (k * 33) rfl (cs p.1) _ (rp) hu rfl (sizeOfHash X) ?_) | (refine wpList_append_lies _ rfl (.tmp 15) (.tmp 24) 60 rfl w.heap.size 48 i0 (.agg zeroH.toArray) 32 32 Try.underlying60 hi0 hz0 hz1 hz2 rfl (by decide) (.slice (some ⟨g2, 0, none⟩) k c2) k ((keys (L.take k)).flatMap cs) rfl oA ⟨rr, 0, none⟩ 1 1 (cs p.1) rfl (cs_len X) hnewsX.out (cs_one p.1) (by decide) (by unfold maxLen; omega) (by omega) (by have := szAX.out; omega) (rr + 1) szAX.out ?_; intro g3 c3 w1 hown2 hgrow hat hlt2) | fail)
      have own3 := hown2
      have ek : (keys (L.take k)).flatMap cs ++ cs p.1 = (keys (L.take (k + 1))).flatMap cs := by rw [hktX.out, List.flatMap_append]; simp
      rw [ek] at own3
      have B3 := BA.grown hgrow (by have := szAX.out; omega) (fun j e => by cases e; exact og.1)
      clear hown2 hgrow oA BA hnewsX szAX hat hfold hcl ek
      go_roundw
      case rel => exact ⟨k + 1, g3, c3, by omega, by go_num, rfl, own3, B3⟩
      case measure => simp [intOf]; omega
    · obtain rfl : m = k := by omega
      have e1 : L.take m = L := by rw [← hLm.out, List.take_length]
      rw [e1] at hown
      clear e1
      go_wp2_with fail
      go_returns
      exact ⟨some ⟨g2, 0, none⟩, c2, rfl, hown, hbz⟩
end Go.Proofs.Ytecmhkkjobflcaa.Ver
