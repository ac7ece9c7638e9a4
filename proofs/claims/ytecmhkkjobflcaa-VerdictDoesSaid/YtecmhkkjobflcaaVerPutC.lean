/- Contract of a cache's Put, whatever the digest. -/
import Derived.Test.YtecmhkkjobflcaaVerPutF
namespace Go.Proofs.Ytecmhkkjobflcaa.Ver
open Go.RowKit Go.WideMaps Go.Maps
set_option linter.unusedVariables false
set_option linter.unusedSimpArgs false
set_option maxRecDepth 100000

theorem zero_cs : cs zero32 = zeroH := rfl
theorem put_c {w : World} {B cb bm : Nat} {room : Int} {v : Value} {n : Nat} {D : DataW Unit} {L : Known} (C : Holds w B cb bm room v n D L) (h : List Int) (H : IsHash h) (is : Bool) (h1 : 1 ≤ room) (h2 : room ≤ 100) (hm : L.length ≤ room) (hn : n ≤ 1000000) :
    Calls Try.prog 30 #[.pointer (some ⟨cb, 0, none⟩), .agg (cs h).toArray, .bool is] w fun e w' => ∃ v' D', e = .returned (.tuple #[.agg (cs (goneL L room h)).toArray, .bool (fullL L room h)]) ∧ Holds w' B cb bm room v' (n + 1) D' (nextL L room h is) ∧ Turned w w' cb bm v.ownBlock ∧ (∀ k, v'.ownBlock = some k → some k = v.ownBlock ∨ w.heap.size ≤ k) := by
  unfold goneL fullL nextL
  cases hin : isIn L h with
  | true =>
    simp only [if_true, zero_cs, Bool.not_true, Bool.false_and]
    refine (put_k C h H is h1 h2 hm hn hin).mono ?_
    rintro e w' ⟨D', he, C', T⟩
    exact ⟨v, D', he, C', T, fun k hk => .inl hk.symm⟩
  | false =>
    simp only [Bool.false_eq_true, if_false, Bool.not_false, Bool.true_and]
    by_cases hne : (L.length : Int) = room
    · rw [if_pos hne, if_pos hne, decide_eq_true hne]
      match L, C, hin, hne, hm with
      | [], C, hin, hne, hm => simp at hne; omega
      | (p1, pb) :: L', C, hin, hne, hm => exact put_f C h H is h1 h2 hn hin (by simpa using hne)
    · rw [if_neg hne, if_neg hne, decide_eq_false hne, zero_cs]
      exact put_m C h H is h1 h2 hm hn hin hne
theorem next_len {L : Known} {room : Int} (h : List Int) (is : Bool) (hr : 1 ≤ room) (hm : (L.length : Int) ≤ room) : ((nextL L room h is).length : Int) ≤ room := by
  unfold nextL
  split
  · unfold again; rw [List.length_map]; exact hm
  · split
    · rw [List.length_append, List.length_tail]; simp; omega
    · rw [List.length_append]; simp; omega
end Go.Proofs.Ytecmhkkjobflcaa.Ver
