/- Plain laws of the list model of a cache: what is known behind Put, of which length. -/
import Derived.Test.YtecmhkkjobflcaaVerPut
namespace Go.Proofs.Ytecmhkkjobflcaa.Ver
set_option linter.unusedVariables false
set_option linter.unusedSimpArgs false

theorem isIn_app (L : Known) (h k : List Int) (b : Bool) : isIn (L ++ [(h, b)]) k = (isIn L k || (h == k)) := by
  unfold isIn; rw [List.any_append]; simp
theorem isIn_again (L : Known) (h k : List Int) (b : Bool) : isIn (again L h b) k = isIn L k := by
  rw [isIn_keys, keys_again, ← isIn_keys]
theorem verd_no {L : Known} {h : List Int} (hn : isIn L h = false) : verd L h = false := by
  unfold verd
  have : L.find? (fun q => q.1 == h) = none := by
    rw [List.find?_eq_none]
    intro q hq
    unfold isIn at hn
    exact List.any_eq_false.1 hn q hq
  rw [this]
theorem isIn_cons (p : List Int × Bool) (L : Known) (h : List Int) : isIn (p :: L) h = ((p.1 == h) || isIn L h) := by
  unfold isIn; rw [List.any_cons]
theorem verd_cons (p : List Int × Bool) (L : Known) (h : List Int) : verd (p :: L) h = if p.1 = h then p.2 else verd L h := by
  unfold verd
  rw [List.find?_cons]
  by_cases e : p.1 = h
  · have : (p.1 == h) = true := by simpa using e
    rw [if_pos e, this]
  · have : (p.1 == h) = false := by simpa using e
    rw [if_neg e, this]
theorem nodup_not {p : List Int × Bool} {L : Known} (hn : (keys (p :: L)).Nodup) : isIn L p.1 = false := by
  rw [isIn_keys]
  have := (List.nodup_cons.1 hn).1
  cases hc : (keys L).contains p.1 with
  | false => rfl
  | true => exact absurd (List.contains_iff_mem.1 hc) this

/-- The number of those known. -/
theorem next_size {L : Known} {room : Int} (h : List Int) (is : Bool) (hr : 1 ≤ room) :
    (nextL L room h is).length = if fullL L room h = true then L.length else if isIn L h = true then L.length else L.length + 1 := by
  unfold nextL fullL
  cases hi : isIn L h with
  | true => simp [again]
  | false =>
    by_cases hl : (L.length : Int) = room
    · simp only [hl]
      simp
      omega
    · simp [hl]
/-- Whether a digest is known behind Put. -/
theorem next_in {L : Known} (hn : (keys L).Nodup) {room : Int} (k h : List Int) (is : Bool) (hr : 1 ≤ room) :
    isIn (nextL L room k is) h = if k = h then true else if fullL L room k = true ∧ goneL L room k = h then false else isIn L h := by
  unfold nextL fullL goneL
  cases hi : isIn L k with
  | true =>
    simp only [if_true, isIn_again, Bool.not_true, Bool.false_and, Bool.false_eq_true, false_and, if_false]
    by_cases e : k = h
    · rw [if_pos e, ← e, hi]
    · rw [if_neg e]
  | false =>
    simp only [Bool.false_eq_true, if_false, Bool.not_false, Bool.true_and, decide_eq_true_eq]
    by_cases hl : (L.length : Int) = room
    · rw [if_pos hl, if_pos hl, isIn_app]
      match L, hn, hl, hi with
      | [], _, hl, _ => simp at hl; omega
      | p :: L', hn, hl, hi =>
        have h1 := nodup_not hn
        by_cases e : k = h
        · subst e; simp
        · rw [if_neg e]
          have e' : (k == h) = false := by simpa using e
          rw [e', Bool.or_false, List.tail_cons]
          by_cases e2 : p.1 = h
          · rw [if_pos ⟨hl, by simpa [keys] using e2⟩, ← e2, h1]
          · rw [if_neg (fun x => e2 (by simpa [keys] using x.2)), isIn_cons]
            have : (p.1 == h) = false := by simpa using e2
            rw [this, Bool.false_or]
    · rw [if_neg hl, isIn_app]
      by_cases e : k = h
      · subst e; simp
      · rw [if_neg e, if_neg (fun x => hl x.1)]
        have e' : (k == h) = false := by simpa using e
        rw [e', Bool.or_false]
/-- The verdict of a digest behind Put. -/
theorem next_verd {L : Known} (hn : (keys L).Nodup) {room : Int} (k h : List Int) (is : Bool) (hr : 1 ≤ room) :
    verd (nextL L room k is) h = if k = h then is else if fullL L room k = true ∧ goneL L room k = h then false else verd L h := by
  unfold nextL fullL goneL
  cases hi : isIn L k with
  | true =>
    simp only [if_true, Bool.not_true, Bool.false_and, Bool.false_eq_true, false_and, if_false]
    rw [verd_again L k h is hi]
    by_cases e : k = h
    · rw [if_pos e, if_pos e.symm]
    · rw [if_neg e, if_neg (fun x => e x.symm)]
  | false =>
    simp only [Bool.false_eq_true, if_false, Bool.not_false, Bool.true_and, decide_eq_true_eq]
    by_cases hl : (L.length : Int) = room
    · rw [if_pos hl, if_pos hl]
      match L, hn, hl, hi with
      | [], _, hl, _ => simp at hl; omega
      | p :: L', hn, hl, hi =>
        have h1 := nodup_not hn
        rw [isIn_cons] at hi
        simp only [Bool.or_eq_false_iff] at hi
        rw [List.tail_cons, verd_app L' k h is hi.2]
        by_cases e : k = h
        · rw [if_pos e, if_pos e.symm]
        · rw [if_neg e, if_neg (fun x => e x.symm)]
          by_cases e2 : p.1 = h
          · rw [if_pos ⟨hl, by simpa [keys] using e2⟩, ← e2, verd_no h1]
          · rw [if_neg (fun x => e2 (by simpa [keys] using x.2)), verd_cons, if_neg e2]
    · rw [if_neg hl, verd_app L k h is hi]
      by_cases e : k = h
      · rw [if_pos e, if_pos e.symm]
      · rw [if_neg e, if_neg (fun x => e x.symm), if_neg (fun x => hl x.1)]
end Go.Proofs.Ytecmhkkjobflcaa.Ver
