/- A cache of verdicts as a world holds it, and what it knows: a list of digests and verdicts, in the order in which they came. -/
import Derived.Test.YtecmhkkjobflcaaVer
namespace Go.Proofs.Ytecmhkkjobflcaa.Ver
open Go.RowKit Go.WideMaps Go.Maps
set_option linter.unusedVariables false

/-- What is known, in order. -/
abbrev Known := List (List Int × Bool)
def keys (L : Known) : List (List Int) := L.map Prod.fst
def num (b : Bool) : Int := if b then 1 else 0
/-- The verdict of a digest. -/
def verd (L : Known) (h : List Int) : Bool := match L.find? (fun p => p.1 == h) with | some p => p.2 | none => false
def isIn (L : Known) (h : List Int) : Bool := L.any (fun p => p.1 == h)

/-- The map's datum says what the list says. -/
structure Says (D : DataW Unit) (L : Known) : Prop where
  tidy : Tidy D
  hs : ∀ p ∈ L, IsHash p.1
  nodup : (keys L).Nodup
  has : ∀ h, IsHash h → Maps.has D (kl h) = isIn L h
  at_ : ∀ h, IsHash h → D.atKey (kl h) (.lit (.int .i64 0)) = .lit (.int .i64 (num (verd L h)))
  size : Maps.size D = L.length

theorem says_nil : Says (.map []) [] where
  tidy := tidy_empty
  hs := fun p hp => by cases hp
  nodup := List.nodup_nil
  has := fun h _ => rfl
  at_ := fun h _ => rfl
  size := rfl

/-- The verdict of a digest that is known is another one. -/
def again (L : Known) (h : List Int) (b : Bool) : Known := L.map (fun p => if p.1 == h then (p.1, b) else p)

theorem keys_again (L : Known) (h : List Int) (b : Bool) : keys (again L h b) = keys L := by
  unfold keys again
  rw [List.map_map]
  apply List.map_congr_left
  intro p _
  simp only [Function.comp]
  split <;> rfl
theorem isIn_keys (L : Known) (h : List Int) : isIn L h = (keys L).contains h := by
  unfold isIn keys
  induction L with
  | nil => rfl
  | cons p L ih => rw [List.any_cons, ih, List.map_cons, List.contains_cons]; congr 1; rw [Bool.eq_iff_iff, beq_iff_eq, beq_iff_eq]; exact eq_comm
theorem verd_app (L : Known) (h k : List Int) (b : Bool) (hn : isIn L h = false) : verd (L ++ [(h, b)]) k = if k = h then b else verd L k := by
  unfold verd
  rw [List.find?_append]
  by_cases e : k = h
  · subst e
    have : L.find? (fun p => p.1 == k) = none := by
      rw [List.find?_eq_none]
      intro p hp
      unfold isIn at hn
      have := List.any_eq_false.1 hn p hp
      exact this
    rw [this, if_pos rfl]; simp
  · rw [if_neg e]
    cases hf : L.find? (fun p => p.1 == k) with
    | some p => simp
    | none => simp [Ne.symm e]
theorem verd_again (L : Known) (h k : List Int) (b : Bool) (hi : isIn L h = true) : verd (again L h b) k = if k = h then b else verd L k := by
  unfold verd again isIn at *
  induction L with
  | nil => simp at hi
  | cons p L ih =>
    rw [List.map_cons, List.find?_cons, List.find?_cons]
    by_cases e : p.1 = h
    · rw [if_pos (by simpa using e)]
      simp only
      by_cases q : p.1 = k
      · have : k = h := q.symm.trans e
        simp [q, this]
      · have hk : ¬ k = h := fun x => q (e.trans x.symm)
        rw [if_neg hk]
        have hf : (p.1 == k) = false := by simpa using q
        rw [hf]
        simp only
        by_cases hi2 : L.any (fun p => p.1 == h) = true
        · rw [ih hi2, if_neg hk]
        · have : L.map (fun p => if p.1 == h then (p.1, b) else p) = L := by
            conv => rhs; rw [← List.map_id L]
            apply List.map_congr_left
            intro x hx
            rw [if_neg (fun hh => hi2 (List.any_eq_true.2 ⟨x, hx, hh⟩))]; rfl
          rw [this]
    · rw [if_neg (by simpa using e)]
      rw [List.any_cons] at hi
      have e' : (p.1 == h) = false := by simpa using e
      rw [e', Bool.false_or] at hi
      cases hk : (p.1 == k) with
      | true =>
        have : p.1 = k := by simpa using hk
        simp only
        rw [if_neg (fun x => e (this.trans x))]
      | false => simp only; exact ih hi

/-- A digest that is known gets another verdict. -/
theorem says_again {D : DataW Unit} {L : Known} (S : Says D L) {h : List Int} (H : IsHash h) (b : Bool) (hi : isIn L h = true) : Says (D.put (kl h) (.lit (.int .i64 (num b)))) (again L h b) where
  tidy := S.tidy.put (kl_key H) _
  hs := fun p hp => by
    unfold again at hp
    obtain ⟨q, hq, rfl⟩ := List.mem_map.1 hp
    split
    · exact S.hs q hq
    · exact S.hs q hq
  nodup := by rw [keys_again]; exact S.nodup
  has := fun k K => by
    rw [isIn_keys, keys_again, ← isIn_keys]
    by_cases e : k = h
    · subst e; rw [has_put_same S.tidy.isMap (kl_key H), hi]
    · rw [has_put_other (fun x => e (kl_inj K H x)), S.has k K]
  at_ := fun k K => by
    rw [verd_again L h k b hi]
    by_cases e : k = h
    · subst e; rw [atKey_put_same S.tidy.isMap (kl_key H), if_pos rfl]
    · rw [atKey_put_other (fun x => e (kl_inj K H x)), if_neg e, S.at_ k K]
  size := by
    rw [size_put S.tidy, S.has h H, hi, if_pos rfl, S.size]
    unfold again; rw [List.length_map]

/-- A digest that isn't known comes last. -/
theorem says_more {D : DataW Unit} {L : Known} (S : Says D L) {h : List Int} (H : IsHash h) (b : Bool) (hi : isIn L h = false) : Says (D.put (kl h) (.lit (.int .i64 (num b)))) (L ++ [(h, b)]) where
  tidy := S.tidy.put (kl_key H) _
  hs := fun p hp => by
    rcases List.mem_append.1 hp with hp | hp
    · exact S.hs p hp
    · have : p = (h, b) := by simpa using hp
      subst this; exact H
  nodup := by
    have hn : h ∉ keys L := by
      intro hm
      rw [isIn_keys] at hi
      rw [List.contains_iff_mem.2 hm] at hi
      cases hi
    unfold keys at *
    rw [List.map_append, List.nodup_append]
    refine ⟨S.nodup, by simp, ?_⟩
    intro a ha c hc
    have : c = h := by simpa using hc
    subst this
    intro e; subst e; exact hn ha
  has := fun k K => by
    unfold isIn
    rw [List.any_append]
    by_cases e : k = h
    · subst e; rw [has_put_same S.tidy.isMap (kl_key H)]; simp
    · rw [has_put_other (fun x => e (kl_inj K H x)), S.has k K]
      unfold isIn
      simp [Ne.symm e]
  at_ := fun k K => by
    rw [verd_app L h k b hi]
    by_cases e : k = h
    · subst e; rw [atKey_put_same S.tidy.isMap (kl_key H), if_pos rfl]
    · rw [atKey_put_other (fun x => e (kl_inj K H x)), if_neg e, S.at_ k K]
  size := by
    rw [size_put S.tidy, S.has h H, hi, if_neg (by decide), S.size]
    simp

/-- The first one is given up. -/
theorem says_less {D : DataW Unit} {p : List Int × Bool} {L : Known} (S : Says D (p :: L)) : Says (D.del (kl p.1)) L where
  tidy := S.tidy.del _
  hs := fun q hq => S.hs q (List.mem_cons_of_mem _ hq)
  nodup := (List.nodup_cons.1 S.nodup).2
  has := fun k K => by
    have P := S.hs p (List.mem_cons_self ..)
    have hn := (List.nodup_cons.1 S.nodup).1
    by_cases e : k = p.1
    · subst e
      rw [has_del_same, isIn_keys]
      cases hc : (keys L).contains p.1 with
      | false => rfl
      | true => exact absurd (List.contains_iff_mem.1 hc) hn
    · rw [has_del_other (fun x => e (kl_inj K P x)), S.has k K]
      unfold isIn
      rw [List.any_cons]
      simp [Ne.symm e]
  at_ := fun k K => by
    have P := S.hs p (List.mem_cons_self ..)
    have hn := (List.nodup_cons.1 S.nodup).1
    by_cases e : k = p.1
    · subst e
      rw [atKey_del_same]
      have : verd L p.1 = false := by
        unfold verd
        have : L.find? (fun q => q.1 == p.1) = none := by
          rw [List.find?_eq_none]
          intro q hq hh
          have : q.1 = p.1 := by simpa using hh
          exact hn (List.mem_map.2 ⟨q, hq, this⟩)
        rw [this]
      rw [this]; rfl
    · rw [atKey_del_other (fun x => e (kl_inj K P x)), S.at_ k K]
      have e2 : verd (p :: L) k = verd L k := by
        unfold verd
        rw [List.find?_cons]
        have : (p.1 == k) = false := by simpa using Ne.symm e
        rw [this]
      rw [e2]
  size := by
    have P := S.hs p (List.mem_cons_self ..)
    have h1 := size_del (k := kl p.1) S.tidy
    rw [S.has p.1 P, S.size] at h1
    have : isIn (p :: L) p.1 = true := by unfold isIn; simp
    rw [this, if_pos rfl, List.length_cons] at h1
    omega
end Go.Proofs.Ytecmhkkjobflcaa.Ver
